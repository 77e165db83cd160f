/- Contracts of the laws' helpers over []int: toIntS, eqIntS, markIntS, heldIntS, szIntS. -/
import Derived.Test.YtkpliolafkdijaaBase
import Derived.Deep.QuietTactic
import Derived.BigQuiet
namespace Go.Proofs.Ytkpliolafkdijaa
open Go.RowKit
set_option linter.unusedVariables false
set_option linter.unusedSimpArgs false

theorem info_int : (Try.prog.info? 3).map (fun i => (i.zero, i.size, i.bytes)) = some (some (.int .i64 0), 1, 8) := by kernel_rfl

theorem run_make_rowN {P : Program} (t e : TypeId) (i : TypeInfo) (z : Value) (ht : P.underlying t = some (.slice e)) (hi : P.info? e = some i) (hz : i.zero = some z)
    (kl kc : IntKind) (n c : Nat) (hnc : n ≤ c) (hbytes : i.bytes * c ≤ 281474976710656) (h63 : c ≤ 9223372036854775807) (w : World) :
    (Instr.makeSlice t (.int kl (n : Int)) (.int kc (c : Int))).run P w = .ok (.slice (some ⟨w.heap.size, 0, none⟩) n c) (w.alloc (.cells (madeCells z.cells (c * i.size)) e)) := by
  have hb : (i.bytes : Int) * (c : Int) ≤ 281474976710656 := by
    have h : ((i.bytes * c : Nat) : Int) ≤ 281474976710656 := by omega
    rwa [Int.natCast_mul] at h
  have hr := run_make (P := P) w t e i z ht hi hz kl kc n c (by omega) (by omega) hb (by omega)
  simp only [Int.toNat_natCast] at hr
  exact hr
theorem make_ints (n : Nat) (hn : n ≤ 67108864) (w : World) :
    (Instr.makeSlice 24 (.int .i64 (n : Int)) (.int .i64 (n : Int))).run Try.prog w = .ok (.slice (some ⟨w.heap.size, 0, none⟩) n n) (w.alloc (.cells (madeCells #[.int .i64 0] n) 3)) := by
  obtain ⟨i, hi, hz0, hz1, hz2⟩ := info_parts info_int
  have h := run_make_rowN (P := Try.prog) 24 3 i _ Try.underlying24 hi hz0 .i64 .i64 n n (Nat.le_refl _) (by rw [hz2]; omega) (by omega) w
  rw [hz1] at h
  simpa [Value.cells] using h

/-- The first k of xs, zeros behind. -/
def padTo (xs : List Int) (k : Nat) : List Int := xs.take k ++ List.replicate (xs.length - k) 0
theorem padTo_len (xs : List Int) (k : Nat) (h : k ≤ xs.length) : (padTo xs k).length = xs.length := by simp [padTo]; omega
theorem padTo_zero (xs : List Int) : padTo xs 0 = List.replicate xs.length 0 := by simp [padTo]
theorem padTo_all (xs : List Int) : padTo xs xs.length = xs := by simp [padTo]
theorem padTo_succ (xs : List Int) (k : Nat) (h : k < xs.length) : (padTo xs k).set k (xs.getD k 0) = padTo xs (k + 1) := by
  apply List.ext_getElem
  · simp [padTo]; omega
  · intro i h1 h2
    simp only [padTo, List.getElem_set, List.getElem_append, List.length_take]
    split
    · subst_vars; simp [List.getD, h]; omega
    · rename_i hne
      by_cases hik : i < k
      · rw [dif_pos (by omega), dif_pos (by omega)]; simp
      · rw [dif_neg (by omega), dif_neg (by omega)]; simp

set_option maxHeartbeats 400000 in
theorem toIntS_any {A : Option Addr} {lo hi n c : Nat} {xs : List Int} {w : World} (h : Ints w lo hi A n xs) :
    Calls Try.prog 33 #[.slice A n c] w fun e w' => ∃ A', e = .returned (.slice A' n n) ∧ Mine w' w.heap.size w'.heap.size A' n xs ∧ Keeps w w' := by
  have hn := h.le
  have hmk := make_ints n hn
  have hl := h.1
  go_enter Try.func33, Try.ntmps33
  go_wp2_with fail
  clear hmk
  go_loopw [4] (fun i wr => ∃ k : Nat, k ≤ n ∧ i = .int .i64 k ∧ Own wr w.heap.size (padTo xs k) ∧ Keeps w wr) (fun i _ => n - (intOf i).toNat)
  case atStart => exact ⟨0, Nat.zero_le _, rfl, by rw [padTo_zero, hl]; exact Own.new w n, (Below.refl _ _).alloc (Nat.le_refl _) _⟩
  case round =>
    obtain ⟨k, hk, rfl, hown, hkeep⟩ := hrel
    by_cases hlt : k < n
    · obtain ⟨b, off, x, rfl, _, hb, hc, hx⟩ := (h.keeps hkeep).at_ hlt
      obtain ⟨y, hc2, -⟩ := hown.at_ k (by rw [padTo_len _ _ (by omega)]; omega)
      have hf := hown.frozen k
      have H1 := hid (hown.set_ k x)
      rw [hx.out, padTo_succ _ _ (by omega), ← hx.out] at H1
      have H2 := hid (hkeep.setCell (p := ⟨w.heap.size, k, none⟩) (Nat.le_refl _) (.int .i64 x))
      clear hown hkeep
      go_wp2
      go_roundw
      case rel => exact ⟨k + 1, by omega, by go_num, H1.out, H2.out⟩
      case measure => simp [intOf]; omega
    · obtain rfl : k = n := by omega
      go_wp2
      go_ret
      rw [← hl, padTo_all] at hown
      exact ⟨_, rfl, hown.mine hl hn (Nat.le_refl _) hown.lt (Nat.le_refl _), hkeep⟩

set_option maxHeartbeats 400000 in
theorem eqIntS_true {A B : Option Addr} {lo hi lo' hi' n n' c c' : Nat} {xs : List Int} {w : World} (ha : Ints w lo hi A n xs) (hb : Ints w lo' hi' B n' xs) :
    Calls Try.prog 19 #[.slice A n c, .slice B n' c'] w fun e w' => e = .returned (.bool true) ∧ Quiet w w' := by
  obtain rfl : n = n' := ha.1.symm.trans hb.1
  have hn := ha.le
  have hl := ha.1
  have hbb : ((n : Int) != n) = false := by simp
  go_enter Try.func19, Try.ntmps19
  go_wp2_with fail
  go_loopw [5] (fun i wr => ∃ k : Nat, k ≤ n ∧ i = .int .i64 k ∧ Quiet w wr) (fun i _ => n - (intOf i).toNat)
  case atStart => exact ⟨0, Nat.zero_le _, rfl, Quiet.refl _⟩
  case round =>
    obtain ⟨k, hk, rfl, hq⟩ := hrel
    by_cases hlt : k < n
    · obtain ⟨b, off, x, rfl, _, _, hc, hx⟩ := (ha.quiet hq).at_ hlt
      obtain ⟨b', off', x', rfl, _, _, hc', hx'⟩ := (hb.quiet hq).at_ hlt
      obtain rfl : x = x' := hx.out.trans hx'.out.symm
      clear hx hx'
      have hi1 : (k : Int) < (n : Int) := by omega
      have hne : (x != x) = false := by simp
      go_wp2_with fail
      go_quiet (fail)
      go_wp2
      go_roundw
      case rel => exact ⟨k + 1, by omega, by go_num, hq.step _⟩
      case measure => simp [intOf]; omega
    · go_wp2
      go_ret
      exact ⟨rfl, hq⟩

def iota (k : Int) (n : Nat) : List Int := (List.range n).map fun (j : Nat) => k + (j : Int)
theorem iota_len (k : Int) (n : Nat) : (iota k n).length = n := by simp [iota]
def marked (k : Int) (xs : List Int) (j : Nat) : List Int := iota k j ++ xs.drop j
theorem marked_len (k : Int) (xs : List Int) (j : Nat) (h : j ≤ xs.length) : (marked k xs j).length = xs.length := by simp [marked, iota]; omega
theorem marked_zero (k : Int) (xs : List Int) : marked k xs 0 = xs := by simp [marked, iota]
theorem marked_all (k : Int) (xs : List Int) : marked k xs xs.length = iota k xs.length := by simp [marked]
theorem marked_succ (k : Int) (xs : List Int) (j : Nat) (h : j < xs.length) : (marked k xs j).set j (k + j) = marked k xs (j + 1) := by
  apply List.ext_getElem
  · simp [marked, iota]; omega
  · intro i h1 h2
    simp only [marked, iota, List.getElem_set, List.getElem_append, List.length_map, List.length_range, List.getElem_map, List.getElem_range, List.getElem_drop]
    split
    · subst_vars; rw [dif_pos (by omega)]
    · rename_i hne
      by_cases hik : i < j
      · rw [dif_pos (by omega), dif_pos (by omega)]
      · rw [dif_neg (by omega), dif_neg (by omega)]; congr 1; omega
theorem iota_getD (k : Int) (n j : Nat) (h : j < n) : (iota k n).getD j 0 = k + j := by simp [iota, List.getD, h]

set_option maxHeartbeats 400000 in
theorem markIntS_any {A : Option Addr} {lo hi n c : Nat} {xs : List Int} {k0 : Int} {w : World} (h : Mine w lo hi A n xs) (h0 : 0 ≤ k0) (h1 : k0 ≤ 1000000000000) :
    Calls Try.prog 22 #[.slice A n c, .int .i64 k0] w fun e w' => e = .returned (.int .i64 (k0 + n)) ∧ Mine w' lo hi A n (iota k0 n) ∧ Fr lo hi w w' := by
  have hn := h.1.le
  have hl := h.1.1
  go_enter Try.func22, Try.ntmps22
  go_wp2_with fail
  go_loopw [1, 5] (fun q i wr => ∃ k : Nat, k ≤ n ∧ i = .int .i64 k ∧ q = .int .i64 (k0 + k) ∧ Mine wr lo hi A n (marked k0 xs k) ∧ Fr lo hi w wr) (fun _ i _ => n - (intOf i).toNat)
  case atStart => exact ⟨0, Nat.zero_le _, rfl, by simp, by rw [marked_zero]; exact h, Fr.refl _ _ _⟩
  case round =>
    obtain ⟨k, hk, rfl, rfl, hm, hf⟩ := hrel
    by_cases hlt : k < n
    · obtain ⟨b, off, x, rfl, hlo, hhi, hc, hx⟩ := hm.1.at_ hlt
      have hfz := hm.2 b off rfl k hlt
      have hs := hm.set_ hlt (k0 + k)
      rw [marked_succ _ _ _ (by omega)] at hs
      have H1 := hid hs
      have H2 := hid hf
      clear hm hs hf
      go_wp2
      go_roundw
      case rel => exact ⟨k + 1, by omega, by go_num, by go_num, H1.out.1, H2.out.trans H1.out.2⟩
      case measure => simp [intOf]; omega
    · obtain rfl : k = n := by omega
      go_wp2
      go_ret
      rw [← hl, marked_all, hl] at hm
      exact ⟨rfl, hm, hf⟩

set_option maxHeartbeats 400000 in
theorem heldIntS_any {A : Option Addr} {lo hi n c : Nat} {k0 : Int} {w : World} (h : Ints w lo hi A n (iota k0 n)) (h0 : 0 ≤ k0) (h1 : k0 ≤ 1000000000000) :
    Calls Try.prog 23 #[.slice A n c, .int .i64 k0] w fun e w' => e = .returned (.int .i64 (k0 + n)) ∧ w = w' := by
  have hn := h.le
  have hl := h.1
  go_enter Try.func23, Try.ntmps23
  go_wp2_with fail
  go_loop [1, 5] (fun q i => ∃ k : Nat, k ≤ n ∧ i = .int .i64 k ∧ q = .int .i64 (k0 + k)) (fun _ i => n - (intOf i).toNat)
  case atStart => exact ⟨0, Nat.zero_le _, rfl, by simp⟩
  case round =>
    obtain ⟨k, hk, rfl, rfl⟩ := hrel
    by_cases hlt : k < n
    · obtain ⟨b, off, x, rfl, hlo, hhi, hc, hx⟩ := h.at_ hlt
      obtain rfl : x = k0 + k := by rw [hx.out, iota_getD _ _ _ hlt]
      clear hx
      have hne : ((k0 + k : Int) != k0 + k) = false := by simp
      go_wp2
      go_round
      case rel => exact ⟨k + 1, by omega, by go_num, by go_num⟩
      case measure => simp [intOf]; omega
    · obtain rfl : k = n := by omega
      go_wp2
      go_ret
      exact ⟨rfl, rfl⟩
end Go.Proofs.Ytkpliolafkdijaa
