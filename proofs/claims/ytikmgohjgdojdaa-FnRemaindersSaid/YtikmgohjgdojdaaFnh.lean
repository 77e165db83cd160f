/- Small helpers of the laws: lists compared, a size asked. -/
import Derived.Test.YtikmgohjgdojdaaKF
namespace Go.Proofs.Ytikmgohjgdojdaa
open Go.ChangeShapes Go.WideShapes Go.ChangeAt Go.RowKit
set_option linter.unusedVariables false
set_option linter.unusedSimpArgs false

/-- A slice of bytes that came in. -/
def BytesArg (w : World) (A : Option Addr) (n : Nat) : Prop := Bytes w w.heap.size A n
section
variable {H : Type} {enc : TypeId × Value → H} {w : World} {held : Bool}
set_option maxRecDepth 100000 in
theorem open_arg_bytes {r : Reach} {b0 : Nat} {v : Value} {d : DataW H} {p : List MemPlace} (hv : Value.okWide Try.prog w r b0 70 v) (h : DataW.Trod enc Try.prog w 0 (fun _ => true) held 70 v d p) :
    ∃ A n c, v = .slice A n c ∧ BytesArg w A n := by
  obtain ⟨A, n, c, rfl⟩ := okWide_slice Try.underlying70 hv
  obtain ⟨fuel, h⟩ := h
  refine ⟨A, n, c, rfl, ?_⟩
  rcases open_ints Try.underlying70 Try.underlying5 (by kernel_rfl) h with ⟨hcs, _⟩ | ⟨a, l, c', zs, hcs, _, hl, hm, hz, _, hcell, hwz⟩
  · simp [Value.cells] at hcs
    obtain ⟨rfl, rfl, rfl⟩ := hcs
    exact ⟨by omega, Nat.le_refl _, fun h0 => absurd h0 (by omega)⟩
  · simp [Value.cells] at hcs
    obtain ⟨rfl, rfl, rfl⟩ := hcs
    have hzl : n ≤ zs.length := by simp at hz; omega
    refine ⟨by unfold maxLen at hm; omega, Nat.le_refl _, fun h0 => ?_⟩
    obtain ⟨b, off, spot⟩ := a
    have hc0 := hcell 0 (by omega)
    have hsp : spot = none := by simpa [Addr.add] using World.cell?_spot hc0
    subst hsp
    refine ⟨b, off, rfl, ?_, fun j hj => ?_⟩
    · rcases Nat.lt_or_ge b w.heap.size with h1 | h1
      · exact h1
      · simp [World.cell?, Addr.add, Array.getElem?_eq_none h1] at hc0
    · have := hcell j (by omega)
      rw [Addr.add_lit] at this
      have hmem : zs.getD j 0 ∈ zs := by
        have hj2 : j < zs.length := by omega
        simp only [List.getD, List.getElem?_eq_getElem hj2, Option.getD_some]
        exact List.getElem_mem hj2
      have hb := bounds_u8 (hwz _ hmem)
      exact ⟨_, hb.1, hb.2, this⟩
end
set_option maxHeartbeats 400000 in
theorem pSum_any (A : Option Addr) (l h n c : Nat) (xs : List Int) (w : World) (ha : Ints w l h A n xs) (hb : Bd 10000000000 xs) :
    Calls Try.prog 35 #[.slice A n c] w fun e w' => e = .returned (.int .i64 xs.sum) ∧ w = w' := by
  have hn := ha.le
  have hl := ha.1
  have HB := hid hb
  clear hb
  go_enter Try.func35, Try.ntmps35
  go_wp2_with fail
  go_loop [3, 8] (fun s i => ∃ k : Nat, k ≤ n ∧ i = .int .i64 k ∧ s = .int .i64 (xs.take k).sum) (fun _ i => n - (intOf i).toNat)
  case atStart => exact ⟨0, Nat.zero_le _, rfl, by simp⟩
  case round =>
    obtain ⟨k, hk, rfl, rfl⟩ := hrel
    by_cases hlt : k < n
    · obtain ⟨b, off, x, rfl, _, _, hc, hx⟩ := ha.at_ hlt
      have h1 := sum_num xs _ HB.out (by omega) k 67108864 (by omega) (by omega)
      have h2 := HB.out k
      rw [← hx.out] at h2
      have HS := hid (take_sum_succ xs k (by omega))
      rw [← hx.out] at HS
      generalize (xs.take k).sum = s at *
      go_wp2
      go_round
      case rel => exact ⟨k + 1, by omega, by go_num, by rw [HS.out]⟩
      case measure => simp [intOf]; omega
    · obtain rfl : k = n := by omega
      have HS := hid (List.take_of_length_le (l := xs) (i := k) (by omega))
      go_wp2
      go_ret
      exact ⟨ret_int (by rw [HS.out]), rfl⟩
set_option maxHeartbeats 400000 in
theorem sameInts_true {A B : Option Addr} {lo hi lo' hi' n n' c c' : Nat} {xs : List Int} {w : World} (ha : Ints w lo hi A n xs) (hb : Ints w lo' hi' B n' xs) :
    Calls Try.prog 34 #[.slice A n c, .slice B n' c'] w fun e w' => e = .returned (.bool true) ∧ Quiet w w' := by
  obtain rfl : n = n' := ha.1.symm.trans hb.1
  have hn := ha.le
  have hl := ha.1
  have hbb : ((n : Int) != n) = false := by simp
  go_enter Try.func34, Try.ntmps34
  go_wp2_with fail
  go_loopw [13] (fun i wr => ∃ k : Nat, k ≤ n ∧ i = .int .i64 k ∧ Quiet w wr) (fun i _ => n - (intOf i).toNat)
  case atStart => exact ⟨0, Nat.zero_le _, rfl, Quiet.refl _⟩
  case round =>
    obtain ⟨k, hk, rfl, hq⟩ := hrel
    by_cases hlt : k < n
    · obtain ⟨b, off, x, rfl, _, _, hc, hx⟩ := (ha.quiet hq).at_ hlt
      obtain ⟨b', off', x', rfl, _, _, hc', hx'⟩ := (hb.quiet hq).at_ hlt
      obtain rfl : x = x' := hx.out.trans hx'.out.symm
      clear hx hx'
      have hi1 : (k : Int) < (n : Int) := by omega
      have hne : (x != x) = false := by simp
      go_wp2_with fail
      go_quiet (fail)
      go_wp2
      go_roundw
      case rel => exact ⟨k + 1, by omega, by go_num, hq.step _⟩
      case measure => simp [intOf]; omega
    · go_wp2
      go_ret
      exact ⟨rfl, hq⟩
def AnyBool (w : World) (e : Ending) (w' : World) : Prop := ∃ b, e = .returned (.bool b) ∧ w = w'
theorem big_any {A B : Option Addr} {n c n' c' : Nat} {w : World} (h1 : n ≤ 9223372036854775807) (h2 : n' ≤ 9223372036854775807) :
    Calls Try.prog 32 #[.slice A n c, .slice B n' c'] w (AnyBool w) := by
  by_cases h : 1048576 < n
  · have g : (1048576 : Int) < (n : Int) := by omega
    go_enter Try.func32, Try.ntmps32
    go_wp2
    go_ret
    exact ⟨_, rfl, rfl⟩
  · have g : ¬ (1048576 : Int) < (n : Int) := by omega
    have g2 : (n : Int) ≤ 1048576 := by omega
    go_enter Try.func32, Try.ntmps32
    go_wp2
    go_ret
    exact ⟨_, rfl, rfl⟩
end Go.Proofs.Ytikmgohjgdojdaa
