/- The laws' helpers on slices of slices of fractions and on mechanisms. -/
import Derived.Test.YtkpliolafkdijaaFrows
namespace Go.Proofs.Ytkpliolafkdijaa
open Go.RowKit
set_option linter.unusedVariables false
set_option linter.unusedSimpArgs false

section
variable {w w1 : World} {lo hi n b off k : Nat} {L U : Nat → Nat} {ll ll' : List (List QQ)}
/-- Row k is written anew. -/
theorem RMc.upd {A' : Option Addr} {m c : Nat} {r : List QQ} (h : RMc w lo hi b off n L U ll) (hk : k < n) (hc : w.cell? ⟨b, off + k, none⟩ = some (.slice A' m c)) (f : Fr (L k) (U k) w w1) (hm : FracsM w1 (L k) (U k) A' m r)
    (hl : ll'.length = n) (he : ∀ j, j < n → j ≠ k → ll'.getD j [] = ll.getD j []) (hr : ll'.getD k [] = r) : RMc w1 lo hi b off n L U ll' := by
  obtain ⟨h1, h2, h3, h4, h5, h6, h7, h8⟩ := h
  refine ⟨hl, h2, Nat.le_trans h3 f.size, h4, h5, h6, h7, fun j hj => ?_⟩
  have hkk := h6 k hk
  by_cases hjk : j = k
  · subst hjk
    exact ⟨A', m, c, cell_fr hc f (by show b < _ ∨ _ ≤ b; omega), by rw [hr]; exact hm⟩
  · obtain ⟨A1, m1, c1, e1, e2⟩ := h8 j hj
    refine ⟨A1, m1, c1, cell_fr e1 f (by show b < _ ∨ _ ≤ b; omega), ?_⟩
    rw [he j hj hjk]
    refine SlM.fr e2 f ?_
    rcases Nat.lt_or_gt_of_ne hjk with h | h
    · have := h7 j k h hk; omega
    · have := h7 k j h hj; omega
end
/-- The first k rows marked. -/
def mkSS (k0 : Int) (ll : List (List QQ)) (k : Nat) : List (List QQ) := (List.range ll.length).map fun j => if j < k then pio (k0 + 2 * (rowSum ll j : Int)) (ll.getD j []).length else ll.getD j []
def pioSS (k0 : Int) (ll : List (List QQ)) : List (List QQ) := mkSS k0 ll ll.length
theorem mkSS_len (k0 : Int) (ll : List (List QQ)) (k : Nat) : (mkSS k0 ll k).length = ll.length := by simp [mkSS]
theorem mkSS_at (k0 : Int) (ll : List (List QQ)) (k j : Nat) (h : j < ll.length) : (mkSS k0 ll k).getD j [] = if j < k then pio (k0 + 2 * (rowSum ll j : Int)) (ll.getD j []).length else ll.getD j [] := by
  unfold mkSS; rw [getD_map_range, if_pos h]
theorem mkSS_zero (k0 : Int) (ll : List (List QQ)) : mkSS k0 ll 0 = ll := by
  apply List.ext_getElem
  · simp [mkSS]
  · intro i h1 h2; simp [mkSS, List.getD, h2]
theorem pio_len (k : Int) (n : Nat) : (pio k n).length = n := by simp [pio]
theorem rowSum_congr {l l' : List (List QQ)} (h : ∀ j, (l.getD j []).length = (l'.getD j []).length) (k : Nat) : rowSum l k = rowSum l' k := by
  induction k with
  | zero => rfl
  | succ k ih => rw [rowSum_succ, rowSum_succ, ih, h k]

/-- The first k rows are copied into block g. -/
def Filled (w : World) (g n : Nat) (ll : List (List QQ)) (k : Nat) : Prop :=
  ∃ (cs : List Value) (L U : Nat → Nat), OwnC w g 27 cs ∧ cs.length = n ∧ (∀ j, j < k → g < L j ∧ U j ≤ w.heap.size) ∧ (∀ i j, i < j → j < k → U i ≤ L j) ∧
    ∀ j, j < k → ∃ A' m, cs.getD j undef = .slice A' m m ∧ FracsM w (L j) (U j) A' m (ll.getD j [])
theorem Filled.step {w w1 : World} {g n k m : Nat} {B : Option Addr} {ll : List (List QQ)} (h : Filled w g n ll k) (hk : k < n) (k1 : Keeps w w1) (y : FracsM w1 w.heap.size w1.heap.size B m (ll.getD k [])) :
    Filled (w1.setCell ⟨g, k, none⟩ (.slice B m m)) g n ll (k + 1) := by
  obtain ⟨cs, L, U, ho, hl, h1, h2, h3⟩ := h
  have hg := ho.lt
  have ho1 := (ho.keeps k1).set_ k (.slice B m m)
  have fr1 : Fr g (g + 1) w1 (w1.setCell ⟨g, k, none⟩ (.slice B m m)) := (Fr.refl g (g + 1) w1).setCell (p := ⟨g, k, none⟩) (Nat.le_refl _) (Nat.lt_succ_self _) _
  have hs := k1.size
  have es : (w1.setCell ⟨g, k, none⟩ (.slice B m m)).heap.size = w1.heap.size := by simp [World.setCell]
  refine ⟨cs.set k (.slice B m m), fun j => if j = k then w.heap.size else L j, fun j => if j = k then w1.heap.size else U j, ho1, by simpa using hl, fun j hj => ?_, fun i j hij hj => ?_, fun j hj => ?_⟩
  · dsimp only
    rw [es]
    split
    · exact ⟨hg, Nat.le_refl _⟩
    · have := h1 j (by omega); omega
  · dsimp only
    rw [if_neg (show ¬ i = k by omega)]
    split
    · have := (h1 i (by omega)).2; omega
    · exact h2 i j hij (by omega)
  · dsimp only
    by_cases hjk : j = k
    · subst hjk
      rw [if_pos rfl, if_pos rfl]
      exact ⟨B, m, by simp [List.getD, hl, hk], SlM.fr y fr1 (by omega)⟩
    · rw [if_neg hjk, if_neg hjk]
      obtain ⟨A', m', e1, e2⟩ := h3 j (by omega)
      have := h1 j (by omega)
      exact ⟨A', m', by rw [← e1]; simp [List.getD, List.getElem?_set_ne (Ne.symm hjk)], SlM.fr (SlM.keeps e2 k1) fr1 (by omega)⟩
theorem Filled.rm {w w0 : World} {g n : Nat} {ll : List (List QQ)} (h : Filled w g n ll n) (hl : ll.length = n) (hn : n ≤ 67108864) : RM w g w.heap.size (some ⟨g, 0, none⟩) n ll := by
  obtain ⟨cs, L, U, ho, hc, h1, h2, h3⟩ := h
  have hg := ho.lt
  refine RMc.rm (L := L) (U := U) ⟨hl, hn, Nat.le_refl _, Nat.le_refl _, hg, fun j hj => ?_, h2, fun j hj => ?_⟩
  · have := h1 j hj; omega
  · obtain ⟨A', m, e1, e2⟩ := h3 j hj
    exact ⟨A', m, m, by rw [Nat.zero_add, ho.cell j (by omega), e1], e2⟩
theorem Filled.own {w : World} {g n k : Nat} {ll : List (List QQ)} (h : Filled w g n ll k) (hk : k < n) : (∃ v, w.cell? ⟨g, k, none⟩ = some v) ∧ w.frozen? ⟨g, k, none⟩ = false ∧ g < w.heap.size := by
  obtain ⟨cs, L, U, ho, hc, _⟩ := h
  exact ⟨⟨_, ho.cell k (by omega)⟩, ho.frozen k, ho.lt⟩
theorem Filled.lt {w : World} {g n k : Nat} {ll : List (List QQ)} (h : Filled w g n ll k) : g < w.heap.size := by
  obtain ⟨cs, L, U, ho, _⟩ := h; exact ho.lt
theorem info_fslice : (Try.prog.info? 27).map (fun i => (i.zero, i.size, i.bytes)) = some (some (.slice none 0 0), 1, 24) := by kernel_rfl
theorem make_frows (n : Nat) (hn : n ≤ 67108864) (w : World) :
    (Instr.makeSlice 36 (.int .i64 (n : Int)) (.int .i64 (n : Int))).run Try.prog w = .ok (.slice (some ⟨w.heap.size, 0, none⟩) n n) (w.alloc (.cells (madeCells #[.slice none 0 0] n) 27)) := by
  obtain ⟨i, hi, hz0, hz1, hz2⟩ := info_parts info_fslice
  have h := run_make_rowN (P := Try.prog) 36 27 i _ Try.underlying36 hi hz0 .i64 .i64 n n (Nat.le_refl _) (by rw [hz2]; omega) (by omega) w
  rw [hz1] at h
  simpa [Value.cells] using h
theorem Filled.new (w : World) (n : Nat) (ll : List (List QQ)) : Filled (w.alloc (.cells (madeCells #[.slice none 0 0] n) 27)) w.heap.size n ll 0 :=
  ⟨(madeCells #[.slice none 0 0] n).toList, fun _ => 0, fun _ => 0, by unfold OwnC; rw [heap_alloc_new], by simp [size_madeCells], fun j hj => absurd hj (by omega), fun i j h hj => absurd hj (by omega), fun j hj => absurd hj (by omega)⟩
set_option maxHeartbeats 1600000 in
theorem eqFracSS_true {A B : Option Addr} {lo hi lo' hi' n n' c c' : Nat} {ll : List (List QQ)} {w : World} (ha : FRows w lo hi A n ll) (hb : FRows w lo' hi' B n' ll) :
    Calls Try.prog 109 #[.slice A n c, .slice B n' c'] w fun e w' => e = .returned (.bool true) ∧ Keeps w w' := by
  obtain rfl : n = n' := ha.len.symm.trans hb.len
  have hn := ha.le
  have hbb : ((n : Int) != n) = false := by simp
  go_enter Try.func109, Try.ntmps109
  go_wp2_with fail
  go_loopw [5] (fun i wr => ∃ k : Nat, k ≤ n ∧ i = .int .i64 k ∧ Keeps w wr) (fun i _ => n - (intOf i).toNat)
  case atStart => exact ⟨0, Nat.zero_le _, rfl, keeps_refl _⟩
  case round =>
    obtain ⟨k, hk, rfl, hq⟩ := hrel
    by_cases hlt : k < n
    · obtain ⟨b, off, A', m, c1, rfl, _, _, hc, hr⟩ := (ha.keeps hq).at_ hlt
      obtain ⟨b', off', A'', m', c1', rfl, _, _, hc', hr'⟩ := (hb.keeps hq).at_ hlt
      have hi1 : (k : Int) < (n : Int) := by omega
      go_wp2_with fail
      have kS := hid (show ∀ w', Keeps wr w' → (w'.cell? ⟨b, off + k, none⟩ = some (.slice A' m c1) ∧ w'.cell? ⟨b', off' + k, none⟩ = some (.slice A'' m' c1')) from fun w' k => ⟨cell_keeps hc k, cell_keeps hc' k⟩)
      go_region_held3 (fun w' => w'.cell? ⟨b, off + k, none⟩ = some (.slice A' m c1) ∧ w'.cell? ⟨b', off' + k, none⟩ = some (.slice A'' m' c1')) (first | with_reducible exact kS.out _ (keeps_d0 wr) | with_reducible exact kS.out _ kW | go_keep)
        ((first | (go_at_call 20; refine (eqFracS_true (Sl.keeps hr (keeps_d0 wr)) (Sl.keeps hr' (keeps_d0 wr))).mono ?_; rintro e wB ⟨rfl, kB⟩; have kW : Keeps wr wB := keeps_d kB; clear kB)))
      clear kS
      have HK := hid (hq.trans kW)
      clear kW
      go_wp2_with fail
      go_roundw
      case rel => exact ⟨k + 1, by omega, by go_num, HK.out⟩
      case measure => simp [intOf]; omega
    · go_wp2
      go_ret
      exact ⟨rfl, hq⟩
theorem eqMechanism_true {A B : Option Addr} {lo hi lo' hi' n n' c c' : Nat} {ll : List (List QQ)} {w : World} (ha : FRows w lo hi A n ll) (hb : FRows w lo' hi' B n' ll) :
    Calls Try.prog 27 #[.agg #[.slice A n c], .agg #[.slice B n' c']] w fun e w' => e = .returned (.bool true) ∧ Keeps w w' := by
  have HK := hid (Keeps.trans (keeps_alloc w (.cells #[.slice A n c] 38)) (keeps_alloc _ (.cells #[.slice B n' c'] 38)))
  go_enter Try.func27, Try.ntmps27
  go_wp2_with fail
  refine (eqFracSS_true (ha.keeps HK.out) (hb.keeps HK.out)).mono ?_
  rintro e w1 ⟨rfl, k1⟩
  go_wp2_with fail
  go_ret
  exact ⟨rfl, HK.out.trans k1⟩
set_option maxHeartbeats 1600000 in
theorem markFracSS_any {A : Option Addr} {lo hi n c : Nat} {ll : List (List QQ)} {k0 : Int} {w : World} (h : RM w lo hi A n ll) (h0 : 0 ≤ k0) (h1 : k0 ≤ 100000000000) (h2 : rowSum ll n ≤ 67108864) :
    Calls Try.prog 110 #[.slice A n c, .int .i64 k0] w fun e w' => e = .returned (.int .i64 (k0 + 2 * rowSum ll n)) ∧ RM w' lo hi A n (pioSS k0 ll) ∧ Fr lo hi w w' := by
  have hn := h.1.le
  have hl := h.1.len
  by_cases hz : n = 0
  · subst hz
    obtain rfl : ll = [] := List.eq_nil_of_length_eq_zero hl
    go_enter Try.func110, Try.ntmps110
    go_wp2_with fail
    go_loopw [1, 5] (fun q i wr => i = .int .i64 0 ∧ q = .int .i64 k0 ∧ wr = w) (fun _ i _ => 0)
    case atStart => exact ⟨rfl, rfl, rfl⟩
    case round =>
      obtain ⟨rfl, rfl, rfl⟩ := hrel
      go_wp2
      go_ret
      exact ⟨ret_int (by simp [rowSum]), h, Fr.refl _ _ _⟩
  obtain ⟨b, off, L, U, rfl, hc⟩ := h.2 (by omega)
  clear h
  have hz' := hid hz
  clear hz
  go_enter Try.func110, Try.ntmps110
  go_wp2_with fail
  go_loopw [1, 5] (fun q i wr => ∃ k : Nat, k ≤ n ∧ i = .int .i64 k ∧ q = .int .i64 (k0 + 2 * rowSum ll k) ∧ RMc wr lo hi b off n L U (mkSS k0 ll k) ∧ Fr lo hi w wr) (fun _ i _ => n - (intOf i).toNat)
  case atStart => exact ⟨0, Nat.zero_le _, rfl, by simp [rowSum], by rw [mkSS_zero]; exact hc, Fr.refl _ _ _⟩
  case round =>
    obtain ⟨k, hk, rfl, rfl, hm, hf⟩ := hrel
    by_cases hlt : k < n
    · obtain ⟨g1, g2, g3, g4, g5, g6, g7, g8⟩ := id hm
      obtain ⟨A', m, c', hcc, hr⟩ := g8 k hlt
      rw [mkSS_at _ _ _ _ (by omega), if_neg (by omega)] at hr
      have hml := Fracs.len hr.1
      have r1 := rowSum_mono ll (show k + 1 ≤ n by omega)
      rw [rowSum_succ] at r1
      have HS := hid (rowSum_succ ll k)
      rw [hml] at r1 HS
      have hi1 : (k : Int) < (n : Int) := by omega
      have hgk := g6 k hlt
      have HML := hid hml
      clear g1 g2 g3 g8 hml
      go_wp2_with fail
      refine (markFracS_any hr (by omega) (by omega)).mono ?_
      rintro e w1 ⟨rfl, mk1, f1⟩
      have H1 := hid (hm.upd (ll' := mkSS k0 ll (k + 1)) hlt hcc f1 mk1 (by rw [mkSS_len, hl]) (fun j hj hne => by rw [mkSS_at _ _ _ _ (by omega), mkSS_at _ _ _ _ (by omega)]; by_cases hjk : j < k <;> simp [hjk, show j < k + 1 ↔ j < k by omega]) (by rw [mkSS_at _ _ _ _ (by omega), if_pos (by omega), HML.out]))
      have H2 := hid (hf.trans (f1.widen (lo' := lo) (hi' := hi) (by omega) (by omega)))
      clear hm hf f1 mk1 hr hcc g4 g5 g6 g7
      go_wp2_with fail
      go_roundw
      case rel => exact ⟨k + 1, by omega, by go_num, by rw [HS.out]; go_num, H1.out, H2.out⟩
      case measure => simp [intOf]; omega
    · obtain rfl : k = n := by omega
      go_wp2
      go_ret
      exact ⟨rfl, by unfold pioSS; rw [hl]; exact hm.rm, hf⟩
theorem markMechanism_any {A : Option Addr} {lo hi n c : Nat} {ll : List (List QQ)} {k0 : Int} {w : World} (h : RM w lo hi A n ll) (h0 : 0 ≤ k0) (h1 : k0 ≤ 100000000000) (h2 : rowSum ll n ≤ 67108864) :
    Calls Try.prog 28 #[.agg #[.slice A n c], .int .i64 k0] w fun e w' => e = .returned (.int .i64 (k0 + 2 * rowSum ll n)) ∧ RM w' lo hi A n (pioSS k0 ll) ∧ Fr lo hi w w' := by
  have K := keeps_alloc w (.cells #[.slice A n c] 38)
  have ht := h.1.top
  go_enter Try.func28, Try.ntmps28
  go_wp2_with fail
  refine (markFracSS_any (h.keeps K) h0 h1 h2).mono ?_
  rintro e w1 ⟨rfl, m1, f1⟩
  have F := hid ((Fr.of_keeps K lo hi).trans f1)
  clear f1
  go_wp2_with fail
  go_ret
  exact ⟨rfl, m1, F.out⟩
set_option maxHeartbeats 1600000 in
theorem heldFracSS_any {A : Option Addr} {lo hi n c : Nat} {ll : List (List QQ)} {k0 : Int} {w : World} (h : FRows w lo hi A n (pioSS k0 ll)) (h0 : 0 ≤ k0) (h1 : k0 ≤ 100000000000) (h2 : rowSum ll n ≤ 67108864) :
    Calls Try.prog 111 #[.slice A n c, .int .i64 k0] w fun e w' => e = .returned (.int .i64 (k0 + 2 * rowSum ll n)) ∧ w = w' := by
  have hn := h.le
  have hl : ll.length = n := by have := h.len; unfold pioSS at this; rwa [mkSS_len] at this
  go_enter Try.func111, Try.ntmps111
  go_wp2_with fail
  go_loop [1, 5] (fun q i => ∃ k : Nat, k ≤ n ∧ i = .int .i64 k ∧ q = .int .i64 (k0 + 2 * rowSum ll k)) (fun _ i => n - (intOf i).toNat)
  case atStart => exact ⟨0, Nat.zero_le _, rfl, by simp [rowSum]⟩
  case round =>
    obtain ⟨k, hk, rfl, rfl⟩ := hrel
    by_cases hlt : k < n
    · obtain ⟨b, off, A', m, c', rfl, _, _, hcc, hr⟩ := h.at_ hlt
      unfold pioSS at hr
      rw [mkSS_at _ _ _ _ (by omega), if_pos (by omega)] at hr
      have hml : (ll.getD k []).length = m := by have := Fracs.len hr; rwa [pio_len] at this
      rw [hml] at hr
      have r1 := rowSum_mono ll (show k + 1 ≤ n by omega)
      rw [rowSum_succ] at r1
      have HS := hid (rowSum_succ ll k)
      rw [hml] at r1 HS
      clear hml
      have hi1 : (k : Int) < (n : Int) := by omega
      go_wp2_with fail
      refine (heldFracS_any hr (by omega) (by omega)).mono ?_
      rintro e w1 ⟨rfl, rfl⟩
      have g1 : ¬ (k0 + 2 * (rowSum ll k : Int) + 2 * (m : Int) < 0) := by omega
      go_wp2_with fail
      go_round
      case rel => exact ⟨k + 1, by omega, by go_num, by rw [HS.out]; go_num⟩
      case measure => simp [intOf]; omega
    · obtain rfl : k = n := by omega
      go_wp2
      go_ret
      exact ⟨rfl, rfl⟩
theorem heldMechanism_any {A : Option Addr} {lo hi n c : Nat} {ll : List (List QQ)} {k0 : Int} {w : World} (h : FRows w lo hi A n (pioSS k0 ll)) (h0 : 0 ≤ k0) (h1 : k0 ≤ 100000000000) (h2 : rowSum ll n ≤ 67108864) :
    Calls Try.prog 29 #[.agg #[.slice A n c], .int .i64 k0] w fun e w' => e = .returned (.int .i64 (k0 + 2 * rowSum ll n)) ∧ Keeps w w' := by
  have g1 : ¬ (k0 + 2 * (rowSum ll n : Int) < 0) := by omega
  go_enter Try.func29, Try.ntmps29
  go_wp2_with fail
  refine (heldFracSS_any (h.keeps (keeps_alloc w (.cells #[.slice A n c] 38))) h0 h1 h2).mono ?_
  rintro e w1 ⟨rfl, rfl⟩
  go_wp2_with fail
  go_ret
  exact ⟨rfl, keeps_alloc _ _⟩
end Go.Proofs.Ytkpliolafkdijaa
