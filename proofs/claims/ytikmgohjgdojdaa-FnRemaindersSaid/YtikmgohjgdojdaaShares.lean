/- SharesOf, of the reference and of the program; and the law. -/
import Derived.Test.YtikmgohjgdojdaaKC
import Derived.Test.YtikmgohjgdojdaaKP
import Derived.Test.YtikmgohjgdojdaaKB
namespace Go.Proofs.Ytikmgohjgdojdaa
open Go.RowKit
set_option linter.unusedVariables false
set_option linter.unusedSimpArgs false

theorem ret_sb9 {A : Option Addr} {n c : Nat} {p q : Bool} (h3 : p = q) : Ending.returned (.tuple #[.slice A n c, .bool p]) = .returned (.tuple #[.slice A n c, .bool q]) := by rw [h3]
/-- Each number divided by s. -/
def shL (vs : List Int) (s : Int) : List (Int × Int) := vs.map fun v => (redN v s, redD v s)
theorem shL_len (vs : List Int) (s : Int) : (shL vs s).length = vs.length := by simp [shL]
theorem shL_getD {vs : List Int} {s x : Int} {k : Nat} (h : k < vs.length) (hx : x = vs.getD k 0) : (shL vs s).getD k (0, 0) = (redN x s, redD x s) := by
  have e : vs[k] = x := by rw [hx]; simp [List.getD, h]
  simp [shL, List.getD, h, e]
def shB (vs : List Int) : Bool := partsB vs && within 0 100000 vs && decide (vs.sum ≠ 0)
def shF (vs : List Int) : List (Int × Int) × Bool := if shB vs then (shL vs vs.sum, true) else ([], false)
theorem shF_no {vs : List Int} (h : shB vs = false) : shF vs = ([], false) := by simp [shF, h]
theorem shF_yes {vs : List Int} (h : shB vs = true) : shF vs = (shL vs vs.sum, true) := by simp [shF, h]
theorem share_ok {x s : Int} (h1 : 0 ≤ x) (h2 : x ≤ 100000) (h3 : 0 < s) (h4 : s ≤ 100000000) : red x s = (redN x s, redD x s, true) := by
  have hg := gcd_pos (n := x) (show s ≠ 0 by omega)
  have a := quo_le (g := (Int.gcd x s : Int)) (B := 100000) (n := x) (by omega) (by omega)
  have b := quo_le (g := (Int.gcd x s : Int)) (B := 100000000) (n := s) (by omega) (by omega)
  have hs : ¬ s < 0 := by omega
  apply red_yes <;> simp only [redN, redD, if_neg hs] <;> omega
theorem sum_nonneg {vs : List Int} (h : within 0 100000 vs = true) : 0 ≤ vs.sum := by
  have h1 := within_true.1 h
  have : ∀ k, k ≤ vs.length → 0 ≤ (vs.take k).sum := by
    intro k
    induction k with
    | zero => simp
    | succ k ih =>
      intro hk
      have := ih (by omega)
      rw [take_sum_succ _ _ (by omega)]
      have := (h1 k (by omega)).1
      omega
  have := this vs.length (Nat.le_refl _)
  simpa using this

set_option maxHeartbeats 1600000 in
theorem sharesOf_any {A : Option Addr} {l h n c : Nat} {vs : List Int} {w : World} (ha : Ints w l h A n vs) (hw : within 0 100000 vs = true) (hs : vs.sum ≠ 0) (hn30 : n ≤ 30) :
    Calls Try.prog 84 #[.slice A n c] w fun e w' => ∃ A', e = .returned (.tuple #[.slice A' n n, .bool true]) ∧ FracsM w' w.heap.size w'.heap.size A' n (shL vs vs.sum) ∧ Keeps w w' := by
  have hn := ha.le
  have hl := ha.1
  have hbd := within_bd hw (B := 100000) (by omega) (by omega) (by omega)
  have hsn := sum_nonneg hw
  have hsb := sum_num vs _ hbd (by omega) vs.length 30 (Nat.le_refl _) (by omega)
  rw [List.take_length] at hsb
  have HW := hid (within_true.1 hw)
  have HB := hid (hbd.mono (B' := 10000000000) (by omega))
  obtain ⟨s, HS⟩ : ∃ s, Hid (vs.sum = s) := ⟨_, rfl⟩
  rw [HS.out] at hsn hsb hs
  rw [HS.out]
  have t1 : (s == 0) = false := by rw [beq_eq_false_iff_ne]; exact hs
  have hspos : 0 < s := by omega
  clear hbd hw
  have hmk := make_fracs n hn
  go_enter Try.func84, Try.ntmps84
  go_wp2_with fail
  refine (total_any _ _ _ _ _ _ _ ha HB.out).mono ?_
  rintro e w' ⟨rfl, rfl⟩
  rw [HS.out]
  go_wp2_with fail
  clear hmk
  go_loopw [19] (fun i wr => ∃ k : Nat, k ≤ n ∧ i = .int .i64 k ∧ OwnC wr w.heap.size 43 (frs (padD (0, 0) (shL vs s) k)) ∧ Keeps w wr) (fun i _ => n - (intOf i).toNat)
  case atStart => exact ⟨0, Nat.zero_le _, rfl, by rw [padD_zero, shL_len, hl]; exact OwnC.newF w n, keeps_alloc _ _⟩
  case round =>
    obtain ⟨k, hk, rfl, hown, hkeep⟩ := hrel
    by_cases hlt : k < n
    · obtain ⟨b, off, x, rfl, _, _, hc, hx⟩ := (ha.keeps hkeep).at_ hlt
      have hxb := HW.out k (by omega)
      rw [← hx.out] at hxb
      have HR := hid (share_ok (x := x) (s := s) hxb.1 hxb.2 hspos (by omega))
      have HG := hid (shL_getD (s := s) (show k < vs.length by omega) hx.out)
      go_wp2_with fail
      refine (reduced_any (n := x) (d := s) (by omega) (by omega) (by omega)).mono ?_
      rintro e w1 ⟨rfl, k1⟩
      rw [HR.out]
      obtain ⟨rn, hrn⟩ : ∃ r, r = redN x s := ⟨_, rfl⟩
      obtain ⟨rd, hrd⟩ : ∃ r, r = redD x s := ⟨_, rfl⟩
      rw [← hrn, ← hrd] at HG
      rw [← hrn, ← hrd]
      have HRN := hid hrn
      have HRD := hid hrd
      clear hrn hrd
      have hk1 := hkeep.trans k1
      have hown1 := hown.keeps k1
      have hgl := hown1.lt
      have z1 := hown1.cell (k * 2) (by rw [frs_len, padD_len _ _ _ (by rw [shL_len]; omega), shL_len]; omega)
      have z2 := hown1.cell (k * 2 + 1) (by rw [frs_len, padD_len _ _ _ (by rw [shL_len]; omega), shL_len]; omega)
      generalize (frs (padD (0, 0) (shL vs s) k)).getD (k * 2) undef = u1 at *
      generalize (frs (padD (0, 0) (shL vs s) k)).getD (k * 2 + 1) undef = u2 at *
      have f1 := hown1.frozen (k * 2)
      have f2 := hown1.frozen (k * 2 + 1)
      have hset := OwnC.setF (k := k) hown1 rn rd
      rw [← HG.out, padD_succ _ _ _ (by rw [shL_len]; omega)] at hset
      have H1 := hid (hset.keeps (keeps_alloc _ (.cells #[.int .i64 rn, .int .i64 rd] 43)))
      have H2 := hid (((hk1.setCell (p := ⟨w.heap.size, k * 2, none⟩) (Nat.le_refl _) (.int .i64 rn)).setCell (p := ⟨w.heap.size, k * 2 + 1, none⟩) (Nat.le_refl _) (.int .i64 rd)).alloc (by have := hk1.size; simpa [World.setCell] using this) (.cells #[.int .i64 rn, .int .i64 rd] 43))
      clear hset hown hown1 hkeep hk1 k1
      go_wp2
      go_roundw
      case rel => exact ⟨k + 1, by omega, by go_num, H1.out, H2.out⟩
      case measure => simp [intOf]; omega
    · obtain rfl : k = n := by omega
      have e := padD_all (0, 0) (shL vs s)
      rw [shL_len, hl] at e
      rw [e] at hown
      have HM := hid (hown.slm (n := k) (sz := 2) (by rw [frs_len, shL_len, hl]) hn (Nat.le_refl w.heap.size) hown.lt (Nat.le_refl _))
      clear hown e
      go_wp2
      go_ret2
      exact ⟨_, rfl, HM.out, hkeep⟩
theorem sharesOf_none {A : Option Addr} {l h n c : Nat} {vs : List Int} {w : World} (ha : Ints w l h A n vs) (hb : Bd 10000000000 vs) (hs : vs.sum = 0) :
    Calls Try.prog 84 #[.slice A n c] w fun e w' => e = .returned (.tuple #[.slice none 0 0, .bool false]) ∧ w = w' := by
  have HS := hid hs
  clear hs
  have t1 : ((0 : Int) == 0) = true := by decide
  go_enter Try.func84, Try.ntmps84
  go_wp2_with fail
  refine (total_any _ _ _ _ _ _ _ ha hb).mono ?_
  rintro e w' ⟨rfl, rfl⟩
  rw [HS.out]
  go_wp2_with fail
  go_ret2
  exact ⟨rfl, rfl⟩
set_option maxHeartbeats 1600000 in
theorem impl_SharesOf_any {A : Option Addr} {l h n c : Nat} {vs : List Int} {w : World} (ha : Ints w l h A n vs) :
    Calls Try.prog 37 #[.slice A n c] w fun e w' => ∃ A' m c', e = .returned (.tuple #[.slice A' m c', .bool (shF vs).2]) ∧ FracsM w' w.heap.size w'.heap.size A' m (shF vs).1 ∧ Keeps w w' := by
  have hl := ha.1
  obtain ⟨v1, H1⟩ : ∃ v, Hid (partsB vs = v) := ⟨_, rfl⟩
  obtain ⟨v2, H2⟩ : ∃ v, Hid (within 0 100000 vs = v) := ⟨_, rfl⟩
  cases v1
  · have HF := hid (shF_no (vs := vs) (by simp [shB, H1.out]))
    go_enter Try.func37, Try.ntmps37
    go_wp2_with fail
    refine (areParts_any _ _ _ _ _ _ _ ha).mono ?_
    rintro e w' ⟨rfl, rfl⟩
    rw [H1.out]
    go_wp2_with fail
    go_ret2
    exact ⟨none, 0, 0, ret_sb9 (by rw [HF.out]), by rw [HF.out]; exact SlM.nil_ _ _, keeps_refl _⟩
  cases v2
  · have HF := hid (shF_no (vs := vs) (by simp [shB, H2.out]))
    go_enter Try.func37, Try.ntmps37
    go_wp2_with fail
    refine (areParts_any _ _ _ _ _ _ _ ha).mono ?_
    rintro e w' ⟨rfl, rfl⟩
    rw [H1.out]
    go_wp2_with fail
    refine (areWithin_any _ _ _ _ _ _ _ _ _ ha).mono ?_
    rintro e w' ⟨rfl, rfl⟩
    rw [H2.out]
    go_wp2_with fail
    go_ret2
    exact ⟨none, 0, 0, ret_sb9 (by rw [HF.out]), by rw [HF.out]; exact SlM.nil_ _ _, keeps_refl _⟩
  by_cases hs : vs.sum = 0
  · have HF := hid (shF_no (vs := vs) (by simp [shB, hs]))
    have HS := hid hs
    clear hs
    go_enter Try.func37, Try.ntmps37
    go_wp2_with fail
    refine (areParts_any _ _ _ _ _ _ _ ha).mono ?_
    rintro e w' ⟨rfl, rfl⟩
    rw [H1.out]
    go_wp2_with fail
    refine (areWithin_any _ _ _ _ _ _ _ _ _ ha).mono ?_
    rintro e w' ⟨rfl, rfl⟩
    rw [H2.out]
    go_wp2_with fail
    refine (sharesOf_none ha ((partsB_bd H1.out).mono (by omega)) HS.out).mono ?_
    rintro e w' ⟨rfl, rfl⟩
    go_wp2_with fail
    go_ret2
    exact ⟨none, 0, 0, ret_sb9 (by rw [HF.out]), by rw [HF.out]; exact SlM.nil_ _ _, keeps_refl _⟩
  · have HF := hid (shF_yes (vs := vs) (by simp [shB, H1.out, H2.out, hs]))
    have h30 := (partsB_true.1 H1.out).2.1
    have HS := hid hs
    clear hs
    go_enter Try.func37, Try.ntmps37
    go_wp2_with fail
    refine (areParts_any _ _ _ _ _ _ _ ha).mono ?_
    rintro e w' ⟨rfl, rfl⟩
    rw [H1.out]
    go_wp2_with fail
    refine (areWithin_any _ _ _ _ _ _ _ _ _ ha).mono ?_
    rintro e w' ⟨rfl, rfl⟩
    rw [H2.out]
    go_wp2_with fail
    refine (sharesOf_any ha H2.out HS.out (by omega)).mono ?_
    rintro e w' ⟨A', rfl, hm, hk⟩
    go_wp2_with fail
    go_ret2
    exact ⟨A', _, _, ret_sb9 (by rw [HF.out]), by rw [HF.out]; exact hm, hk⟩
set_option maxHeartbeats 2000000 in
theorem spec_SharesOf_any {A : Option Addr} {l h n c : Nat} {vs : List Int} {w : World} (ha : Ints w l h A n vs) :
    Calls Try.prog 38 #[.slice A n c] w fun e w' => ∃ A' m c', e = .returned (.tuple #[.slice A' m c', .bool (shF vs).2]) ∧ FracsM w' w.heap.size w'.heap.size A' m (shF vs).1 ∧ Keeps w w' := by
  have hl := ha.1
  have hn := ha.le
  obtain ⟨v1, H1⟩ : ∃ v, Hid (partsB vs = v) := ⟨_, rfl⟩
  obtain ⟨v2, H2⟩ : ∃ v, Hid (within 0 100000 vs = v) := ⟨_, rfl⟩
  cases v1
  · have HF := hid (shF_no (vs := vs) (by simp [shB, H1.out]))
    go_enter Try.func38, Try.ntmps38
    go_wp2_with fail
    refine (iList_any _ _ _ _ _ _ _ ha).mono ?_
    rintro e w' ⟨rfl, rfl⟩
    rw [H1.out]
    go_wp2_with fail
    go_ret2
    exact ⟨none, 0, 0, ret_sb9 (by rw [HF.out]), by rw [HF.out]; exact SlM.nil_ _ _, keeps_refl _⟩
  cases v2
  · have HF := hid (shF_no (vs := vs) (by simp [shB, H2.out]))
    go_enter Try.func38, Try.ntmps38
    go_wp2_with fail
    refine (iList_any _ _ _ _ _ _ _ ha).mono ?_
    rintro e w' ⟨rfl, rfl⟩
    rw [H1.out]
    go_wp2_with fail
    refine (l1All_any _ _ _ _ _ _ _ _ _ ha).mono ?_
    rintro e w' ⟨rfl, rfl⟩
    rw [H2.out]
    go_wp2_with fail
    go_ret2
    exact ⟨none, 0, 0, ret_sb9 (by rw [HF.out]), by rw [HF.out]; exact SlM.nil_ _ _, keeps_refl _⟩
  by_cases hs : vs.sum = 0
  · have HF := hid (shF_no (vs := vs) (by simp [shB, hs]))
    have HS := hid hs
    have t1 : ((0 : Int) == 0) = true := by decide
    clear hs
    go_enter Try.func38, Try.ntmps38
    go_wp2_with fail
    refine (iList_any _ _ _ _ _ _ _ ha).mono ?_
    rintro e w' ⟨rfl, rfl⟩
    rw [H1.out]
    go_wp2_with fail
    refine (l1All_any _ _ _ _ _ _ _ _ _ ha).mono ?_
    rintro e w' ⟨rfl, rfl⟩
    rw [H2.out]
    go_wp2_with fail
    refine (tSum_any _ _ _ _ _ _ _ ha ((partsB_bd H1.out).mono (by omega))).mono ?_
    rintro e w' ⟨rfl, rfl⟩
    rw [HS.out]
    go_wp2_with fail
    go_ret2
    exact ⟨none, 0, 0, ret_sb9 (by rw [HF.out]), by rw [HF.out]; exact SlM.nil_ _ _, keeps_refl _⟩
  have HF := hid (shF_yes (vs := vs) (by simp [shB, H1.out, H2.out, hs]))
  have hsn := sum_nonneg H2.out
  have hsb := sum_num vs _ (partsB_bd H1.out) (by omega) vs.length 30 (Nat.le_refl _) (partsB_true.1 H1.out).2.1
  rw [List.take_length] at hsb
  have HW := hid (within_true.1 H2.out)
  obtain ⟨s, HS⟩ : ∃ s, Hid (vs.sum = s) := ⟨_, rfl⟩
  rw [HS.out] at hsn hsb hs HF
  have t1 : (s == 0) = false := by rw [beq_eq_false_iff_ne]; exact hs
  have hspos : 0 < s := by omega
  clear hs
  go_enter Try.func38, Try.ntmps38
  go_wp2_with fail
  refine (iList_any _ _ _ _ _ _ _ ha).mono ?_
  rintro e w' ⟨rfl, rfl⟩
  rw [H1.out]
  go_wp2_with fail
  refine (l1All_any _ _ _ _ _ _ _ _ _ ha).mono ?_
  rintro e w' ⟨rfl, rfl⟩
  rw [H2.out]
  go_wp2_with fail
  refine (tSum_any _ _ _ _ _ _ _ ha ((partsB_bd H1.out).mono (by omega))).mono ?_
  rintro e w' ⟨rfl, rfl⟩
  rw [HS.out]
  go_wp2_with fail
  go_loopw [4, 24] (fun v i wr => ∃ k : Nat, k ≤ n ∧ i = .int .i64 k ∧ Has wr w.heap.size 43 2 v k (frs ((shL vs s).take k)) ∧ Keeps w wr) (fun _ i _ => n - (intOf i).toNat)
  case atStart => exact ⟨0, Nat.zero_le _, rfl, World.ownsRow_nil _ _ _ _, keeps_refl _⟩
  case round =>
    obtain ⟨k, hk, rfl, hown, hkeep⟩ := hrel
    by_cases hlt : k < n
    · obtain ⟨b, off, x, rfl, _, _, hc, hx⟩ := (ha.keeps hkeep).at_ hlt
      have hxb := HW.out k (by omega)
      rw [← hx.out] at hxb
      have HR := hid (share_ok (x := x) (s := s) hxb.1 hxb.2 hspos (by omega))
      have HR2 := hid (mkF_red (n := x) (d := s) (by omega))
      have HT := hid (take_snoc (shL vs s) k (0, 0) (by rw [shL_len]; omega))
      rw [shL_getD (s := s) (show k < vs.length by omega) hx.out] at HT
      go_wp2_with fail
      refine (tSum_any _ _ _ _ _ _ _ (ha.keeps hkeep) ((partsB_bd H1.out).mono (by omega))).mono ?_
      rintro e w' ⟨rfl, rfl⟩
      rw [HS.out]
      go_wp2_with fail
      refine (fMake_any (n := x) (d := s) (by omega) (by omega)).mono ?_
      rintro e w1 ⟨rfl, k1⟩
      rw [HR2.out, HR.out]
      obtain ⟨rn, hrn⟩ : ∃ r, r = redN x s := ⟨_, rfl⟩
      obtain ⟨rd, hrd⟩ : ∃ r, r = redD x s := ⟨_, rfl⟩
      rw [← hrn, ← hrd] at HT
      rw [← hrn, ← hrd]
      clear hrn hrd HR HR2
      have hk1 := (hkeep.trans k1).trans (keeps_alloc w1 (.cells #[.int .i64 rn, .int .i64 rd] 43))
      have hown1 := (hown.below k1).below (keeps_alloc w1 (.cells #[.int .i64 rn, .int .i64 rd] 43))
      clear hown hkeep k1
      go_wp2_with (at_builtin; refine append_frac (xs := (shL vs s).take k) hown1 (by omega) hk1.size _ _ rfl rfl rfl (by simp; rfl) ?_; intro v' w2 hown2 hb2)
      have H1' := hid hown2
      rw [← HT.out] at H1'
      have H2' := hid (Below.trans hk1 hb2)
      clear hown2 hb2 hk1 hown1
      go_wp2
      go_roundw
      case rel => exact ⟨k + 1, by omega, by go_num, H1'.out, H2'.out⟩
      case measure => simp [intOf]; omega
    · obtain rfl : k = n := by omega
      obtain ⟨A', c', rfl⟩ := hown.form
      have HT := hid (List.take_of_length_le (l := shL vs s) (i := k) (by rw [shL_len]; omega))
      rw [HT.out] at hown
      have HM := hid (SlM.of_own hown (by omega) (by omega))
      clear hown
      go_wp2
      go_ret2
      exact ⟨A', _, c', ret_sb9 (by rw [HF.out]), by rw [HF.out]; exact HM.out, hkeep⟩

end Go.Proofs.Ytikmgohjgdojdaa
