/- PossibleTotals and RaiseToBounds, of the reference and of the program; and the laws. -/
import Derived.Test.YtdfpgohfnabflaaBounds
import Derived.Test.YtdfpgohfnabflaaOpen
namespace Go.Proofs.Ytdfpgohfnabflaa
open Go.RowKit
set_option linter.unusedVariables false
set_option linter.unusedSimpArgs false

theorem ret3_iib {a b c d : Int} {p q : Bool} (h1 : a = c) (h2 : b = d) (h3 : p = q) : Ending.returned (.tuple #[.int .i64 a, .int .i64 b, .bool p]) = .returned (.tuple #[.int .i64 c, .int .i64 d, .bool q]) := by rw [h1, h2, h3]
def ptF (lo hi : List Int) : Int × Int × Bool := if limitsB lo hi then (lo.sum, hi.sum, true) else (0, 0, false)
theorem ptF_no {lo hi : List Int} (h : limitsB lo hi = false) : ptF lo hi = (0, 0, false) := by simp [ptF, h]
theorem ptF_yes {lo hi : List Int} (h : limitsB lo hi = true) : ptF lo hi = (lo.sum, hi.sum, true) := by simp [ptF, h]
set_option maxHeartbeats 400000 in
theorem spec_PossibleTotals_any {A A' : Option Addr} {l h l' h' n n' c c' : Nat} {lo hi : List Int} {w : World} (ha : Ints w l h A n lo) (hb : Ints w l' h' A' n' hi) :
    Calls Try.prog 19 #[.slice A n c, .slice A' n' c'] w fun e w' => e = .returned (.tuple #[.int .i64 (ptF lo hi).1, .int .i64 (ptF lo hi).2.1, .bool (ptF lo hi).2.2]) ∧ Quiet w w' := by
  have hn := ha.le
  have hn' := hb.le
  cases h1 : limitsB lo hi with
  | false =>
    have HF := hid (ptF_no h1)
    have H1 := hid h1
    clear h1
    go_enter Try.func19, Try.ntmps19
    go_wp2_with fail
    refine (iBounds_any _ _ _ _ _ _ _ _ _ _ _ _ _ _ _ _ _ _ _ ha ha hb).mono ?_
    rintro e w' ⟨rfl, hq⟩
    rw [boundedB_same, H1.out]
    go_wp2_with fail
    go_ret3
    exact ⟨by rw [HF.out]; rfl, hq⟩
  | true =>
    have b1 := hid ((partsB_bd (limitsB_true.1 h1).1).mono (B' := 10000000000) (by omega))
    have b2 := hid ((partsB_bd (limitsB_true.1 h1).2.1).mono (B' := 10000000000) (by omega))
    have HF := hid (ptF_yes h1)
    have H1 := hid h1
    clear h1
    go_enter Try.func19, Try.ntmps19
    go_wp2_with fail
    refine (iBounds_any _ _ _ _ _ _ _ _ _ _ _ _ _ _ _ _ _ _ _ ha ha hb).mono ?_
    rintro e w' ⟨rfl, hq⟩
    rw [boundedB_same, H1.out]
    go_wp2_with fail
    refine (tSum_any _ _ _ _ _ _ _ (ha.quiet hq) b1.out).mono ?_
    rintro e w1 ⟨rfl, rfl⟩
    go_wp2_with fail
    refine (tSum_any _ _ _ _ _ _ _ (hb.quiet hq) b2.out).mono ?_
    rintro e w1 ⟨rfl, rfl⟩
    go_wp2_with fail
    go_ret3
    exact ⟨by rw [HF.out]; rfl, hq⟩
set_option maxHeartbeats 400000 in
theorem impl_PossibleTotals_any {A A' : Option Addr} {l h l' h' n n' c c' : Nat} {lo hi : List Int} {w : World} (ha : Ints w l h A n lo) (hb : Ints w l' h' A' n' hi) :
    Calls Try.prog 20 #[.slice A n c, .slice A' n' c'] w fun e w' => e = .returned (.tuple #[.int .i64 (ptF lo hi).1, .int .i64 (ptF lo hi).2.1, .bool (ptF lo hi).2.2]) ∧ Quiet w w' := by
  have hn := ha.le
  have hn' := hb.le
  cases h1 : limitsB lo hi with
  | false =>
    have HF := hid (ptF_no h1)
    have H1 := hid h1
    clear h1
    go_enter Try.func20, Try.ntmps20
    go_wp2_with fail
    refine (areLimits_any _ _ _ _ _ _ _ _ _ _ _ _ _ ha hb).mono ?_
    rintro e w' ⟨rfl, hq⟩
    rw [H1.out]; subst hq; have hq := Quiet.refl w
    go_wp2_with fail
    go_ret3
    exact ⟨by rw [HF.out]; rfl, hq⟩
  | true =>
    have b1 := hid ((partsB_bd (limitsB_true.1 h1).1).mono (B' := 10000000000) (by omega))
    have b2 := hid ((partsB_bd (limitsB_true.1 h1).2.1).mono (B' := 10000000000) (by omega))
    have HF := hid (ptF_yes h1)
    have H1 := hid h1
    clear h1
    go_enter Try.func20, Try.ntmps20
    go_wp2_with fail
    refine (areLimits_any _ _ _ _ _ _ _ _ _ _ _ _ _ ha hb).mono ?_
    rintro e w' ⟨rfl, hq⟩
    rw [H1.out]; subst hq; have hq := Quiet.refl w
    go_wp2_with fail
    refine (total_any _ _ _ _ _ _ _ (ha.quiet hq) b1.out).mono ?_
    rintro e w1 ⟨rfl, rfl⟩
    go_wp2_with fail
    refine (total_any _ _ _ _ _ _ _ (hb.quiet hq) b2.out).mono ?_
    rintro e w1 ⟨rfl, rfl⟩
    go_wp2_with fail
    go_ret3
    exact ⟨by rw [HF.out]; rfl, hq⟩


set_option maxRecDepth 100000 in
set_option maxHeartbeats 1000000 in
theorem FnExactPossibleTotals_law (A0 : Option Addr) (n0 c0 : Nat) (z0 : List Int) (A1 : Option Addr) (n1 c1 : Nat) (z1 : List Int) (w : World) (wa0 : IntsArg w A0 n0 z0) (wa1 : IntsArg w A1 n1 z1) :
    Calls Try.prog 4 #[.slice A0 n0 c0, .slice A1 n1 c1] w fun e w' => e = .returned (.bool true) ∧ Below w.heap.size w w' := by
  by_cases hn0 : n0 ≤ 1048576
  rotate_left
  · have hlt : (1048576 : Int) < (n0 : Int) := by omega
    go_enter Try.func4, Try.ntmps4
    go_wp2_with fail
    go_ret
    exact ⟨rfl, keeps_refl w⟩
  have h0 := wa0.ints (by omega)
  by_cases hn1 : n1 ≤ 1048576
  rotate_left
  · have hlt : (1048576 : Int) < (n1 : Int) := by omega
    go_enter Try.func4, Try.ntmps4
    go_wp2_with fail
    go_ret
    exact ⟨rfl, keeps_refl w⟩
  have h1 := wa1.ints (by omega)
  obtain ⟨r0, r1, r2, HR⟩ : ∃ r0 r1 r2, Hid (ptF z0 z1 = (r0, r1, r2)) := ⟨_, _, _, rfl⟩
  go_enter Try.func4, Try.ntmps4
  go_wp2_with fail
  go_wp2_with fail
  refine (toIntS_any h0).mono ?_
  rintro e w1 ⟨By0, rfl, y0, k1⟩
  have s1 := k1.size
  replace h0 := h0.keeps k1
  replace h1 := h1.keeps k1
  have bel := k1
  have sz := s1
  go_wp2_with fail
  refine (toIntS_any h1).mono ?_
  rintro e w2 ⟨By1, rfl, y1, k2⟩
  have s2 := k2.size
  replace h0 := h0.keeps k2
  replace h1 := h1.keeps k2
  replace y0 := y0.keeps k2
  replace bel := below_keeps bel sz k2
  replace sz := Nat.le_trans sz s2
  go_wp2_with fail
  refine (spec_PossibleTotals_any y0.1 y1.1).mono ?_
  rintro e w3 ⟨rfl, k3⟩
  replace k3 := Quiet.keeps k3
  rw [HR.out]
  have s3 := k3.size
  replace h0 := h0.keeps k3
  replace h1 := h1.keeps k3
  replace y0 := y0.keeps k3
  replace y1 := y1.keeps k3
  replace bel := below_keeps bel sz k3
  replace sz := Nat.le_trans sz s3
  clear y0
  clear y1
  go_wp2_with fail
  refine (toIntS_any h0).mono ?_
  rintro e w4 ⟨Bx0, rfl, x0, k4⟩
  have s4 := k4.size
  replace h0 := h0.keeps k4
  replace h1 := h1.keeps k4
  replace bel := below_keeps bel sz k4
  replace sz := Nat.le_trans sz s4
  go_wp2_with fail
  refine (toIntS_any h1).mono ?_
  rintro e w5 ⟨Bx1, rfl, x1, k5⟩
  have s5 := k5.size
  replace h0 := h0.keeps k5
  replace h1 := h1.keeps k5
  replace x0 := x0.keeps k5
  replace bel := below_keeps bel sz k5
  replace sz := Nat.le_trans sz s5
  go_wp2_with fail
  refine (impl_PossibleTotals_any x0.1 x1.1).mono ?_
  rintro e w6 ⟨rfl, k6⟩
  replace k6 := Quiet.keeps k6
  rw [HR.out]
  have s6 := k6.size
  replace h0 := h0.keeps k6
  replace h1 := h1.keeps k6
  replace x0 := x0.keeps k6
  replace x1 := x1.keeps k6
  replace bel := below_keeps bel sz k6
  replace sz := Nat.le_trans sz s6
  have e0 : (r0 != r0) = false := by simp
  have e1 : (r1 != r1) = false := by simp
  have e2 : (r2 != r2) = false := by simp
  go_wp2_with fail
  refine (toIntS_any h0).mono ?_
  rintro e w7 ⟨Bt0, rfl, t0, k7⟩
  have s7 := k7.size
  replace h0 := h0.keeps k7
  replace h1 := h1.keeps k7
  replace x0 := x0.keeps k7
  replace x1 := x1.keeps k7
  replace bel := below_keeps bel sz k7
  replace sz := Nat.le_trans sz s7
  go_wp2_with fail
  refine (eqIntS_true x0.1 t0.1).mono ?_
  rintro e w8 ⟨rfl, k8⟩
  replace k8 := Quiet.keeps k8
  have s8 := k8.size
  replace h0 := h0.keeps k8
  replace h1 := h1.keeps k8
  replace x0 := x0.keeps k8
  replace x1 := x1.keeps k8
  replace t0 := t0.keeps k8
  replace bel := below_keeps bel sz k8
  replace sz := Nat.le_trans sz s8
  clear t0
  go_wp2_with fail
  refine (toIntS_any h1).mono ?_
  rintro e w9 ⟨Bt1, rfl, t1, k9⟩
  have s9 := k9.size
  replace h0 := h0.keeps k9
  replace h1 := h1.keeps k9
  replace x0 := x0.keeps k9
  replace x1 := x1.keeps k9
  replace bel := below_keeps bel sz k9
  replace sz := Nat.le_trans sz s9
  go_wp2_with fail
  refine (eqIntS_true x1.1 t1.1).mono ?_
  rintro e w10 ⟨rfl, k10⟩
  replace k10 := Quiet.keeps k10
  have s10 := k10.size
  replace h0 := h0.keeps k10
  replace h1 := h1.keeps k10
  replace x0 := x0.keeps k10
  replace x1 := x1.keeps k10
  replace t1 := t1.keeps k10
  replace bel := below_keeps bel sz k10
  replace sz := Nat.le_trans sz s10
  clear t1
  go_wp2_with fail
  go_ret
  exact ⟨rfl, bel⟩
theorem ret_sb {A : Option Addr} {n c : Nat} {p q : Bool} (h3 : p = q) : Ending.returned (.tuple #[.slice A n c, .bool p]) = .returned (.tuple #[.slice A n c, .bool q]) := by rw [h3]
def rbF (vs lo hi : List Int) : List Int × Bool := if boundedB vs lo hi then (clampL vs lo hi 0, true) else ([], false)
set_option maxHeartbeats 800000 in
theorem spec_RaiseToBounds_any {A A1 A2 : Option Addr} {l h l1 h1 l2 h2 n n1 n2 c c1 c2 : Nat} {xs lo hi : List Int} {w : World} (ha : Ints w l h A n xs) (hb : Ints w l1 h1 A1 n1 lo) (hc : Ints w l2 h2 A2 n2 hi) :
    Calls Try.prog 21 #[.slice A n c, .slice A1 n1 c1, .slice A2 n2 c2] w fun e w' => ∃ A' m c', e = .returned (.tuple #[.slice A' m c', .bool (rbF xs lo hi).2]) ∧ Mine w' w.heap.size w'.heap.size A' m (rbF xs lo hi).1 ∧ Keeps w w' := by
  cases h1 : boundedB xs lo hi with
  | false =>
    have HF := hid (show rbF xs lo hi = ([], false) by simp [rbF, h1])
    have H1 := hid h1
    clear h1
    go_enter Try.func21, Try.ntmps21
    go_wp2_with fail
    refine (iBounds_any _ _ _ _ _ _ _ _ _ _ _ _ _ _ _ _ _ _ _ ha hb hc).mono ?_
    rintro e w' ⟨rfl, hq⟩
    rw [H1.out]
    go_wp2_with fail
    go_ret2
    exact ⟨none, 0, 0, ret_sb (by rw [HF.out]), by rw [HF.out]; exact Mine.nil_ _ _, hq.keeps⟩
  | true =>
    have hh := boundedB_true.1 h1
    have hli := limitsB_true.1 hh.2.1
    have hl := ha.1
    have hl1 := hb.1
    have hl2 := hc.1
    obtain rfl : n1 = n := by omega
    obtain rfl : n2 = n1 := by omega
    have bx := hid (partsB_bd hh.1)
    have HO := hid (ordered_of hli.2.2.2 hli.2.2.1)
    have HF := hid (show rbF xs lo hi = (clampL xs lo hi 0, true) by simp [rbF, h1])
    have H1 := hid h1
    clear h1 hh hli
    go_enter Try.func21, Try.ntmps21
    go_wp2_with fail
    refine (iBounds_any _ _ _ _ _ _ _ _ _ _ _ _ _ _ _ _ _ _ _ ha hb hc).mono ?_
    rintro e w' ⟨rfl, hq⟩
    rw [H1.out]
    go_wp2_with fail
    refine (iClamp_any _ _ _ _ _ _ _ _ _ _ _ _ _ _ _ _ _ (ha.quiet hq) (hb.quiet hq) (hc.quiet hq) HO.out).mono ?_
    rintro e w2 ⟨A', c', rfl, hm, hk⟩
    go_wp2_with fail
    go_ret2
    exact ⟨A', _, _, ret_sb (by rw [HF.out]), by rw [HF.out]; exact hm.widen hq.keeps.size (Nat.le_refl _) (Nat.le_refl _), hq.keeps.trans hk⟩
set_option maxHeartbeats 800000 in
theorem impl_RaiseToBounds_any {A A1 A2 : Option Addr} {l h l1 h1 l2 h2 n n1 n2 c c1 c2 : Nat} {xs lo hi : List Int} {w : World} (ha : Ints w l h A n xs) (hb : Ints w l1 h1 A1 n1 lo) (hc : Ints w l2 h2 A2 n2 hi) :
    Calls Try.prog 22 #[.slice A n c, .slice A1 n1 c1, .slice A2 n2 c2] w fun e w' => ∃ A' m c', e = .returned (.tuple #[.slice A' m c', .bool (rbF xs lo hi).2]) ∧ Mine w' w.heap.size w'.heap.size A' m (rbF xs lo hi).1 ∧ Keeps w w' := by
  cases h1 : boundedB xs lo hi with
  | false =>
    have HF := hid (show rbF xs lo hi = ([], false) by simp [rbF, h1])
    have H1 := hid h1
    clear h1
    go_enter Try.func22, Try.ntmps22
    go_wp2_with fail
    refine (areBounded_any _ _ _ _ _ _ _ _ _ _ _ _ _ _ _ _ _ _ _ ha hb hc).mono ?_
    rintro e w' ⟨rfl, hq⟩
    rw [H1.out]; subst hq; have hq := Quiet.refl w
    go_wp2_with fail
    go_ret2
    exact ⟨none, 0, 0, ret_sb (by rw [HF.out]), by rw [HF.out]; exact Mine.nil_ _ _, hq.keeps⟩
  | true =>
    have hh := boundedB_true.1 h1
    have hli := limitsB_true.1 hh.2.1
    have hl := ha.1
    have hl1 := hb.1
    have hl2 := hc.1
    obtain rfl : n1 = n := by omega
    obtain rfl : n2 = n1 := by omega
    have bx := hid (partsB_bd hh.1)
    have HO := hid (ordered_of hli.2.2.2 hli.2.2.1)
    have HF := hid (show rbF xs lo hi = (clampL xs lo hi 0, true) by simp [rbF, h1])
    have H1 := hid h1
    clear h1 hh hli
    go_enter Try.func22, Try.ntmps22
    go_wp2_with fail
    refine (areBounded_any _ _ _ _ _ _ _ _ _ _ _ _ _ _ _ _ _ _ _ ha hb hc).mono ?_
    rintro e w' ⟨rfl, hq⟩
    rw [H1.out]; subst hq; have hq := Quiet.refl w
    go_wp2_with fail
    refine (shifted_any _ _ _ _ _ _ _ _ _ _ _ _ _ _ _ _ _ _ ha hb hc (bx.out.mono (by omega)) (by omega) (by omega)).mono ?_
    rintro e w2 ⟨A', rfl, hm, hk⟩
    go_wp2_with fail
    go_ret2
    exact ⟨A', _, _, ret_sb (by rw [HF.out]), by rw [HF.out]; exact hm.widen hq.keeps.size (Nat.le_refl _) (Nat.le_refl _), hq.keeps.trans hk⟩

set_option maxRecDepth 100000 in
set_option maxHeartbeats 1000000 in
theorem FnExactRaiseToBounds_law (A0 : Option Addr) (n0 c0 : Nat) (z0 : List Int) (A1 : Option Addr) (n1 c1 : Nat) (z1 : List Int) (A2 : Option Addr) (n2 c2 : Nat) (z2 : List Int) (w : World) (wa0 : IntsArg w A0 n0 z0) (wa1 : IntsArg w A1 n1 z1) (wa2 : IntsArg w A2 n2 z2) :
    Calls Try.prog 5 #[.slice A0 n0 c0, .slice A1 n1 c1, .slice A2 n2 c2] w fun e w' => e = .returned (.bool true) ∧ Below w.heap.size w w' := by
  by_cases hn0 : n0 ≤ 1048576
  rotate_left
  · have hlt : (1048576 : Int) < (n0 : Int) := by omega
    go_enter Try.func5, Try.ntmps5
    go_wp2_with fail
    go_ret
    exact ⟨rfl, keeps_refl w⟩
  have h0 := wa0.ints (by omega)
  by_cases hn1 : n1 ≤ 1048576
  rotate_left
  · have hlt : (1048576 : Int) < (n1 : Int) := by omega
    go_enter Try.func5, Try.ntmps5
    go_wp2_with fail
    go_ret
    exact ⟨rfl, keeps_refl w⟩
  have h1 := wa1.ints (by omega)
  by_cases hn2 : n2 ≤ 1048576
  rotate_left
  · have hlt : (1048576 : Int) < (n2 : Int) := by omega
    go_enter Try.func5, Try.ntmps5
    go_wp2_with fail
    go_ret
    exact ⟨rfl, keeps_refl w⟩
  have h2 := wa2.ints (by omega)
  obtain ⟨r0, r1, HR⟩ : ∃ r0 r1, Hid (rbF z0 z1 z2 = (r0, r1)) := ⟨_, _, rfl⟩
  go_enter Try.func5, Try.ntmps5
  go_wp2_with fail
  go_wp2_with fail
  refine (toIntS_any h0).mono ?_
  rintro e w1 ⟨By0, rfl, y0, k1⟩
  have s1 := k1.size
  replace h0 := h0.keeps k1
  replace h1 := h1.keeps k1
  replace h2 := h2.keeps k1
  have bel := k1
  have sz := s1
  go_wp2_with fail
  refine (toIntS_any h1).mono ?_
  rintro e w2 ⟨By1, rfl, y1, k2⟩
  have s2 := k2.size
  replace h0 := h0.keeps k2
  replace h1 := h1.keeps k2
  replace h2 := h2.keeps k2
  replace y0 := y0.keeps k2
  replace bel := below_keeps bel sz k2
  replace sz := Nat.le_trans sz s2
  go_wp2_with fail
  refine (toIntS_any h2).mono ?_
  rintro e w3 ⟨By2, rfl, y2, k3⟩
  have s3 := k3.size
  replace h0 := h0.keeps k3
  replace h1 := h1.keeps k3
  replace h2 := h2.keeps k3
  replace y0 := y0.keeps k3
  replace y1 := y1.keeps k3
  replace bel := below_keeps bel sz k3
  replace sz := Nat.le_trans sz s3
  go_wp2_with fail
  refine (spec_RaiseToBounds_any y0.1 y1.1 y2.1).mono ?_
  rintro e w4 ⟨pA0, pN0, pC0, rfl, p0, k4⟩
  rw [HR.out]
  rw [HR.out] at p0
  have s4 := k4.size
  replace h0 := h0.keeps k4
  replace h1 := h1.keeps k4
  replace h2 := h2.keeps k4
  replace y0 := y0.keeps k4
  replace y1 := y1.keeps k4
  replace y2 := y2.keeps k4
  replace bel := below_keeps bel sz k4
  replace sz := Nat.le_trans sz s4
  clear y0
  clear y1
  clear y2
  go_wp2_with fail
  refine (toIntS_any h0).mono ?_
  rintro e w5 ⟨Bx0, rfl, x0, k5⟩
  have s5 := k5.size
  replace h0 := h0.keeps k5
  replace h1 := h1.keeps k5
  replace h2 := h2.keeps k5
  replace p0 := p0.keeps k5
  replace bel := below_keeps bel sz k5
  replace sz := Nat.le_trans sz s5
  go_wp2_with fail
  refine (toIntS_any h1).mono ?_
  rintro e w6 ⟨Bx1, rfl, x1, k6⟩
  have s6 := k6.size
  replace h0 := h0.keeps k6
  replace h1 := h1.keeps k6
  replace h2 := h2.keeps k6
  replace p0 := p0.keeps k6
  replace x0 := x0.keeps k6
  replace bel := below_keeps bel sz k6
  replace sz := Nat.le_trans sz s6
  go_wp2_with fail
  refine (toIntS_any h2).mono ?_
  rintro e w7 ⟨Bx2, rfl, x2, k7⟩
  have s7 := k7.size
  replace h0 := h0.keeps k7
  replace h1 := h1.keeps k7
  replace h2 := h2.keeps k7
  replace p0 := p0.keeps k7
  replace x0 := x0.keeps k7
  replace x1 := x1.keeps k7
  replace bel := below_keeps bel sz k7
  replace sz := Nat.le_trans sz s7
  go_wp2_with fail
  refine (impl_RaiseToBounds_any x0.1 x1.1 x2.1).mono ?_
  rintro e w8 ⟨gA0, gN0, gC0, rfl, g0, k8⟩
  rw [HR.out]
  rw [HR.out] at g0
  have s8 := k8.size
  replace h0 := h0.keeps k8
  replace h1 := h1.keeps k8
  replace h2 := h2.keeps k8
  replace p0 := p0.keeps k8
  replace x0 := x0.keeps k8
  replace x1 := x1.keeps k8
  replace x2 := x2.keeps k8
  replace bel := below_keeps bel sz k8
  replace sz := Nat.le_trans sz s8
  have e1 : (r1 != r1) = false := by simp
  go_wp2_with fail
  refine (eqIntS_true g0.1 p0.1).mono ?_
  rintro e w9 ⟨rfl, k9⟩
  replace k9 := Quiet.keeps k9
  have s9 := k9.size
  replace h0 := h0.keeps k9
  replace h1 := h1.keeps k9
  replace h2 := h2.keeps k9
  replace p0 := p0.keeps k9
  replace x0 := x0.keeps k9
  replace x1 := x1.keeps k9
  replace x2 := x2.keeps k9
  replace g0 := g0.keeps k9
  replace bel := below_keeps bel sz k9
  replace sz := Nat.le_trans sz s9
  go_wp2_with fail
  refine (toIntS_any h0).mono ?_
  rintro e w10 ⟨Bt0, rfl, t0, k10⟩
  have s10 := k10.size
  replace h0 := h0.keeps k10
  replace h1 := h1.keeps k10
  replace h2 := h2.keeps k10
  replace p0 := p0.keeps k10
  replace x0 := x0.keeps k10
  replace x1 := x1.keeps k10
  replace x2 := x2.keeps k10
  replace g0 := g0.keeps k10
  replace bel := below_keeps bel sz k10
  replace sz := Nat.le_trans sz s10
  go_wp2_with fail
  refine (eqIntS_true x0.1 t0.1).mono ?_
  rintro e w11 ⟨rfl, k11⟩
  replace k11 := Quiet.keeps k11
  have s11 := k11.size
  replace h0 := h0.keeps k11
  replace h1 := h1.keeps k11
  replace h2 := h2.keeps k11
  replace p0 := p0.keeps k11
  replace x0 := x0.keeps k11
  replace x1 := x1.keeps k11
  replace x2 := x2.keeps k11
  replace g0 := g0.keeps k11
  replace t0 := t0.keeps k11
  replace bel := below_keeps bel sz k11
  replace sz := Nat.le_trans sz s11
  clear t0
  go_wp2_with fail
  refine (toIntS_any h1).mono ?_
  rintro e w12 ⟨Bt1, rfl, t1, k12⟩
  have s12 := k12.size
  replace h0 := h0.keeps k12
  replace h1 := h1.keeps k12
  replace h2 := h2.keeps k12
  replace p0 := p0.keeps k12
  replace x0 := x0.keeps k12
  replace x1 := x1.keeps k12
  replace x2 := x2.keeps k12
  replace g0 := g0.keeps k12
  replace bel := below_keeps bel sz k12
  replace sz := Nat.le_trans sz s12
  go_wp2_with fail
  refine (eqIntS_true x1.1 t1.1).mono ?_
  rintro e w13 ⟨rfl, k13⟩
  replace k13 := Quiet.keeps k13
  have s13 := k13.size
  replace h0 := h0.keeps k13
  replace h1 := h1.keeps k13
  replace h2 := h2.keeps k13
  replace p0 := p0.keeps k13
  replace x0 := x0.keeps k13
  replace x1 := x1.keeps k13
  replace x2 := x2.keeps k13
  replace g0 := g0.keeps k13
  replace t1 := t1.keeps k13
  replace bel := below_keeps bel sz k13
  replace sz := Nat.le_trans sz s13
  clear t1
  go_wp2_with fail
  refine (toIntS_any h2).mono ?_
  rintro e w14 ⟨Bt2, rfl, t2, k14⟩
  have s14 := k14.size
  replace h0 := h0.keeps k14
  replace h1 := h1.keeps k14
  replace h2 := h2.keeps k14
  replace p0 := p0.keeps k14
  replace x0 := x0.keeps k14
  replace x1 := x1.keeps k14
  replace x2 := x2.keeps k14
  replace g0 := g0.keeps k14
  replace bel := below_keeps bel sz k14
  replace sz := Nat.le_trans sz s14
  go_wp2_with fail
  refine (eqIntS_true x2.1 t2.1).mono ?_
  rintro e w15 ⟨rfl, k15⟩
  replace k15 := Quiet.keeps k15
  have s15 := k15.size
  replace h0 := h0.keeps k15
  replace h1 := h1.keeps k15
  replace h2 := h2.keeps k15
  replace p0 := p0.keeps k15
  replace x0 := x0.keeps k15
  replace x1 := x1.keeps k15
  replace x2 := x2.keeps k15
  replace g0 := g0.keeps k15
  replace t2 := t2.keeps k15
  replace bel := below_keeps bel sz k15
  replace sz := Nat.le_trans sz s15
  clear t2
  go_wp2_with fail
  refine (markIntS_any x0 (by omega) (by omega)).mono ?_
  rintro e w16 ⟨rfl, mk16, f16⟩
  have s16 := f16.size
  clear x0
  replace h0 := h0.fr f16 (by omega)
  replace h1 := h1.fr f16 (by omega)
  replace h2 := h2.fr f16 (by omega)
  replace p0 := p0.fr f16 (by omega)
  replace x1 := x1.fr f16 (by omega)
  replace x2 := x2.fr f16 (by omega)
  replace g0 := g0.fr f16 (by omega)
  replace bel := below_fr bel sz (by omega) f16
  replace sz := Nat.le_trans sz s16
  go_wp2_with fail
  refine (markIntS_any x1 (by omega) (by omega)).mono ?_
  rintro e w17 ⟨rfl, mk17, f17⟩
  have s17 := f17.size
  clear x1
  replace h0 := h0.fr f17 (by omega)
  replace h1 := h1.fr f17 (by omega)
  replace h2 := h2.fr f17 (by omega)
  replace p0 := p0.fr f17 (by omega)
  replace x2 := x2.fr f17 (by omega)
  replace g0 := g0.fr f17 (by omega)
  replace bel := below_fr bel sz (by omega) f17
  replace sz := Nat.le_trans sz s17
  go_wp2_with fail
  refine (markIntS_any x2 (by omega) (by omega)).mono ?_
  rintro e w18 ⟨rfl, mk18, f18⟩
  have s18 := f18.size
  clear x2
  replace h0 := h0.fr f18 (by omega)
  replace h1 := h1.fr f18 (by omega)
  replace h2 := h2.fr f18 (by omega)
  replace p0 := p0.fr f18 (by omega)
  replace g0 := g0.fr f18 (by omega)
  replace bel := below_fr bel sz (by omega) f18
  replace sz := Nat.le_trans sz s18
  go_wp2_with fail
  refine (eqIntS_true g0.1 p0.1).mono ?_
  rintro e w19 ⟨rfl, k19⟩
  replace k19 := Quiet.keeps k19
  have s19 := k19.size
  replace h0 := h0.keeps k19
  replace h1 := h1.keeps k19
  replace h2 := h2.keeps k19
  replace p0 := p0.keeps k19
  replace g0 := g0.keeps k19
  replace bel := below_keeps bel sz k19
  replace sz := Nat.le_trans sz s19
  go_wp2_with fail
  refine (markIntS_any g0 (by omega) (by omega)).mono ?_
  rintro e w20 ⟨rfl, mk20, f20⟩
  have s20 := f20.size
  clear g0
  replace h0 := h0.fr f20 (by omega)
  replace h1 := h1.fr f20 (by omega)
  replace h2 := h2.fr f20 (by omega)
  replace p0 := p0.fr f20 (by omega)
  replace bel := below_fr bel sz (by omega) f20
  replace sz := Nat.le_trans sz s20
  have u1 : ((1 + (gN0 : Int)) != (1 + (gN0 : Int))) = false := by simp
  go_wp2_with fail
  refine (heldIntS_any mk20.1 (by omega) (by omega)).mono ?_
  rintro e w21 ⟨rfl, q21⟩
  subst q21
  go_wp2_with fail
  refine (toIntS_any h0).mono ?_
  rintro e w22 ⟨Bv0, rfl, v0, k22⟩
  have s22 := k22.size
  replace h0 := h0.keeps k22
  replace h1 := h1.keeps k22
  replace h2 := h2.keeps k22
  replace p0 := p0.keeps k22
  replace mk20 := mk20.keeps k22
  replace bel := below_keeps bel sz k22
  replace sz := Nat.le_trans sz s22
  go_wp2_with fail
  refine (toIntS_any h1).mono ?_
  rintro e w23 ⟨Bv1, rfl, v1, k23⟩
  have s23 := k23.size
  replace h0 := h0.keeps k23
  replace h1 := h1.keeps k23
  replace h2 := h2.keeps k23
  replace p0 := p0.keeps k23
  replace mk20 := mk20.keeps k23
  replace v0 := v0.keeps k23
  replace bel := below_keeps bel sz k23
  replace sz := Nat.le_trans sz s23
  go_wp2_with fail
  refine (toIntS_any h2).mono ?_
  rintro e w24 ⟨Bv2, rfl, v2, k24⟩
  have s24 := k24.size
  replace h0 := h0.keeps k24
  replace h1 := h1.keeps k24
  replace h2 := h2.keeps k24
  replace p0 := p0.keeps k24
  replace mk20 := mk20.keeps k24
  replace v0 := v0.keeps k24
  replace v1 := v1.keeps k24
  replace bel := below_keeps bel sz k24
  replace sz := Nat.le_trans sz s24
  go_wp2_with fail
  refine (impl_RaiseToBounds_any v0.1 v1.1 v2.1).mono ?_
  rintro e w25 ⟨h_A0, h_N0, h_C0, rfl, h_0, k25⟩
  rw [HR.out]
  rw [HR.out] at h_0
  have s25 := k25.size
  replace h0 := h0.keeps k25
  replace h1 := h1.keeps k25
  replace h2 := h2.keeps k25
  replace p0 := p0.keeps k25
  replace mk20 := mk20.keeps k25
  replace v0 := v0.keeps k25
  replace v1 := v1.keeps k25
  replace v2 := v2.keeps k25
  replace bel := below_keeps bel sz k25
  replace sz := Nat.le_trans sz s25
  go_wp2_with fail
  refine (eqIntS_true h_0.1 p0.1).mono ?_
  rintro e w26 ⟨rfl, k26⟩
  replace k26 := Quiet.keeps k26
  have s26 := k26.size
  replace h0 := h0.keeps k26
  replace h1 := h1.keeps k26
  replace h2 := h2.keeps k26
  replace p0 := p0.keeps k26
  replace mk20 := mk20.keeps k26
  replace v0 := v0.keeps k26
  replace v1 := v1.keeps k26
  replace v2 := v2.keeps k26
  replace h_0 := h_0.keeps k26
  replace bel := below_keeps bel sz k26
  replace sz := Nat.le_trans sz s26
  go_wp2_with fail
  refine (heldIntS_any mk20.1 (by omega) (by omega)).mono ?_
  rintro e w27 ⟨rfl, q27⟩
  subst q27
  go_wp2_with fail
  go_ret
  exact ⟨rfl, bel⟩
end Go.Proofs.Ytdfpgohfnabflaa
