/- AdjustTo and IsAdjusted, of the reference and of the program; and the laws. -/
import Derived.Test.YtdfpgohfnabflaaIadj
import Derived.Test.YtdfpgohfnabflaaRaise
import Derived.Test.YtdfpgohfnabflaaSums
import Derived.WalkSpells
namespace Go.Proofs.Ytdfpgohfnabflaa
open Go.RowKit
set_option linter.unusedVariables false
set_option linter.unusedSimpArgs false

def AdjR (vs lo hi : List Int) (t : Int) (xs : List Int) (ok : Bool) : Prop :=
  if (boundedB vs lo hi && inB t (-1000000) 1000000 && inB t lo.sum hi.sum) = true then ok = true ∧ IsAdj vs lo hi t xs else xs = [] ∧ ok = false
theorem adjR_no {vs lo hi : List Int} {t : Int} (h : (boundedB vs lo hi && inB t (-1000000) 1000000 && inB t lo.sum hi.sum) = false) : AdjR vs lo hi t [] false := by
  unfold AdjR; rw [h]; exact ⟨rfl, rfl⟩
theorem adjR_yes {vs lo hi xs : List Int} {t : Int} (h1 : boundedB vs lo hi = true) (h2 : inB t (-1000000) 1000000 = true) (h3 : inB t lo.sum hi.sum = true) (h : IsAdj vs lo hi t xs) : AdjR vs lo hi t xs true := by
  unfold AdjR; rw [h1, h2, h3]; exact ⟨rfl, h⟩
theorem bounded_ordered {vs lo hi : List Int} (h : boundedB vs lo hi = true) : Ordered lo hi := by
  have h1 := limitsB_true.1 (boundedB_true.1 h).2.1
  exact ordered_of h1.2.2.2 h1.2.2.1
theorem AdjR_one (vs lo hi : List Int) (t : Int) : ∃ (r0 : List Int) (r1 : Bool), Hid (∀ a b, AdjR vs lo hi t a b → r0 = a ∧ r1 = b) := by
  by_cases hc : (boundedB vs lo hi && inB t (-1000000) 1000000 && inB t lo.sum hi.sum) = true
  · by_cases hx : ∃ x, IsAdj vs lo hi t x
    · obtain ⟨x, hx⟩ := hx
      refine ⟨x, true, fun a b h => ?_⟩
      unfold AdjR at h
      rw [if_pos hc] at h
      simp only [Bool.and_eq_true] at hc
      exact ⟨(isAdj_one (bounded_ordered hc.1.1) h.2 hx).symm, h.1.symm⟩
    · refine ⟨[], true, fun a b h => ?_⟩
      unfold AdjR at h
      rw [if_pos hc] at h
      exact absurd ⟨a, h.2⟩ hx
  · refine ⟨[], false, fun a b h => ?_⟩
    unfold AdjR at h
    rw [if_neg hc] at h
    exact ⟨h.1.symm, h.2.symm⟩

theorem iTotal_any {t : Int} {w : World} : Calls Try.prog 78 #[.int .i64 t] w fun e w' => e = .returned (.bool (inB t (-1000000) 1000000)) ∧ w = w' := by
  go_enter Try.func78, Try.ntmps78
  go_wp2_with (go_at_call 82; refine (l1In_any _ _ _ _).mono ?_; rintro e w' ⟨rfl, rfl⟩)
  go_ret
  exact ⟨rfl, rfl⟩
theorem isTotal_any {t : Int} {w : World} : Calls Try.prog 80 #[.int .i64 t] w fun e w' => e = .returned (.bool (inB t (-1000000) 1000000)) ∧ w = w' := by
  by_cases h1 : -1000000 ≤ t
  · by_cases h2 : t ≤ 1000000
    · go_enter Try.func80, Try.ntmps80
      go_wp2
      go_ret
      exact ⟨ret_bool (by simp [inB, h1, h2]), rfl⟩
    · go_enter Try.func80, Try.ntmps80
      go_wp2
      go_ret
      exact ⟨ret_bool (by simp [inB]; omega), rfl⟩
  · go_enter Try.func80, Try.ntmps80
    go_wp2
    go_ret
    exact ⟨ret_bool (by simp [inB]; omega), rfl⟩

set_option maxHeartbeats 1000000 in
theorem spec_AdjustTo_any {A A1 A2 : Option Addr} {l h l1 h1 l2 h2 n n1 n2 c c1 c2 : Nat} {vs lo hi : List Int} {t : Int} {w : World} (ha : Ints w l h A n vs) (hb : Ints w l1 h1 A1 n1 lo) (hc : Ints w l2 h2 A2 n2 hi) (ht : (Lit.int .i64 t).wf = true) :
    Calls Try.prog 41 #[.slice A n c, .slice A1 n1 c1, .slice A2 n2 c2, .int .i64 t] w fun e w' => ∃ A' m c' xs ok, e = .returned (.tuple #[.slice A' m c', .bool ok]) ∧ Mine w' w.heap.size w'.heap.size A' m xs ∧ AdjR vs lo hi t xs ok ∧ Keeps w w' := by
  have hl := ha.1
  have hl1 := hb.1
  have hl2 := hc.1
  obtain ⟨v1, H1⟩ : ∃ v, Hid (boundedB vs lo hi = v) := ⟨_, rfl⟩
  obtain ⟨v2, H2⟩ : ∃ v, Hid (inB t (-1000000) 1000000 = v) := ⟨_, rfl⟩
  clear ht
  cases v1
  · have HF := hid (adjR_no (vs := vs) (lo := lo) (hi := hi) (t := t) (by rw [H1.out]; rfl))
    go_enter Try.func41, Try.ntmps41
    go_wp2_with fail
    refine (iBounds_any _ _ _ _ _ _ _ _ _ _ _ _ _ _ _ _ _ _ _ ha hb hc).mono ?_
    rintro e w1 ⟨rfl, hq⟩
    rw [H1.out]
    go_wp2_with fail
    go_ret2
    exact ⟨none, 0, 0, [], false, rfl, Mine.nil_ _ _, HF.out, hq.keeps⟩
  cases v2
  · have HF := hid (adjR_no (vs := vs) (lo := lo) (hi := hi) (t := t) (by rw [H1.out, H2.out]; rfl))
    go_enter Try.func41, Try.ntmps41
    go_wp2_with fail
    refine (iBounds_any _ _ _ _ _ _ _ _ _ _ _ _ _ _ _ _ _ _ _ ha hb hc).mono ?_
    rintro e w1 ⟨rfl, hq⟩
    rw [H1.out]
    go_wp2_with fail
    refine (iTotal_any).mono ?_
    rintro e w2 ⟨rfl, rfl⟩
    rw [H2.out]
    go_wp2_with fail
    go_ret2
    exact ⟨none, 0, 0, [], false, rfl, Mine.nil_ _ _, HF.out, hq.keeps⟩
  have hh := boundedB_true.1 H1.out
  have hli := limitsB_true.1 hh.2.1
  have HO := hid (bounded_ordered H1.out)
  have BV := hid ((partsB_bd hh.1).mono (B' := 1000000) (by omega))
  have BL := hid ((partsB_bd hli.1).mono (B' := 1000000) (by omega))
  have BH := hid ((partsB_bd hli.2.1).mono (B' := 1000000) (by omega))
  have hn1 := (partsB_true.1 hh.1).1
  obtain rfl : n1 = n := by omega
  obtain rfl : n2 = n1 := by omega
  clear hh hli hl1 hl2
  by_cases hf : lo.sum ≤ t ∧ t ≤ hi.sum
  rotate_left
  · have HF := hid (adjR_no (vs := vs) (lo := lo) (hi := hi) (t := t) (by rw [show inB t lo.sum hi.sum = false from inB_false.2 (by omega), Bool.and_false]))
    have hf2 := hid (show t < lo.sum ∨ hi.sum < t by omega)
    clear hf
    go_enter Try.func41, Try.ntmps41
    go_wp2_with fail
    refine (iBounds_any _ _ _ _ _ _ _ _ _ _ _ _ _ _ _ _ _ _ _ ha hb hc).mono ?_
    rintro e w1 ⟨rfl, hq⟩
    rw [H1.out]
    go_wp2_with fail
    refine (iTotal_any).mono ?_
    rintro e w2 ⟨rfl, rfl⟩
    rw [H2.out]
    go_wp2_with fail
    refine (iAdjust_none (vs := vs) (l := l) (h := h) (hb.quiet hq) (hc.quiet hq) BL.out BH.out hf2.out).mono ?_
    rintro e w3 ⟨rfl, rfl⟩
    go_wp2_with fail
    go_ret2
    exact ⟨none, 0, 0, [], false, rfl, Mine.nil_ _ _, HF.out, hq.keeps⟩
  · have H3 := hid (inB_true.2 hf)
    have F1 := hid hf.1
    have F2 := hid hf.2
    clear hf
    go_enter Try.func41, Try.ntmps41
    go_wp2_with fail
    refine (iBounds_any _ _ _ _ _ _ _ _ _ _ _ _ _ _ _ _ _ _ _ ha hb hc).mono ?_
    rintro e w1 ⟨rfl, hq⟩
    rw [H1.out]
    go_wp2_with fail
    refine (iTotal_any).mono ?_
    rintro e w2 ⟨rfl, rfl⟩
    rw [H2.out]
    go_wp2_with fail
    refine (iAdjust_any (ha.quiet hq) (hb.quiet hq) (hc.quiet hq) BV.out BL.out BH.out HO.out F1.out F2.out).mono ?_
    rintro e w3 ⟨A', c', xs, rfl, hm, hadj, hk⟩
    have HA := hid hadj
    clear hadj
    go_wp2_with fail
    go_ret2
    exact ⟨A', _, c', xs, true, rfl, hm.widen hq.keeps.size (Nat.le_refl _) (Nat.le_refl _), adjR_yes H1.out H2.out H3.out HA.out, hq.keeps.trans hk⟩
set_option maxHeartbeats 1000000 in
theorem impl_AdjustTo_any {A A1 A2 : Option Addr} {l h l1 h1 l2 h2 n n1 n2 c c1 c2 : Nat} {vs lo hi : List Int} {t : Int} {w : World} (ha : Ints w l h A n vs) (hb : Ints w l1 h1 A1 n1 lo) (hc : Ints w l2 h2 A2 n2 hi) (ht : (Lit.int .i64 t).wf = true) :
    Calls Try.prog 42 #[.slice A n c, .slice A1 n1 c1, .slice A2 n2 c2, .int .i64 t] w fun e w' => ∃ A' m c' xs ok, e = .returned (.tuple #[.slice A' m c', .bool ok]) ∧ Mine w' w.heap.size w'.heap.size A' m xs ∧ AdjR vs lo hi t xs ok ∧ Keeps w w' := by
  have hl := ha.1
  have hl1 := hb.1
  have hl2 := hc.1
  obtain ⟨v1, H1⟩ : ∃ v, Hid (boundedB vs lo hi = v) := ⟨_, rfl⟩
  obtain ⟨v2, H2⟩ : ∃ v, Hid (inB t (-1000000) 1000000 = v) := ⟨_, rfl⟩
  clear ht
  cases v1
  · have HF := hid (adjR_no (vs := vs) (lo := lo) (hi := hi) (t := t) (by rw [H1.out]; rfl))
    go_enter Try.func42, Try.ntmps42
    go_wp2_with fail
    refine (areBounded_any _ _ _ _ _ _ _ _ _ _ _ _ _ _ _ _ _ _ _ ha hb hc).mono ?_
    rintro e w1 ⟨rfl, rfl⟩
    rw [H1.out]
    go_wp2_with fail
    go_ret2
    exact ⟨none, 0, 0, [], false, rfl, Mine.nil_ _ _, HF.out, keeps_refl _⟩
  cases v2
  · have HF := hid (adjR_no (vs := vs) (lo := lo) (hi := hi) (t := t) (by rw [H1.out, H2.out]; rfl))
    go_enter Try.func42, Try.ntmps42
    go_wp2_with fail
    refine (areBounded_any _ _ _ _ _ _ _ _ _ _ _ _ _ _ _ _ _ _ _ ha hb hc).mono ?_
    rintro e w1 ⟨rfl, rfl⟩
    rw [H1.out]
    go_wp2_with fail
    refine (isTotal_any).mono ?_
    rintro e w2 ⟨rfl, rfl⟩
    rw [H2.out]
    go_wp2_with fail
    go_ret2
    exact ⟨none, 0, 0, [], false, rfl, Mine.nil_ _ _, HF.out, keeps_refl _⟩
  have hh := boundedB_true.1 H1.out
  have hli := limitsB_true.1 hh.2.1
  have HO := hid (bounded_ordered H1.out)
  have BV := hid ((partsB_bd hh.1).mono (B' := 1000000) (by omega))
  have BL := hid ((partsB_bd hli.1).mono (B' := 1000000) (by omega))
  have BH := hid ((partsB_bd hli.2.1).mono (B' := 1000000) (by omega))
  have hn1 := (partsB_true.1 hh.1).1
  obtain rfl : n1 = n := by omega
  obtain rfl : n2 = n1 := by omega
  clear hh hli hl1 hl2
  by_cases hf : lo.sum ≤ t ∧ t ≤ hi.sum
  rotate_left
  · have HF := hid (adjR_no (vs := vs) (lo := lo) (hi := hi) (t := t) (by rw [show inB t lo.sum hi.sum = false from inB_false.2 (by omega), Bool.and_false]))
    have hf2 := hid (show t < lo.sum ∨ hi.sum < t by omega)
    clear hf
    go_enter Try.func42, Try.ntmps42
    go_wp2_with fail
    refine (areBounded_any _ _ _ _ _ _ _ _ _ _ _ _ _ _ _ _ _ _ _ ha hb hc).mono ?_
    rintro e w1 ⟨rfl, rfl⟩
    rw [H1.out]
    go_wp2_with fail
    refine (isTotal_any).mono ?_
    rintro e w2 ⟨rfl, rfl⟩
    rw [H2.out]
    go_wp2_with fail
    refine (adjusted_none (vs := vs) (l := l) (h := h) hb hc BL.out BH.out hf2.out).mono ?_
    rintro e w3 ⟨rfl, rfl⟩
    have hne := fun W a n c => Go.run_neq_slice_nil_any (P := Try.prog) W 22 3 a n c 0 0 Try.underlying22
    go_wp2_with fail
    go_ret2
    exact ⟨none, 0, 0, [], false, rfl, Mine.nil_ _ _, HF.out, keeps_refl _⟩
  · have H3 := hid (inB_true.2 hf)
    have F1 := hid hf.1
    have F2 := hid hf.2
    clear hf
    go_enter Try.func42, Try.ntmps42
    go_wp2_with fail
    refine (areBounded_any _ _ _ _ _ _ _ _ _ _ _ _ _ _ _ _ _ _ _ ha hb hc).mono ?_
    rintro e w1 ⟨rfl, rfl⟩
    rw [H1.out]
    go_wp2_with fail
    refine (isTotal_any).mono ?_
    rintro e w2 ⟨rfl, rfl⟩
    rw [H2.out]
    go_wp2_with fail
    refine (adjusted_any ha hb hc BV.out BL.out BH.out HO.out F1.out F2.out).mono ?_
    rintro e w3 ⟨A', xs, rfl, hm, hadj, hk⟩
    have HA := hid hadj
    clear hadj
    obtain ⟨bb, off, _, rfl, _⟩ := hm.1.at_ (k := 0) (by omega)
    have hne := fun W a n c => Go.run_neq_slice_nil_any (P := Try.prog) W 22 3 a n c 0 0 Try.underlying22
    go_wp2_with fail
    go_ret2
    exact ⟨_, _, _, xs, true, rfl, hm, adjR_yes H1.out H2.out H3.out HA.out, hk⟩
set_option maxRecDepth 100000 in
set_option maxHeartbeats 1000000 in
theorem FnExactAdjustTo_law (A0 : Option Addr) (n0 c0 : Nat) (z0 : List Int) (A1 : Option Addr) (n1 c1 : Nat) (z1 : List Int) (A2 : Option Addr) (n2 c2 : Nat) (z2 : List Int) (a3 : Int) (w : World) (wa0 : IntsArg w A0 n0 z0) (wa1 : IntsArg w A1 n1 z1) (wa2 : IntsArg w A2 n2 z2) (wa3 : (Lit.int .i64 a3).wf = true) :
    Calls Try.prog 11 #[.slice A0 n0 c0, .slice A1 n1 c1, .slice A2 n2 c2, .int .i64 a3] w fun e w' => e = .returned (.bool true) ∧ Below w.heap.size w w' := by
  by_cases hn0 : n0 ≤ 1048576
  rotate_left
  · have hlt : (1048576 : Int) < (n0 : Int) := by omega
    go_enter Try.func11, Try.ntmps11
    go_wp2_with fail
    go_ret
    exact ⟨rfl, keeps_refl w⟩
  have h0 := wa0.ints (by omega)
  by_cases hn1 : n1 ≤ 1048576
  rotate_left
  · have hlt : (1048576 : Int) < (n1 : Int) := by omega
    go_enter Try.func11, Try.ntmps11
    go_wp2_with fail
    go_ret
    exact ⟨rfl, keeps_refl w⟩
  have h1 := wa1.ints (by omega)
  by_cases hn2 : n2 ≤ 1048576
  rotate_left
  · have hlt : (1048576 : Int) < (n2 : Int) := by omega
    go_enter Try.func11, Try.ntmps11
    go_wp2_with fail
    go_ret
    exact ⟨rfl, keeps_refl w⟩
  have h2 := wa2.ints (by omega)
  obtain ⟨r0, r1, HR⟩ := AdjR_one z0 z1 z2 a3
  go_enter Try.func11, Try.ntmps11
  go_wp2_with fail
  go_wp2_with fail
  refine (toIntS_any h0).mono ?_
  rintro e w1 ⟨By0, rfl, y0, k1⟩
  have s1 := k1.size
  replace h0 := h0.keeps k1
  replace h1 := h1.keeps k1
  replace h2 := h2.keeps k1
  have bel := k1
  have sz := s1
  go_wp2_with fail
  refine (toIntS_any h1).mono ?_
  rintro e w2 ⟨By1, rfl, y1, k2⟩
  have s2 := k2.size
  replace h0 := h0.keeps k2
  replace h1 := h1.keeps k2
  replace h2 := h2.keeps k2
  replace y0 := y0.keeps k2
  replace bel := below_keeps bel sz k2
  replace sz := Nat.le_trans sz s2
  go_wp2_with fail
  refine (toIntS_any h2).mono ?_
  rintro e w3 ⟨By2, rfl, y2, k3⟩
  have s3 := k3.size
  replace h0 := h0.keeps k3
  replace h1 := h1.keeps k3
  replace h2 := h2.keeps k3
  replace y0 := y0.keeps k3
  replace y1 := y1.keeps k3
  replace bel := below_keeps bel sz k3
  replace sz := Nat.le_trans sz s3
  go_wp2_with fail
  refine (spec_AdjustTo_any y0.1 y1.1 y2.1 wa3).mono ?_
  rintro e w4 ⟨pA0, pN0, pC0, pV0, pV1, rfl, p0, pR, k4⟩
  obtain ⟨rfl, rfl⟩ := HR.out _ _ pR
  clear pR
  have s4 := k4.size
  replace h0 := h0.keeps k4
  replace h1 := h1.keeps k4
  replace h2 := h2.keeps k4
  replace y0 := y0.keeps k4
  replace y1 := y1.keeps k4
  replace y2 := y2.keeps k4
  replace bel := below_keeps bel sz k4
  replace sz := Nat.le_trans sz s4
  clear y0
  clear y1
  clear y2
  go_wp2_with fail
  refine (toIntS_any h0).mono ?_
  rintro e w5 ⟨Bx0, rfl, x0, k5⟩
  have s5 := k5.size
  replace h0 := h0.keeps k5
  replace h1 := h1.keeps k5
  replace h2 := h2.keeps k5
  replace p0 := p0.keeps k5
  replace bel := below_keeps bel sz k5
  replace sz := Nat.le_trans sz s5
  go_wp2_with fail
  refine (toIntS_any h1).mono ?_
  rintro e w6 ⟨Bx1, rfl, x1, k6⟩
  have s6 := k6.size
  replace h0 := h0.keeps k6
  replace h1 := h1.keeps k6
  replace h2 := h2.keeps k6
  replace p0 := p0.keeps k6
  replace x0 := x0.keeps k6
  replace bel := below_keeps bel sz k6
  replace sz := Nat.le_trans sz s6
  go_wp2_with fail
  refine (toIntS_any h2).mono ?_
  rintro e w7 ⟨Bx2, rfl, x2, k7⟩
  have s7 := k7.size
  replace h0 := h0.keeps k7
  replace h1 := h1.keeps k7
  replace h2 := h2.keeps k7
  replace p0 := p0.keeps k7
  replace x0 := x0.keeps k7
  replace x1 := x1.keeps k7
  replace bel := below_keeps bel sz k7
  replace sz := Nat.le_trans sz s7
  go_wp2_with fail
  refine (impl_AdjustTo_any x0.1 x1.1 x2.1 wa3).mono ?_
  rintro e w8 ⟨gA0, gN0, gC0, gV0, gV1, rfl, g0, gR, k8⟩
  obtain ⟨rfl, rfl⟩ := HR.out _ _ gR
  clear gR
  have s8 := k8.size
  replace h0 := h0.keeps k8
  replace h1 := h1.keeps k8
  replace h2 := h2.keeps k8
  replace p0 := p0.keeps k8
  replace x0 := x0.keeps k8
  replace x1 := x1.keeps k8
  replace x2 := x2.keeps k8
  replace bel := below_keeps bel sz k8
  replace sz := Nat.le_trans sz s8
  have e1 : (r1 != r1) = false := by simp
  go_wp2_with fail
  refine (eqIntS_true g0.1 p0.1).mono ?_
  rintro e w9 ⟨rfl, k9⟩
  replace k9 := Quiet.keeps k9
  have s9 := k9.size
  replace h0 := h0.keeps k9
  replace h1 := h1.keeps k9
  replace h2 := h2.keeps k9
  replace p0 := p0.keeps k9
  replace x0 := x0.keeps k9
  replace x1 := x1.keeps k9
  replace x2 := x2.keeps k9
  replace g0 := g0.keeps k9
  replace bel := below_keeps bel sz k9
  replace sz := Nat.le_trans sz s9
  go_wp2_with fail
  refine (toIntS_any h0).mono ?_
  rintro e w10 ⟨Bt0, rfl, t0, k10⟩
  have s10 := k10.size
  replace h0 := h0.keeps k10
  replace h1 := h1.keeps k10
  replace h2 := h2.keeps k10
  replace p0 := p0.keeps k10
  replace x0 := x0.keeps k10
  replace x1 := x1.keeps k10
  replace x2 := x2.keeps k10
  replace g0 := g0.keeps k10
  replace bel := below_keeps bel sz k10
  replace sz := Nat.le_trans sz s10
  go_wp2_with fail
  refine (eqIntS_true x0.1 t0.1).mono ?_
  rintro e w11 ⟨rfl, k11⟩
  replace k11 := Quiet.keeps k11
  have s11 := k11.size
  replace h0 := h0.keeps k11
  replace h1 := h1.keeps k11
  replace h2 := h2.keeps k11
  replace p0 := p0.keeps k11
  replace x0 := x0.keeps k11
  replace x1 := x1.keeps k11
  replace x2 := x2.keeps k11
  replace g0 := g0.keeps k11
  replace t0 := t0.keeps k11
  replace bel := below_keeps bel sz k11
  replace sz := Nat.le_trans sz s11
  clear t0
  go_wp2_with fail
  refine (toIntS_any h1).mono ?_
  rintro e w12 ⟨Bt1, rfl, t1, k12⟩
  have s12 := k12.size
  replace h0 := h0.keeps k12
  replace h1 := h1.keeps k12
  replace h2 := h2.keeps k12
  replace p0 := p0.keeps k12
  replace x0 := x0.keeps k12
  replace x1 := x1.keeps k12
  replace x2 := x2.keeps k12
  replace g0 := g0.keeps k12
  replace bel := below_keeps bel sz k12
  replace sz := Nat.le_trans sz s12
  go_wp2_with fail
  refine (eqIntS_true x1.1 t1.1).mono ?_
  rintro e w13 ⟨rfl, k13⟩
  replace k13 := Quiet.keeps k13
  have s13 := k13.size
  replace h0 := h0.keeps k13
  replace h1 := h1.keeps k13
  replace h2 := h2.keeps k13
  replace p0 := p0.keeps k13
  replace x0 := x0.keeps k13
  replace x1 := x1.keeps k13
  replace x2 := x2.keeps k13
  replace g0 := g0.keeps k13
  replace t1 := t1.keeps k13
  replace bel := below_keeps bel sz k13
  replace sz := Nat.le_trans sz s13
  clear t1
  go_wp2_with fail
  refine (toIntS_any h2).mono ?_
  rintro e w14 ⟨Bt2, rfl, t2, k14⟩
  have s14 := k14.size
  replace h0 := h0.keeps k14
  replace h1 := h1.keeps k14
  replace h2 := h2.keeps k14
  replace p0 := p0.keeps k14
  replace x0 := x0.keeps k14
  replace x1 := x1.keeps k14
  replace x2 := x2.keeps k14
  replace g0 := g0.keeps k14
  replace bel := below_keeps bel sz k14
  replace sz := Nat.le_trans sz s14
  go_wp2_with fail
  refine (eqIntS_true x2.1 t2.1).mono ?_
  rintro e w15 ⟨rfl, k15⟩
  replace k15 := Quiet.keeps k15
  have s15 := k15.size
  replace h0 := h0.keeps k15
  replace h1 := h1.keeps k15
  replace h2 := h2.keeps k15
  replace p0 := p0.keeps k15
  replace x0 := x0.keeps k15
  replace x1 := x1.keeps k15
  replace x2 := x2.keeps k15
  replace g0 := g0.keeps k15
  replace t2 := t2.keeps k15
  replace bel := below_keeps bel sz k15
  replace sz := Nat.le_trans sz s15
  clear t2
  go_wp2_with fail
  refine (markIntS_any x0 (by omega) (by omega)).mono ?_
  rintro e w16 ⟨rfl, mk16, f16⟩
  have s16 := f16.size
  clear x0
  replace h0 := h0.fr f16 (by omega)
  replace h1 := h1.fr f16 (by omega)
  replace h2 := h2.fr f16 (by omega)
  replace p0 := p0.fr f16 (by omega)
  replace x1 := x1.fr f16 (by omega)
  replace x2 := x2.fr f16 (by omega)
  replace g0 := g0.fr f16 (by omega)
  replace bel := below_fr bel sz (by omega) f16
  replace sz := Nat.le_trans sz s16
  go_wp2_with fail
  refine (markIntS_any x1 (by omega) (by omega)).mono ?_
  rintro e w17 ⟨rfl, mk17, f17⟩
  have s17 := f17.size
  clear x1
  replace h0 := h0.fr f17 (by omega)
  replace h1 := h1.fr f17 (by omega)
  replace h2 := h2.fr f17 (by omega)
  replace p0 := p0.fr f17 (by omega)
  replace x2 := x2.fr f17 (by omega)
  replace g0 := g0.fr f17 (by omega)
  replace bel := below_fr bel sz (by omega) f17
  replace sz := Nat.le_trans sz s17
  go_wp2_with fail
  refine (markIntS_any x2 (by omega) (by omega)).mono ?_
  rintro e w18 ⟨rfl, mk18, f18⟩
  have s18 := f18.size
  clear x2
  replace h0 := h0.fr f18 (by omega)
  replace h1 := h1.fr f18 (by omega)
  replace h2 := h2.fr f18 (by omega)
  replace p0 := p0.fr f18 (by omega)
  replace g0 := g0.fr f18 (by omega)
  replace bel := below_fr bel sz (by omega) f18
  replace sz := Nat.le_trans sz s18
  go_wp2_with fail
  refine (eqIntS_true g0.1 p0.1).mono ?_
  rintro e w19 ⟨rfl, k19⟩
  replace k19 := Quiet.keeps k19
  have s19 := k19.size
  replace h0 := h0.keeps k19
  replace h1 := h1.keeps k19
  replace h2 := h2.keeps k19
  replace p0 := p0.keeps k19
  replace g0 := g0.keeps k19
  replace bel := below_keeps bel sz k19
  replace sz := Nat.le_trans sz s19
  go_wp2_with fail
  refine (markIntS_any g0 (by omega) (by omega)).mono ?_
  rintro e w20 ⟨rfl, mk20, f20⟩
  have s20 := f20.size
  clear g0
  replace h0 := h0.fr f20 (by omega)
  replace h1 := h1.fr f20 (by omega)
  replace h2 := h2.fr f20 (by omega)
  replace p0 := p0.fr f20 (by omega)
  replace bel := below_fr bel sz (by omega) f20
  replace sz := Nat.le_trans sz s20
  have u1 : ((1 + (gN0 : Int)) != (1 + (gN0 : Int))) = false := by simp
  go_wp2_with fail
  refine (heldIntS_any mk20.1 (by omega) (by omega)).mono ?_
  rintro e w21 ⟨rfl, q21⟩
  subst q21
  go_wp2_with fail
  refine (toIntS_any h0).mono ?_
  rintro e w22 ⟨Bv0, rfl, v0, k22⟩
  have s22 := k22.size
  replace h0 := h0.keeps k22
  replace h1 := h1.keeps k22
  replace h2 := h2.keeps k22
  replace p0 := p0.keeps k22
  replace mk20 := mk20.keeps k22
  replace bel := below_keeps bel sz k22
  replace sz := Nat.le_trans sz s22
  go_wp2_with fail
  refine (toIntS_any h1).mono ?_
  rintro e w23 ⟨Bv1, rfl, v1, k23⟩
  have s23 := k23.size
  replace h0 := h0.keeps k23
  replace h1 := h1.keeps k23
  replace h2 := h2.keeps k23
  replace p0 := p0.keeps k23
  replace mk20 := mk20.keeps k23
  replace v0 := v0.keeps k23
  replace bel := below_keeps bel sz k23
  replace sz := Nat.le_trans sz s23
  go_wp2_with fail
  refine (toIntS_any h2).mono ?_
  rintro e w24 ⟨Bv2, rfl, v2, k24⟩
  have s24 := k24.size
  replace h0 := h0.keeps k24
  replace h1 := h1.keeps k24
  replace h2 := h2.keeps k24
  replace p0 := p0.keeps k24
  replace mk20 := mk20.keeps k24
  replace v0 := v0.keeps k24
  replace v1 := v1.keeps k24
  replace bel := below_keeps bel sz k24
  replace sz := Nat.le_trans sz s24
  go_wp2_with fail
  refine (impl_AdjustTo_any v0.1 v1.1 v2.1 wa3).mono ?_
  rintro e w25 ⟨h_A0, h_N0, h_C0, h_V0, h_V1, rfl, h_0, h_R, k25⟩
  obtain ⟨rfl, rfl⟩ := HR.out _ _ h_R
  clear h_R
  have s25 := k25.size
  replace h0 := h0.keeps k25
  replace h1 := h1.keeps k25
  replace h2 := h2.keeps k25
  replace p0 := p0.keeps k25
  replace mk20 := mk20.keeps k25
  replace v0 := v0.keeps k25
  replace v1 := v1.keeps k25
  replace v2 := v2.keeps k25
  replace bel := below_keeps bel sz k25
  replace sz := Nat.le_trans sz s25
  go_wp2_with fail
  refine (eqIntS_true h_0.1 p0.1).mono ?_
  rintro e w26 ⟨rfl, k26⟩
  replace k26 := Quiet.keeps k26
  have s26 := k26.size
  replace h0 := h0.keeps k26
  replace h1 := h1.keeps k26
  replace h2 := h2.keeps k26
  replace p0 := p0.keeps k26
  replace mk20 := mk20.keeps k26
  replace v0 := v0.keeps k26
  replace v1 := v1.keeps k26
  replace v2 := v2.keeps k26
  replace h_0 := h_0.keeps k26
  replace bel := below_keeps bel sz k26
  replace sz := Nat.le_trans sz s26
  go_wp2_with fail
  refine (heldIntS_any mk20.1 (by omega) (by omega)).mono ?_
  rintro e w27 ⟨rfl, q27⟩
  subst q27
  go_wp2_with fail
  go_ret
  exact ⟨rfl, bel⟩
end Go.Proofs.Ytdfpgohfnabflaa
