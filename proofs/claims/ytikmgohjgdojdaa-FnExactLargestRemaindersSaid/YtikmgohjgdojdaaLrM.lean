/- The laws FnExactLargestRemainders: the walks. -/
import Derived.Test.YtikmgohjgdojdaaLrs
import Derived.Test.YtikmgohjgdojdaaKB
import Derived.Deep.RegionHeld3
namespace Go.Proofs.Ytikmgohjgdojdaa
open Go.ChangeShapes Go.WideShapes Go.ChangeAt Go.RowKit
set_option linter.unusedVariables false
set_option linter.unusedSimpArgs false
set_option maxRecDepth 100000 in
set_option maxHeartbeats 6400000 in
theorem FnExactLargestRemainders_law (A0 : Option Addr) (n0 c0 : Nat) (z0 : List Int) (a1 : Int) (w : World) (wa0 : IntsArg w A0 n0 z0) (wa1 : (Lit.int .i64 a1).wf = true) :
    Calls Try.prog 5 #[.slice A0 n0 c0, .int .i64 a1] w fun e w' => e = .returned (.bool true) ∧ Below w.heap.size w w' := by
  by_cases hn0 : n0 ≤ 1048576
  rotate_left
  · have hlt : (1048576 : Int) < (n0 : Int) := by omega
    go_enter Try.func5, Try.ntmps5
    have kw := keeps_refl w
    go_wp2_with fail
    go_ret
    exact ⟨rfl, kw⟩
  have h0 := wa0.ints (by omega)
  go_enter Try.func5, Try.ntmps5
  have kw := keeps_refl w
  go_wp2_with fail
  obtain ⟨r0, r1, HR⟩ : ∃ r0 r1, Hid (lrQ z0 a1 = (r0, r1)) := ⟨_, _, rfl⟩
  refine (toIntS_any (h0.keeps kw)).mono ?_
  rintro e w1 ⟨By0, rfl, y0, k1⟩
  have ss2 := k1.size
  replace kw := Keeps.trans kw k1
  have sz3 := kw.size
  clear k1
  go_wp2_with fail
  refine (specLargestRemainders_any y0.1).mono ?_
  rintro e w4 ⟨p_A0, p_N0, p_C0, rfl, p_0, k4⟩
  have ss5 := k4.size
  replace y0 := y0.keeps k4
  replace kw := Keeps.trans kw k4
  have sz6 := kw.size
  clear k4
  rw [HR.out]
  rw [HR.out] at p_0
  clear y0
  go_wp2_with fail
  refine (toIntS_any (h0.keeps kw)).mono ?_
  rintro e w7 ⟨Bx0, rfl, x0, k7⟩
  have ss8 := k7.size
  replace p_0 := p_0.keeps k7
  replace kw := Keeps.trans kw k7
  have sz9 := kw.size
  clear k7
  go_wp2_with fail
  refine (implLargestRemainders_any x0.1).mono ?_
  rintro e w10 ⟨g_A0, g_N0, g_C0, rfl, g_0, k10⟩
  have ss11 := k10.size
  replace p_0 := p_0.keeps k10
  replace x0 := x0.keeps k10
  replace kw := Keeps.trans kw k10
  have sz12 := kw.size
  clear k10
  rw [HR.out]
  rw [HR.out] at g_0
  go_wp2_with fail
  have e1 : (r1 != r1) = false := by simp
  refine (eqIntS_true g_0.1 p_0.1).mono ?_
  rintro e w13 ⟨rfl, k13⟩
  replace k13 := Quiet.keeps k13
  have ss14 := k13.size
  replace p_0 := p_0.keeps k13
  replace x0 := x0.keeps k13
  replace g_0 := g_0.keeps k13
  replace kw := Keeps.trans kw k13
  have sz15 := kw.size
  clear k13
  go_wp2_with fail
  refine (toIntS_any (h0.keeps kw)).mono ?_
  rintro e w16 ⟨Bt0, rfl, t0, k16⟩
  have ss17 := k16.size
  replace p_0 := p_0.keeps k16
  replace x0 := x0.keeps k16
  replace g_0 := g_0.keeps k16
  replace kw := Keeps.trans kw k16
  have sz18 := kw.size
  clear k16
  go_wp2_with fail
  refine (eqIntS_true x0.1 t0.1).mono ?_
  rintro e w19 ⟨rfl, k19⟩
  replace k19 := Quiet.keeps k19
  have ss20 := k19.size
  replace p_0 := p_0.keeps k19
  replace x0 := x0.keeps k19
  replace g_0 := g_0.keeps k19
  replace t0 := t0.keeps k19
  replace kw := Keeps.trans kw k19
  have sz21 := kw.size
  clear k19
  clear t0
  go_wp2_with fail
  refine (markIntS_any x0 (by omega) (by omega)).mono ?_
  rintro e w22 ⟨rfl, mk22, f22⟩
  clear x0
  replace p_0 := p_0.fr f22 (by omega)
  replace g_0 := g_0.fr f22 (by omega)
  have ssf22 := f22.size
  replace kw := below_fr kw kw.size (by omega) f22
  go_wp2_with fail
  clear mk22
  refine (eqIntS_true g_0.1 p_0.1).mono ?_
  rintro e w23 ⟨rfl, k23⟩
  replace k23 := Quiet.keeps k23
  have ss24 := k23.size
  replace p_0 := p_0.keeps k23
  replace g_0 := g_0.keeps k23
  replace kw := Keeps.trans kw k23
  have sz25 := kw.size
  clear k23
  go_wp2_with fail
  refine (markIntS_any g_0 (by omega) (by omega)).mono ?_
  rintro e w26 ⟨rfl, mk26, f26⟩
  clear g_0
  replace p_0 := p_0.fr f26 (by omega)
  have ssf26 := f26.size
  replace kw := below_fr kw kw.size (by omega) f26
  go_wp2_with fail
  have u1 : ((1 + (g_N0 : Int)) != (1 + (g_N0 : Int))) = false := by simp
  refine (heldIntS_any mk26.1 (by omega) (by omega)).mono ?_
  rintro e w' ⟨rfl, rfl⟩
  go_wp2_with fail
  refine (toIntS_any (h0.keeps kw)).mono ?_
  rintro e w27 ⟨Bv0, rfl, v0, k27⟩
  have ss28 := k27.size
  replace p_0 := p_0.keeps k27
  replace mk26 := mk26.keeps k27
  replace kw := Keeps.trans kw k27
  have sz29 := kw.size
  clear k27
  go_wp2_with fail
  refine (implLargestRemainders_any v0.1).mono ?_
  rintro e w30 ⟨h_A0, h_N0, h_C0, rfl, h_0, k30⟩
  have ss31 := k30.size
  replace p_0 := p_0.keeps k30
  replace mk26 := mk26.keeps k30
  replace v0 := v0.keeps k30
  replace kw := Keeps.trans kw k30
  have sz32 := kw.size
  clear k30
  rw [HR.out]
  rw [HR.out] at h_0
  clear v0
  go_wp2_with fail
  refine (eqIntS_true h_0.1 p_0.1).mono ?_
  rintro e w33 ⟨rfl, k33⟩
  replace k33 := Quiet.keeps k33
  have ss34 := k33.size
  replace p_0 := p_0.keeps k33
  replace mk26 := mk26.keeps k33
  replace h_0 := h_0.keeps k33
  replace kw := Keeps.trans kw k33
  have sz35 := kw.size
  clear k33
  go_wp2_with fail
  refine (heldIntS_any mk26.1 (by omega) (by omega)).mono ?_
  rintro e w' ⟨rfl, rfl⟩
  go_wp2_with fail
  go_ret
  exact ⟨rfl, kw⟩
end Go.Proofs.Ytikmgohjgdojdaa
