/- NearestWhole of the reference and of the program: the contracts and the law. -/
import Derived.Test.YtkpliolafkdijaaNw
namespace Go.Proofs.Ytkpliolafkdijaa
open Go.RowKit
set_option linter.unusedVariables false
set_option linter.unusedSimpArgs false

set_option maxRecDepth 100000 in
set_option maxHeartbeats 1600000 in
theorem specNearestWhole_any {A : Option Addr} {lo hi n c : Nat} {l : QL} {z : Int} {w : World} (h : Fracs w lo hi A n l) :
    Calls Try.prog 16 #[.slice A n c, .int .i64 z] w (NRes w (nearQ l z)) := by
  have hn := h.le
  have hl := Fracs.len h
  go_enter Try.func16, Try.ntmps16
  have kw := keeps_refl w
  go_wp2_with fail
  obtain ⟨pH1, H1⟩ : ∃ pB, Hid ((l.all shortQ && inB n 1 30) = pB) := ⟨_, rfl⟩
  refine (wShort_any (h.keeps kw)).mono ?_
  rintro e w1 ⟨rfl, k1⟩
  rw [H1.out]
  replace kw := Keeps.trans kw k1
  have sz2 := kw.size
  clear k1
  cases pH1
  · have HB := hid (show nearB l z = false by unfold nearB; rw [roundB_split, hl, H1.out]; simp)
    have HF := hid (nearQ_no HB.out)
    go_wp2_with fail
    go_ret2
    exact ⟨none, 0, 0, by rw [HF.out]; rfl, by rw [HF.out]; exact Mine.nil_ _ _, kw⟩
  · skip
    go_wp2_with fail
    obtain ⟨pH2, H2⟩ : ∃ pB, Hid (l.all fewQ = pB) := ⟨_, rfl⟩
    refine (wFew_any (h.keeps kw)).mono ?_
    rintro e w3 ⟨rfl, k3⟩
    rw [H2.out]
    replace kw := Keeps.trans kw k3
    have sz4 := kw.size
    clear k3
    cases pH2
    · have HB := hid (show nearB l z = false by unfold nearB; rw [roundB_split, H2.out]; simp)
      have HF := hid (nearQ_no HB.out)
      go_wp2_with fail
      go_ret2
      exact ⟨none, 0, 0, by rw [HF.out]; rfl, by rw [HF.out]; exact Mine.nil_ _ _, kw⟩
    · skip
      go_wp2_with fail
      obtain ⟨pH3, H3⟩ : ∃ pB, Hid (inB z 0 5000 = pB) := ⟨_, rfl⟩
      refine (l1In_any _ _ _ _).mono ?_
      rintro e w' ⟨rfl, rfl⟩
      rw [H3.out]
      cases pH3
      · have HB := hid (show nearB l z = false by unfold nearB; rw [H3.out]; simp)
        have HF := hid (nearQ_no HB.out)
        go_wp2_with fail
        go_ret2
        exact ⟨none, 0, 0, by rw [HF.out]; rfl, by rw [HF.out]; exact Mine.nil_ _ _, kw⟩
      · skip
        have HB := hid (show nearB l z = true by unfold nearB; rw [roundB_split, hl, H1.out, H2.out, H3.out]; rfl)
        have kw0 := kw
        go_wp2_with fail
        have HF := hid (nearQ_yes HB.out)
        refine (wNearest_any (h.keeps kw) HB.out).mono ?_
        rintro e w5 ⟨A', N', C', rfl, hm, k5⟩
        replace kw := Keeps.trans kw k5
        have sz6 := kw.size
        clear k5
        go_wp2_with fail
        have hm2 := hm.widen (lo' := w.heap.size) kw0.size (Nat.le_refl _) (Nat.le_refl _)
        go_ret2
        exact ⟨A', N', C', by rw [HF.out]; rfl, by rw [HF.out]; exact hm2, kw⟩
set_option maxRecDepth 100000 in
set_option maxHeartbeats 1600000 in
theorem implNearestWhole_any {A : Option Addr} {lo hi n c : Nat} {l : QL} {z : Int} {w : World} (h : Fracs w lo hi A n l) :
    Calls Try.prog 18 #[.slice A n c, .int .i64 z] w (NRes w (nearQ l z)) := by
  have hn := h.le
  have hl := Fracs.len h
  go_enter Try.func18, Try.ntmps18
  have kw := keeps_refl w
  go_wp2_with fail
  obtain ⟨pH1, H1⟩ : ∃ pB, Hid (roundB l = pB) := ⟨_, rfl⟩
  refine (areRoundable_any (h.keeps kw)).mono ?_
  rintro e w1 ⟨rfl, k1⟩
  rw [H1.out]
  replace kw := Keeps.trans kw k1
  have sz2 := kw.size
  clear k1
  cases pH1
  · have HB := hid (show nearB l z = false by unfold nearB; rw [H1.out]; simp)
    have HF := hid (nearQ_no HB.out)
    go_wp2_with fail
    go_ret2
    exact ⟨none, 0, 0, by rw [HF.out]; rfl, by rw [HF.out]; exact Mine.nil_ _ _, kw⟩
  · skip
    by_cases h1 : ¬ z < 0
    rotate_left
    · have h2 : z < 0 := by omega
      have HB := hid (show nearB l z = false by unfold nearB; rw [show inB z 0 5000 = false by rw [Bool.eq_false_iff]; intro q; have := inB_true.1 q; omega]; simp)
      have HF := hid (nearQ_no HB.out)
      go_wp2_with fail
      go_ret2
      exact ⟨none, 0, 0, by rw [HF.out]; rfl, by rw [HF.out]; exact Mine.nil_ _ _, kw⟩
    by_cases h2 : ¬ 5000 < z
    rotate_left
    · have h3 : 5000 < z := by omega
      have HB := hid (show nearB l z = false by unfold nearB; rw [show inB z 0 5000 = false by rw [Bool.eq_false_iff]; intro q; have := inB_true.1 q; omega]; simp)
      have HF := hid (nearQ_no HB.out)
      go_wp2_with fail
      go_ret2
      exact ⟨none, 0, 0, by rw [HF.out]; rfl, by rw [HF.out]; exact Mine.nil_ _ _, kw⟩
    have HB := hid (show nearB l z = true by unfold nearB; rw [H1.out, inB_true.2 (by omega)]; rfl)
    have kw0 := kw
    go_wp2_with fail
    have HF := hid (nearQ_yes HB.out)
    refine (nearestWhole_any (h.keeps kw) HB.out).mono ?_
    rintro e w3 ⟨A', N', C', rfl, hm, k3⟩
    replace kw := Keeps.trans kw k3
    have sz4 := kw.size
    clear k3
    go_wp2_with fail
    have hm2 := hm.widen (lo' := w.heap.size) kw0.size (Nat.le_refl _) (Nat.le_refl _)
    go_ret2
    exact ⟨A', N', C', by rw [HF.out]; rfl, by rw [HF.out]; exact hm2, kw⟩
set_option maxRecDepth 100000 in
set_option maxHeartbeats 1600000 in
theorem FnExactNearestWhole_law (A0 : Option Addr) (n0 c0 : Nat) (z0 : List (Int × Int)) (a1 : Int) (w : World) (wa0 : FracsArg w A0 n0 z0) (wa1 : (Lit.int .i64 a1).wf = true) :
    Calls Try.prog 3 #[.slice A0 n0 c0, .int .i64 a1] w fun e w' => e = .returned (.bool true) ∧ Below w.heap.size w w' := by
  go_enter Try.func3, Try.ntmps3
  have kw := keeps_refl w
  go_wp2_with fail
  by_cases hs0 : (n0 : Int) ≤ 1048576
  rotate_left
  · have hm0 := wa0.1
    refine (szFracS_any (left := 1048576) wa0.1 (by omega) (by omega)).mono ?_
    rintro e w' ⟨rfl, rfl⟩
    rw [szI_no (left := 1048576) (n := n0) (by omega)]
    go_wp2_with fail
    go_ret
    exact ⟨rfl, kw⟩
  have h0 := wa0.fracs (by omega)
  refine (szFracS_any (left := 1048576) wa0.1 (by omega) (by omega)).mono ?_
  rintro e w' ⟨rfl, rfl⟩
  rw [szI_ok (left := 1048576) (n := n0) (by omega)]
  have tz0 : ¬ (1048576 - (n0 : Int) < 0) := by omega
  go_wp2_with fail
  obtain ⟨r0, r1, HR⟩ : ∃ r0 r1, Hid (nearQ z0 a1 = (r0, r1)) := ⟨_, _, rfl⟩
  refine (toFracS_any (h0.keeps kw)).mono ?_
  rintro e w1 ⟨By0, rfl, y0, k1⟩
  have ss2 := k1.size
  replace kw := Keeps.trans kw k1
  have sz3 := kw.size
  clear k1
  go_wp2_with fail
  refine (specNearestWhole_any y0.1).mono ?_
  rintro e w4 ⟨p_A0, p_N0, p_C0, rfl, p_0, k4⟩
  have ss5 := k4.size
  replace y0 := y0.keeps k4
  replace kw := Keeps.trans kw k4
  have sz6 := kw.size
  clear k4
  rw [HR.out]
  rw [HR.out] at p_0
  clear y0
  go_wp2_with fail
  refine (toFracS_any (h0.keeps kw)).mono ?_
  rintro e w7 ⟨Bx0, rfl, x0, k7⟩
  have ss8 := k7.size
  replace p_0 := p_0.keeps k7
  replace kw := Keeps.trans kw k7
  have sz9 := kw.size
  clear k7
  go_wp2_with fail
  refine (implNearestWhole_any x0.1).mono ?_
  rintro e w10 ⟨g_A0, g_N0, g_C0, rfl, g_0, k10⟩
  have ss11 := k10.size
  replace p_0 := p_0.keeps k10
  replace x0 := x0.keeps k10
  replace kw := Keeps.trans kw k10
  have sz12 := kw.size
  clear k10
  rw [HR.out]
  rw [HR.out] at g_0
  go_wp2_with fail
  have e1 : (r1 != r1) = false := by simp
  refine (eqIntS_true g_0.1 p_0.1).mono ?_
  rintro e w13 ⟨rfl, k13⟩
  replace k13 := Quiet.keeps k13
  have ss14 := k13.size
  replace p_0 := p_0.keeps k13
  replace x0 := x0.keeps k13
  replace g_0 := g_0.keeps k13
  replace kw := Keeps.trans kw k13
  have sz15 := kw.size
  clear k13
  go_wp2_with fail
  refine (toFracS_any (h0.keeps kw)).mono ?_
  rintro e w16 ⟨Bt0, rfl, t0, k16⟩
  have ss17 := k16.size
  replace p_0 := p_0.keeps k16
  replace x0 := x0.keeps k16
  replace g_0 := g_0.keeps k16
  replace kw := Keeps.trans kw k16
  have sz18 := kw.size
  clear k16
  go_wp2_with fail
  refine (eqFracS_true x0.1 t0.1).mono ?_
  rintro e w19 ⟨rfl, k19⟩
  have ss20 := k19.size
  replace p_0 := p_0.keeps k19
  replace x0 := x0.keeps k19
  replace g_0 := g_0.keeps k19
  replace t0 := t0.keeps k19
  replace kw := Keeps.trans kw k19
  have sz21 := kw.size
  clear k19
  clear t0
  go_wp2_with fail
  refine (markFracS_any x0 (by omega) (by omega)).mono ?_
  rintro e w22 ⟨rfl, mk22, f22⟩
  clear x0
  replace p_0 := p_0.fr f22 (by omega)
  replace g_0 := g_0.fr f22 (by omega)
  have ssf22 := f22.size
  replace kw := below_fr kw kw.size (by omega) f22
  go_wp2_with fail
  clear mk22
  refine (eqIntS_true g_0.1 p_0.1).mono ?_
  rintro e w23 ⟨rfl, k23⟩
  replace k23 := Quiet.keeps k23
  have ss24 := k23.size
  replace p_0 := p_0.keeps k23
  replace g_0 := g_0.keeps k23
  replace kw := Keeps.trans kw k23
  have sz25 := kw.size
  clear k23
  go_wp2_with fail
  refine (markIntS_any g_0 (by omega) (by omega)).mono ?_
  rintro e w26 ⟨rfl, mk26, f26⟩
  clear g_0
  replace p_0 := p_0.fr f26 (by omega)
  have ssf26 := f26.size
  replace kw := below_fr kw kw.size (by omega) f26
  go_wp2_with fail
  have u1 : ((1 + (g_N0 : Int)) != (1 + (g_N0 : Int))) = false := by simp
  refine (heldIntS_any mk26.1 (by omega) (by omega)).mono ?_
  rintro e w' ⟨rfl, rfl⟩
  go_wp2_with fail
  refine (toFracS_any (h0.keeps kw)).mono ?_
  rintro e w27 ⟨Bv0, rfl, v0, k27⟩
  have ss28 := k27.size
  replace p_0 := p_0.keeps k27
  replace mk26 := mk26.keeps k27
  replace kw := Keeps.trans kw k27
  have sz29 := kw.size
  clear k27
  go_wp2_with fail
  refine (implNearestWhole_any v0.1).mono ?_
  rintro e w30 ⟨h_A0, h_N0, h_C0, rfl, h_0, k30⟩
  have ss31 := k30.size
  replace p_0 := p_0.keeps k30
  replace mk26 := mk26.keeps k30
  replace v0 := v0.keeps k30
  replace kw := Keeps.trans kw k30
  have sz32 := kw.size
  clear k30
  rw [HR.out]
  rw [HR.out] at h_0
  clear v0
  go_wp2_with fail
  refine (eqIntS_true h_0.1 p_0.1).mono ?_
  rintro e w33 ⟨rfl, k33⟩
  replace k33 := Quiet.keeps k33
  have ss34 := k33.size
  replace p_0 := p_0.keeps k33
  replace mk26 := mk26.keeps k33
  replace h_0 := h_0.keeps k33
  replace kw := Keeps.trans kw k33
  have sz35 := kw.size
  clear k33
  go_wp2_with fail
  refine (heldIntS_any mk26.1 (by omega) (by omega)).mono ?_
  rintro e w' ⟨rfl, rfl⟩
  go_wp2_with fail
  go_ret
  exact ⟨rfl, kw⟩
end Go.Proofs.Ytkpliolafkdijaa
