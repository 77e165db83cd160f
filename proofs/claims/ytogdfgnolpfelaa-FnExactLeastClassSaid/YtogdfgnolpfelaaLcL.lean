/- The law FnExactLeastClass: the walk. -/
import Derived.Test.YtogdfgnolpfelaaLc
import Derived.Test.YtogdfgnolpfelaaOpV
import Derived.Test.YtogdfgnolpfelaaKB
import Derived.Deep.RegionHeld3
namespace Go.Proofs.Ytogdfgnolpfelaa
open Go.ChangeShapes Go.WideShapes Go.ChangeAt Go.RowKit
set_option linter.unusedVariables false
set_option linter.unusedSimpArgs false
set_option maxRecDepth 100000 in
set_option maxHeartbeats 6400000 in
theorem FnExactLeastClass_law (A0 : Option Addr) (n0 c0 : Nat) (z0 : List VV) (A1 : Option Addr) (n1 c1 : Nat) (z1 : List RR) (A2 : Option Addr) (n2 c2 : Nat) (z2 : List Int) (w : World) (wa0 : VarsArg w A0 n0 z0) (wa1 : RecsArg w A1 n1 z1) (wa2 : IntsArg w A2 n2 z2) :
    Calls Try.prog 4 #[.slice A0 n0 c0, .slice A1 n1 c1, .slice A2 n2 c2] w fun e w' => e = .returned (.bool true) ∧ Below w.heap.size w w' := by
  by_cases hn2 : n2 ≤ 1048576
  rotate_left
  · have hlt : (1048576 : Int) < (n2 : Int) := by omega
    go_enter Try.func4, Try.ntmps4
    have kw := keeps_refl w
    go_wp2_with fail
    go_ret
    exact ⟨rfl, kw⟩
  have h2 := wa2.ints (by omega)
  have HNK := hid (show NamesOk z0 from wa0.2.2.1)
  go_enter Try.func4, Try.ntmps4
  have kw := keeps_refl w
  go_wp2_with fail
  by_cases hs0 : ((n0 : Int) + vsz z0 n0) ≤ 1048576
  rotate_left
  · have hm0 := wa0.1
    refine (szVariableS_any (left := 1048576) (wa0.keeps kw) (by omega) (by omega)).mono ?_
    rintro e w1 ⟨rfl, k1⟩
    rw [szVs_no (left := 1048576) (n := n0) (l := z0) (by omega)]
    have ss2 := k1.size
    replace kw := Keeps.trans kw k1
    have sz3 := kw.size
    clear k1
    go_wp2_with fail
    go_ret
    exact ⟨rfl, kw⟩
  have h0 := wa0.vars (by omega)
  refine (szVariableS_any (left := 1048576) (wa0.keeps kw) (by omega) (by omega)).mono ?_
  rintro e w1 ⟨rfl, k1⟩
  rw [szVs_ok (left := 1048576) (n := n0) (l := z0) (by omega)]
  have ss2 := k1.size
  replace kw := Keeps.trans kw k1
  have sz3 := kw.size
  clear k1
  have tz0 : ¬ (1048576 - ((n0 : Int) + vsz z0 n0) < 0) := by omega
  go_wp2_with fail
  by_cases hs1 : ((n1 : Int) + rsz z1 n1) ≤ 1048576 - ((n0 : Int) + vsz z0 n0)
  rotate_left
  · have hm1 := wa1.1
    refine (szRecordS_any (left := 1048576 - ((n0 : Int) + vsz z0 n0)) (wa1.keeps kw) (by omega) (by omega)).mono ?_
    rintro e w4 ⟨rfl, k4⟩
    rw [szRs_no (left := 1048576 - ((n0 : Int) + vsz z0 n0)) (n := n1) (l := z1) (by omega)]
    have ss5 := k4.size
    replace kw := Keeps.trans kw k4
    have sz6 := kw.size
    clear k4
    go_wp2_with fail
    go_ret
    exact ⟨rfl, kw⟩
  have h1 := wa1.recs (by omega)
  refine (szRecordS_any (left := 1048576 - ((n0 : Int) + vsz z0 n0)) (wa1.keeps kw) (by omega) (by omega)).mono ?_
  rintro e w4 ⟨rfl, k4⟩
  rw [szRs_ok (left := 1048576 - ((n0 : Int) + vsz z0 n0)) (n := n1) (l := z1) (by omega)]
  have ss5 := k4.size
  replace kw := Keeps.trans kw k4
  have sz6 := kw.size
  clear k4
  have tz1 : ¬ (1048576 - ((n0 : Int) + vsz z0 n0) - ((n1 : Int) + rsz z1 n1) < 0) := by omega
  go_wp2_with fail
  obtain ⟨r0, r1, HR⟩ : ∃ r0 r1, Hid (lcQ z0 z1 z2 = (r0, r1)) := ⟨_, _, rfl⟩
  refine (toVariableS_any (h0.keeps kw)).mono ?_
  rintro e w7 ⟨By0, rfl, y0, k7⟩
  have ss8 := k7.size
  replace kw := Keeps.trans kw k7
  have sz9 := kw.size
  clear k7
  go_wp2_with fail
  refine (toRecordS_any (h1.keeps kw)).mono ?_
  rintro e w10 ⟨By1, rfl, y1, k10⟩
  have ss11 := k10.size
  replace y0 := y0.keeps k10
  replace kw := Keeps.trans kw k10
  have sz12 := kw.size
  clear k10
  go_wp2_with fail
  refine (toIntS_any (h2.keeps kw)).mono ?_
  rintro e w13 ⟨By2, rfl, y2, k13⟩
  have ss14 := k13.size
  replace y0 := y0.keeps k13
  replace y1 := y1.keeps k13
  replace kw := Keeps.trans kw k13
  have sz15 := kw.size
  clear k13
  go_wp2_with fail
  refine (specLeastClass_any y0.1 HNK.out y1.1 y2.1).mono ?_
  rintro e w16 ⟨rfl, k16⟩
  rw [HR.out]
  have ss17 := k16.size
  replace y0 := y0.keeps k16
  replace y1 := y1.keeps k16
  replace y2 := y2.keeps k16
  replace kw := Keeps.trans kw k16
  have sz18 := kw.size
  clear k16
  clear y0
  clear y1
  clear y2
  go_wp2_with fail
  refine (toVariableS_any (h0.keeps kw)).mono ?_
  rintro e w19 ⟨Bx0, rfl, x0, k19⟩
  have ss20 := k19.size
  replace kw := Keeps.trans kw k19
  have sz21 := kw.size
  clear k19
  go_wp2_with fail
  refine (toRecordS_any (h1.keeps kw)).mono ?_
  rintro e w22 ⟨Bx1, rfl, x1, k22⟩
  have ss23 := k22.size
  replace x0 := x0.keeps k22
  replace kw := Keeps.trans kw k22
  have sz24 := kw.size
  clear k22
  go_wp2_with fail
  refine (toIntS_any (h2.keeps kw)).mono ?_
  rintro e w25 ⟨Bx2, rfl, x2, k25⟩
  have ss26 := k25.size
  replace x0 := x0.keeps k25
  replace x1 := x1.keeps k25
  replace kw := Keeps.trans kw k25
  have sz27 := kw.size
  clear k25
  go_wp2_with fail
  refine (implLeastClass_any x0.1 HNK.out x1.1 x2.1).mono ?_
  rintro e w28 ⟨rfl, k28⟩
  rw [HR.out]
  have ss29 := k28.size
  replace x0 := x0.keeps k28
  replace x1 := x1.keeps k28
  replace x2 := x2.keeps k28
  replace kw := Keeps.trans kw k28
  have sz30 := kw.size
  clear k28
  go_wp2_with fail
  have e0 : (r0 != r0) = false := by simp
  have e1 : (r1 != r1) = false := by simp
  refine (toVariableS_any (h0.keeps kw)).mono ?_
  rintro e w31 ⟨Bt0, rfl, t0, k31⟩
  have ss32 := k31.size
  replace x0 := x0.keeps k31
  replace x1 := x1.keeps k31
  replace x2 := x2.keeps k31
  replace kw := Keeps.trans kw k31
  have sz33 := kw.size
  clear k31
  go_wp2_with fail
  refine (eqVariableS_true x0.1 t0.1).mono ?_
  rintro e w34 ⟨rfl, k34⟩
  have ss35 := k34.size
  replace x0 := x0.keeps k34
  replace x1 := x1.keeps k34
  replace x2 := x2.keeps k34
  replace t0 := t0.keeps k34
  replace kw := Keeps.trans kw k34
  have sz36 := kw.size
  clear k34
  clear t0
  go_wp2_with fail
  refine (toRecordS_any (h1.keeps kw)).mono ?_
  rintro e w37 ⟨Bt1, rfl, t1, k37⟩
  have ss38 := k37.size
  replace x0 := x0.keeps k37
  replace x1 := x1.keeps k37
  replace x2 := x2.keeps k37
  replace kw := Keeps.trans kw k37
  have sz39 := kw.size
  clear k37
  go_wp2_with fail
  refine (eqRecordS_true x1.1 t1.1).mono ?_
  rintro e w40 ⟨rfl, k40⟩
  have ss41 := k40.size
  replace x0 := x0.keeps k40
  replace x1 := x1.keeps k40
  replace x2 := x2.keeps k40
  replace t1 := t1.keeps k40
  replace kw := Keeps.trans kw k40
  have sz42 := kw.size
  clear k40
  clear t1
  go_wp2_with fail
  refine (toIntS_any (h2.keeps kw)).mono ?_
  rintro e w43 ⟨Bt2, rfl, t2, k43⟩
  have ss44 := k43.size
  replace x0 := x0.keeps k43
  replace x1 := x1.keeps k43
  replace x2 := x2.keeps k43
  replace kw := Keeps.trans kw k43
  have sz45 := kw.size
  clear k43
  go_wp2_with fail
  refine (eqIntS_true x2.1 t2.1).mono ?_
  rintro e w46 ⟨rfl, k46⟩
  replace k46 := Quiet.keeps k46
  have ss47 := k46.size
  replace x0 := x0.keeps k46
  replace x1 := x1.keeps k46
  replace x2 := x2.keeps k46
  replace t2 := t2.keeps k46
  replace kw := Keeps.trans kw k46
  have sz48 := kw.size
  clear k46
  clear t2
  go_wp2_with fail
  go_ret
  exact ⟨rfl, kw⟩
end Go.Proofs.Ytogdfgnolpfelaa
