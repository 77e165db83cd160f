/- The laws FnExactAddRelease: the walks. -/
import Derived.Test.YtohjkpopbmmliaaGreatAdr
import Derived.Test.YtohjkpopbmmliaaGreatSepR
import Derived.Test.YtohjkpopbmmliaaGreatRelH
import Derived.Test.YtohjkpopbmmliaaGreatOpV
import Derived.Test.YtohjkpopbmmliaaGreatKB
import Derived.Deep.RegionHeld3
namespace Go.Proofs.YtohjkpopbmmliaaGreat
open Go.ChangeShapes Go.WideShapes Go.ChangeAt Go.RowKit
set_option linter.unusedVariables false
set_option linter.unusedSimpArgs false
set_option maxRecDepth 100000 in
set_option maxHeartbeats 6400000 in
theorem FnExactAddRelease_law (A0 : Option Addr) (n0 c0 : Nat) (z0 : List Int) (A1 : Option Addr) (n1 c1 : Nat) (z1 : List VV) (A2 : Option Addr) (n2 c2 : Nat) (z2 : List RL) (d3a d3b d3c d3d : Int) (A4 : Option Addr) (n4 c4 : Nat) (z4 : List TT) (d5a d5b d5c d5d : Int) (w : World) (wa0 : IntsArg w A0 n0 z0) (wa1 : VarsArg w A1 n1 z1) (wa2 : RelsArg w A2 n2 z2) (wa3 : True) (wa4 : TabsArg w A4 n4 z4) (wa5 : True) :
    Calls Tryz.prog 5 #[.agg #[.slice A0 n0 c0], .slice A1 n1 c1, .slice A2 n2 c2, .agg #[.int .i64 d3a, .int .i64 d3b, .int .i64 d3c, .int .i64 d3d], .slice A4 n4 c4, .agg #[.int .i64 d5a, .int .i64 d5b, .int .i64 d5c, .int .i64 d5d]] w fun e w' => e = .returned (.bool true) ∧ Below w.heap.size w w' := by
  have HNK := hid (show NamesOk z1 from wa1.2.2.1)
  go_enter Tryz.func5, Tryz.ntmps5
  have kw := keeps_refl w
  replace kw := Keeps.trans kw (keeps_alloc w (.cells #[.slice A0 n0 c0] 50))
  have p0 : B1 (w.alloc (.cells #[.slice A0 n0 c0] 50)) w.heap.size (.slice A0 n0 c0) := B1.new' (by simp)
  replace p0 := p0.keeps (keeps_alloc (w.alloc (.cells #[.slice A0 n0 c0] 50)) (.cells #[.int .i64 d3a, .int .i64 d3b, .int .i64 d3c, .int .i64 d3d] 80))
  replace kw := Keeps.trans kw (keeps_alloc (w.alloc (.cells #[.slice A0 n0 c0] 50)) (.cells #[.int .i64 d3a, .int .i64 d3b, .int .i64 d3c, .int .i64 d3d] 80))
  have p3 : Bl ((w.alloc (.cells #[.slice A0 n0 c0] 50)).alloc (.cells #[.int .i64 d3a, .int .i64 d3b, .int .i64 d3c, .int .i64 d3d] 80)) (w.heap.size + 1) [.int .i64 d3a, .int .i64 d3b, .int .i64 d3c, .int .i64 d3d] := Bl.new' (by simp) (by simp)
  replace p0 := p0.keeps (keeps_alloc ((w.alloc (.cells #[.slice A0 n0 c0] 50)).alloc (.cells #[.int .i64 d3a, .int .i64 d3b, .int .i64 d3c, .int .i64 d3d] 80)) (.cells #[.int .i64 d5a, .int .i64 d5b, .int .i64 d5c, .int .i64 d5d] 80))
  replace p3 := p3.keeps (keeps_alloc ((w.alloc (.cells #[.slice A0 n0 c0] 50)).alloc (.cells #[.int .i64 d3a, .int .i64 d3b, .int .i64 d3c, .int .i64 d3d] 80)) (.cells #[.int .i64 d5a, .int .i64 d5b, .int .i64 d5c, .int .i64 d5d] 80))
  replace kw := Keeps.trans kw (keeps_alloc ((w.alloc (.cells #[.slice A0 n0 c0] 50)).alloc (.cells #[.int .i64 d3a, .int .i64 d3b, .int .i64 d3c, .int .i64 d3d] 80)) (.cells #[.int .i64 d5a, .int .i64 d5b, .int .i64 d5c, .int .i64 d5d] 80))
  have p5 : Bl (((w.alloc (.cells #[.slice A0 n0 c0] 50)).alloc (.cells #[.int .i64 d3a, .int .i64 d3b, .int .i64 d3c, .int .i64 d3d] 80)).alloc (.cells #[.int .i64 d5a, .int .i64 d5b, .int .i64 d5c, .int .i64 d5d] 80)) (w.heap.size + 1 + 1) [.int .i64 d5a, .int .i64 d5b, .int .i64 d5c, .int .i64 d5d] := Bl.new' (by simp) (by simp)
  obtain ⟨ca1, fa1⟩ := id p0
  have ca2_0 : (((w.alloc (.cells #[.slice A0 n0 c0] 50)).alloc (.cells #[.int .i64 d3a, .int .i64 d3b, .int .i64 d3c, .int .i64 d3d] 80)).alloc (.cells #[.int .i64 d5a, .int .i64 d5b, .int .i64 d5c, .int .i64 d5d] 80)).cell? ⟨w.heap.size + 1, 0, none⟩ = some (.int .i64 d3a) := (p3.2 0 _ rfl).1
  have fa2_0 : (((w.alloc (.cells #[.slice A0 n0 c0] 50)).alloc (.cells #[.int .i64 d3a, .int .i64 d3b, .int .i64 d3c, .int .i64 d3d] 80)).alloc (.cells #[.int .i64 d5a, .int .i64 d5b, .int .i64 d5c, .int .i64 d5d] 80)).frozen? ⟨w.heap.size + 1, 0, none⟩ = false := (p3.2 0 _ rfl).2
  have ca2_1 : (((w.alloc (.cells #[.slice A0 n0 c0] 50)).alloc (.cells #[.int .i64 d3a, .int .i64 d3b, .int .i64 d3c, .int .i64 d3d] 80)).alloc (.cells #[.int .i64 d5a, .int .i64 d5b, .int .i64 d5c, .int .i64 d5d] 80)).cell? ⟨w.heap.size + 1, 1, none⟩ = some (.int .i64 d3b) := (p3.2 1 _ rfl).1
  have fa2_1 : (((w.alloc (.cells #[.slice A0 n0 c0] 50)).alloc (.cells #[.int .i64 d3a, .int .i64 d3b, .int .i64 d3c, .int .i64 d3d] 80)).alloc (.cells #[.int .i64 d5a, .int .i64 d5b, .int .i64 d5c, .int .i64 d5d] 80)).frozen? ⟨w.heap.size + 1, 1, none⟩ = false := (p3.2 1 _ rfl).2
  have ca2_2 : (((w.alloc (.cells #[.slice A0 n0 c0] 50)).alloc (.cells #[.int .i64 d3a, .int .i64 d3b, .int .i64 d3c, .int .i64 d3d] 80)).alloc (.cells #[.int .i64 d5a, .int .i64 d5b, .int .i64 d5c, .int .i64 d5d] 80)).cell? ⟨w.heap.size + 1, 2, none⟩ = some (.int .i64 d3c) := (p3.2 2 _ rfl).1
  have fa2_2 : (((w.alloc (.cells #[.slice A0 n0 c0] 50)).alloc (.cells #[.int .i64 d3a, .int .i64 d3b, .int .i64 d3c, .int .i64 d3d] 80)).alloc (.cells #[.int .i64 d5a, .int .i64 d5b, .int .i64 d5c, .int .i64 d5d] 80)).frozen? ⟨w.heap.size + 1, 2, none⟩ = false := (p3.2 2 _ rfl).2
  have ca2_3 : (((w.alloc (.cells #[.slice A0 n0 c0] 50)).alloc (.cells #[.int .i64 d3a, .int .i64 d3b, .int .i64 d3c, .int .i64 d3d] 80)).alloc (.cells #[.int .i64 d5a, .int .i64 d5b, .int .i64 d5c, .int .i64 d5d] 80)).cell? ⟨w.heap.size + 1, 3, none⟩ = some (.int .i64 d3d) := (p3.2 3 _ rfl).1
  have fa2_3 : (((w.alloc (.cells #[.slice A0 n0 c0] 50)).alloc (.cells #[.int .i64 d3a, .int .i64 d3b, .int .i64 d3c, .int .i64 d3d] 80)).alloc (.cells #[.int .i64 d5a, .int .i64 d5b, .int .i64 d5c, .int .i64 d5d] 80)).frozen? ⟨w.heap.size + 1, 3, none⟩ = false := (p3.2 3 _ rfl).2
  have ca3_0 : (((w.alloc (.cells #[.slice A0 n0 c0] 50)).alloc (.cells #[.int .i64 d3a, .int .i64 d3b, .int .i64 d3c, .int .i64 d3d] 80)).alloc (.cells #[.int .i64 d5a, .int .i64 d5b, .int .i64 d5c, .int .i64 d5d] 80)).cell? ⟨w.heap.size + 1 + 1, 0, none⟩ = some (.int .i64 d5a) := (p5.2 0 _ rfl).1
  have fa3_0 : (((w.alloc (.cells #[.slice A0 n0 c0] 50)).alloc (.cells #[.int .i64 d3a, .int .i64 d3b, .int .i64 d3c, .int .i64 d3d] 80)).alloc (.cells #[.int .i64 d5a, .int .i64 d5b, .int .i64 d5c, .int .i64 d5d] 80)).frozen? ⟨w.heap.size + 1 + 1, 0, none⟩ = false := (p5.2 0 _ rfl).2
  have ca3_1 : (((w.alloc (.cells #[.slice A0 n0 c0] 50)).alloc (.cells #[.int .i64 d3a, .int .i64 d3b, .int .i64 d3c, .int .i64 d3d] 80)).alloc (.cells #[.int .i64 d5a, .int .i64 d5b, .int .i64 d5c, .int .i64 d5d] 80)).cell? ⟨w.heap.size + 1 + 1, 1, none⟩ = some (.int .i64 d5b) := (p5.2 1 _ rfl).1
  have fa3_1 : (((w.alloc (.cells #[.slice A0 n0 c0] 50)).alloc (.cells #[.int .i64 d3a, .int .i64 d3b, .int .i64 d3c, .int .i64 d3d] 80)).alloc (.cells #[.int .i64 d5a, .int .i64 d5b, .int .i64 d5c, .int .i64 d5d] 80)).frozen? ⟨w.heap.size + 1 + 1, 1, none⟩ = false := (p5.2 1 _ rfl).2
  have ca3_2 : (((w.alloc (.cells #[.slice A0 n0 c0] 50)).alloc (.cells #[.int .i64 d3a, .int .i64 d3b, .int .i64 d3c, .int .i64 d3d] 80)).alloc (.cells #[.int .i64 d5a, .int .i64 d5b, .int .i64 d5c, .int .i64 d5d] 80)).cell? ⟨w.heap.size + 1 + 1, 2, none⟩ = some (.int .i64 d5c) := (p5.2 2 _ rfl).1
  have fa3_2 : (((w.alloc (.cells #[.slice A0 n0 c0] 50)).alloc (.cells #[.int .i64 d3a, .int .i64 d3b, .int .i64 d3c, .int .i64 d3d] 80)).alloc (.cells #[.int .i64 d5a, .int .i64 d5b, .int .i64 d5c, .int .i64 d5d] 80)).frozen? ⟨w.heap.size + 1 + 1, 2, none⟩ = false := (p5.2 2 _ rfl).2
  have ca3_3 : (((w.alloc (.cells #[.slice A0 n0 c0] 50)).alloc (.cells #[.int .i64 d3a, .int .i64 d3b, .int .i64 d3c, .int .i64 d3d] 80)).alloc (.cells #[.int .i64 d5a, .int .i64 d5b, .int .i64 d5c, .int .i64 d5d] 80)).cell? ⟨w.heap.size + 1 + 1, 3, none⟩ = some (.int .i64 d5d) := (p5.2 3 _ rfl).1
  have fa3_3 : (((w.alloc (.cells #[.slice A0 n0 c0] 50)).alloc (.cells #[.int .i64 d3a, .int .i64 d3b, .int .i64 d3c, .int .i64 d3d] 80)).alloc (.cells #[.int .i64 d5a, .int .i64 d5b, .int .i64 d5c, .int .i64 d5d] 80)).frozen? ⟨w.heap.size + 1 + 1, 3, none⟩ = false := (p5.2 3 _ rfl).2
  go_wp2_with fail
  clear ca1 fa1 ca2_0 fa2_0 ca2_1 fa2_1 ca2_2 fa2_2 ca2_3 fa2_3 ca3_0 fa3_0 ca3_1 fa3_1 ca3_2 fa3_2 ca3_3 fa3_3
  by_cases hs0 : (n0 : Int) ≤ 1048576
  rotate_left
  · have hm0 := wa0.1
    refine (szGeo_no _ _ _ (1048576) _ hm0 (by omega) (by omega) (by omega)).mono ?_
    rintro e w4 ⟨rfl, k4⟩
    have ss5 := k4.size
    simp at ss5
    replace p0 := p0.keeps k4
    replace p3 := p3.keeps k4
    replace p5 := p5.keeps k4
    replace kw := Keeps.trans kw k4
    have lt6 := p5.lt
    have sz7 := kw.size
    clear k4
    go_wp2_with fail
    go_ret
    exact ⟨rfl, kw⟩
  have h0 := wa0.ints (by omega)
  refine (szGeo_ok _ _ _ (1048576) _ (by omega) (by omega)).mono ?_
  rintro e w4 ⟨rfl, k4⟩
  have ss5 := k4.size
  simp at ss5
  replace p0 := p0.keeps k4
  replace p3 := p3.keeps k4
  replace p5 := p5.keeps k4
  replace kw := Keeps.trans kw k4
  have lt6 := p5.lt
  have sz7 := kw.size
  clear k4
  have tz0 : ¬ (1048576 - (n0 : Int) < 0) := by omega
  obtain ⟨ca8, fa8⟩ := id p0
  have ca9_0 : w4.cell? ⟨w.heap.size + 1, 0, none⟩ = some (.int .i64 d3a) := (p3.2 0 _ rfl).1
  have fa9_0 : w4.frozen? ⟨w.heap.size + 1, 0, none⟩ = false := (p3.2 0 _ rfl).2
  have ca9_1 : w4.cell? ⟨w.heap.size + 1, 1, none⟩ = some (.int .i64 d3b) := (p3.2 1 _ rfl).1
  have fa9_1 : w4.frozen? ⟨w.heap.size + 1, 1, none⟩ = false := (p3.2 1 _ rfl).2
  have ca9_2 : w4.cell? ⟨w.heap.size + 1, 2, none⟩ = some (.int .i64 d3c) := (p3.2 2 _ rfl).1
  have fa9_2 : w4.frozen? ⟨w.heap.size + 1, 2, none⟩ = false := (p3.2 2 _ rfl).2
  have ca9_3 : w4.cell? ⟨w.heap.size + 1, 3, none⟩ = some (.int .i64 d3d) := (p3.2 3 _ rfl).1
  have fa9_3 : w4.frozen? ⟨w.heap.size + 1, 3, none⟩ = false := (p3.2 3 _ rfl).2
  have ca10_0 : w4.cell? ⟨w.heap.size + 1 + 1, 0, none⟩ = some (.int .i64 d5a) := (p5.2 0 _ rfl).1
  have fa10_0 : w4.frozen? ⟨w.heap.size + 1 + 1, 0, none⟩ = false := (p5.2 0 _ rfl).2
  have ca10_1 : w4.cell? ⟨w.heap.size + 1 + 1, 1, none⟩ = some (.int .i64 d5b) := (p5.2 1 _ rfl).1
  have fa10_1 : w4.frozen? ⟨w.heap.size + 1 + 1, 1, none⟩ = false := (p5.2 1 _ rfl).2
  have ca10_2 : w4.cell? ⟨w.heap.size + 1 + 1, 2, none⟩ = some (.int .i64 d5c) := (p5.2 2 _ rfl).1
  have fa10_2 : w4.frozen? ⟨w.heap.size + 1 + 1, 2, none⟩ = false := (p5.2 2 _ rfl).2
  have ca10_3 : w4.cell? ⟨w.heap.size + 1 + 1, 3, none⟩ = some (.int .i64 d5d) := (p5.2 3 _ rfl).1
  have fa10_3 : w4.frozen? ⟨w.heap.size + 1 + 1, 3, none⟩ = false := (p5.2 3 _ rfl).2
  go_wp2_with fail
  clear ca8 fa8 ca9_0 fa9_0 ca9_1 fa9_1 ca9_2 fa9_2 ca9_3 fa9_3 ca10_0 fa10_0 ca10_1 fa10_1 ca10_2 fa10_2 ca10_3 fa10_3
  by_cases hs1 : ((n1 : Int) + vsz z1 n1) ≤ 1048576 - (n0 : Int)
  rotate_left
  · have hm1 := wa1.1
    refine (szVariableS_any (left := 1048576 - (n0 : Int)) (wa1.keeps kw) (by omega) (by omega)).mono ?_
    rintro e w11 ⟨rfl, k11⟩
    rw [szVs_no (left := 1048576 - (n0 : Int)) (n := n1) (l := z1) (by omega)]
    have ss12 := k11.size
    replace p0 := p0.keeps k11
    replace p3 := p3.keeps k11
    replace p5 := p5.keeps k11
    replace kw := Keeps.trans kw k11
    have lt13 := p5.lt
    have sz14 := kw.size
    clear k11
    go_wp2_with fail
    go_ret
    exact ⟨rfl, kw⟩
  have h1 := wa1.vars (by omega)
  refine (szVariableS_any (left := 1048576 - (n0 : Int)) (wa1.keeps kw) (by omega) (by omega)).mono ?_
  rintro e w11 ⟨rfl, k11⟩
  rw [szVs_ok (left := 1048576 - (n0 : Int)) (n := n1) (l := z1) (by omega)]
  have ss12 := k11.size
  replace p0 := p0.keeps k11
  replace p3 := p3.keeps k11
  replace p5 := p5.keeps k11
  replace kw := Keeps.trans kw k11
  have lt13 := p5.lt
  have sz14 := kw.size
  clear k11
  have tz1 : ¬ (1048576 - (n0 : Int) - ((n1 : Int) + vsz z1 n1) < 0) := by omega
  obtain ⟨ca15, fa15⟩ := id p0
  have ca16_0 : w11.cell? ⟨w.heap.size + 1, 0, none⟩ = some (.int .i64 d3a) := (p3.2 0 _ rfl).1
  have fa16_0 : w11.frozen? ⟨w.heap.size + 1, 0, none⟩ = false := (p3.2 0 _ rfl).2
  have ca16_1 : w11.cell? ⟨w.heap.size + 1, 1, none⟩ = some (.int .i64 d3b) := (p3.2 1 _ rfl).1
  have fa16_1 : w11.frozen? ⟨w.heap.size + 1, 1, none⟩ = false := (p3.2 1 _ rfl).2
  have ca16_2 : w11.cell? ⟨w.heap.size + 1, 2, none⟩ = some (.int .i64 d3c) := (p3.2 2 _ rfl).1
  have fa16_2 : w11.frozen? ⟨w.heap.size + 1, 2, none⟩ = false := (p3.2 2 _ rfl).2
  have ca16_3 : w11.cell? ⟨w.heap.size + 1, 3, none⟩ = some (.int .i64 d3d) := (p3.2 3 _ rfl).1
  have fa16_3 : w11.frozen? ⟨w.heap.size + 1, 3, none⟩ = false := (p3.2 3 _ rfl).2
  have ca17_0 : w11.cell? ⟨w.heap.size + 1 + 1, 0, none⟩ = some (.int .i64 d5a) := (p5.2 0 _ rfl).1
  have fa17_0 : w11.frozen? ⟨w.heap.size + 1 + 1, 0, none⟩ = false := (p5.2 0 _ rfl).2
  have ca17_1 : w11.cell? ⟨w.heap.size + 1 + 1, 1, none⟩ = some (.int .i64 d5b) := (p5.2 1 _ rfl).1
  have fa17_1 : w11.frozen? ⟨w.heap.size + 1 + 1, 1, none⟩ = false := (p5.2 1 _ rfl).2
  have ca17_2 : w11.cell? ⟨w.heap.size + 1 + 1, 2, none⟩ = some (.int .i64 d5c) := (p5.2 2 _ rfl).1
  have fa17_2 : w11.frozen? ⟨w.heap.size + 1 + 1, 2, none⟩ = false := (p5.2 2 _ rfl).2
  have ca17_3 : w11.cell? ⟨w.heap.size + 1 + 1, 3, none⟩ = some (.int .i64 d5d) := (p5.2 3 _ rfl).1
  have fa17_3 : w11.frozen? ⟨w.heap.size + 1 + 1, 3, none⟩ = false := (p5.2 3 _ rfl).2
  go_wp2_with fail
  clear ca15 fa15 ca16_0 fa16_0 ca16_1 fa16_1 ca16_2 fa16_2 ca16_3 fa16_3 ca17_0 fa17_0 ca17_1 fa17_1 ca17_2 fa17_2 ca17_3 fa17_3
  by_cases hs2 : ((n2 + rlsz z2 n2 : Nat) : Int) ≤ 1048576 - (n0 : Int) - ((n1 : Int) + vsz z1 n1)
  rotate_left
  · have hm2 := wa2.1
    refine (szReleaseS_any (left := 1048576 - (n0 : Int) - ((n1 : Int) + vsz z1 n1)) (wa2.keeps kw) (by omega) (by omega)).mono ?_
    rintro e w18 ⟨rfl, k18⟩
    rw [szQ_no (left := 1048576 - (n0 : Int) - ((n1 : Int) + vsz z1 n1)) (s := n2 + rlsz z2 n2) hs2]
    have ss19 := k18.size
    replace p0 := p0.keeps k18
    replace p3 := p3.keeps k18
    replace p5 := p5.keeps k18
    replace kw := Keeps.trans kw k18
    have lt20 := p5.lt
    have sz21 := kw.size
    clear k18
    go_wp2_with fail
    go_ret
    exact ⟨rfl, kw⟩
  have h2 := wa2.rels (by omega)
  refine (szReleaseS_any (left := 1048576 - (n0 : Int) - ((n1 : Int) + vsz z1 n1)) (wa2.keeps kw) (by omega) (by omega)).mono ?_
  rintro e w18 ⟨rfl, k18⟩
  rw [szQ_ok (left := 1048576 - (n0 : Int) - ((n1 : Int) + vsz z1 n1)) (s := n2 + rlsz z2 n2) hs2]
  have ss19 := k18.size
  replace p0 := p0.keeps k18
  replace p3 := p3.keeps k18
  replace p5 := p5.keeps k18
  replace kw := Keeps.trans kw k18
  have lt20 := p5.lt
  have sz21 := kw.size
  clear k18
  have tz2 : ¬ (1048576 - (n0 : Int) - ((n1 : Int) + vsz z1 n1) - ((n2 + rlsz z2 n2 : Nat) : Int) < 0) := by omega
  obtain ⟨ca22, fa22⟩ := id p0
  have ca23_0 : w18.cell? ⟨w.heap.size + 1, 0, none⟩ = some (.int .i64 d3a) := (p3.2 0 _ rfl).1
  have fa23_0 : w18.frozen? ⟨w.heap.size + 1, 0, none⟩ = false := (p3.2 0 _ rfl).2
  have ca23_1 : w18.cell? ⟨w.heap.size + 1, 1, none⟩ = some (.int .i64 d3b) := (p3.2 1 _ rfl).1
  have fa23_1 : w18.frozen? ⟨w.heap.size + 1, 1, none⟩ = false := (p3.2 1 _ rfl).2
  have ca23_2 : w18.cell? ⟨w.heap.size + 1, 2, none⟩ = some (.int .i64 d3c) := (p3.2 2 _ rfl).1
  have fa23_2 : w18.frozen? ⟨w.heap.size + 1, 2, none⟩ = false := (p3.2 2 _ rfl).2
  have ca23_3 : w18.cell? ⟨w.heap.size + 1, 3, none⟩ = some (.int .i64 d3d) := (p3.2 3 _ rfl).1
  have fa23_3 : w18.frozen? ⟨w.heap.size + 1, 3, none⟩ = false := (p3.2 3 _ rfl).2
  have ca24_0 : w18.cell? ⟨w.heap.size + 1 + 1, 0, none⟩ = some (.int .i64 d5a) := (p5.2 0 _ rfl).1
  have fa24_0 : w18.frozen? ⟨w.heap.size + 1 + 1, 0, none⟩ = false := (p5.2 0 _ rfl).2
  have ca24_1 : w18.cell? ⟨w.heap.size + 1 + 1, 1, none⟩ = some (.int .i64 d5b) := (p5.2 1 _ rfl).1
  have fa24_1 : w18.frozen? ⟨w.heap.size + 1 + 1, 1, none⟩ = false := (p5.2 1 _ rfl).2
  have ca24_2 : w18.cell? ⟨w.heap.size + 1 + 1, 2, none⟩ = some (.int .i64 d5c) := (p5.2 2 _ rfl).1
  have fa24_2 : w18.frozen? ⟨w.heap.size + 1 + 1, 2, none⟩ = false := (p5.2 2 _ rfl).2
  have ca24_3 : w18.cell? ⟨w.heap.size + 1 + 1, 3, none⟩ = some (.int .i64 d5d) := (p5.2 3 _ rfl).1
  have fa24_3 : w18.frozen? ⟨w.heap.size + 1 + 1, 3, none⟩ = false := (p5.2 3 _ rfl).2
  go_wp2_with fail
  clear ca22 fa22 ca23_0 fa23_0 ca23_1 fa23_1 ca23_2 fa23_2 ca23_3 fa23_3 ca24_0 fa24_0 ca24_1 fa24_1 ca24_2 fa24_2 ca24_3 fa24_3
  by_cases hs4 : ((n4 + tsz z4 n4 : Nat) : Int) ≤ 1048576 - (n0 : Int) - ((n1 : Int) + vsz z1 n1) - ((n2 + rlsz z2 n2 : Nat) : Int)
  rotate_left
  · have hm4 := wa4.1
    refine (szTableS_any (left := 1048576 - (n0 : Int) - ((n1 : Int) + vsz z1 n1) - ((n2 + rlsz z2 n2 : Nat) : Int)) (wa4.keeps kw) (by omega) (by omega)).mono ?_
    rintro e w25 ⟨rfl, k25⟩
    rw [szQ_no (left := 1048576 - (n0 : Int) - ((n1 : Int) + vsz z1 n1) - ((n2 + rlsz z2 n2 : Nat) : Int)) (s := n4 + tsz z4 n4) hs4]
    have ss26 := k25.size
    replace p0 := p0.keeps k25
    replace p3 := p3.keeps k25
    replace p5 := p5.keeps k25
    replace kw := Keeps.trans kw k25
    have lt27 := p5.lt
    have sz28 := kw.size
    clear k25
    go_wp2_with fail
    go_ret
    exact ⟨rfl, kw⟩
  have h4 := wa4.tabs (by omega)
  refine (szTableS_any (left := 1048576 - (n0 : Int) - ((n1 : Int) + vsz z1 n1) - ((n2 + rlsz z2 n2 : Nat) : Int)) (wa4.keeps kw) (by omega) (by omega)).mono ?_
  rintro e w25 ⟨rfl, k25⟩
  rw [szQ_ok (left := 1048576 - (n0 : Int) - ((n1 : Int) + vsz z1 n1) - ((n2 + rlsz z2 n2 : Nat) : Int)) (s := n4 + tsz z4 n4) hs4]
  have ss26 := k25.size
  replace p0 := p0.keeps k25
  replace p3 := p3.keeps k25
  replace p5 := p5.keeps k25
  replace kw := Keeps.trans kw k25
  have lt27 := p5.lt
  have sz28 := kw.size
  clear k25
  have tz4 : ¬ (1048576 - (n0 : Int) - ((n1 : Int) + vsz z1 n1) - ((n2 + rlsz z2 n2 : Nat) : Int) - ((n4 + tsz z4 n4 : Nat) : Int) < 0) := by omega
  obtain ⟨ca29, fa29⟩ := id p0
  have ca30_0 : w25.cell? ⟨w.heap.size + 1, 0, none⟩ = some (.int .i64 d3a) := (p3.2 0 _ rfl).1
  have fa30_0 : w25.frozen? ⟨w.heap.size + 1, 0, none⟩ = false := (p3.2 0 _ rfl).2
  have ca30_1 : w25.cell? ⟨w.heap.size + 1, 1, none⟩ = some (.int .i64 d3b) := (p3.2 1 _ rfl).1
  have fa30_1 : w25.frozen? ⟨w.heap.size + 1, 1, none⟩ = false := (p3.2 1 _ rfl).2
  have ca30_2 : w25.cell? ⟨w.heap.size + 1, 2, none⟩ = some (.int .i64 d3c) := (p3.2 2 _ rfl).1
  have fa30_2 : w25.frozen? ⟨w.heap.size + 1, 2, none⟩ = false := (p3.2 2 _ rfl).2
  have ca30_3 : w25.cell? ⟨w.heap.size + 1, 3, none⟩ = some (.int .i64 d3d) := (p3.2 3 _ rfl).1
  have fa30_3 : w25.frozen? ⟨w.heap.size + 1, 3, none⟩ = false := (p3.2 3 _ rfl).2
  have ca31_0 : w25.cell? ⟨w.heap.size + 1 + 1, 0, none⟩ = some (.int .i64 d5a) := (p5.2 0 _ rfl).1
  have fa31_0 : w25.frozen? ⟨w.heap.size + 1 + 1, 0, none⟩ = false := (p5.2 0 _ rfl).2
  have ca31_1 : w25.cell? ⟨w.heap.size + 1 + 1, 1, none⟩ = some (.int .i64 d5b) := (p5.2 1 _ rfl).1
  have fa31_1 : w25.frozen? ⟨w.heap.size + 1 + 1, 1, none⟩ = false := (p5.2 1 _ rfl).2
  have ca31_2 : w25.cell? ⟨w.heap.size + 1 + 1, 2, none⟩ = some (.int .i64 d5c) := (p5.2 2 _ rfl).1
  have fa31_2 : w25.frozen? ⟨w.heap.size + 1 + 1, 2, none⟩ = false := (p5.2 2 _ rfl).2
  have ca31_3 : w25.cell? ⟨w.heap.size + 1 + 1, 3, none⟩ = some (.int .i64 d5d) := (p5.2 3 _ rfl).1
  have fa31_3 : w25.frozen? ⟨w.heap.size + 1 + 1, 3, none⟩ = false := (p5.2 3 _ rfl).2
  go_wp2_with fail
  clear ca29 fa29 ca30_0 fa30_0 ca30_1 fa30_1 ca30_2 fa30_2 ca30_3 fa30_3 ca31_0 fa31_0 ca31_1 fa31_1 ca31_2 fa31_2 ca31_3 fa31_3
  obtain ⟨r0, r1, HR⟩ : ∃ r0 r1, Hid (adQ z0 z1 z2 (d3a, d3b, d3c, d3d) z4 (d5a, d5b, d5c, d5d) = (r0, r1)) := ⟨_, _, rfl⟩
  have hsm := adQ_len (ps := z0) (l := z1) (rs := z2) (b := (d3a, d3b, d3c, d3d)) (ts := z4) (x := (d5a, d5b, d5c, d5d))
  rw [HR.out] at hsm
  dsimp only at hsm
  obtain ⟨ca32, -⟩ := id p0
  have ca33_0 : w25.cell? ⟨w.heap.size + 1, 0, none⟩ = some (.int .i64 d3a) := (p3.2 0 _ rfl).1
  have ca33_1 : w25.cell? ⟨w.heap.size + 1, 1, none⟩ = some (.int .i64 d3b) := (p3.2 1 _ rfl).1
  have ca33_2 : w25.cell? ⟨w.heap.size + 1, 2, none⟩ = some (.int .i64 d3c) := (p3.2 2 _ rfl).1
  have ca33_3 : w25.cell? ⟨w.heap.size + 1, 3, none⟩ = some (.int .i64 d3d) := (p3.2 3 _ rfl).1
  have ca34_0 : w25.cell? ⟨w.heap.size + 1 + 1, 0, none⟩ = some (.int .i64 d5a) := (p5.2 0 _ rfl).1
  have ca34_1 : w25.cell? ⟨w.heap.size + 1 + 1, 1, none⟩ = some (.int .i64 d5b) := (p5.2 1 _ rfl).1
  have ca34_2 : w25.cell? ⟨w.heap.size + 1 + 1, 2, none⟩ = some (.int .i64 d5c) := (p5.2 2 _ rfl).1
  have ca34_3 : w25.cell? ⟨w.heap.size + 1 + 1, 3, none⟩ = some (.int .i64 d5d) := (p5.2 3 _ rfl).1
  have kS := hid (show ∀ w', Keeps w25 w' → (w'.cell? ⟨w.heap.size, 0, none⟩ = some (.slice A0 n0 c0) ∧ w'.cell? ⟨w.heap.size + 1, 0, none⟩ = some (.int .i64 d3a) ∧ w'.cell? ⟨w.heap.size + 1, 1, none⟩ = some (.int .i64 d3b) ∧ w'.cell? ⟨w.heap.size + 1, 2, none⟩ = some (.int .i64 d3c) ∧ w'.cell? ⟨w.heap.size + 1, 3, none⟩ = some (.int .i64 d3d) ∧ w'.cell? ⟨w.heap.size + 1 + 1, 0, none⟩ = some (.int .i64 d5a) ∧ w'.cell? ⟨w.heap.size + 1 + 1, 1, none⟩ = some (.int .i64 d5b) ∧ w'.cell? ⟨w.heap.size + 1 + 1, 2, none⟩ = some (.int .i64 d5c) ∧ w'.cell? ⟨w.heap.size + 1 + 1, 3, none⟩ = some (.int .i64 d5d)) from fun w' k => ⟨cell_keeps ca32 k, cell_keeps ca33_0 k, cell_keeps ca33_1 k, cell_keeps ca33_2 k, cell_keeps ca33_3 k, cell_keeps ca34_0 k, cell_keeps ca34_1 k, cell_keeps ca34_2 k, cell_keeps ca34_3 k⟩)
  have kW := keeps_d0 w25
  have hW0 := (h0.keeps kw)
  have hW1 := (h1.keeps kw)
  have hW2 := (h2.keeps kw)
  have hW4 := (h4.keeps kw)
  go_region_held3 (fun w' => w'.cell? ⟨w.heap.size, 0, none⟩ = some (.slice A0 n0 c0) ∧ w'.cell? ⟨w.heap.size + 1, 0, none⟩ = some (.int .i64 d3a) ∧ w'.cell? ⟨w.heap.size + 1, 1, none⟩ = some (.int .i64 d3b) ∧ w'.cell? ⟨w.heap.size + 1, 2, none⟩ = some (.int .i64 d3c) ∧ w'.cell? ⟨w.heap.size + 1, 3, none⟩ = some (.int .i64 d3d) ∧ w'.cell? ⟨w.heap.size + 1 + 1, 0, none⟩ = some (.int .i64 d5a) ∧ w'.cell? ⟨w.heap.size + 1 + 1, 1, none⟩ = some (.int .i64 d5b) ∧ w'.cell? ⟨w.heap.size + 1 + 1, 2, none⟩ = some (.int .i64 d5c) ∧ w'.cell? ⟨w.heap.size + 1 + 1, 3, none⟩ = some (.int .i64 d5d)) (first | with_reducible exact kS.out _ (keeps_d0 _) | with_reducible exact kS.out _ kW | go_keep)
    ((first | (go_at_call 25; refine (toGeo_any (hW0.keeps kW)).mono ?_; rintro e wB ⟨By0, rfl, y9, kB⟩; (first | (have y0 := y0.keeps kB) | skip); (first | (have y1 := y1.keeps kB) | skip); (first | (have y2 := y2.keeps kB) | skip); (first | (have y4 := y4.keeps kB) | skip); have y0 := y9; clear y9; replace kW : Keeps w25 wB := kW.trans kB; clear kB) | (go_at_call 26; refine (toVariableS_any (hW1.keeps kW)).mono ?_; rintro e wB ⟨By1, rfl, y9, kB⟩; (first | (have y0 := y0.keeps kB) | skip); (first | (have y1 := y1.keeps kB) | skip); (first | (have y2 := y2.keeps kB) | skip); (first | (have y4 := y4.keeps kB) | skip); have y1 := y9; clear y9; replace kW : Keeps w25 wB := kW.trans kB; clear kB) | (go_at_call 42; refine (toReleaseS_any (hW2.keeps kW)).mono ?_; rintro e wB ⟨By2, rfl, y9, kB⟩; (first | (have y0 := y0.keeps kB) | skip); (first | (have y1 := y1.keeps kB) | skip); (first | (have y2 := y2.keeps kB) | skip); (first | (have y4 := y4.keeps kB) | skip); have y2 := y9; clear y9; replace kW : Keeps w25 wB := kW.trans kB; clear kB) | (go_at_call 28; refine (toTableS_any (hW4.keeps kW)).mono ?_; rintro e wB ⟨By4, rfl, y9, kB⟩; (first | (have y0 := y0.keeps kB) | skip); (first | (have y1 := y1.keeps kB) | skip); (first | (have y2 := y2.keeps kB) | skip); (first | (have y4 := y4.keeps kB) | skip); have y4 := y9; clear y9; replace kW : Keeps w25 wB := kW.trans kB; clear kB) | (go_at_call 43; refine toLoss_any.mono ?_; rintro e wB ⟨rfl, kB⟩; (first | (have y0 := y0.keeps kB) | skip); (first | (have y1 := y1.keeps kB) | skip); (first | (have y2 := y2.keeps kB) | skip); (first | (have y4 := y4.keeps kB) | skip); replace kW : Keeps w25 wB := kW.trans kB; clear kB) | (go_at_call 9; refine (specAddRelease_any y0.1 y1.1 HNK.out y2 y4).mono ?_; rintro e wB ⟨p_A0, p_N0, p_C0, rfl, p_0, kB⟩; have sW := kW.size; have sB := kB.size; rw [HR.out]; rw [HR.out] at p_0; dsimp only at p_0; have p_0 := p_0.widen (lo' := w25.heap.size) (by first | omega | (simp at sW; omega)) (Nat.le_refl _) (Nat.le_refl _); dsimp only; replace kW : Keeps w25 wB := kW.trans kB; clear kB)))
  clear kS hW0 hW1 hW2 hW4
  clear ca32 ca33_0 ca33_1 ca33_2 ca33_3 ca34_0 ca34_1 ca34_2 ca34_3
  clear y0 y1 y2 y4
  have ss35 := kW.size
  replace p0 := p0.keeps kW
  replace p3 := p3.keeps kW
  replace p5 := p5.keeps kW
  replace kw := Keeps.trans kw kW
  have lt36 := p5.lt
  have sz37 := kw.size
  clear kW
  obtain ⟨wy37, rfl⟩ : ∃ u : World, u = wB := ⟨_, rfl⟩
  obtain ⟨ca38, fa38⟩ := id p0
  have ca39_0 : wy37.cell? ⟨w.heap.size + 1, 0, none⟩ = some (.int .i64 d3a) := (p3.2 0 _ rfl).1
  have fa39_0 : wy37.frozen? ⟨w.heap.size + 1, 0, none⟩ = false := (p3.2 0 _ rfl).2
  have ca39_1 : wy37.cell? ⟨w.heap.size + 1, 1, none⟩ = some (.int .i64 d3b) := (p3.2 1 _ rfl).1
  have fa39_1 : wy37.frozen? ⟨w.heap.size + 1, 1, none⟩ = false := (p3.2 1 _ rfl).2
  have ca39_2 : wy37.cell? ⟨w.heap.size + 1, 2, none⟩ = some (.int .i64 d3c) := (p3.2 2 _ rfl).1
  have fa39_2 : wy37.frozen? ⟨w.heap.size + 1, 2, none⟩ = false := (p3.2 2 _ rfl).2
  have ca39_3 : wy37.cell? ⟨w.heap.size + 1, 3, none⟩ = some (.int .i64 d3d) := (p3.2 3 _ rfl).1
  have fa39_3 : wy37.frozen? ⟨w.heap.size + 1, 3, none⟩ = false := (p3.2 3 _ rfl).2
  have ca40_0 : wy37.cell? ⟨w.heap.size + 1 + 1, 0, none⟩ = some (.int .i64 d5a) := (p5.2 0 _ rfl).1
  have fa40_0 : wy37.frozen? ⟨w.heap.size + 1 + 1, 0, none⟩ = false := (p5.2 0 _ rfl).2
  have ca40_1 : wy37.cell? ⟨w.heap.size + 1 + 1, 1, none⟩ = some (.int .i64 d5b) := (p5.2 1 _ rfl).1
  have fa40_1 : wy37.frozen? ⟨w.heap.size + 1 + 1, 1, none⟩ = false := (p5.2 1 _ rfl).2
  have ca40_2 : wy37.cell? ⟨w.heap.size + 1 + 1, 2, none⟩ = some (.int .i64 d5c) := (p5.2 2 _ rfl).1
  have fa40_2 : wy37.frozen? ⟨w.heap.size + 1 + 1, 2, none⟩ = false := (p5.2 2 _ rfl).2
  have ca40_3 : wy37.cell? ⟨w.heap.size + 1 + 1, 3, none⟩ = some (.int .i64 d5d) := (p5.2 3 _ rfl).1
  have fa40_3 : wy37.frozen? ⟨w.heap.size + 1 + 1, 3, none⟩ = false := (p5.2 3 _ rfl).2
  go_wp2_with fail
  clear ca38 fa38 ca39_0 fa39_0 ca39_1 fa39_1 ca39_2 fa39_2 ca39_3 fa39_3 ca40_0 fa40_0 ca40_1 fa40_1 ca40_2 fa40_2 ca40_3 fa40_3
  refine (toGeo_any (h0.keeps kw)).mono ?_
  rintro e w41 ⟨Bx0, rfl, x0, k41⟩
  have ss42 := k41.size
  replace p0 := p0.keeps k41
  replace p3 := p3.keeps k41
  replace p5 := p5.keeps k41
  replace p_0 := p_0.keeps k41
  replace kw := Keeps.trans kw k41
  have lt43 := p5.lt
  have sz44 := kw.size
  clear k41
  replace p0 := p0.keeps (keeps_alloc w41 (.cells #[.slice Bx0 n0 n0] 26))
  replace p3 := p3.keeps (keeps_alloc w41 (.cells #[.slice Bx0 n0 n0] 26))
  replace p5 := p5.keeps (keeps_alloc w41 (.cells #[.slice Bx0 n0 n0] 26))
  replace p_0 := p_0.keeps (keeps_alloc w41 (.cells #[.slice Bx0 n0 n0] 26))
  replace x0 := x0.keeps (keeps_alloc w41 (.cells #[.slice Bx0 n0 n0] 26))
  replace kw := Keeps.trans kw (keeps_alloc w41 (.cells #[.slice Bx0 n0 n0] 26))
  have bx0 : B1 (w41.alloc (.cells #[.slice Bx0 n0 n0] 26)) w41.heap.size (.slice Bx0 n0 n0) := B1.new' (by simp)
  obtain ⟨ca45, fa45⟩ := id p0
  have ca46_0 : (w41.alloc (.cells #[.slice Bx0 n0 n0] 26)).cell? ⟨w.heap.size + 1, 0, none⟩ = some (.int .i64 d3a) := (p3.2 0 _ rfl).1
  have fa46_0 : (w41.alloc (.cells #[.slice Bx0 n0 n0] 26)).frozen? ⟨w.heap.size + 1, 0, none⟩ = false := (p3.2 0 _ rfl).2
  have ca46_1 : (w41.alloc (.cells #[.slice Bx0 n0 n0] 26)).cell? ⟨w.heap.size + 1, 1, none⟩ = some (.int .i64 d3b) := (p3.2 1 _ rfl).1
  have fa46_1 : (w41.alloc (.cells #[.slice Bx0 n0 n0] 26)).frozen? ⟨w.heap.size + 1, 1, none⟩ = false := (p3.2 1 _ rfl).2
  have ca46_2 : (w41.alloc (.cells #[.slice Bx0 n0 n0] 26)).cell? ⟨w.heap.size + 1, 2, none⟩ = some (.int .i64 d3c) := (p3.2 2 _ rfl).1
  have fa46_2 : (w41.alloc (.cells #[.slice Bx0 n0 n0] 26)).frozen? ⟨w.heap.size + 1, 2, none⟩ = false := (p3.2 2 _ rfl).2
  have ca46_3 : (w41.alloc (.cells #[.slice Bx0 n0 n0] 26)).cell? ⟨w.heap.size + 1, 3, none⟩ = some (.int .i64 d3d) := (p3.2 3 _ rfl).1
  have fa46_3 : (w41.alloc (.cells #[.slice Bx0 n0 n0] 26)).frozen? ⟨w.heap.size + 1, 3, none⟩ = false := (p3.2 3 _ rfl).2
  have ca47_0 : (w41.alloc (.cells #[.slice Bx0 n0 n0] 26)).cell? ⟨w.heap.size + 1 + 1, 0, none⟩ = some (.int .i64 d5a) := (p5.2 0 _ rfl).1
  have fa47_0 : (w41.alloc (.cells #[.slice Bx0 n0 n0] 26)).frozen? ⟨w.heap.size + 1 + 1, 0, none⟩ = false := (p5.2 0 _ rfl).2
  have ca47_1 : (w41.alloc (.cells #[.slice Bx0 n0 n0] 26)).cell? ⟨w.heap.size + 1 + 1, 1, none⟩ = some (.int .i64 d5b) := (p5.2 1 _ rfl).1
  have fa47_1 : (w41.alloc (.cells #[.slice Bx0 n0 n0] 26)).frozen? ⟨w.heap.size + 1 + 1, 1, none⟩ = false := (p5.2 1 _ rfl).2
  have ca47_2 : (w41.alloc (.cells #[.slice Bx0 n0 n0] 26)).cell? ⟨w.heap.size + 1 + 1, 2, none⟩ = some (.int .i64 d5c) := (p5.2 2 _ rfl).1
  have fa47_2 : (w41.alloc (.cells #[.slice Bx0 n0 n0] 26)).frozen? ⟨w.heap.size + 1 + 1, 2, none⟩ = false := (p5.2 2 _ rfl).2
  have ca47_3 : (w41.alloc (.cells #[.slice Bx0 n0 n0] 26)).cell? ⟨w.heap.size + 1 + 1, 3, none⟩ = some (.int .i64 d5d) := (p5.2 3 _ rfl).1
  have fa47_3 : (w41.alloc (.cells #[.slice Bx0 n0 n0] 26)).frozen? ⟨w.heap.size + 1 + 1, 3, none⟩ = false := (p5.2 3 _ rfl).2
  obtain ⟨ca48, fa48⟩ := id bx0
  go_wp2_with fail
  clear ca45 fa45 ca46_0 fa46_0 ca46_1 fa46_1 ca46_2 fa46_2 ca46_3 fa46_3 ca47_0 fa47_0 ca47_1 fa47_1 ca47_2 fa47_2 ca47_3 fa47_3 ca48 fa48
  refine (toVariableS_any (h1.keeps kw)).mono ?_
  rintro e w49 ⟨Bx1, rfl, x1, k49⟩
  have ss50 := k49.size
  simp at ss50
  replace p0 := p0.keeps k49
  replace p3 := p3.keeps k49
  replace p5 := p5.keeps k49
  replace bx0 := bx0.keeps k49
  replace p_0 := p_0.keeps k49
  replace x0 := x0.keeps k49
  replace kw := Keeps.trans kw k49
  have lt51 := bx0.lt
  have sz52 := kw.size
  clear k49
  replace x1 := x1.widen (lo' := w41.heap.size + 1) (by simp) (Nat.le_refl _) (Nat.le_refl _)
  obtain ⟨ca53, fa53⟩ := id p0
  have ca54_0 : w49.cell? ⟨w.heap.size + 1, 0, none⟩ = some (.int .i64 d3a) := (p3.2 0 _ rfl).1
  have fa54_0 : w49.frozen? ⟨w.heap.size + 1, 0, none⟩ = false := (p3.2 0 _ rfl).2
  have ca54_1 : w49.cell? ⟨w.heap.size + 1, 1, none⟩ = some (.int .i64 d3b) := (p3.2 1 _ rfl).1
  have fa54_1 : w49.frozen? ⟨w.heap.size + 1, 1, none⟩ = false := (p3.2 1 _ rfl).2
  have ca54_2 : w49.cell? ⟨w.heap.size + 1, 2, none⟩ = some (.int .i64 d3c) := (p3.2 2 _ rfl).1
  have fa54_2 : w49.frozen? ⟨w.heap.size + 1, 2, none⟩ = false := (p3.2 2 _ rfl).2
  have ca54_3 : w49.cell? ⟨w.heap.size + 1, 3, none⟩ = some (.int .i64 d3d) := (p3.2 3 _ rfl).1
  have fa54_3 : w49.frozen? ⟨w.heap.size + 1, 3, none⟩ = false := (p3.2 3 _ rfl).2
  have ca55_0 : w49.cell? ⟨w.heap.size + 1 + 1, 0, none⟩ = some (.int .i64 d5a) := (p5.2 0 _ rfl).1
  have fa55_0 : w49.frozen? ⟨w.heap.size + 1 + 1, 0, none⟩ = false := (p5.2 0 _ rfl).2
  have ca55_1 : w49.cell? ⟨w.heap.size + 1 + 1, 1, none⟩ = some (.int .i64 d5b) := (p5.2 1 _ rfl).1
  have fa55_1 : w49.frozen? ⟨w.heap.size + 1 + 1, 1, none⟩ = false := (p5.2 1 _ rfl).2
  have ca55_2 : w49.cell? ⟨w.heap.size + 1 + 1, 2, none⟩ = some (.int .i64 d5c) := (p5.2 2 _ rfl).1
  have fa55_2 : w49.frozen? ⟨w.heap.size + 1 + 1, 2, none⟩ = false := (p5.2 2 _ rfl).2
  have ca55_3 : w49.cell? ⟨w.heap.size + 1 + 1, 3, none⟩ = some (.int .i64 d5d) := (p5.2 3 _ rfl).1
  have fa55_3 : w49.frozen? ⟨w.heap.size + 1 + 1, 3, none⟩ = false := (p5.2 3 _ rfl).2
  obtain ⟨ca56, fa56⟩ := id bx0
  go_wp2_with fail
  clear ca53 fa53 ca54_0 fa54_0 ca54_1 fa54_1 ca54_2 fa54_2 ca54_3 fa54_3 ca55_0 fa55_0 ca55_1 fa55_1 ca55_2 fa55_2 ca55_3 fa55_3 ca56 fa56
  refine (toReleaseS_any (h2.keeps kw)).mono ?_
  rintro e w57 ⟨Bx2, rfl, x2, k57⟩
  have ss58 := k57.size
  replace p0 := p0.keeps k57
  replace p3 := p3.keeps k57
  replace p5 := p5.keeps k57
  replace bx0 := bx0.keeps k57
  replace p_0 := p_0.keeps k57
  replace x0 := x0.keeps k57
  replace x1 := x1.keeps k57
  replace kw := Keeps.trans kw k57
  have lt59 := bx0.lt
  have sz60 := kw.size
  clear k57
  obtain ⟨ca61, fa61⟩ := id p0
  have ca62_0 : w57.cell? ⟨w.heap.size + 1, 0, none⟩ = some (.int .i64 d3a) := (p3.2 0 _ rfl).1
  have fa62_0 : w57.frozen? ⟨w.heap.size + 1, 0, none⟩ = false := (p3.2 0 _ rfl).2
  have ca62_1 : w57.cell? ⟨w.heap.size + 1, 1, none⟩ = some (.int .i64 d3b) := (p3.2 1 _ rfl).1
  have fa62_1 : w57.frozen? ⟨w.heap.size + 1, 1, none⟩ = false := (p3.2 1 _ rfl).2
  have ca62_2 : w57.cell? ⟨w.heap.size + 1, 2, none⟩ = some (.int .i64 d3c) := (p3.2 2 _ rfl).1
  have fa62_2 : w57.frozen? ⟨w.heap.size + 1, 2, none⟩ = false := (p3.2 2 _ rfl).2
  have ca62_3 : w57.cell? ⟨w.heap.size + 1, 3, none⟩ = some (.int .i64 d3d) := (p3.2 3 _ rfl).1
  have fa62_3 : w57.frozen? ⟨w.heap.size + 1, 3, none⟩ = false := (p3.2 3 _ rfl).2
  have ca63_0 : w57.cell? ⟨w.heap.size + 1 + 1, 0, none⟩ = some (.int .i64 d5a) := (p5.2 0 _ rfl).1
  have fa63_0 : w57.frozen? ⟨w.heap.size + 1 + 1, 0, none⟩ = false := (p5.2 0 _ rfl).2
  have ca63_1 : w57.cell? ⟨w.heap.size + 1 + 1, 1, none⟩ = some (.int .i64 d5b) := (p5.2 1 _ rfl).1
  have fa63_1 : w57.frozen? ⟨w.heap.size + 1 + 1, 1, none⟩ = false := (p5.2 1 _ rfl).2
  have ca63_2 : w57.cell? ⟨w.heap.size + 1 + 1, 2, none⟩ = some (.int .i64 d5c) := (p5.2 2 _ rfl).1
  have fa63_2 : w57.frozen? ⟨w.heap.size + 1 + 1, 2, none⟩ = false := (p5.2 2 _ rfl).2
  have ca63_3 : w57.cell? ⟨w.heap.size + 1 + 1, 3, none⟩ = some (.int .i64 d5d) := (p5.2 3 _ rfl).1
  have fa63_3 : w57.frozen? ⟨w.heap.size + 1 + 1, 3, none⟩ = false := (p5.2 3 _ rfl).2
  obtain ⟨ca64, fa64⟩ := id bx0
  go_wp2_with fail
  clear ca61 fa61 ca62_0 fa62_0 ca62_1 fa62_1 ca62_2 fa62_2 ca62_3 fa62_3 ca63_0 fa63_0 ca63_1 fa63_1 ca63_2 fa63_2 ca63_3 fa63_3 ca64 fa64
  refine (toTableS_any (h4.keeps kw)).mono ?_
  rintro e w65 ⟨Bx4, rfl, x4, k65⟩
  have ss66 := k65.size
  replace p0 := p0.keeps k65
  replace p3 := p3.keeps k65
  replace p5 := p5.keeps k65
  replace bx0 := bx0.keeps k65
  replace p_0 := p_0.keeps k65
  replace x0 := x0.keeps k65
  replace x1 := x1.keeps k65
  replace x2 := x2.keeps k65
  replace kw := Keeps.trans kw k65
  have lt67 := bx0.lt
  have sz68 := kw.size
  clear k65
  obtain ⟨ca69, fa69⟩ := id p0
  have ca70_0 : w65.cell? ⟨w.heap.size + 1, 0, none⟩ = some (.int .i64 d3a) := (p3.2 0 _ rfl).1
  have fa70_0 : w65.frozen? ⟨w.heap.size + 1, 0, none⟩ = false := (p3.2 0 _ rfl).2
  have ca70_1 : w65.cell? ⟨w.heap.size + 1, 1, none⟩ = some (.int .i64 d3b) := (p3.2 1 _ rfl).1
  have fa70_1 : w65.frozen? ⟨w.heap.size + 1, 1, none⟩ = false := (p3.2 1 _ rfl).2
  have ca70_2 : w65.cell? ⟨w.heap.size + 1, 2, none⟩ = some (.int .i64 d3c) := (p3.2 2 _ rfl).1
  have fa70_2 : w65.frozen? ⟨w.heap.size + 1, 2, none⟩ = false := (p3.2 2 _ rfl).2
  have ca70_3 : w65.cell? ⟨w.heap.size + 1, 3, none⟩ = some (.int .i64 d3d) := (p3.2 3 _ rfl).1
  have fa70_3 : w65.frozen? ⟨w.heap.size + 1, 3, none⟩ = false := (p3.2 3 _ rfl).2
  have ca71_0 : w65.cell? ⟨w.heap.size + 1 + 1, 0, none⟩ = some (.int .i64 d5a) := (p5.2 0 _ rfl).1
  have fa71_0 : w65.frozen? ⟨w.heap.size + 1 + 1, 0, none⟩ = false := (p5.2 0 _ rfl).2
  have ca71_1 : w65.cell? ⟨w.heap.size + 1 + 1, 1, none⟩ = some (.int .i64 d5b) := (p5.2 1 _ rfl).1
  have fa71_1 : w65.frozen? ⟨w.heap.size + 1 + 1, 1, none⟩ = false := (p5.2 1 _ rfl).2
  have ca71_2 : w65.cell? ⟨w.heap.size + 1 + 1, 2, none⟩ = some (.int .i64 d5c) := (p5.2 2 _ rfl).1
  have fa71_2 : w65.frozen? ⟨w.heap.size + 1 + 1, 2, none⟩ = false := (p5.2 2 _ rfl).2
  have ca71_3 : w65.cell? ⟨w.heap.size + 1 + 1, 3, none⟩ = some (.int .i64 d5d) := (p5.2 3 _ rfl).1
  have fa71_3 : w65.frozen? ⟨w.heap.size + 1 + 1, 3, none⟩ = false := (p5.2 3 _ rfl).2
  obtain ⟨ca72, fa72⟩ := id bx0
  go_wp2_with fail
  clear ca69 fa69 ca70_0 fa70_0 ca70_1 fa70_1 ca70_2 fa70_2 ca70_3 fa70_3 ca71_0 fa71_0 ca71_1 fa71_1 ca71_2 fa71_2 ca71_3 fa71_3 ca72 fa72
  have ca73_0 : w65.cell? ⟨w.heap.size + 1, 0, none⟩ = some (.int .i64 d3a) := (p3.2 0 _ rfl).1
  have ca73_1 : w65.cell? ⟨w.heap.size + 1, 1, none⟩ = some (.int .i64 d3b) := (p3.2 1 _ rfl).1
  have ca73_2 : w65.cell? ⟨w.heap.size + 1, 2, none⟩ = some (.int .i64 d3c) := (p3.2 2 _ rfl).1
  have ca73_3 : w65.cell? ⟨w.heap.size + 1, 3, none⟩ = some (.int .i64 d3d) := (p3.2 3 _ rfl).1
  have ca74_0 : w65.cell? ⟨w.heap.size + 1 + 1, 0, none⟩ = some (.int .i64 d5a) := (p5.2 0 _ rfl).1
  have ca74_1 : w65.cell? ⟨w.heap.size + 1 + 1, 1, none⟩ = some (.int .i64 d5b) := (p5.2 1 _ rfl).1
  have ca74_2 : w65.cell? ⟨w.heap.size + 1 + 1, 2, none⟩ = some (.int .i64 d5c) := (p5.2 2 _ rfl).1
  have ca74_3 : w65.cell? ⟨w.heap.size + 1 + 1, 3, none⟩ = some (.int .i64 d5d) := (p5.2 3 _ rfl).1
  obtain ⟨ca75, -⟩ := id bx0
  have kS := hid (show ∀ w', Keeps w65 w' → (w'.cell? ⟨w.heap.size + 1, 0, none⟩ = some (.int .i64 d3a) ∧ w'.cell? ⟨w.heap.size + 1, 1, none⟩ = some (.int .i64 d3b) ∧ w'.cell? ⟨w.heap.size + 1, 2, none⟩ = some (.int .i64 d3c) ∧ w'.cell? ⟨w.heap.size + 1, 3, none⟩ = some (.int .i64 d3d) ∧ w'.cell? ⟨w.heap.size + 1 + 1, 0, none⟩ = some (.int .i64 d5a) ∧ w'.cell? ⟨w.heap.size + 1 + 1, 1, none⟩ = some (.int .i64 d5b) ∧ w'.cell? ⟨w.heap.size + 1 + 1, 2, none⟩ = some (.int .i64 d5c) ∧ w'.cell? ⟨w.heap.size + 1 + 1, 3, none⟩ = some (.int .i64 d5d) ∧ w'.cell? ⟨w41.heap.size, 0, none⟩ = some (.slice Bx0 n0 n0)) from fun w' k => ⟨cell_keeps ca73_0 k, cell_keeps ca73_1 k, cell_keeps ca73_2 k, cell_keeps ca73_3 k, cell_keeps ca74_0 k, cell_keeps ca74_1 k, cell_keeps ca74_2 k, cell_keeps ca74_3 k, cell_keeps ca75 k⟩)
  have kW := keeps_d0 w65
  have hW0 := x0
  have hW1 := x1
  have hW2 := x2
  have hW4 := x4
  go_region_held3 (fun w' => w'.cell? ⟨w.heap.size + 1, 0, none⟩ = some (.int .i64 d3a) ∧ w'.cell? ⟨w.heap.size + 1, 1, none⟩ = some (.int .i64 d3b) ∧ w'.cell? ⟨w.heap.size + 1, 2, none⟩ = some (.int .i64 d3c) ∧ w'.cell? ⟨w.heap.size + 1, 3, none⟩ = some (.int .i64 d3d) ∧ w'.cell? ⟨w.heap.size + 1 + 1, 0, none⟩ = some (.int .i64 d5a) ∧ w'.cell? ⟨w.heap.size + 1 + 1, 1, none⟩ = some (.int .i64 d5b) ∧ w'.cell? ⟨w.heap.size + 1 + 1, 2, none⟩ = some (.int .i64 d5c) ∧ w'.cell? ⟨w.heap.size + 1 + 1, 3, none⟩ = some (.int .i64 d5d) ∧ w'.cell? ⟨w41.heap.size, 0, none⟩ = some (.slice Bx0 n0 n0)) (first | with_reducible exact kS.out _ (keeps_d0 _) | with_reducible exact kS.out _ kW | go_keep)
    ((first | (go_at_call 43; refine toLoss_any.mono ?_; rintro e wB ⟨rfl, kB⟩; replace kW : Keeps w65 wB := kW.trans kB; clear kB) | (go_at_call 8; refine (implAddRelease_any (hW0.1.keeps kW) (hW1.1.keeps kW) HNK.out (hW2.keeps kW) (hW4.keeps kW)).mono ?_; rintro e wB ⟨g_A0, g_N0, g_C0, rfl, g_0, kB⟩; have sW := kW.size; have sB := kB.size; rw [HR.out]; rw [HR.out] at g_0; dsimp only at g_0; have g_0 := g_0.widen (lo' := w65.heap.size) (by first | omega | (simp at sW; omega)) (Nat.le_refl _) (Nat.le_refl _); dsimp only; replace kW : Keeps w65 wB := kW.trans kB; clear kB)))
  clear kS hW0 hW1 hW2 hW4
  clear ca73_0 ca73_1 ca73_2 ca73_3 ca74_0 ca74_1 ca74_2 ca74_3 ca75
  have ss76 := kW.size
  replace p0 := p0.keeps kW
  replace p3 := p3.keeps kW
  replace p5 := p5.keeps kW
  replace bx0 := bx0.keeps kW
  replace p_0 := p_0.keeps kW
  replace x0 := x0.keeps kW
  replace x1 := x1.keeps kW
  replace x2 := x2.keeps kW
  replace x4 := x4.keeps kW
  replace kw := Keeps.trans kw kW
  have lt77 := bx0.lt
  have sz78 := kw.size
  clear kW
  obtain ⟨wy78, rfl⟩ : ∃ u : World, u = wB := ⟨_, rfl⟩
  obtain ⟨ca79, fa79⟩ := id p0
  have ca80_0 : wy78.cell? ⟨w.heap.size + 1, 0, none⟩ = some (.int .i64 d3a) := (p3.2 0 _ rfl).1
  have fa80_0 : wy78.frozen? ⟨w.heap.size + 1, 0, none⟩ = false := (p3.2 0 _ rfl).2
  have ca80_1 : wy78.cell? ⟨w.heap.size + 1, 1, none⟩ = some (.int .i64 d3b) := (p3.2 1 _ rfl).1
  have fa80_1 : wy78.frozen? ⟨w.heap.size + 1, 1, none⟩ = false := (p3.2 1 _ rfl).2
  have ca80_2 : wy78.cell? ⟨w.heap.size + 1, 2, none⟩ = some (.int .i64 d3c) := (p3.2 2 _ rfl).1
  have fa80_2 : wy78.frozen? ⟨w.heap.size + 1, 2, none⟩ = false := (p3.2 2 _ rfl).2
  have ca80_3 : wy78.cell? ⟨w.heap.size + 1, 3, none⟩ = some (.int .i64 d3d) := (p3.2 3 _ rfl).1
  have fa80_3 : wy78.frozen? ⟨w.heap.size + 1, 3, none⟩ = false := (p3.2 3 _ rfl).2
  have ca81_0 : wy78.cell? ⟨w.heap.size + 1 + 1, 0, none⟩ = some (.int .i64 d5a) := (p5.2 0 _ rfl).1
  have fa81_0 : wy78.frozen? ⟨w.heap.size + 1 + 1, 0, none⟩ = false := (p5.2 0 _ rfl).2
  have ca81_1 : wy78.cell? ⟨w.heap.size + 1 + 1, 1, none⟩ = some (.int .i64 d5b) := (p5.2 1 _ rfl).1
  have fa81_1 : wy78.frozen? ⟨w.heap.size + 1 + 1, 1, none⟩ = false := (p5.2 1 _ rfl).2
  have ca81_2 : wy78.cell? ⟨w.heap.size + 1 + 1, 2, none⟩ = some (.int .i64 d5c) := (p5.2 2 _ rfl).1
  have fa81_2 : wy78.frozen? ⟨w.heap.size + 1 + 1, 2, none⟩ = false := (p5.2 2 _ rfl).2
  have ca81_3 : wy78.cell? ⟨w.heap.size + 1 + 1, 3, none⟩ = some (.int .i64 d5d) := (p5.2 3 _ rfl).1
  have fa81_3 : wy78.frozen? ⟨w.heap.size + 1 + 1, 3, none⟩ = false := (p5.2 3 _ rfl).2
  obtain ⟨ca82, fa82⟩ := id bx0
  go_wp2_with fail
  clear ca79 fa79 ca80_0 fa80_0 ca80_1 fa80_1 ca80_2 fa80_2 ca80_3 fa80_3 ca81_0 fa81_0 ca81_1 fa81_1 ca81_2 fa81_2 ca81_3 fa81_3 ca82 fa82
  have e1 : (r1 != r1) = false := by simp
  refine (eqReleaseS_true g_0.rels p_0.rels).mono ?_
  rintro e w83 ⟨rfl, k83⟩
  have ss84 := k83.size
  replace p0 := p0.keeps k83
  replace p3 := p3.keeps k83
  replace p5 := p5.keeps k83
  replace bx0 := bx0.keeps k83
  replace p_0 := p_0.keeps k83
  replace x0 := x0.keeps k83
  replace x1 := x1.keeps k83
  replace x2 := x2.keeps k83
  replace x4 := x4.keeps k83
  replace g_0 := g_0.keeps k83
  replace kw := Keeps.trans kw k83
  have lt85 := bx0.lt
  have sz86 := kw.size
  clear k83
  obtain ⟨ca87, fa87⟩ := id p0
  have ca88_0 : w83.cell? ⟨w.heap.size + 1, 0, none⟩ = some (.int .i64 d3a) := (p3.2 0 _ rfl).1
  have fa88_0 : w83.frozen? ⟨w.heap.size + 1, 0, none⟩ = false := (p3.2 0 _ rfl).2
  have ca88_1 : w83.cell? ⟨w.heap.size + 1, 1, none⟩ = some (.int .i64 d3b) := (p3.2 1 _ rfl).1
  have fa88_1 : w83.frozen? ⟨w.heap.size + 1, 1, none⟩ = false := (p3.2 1 _ rfl).2
  have ca88_2 : w83.cell? ⟨w.heap.size + 1, 2, none⟩ = some (.int .i64 d3c) := (p3.2 2 _ rfl).1
  have fa88_2 : w83.frozen? ⟨w.heap.size + 1, 2, none⟩ = false := (p3.2 2 _ rfl).2
  have ca88_3 : w83.cell? ⟨w.heap.size + 1, 3, none⟩ = some (.int .i64 d3d) := (p3.2 3 _ rfl).1
  have fa88_3 : w83.frozen? ⟨w.heap.size + 1, 3, none⟩ = false := (p3.2 3 _ rfl).2
  have ca89_0 : w83.cell? ⟨w.heap.size + 1 + 1, 0, none⟩ = some (.int .i64 d5a) := (p5.2 0 _ rfl).1
  have fa89_0 : w83.frozen? ⟨w.heap.size + 1 + 1, 0, none⟩ = false := (p5.2 0 _ rfl).2
  have ca89_1 : w83.cell? ⟨w.heap.size + 1 + 1, 1, none⟩ = some (.int .i64 d5b) := (p5.2 1 _ rfl).1
  have fa89_1 : w83.frozen? ⟨w.heap.size + 1 + 1, 1, none⟩ = false := (p5.2 1 _ rfl).2
  have ca89_2 : w83.cell? ⟨w.heap.size + 1 + 1, 2, none⟩ = some (.int .i64 d5c) := (p5.2 2 _ rfl).1
  have fa89_2 : w83.frozen? ⟨w.heap.size + 1 + 1, 2, none⟩ = false := (p5.2 2 _ rfl).2
  have ca89_3 : w83.cell? ⟨w.heap.size + 1 + 1, 3, none⟩ = some (.int .i64 d5d) := (p5.2 3 _ rfl).1
  have fa89_3 : w83.frozen? ⟨w.heap.size + 1 + 1, 3, none⟩ = false := (p5.2 3 _ rfl).2
  obtain ⟨ca90, fa90⟩ := id bx0
  go_wp2_with fail
  clear ca87 fa87 ca88_0 fa88_0 ca88_1 fa88_1 ca88_2 fa88_2 ca88_3 fa88_3 ca89_0 fa89_0 ca89_1 fa89_1 ca89_2 fa89_2 ca89_3 fa89_3 ca90 fa90
  obtain ⟨ca91, -⟩ := id bx0
  obtain ⟨ca92, -⟩ := id p0
  have kS := hid (show ∀ w', Keeps w83 w' → (w'.cell? ⟨w41.heap.size, 0, none⟩ = some (.slice Bx0 n0 n0) ∧ w'.cell? ⟨w.heap.size, 0, none⟩ = some (.slice A0 n0 c0)) from fun w' k => ⟨cell_keeps ca91 k, cell_keeps ca92 k⟩)
  go_region_held3 (fun w' => w'.cell? ⟨w41.heap.size, 0, none⟩ = some (.slice Bx0 n0 n0) ∧ w'.cell? ⟨w.heap.size, 0, none⟩ = some (.slice A0 n0 c0)) (first | exact kS.out _ (keeps_d0 w83) | exact kS.out _ kW | go_keep)
    ((first | (go_at_call 25; refine (toGeo_any (h0.keeps (Keeps.trans kw (keeps_d0 w83)))).mono ?_; rintro e wB93 ⟨Bt93, rfl, t0, kB⟩; have kW : Keeps w83 wB93 := keeps_d kB; clear kB) | (go_at_call 31; refine (eqGeo_true (x0.1.keeps kW) t0.1).mono ?_; rintro e wC93 ⟨rfl, kC⟩; replace kW : Keeps w83 wC93 := kW.trans kC; clear kC)))
  clear kS t0
  clear ca91 ca92
  have ss94 := kW.size
  replace p0 := p0.keeps kW
  replace p3 := p3.keeps kW
  replace p5 := p5.keeps kW
  replace bx0 := bx0.keeps kW
  replace p_0 := p_0.keeps kW
  replace x0 := x0.keeps kW
  replace x1 := x1.keeps kW
  replace x2 := x2.keeps kW
  replace x4 := x4.keeps kW
  replace g_0 := g_0.keeps kW
  replace kw := Keeps.trans kw kW
  have lt95 := bx0.lt
  have sz96 := kw.size
  clear kW
  obtain ⟨ca97, fa97⟩ := id p0
  have ca98_0 : wC93.cell? ⟨w.heap.size + 1, 0, none⟩ = some (.int .i64 d3a) := (p3.2 0 _ rfl).1
  have fa98_0 : wC93.frozen? ⟨w.heap.size + 1, 0, none⟩ = false := (p3.2 0 _ rfl).2
  have ca98_1 : wC93.cell? ⟨w.heap.size + 1, 1, none⟩ = some (.int .i64 d3b) := (p3.2 1 _ rfl).1
  have fa98_1 : wC93.frozen? ⟨w.heap.size + 1, 1, none⟩ = false := (p3.2 1 _ rfl).2
  have ca98_2 : wC93.cell? ⟨w.heap.size + 1, 2, none⟩ = some (.int .i64 d3c) := (p3.2 2 _ rfl).1
  have fa98_2 : wC93.frozen? ⟨w.heap.size + 1, 2, none⟩ = false := (p3.2 2 _ rfl).2
  have ca98_3 : wC93.cell? ⟨w.heap.size + 1, 3, none⟩ = some (.int .i64 d3d) := (p3.2 3 _ rfl).1
  have fa98_3 : wC93.frozen? ⟨w.heap.size + 1, 3, none⟩ = false := (p3.2 3 _ rfl).2
  have ca99_0 : wC93.cell? ⟨w.heap.size + 1 + 1, 0, none⟩ = some (.int .i64 d5a) := (p5.2 0 _ rfl).1
  have fa99_0 : wC93.frozen? ⟨w.heap.size + 1 + 1, 0, none⟩ = false := (p5.2 0 _ rfl).2
  have ca99_1 : wC93.cell? ⟨w.heap.size + 1 + 1, 1, none⟩ = some (.int .i64 d5b) := (p5.2 1 _ rfl).1
  have fa99_1 : wC93.frozen? ⟨w.heap.size + 1 + 1, 1, none⟩ = false := (p5.2 1 _ rfl).2
  have ca99_2 : wC93.cell? ⟨w.heap.size + 1 + 1, 2, none⟩ = some (.int .i64 d5c) := (p5.2 2 _ rfl).1
  have fa99_2 : wC93.frozen? ⟨w.heap.size + 1 + 1, 2, none⟩ = false := (p5.2 2 _ rfl).2
  have ca99_3 : wC93.cell? ⟨w.heap.size + 1 + 1, 3, none⟩ = some (.int .i64 d5d) := (p5.2 3 _ rfl).1
  have fa99_3 : wC93.frozen? ⟨w.heap.size + 1 + 1, 3, none⟩ = false := (p5.2 3 _ rfl).2
  obtain ⟨ca100, fa100⟩ := id bx0
  go_wp2_with fail
  clear ca97 fa97 ca98_0 fa98_0 ca98_1 fa98_1 ca98_2 fa98_2 ca98_3 fa98_3 ca99_0 fa99_0 ca99_1 fa99_1 ca99_2 fa99_2 ca99_3 fa99_3 ca100 fa100
  refine (toVariableS_any (h1.keeps kw)).mono ?_
  rintro e w101 ⟨Bt1, rfl, t1, k101⟩
  have ss102 := k101.size
  replace p0 := p0.keeps k101
  replace p3 := p3.keeps k101
  replace p5 := p5.keeps k101
  replace bx0 := bx0.keeps k101
  replace p_0 := p_0.keeps k101
  replace x0 := x0.keeps k101
  replace x1 := x1.keeps k101
  replace x2 := x2.keeps k101
  replace x4 := x4.keeps k101
  replace g_0 := g_0.keeps k101
  replace kw := Keeps.trans kw k101
  have lt103 := bx0.lt
  have sz104 := kw.size
  clear k101
  obtain ⟨ca105, fa105⟩ := id p0
  have ca106_0 : w101.cell? ⟨w.heap.size + 1, 0, none⟩ = some (.int .i64 d3a) := (p3.2 0 _ rfl).1
  have fa106_0 : w101.frozen? ⟨w.heap.size + 1, 0, none⟩ = false := (p3.2 0 _ rfl).2
  have ca106_1 : w101.cell? ⟨w.heap.size + 1, 1, none⟩ = some (.int .i64 d3b) := (p3.2 1 _ rfl).1
  have fa106_1 : w101.frozen? ⟨w.heap.size + 1, 1, none⟩ = false := (p3.2 1 _ rfl).2
  have ca106_2 : w101.cell? ⟨w.heap.size + 1, 2, none⟩ = some (.int .i64 d3c) := (p3.2 2 _ rfl).1
  have fa106_2 : w101.frozen? ⟨w.heap.size + 1, 2, none⟩ = false := (p3.2 2 _ rfl).2
  have ca106_3 : w101.cell? ⟨w.heap.size + 1, 3, none⟩ = some (.int .i64 d3d) := (p3.2 3 _ rfl).1
  have fa106_3 : w101.frozen? ⟨w.heap.size + 1, 3, none⟩ = false := (p3.2 3 _ rfl).2
  have ca107_0 : w101.cell? ⟨w.heap.size + 1 + 1, 0, none⟩ = some (.int .i64 d5a) := (p5.2 0 _ rfl).1
  have fa107_0 : w101.frozen? ⟨w.heap.size + 1 + 1, 0, none⟩ = false := (p5.2 0 _ rfl).2
  have ca107_1 : w101.cell? ⟨w.heap.size + 1 + 1, 1, none⟩ = some (.int .i64 d5b) := (p5.2 1 _ rfl).1
  have fa107_1 : w101.frozen? ⟨w.heap.size + 1 + 1, 1, none⟩ = false := (p5.2 1 _ rfl).2
  have ca107_2 : w101.cell? ⟨w.heap.size + 1 + 1, 2, none⟩ = some (.int .i64 d5c) := (p5.2 2 _ rfl).1
  have fa107_2 : w101.frozen? ⟨w.heap.size + 1 + 1, 2, none⟩ = false := (p5.2 2 _ rfl).2
  have ca107_3 : w101.cell? ⟨w.heap.size + 1 + 1, 3, none⟩ = some (.int .i64 d5d) := (p5.2 3 _ rfl).1
  have fa107_3 : w101.frozen? ⟨w.heap.size + 1 + 1, 3, none⟩ = false := (p5.2 3 _ rfl).2
  obtain ⟨ca108, fa108⟩ := id bx0
  go_wp2_with fail
  clear ca105 fa105 ca106_0 fa106_0 ca106_1 fa106_1 ca106_2 fa106_2 ca106_3 fa106_3 ca107_0 fa107_0 ca107_1 fa107_1 ca107_2 fa107_2 ca107_3 fa107_3 ca108 fa108
  refine (eqVariableS_true x1.1 t1.1).mono ?_
  rintro e w109 ⟨rfl, k109⟩
  have ss110 := k109.size
  replace p0 := p0.keeps k109
  replace p3 := p3.keeps k109
  replace p5 := p5.keeps k109
  replace bx0 := bx0.keeps k109
  replace p_0 := p_0.keeps k109
  replace x0 := x0.keeps k109
  replace x1 := x1.keeps k109
  replace x2 := x2.keeps k109
  replace x4 := x4.keeps k109
  replace g_0 := g_0.keeps k109
  replace t1 := t1.keeps k109
  replace kw := Keeps.trans kw k109
  have lt111 := bx0.lt
  have sz112 := kw.size
  clear k109
  clear t1
  obtain ⟨ca113, fa113⟩ := id p0
  have ca114_0 : w109.cell? ⟨w.heap.size + 1, 0, none⟩ = some (.int .i64 d3a) := (p3.2 0 _ rfl).1
  have fa114_0 : w109.frozen? ⟨w.heap.size + 1, 0, none⟩ = false := (p3.2 0 _ rfl).2
  have ca114_1 : w109.cell? ⟨w.heap.size + 1, 1, none⟩ = some (.int .i64 d3b) := (p3.2 1 _ rfl).1
  have fa114_1 : w109.frozen? ⟨w.heap.size + 1, 1, none⟩ = false := (p3.2 1 _ rfl).2
  have ca114_2 : w109.cell? ⟨w.heap.size + 1, 2, none⟩ = some (.int .i64 d3c) := (p3.2 2 _ rfl).1
  have fa114_2 : w109.frozen? ⟨w.heap.size + 1, 2, none⟩ = false := (p3.2 2 _ rfl).2
  have ca114_3 : w109.cell? ⟨w.heap.size + 1, 3, none⟩ = some (.int .i64 d3d) := (p3.2 3 _ rfl).1
  have fa114_3 : w109.frozen? ⟨w.heap.size + 1, 3, none⟩ = false := (p3.2 3 _ rfl).2
  have ca115_0 : w109.cell? ⟨w.heap.size + 1 + 1, 0, none⟩ = some (.int .i64 d5a) := (p5.2 0 _ rfl).1
  have fa115_0 : w109.frozen? ⟨w.heap.size + 1 + 1, 0, none⟩ = false := (p5.2 0 _ rfl).2
  have ca115_1 : w109.cell? ⟨w.heap.size + 1 + 1, 1, none⟩ = some (.int .i64 d5b) := (p5.2 1 _ rfl).1
  have fa115_1 : w109.frozen? ⟨w.heap.size + 1 + 1, 1, none⟩ = false := (p5.2 1 _ rfl).2
  have ca115_2 : w109.cell? ⟨w.heap.size + 1 + 1, 2, none⟩ = some (.int .i64 d5c) := (p5.2 2 _ rfl).1
  have fa115_2 : w109.frozen? ⟨w.heap.size + 1 + 1, 2, none⟩ = false := (p5.2 2 _ rfl).2
  have ca115_3 : w109.cell? ⟨w.heap.size + 1 + 1, 3, none⟩ = some (.int .i64 d5d) := (p5.2 3 _ rfl).1
  have fa115_3 : w109.frozen? ⟨w.heap.size + 1 + 1, 3, none⟩ = false := (p5.2 3 _ rfl).2
  obtain ⟨ca116, fa116⟩ := id bx0
  go_wp2_with fail
  clear ca113 fa113 ca114_0 fa114_0 ca114_1 fa114_1 ca114_2 fa114_2 ca114_3 fa114_3 ca115_0 fa115_0 ca115_1 fa115_1 ca115_2 fa115_2 ca115_3 fa115_3 ca116 fa116
  refine (toReleaseS_any (h2.keeps kw)).mono ?_
  rintro e w117 ⟨Bt2, rfl, t2, k117⟩
  have ss118 := k117.size
  replace p0 := p0.keeps k117
  replace p3 := p3.keeps k117
  replace p5 := p5.keeps k117
  replace bx0 := bx0.keeps k117
  replace p_0 := p_0.keeps k117
  replace x0 := x0.keeps k117
  replace x1 := x1.keeps k117
  replace x2 := x2.keeps k117
  replace x4 := x4.keeps k117
  replace g_0 := g_0.keeps k117
  replace kw := Keeps.trans kw k117
  have lt119 := bx0.lt
  have sz120 := kw.size
  clear k117
  obtain ⟨ca121, fa121⟩ := id p0
  have ca122_0 : w117.cell? ⟨w.heap.size + 1, 0, none⟩ = some (.int .i64 d3a) := (p3.2 0 _ rfl).1
  have fa122_0 : w117.frozen? ⟨w.heap.size + 1, 0, none⟩ = false := (p3.2 0 _ rfl).2
  have ca122_1 : w117.cell? ⟨w.heap.size + 1, 1, none⟩ = some (.int .i64 d3b) := (p3.2 1 _ rfl).1
  have fa122_1 : w117.frozen? ⟨w.heap.size + 1, 1, none⟩ = false := (p3.2 1 _ rfl).2
  have ca122_2 : w117.cell? ⟨w.heap.size + 1, 2, none⟩ = some (.int .i64 d3c) := (p3.2 2 _ rfl).1
  have fa122_2 : w117.frozen? ⟨w.heap.size + 1, 2, none⟩ = false := (p3.2 2 _ rfl).2
  have ca122_3 : w117.cell? ⟨w.heap.size + 1, 3, none⟩ = some (.int .i64 d3d) := (p3.2 3 _ rfl).1
  have fa122_3 : w117.frozen? ⟨w.heap.size + 1, 3, none⟩ = false := (p3.2 3 _ rfl).2
  have ca123_0 : w117.cell? ⟨w.heap.size + 1 + 1, 0, none⟩ = some (.int .i64 d5a) := (p5.2 0 _ rfl).1
  have fa123_0 : w117.frozen? ⟨w.heap.size + 1 + 1, 0, none⟩ = false := (p5.2 0 _ rfl).2
  have ca123_1 : w117.cell? ⟨w.heap.size + 1 + 1, 1, none⟩ = some (.int .i64 d5b) := (p5.2 1 _ rfl).1
  have fa123_1 : w117.frozen? ⟨w.heap.size + 1 + 1, 1, none⟩ = false := (p5.2 1 _ rfl).2
  have ca123_2 : w117.cell? ⟨w.heap.size + 1 + 1, 2, none⟩ = some (.int .i64 d5c) := (p5.2 2 _ rfl).1
  have fa123_2 : w117.frozen? ⟨w.heap.size + 1 + 1, 2, none⟩ = false := (p5.2 2 _ rfl).2
  have ca123_3 : w117.cell? ⟨w.heap.size + 1 + 1, 3, none⟩ = some (.int .i64 d5d) := (p5.2 3 _ rfl).1
  have fa123_3 : w117.frozen? ⟨w.heap.size + 1 + 1, 3, none⟩ = false := (p5.2 3 _ rfl).2
  obtain ⟨ca124, fa124⟩ := id bx0
  go_wp2_with fail
  clear ca121 fa121 ca122_0 fa122_0 ca122_1 fa122_1 ca122_2 fa122_2 ca122_3 fa122_3 ca123_0 fa123_0 ca123_1 fa123_1 ca123_2 fa123_2 ca123_3 fa123_3 ca124 fa124
  refine (eqReleaseS_true x2 t2).mono ?_
  rintro e w125 ⟨rfl, k125⟩
  have ss126 := k125.size
  replace p0 := p0.keeps k125
  replace p3 := p3.keeps k125
  replace p5 := p5.keeps k125
  replace bx0 := bx0.keeps k125
  replace p_0 := p_0.keeps k125
  replace x0 := x0.keeps k125
  replace x1 := x1.keeps k125
  replace x2 := x2.keeps k125
  replace x4 := x4.keeps k125
  replace g_0 := g_0.keeps k125
  replace t2 := t2.keeps k125
  replace kw := Keeps.trans kw k125
  have lt127 := bx0.lt
  have sz128 := kw.size
  clear k125
  clear t2
  obtain ⟨ca129, fa129⟩ := id p0
  have ca130_0 : w125.cell? ⟨w.heap.size + 1, 0, none⟩ = some (.int .i64 d3a) := (p3.2 0 _ rfl).1
  have fa130_0 : w125.frozen? ⟨w.heap.size + 1, 0, none⟩ = false := (p3.2 0 _ rfl).2
  have ca130_1 : w125.cell? ⟨w.heap.size + 1, 1, none⟩ = some (.int .i64 d3b) := (p3.2 1 _ rfl).1
  have fa130_1 : w125.frozen? ⟨w.heap.size + 1, 1, none⟩ = false := (p3.2 1 _ rfl).2
  have ca130_2 : w125.cell? ⟨w.heap.size + 1, 2, none⟩ = some (.int .i64 d3c) := (p3.2 2 _ rfl).1
  have fa130_2 : w125.frozen? ⟨w.heap.size + 1, 2, none⟩ = false := (p3.2 2 _ rfl).2
  have ca130_3 : w125.cell? ⟨w.heap.size + 1, 3, none⟩ = some (.int .i64 d3d) := (p3.2 3 _ rfl).1
  have fa130_3 : w125.frozen? ⟨w.heap.size + 1, 3, none⟩ = false := (p3.2 3 _ rfl).2
  have ca131_0 : w125.cell? ⟨w.heap.size + 1 + 1, 0, none⟩ = some (.int .i64 d5a) := (p5.2 0 _ rfl).1
  have fa131_0 : w125.frozen? ⟨w.heap.size + 1 + 1, 0, none⟩ = false := (p5.2 0 _ rfl).2
  have ca131_1 : w125.cell? ⟨w.heap.size + 1 + 1, 1, none⟩ = some (.int .i64 d5b) := (p5.2 1 _ rfl).1
  have fa131_1 : w125.frozen? ⟨w.heap.size + 1 + 1, 1, none⟩ = false := (p5.2 1 _ rfl).2
  have ca131_2 : w125.cell? ⟨w.heap.size + 1 + 1, 2, none⟩ = some (.int .i64 d5c) := (p5.2 2 _ rfl).1
  have fa131_2 : w125.frozen? ⟨w.heap.size + 1 + 1, 2, none⟩ = false := (p5.2 2 _ rfl).2
  have ca131_3 : w125.cell? ⟨w.heap.size + 1 + 1, 3, none⟩ = some (.int .i64 d5d) := (p5.2 3 _ rfl).1
  have fa131_3 : w125.frozen? ⟨w.heap.size + 1 + 1, 3, none⟩ = false := (p5.2 3 _ rfl).2
  obtain ⟨ca132, fa132⟩ := id bx0
  go_wp2_with fail
  clear ca129 fa129 ca130_0 fa130_0 ca130_1 fa130_1 ca130_2 fa130_2 ca130_3 fa130_3 ca131_0 fa131_0 ca131_1 fa131_1 ca131_2 fa131_2 ca131_3 fa131_3 ca132 fa132
  refine (toTableS_any (h4.keeps kw)).mono ?_
  rintro e w133 ⟨Bt4, rfl, t4, k133⟩
  have ss134 := k133.size
  replace p0 := p0.keeps k133
  replace p3 := p3.keeps k133
  replace p5 := p5.keeps k133
  replace bx0 := bx0.keeps k133
  replace p_0 := p_0.keeps k133
  replace x0 := x0.keeps k133
  replace x1 := x1.keeps k133
  replace x2 := x2.keeps k133
  replace x4 := x4.keeps k133
  replace g_0 := g_0.keeps k133
  replace kw := Keeps.trans kw k133
  have lt135 := bx0.lt
  have sz136 := kw.size
  clear k133
  obtain ⟨ca137, fa137⟩ := id p0
  have ca138_0 : w133.cell? ⟨w.heap.size + 1, 0, none⟩ = some (.int .i64 d3a) := (p3.2 0 _ rfl).1
  have fa138_0 : w133.frozen? ⟨w.heap.size + 1, 0, none⟩ = false := (p3.2 0 _ rfl).2
  have ca138_1 : w133.cell? ⟨w.heap.size + 1, 1, none⟩ = some (.int .i64 d3b) := (p3.2 1 _ rfl).1
  have fa138_1 : w133.frozen? ⟨w.heap.size + 1, 1, none⟩ = false := (p3.2 1 _ rfl).2
  have ca138_2 : w133.cell? ⟨w.heap.size + 1, 2, none⟩ = some (.int .i64 d3c) := (p3.2 2 _ rfl).1
  have fa138_2 : w133.frozen? ⟨w.heap.size + 1, 2, none⟩ = false := (p3.2 2 _ rfl).2
  have ca138_3 : w133.cell? ⟨w.heap.size + 1, 3, none⟩ = some (.int .i64 d3d) := (p3.2 3 _ rfl).1
  have fa138_3 : w133.frozen? ⟨w.heap.size + 1, 3, none⟩ = false := (p3.2 3 _ rfl).2
  have ca139_0 : w133.cell? ⟨w.heap.size + 1 + 1, 0, none⟩ = some (.int .i64 d5a) := (p5.2 0 _ rfl).1
  have fa139_0 : w133.frozen? ⟨w.heap.size + 1 + 1, 0, none⟩ = false := (p5.2 0 _ rfl).2
  have ca139_1 : w133.cell? ⟨w.heap.size + 1 + 1, 1, none⟩ = some (.int .i64 d5b) := (p5.2 1 _ rfl).1
  have fa139_1 : w133.frozen? ⟨w.heap.size + 1 + 1, 1, none⟩ = false := (p5.2 1 _ rfl).2
  have ca139_2 : w133.cell? ⟨w.heap.size + 1 + 1, 2, none⟩ = some (.int .i64 d5c) := (p5.2 2 _ rfl).1
  have fa139_2 : w133.frozen? ⟨w.heap.size + 1 + 1, 2, none⟩ = false := (p5.2 2 _ rfl).2
  have ca139_3 : w133.cell? ⟨w.heap.size + 1 + 1, 3, none⟩ = some (.int .i64 d5d) := (p5.2 3 _ rfl).1
  have fa139_3 : w133.frozen? ⟨w.heap.size + 1 + 1, 3, none⟩ = false := (p5.2 3 _ rfl).2
  obtain ⟨ca140, fa140⟩ := id bx0
  go_wp2_with fail
  clear ca137 fa137 ca138_0 fa138_0 ca138_1 fa138_1 ca138_2 fa138_2 ca138_3 fa138_3 ca139_0 fa139_0 ca139_1 fa139_1 ca139_2 fa139_2 ca139_3 fa139_3 ca140 fa140
  refine (eqTableS_true x4 t4).mono ?_
  rintro e w141 ⟨rfl, k141⟩
  have ss142 := k141.size
  replace p0 := p0.keeps k141
  replace p3 := p3.keeps k141
  replace p5 := p5.keeps k141
  replace bx0 := bx0.keeps k141
  replace p_0 := p_0.keeps k141
  replace x0 := x0.keeps k141
  replace x1 := x1.keeps k141
  replace x2 := x2.keeps k141
  replace x4 := x4.keeps k141
  replace g_0 := g_0.keeps k141
  replace t4 := t4.keeps k141
  replace kw := Keeps.trans kw k141
  have lt143 := bx0.lt
  have sz144 := kw.size
  clear k141
  clear t4
  obtain ⟨ca145, fa145⟩ := id p0
  have ca146_0 : w141.cell? ⟨w.heap.size + 1, 0, none⟩ = some (.int .i64 d3a) := (p3.2 0 _ rfl).1
  have fa146_0 : w141.frozen? ⟨w.heap.size + 1, 0, none⟩ = false := (p3.2 0 _ rfl).2
  have ca146_1 : w141.cell? ⟨w.heap.size + 1, 1, none⟩ = some (.int .i64 d3b) := (p3.2 1 _ rfl).1
  have fa146_1 : w141.frozen? ⟨w.heap.size + 1, 1, none⟩ = false := (p3.2 1 _ rfl).2
  have ca146_2 : w141.cell? ⟨w.heap.size + 1, 2, none⟩ = some (.int .i64 d3c) := (p3.2 2 _ rfl).1
  have fa146_2 : w141.frozen? ⟨w.heap.size + 1, 2, none⟩ = false := (p3.2 2 _ rfl).2
  have ca146_3 : w141.cell? ⟨w.heap.size + 1, 3, none⟩ = some (.int .i64 d3d) := (p3.2 3 _ rfl).1
  have fa146_3 : w141.frozen? ⟨w.heap.size + 1, 3, none⟩ = false := (p3.2 3 _ rfl).2
  have ca147_0 : w141.cell? ⟨w.heap.size + 1 + 1, 0, none⟩ = some (.int .i64 d5a) := (p5.2 0 _ rfl).1
  have fa147_0 : w141.frozen? ⟨w.heap.size + 1 + 1, 0, none⟩ = false := (p5.2 0 _ rfl).2
  have ca147_1 : w141.cell? ⟨w.heap.size + 1 + 1, 1, none⟩ = some (.int .i64 d5b) := (p5.2 1 _ rfl).1
  have fa147_1 : w141.frozen? ⟨w.heap.size + 1 + 1, 1, none⟩ = false := (p5.2 1 _ rfl).2
  have ca147_2 : w141.cell? ⟨w.heap.size + 1 + 1, 2, none⟩ = some (.int .i64 d5c) := (p5.2 2 _ rfl).1
  have fa147_2 : w141.frozen? ⟨w.heap.size + 1 + 1, 2, none⟩ = false := (p5.2 2 _ rfl).2
  have ca147_3 : w141.cell? ⟨w.heap.size + 1 + 1, 3, none⟩ = some (.int .i64 d5d) := (p5.2 3 _ rfl).1
  have fa147_3 : w141.frozen? ⟨w.heap.size + 1 + 1, 3, none⟩ = false := (p5.2 3 _ rfl).2
  obtain ⟨ca148, fa148⟩ := id bx0
  go_wp2_with fail
  clear ca145 fa145 ca146_0 fa146_0 ca146_1 fa146_1 ca146_2 fa146_2 ca146_3 fa146_3 ca147_0 fa147_0 ca147_1 fa147_1 ca147_2 fa147_2 ca147_3 fa147_3 ca148 fa148
  refine (markGeo_any x0 (by omega) (by omega)).mono ?_
  rintro e w149 ⟨rfl, mk149, f149⟩
  clear x0
  replace p0 := p0.fr f149 (by omega)
  replace p3 := p3.fr f149 (by omega)
  replace p5 := p5.fr f149 (by omega)
  replace bx0 := bx0.fr f149 (by omega)
  replace p_0 := p_0.fr f149 (by omega)
  replace x1 := x1.fr f149 (by omega)
  replace x2 := x2.fr f149 (by omega)
  replace x4 := x4.fr f149 (by omega)
  replace g_0 := g_0.fr f149 (by omega)
  have ssf149 := f149.size
  replace kw := below_fr kw kw.size (by omega) f149
  obtain ⟨ca150, fa150⟩ := id p0
  have ca151_0 : w149.cell? ⟨w.heap.size + 1, 0, none⟩ = some (.int .i64 d3a) := (p3.2 0 _ rfl).1
  have fa151_0 : w149.frozen? ⟨w.heap.size + 1, 0, none⟩ = false := (p3.2 0 _ rfl).2
  have ca151_1 : w149.cell? ⟨w.heap.size + 1, 1, none⟩ = some (.int .i64 d3b) := (p3.2 1 _ rfl).1
  have fa151_1 : w149.frozen? ⟨w.heap.size + 1, 1, none⟩ = false := (p3.2 1 _ rfl).2
  have ca151_2 : w149.cell? ⟨w.heap.size + 1, 2, none⟩ = some (.int .i64 d3c) := (p3.2 2 _ rfl).1
  have fa151_2 : w149.frozen? ⟨w.heap.size + 1, 2, none⟩ = false := (p3.2 2 _ rfl).2
  have ca151_3 : w149.cell? ⟨w.heap.size + 1, 3, none⟩ = some (.int .i64 d3d) := (p3.2 3 _ rfl).1
  have fa151_3 : w149.frozen? ⟨w.heap.size + 1, 3, none⟩ = false := (p3.2 3 _ rfl).2
  have ca152_0 : w149.cell? ⟨w.heap.size + 1 + 1, 0, none⟩ = some (.int .i64 d5a) := (p5.2 0 _ rfl).1
  have fa152_0 : w149.frozen? ⟨w.heap.size + 1 + 1, 0, none⟩ = false := (p5.2 0 _ rfl).2
  have ca152_1 : w149.cell? ⟨w.heap.size + 1 + 1, 1, none⟩ = some (.int .i64 d5b) := (p5.2 1 _ rfl).1
  have fa152_1 : w149.frozen? ⟨w.heap.size + 1 + 1, 1, none⟩ = false := (p5.2 1 _ rfl).2
  have ca152_2 : w149.cell? ⟨w.heap.size + 1 + 1, 2, none⟩ = some (.int .i64 d5c) := (p5.2 2 _ rfl).1
  have fa152_2 : w149.frozen? ⟨w.heap.size + 1 + 1, 2, none⟩ = false := (p5.2 2 _ rfl).2
  have ca152_3 : w149.cell? ⟨w.heap.size + 1 + 1, 3, none⟩ = some (.int .i64 d5d) := (p5.2 3 _ rfl).1
  have fa152_3 : w149.frozen? ⟨w.heap.size + 1 + 1, 3, none⟩ = false := (p5.2 3 _ rfl).2
  obtain ⟨ca153, fa153⟩ := id bx0
  go_wp2_with fail
  clear ca150 fa150 ca151_0 fa151_0 ca151_1 fa151_1 ca151_2 fa151_2 ca151_3 fa151_3 ca152_0 fa152_0 ca152_1 fa152_1 ca152_2 fa152_2 ca152_3 fa152_3 ca153 fa153
  clear mk149
  refine (markVs_any x1 (by omega) (by omega) (by omega)).mono ?_
  rintro e w154 ⟨rfl, mk154, f154⟩
  clear x1
  replace p0 := p0.fr f154 (by omega)
  replace p3 := p3.fr f154 (by omega)
  replace p5 := p5.fr f154 (by omega)
  replace bx0 := bx0.fr f154 (by omega)
  replace p_0 := p_0.fr f154 (by omega)
  replace x2 := x2.fr f154 (by omega)
  replace x4 := x4.fr f154 (by omega)
  replace g_0 := g_0.fr f154 (by omega)
  have ssf154 := f154.size
  replace kw := below_fr kw kw.size (by omega) f154
  obtain ⟨ca155, fa155⟩ := id p0
  have ca156_0 : w154.cell? ⟨w.heap.size + 1, 0, none⟩ = some (.int .i64 d3a) := (p3.2 0 _ rfl).1
  have fa156_0 : w154.frozen? ⟨w.heap.size + 1, 0, none⟩ = false := (p3.2 0 _ rfl).2
  have ca156_1 : w154.cell? ⟨w.heap.size + 1, 1, none⟩ = some (.int .i64 d3b) := (p3.2 1 _ rfl).1
  have fa156_1 : w154.frozen? ⟨w.heap.size + 1, 1, none⟩ = false := (p3.2 1 _ rfl).2
  have ca156_2 : w154.cell? ⟨w.heap.size + 1, 2, none⟩ = some (.int .i64 d3c) := (p3.2 2 _ rfl).1
  have fa156_2 : w154.frozen? ⟨w.heap.size + 1, 2, none⟩ = false := (p3.2 2 _ rfl).2
  have ca156_3 : w154.cell? ⟨w.heap.size + 1, 3, none⟩ = some (.int .i64 d3d) := (p3.2 3 _ rfl).1
  have fa156_3 : w154.frozen? ⟨w.heap.size + 1, 3, none⟩ = false := (p3.2 3 _ rfl).2
  have ca157_0 : w154.cell? ⟨w.heap.size + 1 + 1, 0, none⟩ = some (.int .i64 d5a) := (p5.2 0 _ rfl).1
  have fa157_0 : w154.frozen? ⟨w.heap.size + 1 + 1, 0, none⟩ = false := (p5.2 0 _ rfl).2
  have ca157_1 : w154.cell? ⟨w.heap.size + 1 + 1, 1, none⟩ = some (.int .i64 d5b) := (p5.2 1 _ rfl).1
  have fa157_1 : w154.frozen? ⟨w.heap.size + 1 + 1, 1, none⟩ = false := (p5.2 1 _ rfl).2
  have ca157_2 : w154.cell? ⟨w.heap.size + 1 + 1, 2, none⟩ = some (.int .i64 d5c) := (p5.2 2 _ rfl).1
  have fa157_2 : w154.frozen? ⟨w.heap.size + 1 + 1, 2, none⟩ = false := (p5.2 2 _ rfl).2
  have ca157_3 : w154.cell? ⟨w.heap.size + 1 + 1, 3, none⟩ = some (.int .i64 d5d) := (p5.2 3 _ rfl).1
  have fa157_3 : w154.frozen? ⟨w.heap.size + 1 + 1, 3, none⟩ = false := (p5.2 3 _ rfl).2
  obtain ⟨ca158, fa158⟩ := id bx0
  go_wp2_with fail
  clear ca155 fa155 ca156_0 fa156_0 ca156_1 fa156_1 ca156_2 fa156_2 ca156_3 fa156_3 ca157_0 fa157_0 ca157_1 fa157_1 ca157_2 fa157_2 ca157_3 fa157_3 ca158 fa158
  clear mk154
  refine (markReleaseS_any x2.shape (by omega) (by omega) (by omega)).mono ?_
  rintro e w159 ⟨⟨kk159, rfl, kl159, ku159⟩, mk159, f159⟩
  clear x2 mk159
  replace p0 := p0.fr f159 (by omega)
  replace p3 := p3.fr f159 (by omega)
  replace p5 := p5.fr f159 (by omega)
  replace bx0 := bx0.fr f159 (by omega)
  replace p_0 := p_0.fr f159 (by omega)
  replace x4 := x4.fr f159 (by omega)
  replace g_0 := g_0.fr f159 (by omega)
  have ssf159 := f159.size
  replace kw := below_fr kw kw.size (by omega) f159
  obtain ⟨ca160, fa160⟩ := id p0
  have ca161_0 : w159.cell? ⟨w.heap.size + 1, 0, none⟩ = some (.int .i64 d3a) := (p3.2 0 _ rfl).1
  have fa161_0 : w159.frozen? ⟨w.heap.size + 1, 0, none⟩ = false := (p3.2 0 _ rfl).2
  have ca161_1 : w159.cell? ⟨w.heap.size + 1, 1, none⟩ = some (.int .i64 d3b) := (p3.2 1 _ rfl).1
  have fa161_1 : w159.frozen? ⟨w.heap.size + 1, 1, none⟩ = false := (p3.2 1 _ rfl).2
  have ca161_2 : w159.cell? ⟨w.heap.size + 1, 2, none⟩ = some (.int .i64 d3c) := (p3.2 2 _ rfl).1
  have fa161_2 : w159.frozen? ⟨w.heap.size + 1, 2, none⟩ = false := (p3.2 2 _ rfl).2
  have ca161_3 : w159.cell? ⟨w.heap.size + 1, 3, none⟩ = some (.int .i64 d3d) := (p3.2 3 _ rfl).1
  have fa161_3 : w159.frozen? ⟨w.heap.size + 1, 3, none⟩ = false := (p3.2 3 _ rfl).2
  have ca162_0 : w159.cell? ⟨w.heap.size + 1 + 1, 0, none⟩ = some (.int .i64 d5a) := (p5.2 0 _ rfl).1
  have fa162_0 : w159.frozen? ⟨w.heap.size + 1 + 1, 0, none⟩ = false := (p5.2 0 _ rfl).2
  have ca162_1 : w159.cell? ⟨w.heap.size + 1 + 1, 1, none⟩ = some (.int .i64 d5b) := (p5.2 1 _ rfl).1
  have fa162_1 : w159.frozen? ⟨w.heap.size + 1 + 1, 1, none⟩ = false := (p5.2 1 _ rfl).2
  have ca162_2 : w159.cell? ⟨w.heap.size + 1 + 1, 2, none⟩ = some (.int .i64 d5c) := (p5.2 2 _ rfl).1
  have fa162_2 : w159.frozen? ⟨w.heap.size + 1 + 1, 2, none⟩ = false := (p5.2 2 _ rfl).2
  have ca162_3 : w159.cell? ⟨w.heap.size + 1 + 1, 3, none⟩ = some (.int .i64 d5d) := (p5.2 3 _ rfl).1
  have fa162_3 : w159.frozen? ⟨w.heap.size + 1 + 1, 3, none⟩ = false := (p5.2 3 _ rfl).2
  obtain ⟨ca163, fa163⟩ := id bx0
  go_wp2_with fail
  clear ca160 fa160 ca161_0 fa161_0 ca161_1 fa161_1 ca161_2 fa161_2 ca161_3 fa161_3 ca162_0 fa162_0 ca162_1 fa162_1 ca162_2 fa162_2 ca162_3 fa162_3 ca163 fa163
  refine (markTableS_any x4.shape (by omega) (by omega) (by omega)).mono ?_
  rintro e w164 ⟨rfl, mk164, f164⟩
  clear x4 mk164
  replace p0 := p0.fr f164 (by omega)
  replace p3 := p3.fr f164 (by omega)
  replace p5 := p5.fr f164 (by omega)
  replace bx0 := bx0.fr f164 (by omega)
  replace p_0 := p_0.fr f164 (by omega)
  replace g_0 := g_0.fr f164 (by omega)
  have ssf164 := f164.size
  replace kw := below_fr kw kw.size (by omega) f164
  obtain ⟨ca165, fa165⟩ := id p0
  have ca166_0 : w164.cell? ⟨w.heap.size + 1, 0, none⟩ = some (.int .i64 d3a) := (p3.2 0 _ rfl).1
  have fa166_0 : w164.frozen? ⟨w.heap.size + 1, 0, none⟩ = false := (p3.2 0 _ rfl).2
  have ca166_1 : w164.cell? ⟨w.heap.size + 1, 1, none⟩ = some (.int .i64 d3b) := (p3.2 1 _ rfl).1
  have fa166_1 : w164.frozen? ⟨w.heap.size + 1, 1, none⟩ = false := (p3.2 1 _ rfl).2
  have ca166_2 : w164.cell? ⟨w.heap.size + 1, 2, none⟩ = some (.int .i64 d3c) := (p3.2 2 _ rfl).1
  have fa166_2 : w164.frozen? ⟨w.heap.size + 1, 2, none⟩ = false := (p3.2 2 _ rfl).2
  have ca166_3 : w164.cell? ⟨w.heap.size + 1, 3, none⟩ = some (.int .i64 d3d) := (p3.2 3 _ rfl).1
  have fa166_3 : w164.frozen? ⟨w.heap.size + 1, 3, none⟩ = false := (p3.2 3 _ rfl).2
  have ca167_0 : w164.cell? ⟨w.heap.size + 1 + 1, 0, none⟩ = some (.int .i64 d5a) := (p5.2 0 _ rfl).1
  have fa167_0 : w164.frozen? ⟨w.heap.size + 1 + 1, 0, none⟩ = false := (p5.2 0 _ rfl).2
  have ca167_1 : w164.cell? ⟨w.heap.size + 1 + 1, 1, none⟩ = some (.int .i64 d5b) := (p5.2 1 _ rfl).1
  have fa167_1 : w164.frozen? ⟨w.heap.size + 1 + 1, 1, none⟩ = false := (p5.2 1 _ rfl).2
  have ca167_2 : w164.cell? ⟨w.heap.size + 1 + 1, 2, none⟩ = some (.int .i64 d5c) := (p5.2 2 _ rfl).1
  have fa167_2 : w164.frozen? ⟨w.heap.size + 1 + 1, 2, none⟩ = false := (p5.2 2 _ rfl).2
  have ca167_3 : w164.cell? ⟨w.heap.size + 1 + 1, 3, none⟩ = some (.int .i64 d5d) := (p5.2 3 _ rfl).1
  have fa167_3 : w164.frozen? ⟨w.heap.size + 1 + 1, 3, none⟩ = false := (p5.2 3 _ rfl).2
  obtain ⟨ca168, fa168⟩ := id bx0
  go_wp2_with fail
  clear ca165 fa165 ca166_0 fa166_0 ca166_1 fa166_1 ca166_2 fa166_2 ca166_3 fa166_3 ca167_0 fa167_0 ca167_1 fa167_1 ca167_2 fa167_2 ca167_3 fa167_3 ca168 fa168
  refine (eqReleaseS_true g_0.rels p_0.rels).mono ?_
  rintro e w169 ⟨rfl, k169⟩
  have ss170 := k169.size
  replace p0 := p0.keeps k169
  replace p3 := p3.keeps k169
  replace p5 := p5.keeps k169
  replace bx0 := bx0.keeps k169
  replace p_0 := p_0.keeps k169
  replace g_0 := g_0.keeps k169
  replace kw := Keeps.trans kw k169
  have lt171 := bx0.lt
  have sz172 := kw.size
  clear k169
  obtain ⟨ca173, fa173⟩ := id p0
  have ca174_0 : w169.cell? ⟨w.heap.size + 1, 0, none⟩ = some (.int .i64 d3a) := (p3.2 0 _ rfl).1
  have fa174_0 : w169.frozen? ⟨w.heap.size + 1, 0, none⟩ = false := (p3.2 0 _ rfl).2
  have ca174_1 : w169.cell? ⟨w.heap.size + 1, 1, none⟩ = some (.int .i64 d3b) := (p3.2 1 _ rfl).1
  have fa174_1 : w169.frozen? ⟨w.heap.size + 1, 1, none⟩ = false := (p3.2 1 _ rfl).2
  have ca174_2 : w169.cell? ⟨w.heap.size + 1, 2, none⟩ = some (.int .i64 d3c) := (p3.2 2 _ rfl).1
  have fa174_2 : w169.frozen? ⟨w.heap.size + 1, 2, none⟩ = false := (p3.2 2 _ rfl).2
  have ca174_3 : w169.cell? ⟨w.heap.size + 1, 3, none⟩ = some (.int .i64 d3d) := (p3.2 3 _ rfl).1
  have fa174_3 : w169.frozen? ⟨w.heap.size + 1, 3, none⟩ = false := (p3.2 3 _ rfl).2
  have ca175_0 : w169.cell? ⟨w.heap.size + 1 + 1, 0, none⟩ = some (.int .i64 d5a) := (p5.2 0 _ rfl).1
  have fa175_0 : w169.frozen? ⟨w.heap.size + 1 + 1, 0, none⟩ = false := (p5.2 0 _ rfl).2
  have ca175_1 : w169.cell? ⟨w.heap.size + 1 + 1, 1, none⟩ = some (.int .i64 d5b) := (p5.2 1 _ rfl).1
  have fa175_1 : w169.frozen? ⟨w.heap.size + 1 + 1, 1, none⟩ = false := (p5.2 1 _ rfl).2
  have ca175_2 : w169.cell? ⟨w.heap.size + 1 + 1, 2, none⟩ = some (.int .i64 d5c) := (p5.2 2 _ rfl).1
  have fa175_2 : w169.frozen? ⟨w.heap.size + 1 + 1, 2, none⟩ = false := (p5.2 2 _ rfl).2
  have ca175_3 : w169.cell? ⟨w.heap.size + 1 + 1, 3, none⟩ = some (.int .i64 d5d) := (p5.2 3 _ rfl).1
  have fa175_3 : w169.frozen? ⟨w.heap.size + 1 + 1, 3, none⟩ = false := (p5.2 3 _ rfl).2
  obtain ⟨ca176, fa176⟩ := id bx0
  go_wp2_with fail
  clear ca173 fa173 ca174_0 fa174_0 ca174_1 fa174_1 ca174_2 fa174_2 ca174_3 fa174_3 ca175_0 fa175_0 ca175_1 fa175_1 ca175_2 fa175_2 ca175_3 fa175_3 ca176 fa176
  have hsz := hsm
  rw [g_0.len] at hsz
  refine (markReleaseS_sep g_0 (by omega) (by omega) hsz).mono ?_
  rintro e w177 ⟨rfl, mk177, f177⟩
  clear g_0
  replace p0 := p0.fr f177 (by omega)
  replace p3 := p3.fr f177 (by omega)
  replace p5 := p5.fr f177 (by omega)
  replace bx0 := bx0.fr f177 (by omega)
  replace p_0 := p_0.fr f177 (by omega)
  have ssf177 := f177.size
  replace kw := below_fr kw kw.size (by omega) f177
  obtain ⟨ca178, fa178⟩ := id p0
  have ca179_0 : w177.cell? ⟨w.heap.size + 1, 0, none⟩ = some (.int .i64 d3a) := (p3.2 0 _ rfl).1
  have fa179_0 : w177.frozen? ⟨w.heap.size + 1, 0, none⟩ = false := (p3.2 0 _ rfl).2
  have ca179_1 : w177.cell? ⟨w.heap.size + 1, 1, none⟩ = some (.int .i64 d3b) := (p3.2 1 _ rfl).1
  have fa179_1 : w177.frozen? ⟨w.heap.size + 1, 1, none⟩ = false := (p3.2 1 _ rfl).2
  have ca179_2 : w177.cell? ⟨w.heap.size + 1, 2, none⟩ = some (.int .i64 d3c) := (p3.2 2 _ rfl).1
  have fa179_2 : w177.frozen? ⟨w.heap.size + 1, 2, none⟩ = false := (p3.2 2 _ rfl).2
  have ca179_3 : w177.cell? ⟨w.heap.size + 1, 3, none⟩ = some (.int .i64 d3d) := (p3.2 3 _ rfl).1
  have fa179_3 : w177.frozen? ⟨w.heap.size + 1, 3, none⟩ = false := (p3.2 3 _ rfl).2
  have ca180_0 : w177.cell? ⟨w.heap.size + 1 + 1, 0, none⟩ = some (.int .i64 d5a) := (p5.2 0 _ rfl).1
  have fa180_0 : w177.frozen? ⟨w.heap.size + 1 + 1, 0, none⟩ = false := (p5.2 0 _ rfl).2
  have ca180_1 : w177.cell? ⟨w.heap.size + 1 + 1, 1, none⟩ = some (.int .i64 d5b) := (p5.2 1 _ rfl).1
  have fa180_1 : w177.frozen? ⟨w.heap.size + 1 + 1, 1, none⟩ = false := (p5.2 1 _ rfl).2
  have ca180_2 : w177.cell? ⟨w.heap.size + 1 + 1, 2, none⟩ = some (.int .i64 d5c) := (p5.2 2 _ rfl).1
  have fa180_2 : w177.frozen? ⟨w.heap.size + 1 + 1, 2, none⟩ = false := (p5.2 2 _ rfl).2
  have ca180_3 : w177.cell? ⟨w.heap.size + 1 + 1, 3, none⟩ = some (.int .i64 d5d) := (p5.2 3 _ rfl).1
  have fa180_3 : w177.frozen? ⟨w.heap.size + 1 + 1, 3, none⟩ = false := (p5.2 3 _ rfl).2
  obtain ⟨ca181, fa181⟩ := id bx0
  go_wp2_with fail
  clear ca178 fa178 ca179_0 fa179_0 ca179_1 fa179_1 ca179_2 fa179_2 ca179_3 fa179_3 ca180_0 fa180_0 ca180_1 fa180_1 ca180_2 fa180_2 ca180_3 fa180_3 ca181 fa181
  have u1 : ((1 + ((rmk r0 g_N0 : Nat) : Int)) != (1 + ((rmk r0 g_N0 : Nat) : Int))) = false := by simp
  have u2 : ¬ (1 + ((rmk r0 g_N0 : Nat) : Int) < 0) := by omega
  refine (heldReleaseS_any mk177.rels (by omega) (by omega) hsz).mono ?_
  rintro e w' ⟨rfl, rfl⟩
  obtain ⟨ca182, fa182⟩ := id p0
  have ca183_0 : w177.cell? ⟨w.heap.size + 1, 0, none⟩ = some (.int .i64 d3a) := (p3.2 0 _ rfl).1
  have fa183_0 : w177.frozen? ⟨w.heap.size + 1, 0, none⟩ = false := (p3.2 0 _ rfl).2
  have ca183_1 : w177.cell? ⟨w.heap.size + 1, 1, none⟩ = some (.int .i64 d3b) := (p3.2 1 _ rfl).1
  have fa183_1 : w177.frozen? ⟨w.heap.size + 1, 1, none⟩ = false := (p3.2 1 _ rfl).2
  have ca183_2 : w177.cell? ⟨w.heap.size + 1, 2, none⟩ = some (.int .i64 d3c) := (p3.2 2 _ rfl).1
  have fa183_2 : w177.frozen? ⟨w.heap.size + 1, 2, none⟩ = false := (p3.2 2 _ rfl).2
  have ca183_3 : w177.cell? ⟨w.heap.size + 1, 3, none⟩ = some (.int .i64 d3d) := (p3.2 3 _ rfl).1
  have fa183_3 : w177.frozen? ⟨w.heap.size + 1, 3, none⟩ = false := (p3.2 3 _ rfl).2
  have ca184_0 : w177.cell? ⟨w.heap.size + 1 + 1, 0, none⟩ = some (.int .i64 d5a) := (p5.2 0 _ rfl).1
  have fa184_0 : w177.frozen? ⟨w.heap.size + 1 + 1, 0, none⟩ = false := (p5.2 0 _ rfl).2
  have ca184_1 : w177.cell? ⟨w.heap.size + 1 + 1, 1, none⟩ = some (.int .i64 d5b) := (p5.2 1 _ rfl).1
  have fa184_1 : w177.frozen? ⟨w.heap.size + 1 + 1, 1, none⟩ = false := (p5.2 1 _ rfl).2
  have ca184_2 : w177.cell? ⟨w.heap.size + 1 + 1, 2, none⟩ = some (.int .i64 d5c) := (p5.2 2 _ rfl).1
  have fa184_2 : w177.frozen? ⟨w.heap.size + 1 + 1, 2, none⟩ = false := (p5.2 2 _ rfl).2
  have ca184_3 : w177.cell? ⟨w.heap.size + 1 + 1, 3, none⟩ = some (.int .i64 d5d) := (p5.2 3 _ rfl).1
  have fa184_3 : w177.frozen? ⟨w.heap.size + 1 + 1, 3, none⟩ = false := (p5.2 3 _ rfl).2
  obtain ⟨ca185, fa185⟩ := id bx0
  go_wp2_with fail
  clear ca182 fa182 ca183_0 fa183_0 ca183_1 fa183_1 ca183_2 fa183_2 ca183_3 fa183_3 ca184_0 fa184_0 ca184_1 fa184_1 ca184_2 fa184_2 ca184_3 fa184_3 ca185 fa185
  obtain ⟨ca186, -⟩ := id p0
  have ca187_0 : w177.cell? ⟨w.heap.size + 1, 0, none⟩ = some (.int .i64 d3a) := (p3.2 0 _ rfl).1
  have ca187_1 : w177.cell? ⟨w.heap.size + 1, 1, none⟩ = some (.int .i64 d3b) := (p3.2 1 _ rfl).1
  have ca187_2 : w177.cell? ⟨w.heap.size + 1, 2, none⟩ = some (.int .i64 d3c) := (p3.2 2 _ rfl).1
  have ca187_3 : w177.cell? ⟨w.heap.size + 1, 3, none⟩ = some (.int .i64 d3d) := (p3.2 3 _ rfl).1
  have ca188_0 : w177.cell? ⟨w.heap.size + 1 + 1, 0, none⟩ = some (.int .i64 d5a) := (p5.2 0 _ rfl).1
  have ca188_1 : w177.cell? ⟨w.heap.size + 1 + 1, 1, none⟩ = some (.int .i64 d5b) := (p5.2 1 _ rfl).1
  have ca188_2 : w177.cell? ⟨w.heap.size + 1 + 1, 2, none⟩ = some (.int .i64 d5c) := (p5.2 2 _ rfl).1
  have ca188_3 : w177.cell? ⟨w.heap.size + 1 + 1, 3, none⟩ = some (.int .i64 d5d) := (p5.2 3 _ rfl).1
  have kS := hid (show ∀ w', Keeps w177 w' → (w'.cell? ⟨w.heap.size, 0, none⟩ = some (.slice A0 n0 c0) ∧ w'.cell? ⟨w.heap.size + 1, 0, none⟩ = some (.int .i64 d3a) ∧ w'.cell? ⟨w.heap.size + 1, 1, none⟩ = some (.int .i64 d3b) ∧ w'.cell? ⟨w.heap.size + 1, 2, none⟩ = some (.int .i64 d3c) ∧ w'.cell? ⟨w.heap.size + 1, 3, none⟩ = some (.int .i64 d3d) ∧ w'.cell? ⟨w.heap.size + 1 + 1, 0, none⟩ = some (.int .i64 d5a) ∧ w'.cell? ⟨w.heap.size + 1 + 1, 1, none⟩ = some (.int .i64 d5b) ∧ w'.cell? ⟨w.heap.size + 1 + 1, 2, none⟩ = some (.int .i64 d5c) ∧ w'.cell? ⟨w.heap.size + 1 + 1, 3, none⟩ = some (.int .i64 d5d)) from fun w' k => ⟨cell_keeps ca186 k, cell_keeps ca187_0 k, cell_keeps ca187_1 k, cell_keeps ca187_2 k, cell_keeps ca187_3 k, cell_keeps ca188_0 k, cell_keeps ca188_1 k, cell_keeps ca188_2 k, cell_keeps ca188_3 k⟩)
  have kW := keeps_d0 w177
  have hW0 := (h0.keeps kw)
  have hW1 := (h1.keeps kw)
  have hW2 := (h2.keeps kw)
  have hW4 := (h4.keeps kw)
  go_region_held3 (fun w' => w'.cell? ⟨w.heap.size, 0, none⟩ = some (.slice A0 n0 c0) ∧ w'.cell? ⟨w.heap.size + 1, 0, none⟩ = some (.int .i64 d3a) ∧ w'.cell? ⟨w.heap.size + 1, 1, none⟩ = some (.int .i64 d3b) ∧ w'.cell? ⟨w.heap.size + 1, 2, none⟩ = some (.int .i64 d3c) ∧ w'.cell? ⟨w.heap.size + 1, 3, none⟩ = some (.int .i64 d3d) ∧ w'.cell? ⟨w.heap.size + 1 + 1, 0, none⟩ = some (.int .i64 d5a) ∧ w'.cell? ⟨w.heap.size + 1 + 1, 1, none⟩ = some (.int .i64 d5b) ∧ w'.cell? ⟨w.heap.size + 1 + 1, 2, none⟩ = some (.int .i64 d5c) ∧ w'.cell? ⟨w.heap.size + 1 + 1, 3, none⟩ = some (.int .i64 d5d)) (first | with_reducible exact kS.out _ (keeps_d0 _) | with_reducible exact kS.out _ kW | go_keep)
    ((first | (go_at_call 25; refine (toGeo_any (hW0.keeps kW)).mono ?_; rintro e wB ⟨Bu_0, rfl, y9, kB⟩; (first | (have u_0 := u_0.keeps kB) | skip); (first | (have u_1 := u_1.keeps kB) | skip); (first | (have u_2 := u_2.keeps kB) | skip); (first | (have u_4 := u_4.keeps kB) | skip); have u_0 := y9; clear y9; replace kW : Keeps w177 wB := kW.trans kB; clear kB) | (go_at_call 26; refine (toVariableS_any (hW1.keeps kW)).mono ?_; rintro e wB ⟨Bu_1, rfl, y9, kB⟩; (first | (have u_0 := u_0.keeps kB) | skip); (first | (have u_1 := u_1.keeps kB) | skip); (first | (have u_2 := u_2.keeps kB) | skip); (first | (have u_4 := u_4.keeps kB) | skip); have u_1 := y9; clear y9; replace kW : Keeps w177 wB := kW.trans kB; clear kB) | (go_at_call 42; refine (toReleaseS_any (hW2.keeps kW)).mono ?_; rintro e wB ⟨Bu_2, rfl, y9, kB⟩; (first | (have u_0 := u_0.keeps kB) | skip); (first | (have u_1 := u_1.keeps kB) | skip); (first | (have u_2 := u_2.keeps kB) | skip); (first | (have u_4 := u_4.keeps kB) | skip); have u_2 := y9; clear y9; replace kW : Keeps w177 wB := kW.trans kB; clear kB) | (go_at_call 28; refine (toTableS_any (hW4.keeps kW)).mono ?_; rintro e wB ⟨Bu_4, rfl, y9, kB⟩; (first | (have u_0 := u_0.keeps kB) | skip); (first | (have u_1 := u_1.keeps kB) | skip); (first | (have u_2 := u_2.keeps kB) | skip); (first | (have u_4 := u_4.keeps kB) | skip); have u_4 := y9; clear y9; replace kW : Keeps w177 wB := kW.trans kB; clear kB) | (go_at_call 43; refine toLoss_any.mono ?_; rintro e wB ⟨rfl, kB⟩; (first | (have u_0 := u_0.keeps kB) | skip); (first | (have u_1 := u_1.keeps kB) | skip); (first | (have u_2 := u_2.keeps kB) | skip); (first | (have u_4 := u_4.keeps kB) | skip); replace kW : Keeps w177 wB := kW.trans kB; clear kB) | (go_at_call 8; refine (implAddRelease_any u_0.1 u_1.1 HNK.out u_2 u_4).mono ?_; rintro e wB ⟨h_A0, h_N0, h_C0, rfl, h_0, kB⟩; have sW := kW.size; have sB := kB.size; rw [HR.out]; rw [HR.out] at h_0; dsimp only at h_0; have h_0 := h_0.widen (lo' := w177.heap.size) (by first | omega | (simp at sW; omega)) (Nat.le_refl _) (Nat.le_refl _); dsimp only; replace kW : Keeps w177 wB := kW.trans kB; clear kB)))
  clear kS hW0 hW1 hW2 hW4
  clear ca186 ca187_0 ca187_1 ca187_2 ca187_3 ca188_0 ca188_1 ca188_2 ca188_3
  clear u_0 u_1 u_2 u_4
  have ss189 := kW.size
  replace p0 := p0.keeps kW
  replace p3 := p3.keeps kW
  replace p5 := p5.keeps kW
  replace bx0 := bx0.keeps kW
  replace p_0 := p_0.keeps kW
  replace mk177 := mk177.keeps kW
  replace kw := Keeps.trans kw kW
  have lt190 := bx0.lt
  have sz191 := kw.size
  clear kW
  obtain ⟨wy191, rfl⟩ : ∃ u : World, u = wB := ⟨_, rfl⟩
  obtain ⟨ca192, fa192⟩ := id p0
  have ca193_0 : wy191.cell? ⟨w.heap.size + 1, 0, none⟩ = some (.int .i64 d3a) := (p3.2 0 _ rfl).1
  have fa193_0 : wy191.frozen? ⟨w.heap.size + 1, 0, none⟩ = false := (p3.2 0 _ rfl).2
  have ca193_1 : wy191.cell? ⟨w.heap.size + 1, 1, none⟩ = some (.int .i64 d3b) := (p3.2 1 _ rfl).1
  have fa193_1 : wy191.frozen? ⟨w.heap.size + 1, 1, none⟩ = false := (p3.2 1 _ rfl).2
  have ca193_2 : wy191.cell? ⟨w.heap.size + 1, 2, none⟩ = some (.int .i64 d3c) := (p3.2 2 _ rfl).1
  have fa193_2 : wy191.frozen? ⟨w.heap.size + 1, 2, none⟩ = false := (p3.2 2 _ rfl).2
  have ca193_3 : wy191.cell? ⟨w.heap.size + 1, 3, none⟩ = some (.int .i64 d3d) := (p3.2 3 _ rfl).1
  have fa193_3 : wy191.frozen? ⟨w.heap.size + 1, 3, none⟩ = false := (p3.2 3 _ rfl).2
  have ca194_0 : wy191.cell? ⟨w.heap.size + 1 + 1, 0, none⟩ = some (.int .i64 d5a) := (p5.2 0 _ rfl).1
  have fa194_0 : wy191.frozen? ⟨w.heap.size + 1 + 1, 0, none⟩ = false := (p5.2 0 _ rfl).2
  have ca194_1 : wy191.cell? ⟨w.heap.size + 1 + 1, 1, none⟩ = some (.int .i64 d5b) := (p5.2 1 _ rfl).1
  have fa194_1 : wy191.frozen? ⟨w.heap.size + 1 + 1, 1, none⟩ = false := (p5.2 1 _ rfl).2
  have ca194_2 : wy191.cell? ⟨w.heap.size + 1 + 1, 2, none⟩ = some (.int .i64 d5c) := (p5.2 2 _ rfl).1
  have fa194_2 : wy191.frozen? ⟨w.heap.size + 1 + 1, 2, none⟩ = false := (p5.2 2 _ rfl).2
  have ca194_3 : wy191.cell? ⟨w.heap.size + 1 + 1, 3, none⟩ = some (.int .i64 d5d) := (p5.2 3 _ rfl).1
  have fa194_3 : wy191.frozen? ⟨w.heap.size + 1 + 1, 3, none⟩ = false := (p5.2 3 _ rfl).2
  obtain ⟨ca195, fa195⟩ := id bx0
  go_wp2_with fail
  clear ca192 fa192 ca193_0 fa193_0 ca193_1 fa193_1 ca193_2 fa193_2 ca193_3 fa193_3 ca194_0 fa194_0 ca194_1 fa194_1 ca194_2 fa194_2 ca194_3 fa194_3 ca195 fa195
  refine (eqReleaseS_true h_0.rels p_0.rels).mono ?_
  rintro e w196 ⟨rfl, k196⟩
  have ss197 := k196.size
  replace p0 := p0.keeps k196
  replace p3 := p3.keeps k196
  replace p5 := p5.keeps k196
  replace bx0 := bx0.keeps k196
  replace p_0 := p_0.keeps k196
  replace mk177 := mk177.keeps k196
  replace h_0 := h_0.keeps k196
  replace kw := Keeps.trans kw k196
  have lt198 := bx0.lt
  have sz199 := kw.size
  clear k196
  obtain ⟨ca200, fa200⟩ := id p0
  have ca201_0 : w196.cell? ⟨w.heap.size + 1, 0, none⟩ = some (.int .i64 d3a) := (p3.2 0 _ rfl).1
  have fa201_0 : w196.frozen? ⟨w.heap.size + 1, 0, none⟩ = false := (p3.2 0 _ rfl).2
  have ca201_1 : w196.cell? ⟨w.heap.size + 1, 1, none⟩ = some (.int .i64 d3b) := (p3.2 1 _ rfl).1
  have fa201_1 : w196.frozen? ⟨w.heap.size + 1, 1, none⟩ = false := (p3.2 1 _ rfl).2
  have ca201_2 : w196.cell? ⟨w.heap.size + 1, 2, none⟩ = some (.int .i64 d3c) := (p3.2 2 _ rfl).1
  have fa201_2 : w196.frozen? ⟨w.heap.size + 1, 2, none⟩ = false := (p3.2 2 _ rfl).2
  have ca201_3 : w196.cell? ⟨w.heap.size + 1, 3, none⟩ = some (.int .i64 d3d) := (p3.2 3 _ rfl).1
  have fa201_3 : w196.frozen? ⟨w.heap.size + 1, 3, none⟩ = false := (p3.2 3 _ rfl).2
  have ca202_0 : w196.cell? ⟨w.heap.size + 1 + 1, 0, none⟩ = some (.int .i64 d5a) := (p5.2 0 _ rfl).1
  have fa202_0 : w196.frozen? ⟨w.heap.size + 1 + 1, 0, none⟩ = false := (p5.2 0 _ rfl).2
  have ca202_1 : w196.cell? ⟨w.heap.size + 1 + 1, 1, none⟩ = some (.int .i64 d5b) := (p5.2 1 _ rfl).1
  have fa202_1 : w196.frozen? ⟨w.heap.size + 1 + 1, 1, none⟩ = false := (p5.2 1 _ rfl).2
  have ca202_2 : w196.cell? ⟨w.heap.size + 1 + 1, 2, none⟩ = some (.int .i64 d5c) := (p5.2 2 _ rfl).1
  have fa202_2 : w196.frozen? ⟨w.heap.size + 1 + 1, 2, none⟩ = false := (p5.2 2 _ rfl).2
  have ca202_3 : w196.cell? ⟨w.heap.size + 1 + 1, 3, none⟩ = some (.int .i64 d5d) := (p5.2 3 _ rfl).1
  have fa202_3 : w196.frozen? ⟨w.heap.size + 1 + 1, 3, none⟩ = false := (p5.2 3 _ rfl).2
  obtain ⟨ca203, fa203⟩ := id bx0
  go_wp2_with fail
  clear ca200 fa200 ca201_0 fa201_0 ca201_1 fa201_1 ca201_2 fa201_2 ca201_3 fa201_3 ca202_0 fa202_0 ca202_1 fa202_1 ca202_2 fa202_2 ca202_3 fa202_3 ca203 fa203
  refine (heldReleaseS_any mk177.rels (by omega) (by omega) hsz).mono ?_
  rintro e w' ⟨rfl, rfl⟩
  obtain ⟨ca204, fa204⟩ := id p0
  have ca205_0 : w196.cell? ⟨w.heap.size + 1, 0, none⟩ = some (.int .i64 d3a) := (p3.2 0 _ rfl).1
  have fa205_0 : w196.frozen? ⟨w.heap.size + 1, 0, none⟩ = false := (p3.2 0 _ rfl).2
  have ca205_1 : w196.cell? ⟨w.heap.size + 1, 1, none⟩ = some (.int .i64 d3b) := (p3.2 1 _ rfl).1
  have fa205_1 : w196.frozen? ⟨w.heap.size + 1, 1, none⟩ = false := (p3.2 1 _ rfl).2
  have ca205_2 : w196.cell? ⟨w.heap.size + 1, 2, none⟩ = some (.int .i64 d3c) := (p3.2 2 _ rfl).1
  have fa205_2 : w196.frozen? ⟨w.heap.size + 1, 2, none⟩ = false := (p3.2 2 _ rfl).2
  have ca205_3 : w196.cell? ⟨w.heap.size + 1, 3, none⟩ = some (.int .i64 d3d) := (p3.2 3 _ rfl).1
  have fa205_3 : w196.frozen? ⟨w.heap.size + 1, 3, none⟩ = false := (p3.2 3 _ rfl).2
  have ca206_0 : w196.cell? ⟨w.heap.size + 1 + 1, 0, none⟩ = some (.int .i64 d5a) := (p5.2 0 _ rfl).1
  have fa206_0 : w196.frozen? ⟨w.heap.size + 1 + 1, 0, none⟩ = false := (p5.2 0 _ rfl).2
  have ca206_1 : w196.cell? ⟨w.heap.size + 1 + 1, 1, none⟩ = some (.int .i64 d5b) := (p5.2 1 _ rfl).1
  have fa206_1 : w196.frozen? ⟨w.heap.size + 1 + 1, 1, none⟩ = false := (p5.2 1 _ rfl).2
  have ca206_2 : w196.cell? ⟨w.heap.size + 1 + 1, 2, none⟩ = some (.int .i64 d5c) := (p5.2 2 _ rfl).1
  have fa206_2 : w196.frozen? ⟨w.heap.size + 1 + 1, 2, none⟩ = false := (p5.2 2 _ rfl).2
  have ca206_3 : w196.cell? ⟨w.heap.size + 1 + 1, 3, none⟩ = some (.int .i64 d5d) := (p5.2 3 _ rfl).1
  have fa206_3 : w196.frozen? ⟨w.heap.size + 1 + 1, 3, none⟩ = false := (p5.2 3 _ rfl).2
  obtain ⟨ca207, fa207⟩ := id bx0
  go_wp2_with fail
  clear ca204 fa204 ca205_0 fa205_0 ca205_1 fa205_1 ca205_2 fa205_2 ca205_3 fa205_3 ca206_0 fa206_0 ca206_1 fa206_1 ca206_2 fa206_2 ca206_3 fa206_3 ca207 fa207
  go_ret
  exact ⟨rfl, kw⟩
end Go.Proofs.YtohjkpopbmmliaaGreat
