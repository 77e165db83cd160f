/- The laws FnExactCanAdd, FnExactReleasesLeft: the walks. -/
import Derived.Test.YtklolfeijjnaoaaHim
import Derived.Test.YtklolfeijjnaoaaRelH
import Derived.Test.YtklolfeijjnaoaaOpV
import Derived.Test.YtklolfeijjnaoaaKB
import Derived.Deep.RegionHeld3
namespace Go.Proofs.Ytklolfeijjnaoaa
open Go.ChangeShapes Go.WideShapes Go.ChangeAt Go.RowKit
set_option linter.unusedVariables false
set_option linter.unusedSimpArgs false
set_option maxRecDepth 100000 in
set_option maxHeartbeats 6400000 in
theorem FnExactCanAdd_law (A0 : Option Addr) (n0 c0 : Nat) (z0 : List Int) (A1 : Option Addr) (n1 c1 : Nat) (z1 : List VV) (A2 : Option Addr) (n2 c2 : Nat) (z2 : List RL) (d3a d3b d3c d3d : Int) (A4 : Option Addr) (n4 c4 : Nat) (z4 : List TT) (d5a d5b d5c d5d : Int) (w : World) (wa0 : IntsArg w A0 n0 z0) (wa1 : VarsArg w A1 n1 z1) (wa2 : RelsArg w A2 n2 z2) (wa3 : True) (wa4 : TabsArg w A4 n4 z4) (wa5 : True) :
    Calls Try.prog 10 #[.agg #[.slice A0 n0 c0], .slice A1 n1 c1, .slice A2 n2 c2, .agg #[.int .i64 d3a, .int .i64 d3b, .int .i64 d3c, .int .i64 d3d], .slice A4 n4 c4, .agg #[.int .i64 d5a, .int .i64 d5b, .int .i64 d5c, .int .i64 d5d]] w fun e w' => e = .returned (.bool true) ∧ Below w.heap.size w w' := by
  have HNK := hid (show NamesOk z1 from wa1.2.2.1)
  go_enter Try.func10, Try.ntmps10
  have kw := keeps_refl w
  replace kw := Keeps.trans kw (keeps_alloc w (.cells #[.slice A0 n0 c0] 24))
  have p0 : B1 (w.alloc (.cells #[.slice A0 n0 c0] 24)) w.heap.size (.slice A0 n0 c0) := B1.new' (by simp)
  replace p0 := p0.keeps (keeps_alloc (w.alloc (.cells #[.slice A0 n0 c0] 24)) (.cells #[.int .i64 d3a, .int .i64 d3b, .int .i64 d3c, .int .i64 d3d] 30))
  replace kw := Keeps.trans kw (keeps_alloc (w.alloc (.cells #[.slice A0 n0 c0] 24)) (.cells #[.int .i64 d3a, .int .i64 d3b, .int .i64 d3c, .int .i64 d3d] 30))
  have p3 : Bl ((w.alloc (.cells #[.slice A0 n0 c0] 24)).alloc (.cells #[.int .i64 d3a, .int .i64 d3b, .int .i64 d3c, .int .i64 d3d] 30)) (w.heap.size + 1) [.int .i64 d3a, .int .i64 d3b, .int .i64 d3c, .int .i64 d3d] := Bl.new' (by simp) (by simp)
  replace p0 := p0.keeps (keeps_alloc ((w.alloc (.cells #[.slice A0 n0 c0] 24)).alloc (.cells #[.int .i64 d3a, .int .i64 d3b, .int .i64 d3c, .int .i64 d3d] 30)) (.cells #[.int .i64 d5a, .int .i64 d5b, .int .i64 d5c, .int .i64 d5d] 30))
  replace p3 := p3.keeps (keeps_alloc ((w.alloc (.cells #[.slice A0 n0 c0] 24)).alloc (.cells #[.int .i64 d3a, .int .i64 d3b, .int .i64 d3c, .int .i64 d3d] 30)) (.cells #[.int .i64 d5a, .int .i64 d5b, .int .i64 d5c, .int .i64 d5d] 30))
  replace kw := Keeps.trans kw (keeps_alloc ((w.alloc (.cells #[.slice A0 n0 c0] 24)).alloc (.cells #[.int .i64 d3a, .int .i64 d3b, .int .i64 d3c, .int .i64 d3d] 30)) (.cells #[.int .i64 d5a, .int .i64 d5b, .int .i64 d5c, .int .i64 d5d] 30))
  have p5 : Bl (((w.alloc (.cells #[.slice A0 n0 c0] 24)).alloc (.cells #[.int .i64 d3a, .int .i64 d3b, .int .i64 d3c, .int .i64 d3d] 30)).alloc (.cells #[.int .i64 d5a, .int .i64 d5b, .int .i64 d5c, .int .i64 d5d] 30)) (w.heap.size + 1 + 1) [.int .i64 d5a, .int .i64 d5b, .int .i64 d5c, .int .i64 d5d] := Bl.new' (by simp) (by simp)
  obtain ⟨ca1, fa1⟩ := id p0
  have ca2_0 : (((w.alloc (.cells #[.slice A0 n0 c0] 24)).alloc (.cells #[.int .i64 d3a, .int .i64 d3b, .int .i64 d3c, .int .i64 d3d] 30)).alloc (.cells #[.int .i64 d5a, .int .i64 d5b, .int .i64 d5c, .int .i64 d5d] 30)).cell? ⟨w.heap.size + 1, 0, none⟩ = some (.int .i64 d3a) := (p3.2 0 _ rfl).1
  have fa2_0 : (((w.alloc (.cells #[.slice A0 n0 c0] 24)).alloc (.cells #[.int .i64 d3a, .int .i64 d3b, .int .i64 d3c, .int .i64 d3d] 30)).alloc (.cells #[.int .i64 d5a, .int .i64 d5b, .int .i64 d5c, .int .i64 d5d] 30)).frozen? ⟨w.heap.size + 1, 0, none⟩ = false := (p3.2 0 _ rfl).2
  have ca2_1 : (((w.alloc (.cells #[.slice A0 n0 c0] 24)).alloc (.cells #[.int .i64 d3a, .int .i64 d3b, .int .i64 d3c, .int .i64 d3d] 30)).alloc (.cells #[.int .i64 d5a, .int .i64 d5b, .int .i64 d5c, .int .i64 d5d] 30)).cell? ⟨w.heap.size + 1, 1, none⟩ = some (.int .i64 d3b) := (p3.2 1 _ rfl).1
  have fa2_1 : (((w.alloc (.cells #[.slice A0 n0 c0] 24)).alloc (.cells #[.int .i64 d3a, .int .i64 d3b, .int .i64 d3c, .int .i64 d3d] 30)).alloc (.cells #[.int .i64 d5a, .int .i64 d5b, .int .i64 d5c, .int .i64 d5d] 30)).frozen? ⟨w.heap.size + 1, 1, none⟩ = false := (p3.2 1 _ rfl).2
  have ca2_2 : (((w.alloc (.cells #[.slice A0 n0 c0] 24)).alloc (.cells #[.int .i64 d3a, .int .i64 d3b, .int .i64 d3c, .int .i64 d3d] 30)).alloc (.cells #[.int .i64 d5a, .int .i64 d5b, .int .i64 d5c, .int .i64 d5d] 30)).cell? ⟨w.heap.size + 1, 2, none⟩ = some (.int .i64 d3c) := (p3.2 2 _ rfl).1
  have fa2_2 : (((w.alloc (.cells #[.slice A0 n0 c0] 24)).alloc (.cells #[.int .i64 d3a, .int .i64 d3b, .int .i64 d3c, .int .i64 d3d] 30)).alloc (.cells #[.int .i64 d5a, .int .i64 d5b, .int .i64 d5c, .int .i64 d5d] 30)).frozen? ⟨w.heap.size + 1, 2, none⟩ = false := (p3.2 2 _ rfl).2
  have ca2_3 : (((w.alloc (.cells #[.slice A0 n0 c0] 24)).alloc (.cells #[.int .i64 d3a, .int .i64 d3b, .int .i64 d3c, .int .i64 d3d] 30)).alloc (.cells #[.int .i64 d5a, .int .i64 d5b, .int .i64 d5c, .int .i64 d5d] 30)).cell? ⟨w.heap.size + 1, 3, none⟩ = some (.int .i64 d3d) := (p3.2 3 _ rfl).1
  have fa2_3 : (((w.alloc (.cells #[.slice A0 n0 c0] 24)).alloc (.cells #[.int .i64 d3a, .int .i64 d3b, .int .i64 d3c, .int .i64 d3d] 30)).alloc (.cells #[.int .i64 d5a, .int .i64 d5b, .int .i64 d5c, .int .i64 d5d] 30)).frozen? ⟨w.heap.size + 1, 3, none⟩ = false := (p3.2 3 _ rfl).2
  have ca3_0 : (((w.alloc (.cells #[.slice A0 n0 c0] 24)).alloc (.cells #[.int .i64 d3a, .int .i64 d3b, .int .i64 d3c, .int .i64 d3d] 30)).alloc (.cells #[.int .i64 d5a, .int .i64 d5b, .int .i64 d5c, .int .i64 d5d] 30)).cell? ⟨w.heap.size + 1 + 1, 0, none⟩ = some (.int .i64 d5a) := (p5.2 0 _ rfl).1
  have fa3_0 : (((w.alloc (.cells #[.slice A0 n0 c0] 24)).alloc (.cells #[.int .i64 d3a, .int .i64 d3b, .int .i64 d3c, .int .i64 d3d] 30)).alloc (.cells #[.int .i64 d5a, .int .i64 d5b, .int .i64 d5c, .int .i64 d5d] 30)).frozen? ⟨w.heap.size + 1 + 1, 0, none⟩ = false := (p5.2 0 _ rfl).2
  have ca3_1 : (((w.alloc (.cells #[.slice A0 n0 c0] 24)).alloc (.cells #[.int .i64 d3a, .int .i64 d3b, .int .i64 d3c, .int .i64 d3d] 30)).alloc (.cells #[.int .i64 d5a, .int .i64 d5b, .int .i64 d5c, .int .i64 d5d] 30)).cell? ⟨w.heap.size + 1 + 1, 1, none⟩ = some (.int .i64 d5b) := (p5.2 1 _ rfl).1
  have fa3_1 : (((w.alloc (.cells #[.slice A0 n0 c0] 24)).alloc (.cells #[.int .i64 d3a, .int .i64 d3b, .int .i64 d3c, .int .i64 d3d] 30)).alloc (.cells #[.int .i64 d5a, .int .i64 d5b, .int .i64 d5c, .int .i64 d5d] 30)).frozen? ⟨w.heap.size + 1 + 1, 1, none⟩ = false := (p5.2 1 _ rfl).2
  have ca3_2 : (((w.alloc (.cells #[.slice A0 n0 c0] 24)).alloc (.cells #[.int .i64 d3a, .int .i64 d3b, .int .i64 d3c, .int .i64 d3d] 30)).alloc (.cells #[.int .i64 d5a, .int .i64 d5b, .int .i64 d5c, .int .i64 d5d] 30)).cell? ⟨w.heap.size + 1 + 1, 2, none⟩ = some (.int .i64 d5c) := (p5.2 2 _ rfl).1
  have fa3_2 : (((w.alloc (.cells #[.slice A0 n0 c0] 24)).alloc (.cells #[.int .i64 d3a, .int .i64 d3b, .int .i64 d3c, .int .i64 d3d] 30)).alloc (.cells #[.int .i64 d5a, .int .i64 d5b, .int .i64 d5c, .int .i64 d5d] 30)).frozen? ⟨w.heap.size + 1 + 1, 2, none⟩ = false := (p5.2 2 _ rfl).2
  have ca3_3 : (((w.alloc (.cells #[.slice A0 n0 c0] 24)).alloc (.cells #[.int .i64 d3a, .int .i64 d3b, .int .i64 d3c, .int .i64 d3d] 30)).alloc (.cells #[.int .i64 d5a, .int .i64 d5b, .int .i64 d5c, .int .i64 d5d] 30)).cell? ⟨w.heap.size + 1 + 1, 3, none⟩ = some (.int .i64 d5d) := (p5.2 3 _ rfl).1
  have fa3_3 : (((w.alloc (.cells #[.slice A0 n0 c0] 24)).alloc (.cells #[.int .i64 d3a, .int .i64 d3b, .int .i64 d3c, .int .i64 d3d] 30)).alloc (.cells #[.int .i64 d5a, .int .i64 d5b, .int .i64 d5c, .int .i64 d5d] 30)).frozen? ⟨w.heap.size + 1 + 1, 3, none⟩ = false := (p5.2 3 _ rfl).2
  go_wp2_with fail
  clear ca1 fa1 ca2_0 fa2_0 ca2_1 fa2_1 ca2_2 fa2_2 ca2_3 fa2_3 ca3_0 fa3_0 ca3_1 fa3_1 ca3_2 fa3_2 ca3_3 fa3_3
  by_cases hs0 : (n0 : Int) ≤ 1048576
  rotate_left
  · have hm0 := wa0.1
    refine (szGeo_no _ _ _ (1048576) _ hm0 (by omega) (by omega) (by omega)).mono ?_
    rintro e w4 ⟨rfl, k4⟩
    have ss5 := k4.size
    simp at ss5
    replace p0 := p0.keeps k4
    replace p3 := p3.keeps k4
    replace p5 := p5.keeps k4
    replace kw := Keeps.trans kw k4
    have lt6 := p5.lt
    have sz7 := kw.size
    clear k4
    go_wp2_with fail
    go_ret
    exact ⟨rfl, kw⟩
  have h0 := wa0.ints (by omega)
  refine (szGeo_ok _ _ _ (1048576) _ (by omega) (by omega)).mono ?_
  rintro e w4 ⟨rfl, k4⟩
  have ss5 := k4.size
  simp at ss5
  replace p0 := p0.keeps k4
  replace p3 := p3.keeps k4
  replace p5 := p5.keeps k4
  replace kw := Keeps.trans kw k4
  have lt6 := p5.lt
  have sz7 := kw.size
  clear k4
  have tz0 : ¬ (1048576 - (n0 : Int) < 0) := by omega
  obtain ⟨ca8, fa8⟩ := id p0
  have ca9_0 : w4.cell? ⟨w.heap.size + 1, 0, none⟩ = some (.int .i64 d3a) := (p3.2 0 _ rfl).1
  have fa9_0 : w4.frozen? ⟨w.heap.size + 1, 0, none⟩ = false := (p3.2 0 _ rfl).2
  have ca9_1 : w4.cell? ⟨w.heap.size + 1, 1, none⟩ = some (.int .i64 d3b) := (p3.2 1 _ rfl).1
  have fa9_1 : w4.frozen? ⟨w.heap.size + 1, 1, none⟩ = false := (p3.2 1 _ rfl).2
  have ca9_2 : w4.cell? ⟨w.heap.size + 1, 2, none⟩ = some (.int .i64 d3c) := (p3.2 2 _ rfl).1
  have fa9_2 : w4.frozen? ⟨w.heap.size + 1, 2, none⟩ = false := (p3.2 2 _ rfl).2
  have ca9_3 : w4.cell? ⟨w.heap.size + 1, 3, none⟩ = some (.int .i64 d3d) := (p3.2 3 _ rfl).1
  have fa9_3 : w4.frozen? ⟨w.heap.size + 1, 3, none⟩ = false := (p3.2 3 _ rfl).2
  have ca10_0 : w4.cell? ⟨w.heap.size + 1 + 1, 0, none⟩ = some (.int .i64 d5a) := (p5.2 0 _ rfl).1
  have fa10_0 : w4.frozen? ⟨w.heap.size + 1 + 1, 0, none⟩ = false := (p5.2 0 _ rfl).2
  have ca10_1 : w4.cell? ⟨w.heap.size + 1 + 1, 1, none⟩ = some (.int .i64 d5b) := (p5.2 1 _ rfl).1
  have fa10_1 : w4.frozen? ⟨w.heap.size + 1 + 1, 1, none⟩ = false := (p5.2 1 _ rfl).2
  have ca10_2 : w4.cell? ⟨w.heap.size + 1 + 1, 2, none⟩ = some (.int .i64 d5c) := (p5.2 2 _ rfl).1
  have fa10_2 : w4.frozen? ⟨w.heap.size + 1 + 1, 2, none⟩ = false := (p5.2 2 _ rfl).2
  have ca10_3 : w4.cell? ⟨w.heap.size + 1 + 1, 3, none⟩ = some (.int .i64 d5d) := (p5.2 3 _ rfl).1
  have fa10_3 : w4.frozen? ⟨w.heap.size + 1 + 1, 3, none⟩ = false := (p5.2 3 _ rfl).2
  go_wp2_with fail
  clear ca8 fa8 ca9_0 fa9_0 ca9_1 fa9_1 ca9_2 fa9_2 ca9_3 fa9_3 ca10_0 fa10_0 ca10_1 fa10_1 ca10_2 fa10_2 ca10_3 fa10_3
  by_cases hs1 : ((n1 : Int) + vsz z1 n1) ≤ 1048576 - (n0 : Int)
  rotate_left
  · have hm1 := wa1.1
    refine (szVariableS_any (left := 1048576 - (n0 : Int)) (wa1.keeps kw) (by omega) (by omega)).mono ?_
    rintro e w11 ⟨rfl, k11⟩
    rw [szVs_no (left := 1048576 - (n0 : Int)) (n := n1) (l := z1) (by omega)]
    have ss12 := k11.size
    replace p0 := p0.keeps k11
    replace p3 := p3.keeps k11
    replace p5 := p5.keeps k11
    replace kw := Keeps.trans kw k11
    have lt13 := p5.lt
    have sz14 := kw.size
    clear k11
    go_wp2_with fail
    go_ret
    exact ⟨rfl, kw⟩
  have h1 := wa1.vars (by omega)
  refine (szVariableS_any (left := 1048576 - (n0 : Int)) (wa1.keeps kw) (by omega) (by omega)).mono ?_
  rintro e w11 ⟨rfl, k11⟩
  rw [szVs_ok (left := 1048576 - (n0 : Int)) (n := n1) (l := z1) (by omega)]
  have ss12 := k11.size
  replace p0 := p0.keeps k11
  replace p3 := p3.keeps k11
  replace p5 := p5.keeps k11
  replace kw := Keeps.trans kw k11
  have lt13 := p5.lt
  have sz14 := kw.size
  clear k11
  have tz1 : ¬ (1048576 - (n0 : Int) - ((n1 : Int) + vsz z1 n1) < 0) := by omega
  obtain ⟨ca15, fa15⟩ := id p0
  have ca16_0 : w11.cell? ⟨w.heap.size + 1, 0, none⟩ = some (.int .i64 d3a) := (p3.2 0 _ rfl).1
  have fa16_0 : w11.frozen? ⟨w.heap.size + 1, 0, none⟩ = false := (p3.2 0 _ rfl).2
  have ca16_1 : w11.cell? ⟨w.heap.size + 1, 1, none⟩ = some (.int .i64 d3b) := (p3.2 1 _ rfl).1
  have fa16_1 : w11.frozen? ⟨w.heap.size + 1, 1, none⟩ = false := (p3.2 1 _ rfl).2
  have ca16_2 : w11.cell? ⟨w.heap.size + 1, 2, none⟩ = some (.int .i64 d3c) := (p3.2 2 _ rfl).1
  have fa16_2 : w11.frozen? ⟨w.heap.size + 1, 2, none⟩ = false := (p3.2 2 _ rfl).2
  have ca16_3 : w11.cell? ⟨w.heap.size + 1, 3, none⟩ = some (.int .i64 d3d) := (p3.2 3 _ rfl).1
  have fa16_3 : w11.frozen? ⟨w.heap.size + 1, 3, none⟩ = false := (p3.2 3 _ rfl).2
  have ca17_0 : w11.cell? ⟨w.heap.size + 1 + 1, 0, none⟩ = some (.int .i64 d5a) := (p5.2 0 _ rfl).1
  have fa17_0 : w11.frozen? ⟨w.heap.size + 1 + 1, 0, none⟩ = false := (p5.2 0 _ rfl).2
  have ca17_1 : w11.cell? ⟨w.heap.size + 1 + 1, 1, none⟩ = some (.int .i64 d5b) := (p5.2 1 _ rfl).1
  have fa17_1 : w11.frozen? ⟨w.heap.size + 1 + 1, 1, none⟩ = false := (p5.2 1 _ rfl).2
  have ca17_2 : w11.cell? ⟨w.heap.size + 1 + 1, 2, none⟩ = some (.int .i64 d5c) := (p5.2 2 _ rfl).1
  have fa17_2 : w11.frozen? ⟨w.heap.size + 1 + 1, 2, none⟩ = false := (p5.2 2 _ rfl).2
  have ca17_3 : w11.cell? ⟨w.heap.size + 1 + 1, 3, none⟩ = some (.int .i64 d5d) := (p5.2 3 _ rfl).1
  have fa17_3 : w11.frozen? ⟨w.heap.size + 1 + 1, 3, none⟩ = false := (p5.2 3 _ rfl).2
  go_wp2_with fail
  clear ca15 fa15 ca16_0 fa16_0 ca16_1 fa16_1 ca16_2 fa16_2 ca16_3 fa16_3 ca17_0 fa17_0 ca17_1 fa17_1 ca17_2 fa17_2 ca17_3 fa17_3
  by_cases hs2 : ((n2 + rlsz z2 n2 : Nat) : Int) ≤ 1048576 - (n0 : Int) - ((n1 : Int) + vsz z1 n1)
  rotate_left
  · have hm2 := wa2.1
    refine (szReleaseS_any (left := 1048576 - (n0 : Int) - ((n1 : Int) + vsz z1 n1)) (wa2.keeps kw) (by omega) (by omega)).mono ?_
    rintro e w18 ⟨rfl, k18⟩
    rw [szQ_no (left := 1048576 - (n0 : Int) - ((n1 : Int) + vsz z1 n1)) (s := n2 + rlsz z2 n2) hs2]
    have ss19 := k18.size
    replace p0 := p0.keeps k18
    replace p3 := p3.keeps k18
    replace p5 := p5.keeps k18
    replace kw := Keeps.trans kw k18
    have lt20 := p5.lt
    have sz21 := kw.size
    clear k18
    go_wp2_with fail
    go_ret
    exact ⟨rfl, kw⟩
  have h2 := wa2.rels (by omega)
  refine (szReleaseS_any (left := 1048576 - (n0 : Int) - ((n1 : Int) + vsz z1 n1)) (wa2.keeps kw) (by omega) (by omega)).mono ?_
  rintro e w18 ⟨rfl, k18⟩
  rw [szQ_ok (left := 1048576 - (n0 : Int) - ((n1 : Int) + vsz z1 n1)) (s := n2 + rlsz z2 n2) hs2]
  have ss19 := k18.size
  replace p0 := p0.keeps k18
  replace p3 := p3.keeps k18
  replace p5 := p5.keeps k18
  replace kw := Keeps.trans kw k18
  have lt20 := p5.lt
  have sz21 := kw.size
  clear k18
  have tz2 : ¬ (1048576 - (n0 : Int) - ((n1 : Int) + vsz z1 n1) - ((n2 + rlsz z2 n2 : Nat) : Int) < 0) := by omega
  obtain ⟨ca22, fa22⟩ := id p0
  have ca23_0 : w18.cell? ⟨w.heap.size + 1, 0, none⟩ = some (.int .i64 d3a) := (p3.2 0 _ rfl).1
  have fa23_0 : w18.frozen? ⟨w.heap.size + 1, 0, none⟩ = false := (p3.2 0 _ rfl).2
  have ca23_1 : w18.cell? ⟨w.heap.size + 1, 1, none⟩ = some (.int .i64 d3b) := (p3.2 1 _ rfl).1
  have fa23_1 : w18.frozen? ⟨w.heap.size + 1, 1, none⟩ = false := (p3.2 1 _ rfl).2
  have ca23_2 : w18.cell? ⟨w.heap.size + 1, 2, none⟩ = some (.int .i64 d3c) := (p3.2 2 _ rfl).1
  have fa23_2 : w18.frozen? ⟨w.heap.size + 1, 2, none⟩ = false := (p3.2 2 _ rfl).2
  have ca23_3 : w18.cell? ⟨w.heap.size + 1, 3, none⟩ = some (.int .i64 d3d) := (p3.2 3 _ rfl).1
  have fa23_3 : w18.frozen? ⟨w.heap.size + 1, 3, none⟩ = false := (p3.2 3 _ rfl).2
  have ca24_0 : w18.cell? ⟨w.heap.size + 1 + 1, 0, none⟩ = some (.int .i64 d5a) := (p5.2 0 _ rfl).1
  have fa24_0 : w18.frozen? ⟨w.heap.size + 1 + 1, 0, none⟩ = false := (p5.2 0 _ rfl).2
  have ca24_1 : w18.cell? ⟨w.heap.size + 1 + 1, 1, none⟩ = some (.int .i64 d5b) := (p5.2 1 _ rfl).1
  have fa24_1 : w18.frozen? ⟨w.heap.size + 1 + 1, 1, none⟩ = false := (p5.2 1 _ rfl).2
  have ca24_2 : w18.cell? ⟨w.heap.size + 1 + 1, 2, none⟩ = some (.int .i64 d5c) := (p5.2 2 _ rfl).1
  have fa24_2 : w18.frozen? ⟨w.heap.size + 1 + 1, 2, none⟩ = false := (p5.2 2 _ rfl).2
  have ca24_3 : w18.cell? ⟨w.heap.size + 1 + 1, 3, none⟩ = some (.int .i64 d5d) := (p5.2 3 _ rfl).1
  have fa24_3 : w18.frozen? ⟨w.heap.size + 1 + 1, 3, none⟩ = false := (p5.2 3 _ rfl).2
  go_wp2_with fail
  clear ca22 fa22 ca23_0 fa23_0 ca23_1 fa23_1 ca23_2 fa23_2 ca23_3 fa23_3 ca24_0 fa24_0 ca24_1 fa24_1 ca24_2 fa24_2 ca24_3 fa24_3
  by_cases hs4 : ((n4 + tsz z4 n4 : Nat) : Int) ≤ 1048576 - (n0 : Int) - ((n1 : Int) + vsz z1 n1) - ((n2 + rlsz z2 n2 : Nat) : Int)
  rotate_left
  · have hm4 := wa4.1
    refine (szTableS_any (left := 1048576 - (n0 : Int) - ((n1 : Int) + vsz z1 n1) - ((n2 + rlsz z2 n2 : Nat) : Int)) (wa4.keeps kw) (by omega) (by omega)).mono ?_
    rintro e w25 ⟨rfl, k25⟩
    rw [szQ_no (left := 1048576 - (n0 : Int) - ((n1 : Int) + vsz z1 n1) - ((n2 + rlsz z2 n2 : Nat) : Int)) (s := n4 + tsz z4 n4) hs4]
    have ss26 := k25.size
    replace p0 := p0.keeps k25
    replace p3 := p3.keeps k25
    replace p5 := p5.keeps k25
    replace kw := Keeps.trans kw k25
    have lt27 := p5.lt
    have sz28 := kw.size
    clear k25
    go_wp2_with fail
    go_ret
    exact ⟨rfl, kw⟩
  have h4 := wa4.tabs (by omega)
  refine (szTableS_any (left := 1048576 - (n0 : Int) - ((n1 : Int) + vsz z1 n1) - ((n2 + rlsz z2 n2 : Nat) : Int)) (wa4.keeps kw) (by omega) (by omega)).mono ?_
  rintro e w25 ⟨rfl, k25⟩
  rw [szQ_ok (left := 1048576 - (n0 : Int) - ((n1 : Int) + vsz z1 n1) - ((n2 + rlsz z2 n2 : Nat) : Int)) (s := n4 + tsz z4 n4) hs4]
  have ss26 := k25.size
  replace p0 := p0.keeps k25
  replace p3 := p3.keeps k25
  replace p5 := p5.keeps k25
  replace kw := Keeps.trans kw k25
  have lt27 := p5.lt
  have sz28 := kw.size
  clear k25
  have tz4 : ¬ (1048576 - (n0 : Int) - ((n1 : Int) + vsz z1 n1) - ((n2 + rlsz z2 n2 : Nat) : Int) - ((n4 + tsz z4 n4 : Nat) : Int) < 0) := by omega
  obtain ⟨ca29, fa29⟩ := id p0
  have ca30_0 : w25.cell? ⟨w.heap.size + 1, 0, none⟩ = some (.int .i64 d3a) := (p3.2 0 _ rfl).1
  have fa30_0 : w25.frozen? ⟨w.heap.size + 1, 0, none⟩ = false := (p3.2 0 _ rfl).2
  have ca30_1 : w25.cell? ⟨w.heap.size + 1, 1, none⟩ = some (.int .i64 d3b) := (p3.2 1 _ rfl).1
  have fa30_1 : w25.frozen? ⟨w.heap.size + 1, 1, none⟩ = false := (p3.2 1 _ rfl).2
  have ca30_2 : w25.cell? ⟨w.heap.size + 1, 2, none⟩ = some (.int .i64 d3c) := (p3.2 2 _ rfl).1
  have fa30_2 : w25.frozen? ⟨w.heap.size + 1, 2, none⟩ = false := (p3.2 2 _ rfl).2
  have ca30_3 : w25.cell? ⟨w.heap.size + 1, 3, none⟩ = some (.int .i64 d3d) := (p3.2 3 _ rfl).1
  have fa30_3 : w25.frozen? ⟨w.heap.size + 1, 3, none⟩ = false := (p3.2 3 _ rfl).2
  have ca31_0 : w25.cell? ⟨w.heap.size + 1 + 1, 0, none⟩ = some (.int .i64 d5a) := (p5.2 0 _ rfl).1
  have fa31_0 : w25.frozen? ⟨w.heap.size + 1 + 1, 0, none⟩ = false := (p5.2 0 _ rfl).2
  have ca31_1 : w25.cell? ⟨w.heap.size + 1 + 1, 1, none⟩ = some (.int .i64 d5b) := (p5.2 1 _ rfl).1
  have fa31_1 : w25.frozen? ⟨w.heap.size + 1 + 1, 1, none⟩ = false := (p5.2 1 _ rfl).2
  have ca31_2 : w25.cell? ⟨w.heap.size + 1 + 1, 2, none⟩ = some (.int .i64 d5c) := (p5.2 2 _ rfl).1
  have fa31_2 : w25.frozen? ⟨w.heap.size + 1 + 1, 2, none⟩ = false := (p5.2 2 _ rfl).2
  have ca31_3 : w25.cell? ⟨w.heap.size + 1 + 1, 3, none⟩ = some (.int .i64 d5d) := (p5.2 3 _ rfl).1
  have fa31_3 : w25.frozen? ⟨w.heap.size + 1 + 1, 3, none⟩ = false := (p5.2 3 _ rfl).2
  go_wp2_with fail
  clear ca29 fa29 ca30_0 fa30_0 ca30_1 fa30_1 ca30_2 fa30_2 ca30_3 fa30_3 ca31_0 fa31_0 ca31_1 fa31_1 ca31_2 fa31_2 ca31_3 fa31_3
  obtain ⟨r0, r1, HR⟩ : ∃ r0 r1, Hid (caQ z0 z1 z2 (d3a, d3b, d3c, d3d) z4 (d5a, d5b, d5c, d5d) = (r0, r1)) := ⟨_, _, rfl⟩
  obtain ⟨ca32, -⟩ := id p0
  have ca33_0 : w25.cell? ⟨w.heap.size + 1, 0, none⟩ = some (.int .i64 d3a) := (p3.2 0 _ rfl).1
  have ca33_1 : w25.cell? ⟨w.heap.size + 1, 1, none⟩ = some (.int .i64 d3b) := (p3.2 1 _ rfl).1
  have ca33_2 : w25.cell? ⟨w.heap.size + 1, 2, none⟩ = some (.int .i64 d3c) := (p3.2 2 _ rfl).1
  have ca33_3 : w25.cell? ⟨w.heap.size + 1, 3, none⟩ = some (.int .i64 d3d) := (p3.2 3 _ rfl).1
  have ca34_0 : w25.cell? ⟨w.heap.size + 1 + 1, 0, none⟩ = some (.int .i64 d5a) := (p5.2 0 _ rfl).1
  have ca34_1 : w25.cell? ⟨w.heap.size + 1 + 1, 1, none⟩ = some (.int .i64 d5b) := (p5.2 1 _ rfl).1
  have ca34_2 : w25.cell? ⟨w.heap.size + 1 + 1, 2, none⟩ = some (.int .i64 d5c) := (p5.2 2 _ rfl).1
  have ca34_3 : w25.cell? ⟨w.heap.size + 1 + 1, 3, none⟩ = some (.int .i64 d5d) := (p5.2 3 _ rfl).1
  have kS := hid (show ∀ w', Keeps w25 w' → (w'.cell? ⟨w.heap.size, 0, none⟩ = some (.slice A0 n0 c0) ∧ w'.cell? ⟨w.heap.size + 1, 0, none⟩ = some (.int .i64 d3a) ∧ w'.cell? ⟨w.heap.size + 1, 1, none⟩ = some (.int .i64 d3b) ∧ w'.cell? ⟨w.heap.size + 1, 2, none⟩ = some (.int .i64 d3c) ∧ w'.cell? ⟨w.heap.size + 1, 3, none⟩ = some (.int .i64 d3d) ∧ w'.cell? ⟨w.heap.size + 1 + 1, 0, none⟩ = some (.int .i64 d5a) ∧ w'.cell? ⟨w.heap.size + 1 + 1, 1, none⟩ = some (.int .i64 d5b) ∧ w'.cell? ⟨w.heap.size + 1 + 1, 2, none⟩ = some (.int .i64 d5c) ∧ w'.cell? ⟨w.heap.size + 1 + 1, 3, none⟩ = some (.int .i64 d5d)) from fun w' k => ⟨cell_keeps ca32 k, cell_keeps ca33_0 k, cell_keeps ca33_1 k, cell_keeps ca33_2 k, cell_keeps ca33_3 k, cell_keeps ca34_0 k, cell_keeps ca34_1 k, cell_keeps ca34_2 k, cell_keeps ca34_3 k⟩)
  have kW := keeps_d0 w25
  have hW0 := (h0.keeps kw)
  have hW1 := (h1.keeps kw)
  have hW2 := (h2.keeps kw)
  have hW4 := (h4.keeps kw)
  go_region_held3 (fun w' => w'.cell? ⟨w.heap.size, 0, none⟩ = some (.slice A0 n0 c0) ∧ w'.cell? ⟨w.heap.size + 1, 0, none⟩ = some (.int .i64 d3a) ∧ w'.cell? ⟨w.heap.size + 1, 1, none⟩ = some (.int .i64 d3b) ∧ w'.cell? ⟨w.heap.size + 1, 2, none⟩ = some (.int .i64 d3c) ∧ w'.cell? ⟨w.heap.size + 1, 3, none⟩ = some (.int .i64 d3d) ∧ w'.cell? ⟨w.heap.size + 1 + 1, 0, none⟩ = some (.int .i64 d5a) ∧ w'.cell? ⟨w.heap.size + 1 + 1, 1, none⟩ = some (.int .i64 d5b) ∧ w'.cell? ⟨w.heap.size + 1 + 1, 2, none⟩ = some (.int .i64 d5c) ∧ w'.cell? ⟨w.heap.size + 1 + 1, 3, none⟩ = some (.int .i64 d5d)) (first | with_reducible exact kS.out _ (keeps_d0 _) | with_reducible exact kS.out _ kW | go_keep)
    ((first | (go_at_call 17; refine (toGeo_any (hW0.keeps kW)).mono ?_; rintro e wB ⟨By0, rfl, y9, kB⟩; (first | (have y0 := y0.keeps kB) | skip); (first | (have y1 := y1.keeps kB) | skip); (first | (have y2 := y2.keeps kB) | skip); (first | (have y4 := y4.keeps kB) | skip); have y0 := y9; clear y9; replace kW : Keeps w25 wB := kW.trans kB; clear kB) | (go_at_call 18; refine (toVariableS_any (hW1.keeps kW)).mono ?_; rintro e wB ⟨By1, rfl, y9, kB⟩; (first | (have y0 := y0.keeps kB) | skip); (first | (have y1 := y1.keeps kB) | skip); (first | (have y2 := y2.keeps kB) | skip); (first | (have y4 := y4.keeps kB) | skip); have y1 := y9; clear y9; replace kW : Keeps w25 wB := kW.trans kB; clear kB) | (go_at_call 26; refine (toReleaseS_any (hW2.keeps kW)).mono ?_; rintro e wB ⟨By2, rfl, y9, kB⟩; (first | (have y0 := y0.keeps kB) | skip); (first | (have y1 := y1.keeps kB) | skip); (first | (have y2 := y2.keeps kB) | skip); (first | (have y4 := y4.keeps kB) | skip); have y2 := y9; clear y9; replace kW : Keeps w25 wB := kW.trans kB; clear kB) | (go_at_call 56; refine (toTableS_any (hW4.keeps kW)).mono ?_; rintro e wB ⟨By4, rfl, y9, kB⟩; (first | (have y0 := y0.keeps kB) | skip); (first | (have y1 := y1.keeps kB) | skip); (first | (have y2 := y2.keeps kB) | skip); (first | (have y4 := y4.keeps kB) | skip); have y4 := y9; clear y9; replace kW : Keeps w25 wB := kW.trans kB; clear kB) | (go_at_call 52; refine toLoss_any.mono ?_; rintro e wB ⟨rfl, kB⟩; (first | (have y0 := y0.keeps kB) | skip); (first | (have y1 := y1.keeps kB) | skip); (first | (have y2 := y2.keeps kB) | skip); (first | (have y4 := y4.keeps kB) | skip); replace kW : Keeps w25 wB := kW.trans kB; clear kB) | (go_at_call 55; refine (specCanAdd_any y0.1 y1.1 HNK.out y2 y4).mono ?_; rintro e wB ⟨rfl, kB⟩; rw [HR.out]; have sW := kW.size; have sB := kB.size; replace kW : Keeps w25 wB := kW.trans kB; clear kB)))
  clear kS hW0 hW1 hW2 hW4
  clear ca32 ca33_0 ca33_1 ca33_2 ca33_3 ca34_0 ca34_1 ca34_2 ca34_3
  clear y0 y1 y2 y4
  have ss35 := kW.size
  replace p0 := p0.keeps kW
  replace p3 := p3.keeps kW
  replace p5 := p5.keeps kW
  replace kw := Keeps.trans kw kW
  have lt36 := p5.lt
  have sz37 := kw.size
  clear kW
  obtain ⟨wy37, rfl⟩ : ∃ u : World, u = wB := ⟨_, rfl⟩
  obtain ⟨ca38, fa38⟩ := id p0
  have ca39_0 : wy37.cell? ⟨w.heap.size + 1, 0, none⟩ = some (.int .i64 d3a) := (p3.2 0 _ rfl).1
  have fa39_0 : wy37.frozen? ⟨w.heap.size + 1, 0, none⟩ = false := (p3.2 0 _ rfl).2
  have ca39_1 : wy37.cell? ⟨w.heap.size + 1, 1, none⟩ = some (.int .i64 d3b) := (p3.2 1 _ rfl).1
  have fa39_1 : wy37.frozen? ⟨w.heap.size + 1, 1, none⟩ = false := (p3.2 1 _ rfl).2
  have ca39_2 : wy37.cell? ⟨w.heap.size + 1, 2, none⟩ = some (.int .i64 d3c) := (p3.2 2 _ rfl).1
  have fa39_2 : wy37.frozen? ⟨w.heap.size + 1, 2, none⟩ = false := (p3.2 2 _ rfl).2
  have ca39_3 : wy37.cell? ⟨w.heap.size + 1, 3, none⟩ = some (.int .i64 d3d) := (p3.2 3 _ rfl).1
  have fa39_3 : wy37.frozen? ⟨w.heap.size + 1, 3, none⟩ = false := (p3.2 3 _ rfl).2
  have ca40_0 : wy37.cell? ⟨w.heap.size + 1 + 1, 0, none⟩ = some (.int .i64 d5a) := (p5.2 0 _ rfl).1
  have fa40_0 : wy37.frozen? ⟨w.heap.size + 1 + 1, 0, none⟩ = false := (p5.2 0 _ rfl).2
  have ca40_1 : wy37.cell? ⟨w.heap.size + 1 + 1, 1, none⟩ = some (.int .i64 d5b) := (p5.2 1 _ rfl).1
  have fa40_1 : wy37.frozen? ⟨w.heap.size + 1 + 1, 1, none⟩ = false := (p5.2 1 _ rfl).2
  have ca40_2 : wy37.cell? ⟨w.heap.size + 1 + 1, 2, none⟩ = some (.int .i64 d5c) := (p5.2 2 _ rfl).1
  have fa40_2 : wy37.frozen? ⟨w.heap.size + 1 + 1, 2, none⟩ = false := (p5.2 2 _ rfl).2
  have ca40_3 : wy37.cell? ⟨w.heap.size + 1 + 1, 3, none⟩ = some (.int .i64 d5d) := (p5.2 3 _ rfl).1
  have fa40_3 : wy37.frozen? ⟨w.heap.size + 1 + 1, 3, none⟩ = false := (p5.2 3 _ rfl).2
  go_wp2_with fail
  clear ca38 fa38 ca39_0 fa39_0 ca39_1 fa39_1 ca39_2 fa39_2 ca39_3 fa39_3 ca40_0 fa40_0 ca40_1 fa40_1 ca40_2 fa40_2 ca40_3 fa40_3
  refine (toGeo_any (h0.keeps kw)).mono ?_
  rintro e w41 ⟨Bx0, rfl, x0, k41⟩
  have ss42 := k41.size
  replace p0 := p0.keeps k41
  replace p3 := p3.keeps k41
  replace p5 := p5.keeps k41
  replace kw := Keeps.trans kw k41
  have lt43 := p5.lt
  have sz44 := kw.size
  clear k41
  replace p0 := p0.keeps (keeps_alloc w41 (.cells #[.slice Bx0 n0 n0] 38))
  replace p3 := p3.keeps (keeps_alloc w41 (.cells #[.slice Bx0 n0 n0] 38))
  replace p5 := p5.keeps (keeps_alloc w41 (.cells #[.slice Bx0 n0 n0] 38))
  replace x0 := x0.keeps (keeps_alloc w41 (.cells #[.slice Bx0 n0 n0] 38))
  replace kw := Keeps.trans kw (keeps_alloc w41 (.cells #[.slice Bx0 n0 n0] 38))
  have bx0 : B1 (w41.alloc (.cells #[.slice Bx0 n0 n0] 38)) w41.heap.size (.slice Bx0 n0 n0) := B1.new' (by simp)
  obtain ⟨ca45, fa45⟩ := id p0
  have ca46_0 : (w41.alloc (.cells #[.slice Bx0 n0 n0] 38)).cell? ⟨w.heap.size + 1, 0, none⟩ = some (.int .i64 d3a) := (p3.2 0 _ rfl).1
  have fa46_0 : (w41.alloc (.cells #[.slice Bx0 n0 n0] 38)).frozen? ⟨w.heap.size + 1, 0, none⟩ = false := (p3.2 0 _ rfl).2
  have ca46_1 : (w41.alloc (.cells #[.slice Bx0 n0 n0] 38)).cell? ⟨w.heap.size + 1, 1, none⟩ = some (.int .i64 d3b) := (p3.2 1 _ rfl).1
  have fa46_1 : (w41.alloc (.cells #[.slice Bx0 n0 n0] 38)).frozen? ⟨w.heap.size + 1, 1, none⟩ = false := (p3.2 1 _ rfl).2
  have ca46_2 : (w41.alloc (.cells #[.slice Bx0 n0 n0] 38)).cell? ⟨w.heap.size + 1, 2, none⟩ = some (.int .i64 d3c) := (p3.2 2 _ rfl).1
  have fa46_2 : (w41.alloc (.cells #[.slice Bx0 n0 n0] 38)).frozen? ⟨w.heap.size + 1, 2, none⟩ = false := (p3.2 2 _ rfl).2
  have ca46_3 : (w41.alloc (.cells #[.slice Bx0 n0 n0] 38)).cell? ⟨w.heap.size + 1, 3, none⟩ = some (.int .i64 d3d) := (p3.2 3 _ rfl).1
  have fa46_3 : (w41.alloc (.cells #[.slice Bx0 n0 n0] 38)).frozen? ⟨w.heap.size + 1, 3, none⟩ = false := (p3.2 3 _ rfl).2
  have ca47_0 : (w41.alloc (.cells #[.slice Bx0 n0 n0] 38)).cell? ⟨w.heap.size + 1 + 1, 0, none⟩ = some (.int .i64 d5a) := (p5.2 0 _ rfl).1
  have fa47_0 : (w41.alloc (.cells #[.slice Bx0 n0 n0] 38)).frozen? ⟨w.heap.size + 1 + 1, 0, none⟩ = false := (p5.2 0 _ rfl).2
  have ca47_1 : (w41.alloc (.cells #[.slice Bx0 n0 n0] 38)).cell? ⟨w.heap.size + 1 + 1, 1, none⟩ = some (.int .i64 d5b) := (p5.2 1 _ rfl).1
  have fa47_1 : (w41.alloc (.cells #[.slice Bx0 n0 n0] 38)).frozen? ⟨w.heap.size + 1 + 1, 1, none⟩ = false := (p5.2 1 _ rfl).2
  have ca47_2 : (w41.alloc (.cells #[.slice Bx0 n0 n0] 38)).cell? ⟨w.heap.size + 1 + 1, 2, none⟩ = some (.int .i64 d5c) := (p5.2 2 _ rfl).1
  have fa47_2 : (w41.alloc (.cells #[.slice Bx0 n0 n0] 38)).frozen? ⟨w.heap.size + 1 + 1, 2, none⟩ = false := (p5.2 2 _ rfl).2
  have ca47_3 : (w41.alloc (.cells #[.slice Bx0 n0 n0] 38)).cell? ⟨w.heap.size + 1 + 1, 3, none⟩ = some (.int .i64 d5d) := (p5.2 3 _ rfl).1
  have fa47_3 : (w41.alloc (.cells #[.slice Bx0 n0 n0] 38)).frozen? ⟨w.heap.size + 1 + 1, 3, none⟩ = false := (p5.2 3 _ rfl).2
  obtain ⟨ca48, fa48⟩ := id bx0
  go_wp2_with fail
  clear ca45 fa45 ca46_0 fa46_0 ca46_1 fa46_1 ca46_2 fa46_2 ca46_3 fa46_3 ca47_0 fa47_0 ca47_1 fa47_1 ca47_2 fa47_2 ca47_3 fa47_3 ca48 fa48
  refine (toVariableS_any (h1.keeps kw)).mono ?_
  rintro e w49 ⟨Bx1, rfl, x1, k49⟩
  have ss50 := k49.size
  simp at ss50
  replace p0 := p0.keeps k49
  replace p3 := p3.keeps k49
  replace p5 := p5.keeps k49
  replace bx0 := bx0.keeps k49
  replace x0 := x0.keeps k49
  replace kw := Keeps.trans kw k49
  have lt51 := bx0.lt
  have sz52 := kw.size
  clear k49
  replace x1 := x1.widen (lo' := w41.heap.size + 1) (by simp) (Nat.le_refl _) (Nat.le_refl _)
  obtain ⟨ca53, fa53⟩ := id p0
  have ca54_0 : w49.cell? ⟨w.heap.size + 1, 0, none⟩ = some (.int .i64 d3a) := (p3.2 0 _ rfl).1
  have fa54_0 : w49.frozen? ⟨w.heap.size + 1, 0, none⟩ = false := (p3.2 0 _ rfl).2
  have ca54_1 : w49.cell? ⟨w.heap.size + 1, 1, none⟩ = some (.int .i64 d3b) := (p3.2 1 _ rfl).1
  have fa54_1 : w49.frozen? ⟨w.heap.size + 1, 1, none⟩ = false := (p3.2 1 _ rfl).2
  have ca54_2 : w49.cell? ⟨w.heap.size + 1, 2, none⟩ = some (.int .i64 d3c) := (p3.2 2 _ rfl).1
  have fa54_2 : w49.frozen? ⟨w.heap.size + 1, 2, none⟩ = false := (p3.2 2 _ rfl).2
  have ca54_3 : w49.cell? ⟨w.heap.size + 1, 3, none⟩ = some (.int .i64 d3d) := (p3.2 3 _ rfl).1
  have fa54_3 : w49.frozen? ⟨w.heap.size + 1, 3, none⟩ = false := (p3.2 3 _ rfl).2
  have ca55_0 : w49.cell? ⟨w.heap.size + 1 + 1, 0, none⟩ = some (.int .i64 d5a) := (p5.2 0 _ rfl).1
  have fa55_0 : w49.frozen? ⟨w.heap.size + 1 + 1, 0, none⟩ = false := (p5.2 0 _ rfl).2
  have ca55_1 : w49.cell? ⟨w.heap.size + 1 + 1, 1, none⟩ = some (.int .i64 d5b) := (p5.2 1 _ rfl).1
  have fa55_1 : w49.frozen? ⟨w.heap.size + 1 + 1, 1, none⟩ = false := (p5.2 1 _ rfl).2
  have ca55_2 : w49.cell? ⟨w.heap.size + 1 + 1, 2, none⟩ = some (.int .i64 d5c) := (p5.2 2 _ rfl).1
  have fa55_2 : w49.frozen? ⟨w.heap.size + 1 + 1, 2, none⟩ = false := (p5.2 2 _ rfl).2
  have ca55_3 : w49.cell? ⟨w.heap.size + 1 + 1, 3, none⟩ = some (.int .i64 d5d) := (p5.2 3 _ rfl).1
  have fa55_3 : w49.frozen? ⟨w.heap.size + 1 + 1, 3, none⟩ = false := (p5.2 3 _ rfl).2
  obtain ⟨ca56, fa56⟩ := id bx0
  go_wp2_with fail
  clear ca53 fa53 ca54_0 fa54_0 ca54_1 fa54_1 ca54_2 fa54_2 ca54_3 fa54_3 ca55_0 fa55_0 ca55_1 fa55_1 ca55_2 fa55_2 ca55_3 fa55_3 ca56 fa56
  refine (toReleaseS_any (h2.keeps kw)).mono ?_
  rintro e w57 ⟨Bx2, rfl, x2, k57⟩
  have ss58 := k57.size
  replace p0 := p0.keeps k57
  replace p3 := p3.keeps k57
  replace p5 := p5.keeps k57
  replace bx0 := bx0.keeps k57
  replace x0 := x0.keeps k57
  replace x1 := x1.keeps k57
  replace kw := Keeps.trans kw k57
  have lt59 := bx0.lt
  have sz60 := kw.size
  clear k57
  obtain ⟨ca61, fa61⟩ := id p0
  have ca62_0 : w57.cell? ⟨w.heap.size + 1, 0, none⟩ = some (.int .i64 d3a) := (p3.2 0 _ rfl).1
  have fa62_0 : w57.frozen? ⟨w.heap.size + 1, 0, none⟩ = false := (p3.2 0 _ rfl).2
  have ca62_1 : w57.cell? ⟨w.heap.size + 1, 1, none⟩ = some (.int .i64 d3b) := (p3.2 1 _ rfl).1
  have fa62_1 : w57.frozen? ⟨w.heap.size + 1, 1, none⟩ = false := (p3.2 1 _ rfl).2
  have ca62_2 : w57.cell? ⟨w.heap.size + 1, 2, none⟩ = some (.int .i64 d3c) := (p3.2 2 _ rfl).1
  have fa62_2 : w57.frozen? ⟨w.heap.size + 1, 2, none⟩ = false := (p3.2 2 _ rfl).2
  have ca62_3 : w57.cell? ⟨w.heap.size + 1, 3, none⟩ = some (.int .i64 d3d) := (p3.2 3 _ rfl).1
  have fa62_3 : w57.frozen? ⟨w.heap.size + 1, 3, none⟩ = false := (p3.2 3 _ rfl).2
  have ca63_0 : w57.cell? ⟨w.heap.size + 1 + 1, 0, none⟩ = some (.int .i64 d5a) := (p5.2 0 _ rfl).1
  have fa63_0 : w57.frozen? ⟨w.heap.size + 1 + 1, 0, none⟩ = false := (p5.2 0 _ rfl).2
  have ca63_1 : w57.cell? ⟨w.heap.size + 1 + 1, 1, none⟩ = some (.int .i64 d5b) := (p5.2 1 _ rfl).1
  have fa63_1 : w57.frozen? ⟨w.heap.size + 1 + 1, 1, none⟩ = false := (p5.2 1 _ rfl).2
  have ca63_2 : w57.cell? ⟨w.heap.size + 1 + 1, 2, none⟩ = some (.int .i64 d5c) := (p5.2 2 _ rfl).1
  have fa63_2 : w57.frozen? ⟨w.heap.size + 1 + 1, 2, none⟩ = false := (p5.2 2 _ rfl).2
  have ca63_3 : w57.cell? ⟨w.heap.size + 1 + 1, 3, none⟩ = some (.int .i64 d5d) := (p5.2 3 _ rfl).1
  have fa63_3 : w57.frozen? ⟨w.heap.size + 1 + 1, 3, none⟩ = false := (p5.2 3 _ rfl).2
  obtain ⟨ca64, fa64⟩ := id bx0
  go_wp2_with fail
  clear ca61 fa61 ca62_0 fa62_0 ca62_1 fa62_1 ca62_2 fa62_2 ca62_3 fa62_3 ca63_0 fa63_0 ca63_1 fa63_1 ca63_2 fa63_2 ca63_3 fa63_3 ca64 fa64
  refine (toTableS_any (h4.keeps kw)).mono ?_
  rintro e w65 ⟨Bx4, rfl, x4, k65⟩
  have ss66 := k65.size
  replace p0 := p0.keeps k65
  replace p3 := p3.keeps k65
  replace p5 := p5.keeps k65
  replace bx0 := bx0.keeps k65
  replace x0 := x0.keeps k65
  replace x1 := x1.keeps k65
  replace x2 := x2.keeps k65
  replace kw := Keeps.trans kw k65
  have lt67 := bx0.lt
  have sz68 := kw.size
  clear k65
  obtain ⟨ca69, fa69⟩ := id p0
  have ca70_0 : w65.cell? ⟨w.heap.size + 1, 0, none⟩ = some (.int .i64 d3a) := (p3.2 0 _ rfl).1
  have fa70_0 : w65.frozen? ⟨w.heap.size + 1, 0, none⟩ = false := (p3.2 0 _ rfl).2
  have ca70_1 : w65.cell? ⟨w.heap.size + 1, 1, none⟩ = some (.int .i64 d3b) := (p3.2 1 _ rfl).1
  have fa70_1 : w65.frozen? ⟨w.heap.size + 1, 1, none⟩ = false := (p3.2 1 _ rfl).2
  have ca70_2 : w65.cell? ⟨w.heap.size + 1, 2, none⟩ = some (.int .i64 d3c) := (p3.2 2 _ rfl).1
  have fa70_2 : w65.frozen? ⟨w.heap.size + 1, 2, none⟩ = false := (p3.2 2 _ rfl).2
  have ca70_3 : w65.cell? ⟨w.heap.size + 1, 3, none⟩ = some (.int .i64 d3d) := (p3.2 3 _ rfl).1
  have fa70_3 : w65.frozen? ⟨w.heap.size + 1, 3, none⟩ = false := (p3.2 3 _ rfl).2
  have ca71_0 : w65.cell? ⟨w.heap.size + 1 + 1, 0, none⟩ = some (.int .i64 d5a) := (p5.2 0 _ rfl).1
  have fa71_0 : w65.frozen? ⟨w.heap.size + 1 + 1, 0, none⟩ = false := (p5.2 0 _ rfl).2
  have ca71_1 : w65.cell? ⟨w.heap.size + 1 + 1, 1, none⟩ = some (.int .i64 d5b) := (p5.2 1 _ rfl).1
  have fa71_1 : w65.frozen? ⟨w.heap.size + 1 + 1, 1, none⟩ = false := (p5.2 1 _ rfl).2
  have ca71_2 : w65.cell? ⟨w.heap.size + 1 + 1, 2, none⟩ = some (.int .i64 d5c) := (p5.2 2 _ rfl).1
  have fa71_2 : w65.frozen? ⟨w.heap.size + 1 + 1, 2, none⟩ = false := (p5.2 2 _ rfl).2
  have ca71_3 : w65.cell? ⟨w.heap.size + 1 + 1, 3, none⟩ = some (.int .i64 d5d) := (p5.2 3 _ rfl).1
  have fa71_3 : w65.frozen? ⟨w.heap.size + 1 + 1, 3, none⟩ = false := (p5.2 3 _ rfl).2
  obtain ⟨ca72, fa72⟩ := id bx0
  go_wp2_with fail
  clear ca69 fa69 ca70_0 fa70_0 ca70_1 fa70_1 ca70_2 fa70_2 ca70_3 fa70_3 ca71_0 fa71_0 ca71_1 fa71_1 ca71_2 fa71_2 ca71_3 fa71_3 ca72 fa72
  have ca73_0 : w65.cell? ⟨w.heap.size + 1, 0, none⟩ = some (.int .i64 d3a) := (p3.2 0 _ rfl).1
  have ca73_1 : w65.cell? ⟨w.heap.size + 1, 1, none⟩ = some (.int .i64 d3b) := (p3.2 1 _ rfl).1
  have ca73_2 : w65.cell? ⟨w.heap.size + 1, 2, none⟩ = some (.int .i64 d3c) := (p3.2 2 _ rfl).1
  have ca73_3 : w65.cell? ⟨w.heap.size + 1, 3, none⟩ = some (.int .i64 d3d) := (p3.2 3 _ rfl).1
  have ca74_0 : w65.cell? ⟨w.heap.size + 1 + 1, 0, none⟩ = some (.int .i64 d5a) := (p5.2 0 _ rfl).1
  have ca74_1 : w65.cell? ⟨w.heap.size + 1 + 1, 1, none⟩ = some (.int .i64 d5b) := (p5.2 1 _ rfl).1
  have ca74_2 : w65.cell? ⟨w.heap.size + 1 + 1, 2, none⟩ = some (.int .i64 d5c) := (p5.2 2 _ rfl).1
  have ca74_3 : w65.cell? ⟨w.heap.size + 1 + 1, 3, none⟩ = some (.int .i64 d5d) := (p5.2 3 _ rfl).1
  obtain ⟨ca75, -⟩ := id bx0
  have kS := hid (show ∀ w', Keeps w65 w' → (w'.cell? ⟨w.heap.size + 1, 0, none⟩ = some (.int .i64 d3a) ∧ w'.cell? ⟨w.heap.size + 1, 1, none⟩ = some (.int .i64 d3b) ∧ w'.cell? ⟨w.heap.size + 1, 2, none⟩ = some (.int .i64 d3c) ∧ w'.cell? ⟨w.heap.size + 1, 3, none⟩ = some (.int .i64 d3d) ∧ w'.cell? ⟨w.heap.size + 1 + 1, 0, none⟩ = some (.int .i64 d5a) ∧ w'.cell? ⟨w.heap.size + 1 + 1, 1, none⟩ = some (.int .i64 d5b) ∧ w'.cell? ⟨w.heap.size + 1 + 1, 2, none⟩ = some (.int .i64 d5c) ∧ w'.cell? ⟨w.heap.size + 1 + 1, 3, none⟩ = some (.int .i64 d5d) ∧ w'.cell? ⟨w41.heap.size, 0, none⟩ = some (.slice Bx0 n0 n0)) from fun w' k => ⟨cell_keeps ca73_0 k, cell_keeps ca73_1 k, cell_keeps ca73_2 k, cell_keeps ca73_3 k, cell_keeps ca74_0 k, cell_keeps ca74_1 k, cell_keeps ca74_2 k, cell_keeps ca74_3 k, cell_keeps ca75 k⟩)
  have kW := keeps_d0 w65
  have hW0 := x0
  have hW1 := x1
  have hW2 := x2
  have hW4 := x4
  go_region_held3 (fun w' => w'.cell? ⟨w.heap.size + 1, 0, none⟩ = some (.int .i64 d3a) ∧ w'.cell? ⟨w.heap.size + 1, 1, none⟩ = some (.int .i64 d3b) ∧ w'.cell? ⟨w.heap.size + 1, 2, none⟩ = some (.int .i64 d3c) ∧ w'.cell? ⟨w.heap.size + 1, 3, none⟩ = some (.int .i64 d3d) ∧ w'.cell? ⟨w.heap.size + 1 + 1, 0, none⟩ = some (.int .i64 d5a) ∧ w'.cell? ⟨w.heap.size + 1 + 1, 1, none⟩ = some (.int .i64 d5b) ∧ w'.cell? ⟨w.heap.size + 1 + 1, 2, none⟩ = some (.int .i64 d5c) ∧ w'.cell? ⟨w.heap.size + 1 + 1, 3, none⟩ = some (.int .i64 d5d) ∧ w'.cell? ⟨w41.heap.size, 0, none⟩ = some (.slice Bx0 n0 n0)) (first | with_reducible exact kS.out _ (keeps_d0 _) | with_reducible exact kS.out _ kW | go_keep)
    ((first | (go_at_call 52; refine toLoss_any.mono ?_; rintro e wB ⟨rfl, kB⟩; replace kW : Keeps w65 wB := kW.trans kB; clear kB) | (go_at_call 57; refine (implCanAdd_any (hW0.1.keeps kW) (hW1.1.keeps kW) HNK.out (hW2.keeps kW) (hW4.keeps kW)).mono ?_; rintro e wB ⟨rfl, kB⟩; rw [HR.out]; have sW := kW.size; have sB := kB.size; replace kW : Keeps w65 wB := kW.trans kB; clear kB)))
  clear kS hW0 hW1 hW2 hW4
  clear ca73_0 ca73_1 ca73_2 ca73_3 ca74_0 ca74_1 ca74_2 ca74_3 ca75
  have ss76 := kW.size
  replace p0 := p0.keeps kW
  replace p3 := p3.keeps kW
  replace p5 := p5.keeps kW
  replace bx0 := bx0.keeps kW
  replace x0 := x0.keeps kW
  replace x1 := x1.keeps kW
  replace x2 := x2.keeps kW
  replace x4 := x4.keeps kW
  replace kw := Keeps.trans kw kW
  have lt77 := bx0.lt
  have sz78 := kw.size
  clear kW
  obtain ⟨wy78, rfl⟩ : ∃ u : World, u = wB := ⟨_, rfl⟩
  obtain ⟨ca79, fa79⟩ := id p0
  have ca80_0 : wy78.cell? ⟨w.heap.size + 1, 0, none⟩ = some (.int .i64 d3a) := (p3.2 0 _ rfl).1
  have fa80_0 : wy78.frozen? ⟨w.heap.size + 1, 0, none⟩ = false := (p3.2 0 _ rfl).2
  have ca80_1 : wy78.cell? ⟨w.heap.size + 1, 1, none⟩ = some (.int .i64 d3b) := (p3.2 1 _ rfl).1
  have fa80_1 : wy78.frozen? ⟨w.heap.size + 1, 1, none⟩ = false := (p3.2 1 _ rfl).2
  have ca80_2 : wy78.cell? ⟨w.heap.size + 1, 2, none⟩ = some (.int .i64 d3c) := (p3.2 2 _ rfl).1
  have fa80_2 : wy78.frozen? ⟨w.heap.size + 1, 2, none⟩ = false := (p3.2 2 _ rfl).2
  have ca80_3 : wy78.cell? ⟨w.heap.size + 1, 3, none⟩ = some (.int .i64 d3d) := (p3.2 3 _ rfl).1
  have fa80_3 : wy78.frozen? ⟨w.heap.size + 1, 3, none⟩ = false := (p3.2 3 _ rfl).2
  have ca81_0 : wy78.cell? ⟨w.heap.size + 1 + 1, 0, none⟩ = some (.int .i64 d5a) := (p5.2 0 _ rfl).1
  have fa81_0 : wy78.frozen? ⟨w.heap.size + 1 + 1, 0, none⟩ = false := (p5.2 0 _ rfl).2
  have ca81_1 : wy78.cell? ⟨w.heap.size + 1 + 1, 1, none⟩ = some (.int .i64 d5b) := (p5.2 1 _ rfl).1
  have fa81_1 : wy78.frozen? ⟨w.heap.size + 1 + 1, 1, none⟩ = false := (p5.2 1 _ rfl).2
  have ca81_2 : wy78.cell? ⟨w.heap.size + 1 + 1, 2, none⟩ = some (.int .i64 d5c) := (p5.2 2 _ rfl).1
  have fa81_2 : wy78.frozen? ⟨w.heap.size + 1 + 1, 2, none⟩ = false := (p5.2 2 _ rfl).2
  have ca81_3 : wy78.cell? ⟨w.heap.size + 1 + 1, 3, none⟩ = some (.int .i64 d5d) := (p5.2 3 _ rfl).1
  have fa81_3 : wy78.frozen? ⟨w.heap.size + 1 + 1, 3, none⟩ = false := (p5.2 3 _ rfl).2
  obtain ⟨ca82, fa82⟩ := id bx0
  go_wp2_with fail
  clear ca79 fa79 ca80_0 fa80_0 ca80_1 fa80_1 ca80_2 fa80_2 ca80_3 fa80_3 ca81_0 fa81_0 ca81_1 fa81_1 ca81_2 fa81_2 ca81_3 fa81_3 ca82 fa82
  have e0 : (r0 != r0) = false := by simp
  have e1 : (r1 != r1) = false := by simp
  obtain ⟨ca83, -⟩ := id bx0
  obtain ⟨ca84, -⟩ := id p0
  have kS := hid (show ∀ w', Keeps wy78 w' → (w'.cell? ⟨w41.heap.size, 0, none⟩ = some (.slice Bx0 n0 n0) ∧ w'.cell? ⟨w.heap.size, 0, none⟩ = some (.slice A0 n0 c0)) from fun w' k => ⟨cell_keeps ca83 k, cell_keeps ca84 k⟩)
  go_region_held3 (fun w' => w'.cell? ⟨w41.heap.size, 0, none⟩ = some (.slice Bx0 n0 n0) ∧ w'.cell? ⟨w.heap.size, 0, none⟩ = some (.slice A0 n0 c0)) (first | exact kS.out _ (keeps_d0 wy78) | exact kS.out _ kW | go_keep)
    ((first | (go_at_call 17; refine (toGeo_any (h0.keeps (Keeps.trans kw (keeps_d0 wy78)))).mono ?_; rintro e wB85 ⟨Bt85, rfl, t0, kB⟩; have kW : Keeps wy78 wB85 := keeps_d kB; clear kB) | (go_at_call 21; refine (eqGeo_true (x0.1.keeps kW) t0.1).mono ?_; rintro e wC85 ⟨rfl, kC⟩; replace kW : Keeps wy78 wC85 := kW.trans kC; clear kC)))
  clear kS t0
  clear ca83 ca84
  have ss86 := kW.size
  replace p0 := p0.keeps kW
  replace p3 := p3.keeps kW
  replace p5 := p5.keeps kW
  replace bx0 := bx0.keeps kW
  replace x0 := x0.keeps kW
  replace x1 := x1.keeps kW
  replace x2 := x2.keeps kW
  replace x4 := x4.keeps kW
  replace kw := Keeps.trans kw kW
  have lt87 := bx0.lt
  have sz88 := kw.size
  clear kW
  obtain ⟨ca89, fa89⟩ := id p0
  have ca90_0 : wC85.cell? ⟨w.heap.size + 1, 0, none⟩ = some (.int .i64 d3a) := (p3.2 0 _ rfl).1
  have fa90_0 : wC85.frozen? ⟨w.heap.size + 1, 0, none⟩ = false := (p3.2 0 _ rfl).2
  have ca90_1 : wC85.cell? ⟨w.heap.size + 1, 1, none⟩ = some (.int .i64 d3b) := (p3.2 1 _ rfl).1
  have fa90_1 : wC85.frozen? ⟨w.heap.size + 1, 1, none⟩ = false := (p3.2 1 _ rfl).2
  have ca90_2 : wC85.cell? ⟨w.heap.size + 1, 2, none⟩ = some (.int .i64 d3c) := (p3.2 2 _ rfl).1
  have fa90_2 : wC85.frozen? ⟨w.heap.size + 1, 2, none⟩ = false := (p3.2 2 _ rfl).2
  have ca90_3 : wC85.cell? ⟨w.heap.size + 1, 3, none⟩ = some (.int .i64 d3d) := (p3.2 3 _ rfl).1
  have fa90_3 : wC85.frozen? ⟨w.heap.size + 1, 3, none⟩ = false := (p3.2 3 _ rfl).2
  have ca91_0 : wC85.cell? ⟨w.heap.size + 1 + 1, 0, none⟩ = some (.int .i64 d5a) := (p5.2 0 _ rfl).1
  have fa91_0 : wC85.frozen? ⟨w.heap.size + 1 + 1, 0, none⟩ = false := (p5.2 0 _ rfl).2
  have ca91_1 : wC85.cell? ⟨w.heap.size + 1 + 1, 1, none⟩ = some (.int .i64 d5b) := (p5.2 1 _ rfl).1
  have fa91_1 : wC85.frozen? ⟨w.heap.size + 1 + 1, 1, none⟩ = false := (p5.2 1 _ rfl).2
  have ca91_2 : wC85.cell? ⟨w.heap.size + 1 + 1, 2, none⟩ = some (.int .i64 d5c) := (p5.2 2 _ rfl).1
  have fa91_2 : wC85.frozen? ⟨w.heap.size + 1 + 1, 2, none⟩ = false := (p5.2 2 _ rfl).2
  have ca91_3 : wC85.cell? ⟨w.heap.size + 1 + 1, 3, none⟩ = some (.int .i64 d5d) := (p5.2 3 _ rfl).1
  have fa91_3 : wC85.frozen? ⟨w.heap.size + 1 + 1, 3, none⟩ = false := (p5.2 3 _ rfl).2
  obtain ⟨ca92, fa92⟩ := id bx0
  go_wp2_with fail
  clear ca89 fa89 ca90_0 fa90_0 ca90_1 fa90_1 ca90_2 fa90_2 ca90_3 fa90_3 ca91_0 fa91_0 ca91_1 fa91_1 ca91_2 fa91_2 ca91_3 fa91_3 ca92 fa92
  refine (toVariableS_any (h1.keeps kw)).mono ?_
  rintro e w93 ⟨Bt1, rfl, t1, k93⟩
  have ss94 := k93.size
  replace p0 := p0.keeps k93
  replace p3 := p3.keeps k93
  replace p5 := p5.keeps k93
  replace bx0 := bx0.keeps k93
  replace x0 := x0.keeps k93
  replace x1 := x1.keeps k93
  replace x2 := x2.keeps k93
  replace x4 := x4.keeps k93
  replace kw := Keeps.trans kw k93
  have lt95 := bx0.lt
  have sz96 := kw.size
  clear k93
  obtain ⟨ca97, fa97⟩ := id p0
  have ca98_0 : w93.cell? ⟨w.heap.size + 1, 0, none⟩ = some (.int .i64 d3a) := (p3.2 0 _ rfl).1
  have fa98_0 : w93.frozen? ⟨w.heap.size + 1, 0, none⟩ = false := (p3.2 0 _ rfl).2
  have ca98_1 : w93.cell? ⟨w.heap.size + 1, 1, none⟩ = some (.int .i64 d3b) := (p3.2 1 _ rfl).1
  have fa98_1 : w93.frozen? ⟨w.heap.size + 1, 1, none⟩ = false := (p3.2 1 _ rfl).2
  have ca98_2 : w93.cell? ⟨w.heap.size + 1, 2, none⟩ = some (.int .i64 d3c) := (p3.2 2 _ rfl).1
  have fa98_2 : w93.frozen? ⟨w.heap.size + 1, 2, none⟩ = false := (p3.2 2 _ rfl).2
  have ca98_3 : w93.cell? ⟨w.heap.size + 1, 3, none⟩ = some (.int .i64 d3d) := (p3.2 3 _ rfl).1
  have fa98_3 : w93.frozen? ⟨w.heap.size + 1, 3, none⟩ = false := (p3.2 3 _ rfl).2
  have ca99_0 : w93.cell? ⟨w.heap.size + 1 + 1, 0, none⟩ = some (.int .i64 d5a) := (p5.2 0 _ rfl).1
  have fa99_0 : w93.frozen? ⟨w.heap.size + 1 + 1, 0, none⟩ = false := (p5.2 0 _ rfl).2
  have ca99_1 : w93.cell? ⟨w.heap.size + 1 + 1, 1, none⟩ = some (.int .i64 d5b) := (p5.2 1 _ rfl).1
  have fa99_1 : w93.frozen? ⟨w.heap.size + 1 + 1, 1, none⟩ = false := (p5.2 1 _ rfl).2
  have ca99_2 : w93.cell? ⟨w.heap.size + 1 + 1, 2, none⟩ = some (.int .i64 d5c) := (p5.2 2 _ rfl).1
  have fa99_2 : w93.frozen? ⟨w.heap.size + 1 + 1, 2, none⟩ = false := (p5.2 2 _ rfl).2
  have ca99_3 : w93.cell? ⟨w.heap.size + 1 + 1, 3, none⟩ = some (.int .i64 d5d) := (p5.2 3 _ rfl).1
  have fa99_3 : w93.frozen? ⟨w.heap.size + 1 + 1, 3, none⟩ = false := (p5.2 3 _ rfl).2
  obtain ⟨ca100, fa100⟩ := id bx0
  go_wp2_with fail
  clear ca97 fa97 ca98_0 fa98_0 ca98_1 fa98_1 ca98_2 fa98_2 ca98_3 fa98_3 ca99_0 fa99_0 ca99_1 fa99_1 ca99_2 fa99_2 ca99_3 fa99_3 ca100 fa100
  refine (eqVariableS_true x1.1 t1.1).mono ?_
  rintro e w101 ⟨rfl, k101⟩
  have ss102 := k101.size
  replace p0 := p0.keeps k101
  replace p3 := p3.keeps k101
  replace p5 := p5.keeps k101
  replace bx0 := bx0.keeps k101
  replace x0 := x0.keeps k101
  replace x1 := x1.keeps k101
  replace x2 := x2.keeps k101
  replace x4 := x4.keeps k101
  replace t1 := t1.keeps k101
  replace kw := Keeps.trans kw k101
  have lt103 := bx0.lt
  have sz104 := kw.size
  clear k101
  clear t1
  obtain ⟨ca105, fa105⟩ := id p0
  have ca106_0 : w101.cell? ⟨w.heap.size + 1, 0, none⟩ = some (.int .i64 d3a) := (p3.2 0 _ rfl).1
  have fa106_0 : w101.frozen? ⟨w.heap.size + 1, 0, none⟩ = false := (p3.2 0 _ rfl).2
  have ca106_1 : w101.cell? ⟨w.heap.size + 1, 1, none⟩ = some (.int .i64 d3b) := (p3.2 1 _ rfl).1
  have fa106_1 : w101.frozen? ⟨w.heap.size + 1, 1, none⟩ = false := (p3.2 1 _ rfl).2
  have ca106_2 : w101.cell? ⟨w.heap.size + 1, 2, none⟩ = some (.int .i64 d3c) := (p3.2 2 _ rfl).1
  have fa106_2 : w101.frozen? ⟨w.heap.size + 1, 2, none⟩ = false := (p3.2 2 _ rfl).2
  have ca106_3 : w101.cell? ⟨w.heap.size + 1, 3, none⟩ = some (.int .i64 d3d) := (p3.2 3 _ rfl).1
  have fa106_3 : w101.frozen? ⟨w.heap.size + 1, 3, none⟩ = false := (p3.2 3 _ rfl).2
  have ca107_0 : w101.cell? ⟨w.heap.size + 1 + 1, 0, none⟩ = some (.int .i64 d5a) := (p5.2 0 _ rfl).1
  have fa107_0 : w101.frozen? ⟨w.heap.size + 1 + 1, 0, none⟩ = false := (p5.2 0 _ rfl).2
  have ca107_1 : w101.cell? ⟨w.heap.size + 1 + 1, 1, none⟩ = some (.int .i64 d5b) := (p5.2 1 _ rfl).1
  have fa107_1 : w101.frozen? ⟨w.heap.size + 1 + 1, 1, none⟩ = false := (p5.2 1 _ rfl).2
  have ca107_2 : w101.cell? ⟨w.heap.size + 1 + 1, 2, none⟩ = some (.int .i64 d5c) := (p5.2 2 _ rfl).1
  have fa107_2 : w101.frozen? ⟨w.heap.size + 1 + 1, 2, none⟩ = false := (p5.2 2 _ rfl).2
  have ca107_3 : w101.cell? ⟨w.heap.size + 1 + 1, 3, none⟩ = some (.int .i64 d5d) := (p5.2 3 _ rfl).1
  have fa107_3 : w101.frozen? ⟨w.heap.size + 1 + 1, 3, none⟩ = false := (p5.2 3 _ rfl).2
  obtain ⟨ca108, fa108⟩ := id bx0
  go_wp2_with fail
  clear ca105 fa105 ca106_0 fa106_0 ca106_1 fa106_1 ca106_2 fa106_2 ca106_3 fa106_3 ca107_0 fa107_0 ca107_1 fa107_1 ca107_2 fa107_2 ca107_3 fa107_3 ca108 fa108
  refine (toReleaseS_any (h2.keeps kw)).mono ?_
  rintro e w109 ⟨Bt2, rfl, t2, k109⟩
  have ss110 := k109.size
  replace p0 := p0.keeps k109
  replace p3 := p3.keeps k109
  replace p5 := p5.keeps k109
  replace bx0 := bx0.keeps k109
  replace x0 := x0.keeps k109
  replace x1 := x1.keeps k109
  replace x2 := x2.keeps k109
  replace x4 := x4.keeps k109
  replace kw := Keeps.trans kw k109
  have lt111 := bx0.lt
  have sz112 := kw.size
  clear k109
  obtain ⟨ca113, fa113⟩ := id p0
  have ca114_0 : w109.cell? ⟨w.heap.size + 1, 0, none⟩ = some (.int .i64 d3a) := (p3.2 0 _ rfl).1
  have fa114_0 : w109.frozen? ⟨w.heap.size + 1, 0, none⟩ = false := (p3.2 0 _ rfl).2
  have ca114_1 : w109.cell? ⟨w.heap.size + 1, 1, none⟩ = some (.int .i64 d3b) := (p3.2 1 _ rfl).1
  have fa114_1 : w109.frozen? ⟨w.heap.size + 1, 1, none⟩ = false := (p3.2 1 _ rfl).2
  have ca114_2 : w109.cell? ⟨w.heap.size + 1, 2, none⟩ = some (.int .i64 d3c) := (p3.2 2 _ rfl).1
  have fa114_2 : w109.frozen? ⟨w.heap.size + 1, 2, none⟩ = false := (p3.2 2 _ rfl).2
  have ca114_3 : w109.cell? ⟨w.heap.size + 1, 3, none⟩ = some (.int .i64 d3d) := (p3.2 3 _ rfl).1
  have fa114_3 : w109.frozen? ⟨w.heap.size + 1, 3, none⟩ = false := (p3.2 3 _ rfl).2
  have ca115_0 : w109.cell? ⟨w.heap.size + 1 + 1, 0, none⟩ = some (.int .i64 d5a) := (p5.2 0 _ rfl).1
  have fa115_0 : w109.frozen? ⟨w.heap.size + 1 + 1, 0, none⟩ = false := (p5.2 0 _ rfl).2
  have ca115_1 : w109.cell? ⟨w.heap.size + 1 + 1, 1, none⟩ = some (.int .i64 d5b) := (p5.2 1 _ rfl).1
  have fa115_1 : w109.frozen? ⟨w.heap.size + 1 + 1, 1, none⟩ = false := (p5.2 1 _ rfl).2
  have ca115_2 : w109.cell? ⟨w.heap.size + 1 + 1, 2, none⟩ = some (.int .i64 d5c) := (p5.2 2 _ rfl).1
  have fa115_2 : w109.frozen? ⟨w.heap.size + 1 + 1, 2, none⟩ = false := (p5.2 2 _ rfl).2
  have ca115_3 : w109.cell? ⟨w.heap.size + 1 + 1, 3, none⟩ = some (.int .i64 d5d) := (p5.2 3 _ rfl).1
  have fa115_3 : w109.frozen? ⟨w.heap.size + 1 + 1, 3, none⟩ = false := (p5.2 3 _ rfl).2
  obtain ⟨ca116, fa116⟩ := id bx0
  go_wp2_with fail
  clear ca113 fa113 ca114_0 fa114_0 ca114_1 fa114_1 ca114_2 fa114_2 ca114_3 fa114_3 ca115_0 fa115_0 ca115_1 fa115_1 ca115_2 fa115_2 ca115_3 fa115_3 ca116 fa116
  refine (eqReleaseS_true x2 t2).mono ?_
  rintro e w117 ⟨rfl, k117⟩
  have ss118 := k117.size
  replace p0 := p0.keeps k117
  replace p3 := p3.keeps k117
  replace p5 := p5.keeps k117
  replace bx0 := bx0.keeps k117
  replace x0 := x0.keeps k117
  replace x1 := x1.keeps k117
  replace x2 := x2.keeps k117
  replace x4 := x4.keeps k117
  replace t2 := t2.keeps k117
  replace kw := Keeps.trans kw k117
  have lt119 := bx0.lt
  have sz120 := kw.size
  clear k117
  clear t2
  obtain ⟨ca121, fa121⟩ := id p0
  have ca122_0 : w117.cell? ⟨w.heap.size + 1, 0, none⟩ = some (.int .i64 d3a) := (p3.2 0 _ rfl).1
  have fa122_0 : w117.frozen? ⟨w.heap.size + 1, 0, none⟩ = false := (p3.2 0 _ rfl).2
  have ca122_1 : w117.cell? ⟨w.heap.size + 1, 1, none⟩ = some (.int .i64 d3b) := (p3.2 1 _ rfl).1
  have fa122_1 : w117.frozen? ⟨w.heap.size + 1, 1, none⟩ = false := (p3.2 1 _ rfl).2
  have ca122_2 : w117.cell? ⟨w.heap.size + 1, 2, none⟩ = some (.int .i64 d3c) := (p3.2 2 _ rfl).1
  have fa122_2 : w117.frozen? ⟨w.heap.size + 1, 2, none⟩ = false := (p3.2 2 _ rfl).2
  have ca122_3 : w117.cell? ⟨w.heap.size + 1, 3, none⟩ = some (.int .i64 d3d) := (p3.2 3 _ rfl).1
  have fa122_3 : w117.frozen? ⟨w.heap.size + 1, 3, none⟩ = false := (p3.2 3 _ rfl).2
  have ca123_0 : w117.cell? ⟨w.heap.size + 1 + 1, 0, none⟩ = some (.int .i64 d5a) := (p5.2 0 _ rfl).1
  have fa123_0 : w117.frozen? ⟨w.heap.size + 1 + 1, 0, none⟩ = false := (p5.2 0 _ rfl).2
  have ca123_1 : w117.cell? ⟨w.heap.size + 1 + 1, 1, none⟩ = some (.int .i64 d5b) := (p5.2 1 _ rfl).1
  have fa123_1 : w117.frozen? ⟨w.heap.size + 1 + 1, 1, none⟩ = false := (p5.2 1 _ rfl).2
  have ca123_2 : w117.cell? ⟨w.heap.size + 1 + 1, 2, none⟩ = some (.int .i64 d5c) := (p5.2 2 _ rfl).1
  have fa123_2 : w117.frozen? ⟨w.heap.size + 1 + 1, 2, none⟩ = false := (p5.2 2 _ rfl).2
  have ca123_3 : w117.cell? ⟨w.heap.size + 1 + 1, 3, none⟩ = some (.int .i64 d5d) := (p5.2 3 _ rfl).1
  have fa123_3 : w117.frozen? ⟨w.heap.size + 1 + 1, 3, none⟩ = false := (p5.2 3 _ rfl).2
  obtain ⟨ca124, fa124⟩ := id bx0
  go_wp2_with fail
  clear ca121 fa121 ca122_0 fa122_0 ca122_1 fa122_1 ca122_2 fa122_2 ca122_3 fa122_3 ca123_0 fa123_0 ca123_1 fa123_1 ca123_2 fa123_2 ca123_3 fa123_3 ca124 fa124
  refine (toTableS_any (h4.keeps kw)).mono ?_
  rintro e w125 ⟨Bt4, rfl, t4, k125⟩
  have ss126 := k125.size
  replace p0 := p0.keeps k125
  replace p3 := p3.keeps k125
  replace p5 := p5.keeps k125
  replace bx0 := bx0.keeps k125
  replace x0 := x0.keeps k125
  replace x1 := x1.keeps k125
  replace x2 := x2.keeps k125
  replace x4 := x4.keeps k125
  replace kw := Keeps.trans kw k125
  have lt127 := bx0.lt
  have sz128 := kw.size
  clear k125
  obtain ⟨ca129, fa129⟩ := id p0
  have ca130_0 : w125.cell? ⟨w.heap.size + 1, 0, none⟩ = some (.int .i64 d3a) := (p3.2 0 _ rfl).1
  have fa130_0 : w125.frozen? ⟨w.heap.size + 1, 0, none⟩ = false := (p3.2 0 _ rfl).2
  have ca130_1 : w125.cell? ⟨w.heap.size + 1, 1, none⟩ = some (.int .i64 d3b) := (p3.2 1 _ rfl).1
  have fa130_1 : w125.frozen? ⟨w.heap.size + 1, 1, none⟩ = false := (p3.2 1 _ rfl).2
  have ca130_2 : w125.cell? ⟨w.heap.size + 1, 2, none⟩ = some (.int .i64 d3c) := (p3.2 2 _ rfl).1
  have fa130_2 : w125.frozen? ⟨w.heap.size + 1, 2, none⟩ = false := (p3.2 2 _ rfl).2
  have ca130_3 : w125.cell? ⟨w.heap.size + 1, 3, none⟩ = some (.int .i64 d3d) := (p3.2 3 _ rfl).1
  have fa130_3 : w125.frozen? ⟨w.heap.size + 1, 3, none⟩ = false := (p3.2 3 _ rfl).2
  have ca131_0 : w125.cell? ⟨w.heap.size + 1 + 1, 0, none⟩ = some (.int .i64 d5a) := (p5.2 0 _ rfl).1
  have fa131_0 : w125.frozen? ⟨w.heap.size + 1 + 1, 0, none⟩ = false := (p5.2 0 _ rfl).2
  have ca131_1 : w125.cell? ⟨w.heap.size + 1 + 1, 1, none⟩ = some (.int .i64 d5b) := (p5.2 1 _ rfl).1
  have fa131_1 : w125.frozen? ⟨w.heap.size + 1 + 1, 1, none⟩ = false := (p5.2 1 _ rfl).2
  have ca131_2 : w125.cell? ⟨w.heap.size + 1 + 1, 2, none⟩ = some (.int .i64 d5c) := (p5.2 2 _ rfl).1
  have fa131_2 : w125.frozen? ⟨w.heap.size + 1 + 1, 2, none⟩ = false := (p5.2 2 _ rfl).2
  have ca131_3 : w125.cell? ⟨w.heap.size + 1 + 1, 3, none⟩ = some (.int .i64 d5d) := (p5.2 3 _ rfl).1
  have fa131_3 : w125.frozen? ⟨w.heap.size + 1 + 1, 3, none⟩ = false := (p5.2 3 _ rfl).2
  obtain ⟨ca132, fa132⟩ := id bx0
  go_wp2_with fail
  clear ca129 fa129 ca130_0 fa130_0 ca130_1 fa130_1 ca130_2 fa130_2 ca130_3 fa130_3 ca131_0 fa131_0 ca131_1 fa131_1 ca131_2 fa131_2 ca131_3 fa131_3 ca132 fa132
  refine (eqTableS_true x4 t4).mono ?_
  rintro e w133 ⟨rfl, k133⟩
  have ss134 := k133.size
  replace p0 := p0.keeps k133
  replace p3 := p3.keeps k133
  replace p5 := p5.keeps k133
  replace bx0 := bx0.keeps k133
  replace x0 := x0.keeps k133
  replace x1 := x1.keeps k133
  replace x2 := x2.keeps k133
  replace x4 := x4.keeps k133
  replace t4 := t4.keeps k133
  replace kw := Keeps.trans kw k133
  have lt135 := bx0.lt
  have sz136 := kw.size
  clear k133
  clear t4
  obtain ⟨ca137, fa137⟩ := id p0
  have ca138_0 : w133.cell? ⟨w.heap.size + 1, 0, none⟩ = some (.int .i64 d3a) := (p3.2 0 _ rfl).1
  have fa138_0 : w133.frozen? ⟨w.heap.size + 1, 0, none⟩ = false := (p3.2 0 _ rfl).2
  have ca138_1 : w133.cell? ⟨w.heap.size + 1, 1, none⟩ = some (.int .i64 d3b) := (p3.2 1 _ rfl).1
  have fa138_1 : w133.frozen? ⟨w.heap.size + 1, 1, none⟩ = false := (p3.2 1 _ rfl).2
  have ca138_2 : w133.cell? ⟨w.heap.size + 1, 2, none⟩ = some (.int .i64 d3c) := (p3.2 2 _ rfl).1
  have fa138_2 : w133.frozen? ⟨w.heap.size + 1, 2, none⟩ = false := (p3.2 2 _ rfl).2
  have ca138_3 : w133.cell? ⟨w.heap.size + 1, 3, none⟩ = some (.int .i64 d3d) := (p3.2 3 _ rfl).1
  have fa138_3 : w133.frozen? ⟨w.heap.size + 1, 3, none⟩ = false := (p3.2 3 _ rfl).2
  have ca139_0 : w133.cell? ⟨w.heap.size + 1 + 1, 0, none⟩ = some (.int .i64 d5a) := (p5.2 0 _ rfl).1
  have fa139_0 : w133.frozen? ⟨w.heap.size + 1 + 1, 0, none⟩ = false := (p5.2 0 _ rfl).2
  have ca139_1 : w133.cell? ⟨w.heap.size + 1 + 1, 1, none⟩ = some (.int .i64 d5b) := (p5.2 1 _ rfl).1
  have fa139_1 : w133.frozen? ⟨w.heap.size + 1 + 1, 1, none⟩ = false := (p5.2 1 _ rfl).2
  have ca139_2 : w133.cell? ⟨w.heap.size + 1 + 1, 2, none⟩ = some (.int .i64 d5c) := (p5.2 2 _ rfl).1
  have fa139_2 : w133.frozen? ⟨w.heap.size + 1 + 1, 2, none⟩ = false := (p5.2 2 _ rfl).2
  have ca139_3 : w133.cell? ⟨w.heap.size + 1 + 1, 3, none⟩ = some (.int .i64 d5d) := (p5.2 3 _ rfl).1
  have fa139_3 : w133.frozen? ⟨w.heap.size + 1 + 1, 3, none⟩ = false := (p5.2 3 _ rfl).2
  obtain ⟨ca140, fa140⟩ := id bx0
  go_wp2_with fail
  clear ca137 fa137 ca138_0 fa138_0 ca138_1 fa138_1 ca138_2 fa138_2 ca138_3 fa138_3 ca139_0 fa139_0 ca139_1 fa139_1 ca139_2 fa139_2 ca139_3 fa139_3 ca140 fa140
  go_ret
  exact ⟨rfl, kw⟩
set_option maxRecDepth 100000 in
set_option maxHeartbeats 6400000 in
theorem FnExactReleasesLeft_law (A0 : Option Addr) (n0 c0 : Nat) (z0 : List Int) (A1 : Option Addr) (n1 c1 : Nat) (z1 : List VV) (A2 : Option Addr) (n2 c2 : Nat) (z2 : List RL) (d3a d3b d3c d3d : Int) (d4a d4b d4c d4d : Int) (w : World) (wa0 : IntsArg w A0 n0 z0) (wa1 : VarsArg w A1 n1 z1) (wa2 : RelsArg w A2 n2 z2) (wa3 : True) (wa4 : True) :
    Calls Try.prog 11 #[.agg #[.slice A0 n0 c0], .slice A1 n1 c1, .slice A2 n2 c2, .agg #[.int .i64 d3a, .int .i64 d3b, .int .i64 d3c, .int .i64 d3d], .agg #[.int .i64 d4a, .int .i64 d4b, .int .i64 d4c, .int .i64 d4d]] w fun e w' => e = .returned (.bool true) ∧ Below w.heap.size w w' := by
  have HNK := hid (show NamesOk z1 from wa1.2.2.1)
  go_enter Try.func11, Try.ntmps11
  have kw := keeps_refl w
  replace kw := Keeps.trans kw (keeps_alloc w (.cells #[.slice A0 n0 c0] 24))
  have p0 : B1 (w.alloc (.cells #[.slice A0 n0 c0] 24)) w.heap.size (.slice A0 n0 c0) := B1.new' (by simp)
  replace p0 := p0.keeps (keeps_alloc (w.alloc (.cells #[.slice A0 n0 c0] 24)) (.cells #[.int .i64 d3a, .int .i64 d3b, .int .i64 d3c, .int .i64 d3d] 30))
  replace kw := Keeps.trans kw (keeps_alloc (w.alloc (.cells #[.slice A0 n0 c0] 24)) (.cells #[.int .i64 d3a, .int .i64 d3b, .int .i64 d3c, .int .i64 d3d] 30))
  have p3 : Bl ((w.alloc (.cells #[.slice A0 n0 c0] 24)).alloc (.cells #[.int .i64 d3a, .int .i64 d3b, .int .i64 d3c, .int .i64 d3d] 30)) (w.heap.size + 1) [.int .i64 d3a, .int .i64 d3b, .int .i64 d3c, .int .i64 d3d] := Bl.new' (by simp) (by simp)
  replace p0 := p0.keeps (keeps_alloc ((w.alloc (.cells #[.slice A0 n0 c0] 24)).alloc (.cells #[.int .i64 d3a, .int .i64 d3b, .int .i64 d3c, .int .i64 d3d] 30)) (.cells #[.int .i64 d4a, .int .i64 d4b, .int .i64 d4c, .int .i64 d4d] 30))
  replace p3 := p3.keeps (keeps_alloc ((w.alloc (.cells #[.slice A0 n0 c0] 24)).alloc (.cells #[.int .i64 d3a, .int .i64 d3b, .int .i64 d3c, .int .i64 d3d] 30)) (.cells #[.int .i64 d4a, .int .i64 d4b, .int .i64 d4c, .int .i64 d4d] 30))
  replace kw := Keeps.trans kw (keeps_alloc ((w.alloc (.cells #[.slice A0 n0 c0] 24)).alloc (.cells #[.int .i64 d3a, .int .i64 d3b, .int .i64 d3c, .int .i64 d3d] 30)) (.cells #[.int .i64 d4a, .int .i64 d4b, .int .i64 d4c, .int .i64 d4d] 30))
  have p4 : Bl (((w.alloc (.cells #[.slice A0 n0 c0] 24)).alloc (.cells #[.int .i64 d3a, .int .i64 d3b, .int .i64 d3c, .int .i64 d3d] 30)).alloc (.cells #[.int .i64 d4a, .int .i64 d4b, .int .i64 d4c, .int .i64 d4d] 30)) (w.heap.size + 1 + 1) [.int .i64 d4a, .int .i64 d4b, .int .i64 d4c, .int .i64 d4d] := Bl.new' (by simp) (by simp)
  obtain ⟨ca1, fa1⟩ := id p0
  have ca2_0 : (((w.alloc (.cells #[.slice A0 n0 c0] 24)).alloc (.cells #[.int .i64 d3a, .int .i64 d3b, .int .i64 d3c, .int .i64 d3d] 30)).alloc (.cells #[.int .i64 d4a, .int .i64 d4b, .int .i64 d4c, .int .i64 d4d] 30)).cell? ⟨w.heap.size + 1, 0, none⟩ = some (.int .i64 d3a) := (p3.2 0 _ rfl).1
  have fa2_0 : (((w.alloc (.cells #[.slice A0 n0 c0] 24)).alloc (.cells #[.int .i64 d3a, .int .i64 d3b, .int .i64 d3c, .int .i64 d3d] 30)).alloc (.cells #[.int .i64 d4a, .int .i64 d4b, .int .i64 d4c, .int .i64 d4d] 30)).frozen? ⟨w.heap.size + 1, 0, none⟩ = false := (p3.2 0 _ rfl).2
  have ca2_1 : (((w.alloc (.cells #[.slice A0 n0 c0] 24)).alloc (.cells #[.int .i64 d3a, .int .i64 d3b, .int .i64 d3c, .int .i64 d3d] 30)).alloc (.cells #[.int .i64 d4a, .int .i64 d4b, .int .i64 d4c, .int .i64 d4d] 30)).cell? ⟨w.heap.size + 1, 1, none⟩ = some (.int .i64 d3b) := (p3.2 1 _ rfl).1
  have fa2_1 : (((w.alloc (.cells #[.slice A0 n0 c0] 24)).alloc (.cells #[.int .i64 d3a, .int .i64 d3b, .int .i64 d3c, .int .i64 d3d] 30)).alloc (.cells #[.int .i64 d4a, .int .i64 d4b, .int .i64 d4c, .int .i64 d4d] 30)).frozen? ⟨w.heap.size + 1, 1, none⟩ = false := (p3.2 1 _ rfl).2
  have ca2_2 : (((w.alloc (.cells #[.slice A0 n0 c0] 24)).alloc (.cells #[.int .i64 d3a, .int .i64 d3b, .int .i64 d3c, .int .i64 d3d] 30)).alloc (.cells #[.int .i64 d4a, .int .i64 d4b, .int .i64 d4c, .int .i64 d4d] 30)).cell? ⟨w.heap.size + 1, 2, none⟩ = some (.int .i64 d3c) := (p3.2 2 _ rfl).1
  have fa2_2 : (((w.alloc (.cells #[.slice A0 n0 c0] 24)).alloc (.cells #[.int .i64 d3a, .int .i64 d3b, .int .i64 d3c, .int .i64 d3d] 30)).alloc (.cells #[.int .i64 d4a, .int .i64 d4b, .int .i64 d4c, .int .i64 d4d] 30)).frozen? ⟨w.heap.size + 1, 2, none⟩ = false := (p3.2 2 _ rfl).2
  have ca2_3 : (((w.alloc (.cells #[.slice A0 n0 c0] 24)).alloc (.cells #[.int .i64 d3a, .int .i64 d3b, .int .i64 d3c, .int .i64 d3d] 30)).alloc (.cells #[.int .i64 d4a, .int .i64 d4b, .int .i64 d4c, .int .i64 d4d] 30)).cell? ⟨w.heap.size + 1, 3, none⟩ = some (.int .i64 d3d) := (p3.2 3 _ rfl).1
  have fa2_3 : (((w.alloc (.cells #[.slice A0 n0 c0] 24)).alloc (.cells #[.int .i64 d3a, .int .i64 d3b, .int .i64 d3c, .int .i64 d3d] 30)).alloc (.cells #[.int .i64 d4a, .int .i64 d4b, .int .i64 d4c, .int .i64 d4d] 30)).frozen? ⟨w.heap.size + 1, 3, none⟩ = false := (p3.2 3 _ rfl).2
  have ca3_0 : (((w.alloc (.cells #[.slice A0 n0 c0] 24)).alloc (.cells #[.int .i64 d3a, .int .i64 d3b, .int .i64 d3c, .int .i64 d3d] 30)).alloc (.cells #[.int .i64 d4a, .int .i64 d4b, .int .i64 d4c, .int .i64 d4d] 30)).cell? ⟨w.heap.size + 1 + 1, 0, none⟩ = some (.int .i64 d4a) := (p4.2 0 _ rfl).1
  have fa3_0 : (((w.alloc (.cells #[.slice A0 n0 c0] 24)).alloc (.cells #[.int .i64 d3a, .int .i64 d3b, .int .i64 d3c, .int .i64 d3d] 30)).alloc (.cells #[.int .i64 d4a, .int .i64 d4b, .int .i64 d4c, .int .i64 d4d] 30)).frozen? ⟨w.heap.size + 1 + 1, 0, none⟩ = false := (p4.2 0 _ rfl).2
  have ca3_1 : (((w.alloc (.cells #[.slice A0 n0 c0] 24)).alloc (.cells #[.int .i64 d3a, .int .i64 d3b, .int .i64 d3c, .int .i64 d3d] 30)).alloc (.cells #[.int .i64 d4a, .int .i64 d4b, .int .i64 d4c, .int .i64 d4d] 30)).cell? ⟨w.heap.size + 1 + 1, 1, none⟩ = some (.int .i64 d4b) := (p4.2 1 _ rfl).1
  have fa3_1 : (((w.alloc (.cells #[.slice A0 n0 c0] 24)).alloc (.cells #[.int .i64 d3a, .int .i64 d3b, .int .i64 d3c, .int .i64 d3d] 30)).alloc (.cells #[.int .i64 d4a, .int .i64 d4b, .int .i64 d4c, .int .i64 d4d] 30)).frozen? ⟨w.heap.size + 1 + 1, 1, none⟩ = false := (p4.2 1 _ rfl).2
  have ca3_2 : (((w.alloc (.cells #[.slice A0 n0 c0] 24)).alloc (.cells #[.int .i64 d3a, .int .i64 d3b, .int .i64 d3c, .int .i64 d3d] 30)).alloc (.cells #[.int .i64 d4a, .int .i64 d4b, .int .i64 d4c, .int .i64 d4d] 30)).cell? ⟨w.heap.size + 1 + 1, 2, none⟩ = some (.int .i64 d4c) := (p4.2 2 _ rfl).1
  have fa3_2 : (((w.alloc (.cells #[.slice A0 n0 c0] 24)).alloc (.cells #[.int .i64 d3a, .int .i64 d3b, .int .i64 d3c, .int .i64 d3d] 30)).alloc (.cells #[.int .i64 d4a, .int .i64 d4b, .int .i64 d4c, .int .i64 d4d] 30)).frozen? ⟨w.heap.size + 1 + 1, 2, none⟩ = false := (p4.2 2 _ rfl).2
  have ca3_3 : (((w.alloc (.cells #[.slice A0 n0 c0] 24)).alloc (.cells #[.int .i64 d3a, .int .i64 d3b, .int .i64 d3c, .int .i64 d3d] 30)).alloc (.cells #[.int .i64 d4a, .int .i64 d4b, .int .i64 d4c, .int .i64 d4d] 30)).cell? ⟨w.heap.size + 1 + 1, 3, none⟩ = some (.int .i64 d4d) := (p4.2 3 _ rfl).1
  have fa3_3 : (((w.alloc (.cells #[.slice A0 n0 c0] 24)).alloc (.cells #[.int .i64 d3a, .int .i64 d3b, .int .i64 d3c, .int .i64 d3d] 30)).alloc (.cells #[.int .i64 d4a, .int .i64 d4b, .int .i64 d4c, .int .i64 d4d] 30)).frozen? ⟨w.heap.size + 1 + 1, 3, none⟩ = false := (p4.2 3 _ rfl).2
  go_wp2_with fail
  clear ca1 fa1 ca2_0 fa2_0 ca2_1 fa2_1 ca2_2 fa2_2 ca2_3 fa2_3 ca3_0 fa3_0 ca3_1 fa3_1 ca3_2 fa3_2 ca3_3 fa3_3
  by_cases hs0 : (n0 : Int) ≤ 1048576
  rotate_left
  · have hm0 := wa0.1
    refine (szGeo_no _ _ _ (1048576) _ hm0 (by omega) (by omega) (by omega)).mono ?_
    rintro e w4 ⟨rfl, k4⟩
    have ss5 := k4.size
    simp at ss5
    replace p0 := p0.keeps k4
    replace p3 := p3.keeps k4
    replace p4 := p4.keeps k4
    replace kw := Keeps.trans kw k4
    have lt6 := p4.lt
    have sz7 := kw.size
    clear k4
    go_wp2_with fail
    go_ret
    exact ⟨rfl, kw⟩
  have h0 := wa0.ints (by omega)
  refine (szGeo_ok _ _ _ (1048576) _ (by omega) (by omega)).mono ?_
  rintro e w4 ⟨rfl, k4⟩
  have ss5 := k4.size
  simp at ss5
  replace p0 := p0.keeps k4
  replace p3 := p3.keeps k4
  replace p4 := p4.keeps k4
  replace kw := Keeps.trans kw k4
  have lt6 := p4.lt
  have sz7 := kw.size
  clear k4
  have tz0 : ¬ (1048576 - (n0 : Int) < 0) := by omega
  obtain ⟨ca8, fa8⟩ := id p0
  have ca9_0 : w4.cell? ⟨w.heap.size + 1, 0, none⟩ = some (.int .i64 d3a) := (p3.2 0 _ rfl).1
  have fa9_0 : w4.frozen? ⟨w.heap.size + 1, 0, none⟩ = false := (p3.2 0 _ rfl).2
  have ca9_1 : w4.cell? ⟨w.heap.size + 1, 1, none⟩ = some (.int .i64 d3b) := (p3.2 1 _ rfl).1
  have fa9_1 : w4.frozen? ⟨w.heap.size + 1, 1, none⟩ = false := (p3.2 1 _ rfl).2
  have ca9_2 : w4.cell? ⟨w.heap.size + 1, 2, none⟩ = some (.int .i64 d3c) := (p3.2 2 _ rfl).1
  have fa9_2 : w4.frozen? ⟨w.heap.size + 1, 2, none⟩ = false := (p3.2 2 _ rfl).2
  have ca9_3 : w4.cell? ⟨w.heap.size + 1, 3, none⟩ = some (.int .i64 d3d) := (p3.2 3 _ rfl).1
  have fa9_3 : w4.frozen? ⟨w.heap.size + 1, 3, none⟩ = false := (p3.2 3 _ rfl).2
  have ca10_0 : w4.cell? ⟨w.heap.size + 1 + 1, 0, none⟩ = some (.int .i64 d4a) := (p4.2 0 _ rfl).1
  have fa10_0 : w4.frozen? ⟨w.heap.size + 1 + 1, 0, none⟩ = false := (p4.2 0 _ rfl).2
  have ca10_1 : w4.cell? ⟨w.heap.size + 1 + 1, 1, none⟩ = some (.int .i64 d4b) := (p4.2 1 _ rfl).1
  have fa10_1 : w4.frozen? ⟨w.heap.size + 1 + 1, 1, none⟩ = false := (p4.2 1 _ rfl).2
  have ca10_2 : w4.cell? ⟨w.heap.size + 1 + 1, 2, none⟩ = some (.int .i64 d4c) := (p4.2 2 _ rfl).1
  have fa10_2 : w4.frozen? ⟨w.heap.size + 1 + 1, 2, none⟩ = false := (p4.2 2 _ rfl).2
  have ca10_3 : w4.cell? ⟨w.heap.size + 1 + 1, 3, none⟩ = some (.int .i64 d4d) := (p4.2 3 _ rfl).1
  have fa10_3 : w4.frozen? ⟨w.heap.size + 1 + 1, 3, none⟩ = false := (p4.2 3 _ rfl).2
  go_wp2_with fail
  clear ca8 fa8 ca9_0 fa9_0 ca9_1 fa9_1 ca9_2 fa9_2 ca9_3 fa9_3 ca10_0 fa10_0 ca10_1 fa10_1 ca10_2 fa10_2 ca10_3 fa10_3
  by_cases hs1 : ((n1 : Int) + vsz z1 n1) ≤ 1048576 - (n0 : Int)
  rotate_left
  · have hm1 := wa1.1
    refine (szVariableS_any (left := 1048576 - (n0 : Int)) (wa1.keeps kw) (by omega) (by omega)).mono ?_
    rintro e w11 ⟨rfl, k11⟩
    rw [szVs_no (left := 1048576 - (n0 : Int)) (n := n1) (l := z1) (by omega)]
    have ss12 := k11.size
    replace p0 := p0.keeps k11
    replace p3 := p3.keeps k11
    replace p4 := p4.keeps k11
    replace kw := Keeps.trans kw k11
    have lt13 := p4.lt
    have sz14 := kw.size
    clear k11
    go_wp2_with fail
    go_ret
    exact ⟨rfl, kw⟩
  have h1 := wa1.vars (by omega)
  refine (szVariableS_any (left := 1048576 - (n0 : Int)) (wa1.keeps kw) (by omega) (by omega)).mono ?_
  rintro e w11 ⟨rfl, k11⟩
  rw [szVs_ok (left := 1048576 - (n0 : Int)) (n := n1) (l := z1) (by omega)]
  have ss12 := k11.size
  replace p0 := p0.keeps k11
  replace p3 := p3.keeps k11
  replace p4 := p4.keeps k11
  replace kw := Keeps.trans kw k11
  have lt13 := p4.lt
  have sz14 := kw.size
  clear k11
  have tz1 : ¬ (1048576 - (n0 : Int) - ((n1 : Int) + vsz z1 n1) < 0) := by omega
  obtain ⟨ca15, fa15⟩ := id p0
  have ca16_0 : w11.cell? ⟨w.heap.size + 1, 0, none⟩ = some (.int .i64 d3a) := (p3.2 0 _ rfl).1
  have fa16_0 : w11.frozen? ⟨w.heap.size + 1, 0, none⟩ = false := (p3.2 0 _ rfl).2
  have ca16_1 : w11.cell? ⟨w.heap.size + 1, 1, none⟩ = some (.int .i64 d3b) := (p3.2 1 _ rfl).1
  have fa16_1 : w11.frozen? ⟨w.heap.size + 1, 1, none⟩ = false := (p3.2 1 _ rfl).2
  have ca16_2 : w11.cell? ⟨w.heap.size + 1, 2, none⟩ = some (.int .i64 d3c) := (p3.2 2 _ rfl).1
  have fa16_2 : w11.frozen? ⟨w.heap.size + 1, 2, none⟩ = false := (p3.2 2 _ rfl).2
  have ca16_3 : w11.cell? ⟨w.heap.size + 1, 3, none⟩ = some (.int .i64 d3d) := (p3.2 3 _ rfl).1
  have fa16_3 : w11.frozen? ⟨w.heap.size + 1, 3, none⟩ = false := (p3.2 3 _ rfl).2
  have ca17_0 : w11.cell? ⟨w.heap.size + 1 + 1, 0, none⟩ = some (.int .i64 d4a) := (p4.2 0 _ rfl).1
  have fa17_0 : w11.frozen? ⟨w.heap.size + 1 + 1, 0, none⟩ = false := (p4.2 0 _ rfl).2
  have ca17_1 : w11.cell? ⟨w.heap.size + 1 + 1, 1, none⟩ = some (.int .i64 d4b) := (p4.2 1 _ rfl).1
  have fa17_1 : w11.frozen? ⟨w.heap.size + 1 + 1, 1, none⟩ = false := (p4.2 1 _ rfl).2
  have ca17_2 : w11.cell? ⟨w.heap.size + 1 + 1, 2, none⟩ = some (.int .i64 d4c) := (p4.2 2 _ rfl).1
  have fa17_2 : w11.frozen? ⟨w.heap.size + 1 + 1, 2, none⟩ = false := (p4.2 2 _ rfl).2
  have ca17_3 : w11.cell? ⟨w.heap.size + 1 + 1, 3, none⟩ = some (.int .i64 d4d) := (p4.2 3 _ rfl).1
  have fa17_3 : w11.frozen? ⟨w.heap.size + 1 + 1, 3, none⟩ = false := (p4.2 3 _ rfl).2
  go_wp2_with fail
  clear ca15 fa15 ca16_0 fa16_0 ca16_1 fa16_1 ca16_2 fa16_2 ca16_3 fa16_3 ca17_0 fa17_0 ca17_1 fa17_1 ca17_2 fa17_2 ca17_3 fa17_3
  by_cases hs2 : ((n2 + rlsz z2 n2 : Nat) : Int) ≤ 1048576 - (n0 : Int) - ((n1 : Int) + vsz z1 n1)
  rotate_left
  · have hm2 := wa2.1
    refine (szReleaseS_any (left := 1048576 - (n0 : Int) - ((n1 : Int) + vsz z1 n1)) (wa2.keeps kw) (by omega) (by omega)).mono ?_
    rintro e w18 ⟨rfl, k18⟩
    rw [szQ_no (left := 1048576 - (n0 : Int) - ((n1 : Int) + vsz z1 n1)) (s := n2 + rlsz z2 n2) hs2]
    have ss19 := k18.size
    replace p0 := p0.keeps k18
    replace p3 := p3.keeps k18
    replace p4 := p4.keeps k18
    replace kw := Keeps.trans kw k18
    have lt20 := p4.lt
    have sz21 := kw.size
    clear k18
    go_wp2_with fail
    go_ret
    exact ⟨rfl, kw⟩
  have h2 := wa2.rels (by omega)
  refine (szReleaseS_any (left := 1048576 - (n0 : Int) - ((n1 : Int) + vsz z1 n1)) (wa2.keeps kw) (by omega) (by omega)).mono ?_
  rintro e w18 ⟨rfl, k18⟩
  rw [szQ_ok (left := 1048576 - (n0 : Int) - ((n1 : Int) + vsz z1 n1)) (s := n2 + rlsz z2 n2) hs2]
  have ss19 := k18.size
  replace p0 := p0.keeps k18
  replace p3 := p3.keeps k18
  replace p4 := p4.keeps k18
  replace kw := Keeps.trans kw k18
  have lt20 := p4.lt
  have sz21 := kw.size
  clear k18
  have tz2 : ¬ (1048576 - (n0 : Int) - ((n1 : Int) + vsz z1 n1) - ((n2 + rlsz z2 n2 : Nat) : Int) < 0) := by omega
  obtain ⟨ca22, fa22⟩ := id p0
  have ca23_0 : w18.cell? ⟨w.heap.size + 1, 0, none⟩ = some (.int .i64 d3a) := (p3.2 0 _ rfl).1
  have fa23_0 : w18.frozen? ⟨w.heap.size + 1, 0, none⟩ = false := (p3.2 0 _ rfl).2
  have ca23_1 : w18.cell? ⟨w.heap.size + 1, 1, none⟩ = some (.int .i64 d3b) := (p3.2 1 _ rfl).1
  have fa23_1 : w18.frozen? ⟨w.heap.size + 1, 1, none⟩ = false := (p3.2 1 _ rfl).2
  have ca23_2 : w18.cell? ⟨w.heap.size + 1, 2, none⟩ = some (.int .i64 d3c) := (p3.2 2 _ rfl).1
  have fa23_2 : w18.frozen? ⟨w.heap.size + 1, 2, none⟩ = false := (p3.2 2 _ rfl).2
  have ca23_3 : w18.cell? ⟨w.heap.size + 1, 3, none⟩ = some (.int .i64 d3d) := (p3.2 3 _ rfl).1
  have fa23_3 : w18.frozen? ⟨w.heap.size + 1, 3, none⟩ = false := (p3.2 3 _ rfl).2
  have ca24_0 : w18.cell? ⟨w.heap.size + 1 + 1, 0, none⟩ = some (.int .i64 d4a) := (p4.2 0 _ rfl).1
  have fa24_0 : w18.frozen? ⟨w.heap.size + 1 + 1, 0, none⟩ = false := (p4.2 0 _ rfl).2
  have ca24_1 : w18.cell? ⟨w.heap.size + 1 + 1, 1, none⟩ = some (.int .i64 d4b) := (p4.2 1 _ rfl).1
  have fa24_1 : w18.frozen? ⟨w.heap.size + 1 + 1, 1, none⟩ = false := (p4.2 1 _ rfl).2
  have ca24_2 : w18.cell? ⟨w.heap.size + 1 + 1, 2, none⟩ = some (.int .i64 d4c) := (p4.2 2 _ rfl).1
  have fa24_2 : w18.frozen? ⟨w.heap.size + 1 + 1, 2, none⟩ = false := (p4.2 2 _ rfl).2
  have ca24_3 : w18.cell? ⟨w.heap.size + 1 + 1, 3, none⟩ = some (.int .i64 d4d) := (p4.2 3 _ rfl).1
  have fa24_3 : w18.frozen? ⟨w.heap.size + 1 + 1, 3, none⟩ = false := (p4.2 3 _ rfl).2
  go_wp2_with fail
  clear ca22 fa22 ca23_0 fa23_0 ca23_1 fa23_1 ca23_2 fa23_2 ca23_3 fa23_3 ca24_0 fa24_0 ca24_1 fa24_1 ca24_2 fa24_2 ca24_3 fa24_3
  obtain ⟨r0, r1, HR⟩ : ∃ r0 r1, Hid (rqQ z0 z1 z2 (d3a, d3b, d3c, d3d) (d4a, d4b, d4c, d4d) = (r0, r1)) := ⟨_, _, rfl⟩
  obtain ⟨ca25, -⟩ := id p0
  have ca26_0 : w18.cell? ⟨w.heap.size + 1, 0, none⟩ = some (.int .i64 d3a) := (p3.2 0 _ rfl).1
  have ca26_1 : w18.cell? ⟨w.heap.size + 1, 1, none⟩ = some (.int .i64 d3b) := (p3.2 1 _ rfl).1
  have ca26_2 : w18.cell? ⟨w.heap.size + 1, 2, none⟩ = some (.int .i64 d3c) := (p3.2 2 _ rfl).1
  have ca26_3 : w18.cell? ⟨w.heap.size + 1, 3, none⟩ = some (.int .i64 d3d) := (p3.2 3 _ rfl).1
  have ca27_0 : w18.cell? ⟨w.heap.size + 1 + 1, 0, none⟩ = some (.int .i64 d4a) := (p4.2 0 _ rfl).1
  have ca27_1 : w18.cell? ⟨w.heap.size + 1 + 1, 1, none⟩ = some (.int .i64 d4b) := (p4.2 1 _ rfl).1
  have ca27_2 : w18.cell? ⟨w.heap.size + 1 + 1, 2, none⟩ = some (.int .i64 d4c) := (p4.2 2 _ rfl).1
  have ca27_3 : w18.cell? ⟨w.heap.size + 1 + 1, 3, none⟩ = some (.int .i64 d4d) := (p4.2 3 _ rfl).1
  have kS := hid (show ∀ w', Keeps w18 w' → (w'.cell? ⟨w.heap.size, 0, none⟩ = some (.slice A0 n0 c0) ∧ w'.cell? ⟨w.heap.size + 1, 0, none⟩ = some (.int .i64 d3a) ∧ w'.cell? ⟨w.heap.size + 1, 1, none⟩ = some (.int .i64 d3b) ∧ w'.cell? ⟨w.heap.size + 1, 2, none⟩ = some (.int .i64 d3c) ∧ w'.cell? ⟨w.heap.size + 1, 3, none⟩ = some (.int .i64 d3d) ∧ w'.cell? ⟨w.heap.size + 1 + 1, 0, none⟩ = some (.int .i64 d4a) ∧ w'.cell? ⟨w.heap.size + 1 + 1, 1, none⟩ = some (.int .i64 d4b) ∧ w'.cell? ⟨w.heap.size + 1 + 1, 2, none⟩ = some (.int .i64 d4c) ∧ w'.cell? ⟨w.heap.size + 1 + 1, 3, none⟩ = some (.int .i64 d4d)) from fun w' k => ⟨cell_keeps ca25 k, cell_keeps ca26_0 k, cell_keeps ca26_1 k, cell_keeps ca26_2 k, cell_keeps ca26_3 k, cell_keeps ca27_0 k, cell_keeps ca27_1 k, cell_keeps ca27_2 k, cell_keeps ca27_3 k⟩)
  have kW := keeps_d0 w18
  have hW0 := (h0.keeps kw)
  have hW1 := (h1.keeps kw)
  have hW2 := (h2.keeps kw)
  go_region_held3 (fun w' => w'.cell? ⟨w.heap.size, 0, none⟩ = some (.slice A0 n0 c0) ∧ w'.cell? ⟨w.heap.size + 1, 0, none⟩ = some (.int .i64 d3a) ∧ w'.cell? ⟨w.heap.size + 1, 1, none⟩ = some (.int .i64 d3b) ∧ w'.cell? ⟨w.heap.size + 1, 2, none⟩ = some (.int .i64 d3c) ∧ w'.cell? ⟨w.heap.size + 1, 3, none⟩ = some (.int .i64 d3d) ∧ w'.cell? ⟨w.heap.size + 1 + 1, 0, none⟩ = some (.int .i64 d4a) ∧ w'.cell? ⟨w.heap.size + 1 + 1, 1, none⟩ = some (.int .i64 d4b) ∧ w'.cell? ⟨w.heap.size + 1 + 1, 2, none⟩ = some (.int .i64 d4c) ∧ w'.cell? ⟨w.heap.size + 1 + 1, 3, none⟩ = some (.int .i64 d4d)) (first | with_reducible exact kS.out _ (keeps_d0 _) | with_reducible exact kS.out _ kW | go_keep)
    ((first | (go_at_call 17; refine (toGeo_any (hW0.keeps kW)).mono ?_; rintro e wB ⟨By0, rfl, y9, kB⟩; (first | (have y0 := y0.keeps kB) | skip); (first | (have y1 := y1.keeps kB) | skip); (first | (have y2 := y2.keeps kB) | skip); have y0 := y9; clear y9; replace kW : Keeps w18 wB := kW.trans kB; clear kB) | (go_at_call 18; refine (toVariableS_any (hW1.keeps kW)).mono ?_; rintro e wB ⟨By1, rfl, y9, kB⟩; (first | (have y0 := y0.keeps kB) | skip); (first | (have y1 := y1.keeps kB) | skip); (first | (have y2 := y2.keeps kB) | skip); have y1 := y9; clear y9; replace kW : Keeps w18 wB := kW.trans kB; clear kB) | (go_at_call 26; refine (toReleaseS_any (hW2.keeps kW)).mono ?_; rintro e wB ⟨By2, rfl, y9, kB⟩; (first | (have y0 := y0.keeps kB) | skip); (first | (have y1 := y1.keeps kB) | skip); (first | (have y2 := y2.keeps kB) | skip); have y2 := y9; clear y9; replace kW : Keeps w18 wB := kW.trans kB; clear kB) | (go_at_call 52; refine toLoss_any.mono ?_; rintro e wB ⟨rfl, kB⟩; (first | (have y0 := y0.keeps kB) | skip); (first | (have y1 := y1.keeps kB) | skip); (first | (have y2 := y2.keeps kB) | skip); replace kW : Keeps w18 wB := kW.trans kB; clear kB) | (go_at_call 59; refine (specReleasesLeft_any y0.1 y1.1 HNK.out y2).mono ?_; rintro e wB ⟨rfl, kB⟩; rw [HR.out]; have sW := kW.size; have sB := kB.size; replace kW : Keeps w18 wB := kW.trans kB; clear kB)))
  clear kS hW0 hW1 hW2
  clear ca25 ca26_0 ca26_1 ca26_2 ca26_3 ca27_0 ca27_1 ca27_2 ca27_3
  clear y0 y1 y2
  have ss28 := kW.size
  replace p0 := p0.keeps kW
  replace p3 := p3.keeps kW
  replace p4 := p4.keeps kW
  replace kw := Keeps.trans kw kW
  have lt29 := p4.lt
  have sz30 := kw.size
  clear kW
  obtain ⟨wy30, rfl⟩ : ∃ u : World, u = wB := ⟨_, rfl⟩
  obtain ⟨ca31, fa31⟩ := id p0
  have ca32_0 : wy30.cell? ⟨w.heap.size + 1, 0, none⟩ = some (.int .i64 d3a) := (p3.2 0 _ rfl).1
  have fa32_0 : wy30.frozen? ⟨w.heap.size + 1, 0, none⟩ = false := (p3.2 0 _ rfl).2
  have ca32_1 : wy30.cell? ⟨w.heap.size + 1, 1, none⟩ = some (.int .i64 d3b) := (p3.2 1 _ rfl).1
  have fa32_1 : wy30.frozen? ⟨w.heap.size + 1, 1, none⟩ = false := (p3.2 1 _ rfl).2
  have ca32_2 : wy30.cell? ⟨w.heap.size + 1, 2, none⟩ = some (.int .i64 d3c) := (p3.2 2 _ rfl).1
  have fa32_2 : wy30.frozen? ⟨w.heap.size + 1, 2, none⟩ = false := (p3.2 2 _ rfl).2
  have ca32_3 : wy30.cell? ⟨w.heap.size + 1, 3, none⟩ = some (.int .i64 d3d) := (p3.2 3 _ rfl).1
  have fa32_3 : wy30.frozen? ⟨w.heap.size + 1, 3, none⟩ = false := (p3.2 3 _ rfl).2
  have ca33_0 : wy30.cell? ⟨w.heap.size + 1 + 1, 0, none⟩ = some (.int .i64 d4a) := (p4.2 0 _ rfl).1
  have fa33_0 : wy30.frozen? ⟨w.heap.size + 1 + 1, 0, none⟩ = false := (p4.2 0 _ rfl).2
  have ca33_1 : wy30.cell? ⟨w.heap.size + 1 + 1, 1, none⟩ = some (.int .i64 d4b) := (p4.2 1 _ rfl).1
  have fa33_1 : wy30.frozen? ⟨w.heap.size + 1 + 1, 1, none⟩ = false := (p4.2 1 _ rfl).2
  have ca33_2 : wy30.cell? ⟨w.heap.size + 1 + 1, 2, none⟩ = some (.int .i64 d4c) := (p4.2 2 _ rfl).1
  have fa33_2 : wy30.frozen? ⟨w.heap.size + 1 + 1, 2, none⟩ = false := (p4.2 2 _ rfl).2
  have ca33_3 : wy30.cell? ⟨w.heap.size + 1 + 1, 3, none⟩ = some (.int .i64 d4d) := (p4.2 3 _ rfl).1
  have fa33_3 : wy30.frozen? ⟨w.heap.size + 1 + 1, 3, none⟩ = false := (p4.2 3 _ rfl).2
  go_wp2_with fail
  clear ca31 fa31 ca32_0 fa32_0 ca32_1 fa32_1 ca32_2 fa32_2 ca32_3 fa32_3 ca33_0 fa33_0 ca33_1 fa33_1 ca33_2 fa33_2 ca33_3 fa33_3
  refine (toGeo_any (h0.keeps kw)).mono ?_
  rintro e w34 ⟨Bx0, rfl, x0, k34⟩
  have ss35 := k34.size
  replace p0 := p0.keeps k34
  replace p3 := p3.keeps k34
  replace p4 := p4.keeps k34
  replace kw := Keeps.trans kw k34
  have lt36 := p4.lt
  have sz37 := kw.size
  clear k34
  replace p0 := p0.keeps (keeps_alloc w34 (.cells #[.slice Bx0 n0 n0] 38))
  replace p3 := p3.keeps (keeps_alloc w34 (.cells #[.slice Bx0 n0 n0] 38))
  replace p4 := p4.keeps (keeps_alloc w34 (.cells #[.slice Bx0 n0 n0] 38))
  replace x0 := x0.keeps (keeps_alloc w34 (.cells #[.slice Bx0 n0 n0] 38))
  replace kw := Keeps.trans kw (keeps_alloc w34 (.cells #[.slice Bx0 n0 n0] 38))
  have bx0 : B1 (w34.alloc (.cells #[.slice Bx0 n0 n0] 38)) w34.heap.size (.slice Bx0 n0 n0) := B1.new' (by simp)
  obtain ⟨ca38, fa38⟩ := id p0
  have ca39_0 : (w34.alloc (.cells #[.slice Bx0 n0 n0] 38)).cell? ⟨w.heap.size + 1, 0, none⟩ = some (.int .i64 d3a) := (p3.2 0 _ rfl).1
  have fa39_0 : (w34.alloc (.cells #[.slice Bx0 n0 n0] 38)).frozen? ⟨w.heap.size + 1, 0, none⟩ = false := (p3.2 0 _ rfl).2
  have ca39_1 : (w34.alloc (.cells #[.slice Bx0 n0 n0] 38)).cell? ⟨w.heap.size + 1, 1, none⟩ = some (.int .i64 d3b) := (p3.2 1 _ rfl).1
  have fa39_1 : (w34.alloc (.cells #[.slice Bx0 n0 n0] 38)).frozen? ⟨w.heap.size + 1, 1, none⟩ = false := (p3.2 1 _ rfl).2
  have ca39_2 : (w34.alloc (.cells #[.slice Bx0 n0 n0] 38)).cell? ⟨w.heap.size + 1, 2, none⟩ = some (.int .i64 d3c) := (p3.2 2 _ rfl).1
  have fa39_2 : (w34.alloc (.cells #[.slice Bx0 n0 n0] 38)).frozen? ⟨w.heap.size + 1, 2, none⟩ = false := (p3.2 2 _ rfl).2
  have ca39_3 : (w34.alloc (.cells #[.slice Bx0 n0 n0] 38)).cell? ⟨w.heap.size + 1, 3, none⟩ = some (.int .i64 d3d) := (p3.2 3 _ rfl).1
  have fa39_3 : (w34.alloc (.cells #[.slice Bx0 n0 n0] 38)).frozen? ⟨w.heap.size + 1, 3, none⟩ = false := (p3.2 3 _ rfl).2
  have ca40_0 : (w34.alloc (.cells #[.slice Bx0 n0 n0] 38)).cell? ⟨w.heap.size + 1 + 1, 0, none⟩ = some (.int .i64 d4a) := (p4.2 0 _ rfl).1
  have fa40_0 : (w34.alloc (.cells #[.slice Bx0 n0 n0] 38)).frozen? ⟨w.heap.size + 1 + 1, 0, none⟩ = false := (p4.2 0 _ rfl).2
  have ca40_1 : (w34.alloc (.cells #[.slice Bx0 n0 n0] 38)).cell? ⟨w.heap.size + 1 + 1, 1, none⟩ = some (.int .i64 d4b) := (p4.2 1 _ rfl).1
  have fa40_1 : (w34.alloc (.cells #[.slice Bx0 n0 n0] 38)).frozen? ⟨w.heap.size + 1 + 1, 1, none⟩ = false := (p4.2 1 _ rfl).2
  have ca40_2 : (w34.alloc (.cells #[.slice Bx0 n0 n0] 38)).cell? ⟨w.heap.size + 1 + 1, 2, none⟩ = some (.int .i64 d4c) := (p4.2 2 _ rfl).1
  have fa40_2 : (w34.alloc (.cells #[.slice Bx0 n0 n0] 38)).frozen? ⟨w.heap.size + 1 + 1, 2, none⟩ = false := (p4.2 2 _ rfl).2
  have ca40_3 : (w34.alloc (.cells #[.slice Bx0 n0 n0] 38)).cell? ⟨w.heap.size + 1 + 1, 3, none⟩ = some (.int .i64 d4d) := (p4.2 3 _ rfl).1
  have fa40_3 : (w34.alloc (.cells #[.slice Bx0 n0 n0] 38)).frozen? ⟨w.heap.size + 1 + 1, 3, none⟩ = false := (p4.2 3 _ rfl).2
  obtain ⟨ca41, fa41⟩ := id bx0
  go_wp2_with fail
  clear ca38 fa38 ca39_0 fa39_0 ca39_1 fa39_1 ca39_2 fa39_2 ca39_3 fa39_3 ca40_0 fa40_0 ca40_1 fa40_1 ca40_2 fa40_2 ca40_3 fa40_3 ca41 fa41
  refine (toVariableS_any (h1.keeps kw)).mono ?_
  rintro e w42 ⟨Bx1, rfl, x1, k42⟩
  have ss43 := k42.size
  simp at ss43
  replace p0 := p0.keeps k42
  replace p3 := p3.keeps k42
  replace p4 := p4.keeps k42
  replace bx0 := bx0.keeps k42
  replace x0 := x0.keeps k42
  replace kw := Keeps.trans kw k42
  have lt44 := bx0.lt
  have sz45 := kw.size
  clear k42
  replace x1 := x1.widen (lo' := w34.heap.size + 1) (by simp) (Nat.le_refl _) (Nat.le_refl _)
  obtain ⟨ca46, fa46⟩ := id p0
  have ca47_0 : w42.cell? ⟨w.heap.size + 1, 0, none⟩ = some (.int .i64 d3a) := (p3.2 0 _ rfl).1
  have fa47_0 : w42.frozen? ⟨w.heap.size + 1, 0, none⟩ = false := (p3.2 0 _ rfl).2
  have ca47_1 : w42.cell? ⟨w.heap.size + 1, 1, none⟩ = some (.int .i64 d3b) := (p3.2 1 _ rfl).1
  have fa47_1 : w42.frozen? ⟨w.heap.size + 1, 1, none⟩ = false := (p3.2 1 _ rfl).2
  have ca47_2 : w42.cell? ⟨w.heap.size + 1, 2, none⟩ = some (.int .i64 d3c) := (p3.2 2 _ rfl).1
  have fa47_2 : w42.frozen? ⟨w.heap.size + 1, 2, none⟩ = false := (p3.2 2 _ rfl).2
  have ca47_3 : w42.cell? ⟨w.heap.size + 1, 3, none⟩ = some (.int .i64 d3d) := (p3.2 3 _ rfl).1
  have fa47_3 : w42.frozen? ⟨w.heap.size + 1, 3, none⟩ = false := (p3.2 3 _ rfl).2
  have ca48_0 : w42.cell? ⟨w.heap.size + 1 + 1, 0, none⟩ = some (.int .i64 d4a) := (p4.2 0 _ rfl).1
  have fa48_0 : w42.frozen? ⟨w.heap.size + 1 + 1, 0, none⟩ = false := (p4.2 0 _ rfl).2
  have ca48_1 : w42.cell? ⟨w.heap.size + 1 + 1, 1, none⟩ = some (.int .i64 d4b) := (p4.2 1 _ rfl).1
  have fa48_1 : w42.frozen? ⟨w.heap.size + 1 + 1, 1, none⟩ = false := (p4.2 1 _ rfl).2
  have ca48_2 : w42.cell? ⟨w.heap.size + 1 + 1, 2, none⟩ = some (.int .i64 d4c) := (p4.2 2 _ rfl).1
  have fa48_2 : w42.frozen? ⟨w.heap.size + 1 + 1, 2, none⟩ = false := (p4.2 2 _ rfl).2
  have ca48_3 : w42.cell? ⟨w.heap.size + 1 + 1, 3, none⟩ = some (.int .i64 d4d) := (p4.2 3 _ rfl).1
  have fa48_3 : w42.frozen? ⟨w.heap.size + 1 + 1, 3, none⟩ = false := (p4.2 3 _ rfl).2
  obtain ⟨ca49, fa49⟩ := id bx0
  go_wp2_with fail
  clear ca46 fa46 ca47_0 fa47_0 ca47_1 fa47_1 ca47_2 fa47_2 ca47_3 fa47_3 ca48_0 fa48_0 ca48_1 fa48_1 ca48_2 fa48_2 ca48_3 fa48_3 ca49 fa49
  refine (toReleaseS_any (h2.keeps kw)).mono ?_
  rintro e w50 ⟨Bx2, rfl, x2, k50⟩
  have ss51 := k50.size
  replace p0 := p0.keeps k50
  replace p3 := p3.keeps k50
  replace p4 := p4.keeps k50
  replace bx0 := bx0.keeps k50
  replace x0 := x0.keeps k50
  replace x1 := x1.keeps k50
  replace kw := Keeps.trans kw k50
  have lt52 := bx0.lt
  have sz53 := kw.size
  clear k50
  obtain ⟨ca54, fa54⟩ := id p0
  have ca55_0 : w50.cell? ⟨w.heap.size + 1, 0, none⟩ = some (.int .i64 d3a) := (p3.2 0 _ rfl).1
  have fa55_0 : w50.frozen? ⟨w.heap.size + 1, 0, none⟩ = false := (p3.2 0 _ rfl).2
  have ca55_1 : w50.cell? ⟨w.heap.size + 1, 1, none⟩ = some (.int .i64 d3b) := (p3.2 1 _ rfl).1
  have fa55_1 : w50.frozen? ⟨w.heap.size + 1, 1, none⟩ = false := (p3.2 1 _ rfl).2
  have ca55_2 : w50.cell? ⟨w.heap.size + 1, 2, none⟩ = some (.int .i64 d3c) := (p3.2 2 _ rfl).1
  have fa55_2 : w50.frozen? ⟨w.heap.size + 1, 2, none⟩ = false := (p3.2 2 _ rfl).2
  have ca55_3 : w50.cell? ⟨w.heap.size + 1, 3, none⟩ = some (.int .i64 d3d) := (p3.2 3 _ rfl).1
  have fa55_3 : w50.frozen? ⟨w.heap.size + 1, 3, none⟩ = false := (p3.2 3 _ rfl).2
  have ca56_0 : w50.cell? ⟨w.heap.size + 1 + 1, 0, none⟩ = some (.int .i64 d4a) := (p4.2 0 _ rfl).1
  have fa56_0 : w50.frozen? ⟨w.heap.size + 1 + 1, 0, none⟩ = false := (p4.2 0 _ rfl).2
  have ca56_1 : w50.cell? ⟨w.heap.size + 1 + 1, 1, none⟩ = some (.int .i64 d4b) := (p4.2 1 _ rfl).1
  have fa56_1 : w50.frozen? ⟨w.heap.size + 1 + 1, 1, none⟩ = false := (p4.2 1 _ rfl).2
  have ca56_2 : w50.cell? ⟨w.heap.size + 1 + 1, 2, none⟩ = some (.int .i64 d4c) := (p4.2 2 _ rfl).1
  have fa56_2 : w50.frozen? ⟨w.heap.size + 1 + 1, 2, none⟩ = false := (p4.2 2 _ rfl).2
  have ca56_3 : w50.cell? ⟨w.heap.size + 1 + 1, 3, none⟩ = some (.int .i64 d4d) := (p4.2 3 _ rfl).1
  have fa56_3 : w50.frozen? ⟨w.heap.size + 1 + 1, 3, none⟩ = false := (p4.2 3 _ rfl).2
  obtain ⟨ca57, fa57⟩ := id bx0
  go_wp2_with fail
  clear ca54 fa54 ca55_0 fa55_0 ca55_1 fa55_1 ca55_2 fa55_2 ca55_3 fa55_3 ca56_0 fa56_0 ca56_1 fa56_1 ca56_2 fa56_2 ca56_3 fa56_3 ca57 fa57
  have ca58_0 : w50.cell? ⟨w.heap.size + 1, 0, none⟩ = some (.int .i64 d3a) := (p3.2 0 _ rfl).1
  have ca58_1 : w50.cell? ⟨w.heap.size + 1, 1, none⟩ = some (.int .i64 d3b) := (p3.2 1 _ rfl).1
  have ca58_2 : w50.cell? ⟨w.heap.size + 1, 2, none⟩ = some (.int .i64 d3c) := (p3.2 2 _ rfl).1
  have ca58_3 : w50.cell? ⟨w.heap.size + 1, 3, none⟩ = some (.int .i64 d3d) := (p3.2 3 _ rfl).1
  have ca59_0 : w50.cell? ⟨w.heap.size + 1 + 1, 0, none⟩ = some (.int .i64 d4a) := (p4.2 0 _ rfl).1
  have ca59_1 : w50.cell? ⟨w.heap.size + 1 + 1, 1, none⟩ = some (.int .i64 d4b) := (p4.2 1 _ rfl).1
  have ca59_2 : w50.cell? ⟨w.heap.size + 1 + 1, 2, none⟩ = some (.int .i64 d4c) := (p4.2 2 _ rfl).1
  have ca59_3 : w50.cell? ⟨w.heap.size + 1 + 1, 3, none⟩ = some (.int .i64 d4d) := (p4.2 3 _ rfl).1
  obtain ⟨ca60, -⟩ := id bx0
  have kS := hid (show ∀ w', Keeps w50 w' → (w'.cell? ⟨w.heap.size + 1, 0, none⟩ = some (.int .i64 d3a) ∧ w'.cell? ⟨w.heap.size + 1, 1, none⟩ = some (.int .i64 d3b) ∧ w'.cell? ⟨w.heap.size + 1, 2, none⟩ = some (.int .i64 d3c) ∧ w'.cell? ⟨w.heap.size + 1, 3, none⟩ = some (.int .i64 d3d) ∧ w'.cell? ⟨w.heap.size + 1 + 1, 0, none⟩ = some (.int .i64 d4a) ∧ w'.cell? ⟨w.heap.size + 1 + 1, 1, none⟩ = some (.int .i64 d4b) ∧ w'.cell? ⟨w.heap.size + 1 + 1, 2, none⟩ = some (.int .i64 d4c) ∧ w'.cell? ⟨w.heap.size + 1 + 1, 3, none⟩ = some (.int .i64 d4d) ∧ w'.cell? ⟨w34.heap.size, 0, none⟩ = some (.slice Bx0 n0 n0)) from fun w' k => ⟨cell_keeps ca58_0 k, cell_keeps ca58_1 k, cell_keeps ca58_2 k, cell_keeps ca58_3 k, cell_keeps ca59_0 k, cell_keeps ca59_1 k, cell_keeps ca59_2 k, cell_keeps ca59_3 k, cell_keeps ca60 k⟩)
  have kW := keeps_d0 w50
  have hW0 := x0
  have hW1 := x1
  have hW2 := x2
  go_region_held3 (fun w' => w'.cell? ⟨w.heap.size + 1, 0, none⟩ = some (.int .i64 d3a) ∧ w'.cell? ⟨w.heap.size + 1, 1, none⟩ = some (.int .i64 d3b) ∧ w'.cell? ⟨w.heap.size + 1, 2, none⟩ = some (.int .i64 d3c) ∧ w'.cell? ⟨w.heap.size + 1, 3, none⟩ = some (.int .i64 d3d) ∧ w'.cell? ⟨w.heap.size + 1 + 1, 0, none⟩ = some (.int .i64 d4a) ∧ w'.cell? ⟨w.heap.size + 1 + 1, 1, none⟩ = some (.int .i64 d4b) ∧ w'.cell? ⟨w.heap.size + 1 + 1, 2, none⟩ = some (.int .i64 d4c) ∧ w'.cell? ⟨w.heap.size + 1 + 1, 3, none⟩ = some (.int .i64 d4d) ∧ w'.cell? ⟨w34.heap.size, 0, none⟩ = some (.slice Bx0 n0 n0)) (first | with_reducible exact kS.out _ (keeps_d0 _) | with_reducible exact kS.out _ kW | go_keep)
    ((first | (go_at_call 52; refine toLoss_any.mono ?_; rintro e wB ⟨rfl, kB⟩; replace kW : Keeps w50 wB := kW.trans kB; clear kB) | (go_at_call 60; refine (implReleasesLeft_any (hW0.1.keeps kW) (hW1.1.keeps kW) HNK.out (hW2.keeps kW)).mono ?_; rintro e wB ⟨rfl, kB⟩; rw [HR.out]; have sW := kW.size; have sB := kB.size; replace kW : Keeps w50 wB := kW.trans kB; clear kB)))
  clear kS hW0 hW1 hW2
  clear ca58_0 ca58_1 ca58_2 ca58_3 ca59_0 ca59_1 ca59_2 ca59_3 ca60
  have ss61 := kW.size
  replace p0 := p0.keeps kW
  replace p3 := p3.keeps kW
  replace p4 := p4.keeps kW
  replace bx0 := bx0.keeps kW
  replace x0 := x0.keeps kW
  replace x1 := x1.keeps kW
  replace x2 := x2.keeps kW
  replace kw := Keeps.trans kw kW
  have lt62 := bx0.lt
  have sz63 := kw.size
  clear kW
  obtain ⟨wy63, rfl⟩ : ∃ u : World, u = wB := ⟨_, rfl⟩
  obtain ⟨ca64, fa64⟩ := id p0
  have ca65_0 : wy63.cell? ⟨w.heap.size + 1, 0, none⟩ = some (.int .i64 d3a) := (p3.2 0 _ rfl).1
  have fa65_0 : wy63.frozen? ⟨w.heap.size + 1, 0, none⟩ = false := (p3.2 0 _ rfl).2
  have ca65_1 : wy63.cell? ⟨w.heap.size + 1, 1, none⟩ = some (.int .i64 d3b) := (p3.2 1 _ rfl).1
  have fa65_1 : wy63.frozen? ⟨w.heap.size + 1, 1, none⟩ = false := (p3.2 1 _ rfl).2
  have ca65_2 : wy63.cell? ⟨w.heap.size + 1, 2, none⟩ = some (.int .i64 d3c) := (p3.2 2 _ rfl).1
  have fa65_2 : wy63.frozen? ⟨w.heap.size + 1, 2, none⟩ = false := (p3.2 2 _ rfl).2
  have ca65_3 : wy63.cell? ⟨w.heap.size + 1, 3, none⟩ = some (.int .i64 d3d) := (p3.2 3 _ rfl).1
  have fa65_3 : wy63.frozen? ⟨w.heap.size + 1, 3, none⟩ = false := (p3.2 3 _ rfl).2
  have ca66_0 : wy63.cell? ⟨w.heap.size + 1 + 1, 0, none⟩ = some (.int .i64 d4a) := (p4.2 0 _ rfl).1
  have fa66_0 : wy63.frozen? ⟨w.heap.size + 1 + 1, 0, none⟩ = false := (p4.2 0 _ rfl).2
  have ca66_1 : wy63.cell? ⟨w.heap.size + 1 + 1, 1, none⟩ = some (.int .i64 d4b) := (p4.2 1 _ rfl).1
  have fa66_1 : wy63.frozen? ⟨w.heap.size + 1 + 1, 1, none⟩ = false := (p4.2 1 _ rfl).2
  have ca66_2 : wy63.cell? ⟨w.heap.size + 1 + 1, 2, none⟩ = some (.int .i64 d4c) := (p4.2 2 _ rfl).1
  have fa66_2 : wy63.frozen? ⟨w.heap.size + 1 + 1, 2, none⟩ = false := (p4.2 2 _ rfl).2
  have ca66_3 : wy63.cell? ⟨w.heap.size + 1 + 1, 3, none⟩ = some (.int .i64 d4d) := (p4.2 3 _ rfl).1
  have fa66_3 : wy63.frozen? ⟨w.heap.size + 1 + 1, 3, none⟩ = false := (p4.2 3 _ rfl).2
  obtain ⟨ca67, fa67⟩ := id bx0
  go_wp2_with fail
  clear ca64 fa64 ca65_0 fa65_0 ca65_1 fa65_1 ca65_2 fa65_2 ca65_3 fa65_3 ca66_0 fa66_0 ca66_1 fa66_1 ca66_2 fa66_2 ca66_3 fa66_3 ca67 fa67
  have e0 : (r0 != r0) = false := by simp
  have e1 : (r1 != r1) = false := by simp
  obtain ⟨ca68, -⟩ := id bx0
  obtain ⟨ca69, -⟩ := id p0
  have kS := hid (show ∀ w', Keeps wy63 w' → (w'.cell? ⟨w34.heap.size, 0, none⟩ = some (.slice Bx0 n0 n0) ∧ w'.cell? ⟨w.heap.size, 0, none⟩ = some (.slice A0 n0 c0)) from fun w' k => ⟨cell_keeps ca68 k, cell_keeps ca69 k⟩)
  go_region_held3 (fun w' => w'.cell? ⟨w34.heap.size, 0, none⟩ = some (.slice Bx0 n0 n0) ∧ w'.cell? ⟨w.heap.size, 0, none⟩ = some (.slice A0 n0 c0)) (first | exact kS.out _ (keeps_d0 wy63) | exact kS.out _ kW | go_keep)
    ((first | (go_at_call 17; refine (toGeo_any (h0.keeps (Keeps.trans kw (keeps_d0 wy63)))).mono ?_; rintro e wB70 ⟨Bt70, rfl, t0, kB⟩; have kW : Keeps wy63 wB70 := keeps_d kB; clear kB) | (go_at_call 21; refine (eqGeo_true (x0.1.keeps kW) t0.1).mono ?_; rintro e wC70 ⟨rfl, kC⟩; replace kW : Keeps wy63 wC70 := kW.trans kC; clear kC)))
  clear kS t0
  clear ca68 ca69
  have ss71 := kW.size
  replace p0 := p0.keeps kW
  replace p3 := p3.keeps kW
  replace p4 := p4.keeps kW
  replace bx0 := bx0.keeps kW
  replace x0 := x0.keeps kW
  replace x1 := x1.keeps kW
  replace x2 := x2.keeps kW
  replace kw := Keeps.trans kw kW
  have lt72 := bx0.lt
  have sz73 := kw.size
  clear kW
  obtain ⟨ca74, fa74⟩ := id p0
  have ca75_0 : wC70.cell? ⟨w.heap.size + 1, 0, none⟩ = some (.int .i64 d3a) := (p3.2 0 _ rfl).1
  have fa75_0 : wC70.frozen? ⟨w.heap.size + 1, 0, none⟩ = false := (p3.2 0 _ rfl).2
  have ca75_1 : wC70.cell? ⟨w.heap.size + 1, 1, none⟩ = some (.int .i64 d3b) := (p3.2 1 _ rfl).1
  have fa75_1 : wC70.frozen? ⟨w.heap.size + 1, 1, none⟩ = false := (p3.2 1 _ rfl).2
  have ca75_2 : wC70.cell? ⟨w.heap.size + 1, 2, none⟩ = some (.int .i64 d3c) := (p3.2 2 _ rfl).1
  have fa75_2 : wC70.frozen? ⟨w.heap.size + 1, 2, none⟩ = false := (p3.2 2 _ rfl).2
  have ca75_3 : wC70.cell? ⟨w.heap.size + 1, 3, none⟩ = some (.int .i64 d3d) := (p3.2 3 _ rfl).1
  have fa75_3 : wC70.frozen? ⟨w.heap.size + 1, 3, none⟩ = false := (p3.2 3 _ rfl).2
  have ca76_0 : wC70.cell? ⟨w.heap.size + 1 + 1, 0, none⟩ = some (.int .i64 d4a) := (p4.2 0 _ rfl).1
  have fa76_0 : wC70.frozen? ⟨w.heap.size + 1 + 1, 0, none⟩ = false := (p4.2 0 _ rfl).2
  have ca76_1 : wC70.cell? ⟨w.heap.size + 1 + 1, 1, none⟩ = some (.int .i64 d4b) := (p4.2 1 _ rfl).1
  have fa76_1 : wC70.frozen? ⟨w.heap.size + 1 + 1, 1, none⟩ = false := (p4.2 1 _ rfl).2
  have ca76_2 : wC70.cell? ⟨w.heap.size + 1 + 1, 2, none⟩ = some (.int .i64 d4c) := (p4.2 2 _ rfl).1
  have fa76_2 : wC70.frozen? ⟨w.heap.size + 1 + 1, 2, none⟩ = false := (p4.2 2 _ rfl).2
  have ca76_3 : wC70.cell? ⟨w.heap.size + 1 + 1, 3, none⟩ = some (.int .i64 d4d) := (p4.2 3 _ rfl).1
  have fa76_3 : wC70.frozen? ⟨w.heap.size + 1 + 1, 3, none⟩ = false := (p4.2 3 _ rfl).2
  obtain ⟨ca77, fa77⟩ := id bx0
  go_wp2_with fail
  clear ca74 fa74 ca75_0 fa75_0 ca75_1 fa75_1 ca75_2 fa75_2 ca75_3 fa75_3 ca76_0 fa76_0 ca76_1 fa76_1 ca76_2 fa76_2 ca76_3 fa76_3 ca77 fa77
  refine (toVariableS_any (h1.keeps kw)).mono ?_
  rintro e w78 ⟨Bt1, rfl, t1, k78⟩
  have ss79 := k78.size
  replace p0 := p0.keeps k78
  replace p3 := p3.keeps k78
  replace p4 := p4.keeps k78
  replace bx0 := bx0.keeps k78
  replace x0 := x0.keeps k78
  replace x1 := x1.keeps k78
  replace x2 := x2.keeps k78
  replace kw := Keeps.trans kw k78
  have lt80 := bx0.lt
  have sz81 := kw.size
  clear k78
  obtain ⟨ca82, fa82⟩ := id p0
  have ca83_0 : w78.cell? ⟨w.heap.size + 1, 0, none⟩ = some (.int .i64 d3a) := (p3.2 0 _ rfl).1
  have fa83_0 : w78.frozen? ⟨w.heap.size + 1, 0, none⟩ = false := (p3.2 0 _ rfl).2
  have ca83_1 : w78.cell? ⟨w.heap.size + 1, 1, none⟩ = some (.int .i64 d3b) := (p3.2 1 _ rfl).1
  have fa83_1 : w78.frozen? ⟨w.heap.size + 1, 1, none⟩ = false := (p3.2 1 _ rfl).2
  have ca83_2 : w78.cell? ⟨w.heap.size + 1, 2, none⟩ = some (.int .i64 d3c) := (p3.2 2 _ rfl).1
  have fa83_2 : w78.frozen? ⟨w.heap.size + 1, 2, none⟩ = false := (p3.2 2 _ rfl).2
  have ca83_3 : w78.cell? ⟨w.heap.size + 1, 3, none⟩ = some (.int .i64 d3d) := (p3.2 3 _ rfl).1
  have fa83_3 : w78.frozen? ⟨w.heap.size + 1, 3, none⟩ = false := (p3.2 3 _ rfl).2
  have ca84_0 : w78.cell? ⟨w.heap.size + 1 + 1, 0, none⟩ = some (.int .i64 d4a) := (p4.2 0 _ rfl).1
  have fa84_0 : w78.frozen? ⟨w.heap.size + 1 + 1, 0, none⟩ = false := (p4.2 0 _ rfl).2
  have ca84_1 : w78.cell? ⟨w.heap.size + 1 + 1, 1, none⟩ = some (.int .i64 d4b) := (p4.2 1 _ rfl).1
  have fa84_1 : w78.frozen? ⟨w.heap.size + 1 + 1, 1, none⟩ = false := (p4.2 1 _ rfl).2
  have ca84_2 : w78.cell? ⟨w.heap.size + 1 + 1, 2, none⟩ = some (.int .i64 d4c) := (p4.2 2 _ rfl).1
  have fa84_2 : w78.frozen? ⟨w.heap.size + 1 + 1, 2, none⟩ = false := (p4.2 2 _ rfl).2
  have ca84_3 : w78.cell? ⟨w.heap.size + 1 + 1, 3, none⟩ = some (.int .i64 d4d) := (p4.2 3 _ rfl).1
  have fa84_3 : w78.frozen? ⟨w.heap.size + 1 + 1, 3, none⟩ = false := (p4.2 3 _ rfl).2
  obtain ⟨ca85, fa85⟩ := id bx0
  go_wp2_with fail
  clear ca82 fa82 ca83_0 fa83_0 ca83_1 fa83_1 ca83_2 fa83_2 ca83_3 fa83_3 ca84_0 fa84_0 ca84_1 fa84_1 ca84_2 fa84_2 ca84_3 fa84_3 ca85 fa85
  refine (eqVariableS_true x1.1 t1.1).mono ?_
  rintro e w86 ⟨rfl, k86⟩
  have ss87 := k86.size
  replace p0 := p0.keeps k86
  replace p3 := p3.keeps k86
  replace p4 := p4.keeps k86
  replace bx0 := bx0.keeps k86
  replace x0 := x0.keeps k86
  replace x1 := x1.keeps k86
  replace x2 := x2.keeps k86
  replace t1 := t1.keeps k86
  replace kw := Keeps.trans kw k86
  have lt88 := bx0.lt
  have sz89 := kw.size
  clear k86
  clear t1
  obtain ⟨ca90, fa90⟩ := id p0
  have ca91_0 : w86.cell? ⟨w.heap.size + 1, 0, none⟩ = some (.int .i64 d3a) := (p3.2 0 _ rfl).1
  have fa91_0 : w86.frozen? ⟨w.heap.size + 1, 0, none⟩ = false := (p3.2 0 _ rfl).2
  have ca91_1 : w86.cell? ⟨w.heap.size + 1, 1, none⟩ = some (.int .i64 d3b) := (p3.2 1 _ rfl).1
  have fa91_1 : w86.frozen? ⟨w.heap.size + 1, 1, none⟩ = false := (p3.2 1 _ rfl).2
  have ca91_2 : w86.cell? ⟨w.heap.size + 1, 2, none⟩ = some (.int .i64 d3c) := (p3.2 2 _ rfl).1
  have fa91_2 : w86.frozen? ⟨w.heap.size + 1, 2, none⟩ = false := (p3.2 2 _ rfl).2
  have ca91_3 : w86.cell? ⟨w.heap.size + 1, 3, none⟩ = some (.int .i64 d3d) := (p3.2 3 _ rfl).1
  have fa91_3 : w86.frozen? ⟨w.heap.size + 1, 3, none⟩ = false := (p3.2 3 _ rfl).2
  have ca92_0 : w86.cell? ⟨w.heap.size + 1 + 1, 0, none⟩ = some (.int .i64 d4a) := (p4.2 0 _ rfl).1
  have fa92_0 : w86.frozen? ⟨w.heap.size + 1 + 1, 0, none⟩ = false := (p4.2 0 _ rfl).2
  have ca92_1 : w86.cell? ⟨w.heap.size + 1 + 1, 1, none⟩ = some (.int .i64 d4b) := (p4.2 1 _ rfl).1
  have fa92_1 : w86.frozen? ⟨w.heap.size + 1 + 1, 1, none⟩ = false := (p4.2 1 _ rfl).2
  have ca92_2 : w86.cell? ⟨w.heap.size + 1 + 1, 2, none⟩ = some (.int .i64 d4c) := (p4.2 2 _ rfl).1
  have fa92_2 : w86.frozen? ⟨w.heap.size + 1 + 1, 2, none⟩ = false := (p4.2 2 _ rfl).2
  have ca92_3 : w86.cell? ⟨w.heap.size + 1 + 1, 3, none⟩ = some (.int .i64 d4d) := (p4.2 3 _ rfl).1
  have fa92_3 : w86.frozen? ⟨w.heap.size + 1 + 1, 3, none⟩ = false := (p4.2 3 _ rfl).2
  obtain ⟨ca93, fa93⟩ := id bx0
  go_wp2_with fail
  clear ca90 fa90 ca91_0 fa91_0 ca91_1 fa91_1 ca91_2 fa91_2 ca91_3 fa91_3 ca92_0 fa92_0 ca92_1 fa92_1 ca92_2 fa92_2 ca92_3 fa92_3 ca93 fa93
  refine (toReleaseS_any (h2.keeps kw)).mono ?_
  rintro e w94 ⟨Bt2, rfl, t2, k94⟩
  have ss95 := k94.size
  replace p0 := p0.keeps k94
  replace p3 := p3.keeps k94
  replace p4 := p4.keeps k94
  replace bx0 := bx0.keeps k94
  replace x0 := x0.keeps k94
  replace x1 := x1.keeps k94
  replace x2 := x2.keeps k94
  replace kw := Keeps.trans kw k94
  have lt96 := bx0.lt
  have sz97 := kw.size
  clear k94
  obtain ⟨ca98, fa98⟩ := id p0
  have ca99_0 : w94.cell? ⟨w.heap.size + 1, 0, none⟩ = some (.int .i64 d3a) := (p3.2 0 _ rfl).1
  have fa99_0 : w94.frozen? ⟨w.heap.size + 1, 0, none⟩ = false := (p3.2 0 _ rfl).2
  have ca99_1 : w94.cell? ⟨w.heap.size + 1, 1, none⟩ = some (.int .i64 d3b) := (p3.2 1 _ rfl).1
  have fa99_1 : w94.frozen? ⟨w.heap.size + 1, 1, none⟩ = false := (p3.2 1 _ rfl).2
  have ca99_2 : w94.cell? ⟨w.heap.size + 1, 2, none⟩ = some (.int .i64 d3c) := (p3.2 2 _ rfl).1
  have fa99_2 : w94.frozen? ⟨w.heap.size + 1, 2, none⟩ = false := (p3.2 2 _ rfl).2
  have ca99_3 : w94.cell? ⟨w.heap.size + 1, 3, none⟩ = some (.int .i64 d3d) := (p3.2 3 _ rfl).1
  have fa99_3 : w94.frozen? ⟨w.heap.size + 1, 3, none⟩ = false := (p3.2 3 _ rfl).2
  have ca100_0 : w94.cell? ⟨w.heap.size + 1 + 1, 0, none⟩ = some (.int .i64 d4a) := (p4.2 0 _ rfl).1
  have fa100_0 : w94.frozen? ⟨w.heap.size + 1 + 1, 0, none⟩ = false := (p4.2 0 _ rfl).2
  have ca100_1 : w94.cell? ⟨w.heap.size + 1 + 1, 1, none⟩ = some (.int .i64 d4b) := (p4.2 1 _ rfl).1
  have fa100_1 : w94.frozen? ⟨w.heap.size + 1 + 1, 1, none⟩ = false := (p4.2 1 _ rfl).2
  have ca100_2 : w94.cell? ⟨w.heap.size + 1 + 1, 2, none⟩ = some (.int .i64 d4c) := (p4.2 2 _ rfl).1
  have fa100_2 : w94.frozen? ⟨w.heap.size + 1 + 1, 2, none⟩ = false := (p4.2 2 _ rfl).2
  have ca100_3 : w94.cell? ⟨w.heap.size + 1 + 1, 3, none⟩ = some (.int .i64 d4d) := (p4.2 3 _ rfl).1
  have fa100_3 : w94.frozen? ⟨w.heap.size + 1 + 1, 3, none⟩ = false := (p4.2 3 _ rfl).2
  obtain ⟨ca101, fa101⟩ := id bx0
  go_wp2_with fail
  clear ca98 fa98 ca99_0 fa99_0 ca99_1 fa99_1 ca99_2 fa99_2 ca99_3 fa99_3 ca100_0 fa100_0 ca100_1 fa100_1 ca100_2 fa100_2 ca100_3 fa100_3 ca101 fa101
  refine (eqReleaseS_true x2 t2).mono ?_
  rintro e w102 ⟨rfl, k102⟩
  have ss103 := k102.size
  replace p0 := p0.keeps k102
  replace p3 := p3.keeps k102
  replace p4 := p4.keeps k102
  replace bx0 := bx0.keeps k102
  replace x0 := x0.keeps k102
  replace x1 := x1.keeps k102
  replace x2 := x2.keeps k102
  replace t2 := t2.keeps k102
  replace kw := Keeps.trans kw k102
  have lt104 := bx0.lt
  have sz105 := kw.size
  clear k102
  clear t2
  obtain ⟨ca106, fa106⟩ := id p0
  have ca107_0 : w102.cell? ⟨w.heap.size + 1, 0, none⟩ = some (.int .i64 d3a) := (p3.2 0 _ rfl).1
  have fa107_0 : w102.frozen? ⟨w.heap.size + 1, 0, none⟩ = false := (p3.2 0 _ rfl).2
  have ca107_1 : w102.cell? ⟨w.heap.size + 1, 1, none⟩ = some (.int .i64 d3b) := (p3.2 1 _ rfl).1
  have fa107_1 : w102.frozen? ⟨w.heap.size + 1, 1, none⟩ = false := (p3.2 1 _ rfl).2
  have ca107_2 : w102.cell? ⟨w.heap.size + 1, 2, none⟩ = some (.int .i64 d3c) := (p3.2 2 _ rfl).1
  have fa107_2 : w102.frozen? ⟨w.heap.size + 1, 2, none⟩ = false := (p3.2 2 _ rfl).2
  have ca107_3 : w102.cell? ⟨w.heap.size + 1, 3, none⟩ = some (.int .i64 d3d) := (p3.2 3 _ rfl).1
  have fa107_3 : w102.frozen? ⟨w.heap.size + 1, 3, none⟩ = false := (p3.2 3 _ rfl).2
  have ca108_0 : w102.cell? ⟨w.heap.size + 1 + 1, 0, none⟩ = some (.int .i64 d4a) := (p4.2 0 _ rfl).1
  have fa108_0 : w102.frozen? ⟨w.heap.size + 1 + 1, 0, none⟩ = false := (p4.2 0 _ rfl).2
  have ca108_1 : w102.cell? ⟨w.heap.size + 1 + 1, 1, none⟩ = some (.int .i64 d4b) := (p4.2 1 _ rfl).1
  have fa108_1 : w102.frozen? ⟨w.heap.size + 1 + 1, 1, none⟩ = false := (p4.2 1 _ rfl).2
  have ca108_2 : w102.cell? ⟨w.heap.size + 1 + 1, 2, none⟩ = some (.int .i64 d4c) := (p4.2 2 _ rfl).1
  have fa108_2 : w102.frozen? ⟨w.heap.size + 1 + 1, 2, none⟩ = false := (p4.2 2 _ rfl).2
  have ca108_3 : w102.cell? ⟨w.heap.size + 1 + 1, 3, none⟩ = some (.int .i64 d4d) := (p4.2 3 _ rfl).1
  have fa108_3 : w102.frozen? ⟨w.heap.size + 1 + 1, 3, none⟩ = false := (p4.2 3 _ rfl).2
  obtain ⟨ca109, fa109⟩ := id bx0
  go_wp2_with fail
  clear ca106 fa106 ca107_0 fa107_0 ca107_1 fa107_1 ca107_2 fa107_2 ca107_3 fa107_3 ca108_0 fa108_0 ca108_1 fa108_1 ca108_2 fa108_2 ca108_3 fa108_3 ca109 fa109
  go_ret
  exact ⟨rfl, kw⟩
end Go.Proofs.Ytklolfeijjnaoaa
