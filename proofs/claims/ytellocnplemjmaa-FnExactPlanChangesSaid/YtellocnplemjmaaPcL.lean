/- The laws FnExactPlanChanges: the walks. -/
import Derived.Test.YtellocnplemjmaaPci
import Derived.Test.YtellocnplemjmaaRelH
import Derived.Test.YtellocnplemjmaaOpV
import Derived.Test.YtellocnplemjmaaKB
import Derived.Deep.RegionHeld3
namespace Go.Proofs.Ytellocnplemjmaa
open Go.ChangeShapes Go.WideShapes Go.ChangeAt Go.RowKit
set_option linter.unusedVariables false
set_option linter.unusedSimpArgs false
set_option maxRecDepth 100000 in
set_option maxHeartbeats 6400000 in
theorem FnExactPlanChanges_law (A0 : Option Addr) (n0 c0 : Nat) (z0 : List Int) (A1 : Option Addr) (n1 c1 : Nat) (z1 : List VV) (v2 : Int) (A2 : Option Addr) (n2 c2 : Nat) (z2 : List TT) (d2a d2b d2c d2d : Int) (v3 : Int) (A3 : Option Addr) (n3 c3 : Nat) (z3 : List TT) (d3a d3b d3c d3d : Int) (w : World) (wa0 : IntsArg w A0 n0 z0) (wa1 : VarsArg w A1 n1 z1) (wa2 : TabsArg w A2 n2 z2) (wa3 : TabsArg w A3 n3 z3) :
    Calls Try.prog 3 #[.agg #[.slice A0 n0 c0], .slice A1 n1 c1, .agg #[.int .i64 v2, .slice A2 n2 c2, .int .i64 d2a, .int .i64 d2b, .int .i64 d2c, .int .i64 d2d], .agg #[.int .i64 v3, .slice A3 n3 c3, .int .i64 d3a, .int .i64 d3b, .int .i64 d3c, .int .i64 d3d]] w fun e w' => e = .returned (.bool true) ∧ Below w.heap.size w w' := by
  have HNK := hid (show NamesOk z1 from wa1.2.2.1)
  go_enter Try.func3, Try.ntmps3
  have kw := keeps_refl w
  replace kw := Keeps.trans kw (keeps_alloc w (.cells #[.slice A0 n0 c0] 24))
  have p0 : B1 (w.alloc (.cells #[.slice A0 n0 c0] 24)) w.heap.size (.slice A0 n0 c0) := B1.new' (by simp)
  replace p0 := p0.keeps (keeps_alloc (w.alloc (.cells #[.slice A0 n0 c0] 24)) (.cells #[.int .i64 v2, .slice A2 n2 c2, .int .i64 d2a, .int .i64 d2b, .int .i64 d2c, .int .i64 d2d] 32))
  replace kw := Keeps.trans kw (keeps_alloc (w.alloc (.cells #[.slice A0 n0 c0] 24)) (.cells #[.int .i64 v2, .slice A2 n2 c2, .int .i64 d2a, .int .i64 d2b, .int .i64 d2c, .int .i64 d2d] 32))
  have p2 : Bl ((w.alloc (.cells #[.slice A0 n0 c0] 24)).alloc (.cells #[.int .i64 v2, .slice A2 n2 c2, .int .i64 d2a, .int .i64 d2b, .int .i64 d2c, .int .i64 d2d] 32)) (w.heap.size + 1) [.int .i64 v2, .slice A2 n2 c2, .int .i64 d2a, .int .i64 d2b, .int .i64 d2c, .int .i64 d2d] := Bl.new' (by simp) (by simp)
  replace p0 := p0.keeps (keeps_alloc ((w.alloc (.cells #[.slice A0 n0 c0] 24)).alloc (.cells #[.int .i64 v2, .slice A2 n2 c2, .int .i64 d2a, .int .i64 d2b, .int .i64 d2c, .int .i64 d2d] 32)) (.cells #[.int .i64 v3, .slice A3 n3 c3, .int .i64 d3a, .int .i64 d3b, .int .i64 d3c, .int .i64 d3d] 32))
  replace p2 := p2.keeps (keeps_alloc ((w.alloc (.cells #[.slice A0 n0 c0] 24)).alloc (.cells #[.int .i64 v2, .slice A2 n2 c2, .int .i64 d2a, .int .i64 d2b, .int .i64 d2c, .int .i64 d2d] 32)) (.cells #[.int .i64 v3, .slice A3 n3 c3, .int .i64 d3a, .int .i64 d3b, .int .i64 d3c, .int .i64 d3d] 32))
  replace kw := Keeps.trans kw (keeps_alloc ((w.alloc (.cells #[.slice A0 n0 c0] 24)).alloc (.cells #[.int .i64 v2, .slice A2 n2 c2, .int .i64 d2a, .int .i64 d2b, .int .i64 d2c, .int .i64 d2d] 32)) (.cells #[.int .i64 v3, .slice A3 n3 c3, .int .i64 d3a, .int .i64 d3b, .int .i64 d3c, .int .i64 d3d] 32))
  have p3 : Bl (((w.alloc (.cells #[.slice A0 n0 c0] 24)).alloc (.cells #[.int .i64 v2, .slice A2 n2 c2, .int .i64 d2a, .int .i64 d2b, .int .i64 d2c, .int .i64 d2d] 32)).alloc (.cells #[.int .i64 v3, .slice A3 n3 c3, .int .i64 d3a, .int .i64 d3b, .int .i64 d3c, .int .i64 d3d] 32)) (w.heap.size + 1 + 1) [.int .i64 v3, .slice A3 n3 c3, .int .i64 d3a, .int .i64 d3b, .int .i64 d3c, .int .i64 d3d] := Bl.new' (by simp) (by simp)
  obtain ⟨ca1, fa1⟩ := id p0
  have ca2_0 : (((w.alloc (.cells #[.slice A0 n0 c0] 24)).alloc (.cells #[.int .i64 v2, .slice A2 n2 c2, .int .i64 d2a, .int .i64 d2b, .int .i64 d2c, .int .i64 d2d] 32)).alloc (.cells #[.int .i64 v3, .slice A3 n3 c3, .int .i64 d3a, .int .i64 d3b, .int .i64 d3c, .int .i64 d3d] 32)).cell? ⟨w.heap.size + 1, 0, none⟩ = some (.int .i64 v2) := (p2.2 0 _ rfl).1
  have fa2_0 : (((w.alloc (.cells #[.slice A0 n0 c0] 24)).alloc (.cells #[.int .i64 v2, .slice A2 n2 c2, .int .i64 d2a, .int .i64 d2b, .int .i64 d2c, .int .i64 d2d] 32)).alloc (.cells #[.int .i64 v3, .slice A3 n3 c3, .int .i64 d3a, .int .i64 d3b, .int .i64 d3c, .int .i64 d3d] 32)).frozen? ⟨w.heap.size + 1, 0, none⟩ = false := (p2.2 0 _ rfl).2
  have ca2_1 : (((w.alloc (.cells #[.slice A0 n0 c0] 24)).alloc (.cells #[.int .i64 v2, .slice A2 n2 c2, .int .i64 d2a, .int .i64 d2b, .int .i64 d2c, .int .i64 d2d] 32)).alloc (.cells #[.int .i64 v3, .slice A3 n3 c3, .int .i64 d3a, .int .i64 d3b, .int .i64 d3c, .int .i64 d3d] 32)).cell? ⟨w.heap.size + 1, 1, none⟩ = some (.slice A2 n2 c2) := (p2.2 1 _ rfl).1
  have fa2_1 : (((w.alloc (.cells #[.slice A0 n0 c0] 24)).alloc (.cells #[.int .i64 v2, .slice A2 n2 c2, .int .i64 d2a, .int .i64 d2b, .int .i64 d2c, .int .i64 d2d] 32)).alloc (.cells #[.int .i64 v3, .slice A3 n3 c3, .int .i64 d3a, .int .i64 d3b, .int .i64 d3c, .int .i64 d3d] 32)).frozen? ⟨w.heap.size + 1, 1, none⟩ = false := (p2.2 1 _ rfl).2
  have ca2_2 : (((w.alloc (.cells #[.slice A0 n0 c0] 24)).alloc (.cells #[.int .i64 v2, .slice A2 n2 c2, .int .i64 d2a, .int .i64 d2b, .int .i64 d2c, .int .i64 d2d] 32)).alloc (.cells #[.int .i64 v3, .slice A3 n3 c3, .int .i64 d3a, .int .i64 d3b, .int .i64 d3c, .int .i64 d3d] 32)).cell? ⟨w.heap.size + 1, 2, none⟩ = some (.int .i64 d2a) := (p2.2 2 _ rfl).1
  have fa2_2 : (((w.alloc (.cells #[.slice A0 n0 c0] 24)).alloc (.cells #[.int .i64 v2, .slice A2 n2 c2, .int .i64 d2a, .int .i64 d2b, .int .i64 d2c, .int .i64 d2d] 32)).alloc (.cells #[.int .i64 v3, .slice A3 n3 c3, .int .i64 d3a, .int .i64 d3b, .int .i64 d3c, .int .i64 d3d] 32)).frozen? ⟨w.heap.size + 1, 2, none⟩ = false := (p2.2 2 _ rfl).2
  have ca2_3 : (((w.alloc (.cells #[.slice A0 n0 c0] 24)).alloc (.cells #[.int .i64 v2, .slice A2 n2 c2, .int .i64 d2a, .int .i64 d2b, .int .i64 d2c, .int .i64 d2d] 32)).alloc (.cells #[.int .i64 v3, .slice A3 n3 c3, .int .i64 d3a, .int .i64 d3b, .int .i64 d3c, .int .i64 d3d] 32)).cell? ⟨w.heap.size + 1, 3, none⟩ = some (.int .i64 d2b) := (p2.2 3 _ rfl).1
  have fa2_3 : (((w.alloc (.cells #[.slice A0 n0 c0] 24)).alloc (.cells #[.int .i64 v2, .slice A2 n2 c2, .int .i64 d2a, .int .i64 d2b, .int .i64 d2c, .int .i64 d2d] 32)).alloc (.cells #[.int .i64 v3, .slice A3 n3 c3, .int .i64 d3a, .int .i64 d3b, .int .i64 d3c, .int .i64 d3d] 32)).frozen? ⟨w.heap.size + 1, 3, none⟩ = false := (p2.2 3 _ rfl).2
  have ca2_4 : (((w.alloc (.cells #[.slice A0 n0 c0] 24)).alloc (.cells #[.int .i64 v2, .slice A2 n2 c2, .int .i64 d2a, .int .i64 d2b, .int .i64 d2c, .int .i64 d2d] 32)).alloc (.cells #[.int .i64 v3, .slice A3 n3 c3, .int .i64 d3a, .int .i64 d3b, .int .i64 d3c, .int .i64 d3d] 32)).cell? ⟨w.heap.size + 1, 4, none⟩ = some (.int .i64 d2c) := (p2.2 4 _ rfl).1
  have fa2_4 : (((w.alloc (.cells #[.slice A0 n0 c0] 24)).alloc (.cells #[.int .i64 v2, .slice A2 n2 c2, .int .i64 d2a, .int .i64 d2b, .int .i64 d2c, .int .i64 d2d] 32)).alloc (.cells #[.int .i64 v3, .slice A3 n3 c3, .int .i64 d3a, .int .i64 d3b, .int .i64 d3c, .int .i64 d3d] 32)).frozen? ⟨w.heap.size + 1, 4, none⟩ = false := (p2.2 4 _ rfl).2
  have ca2_5 : (((w.alloc (.cells #[.slice A0 n0 c0] 24)).alloc (.cells #[.int .i64 v2, .slice A2 n2 c2, .int .i64 d2a, .int .i64 d2b, .int .i64 d2c, .int .i64 d2d] 32)).alloc (.cells #[.int .i64 v3, .slice A3 n3 c3, .int .i64 d3a, .int .i64 d3b, .int .i64 d3c, .int .i64 d3d] 32)).cell? ⟨w.heap.size + 1, 5, none⟩ = some (.int .i64 d2d) := (p2.2 5 _ rfl).1
  have fa2_5 : (((w.alloc (.cells #[.slice A0 n0 c0] 24)).alloc (.cells #[.int .i64 v2, .slice A2 n2 c2, .int .i64 d2a, .int .i64 d2b, .int .i64 d2c, .int .i64 d2d] 32)).alloc (.cells #[.int .i64 v3, .slice A3 n3 c3, .int .i64 d3a, .int .i64 d3b, .int .i64 d3c, .int .i64 d3d] 32)).frozen? ⟨w.heap.size + 1, 5, none⟩ = false := (p2.2 5 _ rfl).2
  have ca3_0 : (((w.alloc (.cells #[.slice A0 n0 c0] 24)).alloc (.cells #[.int .i64 v2, .slice A2 n2 c2, .int .i64 d2a, .int .i64 d2b, .int .i64 d2c, .int .i64 d2d] 32)).alloc (.cells #[.int .i64 v3, .slice A3 n3 c3, .int .i64 d3a, .int .i64 d3b, .int .i64 d3c, .int .i64 d3d] 32)).cell? ⟨w.heap.size + 1 + 1, 0, none⟩ = some (.int .i64 v3) := (p3.2 0 _ rfl).1
  have fa3_0 : (((w.alloc (.cells #[.slice A0 n0 c0] 24)).alloc (.cells #[.int .i64 v2, .slice A2 n2 c2, .int .i64 d2a, .int .i64 d2b, .int .i64 d2c, .int .i64 d2d] 32)).alloc (.cells #[.int .i64 v3, .slice A3 n3 c3, .int .i64 d3a, .int .i64 d3b, .int .i64 d3c, .int .i64 d3d] 32)).frozen? ⟨w.heap.size + 1 + 1, 0, none⟩ = false := (p3.2 0 _ rfl).2
  have ca3_1 : (((w.alloc (.cells #[.slice A0 n0 c0] 24)).alloc (.cells #[.int .i64 v2, .slice A2 n2 c2, .int .i64 d2a, .int .i64 d2b, .int .i64 d2c, .int .i64 d2d] 32)).alloc (.cells #[.int .i64 v3, .slice A3 n3 c3, .int .i64 d3a, .int .i64 d3b, .int .i64 d3c, .int .i64 d3d] 32)).cell? ⟨w.heap.size + 1 + 1, 1, none⟩ = some (.slice A3 n3 c3) := (p3.2 1 _ rfl).1
  have fa3_1 : (((w.alloc (.cells #[.slice A0 n0 c0] 24)).alloc (.cells #[.int .i64 v2, .slice A2 n2 c2, .int .i64 d2a, .int .i64 d2b, .int .i64 d2c, .int .i64 d2d] 32)).alloc (.cells #[.int .i64 v3, .slice A3 n3 c3, .int .i64 d3a, .int .i64 d3b, .int .i64 d3c, .int .i64 d3d] 32)).frozen? ⟨w.heap.size + 1 + 1, 1, none⟩ = false := (p3.2 1 _ rfl).2
  have ca3_2 : (((w.alloc (.cells #[.slice A0 n0 c0] 24)).alloc (.cells #[.int .i64 v2, .slice A2 n2 c2, .int .i64 d2a, .int .i64 d2b, .int .i64 d2c, .int .i64 d2d] 32)).alloc (.cells #[.int .i64 v3, .slice A3 n3 c3, .int .i64 d3a, .int .i64 d3b, .int .i64 d3c, .int .i64 d3d] 32)).cell? ⟨w.heap.size + 1 + 1, 2, none⟩ = some (.int .i64 d3a) := (p3.2 2 _ rfl).1
  have fa3_2 : (((w.alloc (.cells #[.slice A0 n0 c0] 24)).alloc (.cells #[.int .i64 v2, .slice A2 n2 c2, .int .i64 d2a, .int .i64 d2b, .int .i64 d2c, .int .i64 d2d] 32)).alloc (.cells #[.int .i64 v3, .slice A3 n3 c3, .int .i64 d3a, .int .i64 d3b, .int .i64 d3c, .int .i64 d3d] 32)).frozen? ⟨w.heap.size + 1 + 1, 2, none⟩ = false := (p3.2 2 _ rfl).2
  have ca3_3 : (((w.alloc (.cells #[.slice A0 n0 c0] 24)).alloc (.cells #[.int .i64 v2, .slice A2 n2 c2, .int .i64 d2a, .int .i64 d2b, .int .i64 d2c, .int .i64 d2d] 32)).alloc (.cells #[.int .i64 v3, .slice A3 n3 c3, .int .i64 d3a, .int .i64 d3b, .int .i64 d3c, .int .i64 d3d] 32)).cell? ⟨w.heap.size + 1 + 1, 3, none⟩ = some (.int .i64 d3b) := (p3.2 3 _ rfl).1
  have fa3_3 : (((w.alloc (.cells #[.slice A0 n0 c0] 24)).alloc (.cells #[.int .i64 v2, .slice A2 n2 c2, .int .i64 d2a, .int .i64 d2b, .int .i64 d2c, .int .i64 d2d] 32)).alloc (.cells #[.int .i64 v3, .slice A3 n3 c3, .int .i64 d3a, .int .i64 d3b, .int .i64 d3c, .int .i64 d3d] 32)).frozen? ⟨w.heap.size + 1 + 1, 3, none⟩ = false := (p3.2 3 _ rfl).2
  have ca3_4 : (((w.alloc (.cells #[.slice A0 n0 c0] 24)).alloc (.cells #[.int .i64 v2, .slice A2 n2 c2, .int .i64 d2a, .int .i64 d2b, .int .i64 d2c, .int .i64 d2d] 32)).alloc (.cells #[.int .i64 v3, .slice A3 n3 c3, .int .i64 d3a, .int .i64 d3b, .int .i64 d3c, .int .i64 d3d] 32)).cell? ⟨w.heap.size + 1 + 1, 4, none⟩ = some (.int .i64 d3c) := (p3.2 4 _ rfl).1
  have fa3_4 : (((w.alloc (.cells #[.slice A0 n0 c0] 24)).alloc (.cells #[.int .i64 v2, .slice A2 n2 c2, .int .i64 d2a, .int .i64 d2b, .int .i64 d2c, .int .i64 d2d] 32)).alloc (.cells #[.int .i64 v3, .slice A3 n3 c3, .int .i64 d3a, .int .i64 d3b, .int .i64 d3c, .int .i64 d3d] 32)).frozen? ⟨w.heap.size + 1 + 1, 4, none⟩ = false := (p3.2 4 _ rfl).2
  have ca3_5 : (((w.alloc (.cells #[.slice A0 n0 c0] 24)).alloc (.cells #[.int .i64 v2, .slice A2 n2 c2, .int .i64 d2a, .int .i64 d2b, .int .i64 d2c, .int .i64 d2d] 32)).alloc (.cells #[.int .i64 v3, .slice A3 n3 c3, .int .i64 d3a, .int .i64 d3b, .int .i64 d3c, .int .i64 d3d] 32)).cell? ⟨w.heap.size + 1 + 1, 5, none⟩ = some (.int .i64 d3d) := (p3.2 5 _ rfl).1
  have fa3_5 : (((w.alloc (.cells #[.slice A0 n0 c0] 24)).alloc (.cells #[.int .i64 v2, .slice A2 n2 c2, .int .i64 d2a, .int .i64 d2b, .int .i64 d2c, .int .i64 d2d] 32)).alloc (.cells #[.int .i64 v3, .slice A3 n3 c3, .int .i64 d3a, .int .i64 d3b, .int .i64 d3c, .int .i64 d3d] 32)).frozen? ⟨w.heap.size + 1 + 1, 5, none⟩ = false := (p3.2 5 _ rfl).2
  go_wp2_with fail
  clear ca1 fa1 ca2_0 fa2_0 ca2_1 fa2_1 ca2_2 fa2_2 ca2_3 fa2_3 ca2_4 fa2_4 ca2_5 fa2_5 ca3_0 fa3_0 ca3_1 fa3_1 ca3_2 fa3_2 ca3_3 fa3_3 ca3_4 fa3_4 ca3_5 fa3_5
  by_cases hs0 : (n0 : Int) ≤ 1048576
  rotate_left
  · have hm0 := wa0.1
    refine (szGeo_no _ _ _ (1048576) _ hm0 (by omega) (by omega) (by omega)).mono ?_
    rintro e w4 ⟨rfl, k4⟩
    have ss5 := k4.size
    simp at ss5
    replace p0 := p0.keeps k4
    replace p2 := p2.keeps k4
    replace p3 := p3.keeps k4
    replace kw := Keeps.trans kw k4
    have lt6 := p3.lt
    have sz7 := kw.size
    clear k4
    go_wp2_with fail
    go_ret
    exact ⟨rfl, kw⟩
  have h0 := wa0.ints (by omega)
  refine (szGeo_ok _ _ _ (1048576) _ (by omega) (by omega)).mono ?_
  rintro e w4 ⟨rfl, k4⟩
  have ss5 := k4.size
  simp at ss5
  replace p0 := p0.keeps k4
  replace p2 := p2.keeps k4
  replace p3 := p3.keeps k4
  replace kw := Keeps.trans kw k4
  have lt6 := p3.lt
  have sz7 := kw.size
  clear k4
  have tz0 : ¬ (1048576 - (n0 : Int) < 0) := by omega
  obtain ⟨ca8, fa8⟩ := id p0
  have ca9_0 : w4.cell? ⟨w.heap.size + 1, 0, none⟩ = some (.int .i64 v2) := (p2.2 0 _ rfl).1
  have fa9_0 : w4.frozen? ⟨w.heap.size + 1, 0, none⟩ = false := (p2.2 0 _ rfl).2
  have ca9_1 : w4.cell? ⟨w.heap.size + 1, 1, none⟩ = some (.slice A2 n2 c2) := (p2.2 1 _ rfl).1
  have fa9_1 : w4.frozen? ⟨w.heap.size + 1, 1, none⟩ = false := (p2.2 1 _ rfl).2
  have ca9_2 : w4.cell? ⟨w.heap.size + 1, 2, none⟩ = some (.int .i64 d2a) := (p2.2 2 _ rfl).1
  have fa9_2 : w4.frozen? ⟨w.heap.size + 1, 2, none⟩ = false := (p2.2 2 _ rfl).2
  have ca9_3 : w4.cell? ⟨w.heap.size + 1, 3, none⟩ = some (.int .i64 d2b) := (p2.2 3 _ rfl).1
  have fa9_3 : w4.frozen? ⟨w.heap.size + 1, 3, none⟩ = false := (p2.2 3 _ rfl).2
  have ca9_4 : w4.cell? ⟨w.heap.size + 1, 4, none⟩ = some (.int .i64 d2c) := (p2.2 4 _ rfl).1
  have fa9_4 : w4.frozen? ⟨w.heap.size + 1, 4, none⟩ = false := (p2.2 4 _ rfl).2
  have ca9_5 : w4.cell? ⟨w.heap.size + 1, 5, none⟩ = some (.int .i64 d2d) := (p2.2 5 _ rfl).1
  have fa9_5 : w4.frozen? ⟨w.heap.size + 1, 5, none⟩ = false := (p2.2 5 _ rfl).2
  have ca10_0 : w4.cell? ⟨w.heap.size + 1 + 1, 0, none⟩ = some (.int .i64 v3) := (p3.2 0 _ rfl).1
  have fa10_0 : w4.frozen? ⟨w.heap.size + 1 + 1, 0, none⟩ = false := (p3.2 0 _ rfl).2
  have ca10_1 : w4.cell? ⟨w.heap.size + 1 + 1, 1, none⟩ = some (.slice A3 n3 c3) := (p3.2 1 _ rfl).1
  have fa10_1 : w4.frozen? ⟨w.heap.size + 1 + 1, 1, none⟩ = false := (p3.2 1 _ rfl).2
  have ca10_2 : w4.cell? ⟨w.heap.size + 1 + 1, 2, none⟩ = some (.int .i64 d3a) := (p3.2 2 _ rfl).1
  have fa10_2 : w4.frozen? ⟨w.heap.size + 1 + 1, 2, none⟩ = false := (p3.2 2 _ rfl).2
  have ca10_3 : w4.cell? ⟨w.heap.size + 1 + 1, 3, none⟩ = some (.int .i64 d3b) := (p3.2 3 _ rfl).1
  have fa10_3 : w4.frozen? ⟨w.heap.size + 1 + 1, 3, none⟩ = false := (p3.2 3 _ rfl).2
  have ca10_4 : w4.cell? ⟨w.heap.size + 1 + 1, 4, none⟩ = some (.int .i64 d3c) := (p3.2 4 _ rfl).1
  have fa10_4 : w4.frozen? ⟨w.heap.size + 1 + 1, 4, none⟩ = false := (p3.2 4 _ rfl).2
  have ca10_5 : w4.cell? ⟨w.heap.size + 1 + 1, 5, none⟩ = some (.int .i64 d3d) := (p3.2 5 _ rfl).1
  have fa10_5 : w4.frozen? ⟨w.heap.size + 1 + 1, 5, none⟩ = false := (p3.2 5 _ rfl).2
  go_wp2_with fail
  clear ca8 fa8 ca9_0 fa9_0 ca9_1 fa9_1 ca9_2 fa9_2 ca9_3 fa9_3 ca9_4 fa9_4 ca9_5 fa9_5 ca10_0 fa10_0 ca10_1 fa10_1 ca10_2 fa10_2 ca10_3 fa10_3 ca10_4 fa10_4 ca10_5 fa10_5
  by_cases hs1 : ((n1 : Int) + vsz z1 n1) ≤ 1048576 - (n0 : Int)
  rotate_left
  · have hm1 := wa1.1
    refine (szVariableS_any (left := 1048576 - (n0 : Int)) (wa1.keeps kw) (by omega) (by omega)).mono ?_
    rintro e w11 ⟨rfl, k11⟩
    rw [szVs_no (left := 1048576 - (n0 : Int)) (n := n1) (l := z1) (by omega)]
    have ss12 := k11.size
    replace p0 := p0.keeps k11
    replace p2 := p2.keeps k11
    replace p3 := p3.keeps k11
    replace kw := Keeps.trans kw k11
    have lt13 := p3.lt
    have sz14 := kw.size
    clear k11
    go_wp2_with fail
    go_ret
    exact ⟨rfl, kw⟩
  have h1 := wa1.vars (by omega)
  refine (szVariableS_any (left := 1048576 - (n0 : Int)) (wa1.keeps kw) (by omega) (by omega)).mono ?_
  rintro e w11 ⟨rfl, k11⟩
  rw [szVs_ok (left := 1048576 - (n0 : Int)) (n := n1) (l := z1) (by omega)]
  have ss12 := k11.size
  replace p0 := p0.keeps k11
  replace p2 := p2.keeps k11
  replace p3 := p3.keeps k11
  replace kw := Keeps.trans kw k11
  have lt13 := p3.lt
  have sz14 := kw.size
  clear k11
  have tz1 : ¬ (1048576 - (n0 : Int) - ((n1 : Int) + vsz z1 n1) < 0) := by omega
  obtain ⟨ca15, fa15⟩ := id p0
  have ca16_0 : w11.cell? ⟨w.heap.size + 1, 0, none⟩ = some (.int .i64 v2) := (p2.2 0 _ rfl).1
  have fa16_0 : w11.frozen? ⟨w.heap.size + 1, 0, none⟩ = false := (p2.2 0 _ rfl).2
  have ca16_1 : w11.cell? ⟨w.heap.size + 1, 1, none⟩ = some (.slice A2 n2 c2) := (p2.2 1 _ rfl).1
  have fa16_1 : w11.frozen? ⟨w.heap.size + 1, 1, none⟩ = false := (p2.2 1 _ rfl).2
  have ca16_2 : w11.cell? ⟨w.heap.size + 1, 2, none⟩ = some (.int .i64 d2a) := (p2.2 2 _ rfl).1
  have fa16_2 : w11.frozen? ⟨w.heap.size + 1, 2, none⟩ = false := (p2.2 2 _ rfl).2
  have ca16_3 : w11.cell? ⟨w.heap.size + 1, 3, none⟩ = some (.int .i64 d2b) := (p2.2 3 _ rfl).1
  have fa16_3 : w11.frozen? ⟨w.heap.size + 1, 3, none⟩ = false := (p2.2 3 _ rfl).2
  have ca16_4 : w11.cell? ⟨w.heap.size + 1, 4, none⟩ = some (.int .i64 d2c) := (p2.2 4 _ rfl).1
  have fa16_4 : w11.frozen? ⟨w.heap.size + 1, 4, none⟩ = false := (p2.2 4 _ rfl).2
  have ca16_5 : w11.cell? ⟨w.heap.size + 1, 5, none⟩ = some (.int .i64 d2d) := (p2.2 5 _ rfl).1
  have fa16_5 : w11.frozen? ⟨w.heap.size + 1, 5, none⟩ = false := (p2.2 5 _ rfl).2
  have ca17_0 : w11.cell? ⟨w.heap.size + 1 + 1, 0, none⟩ = some (.int .i64 v3) := (p3.2 0 _ rfl).1
  have fa17_0 : w11.frozen? ⟨w.heap.size + 1 + 1, 0, none⟩ = false := (p3.2 0 _ rfl).2
  have ca17_1 : w11.cell? ⟨w.heap.size + 1 + 1, 1, none⟩ = some (.slice A3 n3 c3) := (p3.2 1 _ rfl).1
  have fa17_1 : w11.frozen? ⟨w.heap.size + 1 + 1, 1, none⟩ = false := (p3.2 1 _ rfl).2
  have ca17_2 : w11.cell? ⟨w.heap.size + 1 + 1, 2, none⟩ = some (.int .i64 d3a) := (p3.2 2 _ rfl).1
  have fa17_2 : w11.frozen? ⟨w.heap.size + 1 + 1, 2, none⟩ = false := (p3.2 2 _ rfl).2
  have ca17_3 : w11.cell? ⟨w.heap.size + 1 + 1, 3, none⟩ = some (.int .i64 d3b) := (p3.2 3 _ rfl).1
  have fa17_3 : w11.frozen? ⟨w.heap.size + 1 + 1, 3, none⟩ = false := (p3.2 3 _ rfl).2
  have ca17_4 : w11.cell? ⟨w.heap.size + 1 + 1, 4, none⟩ = some (.int .i64 d3c) := (p3.2 4 _ rfl).1
  have fa17_4 : w11.frozen? ⟨w.heap.size + 1 + 1, 4, none⟩ = false := (p3.2 4 _ rfl).2
  have ca17_5 : w11.cell? ⟨w.heap.size + 1 + 1, 5, none⟩ = some (.int .i64 d3d) := (p3.2 5 _ rfl).1
  have fa17_5 : w11.frozen? ⟨w.heap.size + 1 + 1, 5, none⟩ = false := (p3.2 5 _ rfl).2
  go_wp2_with fail
  clear ca15 fa15 ca16_0 fa16_0 ca16_1 fa16_1 ca16_2 fa16_2 ca16_3 fa16_3 ca16_4 fa16_4 ca16_5 fa16_5 ca17_0 fa17_0 ca17_1 fa17_1 ca17_2 fa17_2 ca17_3 fa17_3 ca17_4 fa17_4 ca17_5 fa17_5
  by_cases hs2 : ((n2 + tsz z2 n2 : Nat) : Int) ≤ 1048576 - (n0 : Int) - ((n1 : Int) + vsz z1 n1)
  rotate_left
  · have hm2 := wa2.1
    refine (szRelease_any (left := 1048576 - (n0 : Int) - ((n1 : Int) + vsz z1 n1)) (wa2.keeps kw) (by omega) (by omega)).mono ?_
    rintro e w18 ⟨rfl, k18⟩
    rw [szQ_no (left := 1048576 - (n0 : Int) - ((n1 : Int) + vsz z1 n1)) (s := n2 + tsz z2 n2) hs2]
    have ss19 := k18.size
    replace p0 := p0.keeps k18
    replace p2 := p2.keeps k18
    replace p3 := p3.keeps k18
    replace kw := Keeps.trans kw k18
    have lt20 := p3.lt
    have sz21 := kw.size
    clear k18
    go_wp2_with fail
    go_ret
    exact ⟨rfl, kw⟩
  have h2 := wa2.tabs (by omega)
  refine (szRelease_any (left := 1048576 - (n0 : Int) - ((n1 : Int) + vsz z1 n1)) (wa2.keeps kw) (by omega) (by omega)).mono ?_
  rintro e w18 ⟨rfl, k18⟩
  rw [szQ_ok (left := 1048576 - (n0 : Int) - ((n1 : Int) + vsz z1 n1)) (s := n2 + tsz z2 n2) hs2]
  have ss19 := k18.size
  replace p0 := p0.keeps k18
  replace p2 := p2.keeps k18
  replace p3 := p3.keeps k18
  replace kw := Keeps.trans kw k18
  have lt20 := p3.lt
  have sz21 := kw.size
  clear k18
  have tz2 : ¬ (1048576 - (n0 : Int) - ((n1 : Int) + vsz z1 n1) - ((n2 + tsz z2 n2 : Nat) : Int) < 0) := by omega
  obtain ⟨ca22, fa22⟩ := id p0
  have ca23_0 : w18.cell? ⟨w.heap.size + 1, 0, none⟩ = some (.int .i64 v2) := (p2.2 0 _ rfl).1
  have fa23_0 : w18.frozen? ⟨w.heap.size + 1, 0, none⟩ = false := (p2.2 0 _ rfl).2
  have ca23_1 : w18.cell? ⟨w.heap.size + 1, 1, none⟩ = some (.slice A2 n2 c2) := (p2.2 1 _ rfl).1
  have fa23_1 : w18.frozen? ⟨w.heap.size + 1, 1, none⟩ = false := (p2.2 1 _ rfl).2
  have ca23_2 : w18.cell? ⟨w.heap.size + 1, 2, none⟩ = some (.int .i64 d2a) := (p2.2 2 _ rfl).1
  have fa23_2 : w18.frozen? ⟨w.heap.size + 1, 2, none⟩ = false := (p2.2 2 _ rfl).2
  have ca23_3 : w18.cell? ⟨w.heap.size + 1, 3, none⟩ = some (.int .i64 d2b) := (p2.2 3 _ rfl).1
  have fa23_3 : w18.frozen? ⟨w.heap.size + 1, 3, none⟩ = false := (p2.2 3 _ rfl).2
  have ca23_4 : w18.cell? ⟨w.heap.size + 1, 4, none⟩ = some (.int .i64 d2c) := (p2.2 4 _ rfl).1
  have fa23_4 : w18.frozen? ⟨w.heap.size + 1, 4, none⟩ = false := (p2.2 4 _ rfl).2
  have ca23_5 : w18.cell? ⟨w.heap.size + 1, 5, none⟩ = some (.int .i64 d2d) := (p2.2 5 _ rfl).1
  have fa23_5 : w18.frozen? ⟨w.heap.size + 1, 5, none⟩ = false := (p2.2 5 _ rfl).2
  have ca24_0 : w18.cell? ⟨w.heap.size + 1 + 1, 0, none⟩ = some (.int .i64 v3) := (p3.2 0 _ rfl).1
  have fa24_0 : w18.frozen? ⟨w.heap.size + 1 + 1, 0, none⟩ = false := (p3.2 0 _ rfl).2
  have ca24_1 : w18.cell? ⟨w.heap.size + 1 + 1, 1, none⟩ = some (.slice A3 n3 c3) := (p3.2 1 _ rfl).1
  have fa24_1 : w18.frozen? ⟨w.heap.size + 1 + 1, 1, none⟩ = false := (p3.2 1 _ rfl).2
  have ca24_2 : w18.cell? ⟨w.heap.size + 1 + 1, 2, none⟩ = some (.int .i64 d3a) := (p3.2 2 _ rfl).1
  have fa24_2 : w18.frozen? ⟨w.heap.size + 1 + 1, 2, none⟩ = false := (p3.2 2 _ rfl).2
  have ca24_3 : w18.cell? ⟨w.heap.size + 1 + 1, 3, none⟩ = some (.int .i64 d3b) := (p3.2 3 _ rfl).1
  have fa24_3 : w18.frozen? ⟨w.heap.size + 1 + 1, 3, none⟩ = false := (p3.2 3 _ rfl).2
  have ca24_4 : w18.cell? ⟨w.heap.size + 1 + 1, 4, none⟩ = some (.int .i64 d3c) := (p3.2 4 _ rfl).1
  have fa24_4 : w18.frozen? ⟨w.heap.size + 1 + 1, 4, none⟩ = false := (p3.2 4 _ rfl).2
  have ca24_5 : w18.cell? ⟨w.heap.size + 1 + 1, 5, none⟩ = some (.int .i64 d3d) := (p3.2 5 _ rfl).1
  have fa24_5 : w18.frozen? ⟨w.heap.size + 1 + 1, 5, none⟩ = false := (p3.2 5 _ rfl).2
  go_wp2_with fail
  clear ca22 fa22 ca23_0 fa23_0 ca23_1 fa23_1 ca23_2 fa23_2 ca23_3 fa23_3 ca23_4 fa23_4 ca23_5 fa23_5 ca24_0 fa24_0 ca24_1 fa24_1 ca24_2 fa24_2 ca24_3 fa24_3 ca24_4 fa24_4 ca24_5 fa24_5
  by_cases hs3 : ((n3 + tsz z3 n3 : Nat) : Int) ≤ 1048576 - (n0 : Int) - ((n1 : Int) + vsz z1 n1) - ((n2 + tsz z2 n2 : Nat) : Int)
  rotate_left
  · have hm3 := wa3.1
    refine (szRelease_any (left := 1048576 - (n0 : Int) - ((n1 : Int) + vsz z1 n1) - ((n2 + tsz z2 n2 : Nat) : Int)) (wa3.keeps kw) (by omega) (by omega)).mono ?_
    rintro e w25 ⟨rfl, k25⟩
    rw [szQ_no (left := 1048576 - (n0 : Int) - ((n1 : Int) + vsz z1 n1) - ((n2 + tsz z2 n2 : Nat) : Int)) (s := n3 + tsz z3 n3) hs3]
    have ss26 := k25.size
    replace p0 := p0.keeps k25
    replace p2 := p2.keeps k25
    replace p3 := p3.keeps k25
    replace kw := Keeps.trans kw k25
    have lt27 := p3.lt
    have sz28 := kw.size
    clear k25
    go_wp2_with fail
    go_ret
    exact ⟨rfl, kw⟩
  have h3 := wa3.tabs (by omega)
  refine (szRelease_any (left := 1048576 - (n0 : Int) - ((n1 : Int) + vsz z1 n1) - ((n2 + tsz z2 n2 : Nat) : Int)) (wa3.keeps kw) (by omega) (by omega)).mono ?_
  rintro e w25 ⟨rfl, k25⟩
  rw [szQ_ok (left := 1048576 - (n0 : Int) - ((n1 : Int) + vsz z1 n1) - ((n2 + tsz z2 n2 : Nat) : Int)) (s := n3 + tsz z3 n3) hs3]
  have ss26 := k25.size
  replace p0 := p0.keeps k25
  replace p2 := p2.keeps k25
  replace p3 := p3.keeps k25
  replace kw := Keeps.trans kw k25
  have lt27 := p3.lt
  have sz28 := kw.size
  clear k25
  have tz3 : ¬ (1048576 - (n0 : Int) - ((n1 : Int) + vsz z1 n1) - ((n2 + tsz z2 n2 : Nat) : Int) - ((n3 + tsz z3 n3 : Nat) : Int) < 0) := by omega
  obtain ⟨ca29, fa29⟩ := id p0
  have ca30_0 : w25.cell? ⟨w.heap.size + 1, 0, none⟩ = some (.int .i64 v2) := (p2.2 0 _ rfl).1
  have fa30_0 : w25.frozen? ⟨w.heap.size + 1, 0, none⟩ = false := (p2.2 0 _ rfl).2
  have ca30_1 : w25.cell? ⟨w.heap.size + 1, 1, none⟩ = some (.slice A2 n2 c2) := (p2.2 1 _ rfl).1
  have fa30_1 : w25.frozen? ⟨w.heap.size + 1, 1, none⟩ = false := (p2.2 1 _ rfl).2
  have ca30_2 : w25.cell? ⟨w.heap.size + 1, 2, none⟩ = some (.int .i64 d2a) := (p2.2 2 _ rfl).1
  have fa30_2 : w25.frozen? ⟨w.heap.size + 1, 2, none⟩ = false := (p2.2 2 _ rfl).2
  have ca30_3 : w25.cell? ⟨w.heap.size + 1, 3, none⟩ = some (.int .i64 d2b) := (p2.2 3 _ rfl).1
  have fa30_3 : w25.frozen? ⟨w.heap.size + 1, 3, none⟩ = false := (p2.2 3 _ rfl).2
  have ca30_4 : w25.cell? ⟨w.heap.size + 1, 4, none⟩ = some (.int .i64 d2c) := (p2.2 4 _ rfl).1
  have fa30_4 : w25.frozen? ⟨w.heap.size + 1, 4, none⟩ = false := (p2.2 4 _ rfl).2
  have ca30_5 : w25.cell? ⟨w.heap.size + 1, 5, none⟩ = some (.int .i64 d2d) := (p2.2 5 _ rfl).1
  have fa30_5 : w25.frozen? ⟨w.heap.size + 1, 5, none⟩ = false := (p2.2 5 _ rfl).2
  have ca31_0 : w25.cell? ⟨w.heap.size + 1 + 1, 0, none⟩ = some (.int .i64 v3) := (p3.2 0 _ rfl).1
  have fa31_0 : w25.frozen? ⟨w.heap.size + 1 + 1, 0, none⟩ = false := (p3.2 0 _ rfl).2
  have ca31_1 : w25.cell? ⟨w.heap.size + 1 + 1, 1, none⟩ = some (.slice A3 n3 c3) := (p3.2 1 _ rfl).1
  have fa31_1 : w25.frozen? ⟨w.heap.size + 1 + 1, 1, none⟩ = false := (p3.2 1 _ rfl).2
  have ca31_2 : w25.cell? ⟨w.heap.size + 1 + 1, 2, none⟩ = some (.int .i64 d3a) := (p3.2 2 _ rfl).1
  have fa31_2 : w25.frozen? ⟨w.heap.size + 1 + 1, 2, none⟩ = false := (p3.2 2 _ rfl).2
  have ca31_3 : w25.cell? ⟨w.heap.size + 1 + 1, 3, none⟩ = some (.int .i64 d3b) := (p3.2 3 _ rfl).1
  have fa31_3 : w25.frozen? ⟨w.heap.size + 1 + 1, 3, none⟩ = false := (p3.2 3 _ rfl).2
  have ca31_4 : w25.cell? ⟨w.heap.size + 1 + 1, 4, none⟩ = some (.int .i64 d3c) := (p3.2 4 _ rfl).1
  have fa31_4 : w25.frozen? ⟨w.heap.size + 1 + 1, 4, none⟩ = false := (p3.2 4 _ rfl).2
  have ca31_5 : w25.cell? ⟨w.heap.size + 1 + 1, 5, none⟩ = some (.int .i64 d3d) := (p3.2 5 _ rfl).1
  have fa31_5 : w25.frozen? ⟨w.heap.size + 1 + 1, 5, none⟩ = false := (p3.2 5 _ rfl).2
  go_wp2_with fail
  clear ca29 fa29 ca30_0 fa30_0 ca30_1 fa30_1 ca30_2 fa30_2 ca30_3 fa30_3 ca30_4 fa30_4 ca30_5 fa30_5 ca31_0 fa31_0 ca31_1 fa31_1 ca31_2 fa31_2 ca31_3 fa31_3 ca31_4 fa31_4 ca31_5 fa31_5
  obtain ⟨r0, r1, r2, HR⟩ : ∃ r0 r1 r2, Hid (pcQ z0 z1 (v2, z2, d2a, d2b, d2c, d2d) (v3, z3, d3a, d3b, d3c, d3d) = (r0, r1, r2)) := ⟨_, _, _, rfl⟩
  obtain ⟨ca32, -⟩ := id p0
  have ca33_0 : w25.cell? ⟨w.heap.size + 1, 0, none⟩ = some (.int .i64 v2) := (p2.2 0 _ rfl).1
  have ca33_1 : w25.cell? ⟨w.heap.size + 1, 1, none⟩ = some (.slice A2 n2 c2) := (p2.2 1 _ rfl).1
  have ca33_2 : w25.cell? ⟨w.heap.size + 1, 2, none⟩ = some (.int .i64 d2a) := (p2.2 2 _ rfl).1
  have ca33_3 : w25.cell? ⟨w.heap.size + 1, 3, none⟩ = some (.int .i64 d2b) := (p2.2 3 _ rfl).1
  have ca33_4 : w25.cell? ⟨w.heap.size + 1, 4, none⟩ = some (.int .i64 d2c) := (p2.2 4 _ rfl).1
  have ca33_5 : w25.cell? ⟨w.heap.size + 1, 5, none⟩ = some (.int .i64 d2d) := (p2.2 5 _ rfl).1
  have ca34_0 : w25.cell? ⟨w.heap.size + 1 + 1, 0, none⟩ = some (.int .i64 v3) := (p3.2 0 _ rfl).1
  have ca34_1 : w25.cell? ⟨w.heap.size + 1 + 1, 1, none⟩ = some (.slice A3 n3 c3) := (p3.2 1 _ rfl).1
  have ca34_2 : w25.cell? ⟨w.heap.size + 1 + 1, 2, none⟩ = some (.int .i64 d3a) := (p3.2 2 _ rfl).1
  have ca34_3 : w25.cell? ⟨w.heap.size + 1 + 1, 3, none⟩ = some (.int .i64 d3b) := (p3.2 3 _ rfl).1
  have ca34_4 : w25.cell? ⟨w.heap.size + 1 + 1, 4, none⟩ = some (.int .i64 d3c) := (p3.2 4 _ rfl).1
  have ca34_5 : w25.cell? ⟨w.heap.size + 1 + 1, 5, none⟩ = some (.int .i64 d3d) := (p3.2 5 _ rfl).1
  have kS := hid (show ∀ w', Keeps w25 w' → (w'.cell? ⟨w.heap.size, 0, none⟩ = some (.slice A0 n0 c0) ∧ w'.cell? ⟨w.heap.size + 1, 0, none⟩ = some (.int .i64 v2) ∧ w'.cell? ⟨w.heap.size + 1, 1, none⟩ = some (.slice A2 n2 c2) ∧ w'.cell? ⟨w.heap.size + 1, 2, none⟩ = some (.int .i64 d2a) ∧ w'.cell? ⟨w.heap.size + 1, 3, none⟩ = some (.int .i64 d2b) ∧ w'.cell? ⟨w.heap.size + 1, 4, none⟩ = some (.int .i64 d2c) ∧ w'.cell? ⟨w.heap.size + 1, 5, none⟩ = some (.int .i64 d2d) ∧ w'.cell? ⟨w.heap.size + 1 + 1, 0, none⟩ = some (.int .i64 v3) ∧ w'.cell? ⟨w.heap.size + 1 + 1, 1, none⟩ = some (.slice A3 n3 c3) ∧ w'.cell? ⟨w.heap.size + 1 + 1, 2, none⟩ = some (.int .i64 d3a) ∧ w'.cell? ⟨w.heap.size + 1 + 1, 3, none⟩ = some (.int .i64 d3b) ∧ w'.cell? ⟨w.heap.size + 1 + 1, 4, none⟩ = some (.int .i64 d3c) ∧ w'.cell? ⟨w.heap.size + 1 + 1, 5, none⟩ = some (.int .i64 d3d)) from fun w' k => ⟨cell_keeps ca32 k, cell_keeps ca33_0 k, cell_keeps ca33_1 k, cell_keeps ca33_2 k, cell_keeps ca33_3 k, cell_keeps ca33_4 k, cell_keeps ca33_5 k, cell_keeps ca34_0 k, cell_keeps ca34_1 k, cell_keeps ca34_2 k, cell_keeps ca34_3 k, cell_keeps ca34_4 k, cell_keeps ca34_5 k⟩)
  have kW := keeps_d0 w25
  have hW0 := (h0.keeps kw)
  have hW1 := (h1.keeps kw)
  have hW2 := (h2.keeps kw)
  have hW3 := (h3.keeps kw)
  go_region_held3 (fun w' => w'.cell? ⟨w.heap.size, 0, none⟩ = some (.slice A0 n0 c0) ∧ w'.cell? ⟨w.heap.size + 1, 0, none⟩ = some (.int .i64 v2) ∧ w'.cell? ⟨w.heap.size + 1, 1, none⟩ = some (.slice A2 n2 c2) ∧ w'.cell? ⟨w.heap.size + 1, 2, none⟩ = some (.int .i64 d2a) ∧ w'.cell? ⟨w.heap.size + 1, 3, none⟩ = some (.int .i64 d2b) ∧ w'.cell? ⟨w.heap.size + 1, 4, none⟩ = some (.int .i64 d2c) ∧ w'.cell? ⟨w.heap.size + 1, 5, none⟩ = some (.int .i64 d2d) ∧ w'.cell? ⟨w.heap.size + 1 + 1, 0, none⟩ = some (.int .i64 v3) ∧ w'.cell? ⟨w.heap.size + 1 + 1, 1, none⟩ = some (.slice A3 n3 c3) ∧ w'.cell? ⟨w.heap.size + 1 + 1, 2, none⟩ = some (.int .i64 d3a) ∧ w'.cell? ⟨w.heap.size + 1 + 1, 3, none⟩ = some (.int .i64 d3b) ∧ w'.cell? ⟨w.heap.size + 1 + 1, 4, none⟩ = some (.int .i64 d3c) ∧ w'.cell? ⟨w.heap.size + 1 + 1, 5, none⟩ = some (.int .i64 d3d)) (first | with_reducible exact kS.out _ (keeps_d0 _) | with_reducible exact kS.out _ kW | go_keep)
    ((first | (go_at_call 9; (with_reducible refine (toGeo_any (hW0.keeps kW)).mono ?_); rintro e wB ⟨By0, rfl, y9, kB⟩; (first | (have y0 := y0.keeps kB) | skip); (first | (have y1 := y1.keeps kB) | skip); (first | (have y2 := y2.keeps kB) | skip); (first | (have y3 := y3.keeps kB) | skip); have y0 := y9; clear y9; replace kW : Keeps w25 wB := kW.trans kB; clear kB) | (go_at_call 10; (with_reducible refine (toVariableS_any (hW1.keeps kW)).mono ?_); rintro e wB ⟨By1, rfl, y9, kB⟩; (first | (have y0 := y0.keeps kB) | skip); (first | (have y1 := y1.keeps kB) | skip); (first | (have y2 := y2.keeps kB) | skip); (first | (have y3 := y3.keeps kB) | skip); have y1 := y9; clear y9; replace kW : Keeps w25 wB := kW.trans kB; clear kB) | (go_at_call 11; (with_reducible refine (toRelease_any (hW2.keeps kW)).mono ?_); rintro e wB ⟨By2, rfl, y9, kB⟩; (first | (have y0 := y0.keeps kB) | skip); (first | (have y1 := y1.keeps kB) | skip); (first | (have y2 := y2.keeps kB) | skip); (first | (have y3 := y3.keeps kB) | skip); have y2 := y9; clear y9; replace kW : Keeps w25 wB := kW.trans kB; clear kB) | (go_at_call 11; (with_reducible refine (toRelease_any (hW3.keeps kW)).mono ?_); rintro e wB ⟨By3, rfl, y9, kB⟩; (first | (have y0 := y0.keeps kB) | skip); (first | (have y1 := y1.keeps kB) | skip); (first | (have y2 := y2.keeps kB) | skip); (first | (have y3 := y3.keeps kB) | skip); have y3 := y9; clear y9; replace kW : Keeps w25 wB := kW.trans kB; clear kB) | (go_at_call 8; refine (specPlanChanges_any y0.1 y1.1 HNK.out y2 y3).mono ?_; rintro e wB ⟨p_A0, p_N0, p_C0, p_A1, p_N1, p_C1, p_L0, p_U0, p_L1, p_U1, rfl, p_B, p_0, p_1, kB⟩; rw [HR.out]; have sW := kW.size; have sB := kB.size; rw [HR.out] at p_0; dsimp only at p_0; rw [HR.out] at p_1; dsimp only at p_1; replace p_B : w25.heap.size ≤ p_L0 ∧ p_U0 ≤ wB.heap.size ∧ w25.heap.size ≤ p_L1 ∧ p_U1 ≤ wB.heap.size ∧ (p_U0 ≤ p_L1 ∨ p_U1 ≤ p_L0) := (by first | omega | (simp at sW; omega)); dsimp only; replace kW : Keeps w25 wB := kW.trans kB; clear kB)))
  clear kS hW0 hW1 hW2 hW3
  clear ca32 ca33_0 ca33_1 ca33_2 ca33_3 ca33_4 ca33_5 ca34_0 ca34_1 ca34_2 ca34_3 ca34_4 ca34_5
  clear y0 y1 y2 y3
  have ss35 := kW.size
  replace p0 := p0.keeps kW
  replace p2 := p2.keeps kW
  replace p3 := p3.keeps kW
  replace kw := Keeps.trans kw kW
  have lt36 := p3.lt
  have sz37 := kw.size
  clear kW
  obtain ⟨wy37, rfl⟩ : ∃ u : World, u = wB := ⟨_, rfl⟩
  obtain ⟨ca38, fa38⟩ := id p0
  have ca39_0 : wy37.cell? ⟨w.heap.size + 1, 0, none⟩ = some (.int .i64 v2) := (p2.2 0 _ rfl).1
  have fa39_0 : wy37.frozen? ⟨w.heap.size + 1, 0, none⟩ = false := (p2.2 0 _ rfl).2
  have ca39_1 : wy37.cell? ⟨w.heap.size + 1, 1, none⟩ = some (.slice A2 n2 c2) := (p2.2 1 _ rfl).1
  have fa39_1 : wy37.frozen? ⟨w.heap.size + 1, 1, none⟩ = false := (p2.2 1 _ rfl).2
  have ca39_2 : wy37.cell? ⟨w.heap.size + 1, 2, none⟩ = some (.int .i64 d2a) := (p2.2 2 _ rfl).1
  have fa39_2 : wy37.frozen? ⟨w.heap.size + 1, 2, none⟩ = false := (p2.2 2 _ rfl).2
  have ca39_3 : wy37.cell? ⟨w.heap.size + 1, 3, none⟩ = some (.int .i64 d2b) := (p2.2 3 _ rfl).1
  have fa39_3 : wy37.frozen? ⟨w.heap.size + 1, 3, none⟩ = false := (p2.2 3 _ rfl).2
  have ca39_4 : wy37.cell? ⟨w.heap.size + 1, 4, none⟩ = some (.int .i64 d2c) := (p2.2 4 _ rfl).1
  have fa39_4 : wy37.frozen? ⟨w.heap.size + 1, 4, none⟩ = false := (p2.2 4 _ rfl).2
  have ca39_5 : wy37.cell? ⟨w.heap.size + 1, 5, none⟩ = some (.int .i64 d2d) := (p2.2 5 _ rfl).1
  have fa39_5 : wy37.frozen? ⟨w.heap.size + 1, 5, none⟩ = false := (p2.2 5 _ rfl).2
  have ca40_0 : wy37.cell? ⟨w.heap.size + 1 + 1, 0, none⟩ = some (.int .i64 v3) := (p3.2 0 _ rfl).1
  have fa40_0 : wy37.frozen? ⟨w.heap.size + 1 + 1, 0, none⟩ = false := (p3.2 0 _ rfl).2
  have ca40_1 : wy37.cell? ⟨w.heap.size + 1 + 1, 1, none⟩ = some (.slice A3 n3 c3) := (p3.2 1 _ rfl).1
  have fa40_1 : wy37.frozen? ⟨w.heap.size + 1 + 1, 1, none⟩ = false := (p3.2 1 _ rfl).2
  have ca40_2 : wy37.cell? ⟨w.heap.size + 1 + 1, 2, none⟩ = some (.int .i64 d3a) := (p3.2 2 _ rfl).1
  have fa40_2 : wy37.frozen? ⟨w.heap.size + 1 + 1, 2, none⟩ = false := (p3.2 2 _ rfl).2
  have ca40_3 : wy37.cell? ⟨w.heap.size + 1 + 1, 3, none⟩ = some (.int .i64 d3b) := (p3.2 3 _ rfl).1
  have fa40_3 : wy37.frozen? ⟨w.heap.size + 1 + 1, 3, none⟩ = false := (p3.2 3 _ rfl).2
  have ca40_4 : wy37.cell? ⟨w.heap.size + 1 + 1, 4, none⟩ = some (.int .i64 d3c) := (p3.2 4 _ rfl).1
  have fa40_4 : wy37.frozen? ⟨w.heap.size + 1 + 1, 4, none⟩ = false := (p3.2 4 _ rfl).2
  have ca40_5 : wy37.cell? ⟨w.heap.size + 1 + 1, 5, none⟩ = some (.int .i64 d3d) := (p3.2 5 _ rfl).1
  have fa40_5 : wy37.frozen? ⟨w.heap.size + 1 + 1, 5, none⟩ = false := (p3.2 5 _ rfl).2
  go_wp2_with fail
  clear ca38 fa38 ca39_0 fa39_0 ca39_1 fa39_1 ca39_2 fa39_2 ca39_3 fa39_3 ca39_4 fa39_4 ca39_5 fa39_5 ca40_0 fa40_0 ca40_1 fa40_1 ca40_2 fa40_2 ca40_3 fa40_3 ca40_4 fa40_4 ca40_5 fa40_5
  refine (toGeo_any (h0.keeps kw)).mono ?_
  rintro e w41 ⟨Bx0, rfl, x0, k41⟩
  have ss42 := k41.size
  replace p0 := p0.keeps k41
  replace p2 := p2.keeps k41
  replace p3 := p3.keeps k41
  replace p_0 := p_0.keeps k41
  replace p_1 := p_1.keeps k41
  replace kw := Keeps.trans kw k41
  have lt43 := p3.lt
  have sz44 := kw.size
  clear k41
  replace p0 := p0.keeps (keeps_alloc w41 (.cells #[.slice Bx0 n0 n0] 38))
  replace p2 := p2.keeps (keeps_alloc w41 (.cells #[.slice Bx0 n0 n0] 38))
  replace p3 := p3.keeps (keeps_alloc w41 (.cells #[.slice Bx0 n0 n0] 38))
  replace p_0 := p_0.keeps (keeps_alloc w41 (.cells #[.slice Bx0 n0 n0] 38))
  replace p_1 := p_1.keeps (keeps_alloc w41 (.cells #[.slice Bx0 n0 n0] 38))
  replace x0 := x0.keeps (keeps_alloc w41 (.cells #[.slice Bx0 n0 n0] 38))
  replace kw := Keeps.trans kw (keeps_alloc w41 (.cells #[.slice Bx0 n0 n0] 38))
  have bx0 : B1 (w41.alloc (.cells #[.slice Bx0 n0 n0] 38)) w41.heap.size (.slice Bx0 n0 n0) := B1.new' (by simp)
  obtain ⟨ca45, fa45⟩ := id p0
  have ca46_0 : (w41.alloc (.cells #[.slice Bx0 n0 n0] 38)).cell? ⟨w.heap.size + 1, 0, none⟩ = some (.int .i64 v2) := (p2.2 0 _ rfl).1
  have fa46_0 : (w41.alloc (.cells #[.slice Bx0 n0 n0] 38)).frozen? ⟨w.heap.size + 1, 0, none⟩ = false := (p2.2 0 _ rfl).2
  have ca46_1 : (w41.alloc (.cells #[.slice Bx0 n0 n0] 38)).cell? ⟨w.heap.size + 1, 1, none⟩ = some (.slice A2 n2 c2) := (p2.2 1 _ rfl).1
  have fa46_1 : (w41.alloc (.cells #[.slice Bx0 n0 n0] 38)).frozen? ⟨w.heap.size + 1, 1, none⟩ = false := (p2.2 1 _ rfl).2
  have ca46_2 : (w41.alloc (.cells #[.slice Bx0 n0 n0] 38)).cell? ⟨w.heap.size + 1, 2, none⟩ = some (.int .i64 d2a) := (p2.2 2 _ rfl).1
  have fa46_2 : (w41.alloc (.cells #[.slice Bx0 n0 n0] 38)).frozen? ⟨w.heap.size + 1, 2, none⟩ = false := (p2.2 2 _ rfl).2
  have ca46_3 : (w41.alloc (.cells #[.slice Bx0 n0 n0] 38)).cell? ⟨w.heap.size + 1, 3, none⟩ = some (.int .i64 d2b) := (p2.2 3 _ rfl).1
  have fa46_3 : (w41.alloc (.cells #[.slice Bx0 n0 n0] 38)).frozen? ⟨w.heap.size + 1, 3, none⟩ = false := (p2.2 3 _ rfl).2
  have ca46_4 : (w41.alloc (.cells #[.slice Bx0 n0 n0] 38)).cell? ⟨w.heap.size + 1, 4, none⟩ = some (.int .i64 d2c) := (p2.2 4 _ rfl).1
  have fa46_4 : (w41.alloc (.cells #[.slice Bx0 n0 n0] 38)).frozen? ⟨w.heap.size + 1, 4, none⟩ = false := (p2.2 4 _ rfl).2
  have ca46_5 : (w41.alloc (.cells #[.slice Bx0 n0 n0] 38)).cell? ⟨w.heap.size + 1, 5, none⟩ = some (.int .i64 d2d) := (p2.2 5 _ rfl).1
  have fa46_5 : (w41.alloc (.cells #[.slice Bx0 n0 n0] 38)).frozen? ⟨w.heap.size + 1, 5, none⟩ = false := (p2.2 5 _ rfl).2
  have ca47_0 : (w41.alloc (.cells #[.slice Bx0 n0 n0] 38)).cell? ⟨w.heap.size + 1 + 1, 0, none⟩ = some (.int .i64 v3) := (p3.2 0 _ rfl).1
  have fa47_0 : (w41.alloc (.cells #[.slice Bx0 n0 n0] 38)).frozen? ⟨w.heap.size + 1 + 1, 0, none⟩ = false := (p3.2 0 _ rfl).2
  have ca47_1 : (w41.alloc (.cells #[.slice Bx0 n0 n0] 38)).cell? ⟨w.heap.size + 1 + 1, 1, none⟩ = some (.slice A3 n3 c3) := (p3.2 1 _ rfl).1
  have fa47_1 : (w41.alloc (.cells #[.slice Bx0 n0 n0] 38)).frozen? ⟨w.heap.size + 1 + 1, 1, none⟩ = false := (p3.2 1 _ rfl).2
  have ca47_2 : (w41.alloc (.cells #[.slice Bx0 n0 n0] 38)).cell? ⟨w.heap.size + 1 + 1, 2, none⟩ = some (.int .i64 d3a) := (p3.2 2 _ rfl).1
  have fa47_2 : (w41.alloc (.cells #[.slice Bx0 n0 n0] 38)).frozen? ⟨w.heap.size + 1 + 1, 2, none⟩ = false := (p3.2 2 _ rfl).2
  have ca47_3 : (w41.alloc (.cells #[.slice Bx0 n0 n0] 38)).cell? ⟨w.heap.size + 1 + 1, 3, none⟩ = some (.int .i64 d3b) := (p3.2 3 _ rfl).1
  have fa47_3 : (w41.alloc (.cells #[.slice Bx0 n0 n0] 38)).frozen? ⟨w.heap.size + 1 + 1, 3, none⟩ = false := (p3.2 3 _ rfl).2
  have ca47_4 : (w41.alloc (.cells #[.slice Bx0 n0 n0] 38)).cell? ⟨w.heap.size + 1 + 1, 4, none⟩ = some (.int .i64 d3c) := (p3.2 4 _ rfl).1
  have fa47_4 : (w41.alloc (.cells #[.slice Bx0 n0 n0] 38)).frozen? ⟨w.heap.size + 1 + 1, 4, none⟩ = false := (p3.2 4 _ rfl).2
  have ca47_5 : (w41.alloc (.cells #[.slice Bx0 n0 n0] 38)).cell? ⟨w.heap.size + 1 + 1, 5, none⟩ = some (.int .i64 d3d) := (p3.2 5 _ rfl).1
  have fa47_5 : (w41.alloc (.cells #[.slice Bx0 n0 n0] 38)).frozen? ⟨w.heap.size + 1 + 1, 5, none⟩ = false := (p3.2 5 _ rfl).2
  obtain ⟨ca48, fa48⟩ := id bx0
  go_wp2_with fail
  clear ca45 fa45 ca46_0 fa46_0 ca46_1 fa46_1 ca46_2 fa46_2 ca46_3 fa46_3 ca46_4 fa46_4 ca46_5 fa46_5 ca47_0 fa47_0 ca47_1 fa47_1 ca47_2 fa47_2 ca47_3 fa47_3 ca47_4 fa47_4 ca47_5 fa47_5 ca48 fa48
  refine (toVariableS_any (h1.keeps kw)).mono ?_
  rintro e w49 ⟨Bx1, rfl, x1, k49⟩
  have ss50 := k49.size
  simp at ss50
  replace p0 := p0.keeps k49
  replace p2 := p2.keeps k49
  replace p3 := p3.keeps k49
  replace bx0 := bx0.keeps k49
  replace p_0 := p_0.keeps k49
  replace p_1 := p_1.keeps k49
  replace x0 := x0.keeps k49
  replace kw := Keeps.trans kw k49
  have lt51 := bx0.lt
  have sz52 := kw.size
  clear k49
  replace x1 := x1.widen (lo' := w41.heap.size + 1) (by simp) (Nat.le_refl _) (Nat.le_refl _)
  obtain ⟨ca53, fa53⟩ := id p0
  have ca54_0 : w49.cell? ⟨w.heap.size + 1, 0, none⟩ = some (.int .i64 v2) := (p2.2 0 _ rfl).1
  have fa54_0 : w49.frozen? ⟨w.heap.size + 1, 0, none⟩ = false := (p2.2 0 _ rfl).2
  have ca54_1 : w49.cell? ⟨w.heap.size + 1, 1, none⟩ = some (.slice A2 n2 c2) := (p2.2 1 _ rfl).1
  have fa54_1 : w49.frozen? ⟨w.heap.size + 1, 1, none⟩ = false := (p2.2 1 _ rfl).2
  have ca54_2 : w49.cell? ⟨w.heap.size + 1, 2, none⟩ = some (.int .i64 d2a) := (p2.2 2 _ rfl).1
  have fa54_2 : w49.frozen? ⟨w.heap.size + 1, 2, none⟩ = false := (p2.2 2 _ rfl).2
  have ca54_3 : w49.cell? ⟨w.heap.size + 1, 3, none⟩ = some (.int .i64 d2b) := (p2.2 3 _ rfl).1
  have fa54_3 : w49.frozen? ⟨w.heap.size + 1, 3, none⟩ = false := (p2.2 3 _ rfl).2
  have ca54_4 : w49.cell? ⟨w.heap.size + 1, 4, none⟩ = some (.int .i64 d2c) := (p2.2 4 _ rfl).1
  have fa54_4 : w49.frozen? ⟨w.heap.size + 1, 4, none⟩ = false := (p2.2 4 _ rfl).2
  have ca54_5 : w49.cell? ⟨w.heap.size + 1, 5, none⟩ = some (.int .i64 d2d) := (p2.2 5 _ rfl).1
  have fa54_5 : w49.frozen? ⟨w.heap.size + 1, 5, none⟩ = false := (p2.2 5 _ rfl).2
  have ca55_0 : w49.cell? ⟨w.heap.size + 1 + 1, 0, none⟩ = some (.int .i64 v3) := (p3.2 0 _ rfl).1
  have fa55_0 : w49.frozen? ⟨w.heap.size + 1 + 1, 0, none⟩ = false := (p3.2 0 _ rfl).2
  have ca55_1 : w49.cell? ⟨w.heap.size + 1 + 1, 1, none⟩ = some (.slice A3 n3 c3) := (p3.2 1 _ rfl).1
  have fa55_1 : w49.frozen? ⟨w.heap.size + 1 + 1, 1, none⟩ = false := (p3.2 1 _ rfl).2
  have ca55_2 : w49.cell? ⟨w.heap.size + 1 + 1, 2, none⟩ = some (.int .i64 d3a) := (p3.2 2 _ rfl).1
  have fa55_2 : w49.frozen? ⟨w.heap.size + 1 + 1, 2, none⟩ = false := (p3.2 2 _ rfl).2
  have ca55_3 : w49.cell? ⟨w.heap.size + 1 + 1, 3, none⟩ = some (.int .i64 d3b) := (p3.2 3 _ rfl).1
  have fa55_3 : w49.frozen? ⟨w.heap.size + 1 + 1, 3, none⟩ = false := (p3.2 3 _ rfl).2
  have ca55_4 : w49.cell? ⟨w.heap.size + 1 + 1, 4, none⟩ = some (.int .i64 d3c) := (p3.2 4 _ rfl).1
  have fa55_4 : w49.frozen? ⟨w.heap.size + 1 + 1, 4, none⟩ = false := (p3.2 4 _ rfl).2
  have ca55_5 : w49.cell? ⟨w.heap.size + 1 + 1, 5, none⟩ = some (.int .i64 d3d) := (p3.2 5 _ rfl).1
  have fa55_5 : w49.frozen? ⟨w.heap.size + 1 + 1, 5, none⟩ = false := (p3.2 5 _ rfl).2
  obtain ⟨ca56, fa56⟩ := id bx0
  go_wp2_with fail
  clear ca53 fa53 ca54_0 fa54_0 ca54_1 fa54_1 ca54_2 fa54_2 ca54_3 fa54_3 ca54_4 fa54_4 ca54_5 fa54_5 ca55_0 fa55_0 ca55_1 fa55_1 ca55_2 fa55_2 ca55_3 fa55_3 ca55_4 fa55_4 ca55_5 fa55_5 ca56 fa56
  refine (toRelease_any (h2.keeps kw)).mono ?_
  rintro e w57 ⟨Bx2, rfl, x2, k57⟩
  have ss58 := k57.size
  replace p0 := p0.keeps k57
  replace p2 := p2.keeps k57
  replace p3 := p3.keeps k57
  replace bx0 := bx0.keeps k57
  replace p_0 := p_0.keeps k57
  replace p_1 := p_1.keeps k57
  replace x0 := x0.keeps k57
  replace x1 := x1.keeps k57
  replace kw := Keeps.trans kw k57
  have lt59 := bx0.lt
  have sz60 := kw.size
  clear k57
  replace p0 := p0.keeps (keeps_alloc w57 (.cells #[.int .i64 v2, .slice Bx2 n2 n2, .int .i64 d2a, .int .i64 d2b, .int .i64 d2c, .int .i64 d2d] 47))
  replace p2 := p2.keeps (keeps_alloc w57 (.cells #[.int .i64 v2, .slice Bx2 n2 n2, .int .i64 d2a, .int .i64 d2b, .int .i64 d2c, .int .i64 d2d] 47))
  replace p3 := p3.keeps (keeps_alloc w57 (.cells #[.int .i64 v2, .slice Bx2 n2 n2, .int .i64 d2a, .int .i64 d2b, .int .i64 d2c, .int .i64 d2d] 47))
  replace bx0 := bx0.keeps (keeps_alloc w57 (.cells #[.int .i64 v2, .slice Bx2 n2 n2, .int .i64 d2a, .int .i64 d2b, .int .i64 d2c, .int .i64 d2d] 47))
  replace p_0 := p_0.keeps (keeps_alloc w57 (.cells #[.int .i64 v2, .slice Bx2 n2 n2, .int .i64 d2a, .int .i64 d2b, .int .i64 d2c, .int .i64 d2d] 47))
  replace p_1 := p_1.keeps (keeps_alloc w57 (.cells #[.int .i64 v2, .slice Bx2 n2 n2, .int .i64 d2a, .int .i64 d2b, .int .i64 d2c, .int .i64 d2d] 47))
  replace x0 := x0.keeps (keeps_alloc w57 (.cells #[.int .i64 v2, .slice Bx2 n2 n2, .int .i64 d2a, .int .i64 d2b, .int .i64 d2c, .int .i64 d2d] 47))
  replace x1 := x1.keeps (keeps_alloc w57 (.cells #[.int .i64 v2, .slice Bx2 n2 n2, .int .i64 d2a, .int .i64 d2b, .int .i64 d2c, .int .i64 d2d] 47))
  replace x2 := x2.keeps (keeps_alloc w57 (.cells #[.int .i64 v2, .slice Bx2 n2 n2, .int .i64 d2a, .int .i64 d2b, .int .i64 d2c, .int .i64 d2d] 47))
  replace kw := Keeps.trans kw (keeps_alloc w57 (.cells #[.int .i64 v2, .slice Bx2 n2 n2, .int .i64 d2a, .int .i64 d2b, .int .i64 d2c, .int .i64 d2d] 47))
  have bx2 : Bl (w57.alloc (.cells #[.int .i64 v2, .slice Bx2 n2 n2, .int .i64 d2a, .int .i64 d2b, .int .i64 d2c, .int .i64 d2d] 47)) w57.heap.size [.int .i64 v2, .slice Bx2 n2 n2, .int .i64 d2a, .int .i64 d2b, .int .i64 d2c, .int .i64 d2d] := Bl.new' (by simp) (by simp)
  obtain ⟨ca61, fa61⟩ := id p0
  have ca62_0 : (w57.alloc (.cells #[.int .i64 v2, .slice Bx2 n2 n2, .int .i64 d2a, .int .i64 d2b, .int .i64 d2c, .int .i64 d2d] 47)).cell? ⟨w.heap.size + 1, 0, none⟩ = some (.int .i64 v2) := (p2.2 0 _ rfl).1
  have fa62_0 : (w57.alloc (.cells #[.int .i64 v2, .slice Bx2 n2 n2, .int .i64 d2a, .int .i64 d2b, .int .i64 d2c, .int .i64 d2d] 47)).frozen? ⟨w.heap.size + 1, 0, none⟩ = false := (p2.2 0 _ rfl).2
  have ca62_1 : (w57.alloc (.cells #[.int .i64 v2, .slice Bx2 n2 n2, .int .i64 d2a, .int .i64 d2b, .int .i64 d2c, .int .i64 d2d] 47)).cell? ⟨w.heap.size + 1, 1, none⟩ = some (.slice A2 n2 c2) := (p2.2 1 _ rfl).1
  have fa62_1 : (w57.alloc (.cells #[.int .i64 v2, .slice Bx2 n2 n2, .int .i64 d2a, .int .i64 d2b, .int .i64 d2c, .int .i64 d2d] 47)).frozen? ⟨w.heap.size + 1, 1, none⟩ = false := (p2.2 1 _ rfl).2
  have ca62_2 : (w57.alloc (.cells #[.int .i64 v2, .slice Bx2 n2 n2, .int .i64 d2a, .int .i64 d2b, .int .i64 d2c, .int .i64 d2d] 47)).cell? ⟨w.heap.size + 1, 2, none⟩ = some (.int .i64 d2a) := (p2.2 2 _ rfl).1
  have fa62_2 : (w57.alloc (.cells #[.int .i64 v2, .slice Bx2 n2 n2, .int .i64 d2a, .int .i64 d2b, .int .i64 d2c, .int .i64 d2d] 47)).frozen? ⟨w.heap.size + 1, 2, none⟩ = false := (p2.2 2 _ rfl).2
  have ca62_3 : (w57.alloc (.cells #[.int .i64 v2, .slice Bx2 n2 n2, .int .i64 d2a, .int .i64 d2b, .int .i64 d2c, .int .i64 d2d] 47)).cell? ⟨w.heap.size + 1, 3, none⟩ = some (.int .i64 d2b) := (p2.2 3 _ rfl).1
  have fa62_3 : (w57.alloc (.cells #[.int .i64 v2, .slice Bx2 n2 n2, .int .i64 d2a, .int .i64 d2b, .int .i64 d2c, .int .i64 d2d] 47)).frozen? ⟨w.heap.size + 1, 3, none⟩ = false := (p2.2 3 _ rfl).2
  have ca62_4 : (w57.alloc (.cells #[.int .i64 v2, .slice Bx2 n2 n2, .int .i64 d2a, .int .i64 d2b, .int .i64 d2c, .int .i64 d2d] 47)).cell? ⟨w.heap.size + 1, 4, none⟩ = some (.int .i64 d2c) := (p2.2 4 _ rfl).1
  have fa62_4 : (w57.alloc (.cells #[.int .i64 v2, .slice Bx2 n2 n2, .int .i64 d2a, .int .i64 d2b, .int .i64 d2c, .int .i64 d2d] 47)).frozen? ⟨w.heap.size + 1, 4, none⟩ = false := (p2.2 4 _ rfl).2
  have ca62_5 : (w57.alloc (.cells #[.int .i64 v2, .slice Bx2 n2 n2, .int .i64 d2a, .int .i64 d2b, .int .i64 d2c, .int .i64 d2d] 47)).cell? ⟨w.heap.size + 1, 5, none⟩ = some (.int .i64 d2d) := (p2.2 5 _ rfl).1
  have fa62_5 : (w57.alloc (.cells #[.int .i64 v2, .slice Bx2 n2 n2, .int .i64 d2a, .int .i64 d2b, .int .i64 d2c, .int .i64 d2d] 47)).frozen? ⟨w.heap.size + 1, 5, none⟩ = false := (p2.2 5 _ rfl).2
  have ca63_0 : (w57.alloc (.cells #[.int .i64 v2, .slice Bx2 n2 n2, .int .i64 d2a, .int .i64 d2b, .int .i64 d2c, .int .i64 d2d] 47)).cell? ⟨w.heap.size + 1 + 1, 0, none⟩ = some (.int .i64 v3) := (p3.2 0 _ rfl).1
  have fa63_0 : (w57.alloc (.cells #[.int .i64 v2, .slice Bx2 n2 n2, .int .i64 d2a, .int .i64 d2b, .int .i64 d2c, .int .i64 d2d] 47)).frozen? ⟨w.heap.size + 1 + 1, 0, none⟩ = false := (p3.2 0 _ rfl).2
  have ca63_1 : (w57.alloc (.cells #[.int .i64 v2, .slice Bx2 n2 n2, .int .i64 d2a, .int .i64 d2b, .int .i64 d2c, .int .i64 d2d] 47)).cell? ⟨w.heap.size + 1 + 1, 1, none⟩ = some (.slice A3 n3 c3) := (p3.2 1 _ rfl).1
  have fa63_1 : (w57.alloc (.cells #[.int .i64 v2, .slice Bx2 n2 n2, .int .i64 d2a, .int .i64 d2b, .int .i64 d2c, .int .i64 d2d] 47)).frozen? ⟨w.heap.size + 1 + 1, 1, none⟩ = false := (p3.2 1 _ rfl).2
  have ca63_2 : (w57.alloc (.cells #[.int .i64 v2, .slice Bx2 n2 n2, .int .i64 d2a, .int .i64 d2b, .int .i64 d2c, .int .i64 d2d] 47)).cell? ⟨w.heap.size + 1 + 1, 2, none⟩ = some (.int .i64 d3a) := (p3.2 2 _ rfl).1
  have fa63_2 : (w57.alloc (.cells #[.int .i64 v2, .slice Bx2 n2 n2, .int .i64 d2a, .int .i64 d2b, .int .i64 d2c, .int .i64 d2d] 47)).frozen? ⟨w.heap.size + 1 + 1, 2, none⟩ = false := (p3.2 2 _ rfl).2
  have ca63_3 : (w57.alloc (.cells #[.int .i64 v2, .slice Bx2 n2 n2, .int .i64 d2a, .int .i64 d2b, .int .i64 d2c, .int .i64 d2d] 47)).cell? ⟨w.heap.size + 1 + 1, 3, none⟩ = some (.int .i64 d3b) := (p3.2 3 _ rfl).1
  have fa63_3 : (w57.alloc (.cells #[.int .i64 v2, .slice Bx2 n2 n2, .int .i64 d2a, .int .i64 d2b, .int .i64 d2c, .int .i64 d2d] 47)).frozen? ⟨w.heap.size + 1 + 1, 3, none⟩ = false := (p3.2 3 _ rfl).2
  have ca63_4 : (w57.alloc (.cells #[.int .i64 v2, .slice Bx2 n2 n2, .int .i64 d2a, .int .i64 d2b, .int .i64 d2c, .int .i64 d2d] 47)).cell? ⟨w.heap.size + 1 + 1, 4, none⟩ = some (.int .i64 d3c) := (p3.2 4 _ rfl).1
  have fa63_4 : (w57.alloc (.cells #[.int .i64 v2, .slice Bx2 n2 n2, .int .i64 d2a, .int .i64 d2b, .int .i64 d2c, .int .i64 d2d] 47)).frozen? ⟨w.heap.size + 1 + 1, 4, none⟩ = false := (p3.2 4 _ rfl).2
  have ca63_5 : (w57.alloc (.cells #[.int .i64 v2, .slice Bx2 n2 n2, .int .i64 d2a, .int .i64 d2b, .int .i64 d2c, .int .i64 d2d] 47)).cell? ⟨w.heap.size + 1 + 1, 5, none⟩ = some (.int .i64 d3d) := (p3.2 5 _ rfl).1
  have fa63_5 : (w57.alloc (.cells #[.int .i64 v2, .slice Bx2 n2 n2, .int .i64 d2a, .int .i64 d2b, .int .i64 d2c, .int .i64 d2d] 47)).frozen? ⟨w.heap.size + 1 + 1, 5, none⟩ = false := (p3.2 5 _ rfl).2
  obtain ⟨ca64, fa64⟩ := id bx0
  have ca65_0 : (w57.alloc (.cells #[.int .i64 v2, .slice Bx2 n2 n2, .int .i64 d2a, .int .i64 d2b, .int .i64 d2c, .int .i64 d2d] 47)).cell? ⟨w57.heap.size, 0, none⟩ = some (.int .i64 v2) := (bx2.2 0 _ rfl).1
  have fa65_0 : (w57.alloc (.cells #[.int .i64 v2, .slice Bx2 n2 n2, .int .i64 d2a, .int .i64 d2b, .int .i64 d2c, .int .i64 d2d] 47)).frozen? ⟨w57.heap.size, 0, none⟩ = false := (bx2.2 0 _ rfl).2
  have ca65_1 : (w57.alloc (.cells #[.int .i64 v2, .slice Bx2 n2 n2, .int .i64 d2a, .int .i64 d2b, .int .i64 d2c, .int .i64 d2d] 47)).cell? ⟨w57.heap.size, 1, none⟩ = some (.slice Bx2 n2 n2) := (bx2.2 1 _ rfl).1
  have fa65_1 : (w57.alloc (.cells #[.int .i64 v2, .slice Bx2 n2 n2, .int .i64 d2a, .int .i64 d2b, .int .i64 d2c, .int .i64 d2d] 47)).frozen? ⟨w57.heap.size, 1, none⟩ = false := (bx2.2 1 _ rfl).2
  have ca65_2 : (w57.alloc (.cells #[.int .i64 v2, .slice Bx2 n2 n2, .int .i64 d2a, .int .i64 d2b, .int .i64 d2c, .int .i64 d2d] 47)).cell? ⟨w57.heap.size, 2, none⟩ = some (.int .i64 d2a) := (bx2.2 2 _ rfl).1
  have fa65_2 : (w57.alloc (.cells #[.int .i64 v2, .slice Bx2 n2 n2, .int .i64 d2a, .int .i64 d2b, .int .i64 d2c, .int .i64 d2d] 47)).frozen? ⟨w57.heap.size, 2, none⟩ = false := (bx2.2 2 _ rfl).2
  have ca65_3 : (w57.alloc (.cells #[.int .i64 v2, .slice Bx2 n2 n2, .int .i64 d2a, .int .i64 d2b, .int .i64 d2c, .int .i64 d2d] 47)).cell? ⟨w57.heap.size, 3, none⟩ = some (.int .i64 d2b) := (bx2.2 3 _ rfl).1
  have fa65_3 : (w57.alloc (.cells #[.int .i64 v2, .slice Bx2 n2 n2, .int .i64 d2a, .int .i64 d2b, .int .i64 d2c, .int .i64 d2d] 47)).frozen? ⟨w57.heap.size, 3, none⟩ = false := (bx2.2 3 _ rfl).2
  have ca65_4 : (w57.alloc (.cells #[.int .i64 v2, .slice Bx2 n2 n2, .int .i64 d2a, .int .i64 d2b, .int .i64 d2c, .int .i64 d2d] 47)).cell? ⟨w57.heap.size, 4, none⟩ = some (.int .i64 d2c) := (bx2.2 4 _ rfl).1
  have fa65_4 : (w57.alloc (.cells #[.int .i64 v2, .slice Bx2 n2 n2, .int .i64 d2a, .int .i64 d2b, .int .i64 d2c, .int .i64 d2d] 47)).frozen? ⟨w57.heap.size, 4, none⟩ = false := (bx2.2 4 _ rfl).2
  have ca65_5 : (w57.alloc (.cells #[.int .i64 v2, .slice Bx2 n2 n2, .int .i64 d2a, .int .i64 d2b, .int .i64 d2c, .int .i64 d2d] 47)).cell? ⟨w57.heap.size, 5, none⟩ = some (.int .i64 d2d) := (bx2.2 5 _ rfl).1
  have fa65_5 : (w57.alloc (.cells #[.int .i64 v2, .slice Bx2 n2 n2, .int .i64 d2a, .int .i64 d2b, .int .i64 d2c, .int .i64 d2d] 47)).frozen? ⟨w57.heap.size, 5, none⟩ = false := (bx2.2 5 _ rfl).2
  go_wp2_with fail
  clear ca61 fa61 ca62_0 fa62_0 ca62_1 fa62_1 ca62_2 fa62_2 ca62_3 fa62_3 ca62_4 fa62_4 ca62_5 fa62_5 ca63_0 fa63_0 ca63_1 fa63_1 ca63_2 fa63_2 ca63_3 fa63_3 ca63_4 fa63_4 ca63_5 fa63_5 ca64 fa64 ca65_0 fa65_0 ca65_1 fa65_1 ca65_2 fa65_2 ca65_3 fa65_3 ca65_4 fa65_4 ca65_5 fa65_5
  refine (toRelease_any (h3.keeps kw)).mono ?_
  rintro e w66 ⟨Bx3, rfl, x3, k66⟩
  have ss67 := k66.size
  simp at ss67
  replace p0 := p0.keeps k66
  replace p2 := p2.keeps k66
  replace p3 := p3.keeps k66
  replace bx0 := bx0.keeps k66
  replace bx2 := bx2.keeps k66
  replace p_0 := p_0.keeps k66
  replace p_1 := p_1.keeps k66
  replace x0 := x0.keeps k66
  replace x1 := x1.keeps k66
  replace x2 := x2.keeps k66
  replace kw := Keeps.trans kw k66
  have lt68 := bx2.lt
  have sz69 := kw.size
  clear k66
  replace x3 := x3.widen (lo' := w57.heap.size + 1) (by simp) (Nat.le_refl _) (Nat.le_refl _)
  replace p0 := p0.keeps (keeps_alloc w66 (.cells #[.int .i64 v3, .slice Bx3 n3 n3, .int .i64 d3a, .int .i64 d3b, .int .i64 d3c, .int .i64 d3d] 47))
  replace p2 := p2.keeps (keeps_alloc w66 (.cells #[.int .i64 v3, .slice Bx3 n3 n3, .int .i64 d3a, .int .i64 d3b, .int .i64 d3c, .int .i64 d3d] 47))
  replace p3 := p3.keeps (keeps_alloc w66 (.cells #[.int .i64 v3, .slice Bx3 n3 n3, .int .i64 d3a, .int .i64 d3b, .int .i64 d3c, .int .i64 d3d] 47))
  replace bx0 := bx0.keeps (keeps_alloc w66 (.cells #[.int .i64 v3, .slice Bx3 n3 n3, .int .i64 d3a, .int .i64 d3b, .int .i64 d3c, .int .i64 d3d] 47))
  replace bx2 := bx2.keeps (keeps_alloc w66 (.cells #[.int .i64 v3, .slice Bx3 n3 n3, .int .i64 d3a, .int .i64 d3b, .int .i64 d3c, .int .i64 d3d] 47))
  replace p_0 := p_0.keeps (keeps_alloc w66 (.cells #[.int .i64 v3, .slice Bx3 n3 n3, .int .i64 d3a, .int .i64 d3b, .int .i64 d3c, .int .i64 d3d] 47))
  replace p_1 := p_1.keeps (keeps_alloc w66 (.cells #[.int .i64 v3, .slice Bx3 n3 n3, .int .i64 d3a, .int .i64 d3b, .int .i64 d3c, .int .i64 d3d] 47))
  replace x0 := x0.keeps (keeps_alloc w66 (.cells #[.int .i64 v3, .slice Bx3 n3 n3, .int .i64 d3a, .int .i64 d3b, .int .i64 d3c, .int .i64 d3d] 47))
  replace x1 := x1.keeps (keeps_alloc w66 (.cells #[.int .i64 v3, .slice Bx3 n3 n3, .int .i64 d3a, .int .i64 d3b, .int .i64 d3c, .int .i64 d3d] 47))
  replace x2 := x2.keeps (keeps_alloc w66 (.cells #[.int .i64 v3, .slice Bx3 n3 n3, .int .i64 d3a, .int .i64 d3b, .int .i64 d3c, .int .i64 d3d] 47))
  replace x3 := x3.keeps (keeps_alloc w66 (.cells #[.int .i64 v3, .slice Bx3 n3 n3, .int .i64 d3a, .int .i64 d3b, .int .i64 d3c, .int .i64 d3d] 47))
  replace kw := Keeps.trans kw (keeps_alloc w66 (.cells #[.int .i64 v3, .slice Bx3 n3 n3, .int .i64 d3a, .int .i64 d3b, .int .i64 d3c, .int .i64 d3d] 47))
  have bx3 : Bl (w66.alloc (.cells #[.int .i64 v3, .slice Bx3 n3 n3, .int .i64 d3a, .int .i64 d3b, .int .i64 d3c, .int .i64 d3d] 47)) w66.heap.size [.int .i64 v3, .slice Bx3 n3 n3, .int .i64 d3a, .int .i64 d3b, .int .i64 d3c, .int .i64 d3d] := Bl.new' (by simp) (by simp)
  obtain ⟨ca70, fa70⟩ := id p0
  have ca71_0 : (w66.alloc (.cells #[.int .i64 v3, .slice Bx3 n3 n3, .int .i64 d3a, .int .i64 d3b, .int .i64 d3c, .int .i64 d3d] 47)).cell? ⟨w.heap.size + 1, 0, none⟩ = some (.int .i64 v2) := (p2.2 0 _ rfl).1
  have fa71_0 : (w66.alloc (.cells #[.int .i64 v3, .slice Bx3 n3 n3, .int .i64 d3a, .int .i64 d3b, .int .i64 d3c, .int .i64 d3d] 47)).frozen? ⟨w.heap.size + 1, 0, none⟩ = false := (p2.2 0 _ rfl).2
  have ca71_1 : (w66.alloc (.cells #[.int .i64 v3, .slice Bx3 n3 n3, .int .i64 d3a, .int .i64 d3b, .int .i64 d3c, .int .i64 d3d] 47)).cell? ⟨w.heap.size + 1, 1, none⟩ = some (.slice A2 n2 c2) := (p2.2 1 _ rfl).1
  have fa71_1 : (w66.alloc (.cells #[.int .i64 v3, .slice Bx3 n3 n3, .int .i64 d3a, .int .i64 d3b, .int .i64 d3c, .int .i64 d3d] 47)).frozen? ⟨w.heap.size + 1, 1, none⟩ = false := (p2.2 1 _ rfl).2
  have ca71_2 : (w66.alloc (.cells #[.int .i64 v3, .slice Bx3 n3 n3, .int .i64 d3a, .int .i64 d3b, .int .i64 d3c, .int .i64 d3d] 47)).cell? ⟨w.heap.size + 1, 2, none⟩ = some (.int .i64 d2a) := (p2.2 2 _ rfl).1
  have fa71_2 : (w66.alloc (.cells #[.int .i64 v3, .slice Bx3 n3 n3, .int .i64 d3a, .int .i64 d3b, .int .i64 d3c, .int .i64 d3d] 47)).frozen? ⟨w.heap.size + 1, 2, none⟩ = false := (p2.2 2 _ rfl).2
  have ca71_3 : (w66.alloc (.cells #[.int .i64 v3, .slice Bx3 n3 n3, .int .i64 d3a, .int .i64 d3b, .int .i64 d3c, .int .i64 d3d] 47)).cell? ⟨w.heap.size + 1, 3, none⟩ = some (.int .i64 d2b) := (p2.2 3 _ rfl).1
  have fa71_3 : (w66.alloc (.cells #[.int .i64 v3, .slice Bx3 n3 n3, .int .i64 d3a, .int .i64 d3b, .int .i64 d3c, .int .i64 d3d] 47)).frozen? ⟨w.heap.size + 1, 3, none⟩ = false := (p2.2 3 _ rfl).2
  have ca71_4 : (w66.alloc (.cells #[.int .i64 v3, .slice Bx3 n3 n3, .int .i64 d3a, .int .i64 d3b, .int .i64 d3c, .int .i64 d3d] 47)).cell? ⟨w.heap.size + 1, 4, none⟩ = some (.int .i64 d2c) := (p2.2 4 _ rfl).1
  have fa71_4 : (w66.alloc (.cells #[.int .i64 v3, .slice Bx3 n3 n3, .int .i64 d3a, .int .i64 d3b, .int .i64 d3c, .int .i64 d3d] 47)).frozen? ⟨w.heap.size + 1, 4, none⟩ = false := (p2.2 4 _ rfl).2
  have ca71_5 : (w66.alloc (.cells #[.int .i64 v3, .slice Bx3 n3 n3, .int .i64 d3a, .int .i64 d3b, .int .i64 d3c, .int .i64 d3d] 47)).cell? ⟨w.heap.size + 1, 5, none⟩ = some (.int .i64 d2d) := (p2.2 5 _ rfl).1
  have fa71_5 : (w66.alloc (.cells #[.int .i64 v3, .slice Bx3 n3 n3, .int .i64 d3a, .int .i64 d3b, .int .i64 d3c, .int .i64 d3d] 47)).frozen? ⟨w.heap.size + 1, 5, none⟩ = false := (p2.2 5 _ rfl).2
  have ca72_0 : (w66.alloc (.cells #[.int .i64 v3, .slice Bx3 n3 n3, .int .i64 d3a, .int .i64 d3b, .int .i64 d3c, .int .i64 d3d] 47)).cell? ⟨w.heap.size + 1 + 1, 0, none⟩ = some (.int .i64 v3) := (p3.2 0 _ rfl).1
  have fa72_0 : (w66.alloc (.cells #[.int .i64 v3, .slice Bx3 n3 n3, .int .i64 d3a, .int .i64 d3b, .int .i64 d3c, .int .i64 d3d] 47)).frozen? ⟨w.heap.size + 1 + 1, 0, none⟩ = false := (p3.2 0 _ rfl).2
  have ca72_1 : (w66.alloc (.cells #[.int .i64 v3, .slice Bx3 n3 n3, .int .i64 d3a, .int .i64 d3b, .int .i64 d3c, .int .i64 d3d] 47)).cell? ⟨w.heap.size + 1 + 1, 1, none⟩ = some (.slice A3 n3 c3) := (p3.2 1 _ rfl).1
  have fa72_1 : (w66.alloc (.cells #[.int .i64 v3, .slice Bx3 n3 n3, .int .i64 d3a, .int .i64 d3b, .int .i64 d3c, .int .i64 d3d] 47)).frozen? ⟨w.heap.size + 1 + 1, 1, none⟩ = false := (p3.2 1 _ rfl).2
  have ca72_2 : (w66.alloc (.cells #[.int .i64 v3, .slice Bx3 n3 n3, .int .i64 d3a, .int .i64 d3b, .int .i64 d3c, .int .i64 d3d] 47)).cell? ⟨w.heap.size + 1 + 1, 2, none⟩ = some (.int .i64 d3a) := (p3.2 2 _ rfl).1
  have fa72_2 : (w66.alloc (.cells #[.int .i64 v3, .slice Bx3 n3 n3, .int .i64 d3a, .int .i64 d3b, .int .i64 d3c, .int .i64 d3d] 47)).frozen? ⟨w.heap.size + 1 + 1, 2, none⟩ = false := (p3.2 2 _ rfl).2
  have ca72_3 : (w66.alloc (.cells #[.int .i64 v3, .slice Bx3 n3 n3, .int .i64 d3a, .int .i64 d3b, .int .i64 d3c, .int .i64 d3d] 47)).cell? ⟨w.heap.size + 1 + 1, 3, none⟩ = some (.int .i64 d3b) := (p3.2 3 _ rfl).1
  have fa72_3 : (w66.alloc (.cells #[.int .i64 v3, .slice Bx3 n3 n3, .int .i64 d3a, .int .i64 d3b, .int .i64 d3c, .int .i64 d3d] 47)).frozen? ⟨w.heap.size + 1 + 1, 3, none⟩ = false := (p3.2 3 _ rfl).2
  have ca72_4 : (w66.alloc (.cells #[.int .i64 v3, .slice Bx3 n3 n3, .int .i64 d3a, .int .i64 d3b, .int .i64 d3c, .int .i64 d3d] 47)).cell? ⟨w.heap.size + 1 + 1, 4, none⟩ = some (.int .i64 d3c) := (p3.2 4 _ rfl).1
  have fa72_4 : (w66.alloc (.cells #[.int .i64 v3, .slice Bx3 n3 n3, .int .i64 d3a, .int .i64 d3b, .int .i64 d3c, .int .i64 d3d] 47)).frozen? ⟨w.heap.size + 1 + 1, 4, none⟩ = false := (p3.2 4 _ rfl).2
  have ca72_5 : (w66.alloc (.cells #[.int .i64 v3, .slice Bx3 n3 n3, .int .i64 d3a, .int .i64 d3b, .int .i64 d3c, .int .i64 d3d] 47)).cell? ⟨w.heap.size + 1 + 1, 5, none⟩ = some (.int .i64 d3d) := (p3.2 5 _ rfl).1
  have fa72_5 : (w66.alloc (.cells #[.int .i64 v3, .slice Bx3 n3 n3, .int .i64 d3a, .int .i64 d3b, .int .i64 d3c, .int .i64 d3d] 47)).frozen? ⟨w.heap.size + 1 + 1, 5, none⟩ = false := (p3.2 5 _ rfl).2
  obtain ⟨ca73, fa73⟩ := id bx0
  have ca74_0 : (w66.alloc (.cells #[.int .i64 v3, .slice Bx3 n3 n3, .int .i64 d3a, .int .i64 d3b, .int .i64 d3c, .int .i64 d3d] 47)).cell? ⟨w57.heap.size, 0, none⟩ = some (.int .i64 v2) := (bx2.2 0 _ rfl).1
  have fa74_0 : (w66.alloc (.cells #[.int .i64 v3, .slice Bx3 n3 n3, .int .i64 d3a, .int .i64 d3b, .int .i64 d3c, .int .i64 d3d] 47)).frozen? ⟨w57.heap.size, 0, none⟩ = false := (bx2.2 0 _ rfl).2
  have ca74_1 : (w66.alloc (.cells #[.int .i64 v3, .slice Bx3 n3 n3, .int .i64 d3a, .int .i64 d3b, .int .i64 d3c, .int .i64 d3d] 47)).cell? ⟨w57.heap.size, 1, none⟩ = some (.slice Bx2 n2 n2) := (bx2.2 1 _ rfl).1
  have fa74_1 : (w66.alloc (.cells #[.int .i64 v3, .slice Bx3 n3 n3, .int .i64 d3a, .int .i64 d3b, .int .i64 d3c, .int .i64 d3d] 47)).frozen? ⟨w57.heap.size, 1, none⟩ = false := (bx2.2 1 _ rfl).2
  have ca74_2 : (w66.alloc (.cells #[.int .i64 v3, .slice Bx3 n3 n3, .int .i64 d3a, .int .i64 d3b, .int .i64 d3c, .int .i64 d3d] 47)).cell? ⟨w57.heap.size, 2, none⟩ = some (.int .i64 d2a) := (bx2.2 2 _ rfl).1
  have fa74_2 : (w66.alloc (.cells #[.int .i64 v3, .slice Bx3 n3 n3, .int .i64 d3a, .int .i64 d3b, .int .i64 d3c, .int .i64 d3d] 47)).frozen? ⟨w57.heap.size, 2, none⟩ = false := (bx2.2 2 _ rfl).2
  have ca74_3 : (w66.alloc (.cells #[.int .i64 v3, .slice Bx3 n3 n3, .int .i64 d3a, .int .i64 d3b, .int .i64 d3c, .int .i64 d3d] 47)).cell? ⟨w57.heap.size, 3, none⟩ = some (.int .i64 d2b) := (bx2.2 3 _ rfl).1
  have fa74_3 : (w66.alloc (.cells #[.int .i64 v3, .slice Bx3 n3 n3, .int .i64 d3a, .int .i64 d3b, .int .i64 d3c, .int .i64 d3d] 47)).frozen? ⟨w57.heap.size, 3, none⟩ = false := (bx2.2 3 _ rfl).2
  have ca74_4 : (w66.alloc (.cells #[.int .i64 v3, .slice Bx3 n3 n3, .int .i64 d3a, .int .i64 d3b, .int .i64 d3c, .int .i64 d3d] 47)).cell? ⟨w57.heap.size, 4, none⟩ = some (.int .i64 d2c) := (bx2.2 4 _ rfl).1
  have fa74_4 : (w66.alloc (.cells #[.int .i64 v3, .slice Bx3 n3 n3, .int .i64 d3a, .int .i64 d3b, .int .i64 d3c, .int .i64 d3d] 47)).frozen? ⟨w57.heap.size, 4, none⟩ = false := (bx2.2 4 _ rfl).2
  have ca74_5 : (w66.alloc (.cells #[.int .i64 v3, .slice Bx3 n3 n3, .int .i64 d3a, .int .i64 d3b, .int .i64 d3c, .int .i64 d3d] 47)).cell? ⟨w57.heap.size, 5, none⟩ = some (.int .i64 d2d) := (bx2.2 5 _ rfl).1
  have fa74_5 : (w66.alloc (.cells #[.int .i64 v3, .slice Bx3 n3 n3, .int .i64 d3a, .int .i64 d3b, .int .i64 d3c, .int .i64 d3d] 47)).frozen? ⟨w57.heap.size, 5, none⟩ = false := (bx2.2 5 _ rfl).2
  have ca75_0 : (w66.alloc (.cells #[.int .i64 v3, .slice Bx3 n3 n3, .int .i64 d3a, .int .i64 d3b, .int .i64 d3c, .int .i64 d3d] 47)).cell? ⟨w66.heap.size, 0, none⟩ = some (.int .i64 v3) := (bx3.2 0 _ rfl).1
  have fa75_0 : (w66.alloc (.cells #[.int .i64 v3, .slice Bx3 n3 n3, .int .i64 d3a, .int .i64 d3b, .int .i64 d3c, .int .i64 d3d] 47)).frozen? ⟨w66.heap.size, 0, none⟩ = false := (bx3.2 0 _ rfl).2
  have ca75_1 : (w66.alloc (.cells #[.int .i64 v3, .slice Bx3 n3 n3, .int .i64 d3a, .int .i64 d3b, .int .i64 d3c, .int .i64 d3d] 47)).cell? ⟨w66.heap.size, 1, none⟩ = some (.slice Bx3 n3 n3) := (bx3.2 1 _ rfl).1
  have fa75_1 : (w66.alloc (.cells #[.int .i64 v3, .slice Bx3 n3 n3, .int .i64 d3a, .int .i64 d3b, .int .i64 d3c, .int .i64 d3d] 47)).frozen? ⟨w66.heap.size, 1, none⟩ = false := (bx3.2 1 _ rfl).2
  have ca75_2 : (w66.alloc (.cells #[.int .i64 v3, .slice Bx3 n3 n3, .int .i64 d3a, .int .i64 d3b, .int .i64 d3c, .int .i64 d3d] 47)).cell? ⟨w66.heap.size, 2, none⟩ = some (.int .i64 d3a) := (bx3.2 2 _ rfl).1
  have fa75_2 : (w66.alloc (.cells #[.int .i64 v3, .slice Bx3 n3 n3, .int .i64 d3a, .int .i64 d3b, .int .i64 d3c, .int .i64 d3d] 47)).frozen? ⟨w66.heap.size, 2, none⟩ = false := (bx3.2 2 _ rfl).2
  have ca75_3 : (w66.alloc (.cells #[.int .i64 v3, .slice Bx3 n3 n3, .int .i64 d3a, .int .i64 d3b, .int .i64 d3c, .int .i64 d3d] 47)).cell? ⟨w66.heap.size, 3, none⟩ = some (.int .i64 d3b) := (bx3.2 3 _ rfl).1
  have fa75_3 : (w66.alloc (.cells #[.int .i64 v3, .slice Bx3 n3 n3, .int .i64 d3a, .int .i64 d3b, .int .i64 d3c, .int .i64 d3d] 47)).frozen? ⟨w66.heap.size, 3, none⟩ = false := (bx3.2 3 _ rfl).2
  have ca75_4 : (w66.alloc (.cells #[.int .i64 v3, .slice Bx3 n3 n3, .int .i64 d3a, .int .i64 d3b, .int .i64 d3c, .int .i64 d3d] 47)).cell? ⟨w66.heap.size, 4, none⟩ = some (.int .i64 d3c) := (bx3.2 4 _ rfl).1
  have fa75_4 : (w66.alloc (.cells #[.int .i64 v3, .slice Bx3 n3 n3, .int .i64 d3a, .int .i64 d3b, .int .i64 d3c, .int .i64 d3d] 47)).frozen? ⟨w66.heap.size, 4, none⟩ = false := (bx3.2 4 _ rfl).2
  have ca75_5 : (w66.alloc (.cells #[.int .i64 v3, .slice Bx3 n3 n3, .int .i64 d3a, .int .i64 d3b, .int .i64 d3c, .int .i64 d3d] 47)).cell? ⟨w66.heap.size, 5, none⟩ = some (.int .i64 d3d) := (bx3.2 5 _ rfl).1
  have fa75_5 : (w66.alloc (.cells #[.int .i64 v3, .slice Bx3 n3 n3, .int .i64 d3a, .int .i64 d3b, .int .i64 d3c, .int .i64 d3d] 47)).frozen? ⟨w66.heap.size, 5, none⟩ = false := (bx3.2 5 _ rfl).2
  go_wp2_with fail
  clear ca70 fa70 ca71_0 fa71_0 ca71_1 fa71_1 ca71_2 fa71_2 ca71_3 fa71_3 ca71_4 fa71_4 ca71_5 fa71_5 ca72_0 fa72_0 ca72_1 fa72_1 ca72_2 fa72_2 ca72_3 fa72_3 ca72_4 fa72_4 ca72_5 fa72_5 ca73 fa73 ca74_0 fa74_0 ca74_1 fa74_1 ca74_2 fa74_2 ca74_3 fa74_3 ca74_4 fa74_4 ca74_5 fa74_5 ca75_0 fa75_0 ca75_1 fa75_1 ca75_2 fa75_2 ca75_3 fa75_3 ca75_4 fa75_4 ca75_5 fa75_5
  refine (implPlanChanges_any x0.1 x1.1 HNK.out x2 x3).mono ?_
  rintro e w76 ⟨g_A0, g_N0, g_C0, g_A1, g_N1, g_C1, g_L0, g_U0, g_L1, g_U1, rfl, g_B, g_0, g_1, k76⟩
  have ss77 := k76.size
  simp at ss77
  replace p0 := p0.keeps k76
  replace p2 := p2.keeps k76
  replace p3 := p3.keeps k76
  replace bx0 := bx0.keeps k76
  replace bx2 := bx2.keeps k76
  replace bx3 := bx3.keeps k76
  replace p_0 := p_0.keeps k76
  replace p_1 := p_1.keeps k76
  replace x0 := x0.keeps k76
  replace x1 := x1.keeps k76
  replace x2 := x2.keeps k76
  replace x3 := x3.keeps k76
  replace kw := Keeps.trans kw k76
  have lt78 := bx3.lt
  have sz79 := kw.size
  clear k76
  rw [HR.out]
  dsimp only
  rw [show (w66.alloc (.cells #[.int .i64 v3, .slice Bx3 n3 n3, .int .i64 d3a, .int .i64 d3b, .int .i64 d3c, .int .i64 d3d] 47)).heap.size = w66.heap.size + 1 by simp] at g_B
  rw [HR.out] at g_0
  dsimp only at g_0
  rw [HR.out] at g_1
  dsimp only at g_1
  obtain ⟨ca80, fa80⟩ := id p0
  have ca81_0 : w76.cell? ⟨w.heap.size + 1, 0, none⟩ = some (.int .i64 v2) := (p2.2 0 _ rfl).1
  have fa81_0 : w76.frozen? ⟨w.heap.size + 1, 0, none⟩ = false := (p2.2 0 _ rfl).2
  have ca81_1 : w76.cell? ⟨w.heap.size + 1, 1, none⟩ = some (.slice A2 n2 c2) := (p2.2 1 _ rfl).1
  have fa81_1 : w76.frozen? ⟨w.heap.size + 1, 1, none⟩ = false := (p2.2 1 _ rfl).2
  have ca81_2 : w76.cell? ⟨w.heap.size + 1, 2, none⟩ = some (.int .i64 d2a) := (p2.2 2 _ rfl).1
  have fa81_2 : w76.frozen? ⟨w.heap.size + 1, 2, none⟩ = false := (p2.2 2 _ rfl).2
  have ca81_3 : w76.cell? ⟨w.heap.size + 1, 3, none⟩ = some (.int .i64 d2b) := (p2.2 3 _ rfl).1
  have fa81_3 : w76.frozen? ⟨w.heap.size + 1, 3, none⟩ = false := (p2.2 3 _ rfl).2
  have ca81_4 : w76.cell? ⟨w.heap.size + 1, 4, none⟩ = some (.int .i64 d2c) := (p2.2 4 _ rfl).1
  have fa81_4 : w76.frozen? ⟨w.heap.size + 1, 4, none⟩ = false := (p2.2 4 _ rfl).2
  have ca81_5 : w76.cell? ⟨w.heap.size + 1, 5, none⟩ = some (.int .i64 d2d) := (p2.2 5 _ rfl).1
  have fa81_5 : w76.frozen? ⟨w.heap.size + 1, 5, none⟩ = false := (p2.2 5 _ rfl).2
  have ca82_0 : w76.cell? ⟨w.heap.size + 1 + 1, 0, none⟩ = some (.int .i64 v3) := (p3.2 0 _ rfl).1
  have fa82_0 : w76.frozen? ⟨w.heap.size + 1 + 1, 0, none⟩ = false := (p3.2 0 _ rfl).2
  have ca82_1 : w76.cell? ⟨w.heap.size + 1 + 1, 1, none⟩ = some (.slice A3 n3 c3) := (p3.2 1 _ rfl).1
  have fa82_1 : w76.frozen? ⟨w.heap.size + 1 + 1, 1, none⟩ = false := (p3.2 1 _ rfl).2
  have ca82_2 : w76.cell? ⟨w.heap.size + 1 + 1, 2, none⟩ = some (.int .i64 d3a) := (p3.2 2 _ rfl).1
  have fa82_2 : w76.frozen? ⟨w.heap.size + 1 + 1, 2, none⟩ = false := (p3.2 2 _ rfl).2
  have ca82_3 : w76.cell? ⟨w.heap.size + 1 + 1, 3, none⟩ = some (.int .i64 d3b) := (p3.2 3 _ rfl).1
  have fa82_3 : w76.frozen? ⟨w.heap.size + 1 + 1, 3, none⟩ = false := (p3.2 3 _ rfl).2
  have ca82_4 : w76.cell? ⟨w.heap.size + 1 + 1, 4, none⟩ = some (.int .i64 d3c) := (p3.2 4 _ rfl).1
  have fa82_4 : w76.frozen? ⟨w.heap.size + 1 + 1, 4, none⟩ = false := (p3.2 4 _ rfl).2
  have ca82_5 : w76.cell? ⟨w.heap.size + 1 + 1, 5, none⟩ = some (.int .i64 d3d) := (p3.2 5 _ rfl).1
  have fa82_5 : w76.frozen? ⟨w.heap.size + 1 + 1, 5, none⟩ = false := (p3.2 5 _ rfl).2
  obtain ⟨ca83, fa83⟩ := id bx0
  have ca84_0 : w76.cell? ⟨w57.heap.size, 0, none⟩ = some (.int .i64 v2) := (bx2.2 0 _ rfl).1
  have fa84_0 : w76.frozen? ⟨w57.heap.size, 0, none⟩ = false := (bx2.2 0 _ rfl).2
  have ca84_1 : w76.cell? ⟨w57.heap.size, 1, none⟩ = some (.slice Bx2 n2 n2) := (bx2.2 1 _ rfl).1
  have fa84_1 : w76.frozen? ⟨w57.heap.size, 1, none⟩ = false := (bx2.2 1 _ rfl).2
  have ca84_2 : w76.cell? ⟨w57.heap.size, 2, none⟩ = some (.int .i64 d2a) := (bx2.2 2 _ rfl).1
  have fa84_2 : w76.frozen? ⟨w57.heap.size, 2, none⟩ = false := (bx2.2 2 _ rfl).2
  have ca84_3 : w76.cell? ⟨w57.heap.size, 3, none⟩ = some (.int .i64 d2b) := (bx2.2 3 _ rfl).1
  have fa84_3 : w76.frozen? ⟨w57.heap.size, 3, none⟩ = false := (bx2.2 3 _ rfl).2
  have ca84_4 : w76.cell? ⟨w57.heap.size, 4, none⟩ = some (.int .i64 d2c) := (bx2.2 4 _ rfl).1
  have fa84_4 : w76.frozen? ⟨w57.heap.size, 4, none⟩ = false := (bx2.2 4 _ rfl).2
  have ca84_5 : w76.cell? ⟨w57.heap.size, 5, none⟩ = some (.int .i64 d2d) := (bx2.2 5 _ rfl).1
  have fa84_5 : w76.frozen? ⟨w57.heap.size, 5, none⟩ = false := (bx2.2 5 _ rfl).2
  have ca85_0 : w76.cell? ⟨w66.heap.size, 0, none⟩ = some (.int .i64 v3) := (bx3.2 0 _ rfl).1
  have fa85_0 : w76.frozen? ⟨w66.heap.size, 0, none⟩ = false := (bx3.2 0 _ rfl).2
  have ca85_1 : w76.cell? ⟨w66.heap.size, 1, none⟩ = some (.slice Bx3 n3 n3) := (bx3.2 1 _ rfl).1
  have fa85_1 : w76.frozen? ⟨w66.heap.size, 1, none⟩ = false := (bx3.2 1 _ rfl).2
  have ca85_2 : w76.cell? ⟨w66.heap.size, 2, none⟩ = some (.int .i64 d3a) := (bx3.2 2 _ rfl).1
  have fa85_2 : w76.frozen? ⟨w66.heap.size, 2, none⟩ = false := (bx3.2 2 _ rfl).2
  have ca85_3 : w76.cell? ⟨w66.heap.size, 3, none⟩ = some (.int .i64 d3b) := (bx3.2 3 _ rfl).1
  have fa85_3 : w76.frozen? ⟨w66.heap.size, 3, none⟩ = false := (bx3.2 3 _ rfl).2
  have ca85_4 : w76.cell? ⟨w66.heap.size, 4, none⟩ = some (.int .i64 d3c) := (bx3.2 4 _ rfl).1
  have fa85_4 : w76.frozen? ⟨w66.heap.size, 4, none⟩ = false := (bx3.2 4 _ rfl).2
  have ca85_5 : w76.cell? ⟨w66.heap.size, 5, none⟩ = some (.int .i64 d3d) := (bx3.2 5 _ rfl).1
  have fa85_5 : w76.frozen? ⟨w66.heap.size, 5, none⟩ = false := (bx3.2 5 _ rfl).2
  go_wp2_with fail
  clear ca80 fa80 ca81_0 fa81_0 ca81_1 fa81_1 ca81_2 fa81_2 ca81_3 fa81_3 ca81_4 fa81_4 ca81_5 fa81_5 ca82_0 fa82_0 ca82_1 fa82_1 ca82_2 fa82_2 ca82_3 fa82_3 ca82_4 fa82_4 ca82_5 fa82_5 ca83 fa83 ca84_0 fa84_0 ca84_1 fa84_1 ca84_2 fa84_2 ca84_3 fa84_3 ca84_4 fa84_4 ca84_5 fa84_5 ca85_0 fa85_0 ca85_1 fa85_1 ca85_2 fa85_2 ca85_3 fa85_3 ca85_4 fa85_4 ca85_5 fa85_5
  have e2 : (r2 != r2) = false := by simp
  refine (eqIntS_true g_0.1 p_0.1).mono ?_
  rintro e w86 ⟨rfl, k86⟩
  replace k86 := Quiet.keeps k86
  have ss87 := k86.size
  replace p0 := p0.keeps k86
  replace p2 := p2.keeps k86
  replace p3 := p3.keeps k86
  replace bx0 := bx0.keeps k86
  replace bx2 := bx2.keeps k86
  replace bx3 := bx3.keeps k86
  replace p_0 := p_0.keeps k86
  replace p_1 := p_1.keeps k86
  replace x0 := x0.keeps k86
  replace x1 := x1.keeps k86
  replace x2 := x2.keeps k86
  replace x3 := x3.keeps k86
  replace g_0 := g_0.keeps k86
  replace g_1 := g_1.keeps k86
  replace kw := Keeps.trans kw k86
  have lt88 := bx3.lt
  have sz89 := kw.size
  clear k86
  obtain ⟨ca90, fa90⟩ := id p0
  have ca91_0 : w86.cell? ⟨w.heap.size + 1, 0, none⟩ = some (.int .i64 v2) := (p2.2 0 _ rfl).1
  have fa91_0 : w86.frozen? ⟨w.heap.size + 1, 0, none⟩ = false := (p2.2 0 _ rfl).2
  have ca91_1 : w86.cell? ⟨w.heap.size + 1, 1, none⟩ = some (.slice A2 n2 c2) := (p2.2 1 _ rfl).1
  have fa91_1 : w86.frozen? ⟨w.heap.size + 1, 1, none⟩ = false := (p2.2 1 _ rfl).2
  have ca91_2 : w86.cell? ⟨w.heap.size + 1, 2, none⟩ = some (.int .i64 d2a) := (p2.2 2 _ rfl).1
  have fa91_2 : w86.frozen? ⟨w.heap.size + 1, 2, none⟩ = false := (p2.2 2 _ rfl).2
  have ca91_3 : w86.cell? ⟨w.heap.size + 1, 3, none⟩ = some (.int .i64 d2b) := (p2.2 3 _ rfl).1
  have fa91_3 : w86.frozen? ⟨w.heap.size + 1, 3, none⟩ = false := (p2.2 3 _ rfl).2
  have ca91_4 : w86.cell? ⟨w.heap.size + 1, 4, none⟩ = some (.int .i64 d2c) := (p2.2 4 _ rfl).1
  have fa91_4 : w86.frozen? ⟨w.heap.size + 1, 4, none⟩ = false := (p2.2 4 _ rfl).2
  have ca91_5 : w86.cell? ⟨w.heap.size + 1, 5, none⟩ = some (.int .i64 d2d) := (p2.2 5 _ rfl).1
  have fa91_5 : w86.frozen? ⟨w.heap.size + 1, 5, none⟩ = false := (p2.2 5 _ rfl).2
  have ca92_0 : w86.cell? ⟨w.heap.size + 1 + 1, 0, none⟩ = some (.int .i64 v3) := (p3.2 0 _ rfl).1
  have fa92_0 : w86.frozen? ⟨w.heap.size + 1 + 1, 0, none⟩ = false := (p3.2 0 _ rfl).2
  have ca92_1 : w86.cell? ⟨w.heap.size + 1 + 1, 1, none⟩ = some (.slice A3 n3 c3) := (p3.2 1 _ rfl).1
  have fa92_1 : w86.frozen? ⟨w.heap.size + 1 + 1, 1, none⟩ = false := (p3.2 1 _ rfl).2
  have ca92_2 : w86.cell? ⟨w.heap.size + 1 + 1, 2, none⟩ = some (.int .i64 d3a) := (p3.2 2 _ rfl).1
  have fa92_2 : w86.frozen? ⟨w.heap.size + 1 + 1, 2, none⟩ = false := (p3.2 2 _ rfl).2
  have ca92_3 : w86.cell? ⟨w.heap.size + 1 + 1, 3, none⟩ = some (.int .i64 d3b) := (p3.2 3 _ rfl).1
  have fa92_3 : w86.frozen? ⟨w.heap.size + 1 + 1, 3, none⟩ = false := (p3.2 3 _ rfl).2
  have ca92_4 : w86.cell? ⟨w.heap.size + 1 + 1, 4, none⟩ = some (.int .i64 d3c) := (p3.2 4 _ rfl).1
  have fa92_4 : w86.frozen? ⟨w.heap.size + 1 + 1, 4, none⟩ = false := (p3.2 4 _ rfl).2
  have ca92_5 : w86.cell? ⟨w.heap.size + 1 + 1, 5, none⟩ = some (.int .i64 d3d) := (p3.2 5 _ rfl).1
  have fa92_5 : w86.frozen? ⟨w.heap.size + 1 + 1, 5, none⟩ = false := (p3.2 5 _ rfl).2
  obtain ⟨ca93, fa93⟩ := id bx0
  have ca94_0 : w86.cell? ⟨w57.heap.size, 0, none⟩ = some (.int .i64 v2) := (bx2.2 0 _ rfl).1
  have fa94_0 : w86.frozen? ⟨w57.heap.size, 0, none⟩ = false := (bx2.2 0 _ rfl).2
  have ca94_1 : w86.cell? ⟨w57.heap.size, 1, none⟩ = some (.slice Bx2 n2 n2) := (bx2.2 1 _ rfl).1
  have fa94_1 : w86.frozen? ⟨w57.heap.size, 1, none⟩ = false := (bx2.2 1 _ rfl).2
  have ca94_2 : w86.cell? ⟨w57.heap.size, 2, none⟩ = some (.int .i64 d2a) := (bx2.2 2 _ rfl).1
  have fa94_2 : w86.frozen? ⟨w57.heap.size, 2, none⟩ = false := (bx2.2 2 _ rfl).2
  have ca94_3 : w86.cell? ⟨w57.heap.size, 3, none⟩ = some (.int .i64 d2b) := (bx2.2 3 _ rfl).1
  have fa94_3 : w86.frozen? ⟨w57.heap.size, 3, none⟩ = false := (bx2.2 3 _ rfl).2
  have ca94_4 : w86.cell? ⟨w57.heap.size, 4, none⟩ = some (.int .i64 d2c) := (bx2.2 4 _ rfl).1
  have fa94_4 : w86.frozen? ⟨w57.heap.size, 4, none⟩ = false := (bx2.2 4 _ rfl).2
  have ca94_5 : w86.cell? ⟨w57.heap.size, 5, none⟩ = some (.int .i64 d2d) := (bx2.2 5 _ rfl).1
  have fa94_5 : w86.frozen? ⟨w57.heap.size, 5, none⟩ = false := (bx2.2 5 _ rfl).2
  have ca95_0 : w86.cell? ⟨w66.heap.size, 0, none⟩ = some (.int .i64 v3) := (bx3.2 0 _ rfl).1
  have fa95_0 : w86.frozen? ⟨w66.heap.size, 0, none⟩ = false := (bx3.2 0 _ rfl).2
  have ca95_1 : w86.cell? ⟨w66.heap.size, 1, none⟩ = some (.slice Bx3 n3 n3) := (bx3.2 1 _ rfl).1
  have fa95_1 : w86.frozen? ⟨w66.heap.size, 1, none⟩ = false := (bx3.2 1 _ rfl).2
  have ca95_2 : w86.cell? ⟨w66.heap.size, 2, none⟩ = some (.int .i64 d3a) := (bx3.2 2 _ rfl).1
  have fa95_2 : w86.frozen? ⟨w66.heap.size, 2, none⟩ = false := (bx3.2 2 _ rfl).2
  have ca95_3 : w86.cell? ⟨w66.heap.size, 3, none⟩ = some (.int .i64 d3b) := (bx3.2 3 _ rfl).1
  have fa95_3 : w86.frozen? ⟨w66.heap.size, 3, none⟩ = false := (bx3.2 3 _ rfl).2
  have ca95_4 : w86.cell? ⟨w66.heap.size, 4, none⟩ = some (.int .i64 d3c) := (bx3.2 4 _ rfl).1
  have fa95_4 : w86.frozen? ⟨w66.heap.size, 4, none⟩ = false := (bx3.2 4 _ rfl).2
  have ca95_5 : w86.cell? ⟨w66.heap.size, 5, none⟩ = some (.int .i64 d3d) := (bx3.2 5 _ rfl).1
  have fa95_5 : w86.frozen? ⟨w66.heap.size, 5, none⟩ = false := (bx3.2 5 _ rfl).2
  go_wp2_with fail
  clear ca90 fa90 ca91_0 fa91_0 ca91_1 fa91_1 ca91_2 fa91_2 ca91_3 fa91_3 ca91_4 fa91_4 ca91_5 fa91_5 ca92_0 fa92_0 ca92_1 fa92_1 ca92_2 fa92_2 ca92_3 fa92_3 ca92_4 fa92_4 ca92_5 fa92_5 ca93 fa93 ca94_0 fa94_0 ca94_1 fa94_1 ca94_2 fa94_2 ca94_3 fa94_3 ca94_4 fa94_4 ca94_5 fa94_5 ca95_0 fa95_0 ca95_1 fa95_1 ca95_2 fa95_2 ca95_3 fa95_3 ca95_4 fa95_4 ca95_5 fa95_5
  refine (eqIntS_true g_1.1 p_1.1).mono ?_
  rintro e w96 ⟨rfl, k96⟩
  replace k96 := Quiet.keeps k96
  have ss97 := k96.size
  replace p0 := p0.keeps k96
  replace p2 := p2.keeps k96
  replace p3 := p3.keeps k96
  replace bx0 := bx0.keeps k96
  replace bx2 := bx2.keeps k96
  replace bx3 := bx3.keeps k96
  replace p_0 := p_0.keeps k96
  replace p_1 := p_1.keeps k96
  replace x0 := x0.keeps k96
  replace x1 := x1.keeps k96
  replace x2 := x2.keeps k96
  replace x3 := x3.keeps k96
  replace g_0 := g_0.keeps k96
  replace g_1 := g_1.keeps k96
  replace kw := Keeps.trans kw k96
  have lt98 := bx3.lt
  have sz99 := kw.size
  clear k96
  obtain ⟨ca100, fa100⟩ := id p0
  have ca101_0 : w96.cell? ⟨w.heap.size + 1, 0, none⟩ = some (.int .i64 v2) := (p2.2 0 _ rfl).1
  have fa101_0 : w96.frozen? ⟨w.heap.size + 1, 0, none⟩ = false := (p2.2 0 _ rfl).2
  have ca101_1 : w96.cell? ⟨w.heap.size + 1, 1, none⟩ = some (.slice A2 n2 c2) := (p2.2 1 _ rfl).1
  have fa101_1 : w96.frozen? ⟨w.heap.size + 1, 1, none⟩ = false := (p2.2 1 _ rfl).2
  have ca101_2 : w96.cell? ⟨w.heap.size + 1, 2, none⟩ = some (.int .i64 d2a) := (p2.2 2 _ rfl).1
  have fa101_2 : w96.frozen? ⟨w.heap.size + 1, 2, none⟩ = false := (p2.2 2 _ rfl).2
  have ca101_3 : w96.cell? ⟨w.heap.size + 1, 3, none⟩ = some (.int .i64 d2b) := (p2.2 3 _ rfl).1
  have fa101_3 : w96.frozen? ⟨w.heap.size + 1, 3, none⟩ = false := (p2.2 3 _ rfl).2
  have ca101_4 : w96.cell? ⟨w.heap.size + 1, 4, none⟩ = some (.int .i64 d2c) := (p2.2 4 _ rfl).1
  have fa101_4 : w96.frozen? ⟨w.heap.size + 1, 4, none⟩ = false := (p2.2 4 _ rfl).2
  have ca101_5 : w96.cell? ⟨w.heap.size + 1, 5, none⟩ = some (.int .i64 d2d) := (p2.2 5 _ rfl).1
  have fa101_5 : w96.frozen? ⟨w.heap.size + 1, 5, none⟩ = false := (p2.2 5 _ rfl).2
  have ca102_0 : w96.cell? ⟨w.heap.size + 1 + 1, 0, none⟩ = some (.int .i64 v3) := (p3.2 0 _ rfl).1
  have fa102_0 : w96.frozen? ⟨w.heap.size + 1 + 1, 0, none⟩ = false := (p3.2 0 _ rfl).2
  have ca102_1 : w96.cell? ⟨w.heap.size + 1 + 1, 1, none⟩ = some (.slice A3 n3 c3) := (p3.2 1 _ rfl).1
  have fa102_1 : w96.frozen? ⟨w.heap.size + 1 + 1, 1, none⟩ = false := (p3.2 1 _ rfl).2
  have ca102_2 : w96.cell? ⟨w.heap.size + 1 + 1, 2, none⟩ = some (.int .i64 d3a) := (p3.2 2 _ rfl).1
  have fa102_2 : w96.frozen? ⟨w.heap.size + 1 + 1, 2, none⟩ = false := (p3.2 2 _ rfl).2
  have ca102_3 : w96.cell? ⟨w.heap.size + 1 + 1, 3, none⟩ = some (.int .i64 d3b) := (p3.2 3 _ rfl).1
  have fa102_3 : w96.frozen? ⟨w.heap.size + 1 + 1, 3, none⟩ = false := (p3.2 3 _ rfl).2
  have ca102_4 : w96.cell? ⟨w.heap.size + 1 + 1, 4, none⟩ = some (.int .i64 d3c) := (p3.2 4 _ rfl).1
  have fa102_4 : w96.frozen? ⟨w.heap.size + 1 + 1, 4, none⟩ = false := (p3.2 4 _ rfl).2
  have ca102_5 : w96.cell? ⟨w.heap.size + 1 + 1, 5, none⟩ = some (.int .i64 d3d) := (p3.2 5 _ rfl).1
  have fa102_5 : w96.frozen? ⟨w.heap.size + 1 + 1, 5, none⟩ = false := (p3.2 5 _ rfl).2
  obtain ⟨ca103, fa103⟩ := id bx0
  have ca104_0 : w96.cell? ⟨w57.heap.size, 0, none⟩ = some (.int .i64 v2) := (bx2.2 0 _ rfl).1
  have fa104_0 : w96.frozen? ⟨w57.heap.size, 0, none⟩ = false := (bx2.2 0 _ rfl).2
  have ca104_1 : w96.cell? ⟨w57.heap.size, 1, none⟩ = some (.slice Bx2 n2 n2) := (bx2.2 1 _ rfl).1
  have fa104_1 : w96.frozen? ⟨w57.heap.size, 1, none⟩ = false := (bx2.2 1 _ rfl).2
  have ca104_2 : w96.cell? ⟨w57.heap.size, 2, none⟩ = some (.int .i64 d2a) := (bx2.2 2 _ rfl).1
  have fa104_2 : w96.frozen? ⟨w57.heap.size, 2, none⟩ = false := (bx2.2 2 _ rfl).2
  have ca104_3 : w96.cell? ⟨w57.heap.size, 3, none⟩ = some (.int .i64 d2b) := (bx2.2 3 _ rfl).1
  have fa104_3 : w96.frozen? ⟨w57.heap.size, 3, none⟩ = false := (bx2.2 3 _ rfl).2
  have ca104_4 : w96.cell? ⟨w57.heap.size, 4, none⟩ = some (.int .i64 d2c) := (bx2.2 4 _ rfl).1
  have fa104_4 : w96.frozen? ⟨w57.heap.size, 4, none⟩ = false := (bx2.2 4 _ rfl).2
  have ca104_5 : w96.cell? ⟨w57.heap.size, 5, none⟩ = some (.int .i64 d2d) := (bx2.2 5 _ rfl).1
  have fa104_5 : w96.frozen? ⟨w57.heap.size, 5, none⟩ = false := (bx2.2 5 _ rfl).2
  have ca105_0 : w96.cell? ⟨w66.heap.size, 0, none⟩ = some (.int .i64 v3) := (bx3.2 0 _ rfl).1
  have fa105_0 : w96.frozen? ⟨w66.heap.size, 0, none⟩ = false := (bx3.2 0 _ rfl).2
  have ca105_1 : w96.cell? ⟨w66.heap.size, 1, none⟩ = some (.slice Bx3 n3 n3) := (bx3.2 1 _ rfl).1
  have fa105_1 : w96.frozen? ⟨w66.heap.size, 1, none⟩ = false := (bx3.2 1 _ rfl).2
  have ca105_2 : w96.cell? ⟨w66.heap.size, 2, none⟩ = some (.int .i64 d3a) := (bx3.2 2 _ rfl).1
  have fa105_2 : w96.frozen? ⟨w66.heap.size, 2, none⟩ = false := (bx3.2 2 _ rfl).2
  have ca105_3 : w96.cell? ⟨w66.heap.size, 3, none⟩ = some (.int .i64 d3b) := (bx3.2 3 _ rfl).1
  have fa105_3 : w96.frozen? ⟨w66.heap.size, 3, none⟩ = false := (bx3.2 3 _ rfl).2
  have ca105_4 : w96.cell? ⟨w66.heap.size, 4, none⟩ = some (.int .i64 d3c) := (bx3.2 4 _ rfl).1
  have fa105_4 : w96.frozen? ⟨w66.heap.size, 4, none⟩ = false := (bx3.2 4 _ rfl).2
  have ca105_5 : w96.cell? ⟨w66.heap.size, 5, none⟩ = some (.int .i64 d3d) := (bx3.2 5 _ rfl).1
  have fa105_5 : w96.frozen? ⟨w66.heap.size, 5, none⟩ = false := (bx3.2 5 _ rfl).2
  go_wp2_with fail
  clear ca100 fa100 ca101_0 fa101_0 ca101_1 fa101_1 ca101_2 fa101_2 ca101_3 fa101_3 ca101_4 fa101_4 ca101_5 fa101_5 ca102_0 fa102_0 ca102_1 fa102_1 ca102_2 fa102_2 ca102_3 fa102_3 ca102_4 fa102_4 ca102_5 fa102_5 ca103 fa103 ca104_0 fa104_0 ca104_1 fa104_1 ca104_2 fa104_2 ca104_3 fa104_3 ca104_4 fa104_4 ca104_5 fa104_5 ca105_0 fa105_0 ca105_1 fa105_1 ca105_2 fa105_2 ca105_3 fa105_3 ca105_4 fa105_4 ca105_5 fa105_5
  obtain ⟨ca106, -⟩ := id bx0
  obtain ⟨ca107, -⟩ := id p0
  have kS := hid (show ∀ w', Keeps w96 w' → (w'.cell? ⟨w41.heap.size, 0, none⟩ = some (.slice Bx0 n0 n0) ∧ w'.cell? ⟨w.heap.size, 0, none⟩ = some (.slice A0 n0 c0)) from fun w' k => ⟨cell_keeps ca106 k, cell_keeps ca107 k⟩)
  go_region_held3 (fun w' => w'.cell? ⟨w41.heap.size, 0, none⟩ = some (.slice Bx0 n0 n0) ∧ w'.cell? ⟨w.heap.size, 0, none⟩ = some (.slice A0 n0 c0)) (first | exact kS.out _ (keeps_d0 w96) | exact kS.out _ kW | go_keep)
    ((first | (go_at_call 9; refine (toGeo_any (h0.keeps (Keeps.trans kw (keeps_d0 w96)))).mono ?_; rintro e wB108 ⟨Bt108, rfl, t0, kB⟩; have kW : Keeps w96 wB108 := keeps_d kB; clear kB) | (go_at_call 14; refine (eqGeo_true (x0.1.keeps kW) t0.1).mono ?_; rintro e wC108 ⟨rfl, kC⟩; replace kW : Keeps w96 wC108 := kW.trans kC; clear kC)))
  clear kS t0
  clear ca106 ca107
  have ss109 := kW.size
  replace p0 := p0.keeps kW
  replace p2 := p2.keeps kW
  replace p3 := p3.keeps kW
  replace bx0 := bx0.keeps kW
  replace bx2 := bx2.keeps kW
  replace bx3 := bx3.keeps kW
  replace p_0 := p_0.keeps kW
  replace p_1 := p_1.keeps kW
  replace x0 := x0.keeps kW
  replace x1 := x1.keeps kW
  replace x2 := x2.keeps kW
  replace x3 := x3.keeps kW
  replace g_0 := g_0.keeps kW
  replace g_1 := g_1.keeps kW
  replace kw := Keeps.trans kw kW
  have lt110 := bx3.lt
  have sz111 := kw.size
  clear kW
  obtain ⟨ca112, fa112⟩ := id p0
  have ca113_0 : wC108.cell? ⟨w.heap.size + 1, 0, none⟩ = some (.int .i64 v2) := (p2.2 0 _ rfl).1
  have fa113_0 : wC108.frozen? ⟨w.heap.size + 1, 0, none⟩ = false := (p2.2 0 _ rfl).2
  have ca113_1 : wC108.cell? ⟨w.heap.size + 1, 1, none⟩ = some (.slice A2 n2 c2) := (p2.2 1 _ rfl).1
  have fa113_1 : wC108.frozen? ⟨w.heap.size + 1, 1, none⟩ = false := (p2.2 1 _ rfl).2
  have ca113_2 : wC108.cell? ⟨w.heap.size + 1, 2, none⟩ = some (.int .i64 d2a) := (p2.2 2 _ rfl).1
  have fa113_2 : wC108.frozen? ⟨w.heap.size + 1, 2, none⟩ = false := (p2.2 2 _ rfl).2
  have ca113_3 : wC108.cell? ⟨w.heap.size + 1, 3, none⟩ = some (.int .i64 d2b) := (p2.2 3 _ rfl).1
  have fa113_3 : wC108.frozen? ⟨w.heap.size + 1, 3, none⟩ = false := (p2.2 3 _ rfl).2
  have ca113_4 : wC108.cell? ⟨w.heap.size + 1, 4, none⟩ = some (.int .i64 d2c) := (p2.2 4 _ rfl).1
  have fa113_4 : wC108.frozen? ⟨w.heap.size + 1, 4, none⟩ = false := (p2.2 4 _ rfl).2
  have ca113_5 : wC108.cell? ⟨w.heap.size + 1, 5, none⟩ = some (.int .i64 d2d) := (p2.2 5 _ rfl).1
  have fa113_5 : wC108.frozen? ⟨w.heap.size + 1, 5, none⟩ = false := (p2.2 5 _ rfl).2
  have ca114_0 : wC108.cell? ⟨w.heap.size + 1 + 1, 0, none⟩ = some (.int .i64 v3) := (p3.2 0 _ rfl).1
  have fa114_0 : wC108.frozen? ⟨w.heap.size + 1 + 1, 0, none⟩ = false := (p3.2 0 _ rfl).2
  have ca114_1 : wC108.cell? ⟨w.heap.size + 1 + 1, 1, none⟩ = some (.slice A3 n3 c3) := (p3.2 1 _ rfl).1
  have fa114_1 : wC108.frozen? ⟨w.heap.size + 1 + 1, 1, none⟩ = false := (p3.2 1 _ rfl).2
  have ca114_2 : wC108.cell? ⟨w.heap.size + 1 + 1, 2, none⟩ = some (.int .i64 d3a) := (p3.2 2 _ rfl).1
  have fa114_2 : wC108.frozen? ⟨w.heap.size + 1 + 1, 2, none⟩ = false := (p3.2 2 _ rfl).2
  have ca114_3 : wC108.cell? ⟨w.heap.size + 1 + 1, 3, none⟩ = some (.int .i64 d3b) := (p3.2 3 _ rfl).1
  have fa114_3 : wC108.frozen? ⟨w.heap.size + 1 + 1, 3, none⟩ = false := (p3.2 3 _ rfl).2
  have ca114_4 : wC108.cell? ⟨w.heap.size + 1 + 1, 4, none⟩ = some (.int .i64 d3c) := (p3.2 4 _ rfl).1
  have fa114_4 : wC108.frozen? ⟨w.heap.size + 1 + 1, 4, none⟩ = false := (p3.2 4 _ rfl).2
  have ca114_5 : wC108.cell? ⟨w.heap.size + 1 + 1, 5, none⟩ = some (.int .i64 d3d) := (p3.2 5 _ rfl).1
  have fa114_5 : wC108.frozen? ⟨w.heap.size + 1 + 1, 5, none⟩ = false := (p3.2 5 _ rfl).2
  obtain ⟨ca115, fa115⟩ := id bx0
  have ca116_0 : wC108.cell? ⟨w57.heap.size, 0, none⟩ = some (.int .i64 v2) := (bx2.2 0 _ rfl).1
  have fa116_0 : wC108.frozen? ⟨w57.heap.size, 0, none⟩ = false := (bx2.2 0 _ rfl).2
  have ca116_1 : wC108.cell? ⟨w57.heap.size, 1, none⟩ = some (.slice Bx2 n2 n2) := (bx2.2 1 _ rfl).1
  have fa116_1 : wC108.frozen? ⟨w57.heap.size, 1, none⟩ = false := (bx2.2 1 _ rfl).2
  have ca116_2 : wC108.cell? ⟨w57.heap.size, 2, none⟩ = some (.int .i64 d2a) := (bx2.2 2 _ rfl).1
  have fa116_2 : wC108.frozen? ⟨w57.heap.size, 2, none⟩ = false := (bx2.2 2 _ rfl).2
  have ca116_3 : wC108.cell? ⟨w57.heap.size, 3, none⟩ = some (.int .i64 d2b) := (bx2.2 3 _ rfl).1
  have fa116_3 : wC108.frozen? ⟨w57.heap.size, 3, none⟩ = false := (bx2.2 3 _ rfl).2
  have ca116_4 : wC108.cell? ⟨w57.heap.size, 4, none⟩ = some (.int .i64 d2c) := (bx2.2 4 _ rfl).1
  have fa116_4 : wC108.frozen? ⟨w57.heap.size, 4, none⟩ = false := (bx2.2 4 _ rfl).2
  have ca116_5 : wC108.cell? ⟨w57.heap.size, 5, none⟩ = some (.int .i64 d2d) := (bx2.2 5 _ rfl).1
  have fa116_5 : wC108.frozen? ⟨w57.heap.size, 5, none⟩ = false := (bx2.2 5 _ rfl).2
  have ca117_0 : wC108.cell? ⟨w66.heap.size, 0, none⟩ = some (.int .i64 v3) := (bx3.2 0 _ rfl).1
  have fa117_0 : wC108.frozen? ⟨w66.heap.size, 0, none⟩ = false := (bx3.2 0 _ rfl).2
  have ca117_1 : wC108.cell? ⟨w66.heap.size, 1, none⟩ = some (.slice Bx3 n3 n3) := (bx3.2 1 _ rfl).1
  have fa117_1 : wC108.frozen? ⟨w66.heap.size, 1, none⟩ = false := (bx3.2 1 _ rfl).2
  have ca117_2 : wC108.cell? ⟨w66.heap.size, 2, none⟩ = some (.int .i64 d3a) := (bx3.2 2 _ rfl).1
  have fa117_2 : wC108.frozen? ⟨w66.heap.size, 2, none⟩ = false := (bx3.2 2 _ rfl).2
  have ca117_3 : wC108.cell? ⟨w66.heap.size, 3, none⟩ = some (.int .i64 d3b) := (bx3.2 3 _ rfl).1
  have fa117_3 : wC108.frozen? ⟨w66.heap.size, 3, none⟩ = false := (bx3.2 3 _ rfl).2
  have ca117_4 : wC108.cell? ⟨w66.heap.size, 4, none⟩ = some (.int .i64 d3c) := (bx3.2 4 _ rfl).1
  have fa117_4 : wC108.frozen? ⟨w66.heap.size, 4, none⟩ = false := (bx3.2 4 _ rfl).2
  have ca117_5 : wC108.cell? ⟨w66.heap.size, 5, none⟩ = some (.int .i64 d3d) := (bx3.2 5 _ rfl).1
  have fa117_5 : wC108.frozen? ⟨w66.heap.size, 5, none⟩ = false := (bx3.2 5 _ rfl).2
  go_wp2_with fail
  clear ca112 fa112 ca113_0 fa113_0 ca113_1 fa113_1 ca113_2 fa113_2 ca113_3 fa113_3 ca113_4 fa113_4 ca113_5 fa113_5 ca114_0 fa114_0 ca114_1 fa114_1 ca114_2 fa114_2 ca114_3 fa114_3 ca114_4 fa114_4 ca114_5 fa114_5 ca115 fa115 ca116_0 fa116_0 ca116_1 fa116_1 ca116_2 fa116_2 ca116_3 fa116_3 ca116_4 fa116_4 ca116_5 fa116_5 ca117_0 fa117_0 ca117_1 fa117_1 ca117_2 fa117_2 ca117_3 fa117_3 ca117_4 fa117_4 ca117_5 fa117_5
  refine (toVariableS_any (h1.keeps kw)).mono ?_
  rintro e w118 ⟨Bt1, rfl, t1, k118⟩
  have ss119 := k118.size
  replace p0 := p0.keeps k118
  replace p2 := p2.keeps k118
  replace p3 := p3.keeps k118
  replace bx0 := bx0.keeps k118
  replace bx2 := bx2.keeps k118
  replace bx3 := bx3.keeps k118
  replace p_0 := p_0.keeps k118
  replace p_1 := p_1.keeps k118
  replace x0 := x0.keeps k118
  replace x1 := x1.keeps k118
  replace x2 := x2.keeps k118
  replace x3 := x3.keeps k118
  replace g_0 := g_0.keeps k118
  replace g_1 := g_1.keeps k118
  replace kw := Keeps.trans kw k118
  have lt120 := bx3.lt
  have sz121 := kw.size
  clear k118
  obtain ⟨ca122, fa122⟩ := id p0
  have ca123_0 : w118.cell? ⟨w.heap.size + 1, 0, none⟩ = some (.int .i64 v2) := (p2.2 0 _ rfl).1
  have fa123_0 : w118.frozen? ⟨w.heap.size + 1, 0, none⟩ = false := (p2.2 0 _ rfl).2
  have ca123_1 : w118.cell? ⟨w.heap.size + 1, 1, none⟩ = some (.slice A2 n2 c2) := (p2.2 1 _ rfl).1
  have fa123_1 : w118.frozen? ⟨w.heap.size + 1, 1, none⟩ = false := (p2.2 1 _ rfl).2
  have ca123_2 : w118.cell? ⟨w.heap.size + 1, 2, none⟩ = some (.int .i64 d2a) := (p2.2 2 _ rfl).1
  have fa123_2 : w118.frozen? ⟨w.heap.size + 1, 2, none⟩ = false := (p2.2 2 _ rfl).2
  have ca123_3 : w118.cell? ⟨w.heap.size + 1, 3, none⟩ = some (.int .i64 d2b) := (p2.2 3 _ rfl).1
  have fa123_3 : w118.frozen? ⟨w.heap.size + 1, 3, none⟩ = false := (p2.2 3 _ rfl).2
  have ca123_4 : w118.cell? ⟨w.heap.size + 1, 4, none⟩ = some (.int .i64 d2c) := (p2.2 4 _ rfl).1
  have fa123_4 : w118.frozen? ⟨w.heap.size + 1, 4, none⟩ = false := (p2.2 4 _ rfl).2
  have ca123_5 : w118.cell? ⟨w.heap.size + 1, 5, none⟩ = some (.int .i64 d2d) := (p2.2 5 _ rfl).1
  have fa123_5 : w118.frozen? ⟨w.heap.size + 1, 5, none⟩ = false := (p2.2 5 _ rfl).2
  have ca124_0 : w118.cell? ⟨w.heap.size + 1 + 1, 0, none⟩ = some (.int .i64 v3) := (p3.2 0 _ rfl).1
  have fa124_0 : w118.frozen? ⟨w.heap.size + 1 + 1, 0, none⟩ = false := (p3.2 0 _ rfl).2
  have ca124_1 : w118.cell? ⟨w.heap.size + 1 + 1, 1, none⟩ = some (.slice A3 n3 c3) := (p3.2 1 _ rfl).1
  have fa124_1 : w118.frozen? ⟨w.heap.size + 1 + 1, 1, none⟩ = false := (p3.2 1 _ rfl).2
  have ca124_2 : w118.cell? ⟨w.heap.size + 1 + 1, 2, none⟩ = some (.int .i64 d3a) := (p3.2 2 _ rfl).1
  have fa124_2 : w118.frozen? ⟨w.heap.size + 1 + 1, 2, none⟩ = false := (p3.2 2 _ rfl).2
  have ca124_3 : w118.cell? ⟨w.heap.size + 1 + 1, 3, none⟩ = some (.int .i64 d3b) := (p3.2 3 _ rfl).1
  have fa124_3 : w118.frozen? ⟨w.heap.size + 1 + 1, 3, none⟩ = false := (p3.2 3 _ rfl).2
  have ca124_4 : w118.cell? ⟨w.heap.size + 1 + 1, 4, none⟩ = some (.int .i64 d3c) := (p3.2 4 _ rfl).1
  have fa124_4 : w118.frozen? ⟨w.heap.size + 1 + 1, 4, none⟩ = false := (p3.2 4 _ rfl).2
  have ca124_5 : w118.cell? ⟨w.heap.size + 1 + 1, 5, none⟩ = some (.int .i64 d3d) := (p3.2 5 _ rfl).1
  have fa124_5 : w118.frozen? ⟨w.heap.size + 1 + 1, 5, none⟩ = false := (p3.2 5 _ rfl).2
  obtain ⟨ca125, fa125⟩ := id bx0
  have ca126_0 : w118.cell? ⟨w57.heap.size, 0, none⟩ = some (.int .i64 v2) := (bx2.2 0 _ rfl).1
  have fa126_0 : w118.frozen? ⟨w57.heap.size, 0, none⟩ = false := (bx2.2 0 _ rfl).2
  have ca126_1 : w118.cell? ⟨w57.heap.size, 1, none⟩ = some (.slice Bx2 n2 n2) := (bx2.2 1 _ rfl).1
  have fa126_1 : w118.frozen? ⟨w57.heap.size, 1, none⟩ = false := (bx2.2 1 _ rfl).2
  have ca126_2 : w118.cell? ⟨w57.heap.size, 2, none⟩ = some (.int .i64 d2a) := (bx2.2 2 _ rfl).1
  have fa126_2 : w118.frozen? ⟨w57.heap.size, 2, none⟩ = false := (bx2.2 2 _ rfl).2
  have ca126_3 : w118.cell? ⟨w57.heap.size, 3, none⟩ = some (.int .i64 d2b) := (bx2.2 3 _ rfl).1
  have fa126_3 : w118.frozen? ⟨w57.heap.size, 3, none⟩ = false := (bx2.2 3 _ rfl).2
  have ca126_4 : w118.cell? ⟨w57.heap.size, 4, none⟩ = some (.int .i64 d2c) := (bx2.2 4 _ rfl).1
  have fa126_4 : w118.frozen? ⟨w57.heap.size, 4, none⟩ = false := (bx2.2 4 _ rfl).2
  have ca126_5 : w118.cell? ⟨w57.heap.size, 5, none⟩ = some (.int .i64 d2d) := (bx2.2 5 _ rfl).1
  have fa126_5 : w118.frozen? ⟨w57.heap.size, 5, none⟩ = false := (bx2.2 5 _ rfl).2
  have ca127_0 : w118.cell? ⟨w66.heap.size, 0, none⟩ = some (.int .i64 v3) := (bx3.2 0 _ rfl).1
  have fa127_0 : w118.frozen? ⟨w66.heap.size, 0, none⟩ = false := (bx3.2 0 _ rfl).2
  have ca127_1 : w118.cell? ⟨w66.heap.size, 1, none⟩ = some (.slice Bx3 n3 n3) := (bx3.2 1 _ rfl).1
  have fa127_1 : w118.frozen? ⟨w66.heap.size, 1, none⟩ = false := (bx3.2 1 _ rfl).2
  have ca127_2 : w118.cell? ⟨w66.heap.size, 2, none⟩ = some (.int .i64 d3a) := (bx3.2 2 _ rfl).1
  have fa127_2 : w118.frozen? ⟨w66.heap.size, 2, none⟩ = false := (bx3.2 2 _ rfl).2
  have ca127_3 : w118.cell? ⟨w66.heap.size, 3, none⟩ = some (.int .i64 d3b) := (bx3.2 3 _ rfl).1
  have fa127_3 : w118.frozen? ⟨w66.heap.size, 3, none⟩ = false := (bx3.2 3 _ rfl).2
  have ca127_4 : w118.cell? ⟨w66.heap.size, 4, none⟩ = some (.int .i64 d3c) := (bx3.2 4 _ rfl).1
  have fa127_4 : w118.frozen? ⟨w66.heap.size, 4, none⟩ = false := (bx3.2 4 _ rfl).2
  have ca127_5 : w118.cell? ⟨w66.heap.size, 5, none⟩ = some (.int .i64 d3d) := (bx3.2 5 _ rfl).1
  have fa127_5 : w118.frozen? ⟨w66.heap.size, 5, none⟩ = false := (bx3.2 5 _ rfl).2
  go_wp2_with fail
  clear ca122 fa122 ca123_0 fa123_0 ca123_1 fa123_1 ca123_2 fa123_2 ca123_3 fa123_3 ca123_4 fa123_4 ca123_5 fa123_5 ca124_0 fa124_0 ca124_1 fa124_1 ca124_2 fa124_2 ca124_3 fa124_3 ca124_4 fa124_4 ca124_5 fa124_5 ca125 fa125 ca126_0 fa126_0 ca126_1 fa126_1 ca126_2 fa126_2 ca126_3 fa126_3 ca126_4 fa126_4 ca126_5 fa126_5 ca127_0 fa127_0 ca127_1 fa127_1 ca127_2 fa127_2 ca127_3 fa127_3 ca127_4 fa127_4 ca127_5 fa127_5
  refine (eqVariableS_true x1.1 t1.1).mono ?_
  rintro e w128 ⟨rfl, k128⟩
  have ss129 := k128.size
  replace p0 := p0.keeps k128
  replace p2 := p2.keeps k128
  replace p3 := p3.keeps k128
  replace bx0 := bx0.keeps k128
  replace bx2 := bx2.keeps k128
  replace bx3 := bx3.keeps k128
  replace p_0 := p_0.keeps k128
  replace p_1 := p_1.keeps k128
  replace x0 := x0.keeps k128
  replace x1 := x1.keeps k128
  replace x2 := x2.keeps k128
  replace x3 := x3.keeps k128
  replace g_0 := g_0.keeps k128
  replace g_1 := g_1.keeps k128
  replace t1 := t1.keeps k128
  replace kw := Keeps.trans kw k128
  have lt130 := bx3.lt
  have sz131 := kw.size
  clear k128
  clear t1
  obtain ⟨ca132, fa132⟩ := id p0
  have ca133_0 : w128.cell? ⟨w.heap.size + 1, 0, none⟩ = some (.int .i64 v2) := (p2.2 0 _ rfl).1
  have fa133_0 : w128.frozen? ⟨w.heap.size + 1, 0, none⟩ = false := (p2.2 0 _ rfl).2
  have ca133_1 : w128.cell? ⟨w.heap.size + 1, 1, none⟩ = some (.slice A2 n2 c2) := (p2.2 1 _ rfl).1
  have fa133_1 : w128.frozen? ⟨w.heap.size + 1, 1, none⟩ = false := (p2.2 1 _ rfl).2
  have ca133_2 : w128.cell? ⟨w.heap.size + 1, 2, none⟩ = some (.int .i64 d2a) := (p2.2 2 _ rfl).1
  have fa133_2 : w128.frozen? ⟨w.heap.size + 1, 2, none⟩ = false := (p2.2 2 _ rfl).2
  have ca133_3 : w128.cell? ⟨w.heap.size + 1, 3, none⟩ = some (.int .i64 d2b) := (p2.2 3 _ rfl).1
  have fa133_3 : w128.frozen? ⟨w.heap.size + 1, 3, none⟩ = false := (p2.2 3 _ rfl).2
  have ca133_4 : w128.cell? ⟨w.heap.size + 1, 4, none⟩ = some (.int .i64 d2c) := (p2.2 4 _ rfl).1
  have fa133_4 : w128.frozen? ⟨w.heap.size + 1, 4, none⟩ = false := (p2.2 4 _ rfl).2
  have ca133_5 : w128.cell? ⟨w.heap.size + 1, 5, none⟩ = some (.int .i64 d2d) := (p2.2 5 _ rfl).1
  have fa133_5 : w128.frozen? ⟨w.heap.size + 1, 5, none⟩ = false := (p2.2 5 _ rfl).2
  have ca134_0 : w128.cell? ⟨w.heap.size + 1 + 1, 0, none⟩ = some (.int .i64 v3) := (p3.2 0 _ rfl).1
  have fa134_0 : w128.frozen? ⟨w.heap.size + 1 + 1, 0, none⟩ = false := (p3.2 0 _ rfl).2
  have ca134_1 : w128.cell? ⟨w.heap.size + 1 + 1, 1, none⟩ = some (.slice A3 n3 c3) := (p3.2 1 _ rfl).1
  have fa134_1 : w128.frozen? ⟨w.heap.size + 1 + 1, 1, none⟩ = false := (p3.2 1 _ rfl).2
  have ca134_2 : w128.cell? ⟨w.heap.size + 1 + 1, 2, none⟩ = some (.int .i64 d3a) := (p3.2 2 _ rfl).1
  have fa134_2 : w128.frozen? ⟨w.heap.size + 1 + 1, 2, none⟩ = false := (p3.2 2 _ rfl).2
  have ca134_3 : w128.cell? ⟨w.heap.size + 1 + 1, 3, none⟩ = some (.int .i64 d3b) := (p3.2 3 _ rfl).1
  have fa134_3 : w128.frozen? ⟨w.heap.size + 1 + 1, 3, none⟩ = false := (p3.2 3 _ rfl).2
  have ca134_4 : w128.cell? ⟨w.heap.size + 1 + 1, 4, none⟩ = some (.int .i64 d3c) := (p3.2 4 _ rfl).1
  have fa134_4 : w128.frozen? ⟨w.heap.size + 1 + 1, 4, none⟩ = false := (p3.2 4 _ rfl).2
  have ca134_5 : w128.cell? ⟨w.heap.size + 1 + 1, 5, none⟩ = some (.int .i64 d3d) := (p3.2 5 _ rfl).1
  have fa134_5 : w128.frozen? ⟨w.heap.size + 1 + 1, 5, none⟩ = false := (p3.2 5 _ rfl).2
  obtain ⟨ca135, fa135⟩ := id bx0
  have ca136_0 : w128.cell? ⟨w57.heap.size, 0, none⟩ = some (.int .i64 v2) := (bx2.2 0 _ rfl).1
  have fa136_0 : w128.frozen? ⟨w57.heap.size, 0, none⟩ = false := (bx2.2 0 _ rfl).2
  have ca136_1 : w128.cell? ⟨w57.heap.size, 1, none⟩ = some (.slice Bx2 n2 n2) := (bx2.2 1 _ rfl).1
  have fa136_1 : w128.frozen? ⟨w57.heap.size, 1, none⟩ = false := (bx2.2 1 _ rfl).2
  have ca136_2 : w128.cell? ⟨w57.heap.size, 2, none⟩ = some (.int .i64 d2a) := (bx2.2 2 _ rfl).1
  have fa136_2 : w128.frozen? ⟨w57.heap.size, 2, none⟩ = false := (bx2.2 2 _ rfl).2
  have ca136_3 : w128.cell? ⟨w57.heap.size, 3, none⟩ = some (.int .i64 d2b) := (bx2.2 3 _ rfl).1
  have fa136_3 : w128.frozen? ⟨w57.heap.size, 3, none⟩ = false := (bx2.2 3 _ rfl).2
  have ca136_4 : w128.cell? ⟨w57.heap.size, 4, none⟩ = some (.int .i64 d2c) := (bx2.2 4 _ rfl).1
  have fa136_4 : w128.frozen? ⟨w57.heap.size, 4, none⟩ = false := (bx2.2 4 _ rfl).2
  have ca136_5 : w128.cell? ⟨w57.heap.size, 5, none⟩ = some (.int .i64 d2d) := (bx2.2 5 _ rfl).1
  have fa136_5 : w128.frozen? ⟨w57.heap.size, 5, none⟩ = false := (bx2.2 5 _ rfl).2
  have ca137_0 : w128.cell? ⟨w66.heap.size, 0, none⟩ = some (.int .i64 v3) := (bx3.2 0 _ rfl).1
  have fa137_0 : w128.frozen? ⟨w66.heap.size, 0, none⟩ = false := (bx3.2 0 _ rfl).2
  have ca137_1 : w128.cell? ⟨w66.heap.size, 1, none⟩ = some (.slice Bx3 n3 n3) := (bx3.2 1 _ rfl).1
  have fa137_1 : w128.frozen? ⟨w66.heap.size, 1, none⟩ = false := (bx3.2 1 _ rfl).2
  have ca137_2 : w128.cell? ⟨w66.heap.size, 2, none⟩ = some (.int .i64 d3a) := (bx3.2 2 _ rfl).1
  have fa137_2 : w128.frozen? ⟨w66.heap.size, 2, none⟩ = false := (bx3.2 2 _ rfl).2
  have ca137_3 : w128.cell? ⟨w66.heap.size, 3, none⟩ = some (.int .i64 d3b) := (bx3.2 3 _ rfl).1
  have fa137_3 : w128.frozen? ⟨w66.heap.size, 3, none⟩ = false := (bx3.2 3 _ rfl).2
  have ca137_4 : w128.cell? ⟨w66.heap.size, 4, none⟩ = some (.int .i64 d3c) := (bx3.2 4 _ rfl).1
  have fa137_4 : w128.frozen? ⟨w66.heap.size, 4, none⟩ = false := (bx3.2 4 _ rfl).2
  have ca137_5 : w128.cell? ⟨w66.heap.size, 5, none⟩ = some (.int .i64 d3d) := (bx3.2 5 _ rfl).1
  have fa137_5 : w128.frozen? ⟨w66.heap.size, 5, none⟩ = false := (bx3.2 5 _ rfl).2
  go_wp2_with fail
  clear ca132 fa132 ca133_0 fa133_0 ca133_1 fa133_1 ca133_2 fa133_2 ca133_3 fa133_3 ca133_4 fa133_4 ca133_5 fa133_5 ca134_0 fa134_0 ca134_1 fa134_1 ca134_2 fa134_2 ca134_3 fa134_3 ca134_4 fa134_4 ca134_5 fa134_5 ca135 fa135 ca136_0 fa136_0 ca136_1 fa136_1 ca136_2 fa136_2 ca136_3 fa136_3 ca136_4 fa136_4 ca136_5 fa136_5 ca137_0 fa137_0 ca137_1 fa137_1 ca137_2 fa137_2 ca137_3 fa137_3 ca137_4 fa137_4 ca137_5 fa137_5
  have ca138_0 : w128.cell? ⟨w57.heap.size, 0, none⟩ = some (.int .i64 v2) := (bx2.2 0 _ rfl).1
  have ca138_1 : w128.cell? ⟨w57.heap.size, 1, none⟩ = some (.slice Bx2 n2 n2) := (bx2.2 1 _ rfl).1
  have ca138_2 : w128.cell? ⟨w57.heap.size, 2, none⟩ = some (.int .i64 d2a) := (bx2.2 2 _ rfl).1
  have ca138_3 : w128.cell? ⟨w57.heap.size, 3, none⟩ = some (.int .i64 d2b) := (bx2.2 3 _ rfl).1
  have ca138_4 : w128.cell? ⟨w57.heap.size, 4, none⟩ = some (.int .i64 d2c) := (bx2.2 4 _ rfl).1
  have ca138_5 : w128.cell? ⟨w57.heap.size, 5, none⟩ = some (.int .i64 d2d) := (bx2.2 5 _ rfl).1
  have ca139_0 : w128.cell? ⟨w.heap.size + 1, 0, none⟩ = some (.int .i64 v2) := (p2.2 0 _ rfl).1
  have ca139_1 : w128.cell? ⟨w.heap.size + 1, 1, none⟩ = some (.slice A2 n2 c2) := (p2.2 1 _ rfl).1
  have ca139_2 : w128.cell? ⟨w.heap.size + 1, 2, none⟩ = some (.int .i64 d2a) := (p2.2 2 _ rfl).1
  have ca139_3 : w128.cell? ⟨w.heap.size + 1, 3, none⟩ = some (.int .i64 d2b) := (p2.2 3 _ rfl).1
  have ca139_4 : w128.cell? ⟨w.heap.size + 1, 4, none⟩ = some (.int .i64 d2c) := (p2.2 4 _ rfl).1
  have ca139_5 : w128.cell? ⟨w.heap.size + 1, 5, none⟩ = some (.int .i64 d2d) := (p2.2 5 _ rfl).1
  have kS := hid (show ∀ w', Keeps w128 w' → (w'.cell? ⟨w57.heap.size, 0, none⟩ = some (.int .i64 v2) ∧ w'.cell? ⟨w57.heap.size, 1, none⟩ = some (.slice Bx2 n2 n2) ∧ w'.cell? ⟨w57.heap.size, 2, none⟩ = some (.int .i64 d2a) ∧ w'.cell? ⟨w57.heap.size, 3, none⟩ = some (.int .i64 d2b) ∧ w'.cell? ⟨w57.heap.size, 4, none⟩ = some (.int .i64 d2c) ∧ w'.cell? ⟨w57.heap.size, 5, none⟩ = some (.int .i64 d2d) ∧ w'.cell? ⟨w.heap.size + 1, 0, none⟩ = some (.int .i64 v2) ∧ w'.cell? ⟨w.heap.size + 1, 1, none⟩ = some (.slice A2 n2 c2) ∧ w'.cell? ⟨w.heap.size + 1, 2, none⟩ = some (.int .i64 d2a) ∧ w'.cell? ⟨w.heap.size + 1, 3, none⟩ = some (.int .i64 d2b) ∧ w'.cell? ⟨w.heap.size + 1, 4, none⟩ = some (.int .i64 d2c) ∧ w'.cell? ⟨w.heap.size + 1, 5, none⟩ = some (.int .i64 d2d)) from fun w' k => ⟨cell_keeps ca138_0 k, cell_keeps ca138_1 k, cell_keeps ca138_2 k, cell_keeps ca138_3 k, cell_keeps ca138_4 k, cell_keeps ca138_5 k, cell_keeps ca139_0 k, cell_keeps ca139_1 k, cell_keeps ca139_2 k, cell_keeps ca139_3 k, cell_keeps ca139_4 k, cell_keeps ca139_5 k⟩)
  go_region_held3 (fun w' => w'.cell? ⟨w57.heap.size, 0, none⟩ = some (.int .i64 v2) ∧ w'.cell? ⟨w57.heap.size, 1, none⟩ = some (.slice Bx2 n2 n2) ∧ w'.cell? ⟨w57.heap.size, 2, none⟩ = some (.int .i64 d2a) ∧ w'.cell? ⟨w57.heap.size, 3, none⟩ = some (.int .i64 d2b) ∧ w'.cell? ⟨w57.heap.size, 4, none⟩ = some (.int .i64 d2c) ∧ w'.cell? ⟨w57.heap.size, 5, none⟩ = some (.int .i64 d2d) ∧ w'.cell? ⟨w.heap.size + 1, 0, none⟩ = some (.int .i64 v2) ∧ w'.cell? ⟨w.heap.size + 1, 1, none⟩ = some (.slice A2 n2 c2) ∧ w'.cell? ⟨w.heap.size + 1, 2, none⟩ = some (.int .i64 d2a) ∧ w'.cell? ⟨w.heap.size + 1, 3, none⟩ = some (.int .i64 d2b) ∧ w'.cell? ⟨w.heap.size + 1, 4, none⟩ = some (.int .i64 d2c) ∧ w'.cell? ⟨w.heap.size + 1, 5, none⟩ = some (.int .i64 d2d)) (first | exact kS.out _ (keeps_d0 w128) | exact kS.out _ kW | go_keep)
    ((first | (go_at_call 11; refine (toRelease_any (h2.keeps (Keeps.trans kw (keeps_d0 w128)))).mono ?_; rintro e wB140 ⟨Bt140, rfl, t2, kB⟩; have kW : Keeps w128 wB140 := keeps_d kB; clear kB) | (go_at_call 16; refine (eqRelease_true (x2.keeps kW) t2).mono ?_; rintro e wC140 ⟨rfl, kC⟩; replace kW : Keeps w128 wC140 := kW.trans kC; clear kC)))
  clear kS t2
  clear ca138_0 ca138_1 ca138_2 ca138_3 ca138_4 ca138_5 ca139_0 ca139_1 ca139_2 ca139_3 ca139_4 ca139_5
  have ss141 := kW.size
  replace p0 := p0.keeps kW
  replace p2 := p2.keeps kW
  replace p3 := p3.keeps kW
  replace bx0 := bx0.keeps kW
  replace bx2 := bx2.keeps kW
  replace bx3 := bx3.keeps kW
  replace p_0 := p_0.keeps kW
  replace p_1 := p_1.keeps kW
  replace x0 := x0.keeps kW
  replace x1 := x1.keeps kW
  replace x2 := x2.keeps kW
  replace x3 := x3.keeps kW
  replace g_0 := g_0.keeps kW
  replace g_1 := g_1.keeps kW
  replace kw := Keeps.trans kw kW
  have lt142 := bx3.lt
  have sz143 := kw.size
  clear kW
  obtain ⟨ca144, fa144⟩ := id p0
  have ca145_0 : wC140.cell? ⟨w.heap.size + 1, 0, none⟩ = some (.int .i64 v2) := (p2.2 0 _ rfl).1
  have fa145_0 : wC140.frozen? ⟨w.heap.size + 1, 0, none⟩ = false := (p2.2 0 _ rfl).2
  have ca145_1 : wC140.cell? ⟨w.heap.size + 1, 1, none⟩ = some (.slice A2 n2 c2) := (p2.2 1 _ rfl).1
  have fa145_1 : wC140.frozen? ⟨w.heap.size + 1, 1, none⟩ = false := (p2.2 1 _ rfl).2
  have ca145_2 : wC140.cell? ⟨w.heap.size + 1, 2, none⟩ = some (.int .i64 d2a) := (p2.2 2 _ rfl).1
  have fa145_2 : wC140.frozen? ⟨w.heap.size + 1, 2, none⟩ = false := (p2.2 2 _ rfl).2
  have ca145_3 : wC140.cell? ⟨w.heap.size + 1, 3, none⟩ = some (.int .i64 d2b) := (p2.2 3 _ rfl).1
  have fa145_3 : wC140.frozen? ⟨w.heap.size + 1, 3, none⟩ = false := (p2.2 3 _ rfl).2
  have ca145_4 : wC140.cell? ⟨w.heap.size + 1, 4, none⟩ = some (.int .i64 d2c) := (p2.2 4 _ rfl).1
  have fa145_4 : wC140.frozen? ⟨w.heap.size + 1, 4, none⟩ = false := (p2.2 4 _ rfl).2
  have ca145_5 : wC140.cell? ⟨w.heap.size + 1, 5, none⟩ = some (.int .i64 d2d) := (p2.2 5 _ rfl).1
  have fa145_5 : wC140.frozen? ⟨w.heap.size + 1, 5, none⟩ = false := (p2.2 5 _ rfl).2
  have ca146_0 : wC140.cell? ⟨w.heap.size + 1 + 1, 0, none⟩ = some (.int .i64 v3) := (p3.2 0 _ rfl).1
  have fa146_0 : wC140.frozen? ⟨w.heap.size + 1 + 1, 0, none⟩ = false := (p3.2 0 _ rfl).2
  have ca146_1 : wC140.cell? ⟨w.heap.size + 1 + 1, 1, none⟩ = some (.slice A3 n3 c3) := (p3.2 1 _ rfl).1
  have fa146_1 : wC140.frozen? ⟨w.heap.size + 1 + 1, 1, none⟩ = false := (p3.2 1 _ rfl).2
  have ca146_2 : wC140.cell? ⟨w.heap.size + 1 + 1, 2, none⟩ = some (.int .i64 d3a) := (p3.2 2 _ rfl).1
  have fa146_2 : wC140.frozen? ⟨w.heap.size + 1 + 1, 2, none⟩ = false := (p3.2 2 _ rfl).2
  have ca146_3 : wC140.cell? ⟨w.heap.size + 1 + 1, 3, none⟩ = some (.int .i64 d3b) := (p3.2 3 _ rfl).1
  have fa146_3 : wC140.frozen? ⟨w.heap.size + 1 + 1, 3, none⟩ = false := (p3.2 3 _ rfl).2
  have ca146_4 : wC140.cell? ⟨w.heap.size + 1 + 1, 4, none⟩ = some (.int .i64 d3c) := (p3.2 4 _ rfl).1
  have fa146_4 : wC140.frozen? ⟨w.heap.size + 1 + 1, 4, none⟩ = false := (p3.2 4 _ rfl).2
  have ca146_5 : wC140.cell? ⟨w.heap.size + 1 + 1, 5, none⟩ = some (.int .i64 d3d) := (p3.2 5 _ rfl).1
  have fa146_5 : wC140.frozen? ⟨w.heap.size + 1 + 1, 5, none⟩ = false := (p3.2 5 _ rfl).2
  obtain ⟨ca147, fa147⟩ := id bx0
  have ca148_0 : wC140.cell? ⟨w57.heap.size, 0, none⟩ = some (.int .i64 v2) := (bx2.2 0 _ rfl).1
  have fa148_0 : wC140.frozen? ⟨w57.heap.size, 0, none⟩ = false := (bx2.2 0 _ rfl).2
  have ca148_1 : wC140.cell? ⟨w57.heap.size, 1, none⟩ = some (.slice Bx2 n2 n2) := (bx2.2 1 _ rfl).1
  have fa148_1 : wC140.frozen? ⟨w57.heap.size, 1, none⟩ = false := (bx2.2 1 _ rfl).2
  have ca148_2 : wC140.cell? ⟨w57.heap.size, 2, none⟩ = some (.int .i64 d2a) := (bx2.2 2 _ rfl).1
  have fa148_2 : wC140.frozen? ⟨w57.heap.size, 2, none⟩ = false := (bx2.2 2 _ rfl).2
  have ca148_3 : wC140.cell? ⟨w57.heap.size, 3, none⟩ = some (.int .i64 d2b) := (bx2.2 3 _ rfl).1
  have fa148_3 : wC140.frozen? ⟨w57.heap.size, 3, none⟩ = false := (bx2.2 3 _ rfl).2
  have ca148_4 : wC140.cell? ⟨w57.heap.size, 4, none⟩ = some (.int .i64 d2c) := (bx2.2 4 _ rfl).1
  have fa148_4 : wC140.frozen? ⟨w57.heap.size, 4, none⟩ = false := (bx2.2 4 _ rfl).2
  have ca148_5 : wC140.cell? ⟨w57.heap.size, 5, none⟩ = some (.int .i64 d2d) := (bx2.2 5 _ rfl).1
  have fa148_5 : wC140.frozen? ⟨w57.heap.size, 5, none⟩ = false := (bx2.2 5 _ rfl).2
  have ca149_0 : wC140.cell? ⟨w66.heap.size, 0, none⟩ = some (.int .i64 v3) := (bx3.2 0 _ rfl).1
  have fa149_0 : wC140.frozen? ⟨w66.heap.size, 0, none⟩ = false := (bx3.2 0 _ rfl).2
  have ca149_1 : wC140.cell? ⟨w66.heap.size, 1, none⟩ = some (.slice Bx3 n3 n3) := (bx3.2 1 _ rfl).1
  have fa149_1 : wC140.frozen? ⟨w66.heap.size, 1, none⟩ = false := (bx3.2 1 _ rfl).2
  have ca149_2 : wC140.cell? ⟨w66.heap.size, 2, none⟩ = some (.int .i64 d3a) := (bx3.2 2 _ rfl).1
  have fa149_2 : wC140.frozen? ⟨w66.heap.size, 2, none⟩ = false := (bx3.2 2 _ rfl).2
  have ca149_3 : wC140.cell? ⟨w66.heap.size, 3, none⟩ = some (.int .i64 d3b) := (bx3.2 3 _ rfl).1
  have fa149_3 : wC140.frozen? ⟨w66.heap.size, 3, none⟩ = false := (bx3.2 3 _ rfl).2
  have ca149_4 : wC140.cell? ⟨w66.heap.size, 4, none⟩ = some (.int .i64 d3c) := (bx3.2 4 _ rfl).1
  have fa149_4 : wC140.frozen? ⟨w66.heap.size, 4, none⟩ = false := (bx3.2 4 _ rfl).2
  have ca149_5 : wC140.cell? ⟨w66.heap.size, 5, none⟩ = some (.int .i64 d3d) := (bx3.2 5 _ rfl).1
  have fa149_5 : wC140.frozen? ⟨w66.heap.size, 5, none⟩ = false := (bx3.2 5 _ rfl).2
  go_wp2_with fail
  clear ca144 fa144 ca145_0 fa145_0 ca145_1 fa145_1 ca145_2 fa145_2 ca145_3 fa145_3 ca145_4 fa145_4 ca145_5 fa145_5 ca146_0 fa146_0 ca146_1 fa146_1 ca146_2 fa146_2 ca146_3 fa146_3 ca146_4 fa146_4 ca146_5 fa146_5 ca147 fa147 ca148_0 fa148_0 ca148_1 fa148_1 ca148_2 fa148_2 ca148_3 fa148_3 ca148_4 fa148_4 ca148_5 fa148_5 ca149_0 fa149_0 ca149_1 fa149_1 ca149_2 fa149_2 ca149_3 fa149_3 ca149_4 fa149_4 ca149_5 fa149_5
  have ca150_0 : wC140.cell? ⟨w66.heap.size, 0, none⟩ = some (.int .i64 v3) := (bx3.2 0 _ rfl).1
  have ca150_1 : wC140.cell? ⟨w66.heap.size, 1, none⟩ = some (.slice Bx3 n3 n3) := (bx3.2 1 _ rfl).1
  have ca150_2 : wC140.cell? ⟨w66.heap.size, 2, none⟩ = some (.int .i64 d3a) := (bx3.2 2 _ rfl).1
  have ca150_3 : wC140.cell? ⟨w66.heap.size, 3, none⟩ = some (.int .i64 d3b) := (bx3.2 3 _ rfl).1
  have ca150_4 : wC140.cell? ⟨w66.heap.size, 4, none⟩ = some (.int .i64 d3c) := (bx3.2 4 _ rfl).1
  have ca150_5 : wC140.cell? ⟨w66.heap.size, 5, none⟩ = some (.int .i64 d3d) := (bx3.2 5 _ rfl).1
  have ca151_0 : wC140.cell? ⟨w.heap.size + 1 + 1, 0, none⟩ = some (.int .i64 v3) := (p3.2 0 _ rfl).1
  have ca151_1 : wC140.cell? ⟨w.heap.size + 1 + 1, 1, none⟩ = some (.slice A3 n3 c3) := (p3.2 1 _ rfl).1
  have ca151_2 : wC140.cell? ⟨w.heap.size + 1 + 1, 2, none⟩ = some (.int .i64 d3a) := (p3.2 2 _ rfl).1
  have ca151_3 : wC140.cell? ⟨w.heap.size + 1 + 1, 3, none⟩ = some (.int .i64 d3b) := (p3.2 3 _ rfl).1
  have ca151_4 : wC140.cell? ⟨w.heap.size + 1 + 1, 4, none⟩ = some (.int .i64 d3c) := (p3.2 4 _ rfl).1
  have ca151_5 : wC140.cell? ⟨w.heap.size + 1 + 1, 5, none⟩ = some (.int .i64 d3d) := (p3.2 5 _ rfl).1
  have kS := hid (show ∀ w', Keeps wC140 w' → (w'.cell? ⟨w66.heap.size, 0, none⟩ = some (.int .i64 v3) ∧ w'.cell? ⟨w66.heap.size, 1, none⟩ = some (.slice Bx3 n3 n3) ∧ w'.cell? ⟨w66.heap.size, 2, none⟩ = some (.int .i64 d3a) ∧ w'.cell? ⟨w66.heap.size, 3, none⟩ = some (.int .i64 d3b) ∧ w'.cell? ⟨w66.heap.size, 4, none⟩ = some (.int .i64 d3c) ∧ w'.cell? ⟨w66.heap.size, 5, none⟩ = some (.int .i64 d3d) ∧ w'.cell? ⟨w.heap.size + 1 + 1, 0, none⟩ = some (.int .i64 v3) ∧ w'.cell? ⟨w.heap.size + 1 + 1, 1, none⟩ = some (.slice A3 n3 c3) ∧ w'.cell? ⟨w.heap.size + 1 + 1, 2, none⟩ = some (.int .i64 d3a) ∧ w'.cell? ⟨w.heap.size + 1 + 1, 3, none⟩ = some (.int .i64 d3b) ∧ w'.cell? ⟨w.heap.size + 1 + 1, 4, none⟩ = some (.int .i64 d3c) ∧ w'.cell? ⟨w.heap.size + 1 + 1, 5, none⟩ = some (.int .i64 d3d)) from fun w' k => ⟨cell_keeps ca150_0 k, cell_keeps ca150_1 k, cell_keeps ca150_2 k, cell_keeps ca150_3 k, cell_keeps ca150_4 k, cell_keeps ca150_5 k, cell_keeps ca151_0 k, cell_keeps ca151_1 k, cell_keeps ca151_2 k, cell_keeps ca151_3 k, cell_keeps ca151_4 k, cell_keeps ca151_5 k⟩)
  go_region_held3 (fun w' => w'.cell? ⟨w66.heap.size, 0, none⟩ = some (.int .i64 v3) ∧ w'.cell? ⟨w66.heap.size, 1, none⟩ = some (.slice Bx3 n3 n3) ∧ w'.cell? ⟨w66.heap.size, 2, none⟩ = some (.int .i64 d3a) ∧ w'.cell? ⟨w66.heap.size, 3, none⟩ = some (.int .i64 d3b) ∧ w'.cell? ⟨w66.heap.size, 4, none⟩ = some (.int .i64 d3c) ∧ w'.cell? ⟨w66.heap.size, 5, none⟩ = some (.int .i64 d3d) ∧ w'.cell? ⟨w.heap.size + 1 + 1, 0, none⟩ = some (.int .i64 v3) ∧ w'.cell? ⟨w.heap.size + 1 + 1, 1, none⟩ = some (.slice A3 n3 c3) ∧ w'.cell? ⟨w.heap.size + 1 + 1, 2, none⟩ = some (.int .i64 d3a) ∧ w'.cell? ⟨w.heap.size + 1 + 1, 3, none⟩ = some (.int .i64 d3b) ∧ w'.cell? ⟨w.heap.size + 1 + 1, 4, none⟩ = some (.int .i64 d3c) ∧ w'.cell? ⟨w.heap.size + 1 + 1, 5, none⟩ = some (.int .i64 d3d)) (first | exact kS.out _ (keeps_d0 wC140) | exact kS.out _ kW | go_keep)
    ((first | (go_at_call 11; refine (toRelease_any (h3.keeps (Keeps.trans kw (keeps_d0 wC140)))).mono ?_; rintro e wB152 ⟨Bt152, rfl, t3, kB⟩; have kW : Keeps wC140 wB152 := keeps_d kB; clear kB) | (go_at_call 16; refine (eqRelease_true (x3.keeps kW) t3).mono ?_; rintro e wC152 ⟨rfl, kC⟩; replace kW : Keeps wC140 wC152 := kW.trans kC; clear kC)))
  clear kS t3
  clear ca150_0 ca150_1 ca150_2 ca150_3 ca150_4 ca150_5 ca151_0 ca151_1 ca151_2 ca151_3 ca151_4 ca151_5
  have ss153 := kW.size
  replace p0 := p0.keeps kW
  replace p2 := p2.keeps kW
  replace p3 := p3.keeps kW
  replace bx0 := bx0.keeps kW
  replace bx2 := bx2.keeps kW
  replace bx3 := bx3.keeps kW
  replace p_0 := p_0.keeps kW
  replace p_1 := p_1.keeps kW
  replace x0 := x0.keeps kW
  replace x1 := x1.keeps kW
  replace x2 := x2.keeps kW
  replace x3 := x3.keeps kW
  replace g_0 := g_0.keeps kW
  replace g_1 := g_1.keeps kW
  replace kw := Keeps.trans kw kW
  have lt154 := bx3.lt
  have sz155 := kw.size
  clear kW
  obtain ⟨ca156, fa156⟩ := id p0
  have ca157_0 : wC152.cell? ⟨w.heap.size + 1, 0, none⟩ = some (.int .i64 v2) := (p2.2 0 _ rfl).1
  have fa157_0 : wC152.frozen? ⟨w.heap.size + 1, 0, none⟩ = false := (p2.2 0 _ rfl).2
  have ca157_1 : wC152.cell? ⟨w.heap.size + 1, 1, none⟩ = some (.slice A2 n2 c2) := (p2.2 1 _ rfl).1
  have fa157_1 : wC152.frozen? ⟨w.heap.size + 1, 1, none⟩ = false := (p2.2 1 _ rfl).2
  have ca157_2 : wC152.cell? ⟨w.heap.size + 1, 2, none⟩ = some (.int .i64 d2a) := (p2.2 2 _ rfl).1
  have fa157_2 : wC152.frozen? ⟨w.heap.size + 1, 2, none⟩ = false := (p2.2 2 _ rfl).2
  have ca157_3 : wC152.cell? ⟨w.heap.size + 1, 3, none⟩ = some (.int .i64 d2b) := (p2.2 3 _ rfl).1
  have fa157_3 : wC152.frozen? ⟨w.heap.size + 1, 3, none⟩ = false := (p2.2 3 _ rfl).2
  have ca157_4 : wC152.cell? ⟨w.heap.size + 1, 4, none⟩ = some (.int .i64 d2c) := (p2.2 4 _ rfl).1
  have fa157_4 : wC152.frozen? ⟨w.heap.size + 1, 4, none⟩ = false := (p2.2 4 _ rfl).2
  have ca157_5 : wC152.cell? ⟨w.heap.size + 1, 5, none⟩ = some (.int .i64 d2d) := (p2.2 5 _ rfl).1
  have fa157_5 : wC152.frozen? ⟨w.heap.size + 1, 5, none⟩ = false := (p2.2 5 _ rfl).2
  have ca158_0 : wC152.cell? ⟨w.heap.size + 1 + 1, 0, none⟩ = some (.int .i64 v3) := (p3.2 0 _ rfl).1
  have fa158_0 : wC152.frozen? ⟨w.heap.size + 1 + 1, 0, none⟩ = false := (p3.2 0 _ rfl).2
  have ca158_1 : wC152.cell? ⟨w.heap.size + 1 + 1, 1, none⟩ = some (.slice A3 n3 c3) := (p3.2 1 _ rfl).1
  have fa158_1 : wC152.frozen? ⟨w.heap.size + 1 + 1, 1, none⟩ = false := (p3.2 1 _ rfl).2
  have ca158_2 : wC152.cell? ⟨w.heap.size + 1 + 1, 2, none⟩ = some (.int .i64 d3a) := (p3.2 2 _ rfl).1
  have fa158_2 : wC152.frozen? ⟨w.heap.size + 1 + 1, 2, none⟩ = false := (p3.2 2 _ rfl).2
  have ca158_3 : wC152.cell? ⟨w.heap.size + 1 + 1, 3, none⟩ = some (.int .i64 d3b) := (p3.2 3 _ rfl).1
  have fa158_3 : wC152.frozen? ⟨w.heap.size + 1 + 1, 3, none⟩ = false := (p3.2 3 _ rfl).2
  have ca158_4 : wC152.cell? ⟨w.heap.size + 1 + 1, 4, none⟩ = some (.int .i64 d3c) := (p3.2 4 _ rfl).1
  have fa158_4 : wC152.frozen? ⟨w.heap.size + 1 + 1, 4, none⟩ = false := (p3.2 4 _ rfl).2
  have ca158_5 : wC152.cell? ⟨w.heap.size + 1 + 1, 5, none⟩ = some (.int .i64 d3d) := (p3.2 5 _ rfl).1
  have fa158_5 : wC152.frozen? ⟨w.heap.size + 1 + 1, 5, none⟩ = false := (p3.2 5 _ rfl).2
  obtain ⟨ca159, fa159⟩ := id bx0
  have ca160_0 : wC152.cell? ⟨w57.heap.size, 0, none⟩ = some (.int .i64 v2) := (bx2.2 0 _ rfl).1
  have fa160_0 : wC152.frozen? ⟨w57.heap.size, 0, none⟩ = false := (bx2.2 0 _ rfl).2
  have ca160_1 : wC152.cell? ⟨w57.heap.size, 1, none⟩ = some (.slice Bx2 n2 n2) := (bx2.2 1 _ rfl).1
  have fa160_1 : wC152.frozen? ⟨w57.heap.size, 1, none⟩ = false := (bx2.2 1 _ rfl).2
  have ca160_2 : wC152.cell? ⟨w57.heap.size, 2, none⟩ = some (.int .i64 d2a) := (bx2.2 2 _ rfl).1
  have fa160_2 : wC152.frozen? ⟨w57.heap.size, 2, none⟩ = false := (bx2.2 2 _ rfl).2
  have ca160_3 : wC152.cell? ⟨w57.heap.size, 3, none⟩ = some (.int .i64 d2b) := (bx2.2 3 _ rfl).1
  have fa160_3 : wC152.frozen? ⟨w57.heap.size, 3, none⟩ = false := (bx2.2 3 _ rfl).2
  have ca160_4 : wC152.cell? ⟨w57.heap.size, 4, none⟩ = some (.int .i64 d2c) := (bx2.2 4 _ rfl).1
  have fa160_4 : wC152.frozen? ⟨w57.heap.size, 4, none⟩ = false := (bx2.2 4 _ rfl).2
  have ca160_5 : wC152.cell? ⟨w57.heap.size, 5, none⟩ = some (.int .i64 d2d) := (bx2.2 5 _ rfl).1
  have fa160_5 : wC152.frozen? ⟨w57.heap.size, 5, none⟩ = false := (bx2.2 5 _ rfl).2
  have ca161_0 : wC152.cell? ⟨w66.heap.size, 0, none⟩ = some (.int .i64 v3) := (bx3.2 0 _ rfl).1
  have fa161_0 : wC152.frozen? ⟨w66.heap.size, 0, none⟩ = false := (bx3.2 0 _ rfl).2
  have ca161_1 : wC152.cell? ⟨w66.heap.size, 1, none⟩ = some (.slice Bx3 n3 n3) := (bx3.2 1 _ rfl).1
  have fa161_1 : wC152.frozen? ⟨w66.heap.size, 1, none⟩ = false := (bx3.2 1 _ rfl).2
  have ca161_2 : wC152.cell? ⟨w66.heap.size, 2, none⟩ = some (.int .i64 d3a) := (bx3.2 2 _ rfl).1
  have fa161_2 : wC152.frozen? ⟨w66.heap.size, 2, none⟩ = false := (bx3.2 2 _ rfl).2
  have ca161_3 : wC152.cell? ⟨w66.heap.size, 3, none⟩ = some (.int .i64 d3b) := (bx3.2 3 _ rfl).1
  have fa161_3 : wC152.frozen? ⟨w66.heap.size, 3, none⟩ = false := (bx3.2 3 _ rfl).2
  have ca161_4 : wC152.cell? ⟨w66.heap.size, 4, none⟩ = some (.int .i64 d3c) := (bx3.2 4 _ rfl).1
  have fa161_4 : wC152.frozen? ⟨w66.heap.size, 4, none⟩ = false := (bx3.2 4 _ rfl).2
  have ca161_5 : wC152.cell? ⟨w66.heap.size, 5, none⟩ = some (.int .i64 d3d) := (bx3.2 5 _ rfl).1
  have fa161_5 : wC152.frozen? ⟨w66.heap.size, 5, none⟩ = false := (bx3.2 5 _ rfl).2
  go_wp2_with fail
  clear ca156 fa156 ca157_0 fa157_0 ca157_1 fa157_1 ca157_2 fa157_2 ca157_3 fa157_3 ca157_4 fa157_4 ca157_5 fa157_5 ca158_0 fa158_0 ca158_1 fa158_1 ca158_2 fa158_2 ca158_3 fa158_3 ca158_4 fa158_4 ca158_5 fa158_5 ca159 fa159 ca160_0 fa160_0 ca160_1 fa160_1 ca160_2 fa160_2 ca160_3 fa160_3 ca160_4 fa160_4 ca160_5 fa160_5 ca161_0 fa161_0 ca161_1 fa161_1 ca161_2 fa161_2 ca161_3 fa161_3 ca161_4 fa161_4 ca161_5 fa161_5
  refine (markGeo_any x0 (by omega) (by omega)).mono ?_
  rintro e w162 ⟨rfl, mk162, f162⟩
  clear x0
  replace p0 := p0.fr f162 (by omega)
  replace p2 := p2.fr f162 (by omega)
  replace p3 := p3.fr f162 (by omega)
  replace bx0 := bx0.fr f162 (by omega)
  replace bx2 := bx2.fr f162 (by omega)
  replace bx3 := bx3.fr f162 (by omega)
  replace p_0 := p_0.fr f162 (by omega)
  replace p_1 := p_1.fr f162 (by omega)
  replace x1 := x1.fr f162 (by omega)
  replace x2 := x2.fr f162 (by omega)
  replace x3 := x3.fr f162 (by omega)
  replace g_0 := g_0.fr f162 (by omega)
  replace g_1 := g_1.fr f162 (by omega)
  have ssf162 := f162.size
  replace kw := below_fr kw kw.size (by omega) f162
  obtain ⟨ca163, fa163⟩ := id p0
  have ca164_0 : w162.cell? ⟨w.heap.size + 1, 0, none⟩ = some (.int .i64 v2) := (p2.2 0 _ rfl).1
  have fa164_0 : w162.frozen? ⟨w.heap.size + 1, 0, none⟩ = false := (p2.2 0 _ rfl).2
  have ca164_1 : w162.cell? ⟨w.heap.size + 1, 1, none⟩ = some (.slice A2 n2 c2) := (p2.2 1 _ rfl).1
  have fa164_1 : w162.frozen? ⟨w.heap.size + 1, 1, none⟩ = false := (p2.2 1 _ rfl).2
  have ca164_2 : w162.cell? ⟨w.heap.size + 1, 2, none⟩ = some (.int .i64 d2a) := (p2.2 2 _ rfl).1
  have fa164_2 : w162.frozen? ⟨w.heap.size + 1, 2, none⟩ = false := (p2.2 2 _ rfl).2
  have ca164_3 : w162.cell? ⟨w.heap.size + 1, 3, none⟩ = some (.int .i64 d2b) := (p2.2 3 _ rfl).1
  have fa164_3 : w162.frozen? ⟨w.heap.size + 1, 3, none⟩ = false := (p2.2 3 _ rfl).2
  have ca164_4 : w162.cell? ⟨w.heap.size + 1, 4, none⟩ = some (.int .i64 d2c) := (p2.2 4 _ rfl).1
  have fa164_4 : w162.frozen? ⟨w.heap.size + 1, 4, none⟩ = false := (p2.2 4 _ rfl).2
  have ca164_5 : w162.cell? ⟨w.heap.size + 1, 5, none⟩ = some (.int .i64 d2d) := (p2.2 5 _ rfl).1
  have fa164_5 : w162.frozen? ⟨w.heap.size + 1, 5, none⟩ = false := (p2.2 5 _ rfl).2
  have ca165_0 : w162.cell? ⟨w.heap.size + 1 + 1, 0, none⟩ = some (.int .i64 v3) := (p3.2 0 _ rfl).1
  have fa165_0 : w162.frozen? ⟨w.heap.size + 1 + 1, 0, none⟩ = false := (p3.2 0 _ rfl).2
  have ca165_1 : w162.cell? ⟨w.heap.size + 1 + 1, 1, none⟩ = some (.slice A3 n3 c3) := (p3.2 1 _ rfl).1
  have fa165_1 : w162.frozen? ⟨w.heap.size + 1 + 1, 1, none⟩ = false := (p3.2 1 _ rfl).2
  have ca165_2 : w162.cell? ⟨w.heap.size + 1 + 1, 2, none⟩ = some (.int .i64 d3a) := (p3.2 2 _ rfl).1
  have fa165_2 : w162.frozen? ⟨w.heap.size + 1 + 1, 2, none⟩ = false := (p3.2 2 _ rfl).2
  have ca165_3 : w162.cell? ⟨w.heap.size + 1 + 1, 3, none⟩ = some (.int .i64 d3b) := (p3.2 3 _ rfl).1
  have fa165_3 : w162.frozen? ⟨w.heap.size + 1 + 1, 3, none⟩ = false := (p3.2 3 _ rfl).2
  have ca165_4 : w162.cell? ⟨w.heap.size + 1 + 1, 4, none⟩ = some (.int .i64 d3c) := (p3.2 4 _ rfl).1
  have fa165_4 : w162.frozen? ⟨w.heap.size + 1 + 1, 4, none⟩ = false := (p3.2 4 _ rfl).2
  have ca165_5 : w162.cell? ⟨w.heap.size + 1 + 1, 5, none⟩ = some (.int .i64 d3d) := (p3.2 5 _ rfl).1
  have fa165_5 : w162.frozen? ⟨w.heap.size + 1 + 1, 5, none⟩ = false := (p3.2 5 _ rfl).2
  obtain ⟨ca166, fa166⟩ := id bx0
  have ca167_0 : w162.cell? ⟨w57.heap.size, 0, none⟩ = some (.int .i64 v2) := (bx2.2 0 _ rfl).1
  have fa167_0 : w162.frozen? ⟨w57.heap.size, 0, none⟩ = false := (bx2.2 0 _ rfl).2
  have ca167_1 : w162.cell? ⟨w57.heap.size, 1, none⟩ = some (.slice Bx2 n2 n2) := (bx2.2 1 _ rfl).1
  have fa167_1 : w162.frozen? ⟨w57.heap.size, 1, none⟩ = false := (bx2.2 1 _ rfl).2
  have ca167_2 : w162.cell? ⟨w57.heap.size, 2, none⟩ = some (.int .i64 d2a) := (bx2.2 2 _ rfl).1
  have fa167_2 : w162.frozen? ⟨w57.heap.size, 2, none⟩ = false := (bx2.2 2 _ rfl).2
  have ca167_3 : w162.cell? ⟨w57.heap.size, 3, none⟩ = some (.int .i64 d2b) := (bx2.2 3 _ rfl).1
  have fa167_3 : w162.frozen? ⟨w57.heap.size, 3, none⟩ = false := (bx2.2 3 _ rfl).2
  have ca167_4 : w162.cell? ⟨w57.heap.size, 4, none⟩ = some (.int .i64 d2c) := (bx2.2 4 _ rfl).1
  have fa167_4 : w162.frozen? ⟨w57.heap.size, 4, none⟩ = false := (bx2.2 4 _ rfl).2
  have ca167_5 : w162.cell? ⟨w57.heap.size, 5, none⟩ = some (.int .i64 d2d) := (bx2.2 5 _ rfl).1
  have fa167_5 : w162.frozen? ⟨w57.heap.size, 5, none⟩ = false := (bx2.2 5 _ rfl).2
  have ca168_0 : w162.cell? ⟨w66.heap.size, 0, none⟩ = some (.int .i64 v3) := (bx3.2 0 _ rfl).1
  have fa168_0 : w162.frozen? ⟨w66.heap.size, 0, none⟩ = false := (bx3.2 0 _ rfl).2
  have ca168_1 : w162.cell? ⟨w66.heap.size, 1, none⟩ = some (.slice Bx3 n3 n3) := (bx3.2 1 _ rfl).1
  have fa168_1 : w162.frozen? ⟨w66.heap.size, 1, none⟩ = false := (bx3.2 1 _ rfl).2
  have ca168_2 : w162.cell? ⟨w66.heap.size, 2, none⟩ = some (.int .i64 d3a) := (bx3.2 2 _ rfl).1
  have fa168_2 : w162.frozen? ⟨w66.heap.size, 2, none⟩ = false := (bx3.2 2 _ rfl).2
  have ca168_3 : w162.cell? ⟨w66.heap.size, 3, none⟩ = some (.int .i64 d3b) := (bx3.2 3 _ rfl).1
  have fa168_3 : w162.frozen? ⟨w66.heap.size, 3, none⟩ = false := (bx3.2 3 _ rfl).2
  have ca168_4 : w162.cell? ⟨w66.heap.size, 4, none⟩ = some (.int .i64 d3c) := (bx3.2 4 _ rfl).1
  have fa168_4 : w162.frozen? ⟨w66.heap.size, 4, none⟩ = false := (bx3.2 4 _ rfl).2
  have ca168_5 : w162.cell? ⟨w66.heap.size, 5, none⟩ = some (.int .i64 d3d) := (bx3.2 5 _ rfl).1
  have fa168_5 : w162.frozen? ⟨w66.heap.size, 5, none⟩ = false := (bx3.2 5 _ rfl).2
  go_wp2_with fail
  clear ca163 fa163 ca164_0 fa164_0 ca164_1 fa164_1 ca164_2 fa164_2 ca164_3 fa164_3 ca164_4 fa164_4 ca164_5 fa164_5 ca165_0 fa165_0 ca165_1 fa165_1 ca165_2 fa165_2 ca165_3 fa165_3 ca165_4 fa165_4 ca165_5 fa165_5 ca166 fa166 ca167_0 fa167_0 ca167_1 fa167_1 ca167_2 fa167_2 ca167_3 fa167_3 ca167_4 fa167_4 ca167_5 fa167_5 ca168_0 fa168_0 ca168_1 fa168_1 ca168_2 fa168_2 ca168_3 fa168_3 ca168_4 fa168_4 ca168_5 fa168_5
  clear mk162
  refine (markVs_any x1 (by omega) (by omega) (by omega)).mono ?_
  rintro e w169 ⟨rfl, mk169, f169⟩
  clear x1
  replace p0 := p0.fr f169 (by omega)
  replace p2 := p2.fr f169 (by omega)
  replace p3 := p3.fr f169 (by omega)
  replace bx0 := bx0.fr f169 (by omega)
  replace bx2 := bx2.fr f169 (by omega)
  replace bx3 := bx3.fr f169 (by omega)
  replace p_0 := p_0.fr f169 (by omega)
  replace p_1 := p_1.fr f169 (by omega)
  replace x2 := x2.fr f169 (by omega)
  replace x3 := x3.fr f169 (by omega)
  replace g_0 := g_0.fr f169 (by omega)
  replace g_1 := g_1.fr f169 (by omega)
  have ssf169 := f169.size
  replace kw := below_fr kw kw.size (by omega) f169
  obtain ⟨ca170, fa170⟩ := id p0
  have ca171_0 : w169.cell? ⟨w.heap.size + 1, 0, none⟩ = some (.int .i64 v2) := (p2.2 0 _ rfl).1
  have fa171_0 : w169.frozen? ⟨w.heap.size + 1, 0, none⟩ = false := (p2.2 0 _ rfl).2
  have ca171_1 : w169.cell? ⟨w.heap.size + 1, 1, none⟩ = some (.slice A2 n2 c2) := (p2.2 1 _ rfl).1
  have fa171_1 : w169.frozen? ⟨w.heap.size + 1, 1, none⟩ = false := (p2.2 1 _ rfl).2
  have ca171_2 : w169.cell? ⟨w.heap.size + 1, 2, none⟩ = some (.int .i64 d2a) := (p2.2 2 _ rfl).1
  have fa171_2 : w169.frozen? ⟨w.heap.size + 1, 2, none⟩ = false := (p2.2 2 _ rfl).2
  have ca171_3 : w169.cell? ⟨w.heap.size + 1, 3, none⟩ = some (.int .i64 d2b) := (p2.2 3 _ rfl).1
  have fa171_3 : w169.frozen? ⟨w.heap.size + 1, 3, none⟩ = false := (p2.2 3 _ rfl).2
  have ca171_4 : w169.cell? ⟨w.heap.size + 1, 4, none⟩ = some (.int .i64 d2c) := (p2.2 4 _ rfl).1
  have fa171_4 : w169.frozen? ⟨w.heap.size + 1, 4, none⟩ = false := (p2.2 4 _ rfl).2
  have ca171_5 : w169.cell? ⟨w.heap.size + 1, 5, none⟩ = some (.int .i64 d2d) := (p2.2 5 _ rfl).1
  have fa171_5 : w169.frozen? ⟨w.heap.size + 1, 5, none⟩ = false := (p2.2 5 _ rfl).2
  have ca172_0 : w169.cell? ⟨w.heap.size + 1 + 1, 0, none⟩ = some (.int .i64 v3) := (p3.2 0 _ rfl).1
  have fa172_0 : w169.frozen? ⟨w.heap.size + 1 + 1, 0, none⟩ = false := (p3.2 0 _ rfl).2
  have ca172_1 : w169.cell? ⟨w.heap.size + 1 + 1, 1, none⟩ = some (.slice A3 n3 c3) := (p3.2 1 _ rfl).1
  have fa172_1 : w169.frozen? ⟨w.heap.size + 1 + 1, 1, none⟩ = false := (p3.2 1 _ rfl).2
  have ca172_2 : w169.cell? ⟨w.heap.size + 1 + 1, 2, none⟩ = some (.int .i64 d3a) := (p3.2 2 _ rfl).1
  have fa172_2 : w169.frozen? ⟨w.heap.size + 1 + 1, 2, none⟩ = false := (p3.2 2 _ rfl).2
  have ca172_3 : w169.cell? ⟨w.heap.size + 1 + 1, 3, none⟩ = some (.int .i64 d3b) := (p3.2 3 _ rfl).1
  have fa172_3 : w169.frozen? ⟨w.heap.size + 1 + 1, 3, none⟩ = false := (p3.2 3 _ rfl).2
  have ca172_4 : w169.cell? ⟨w.heap.size + 1 + 1, 4, none⟩ = some (.int .i64 d3c) := (p3.2 4 _ rfl).1
  have fa172_4 : w169.frozen? ⟨w.heap.size + 1 + 1, 4, none⟩ = false := (p3.2 4 _ rfl).2
  have ca172_5 : w169.cell? ⟨w.heap.size + 1 + 1, 5, none⟩ = some (.int .i64 d3d) := (p3.2 5 _ rfl).1
  have fa172_5 : w169.frozen? ⟨w.heap.size + 1 + 1, 5, none⟩ = false := (p3.2 5 _ rfl).2
  obtain ⟨ca173, fa173⟩ := id bx0
  have ca174_0 : w169.cell? ⟨w57.heap.size, 0, none⟩ = some (.int .i64 v2) := (bx2.2 0 _ rfl).1
  have fa174_0 : w169.frozen? ⟨w57.heap.size, 0, none⟩ = false := (bx2.2 0 _ rfl).2
  have ca174_1 : w169.cell? ⟨w57.heap.size, 1, none⟩ = some (.slice Bx2 n2 n2) := (bx2.2 1 _ rfl).1
  have fa174_1 : w169.frozen? ⟨w57.heap.size, 1, none⟩ = false := (bx2.2 1 _ rfl).2
  have ca174_2 : w169.cell? ⟨w57.heap.size, 2, none⟩ = some (.int .i64 d2a) := (bx2.2 2 _ rfl).1
  have fa174_2 : w169.frozen? ⟨w57.heap.size, 2, none⟩ = false := (bx2.2 2 _ rfl).2
  have ca174_3 : w169.cell? ⟨w57.heap.size, 3, none⟩ = some (.int .i64 d2b) := (bx2.2 3 _ rfl).1
  have fa174_3 : w169.frozen? ⟨w57.heap.size, 3, none⟩ = false := (bx2.2 3 _ rfl).2
  have ca174_4 : w169.cell? ⟨w57.heap.size, 4, none⟩ = some (.int .i64 d2c) := (bx2.2 4 _ rfl).1
  have fa174_4 : w169.frozen? ⟨w57.heap.size, 4, none⟩ = false := (bx2.2 4 _ rfl).2
  have ca174_5 : w169.cell? ⟨w57.heap.size, 5, none⟩ = some (.int .i64 d2d) := (bx2.2 5 _ rfl).1
  have fa174_5 : w169.frozen? ⟨w57.heap.size, 5, none⟩ = false := (bx2.2 5 _ rfl).2
  have ca175_0 : w169.cell? ⟨w66.heap.size, 0, none⟩ = some (.int .i64 v3) := (bx3.2 0 _ rfl).1
  have fa175_0 : w169.frozen? ⟨w66.heap.size, 0, none⟩ = false := (bx3.2 0 _ rfl).2
  have ca175_1 : w169.cell? ⟨w66.heap.size, 1, none⟩ = some (.slice Bx3 n3 n3) := (bx3.2 1 _ rfl).1
  have fa175_1 : w169.frozen? ⟨w66.heap.size, 1, none⟩ = false := (bx3.2 1 _ rfl).2
  have ca175_2 : w169.cell? ⟨w66.heap.size, 2, none⟩ = some (.int .i64 d3a) := (bx3.2 2 _ rfl).1
  have fa175_2 : w169.frozen? ⟨w66.heap.size, 2, none⟩ = false := (bx3.2 2 _ rfl).2
  have ca175_3 : w169.cell? ⟨w66.heap.size, 3, none⟩ = some (.int .i64 d3b) := (bx3.2 3 _ rfl).1
  have fa175_3 : w169.frozen? ⟨w66.heap.size, 3, none⟩ = false := (bx3.2 3 _ rfl).2
  have ca175_4 : w169.cell? ⟨w66.heap.size, 4, none⟩ = some (.int .i64 d3c) := (bx3.2 4 _ rfl).1
  have fa175_4 : w169.frozen? ⟨w66.heap.size, 4, none⟩ = false := (bx3.2 4 _ rfl).2
  have ca175_5 : w169.cell? ⟨w66.heap.size, 5, none⟩ = some (.int .i64 d3d) := (bx3.2 5 _ rfl).1
  have fa175_5 : w169.frozen? ⟨w66.heap.size, 5, none⟩ = false := (bx3.2 5 _ rfl).2
  go_wp2_with fail
  clear ca170 fa170 ca171_0 fa171_0 ca171_1 fa171_1 ca171_2 fa171_2 ca171_3 fa171_3 ca171_4 fa171_4 ca171_5 fa171_5 ca172_0 fa172_0 ca172_1 fa172_1 ca172_2 fa172_2 ca172_3 fa172_3 ca172_4 fa172_4 ca172_5 fa172_5 ca173 fa173 ca174_0 fa174_0 ca174_1 fa174_1 ca174_2 fa174_2 ca174_3 fa174_3 ca174_4 fa174_4 ca174_5 fa174_5 ca175_0 fa175_0 ca175_1 fa175_1 ca175_2 fa175_2 ca175_3 fa175_3 ca175_4 fa175_4 ca175_5 fa175_5
  clear mk169
  refine (markRelease_any x2.shape x2.top (by omega) (by omega) (by omega)).mono ?_
  rintro e w176 ⟨rfl, mk176, f176⟩
  clear x2 mk176
  replace p0 := p0.fr f176 (by omega)
  replace p2 := p2.fr f176 (by omega)
  replace p3 := p3.fr f176 (by omega)
  replace bx0 := bx0.fr f176 (by omega)
  replace bx2 := bx2.fr f176 (by omega)
  replace bx3 := bx3.fr f176 (by omega)
  replace p_0 := p_0.fr f176 (by omega)
  replace p_1 := p_1.fr f176 (by omega)
  replace x3 := x3.fr f176 (by omega)
  replace g_0 := g_0.fr f176 (by omega)
  replace g_1 := g_1.fr f176 (by omega)
  have ssf176 := f176.size
  replace kw := below_fr kw kw.size (by omega) f176
  obtain ⟨ca177, fa177⟩ := id p0
  have ca178_0 : w176.cell? ⟨w.heap.size + 1, 0, none⟩ = some (.int .i64 v2) := (p2.2 0 _ rfl).1
  have fa178_0 : w176.frozen? ⟨w.heap.size + 1, 0, none⟩ = false := (p2.2 0 _ rfl).2
  have ca178_1 : w176.cell? ⟨w.heap.size + 1, 1, none⟩ = some (.slice A2 n2 c2) := (p2.2 1 _ rfl).1
  have fa178_1 : w176.frozen? ⟨w.heap.size + 1, 1, none⟩ = false := (p2.2 1 _ rfl).2
  have ca178_2 : w176.cell? ⟨w.heap.size + 1, 2, none⟩ = some (.int .i64 d2a) := (p2.2 2 _ rfl).1
  have fa178_2 : w176.frozen? ⟨w.heap.size + 1, 2, none⟩ = false := (p2.2 2 _ rfl).2
  have ca178_3 : w176.cell? ⟨w.heap.size + 1, 3, none⟩ = some (.int .i64 d2b) := (p2.2 3 _ rfl).1
  have fa178_3 : w176.frozen? ⟨w.heap.size + 1, 3, none⟩ = false := (p2.2 3 _ rfl).2
  have ca178_4 : w176.cell? ⟨w.heap.size + 1, 4, none⟩ = some (.int .i64 d2c) := (p2.2 4 _ rfl).1
  have fa178_4 : w176.frozen? ⟨w.heap.size + 1, 4, none⟩ = false := (p2.2 4 _ rfl).2
  have ca178_5 : w176.cell? ⟨w.heap.size + 1, 5, none⟩ = some (.int .i64 d2d) := (p2.2 5 _ rfl).1
  have fa178_5 : w176.frozen? ⟨w.heap.size + 1, 5, none⟩ = false := (p2.2 5 _ rfl).2
  have ca179_0 : w176.cell? ⟨w.heap.size + 1 + 1, 0, none⟩ = some (.int .i64 v3) := (p3.2 0 _ rfl).1
  have fa179_0 : w176.frozen? ⟨w.heap.size + 1 + 1, 0, none⟩ = false := (p3.2 0 _ rfl).2
  have ca179_1 : w176.cell? ⟨w.heap.size + 1 + 1, 1, none⟩ = some (.slice A3 n3 c3) := (p3.2 1 _ rfl).1
  have fa179_1 : w176.frozen? ⟨w.heap.size + 1 + 1, 1, none⟩ = false := (p3.2 1 _ rfl).2
  have ca179_2 : w176.cell? ⟨w.heap.size + 1 + 1, 2, none⟩ = some (.int .i64 d3a) := (p3.2 2 _ rfl).1
  have fa179_2 : w176.frozen? ⟨w.heap.size + 1 + 1, 2, none⟩ = false := (p3.2 2 _ rfl).2
  have ca179_3 : w176.cell? ⟨w.heap.size + 1 + 1, 3, none⟩ = some (.int .i64 d3b) := (p3.2 3 _ rfl).1
  have fa179_3 : w176.frozen? ⟨w.heap.size + 1 + 1, 3, none⟩ = false := (p3.2 3 _ rfl).2
  have ca179_4 : w176.cell? ⟨w.heap.size + 1 + 1, 4, none⟩ = some (.int .i64 d3c) := (p3.2 4 _ rfl).1
  have fa179_4 : w176.frozen? ⟨w.heap.size + 1 + 1, 4, none⟩ = false := (p3.2 4 _ rfl).2
  have ca179_5 : w176.cell? ⟨w.heap.size + 1 + 1, 5, none⟩ = some (.int .i64 d3d) := (p3.2 5 _ rfl).1
  have fa179_5 : w176.frozen? ⟨w.heap.size + 1 + 1, 5, none⟩ = false := (p3.2 5 _ rfl).2
  obtain ⟨ca180, fa180⟩ := id bx0
  have ca181_0 : w176.cell? ⟨w57.heap.size, 0, none⟩ = some (.int .i64 v2) := (bx2.2 0 _ rfl).1
  have fa181_0 : w176.frozen? ⟨w57.heap.size, 0, none⟩ = false := (bx2.2 0 _ rfl).2
  have ca181_1 : w176.cell? ⟨w57.heap.size, 1, none⟩ = some (.slice Bx2 n2 n2) := (bx2.2 1 _ rfl).1
  have fa181_1 : w176.frozen? ⟨w57.heap.size, 1, none⟩ = false := (bx2.2 1 _ rfl).2
  have ca181_2 : w176.cell? ⟨w57.heap.size, 2, none⟩ = some (.int .i64 d2a) := (bx2.2 2 _ rfl).1
  have fa181_2 : w176.frozen? ⟨w57.heap.size, 2, none⟩ = false := (bx2.2 2 _ rfl).2
  have ca181_3 : w176.cell? ⟨w57.heap.size, 3, none⟩ = some (.int .i64 d2b) := (bx2.2 3 _ rfl).1
  have fa181_3 : w176.frozen? ⟨w57.heap.size, 3, none⟩ = false := (bx2.2 3 _ rfl).2
  have ca181_4 : w176.cell? ⟨w57.heap.size, 4, none⟩ = some (.int .i64 d2c) := (bx2.2 4 _ rfl).1
  have fa181_4 : w176.frozen? ⟨w57.heap.size, 4, none⟩ = false := (bx2.2 4 _ rfl).2
  have ca181_5 : w176.cell? ⟨w57.heap.size, 5, none⟩ = some (.int .i64 d2d) := (bx2.2 5 _ rfl).1
  have fa181_5 : w176.frozen? ⟨w57.heap.size, 5, none⟩ = false := (bx2.2 5 _ rfl).2
  have ca182_0 : w176.cell? ⟨w66.heap.size, 0, none⟩ = some (.int .i64 v3) := (bx3.2 0 _ rfl).1
  have fa182_0 : w176.frozen? ⟨w66.heap.size, 0, none⟩ = false := (bx3.2 0 _ rfl).2
  have ca182_1 : w176.cell? ⟨w66.heap.size, 1, none⟩ = some (.slice Bx3 n3 n3) := (bx3.2 1 _ rfl).1
  have fa182_1 : w176.frozen? ⟨w66.heap.size, 1, none⟩ = false := (bx3.2 1 _ rfl).2
  have ca182_2 : w176.cell? ⟨w66.heap.size, 2, none⟩ = some (.int .i64 d3a) := (bx3.2 2 _ rfl).1
  have fa182_2 : w176.frozen? ⟨w66.heap.size, 2, none⟩ = false := (bx3.2 2 _ rfl).2
  have ca182_3 : w176.cell? ⟨w66.heap.size, 3, none⟩ = some (.int .i64 d3b) := (bx3.2 3 _ rfl).1
  have fa182_3 : w176.frozen? ⟨w66.heap.size, 3, none⟩ = false := (bx3.2 3 _ rfl).2
  have ca182_4 : w176.cell? ⟨w66.heap.size, 4, none⟩ = some (.int .i64 d3c) := (bx3.2 4 _ rfl).1
  have fa182_4 : w176.frozen? ⟨w66.heap.size, 4, none⟩ = false := (bx3.2 4 _ rfl).2
  have ca182_5 : w176.cell? ⟨w66.heap.size, 5, none⟩ = some (.int .i64 d3d) := (bx3.2 5 _ rfl).1
  have fa182_5 : w176.frozen? ⟨w66.heap.size, 5, none⟩ = false := (bx3.2 5 _ rfl).2
  go_wp2_with fail
  clear ca177 fa177 ca178_0 fa178_0 ca178_1 fa178_1 ca178_2 fa178_2 ca178_3 fa178_3 ca178_4 fa178_4 ca178_5 fa178_5 ca179_0 fa179_0 ca179_1 fa179_1 ca179_2 fa179_2 ca179_3 fa179_3 ca179_4 fa179_4 ca179_5 fa179_5 ca180 fa180 ca181_0 fa181_0 ca181_1 fa181_1 ca181_2 fa181_2 ca181_3 fa181_3 ca181_4 fa181_4 ca181_5 fa181_5 ca182_0 fa182_0 ca182_1 fa182_1 ca182_2 fa182_2 ca182_3 fa182_3 ca182_4 fa182_4 ca182_5 fa182_5
  refine (markRelease_any x3.shape x3.top (by omega) (by omega) (by omega)).mono ?_
  rintro e w183 ⟨rfl, mk183, f183⟩
  clear x3 mk183
  replace p0 := p0.fr f183 (by omega)
  replace p2 := p2.fr f183 (by omega)
  replace p3 := p3.fr f183 (by omega)
  replace bx0 := bx0.fr f183 (by omega)
  replace bx2 := bx2.fr f183 (by omega)
  replace bx3 := bx3.fr f183 (by omega)
  replace p_0 := p_0.fr f183 (by omega)
  replace p_1 := p_1.fr f183 (by omega)
  replace g_0 := g_0.fr f183 (by omega)
  replace g_1 := g_1.fr f183 (by omega)
  have ssf183 := f183.size
  replace kw := below_fr kw kw.size (by omega) f183
  obtain ⟨ca184, fa184⟩ := id p0
  have ca185_0 : w183.cell? ⟨w.heap.size + 1, 0, none⟩ = some (.int .i64 v2) := (p2.2 0 _ rfl).1
  have fa185_0 : w183.frozen? ⟨w.heap.size + 1, 0, none⟩ = false := (p2.2 0 _ rfl).2
  have ca185_1 : w183.cell? ⟨w.heap.size + 1, 1, none⟩ = some (.slice A2 n2 c2) := (p2.2 1 _ rfl).1
  have fa185_1 : w183.frozen? ⟨w.heap.size + 1, 1, none⟩ = false := (p2.2 1 _ rfl).2
  have ca185_2 : w183.cell? ⟨w.heap.size + 1, 2, none⟩ = some (.int .i64 d2a) := (p2.2 2 _ rfl).1
  have fa185_2 : w183.frozen? ⟨w.heap.size + 1, 2, none⟩ = false := (p2.2 2 _ rfl).2
  have ca185_3 : w183.cell? ⟨w.heap.size + 1, 3, none⟩ = some (.int .i64 d2b) := (p2.2 3 _ rfl).1
  have fa185_3 : w183.frozen? ⟨w.heap.size + 1, 3, none⟩ = false := (p2.2 3 _ rfl).2
  have ca185_4 : w183.cell? ⟨w.heap.size + 1, 4, none⟩ = some (.int .i64 d2c) := (p2.2 4 _ rfl).1
  have fa185_4 : w183.frozen? ⟨w.heap.size + 1, 4, none⟩ = false := (p2.2 4 _ rfl).2
  have ca185_5 : w183.cell? ⟨w.heap.size + 1, 5, none⟩ = some (.int .i64 d2d) := (p2.2 5 _ rfl).1
  have fa185_5 : w183.frozen? ⟨w.heap.size + 1, 5, none⟩ = false := (p2.2 5 _ rfl).2
  have ca186_0 : w183.cell? ⟨w.heap.size + 1 + 1, 0, none⟩ = some (.int .i64 v3) := (p3.2 0 _ rfl).1
  have fa186_0 : w183.frozen? ⟨w.heap.size + 1 + 1, 0, none⟩ = false := (p3.2 0 _ rfl).2
  have ca186_1 : w183.cell? ⟨w.heap.size + 1 + 1, 1, none⟩ = some (.slice A3 n3 c3) := (p3.2 1 _ rfl).1
  have fa186_1 : w183.frozen? ⟨w.heap.size + 1 + 1, 1, none⟩ = false := (p3.2 1 _ rfl).2
  have ca186_2 : w183.cell? ⟨w.heap.size + 1 + 1, 2, none⟩ = some (.int .i64 d3a) := (p3.2 2 _ rfl).1
  have fa186_2 : w183.frozen? ⟨w.heap.size + 1 + 1, 2, none⟩ = false := (p3.2 2 _ rfl).2
  have ca186_3 : w183.cell? ⟨w.heap.size + 1 + 1, 3, none⟩ = some (.int .i64 d3b) := (p3.2 3 _ rfl).1
  have fa186_3 : w183.frozen? ⟨w.heap.size + 1 + 1, 3, none⟩ = false := (p3.2 3 _ rfl).2
  have ca186_4 : w183.cell? ⟨w.heap.size + 1 + 1, 4, none⟩ = some (.int .i64 d3c) := (p3.2 4 _ rfl).1
  have fa186_4 : w183.frozen? ⟨w.heap.size + 1 + 1, 4, none⟩ = false := (p3.2 4 _ rfl).2
  have ca186_5 : w183.cell? ⟨w.heap.size + 1 + 1, 5, none⟩ = some (.int .i64 d3d) := (p3.2 5 _ rfl).1
  have fa186_5 : w183.frozen? ⟨w.heap.size + 1 + 1, 5, none⟩ = false := (p3.2 5 _ rfl).2
  obtain ⟨ca187, fa187⟩ := id bx0
  have ca188_0 : w183.cell? ⟨w57.heap.size, 0, none⟩ = some (.int .i64 v2) := (bx2.2 0 _ rfl).1
  have fa188_0 : w183.frozen? ⟨w57.heap.size, 0, none⟩ = false := (bx2.2 0 _ rfl).2
  have ca188_1 : w183.cell? ⟨w57.heap.size, 1, none⟩ = some (.slice Bx2 n2 n2) := (bx2.2 1 _ rfl).1
  have fa188_1 : w183.frozen? ⟨w57.heap.size, 1, none⟩ = false := (bx2.2 1 _ rfl).2
  have ca188_2 : w183.cell? ⟨w57.heap.size, 2, none⟩ = some (.int .i64 d2a) := (bx2.2 2 _ rfl).1
  have fa188_2 : w183.frozen? ⟨w57.heap.size, 2, none⟩ = false := (bx2.2 2 _ rfl).2
  have ca188_3 : w183.cell? ⟨w57.heap.size, 3, none⟩ = some (.int .i64 d2b) := (bx2.2 3 _ rfl).1
  have fa188_3 : w183.frozen? ⟨w57.heap.size, 3, none⟩ = false := (bx2.2 3 _ rfl).2
  have ca188_4 : w183.cell? ⟨w57.heap.size, 4, none⟩ = some (.int .i64 d2c) := (bx2.2 4 _ rfl).1
  have fa188_4 : w183.frozen? ⟨w57.heap.size, 4, none⟩ = false := (bx2.2 4 _ rfl).2
  have ca188_5 : w183.cell? ⟨w57.heap.size, 5, none⟩ = some (.int .i64 d2d) := (bx2.2 5 _ rfl).1
  have fa188_5 : w183.frozen? ⟨w57.heap.size, 5, none⟩ = false := (bx2.2 5 _ rfl).2
  have ca189_0 : w183.cell? ⟨w66.heap.size, 0, none⟩ = some (.int .i64 v3) := (bx3.2 0 _ rfl).1
  have fa189_0 : w183.frozen? ⟨w66.heap.size, 0, none⟩ = false := (bx3.2 0 _ rfl).2
  have ca189_1 : w183.cell? ⟨w66.heap.size, 1, none⟩ = some (.slice Bx3 n3 n3) := (bx3.2 1 _ rfl).1
  have fa189_1 : w183.frozen? ⟨w66.heap.size, 1, none⟩ = false := (bx3.2 1 _ rfl).2
  have ca189_2 : w183.cell? ⟨w66.heap.size, 2, none⟩ = some (.int .i64 d3a) := (bx3.2 2 _ rfl).1
  have fa189_2 : w183.frozen? ⟨w66.heap.size, 2, none⟩ = false := (bx3.2 2 _ rfl).2
  have ca189_3 : w183.cell? ⟨w66.heap.size, 3, none⟩ = some (.int .i64 d3b) := (bx3.2 3 _ rfl).1
  have fa189_3 : w183.frozen? ⟨w66.heap.size, 3, none⟩ = false := (bx3.2 3 _ rfl).2
  have ca189_4 : w183.cell? ⟨w66.heap.size, 4, none⟩ = some (.int .i64 d3c) := (bx3.2 4 _ rfl).1
  have fa189_4 : w183.frozen? ⟨w66.heap.size, 4, none⟩ = false := (bx3.2 4 _ rfl).2
  have ca189_5 : w183.cell? ⟨w66.heap.size, 5, none⟩ = some (.int .i64 d3d) := (bx3.2 5 _ rfl).1
  have fa189_5 : w183.frozen? ⟨w66.heap.size, 5, none⟩ = false := (bx3.2 5 _ rfl).2
  go_wp2_with fail
  clear ca184 fa184 ca185_0 fa185_0 ca185_1 fa185_1 ca185_2 fa185_2 ca185_3 fa185_3 ca185_4 fa185_4 ca185_5 fa185_5 ca186_0 fa186_0 ca186_1 fa186_1 ca186_2 fa186_2 ca186_3 fa186_3 ca186_4 fa186_4 ca186_5 fa186_5 ca187 fa187 ca188_0 fa188_0 ca188_1 fa188_1 ca188_2 fa188_2 ca188_3 fa188_3 ca188_4 fa188_4 ca188_5 fa188_5 ca189_0 fa189_0 ca189_1 fa189_1 ca189_2 fa189_2 ca189_3 fa189_3 ca189_4 fa189_4 ca189_5 fa189_5
  refine (eqIntS_true g_0.1 p_0.1).mono ?_
  rintro e w190 ⟨rfl, k190⟩
  replace k190 := Quiet.keeps k190
  have ss191 := k190.size
  replace p0 := p0.keeps k190
  replace p2 := p2.keeps k190
  replace p3 := p3.keeps k190
  replace bx0 := bx0.keeps k190
  replace bx2 := bx2.keeps k190
  replace bx3 := bx3.keeps k190
  replace p_0 := p_0.keeps k190
  replace p_1 := p_1.keeps k190
  replace g_0 := g_0.keeps k190
  replace g_1 := g_1.keeps k190
  replace kw := Keeps.trans kw k190
  have lt192 := bx3.lt
  have sz193 := kw.size
  clear k190
  obtain ⟨ca194, fa194⟩ := id p0
  have ca195_0 : w190.cell? ⟨w.heap.size + 1, 0, none⟩ = some (.int .i64 v2) := (p2.2 0 _ rfl).1
  have fa195_0 : w190.frozen? ⟨w.heap.size + 1, 0, none⟩ = false := (p2.2 0 _ rfl).2
  have ca195_1 : w190.cell? ⟨w.heap.size + 1, 1, none⟩ = some (.slice A2 n2 c2) := (p2.2 1 _ rfl).1
  have fa195_1 : w190.frozen? ⟨w.heap.size + 1, 1, none⟩ = false := (p2.2 1 _ rfl).2
  have ca195_2 : w190.cell? ⟨w.heap.size + 1, 2, none⟩ = some (.int .i64 d2a) := (p2.2 2 _ rfl).1
  have fa195_2 : w190.frozen? ⟨w.heap.size + 1, 2, none⟩ = false := (p2.2 2 _ rfl).2
  have ca195_3 : w190.cell? ⟨w.heap.size + 1, 3, none⟩ = some (.int .i64 d2b) := (p2.2 3 _ rfl).1
  have fa195_3 : w190.frozen? ⟨w.heap.size + 1, 3, none⟩ = false := (p2.2 3 _ rfl).2
  have ca195_4 : w190.cell? ⟨w.heap.size + 1, 4, none⟩ = some (.int .i64 d2c) := (p2.2 4 _ rfl).1
  have fa195_4 : w190.frozen? ⟨w.heap.size + 1, 4, none⟩ = false := (p2.2 4 _ rfl).2
  have ca195_5 : w190.cell? ⟨w.heap.size + 1, 5, none⟩ = some (.int .i64 d2d) := (p2.2 5 _ rfl).1
  have fa195_5 : w190.frozen? ⟨w.heap.size + 1, 5, none⟩ = false := (p2.2 5 _ rfl).2
  have ca196_0 : w190.cell? ⟨w.heap.size + 1 + 1, 0, none⟩ = some (.int .i64 v3) := (p3.2 0 _ rfl).1
  have fa196_0 : w190.frozen? ⟨w.heap.size + 1 + 1, 0, none⟩ = false := (p3.2 0 _ rfl).2
  have ca196_1 : w190.cell? ⟨w.heap.size + 1 + 1, 1, none⟩ = some (.slice A3 n3 c3) := (p3.2 1 _ rfl).1
  have fa196_1 : w190.frozen? ⟨w.heap.size + 1 + 1, 1, none⟩ = false := (p3.2 1 _ rfl).2
  have ca196_2 : w190.cell? ⟨w.heap.size + 1 + 1, 2, none⟩ = some (.int .i64 d3a) := (p3.2 2 _ rfl).1
  have fa196_2 : w190.frozen? ⟨w.heap.size + 1 + 1, 2, none⟩ = false := (p3.2 2 _ rfl).2
  have ca196_3 : w190.cell? ⟨w.heap.size + 1 + 1, 3, none⟩ = some (.int .i64 d3b) := (p3.2 3 _ rfl).1
  have fa196_3 : w190.frozen? ⟨w.heap.size + 1 + 1, 3, none⟩ = false := (p3.2 3 _ rfl).2
  have ca196_4 : w190.cell? ⟨w.heap.size + 1 + 1, 4, none⟩ = some (.int .i64 d3c) := (p3.2 4 _ rfl).1
  have fa196_4 : w190.frozen? ⟨w.heap.size + 1 + 1, 4, none⟩ = false := (p3.2 4 _ rfl).2
  have ca196_5 : w190.cell? ⟨w.heap.size + 1 + 1, 5, none⟩ = some (.int .i64 d3d) := (p3.2 5 _ rfl).1
  have fa196_5 : w190.frozen? ⟨w.heap.size + 1 + 1, 5, none⟩ = false := (p3.2 5 _ rfl).2
  obtain ⟨ca197, fa197⟩ := id bx0
  have ca198_0 : w190.cell? ⟨w57.heap.size, 0, none⟩ = some (.int .i64 v2) := (bx2.2 0 _ rfl).1
  have fa198_0 : w190.frozen? ⟨w57.heap.size, 0, none⟩ = false := (bx2.2 0 _ rfl).2
  have ca198_1 : w190.cell? ⟨w57.heap.size, 1, none⟩ = some (.slice Bx2 n2 n2) := (bx2.2 1 _ rfl).1
  have fa198_1 : w190.frozen? ⟨w57.heap.size, 1, none⟩ = false := (bx2.2 1 _ rfl).2
  have ca198_2 : w190.cell? ⟨w57.heap.size, 2, none⟩ = some (.int .i64 d2a) := (bx2.2 2 _ rfl).1
  have fa198_2 : w190.frozen? ⟨w57.heap.size, 2, none⟩ = false := (bx2.2 2 _ rfl).2
  have ca198_3 : w190.cell? ⟨w57.heap.size, 3, none⟩ = some (.int .i64 d2b) := (bx2.2 3 _ rfl).1
  have fa198_3 : w190.frozen? ⟨w57.heap.size, 3, none⟩ = false := (bx2.2 3 _ rfl).2
  have ca198_4 : w190.cell? ⟨w57.heap.size, 4, none⟩ = some (.int .i64 d2c) := (bx2.2 4 _ rfl).1
  have fa198_4 : w190.frozen? ⟨w57.heap.size, 4, none⟩ = false := (bx2.2 4 _ rfl).2
  have ca198_5 : w190.cell? ⟨w57.heap.size, 5, none⟩ = some (.int .i64 d2d) := (bx2.2 5 _ rfl).1
  have fa198_5 : w190.frozen? ⟨w57.heap.size, 5, none⟩ = false := (bx2.2 5 _ rfl).2
  have ca199_0 : w190.cell? ⟨w66.heap.size, 0, none⟩ = some (.int .i64 v3) := (bx3.2 0 _ rfl).1
  have fa199_0 : w190.frozen? ⟨w66.heap.size, 0, none⟩ = false := (bx3.2 0 _ rfl).2
  have ca199_1 : w190.cell? ⟨w66.heap.size, 1, none⟩ = some (.slice Bx3 n3 n3) := (bx3.2 1 _ rfl).1
  have fa199_1 : w190.frozen? ⟨w66.heap.size, 1, none⟩ = false := (bx3.2 1 _ rfl).2
  have ca199_2 : w190.cell? ⟨w66.heap.size, 2, none⟩ = some (.int .i64 d3a) := (bx3.2 2 _ rfl).1
  have fa199_2 : w190.frozen? ⟨w66.heap.size, 2, none⟩ = false := (bx3.2 2 _ rfl).2
  have ca199_3 : w190.cell? ⟨w66.heap.size, 3, none⟩ = some (.int .i64 d3b) := (bx3.2 3 _ rfl).1
  have fa199_3 : w190.frozen? ⟨w66.heap.size, 3, none⟩ = false := (bx3.2 3 _ rfl).2
  have ca199_4 : w190.cell? ⟨w66.heap.size, 4, none⟩ = some (.int .i64 d3c) := (bx3.2 4 _ rfl).1
  have fa199_4 : w190.frozen? ⟨w66.heap.size, 4, none⟩ = false := (bx3.2 4 _ rfl).2
  have ca199_5 : w190.cell? ⟨w66.heap.size, 5, none⟩ = some (.int .i64 d3d) := (bx3.2 5 _ rfl).1
  have fa199_5 : w190.frozen? ⟨w66.heap.size, 5, none⟩ = false := (bx3.2 5 _ rfl).2
  go_wp2_with fail
  clear ca194 fa194 ca195_0 fa195_0 ca195_1 fa195_1 ca195_2 fa195_2 ca195_3 fa195_3 ca195_4 fa195_4 ca195_5 fa195_5 ca196_0 fa196_0 ca196_1 fa196_1 ca196_2 fa196_2 ca196_3 fa196_3 ca196_4 fa196_4 ca196_5 fa196_5 ca197 fa197 ca198_0 fa198_0 ca198_1 fa198_1 ca198_2 fa198_2 ca198_3 fa198_3 ca198_4 fa198_4 ca198_5 fa198_5 ca199_0 fa199_0 ca199_1 fa199_1 ca199_2 fa199_2 ca199_3 fa199_3 ca199_4 fa199_4 ca199_5 fa199_5
  refine (eqIntS_true g_1.1 p_1.1).mono ?_
  rintro e w200 ⟨rfl, k200⟩
  replace k200 := Quiet.keeps k200
  have ss201 := k200.size
  replace p0 := p0.keeps k200
  replace p2 := p2.keeps k200
  replace p3 := p3.keeps k200
  replace bx0 := bx0.keeps k200
  replace bx2 := bx2.keeps k200
  replace bx3 := bx3.keeps k200
  replace p_0 := p_0.keeps k200
  replace p_1 := p_1.keeps k200
  replace g_0 := g_0.keeps k200
  replace g_1 := g_1.keeps k200
  replace kw := Keeps.trans kw k200
  have lt202 := bx3.lt
  have sz203 := kw.size
  clear k200
  obtain ⟨ca204, fa204⟩ := id p0
  have ca205_0 : w200.cell? ⟨w.heap.size + 1, 0, none⟩ = some (.int .i64 v2) := (p2.2 0 _ rfl).1
  have fa205_0 : w200.frozen? ⟨w.heap.size + 1, 0, none⟩ = false := (p2.2 0 _ rfl).2
  have ca205_1 : w200.cell? ⟨w.heap.size + 1, 1, none⟩ = some (.slice A2 n2 c2) := (p2.2 1 _ rfl).1
  have fa205_1 : w200.frozen? ⟨w.heap.size + 1, 1, none⟩ = false := (p2.2 1 _ rfl).2
  have ca205_2 : w200.cell? ⟨w.heap.size + 1, 2, none⟩ = some (.int .i64 d2a) := (p2.2 2 _ rfl).1
  have fa205_2 : w200.frozen? ⟨w.heap.size + 1, 2, none⟩ = false := (p2.2 2 _ rfl).2
  have ca205_3 : w200.cell? ⟨w.heap.size + 1, 3, none⟩ = some (.int .i64 d2b) := (p2.2 3 _ rfl).1
  have fa205_3 : w200.frozen? ⟨w.heap.size + 1, 3, none⟩ = false := (p2.2 3 _ rfl).2
  have ca205_4 : w200.cell? ⟨w.heap.size + 1, 4, none⟩ = some (.int .i64 d2c) := (p2.2 4 _ rfl).1
  have fa205_4 : w200.frozen? ⟨w.heap.size + 1, 4, none⟩ = false := (p2.2 4 _ rfl).2
  have ca205_5 : w200.cell? ⟨w.heap.size + 1, 5, none⟩ = some (.int .i64 d2d) := (p2.2 5 _ rfl).1
  have fa205_5 : w200.frozen? ⟨w.heap.size + 1, 5, none⟩ = false := (p2.2 5 _ rfl).2
  have ca206_0 : w200.cell? ⟨w.heap.size + 1 + 1, 0, none⟩ = some (.int .i64 v3) := (p3.2 0 _ rfl).1
  have fa206_0 : w200.frozen? ⟨w.heap.size + 1 + 1, 0, none⟩ = false := (p3.2 0 _ rfl).2
  have ca206_1 : w200.cell? ⟨w.heap.size + 1 + 1, 1, none⟩ = some (.slice A3 n3 c3) := (p3.2 1 _ rfl).1
  have fa206_1 : w200.frozen? ⟨w.heap.size + 1 + 1, 1, none⟩ = false := (p3.2 1 _ rfl).2
  have ca206_2 : w200.cell? ⟨w.heap.size + 1 + 1, 2, none⟩ = some (.int .i64 d3a) := (p3.2 2 _ rfl).1
  have fa206_2 : w200.frozen? ⟨w.heap.size + 1 + 1, 2, none⟩ = false := (p3.2 2 _ rfl).2
  have ca206_3 : w200.cell? ⟨w.heap.size + 1 + 1, 3, none⟩ = some (.int .i64 d3b) := (p3.2 3 _ rfl).1
  have fa206_3 : w200.frozen? ⟨w.heap.size + 1 + 1, 3, none⟩ = false := (p3.2 3 _ rfl).2
  have ca206_4 : w200.cell? ⟨w.heap.size + 1 + 1, 4, none⟩ = some (.int .i64 d3c) := (p3.2 4 _ rfl).1
  have fa206_4 : w200.frozen? ⟨w.heap.size + 1 + 1, 4, none⟩ = false := (p3.2 4 _ rfl).2
  have ca206_5 : w200.cell? ⟨w.heap.size + 1 + 1, 5, none⟩ = some (.int .i64 d3d) := (p3.2 5 _ rfl).1
  have fa206_5 : w200.frozen? ⟨w.heap.size + 1 + 1, 5, none⟩ = false := (p3.2 5 _ rfl).2
  obtain ⟨ca207, fa207⟩ := id bx0
  have ca208_0 : w200.cell? ⟨w57.heap.size, 0, none⟩ = some (.int .i64 v2) := (bx2.2 0 _ rfl).1
  have fa208_0 : w200.frozen? ⟨w57.heap.size, 0, none⟩ = false := (bx2.2 0 _ rfl).2
  have ca208_1 : w200.cell? ⟨w57.heap.size, 1, none⟩ = some (.slice Bx2 n2 n2) := (bx2.2 1 _ rfl).1
  have fa208_1 : w200.frozen? ⟨w57.heap.size, 1, none⟩ = false := (bx2.2 1 _ rfl).2
  have ca208_2 : w200.cell? ⟨w57.heap.size, 2, none⟩ = some (.int .i64 d2a) := (bx2.2 2 _ rfl).1
  have fa208_2 : w200.frozen? ⟨w57.heap.size, 2, none⟩ = false := (bx2.2 2 _ rfl).2
  have ca208_3 : w200.cell? ⟨w57.heap.size, 3, none⟩ = some (.int .i64 d2b) := (bx2.2 3 _ rfl).1
  have fa208_3 : w200.frozen? ⟨w57.heap.size, 3, none⟩ = false := (bx2.2 3 _ rfl).2
  have ca208_4 : w200.cell? ⟨w57.heap.size, 4, none⟩ = some (.int .i64 d2c) := (bx2.2 4 _ rfl).1
  have fa208_4 : w200.frozen? ⟨w57.heap.size, 4, none⟩ = false := (bx2.2 4 _ rfl).2
  have ca208_5 : w200.cell? ⟨w57.heap.size, 5, none⟩ = some (.int .i64 d2d) := (bx2.2 5 _ rfl).1
  have fa208_5 : w200.frozen? ⟨w57.heap.size, 5, none⟩ = false := (bx2.2 5 _ rfl).2
  have ca209_0 : w200.cell? ⟨w66.heap.size, 0, none⟩ = some (.int .i64 v3) := (bx3.2 0 _ rfl).1
  have fa209_0 : w200.frozen? ⟨w66.heap.size, 0, none⟩ = false := (bx3.2 0 _ rfl).2
  have ca209_1 : w200.cell? ⟨w66.heap.size, 1, none⟩ = some (.slice Bx3 n3 n3) := (bx3.2 1 _ rfl).1
  have fa209_1 : w200.frozen? ⟨w66.heap.size, 1, none⟩ = false := (bx3.2 1 _ rfl).2
  have ca209_2 : w200.cell? ⟨w66.heap.size, 2, none⟩ = some (.int .i64 d3a) := (bx3.2 2 _ rfl).1
  have fa209_2 : w200.frozen? ⟨w66.heap.size, 2, none⟩ = false := (bx3.2 2 _ rfl).2
  have ca209_3 : w200.cell? ⟨w66.heap.size, 3, none⟩ = some (.int .i64 d3b) := (bx3.2 3 _ rfl).1
  have fa209_3 : w200.frozen? ⟨w66.heap.size, 3, none⟩ = false := (bx3.2 3 _ rfl).2
  have ca209_4 : w200.cell? ⟨w66.heap.size, 4, none⟩ = some (.int .i64 d3c) := (bx3.2 4 _ rfl).1
  have fa209_4 : w200.frozen? ⟨w66.heap.size, 4, none⟩ = false := (bx3.2 4 _ rfl).2
  have ca209_5 : w200.cell? ⟨w66.heap.size, 5, none⟩ = some (.int .i64 d3d) := (bx3.2 5 _ rfl).1
  have fa209_5 : w200.frozen? ⟨w66.heap.size, 5, none⟩ = false := (bx3.2 5 _ rfl).2
  go_wp2_with fail
  clear ca204 fa204 ca205_0 fa205_0 ca205_1 fa205_1 ca205_2 fa205_2 ca205_3 fa205_3 ca205_4 fa205_4 ca205_5 fa205_5 ca206_0 fa206_0 ca206_1 fa206_1 ca206_2 fa206_2 ca206_3 fa206_3 ca206_4 fa206_4 ca206_5 fa206_5 ca207 fa207 ca208_0 fa208_0 ca208_1 fa208_1 ca208_2 fa208_2 ca208_3 fa208_3 ca208_4 fa208_4 ca208_5 fa208_5 ca209_0 fa209_0 ca209_1 fa209_1 ca209_2 fa209_2 ca209_3 fa209_3 ca209_4 fa209_4 ca209_5 fa209_5
  have nb0 := g_0.1.le
  refine (markIntS_any g_0 (by omega) (by omega)).mono ?_
  rintro e w210 ⟨rfl, mk210, f210⟩
  clear g_0
  replace p0 := p0.fr f210 (by omega)
  replace p2 := p2.fr f210 (by omega)
  replace p3 := p3.fr f210 (by omega)
  replace bx0 := bx0.fr f210 (by omega)
  replace bx2 := bx2.fr f210 (by omega)
  replace bx3 := bx3.fr f210 (by omega)
  replace p_0 := p_0.fr f210 (by omega)
  replace p_1 := p_1.fr f210 (by omega)
  replace g_1 := g_1.fr f210 (by omega)
  have ssf210 := f210.size
  replace kw := below_fr kw kw.size (by omega) f210
  obtain ⟨ca211, fa211⟩ := id p0
  have ca212_0 : w210.cell? ⟨w.heap.size + 1, 0, none⟩ = some (.int .i64 v2) := (p2.2 0 _ rfl).1
  have fa212_0 : w210.frozen? ⟨w.heap.size + 1, 0, none⟩ = false := (p2.2 0 _ rfl).2
  have ca212_1 : w210.cell? ⟨w.heap.size + 1, 1, none⟩ = some (.slice A2 n2 c2) := (p2.2 1 _ rfl).1
  have fa212_1 : w210.frozen? ⟨w.heap.size + 1, 1, none⟩ = false := (p2.2 1 _ rfl).2
  have ca212_2 : w210.cell? ⟨w.heap.size + 1, 2, none⟩ = some (.int .i64 d2a) := (p2.2 2 _ rfl).1
  have fa212_2 : w210.frozen? ⟨w.heap.size + 1, 2, none⟩ = false := (p2.2 2 _ rfl).2
  have ca212_3 : w210.cell? ⟨w.heap.size + 1, 3, none⟩ = some (.int .i64 d2b) := (p2.2 3 _ rfl).1
  have fa212_3 : w210.frozen? ⟨w.heap.size + 1, 3, none⟩ = false := (p2.2 3 _ rfl).2
  have ca212_4 : w210.cell? ⟨w.heap.size + 1, 4, none⟩ = some (.int .i64 d2c) := (p2.2 4 _ rfl).1
  have fa212_4 : w210.frozen? ⟨w.heap.size + 1, 4, none⟩ = false := (p2.2 4 _ rfl).2
  have ca212_5 : w210.cell? ⟨w.heap.size + 1, 5, none⟩ = some (.int .i64 d2d) := (p2.2 5 _ rfl).1
  have fa212_5 : w210.frozen? ⟨w.heap.size + 1, 5, none⟩ = false := (p2.2 5 _ rfl).2
  have ca213_0 : w210.cell? ⟨w.heap.size + 1 + 1, 0, none⟩ = some (.int .i64 v3) := (p3.2 0 _ rfl).1
  have fa213_0 : w210.frozen? ⟨w.heap.size + 1 + 1, 0, none⟩ = false := (p3.2 0 _ rfl).2
  have ca213_1 : w210.cell? ⟨w.heap.size + 1 + 1, 1, none⟩ = some (.slice A3 n3 c3) := (p3.2 1 _ rfl).1
  have fa213_1 : w210.frozen? ⟨w.heap.size + 1 + 1, 1, none⟩ = false := (p3.2 1 _ rfl).2
  have ca213_2 : w210.cell? ⟨w.heap.size + 1 + 1, 2, none⟩ = some (.int .i64 d3a) := (p3.2 2 _ rfl).1
  have fa213_2 : w210.frozen? ⟨w.heap.size + 1 + 1, 2, none⟩ = false := (p3.2 2 _ rfl).2
  have ca213_3 : w210.cell? ⟨w.heap.size + 1 + 1, 3, none⟩ = some (.int .i64 d3b) := (p3.2 3 _ rfl).1
  have fa213_3 : w210.frozen? ⟨w.heap.size + 1 + 1, 3, none⟩ = false := (p3.2 3 _ rfl).2
  have ca213_4 : w210.cell? ⟨w.heap.size + 1 + 1, 4, none⟩ = some (.int .i64 d3c) := (p3.2 4 _ rfl).1
  have fa213_4 : w210.frozen? ⟨w.heap.size + 1 + 1, 4, none⟩ = false := (p3.2 4 _ rfl).2
  have ca213_5 : w210.cell? ⟨w.heap.size + 1 + 1, 5, none⟩ = some (.int .i64 d3d) := (p3.2 5 _ rfl).1
  have fa213_5 : w210.frozen? ⟨w.heap.size + 1 + 1, 5, none⟩ = false := (p3.2 5 _ rfl).2
  obtain ⟨ca214, fa214⟩ := id bx0
  have ca215_0 : w210.cell? ⟨w57.heap.size, 0, none⟩ = some (.int .i64 v2) := (bx2.2 0 _ rfl).1
  have fa215_0 : w210.frozen? ⟨w57.heap.size, 0, none⟩ = false := (bx2.2 0 _ rfl).2
  have ca215_1 : w210.cell? ⟨w57.heap.size, 1, none⟩ = some (.slice Bx2 n2 n2) := (bx2.2 1 _ rfl).1
  have fa215_1 : w210.frozen? ⟨w57.heap.size, 1, none⟩ = false := (bx2.2 1 _ rfl).2
  have ca215_2 : w210.cell? ⟨w57.heap.size, 2, none⟩ = some (.int .i64 d2a) := (bx2.2 2 _ rfl).1
  have fa215_2 : w210.frozen? ⟨w57.heap.size, 2, none⟩ = false := (bx2.2 2 _ rfl).2
  have ca215_3 : w210.cell? ⟨w57.heap.size, 3, none⟩ = some (.int .i64 d2b) := (bx2.2 3 _ rfl).1
  have fa215_3 : w210.frozen? ⟨w57.heap.size, 3, none⟩ = false := (bx2.2 3 _ rfl).2
  have ca215_4 : w210.cell? ⟨w57.heap.size, 4, none⟩ = some (.int .i64 d2c) := (bx2.2 4 _ rfl).1
  have fa215_4 : w210.frozen? ⟨w57.heap.size, 4, none⟩ = false := (bx2.2 4 _ rfl).2
  have ca215_5 : w210.cell? ⟨w57.heap.size, 5, none⟩ = some (.int .i64 d2d) := (bx2.2 5 _ rfl).1
  have fa215_5 : w210.frozen? ⟨w57.heap.size, 5, none⟩ = false := (bx2.2 5 _ rfl).2
  have ca216_0 : w210.cell? ⟨w66.heap.size, 0, none⟩ = some (.int .i64 v3) := (bx3.2 0 _ rfl).1
  have fa216_0 : w210.frozen? ⟨w66.heap.size, 0, none⟩ = false := (bx3.2 0 _ rfl).2
  have ca216_1 : w210.cell? ⟨w66.heap.size, 1, none⟩ = some (.slice Bx3 n3 n3) := (bx3.2 1 _ rfl).1
  have fa216_1 : w210.frozen? ⟨w66.heap.size, 1, none⟩ = false := (bx3.2 1 _ rfl).2
  have ca216_2 : w210.cell? ⟨w66.heap.size, 2, none⟩ = some (.int .i64 d3a) := (bx3.2 2 _ rfl).1
  have fa216_2 : w210.frozen? ⟨w66.heap.size, 2, none⟩ = false := (bx3.2 2 _ rfl).2
  have ca216_3 : w210.cell? ⟨w66.heap.size, 3, none⟩ = some (.int .i64 d3b) := (bx3.2 3 _ rfl).1
  have fa216_3 : w210.frozen? ⟨w66.heap.size, 3, none⟩ = false := (bx3.2 3 _ rfl).2
  have ca216_4 : w210.cell? ⟨w66.heap.size, 4, none⟩ = some (.int .i64 d3c) := (bx3.2 4 _ rfl).1
  have fa216_4 : w210.frozen? ⟨w66.heap.size, 4, none⟩ = false := (bx3.2 4 _ rfl).2
  have ca216_5 : w210.cell? ⟨w66.heap.size, 5, none⟩ = some (.int .i64 d3d) := (bx3.2 5 _ rfl).1
  have fa216_5 : w210.frozen? ⟨w66.heap.size, 5, none⟩ = false := (bx3.2 5 _ rfl).2
  go_wp2_with fail
  clear ca211 fa211 ca212_0 fa212_0 ca212_1 fa212_1 ca212_2 fa212_2 ca212_3 fa212_3 ca212_4 fa212_4 ca212_5 fa212_5 ca213_0 fa213_0 ca213_1 fa213_1 ca213_2 fa213_2 ca213_3 fa213_3 ca213_4 fa213_4 ca213_5 fa213_5 ca214 fa214 ca215_0 fa215_0 ca215_1 fa215_1 ca215_2 fa215_2 ca215_3 fa215_3 ca215_4 fa215_4 ca215_5 fa215_5 ca216_0 fa216_0 ca216_1 fa216_1 ca216_2 fa216_2 ca216_3 fa216_3 ca216_4 fa216_4 ca216_5 fa216_5
  have nb1 := g_1.1.le
  refine (markIntS_any g_1 (by omega) (by omega)).mono ?_
  rintro e w217 ⟨rfl, mk217, f217⟩
  clear g_1
  replace p0 := p0.fr f217 (by omega)
  replace p2 := p2.fr f217 (by omega)
  replace p3 := p3.fr f217 (by omega)
  replace bx0 := bx0.fr f217 (by omega)
  replace bx2 := bx2.fr f217 (by omega)
  replace bx3 := bx3.fr f217 (by omega)
  replace p_0 := p_0.fr f217 (by omega)
  replace p_1 := p_1.fr f217 (by omega)
  replace mk210 := mk210.fr f217 (by omega)
  have ssf217 := f217.size
  replace kw := below_fr kw kw.size (by omega) f217
  obtain ⟨ca218, fa218⟩ := id p0
  have ca219_0 : w217.cell? ⟨w.heap.size + 1, 0, none⟩ = some (.int .i64 v2) := (p2.2 0 _ rfl).1
  have fa219_0 : w217.frozen? ⟨w.heap.size + 1, 0, none⟩ = false := (p2.2 0 _ rfl).2
  have ca219_1 : w217.cell? ⟨w.heap.size + 1, 1, none⟩ = some (.slice A2 n2 c2) := (p2.2 1 _ rfl).1
  have fa219_1 : w217.frozen? ⟨w.heap.size + 1, 1, none⟩ = false := (p2.2 1 _ rfl).2
  have ca219_2 : w217.cell? ⟨w.heap.size + 1, 2, none⟩ = some (.int .i64 d2a) := (p2.2 2 _ rfl).1
  have fa219_2 : w217.frozen? ⟨w.heap.size + 1, 2, none⟩ = false := (p2.2 2 _ rfl).2
  have ca219_3 : w217.cell? ⟨w.heap.size + 1, 3, none⟩ = some (.int .i64 d2b) := (p2.2 3 _ rfl).1
  have fa219_3 : w217.frozen? ⟨w.heap.size + 1, 3, none⟩ = false := (p2.2 3 _ rfl).2
  have ca219_4 : w217.cell? ⟨w.heap.size + 1, 4, none⟩ = some (.int .i64 d2c) := (p2.2 4 _ rfl).1
  have fa219_4 : w217.frozen? ⟨w.heap.size + 1, 4, none⟩ = false := (p2.2 4 _ rfl).2
  have ca219_5 : w217.cell? ⟨w.heap.size + 1, 5, none⟩ = some (.int .i64 d2d) := (p2.2 5 _ rfl).1
  have fa219_5 : w217.frozen? ⟨w.heap.size + 1, 5, none⟩ = false := (p2.2 5 _ rfl).2
  have ca220_0 : w217.cell? ⟨w.heap.size + 1 + 1, 0, none⟩ = some (.int .i64 v3) := (p3.2 0 _ rfl).1
  have fa220_0 : w217.frozen? ⟨w.heap.size + 1 + 1, 0, none⟩ = false := (p3.2 0 _ rfl).2
  have ca220_1 : w217.cell? ⟨w.heap.size + 1 + 1, 1, none⟩ = some (.slice A3 n3 c3) := (p3.2 1 _ rfl).1
  have fa220_1 : w217.frozen? ⟨w.heap.size + 1 + 1, 1, none⟩ = false := (p3.2 1 _ rfl).2
  have ca220_2 : w217.cell? ⟨w.heap.size + 1 + 1, 2, none⟩ = some (.int .i64 d3a) := (p3.2 2 _ rfl).1
  have fa220_2 : w217.frozen? ⟨w.heap.size + 1 + 1, 2, none⟩ = false := (p3.2 2 _ rfl).2
  have ca220_3 : w217.cell? ⟨w.heap.size + 1 + 1, 3, none⟩ = some (.int .i64 d3b) := (p3.2 3 _ rfl).1
  have fa220_3 : w217.frozen? ⟨w.heap.size + 1 + 1, 3, none⟩ = false := (p3.2 3 _ rfl).2
  have ca220_4 : w217.cell? ⟨w.heap.size + 1 + 1, 4, none⟩ = some (.int .i64 d3c) := (p3.2 4 _ rfl).1
  have fa220_4 : w217.frozen? ⟨w.heap.size + 1 + 1, 4, none⟩ = false := (p3.2 4 _ rfl).2
  have ca220_5 : w217.cell? ⟨w.heap.size + 1 + 1, 5, none⟩ = some (.int .i64 d3d) := (p3.2 5 _ rfl).1
  have fa220_5 : w217.frozen? ⟨w.heap.size + 1 + 1, 5, none⟩ = false := (p3.2 5 _ rfl).2
  obtain ⟨ca221, fa221⟩ := id bx0
  have ca222_0 : w217.cell? ⟨w57.heap.size, 0, none⟩ = some (.int .i64 v2) := (bx2.2 0 _ rfl).1
  have fa222_0 : w217.frozen? ⟨w57.heap.size, 0, none⟩ = false := (bx2.2 0 _ rfl).2
  have ca222_1 : w217.cell? ⟨w57.heap.size, 1, none⟩ = some (.slice Bx2 n2 n2) := (bx2.2 1 _ rfl).1
  have fa222_1 : w217.frozen? ⟨w57.heap.size, 1, none⟩ = false := (bx2.2 1 _ rfl).2
  have ca222_2 : w217.cell? ⟨w57.heap.size, 2, none⟩ = some (.int .i64 d2a) := (bx2.2 2 _ rfl).1
  have fa222_2 : w217.frozen? ⟨w57.heap.size, 2, none⟩ = false := (bx2.2 2 _ rfl).2
  have ca222_3 : w217.cell? ⟨w57.heap.size, 3, none⟩ = some (.int .i64 d2b) := (bx2.2 3 _ rfl).1
  have fa222_3 : w217.frozen? ⟨w57.heap.size, 3, none⟩ = false := (bx2.2 3 _ rfl).2
  have ca222_4 : w217.cell? ⟨w57.heap.size, 4, none⟩ = some (.int .i64 d2c) := (bx2.2 4 _ rfl).1
  have fa222_4 : w217.frozen? ⟨w57.heap.size, 4, none⟩ = false := (bx2.2 4 _ rfl).2
  have ca222_5 : w217.cell? ⟨w57.heap.size, 5, none⟩ = some (.int .i64 d2d) := (bx2.2 5 _ rfl).1
  have fa222_5 : w217.frozen? ⟨w57.heap.size, 5, none⟩ = false := (bx2.2 5 _ rfl).2
  have ca223_0 : w217.cell? ⟨w66.heap.size, 0, none⟩ = some (.int .i64 v3) := (bx3.2 0 _ rfl).1
  have fa223_0 : w217.frozen? ⟨w66.heap.size, 0, none⟩ = false := (bx3.2 0 _ rfl).2
  have ca223_1 : w217.cell? ⟨w66.heap.size, 1, none⟩ = some (.slice Bx3 n3 n3) := (bx3.2 1 _ rfl).1
  have fa223_1 : w217.frozen? ⟨w66.heap.size, 1, none⟩ = false := (bx3.2 1 _ rfl).2
  have ca223_2 : w217.cell? ⟨w66.heap.size, 2, none⟩ = some (.int .i64 d3a) := (bx3.2 2 _ rfl).1
  have fa223_2 : w217.frozen? ⟨w66.heap.size, 2, none⟩ = false := (bx3.2 2 _ rfl).2
  have ca223_3 : w217.cell? ⟨w66.heap.size, 3, none⟩ = some (.int .i64 d3b) := (bx3.2 3 _ rfl).1
  have fa223_3 : w217.frozen? ⟨w66.heap.size, 3, none⟩ = false := (bx3.2 3 _ rfl).2
  have ca223_4 : w217.cell? ⟨w66.heap.size, 4, none⟩ = some (.int .i64 d3c) := (bx3.2 4 _ rfl).1
  have fa223_4 : w217.frozen? ⟨w66.heap.size, 4, none⟩ = false := (bx3.2 4 _ rfl).2
  have ca223_5 : w217.cell? ⟨w66.heap.size, 5, none⟩ = some (.int .i64 d3d) := (bx3.2 5 _ rfl).1
  have fa223_5 : w217.frozen? ⟨w66.heap.size, 5, none⟩ = false := (bx3.2 5 _ rfl).2
  go_wp2_with fail
  clear ca218 fa218 ca219_0 fa219_0 ca219_1 fa219_1 ca219_2 fa219_2 ca219_3 fa219_3 ca219_4 fa219_4 ca219_5 fa219_5 ca220_0 fa220_0 ca220_1 fa220_1 ca220_2 fa220_2 ca220_3 fa220_3 ca220_4 fa220_4 ca220_5 fa220_5 ca221 fa221 ca222_0 fa222_0 ca222_1 fa222_1 ca222_2 fa222_2 ca222_3 fa222_3 ca222_4 fa222_4 ca222_5 fa222_5 ca223_0 fa223_0 ca223_1 fa223_1 ca223_2 fa223_2 ca223_3 fa223_3 ca223_4 fa223_4 ca223_5 fa223_5
  have u1 : ((1 + (g_N0 : Int) + (g_N1 : Int)) != (1 + (g_N0 : Int) + (g_N1 : Int))) = false := by simp
  have u2 : ¬ (1 + (g_N0 : Int) < 0) := by omega
  have u3 : ¬ (1 + (g_N0 : Int) + (g_N1 : Int) < 0) := by omega
  refine (heldIntS_any mk210.1 (by omega) (by omega)).mono ?_
  rintro e w' ⟨rfl, rfl⟩
  obtain ⟨ca224, fa224⟩ := id p0
  have ca225_0 : w217.cell? ⟨w.heap.size + 1, 0, none⟩ = some (.int .i64 v2) := (p2.2 0 _ rfl).1
  have fa225_0 : w217.frozen? ⟨w.heap.size + 1, 0, none⟩ = false := (p2.2 0 _ rfl).2
  have ca225_1 : w217.cell? ⟨w.heap.size + 1, 1, none⟩ = some (.slice A2 n2 c2) := (p2.2 1 _ rfl).1
  have fa225_1 : w217.frozen? ⟨w.heap.size + 1, 1, none⟩ = false := (p2.2 1 _ rfl).2
  have ca225_2 : w217.cell? ⟨w.heap.size + 1, 2, none⟩ = some (.int .i64 d2a) := (p2.2 2 _ rfl).1
  have fa225_2 : w217.frozen? ⟨w.heap.size + 1, 2, none⟩ = false := (p2.2 2 _ rfl).2
  have ca225_3 : w217.cell? ⟨w.heap.size + 1, 3, none⟩ = some (.int .i64 d2b) := (p2.2 3 _ rfl).1
  have fa225_3 : w217.frozen? ⟨w.heap.size + 1, 3, none⟩ = false := (p2.2 3 _ rfl).2
  have ca225_4 : w217.cell? ⟨w.heap.size + 1, 4, none⟩ = some (.int .i64 d2c) := (p2.2 4 _ rfl).1
  have fa225_4 : w217.frozen? ⟨w.heap.size + 1, 4, none⟩ = false := (p2.2 4 _ rfl).2
  have ca225_5 : w217.cell? ⟨w.heap.size + 1, 5, none⟩ = some (.int .i64 d2d) := (p2.2 5 _ rfl).1
  have fa225_5 : w217.frozen? ⟨w.heap.size + 1, 5, none⟩ = false := (p2.2 5 _ rfl).2
  have ca226_0 : w217.cell? ⟨w.heap.size + 1 + 1, 0, none⟩ = some (.int .i64 v3) := (p3.2 0 _ rfl).1
  have fa226_0 : w217.frozen? ⟨w.heap.size + 1 + 1, 0, none⟩ = false := (p3.2 0 _ rfl).2
  have ca226_1 : w217.cell? ⟨w.heap.size + 1 + 1, 1, none⟩ = some (.slice A3 n3 c3) := (p3.2 1 _ rfl).1
  have fa226_1 : w217.frozen? ⟨w.heap.size + 1 + 1, 1, none⟩ = false := (p3.2 1 _ rfl).2
  have ca226_2 : w217.cell? ⟨w.heap.size + 1 + 1, 2, none⟩ = some (.int .i64 d3a) := (p3.2 2 _ rfl).1
  have fa226_2 : w217.frozen? ⟨w.heap.size + 1 + 1, 2, none⟩ = false := (p3.2 2 _ rfl).2
  have ca226_3 : w217.cell? ⟨w.heap.size + 1 + 1, 3, none⟩ = some (.int .i64 d3b) := (p3.2 3 _ rfl).1
  have fa226_3 : w217.frozen? ⟨w.heap.size + 1 + 1, 3, none⟩ = false := (p3.2 3 _ rfl).2
  have ca226_4 : w217.cell? ⟨w.heap.size + 1 + 1, 4, none⟩ = some (.int .i64 d3c) := (p3.2 4 _ rfl).1
  have fa226_4 : w217.frozen? ⟨w.heap.size + 1 + 1, 4, none⟩ = false := (p3.2 4 _ rfl).2
  have ca226_5 : w217.cell? ⟨w.heap.size + 1 + 1, 5, none⟩ = some (.int .i64 d3d) := (p3.2 5 _ rfl).1
  have fa226_5 : w217.frozen? ⟨w.heap.size + 1 + 1, 5, none⟩ = false := (p3.2 5 _ rfl).2
  obtain ⟨ca227, fa227⟩ := id bx0
  have ca228_0 : w217.cell? ⟨w57.heap.size, 0, none⟩ = some (.int .i64 v2) := (bx2.2 0 _ rfl).1
  have fa228_0 : w217.frozen? ⟨w57.heap.size, 0, none⟩ = false := (bx2.2 0 _ rfl).2
  have ca228_1 : w217.cell? ⟨w57.heap.size, 1, none⟩ = some (.slice Bx2 n2 n2) := (bx2.2 1 _ rfl).1
  have fa228_1 : w217.frozen? ⟨w57.heap.size, 1, none⟩ = false := (bx2.2 1 _ rfl).2
  have ca228_2 : w217.cell? ⟨w57.heap.size, 2, none⟩ = some (.int .i64 d2a) := (bx2.2 2 _ rfl).1
  have fa228_2 : w217.frozen? ⟨w57.heap.size, 2, none⟩ = false := (bx2.2 2 _ rfl).2
  have ca228_3 : w217.cell? ⟨w57.heap.size, 3, none⟩ = some (.int .i64 d2b) := (bx2.2 3 _ rfl).1
  have fa228_3 : w217.frozen? ⟨w57.heap.size, 3, none⟩ = false := (bx2.2 3 _ rfl).2
  have ca228_4 : w217.cell? ⟨w57.heap.size, 4, none⟩ = some (.int .i64 d2c) := (bx2.2 4 _ rfl).1
  have fa228_4 : w217.frozen? ⟨w57.heap.size, 4, none⟩ = false := (bx2.2 4 _ rfl).2
  have ca228_5 : w217.cell? ⟨w57.heap.size, 5, none⟩ = some (.int .i64 d2d) := (bx2.2 5 _ rfl).1
  have fa228_5 : w217.frozen? ⟨w57.heap.size, 5, none⟩ = false := (bx2.2 5 _ rfl).2
  have ca229_0 : w217.cell? ⟨w66.heap.size, 0, none⟩ = some (.int .i64 v3) := (bx3.2 0 _ rfl).1
  have fa229_0 : w217.frozen? ⟨w66.heap.size, 0, none⟩ = false := (bx3.2 0 _ rfl).2
  have ca229_1 : w217.cell? ⟨w66.heap.size, 1, none⟩ = some (.slice Bx3 n3 n3) := (bx3.2 1 _ rfl).1
  have fa229_1 : w217.frozen? ⟨w66.heap.size, 1, none⟩ = false := (bx3.2 1 _ rfl).2
  have ca229_2 : w217.cell? ⟨w66.heap.size, 2, none⟩ = some (.int .i64 d3a) := (bx3.2 2 _ rfl).1
  have fa229_2 : w217.frozen? ⟨w66.heap.size, 2, none⟩ = false := (bx3.2 2 _ rfl).2
  have ca229_3 : w217.cell? ⟨w66.heap.size, 3, none⟩ = some (.int .i64 d3b) := (bx3.2 3 _ rfl).1
  have fa229_3 : w217.frozen? ⟨w66.heap.size, 3, none⟩ = false := (bx3.2 3 _ rfl).2
  have ca229_4 : w217.cell? ⟨w66.heap.size, 4, none⟩ = some (.int .i64 d3c) := (bx3.2 4 _ rfl).1
  have fa229_4 : w217.frozen? ⟨w66.heap.size, 4, none⟩ = false := (bx3.2 4 _ rfl).2
  have ca229_5 : w217.cell? ⟨w66.heap.size, 5, none⟩ = some (.int .i64 d3d) := (bx3.2 5 _ rfl).1
  have fa229_5 : w217.frozen? ⟨w66.heap.size, 5, none⟩ = false := (bx3.2 5 _ rfl).2
  go_wp2_with fail
  clear ca224 fa224 ca225_0 fa225_0 ca225_1 fa225_1 ca225_2 fa225_2 ca225_3 fa225_3 ca225_4 fa225_4 ca225_5 fa225_5 ca226_0 fa226_0 ca226_1 fa226_1 ca226_2 fa226_2 ca226_3 fa226_3 ca226_4 fa226_4 ca226_5 fa226_5 ca227 fa227 ca228_0 fa228_0 ca228_1 fa228_1 ca228_2 fa228_2 ca228_3 fa228_3 ca228_4 fa228_4 ca228_5 fa228_5 ca229_0 fa229_0 ca229_1 fa229_1 ca229_2 fa229_2 ca229_3 fa229_3 ca229_4 fa229_4 ca229_5 fa229_5
  refine (heldIntS_any mk217.1 (by omega) (by omega)).mono ?_
  rintro e w' ⟨rfl, rfl⟩
  obtain ⟨ca230, fa230⟩ := id p0
  have ca231_0 : w217.cell? ⟨w.heap.size + 1, 0, none⟩ = some (.int .i64 v2) := (p2.2 0 _ rfl).1
  have fa231_0 : w217.frozen? ⟨w.heap.size + 1, 0, none⟩ = false := (p2.2 0 _ rfl).2
  have ca231_1 : w217.cell? ⟨w.heap.size + 1, 1, none⟩ = some (.slice A2 n2 c2) := (p2.2 1 _ rfl).1
  have fa231_1 : w217.frozen? ⟨w.heap.size + 1, 1, none⟩ = false := (p2.2 1 _ rfl).2
  have ca231_2 : w217.cell? ⟨w.heap.size + 1, 2, none⟩ = some (.int .i64 d2a) := (p2.2 2 _ rfl).1
  have fa231_2 : w217.frozen? ⟨w.heap.size + 1, 2, none⟩ = false := (p2.2 2 _ rfl).2
  have ca231_3 : w217.cell? ⟨w.heap.size + 1, 3, none⟩ = some (.int .i64 d2b) := (p2.2 3 _ rfl).1
  have fa231_3 : w217.frozen? ⟨w.heap.size + 1, 3, none⟩ = false := (p2.2 3 _ rfl).2
  have ca231_4 : w217.cell? ⟨w.heap.size + 1, 4, none⟩ = some (.int .i64 d2c) := (p2.2 4 _ rfl).1
  have fa231_4 : w217.frozen? ⟨w.heap.size + 1, 4, none⟩ = false := (p2.2 4 _ rfl).2
  have ca231_5 : w217.cell? ⟨w.heap.size + 1, 5, none⟩ = some (.int .i64 d2d) := (p2.2 5 _ rfl).1
  have fa231_5 : w217.frozen? ⟨w.heap.size + 1, 5, none⟩ = false := (p2.2 5 _ rfl).2
  have ca232_0 : w217.cell? ⟨w.heap.size + 1 + 1, 0, none⟩ = some (.int .i64 v3) := (p3.2 0 _ rfl).1
  have fa232_0 : w217.frozen? ⟨w.heap.size + 1 + 1, 0, none⟩ = false := (p3.2 0 _ rfl).2
  have ca232_1 : w217.cell? ⟨w.heap.size + 1 + 1, 1, none⟩ = some (.slice A3 n3 c3) := (p3.2 1 _ rfl).1
  have fa232_1 : w217.frozen? ⟨w.heap.size + 1 + 1, 1, none⟩ = false := (p3.2 1 _ rfl).2
  have ca232_2 : w217.cell? ⟨w.heap.size + 1 + 1, 2, none⟩ = some (.int .i64 d3a) := (p3.2 2 _ rfl).1
  have fa232_2 : w217.frozen? ⟨w.heap.size + 1 + 1, 2, none⟩ = false := (p3.2 2 _ rfl).2
  have ca232_3 : w217.cell? ⟨w.heap.size + 1 + 1, 3, none⟩ = some (.int .i64 d3b) := (p3.2 3 _ rfl).1
  have fa232_3 : w217.frozen? ⟨w.heap.size + 1 + 1, 3, none⟩ = false := (p3.2 3 _ rfl).2
  have ca232_4 : w217.cell? ⟨w.heap.size + 1 + 1, 4, none⟩ = some (.int .i64 d3c) := (p3.2 4 _ rfl).1
  have fa232_4 : w217.frozen? ⟨w.heap.size + 1 + 1, 4, none⟩ = false := (p3.2 4 _ rfl).2
  have ca232_5 : w217.cell? ⟨w.heap.size + 1 + 1, 5, none⟩ = some (.int .i64 d3d) := (p3.2 5 _ rfl).1
  have fa232_5 : w217.frozen? ⟨w.heap.size + 1 + 1, 5, none⟩ = false := (p3.2 5 _ rfl).2
  obtain ⟨ca233, fa233⟩ := id bx0
  have ca234_0 : w217.cell? ⟨w57.heap.size, 0, none⟩ = some (.int .i64 v2) := (bx2.2 0 _ rfl).1
  have fa234_0 : w217.frozen? ⟨w57.heap.size, 0, none⟩ = false := (bx2.2 0 _ rfl).2
  have ca234_1 : w217.cell? ⟨w57.heap.size, 1, none⟩ = some (.slice Bx2 n2 n2) := (bx2.2 1 _ rfl).1
  have fa234_1 : w217.frozen? ⟨w57.heap.size, 1, none⟩ = false := (bx2.2 1 _ rfl).2
  have ca234_2 : w217.cell? ⟨w57.heap.size, 2, none⟩ = some (.int .i64 d2a) := (bx2.2 2 _ rfl).1
  have fa234_2 : w217.frozen? ⟨w57.heap.size, 2, none⟩ = false := (bx2.2 2 _ rfl).2
  have ca234_3 : w217.cell? ⟨w57.heap.size, 3, none⟩ = some (.int .i64 d2b) := (bx2.2 3 _ rfl).1
  have fa234_3 : w217.frozen? ⟨w57.heap.size, 3, none⟩ = false := (bx2.2 3 _ rfl).2
  have ca234_4 : w217.cell? ⟨w57.heap.size, 4, none⟩ = some (.int .i64 d2c) := (bx2.2 4 _ rfl).1
  have fa234_4 : w217.frozen? ⟨w57.heap.size, 4, none⟩ = false := (bx2.2 4 _ rfl).2
  have ca234_5 : w217.cell? ⟨w57.heap.size, 5, none⟩ = some (.int .i64 d2d) := (bx2.2 5 _ rfl).1
  have fa234_5 : w217.frozen? ⟨w57.heap.size, 5, none⟩ = false := (bx2.2 5 _ rfl).2
  have ca235_0 : w217.cell? ⟨w66.heap.size, 0, none⟩ = some (.int .i64 v3) := (bx3.2 0 _ rfl).1
  have fa235_0 : w217.frozen? ⟨w66.heap.size, 0, none⟩ = false := (bx3.2 0 _ rfl).2
  have ca235_1 : w217.cell? ⟨w66.heap.size, 1, none⟩ = some (.slice Bx3 n3 n3) := (bx3.2 1 _ rfl).1
  have fa235_1 : w217.frozen? ⟨w66.heap.size, 1, none⟩ = false := (bx3.2 1 _ rfl).2
  have ca235_2 : w217.cell? ⟨w66.heap.size, 2, none⟩ = some (.int .i64 d3a) := (bx3.2 2 _ rfl).1
  have fa235_2 : w217.frozen? ⟨w66.heap.size, 2, none⟩ = false := (bx3.2 2 _ rfl).2
  have ca235_3 : w217.cell? ⟨w66.heap.size, 3, none⟩ = some (.int .i64 d3b) := (bx3.2 3 _ rfl).1
  have fa235_3 : w217.frozen? ⟨w66.heap.size, 3, none⟩ = false := (bx3.2 3 _ rfl).2
  have ca235_4 : w217.cell? ⟨w66.heap.size, 4, none⟩ = some (.int .i64 d3c) := (bx3.2 4 _ rfl).1
  have fa235_4 : w217.frozen? ⟨w66.heap.size, 4, none⟩ = false := (bx3.2 4 _ rfl).2
  have ca235_5 : w217.cell? ⟨w66.heap.size, 5, none⟩ = some (.int .i64 d3d) := (bx3.2 5 _ rfl).1
  have fa235_5 : w217.frozen? ⟨w66.heap.size, 5, none⟩ = false := (bx3.2 5 _ rfl).2
  go_wp2_with fail
  clear ca230 fa230 ca231_0 fa231_0 ca231_1 fa231_1 ca231_2 fa231_2 ca231_3 fa231_3 ca231_4 fa231_4 ca231_5 fa231_5 ca232_0 fa232_0 ca232_1 fa232_1 ca232_2 fa232_2 ca232_3 fa232_3 ca232_4 fa232_4 ca232_5 fa232_5 ca233 fa233 ca234_0 fa234_0 ca234_1 fa234_1 ca234_2 fa234_2 ca234_3 fa234_3 ca234_4 fa234_4 ca234_5 fa234_5 ca235_0 fa235_0 ca235_1 fa235_1 ca235_2 fa235_2 ca235_3 fa235_3 ca235_4 fa235_4 ca235_5 fa235_5
  obtain ⟨ca236, -⟩ := id p0
  have ca237_0 : w217.cell? ⟨w.heap.size + 1, 0, none⟩ = some (.int .i64 v2) := (p2.2 0 _ rfl).1
  have ca237_1 : w217.cell? ⟨w.heap.size + 1, 1, none⟩ = some (.slice A2 n2 c2) := (p2.2 1 _ rfl).1
  have ca237_2 : w217.cell? ⟨w.heap.size + 1, 2, none⟩ = some (.int .i64 d2a) := (p2.2 2 _ rfl).1
  have ca237_3 : w217.cell? ⟨w.heap.size + 1, 3, none⟩ = some (.int .i64 d2b) := (p2.2 3 _ rfl).1
  have ca237_4 : w217.cell? ⟨w.heap.size + 1, 4, none⟩ = some (.int .i64 d2c) := (p2.2 4 _ rfl).1
  have ca237_5 : w217.cell? ⟨w.heap.size + 1, 5, none⟩ = some (.int .i64 d2d) := (p2.2 5 _ rfl).1
  have ca238_0 : w217.cell? ⟨w.heap.size + 1 + 1, 0, none⟩ = some (.int .i64 v3) := (p3.2 0 _ rfl).1
  have ca238_1 : w217.cell? ⟨w.heap.size + 1 + 1, 1, none⟩ = some (.slice A3 n3 c3) := (p3.2 1 _ rfl).1
  have ca238_2 : w217.cell? ⟨w.heap.size + 1 + 1, 2, none⟩ = some (.int .i64 d3a) := (p3.2 2 _ rfl).1
  have ca238_3 : w217.cell? ⟨w.heap.size + 1 + 1, 3, none⟩ = some (.int .i64 d3b) := (p3.2 3 _ rfl).1
  have ca238_4 : w217.cell? ⟨w.heap.size + 1 + 1, 4, none⟩ = some (.int .i64 d3c) := (p3.2 4 _ rfl).1
  have ca238_5 : w217.cell? ⟨w.heap.size + 1 + 1, 5, none⟩ = some (.int .i64 d3d) := (p3.2 5 _ rfl).1
  have kS := hid (show ∀ w', Keeps w217 w' → (w'.cell? ⟨w.heap.size, 0, none⟩ = some (.slice A0 n0 c0) ∧ w'.cell? ⟨w.heap.size + 1, 0, none⟩ = some (.int .i64 v2) ∧ w'.cell? ⟨w.heap.size + 1, 1, none⟩ = some (.slice A2 n2 c2) ∧ w'.cell? ⟨w.heap.size + 1, 2, none⟩ = some (.int .i64 d2a) ∧ w'.cell? ⟨w.heap.size + 1, 3, none⟩ = some (.int .i64 d2b) ∧ w'.cell? ⟨w.heap.size + 1, 4, none⟩ = some (.int .i64 d2c) ∧ w'.cell? ⟨w.heap.size + 1, 5, none⟩ = some (.int .i64 d2d) ∧ w'.cell? ⟨w.heap.size + 1 + 1, 0, none⟩ = some (.int .i64 v3) ∧ w'.cell? ⟨w.heap.size + 1 + 1, 1, none⟩ = some (.slice A3 n3 c3) ∧ w'.cell? ⟨w.heap.size + 1 + 1, 2, none⟩ = some (.int .i64 d3a) ∧ w'.cell? ⟨w.heap.size + 1 + 1, 3, none⟩ = some (.int .i64 d3b) ∧ w'.cell? ⟨w.heap.size + 1 + 1, 4, none⟩ = some (.int .i64 d3c) ∧ w'.cell? ⟨w.heap.size + 1 + 1, 5, none⟩ = some (.int .i64 d3d)) from fun w' k => ⟨cell_keeps ca236 k, cell_keeps ca237_0 k, cell_keeps ca237_1 k, cell_keeps ca237_2 k, cell_keeps ca237_3 k, cell_keeps ca237_4 k, cell_keeps ca237_5 k, cell_keeps ca238_0 k, cell_keeps ca238_1 k, cell_keeps ca238_2 k, cell_keeps ca238_3 k, cell_keeps ca238_4 k, cell_keeps ca238_5 k⟩)
  have kW := keeps_d0 w217
  have hW0 := (h0.keeps kw)
  have hW1 := (h1.keeps kw)
  have hW2 := (h2.keeps kw)
  have hW3 := (h3.keeps kw)
  go_region_held3 (fun w' => w'.cell? ⟨w.heap.size, 0, none⟩ = some (.slice A0 n0 c0) ∧ w'.cell? ⟨w.heap.size + 1, 0, none⟩ = some (.int .i64 v2) ∧ w'.cell? ⟨w.heap.size + 1, 1, none⟩ = some (.slice A2 n2 c2) ∧ w'.cell? ⟨w.heap.size + 1, 2, none⟩ = some (.int .i64 d2a) ∧ w'.cell? ⟨w.heap.size + 1, 3, none⟩ = some (.int .i64 d2b) ∧ w'.cell? ⟨w.heap.size + 1, 4, none⟩ = some (.int .i64 d2c) ∧ w'.cell? ⟨w.heap.size + 1, 5, none⟩ = some (.int .i64 d2d) ∧ w'.cell? ⟨w.heap.size + 1 + 1, 0, none⟩ = some (.int .i64 v3) ∧ w'.cell? ⟨w.heap.size + 1 + 1, 1, none⟩ = some (.slice A3 n3 c3) ∧ w'.cell? ⟨w.heap.size + 1 + 1, 2, none⟩ = some (.int .i64 d3a) ∧ w'.cell? ⟨w.heap.size + 1 + 1, 3, none⟩ = some (.int .i64 d3b) ∧ w'.cell? ⟨w.heap.size + 1 + 1, 4, none⟩ = some (.int .i64 d3c) ∧ w'.cell? ⟨w.heap.size + 1 + 1, 5, none⟩ = some (.int .i64 d3d)) (first | with_reducible exact kS.out _ (keeps_d0 _) | with_reducible exact kS.out _ kW | go_keep)
    ((first | (go_at_call 9; (with_reducible refine (toGeo_any (hW0.keeps kW)).mono ?_); rintro e wB ⟨Bu_0, rfl, y9, kB⟩; (first | (have u_0 := u_0.keeps kB) | skip); (first | (have u_1 := u_1.keeps kB) | skip); (first | (have u_2 := u_2.keeps kB) | skip); (first | (have u_3 := u_3.keeps kB) | skip); have u_0 := y9; clear y9; replace kW : Keeps w217 wB := kW.trans kB; clear kB) | (go_at_call 10; (with_reducible refine (toVariableS_any (hW1.keeps kW)).mono ?_); rintro e wB ⟨Bu_1, rfl, y9, kB⟩; (first | (have u_0 := u_0.keeps kB) | skip); (first | (have u_1 := u_1.keeps kB) | skip); (first | (have u_2 := u_2.keeps kB) | skip); (first | (have u_3 := u_3.keeps kB) | skip); have u_1 := y9; clear y9; replace kW : Keeps w217 wB := kW.trans kB; clear kB) | (go_at_call 11; (with_reducible refine (toRelease_any (hW2.keeps kW)).mono ?_); rintro e wB ⟨Bu_2, rfl, y9, kB⟩; (first | (have u_0 := u_0.keeps kB) | skip); (first | (have u_1 := u_1.keeps kB) | skip); (first | (have u_2 := u_2.keeps kB) | skip); (first | (have u_3 := u_3.keeps kB) | skip); have u_2 := y9; clear y9; replace kW : Keeps w217 wB := kW.trans kB; clear kB) | (go_at_call 11; (with_reducible refine (toRelease_any (hW3.keeps kW)).mono ?_); rintro e wB ⟨Bu_3, rfl, y9, kB⟩; (first | (have u_0 := u_0.keeps kB) | skip); (first | (have u_1 := u_1.keeps kB) | skip); (first | (have u_2 := u_2.keeps kB) | skip); (first | (have u_3 := u_3.keeps kB) | skip); have u_3 := y9; clear y9; replace kW : Keeps w217 wB := kW.trans kB; clear kB) | (go_at_call 12; refine (implPlanChanges_any u_0.1 u_1.1 HNK.out u_2 u_3).mono ?_; rintro e wB ⟨h_A0, h_N0, h_C0, h_A1, h_N1, h_C1, h_L0, h_U0, h_L1, h_U1, rfl, h_B, h_0, h_1, kB⟩; rw [HR.out]; have sW := kW.size; have sB := kB.size; rw [HR.out] at h_0; dsimp only at h_0; rw [HR.out] at h_1; dsimp only at h_1; replace h_B : w217.heap.size ≤ h_L0 ∧ h_U0 ≤ wB.heap.size ∧ w217.heap.size ≤ h_L1 ∧ h_U1 ≤ wB.heap.size ∧ (h_U0 ≤ h_L1 ∨ h_U1 ≤ h_L0) := (by first | omega | (simp at sW; omega)); dsimp only; replace kW : Keeps w217 wB := kW.trans kB; clear kB)))
  clear kS hW0 hW1 hW2 hW3
  clear ca236 ca237_0 ca237_1 ca237_2 ca237_3 ca237_4 ca237_5 ca238_0 ca238_1 ca238_2 ca238_3 ca238_4 ca238_5
  clear u_0 u_1 u_2 u_3
  have ss239 := kW.size
  replace p0 := p0.keeps kW
  replace p2 := p2.keeps kW
  replace p3 := p3.keeps kW
  replace bx0 := bx0.keeps kW
  replace bx2 := bx2.keeps kW
  replace bx3 := bx3.keeps kW
  replace p_0 := p_0.keeps kW
  replace p_1 := p_1.keeps kW
  replace mk210 := mk210.keeps kW
  replace mk217 := mk217.keeps kW
  replace kw := Keeps.trans kw kW
  have lt240 := bx3.lt
  have sz241 := kw.size
  clear kW
  obtain ⟨wy241, rfl⟩ : ∃ u : World, u = wB := ⟨_, rfl⟩
  obtain ⟨ca242, fa242⟩ := id p0
  have ca243_0 : wy241.cell? ⟨w.heap.size + 1, 0, none⟩ = some (.int .i64 v2) := (p2.2 0 _ rfl).1
  have fa243_0 : wy241.frozen? ⟨w.heap.size + 1, 0, none⟩ = false := (p2.2 0 _ rfl).2
  have ca243_1 : wy241.cell? ⟨w.heap.size + 1, 1, none⟩ = some (.slice A2 n2 c2) := (p2.2 1 _ rfl).1
  have fa243_1 : wy241.frozen? ⟨w.heap.size + 1, 1, none⟩ = false := (p2.2 1 _ rfl).2
  have ca243_2 : wy241.cell? ⟨w.heap.size + 1, 2, none⟩ = some (.int .i64 d2a) := (p2.2 2 _ rfl).1
  have fa243_2 : wy241.frozen? ⟨w.heap.size + 1, 2, none⟩ = false := (p2.2 2 _ rfl).2
  have ca243_3 : wy241.cell? ⟨w.heap.size + 1, 3, none⟩ = some (.int .i64 d2b) := (p2.2 3 _ rfl).1
  have fa243_3 : wy241.frozen? ⟨w.heap.size + 1, 3, none⟩ = false := (p2.2 3 _ rfl).2
  have ca243_4 : wy241.cell? ⟨w.heap.size + 1, 4, none⟩ = some (.int .i64 d2c) := (p2.2 4 _ rfl).1
  have fa243_4 : wy241.frozen? ⟨w.heap.size + 1, 4, none⟩ = false := (p2.2 4 _ rfl).2
  have ca243_5 : wy241.cell? ⟨w.heap.size + 1, 5, none⟩ = some (.int .i64 d2d) := (p2.2 5 _ rfl).1
  have fa243_5 : wy241.frozen? ⟨w.heap.size + 1, 5, none⟩ = false := (p2.2 5 _ rfl).2
  have ca244_0 : wy241.cell? ⟨w.heap.size + 1 + 1, 0, none⟩ = some (.int .i64 v3) := (p3.2 0 _ rfl).1
  have fa244_0 : wy241.frozen? ⟨w.heap.size + 1 + 1, 0, none⟩ = false := (p3.2 0 _ rfl).2
  have ca244_1 : wy241.cell? ⟨w.heap.size + 1 + 1, 1, none⟩ = some (.slice A3 n3 c3) := (p3.2 1 _ rfl).1
  have fa244_1 : wy241.frozen? ⟨w.heap.size + 1 + 1, 1, none⟩ = false := (p3.2 1 _ rfl).2
  have ca244_2 : wy241.cell? ⟨w.heap.size + 1 + 1, 2, none⟩ = some (.int .i64 d3a) := (p3.2 2 _ rfl).1
  have fa244_2 : wy241.frozen? ⟨w.heap.size + 1 + 1, 2, none⟩ = false := (p3.2 2 _ rfl).2
  have ca244_3 : wy241.cell? ⟨w.heap.size + 1 + 1, 3, none⟩ = some (.int .i64 d3b) := (p3.2 3 _ rfl).1
  have fa244_3 : wy241.frozen? ⟨w.heap.size + 1 + 1, 3, none⟩ = false := (p3.2 3 _ rfl).2
  have ca244_4 : wy241.cell? ⟨w.heap.size + 1 + 1, 4, none⟩ = some (.int .i64 d3c) := (p3.2 4 _ rfl).1
  have fa244_4 : wy241.frozen? ⟨w.heap.size + 1 + 1, 4, none⟩ = false := (p3.2 4 _ rfl).2
  have ca244_5 : wy241.cell? ⟨w.heap.size + 1 + 1, 5, none⟩ = some (.int .i64 d3d) := (p3.2 5 _ rfl).1
  have fa244_5 : wy241.frozen? ⟨w.heap.size + 1 + 1, 5, none⟩ = false := (p3.2 5 _ rfl).2
  obtain ⟨ca245, fa245⟩ := id bx0
  have ca246_0 : wy241.cell? ⟨w57.heap.size, 0, none⟩ = some (.int .i64 v2) := (bx2.2 0 _ rfl).1
  have fa246_0 : wy241.frozen? ⟨w57.heap.size, 0, none⟩ = false := (bx2.2 0 _ rfl).2
  have ca246_1 : wy241.cell? ⟨w57.heap.size, 1, none⟩ = some (.slice Bx2 n2 n2) := (bx2.2 1 _ rfl).1
  have fa246_1 : wy241.frozen? ⟨w57.heap.size, 1, none⟩ = false := (bx2.2 1 _ rfl).2
  have ca246_2 : wy241.cell? ⟨w57.heap.size, 2, none⟩ = some (.int .i64 d2a) := (bx2.2 2 _ rfl).1
  have fa246_2 : wy241.frozen? ⟨w57.heap.size, 2, none⟩ = false := (bx2.2 2 _ rfl).2
  have ca246_3 : wy241.cell? ⟨w57.heap.size, 3, none⟩ = some (.int .i64 d2b) := (bx2.2 3 _ rfl).1
  have fa246_3 : wy241.frozen? ⟨w57.heap.size, 3, none⟩ = false := (bx2.2 3 _ rfl).2
  have ca246_4 : wy241.cell? ⟨w57.heap.size, 4, none⟩ = some (.int .i64 d2c) := (bx2.2 4 _ rfl).1
  have fa246_4 : wy241.frozen? ⟨w57.heap.size, 4, none⟩ = false := (bx2.2 4 _ rfl).2
  have ca246_5 : wy241.cell? ⟨w57.heap.size, 5, none⟩ = some (.int .i64 d2d) := (bx2.2 5 _ rfl).1
  have fa246_5 : wy241.frozen? ⟨w57.heap.size, 5, none⟩ = false := (bx2.2 5 _ rfl).2
  have ca247_0 : wy241.cell? ⟨w66.heap.size, 0, none⟩ = some (.int .i64 v3) := (bx3.2 0 _ rfl).1
  have fa247_0 : wy241.frozen? ⟨w66.heap.size, 0, none⟩ = false := (bx3.2 0 _ rfl).2
  have ca247_1 : wy241.cell? ⟨w66.heap.size, 1, none⟩ = some (.slice Bx3 n3 n3) := (bx3.2 1 _ rfl).1
  have fa247_1 : wy241.frozen? ⟨w66.heap.size, 1, none⟩ = false := (bx3.2 1 _ rfl).2
  have ca247_2 : wy241.cell? ⟨w66.heap.size, 2, none⟩ = some (.int .i64 d3a) := (bx3.2 2 _ rfl).1
  have fa247_2 : wy241.frozen? ⟨w66.heap.size, 2, none⟩ = false := (bx3.2 2 _ rfl).2
  have ca247_3 : wy241.cell? ⟨w66.heap.size, 3, none⟩ = some (.int .i64 d3b) := (bx3.2 3 _ rfl).1
  have fa247_3 : wy241.frozen? ⟨w66.heap.size, 3, none⟩ = false := (bx3.2 3 _ rfl).2
  have ca247_4 : wy241.cell? ⟨w66.heap.size, 4, none⟩ = some (.int .i64 d3c) := (bx3.2 4 _ rfl).1
  have fa247_4 : wy241.frozen? ⟨w66.heap.size, 4, none⟩ = false := (bx3.2 4 _ rfl).2
  have ca247_5 : wy241.cell? ⟨w66.heap.size, 5, none⟩ = some (.int .i64 d3d) := (bx3.2 5 _ rfl).1
  have fa247_5 : wy241.frozen? ⟨w66.heap.size, 5, none⟩ = false := (bx3.2 5 _ rfl).2
  go_wp2_with fail
  clear ca242 fa242 ca243_0 fa243_0 ca243_1 fa243_1 ca243_2 fa243_2 ca243_3 fa243_3 ca243_4 fa243_4 ca243_5 fa243_5 ca244_0 fa244_0 ca244_1 fa244_1 ca244_2 fa244_2 ca244_3 fa244_3 ca244_4 fa244_4 ca244_5 fa244_5 ca245 fa245 ca246_0 fa246_0 ca246_1 fa246_1 ca246_2 fa246_2 ca246_3 fa246_3 ca246_4 fa246_4 ca246_5 fa246_5 ca247_0 fa247_0 ca247_1 fa247_1 ca247_2 fa247_2 ca247_3 fa247_3 ca247_4 fa247_4 ca247_5 fa247_5
  refine (eqIntS_true h_0.1 p_0.1).mono ?_
  rintro e w248 ⟨rfl, k248⟩
  replace k248 := Quiet.keeps k248
  have ss249 := k248.size
  replace p0 := p0.keeps k248
  replace p2 := p2.keeps k248
  replace p3 := p3.keeps k248
  replace bx0 := bx0.keeps k248
  replace bx2 := bx2.keeps k248
  replace bx3 := bx3.keeps k248
  replace p_0 := p_0.keeps k248
  replace p_1 := p_1.keeps k248
  replace mk210 := mk210.keeps k248
  replace mk217 := mk217.keeps k248
  replace h_0 := h_0.keeps k248
  replace h_1 := h_1.keeps k248
  replace kw := Keeps.trans kw k248
  have lt250 := bx3.lt
  have sz251 := kw.size
  clear k248
  obtain ⟨ca252, fa252⟩ := id p0
  have ca253_0 : w248.cell? ⟨w.heap.size + 1, 0, none⟩ = some (.int .i64 v2) := (p2.2 0 _ rfl).1
  have fa253_0 : w248.frozen? ⟨w.heap.size + 1, 0, none⟩ = false := (p2.2 0 _ rfl).2
  have ca253_1 : w248.cell? ⟨w.heap.size + 1, 1, none⟩ = some (.slice A2 n2 c2) := (p2.2 1 _ rfl).1
  have fa253_1 : w248.frozen? ⟨w.heap.size + 1, 1, none⟩ = false := (p2.2 1 _ rfl).2
  have ca253_2 : w248.cell? ⟨w.heap.size + 1, 2, none⟩ = some (.int .i64 d2a) := (p2.2 2 _ rfl).1
  have fa253_2 : w248.frozen? ⟨w.heap.size + 1, 2, none⟩ = false := (p2.2 2 _ rfl).2
  have ca253_3 : w248.cell? ⟨w.heap.size + 1, 3, none⟩ = some (.int .i64 d2b) := (p2.2 3 _ rfl).1
  have fa253_3 : w248.frozen? ⟨w.heap.size + 1, 3, none⟩ = false := (p2.2 3 _ rfl).2
  have ca253_4 : w248.cell? ⟨w.heap.size + 1, 4, none⟩ = some (.int .i64 d2c) := (p2.2 4 _ rfl).1
  have fa253_4 : w248.frozen? ⟨w.heap.size + 1, 4, none⟩ = false := (p2.2 4 _ rfl).2
  have ca253_5 : w248.cell? ⟨w.heap.size + 1, 5, none⟩ = some (.int .i64 d2d) := (p2.2 5 _ rfl).1
  have fa253_5 : w248.frozen? ⟨w.heap.size + 1, 5, none⟩ = false := (p2.2 5 _ rfl).2
  have ca254_0 : w248.cell? ⟨w.heap.size + 1 + 1, 0, none⟩ = some (.int .i64 v3) := (p3.2 0 _ rfl).1
  have fa254_0 : w248.frozen? ⟨w.heap.size + 1 + 1, 0, none⟩ = false := (p3.2 0 _ rfl).2
  have ca254_1 : w248.cell? ⟨w.heap.size + 1 + 1, 1, none⟩ = some (.slice A3 n3 c3) := (p3.2 1 _ rfl).1
  have fa254_1 : w248.frozen? ⟨w.heap.size + 1 + 1, 1, none⟩ = false := (p3.2 1 _ rfl).2
  have ca254_2 : w248.cell? ⟨w.heap.size + 1 + 1, 2, none⟩ = some (.int .i64 d3a) := (p3.2 2 _ rfl).1
  have fa254_2 : w248.frozen? ⟨w.heap.size + 1 + 1, 2, none⟩ = false := (p3.2 2 _ rfl).2
  have ca254_3 : w248.cell? ⟨w.heap.size + 1 + 1, 3, none⟩ = some (.int .i64 d3b) := (p3.2 3 _ rfl).1
  have fa254_3 : w248.frozen? ⟨w.heap.size + 1 + 1, 3, none⟩ = false := (p3.2 3 _ rfl).2
  have ca254_4 : w248.cell? ⟨w.heap.size + 1 + 1, 4, none⟩ = some (.int .i64 d3c) := (p3.2 4 _ rfl).1
  have fa254_4 : w248.frozen? ⟨w.heap.size + 1 + 1, 4, none⟩ = false := (p3.2 4 _ rfl).2
  have ca254_5 : w248.cell? ⟨w.heap.size + 1 + 1, 5, none⟩ = some (.int .i64 d3d) := (p3.2 5 _ rfl).1
  have fa254_5 : w248.frozen? ⟨w.heap.size + 1 + 1, 5, none⟩ = false := (p3.2 5 _ rfl).2
  obtain ⟨ca255, fa255⟩ := id bx0
  have ca256_0 : w248.cell? ⟨w57.heap.size, 0, none⟩ = some (.int .i64 v2) := (bx2.2 0 _ rfl).1
  have fa256_0 : w248.frozen? ⟨w57.heap.size, 0, none⟩ = false := (bx2.2 0 _ rfl).2
  have ca256_1 : w248.cell? ⟨w57.heap.size, 1, none⟩ = some (.slice Bx2 n2 n2) := (bx2.2 1 _ rfl).1
  have fa256_1 : w248.frozen? ⟨w57.heap.size, 1, none⟩ = false := (bx2.2 1 _ rfl).2
  have ca256_2 : w248.cell? ⟨w57.heap.size, 2, none⟩ = some (.int .i64 d2a) := (bx2.2 2 _ rfl).1
  have fa256_2 : w248.frozen? ⟨w57.heap.size, 2, none⟩ = false := (bx2.2 2 _ rfl).2
  have ca256_3 : w248.cell? ⟨w57.heap.size, 3, none⟩ = some (.int .i64 d2b) := (bx2.2 3 _ rfl).1
  have fa256_3 : w248.frozen? ⟨w57.heap.size, 3, none⟩ = false := (bx2.2 3 _ rfl).2
  have ca256_4 : w248.cell? ⟨w57.heap.size, 4, none⟩ = some (.int .i64 d2c) := (bx2.2 4 _ rfl).1
  have fa256_4 : w248.frozen? ⟨w57.heap.size, 4, none⟩ = false := (bx2.2 4 _ rfl).2
  have ca256_5 : w248.cell? ⟨w57.heap.size, 5, none⟩ = some (.int .i64 d2d) := (bx2.2 5 _ rfl).1
  have fa256_5 : w248.frozen? ⟨w57.heap.size, 5, none⟩ = false := (bx2.2 5 _ rfl).2
  have ca257_0 : w248.cell? ⟨w66.heap.size, 0, none⟩ = some (.int .i64 v3) := (bx3.2 0 _ rfl).1
  have fa257_0 : w248.frozen? ⟨w66.heap.size, 0, none⟩ = false := (bx3.2 0 _ rfl).2
  have ca257_1 : w248.cell? ⟨w66.heap.size, 1, none⟩ = some (.slice Bx3 n3 n3) := (bx3.2 1 _ rfl).1
  have fa257_1 : w248.frozen? ⟨w66.heap.size, 1, none⟩ = false := (bx3.2 1 _ rfl).2
  have ca257_2 : w248.cell? ⟨w66.heap.size, 2, none⟩ = some (.int .i64 d3a) := (bx3.2 2 _ rfl).1
  have fa257_2 : w248.frozen? ⟨w66.heap.size, 2, none⟩ = false := (bx3.2 2 _ rfl).2
  have ca257_3 : w248.cell? ⟨w66.heap.size, 3, none⟩ = some (.int .i64 d3b) := (bx3.2 3 _ rfl).1
  have fa257_3 : w248.frozen? ⟨w66.heap.size, 3, none⟩ = false := (bx3.2 3 _ rfl).2
  have ca257_4 : w248.cell? ⟨w66.heap.size, 4, none⟩ = some (.int .i64 d3c) := (bx3.2 4 _ rfl).1
  have fa257_4 : w248.frozen? ⟨w66.heap.size, 4, none⟩ = false := (bx3.2 4 _ rfl).2
  have ca257_5 : w248.cell? ⟨w66.heap.size, 5, none⟩ = some (.int .i64 d3d) := (bx3.2 5 _ rfl).1
  have fa257_5 : w248.frozen? ⟨w66.heap.size, 5, none⟩ = false := (bx3.2 5 _ rfl).2
  go_wp2_with fail
  clear ca252 fa252 ca253_0 fa253_0 ca253_1 fa253_1 ca253_2 fa253_2 ca253_3 fa253_3 ca253_4 fa253_4 ca253_5 fa253_5 ca254_0 fa254_0 ca254_1 fa254_1 ca254_2 fa254_2 ca254_3 fa254_3 ca254_4 fa254_4 ca254_5 fa254_5 ca255 fa255 ca256_0 fa256_0 ca256_1 fa256_1 ca256_2 fa256_2 ca256_3 fa256_3 ca256_4 fa256_4 ca256_5 fa256_5 ca257_0 fa257_0 ca257_1 fa257_1 ca257_2 fa257_2 ca257_3 fa257_3 ca257_4 fa257_4 ca257_5 fa257_5
  refine (eqIntS_true h_1.1 p_1.1).mono ?_
  rintro e w258 ⟨rfl, k258⟩
  replace k258 := Quiet.keeps k258
  have ss259 := k258.size
  replace p0 := p0.keeps k258
  replace p2 := p2.keeps k258
  replace p3 := p3.keeps k258
  replace bx0 := bx0.keeps k258
  replace bx2 := bx2.keeps k258
  replace bx3 := bx3.keeps k258
  replace p_0 := p_0.keeps k258
  replace p_1 := p_1.keeps k258
  replace mk210 := mk210.keeps k258
  replace mk217 := mk217.keeps k258
  replace h_0 := h_0.keeps k258
  replace h_1 := h_1.keeps k258
  replace kw := Keeps.trans kw k258
  have lt260 := bx3.lt
  have sz261 := kw.size
  clear k258
  obtain ⟨ca262, fa262⟩ := id p0
  have ca263_0 : w258.cell? ⟨w.heap.size + 1, 0, none⟩ = some (.int .i64 v2) := (p2.2 0 _ rfl).1
  have fa263_0 : w258.frozen? ⟨w.heap.size + 1, 0, none⟩ = false := (p2.2 0 _ rfl).2
  have ca263_1 : w258.cell? ⟨w.heap.size + 1, 1, none⟩ = some (.slice A2 n2 c2) := (p2.2 1 _ rfl).1
  have fa263_1 : w258.frozen? ⟨w.heap.size + 1, 1, none⟩ = false := (p2.2 1 _ rfl).2
  have ca263_2 : w258.cell? ⟨w.heap.size + 1, 2, none⟩ = some (.int .i64 d2a) := (p2.2 2 _ rfl).1
  have fa263_2 : w258.frozen? ⟨w.heap.size + 1, 2, none⟩ = false := (p2.2 2 _ rfl).2
  have ca263_3 : w258.cell? ⟨w.heap.size + 1, 3, none⟩ = some (.int .i64 d2b) := (p2.2 3 _ rfl).1
  have fa263_3 : w258.frozen? ⟨w.heap.size + 1, 3, none⟩ = false := (p2.2 3 _ rfl).2
  have ca263_4 : w258.cell? ⟨w.heap.size + 1, 4, none⟩ = some (.int .i64 d2c) := (p2.2 4 _ rfl).1
  have fa263_4 : w258.frozen? ⟨w.heap.size + 1, 4, none⟩ = false := (p2.2 4 _ rfl).2
  have ca263_5 : w258.cell? ⟨w.heap.size + 1, 5, none⟩ = some (.int .i64 d2d) := (p2.2 5 _ rfl).1
  have fa263_5 : w258.frozen? ⟨w.heap.size + 1, 5, none⟩ = false := (p2.2 5 _ rfl).2
  have ca264_0 : w258.cell? ⟨w.heap.size + 1 + 1, 0, none⟩ = some (.int .i64 v3) := (p3.2 0 _ rfl).1
  have fa264_0 : w258.frozen? ⟨w.heap.size + 1 + 1, 0, none⟩ = false := (p3.2 0 _ rfl).2
  have ca264_1 : w258.cell? ⟨w.heap.size + 1 + 1, 1, none⟩ = some (.slice A3 n3 c3) := (p3.2 1 _ rfl).1
  have fa264_1 : w258.frozen? ⟨w.heap.size + 1 + 1, 1, none⟩ = false := (p3.2 1 _ rfl).2
  have ca264_2 : w258.cell? ⟨w.heap.size + 1 + 1, 2, none⟩ = some (.int .i64 d3a) := (p3.2 2 _ rfl).1
  have fa264_2 : w258.frozen? ⟨w.heap.size + 1 + 1, 2, none⟩ = false := (p3.2 2 _ rfl).2
  have ca264_3 : w258.cell? ⟨w.heap.size + 1 + 1, 3, none⟩ = some (.int .i64 d3b) := (p3.2 3 _ rfl).1
  have fa264_3 : w258.frozen? ⟨w.heap.size + 1 + 1, 3, none⟩ = false := (p3.2 3 _ rfl).2
  have ca264_4 : w258.cell? ⟨w.heap.size + 1 + 1, 4, none⟩ = some (.int .i64 d3c) := (p3.2 4 _ rfl).1
  have fa264_4 : w258.frozen? ⟨w.heap.size + 1 + 1, 4, none⟩ = false := (p3.2 4 _ rfl).2
  have ca264_5 : w258.cell? ⟨w.heap.size + 1 + 1, 5, none⟩ = some (.int .i64 d3d) := (p3.2 5 _ rfl).1
  have fa264_5 : w258.frozen? ⟨w.heap.size + 1 + 1, 5, none⟩ = false := (p3.2 5 _ rfl).2
  obtain ⟨ca265, fa265⟩ := id bx0
  have ca266_0 : w258.cell? ⟨w57.heap.size, 0, none⟩ = some (.int .i64 v2) := (bx2.2 0 _ rfl).1
  have fa266_0 : w258.frozen? ⟨w57.heap.size, 0, none⟩ = false := (bx2.2 0 _ rfl).2
  have ca266_1 : w258.cell? ⟨w57.heap.size, 1, none⟩ = some (.slice Bx2 n2 n2) := (bx2.2 1 _ rfl).1
  have fa266_1 : w258.frozen? ⟨w57.heap.size, 1, none⟩ = false := (bx2.2 1 _ rfl).2
  have ca266_2 : w258.cell? ⟨w57.heap.size, 2, none⟩ = some (.int .i64 d2a) := (bx2.2 2 _ rfl).1
  have fa266_2 : w258.frozen? ⟨w57.heap.size, 2, none⟩ = false := (bx2.2 2 _ rfl).2
  have ca266_3 : w258.cell? ⟨w57.heap.size, 3, none⟩ = some (.int .i64 d2b) := (bx2.2 3 _ rfl).1
  have fa266_3 : w258.frozen? ⟨w57.heap.size, 3, none⟩ = false := (bx2.2 3 _ rfl).2
  have ca266_4 : w258.cell? ⟨w57.heap.size, 4, none⟩ = some (.int .i64 d2c) := (bx2.2 4 _ rfl).1
  have fa266_4 : w258.frozen? ⟨w57.heap.size, 4, none⟩ = false := (bx2.2 4 _ rfl).2
  have ca266_5 : w258.cell? ⟨w57.heap.size, 5, none⟩ = some (.int .i64 d2d) := (bx2.2 5 _ rfl).1
  have fa266_5 : w258.frozen? ⟨w57.heap.size, 5, none⟩ = false := (bx2.2 5 _ rfl).2
  have ca267_0 : w258.cell? ⟨w66.heap.size, 0, none⟩ = some (.int .i64 v3) := (bx3.2 0 _ rfl).1
  have fa267_0 : w258.frozen? ⟨w66.heap.size, 0, none⟩ = false := (bx3.2 0 _ rfl).2
  have ca267_1 : w258.cell? ⟨w66.heap.size, 1, none⟩ = some (.slice Bx3 n3 n3) := (bx3.2 1 _ rfl).1
  have fa267_1 : w258.frozen? ⟨w66.heap.size, 1, none⟩ = false := (bx3.2 1 _ rfl).2
  have ca267_2 : w258.cell? ⟨w66.heap.size, 2, none⟩ = some (.int .i64 d3a) := (bx3.2 2 _ rfl).1
  have fa267_2 : w258.frozen? ⟨w66.heap.size, 2, none⟩ = false := (bx3.2 2 _ rfl).2
  have ca267_3 : w258.cell? ⟨w66.heap.size, 3, none⟩ = some (.int .i64 d3b) := (bx3.2 3 _ rfl).1
  have fa267_3 : w258.frozen? ⟨w66.heap.size, 3, none⟩ = false := (bx3.2 3 _ rfl).2
  have ca267_4 : w258.cell? ⟨w66.heap.size, 4, none⟩ = some (.int .i64 d3c) := (bx3.2 4 _ rfl).1
  have fa267_4 : w258.frozen? ⟨w66.heap.size, 4, none⟩ = false := (bx3.2 4 _ rfl).2
  have ca267_5 : w258.cell? ⟨w66.heap.size, 5, none⟩ = some (.int .i64 d3d) := (bx3.2 5 _ rfl).1
  have fa267_5 : w258.frozen? ⟨w66.heap.size, 5, none⟩ = false := (bx3.2 5 _ rfl).2
  go_wp2_with fail
  clear ca262 fa262 ca263_0 fa263_0 ca263_1 fa263_1 ca263_2 fa263_2 ca263_3 fa263_3 ca263_4 fa263_4 ca263_5 fa263_5 ca264_0 fa264_0 ca264_1 fa264_1 ca264_2 fa264_2 ca264_3 fa264_3 ca264_4 fa264_4 ca264_5 fa264_5 ca265 fa265 ca266_0 fa266_0 ca266_1 fa266_1 ca266_2 fa266_2 ca266_3 fa266_3 ca266_4 fa266_4 ca266_5 fa266_5 ca267_0 fa267_0 ca267_1 fa267_1 ca267_2 fa267_2 ca267_3 fa267_3 ca267_4 fa267_4 ca267_5 fa267_5
  refine (heldIntS_any mk210.1 (by omega) (by omega)).mono ?_
  rintro e w' ⟨rfl, rfl⟩
  obtain ⟨ca268, fa268⟩ := id p0
  have ca269_0 : w258.cell? ⟨w.heap.size + 1, 0, none⟩ = some (.int .i64 v2) := (p2.2 0 _ rfl).1
  have fa269_0 : w258.frozen? ⟨w.heap.size + 1, 0, none⟩ = false := (p2.2 0 _ rfl).2
  have ca269_1 : w258.cell? ⟨w.heap.size + 1, 1, none⟩ = some (.slice A2 n2 c2) := (p2.2 1 _ rfl).1
  have fa269_1 : w258.frozen? ⟨w.heap.size + 1, 1, none⟩ = false := (p2.2 1 _ rfl).2
  have ca269_2 : w258.cell? ⟨w.heap.size + 1, 2, none⟩ = some (.int .i64 d2a) := (p2.2 2 _ rfl).1
  have fa269_2 : w258.frozen? ⟨w.heap.size + 1, 2, none⟩ = false := (p2.2 2 _ rfl).2
  have ca269_3 : w258.cell? ⟨w.heap.size + 1, 3, none⟩ = some (.int .i64 d2b) := (p2.2 3 _ rfl).1
  have fa269_3 : w258.frozen? ⟨w.heap.size + 1, 3, none⟩ = false := (p2.2 3 _ rfl).2
  have ca269_4 : w258.cell? ⟨w.heap.size + 1, 4, none⟩ = some (.int .i64 d2c) := (p2.2 4 _ rfl).1
  have fa269_4 : w258.frozen? ⟨w.heap.size + 1, 4, none⟩ = false := (p2.2 4 _ rfl).2
  have ca269_5 : w258.cell? ⟨w.heap.size + 1, 5, none⟩ = some (.int .i64 d2d) := (p2.2 5 _ rfl).1
  have fa269_5 : w258.frozen? ⟨w.heap.size + 1, 5, none⟩ = false := (p2.2 5 _ rfl).2
  have ca270_0 : w258.cell? ⟨w.heap.size + 1 + 1, 0, none⟩ = some (.int .i64 v3) := (p3.2 0 _ rfl).1
  have fa270_0 : w258.frozen? ⟨w.heap.size + 1 + 1, 0, none⟩ = false := (p3.2 0 _ rfl).2
  have ca270_1 : w258.cell? ⟨w.heap.size + 1 + 1, 1, none⟩ = some (.slice A3 n3 c3) := (p3.2 1 _ rfl).1
  have fa270_1 : w258.frozen? ⟨w.heap.size + 1 + 1, 1, none⟩ = false := (p3.2 1 _ rfl).2
  have ca270_2 : w258.cell? ⟨w.heap.size + 1 + 1, 2, none⟩ = some (.int .i64 d3a) := (p3.2 2 _ rfl).1
  have fa270_2 : w258.frozen? ⟨w.heap.size + 1 + 1, 2, none⟩ = false := (p3.2 2 _ rfl).2
  have ca270_3 : w258.cell? ⟨w.heap.size + 1 + 1, 3, none⟩ = some (.int .i64 d3b) := (p3.2 3 _ rfl).1
  have fa270_3 : w258.frozen? ⟨w.heap.size + 1 + 1, 3, none⟩ = false := (p3.2 3 _ rfl).2
  have ca270_4 : w258.cell? ⟨w.heap.size + 1 + 1, 4, none⟩ = some (.int .i64 d3c) := (p3.2 4 _ rfl).1
  have fa270_4 : w258.frozen? ⟨w.heap.size + 1 + 1, 4, none⟩ = false := (p3.2 4 _ rfl).2
  have ca270_5 : w258.cell? ⟨w.heap.size + 1 + 1, 5, none⟩ = some (.int .i64 d3d) := (p3.2 5 _ rfl).1
  have fa270_5 : w258.frozen? ⟨w.heap.size + 1 + 1, 5, none⟩ = false := (p3.2 5 _ rfl).2
  obtain ⟨ca271, fa271⟩ := id bx0
  have ca272_0 : w258.cell? ⟨w57.heap.size, 0, none⟩ = some (.int .i64 v2) := (bx2.2 0 _ rfl).1
  have fa272_0 : w258.frozen? ⟨w57.heap.size, 0, none⟩ = false := (bx2.2 0 _ rfl).2
  have ca272_1 : w258.cell? ⟨w57.heap.size, 1, none⟩ = some (.slice Bx2 n2 n2) := (bx2.2 1 _ rfl).1
  have fa272_1 : w258.frozen? ⟨w57.heap.size, 1, none⟩ = false := (bx2.2 1 _ rfl).2
  have ca272_2 : w258.cell? ⟨w57.heap.size, 2, none⟩ = some (.int .i64 d2a) := (bx2.2 2 _ rfl).1
  have fa272_2 : w258.frozen? ⟨w57.heap.size, 2, none⟩ = false := (bx2.2 2 _ rfl).2
  have ca272_3 : w258.cell? ⟨w57.heap.size, 3, none⟩ = some (.int .i64 d2b) := (bx2.2 3 _ rfl).1
  have fa272_3 : w258.frozen? ⟨w57.heap.size, 3, none⟩ = false := (bx2.2 3 _ rfl).2
  have ca272_4 : w258.cell? ⟨w57.heap.size, 4, none⟩ = some (.int .i64 d2c) := (bx2.2 4 _ rfl).1
  have fa272_4 : w258.frozen? ⟨w57.heap.size, 4, none⟩ = false := (bx2.2 4 _ rfl).2
  have ca272_5 : w258.cell? ⟨w57.heap.size, 5, none⟩ = some (.int .i64 d2d) := (bx2.2 5 _ rfl).1
  have fa272_5 : w258.frozen? ⟨w57.heap.size, 5, none⟩ = false := (bx2.2 5 _ rfl).2
  have ca273_0 : w258.cell? ⟨w66.heap.size, 0, none⟩ = some (.int .i64 v3) := (bx3.2 0 _ rfl).1
  have fa273_0 : w258.frozen? ⟨w66.heap.size, 0, none⟩ = false := (bx3.2 0 _ rfl).2
  have ca273_1 : w258.cell? ⟨w66.heap.size, 1, none⟩ = some (.slice Bx3 n3 n3) := (bx3.2 1 _ rfl).1
  have fa273_1 : w258.frozen? ⟨w66.heap.size, 1, none⟩ = false := (bx3.2 1 _ rfl).2
  have ca273_2 : w258.cell? ⟨w66.heap.size, 2, none⟩ = some (.int .i64 d3a) := (bx3.2 2 _ rfl).1
  have fa273_2 : w258.frozen? ⟨w66.heap.size, 2, none⟩ = false := (bx3.2 2 _ rfl).2
  have ca273_3 : w258.cell? ⟨w66.heap.size, 3, none⟩ = some (.int .i64 d3b) := (bx3.2 3 _ rfl).1
  have fa273_3 : w258.frozen? ⟨w66.heap.size, 3, none⟩ = false := (bx3.2 3 _ rfl).2
  have ca273_4 : w258.cell? ⟨w66.heap.size, 4, none⟩ = some (.int .i64 d3c) := (bx3.2 4 _ rfl).1
  have fa273_4 : w258.frozen? ⟨w66.heap.size, 4, none⟩ = false := (bx3.2 4 _ rfl).2
  have ca273_5 : w258.cell? ⟨w66.heap.size, 5, none⟩ = some (.int .i64 d3d) := (bx3.2 5 _ rfl).1
  have fa273_5 : w258.frozen? ⟨w66.heap.size, 5, none⟩ = false := (bx3.2 5 _ rfl).2
  go_wp2_with fail
  clear ca268 fa268 ca269_0 fa269_0 ca269_1 fa269_1 ca269_2 fa269_2 ca269_3 fa269_3 ca269_4 fa269_4 ca269_5 fa269_5 ca270_0 fa270_0 ca270_1 fa270_1 ca270_2 fa270_2 ca270_3 fa270_3 ca270_4 fa270_4 ca270_5 fa270_5 ca271 fa271 ca272_0 fa272_0 ca272_1 fa272_1 ca272_2 fa272_2 ca272_3 fa272_3 ca272_4 fa272_4 ca272_5 fa272_5 ca273_0 fa273_0 ca273_1 fa273_1 ca273_2 fa273_2 ca273_3 fa273_3 ca273_4 fa273_4 ca273_5 fa273_5
  refine (heldIntS_any mk217.1 (by omega) (by omega)).mono ?_
  rintro e w' ⟨rfl, rfl⟩
  obtain ⟨ca274, fa274⟩ := id p0
  have ca275_0 : w258.cell? ⟨w.heap.size + 1, 0, none⟩ = some (.int .i64 v2) := (p2.2 0 _ rfl).1
  have fa275_0 : w258.frozen? ⟨w.heap.size + 1, 0, none⟩ = false := (p2.2 0 _ rfl).2
  have ca275_1 : w258.cell? ⟨w.heap.size + 1, 1, none⟩ = some (.slice A2 n2 c2) := (p2.2 1 _ rfl).1
  have fa275_1 : w258.frozen? ⟨w.heap.size + 1, 1, none⟩ = false := (p2.2 1 _ rfl).2
  have ca275_2 : w258.cell? ⟨w.heap.size + 1, 2, none⟩ = some (.int .i64 d2a) := (p2.2 2 _ rfl).1
  have fa275_2 : w258.frozen? ⟨w.heap.size + 1, 2, none⟩ = false := (p2.2 2 _ rfl).2
  have ca275_3 : w258.cell? ⟨w.heap.size + 1, 3, none⟩ = some (.int .i64 d2b) := (p2.2 3 _ rfl).1
  have fa275_3 : w258.frozen? ⟨w.heap.size + 1, 3, none⟩ = false := (p2.2 3 _ rfl).2
  have ca275_4 : w258.cell? ⟨w.heap.size + 1, 4, none⟩ = some (.int .i64 d2c) := (p2.2 4 _ rfl).1
  have fa275_4 : w258.frozen? ⟨w.heap.size + 1, 4, none⟩ = false := (p2.2 4 _ rfl).2
  have ca275_5 : w258.cell? ⟨w.heap.size + 1, 5, none⟩ = some (.int .i64 d2d) := (p2.2 5 _ rfl).1
  have fa275_5 : w258.frozen? ⟨w.heap.size + 1, 5, none⟩ = false := (p2.2 5 _ rfl).2
  have ca276_0 : w258.cell? ⟨w.heap.size + 1 + 1, 0, none⟩ = some (.int .i64 v3) := (p3.2 0 _ rfl).1
  have fa276_0 : w258.frozen? ⟨w.heap.size + 1 + 1, 0, none⟩ = false := (p3.2 0 _ rfl).2
  have ca276_1 : w258.cell? ⟨w.heap.size + 1 + 1, 1, none⟩ = some (.slice A3 n3 c3) := (p3.2 1 _ rfl).1
  have fa276_1 : w258.frozen? ⟨w.heap.size + 1 + 1, 1, none⟩ = false := (p3.2 1 _ rfl).2
  have ca276_2 : w258.cell? ⟨w.heap.size + 1 + 1, 2, none⟩ = some (.int .i64 d3a) := (p3.2 2 _ rfl).1
  have fa276_2 : w258.frozen? ⟨w.heap.size + 1 + 1, 2, none⟩ = false := (p3.2 2 _ rfl).2
  have ca276_3 : w258.cell? ⟨w.heap.size + 1 + 1, 3, none⟩ = some (.int .i64 d3b) := (p3.2 3 _ rfl).1
  have fa276_3 : w258.frozen? ⟨w.heap.size + 1 + 1, 3, none⟩ = false := (p3.2 3 _ rfl).2
  have ca276_4 : w258.cell? ⟨w.heap.size + 1 + 1, 4, none⟩ = some (.int .i64 d3c) := (p3.2 4 _ rfl).1
  have fa276_4 : w258.frozen? ⟨w.heap.size + 1 + 1, 4, none⟩ = false := (p3.2 4 _ rfl).2
  have ca276_5 : w258.cell? ⟨w.heap.size + 1 + 1, 5, none⟩ = some (.int .i64 d3d) := (p3.2 5 _ rfl).1
  have fa276_5 : w258.frozen? ⟨w.heap.size + 1 + 1, 5, none⟩ = false := (p3.2 5 _ rfl).2
  obtain ⟨ca277, fa277⟩ := id bx0
  have ca278_0 : w258.cell? ⟨w57.heap.size, 0, none⟩ = some (.int .i64 v2) := (bx2.2 0 _ rfl).1
  have fa278_0 : w258.frozen? ⟨w57.heap.size, 0, none⟩ = false := (bx2.2 0 _ rfl).2
  have ca278_1 : w258.cell? ⟨w57.heap.size, 1, none⟩ = some (.slice Bx2 n2 n2) := (bx2.2 1 _ rfl).1
  have fa278_1 : w258.frozen? ⟨w57.heap.size, 1, none⟩ = false := (bx2.2 1 _ rfl).2
  have ca278_2 : w258.cell? ⟨w57.heap.size, 2, none⟩ = some (.int .i64 d2a) := (bx2.2 2 _ rfl).1
  have fa278_2 : w258.frozen? ⟨w57.heap.size, 2, none⟩ = false := (bx2.2 2 _ rfl).2
  have ca278_3 : w258.cell? ⟨w57.heap.size, 3, none⟩ = some (.int .i64 d2b) := (bx2.2 3 _ rfl).1
  have fa278_3 : w258.frozen? ⟨w57.heap.size, 3, none⟩ = false := (bx2.2 3 _ rfl).2
  have ca278_4 : w258.cell? ⟨w57.heap.size, 4, none⟩ = some (.int .i64 d2c) := (bx2.2 4 _ rfl).1
  have fa278_4 : w258.frozen? ⟨w57.heap.size, 4, none⟩ = false := (bx2.2 4 _ rfl).2
  have ca278_5 : w258.cell? ⟨w57.heap.size, 5, none⟩ = some (.int .i64 d2d) := (bx2.2 5 _ rfl).1
  have fa278_5 : w258.frozen? ⟨w57.heap.size, 5, none⟩ = false := (bx2.2 5 _ rfl).2
  have ca279_0 : w258.cell? ⟨w66.heap.size, 0, none⟩ = some (.int .i64 v3) := (bx3.2 0 _ rfl).1
  have fa279_0 : w258.frozen? ⟨w66.heap.size, 0, none⟩ = false := (bx3.2 0 _ rfl).2
  have ca279_1 : w258.cell? ⟨w66.heap.size, 1, none⟩ = some (.slice Bx3 n3 n3) := (bx3.2 1 _ rfl).1
  have fa279_1 : w258.frozen? ⟨w66.heap.size, 1, none⟩ = false := (bx3.2 1 _ rfl).2
  have ca279_2 : w258.cell? ⟨w66.heap.size, 2, none⟩ = some (.int .i64 d3a) := (bx3.2 2 _ rfl).1
  have fa279_2 : w258.frozen? ⟨w66.heap.size, 2, none⟩ = false := (bx3.2 2 _ rfl).2
  have ca279_3 : w258.cell? ⟨w66.heap.size, 3, none⟩ = some (.int .i64 d3b) := (bx3.2 3 _ rfl).1
  have fa279_3 : w258.frozen? ⟨w66.heap.size, 3, none⟩ = false := (bx3.2 3 _ rfl).2
  have ca279_4 : w258.cell? ⟨w66.heap.size, 4, none⟩ = some (.int .i64 d3c) := (bx3.2 4 _ rfl).1
  have fa279_4 : w258.frozen? ⟨w66.heap.size, 4, none⟩ = false := (bx3.2 4 _ rfl).2
  have ca279_5 : w258.cell? ⟨w66.heap.size, 5, none⟩ = some (.int .i64 d3d) := (bx3.2 5 _ rfl).1
  have fa279_5 : w258.frozen? ⟨w66.heap.size, 5, none⟩ = false := (bx3.2 5 _ rfl).2
  go_wp2_with fail
  clear ca274 fa274 ca275_0 fa275_0 ca275_1 fa275_1 ca275_2 fa275_2 ca275_3 fa275_3 ca275_4 fa275_4 ca275_5 fa275_5 ca276_0 fa276_0 ca276_1 fa276_1 ca276_2 fa276_2 ca276_3 fa276_3 ca276_4 fa276_4 ca276_5 fa276_5 ca277 fa277 ca278_0 fa278_0 ca278_1 fa278_1 ca278_2 fa278_2 ca278_3 fa278_3 ca278_4 fa278_4 ca278_5 fa278_5 ca279_0 fa279_0 ca279_1 fa279_1 ca279_2 fa279_2 ca279_3 fa279_3 ca279_4 fa279_4 ca279_5 fa279_5
  go_ret
  exact ⟨rfl, kw⟩
end Go.Proofs.Ytellocnplemjmaa
