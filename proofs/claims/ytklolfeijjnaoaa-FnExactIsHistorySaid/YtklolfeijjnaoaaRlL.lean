/- The laws FnExactIsRelease, FnExactIsHistory: the walks. -/
import Derived.Test.YtklolfeijjnaoaaRls
import Derived.Test.YtklolfeijjnaoaaRelH
import Derived.Test.YtklolfeijjnaoaaOpV
import Derived.Test.YtklolfeijjnaoaaKB
import Derived.Deep.RegionHeld3
namespace Go.Proofs.Ytklolfeijjnaoaa
open Go.ChangeShapes Go.WideShapes Go.ChangeAt Go.RowKit
set_option linter.unusedVariables false
set_option linter.unusedSimpArgs false
set_option maxRecDepth 100000 in
set_option maxHeartbeats 6400000 in
theorem FnExactIsRelease_law (A0 : Option Addr) (n0 c0 : Nat) (z0 : List Int) (A1 : Option Addr) (n1 c1 : Nat) (z1 : List VV) (v2 : Int) (A2 : Option Addr) (n2 c2 : Nat) (z2 : List TT) (d2a d2b d2c d2d : Int) (w : World) (wa0 : IntsArg w A0 n0 z0) (wa1 : VarsArg w A1 n1 z1) (wa2 : TabsArg w A2 n2 z2) :
    Calls Try.prog 3 #[.agg #[.slice A0 n0 c0], .slice A1 n1 c1, .agg #[.int .i64 v2, .slice A2 n2 c2, .int .i64 d2a, .int .i64 d2b, .int .i64 d2c, .int .i64 d2d]] w fun e w' => e = .returned (.bool true) ∧ Below w.heap.size w w' := by
  have HNK := hid (show NamesOk z1 from wa1.2.2.1)
  go_enter Try.func3, Try.ntmps3
  have kw := keeps_refl w
  replace kw := Keeps.trans kw (keeps_alloc w (.cells #[.slice A0 n0 c0] 24))
  have p0 : B1 (w.alloc (.cells #[.slice A0 n0 c0] 24)) w.heap.size (.slice A0 n0 c0) := B1.new' (by simp)
  replace p0 := p0.keeps (keeps_alloc (w.alloc (.cells #[.slice A0 n0 c0] 24)) (.cells #[.int .i64 v2, .slice A2 n2 c2, .int .i64 d2a, .int .i64 d2b, .int .i64 d2c, .int .i64 d2d] 32))
  replace kw := Keeps.trans kw (keeps_alloc (w.alloc (.cells #[.slice A0 n0 c0] 24)) (.cells #[.int .i64 v2, .slice A2 n2 c2, .int .i64 d2a, .int .i64 d2b, .int .i64 d2c, .int .i64 d2d] 32))
  have p2 : Bl ((w.alloc (.cells #[.slice A0 n0 c0] 24)).alloc (.cells #[.int .i64 v2, .slice A2 n2 c2, .int .i64 d2a, .int .i64 d2b, .int .i64 d2c, .int .i64 d2d] 32)) (w.heap.size + 1) [.int .i64 v2, .slice A2 n2 c2, .int .i64 d2a, .int .i64 d2b, .int .i64 d2c, .int .i64 d2d] := Bl.new' (by simp) (by simp)
  obtain ⟨ca1, fa1⟩ := id p0
  have ca2_0 : ((w.alloc (.cells #[.slice A0 n0 c0] 24)).alloc (.cells #[.int .i64 v2, .slice A2 n2 c2, .int .i64 d2a, .int .i64 d2b, .int .i64 d2c, .int .i64 d2d] 32)).cell? ⟨w.heap.size + 1, 0, none⟩ = some (.int .i64 v2) := (p2.2 0 _ rfl).1
  have fa2_0 : ((w.alloc (.cells #[.slice A0 n0 c0] 24)).alloc (.cells #[.int .i64 v2, .slice A2 n2 c2, .int .i64 d2a, .int .i64 d2b, .int .i64 d2c, .int .i64 d2d] 32)).frozen? ⟨w.heap.size + 1, 0, none⟩ = false := (p2.2 0 _ rfl).2
  have ca2_1 : ((w.alloc (.cells #[.slice A0 n0 c0] 24)).alloc (.cells #[.int .i64 v2, .slice A2 n2 c2, .int .i64 d2a, .int .i64 d2b, .int .i64 d2c, .int .i64 d2d] 32)).cell? ⟨w.heap.size + 1, 1, none⟩ = some (.slice A2 n2 c2) := (p2.2 1 _ rfl).1
  have fa2_1 : ((w.alloc (.cells #[.slice A0 n0 c0] 24)).alloc (.cells #[.int .i64 v2, .slice A2 n2 c2, .int .i64 d2a, .int .i64 d2b, .int .i64 d2c, .int .i64 d2d] 32)).frozen? ⟨w.heap.size + 1, 1, none⟩ = false := (p2.2 1 _ rfl).2
  have ca2_2 : ((w.alloc (.cells #[.slice A0 n0 c0] 24)).alloc (.cells #[.int .i64 v2, .slice A2 n2 c2, .int .i64 d2a, .int .i64 d2b, .int .i64 d2c, .int .i64 d2d] 32)).cell? ⟨w.heap.size + 1, 2, none⟩ = some (.int .i64 d2a) := (p2.2 2 _ rfl).1
  have fa2_2 : ((w.alloc (.cells #[.slice A0 n0 c0] 24)).alloc (.cells #[.int .i64 v2, .slice A2 n2 c2, .int .i64 d2a, .int .i64 d2b, .int .i64 d2c, .int .i64 d2d] 32)).frozen? ⟨w.heap.size + 1, 2, none⟩ = false := (p2.2 2 _ rfl).2
  have ca2_3 : ((w.alloc (.cells #[.slice A0 n0 c0] 24)).alloc (.cells #[.int .i64 v2, .slice A2 n2 c2, .int .i64 d2a, .int .i64 d2b, .int .i64 d2c, .int .i64 d2d] 32)).cell? ⟨w.heap.size + 1, 3, none⟩ = some (.int .i64 d2b) := (p2.2 3 _ rfl).1
  have fa2_3 : ((w.alloc (.cells #[.slice A0 n0 c0] 24)).alloc (.cells #[.int .i64 v2, .slice A2 n2 c2, .int .i64 d2a, .int .i64 d2b, .int .i64 d2c, .int .i64 d2d] 32)).frozen? ⟨w.heap.size + 1, 3, none⟩ = false := (p2.2 3 _ rfl).2
  have ca2_4 : ((w.alloc (.cells #[.slice A0 n0 c0] 24)).alloc (.cells #[.int .i64 v2, .slice A2 n2 c2, .int .i64 d2a, .int .i64 d2b, .int .i64 d2c, .int .i64 d2d] 32)).cell? ⟨w.heap.size + 1, 4, none⟩ = some (.int .i64 d2c) := (p2.2 4 _ rfl).1
  have fa2_4 : ((w.alloc (.cells #[.slice A0 n0 c0] 24)).alloc (.cells #[.int .i64 v2, .slice A2 n2 c2, .int .i64 d2a, .int .i64 d2b, .int .i64 d2c, .int .i64 d2d] 32)).frozen? ⟨w.heap.size + 1, 4, none⟩ = false := (p2.2 4 _ rfl).2
  have ca2_5 : ((w.alloc (.cells #[.slice A0 n0 c0] 24)).alloc (.cells #[.int .i64 v2, .slice A2 n2 c2, .int .i64 d2a, .int .i64 d2b, .int .i64 d2c, .int .i64 d2d] 32)).cell? ⟨w.heap.size + 1, 5, none⟩ = some (.int .i64 d2d) := (p2.2 5 _ rfl).1
  have fa2_5 : ((w.alloc (.cells #[.slice A0 n0 c0] 24)).alloc (.cells #[.int .i64 v2, .slice A2 n2 c2, .int .i64 d2a, .int .i64 d2b, .int .i64 d2c, .int .i64 d2d] 32)).frozen? ⟨w.heap.size + 1, 5, none⟩ = false := (p2.2 5 _ rfl).2
  go_wp2_with fail
  clear ca1 fa1 ca2_0 fa2_0 ca2_1 fa2_1 ca2_2 fa2_2 ca2_3 fa2_3 ca2_4 fa2_4 ca2_5 fa2_5
  by_cases hs0 : (n0 : Int) ≤ 1048576
  rotate_left
  · have hm0 := wa0.1
    refine (szGeo_no _ _ _ (1048576) _ hm0 (by omega) (by omega) (by omega)).mono ?_
    rintro e w3 ⟨rfl, k3⟩
    have ss4 := k3.size
    simp at ss4
    replace p0 := p0.keeps k3
    replace p2 := p2.keeps k3
    replace kw := Keeps.trans kw k3
    have lt5 := p2.lt
    have sz6 := kw.size
    clear k3
    go_wp2_with fail
    go_ret
    exact ⟨rfl, kw⟩
  have h0 := wa0.ints (by omega)
  refine (szGeo_ok _ _ _ (1048576) _ (by omega) (by omega)).mono ?_
  rintro e w3 ⟨rfl, k3⟩
  have ss4 := k3.size
  simp at ss4
  replace p0 := p0.keeps k3
  replace p2 := p2.keeps k3
  replace kw := Keeps.trans kw k3
  have lt5 := p2.lt
  have sz6 := kw.size
  clear k3
  have tz0 : ¬ (1048576 - (n0 : Int) < 0) := by omega
  obtain ⟨ca7, fa7⟩ := id p0
  have ca8_0 : w3.cell? ⟨w.heap.size + 1, 0, none⟩ = some (.int .i64 v2) := (p2.2 0 _ rfl).1
  have fa8_0 : w3.frozen? ⟨w.heap.size + 1, 0, none⟩ = false := (p2.2 0 _ rfl).2
  have ca8_1 : w3.cell? ⟨w.heap.size + 1, 1, none⟩ = some (.slice A2 n2 c2) := (p2.2 1 _ rfl).1
  have fa8_1 : w3.frozen? ⟨w.heap.size + 1, 1, none⟩ = false := (p2.2 1 _ rfl).2
  have ca8_2 : w3.cell? ⟨w.heap.size + 1, 2, none⟩ = some (.int .i64 d2a) := (p2.2 2 _ rfl).1
  have fa8_2 : w3.frozen? ⟨w.heap.size + 1, 2, none⟩ = false := (p2.2 2 _ rfl).2
  have ca8_3 : w3.cell? ⟨w.heap.size + 1, 3, none⟩ = some (.int .i64 d2b) := (p2.2 3 _ rfl).1
  have fa8_3 : w3.frozen? ⟨w.heap.size + 1, 3, none⟩ = false := (p2.2 3 _ rfl).2
  have ca8_4 : w3.cell? ⟨w.heap.size + 1, 4, none⟩ = some (.int .i64 d2c) := (p2.2 4 _ rfl).1
  have fa8_4 : w3.frozen? ⟨w.heap.size + 1, 4, none⟩ = false := (p2.2 4 _ rfl).2
  have ca8_5 : w3.cell? ⟨w.heap.size + 1, 5, none⟩ = some (.int .i64 d2d) := (p2.2 5 _ rfl).1
  have fa8_5 : w3.frozen? ⟨w.heap.size + 1, 5, none⟩ = false := (p2.2 5 _ rfl).2
  go_wp2_with fail
  clear ca7 fa7 ca8_0 fa8_0 ca8_1 fa8_1 ca8_2 fa8_2 ca8_3 fa8_3 ca8_4 fa8_4 ca8_5 fa8_5
  by_cases hs1 : ((n1 : Int) + vsz z1 n1) ≤ 1048576 - (n0 : Int)
  rotate_left
  · have hm1 := wa1.1
    refine (szVariableS_any (left := 1048576 - (n0 : Int)) (wa1.keeps kw) (by omega) (by omega)).mono ?_
    rintro e w9 ⟨rfl, k9⟩
    rw [szVs_no (left := 1048576 - (n0 : Int)) (n := n1) (l := z1) (by omega)]
    have ss10 := k9.size
    replace p0 := p0.keeps k9
    replace p2 := p2.keeps k9
    replace kw := Keeps.trans kw k9
    have lt11 := p2.lt
    have sz12 := kw.size
    clear k9
    go_wp2_with fail
    go_ret
    exact ⟨rfl, kw⟩
  have h1 := wa1.vars (by omega)
  refine (szVariableS_any (left := 1048576 - (n0 : Int)) (wa1.keeps kw) (by omega) (by omega)).mono ?_
  rintro e w9 ⟨rfl, k9⟩
  rw [szVs_ok (left := 1048576 - (n0 : Int)) (n := n1) (l := z1) (by omega)]
  have ss10 := k9.size
  replace p0 := p0.keeps k9
  replace p2 := p2.keeps k9
  replace kw := Keeps.trans kw k9
  have lt11 := p2.lt
  have sz12 := kw.size
  clear k9
  have tz1 : ¬ (1048576 - (n0 : Int) - ((n1 : Int) + vsz z1 n1) < 0) := by omega
  obtain ⟨ca13, fa13⟩ := id p0
  have ca14_0 : w9.cell? ⟨w.heap.size + 1, 0, none⟩ = some (.int .i64 v2) := (p2.2 0 _ rfl).1
  have fa14_0 : w9.frozen? ⟨w.heap.size + 1, 0, none⟩ = false := (p2.2 0 _ rfl).2
  have ca14_1 : w9.cell? ⟨w.heap.size + 1, 1, none⟩ = some (.slice A2 n2 c2) := (p2.2 1 _ rfl).1
  have fa14_1 : w9.frozen? ⟨w.heap.size + 1, 1, none⟩ = false := (p2.2 1 _ rfl).2
  have ca14_2 : w9.cell? ⟨w.heap.size + 1, 2, none⟩ = some (.int .i64 d2a) := (p2.2 2 _ rfl).1
  have fa14_2 : w9.frozen? ⟨w.heap.size + 1, 2, none⟩ = false := (p2.2 2 _ rfl).2
  have ca14_3 : w9.cell? ⟨w.heap.size + 1, 3, none⟩ = some (.int .i64 d2b) := (p2.2 3 _ rfl).1
  have fa14_3 : w9.frozen? ⟨w.heap.size + 1, 3, none⟩ = false := (p2.2 3 _ rfl).2
  have ca14_4 : w9.cell? ⟨w.heap.size + 1, 4, none⟩ = some (.int .i64 d2c) := (p2.2 4 _ rfl).1
  have fa14_4 : w9.frozen? ⟨w.heap.size + 1, 4, none⟩ = false := (p2.2 4 _ rfl).2
  have ca14_5 : w9.cell? ⟨w.heap.size + 1, 5, none⟩ = some (.int .i64 d2d) := (p2.2 5 _ rfl).1
  have fa14_5 : w9.frozen? ⟨w.heap.size + 1, 5, none⟩ = false := (p2.2 5 _ rfl).2
  go_wp2_with fail
  clear ca13 fa13 ca14_0 fa14_0 ca14_1 fa14_1 ca14_2 fa14_2 ca14_3 fa14_3 ca14_4 fa14_4 ca14_5 fa14_5
  by_cases hs2 : ((n2 + tsz z2 n2 : Nat) : Int) ≤ 1048576 - (n0 : Int) - ((n1 : Int) + vsz z1 n1)
  rotate_left
  · have hm2 := wa2.1
    refine (szRelease_any (left := 1048576 - (n0 : Int) - ((n1 : Int) + vsz z1 n1)) (wa2.keeps kw) (by omega) (by omega)).mono ?_
    rintro e w15 ⟨rfl, k15⟩
    rw [szQ_no (left := 1048576 - (n0 : Int) - ((n1 : Int) + vsz z1 n1)) (s := n2 + tsz z2 n2) hs2]
    have ss16 := k15.size
    replace p0 := p0.keeps k15
    replace p2 := p2.keeps k15
    replace kw := Keeps.trans kw k15
    have lt17 := p2.lt
    have sz18 := kw.size
    clear k15
    go_wp2_with fail
    go_ret
    exact ⟨rfl, kw⟩
  have h2 := wa2.tabs (by omega)
  refine (szRelease_any (left := 1048576 - (n0 : Int) - ((n1 : Int) + vsz z1 n1)) (wa2.keeps kw) (by omega) (by omega)).mono ?_
  rintro e w15 ⟨rfl, k15⟩
  rw [szQ_ok (left := 1048576 - (n0 : Int) - ((n1 : Int) + vsz z1 n1)) (s := n2 + tsz z2 n2) hs2]
  have ss16 := k15.size
  replace p0 := p0.keeps k15
  replace p2 := p2.keeps k15
  replace kw := Keeps.trans kw k15
  have lt17 := p2.lt
  have sz18 := kw.size
  clear k15
  have tz2 : ¬ (1048576 - (n0 : Int) - ((n1 : Int) + vsz z1 n1) - ((n2 + tsz z2 n2 : Nat) : Int) < 0) := by omega
  obtain ⟨ca19, fa19⟩ := id p0
  have ca20_0 : w15.cell? ⟨w.heap.size + 1, 0, none⟩ = some (.int .i64 v2) := (p2.2 0 _ rfl).1
  have fa20_0 : w15.frozen? ⟨w.heap.size + 1, 0, none⟩ = false := (p2.2 0 _ rfl).2
  have ca20_1 : w15.cell? ⟨w.heap.size + 1, 1, none⟩ = some (.slice A2 n2 c2) := (p2.2 1 _ rfl).1
  have fa20_1 : w15.frozen? ⟨w.heap.size + 1, 1, none⟩ = false := (p2.2 1 _ rfl).2
  have ca20_2 : w15.cell? ⟨w.heap.size + 1, 2, none⟩ = some (.int .i64 d2a) := (p2.2 2 _ rfl).1
  have fa20_2 : w15.frozen? ⟨w.heap.size + 1, 2, none⟩ = false := (p2.2 2 _ rfl).2
  have ca20_3 : w15.cell? ⟨w.heap.size + 1, 3, none⟩ = some (.int .i64 d2b) := (p2.2 3 _ rfl).1
  have fa20_3 : w15.frozen? ⟨w.heap.size + 1, 3, none⟩ = false := (p2.2 3 _ rfl).2
  have ca20_4 : w15.cell? ⟨w.heap.size + 1, 4, none⟩ = some (.int .i64 d2c) := (p2.2 4 _ rfl).1
  have fa20_4 : w15.frozen? ⟨w.heap.size + 1, 4, none⟩ = false := (p2.2 4 _ rfl).2
  have ca20_5 : w15.cell? ⟨w.heap.size + 1, 5, none⟩ = some (.int .i64 d2d) := (p2.2 5 _ rfl).1
  have fa20_5 : w15.frozen? ⟨w.heap.size + 1, 5, none⟩ = false := (p2.2 5 _ rfl).2
  go_wp2_with fail
  clear ca19 fa19 ca20_0 fa20_0 ca20_1 fa20_1 ca20_2 fa20_2 ca20_3 fa20_3 ca20_4 fa20_4 ca20_5 fa20_5
  obtain ⟨r0, r1, HR⟩ : ∃ r0 r1, Hid (irQ z0 z1 (v2, z2, d2a, d2b, d2c, d2d) = (r0, r1)) := ⟨_, _, rfl⟩
  obtain ⟨ca21, -⟩ := id p0
  have ca22_0 : w15.cell? ⟨w.heap.size + 1, 0, none⟩ = some (.int .i64 v2) := (p2.2 0 _ rfl).1
  have ca22_1 : w15.cell? ⟨w.heap.size + 1, 1, none⟩ = some (.slice A2 n2 c2) := (p2.2 1 _ rfl).1
  have ca22_2 : w15.cell? ⟨w.heap.size + 1, 2, none⟩ = some (.int .i64 d2a) := (p2.2 2 _ rfl).1
  have ca22_3 : w15.cell? ⟨w.heap.size + 1, 3, none⟩ = some (.int .i64 d2b) := (p2.2 3 _ rfl).1
  have ca22_4 : w15.cell? ⟨w.heap.size + 1, 4, none⟩ = some (.int .i64 d2c) := (p2.2 4 _ rfl).1
  have ca22_5 : w15.cell? ⟨w.heap.size + 1, 5, none⟩ = some (.int .i64 d2d) := (p2.2 5 _ rfl).1
  have kS := hid (show ∀ w', Keeps w15 w' → (w'.cell? ⟨w.heap.size, 0, none⟩ = some (.slice A0 n0 c0) ∧ w'.cell? ⟨w.heap.size + 1, 0, none⟩ = some (.int .i64 v2) ∧ w'.cell? ⟨w.heap.size + 1, 1, none⟩ = some (.slice A2 n2 c2) ∧ w'.cell? ⟨w.heap.size + 1, 2, none⟩ = some (.int .i64 d2a) ∧ w'.cell? ⟨w.heap.size + 1, 3, none⟩ = some (.int .i64 d2b) ∧ w'.cell? ⟨w.heap.size + 1, 4, none⟩ = some (.int .i64 d2c) ∧ w'.cell? ⟨w.heap.size + 1, 5, none⟩ = some (.int .i64 d2d)) from fun w' k => ⟨cell_keeps ca21 k, cell_keeps ca22_0 k, cell_keeps ca22_1 k, cell_keeps ca22_2 k, cell_keeps ca22_3 k, cell_keeps ca22_4 k, cell_keeps ca22_5 k⟩)
  have kW := keeps_d0 w15
  have hW0 := (h0.keeps kw)
  have hW1 := (h1.keeps kw)
  have hW2 := (h2.keeps kw)
  go_region_held3 (fun w' => w'.cell? ⟨w.heap.size, 0, none⟩ = some (.slice A0 n0 c0) ∧ w'.cell? ⟨w.heap.size + 1, 0, none⟩ = some (.int .i64 v2) ∧ w'.cell? ⟨w.heap.size + 1, 1, none⟩ = some (.slice A2 n2 c2) ∧ w'.cell? ⟨w.heap.size + 1, 2, none⟩ = some (.int .i64 d2a) ∧ w'.cell? ⟨w.heap.size + 1, 3, none⟩ = some (.int .i64 d2b) ∧ w'.cell? ⟨w.heap.size + 1, 4, none⟩ = some (.int .i64 d2c) ∧ w'.cell? ⟨w.heap.size + 1, 5, none⟩ = some (.int .i64 d2d)) (first | with_reducible exact kS.out _ (keeps_d0 _) | with_reducible exact kS.out _ kW | go_keep)
    ((first | (go_at_call 17; refine (toGeo_any (hW0.keeps kW)).mono ?_; rintro e wB ⟨By0, rfl, y9, kB⟩; (first | (have y0 := y0.keeps kB) | skip); (first | (have y1 := y1.keeps kB) | skip); (first | (have y2 := y2.keeps kB) | skip); have y0 := y9; clear y9; replace kW : Keeps w15 wB := kW.trans kB; clear kB) | (go_at_call 18; refine (toVariableS_any (hW1.keeps kW)).mono ?_; rintro e wB ⟨By1, rfl, y9, kB⟩; (first | (have y0 := y0.keeps kB) | skip); (first | (have y1 := y1.keeps kB) | skip); (first | (have y2 := y2.keeps kB) | skip); have y1 := y9; clear y9; replace kW : Keeps w15 wB := kW.trans kB; clear kB) | (go_at_call 19; refine (toRelease_any (hW2.keeps kW)).mono ?_; rintro e wB ⟨By2, rfl, y9, kB⟩; (first | (have y0 := y0.keeps kB) | skip); (first | (have y1 := y1.keeps kB) | skip); (first | (have y2 := y2.keeps kB) | skip); have y2 := y9; clear y9; replace kW : Keeps w15 wB := kW.trans kB; clear kB) | (go_at_call 16; refine (specIsRelease_any y0.1 y1.1 HNK.out y2).mono ?_; rintro e wB ⟨rfl, kB⟩; rw [HR.out]; have sW := kW.size; have sB := kB.size; replace kW : Keeps w15 wB := kW.trans kB; clear kB)))
  clear kS hW0 hW1 hW2
  clear ca21 ca22_0 ca22_1 ca22_2 ca22_3 ca22_4 ca22_5
  clear y0 y1 y2
  have ss23 := kW.size
  replace p0 := p0.keeps kW
  replace p2 := p2.keeps kW
  replace kw := Keeps.trans kw kW
  have lt24 := p2.lt
  have sz25 := kw.size
  clear kW
  obtain ⟨wy25, rfl⟩ : ∃ u : World, u = wB := ⟨_, rfl⟩
  obtain ⟨ca26, fa26⟩ := id p0
  have ca27_0 : wy25.cell? ⟨w.heap.size + 1, 0, none⟩ = some (.int .i64 v2) := (p2.2 0 _ rfl).1
  have fa27_0 : wy25.frozen? ⟨w.heap.size + 1, 0, none⟩ = false := (p2.2 0 _ rfl).2
  have ca27_1 : wy25.cell? ⟨w.heap.size + 1, 1, none⟩ = some (.slice A2 n2 c2) := (p2.2 1 _ rfl).1
  have fa27_1 : wy25.frozen? ⟨w.heap.size + 1, 1, none⟩ = false := (p2.2 1 _ rfl).2
  have ca27_2 : wy25.cell? ⟨w.heap.size + 1, 2, none⟩ = some (.int .i64 d2a) := (p2.2 2 _ rfl).1
  have fa27_2 : wy25.frozen? ⟨w.heap.size + 1, 2, none⟩ = false := (p2.2 2 _ rfl).2
  have ca27_3 : wy25.cell? ⟨w.heap.size + 1, 3, none⟩ = some (.int .i64 d2b) := (p2.2 3 _ rfl).1
  have fa27_3 : wy25.frozen? ⟨w.heap.size + 1, 3, none⟩ = false := (p2.2 3 _ rfl).2
  have ca27_4 : wy25.cell? ⟨w.heap.size + 1, 4, none⟩ = some (.int .i64 d2c) := (p2.2 4 _ rfl).1
  have fa27_4 : wy25.frozen? ⟨w.heap.size + 1, 4, none⟩ = false := (p2.2 4 _ rfl).2
  have ca27_5 : wy25.cell? ⟨w.heap.size + 1, 5, none⟩ = some (.int .i64 d2d) := (p2.2 5 _ rfl).1
  have fa27_5 : wy25.frozen? ⟨w.heap.size + 1, 5, none⟩ = false := (p2.2 5 _ rfl).2
  go_wp2_with fail
  clear ca26 fa26 ca27_0 fa27_0 ca27_1 fa27_1 ca27_2 fa27_2 ca27_3 fa27_3 ca27_4 fa27_4 ca27_5 fa27_5
  refine (toGeo_any (h0.keeps kw)).mono ?_
  rintro e w28 ⟨Bx0, rfl, x0, k28⟩
  have ss29 := k28.size
  replace p0 := p0.keeps k28
  replace p2 := p2.keeps k28
  replace kw := Keeps.trans kw k28
  have lt30 := p2.lt
  have sz31 := kw.size
  clear k28
  replace p0 := p0.keeps (keeps_alloc w28 (.cells #[.slice Bx0 n0 n0] 38))
  replace p2 := p2.keeps (keeps_alloc w28 (.cells #[.slice Bx0 n0 n0] 38))
  replace x0 := x0.keeps (keeps_alloc w28 (.cells #[.slice Bx0 n0 n0] 38))
  replace kw := Keeps.trans kw (keeps_alloc w28 (.cells #[.slice Bx0 n0 n0] 38))
  have bx0 : B1 (w28.alloc (.cells #[.slice Bx0 n0 n0] 38)) w28.heap.size (.slice Bx0 n0 n0) := B1.new' (by simp)
  obtain ⟨ca32, fa32⟩ := id p0
  have ca33_0 : (w28.alloc (.cells #[.slice Bx0 n0 n0] 38)).cell? ⟨w.heap.size + 1, 0, none⟩ = some (.int .i64 v2) := (p2.2 0 _ rfl).1
  have fa33_0 : (w28.alloc (.cells #[.slice Bx0 n0 n0] 38)).frozen? ⟨w.heap.size + 1, 0, none⟩ = false := (p2.2 0 _ rfl).2
  have ca33_1 : (w28.alloc (.cells #[.slice Bx0 n0 n0] 38)).cell? ⟨w.heap.size + 1, 1, none⟩ = some (.slice A2 n2 c2) := (p2.2 1 _ rfl).1
  have fa33_1 : (w28.alloc (.cells #[.slice Bx0 n0 n0] 38)).frozen? ⟨w.heap.size + 1, 1, none⟩ = false := (p2.2 1 _ rfl).2
  have ca33_2 : (w28.alloc (.cells #[.slice Bx0 n0 n0] 38)).cell? ⟨w.heap.size + 1, 2, none⟩ = some (.int .i64 d2a) := (p2.2 2 _ rfl).1
  have fa33_2 : (w28.alloc (.cells #[.slice Bx0 n0 n0] 38)).frozen? ⟨w.heap.size + 1, 2, none⟩ = false := (p2.2 2 _ rfl).2
  have ca33_3 : (w28.alloc (.cells #[.slice Bx0 n0 n0] 38)).cell? ⟨w.heap.size + 1, 3, none⟩ = some (.int .i64 d2b) := (p2.2 3 _ rfl).1
  have fa33_3 : (w28.alloc (.cells #[.slice Bx0 n0 n0] 38)).frozen? ⟨w.heap.size + 1, 3, none⟩ = false := (p2.2 3 _ rfl).2
  have ca33_4 : (w28.alloc (.cells #[.slice Bx0 n0 n0] 38)).cell? ⟨w.heap.size + 1, 4, none⟩ = some (.int .i64 d2c) := (p2.2 4 _ rfl).1
  have fa33_4 : (w28.alloc (.cells #[.slice Bx0 n0 n0] 38)).frozen? ⟨w.heap.size + 1, 4, none⟩ = false := (p2.2 4 _ rfl).2
  have ca33_5 : (w28.alloc (.cells #[.slice Bx0 n0 n0] 38)).cell? ⟨w.heap.size + 1, 5, none⟩ = some (.int .i64 d2d) := (p2.2 5 _ rfl).1
  have fa33_5 : (w28.alloc (.cells #[.slice Bx0 n0 n0] 38)).frozen? ⟨w.heap.size + 1, 5, none⟩ = false := (p2.2 5 _ rfl).2
  obtain ⟨ca34, fa34⟩ := id bx0
  go_wp2_with fail
  clear ca32 fa32 ca33_0 fa33_0 ca33_1 fa33_1 ca33_2 fa33_2 ca33_3 fa33_3 ca33_4 fa33_4 ca33_5 fa33_5 ca34 fa34
  refine (toVariableS_any (h1.keeps kw)).mono ?_
  rintro e w35 ⟨Bx1, rfl, x1, k35⟩
  have ss36 := k35.size
  simp at ss36
  replace p0 := p0.keeps k35
  replace p2 := p2.keeps k35
  replace bx0 := bx0.keeps k35
  replace x0 := x0.keeps k35
  replace kw := Keeps.trans kw k35
  have lt37 := bx0.lt
  have sz38 := kw.size
  clear k35
  replace x1 := x1.widen (lo' := w28.heap.size + 1) (by simp) (Nat.le_refl _) (Nat.le_refl _)
  obtain ⟨ca39, fa39⟩ := id p0
  have ca40_0 : w35.cell? ⟨w.heap.size + 1, 0, none⟩ = some (.int .i64 v2) := (p2.2 0 _ rfl).1
  have fa40_0 : w35.frozen? ⟨w.heap.size + 1, 0, none⟩ = false := (p2.2 0 _ rfl).2
  have ca40_1 : w35.cell? ⟨w.heap.size + 1, 1, none⟩ = some (.slice A2 n2 c2) := (p2.2 1 _ rfl).1
  have fa40_1 : w35.frozen? ⟨w.heap.size + 1, 1, none⟩ = false := (p2.2 1 _ rfl).2
  have ca40_2 : w35.cell? ⟨w.heap.size + 1, 2, none⟩ = some (.int .i64 d2a) := (p2.2 2 _ rfl).1
  have fa40_2 : w35.frozen? ⟨w.heap.size + 1, 2, none⟩ = false := (p2.2 2 _ rfl).2
  have ca40_3 : w35.cell? ⟨w.heap.size + 1, 3, none⟩ = some (.int .i64 d2b) := (p2.2 3 _ rfl).1
  have fa40_3 : w35.frozen? ⟨w.heap.size + 1, 3, none⟩ = false := (p2.2 3 _ rfl).2
  have ca40_4 : w35.cell? ⟨w.heap.size + 1, 4, none⟩ = some (.int .i64 d2c) := (p2.2 4 _ rfl).1
  have fa40_4 : w35.frozen? ⟨w.heap.size + 1, 4, none⟩ = false := (p2.2 4 _ rfl).2
  have ca40_5 : w35.cell? ⟨w.heap.size + 1, 5, none⟩ = some (.int .i64 d2d) := (p2.2 5 _ rfl).1
  have fa40_5 : w35.frozen? ⟨w.heap.size + 1, 5, none⟩ = false := (p2.2 5 _ rfl).2
  obtain ⟨ca41, fa41⟩ := id bx0
  go_wp2_with fail
  clear ca39 fa39 ca40_0 fa40_0 ca40_1 fa40_1 ca40_2 fa40_2 ca40_3 fa40_3 ca40_4 fa40_4 ca40_5 fa40_5 ca41 fa41
  refine (toRelease_any (h2.keeps kw)).mono ?_
  rintro e w42 ⟨Bx2, rfl, x2, k42⟩
  have ss43 := k42.size
  replace p0 := p0.keeps k42
  replace p2 := p2.keeps k42
  replace bx0 := bx0.keeps k42
  replace x0 := x0.keeps k42
  replace x1 := x1.keeps k42
  replace kw := Keeps.trans kw k42
  have lt44 := bx0.lt
  have sz45 := kw.size
  clear k42
  replace p0 := p0.keeps (keeps_alloc w42 (.cells #[.int .i64 v2, .slice Bx2 n2 n2, .int .i64 d2a, .int .i64 d2b, .int .i64 d2c, .int .i64 d2d] 47))
  replace p2 := p2.keeps (keeps_alloc w42 (.cells #[.int .i64 v2, .slice Bx2 n2 n2, .int .i64 d2a, .int .i64 d2b, .int .i64 d2c, .int .i64 d2d] 47))
  replace bx0 := bx0.keeps (keeps_alloc w42 (.cells #[.int .i64 v2, .slice Bx2 n2 n2, .int .i64 d2a, .int .i64 d2b, .int .i64 d2c, .int .i64 d2d] 47))
  replace x0 := x0.keeps (keeps_alloc w42 (.cells #[.int .i64 v2, .slice Bx2 n2 n2, .int .i64 d2a, .int .i64 d2b, .int .i64 d2c, .int .i64 d2d] 47))
  replace x1 := x1.keeps (keeps_alloc w42 (.cells #[.int .i64 v2, .slice Bx2 n2 n2, .int .i64 d2a, .int .i64 d2b, .int .i64 d2c, .int .i64 d2d] 47))
  replace x2 := x2.keeps (keeps_alloc w42 (.cells #[.int .i64 v2, .slice Bx2 n2 n2, .int .i64 d2a, .int .i64 d2b, .int .i64 d2c, .int .i64 d2d] 47))
  replace kw := Keeps.trans kw (keeps_alloc w42 (.cells #[.int .i64 v2, .slice Bx2 n2 n2, .int .i64 d2a, .int .i64 d2b, .int .i64 d2c, .int .i64 d2d] 47))
  have bx2 : Bl (w42.alloc (.cells #[.int .i64 v2, .slice Bx2 n2 n2, .int .i64 d2a, .int .i64 d2b, .int .i64 d2c, .int .i64 d2d] 47)) w42.heap.size [.int .i64 v2, .slice Bx2 n2 n2, .int .i64 d2a, .int .i64 d2b, .int .i64 d2c, .int .i64 d2d] := Bl.new' (by simp) (by simp)
  obtain ⟨ca46, fa46⟩ := id p0
  have ca47_0 : (w42.alloc (.cells #[.int .i64 v2, .slice Bx2 n2 n2, .int .i64 d2a, .int .i64 d2b, .int .i64 d2c, .int .i64 d2d] 47)).cell? ⟨w.heap.size + 1, 0, none⟩ = some (.int .i64 v2) := (p2.2 0 _ rfl).1
  have fa47_0 : (w42.alloc (.cells #[.int .i64 v2, .slice Bx2 n2 n2, .int .i64 d2a, .int .i64 d2b, .int .i64 d2c, .int .i64 d2d] 47)).frozen? ⟨w.heap.size + 1, 0, none⟩ = false := (p2.2 0 _ rfl).2
  have ca47_1 : (w42.alloc (.cells #[.int .i64 v2, .slice Bx2 n2 n2, .int .i64 d2a, .int .i64 d2b, .int .i64 d2c, .int .i64 d2d] 47)).cell? ⟨w.heap.size + 1, 1, none⟩ = some (.slice A2 n2 c2) := (p2.2 1 _ rfl).1
  have fa47_1 : (w42.alloc (.cells #[.int .i64 v2, .slice Bx2 n2 n2, .int .i64 d2a, .int .i64 d2b, .int .i64 d2c, .int .i64 d2d] 47)).frozen? ⟨w.heap.size + 1, 1, none⟩ = false := (p2.2 1 _ rfl).2
  have ca47_2 : (w42.alloc (.cells #[.int .i64 v2, .slice Bx2 n2 n2, .int .i64 d2a, .int .i64 d2b, .int .i64 d2c, .int .i64 d2d] 47)).cell? ⟨w.heap.size + 1, 2, none⟩ = some (.int .i64 d2a) := (p2.2 2 _ rfl).1
  have fa47_2 : (w42.alloc (.cells #[.int .i64 v2, .slice Bx2 n2 n2, .int .i64 d2a, .int .i64 d2b, .int .i64 d2c, .int .i64 d2d] 47)).frozen? ⟨w.heap.size + 1, 2, none⟩ = false := (p2.2 2 _ rfl).2
  have ca47_3 : (w42.alloc (.cells #[.int .i64 v2, .slice Bx2 n2 n2, .int .i64 d2a, .int .i64 d2b, .int .i64 d2c, .int .i64 d2d] 47)).cell? ⟨w.heap.size + 1, 3, none⟩ = some (.int .i64 d2b) := (p2.2 3 _ rfl).1
  have fa47_3 : (w42.alloc (.cells #[.int .i64 v2, .slice Bx2 n2 n2, .int .i64 d2a, .int .i64 d2b, .int .i64 d2c, .int .i64 d2d] 47)).frozen? ⟨w.heap.size + 1, 3, none⟩ = false := (p2.2 3 _ rfl).2
  have ca47_4 : (w42.alloc (.cells #[.int .i64 v2, .slice Bx2 n2 n2, .int .i64 d2a, .int .i64 d2b, .int .i64 d2c, .int .i64 d2d] 47)).cell? ⟨w.heap.size + 1, 4, none⟩ = some (.int .i64 d2c) := (p2.2 4 _ rfl).1
  have fa47_4 : (w42.alloc (.cells #[.int .i64 v2, .slice Bx2 n2 n2, .int .i64 d2a, .int .i64 d2b, .int .i64 d2c, .int .i64 d2d] 47)).frozen? ⟨w.heap.size + 1, 4, none⟩ = false := (p2.2 4 _ rfl).2
  have ca47_5 : (w42.alloc (.cells #[.int .i64 v2, .slice Bx2 n2 n2, .int .i64 d2a, .int .i64 d2b, .int .i64 d2c, .int .i64 d2d] 47)).cell? ⟨w.heap.size + 1, 5, none⟩ = some (.int .i64 d2d) := (p2.2 5 _ rfl).1
  have fa47_5 : (w42.alloc (.cells #[.int .i64 v2, .slice Bx2 n2 n2, .int .i64 d2a, .int .i64 d2b, .int .i64 d2c, .int .i64 d2d] 47)).frozen? ⟨w.heap.size + 1, 5, none⟩ = false := (p2.2 5 _ rfl).2
  obtain ⟨ca48, fa48⟩ := id bx0
  have ca49_0 : (w42.alloc (.cells #[.int .i64 v2, .slice Bx2 n2 n2, .int .i64 d2a, .int .i64 d2b, .int .i64 d2c, .int .i64 d2d] 47)).cell? ⟨w42.heap.size, 0, none⟩ = some (.int .i64 v2) := (bx2.2 0 _ rfl).1
  have fa49_0 : (w42.alloc (.cells #[.int .i64 v2, .slice Bx2 n2 n2, .int .i64 d2a, .int .i64 d2b, .int .i64 d2c, .int .i64 d2d] 47)).frozen? ⟨w42.heap.size, 0, none⟩ = false := (bx2.2 0 _ rfl).2
  have ca49_1 : (w42.alloc (.cells #[.int .i64 v2, .slice Bx2 n2 n2, .int .i64 d2a, .int .i64 d2b, .int .i64 d2c, .int .i64 d2d] 47)).cell? ⟨w42.heap.size, 1, none⟩ = some (.slice Bx2 n2 n2) := (bx2.2 1 _ rfl).1
  have fa49_1 : (w42.alloc (.cells #[.int .i64 v2, .slice Bx2 n2 n2, .int .i64 d2a, .int .i64 d2b, .int .i64 d2c, .int .i64 d2d] 47)).frozen? ⟨w42.heap.size, 1, none⟩ = false := (bx2.2 1 _ rfl).2
  have ca49_2 : (w42.alloc (.cells #[.int .i64 v2, .slice Bx2 n2 n2, .int .i64 d2a, .int .i64 d2b, .int .i64 d2c, .int .i64 d2d] 47)).cell? ⟨w42.heap.size, 2, none⟩ = some (.int .i64 d2a) := (bx2.2 2 _ rfl).1
  have fa49_2 : (w42.alloc (.cells #[.int .i64 v2, .slice Bx2 n2 n2, .int .i64 d2a, .int .i64 d2b, .int .i64 d2c, .int .i64 d2d] 47)).frozen? ⟨w42.heap.size, 2, none⟩ = false := (bx2.2 2 _ rfl).2
  have ca49_3 : (w42.alloc (.cells #[.int .i64 v2, .slice Bx2 n2 n2, .int .i64 d2a, .int .i64 d2b, .int .i64 d2c, .int .i64 d2d] 47)).cell? ⟨w42.heap.size, 3, none⟩ = some (.int .i64 d2b) := (bx2.2 3 _ rfl).1
  have fa49_3 : (w42.alloc (.cells #[.int .i64 v2, .slice Bx2 n2 n2, .int .i64 d2a, .int .i64 d2b, .int .i64 d2c, .int .i64 d2d] 47)).frozen? ⟨w42.heap.size, 3, none⟩ = false := (bx2.2 3 _ rfl).2
  have ca49_4 : (w42.alloc (.cells #[.int .i64 v2, .slice Bx2 n2 n2, .int .i64 d2a, .int .i64 d2b, .int .i64 d2c, .int .i64 d2d] 47)).cell? ⟨w42.heap.size, 4, none⟩ = some (.int .i64 d2c) := (bx2.2 4 _ rfl).1
  have fa49_4 : (w42.alloc (.cells #[.int .i64 v2, .slice Bx2 n2 n2, .int .i64 d2a, .int .i64 d2b, .int .i64 d2c, .int .i64 d2d] 47)).frozen? ⟨w42.heap.size, 4, none⟩ = false := (bx2.2 4 _ rfl).2
  have ca49_5 : (w42.alloc (.cells #[.int .i64 v2, .slice Bx2 n2 n2, .int .i64 d2a, .int .i64 d2b, .int .i64 d2c, .int .i64 d2d] 47)).cell? ⟨w42.heap.size, 5, none⟩ = some (.int .i64 d2d) := (bx2.2 5 _ rfl).1
  have fa49_5 : (w42.alloc (.cells #[.int .i64 v2, .slice Bx2 n2 n2, .int .i64 d2a, .int .i64 d2b, .int .i64 d2c, .int .i64 d2d] 47)).frozen? ⟨w42.heap.size, 5, none⟩ = false := (bx2.2 5 _ rfl).2
  go_wp2_with fail
  clear ca46 fa46 ca47_0 fa47_0 ca47_1 fa47_1 ca47_2 fa47_2 ca47_3 fa47_3 ca47_4 fa47_4 ca47_5 fa47_5 ca48 fa48 ca49_0 fa49_0 ca49_1 fa49_1 ca49_2 fa49_2 ca49_3 fa49_3 ca49_4 fa49_4 ca49_5 fa49_5
  refine (implIsRelease_any x0.1 x1.1 HNK.out x2).mono ?_
  rintro e w50 ⟨rfl, k50⟩
  rw [HR.out]
  have ss51 := k50.size
  simp at ss51
  replace p0 := p0.keeps k50
  replace p2 := p2.keeps k50
  replace bx0 := bx0.keeps k50
  replace bx2 := bx2.keeps k50
  replace x0 := x0.keeps k50
  replace x1 := x1.keeps k50
  replace x2 := x2.keeps k50
  replace kw := Keeps.trans kw k50
  have lt52 := bx2.lt
  have sz53 := kw.size
  clear k50
  obtain ⟨ca54, fa54⟩ := id p0
  have ca55_0 : w50.cell? ⟨w.heap.size + 1, 0, none⟩ = some (.int .i64 v2) := (p2.2 0 _ rfl).1
  have fa55_0 : w50.frozen? ⟨w.heap.size + 1, 0, none⟩ = false := (p2.2 0 _ rfl).2
  have ca55_1 : w50.cell? ⟨w.heap.size + 1, 1, none⟩ = some (.slice A2 n2 c2) := (p2.2 1 _ rfl).1
  have fa55_1 : w50.frozen? ⟨w.heap.size + 1, 1, none⟩ = false := (p2.2 1 _ rfl).2
  have ca55_2 : w50.cell? ⟨w.heap.size + 1, 2, none⟩ = some (.int .i64 d2a) := (p2.2 2 _ rfl).1
  have fa55_2 : w50.frozen? ⟨w.heap.size + 1, 2, none⟩ = false := (p2.2 2 _ rfl).2
  have ca55_3 : w50.cell? ⟨w.heap.size + 1, 3, none⟩ = some (.int .i64 d2b) := (p2.2 3 _ rfl).1
  have fa55_3 : w50.frozen? ⟨w.heap.size + 1, 3, none⟩ = false := (p2.2 3 _ rfl).2
  have ca55_4 : w50.cell? ⟨w.heap.size + 1, 4, none⟩ = some (.int .i64 d2c) := (p2.2 4 _ rfl).1
  have fa55_4 : w50.frozen? ⟨w.heap.size + 1, 4, none⟩ = false := (p2.2 4 _ rfl).2
  have ca55_5 : w50.cell? ⟨w.heap.size + 1, 5, none⟩ = some (.int .i64 d2d) := (p2.2 5 _ rfl).1
  have fa55_5 : w50.frozen? ⟨w.heap.size + 1, 5, none⟩ = false := (p2.2 5 _ rfl).2
  obtain ⟨ca56, fa56⟩ := id bx0
  have ca57_0 : w50.cell? ⟨w42.heap.size, 0, none⟩ = some (.int .i64 v2) := (bx2.2 0 _ rfl).1
  have fa57_0 : w50.frozen? ⟨w42.heap.size, 0, none⟩ = false := (bx2.2 0 _ rfl).2
  have ca57_1 : w50.cell? ⟨w42.heap.size, 1, none⟩ = some (.slice Bx2 n2 n2) := (bx2.2 1 _ rfl).1
  have fa57_1 : w50.frozen? ⟨w42.heap.size, 1, none⟩ = false := (bx2.2 1 _ rfl).2
  have ca57_2 : w50.cell? ⟨w42.heap.size, 2, none⟩ = some (.int .i64 d2a) := (bx2.2 2 _ rfl).1
  have fa57_2 : w50.frozen? ⟨w42.heap.size, 2, none⟩ = false := (bx2.2 2 _ rfl).2
  have ca57_3 : w50.cell? ⟨w42.heap.size, 3, none⟩ = some (.int .i64 d2b) := (bx2.2 3 _ rfl).1
  have fa57_3 : w50.frozen? ⟨w42.heap.size, 3, none⟩ = false := (bx2.2 3 _ rfl).2
  have ca57_4 : w50.cell? ⟨w42.heap.size, 4, none⟩ = some (.int .i64 d2c) := (bx2.2 4 _ rfl).1
  have fa57_4 : w50.frozen? ⟨w42.heap.size, 4, none⟩ = false := (bx2.2 4 _ rfl).2
  have ca57_5 : w50.cell? ⟨w42.heap.size, 5, none⟩ = some (.int .i64 d2d) := (bx2.2 5 _ rfl).1
  have fa57_5 : w50.frozen? ⟨w42.heap.size, 5, none⟩ = false := (bx2.2 5 _ rfl).2
  go_wp2_with fail
  clear ca54 fa54 ca55_0 fa55_0 ca55_1 fa55_1 ca55_2 fa55_2 ca55_3 fa55_3 ca55_4 fa55_4 ca55_5 fa55_5 ca56 fa56 ca57_0 fa57_0 ca57_1 fa57_1 ca57_2 fa57_2 ca57_3 fa57_3 ca57_4 fa57_4 ca57_5 fa57_5
  have e0 : (r0 != r0) = false := by simp
  have e1 : (r1 != r1) = false := by simp
  obtain ⟨ca58, -⟩ := id bx0
  obtain ⟨ca59, -⟩ := id p0
  have kS := hid (show ∀ w', Keeps w50 w' → (w'.cell? ⟨w28.heap.size, 0, none⟩ = some (.slice Bx0 n0 n0) ∧ w'.cell? ⟨w.heap.size, 0, none⟩ = some (.slice A0 n0 c0)) from fun w' k => ⟨cell_keeps ca58 k, cell_keeps ca59 k⟩)
  go_region_held3 (fun w' => w'.cell? ⟨w28.heap.size, 0, none⟩ = some (.slice Bx0 n0 n0) ∧ w'.cell? ⟨w.heap.size, 0, none⟩ = some (.slice A0 n0 c0)) (first | exact kS.out _ (keeps_d0 w50) | exact kS.out _ kW | go_keep)
    ((first | (go_at_call 17; refine (toGeo_any (h0.keeps (Keeps.trans kw (keeps_d0 w50)))).mono ?_; rintro e wB60 ⟨Bt60, rfl, t0, kB⟩; have kW : Keeps w50 wB60 := keeps_d kB; clear kB) | (go_at_call 21; refine (eqGeo_true (x0.1.keeps kW) t0.1).mono ?_; rintro e wC60 ⟨rfl, kC⟩; replace kW : Keeps w50 wC60 := kW.trans kC; clear kC)))
  clear kS t0
  clear ca58 ca59
  have ss61 := kW.size
  replace p0 := p0.keeps kW
  replace p2 := p2.keeps kW
  replace bx0 := bx0.keeps kW
  replace bx2 := bx2.keeps kW
  replace x0 := x0.keeps kW
  replace x1 := x1.keeps kW
  replace x2 := x2.keeps kW
  replace kw := Keeps.trans kw kW
  have lt62 := bx2.lt
  have sz63 := kw.size
  clear kW
  obtain ⟨ca64, fa64⟩ := id p0
  have ca65_0 : wC60.cell? ⟨w.heap.size + 1, 0, none⟩ = some (.int .i64 v2) := (p2.2 0 _ rfl).1
  have fa65_0 : wC60.frozen? ⟨w.heap.size + 1, 0, none⟩ = false := (p2.2 0 _ rfl).2
  have ca65_1 : wC60.cell? ⟨w.heap.size + 1, 1, none⟩ = some (.slice A2 n2 c2) := (p2.2 1 _ rfl).1
  have fa65_1 : wC60.frozen? ⟨w.heap.size + 1, 1, none⟩ = false := (p2.2 1 _ rfl).2
  have ca65_2 : wC60.cell? ⟨w.heap.size + 1, 2, none⟩ = some (.int .i64 d2a) := (p2.2 2 _ rfl).1
  have fa65_2 : wC60.frozen? ⟨w.heap.size + 1, 2, none⟩ = false := (p2.2 2 _ rfl).2
  have ca65_3 : wC60.cell? ⟨w.heap.size + 1, 3, none⟩ = some (.int .i64 d2b) := (p2.2 3 _ rfl).1
  have fa65_3 : wC60.frozen? ⟨w.heap.size + 1, 3, none⟩ = false := (p2.2 3 _ rfl).2
  have ca65_4 : wC60.cell? ⟨w.heap.size + 1, 4, none⟩ = some (.int .i64 d2c) := (p2.2 4 _ rfl).1
  have fa65_4 : wC60.frozen? ⟨w.heap.size + 1, 4, none⟩ = false := (p2.2 4 _ rfl).2
  have ca65_5 : wC60.cell? ⟨w.heap.size + 1, 5, none⟩ = some (.int .i64 d2d) := (p2.2 5 _ rfl).1
  have fa65_5 : wC60.frozen? ⟨w.heap.size + 1, 5, none⟩ = false := (p2.2 5 _ rfl).2
  obtain ⟨ca66, fa66⟩ := id bx0
  have ca67_0 : wC60.cell? ⟨w42.heap.size, 0, none⟩ = some (.int .i64 v2) := (bx2.2 0 _ rfl).1
  have fa67_0 : wC60.frozen? ⟨w42.heap.size, 0, none⟩ = false := (bx2.2 0 _ rfl).2
  have ca67_1 : wC60.cell? ⟨w42.heap.size, 1, none⟩ = some (.slice Bx2 n2 n2) := (bx2.2 1 _ rfl).1
  have fa67_1 : wC60.frozen? ⟨w42.heap.size, 1, none⟩ = false := (bx2.2 1 _ rfl).2
  have ca67_2 : wC60.cell? ⟨w42.heap.size, 2, none⟩ = some (.int .i64 d2a) := (bx2.2 2 _ rfl).1
  have fa67_2 : wC60.frozen? ⟨w42.heap.size, 2, none⟩ = false := (bx2.2 2 _ rfl).2
  have ca67_3 : wC60.cell? ⟨w42.heap.size, 3, none⟩ = some (.int .i64 d2b) := (bx2.2 3 _ rfl).1
  have fa67_3 : wC60.frozen? ⟨w42.heap.size, 3, none⟩ = false := (bx2.2 3 _ rfl).2
  have ca67_4 : wC60.cell? ⟨w42.heap.size, 4, none⟩ = some (.int .i64 d2c) := (bx2.2 4 _ rfl).1
  have fa67_4 : wC60.frozen? ⟨w42.heap.size, 4, none⟩ = false := (bx2.2 4 _ rfl).2
  have ca67_5 : wC60.cell? ⟨w42.heap.size, 5, none⟩ = some (.int .i64 d2d) := (bx2.2 5 _ rfl).1
  have fa67_5 : wC60.frozen? ⟨w42.heap.size, 5, none⟩ = false := (bx2.2 5 _ rfl).2
  go_wp2_with fail
  clear ca64 fa64 ca65_0 fa65_0 ca65_1 fa65_1 ca65_2 fa65_2 ca65_3 fa65_3 ca65_4 fa65_4 ca65_5 fa65_5 ca66 fa66 ca67_0 fa67_0 ca67_1 fa67_1 ca67_2 fa67_2 ca67_3 fa67_3 ca67_4 fa67_4 ca67_5 fa67_5
  refine (toVariableS_any (h1.keeps kw)).mono ?_
  rintro e w68 ⟨Bt1, rfl, t1, k68⟩
  have ss69 := k68.size
  replace p0 := p0.keeps k68
  replace p2 := p2.keeps k68
  replace bx0 := bx0.keeps k68
  replace bx2 := bx2.keeps k68
  replace x0 := x0.keeps k68
  replace x1 := x1.keeps k68
  replace x2 := x2.keeps k68
  replace kw := Keeps.trans kw k68
  have lt70 := bx2.lt
  have sz71 := kw.size
  clear k68
  obtain ⟨ca72, fa72⟩ := id p0
  have ca73_0 : w68.cell? ⟨w.heap.size + 1, 0, none⟩ = some (.int .i64 v2) := (p2.2 0 _ rfl).1
  have fa73_0 : w68.frozen? ⟨w.heap.size + 1, 0, none⟩ = false := (p2.2 0 _ rfl).2
  have ca73_1 : w68.cell? ⟨w.heap.size + 1, 1, none⟩ = some (.slice A2 n2 c2) := (p2.2 1 _ rfl).1
  have fa73_1 : w68.frozen? ⟨w.heap.size + 1, 1, none⟩ = false := (p2.2 1 _ rfl).2
  have ca73_2 : w68.cell? ⟨w.heap.size + 1, 2, none⟩ = some (.int .i64 d2a) := (p2.2 2 _ rfl).1
  have fa73_2 : w68.frozen? ⟨w.heap.size + 1, 2, none⟩ = false := (p2.2 2 _ rfl).2
  have ca73_3 : w68.cell? ⟨w.heap.size + 1, 3, none⟩ = some (.int .i64 d2b) := (p2.2 3 _ rfl).1
  have fa73_3 : w68.frozen? ⟨w.heap.size + 1, 3, none⟩ = false := (p2.2 3 _ rfl).2
  have ca73_4 : w68.cell? ⟨w.heap.size + 1, 4, none⟩ = some (.int .i64 d2c) := (p2.2 4 _ rfl).1
  have fa73_4 : w68.frozen? ⟨w.heap.size + 1, 4, none⟩ = false := (p2.2 4 _ rfl).2
  have ca73_5 : w68.cell? ⟨w.heap.size + 1, 5, none⟩ = some (.int .i64 d2d) := (p2.2 5 _ rfl).1
  have fa73_5 : w68.frozen? ⟨w.heap.size + 1, 5, none⟩ = false := (p2.2 5 _ rfl).2
  obtain ⟨ca74, fa74⟩ := id bx0
  have ca75_0 : w68.cell? ⟨w42.heap.size, 0, none⟩ = some (.int .i64 v2) := (bx2.2 0 _ rfl).1
  have fa75_0 : w68.frozen? ⟨w42.heap.size, 0, none⟩ = false := (bx2.2 0 _ rfl).2
  have ca75_1 : w68.cell? ⟨w42.heap.size, 1, none⟩ = some (.slice Bx2 n2 n2) := (bx2.2 1 _ rfl).1
  have fa75_1 : w68.frozen? ⟨w42.heap.size, 1, none⟩ = false := (bx2.2 1 _ rfl).2
  have ca75_2 : w68.cell? ⟨w42.heap.size, 2, none⟩ = some (.int .i64 d2a) := (bx2.2 2 _ rfl).1
  have fa75_2 : w68.frozen? ⟨w42.heap.size, 2, none⟩ = false := (bx2.2 2 _ rfl).2
  have ca75_3 : w68.cell? ⟨w42.heap.size, 3, none⟩ = some (.int .i64 d2b) := (bx2.2 3 _ rfl).1
  have fa75_3 : w68.frozen? ⟨w42.heap.size, 3, none⟩ = false := (bx2.2 3 _ rfl).2
  have ca75_4 : w68.cell? ⟨w42.heap.size, 4, none⟩ = some (.int .i64 d2c) := (bx2.2 4 _ rfl).1
  have fa75_4 : w68.frozen? ⟨w42.heap.size, 4, none⟩ = false := (bx2.2 4 _ rfl).2
  have ca75_5 : w68.cell? ⟨w42.heap.size, 5, none⟩ = some (.int .i64 d2d) := (bx2.2 5 _ rfl).1
  have fa75_5 : w68.frozen? ⟨w42.heap.size, 5, none⟩ = false := (bx2.2 5 _ rfl).2
  go_wp2_with fail
  clear ca72 fa72 ca73_0 fa73_0 ca73_1 fa73_1 ca73_2 fa73_2 ca73_3 fa73_3 ca73_4 fa73_4 ca73_5 fa73_5 ca74 fa74 ca75_0 fa75_0 ca75_1 fa75_1 ca75_2 fa75_2 ca75_3 fa75_3 ca75_4 fa75_4 ca75_5 fa75_5
  refine (eqVariableS_true x1.1 t1.1).mono ?_
  rintro e w76 ⟨rfl, k76⟩
  have ss77 := k76.size
  replace p0 := p0.keeps k76
  replace p2 := p2.keeps k76
  replace bx0 := bx0.keeps k76
  replace bx2 := bx2.keeps k76
  replace x0 := x0.keeps k76
  replace x1 := x1.keeps k76
  replace x2 := x2.keeps k76
  replace t1 := t1.keeps k76
  replace kw := Keeps.trans kw k76
  have lt78 := bx2.lt
  have sz79 := kw.size
  clear k76
  clear t1
  obtain ⟨ca80, fa80⟩ := id p0
  have ca81_0 : w76.cell? ⟨w.heap.size + 1, 0, none⟩ = some (.int .i64 v2) := (p2.2 0 _ rfl).1
  have fa81_0 : w76.frozen? ⟨w.heap.size + 1, 0, none⟩ = false := (p2.2 0 _ rfl).2
  have ca81_1 : w76.cell? ⟨w.heap.size + 1, 1, none⟩ = some (.slice A2 n2 c2) := (p2.2 1 _ rfl).1
  have fa81_1 : w76.frozen? ⟨w.heap.size + 1, 1, none⟩ = false := (p2.2 1 _ rfl).2
  have ca81_2 : w76.cell? ⟨w.heap.size + 1, 2, none⟩ = some (.int .i64 d2a) := (p2.2 2 _ rfl).1
  have fa81_2 : w76.frozen? ⟨w.heap.size + 1, 2, none⟩ = false := (p2.2 2 _ rfl).2
  have ca81_3 : w76.cell? ⟨w.heap.size + 1, 3, none⟩ = some (.int .i64 d2b) := (p2.2 3 _ rfl).1
  have fa81_3 : w76.frozen? ⟨w.heap.size + 1, 3, none⟩ = false := (p2.2 3 _ rfl).2
  have ca81_4 : w76.cell? ⟨w.heap.size + 1, 4, none⟩ = some (.int .i64 d2c) := (p2.2 4 _ rfl).1
  have fa81_4 : w76.frozen? ⟨w.heap.size + 1, 4, none⟩ = false := (p2.2 4 _ rfl).2
  have ca81_5 : w76.cell? ⟨w.heap.size + 1, 5, none⟩ = some (.int .i64 d2d) := (p2.2 5 _ rfl).1
  have fa81_5 : w76.frozen? ⟨w.heap.size + 1, 5, none⟩ = false := (p2.2 5 _ rfl).2
  obtain ⟨ca82, fa82⟩ := id bx0
  have ca83_0 : w76.cell? ⟨w42.heap.size, 0, none⟩ = some (.int .i64 v2) := (bx2.2 0 _ rfl).1
  have fa83_0 : w76.frozen? ⟨w42.heap.size, 0, none⟩ = false := (bx2.2 0 _ rfl).2
  have ca83_1 : w76.cell? ⟨w42.heap.size, 1, none⟩ = some (.slice Bx2 n2 n2) := (bx2.2 1 _ rfl).1
  have fa83_1 : w76.frozen? ⟨w42.heap.size, 1, none⟩ = false := (bx2.2 1 _ rfl).2
  have ca83_2 : w76.cell? ⟨w42.heap.size, 2, none⟩ = some (.int .i64 d2a) := (bx2.2 2 _ rfl).1
  have fa83_2 : w76.frozen? ⟨w42.heap.size, 2, none⟩ = false := (bx2.2 2 _ rfl).2
  have ca83_3 : w76.cell? ⟨w42.heap.size, 3, none⟩ = some (.int .i64 d2b) := (bx2.2 3 _ rfl).1
  have fa83_3 : w76.frozen? ⟨w42.heap.size, 3, none⟩ = false := (bx2.2 3 _ rfl).2
  have ca83_4 : w76.cell? ⟨w42.heap.size, 4, none⟩ = some (.int .i64 d2c) := (bx2.2 4 _ rfl).1
  have fa83_4 : w76.frozen? ⟨w42.heap.size, 4, none⟩ = false := (bx2.2 4 _ rfl).2
  have ca83_5 : w76.cell? ⟨w42.heap.size, 5, none⟩ = some (.int .i64 d2d) := (bx2.2 5 _ rfl).1
  have fa83_5 : w76.frozen? ⟨w42.heap.size, 5, none⟩ = false := (bx2.2 5 _ rfl).2
  go_wp2_with fail
  clear ca80 fa80 ca81_0 fa81_0 ca81_1 fa81_1 ca81_2 fa81_2 ca81_3 fa81_3 ca81_4 fa81_4 ca81_5 fa81_5 ca82 fa82 ca83_0 fa83_0 ca83_1 fa83_1 ca83_2 fa83_2 ca83_3 fa83_3 ca83_4 fa83_4 ca83_5 fa83_5
  have ca84_0 : w76.cell? ⟨w42.heap.size, 0, none⟩ = some (.int .i64 v2) := (bx2.2 0 _ rfl).1
  have ca84_1 : w76.cell? ⟨w42.heap.size, 1, none⟩ = some (.slice Bx2 n2 n2) := (bx2.2 1 _ rfl).1
  have ca84_2 : w76.cell? ⟨w42.heap.size, 2, none⟩ = some (.int .i64 d2a) := (bx2.2 2 _ rfl).1
  have ca84_3 : w76.cell? ⟨w42.heap.size, 3, none⟩ = some (.int .i64 d2b) := (bx2.2 3 _ rfl).1
  have ca84_4 : w76.cell? ⟨w42.heap.size, 4, none⟩ = some (.int .i64 d2c) := (bx2.2 4 _ rfl).1
  have ca84_5 : w76.cell? ⟨w42.heap.size, 5, none⟩ = some (.int .i64 d2d) := (bx2.2 5 _ rfl).1
  have ca85_0 : w76.cell? ⟨w.heap.size + 1, 0, none⟩ = some (.int .i64 v2) := (p2.2 0 _ rfl).1
  have ca85_1 : w76.cell? ⟨w.heap.size + 1, 1, none⟩ = some (.slice A2 n2 c2) := (p2.2 1 _ rfl).1
  have ca85_2 : w76.cell? ⟨w.heap.size + 1, 2, none⟩ = some (.int .i64 d2a) := (p2.2 2 _ rfl).1
  have ca85_3 : w76.cell? ⟨w.heap.size + 1, 3, none⟩ = some (.int .i64 d2b) := (p2.2 3 _ rfl).1
  have ca85_4 : w76.cell? ⟨w.heap.size + 1, 4, none⟩ = some (.int .i64 d2c) := (p2.2 4 _ rfl).1
  have ca85_5 : w76.cell? ⟨w.heap.size + 1, 5, none⟩ = some (.int .i64 d2d) := (p2.2 5 _ rfl).1
  have kS := hid (show ∀ w', Keeps w76 w' → (w'.cell? ⟨w42.heap.size, 0, none⟩ = some (.int .i64 v2) ∧ w'.cell? ⟨w42.heap.size, 1, none⟩ = some (.slice Bx2 n2 n2) ∧ w'.cell? ⟨w42.heap.size, 2, none⟩ = some (.int .i64 d2a) ∧ w'.cell? ⟨w42.heap.size, 3, none⟩ = some (.int .i64 d2b) ∧ w'.cell? ⟨w42.heap.size, 4, none⟩ = some (.int .i64 d2c) ∧ w'.cell? ⟨w42.heap.size, 5, none⟩ = some (.int .i64 d2d) ∧ w'.cell? ⟨w.heap.size + 1, 0, none⟩ = some (.int .i64 v2) ∧ w'.cell? ⟨w.heap.size + 1, 1, none⟩ = some (.slice A2 n2 c2) ∧ w'.cell? ⟨w.heap.size + 1, 2, none⟩ = some (.int .i64 d2a) ∧ w'.cell? ⟨w.heap.size + 1, 3, none⟩ = some (.int .i64 d2b) ∧ w'.cell? ⟨w.heap.size + 1, 4, none⟩ = some (.int .i64 d2c) ∧ w'.cell? ⟨w.heap.size + 1, 5, none⟩ = some (.int .i64 d2d)) from fun w' k => ⟨cell_keeps ca84_0 k, cell_keeps ca84_1 k, cell_keeps ca84_2 k, cell_keeps ca84_3 k, cell_keeps ca84_4 k, cell_keeps ca84_5 k, cell_keeps ca85_0 k, cell_keeps ca85_1 k, cell_keeps ca85_2 k, cell_keeps ca85_3 k, cell_keeps ca85_4 k, cell_keeps ca85_5 k⟩)
  go_region_held3 (fun w' => w'.cell? ⟨w42.heap.size, 0, none⟩ = some (.int .i64 v2) ∧ w'.cell? ⟨w42.heap.size, 1, none⟩ = some (.slice Bx2 n2 n2) ∧ w'.cell? ⟨w42.heap.size, 2, none⟩ = some (.int .i64 d2a) ∧ w'.cell? ⟨w42.heap.size, 3, none⟩ = some (.int .i64 d2b) ∧ w'.cell? ⟨w42.heap.size, 4, none⟩ = some (.int .i64 d2c) ∧ w'.cell? ⟨w42.heap.size, 5, none⟩ = some (.int .i64 d2d) ∧ w'.cell? ⟨w.heap.size + 1, 0, none⟩ = some (.int .i64 v2) ∧ w'.cell? ⟨w.heap.size + 1, 1, none⟩ = some (.slice A2 n2 c2) ∧ w'.cell? ⟨w.heap.size + 1, 2, none⟩ = some (.int .i64 d2a) ∧ w'.cell? ⟨w.heap.size + 1, 3, none⟩ = some (.int .i64 d2b) ∧ w'.cell? ⟨w.heap.size + 1, 4, none⟩ = some (.int .i64 d2c) ∧ w'.cell? ⟨w.heap.size + 1, 5, none⟩ = some (.int .i64 d2d)) (first | exact kS.out _ (keeps_d0 w76) | exact kS.out _ kW | go_keep)
    ((first | (go_at_call 19; refine (toRelease_any (h2.keeps (Keeps.trans kw (keeps_d0 w76)))).mono ?_; rintro e wB86 ⟨Bt86, rfl, t2, kB⟩; have kW : Keeps w76 wB86 := keeps_d kB; clear kB) | (go_at_call 23; refine (eqRelease_true (x2.keeps kW) t2).mono ?_; rintro e wC86 ⟨rfl, kC⟩; replace kW : Keeps w76 wC86 := kW.trans kC; clear kC)))
  clear kS t2
  clear ca84_0 ca84_1 ca84_2 ca84_3 ca84_4 ca84_5 ca85_0 ca85_1 ca85_2 ca85_3 ca85_4 ca85_5
  have ss87 := kW.size
  replace p0 := p0.keeps kW
  replace p2 := p2.keeps kW
  replace bx0 := bx0.keeps kW
  replace bx2 := bx2.keeps kW
  replace x0 := x0.keeps kW
  replace x1 := x1.keeps kW
  replace x2 := x2.keeps kW
  replace kw := Keeps.trans kw kW
  have lt88 := bx2.lt
  have sz89 := kw.size
  clear kW
  obtain ⟨ca90, fa90⟩ := id p0
  have ca91_0 : wC86.cell? ⟨w.heap.size + 1, 0, none⟩ = some (.int .i64 v2) := (p2.2 0 _ rfl).1
  have fa91_0 : wC86.frozen? ⟨w.heap.size + 1, 0, none⟩ = false := (p2.2 0 _ rfl).2
  have ca91_1 : wC86.cell? ⟨w.heap.size + 1, 1, none⟩ = some (.slice A2 n2 c2) := (p2.2 1 _ rfl).1
  have fa91_1 : wC86.frozen? ⟨w.heap.size + 1, 1, none⟩ = false := (p2.2 1 _ rfl).2
  have ca91_2 : wC86.cell? ⟨w.heap.size + 1, 2, none⟩ = some (.int .i64 d2a) := (p2.2 2 _ rfl).1
  have fa91_2 : wC86.frozen? ⟨w.heap.size + 1, 2, none⟩ = false := (p2.2 2 _ rfl).2
  have ca91_3 : wC86.cell? ⟨w.heap.size + 1, 3, none⟩ = some (.int .i64 d2b) := (p2.2 3 _ rfl).1
  have fa91_3 : wC86.frozen? ⟨w.heap.size + 1, 3, none⟩ = false := (p2.2 3 _ rfl).2
  have ca91_4 : wC86.cell? ⟨w.heap.size + 1, 4, none⟩ = some (.int .i64 d2c) := (p2.2 4 _ rfl).1
  have fa91_4 : wC86.frozen? ⟨w.heap.size + 1, 4, none⟩ = false := (p2.2 4 _ rfl).2
  have ca91_5 : wC86.cell? ⟨w.heap.size + 1, 5, none⟩ = some (.int .i64 d2d) := (p2.2 5 _ rfl).1
  have fa91_5 : wC86.frozen? ⟨w.heap.size + 1, 5, none⟩ = false := (p2.2 5 _ rfl).2
  obtain ⟨ca92, fa92⟩ := id bx0
  have ca93_0 : wC86.cell? ⟨w42.heap.size, 0, none⟩ = some (.int .i64 v2) := (bx2.2 0 _ rfl).1
  have fa93_0 : wC86.frozen? ⟨w42.heap.size, 0, none⟩ = false := (bx2.2 0 _ rfl).2
  have ca93_1 : wC86.cell? ⟨w42.heap.size, 1, none⟩ = some (.slice Bx2 n2 n2) := (bx2.2 1 _ rfl).1
  have fa93_1 : wC86.frozen? ⟨w42.heap.size, 1, none⟩ = false := (bx2.2 1 _ rfl).2
  have ca93_2 : wC86.cell? ⟨w42.heap.size, 2, none⟩ = some (.int .i64 d2a) := (bx2.2 2 _ rfl).1
  have fa93_2 : wC86.frozen? ⟨w42.heap.size, 2, none⟩ = false := (bx2.2 2 _ rfl).2
  have ca93_3 : wC86.cell? ⟨w42.heap.size, 3, none⟩ = some (.int .i64 d2b) := (bx2.2 3 _ rfl).1
  have fa93_3 : wC86.frozen? ⟨w42.heap.size, 3, none⟩ = false := (bx2.2 3 _ rfl).2
  have ca93_4 : wC86.cell? ⟨w42.heap.size, 4, none⟩ = some (.int .i64 d2c) := (bx2.2 4 _ rfl).1
  have fa93_4 : wC86.frozen? ⟨w42.heap.size, 4, none⟩ = false := (bx2.2 4 _ rfl).2
  have ca93_5 : wC86.cell? ⟨w42.heap.size, 5, none⟩ = some (.int .i64 d2d) := (bx2.2 5 _ rfl).1
  have fa93_5 : wC86.frozen? ⟨w42.heap.size, 5, none⟩ = false := (bx2.2 5 _ rfl).2
  go_wp2_with fail
  clear ca90 fa90 ca91_0 fa91_0 ca91_1 fa91_1 ca91_2 fa91_2 ca91_3 fa91_3 ca91_4 fa91_4 ca91_5 fa91_5 ca92 fa92 ca93_0 fa93_0 ca93_1 fa93_1 ca93_2 fa93_2 ca93_3 fa93_3 ca93_4 fa93_4 ca93_5 fa93_5
  go_ret
  exact ⟨rfl, kw⟩
set_option maxRecDepth 100000 in
set_option maxHeartbeats 6400000 in
theorem FnExactIsHistory_law (A0 : Option Addr) (n0 c0 : Nat) (z0 : List Int) (A1 : Option Addr) (n1 c1 : Nat) (z1 : List VV) (A2 : Option Addr) (n2 c2 : Nat) (z2 : List RL) (w : World) (wa0 : IntsArg w A0 n0 z0) (wa1 : VarsArg w A1 n1 z1) (wa2 : RelsArg w A2 n2 z2) :
    Calls Try.prog 4 #[.agg #[.slice A0 n0 c0], .slice A1 n1 c1, .slice A2 n2 c2] w fun e w' => e = .returned (.bool true) ∧ Below w.heap.size w w' := by
  have HNK := hid (show NamesOk z1 from wa1.2.2.1)
  go_enter Try.func4, Try.ntmps4
  have kw := keeps_refl w
  replace kw := Keeps.trans kw (keeps_alloc w (.cells #[.slice A0 n0 c0] 24))
  have p0 : B1 (w.alloc (.cells #[.slice A0 n0 c0] 24)) w.heap.size (.slice A0 n0 c0) := B1.new' (by simp)
  obtain ⟨ca1, fa1⟩ := id p0
  go_wp2_with fail
  clear ca1 fa1
  by_cases hs0 : (n0 : Int) ≤ 1048576
  rotate_left
  · have hm0 := wa0.1
    refine (szGeo_no _ _ _ (1048576) _ hm0 (by omega) (by omega) (by omega)).mono ?_
    rintro e w2 ⟨rfl, k2⟩
    have ss3 := k2.size
    simp at ss3
    replace p0 := p0.keeps k2
    replace kw := Keeps.trans kw k2
    have lt4 := p0.lt
    have sz5 := kw.size
    clear k2
    go_wp2_with fail
    go_ret
    exact ⟨rfl, kw⟩
  have h0 := wa0.ints (by omega)
  refine (szGeo_ok _ _ _ (1048576) _ (by omega) (by omega)).mono ?_
  rintro e w2 ⟨rfl, k2⟩
  have ss3 := k2.size
  simp at ss3
  replace p0 := p0.keeps k2
  replace kw := Keeps.trans kw k2
  have lt4 := p0.lt
  have sz5 := kw.size
  clear k2
  have tz0 : ¬ (1048576 - (n0 : Int) < 0) := by omega
  obtain ⟨ca6, fa6⟩ := id p0
  go_wp2_with fail
  clear ca6 fa6
  by_cases hs1 : ((n1 : Int) + vsz z1 n1) ≤ 1048576 - (n0 : Int)
  rotate_left
  · have hm1 := wa1.1
    refine (szVariableS_any (left := 1048576 - (n0 : Int)) (wa1.keeps kw) (by omega) (by omega)).mono ?_
    rintro e w7 ⟨rfl, k7⟩
    rw [szVs_no (left := 1048576 - (n0 : Int)) (n := n1) (l := z1) (by omega)]
    have ss8 := k7.size
    replace p0 := p0.keeps k7
    replace kw := Keeps.trans kw k7
    have lt9 := p0.lt
    have sz10 := kw.size
    clear k7
    go_wp2_with fail
    go_ret
    exact ⟨rfl, kw⟩
  have h1 := wa1.vars (by omega)
  refine (szVariableS_any (left := 1048576 - (n0 : Int)) (wa1.keeps kw) (by omega) (by omega)).mono ?_
  rintro e w7 ⟨rfl, k7⟩
  rw [szVs_ok (left := 1048576 - (n0 : Int)) (n := n1) (l := z1) (by omega)]
  have ss8 := k7.size
  replace p0 := p0.keeps k7
  replace kw := Keeps.trans kw k7
  have lt9 := p0.lt
  have sz10 := kw.size
  clear k7
  have tz1 : ¬ (1048576 - (n0 : Int) - ((n1 : Int) + vsz z1 n1) < 0) := by omega
  obtain ⟨ca11, fa11⟩ := id p0
  go_wp2_with fail
  clear ca11 fa11
  by_cases hs2 : ((n2 + rlsz z2 n2 : Nat) : Int) ≤ 1048576 - (n0 : Int) - ((n1 : Int) + vsz z1 n1)
  rotate_left
  · have hm2 := wa2.1
    refine (szReleaseS_any (left := 1048576 - (n0 : Int) - ((n1 : Int) + vsz z1 n1)) (wa2.keeps kw) (by omega) (by omega)).mono ?_
    rintro e w12 ⟨rfl, k12⟩
    rw [szQ_no (left := 1048576 - (n0 : Int) - ((n1 : Int) + vsz z1 n1)) (s := n2 + rlsz z2 n2) hs2]
    have ss13 := k12.size
    replace p0 := p0.keeps k12
    replace kw := Keeps.trans kw k12
    have lt14 := p0.lt
    have sz15 := kw.size
    clear k12
    go_wp2_with fail
    go_ret
    exact ⟨rfl, kw⟩
  have h2 := wa2.rels (by omega)
  refine (szReleaseS_any (left := 1048576 - (n0 : Int) - ((n1 : Int) + vsz z1 n1)) (wa2.keeps kw) (by omega) (by omega)).mono ?_
  rintro e w12 ⟨rfl, k12⟩
  rw [szQ_ok (left := 1048576 - (n0 : Int) - ((n1 : Int) + vsz z1 n1)) (s := n2 + rlsz z2 n2) hs2]
  have ss13 := k12.size
  replace p0 := p0.keeps k12
  replace kw := Keeps.trans kw k12
  have lt14 := p0.lt
  have sz15 := kw.size
  clear k12
  have tz2 : ¬ (1048576 - (n0 : Int) - ((n1 : Int) + vsz z1 n1) - ((n2 + rlsz z2 n2 : Nat) : Int) < 0) := by omega
  obtain ⟨ca16, fa16⟩ := id p0
  go_wp2_with fail
  clear ca16 fa16
  obtain ⟨r0, r1, HR⟩ : ∃ r0 r1, Hid (ihQ z0 z1 z2 = (r0, r1)) := ⟨_, _, rfl⟩
  refine (toGeo_any (h0.keeps kw)).mono ?_
  rintro e w17 ⟨By0, rfl, y0, k17⟩
  have ss18 := k17.size
  replace p0 := p0.keeps k17
  replace kw := Keeps.trans kw k17
  have lt19 := p0.lt
  have sz20 := kw.size
  clear k17
  obtain ⟨ca21, fa21⟩ := id p0
  go_wp2_with fail
  clear ca21 fa21
  refine (toVariableS_any (h1.keeps kw)).mono ?_
  rintro e w22 ⟨By1, rfl, y1, k22⟩
  have ss23 := k22.size
  replace p0 := p0.keeps k22
  replace y0 := y0.keeps k22
  replace kw := Keeps.trans kw k22
  have lt24 := p0.lt
  have sz25 := kw.size
  clear k22
  obtain ⟨ca26, fa26⟩ := id p0
  go_wp2_with fail
  clear ca26 fa26
  refine (toReleaseS_any (h2.keeps kw)).mono ?_
  rintro e w27 ⟨By2, rfl, y2, k27⟩
  have ss28 := k27.size
  replace p0 := p0.keeps k27
  replace y0 := y0.keeps k27
  replace y1 := y1.keeps k27
  replace kw := Keeps.trans kw k27
  have lt29 := p0.lt
  have sz30 := kw.size
  clear k27
  obtain ⟨ca31, fa31⟩ := id p0
  go_wp2_with fail
  clear ca31 fa31
  refine (specIsHistory_any y0.1 y1.1 HNK.out y2).mono ?_
  rintro e w32 ⟨rfl, k32⟩
  rw [HR.out]
  have ss33 := k32.size
  replace p0 := p0.keeps k32
  replace y0 := y0.keeps k32
  replace y1 := y1.keeps k32
  replace y2 := y2.keeps k32
  replace kw := Keeps.trans kw k32
  have lt34 := p0.lt
  have sz35 := kw.size
  clear k32
  clear y0
  clear y1
  clear y2
  obtain ⟨ca36, fa36⟩ := id p0
  go_wp2_with fail
  clear ca36 fa36
  refine (toGeo_any (h0.keeps kw)).mono ?_
  rintro e w37 ⟨Bx0, rfl, x0, k37⟩
  have ss38 := k37.size
  replace p0 := p0.keeps k37
  replace kw := Keeps.trans kw k37
  have lt39 := p0.lt
  have sz40 := kw.size
  clear k37
  replace p0 := p0.keeps (keeps_alloc w37 (.cells #[.slice Bx0 n0 n0] 38))
  replace x0 := x0.keeps (keeps_alloc w37 (.cells #[.slice Bx0 n0 n0] 38))
  replace kw := Keeps.trans kw (keeps_alloc w37 (.cells #[.slice Bx0 n0 n0] 38))
  have bx0 : B1 (w37.alloc (.cells #[.slice Bx0 n0 n0] 38)) w37.heap.size (.slice Bx0 n0 n0) := B1.new' (by simp)
  obtain ⟨ca41, fa41⟩ := id p0
  obtain ⟨ca42, fa42⟩ := id bx0
  go_wp2_with fail
  clear ca41 fa41 ca42 fa42
  refine (toVariableS_any (h1.keeps kw)).mono ?_
  rintro e w43 ⟨Bx1, rfl, x1, k43⟩
  have ss44 := k43.size
  simp at ss44
  replace p0 := p0.keeps k43
  replace bx0 := bx0.keeps k43
  replace x0 := x0.keeps k43
  replace kw := Keeps.trans kw k43
  have lt45 := bx0.lt
  have sz46 := kw.size
  clear k43
  replace x1 := x1.widen (lo' := w37.heap.size + 1) (by simp) (Nat.le_refl _) (Nat.le_refl _)
  obtain ⟨ca47, fa47⟩ := id p0
  obtain ⟨ca48, fa48⟩ := id bx0
  go_wp2_with fail
  clear ca47 fa47 ca48 fa48
  refine (toReleaseS_any (h2.keeps kw)).mono ?_
  rintro e w49 ⟨Bx2, rfl, x2, k49⟩
  have ss50 := k49.size
  replace p0 := p0.keeps k49
  replace bx0 := bx0.keeps k49
  replace x0 := x0.keeps k49
  replace x1 := x1.keeps k49
  replace kw := Keeps.trans kw k49
  have lt51 := bx0.lt
  have sz52 := kw.size
  clear k49
  obtain ⟨ca53, fa53⟩ := id p0
  obtain ⟨ca54, fa54⟩ := id bx0
  go_wp2_with fail
  clear ca53 fa53 ca54 fa54
  refine (implIsHistory_any x0.1 x1.1 HNK.out x2).mono ?_
  rintro e w55 ⟨rfl, k55⟩
  rw [HR.out]
  have ss56 := k55.size
  replace p0 := p0.keeps k55
  replace bx0 := bx0.keeps k55
  replace x0 := x0.keeps k55
  replace x1 := x1.keeps k55
  replace x2 := x2.keeps k55
  replace kw := Keeps.trans kw k55
  have lt57 := bx0.lt
  have sz58 := kw.size
  clear k55
  obtain ⟨ca59, fa59⟩ := id p0
  obtain ⟨ca60, fa60⟩ := id bx0
  go_wp2_with fail
  clear ca59 fa59 ca60 fa60
  have e0 : (r0 != r0) = false := by simp
  have e1 : (r1 != r1) = false := by simp
  obtain ⟨ca61, -⟩ := id bx0
  obtain ⟨ca62, -⟩ := id p0
  have kS := hid (show ∀ w', Keeps w55 w' → (w'.cell? ⟨w37.heap.size, 0, none⟩ = some (.slice Bx0 n0 n0) ∧ w'.cell? ⟨w.heap.size, 0, none⟩ = some (.slice A0 n0 c0)) from fun w' k => ⟨cell_keeps ca61 k, cell_keeps ca62 k⟩)
  go_region_held3 (fun w' => w'.cell? ⟨w37.heap.size, 0, none⟩ = some (.slice Bx0 n0 n0) ∧ w'.cell? ⟨w.heap.size, 0, none⟩ = some (.slice A0 n0 c0)) (first | exact kS.out _ (keeps_d0 w55) | exact kS.out _ kW | go_keep)
    ((first | (go_at_call 17; refine (toGeo_any (h0.keeps (Keeps.trans kw (keeps_d0 w55)))).mono ?_; rintro e wB63 ⟨Bt63, rfl, t0, kB⟩; have kW : Keeps w55 wB63 := keeps_d kB; clear kB) | (go_at_call 21; refine (eqGeo_true (x0.1.keeps kW) t0.1).mono ?_; rintro e wC63 ⟨rfl, kC⟩; replace kW : Keeps w55 wC63 := kW.trans kC; clear kC)))
  clear kS t0
  clear ca61 ca62
  have ss64 := kW.size
  replace p0 := p0.keeps kW
  replace bx0 := bx0.keeps kW
  replace x0 := x0.keeps kW
  replace x1 := x1.keeps kW
  replace x2 := x2.keeps kW
  replace kw := Keeps.trans kw kW
  have lt65 := bx0.lt
  have sz66 := kw.size
  clear kW
  obtain ⟨ca67, fa67⟩ := id p0
  obtain ⟨ca68, fa68⟩ := id bx0
  go_wp2_with fail
  clear ca67 fa67 ca68 fa68
  refine (toVariableS_any (h1.keeps kw)).mono ?_
  rintro e w69 ⟨Bt1, rfl, t1, k69⟩
  have ss70 := k69.size
  replace p0 := p0.keeps k69
  replace bx0 := bx0.keeps k69
  replace x0 := x0.keeps k69
  replace x1 := x1.keeps k69
  replace x2 := x2.keeps k69
  replace kw := Keeps.trans kw k69
  have lt71 := bx0.lt
  have sz72 := kw.size
  clear k69
  obtain ⟨ca73, fa73⟩ := id p0
  obtain ⟨ca74, fa74⟩ := id bx0
  go_wp2_with fail
  clear ca73 fa73 ca74 fa74
  refine (eqVariableS_true x1.1 t1.1).mono ?_
  rintro e w75 ⟨rfl, k75⟩
  have ss76 := k75.size
  replace p0 := p0.keeps k75
  replace bx0 := bx0.keeps k75
  replace x0 := x0.keeps k75
  replace x1 := x1.keeps k75
  replace x2 := x2.keeps k75
  replace t1 := t1.keeps k75
  replace kw := Keeps.trans kw k75
  have lt77 := bx0.lt
  have sz78 := kw.size
  clear k75
  clear t1
  obtain ⟨ca79, fa79⟩ := id p0
  obtain ⟨ca80, fa80⟩ := id bx0
  go_wp2_with fail
  clear ca79 fa79 ca80 fa80
  refine (toReleaseS_any (h2.keeps kw)).mono ?_
  rintro e w81 ⟨Bt2, rfl, t2, k81⟩
  have ss82 := k81.size
  replace p0 := p0.keeps k81
  replace bx0 := bx0.keeps k81
  replace x0 := x0.keeps k81
  replace x1 := x1.keeps k81
  replace x2 := x2.keeps k81
  replace kw := Keeps.trans kw k81
  have lt83 := bx0.lt
  have sz84 := kw.size
  clear k81
  obtain ⟨ca85, fa85⟩ := id p0
  obtain ⟨ca86, fa86⟩ := id bx0
  go_wp2_with fail
  clear ca85 fa85 ca86 fa86
  refine (eqReleaseS_true x2 t2).mono ?_
  rintro e w87 ⟨rfl, k87⟩
  have ss88 := k87.size
  replace p0 := p0.keeps k87
  replace bx0 := bx0.keeps k87
  replace x0 := x0.keeps k87
  replace x1 := x1.keeps k87
  replace x2 := x2.keeps k87
  replace t2 := t2.keeps k87
  replace kw := Keeps.trans kw k87
  have lt89 := bx0.lt
  have sz90 := kw.size
  clear k87
  clear t2
  obtain ⟨ca91, fa91⟩ := id p0
  obtain ⟨ca92, fa92⟩ := id bx0
  go_wp2_with fail
  clear ca91 fa91 ca92 fa92
  go_ret
  exact ⟨rfl, kw⟩
end Go.Proofs.Ytklolfeijjnaoaa
