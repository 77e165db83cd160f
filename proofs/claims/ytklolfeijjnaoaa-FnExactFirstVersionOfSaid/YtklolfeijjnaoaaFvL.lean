/- The laws FnExactFirstVersionOf: the walks. -/
import Derived.Test.YtklolfeijjnaoaaFv
import Derived.Test.YtklolfeijjnaoaaRelH
import Derived.Test.YtklolfeijjnaoaaOpV
import Derived.Test.YtklolfeijjnaoaaKB
import Derived.Deep.RegionHeld3
namespace Go.Proofs.Ytklolfeijjnaoaa
open Go.ChangeShapes Go.WideShapes Go.ChangeAt Go.RowKit
set_option linter.unusedVariables false
set_option linter.unusedSimpArgs false
set_option maxRecDepth 100000 in
set_option maxHeartbeats 6400000 in
theorem FnExactFirstVersionOf_law (A0 : Option Addr) (n0 c0 : Nat) (z0 : List Int) (A1 : Option Addr) (n1 c1 : Nat) (z1 : List VV) (A2 : Option Addr) (n2 c2 : Nat) (z2 : List RL) (v3 : Int) (A3 : Option Addr) (n3 c3 : Nat) (z3 : List Int) (E3 : Option Addr) (m3 d3 : Nat) (u3 : List Int) (s3 : Int) (w : World) (wa0 : IntsArg w A0 n0 z0) (wa1 : VarsArg w A1 n1 z1) (wa2 : RelsArg w A2 n2 z2) (wa3 : TabArg w A3 n3 z3 E3 m3 u3) :
    Calls Try.prog 8 #[.agg #[.slice A0 n0 c0], .slice A1 n1 c1, .slice A2 n2 c2, .agg #[.int .i64 v3, .slice A3 n3 c3, .slice E3 m3 d3, .int .i64 s3]] w fun e w' => e = .returned (.bool true) ∧ Below w.heap.size w w' := by
  have HNK := hid (show NamesOk z1 from wa1.2.2.1)
  go_enter Try.func8, Try.ntmps8
  have kw := keeps_refl w
  replace kw := Keeps.trans kw (keeps_alloc w (.cells #[.slice A0 n0 c0] 24))
  have p0 : B1 (w.alloc (.cells #[.slice A0 n0 c0] 24)) w.heap.size (.slice A0 n0 c0) := B1.new' (by simp)
  replace p0 := p0.keeps (keeps_alloc (w.alloc (.cells #[.slice A0 n0 c0] 24)) (.cells #[.int .i64 v3, .slice A3 n3 c3, .slice E3 m3 d3, .int .i64 s3] 80))
  replace kw := Keeps.trans kw (keeps_alloc (w.alloc (.cells #[.slice A0 n0 c0] 24)) (.cells #[.int .i64 v3, .slice A3 n3 c3, .slice E3 m3 d3, .int .i64 s3] 80))
  have p3 : Bl ((w.alloc (.cells #[.slice A0 n0 c0] 24)).alloc (.cells #[.int .i64 v3, .slice A3 n3 c3, .slice E3 m3 d3, .int .i64 s3] 80)) (w.heap.size + 1) [.int .i64 v3, .slice A3 n3 c3, .slice E3 m3 d3, .int .i64 s3] := Bl.new' (by simp) (by simp)
  obtain ⟨ca1, fa1⟩ := id p0
  have ca2_0 : ((w.alloc (.cells #[.slice A0 n0 c0] 24)).alloc (.cells #[.int .i64 v3, .slice A3 n3 c3, .slice E3 m3 d3, .int .i64 s3] 80)).cell? ⟨w.heap.size + 1, 0, none⟩ = some (.int .i64 v3) := (p3.2 0 _ rfl).1
  have fa2_0 : ((w.alloc (.cells #[.slice A0 n0 c0] 24)).alloc (.cells #[.int .i64 v3, .slice A3 n3 c3, .slice E3 m3 d3, .int .i64 s3] 80)).frozen? ⟨w.heap.size + 1, 0, none⟩ = false := (p3.2 0 _ rfl).2
  have ca2_1 : ((w.alloc (.cells #[.slice A0 n0 c0] 24)).alloc (.cells #[.int .i64 v3, .slice A3 n3 c3, .slice E3 m3 d3, .int .i64 s3] 80)).cell? ⟨w.heap.size + 1, 1, none⟩ = some (.slice A3 n3 c3) := (p3.2 1 _ rfl).1
  have fa2_1 : ((w.alloc (.cells #[.slice A0 n0 c0] 24)).alloc (.cells #[.int .i64 v3, .slice A3 n3 c3, .slice E3 m3 d3, .int .i64 s3] 80)).frozen? ⟨w.heap.size + 1, 1, none⟩ = false := (p3.2 1 _ rfl).2
  have ca2_2 : ((w.alloc (.cells #[.slice A0 n0 c0] 24)).alloc (.cells #[.int .i64 v3, .slice A3 n3 c3, .slice E3 m3 d3, .int .i64 s3] 80)).cell? ⟨w.heap.size + 1, 2, none⟩ = some (.slice E3 m3 d3) := (p3.2 2 _ rfl).1
  have fa2_2 : ((w.alloc (.cells #[.slice A0 n0 c0] 24)).alloc (.cells #[.int .i64 v3, .slice A3 n3 c3, .slice E3 m3 d3, .int .i64 s3] 80)).frozen? ⟨w.heap.size + 1, 2, none⟩ = false := (p3.2 2 _ rfl).2
  have ca2_3 : ((w.alloc (.cells #[.slice A0 n0 c0] 24)).alloc (.cells #[.int .i64 v3, .slice A3 n3 c3, .slice E3 m3 d3, .int .i64 s3] 80)).cell? ⟨w.heap.size + 1, 3, none⟩ = some (.int .i64 s3) := (p3.2 3 _ rfl).1
  have fa2_3 : ((w.alloc (.cells #[.slice A0 n0 c0] 24)).alloc (.cells #[.int .i64 v3, .slice A3 n3 c3, .slice E3 m3 d3, .int .i64 s3] 80)).frozen? ⟨w.heap.size + 1, 3, none⟩ = false := (p3.2 3 _ rfl).2
  go_wp2_with fail
  clear ca1 fa1 ca2_0 fa2_0 ca2_1 fa2_1 ca2_2 fa2_2 ca2_3 fa2_3
  by_cases hs0 : (n0 : Int) ≤ 1048576
  rotate_left
  · have hm0 := wa0.1
    refine (szGeo_no _ _ _ (1048576) _ hm0 (by omega) (by omega) (by omega)).mono ?_
    rintro e w3 ⟨rfl, k3⟩
    have ss4 := k3.size
    simp at ss4
    replace p0 := p0.keeps k3
    replace p3 := p3.keeps k3
    replace kw := Keeps.trans kw k3
    have lt5 := p3.lt
    have sz6 := kw.size
    clear k3
    go_wp2_with fail
    go_ret
    exact ⟨rfl, kw⟩
  have h0 := wa0.ints (by omega)
  refine (szGeo_ok _ _ _ (1048576) _ (by omega) (by omega)).mono ?_
  rintro e w3 ⟨rfl, k3⟩
  have ss4 := k3.size
  simp at ss4
  replace p0 := p0.keeps k3
  replace p3 := p3.keeps k3
  replace kw := Keeps.trans kw k3
  have lt5 := p3.lt
  have sz6 := kw.size
  clear k3
  have tz0 : ¬ (1048576 - (n0 : Int) < 0) := by omega
  obtain ⟨ca7, fa7⟩ := id p0
  have ca8_0 : w3.cell? ⟨w.heap.size + 1, 0, none⟩ = some (.int .i64 v3) := (p3.2 0 _ rfl).1
  have fa8_0 : w3.frozen? ⟨w.heap.size + 1, 0, none⟩ = false := (p3.2 0 _ rfl).2
  have ca8_1 : w3.cell? ⟨w.heap.size + 1, 1, none⟩ = some (.slice A3 n3 c3) := (p3.2 1 _ rfl).1
  have fa8_1 : w3.frozen? ⟨w.heap.size + 1, 1, none⟩ = false := (p3.2 1 _ rfl).2
  have ca8_2 : w3.cell? ⟨w.heap.size + 1, 2, none⟩ = some (.slice E3 m3 d3) := (p3.2 2 _ rfl).1
  have fa8_2 : w3.frozen? ⟨w.heap.size + 1, 2, none⟩ = false := (p3.2 2 _ rfl).2
  have ca8_3 : w3.cell? ⟨w.heap.size + 1, 3, none⟩ = some (.int .i64 s3) := (p3.2 3 _ rfl).1
  have fa8_3 : w3.frozen? ⟨w.heap.size + 1, 3, none⟩ = false := (p3.2 3 _ rfl).2
  go_wp2_with fail
  clear ca7 fa7 ca8_0 fa8_0 ca8_1 fa8_1 ca8_2 fa8_2 ca8_3 fa8_3
  by_cases hs1 : ((n1 : Int) + vsz z1 n1) ≤ 1048576 - (n0 : Int)
  rotate_left
  · have hm1 := wa1.1
    refine (szVariableS_any (left := 1048576 - (n0 : Int)) (wa1.keeps kw) (by omega) (by omega)).mono ?_
    rintro e w9 ⟨rfl, k9⟩
    rw [szVs_no (left := 1048576 - (n0 : Int)) (n := n1) (l := z1) (by omega)]
    have ss10 := k9.size
    replace p0 := p0.keeps k9
    replace p3 := p3.keeps k9
    replace kw := Keeps.trans kw k9
    have lt11 := p3.lt
    have sz12 := kw.size
    clear k9
    go_wp2_with fail
    go_ret
    exact ⟨rfl, kw⟩
  have h1 := wa1.vars (by omega)
  refine (szVariableS_any (left := 1048576 - (n0 : Int)) (wa1.keeps kw) (by omega) (by omega)).mono ?_
  rintro e w9 ⟨rfl, k9⟩
  rw [szVs_ok (left := 1048576 - (n0 : Int)) (n := n1) (l := z1) (by omega)]
  have ss10 := k9.size
  replace p0 := p0.keeps k9
  replace p3 := p3.keeps k9
  replace kw := Keeps.trans kw k9
  have lt11 := p3.lt
  have sz12 := kw.size
  clear k9
  have tz1 : ¬ (1048576 - (n0 : Int) - ((n1 : Int) + vsz z1 n1) < 0) := by omega
  obtain ⟨ca13, fa13⟩ := id p0
  have ca14_0 : w9.cell? ⟨w.heap.size + 1, 0, none⟩ = some (.int .i64 v3) := (p3.2 0 _ rfl).1
  have fa14_0 : w9.frozen? ⟨w.heap.size + 1, 0, none⟩ = false := (p3.2 0 _ rfl).2
  have ca14_1 : w9.cell? ⟨w.heap.size + 1, 1, none⟩ = some (.slice A3 n3 c3) := (p3.2 1 _ rfl).1
  have fa14_1 : w9.frozen? ⟨w.heap.size + 1, 1, none⟩ = false := (p3.2 1 _ rfl).2
  have ca14_2 : w9.cell? ⟨w.heap.size + 1, 2, none⟩ = some (.slice E3 m3 d3) := (p3.2 2 _ rfl).1
  have fa14_2 : w9.frozen? ⟨w.heap.size + 1, 2, none⟩ = false := (p3.2 2 _ rfl).2
  have ca14_3 : w9.cell? ⟨w.heap.size + 1, 3, none⟩ = some (.int .i64 s3) := (p3.2 3 _ rfl).1
  have fa14_3 : w9.frozen? ⟨w.heap.size + 1, 3, none⟩ = false := (p3.2 3 _ rfl).2
  go_wp2_with fail
  clear ca13 fa13 ca14_0 fa14_0 ca14_1 fa14_1 ca14_2 fa14_2 ca14_3 fa14_3
  by_cases hs2 : ((n2 + rlsz z2 n2 : Nat) : Int) ≤ 1048576 - (n0 : Int) - ((n1 : Int) + vsz z1 n1)
  rotate_left
  · have hm2 := wa2.1
    refine (szReleaseS_any (left := 1048576 - (n0 : Int) - ((n1 : Int) + vsz z1 n1)) (wa2.keeps kw) (by omega) (by omega)).mono ?_
    rintro e w15 ⟨rfl, k15⟩
    rw [szQ_no (left := 1048576 - (n0 : Int) - ((n1 : Int) + vsz z1 n1)) (s := n2 + rlsz z2 n2) hs2]
    have ss16 := k15.size
    replace p0 := p0.keeps k15
    replace p3 := p3.keeps k15
    replace kw := Keeps.trans kw k15
    have lt17 := p3.lt
    have sz18 := kw.size
    clear k15
    go_wp2_with fail
    go_ret
    exact ⟨rfl, kw⟩
  have h2 := wa2.rels (by omega)
  refine (szReleaseS_any (left := 1048576 - (n0 : Int) - ((n1 : Int) + vsz z1 n1)) (wa2.keeps kw) (by omega) (by omega)).mono ?_
  rintro e w15 ⟨rfl, k15⟩
  rw [szQ_ok (left := 1048576 - (n0 : Int) - ((n1 : Int) + vsz z1 n1)) (s := n2 + rlsz z2 n2) hs2]
  have ss16 := k15.size
  replace p0 := p0.keeps k15
  replace p3 := p3.keeps k15
  replace kw := Keeps.trans kw k15
  have lt17 := p3.lt
  have sz18 := kw.size
  clear k15
  have tz2 : ¬ (1048576 - (n0 : Int) - ((n1 : Int) + vsz z1 n1) - ((n2 + rlsz z2 n2 : Nat) : Int) < 0) := by omega
  obtain ⟨ca19, fa19⟩ := id p0
  have ca20_0 : w15.cell? ⟨w.heap.size + 1, 0, none⟩ = some (.int .i64 v3) := (p3.2 0 _ rfl).1
  have fa20_0 : w15.frozen? ⟨w.heap.size + 1, 0, none⟩ = false := (p3.2 0 _ rfl).2
  have ca20_1 : w15.cell? ⟨w.heap.size + 1, 1, none⟩ = some (.slice A3 n3 c3) := (p3.2 1 _ rfl).1
  have fa20_1 : w15.frozen? ⟨w.heap.size + 1, 1, none⟩ = false := (p3.2 1 _ rfl).2
  have ca20_2 : w15.cell? ⟨w.heap.size + 1, 2, none⟩ = some (.slice E3 m3 d3) := (p3.2 2 _ rfl).1
  have fa20_2 : w15.frozen? ⟨w.heap.size + 1, 2, none⟩ = false := (p3.2 2 _ rfl).2
  have ca20_3 : w15.cell? ⟨w.heap.size + 1, 3, none⟩ = some (.int .i64 s3) := (p3.2 3 _ rfl).1
  have fa20_3 : w15.frozen? ⟨w.heap.size + 1, 3, none⟩ = false := (p3.2 3 _ rfl).2
  go_wp2_with fail
  clear ca19 fa19 ca20_0 fa20_0 ca20_1 fa20_1 ca20_2 fa20_2 ca20_3 fa20_3
  by_cases hs3 : ((n3 + m3 : Nat) : Int) ≤ 1048576 - (n0 : Int) - ((n1 : Int) + vsz z1 n1) - ((n2 + rlsz z2 n2 : Nat) : Int)
  rotate_left
  · have hm3 := wa3.1
    refine (szTable_any (left := 1048576 - (n0 : Int) - ((n1 : Int) + vsz z1 n1) - ((n2 + rlsz z2 n2 : Nat) : Int)) wa3.1 wa3.2.1 (by omega) (by omega)).mono ?_
    rintro e w21 ⟨rfl, k21⟩
    rw [szQ_no (left := 1048576 - (n0 : Int) - ((n1 : Int) + vsz z1 n1) - ((n2 + rlsz z2 n2 : Nat) : Int)) (s := n3 + m3) hs3]
    have ss22 := k21.size
    replace p0 := p0.keeps k21
    replace p3 := p3.keeps k21
    replace kw := Keeps.trans kw k21
    have lt23 := p3.lt
    have sz24 := kw.size
    clear k21
    go_wp2_with fail
    go_ret
    exact ⟨rfl, kw⟩
  have h3 := TwoInts.of (wa3.ok (by omega))
  refine (szTable_any (left := 1048576 - (n0 : Int) - ((n1 : Int) + vsz z1 n1) - ((n2 + rlsz z2 n2 : Nat) : Int)) wa3.1 wa3.2.1 (by omega) (by omega)).mono ?_
  rintro e w21 ⟨rfl, k21⟩
  rw [szQ_ok (left := 1048576 - (n0 : Int) - ((n1 : Int) + vsz z1 n1) - ((n2 + rlsz z2 n2 : Nat) : Int)) (s := n3 + m3) hs3]
  have ss22 := k21.size
  replace p0 := p0.keeps k21
  replace p3 := p3.keeps k21
  replace kw := Keeps.trans kw k21
  have lt23 := p3.lt
  have sz24 := kw.size
  clear k21
  have tz3 : ¬ (1048576 - (n0 : Int) - ((n1 : Int) + vsz z1 n1) - ((n2 + rlsz z2 n2 : Nat) : Int) - ((n3 + m3 : Nat) : Int) < 0) := by omega
  obtain ⟨ca25, fa25⟩ := id p0
  have ca26_0 : w21.cell? ⟨w.heap.size + 1, 0, none⟩ = some (.int .i64 v3) := (p3.2 0 _ rfl).1
  have fa26_0 : w21.frozen? ⟨w.heap.size + 1, 0, none⟩ = false := (p3.2 0 _ rfl).2
  have ca26_1 : w21.cell? ⟨w.heap.size + 1, 1, none⟩ = some (.slice A3 n3 c3) := (p3.2 1 _ rfl).1
  have fa26_1 : w21.frozen? ⟨w.heap.size + 1, 1, none⟩ = false := (p3.2 1 _ rfl).2
  have ca26_2 : w21.cell? ⟨w.heap.size + 1, 2, none⟩ = some (.slice E3 m3 d3) := (p3.2 2 _ rfl).1
  have fa26_2 : w21.frozen? ⟨w.heap.size + 1, 2, none⟩ = false := (p3.2 2 _ rfl).2
  have ca26_3 : w21.cell? ⟨w.heap.size + 1, 3, none⟩ = some (.int .i64 s3) := (p3.2 3 _ rfl).1
  have fa26_3 : w21.frozen? ⟨w.heap.size + 1, 3, none⟩ = false := (p3.2 3 _ rfl).2
  go_wp2_with fail
  clear ca25 fa25 ca26_0 fa26_0 ca26_1 fa26_1 ca26_2 fa26_2 ca26_3 fa26_3
  obtain ⟨r0, r1, HR⟩ : ∃ r0 r1, Hid (fvQ z0 z1 z2 (v3, z3, u3, s3) = (r0, r1)) := ⟨_, _, rfl⟩
  obtain ⟨ca27, -⟩ := id p0
  have ca28_0 : w21.cell? ⟨w.heap.size + 1, 0, none⟩ = some (.int .i64 v3) := (p3.2 0 _ rfl).1
  have ca28_1 : w21.cell? ⟨w.heap.size + 1, 1, none⟩ = some (.slice A3 n3 c3) := (p3.2 1 _ rfl).1
  have ca28_2 : w21.cell? ⟨w.heap.size + 1, 2, none⟩ = some (.slice E3 m3 d3) := (p3.2 2 _ rfl).1
  have ca28_3 : w21.cell? ⟨w.heap.size + 1, 3, none⟩ = some (.int .i64 s3) := (p3.2 3 _ rfl).1
  have kS := hid (show ∀ w', Keeps w21 w' → (w'.cell? ⟨w.heap.size, 0, none⟩ = some (.slice A0 n0 c0) ∧ w'.cell? ⟨w.heap.size + 1, 0, none⟩ = some (.int .i64 v3) ∧ w'.cell? ⟨w.heap.size + 1, 1, none⟩ = some (.slice A3 n3 c3) ∧ w'.cell? ⟨w.heap.size + 1, 2, none⟩ = some (.slice E3 m3 d3) ∧ w'.cell? ⟨w.heap.size + 1, 3, none⟩ = some (.int .i64 s3)) from fun w' k => ⟨cell_keeps ca27 k, cell_keeps ca28_0 k, cell_keeps ca28_1 k, cell_keeps ca28_2 k, cell_keeps ca28_3 k⟩)
  have kW := keeps_d0 w21
  have hW0 := (h0.keeps kw)
  have hW1 := (h1.keeps kw)
  have hW2 := (h2.keeps kw)
  have hW3 := (h3.keeps kw)
  go_region_held3 (fun w' => w'.cell? ⟨w.heap.size, 0, none⟩ = some (.slice A0 n0 c0) ∧ w'.cell? ⟨w.heap.size + 1, 0, none⟩ = some (.int .i64 v3) ∧ w'.cell? ⟨w.heap.size + 1, 1, none⟩ = some (.slice A3 n3 c3) ∧ w'.cell? ⟨w.heap.size + 1, 2, none⟩ = some (.slice E3 m3 d3) ∧ w'.cell? ⟨w.heap.size + 1, 3, none⟩ = some (.int .i64 s3)) (first | with_reducible exact kS.out _ (keeps_d0 _) | with_reducible exact kS.out _ kW | go_keep)
    ((first | (go_at_call 17; refine (toGeo_any (hW0.keeps kW)).mono ?_; rintro e wB ⟨By0, rfl, y9, kB⟩; (first | (have y0 := y0.keeps kB) | skip); (first | (have y1 := y1.keeps kB) | skip); (first | (have y2 := y2.keeps kB) | skip); (first | (have y3 := y3.keeps kB) | skip); have y0 := y9; clear y9; replace kW : Keeps w21 wB := kW.trans kB; clear kB) | (go_at_call 18; refine (toVariableS_any (hW1.keeps kW)).mono ?_; rintro e wB ⟨By1, rfl, y9, kB⟩; (first | (have y0 := y0.keeps kB) | skip); (first | (have y1 := y1.keeps kB) | skip); (first | (have y2 := y2.keeps kB) | skip); (first | (have y3 := y3.keeps kB) | skip); have y1 := y9; clear y9; replace kW : Keeps w21 wB := kW.trans kB; clear kB) | (go_at_call 26; refine (toReleaseS_any (hW2.keeps kW)).mono ?_; rintro e wB ⟨By2, rfl, y9, kB⟩; (first | (have y0 := y0.keeps kB) | skip); (first | (have y1 := y1.keeps kB) | skip); (first | (have y2 := y2.keeps kB) | skip); (first | (have y3 := y3.keeps kB) | skip); have y2 := y9; clear y9; replace kW : Keeps w21 wB := kW.trans kB; clear kB) | (go_at_call 48; refine (toTable_any (hW3.1.keeps kW) (hW3.2.keeps kW)).mono ?_; rintro e wB ⟨By3, Cy3, rfl, ya, yb, kB⟩; (first | (have y0 := y0.keeps kB) | skip); (first | (have y1 := y1.keeps kB) | skip); (first | (have y2 := y2.keeps kB) | skip); (first | (have y3 := y3.keeps kB) | skip); have y3 := IntsPair.mk ya yb; clear ya yb; replace kW : Keeps w21 wB := kW.trans kB; clear kB) | (go_at_call 47; refine (specFirstVersionOf_any y0.1 y1.1 HNK.out y2 y3.a y3.b).mono ?_; rintro e wB ⟨rfl, kB⟩; rw [HR.out]; have sW := kW.size; have sB := kB.size; replace kW : Keeps w21 wB := kW.trans kB; clear kB)))
  clear kS hW0 hW1 hW2 hW3
  clear ca27 ca28_0 ca28_1 ca28_2 ca28_3
  clear y0 y1 y2 y3
  have ss29 := kW.size
  replace p0 := p0.keeps kW
  replace p3 := p3.keeps kW
  replace kw := Keeps.trans kw kW
  have lt30 := p3.lt
  have sz31 := kw.size
  clear kW
  obtain ⟨wy31, rfl⟩ : ∃ u : World, u = wB := ⟨_, rfl⟩
  obtain ⟨ca32, fa32⟩ := id p0
  have ca33_0 : wy31.cell? ⟨w.heap.size + 1, 0, none⟩ = some (.int .i64 v3) := (p3.2 0 _ rfl).1
  have fa33_0 : wy31.frozen? ⟨w.heap.size + 1, 0, none⟩ = false := (p3.2 0 _ rfl).2
  have ca33_1 : wy31.cell? ⟨w.heap.size + 1, 1, none⟩ = some (.slice A3 n3 c3) := (p3.2 1 _ rfl).1
  have fa33_1 : wy31.frozen? ⟨w.heap.size + 1, 1, none⟩ = false := (p3.2 1 _ rfl).2
  have ca33_2 : wy31.cell? ⟨w.heap.size + 1, 2, none⟩ = some (.slice E3 m3 d3) := (p3.2 2 _ rfl).1
  have fa33_2 : wy31.frozen? ⟨w.heap.size + 1, 2, none⟩ = false := (p3.2 2 _ rfl).2
  have ca33_3 : wy31.cell? ⟨w.heap.size + 1, 3, none⟩ = some (.int .i64 s3) := (p3.2 3 _ rfl).1
  have fa33_3 : wy31.frozen? ⟨w.heap.size + 1, 3, none⟩ = false := (p3.2 3 _ rfl).2
  go_wp2_with fail
  clear ca32 fa32 ca33_0 fa33_0 ca33_1 fa33_1 ca33_2 fa33_2 ca33_3 fa33_3
  refine (toGeo_any (h0.keeps kw)).mono ?_
  rintro e w34 ⟨Bx0, rfl, x0, k34⟩
  have ss35 := k34.size
  replace p0 := p0.keeps k34
  replace p3 := p3.keeps k34
  replace kw := Keeps.trans kw k34
  have lt36 := p3.lt
  have sz37 := kw.size
  clear k34
  replace p0 := p0.keeps (keeps_alloc w34 (.cells #[.slice Bx0 n0 n0] 38))
  replace p3 := p3.keeps (keeps_alloc w34 (.cells #[.slice Bx0 n0 n0] 38))
  replace x0 := x0.keeps (keeps_alloc w34 (.cells #[.slice Bx0 n0 n0] 38))
  replace kw := Keeps.trans kw (keeps_alloc w34 (.cells #[.slice Bx0 n0 n0] 38))
  have bx0 : B1 (w34.alloc (.cells #[.slice Bx0 n0 n0] 38)) w34.heap.size (.slice Bx0 n0 n0) := B1.new' (by simp)
  obtain ⟨ca38, fa38⟩ := id p0
  have ca39_0 : (w34.alloc (.cells #[.slice Bx0 n0 n0] 38)).cell? ⟨w.heap.size + 1, 0, none⟩ = some (.int .i64 v3) := (p3.2 0 _ rfl).1
  have fa39_0 : (w34.alloc (.cells #[.slice Bx0 n0 n0] 38)).frozen? ⟨w.heap.size + 1, 0, none⟩ = false := (p3.2 0 _ rfl).2
  have ca39_1 : (w34.alloc (.cells #[.slice Bx0 n0 n0] 38)).cell? ⟨w.heap.size + 1, 1, none⟩ = some (.slice A3 n3 c3) := (p3.2 1 _ rfl).1
  have fa39_1 : (w34.alloc (.cells #[.slice Bx0 n0 n0] 38)).frozen? ⟨w.heap.size + 1, 1, none⟩ = false := (p3.2 1 _ rfl).2
  have ca39_2 : (w34.alloc (.cells #[.slice Bx0 n0 n0] 38)).cell? ⟨w.heap.size + 1, 2, none⟩ = some (.slice E3 m3 d3) := (p3.2 2 _ rfl).1
  have fa39_2 : (w34.alloc (.cells #[.slice Bx0 n0 n0] 38)).frozen? ⟨w.heap.size + 1, 2, none⟩ = false := (p3.2 2 _ rfl).2
  have ca39_3 : (w34.alloc (.cells #[.slice Bx0 n0 n0] 38)).cell? ⟨w.heap.size + 1, 3, none⟩ = some (.int .i64 s3) := (p3.2 3 _ rfl).1
  have fa39_3 : (w34.alloc (.cells #[.slice Bx0 n0 n0] 38)).frozen? ⟨w.heap.size + 1, 3, none⟩ = false := (p3.2 3 _ rfl).2
  obtain ⟨ca40, fa40⟩ := id bx0
  go_wp2_with fail
  clear ca38 fa38 ca39_0 fa39_0 ca39_1 fa39_1 ca39_2 fa39_2 ca39_3 fa39_3 ca40 fa40
  refine (toVariableS_any (h1.keeps kw)).mono ?_
  rintro e w41 ⟨Bx1, rfl, x1, k41⟩
  have ss42 := k41.size
  simp at ss42
  replace p0 := p0.keeps k41
  replace p3 := p3.keeps k41
  replace bx0 := bx0.keeps k41
  replace x0 := x0.keeps k41
  replace kw := Keeps.trans kw k41
  have lt43 := bx0.lt
  have sz44 := kw.size
  clear k41
  replace x1 := x1.widen (lo' := w34.heap.size + 1) (by simp) (Nat.le_refl _) (Nat.le_refl _)
  obtain ⟨ca45, fa45⟩ := id p0
  have ca46_0 : w41.cell? ⟨w.heap.size + 1, 0, none⟩ = some (.int .i64 v3) := (p3.2 0 _ rfl).1
  have fa46_0 : w41.frozen? ⟨w.heap.size + 1, 0, none⟩ = false := (p3.2 0 _ rfl).2
  have ca46_1 : w41.cell? ⟨w.heap.size + 1, 1, none⟩ = some (.slice A3 n3 c3) := (p3.2 1 _ rfl).1
  have fa46_1 : w41.frozen? ⟨w.heap.size + 1, 1, none⟩ = false := (p3.2 1 _ rfl).2
  have ca46_2 : w41.cell? ⟨w.heap.size + 1, 2, none⟩ = some (.slice E3 m3 d3) := (p3.2 2 _ rfl).1
  have fa46_2 : w41.frozen? ⟨w.heap.size + 1, 2, none⟩ = false := (p3.2 2 _ rfl).2
  have ca46_3 : w41.cell? ⟨w.heap.size + 1, 3, none⟩ = some (.int .i64 s3) := (p3.2 3 _ rfl).1
  have fa46_3 : w41.frozen? ⟨w.heap.size + 1, 3, none⟩ = false := (p3.2 3 _ rfl).2
  obtain ⟨ca47, fa47⟩ := id bx0
  go_wp2_with fail
  clear ca45 fa45 ca46_0 fa46_0 ca46_1 fa46_1 ca46_2 fa46_2 ca46_3 fa46_3 ca47 fa47
  refine (toReleaseS_any (h2.keeps kw)).mono ?_
  rintro e w48 ⟨Bx2, rfl, x2, k48⟩
  have ss49 := k48.size
  replace p0 := p0.keeps k48
  replace p3 := p3.keeps k48
  replace bx0 := bx0.keeps k48
  replace x0 := x0.keeps k48
  replace x1 := x1.keeps k48
  replace kw := Keeps.trans kw k48
  have lt50 := bx0.lt
  have sz51 := kw.size
  clear k48
  obtain ⟨ca52, fa52⟩ := id p0
  have ca53_0 : w48.cell? ⟨w.heap.size + 1, 0, none⟩ = some (.int .i64 v3) := (p3.2 0 _ rfl).1
  have fa53_0 : w48.frozen? ⟨w.heap.size + 1, 0, none⟩ = false := (p3.2 0 _ rfl).2
  have ca53_1 : w48.cell? ⟨w.heap.size + 1, 1, none⟩ = some (.slice A3 n3 c3) := (p3.2 1 _ rfl).1
  have fa53_1 : w48.frozen? ⟨w.heap.size + 1, 1, none⟩ = false := (p3.2 1 _ rfl).2
  have ca53_2 : w48.cell? ⟨w.heap.size + 1, 2, none⟩ = some (.slice E3 m3 d3) := (p3.2 2 _ rfl).1
  have fa53_2 : w48.frozen? ⟨w.heap.size + 1, 2, none⟩ = false := (p3.2 2 _ rfl).2
  have ca53_3 : w48.cell? ⟨w.heap.size + 1, 3, none⟩ = some (.int .i64 s3) := (p3.2 3 _ rfl).1
  have fa53_3 : w48.frozen? ⟨w.heap.size + 1, 3, none⟩ = false := (p3.2 3 _ rfl).2
  obtain ⟨ca54, fa54⟩ := id bx0
  go_wp2_with fail
  clear ca52 fa52 ca53_0 fa53_0 ca53_1 fa53_1 ca53_2 fa53_2 ca53_3 fa53_3 ca54 fa54
  refine (toTable_any (h3.keeps kw).1 (h3.keeps kw).2).mono ?_
  rintro e w55 ⟨Bx3, Cx3, rfl, x3a, x3b, k55⟩
  have ss56 := k55.size
  replace p0 := p0.keeps k55
  replace p3 := p3.keeps k55
  replace bx0 := bx0.keeps k55
  replace x0 := x0.keeps k55
  replace x1 := x1.keeps k55
  replace x2 := x2.keeps k55
  replace kw := Keeps.trans kw k55
  have lt57 := bx0.lt
  have sz58 := kw.size
  clear k55
  have x3 := IntsPair.mk x3a x3b
  clear x3a x3b
  replace p0 := p0.keeps (keeps_alloc w55 (.cells #[.int .i64 v3, .slice Bx3 n3 n3, .slice Cx3 m3 m3, .int .i64 s3] 84))
  replace p3 := p3.keeps (keeps_alloc w55 (.cells #[.int .i64 v3, .slice Bx3 n3 n3, .slice Cx3 m3 m3, .int .i64 s3] 84))
  replace bx0 := bx0.keeps (keeps_alloc w55 (.cells #[.int .i64 v3, .slice Bx3 n3 n3, .slice Cx3 m3 m3, .int .i64 s3] 84))
  replace x0 := x0.keeps (keeps_alloc w55 (.cells #[.int .i64 v3, .slice Bx3 n3 n3, .slice Cx3 m3 m3, .int .i64 s3] 84))
  replace x1 := x1.keeps (keeps_alloc w55 (.cells #[.int .i64 v3, .slice Bx3 n3 n3, .slice Cx3 m3 m3, .int .i64 s3] 84))
  replace x2 := x2.keeps (keeps_alloc w55 (.cells #[.int .i64 v3, .slice Bx3 n3 n3, .slice Cx3 m3 m3, .int .i64 s3] 84))
  replace x3 := x3.keeps (keeps_alloc w55 (.cells #[.int .i64 v3, .slice Bx3 n3 n3, .slice Cx3 m3 m3, .int .i64 s3] 84))
  replace kw := Keeps.trans kw (keeps_alloc w55 (.cells #[.int .i64 v3, .slice Bx3 n3 n3, .slice Cx3 m3 m3, .int .i64 s3] 84))
  have bx3 : Bl (w55.alloc (.cells #[.int .i64 v3, .slice Bx3 n3 n3, .slice Cx3 m3 m3, .int .i64 s3] 84)) w55.heap.size [.int .i64 v3, .slice Bx3 n3 n3, .slice Cx3 m3 m3, .int .i64 s3] := Bl.new' (by simp) (by simp)
  obtain ⟨ca59, fa59⟩ := id p0
  have ca60_0 : (w55.alloc (.cells #[.int .i64 v3, .slice Bx3 n3 n3, .slice Cx3 m3 m3, .int .i64 s3] 84)).cell? ⟨w.heap.size + 1, 0, none⟩ = some (.int .i64 v3) := (p3.2 0 _ rfl).1
  have fa60_0 : (w55.alloc (.cells #[.int .i64 v3, .slice Bx3 n3 n3, .slice Cx3 m3 m3, .int .i64 s3] 84)).frozen? ⟨w.heap.size + 1, 0, none⟩ = false := (p3.2 0 _ rfl).2
  have ca60_1 : (w55.alloc (.cells #[.int .i64 v3, .slice Bx3 n3 n3, .slice Cx3 m3 m3, .int .i64 s3] 84)).cell? ⟨w.heap.size + 1, 1, none⟩ = some (.slice A3 n3 c3) := (p3.2 1 _ rfl).1
  have fa60_1 : (w55.alloc (.cells #[.int .i64 v3, .slice Bx3 n3 n3, .slice Cx3 m3 m3, .int .i64 s3] 84)).frozen? ⟨w.heap.size + 1, 1, none⟩ = false := (p3.2 1 _ rfl).2
  have ca60_2 : (w55.alloc (.cells #[.int .i64 v3, .slice Bx3 n3 n3, .slice Cx3 m3 m3, .int .i64 s3] 84)).cell? ⟨w.heap.size + 1, 2, none⟩ = some (.slice E3 m3 d3) := (p3.2 2 _ rfl).1
  have fa60_2 : (w55.alloc (.cells #[.int .i64 v3, .slice Bx3 n3 n3, .slice Cx3 m3 m3, .int .i64 s3] 84)).frozen? ⟨w.heap.size + 1, 2, none⟩ = false := (p3.2 2 _ rfl).2
  have ca60_3 : (w55.alloc (.cells #[.int .i64 v3, .slice Bx3 n3 n3, .slice Cx3 m3 m3, .int .i64 s3] 84)).cell? ⟨w.heap.size + 1, 3, none⟩ = some (.int .i64 s3) := (p3.2 3 _ rfl).1
  have fa60_3 : (w55.alloc (.cells #[.int .i64 v3, .slice Bx3 n3 n3, .slice Cx3 m3 m3, .int .i64 s3] 84)).frozen? ⟨w.heap.size + 1, 3, none⟩ = false := (p3.2 3 _ rfl).2
  obtain ⟨ca61, fa61⟩ := id bx0
  have ca62_0 : (w55.alloc (.cells #[.int .i64 v3, .slice Bx3 n3 n3, .slice Cx3 m3 m3, .int .i64 s3] 84)).cell? ⟨w55.heap.size, 0, none⟩ = some (.int .i64 v3) := (bx3.2 0 _ rfl).1
  have fa62_0 : (w55.alloc (.cells #[.int .i64 v3, .slice Bx3 n3 n3, .slice Cx3 m3 m3, .int .i64 s3] 84)).frozen? ⟨w55.heap.size, 0, none⟩ = false := (bx3.2 0 _ rfl).2
  have ca62_1 : (w55.alloc (.cells #[.int .i64 v3, .slice Bx3 n3 n3, .slice Cx3 m3 m3, .int .i64 s3] 84)).cell? ⟨w55.heap.size, 1, none⟩ = some (.slice Bx3 n3 n3) := (bx3.2 1 _ rfl).1
  have fa62_1 : (w55.alloc (.cells #[.int .i64 v3, .slice Bx3 n3 n3, .slice Cx3 m3 m3, .int .i64 s3] 84)).frozen? ⟨w55.heap.size, 1, none⟩ = false := (bx3.2 1 _ rfl).2
  have ca62_2 : (w55.alloc (.cells #[.int .i64 v3, .slice Bx3 n3 n3, .slice Cx3 m3 m3, .int .i64 s3] 84)).cell? ⟨w55.heap.size, 2, none⟩ = some (.slice Cx3 m3 m3) := (bx3.2 2 _ rfl).1
  have fa62_2 : (w55.alloc (.cells #[.int .i64 v3, .slice Bx3 n3 n3, .slice Cx3 m3 m3, .int .i64 s3] 84)).frozen? ⟨w55.heap.size, 2, none⟩ = false := (bx3.2 2 _ rfl).2
  have ca62_3 : (w55.alloc (.cells #[.int .i64 v3, .slice Bx3 n3 n3, .slice Cx3 m3 m3, .int .i64 s3] 84)).cell? ⟨w55.heap.size, 3, none⟩ = some (.int .i64 s3) := (bx3.2 3 _ rfl).1
  have fa62_3 : (w55.alloc (.cells #[.int .i64 v3, .slice Bx3 n3 n3, .slice Cx3 m3 m3, .int .i64 s3] 84)).frozen? ⟨w55.heap.size, 3, none⟩ = false := (bx3.2 3 _ rfl).2
  go_wp2_with fail
  clear ca59 fa59 ca60_0 fa60_0 ca60_1 fa60_1 ca60_2 fa60_2 ca60_3 fa60_3 ca61 fa61 ca62_0 fa62_0 ca62_1 fa62_1 ca62_2 fa62_2 ca62_3 fa62_3
  refine (implFirstVersionOf_any x0.1 x1.1 HNK.out x2 x3.a x3.b).mono ?_
  rintro e w63 ⟨rfl, k63⟩
  rw [HR.out]
  have ss64 := k63.size
  simp at ss64
  replace p0 := p0.keeps k63
  replace p3 := p3.keeps k63
  replace bx0 := bx0.keeps k63
  replace bx3 := bx3.keeps k63
  replace x0 := x0.keeps k63
  replace x1 := x1.keeps k63
  replace x2 := x2.keeps k63
  replace x3 := x3.keeps k63
  replace kw := Keeps.trans kw k63
  have lt65 := bx3.lt
  have sz66 := kw.size
  clear k63
  obtain ⟨ca67, fa67⟩ := id p0
  have ca68_0 : w63.cell? ⟨w.heap.size + 1, 0, none⟩ = some (.int .i64 v3) := (p3.2 0 _ rfl).1
  have fa68_0 : w63.frozen? ⟨w.heap.size + 1, 0, none⟩ = false := (p3.2 0 _ rfl).2
  have ca68_1 : w63.cell? ⟨w.heap.size + 1, 1, none⟩ = some (.slice A3 n3 c3) := (p3.2 1 _ rfl).1
  have fa68_1 : w63.frozen? ⟨w.heap.size + 1, 1, none⟩ = false := (p3.2 1 _ rfl).2
  have ca68_2 : w63.cell? ⟨w.heap.size + 1, 2, none⟩ = some (.slice E3 m3 d3) := (p3.2 2 _ rfl).1
  have fa68_2 : w63.frozen? ⟨w.heap.size + 1, 2, none⟩ = false := (p3.2 2 _ rfl).2
  have ca68_3 : w63.cell? ⟨w.heap.size + 1, 3, none⟩ = some (.int .i64 s3) := (p3.2 3 _ rfl).1
  have fa68_3 : w63.frozen? ⟨w.heap.size + 1, 3, none⟩ = false := (p3.2 3 _ rfl).2
  obtain ⟨ca69, fa69⟩ := id bx0
  have ca70_0 : w63.cell? ⟨w55.heap.size, 0, none⟩ = some (.int .i64 v3) := (bx3.2 0 _ rfl).1
  have fa70_0 : w63.frozen? ⟨w55.heap.size, 0, none⟩ = false := (bx3.2 0 _ rfl).2
  have ca70_1 : w63.cell? ⟨w55.heap.size, 1, none⟩ = some (.slice Bx3 n3 n3) := (bx3.2 1 _ rfl).1
  have fa70_1 : w63.frozen? ⟨w55.heap.size, 1, none⟩ = false := (bx3.2 1 _ rfl).2
  have ca70_2 : w63.cell? ⟨w55.heap.size, 2, none⟩ = some (.slice Cx3 m3 m3) := (bx3.2 2 _ rfl).1
  have fa70_2 : w63.frozen? ⟨w55.heap.size, 2, none⟩ = false := (bx3.2 2 _ rfl).2
  have ca70_3 : w63.cell? ⟨w55.heap.size, 3, none⟩ = some (.int .i64 s3) := (bx3.2 3 _ rfl).1
  have fa70_3 : w63.frozen? ⟨w55.heap.size, 3, none⟩ = false := (bx3.2 3 _ rfl).2
  go_wp2_with fail
  clear ca67 fa67 ca68_0 fa68_0 ca68_1 fa68_1 ca68_2 fa68_2 ca68_3 fa68_3 ca69 fa69 ca70_0 fa70_0 ca70_1 fa70_1 ca70_2 fa70_2 ca70_3 fa70_3
  have e0 : (r0 != r0) = false := by simp
  have e1 : (r1 != r1) = false := by simp
  obtain ⟨ca71, -⟩ := id bx0
  obtain ⟨ca72, -⟩ := id p0
  have kS := hid (show ∀ w', Keeps w63 w' → (w'.cell? ⟨w34.heap.size, 0, none⟩ = some (.slice Bx0 n0 n0) ∧ w'.cell? ⟨w.heap.size, 0, none⟩ = some (.slice A0 n0 c0)) from fun w' k => ⟨cell_keeps ca71 k, cell_keeps ca72 k⟩)
  go_region_held3 (fun w' => w'.cell? ⟨w34.heap.size, 0, none⟩ = some (.slice Bx0 n0 n0) ∧ w'.cell? ⟨w.heap.size, 0, none⟩ = some (.slice A0 n0 c0)) (first | exact kS.out _ (keeps_d0 w63) | exact kS.out _ kW | go_keep)
    ((first | (go_at_call 17; refine (toGeo_any (h0.keeps (Keeps.trans kw (keeps_d0 w63)))).mono ?_; rintro e wB73 ⟨Bt73, rfl, t0, kB⟩; have kW : Keeps w63 wB73 := keeps_d kB; clear kB) | (go_at_call 21; refine (eqGeo_true (x0.1.keeps kW) t0.1).mono ?_; rintro e wC73 ⟨rfl, kC⟩; replace kW : Keeps w63 wC73 := kW.trans kC; clear kC)))
  clear kS t0
  clear ca71 ca72
  have ss74 := kW.size
  replace p0 := p0.keeps kW
  replace p3 := p3.keeps kW
  replace bx0 := bx0.keeps kW
  replace bx3 := bx3.keeps kW
  replace x0 := x0.keeps kW
  replace x1 := x1.keeps kW
  replace x2 := x2.keeps kW
  replace x3 := x3.keeps kW
  replace kw := Keeps.trans kw kW
  have lt75 := bx3.lt
  have sz76 := kw.size
  clear kW
  obtain ⟨ca77, fa77⟩ := id p0
  have ca78_0 : wC73.cell? ⟨w.heap.size + 1, 0, none⟩ = some (.int .i64 v3) := (p3.2 0 _ rfl).1
  have fa78_0 : wC73.frozen? ⟨w.heap.size + 1, 0, none⟩ = false := (p3.2 0 _ rfl).2
  have ca78_1 : wC73.cell? ⟨w.heap.size + 1, 1, none⟩ = some (.slice A3 n3 c3) := (p3.2 1 _ rfl).1
  have fa78_1 : wC73.frozen? ⟨w.heap.size + 1, 1, none⟩ = false := (p3.2 1 _ rfl).2
  have ca78_2 : wC73.cell? ⟨w.heap.size + 1, 2, none⟩ = some (.slice E3 m3 d3) := (p3.2 2 _ rfl).1
  have fa78_2 : wC73.frozen? ⟨w.heap.size + 1, 2, none⟩ = false := (p3.2 2 _ rfl).2
  have ca78_3 : wC73.cell? ⟨w.heap.size + 1, 3, none⟩ = some (.int .i64 s3) := (p3.2 3 _ rfl).1
  have fa78_3 : wC73.frozen? ⟨w.heap.size + 1, 3, none⟩ = false := (p3.2 3 _ rfl).2
  obtain ⟨ca79, fa79⟩ := id bx0
  have ca80_0 : wC73.cell? ⟨w55.heap.size, 0, none⟩ = some (.int .i64 v3) := (bx3.2 0 _ rfl).1
  have fa80_0 : wC73.frozen? ⟨w55.heap.size, 0, none⟩ = false := (bx3.2 0 _ rfl).2
  have ca80_1 : wC73.cell? ⟨w55.heap.size, 1, none⟩ = some (.slice Bx3 n3 n3) := (bx3.2 1 _ rfl).1
  have fa80_1 : wC73.frozen? ⟨w55.heap.size, 1, none⟩ = false := (bx3.2 1 _ rfl).2
  have ca80_2 : wC73.cell? ⟨w55.heap.size, 2, none⟩ = some (.slice Cx3 m3 m3) := (bx3.2 2 _ rfl).1
  have fa80_2 : wC73.frozen? ⟨w55.heap.size, 2, none⟩ = false := (bx3.2 2 _ rfl).2
  have ca80_3 : wC73.cell? ⟨w55.heap.size, 3, none⟩ = some (.int .i64 s3) := (bx3.2 3 _ rfl).1
  have fa80_3 : wC73.frozen? ⟨w55.heap.size, 3, none⟩ = false := (bx3.2 3 _ rfl).2
  go_wp2_with fail
  clear ca77 fa77 ca78_0 fa78_0 ca78_1 fa78_1 ca78_2 fa78_2 ca78_3 fa78_3 ca79 fa79 ca80_0 fa80_0 ca80_1 fa80_1 ca80_2 fa80_2 ca80_3 fa80_3
  refine (toVariableS_any (h1.keeps kw)).mono ?_
  rintro e w81 ⟨Bt1, rfl, t1, k81⟩
  have ss82 := k81.size
  replace p0 := p0.keeps k81
  replace p3 := p3.keeps k81
  replace bx0 := bx0.keeps k81
  replace bx3 := bx3.keeps k81
  replace x0 := x0.keeps k81
  replace x1 := x1.keeps k81
  replace x2 := x2.keeps k81
  replace x3 := x3.keeps k81
  replace kw := Keeps.trans kw k81
  have lt83 := bx3.lt
  have sz84 := kw.size
  clear k81
  obtain ⟨ca85, fa85⟩ := id p0
  have ca86_0 : w81.cell? ⟨w.heap.size + 1, 0, none⟩ = some (.int .i64 v3) := (p3.2 0 _ rfl).1
  have fa86_0 : w81.frozen? ⟨w.heap.size + 1, 0, none⟩ = false := (p3.2 0 _ rfl).2
  have ca86_1 : w81.cell? ⟨w.heap.size + 1, 1, none⟩ = some (.slice A3 n3 c3) := (p3.2 1 _ rfl).1
  have fa86_1 : w81.frozen? ⟨w.heap.size + 1, 1, none⟩ = false := (p3.2 1 _ rfl).2
  have ca86_2 : w81.cell? ⟨w.heap.size + 1, 2, none⟩ = some (.slice E3 m3 d3) := (p3.2 2 _ rfl).1
  have fa86_2 : w81.frozen? ⟨w.heap.size + 1, 2, none⟩ = false := (p3.2 2 _ rfl).2
  have ca86_3 : w81.cell? ⟨w.heap.size + 1, 3, none⟩ = some (.int .i64 s3) := (p3.2 3 _ rfl).1
  have fa86_3 : w81.frozen? ⟨w.heap.size + 1, 3, none⟩ = false := (p3.2 3 _ rfl).2
  obtain ⟨ca87, fa87⟩ := id bx0
  have ca88_0 : w81.cell? ⟨w55.heap.size, 0, none⟩ = some (.int .i64 v3) := (bx3.2 0 _ rfl).1
  have fa88_0 : w81.frozen? ⟨w55.heap.size, 0, none⟩ = false := (bx3.2 0 _ rfl).2
  have ca88_1 : w81.cell? ⟨w55.heap.size, 1, none⟩ = some (.slice Bx3 n3 n3) := (bx3.2 1 _ rfl).1
  have fa88_1 : w81.frozen? ⟨w55.heap.size, 1, none⟩ = false := (bx3.2 1 _ rfl).2
  have ca88_2 : w81.cell? ⟨w55.heap.size, 2, none⟩ = some (.slice Cx3 m3 m3) := (bx3.2 2 _ rfl).1
  have fa88_2 : w81.frozen? ⟨w55.heap.size, 2, none⟩ = false := (bx3.2 2 _ rfl).2
  have ca88_3 : w81.cell? ⟨w55.heap.size, 3, none⟩ = some (.int .i64 s3) := (bx3.2 3 _ rfl).1
  have fa88_3 : w81.frozen? ⟨w55.heap.size, 3, none⟩ = false := (bx3.2 3 _ rfl).2
  go_wp2_with fail
  clear ca85 fa85 ca86_0 fa86_0 ca86_1 fa86_1 ca86_2 fa86_2 ca86_3 fa86_3 ca87 fa87 ca88_0 fa88_0 ca88_1 fa88_1 ca88_2 fa88_2 ca88_3 fa88_3
  refine (eqVariableS_true x1.1 t1.1).mono ?_
  rintro e w89 ⟨rfl, k89⟩
  have ss90 := k89.size
  replace p0 := p0.keeps k89
  replace p3 := p3.keeps k89
  replace bx0 := bx0.keeps k89
  replace bx3 := bx3.keeps k89
  replace x0 := x0.keeps k89
  replace x1 := x1.keeps k89
  replace x2 := x2.keeps k89
  replace x3 := x3.keeps k89
  replace t1 := t1.keeps k89
  replace kw := Keeps.trans kw k89
  have lt91 := bx3.lt
  have sz92 := kw.size
  clear k89
  clear t1
  obtain ⟨ca93, fa93⟩ := id p0
  have ca94_0 : w89.cell? ⟨w.heap.size + 1, 0, none⟩ = some (.int .i64 v3) := (p3.2 0 _ rfl).1
  have fa94_0 : w89.frozen? ⟨w.heap.size + 1, 0, none⟩ = false := (p3.2 0 _ rfl).2
  have ca94_1 : w89.cell? ⟨w.heap.size + 1, 1, none⟩ = some (.slice A3 n3 c3) := (p3.2 1 _ rfl).1
  have fa94_1 : w89.frozen? ⟨w.heap.size + 1, 1, none⟩ = false := (p3.2 1 _ rfl).2
  have ca94_2 : w89.cell? ⟨w.heap.size + 1, 2, none⟩ = some (.slice E3 m3 d3) := (p3.2 2 _ rfl).1
  have fa94_2 : w89.frozen? ⟨w.heap.size + 1, 2, none⟩ = false := (p3.2 2 _ rfl).2
  have ca94_3 : w89.cell? ⟨w.heap.size + 1, 3, none⟩ = some (.int .i64 s3) := (p3.2 3 _ rfl).1
  have fa94_3 : w89.frozen? ⟨w.heap.size + 1, 3, none⟩ = false := (p3.2 3 _ rfl).2
  obtain ⟨ca95, fa95⟩ := id bx0
  have ca96_0 : w89.cell? ⟨w55.heap.size, 0, none⟩ = some (.int .i64 v3) := (bx3.2 0 _ rfl).1
  have fa96_0 : w89.frozen? ⟨w55.heap.size, 0, none⟩ = false := (bx3.2 0 _ rfl).2
  have ca96_1 : w89.cell? ⟨w55.heap.size, 1, none⟩ = some (.slice Bx3 n3 n3) := (bx3.2 1 _ rfl).1
  have fa96_1 : w89.frozen? ⟨w55.heap.size, 1, none⟩ = false := (bx3.2 1 _ rfl).2
  have ca96_2 : w89.cell? ⟨w55.heap.size, 2, none⟩ = some (.slice Cx3 m3 m3) := (bx3.2 2 _ rfl).1
  have fa96_2 : w89.frozen? ⟨w55.heap.size, 2, none⟩ = false := (bx3.2 2 _ rfl).2
  have ca96_3 : w89.cell? ⟨w55.heap.size, 3, none⟩ = some (.int .i64 s3) := (bx3.2 3 _ rfl).1
  have fa96_3 : w89.frozen? ⟨w55.heap.size, 3, none⟩ = false := (bx3.2 3 _ rfl).2
  go_wp2_with fail
  clear ca93 fa93 ca94_0 fa94_0 ca94_1 fa94_1 ca94_2 fa94_2 ca94_3 fa94_3 ca95 fa95 ca96_0 fa96_0 ca96_1 fa96_1 ca96_2 fa96_2 ca96_3 fa96_3
  refine (toReleaseS_any (h2.keeps kw)).mono ?_
  rintro e w97 ⟨Bt2, rfl, t2, k97⟩
  have ss98 := k97.size
  replace p0 := p0.keeps k97
  replace p3 := p3.keeps k97
  replace bx0 := bx0.keeps k97
  replace bx3 := bx3.keeps k97
  replace x0 := x0.keeps k97
  replace x1 := x1.keeps k97
  replace x2 := x2.keeps k97
  replace x3 := x3.keeps k97
  replace kw := Keeps.trans kw k97
  have lt99 := bx3.lt
  have sz100 := kw.size
  clear k97
  obtain ⟨ca101, fa101⟩ := id p0
  have ca102_0 : w97.cell? ⟨w.heap.size + 1, 0, none⟩ = some (.int .i64 v3) := (p3.2 0 _ rfl).1
  have fa102_0 : w97.frozen? ⟨w.heap.size + 1, 0, none⟩ = false := (p3.2 0 _ rfl).2
  have ca102_1 : w97.cell? ⟨w.heap.size + 1, 1, none⟩ = some (.slice A3 n3 c3) := (p3.2 1 _ rfl).1
  have fa102_1 : w97.frozen? ⟨w.heap.size + 1, 1, none⟩ = false := (p3.2 1 _ rfl).2
  have ca102_2 : w97.cell? ⟨w.heap.size + 1, 2, none⟩ = some (.slice E3 m3 d3) := (p3.2 2 _ rfl).1
  have fa102_2 : w97.frozen? ⟨w.heap.size + 1, 2, none⟩ = false := (p3.2 2 _ rfl).2
  have ca102_3 : w97.cell? ⟨w.heap.size + 1, 3, none⟩ = some (.int .i64 s3) := (p3.2 3 _ rfl).1
  have fa102_3 : w97.frozen? ⟨w.heap.size + 1, 3, none⟩ = false := (p3.2 3 _ rfl).2
  obtain ⟨ca103, fa103⟩ := id bx0
  have ca104_0 : w97.cell? ⟨w55.heap.size, 0, none⟩ = some (.int .i64 v3) := (bx3.2 0 _ rfl).1
  have fa104_0 : w97.frozen? ⟨w55.heap.size, 0, none⟩ = false := (bx3.2 0 _ rfl).2
  have ca104_1 : w97.cell? ⟨w55.heap.size, 1, none⟩ = some (.slice Bx3 n3 n3) := (bx3.2 1 _ rfl).1
  have fa104_1 : w97.frozen? ⟨w55.heap.size, 1, none⟩ = false := (bx3.2 1 _ rfl).2
  have ca104_2 : w97.cell? ⟨w55.heap.size, 2, none⟩ = some (.slice Cx3 m3 m3) := (bx3.2 2 _ rfl).1
  have fa104_2 : w97.frozen? ⟨w55.heap.size, 2, none⟩ = false := (bx3.2 2 _ rfl).2
  have ca104_3 : w97.cell? ⟨w55.heap.size, 3, none⟩ = some (.int .i64 s3) := (bx3.2 3 _ rfl).1
  have fa104_3 : w97.frozen? ⟨w55.heap.size, 3, none⟩ = false := (bx3.2 3 _ rfl).2
  go_wp2_with fail
  clear ca101 fa101 ca102_0 fa102_0 ca102_1 fa102_1 ca102_2 fa102_2 ca102_3 fa102_3 ca103 fa103 ca104_0 fa104_0 ca104_1 fa104_1 ca104_2 fa104_2 ca104_3 fa104_3
  refine (eqReleaseS_true x2 t2).mono ?_
  rintro e w105 ⟨rfl, k105⟩
  have ss106 := k105.size
  replace p0 := p0.keeps k105
  replace p3 := p3.keeps k105
  replace bx0 := bx0.keeps k105
  replace bx3 := bx3.keeps k105
  replace x0 := x0.keeps k105
  replace x1 := x1.keeps k105
  replace x2 := x2.keeps k105
  replace x3 := x3.keeps k105
  replace t2 := t2.keeps k105
  replace kw := Keeps.trans kw k105
  have lt107 := bx3.lt
  have sz108 := kw.size
  clear k105
  clear t2
  obtain ⟨ca109, fa109⟩ := id p0
  have ca110_0 : w105.cell? ⟨w.heap.size + 1, 0, none⟩ = some (.int .i64 v3) := (p3.2 0 _ rfl).1
  have fa110_0 : w105.frozen? ⟨w.heap.size + 1, 0, none⟩ = false := (p3.2 0 _ rfl).2
  have ca110_1 : w105.cell? ⟨w.heap.size + 1, 1, none⟩ = some (.slice A3 n3 c3) := (p3.2 1 _ rfl).1
  have fa110_1 : w105.frozen? ⟨w.heap.size + 1, 1, none⟩ = false := (p3.2 1 _ rfl).2
  have ca110_2 : w105.cell? ⟨w.heap.size + 1, 2, none⟩ = some (.slice E3 m3 d3) := (p3.2 2 _ rfl).1
  have fa110_2 : w105.frozen? ⟨w.heap.size + 1, 2, none⟩ = false := (p3.2 2 _ rfl).2
  have ca110_3 : w105.cell? ⟨w.heap.size + 1, 3, none⟩ = some (.int .i64 s3) := (p3.2 3 _ rfl).1
  have fa110_3 : w105.frozen? ⟨w.heap.size + 1, 3, none⟩ = false := (p3.2 3 _ rfl).2
  obtain ⟨ca111, fa111⟩ := id bx0
  have ca112_0 : w105.cell? ⟨w55.heap.size, 0, none⟩ = some (.int .i64 v3) := (bx3.2 0 _ rfl).1
  have fa112_0 : w105.frozen? ⟨w55.heap.size, 0, none⟩ = false := (bx3.2 0 _ rfl).2
  have ca112_1 : w105.cell? ⟨w55.heap.size, 1, none⟩ = some (.slice Bx3 n3 n3) := (bx3.2 1 _ rfl).1
  have fa112_1 : w105.frozen? ⟨w55.heap.size, 1, none⟩ = false := (bx3.2 1 _ rfl).2
  have ca112_2 : w105.cell? ⟨w55.heap.size, 2, none⟩ = some (.slice Cx3 m3 m3) := (bx3.2 2 _ rfl).1
  have fa112_2 : w105.frozen? ⟨w55.heap.size, 2, none⟩ = false := (bx3.2 2 _ rfl).2
  have ca112_3 : w105.cell? ⟨w55.heap.size, 3, none⟩ = some (.int .i64 s3) := (bx3.2 3 _ rfl).1
  have fa112_3 : w105.frozen? ⟨w55.heap.size, 3, none⟩ = false := (bx3.2 3 _ rfl).2
  go_wp2_with fail
  clear ca109 fa109 ca110_0 fa110_0 ca110_1 fa110_1 ca110_2 fa110_2 ca110_3 fa110_3 ca111 fa111 ca112_0 fa112_0 ca112_1 fa112_1 ca112_2 fa112_2 ca112_3 fa112_3
  have ca113_0 : w105.cell? ⟨w55.heap.size, 0, none⟩ = some (.int .i64 v3) := (bx3.2 0 _ rfl).1
  have ca113_1 : w105.cell? ⟨w55.heap.size, 1, none⟩ = some (.slice Bx3 n3 n3) := (bx3.2 1 _ rfl).1
  have ca113_2 : w105.cell? ⟨w55.heap.size, 2, none⟩ = some (.slice Cx3 m3 m3) := (bx3.2 2 _ rfl).1
  have ca113_3 : w105.cell? ⟨w55.heap.size, 3, none⟩ = some (.int .i64 s3) := (bx3.2 3 _ rfl).1
  have ca114_0 : w105.cell? ⟨w.heap.size + 1, 0, none⟩ = some (.int .i64 v3) := (p3.2 0 _ rfl).1
  have ca114_1 : w105.cell? ⟨w.heap.size + 1, 1, none⟩ = some (.slice A3 n3 c3) := (p3.2 1 _ rfl).1
  have ca114_2 : w105.cell? ⟨w.heap.size + 1, 2, none⟩ = some (.slice E3 m3 d3) := (p3.2 2 _ rfl).1
  have ca114_3 : w105.cell? ⟨w.heap.size + 1, 3, none⟩ = some (.int .i64 s3) := (p3.2 3 _ rfl).1
  have kS := hid (show ∀ w', Keeps w105 w' → (w'.cell? ⟨w55.heap.size, 0, none⟩ = some (.int .i64 v3) ∧ w'.cell? ⟨w55.heap.size, 1, none⟩ = some (.slice Bx3 n3 n3) ∧ w'.cell? ⟨w55.heap.size, 2, none⟩ = some (.slice Cx3 m3 m3) ∧ w'.cell? ⟨w55.heap.size, 3, none⟩ = some (.int .i64 s3) ∧ w'.cell? ⟨w.heap.size + 1, 0, none⟩ = some (.int .i64 v3) ∧ w'.cell? ⟨w.heap.size + 1, 1, none⟩ = some (.slice A3 n3 c3) ∧ w'.cell? ⟨w.heap.size + 1, 2, none⟩ = some (.slice E3 m3 d3) ∧ w'.cell? ⟨w.heap.size + 1, 3, none⟩ = some (.int .i64 s3)) from fun w' k => ⟨cell_keeps ca113_0 k, cell_keeps ca113_1 k, cell_keeps ca113_2 k, cell_keeps ca113_3 k, cell_keeps ca114_0 k, cell_keeps ca114_1 k, cell_keeps ca114_2 k, cell_keeps ca114_3 k⟩)
  go_region_held3 (fun w' => w'.cell? ⟨w55.heap.size, 0, none⟩ = some (.int .i64 v3) ∧ w'.cell? ⟨w55.heap.size, 1, none⟩ = some (.slice Bx3 n3 n3) ∧ w'.cell? ⟨w55.heap.size, 2, none⟩ = some (.slice Cx3 m3 m3) ∧ w'.cell? ⟨w55.heap.size, 3, none⟩ = some (.int .i64 s3) ∧ w'.cell? ⟨w.heap.size + 1, 0, none⟩ = some (.int .i64 v3) ∧ w'.cell? ⟨w.heap.size + 1, 1, none⟩ = some (.slice A3 n3 c3) ∧ w'.cell? ⟨w.heap.size + 1, 2, none⟩ = some (.slice E3 m3 d3) ∧ w'.cell? ⟨w.heap.size + 1, 3, none⟩ = some (.int .i64 s3)) (first | exact kS.out _ (keeps_d0 w105) | exact kS.out _ kW | go_keep)
    ((first | (go_at_call 48; refine (toTable_any (h3.1.keeps (Keeps.trans kw (keeps_d0 w105))) (h3.2.keeps (Keeps.trans kw (keeps_d0 w105)))).mono ?_; rintro e wB115 ⟨Bt115, Ct115, rfl, ta3, tb3, kB⟩; have t3 := IntsPair.mk ta3 tb3; clear ta3 tb3; have kW : Keeps w105 wB115 := keeps_d kB; clear kB) | (go_at_call 50; refine (eqTable_true (x3.a.keeps kW) (x3.b.keeps kW) t3.a t3.b).mono ?_; rintro e wC115 ⟨rfl, kC⟩; replace kW : Keeps w105 wC115 := kW.trans kC; clear kC)))
  clear kS t3
  clear ca113_0 ca113_1 ca113_2 ca113_3 ca114_0 ca114_1 ca114_2 ca114_3
  have ss116 := kW.size
  replace p0 := p0.keeps kW
  replace p3 := p3.keeps kW
  replace bx0 := bx0.keeps kW
  replace bx3 := bx3.keeps kW
  replace x0 := x0.keeps kW
  replace x1 := x1.keeps kW
  replace x2 := x2.keeps kW
  replace x3 := x3.keeps kW
  replace kw := Keeps.trans kw kW
  have lt117 := bx3.lt
  have sz118 := kw.size
  clear kW
  obtain ⟨ca119, fa119⟩ := id p0
  have ca120_0 : wC115.cell? ⟨w.heap.size + 1, 0, none⟩ = some (.int .i64 v3) := (p3.2 0 _ rfl).1
  have fa120_0 : wC115.frozen? ⟨w.heap.size + 1, 0, none⟩ = false := (p3.2 0 _ rfl).2
  have ca120_1 : wC115.cell? ⟨w.heap.size + 1, 1, none⟩ = some (.slice A3 n3 c3) := (p3.2 1 _ rfl).1
  have fa120_1 : wC115.frozen? ⟨w.heap.size + 1, 1, none⟩ = false := (p3.2 1 _ rfl).2
  have ca120_2 : wC115.cell? ⟨w.heap.size + 1, 2, none⟩ = some (.slice E3 m3 d3) := (p3.2 2 _ rfl).1
  have fa120_2 : wC115.frozen? ⟨w.heap.size + 1, 2, none⟩ = false := (p3.2 2 _ rfl).2
  have ca120_3 : wC115.cell? ⟨w.heap.size + 1, 3, none⟩ = some (.int .i64 s3) := (p3.2 3 _ rfl).1
  have fa120_3 : wC115.frozen? ⟨w.heap.size + 1, 3, none⟩ = false := (p3.2 3 _ rfl).2
  obtain ⟨ca121, fa121⟩ := id bx0
  have ca122_0 : wC115.cell? ⟨w55.heap.size, 0, none⟩ = some (.int .i64 v3) := (bx3.2 0 _ rfl).1
  have fa122_0 : wC115.frozen? ⟨w55.heap.size, 0, none⟩ = false := (bx3.2 0 _ rfl).2
  have ca122_1 : wC115.cell? ⟨w55.heap.size, 1, none⟩ = some (.slice Bx3 n3 n3) := (bx3.2 1 _ rfl).1
  have fa122_1 : wC115.frozen? ⟨w55.heap.size, 1, none⟩ = false := (bx3.2 1 _ rfl).2
  have ca122_2 : wC115.cell? ⟨w55.heap.size, 2, none⟩ = some (.slice Cx3 m3 m3) := (bx3.2 2 _ rfl).1
  have fa122_2 : wC115.frozen? ⟨w55.heap.size, 2, none⟩ = false := (bx3.2 2 _ rfl).2
  have ca122_3 : wC115.cell? ⟨w55.heap.size, 3, none⟩ = some (.int .i64 s3) := (bx3.2 3 _ rfl).1
  have fa122_3 : wC115.frozen? ⟨w55.heap.size, 3, none⟩ = false := (bx3.2 3 _ rfl).2
  go_wp2_with fail
  clear ca119 fa119 ca120_0 fa120_0 ca120_1 fa120_1 ca120_2 fa120_2 ca120_3 fa120_3 ca121 fa121 ca122_0 fa122_0 ca122_1 fa122_1 ca122_2 fa122_2 ca122_3 fa122_3
  go_ret
  exact ⟨rfl, kw⟩
end Go.Proofs.Ytklolfeijjnaoaa
