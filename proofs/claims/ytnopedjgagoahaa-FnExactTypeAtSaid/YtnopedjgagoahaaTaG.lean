/- The law FnExactTypeAt: the walk. -/
import Derived.Test.YtnopedjgagoahaaTaF
import Derived.Test.YtnopedjgagoahaaOpV
import Derived.Test.YtnopedjgagoahaaKB
import Derived.Deep.RegionHeld3
namespace Go.Proofs.Ytnopedjgagoahaa
open Go.ChangeShapes Go.WideShapes Go.ChangeAt Go.RowKit
set_option linter.unusedVariables false
set_option linter.unusedSimpArgs false
set_option maxRecDepth 100000 in
set_option maxHeartbeats 6400000 in
theorem FnExactTypeAt_law (A0 : Option Addr) (n0 c0 : Nat) (z0 : List Int) (A1 : Option Addr) (n1 c1 : Nat) (z1 : List VV) (a2 : Int) (w : World) (wa0 : IntsArg w A0 n0 z0) (wa1 : VarsArg w A1 n1 z1) (wa2 : (Lit.int .i64 a2).wf = true) :
    Calls Try.prog 7 #[.agg #[.slice A0 n0 c0], .slice A1 n1 c1, .int .i64 a2] w fun e w' => e = .returned (.bool true) ∧ Below w.heap.size w w' := by
  have HNK := hid (show NamesOk z1 from wa1.2.2.1)
  go_enter Try.func7, Try.ntmps7
  have kw := keeps_refl w
  replace kw := Keeps.trans kw (keeps_alloc w (.cells #[.slice A0 n0 c0] 81))
  have p0 : B1 (w.alloc (.cells #[.slice A0 n0 c0] 81)) w.heap.size (.slice A0 n0 c0) := B1.new' (by simp)
  obtain ⟨ca1, fa1⟩ := id p0
  go_wp2_with fail
  clear ca1 fa1
  by_cases hs0 : (n0 : Int) ≤ 1048576
  rotate_left
  · have hm0 := wa0.1
    refine (szGeo_no _ _ _ (1048576) _ hm0 (by omega) (by omega) (by omega)).mono ?_
    rintro e w2 ⟨rfl, k2⟩
    have ss3 := k2.size
    simp at ss3
    replace p0 := p0.keeps k2
    replace kw := Keeps.trans kw k2
    have lt4 := p0.lt
    have sz5 := kw.size
    clear k2
    go_wp2_with fail
    go_ret
    exact ⟨rfl, kw⟩
  have h0 := wa0.ints (by omega)
  refine (szGeo_ok _ _ _ (1048576) _ (by omega) (by omega)).mono ?_
  rintro e w2 ⟨rfl, k2⟩
  have ss3 := k2.size
  simp at ss3
  replace p0 := p0.keeps k2
  replace kw := Keeps.trans kw k2
  have lt4 := p0.lt
  have sz5 := kw.size
  clear k2
  have tz0 : ¬ (1048576 - (n0 : Int) < 0) := by omega
  obtain ⟨ca6, fa6⟩ := id p0
  go_wp2_with fail
  clear ca6 fa6
  by_cases hs1 : ((n1 : Int) + vsz z1 n1) ≤ 1048576 - (n0 : Int)
  rotate_left
  · have hm1 := wa1.1
    refine (szVariableS_any (left := 1048576 - (n0 : Int)) (wa1.keeps kw) (by omega) (by omega)).mono ?_
    rintro e w7 ⟨rfl, k7⟩
    rw [szVs_no (left := 1048576 - (n0 : Int)) (n := n1) (l := z1) (by omega)]
    have ss8 := k7.size
    replace p0 := p0.keeps k7
    replace kw := Keeps.trans kw k7
    have lt9 := p0.lt
    have sz10 := kw.size
    clear k7
    go_wp2_with fail
    go_ret
    exact ⟨rfl, kw⟩
  have h1 := wa1.vars (by omega)
  refine (szVariableS_any (left := 1048576 - (n0 : Int)) (wa1.keeps kw) (by omega) (by omega)).mono ?_
  rintro e w7 ⟨rfl, k7⟩
  rw [szVs_ok (left := 1048576 - (n0 : Int)) (n := n1) (l := z1) (by omega)]
  have ss8 := k7.size
  replace p0 := p0.keeps k7
  replace kw := Keeps.trans kw k7
  have lt9 := p0.lt
  have sz10 := kw.size
  clear k7
  have tz1 : ¬ (1048576 - (n0 : Int) - ((n1 : Int) + vsz z1 n1) < 0) := by omega
  obtain ⟨ca11, fa11⟩ := id p0
  go_wp2_with fail
  clear ca11 fa11
  obtain ⟨r0, r1, r2, HR⟩ : ∃ r0 r1 r2, Hid (taQ z0 z1 a2 = (r0, r1, r2)) := ⟨_, _, _, rfl⟩
  refine (toGeo_any (h0.keeps kw)).mono ?_
  rintro e w12 ⟨By0, rfl, y0, k12⟩
  have ss13 := k12.size
  replace p0 := p0.keeps k12
  replace kw := Keeps.trans kw k12
  have lt14 := p0.lt
  have sz15 := kw.size
  clear k12
  obtain ⟨ca16, fa16⟩ := id p0
  go_wp2_with fail
  clear ca16 fa16
  refine (toVariableS_any (h1.keeps kw)).mono ?_
  rintro e w17 ⟨By1, rfl, y1, k17⟩
  have ss18 := k17.size
  replace p0 := p0.keeps k17
  replace y0 := y0.keeps k17
  replace kw := Keeps.trans kw k17
  have lt19 := p0.lt
  have sz20 := kw.size
  clear k17
  obtain ⟨ca21, fa21⟩ := id p0
  go_wp2_with fail
  clear ca21 fa21
  refine (specTypeAt_any y0.1 y1.1 HNK.out).mono ?_
  rintro e w22 ⟨p_A1, p_N1, p_C1, rfl, p_1, k22⟩
  have ss23 := k22.size
  replace p0 := p0.keeps k22
  replace y0 := y0.keeps k22
  replace y1 := y1.keeps k22
  replace kw := Keeps.trans kw k22
  have lt24 := p0.lt
  have sz25 := kw.size
  clear k22
  rw [HR.out]
  rw [HR.out] at p_1
  dsimp only at p_1
  dsimp only
  clear y0
  clear y1
  obtain ⟨ca26, fa26⟩ := id p0
  go_wp2_with fail
  clear ca26 fa26
  refine (toGeo_any (h0.keeps kw)).mono ?_
  rintro e w27 ⟨Bx0, rfl, x0, k27⟩
  have ss28 := k27.size
  replace p0 := p0.keeps k27
  replace p_1 := p_1.keeps k27
  replace kw := Keeps.trans kw k27
  have lt29 := p0.lt
  have sz30 := kw.size
  clear k27
  replace p0 := p0.keeps (keeps_alloc w27 (.cells #[.slice Bx0 n0 n0] 53))
  replace p_1 := p_1.keeps (keeps_alloc w27 (.cells #[.slice Bx0 n0 n0] 53))
  replace x0 := x0.keeps (keeps_alloc w27 (.cells #[.slice Bx0 n0 n0] 53))
  replace kw := Keeps.trans kw (keeps_alloc w27 (.cells #[.slice Bx0 n0 n0] 53))
  have bx0 : B1 (w27.alloc (.cells #[.slice Bx0 n0 n0] 53)) w27.heap.size (.slice Bx0 n0 n0) := B1.new' (by simp)
  obtain ⟨ca31, fa31⟩ := id p0
  obtain ⟨ca32, fa32⟩ := id bx0
  go_wp2_with fail
  clear ca31 fa31 ca32 fa32
  refine (toVariableS_any (h1.keeps kw)).mono ?_
  rintro e w33 ⟨Bx1, rfl, x1, k33⟩
  have ss34 := k33.size
  simp at ss34
  replace p0 := p0.keeps k33
  replace bx0 := bx0.keeps k33
  replace p_1 := p_1.keeps k33
  replace x0 := x0.keeps k33
  replace kw := Keeps.trans kw k33
  have lt35 := bx0.lt
  have sz36 := kw.size
  clear k33
  replace x1 := x1.widen (lo' := w27.heap.size + 1) (by simp) (Nat.le_refl _) (Nat.le_refl _)
  obtain ⟨ca37, fa37⟩ := id p0
  obtain ⟨ca38, fa38⟩ := id bx0
  go_wp2_with fail
  clear ca37 fa37 ca38 fa38
  refine (implTypeAt_any x0.1 x1.1 HNK.out).mono ?_
  rintro e w39 ⟨g_A1, g_N1, g_C1, rfl, g_1, k39⟩
  have ss40 := k39.size
  replace p0 := p0.keeps k39
  replace bx0 := bx0.keeps k39
  replace p_1 := p_1.keeps k39
  replace x0 := x0.keeps k39
  replace x1 := x1.keeps k39
  replace kw := Keeps.trans kw k39
  have lt41 := bx0.lt
  have sz42 := kw.size
  clear k39
  rw [HR.out]
  rw [HR.out] at g_1
  dsimp only at g_1
  dsimp only
  obtain ⟨ca43, fa43⟩ := id p0
  obtain ⟨ca44, fa44⟩ := id bx0
  go_wp2_with fail
  clear ca43 fa43 ca44 fa44
  have e0 : (r0 != r0) = false := by simp
  have e2 : (r2 != r2) = false := by simp
  refine (eqIntS_true g_1.1 p_1.1).mono ?_
  rintro e w45 ⟨rfl, k45⟩
  replace k45 := Quiet.keeps k45
  have ss46 := k45.size
  replace p0 := p0.keeps k45
  replace bx0 := bx0.keeps k45
  replace p_1 := p_1.keeps k45
  replace x0 := x0.keeps k45
  replace x1 := x1.keeps k45
  replace g_1 := g_1.keeps k45
  replace kw := Keeps.trans kw k45
  have lt47 := bx0.lt
  have sz48 := kw.size
  clear k45
  obtain ⟨ca49, fa49⟩ := id p0
  obtain ⟨ca50, fa50⟩ := id bx0
  go_wp2_with fail
  clear ca49 fa49 ca50 fa50
  obtain ⟨ca51, -⟩ := id bx0
  obtain ⟨ca52, -⟩ := id p0
  have kS := hid (show ∀ w', Keeps w45 w' → (w'.cell? ⟨w27.heap.size, 0, none⟩ = some (.slice Bx0 n0 n0) ∧ w'.cell? ⟨w.heap.size, 0, none⟩ = some (.slice A0 n0 c0)) from fun w' k => ⟨cell_keeps ca51 k, cell_keeps ca52 k⟩)
  go_region_held3 (fun w' => w'.cell? ⟨w27.heap.size, 0, none⟩ = some (.slice Bx0 n0 n0) ∧ w'.cell? ⟨w.heap.size, 0, none⟩ = some (.slice A0 n0 c0)) (first | exact kS.out _ (keeps_d0 w45) | exact kS.out _ kW | go_keep)
    ((first | (go_at_call 54; refine (toGeo_any (h0.keeps (Keeps.trans kw (keeps_d0 w45)))).mono ?_; rintro e wB53 ⟨Bt53, rfl, t0, kB⟩; have kW : Keeps w45 wB53 := keeps_d kB; clear kB) | (go_at_call 58; refine (eqGeo_true (x0.1.keeps kW) t0.1).mono ?_; rintro e wC53 ⟨rfl, kC⟩; replace kW : Keeps w45 wC53 := kW.trans kC; clear kC)))
  clear kS t0
  clear ca51 ca52
  have ss54 := kW.size
  replace p0 := p0.keeps kW
  replace bx0 := bx0.keeps kW
  replace p_1 := p_1.keeps kW
  replace x0 := x0.keeps kW
  replace x1 := x1.keeps kW
  replace g_1 := g_1.keeps kW
  replace kw := Keeps.trans kw kW
  have lt55 := bx0.lt
  have sz56 := kw.size
  clear kW
  obtain ⟨ca57, fa57⟩ := id p0
  obtain ⟨ca58, fa58⟩ := id bx0
  go_wp2_with fail
  clear ca57 fa57 ca58 fa58
  refine (toVariableS_any (h1.keeps kw)).mono ?_
  rintro e w59 ⟨Bt1, rfl, t1, k59⟩
  have ss60 := k59.size
  replace p0 := p0.keeps k59
  replace bx0 := bx0.keeps k59
  replace p_1 := p_1.keeps k59
  replace x0 := x0.keeps k59
  replace x1 := x1.keeps k59
  replace g_1 := g_1.keeps k59
  replace kw := Keeps.trans kw k59
  have lt61 := bx0.lt
  have sz62 := kw.size
  clear k59
  obtain ⟨ca63, fa63⟩ := id p0
  obtain ⟨ca64, fa64⟩ := id bx0
  go_wp2_with fail
  clear ca63 fa63 ca64 fa64
  refine (eqVariableS_true x1.1 t1.1).mono ?_
  rintro e w65 ⟨rfl, k65⟩
  have ss66 := k65.size
  replace p0 := p0.keeps k65
  replace bx0 := bx0.keeps k65
  replace p_1 := p_1.keeps k65
  replace x0 := x0.keeps k65
  replace x1 := x1.keeps k65
  replace g_1 := g_1.keeps k65
  replace t1 := t1.keeps k65
  replace kw := Keeps.trans kw k65
  have lt67 := bx0.lt
  have sz68 := kw.size
  clear k65
  clear t1
  obtain ⟨ca69, fa69⟩ := id p0
  obtain ⟨ca70, fa70⟩ := id bx0
  go_wp2_with fail
  clear ca69 fa69 ca70 fa70
  refine (markGeo_any x0 (by omega) (by omega)).mono ?_
  rintro e w71 ⟨rfl, mk71, f71⟩
  clear x0
  replace p0 := p0.fr f71 (by omega)
  replace bx0 := bx0.fr f71 (by omega)
  replace p_1 := p_1.fr f71 (by omega)
  replace x1 := x1.fr f71 (by omega)
  replace g_1 := g_1.fr f71 (by omega)
  have ssf71 := f71.size
  replace kw := below_fr kw kw.size (by omega) f71
  obtain ⟨ca72, fa72⟩ := id p0
  obtain ⟨ca73, fa73⟩ := id bx0
  go_wp2_with fail
  clear ca72 fa72 ca73 fa73
  clear mk71
  refine (markVs_any x1 (by omega) (by omega) (by omega)).mono ?_
  rintro e w74 ⟨rfl, mk74, f74⟩
  clear x1
  replace p0 := p0.fr f74 (by omega)
  replace bx0 := bx0.fr f74 (by omega)
  replace p_1 := p_1.fr f74 (by omega)
  replace g_1 := g_1.fr f74 (by omega)
  have ssf74 := f74.size
  replace kw := below_fr kw kw.size (by omega) f74
  obtain ⟨ca75, fa75⟩ := id p0
  obtain ⟨ca76, fa76⟩ := id bx0
  go_wp2_with fail
  clear ca75 fa75 ca76 fa76
  clear mk74
  refine (eqIntS_true g_1.1 p_1.1).mono ?_
  rintro e w77 ⟨rfl, k77⟩
  replace k77 := Quiet.keeps k77
  have ss78 := k77.size
  replace p0 := p0.keeps k77
  replace bx0 := bx0.keeps k77
  replace p_1 := p_1.keeps k77
  replace g_1 := g_1.keeps k77
  replace kw := Keeps.trans kw k77
  have lt79 := bx0.lt
  have sz80 := kw.size
  clear k77
  obtain ⟨ca81, fa81⟩ := id p0
  obtain ⟨ca82, fa82⟩ := id bx0
  go_wp2_with fail
  clear ca81 fa81 ca82 fa82
  refine (markIntS_any g_1 (by omega) (by omega)).mono ?_
  rintro e w83 ⟨rfl, mk83, f83⟩
  clear g_1
  replace p0 := p0.fr f83 (by omega)
  replace bx0 := bx0.fr f83 (by omega)
  replace p_1 := p_1.fr f83 (by omega)
  have ssf83 := f83.size
  replace kw := below_fr kw kw.size (by omega) f83
  obtain ⟨ca84, fa84⟩ := id p0
  obtain ⟨ca85, fa85⟩ := id bx0
  go_wp2_with fail
  clear ca84 fa84 ca85 fa85
  have u1 : ((1 + (g_N1 : Int)) != (1 + (g_N1 : Int))) = false := by simp
  refine (heldIntS_any mk83.1 (by omega) (by omega)).mono ?_
  rintro e w' ⟨rfl, rfl⟩
  obtain ⟨ca86, fa86⟩ := id p0
  obtain ⟨ca87, fa87⟩ := id bx0
  go_wp2_with fail
  clear ca86 fa86 ca87 fa87
  refine (toGeo_any (h0.keeps kw)).mono ?_
  rintro e w88 ⟨Bv0, rfl, v0, k88⟩
  have ss89 := k88.size
  replace p0 := p0.keeps k88
  replace bx0 := bx0.keeps k88
  replace p_1 := p_1.keeps k88
  replace mk83 := mk83.keeps k88
  replace kw := Keeps.trans kw k88
  have lt90 := bx0.lt
  have sz91 := kw.size
  clear k88
  obtain ⟨ca92, fa92⟩ := id p0
  obtain ⟨ca93, fa93⟩ := id bx0
  go_wp2_with fail
  clear ca92 fa92 ca93 fa93
  refine (toVariableS_any (h1.keeps kw)).mono ?_
  rintro e w94 ⟨Bv1, rfl, v1, k94⟩
  have ss95 := k94.size
  replace p0 := p0.keeps k94
  replace bx0 := bx0.keeps k94
  replace p_1 := p_1.keeps k94
  replace mk83 := mk83.keeps k94
  replace v0 := v0.keeps k94
  replace kw := Keeps.trans kw k94
  have lt96 := bx0.lt
  have sz97 := kw.size
  clear k94
  obtain ⟨ca98, fa98⟩ := id p0
  obtain ⟨ca99, fa99⟩ := id bx0
  go_wp2_with fail
  clear ca98 fa98 ca99 fa99
  refine (implTypeAt_any v0.1 v1.1 HNK.out).mono ?_
  rintro e w100 ⟨h_A1, h_N1, h_C1, rfl, h_1, k100⟩
  have ss101 := k100.size
  replace p0 := p0.keeps k100
  replace bx0 := bx0.keeps k100
  replace p_1 := p_1.keeps k100
  replace mk83 := mk83.keeps k100
  replace v0 := v0.keeps k100
  replace v1 := v1.keeps k100
  replace kw := Keeps.trans kw k100
  have lt102 := bx0.lt
  have sz103 := kw.size
  clear k100
  rw [HR.out]
  rw [HR.out] at h_1
  dsimp only at h_1
  dsimp only
  clear v0
  clear v1
  obtain ⟨ca104, fa104⟩ := id p0
  obtain ⟨ca105, fa105⟩ := id bx0
  go_wp2_with fail
  clear ca104 fa104 ca105 fa105
  refine (eqIntS_true h_1.1 p_1.1).mono ?_
  rintro e w106 ⟨rfl, k106⟩
  replace k106 := Quiet.keeps k106
  have ss107 := k106.size
  replace p0 := p0.keeps k106
  replace bx0 := bx0.keeps k106
  replace p_1 := p_1.keeps k106
  replace mk83 := mk83.keeps k106
  replace h_1 := h_1.keeps k106
  replace kw := Keeps.trans kw k106
  have lt108 := bx0.lt
  have sz109 := kw.size
  clear k106
  obtain ⟨ca110, fa110⟩ := id p0
  obtain ⟨ca111, fa111⟩ := id bx0
  go_wp2_with fail
  clear ca110 fa110 ca111 fa111
  refine (heldIntS_any mk83.1 (by omega) (by omega)).mono ?_
  rintro e w' ⟨rfl, rfl⟩
  obtain ⟨ca112, fa112⟩ := id p0
  obtain ⟨ca113, fa113⟩ := id bx0
  go_wp2_with fail
  clear ca112 fa112 ca113 fa113
  go_ret
  exact ⟨rfl, kw⟩
end Go.Proofs.Ytnopedjgagoahaa
