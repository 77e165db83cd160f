/- The laws FnExactAgrees: the walks. -/
import Derived.Test.YtellocnplemjmaaAgr
import Derived.Test.YtellocnplemjmaaOpV
import Derived.Test.YtellocnplemjmaaKB
import Derived.Deep.RegionHeld3
namespace Go.Proofs.Ytellocnplemjmaa
open Go.ChangeShapes Go.WideShapes Go.ChangeAt Go.RowKit
set_option linter.unusedVariables false
set_option linter.unusedSimpArgs false
set_option maxRecDepth 100000 in
set_option maxHeartbeats 6400000 in
theorem FnExactAgrees_law (A0 : Option Addr) (n0 c0 : Nat) (z0 : List Int) (A1 : Option Addr) (n1 c1 : Nat) (z1 : List VV) (A2 : Option Addr) (n2 c2 : Nat) (z2 : List PP) (A3 : Option Addr) (n3 c3 : Nat) (z3 : List Int) (w : World) (wa0 : IntsArg w A0 n0 z0) (wa1 : VarsArg w A1 n1 z1) (wa2 : PubsArg w A2 n2 z2) (wa3 : IntsArg w A3 n3 z3) :
    Calls Try.prog 4 #[.agg #[.slice A0 n0 c0], .slice A1 n1 c1, .slice A2 n2 c2, .slice A3 n3 c3] w fun e w' => e = .returned (.bool true) ∧ Below w.heap.size w w' := by
  by_cases hn3 : n3 ≤ 1048576
  rotate_left
  · have hlt : (1048576 : Int) < (n3 : Int) := by omega
    go_enter Try.func4, Try.ntmps4
    have kw := keeps_refl w
    replace kw := Keeps.trans kw (keeps_alloc w (.cells #[.slice A0 n0 c0] 24))
    have p0 : B1 (w.alloc (.cells #[.slice A0 n0 c0] 24)) w.heap.size (.slice A0 n0 c0) := B1.new' (by simp)
    go_wp2_with fail
    go_ret
    exact ⟨rfl, kw⟩
  have h3 := wa3.ints (by omega)
  have HNK := hid (show NamesOk z1 from wa1.2.2.1)
  go_enter Try.func4, Try.ntmps4
  have kw := keeps_refl w
  replace kw := Keeps.trans kw (keeps_alloc w (.cells #[.slice A0 n0 c0] 24))
  have p0 : B1 (w.alloc (.cells #[.slice A0 n0 c0] 24)) w.heap.size (.slice A0 n0 c0) := B1.new' (by simp)
  obtain ⟨ca1, fa1⟩ := id p0
  go_wp2_with fail
  clear ca1 fa1
  by_cases hs0 : (n0 : Int) ≤ 1048576
  rotate_left
  · have hm0 := wa0.1
    refine (szGeo_no _ _ _ (1048576) _ hm0 (by omega) (by omega) (by omega)).mono ?_
    rintro e w2 ⟨rfl, k2⟩
    have ss3 := k2.size
    simp at ss3
    replace p0 := p0.keeps k2
    replace kw := Keeps.trans kw k2
    have lt4 := p0.lt
    have sz5 := kw.size
    clear k2
    go_wp2_with fail
    go_ret
    exact ⟨rfl, kw⟩
  have h0 := wa0.ints (by omega)
  refine (szGeo_ok _ _ _ (1048576) _ (by omega) (by omega)).mono ?_
  rintro e w2 ⟨rfl, k2⟩
  have ss3 := k2.size
  simp at ss3
  replace p0 := p0.keeps k2
  replace kw := Keeps.trans kw k2
  have lt4 := p0.lt
  have sz5 := kw.size
  clear k2
  have tz0 : ¬ (1048576 - (n0 : Int) < 0) := by omega
  obtain ⟨ca6, fa6⟩ := id p0
  go_wp2_with fail
  clear ca6 fa6
  by_cases hs1 : ((n1 : Int) + vsz z1 n1) ≤ 1048576 - (n0 : Int)
  rotate_left
  · have hm1 := wa1.1
    refine (szVariableS_any (left := 1048576 - (n0 : Int)) (wa1.keeps kw) (by omega) (by omega)).mono ?_
    rintro e w7 ⟨rfl, k7⟩
    rw [szVs_no (left := 1048576 - (n0 : Int)) (n := n1) (l := z1) (by omega)]
    have ss8 := k7.size
    replace p0 := p0.keeps k7
    replace kw := Keeps.trans kw k7
    have lt9 := p0.lt
    have sz10 := kw.size
    clear k7
    go_wp2_with fail
    go_ret
    exact ⟨rfl, kw⟩
  have h1 := wa1.vars (by omega)
  refine (szVariableS_any (left := 1048576 - (n0 : Int)) (wa1.keeps kw) (by omega) (by omega)).mono ?_
  rintro e w7 ⟨rfl, k7⟩
  rw [szVs_ok (left := 1048576 - (n0 : Int)) (n := n1) (l := z1) (by omega)]
  have ss8 := k7.size
  replace p0 := p0.keeps k7
  replace kw := Keeps.trans kw k7
  have lt9 := p0.lt
  have sz10 := kw.size
  clear k7
  have tz1 : ¬ (1048576 - (n0 : Int) - ((n1 : Int) + vsz z1 n1) < 0) := by omega
  obtain ⟨ca11, fa11⟩ := id p0
  go_wp2_with fail
  clear ca11 fa11
  by_cases hs2 : ((n2 + psz z2 n2 : Nat) : Int) ≤ 1048576 - (n0 : Int) - ((n1 : Int) + vsz z1 n1)
  rotate_left
  · have hm2 := wa2.1
    refine (szPublishedS_any (left := 1048576 - (n0 : Int) - ((n1 : Int) + vsz z1 n1)) (wa2.keeps kw) (by omega) (by omega)).mono ?_
    rintro e w12 ⟨rfl, k12⟩
    rw [szQ_no (left := 1048576 - (n0 : Int) - ((n1 : Int) + vsz z1 n1)) (s := n2 + psz z2 n2) hs2]
    have ss13 := k12.size
    replace p0 := p0.keeps k12
    replace kw := Keeps.trans kw k12
    have lt14 := p0.lt
    have sz15 := kw.size
    clear k12
    go_wp2_with fail
    go_ret
    exact ⟨rfl, kw⟩
  have h2 := wa2.pubs (by omega)
  refine (szPublishedS_any (left := 1048576 - (n0 : Int) - ((n1 : Int) + vsz z1 n1)) (wa2.keeps kw) (by omega) (by omega)).mono ?_
  rintro e w12 ⟨rfl, k12⟩
  rw [szQ_ok (left := 1048576 - (n0 : Int) - ((n1 : Int) + vsz z1 n1)) (s := n2 + psz z2 n2) hs2]
  have ss13 := k12.size
  replace p0 := p0.keeps k12
  replace kw := Keeps.trans kw k12
  have lt14 := p0.lt
  have sz15 := kw.size
  clear k12
  have tz2 : ¬ (1048576 - (n0 : Int) - ((n1 : Int) + vsz z1 n1) - ((n2 + psz z2 n2 : Nat) : Int) < 0) := by omega
  obtain ⟨ca16, fa16⟩ := id p0
  go_wp2_with fail
  clear ca16 fa16
  obtain ⟨r0, r1, HR⟩ : ∃ r0 r1, Hid (agQ z0 z1 z2 z3 = (r0, r1)) := ⟨_, _, rfl⟩
  refine (toGeo_any (h0.keeps kw)).mono ?_
  rintro e w17 ⟨By0, rfl, y0, k17⟩
  have ss18 := k17.size
  replace p0 := p0.keeps k17
  replace kw := Keeps.trans kw k17
  have lt19 := p0.lt
  have sz20 := kw.size
  clear k17
  obtain ⟨ca21, fa21⟩ := id p0
  go_wp2_with fail
  clear ca21 fa21
  refine (toVariableS_any (h1.keeps kw)).mono ?_
  rintro e w22 ⟨By1, rfl, y1, k22⟩
  have ss23 := k22.size
  replace p0 := p0.keeps k22
  replace y0 := y0.keeps k22
  replace kw := Keeps.trans kw k22
  have lt24 := p0.lt
  have sz25 := kw.size
  clear k22
  obtain ⟨ca26, fa26⟩ := id p0
  go_wp2_with fail
  clear ca26 fa26
  refine (toPublishedS_any (h2.keeps kw)).mono ?_
  rintro e w27 ⟨By2, rfl, y2, k27⟩
  have ss28 := k27.size
  replace p0 := p0.keeps k27
  replace y0 := y0.keeps k27
  replace y1 := y1.keeps k27
  replace kw := Keeps.trans kw k27
  have lt29 := p0.lt
  have sz30 := kw.size
  clear k27
  obtain ⟨ca31, fa31⟩ := id p0
  go_wp2_with fail
  clear ca31 fa31
  refine (toIntS_any (h3.keeps kw)).mono ?_
  rintro e w32 ⟨By3, rfl, y3, k32⟩
  have ss33 := k32.size
  replace p0 := p0.keeps k32
  replace y0 := y0.keeps k32
  replace y1 := y1.keeps k32
  replace y2 := y2.keeps k32
  replace kw := Keeps.trans kw k32
  have lt34 := p0.lt
  have sz35 := kw.size
  clear k32
  obtain ⟨ca36, fa36⟩ := id p0
  go_wp2_with fail
  clear ca36 fa36
  refine (specAgrees_any y0.1 y1.1 HNK.out y2 y3.1).mono ?_
  rintro e w37 ⟨rfl, k37⟩
  rw [HR.out]
  have ss38 := k37.size
  replace p0 := p0.keeps k37
  replace y0 := y0.keeps k37
  replace y1 := y1.keeps k37
  replace y2 := y2.keeps k37
  replace y3 := y3.keeps k37
  replace kw := Keeps.trans kw k37
  have lt39 := p0.lt
  have sz40 := kw.size
  clear k37
  clear y0
  clear y1
  clear y2
  clear y3
  obtain ⟨ca41, fa41⟩ := id p0
  go_wp2_with fail
  clear ca41 fa41
  refine (toGeo_any (h0.keeps kw)).mono ?_
  rintro e w42 ⟨Bx0, rfl, x0, k42⟩
  have ss43 := k42.size
  replace p0 := p0.keeps k42
  replace kw := Keeps.trans kw k42
  have lt44 := p0.lt
  have sz45 := kw.size
  clear k42
  replace p0 := p0.keeps (keeps_alloc w42 (.cells #[.slice Bx0 n0 n0] 38))
  replace x0 := x0.keeps (keeps_alloc w42 (.cells #[.slice Bx0 n0 n0] 38))
  replace kw := Keeps.trans kw (keeps_alloc w42 (.cells #[.slice Bx0 n0 n0] 38))
  have bx0 : B1 (w42.alloc (.cells #[.slice Bx0 n0 n0] 38)) w42.heap.size (.slice Bx0 n0 n0) := B1.new' (by simp)
  obtain ⟨ca46, fa46⟩ := id p0
  obtain ⟨ca47, fa47⟩ := id bx0
  go_wp2_with fail
  clear ca46 fa46 ca47 fa47
  refine (toVariableS_any (h1.keeps kw)).mono ?_
  rintro e w48 ⟨Bx1, rfl, x1, k48⟩
  have ss49 := k48.size
  simp at ss49
  replace p0 := p0.keeps k48
  replace bx0 := bx0.keeps k48
  replace x0 := x0.keeps k48
  replace kw := Keeps.trans kw k48
  have lt50 := bx0.lt
  have sz51 := kw.size
  clear k48
  replace x1 := x1.widen (lo' := w42.heap.size + 1) (by simp) (Nat.le_refl _) (Nat.le_refl _)
  obtain ⟨ca52, fa52⟩ := id p0
  obtain ⟨ca53, fa53⟩ := id bx0
  go_wp2_with fail
  clear ca52 fa52 ca53 fa53
  refine (toPublishedS_any (h2.keeps kw)).mono ?_
  rintro e w54 ⟨Bx2, rfl, x2, k54⟩
  have ss55 := k54.size
  replace p0 := p0.keeps k54
  replace bx0 := bx0.keeps k54
  replace x0 := x0.keeps k54
  replace x1 := x1.keeps k54
  replace kw := Keeps.trans kw k54
  have lt56 := bx0.lt
  have sz57 := kw.size
  clear k54
  obtain ⟨ca58, fa58⟩ := id p0
  obtain ⟨ca59, fa59⟩ := id bx0
  go_wp2_with fail
  clear ca58 fa58 ca59 fa59
  refine (toIntS_any (h3.keeps kw)).mono ?_
  rintro e w60 ⟨Bx3, rfl, x3, k60⟩
  have ss61 := k60.size
  replace p0 := p0.keeps k60
  replace bx0 := bx0.keeps k60
  replace x0 := x0.keeps k60
  replace x1 := x1.keeps k60
  replace x2 := x2.keeps k60
  replace kw := Keeps.trans kw k60
  have lt62 := bx0.lt
  have sz63 := kw.size
  clear k60
  obtain ⟨ca64, fa64⟩ := id p0
  obtain ⟨ca65, fa65⟩ := id bx0
  go_wp2_with fail
  clear ca64 fa64 ca65 fa65
  refine (implAgrees_any x0.1 x1.1 HNK.out x2 x3.1).mono ?_
  rintro e w66 ⟨rfl, k66⟩
  rw [HR.out]
  have ss67 := k66.size
  replace p0 := p0.keeps k66
  replace bx0 := bx0.keeps k66
  replace x0 := x0.keeps k66
  replace x1 := x1.keeps k66
  replace x2 := x2.keeps k66
  replace x3 := x3.keeps k66
  replace kw := Keeps.trans kw k66
  have lt68 := bx0.lt
  have sz69 := kw.size
  clear k66
  obtain ⟨ca70, fa70⟩ := id p0
  obtain ⟨ca71, fa71⟩ := id bx0
  go_wp2_with fail
  clear ca70 fa70 ca71 fa71
  have e0 : (r0 != r0) = false := by simp
  have e1 : (r1 != r1) = false := by simp
  obtain ⟨ca72, -⟩ := id bx0
  obtain ⟨ca73, -⟩ := id p0
  have kS := hid (show ∀ w', Keeps w66 w' → (w'.cell? ⟨w42.heap.size, 0, none⟩ = some (.slice Bx0 n0 n0) ∧ w'.cell? ⟨w.heap.size, 0, none⟩ = some (.slice A0 n0 c0)) from fun w' k => ⟨cell_keeps ca72 k, cell_keeps ca73 k⟩)
  go_region_held3 (fun w' => w'.cell? ⟨w42.heap.size, 0, none⟩ = some (.slice Bx0 n0 n0) ∧ w'.cell? ⟨w.heap.size, 0, none⟩ = some (.slice A0 n0 c0)) (first | exact kS.out _ (keeps_d0 w66) | exact kS.out _ kW | go_keep)
    ((first | (go_at_call 9; refine (toGeo_any (h0.keeps (Keeps.trans kw (keeps_d0 w66)))).mono ?_; rintro e wB74 ⟨Bt74, rfl, t0, kB⟩; have kW : Keeps w66 wB74 := keeps_d kB; clear kB) | (go_at_call 14; refine (eqGeo_true (x0.1.keeps kW) t0.1).mono ?_; rintro e wC74 ⟨rfl, kC⟩; replace kW : Keeps w66 wC74 := kW.trans kC; clear kC)))
  clear kS t0
  clear ca72 ca73
  have ss75 := kW.size
  replace p0 := p0.keeps kW
  replace bx0 := bx0.keeps kW
  replace x0 := x0.keeps kW
  replace x1 := x1.keeps kW
  replace x2 := x2.keeps kW
  replace x3 := x3.keeps kW
  replace kw := Keeps.trans kw kW
  have lt76 := bx0.lt
  have sz77 := kw.size
  clear kW
  obtain ⟨ca78, fa78⟩ := id p0
  obtain ⟨ca79, fa79⟩ := id bx0
  go_wp2_with fail
  clear ca78 fa78 ca79 fa79
  refine (toVariableS_any (h1.keeps kw)).mono ?_
  rintro e w80 ⟨Bt1, rfl, t1, k80⟩
  have ss81 := k80.size
  replace p0 := p0.keeps k80
  replace bx0 := bx0.keeps k80
  replace x0 := x0.keeps k80
  replace x1 := x1.keeps k80
  replace x2 := x2.keeps k80
  replace x3 := x3.keeps k80
  replace kw := Keeps.trans kw k80
  have lt82 := bx0.lt
  have sz83 := kw.size
  clear k80
  obtain ⟨ca84, fa84⟩ := id p0
  obtain ⟨ca85, fa85⟩ := id bx0
  go_wp2_with fail
  clear ca84 fa84 ca85 fa85
  refine (eqVariableS_true x1.1 t1.1).mono ?_
  rintro e w86 ⟨rfl, k86⟩
  have ss87 := k86.size
  replace p0 := p0.keeps k86
  replace bx0 := bx0.keeps k86
  replace x0 := x0.keeps k86
  replace x1 := x1.keeps k86
  replace x2 := x2.keeps k86
  replace x3 := x3.keeps k86
  replace t1 := t1.keeps k86
  replace kw := Keeps.trans kw k86
  have lt88 := bx0.lt
  have sz89 := kw.size
  clear k86
  clear t1
  obtain ⟨ca90, fa90⟩ := id p0
  obtain ⟨ca91, fa91⟩ := id bx0
  go_wp2_with fail
  clear ca90 fa90 ca91 fa91
  refine (toPublishedS_any (h2.keeps kw)).mono ?_
  rintro e w92 ⟨Bt2, rfl, t2, k92⟩
  have ss93 := k92.size
  replace p0 := p0.keeps k92
  replace bx0 := bx0.keeps k92
  replace x0 := x0.keeps k92
  replace x1 := x1.keeps k92
  replace x2 := x2.keeps k92
  replace x3 := x3.keeps k92
  replace kw := Keeps.trans kw k92
  have lt94 := bx0.lt
  have sz95 := kw.size
  clear k92
  obtain ⟨ca96, fa96⟩ := id p0
  obtain ⟨ca97, fa97⟩ := id bx0
  go_wp2_with fail
  clear ca96 fa96 ca97 fa97
  refine (eqPublishedS_true x2 t2).mono ?_
  rintro e w98 ⟨rfl, k98⟩
  have ss99 := k98.size
  replace p0 := p0.keeps k98
  replace bx0 := bx0.keeps k98
  replace x0 := x0.keeps k98
  replace x1 := x1.keeps k98
  replace x2 := x2.keeps k98
  replace x3 := x3.keeps k98
  replace t2 := t2.keeps k98
  replace kw := Keeps.trans kw k98
  have lt100 := bx0.lt
  have sz101 := kw.size
  clear k98
  clear t2
  obtain ⟨ca102, fa102⟩ := id p0
  obtain ⟨ca103, fa103⟩ := id bx0
  go_wp2_with fail
  clear ca102 fa102 ca103 fa103
  refine (toIntS_any (h3.keeps kw)).mono ?_
  rintro e w104 ⟨Bt3, rfl, t3, k104⟩
  have ss105 := k104.size
  replace p0 := p0.keeps k104
  replace bx0 := bx0.keeps k104
  replace x0 := x0.keeps k104
  replace x1 := x1.keeps k104
  replace x2 := x2.keeps k104
  replace x3 := x3.keeps k104
  replace kw := Keeps.trans kw k104
  have lt106 := bx0.lt
  have sz107 := kw.size
  clear k104
  obtain ⟨ca108, fa108⟩ := id p0
  obtain ⟨ca109, fa109⟩ := id bx0
  go_wp2_with fail
  clear ca108 fa108 ca109 fa109
  refine (eqIntS_true x3.1 t3.1).mono ?_
  rintro e w110 ⟨rfl, k110⟩
  replace k110 := Quiet.keeps k110
  have ss111 := k110.size
  replace p0 := p0.keeps k110
  replace bx0 := bx0.keeps k110
  replace x0 := x0.keeps k110
  replace x1 := x1.keeps k110
  replace x2 := x2.keeps k110
  replace x3 := x3.keeps k110
  replace t3 := t3.keeps k110
  replace kw := Keeps.trans kw k110
  have lt112 := bx0.lt
  have sz113 := kw.size
  clear k110
  clear t3
  obtain ⟨ca114, fa114⟩ := id p0
  obtain ⟨ca115, fa115⟩ := id bx0
  go_wp2_with fail
  clear ca114 fa114 ca115 fa115
  go_ret
  exact ⟨rfl, kw⟩
end Go.Proofs.Ytellocnplemjmaa
