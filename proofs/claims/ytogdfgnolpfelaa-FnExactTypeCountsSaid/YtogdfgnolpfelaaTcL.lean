/- The law FnExactTypeCounts: the walk. -/
import Derived.Test.YtogdfgnolpfelaaTcF
import Derived.Test.YtogdfgnolpfelaaOpV
import Derived.Test.YtogdfgnolpfelaaKB
import Derived.Deep.RegionHeld3
namespace Go.Proofs.Ytogdfgnolpfelaa
open Go.ChangeShapes Go.WideShapes Go.ChangeAt Go.RowKit
set_option linter.unusedVariables false
set_option linter.unusedSimpArgs false
set_option maxRecDepth 100000 in
set_option maxHeartbeats 6400000 in
theorem FnExactTypeCounts_law (A0 : Option Addr) (n0 c0 : Nat) (z0 : List Int) (A1 : Option Addr) (n1 c1 : Nat) (z1 : List VV) (A2 : Option Addr) (n2 c2 : Nat) (z2 : List RR) (w : World) (wa0 : IntsArg w A0 n0 z0) (wa1 : VarsArg w A1 n1 z1) (wa2 : RecsArg w A2 n2 z2) :
    Calls Try.prog 6 #[.agg #[.slice A0 n0 c0], .slice A1 n1 c1, .slice A2 n2 c2] w fun e w' => e = .returned (.bool true) ∧ Below w.heap.size w w' := by
  have HNK := hid (show NamesOk z1 from wa1.2.2.1)
  go_enter Try.func6, Try.ntmps6
  have kw := keeps_refl w
  replace kw := Keeps.trans kw (keeps_alloc w (.cells #[.slice A0 n0 c0] 53))
  have p0 : B1 (w.alloc (.cells #[.slice A0 n0 c0] 53)) w.heap.size (.slice A0 n0 c0) := B1.new' (by simp)
  obtain ⟨ca1, fa1⟩ := id p0
  go_wp2_with fail
  clear ca1 fa1
  by_cases hs0 : (n0 : Int) ≤ 1048576
  rotate_left
  · have hm0 := wa0.1
    refine (szGeo_no _ _ _ (1048576) _ hm0 (by omega) (by omega) (by omega)).mono ?_
    rintro e w2 ⟨rfl, k2⟩
    have ss3 := k2.size
    simp at ss3
    replace p0 := p0.keeps k2
    replace kw := Keeps.trans kw k2
    have lt4 := p0.lt
    have sz5 := kw.size
    clear k2
    go_wp2_with fail
    go_ret
    exact ⟨rfl, kw⟩
  have h0 := wa0.ints (by omega)
  refine (szGeo_ok _ _ _ (1048576) _ (by omega) (by omega)).mono ?_
  rintro e w2 ⟨rfl, k2⟩
  have ss3 := k2.size
  simp at ss3
  replace p0 := p0.keeps k2
  replace kw := Keeps.trans kw k2
  have lt4 := p0.lt
  have sz5 := kw.size
  clear k2
  have tz0 : ¬ (1048576 - (n0 : Int) < 0) := by omega
  obtain ⟨ca6, fa6⟩ := id p0
  go_wp2_with fail
  clear ca6 fa6
  by_cases hs1 : ((n1 : Int) + vsz z1 n1) ≤ 1048576 - (n0 : Int)
  rotate_left
  · have hm1 := wa1.1
    refine (szVariableS_any (left := 1048576 - (n0 : Int)) (wa1.keeps kw) (by omega) (by omega)).mono ?_
    rintro e w7 ⟨rfl, k7⟩
    rw [szVs_no (left := 1048576 - (n0 : Int)) (n := n1) (l := z1) (by omega)]
    have ss8 := k7.size
    replace p0 := p0.keeps k7
    replace kw := Keeps.trans kw k7
    have lt9 := p0.lt
    have sz10 := kw.size
    clear k7
    go_wp2_with fail
    go_ret
    exact ⟨rfl, kw⟩
  have h1 := wa1.vars (by omega)
  refine (szVariableS_any (left := 1048576 - (n0 : Int)) (wa1.keeps kw) (by omega) (by omega)).mono ?_
  rintro e w7 ⟨rfl, k7⟩
  rw [szVs_ok (left := 1048576 - (n0 : Int)) (n := n1) (l := z1) (by omega)]
  have ss8 := k7.size
  replace p0 := p0.keeps k7
  replace kw := Keeps.trans kw k7
  have lt9 := p0.lt
  have sz10 := kw.size
  clear k7
  have tz1 : ¬ (1048576 - (n0 : Int) - ((n1 : Int) + vsz z1 n1) < 0) := by omega
  obtain ⟨ca11, fa11⟩ := id p0
  go_wp2_with fail
  clear ca11 fa11
  by_cases hs2 : ((n2 : Int) + rsz z2 n2) ≤ 1048576 - (n0 : Int) - ((n1 : Int) + vsz z1 n1)
  rotate_left
  · have hm2 := wa2.1
    refine (szRecordS_any (left := 1048576 - (n0 : Int) - ((n1 : Int) + vsz z1 n1)) (wa2.keeps kw) (by omega) (by omega)).mono ?_
    rintro e w12 ⟨rfl, k12⟩
    rw [szRs_no (left := 1048576 - (n0 : Int) - ((n1 : Int) + vsz z1 n1)) (n := n2) (l := z2) (by omega)]
    have ss13 := k12.size
    replace p0 := p0.keeps k12
    replace kw := Keeps.trans kw k12
    have lt14 := p0.lt
    have sz15 := kw.size
    clear k12
    go_wp2_with fail
    go_ret
    exact ⟨rfl, kw⟩
  have h2 := wa2.recs (by omega)
  refine (szRecordS_any (left := 1048576 - (n0 : Int) - ((n1 : Int) + vsz z1 n1)) (wa2.keeps kw) (by omega) (by omega)).mono ?_
  rintro e w12 ⟨rfl, k12⟩
  rw [szRs_ok (left := 1048576 - (n0 : Int) - ((n1 : Int) + vsz z1 n1)) (n := n2) (l := z2) (by omega)]
  have ss13 := k12.size
  replace p0 := p0.keeps k12
  replace kw := Keeps.trans kw k12
  have lt14 := p0.lt
  have sz15 := kw.size
  clear k12
  have tz2 : ¬ (1048576 - (n0 : Int) - ((n1 : Int) + vsz z1 n1) - ((n2 : Int) + rsz z2 n2) < 0) := by omega
  obtain ⟨ca16, fa16⟩ := id p0
  go_wp2_with fail
  clear ca16 fa16
  obtain ⟨r0, r1, HR⟩ : ∃ r0 r1, Hid (tcQ z0 z1 z2 = (r0, r1)) := ⟨_, _, rfl⟩
  refine (toGeo_any (h0.keeps kw)).mono ?_
  rintro e w17 ⟨By0, rfl, y0, k17⟩
  have ss18 := k17.size
  replace p0 := p0.keeps k17
  replace kw := Keeps.trans kw k17
  have lt19 := p0.lt
  have sz20 := kw.size
  clear k17
  obtain ⟨ca21, fa21⟩ := id p0
  go_wp2_with fail
  clear ca21 fa21
  refine (toVariableS_any (h1.keeps kw)).mono ?_
  rintro e w22 ⟨By1, rfl, y1, k22⟩
  have ss23 := k22.size
  replace p0 := p0.keeps k22
  replace y0 := y0.keeps k22
  replace kw := Keeps.trans kw k22
  have lt24 := p0.lt
  have sz25 := kw.size
  clear k22
  obtain ⟨ca26, fa26⟩ := id p0
  go_wp2_with fail
  clear ca26 fa26
  refine (toRecordS_any (h2.keeps kw)).mono ?_
  rintro e w27 ⟨By2, rfl, y2, k27⟩
  have ss28 := k27.size
  replace p0 := p0.keeps k27
  replace y0 := y0.keeps k27
  replace y1 := y1.keeps k27
  replace kw := Keeps.trans kw k27
  have lt29 := p0.lt
  have sz30 := kw.size
  clear k27
  obtain ⟨ca31, fa31⟩ := id p0
  go_wp2_with fail
  clear ca31 fa31
  refine (specTypeCounts_any y0.1 y1.1 HNK.out y2.1).mono ?_
  rintro e w32 ⟨p_A0, p_N0, p_C0, rfl, p_0, k32⟩
  have ss33 := k32.size
  replace p0 := p0.keeps k32
  replace y0 := y0.keeps k32
  replace y1 := y1.keeps k32
  replace y2 := y2.keeps k32
  replace kw := Keeps.trans kw k32
  have lt34 := p0.lt
  have sz35 := kw.size
  clear k32
  rw [HR.out]
  rw [HR.out] at p_0
  clear y0
  clear y1
  clear y2
  obtain ⟨ca36, fa36⟩ := id p0
  go_wp2_with fail
  clear ca36 fa36
  refine (toGeo_any (h0.keeps kw)).mono ?_
  rintro e w37 ⟨Bx0, rfl, x0, k37⟩
  have ss38 := k37.size
  replace p0 := p0.keeps k37
  replace p_0 := p_0.keeps k37
  replace kw := Keeps.trans kw k37
  have lt39 := p0.lt
  have sz40 := kw.size
  clear k37
  replace p0 := p0.keeps (keeps_alloc w37 (.cells #[.slice Bx0 n0 n0] 56))
  replace p_0 := p_0.keeps (keeps_alloc w37 (.cells #[.slice Bx0 n0 n0] 56))
  replace x0 := x0.keeps (keeps_alloc w37 (.cells #[.slice Bx0 n0 n0] 56))
  replace kw := Keeps.trans kw (keeps_alloc w37 (.cells #[.slice Bx0 n0 n0] 56))
  have bx0 : B1 (w37.alloc (.cells #[.slice Bx0 n0 n0] 56)) w37.heap.size (.slice Bx0 n0 n0) := B1.new' (by simp)
  obtain ⟨ca41, fa41⟩ := id p0
  obtain ⟨ca42, fa42⟩ := id bx0
  go_wp2_with fail
  clear ca41 fa41 ca42 fa42
  refine (toVariableS_any (h1.keeps kw)).mono ?_
  rintro e w43 ⟨Bx1, rfl, x1, k43⟩
  have ss44 := k43.size
  simp at ss44
  replace p0 := p0.keeps k43
  replace bx0 := bx0.keeps k43
  replace p_0 := p_0.keeps k43
  replace x0 := x0.keeps k43
  replace kw := Keeps.trans kw k43
  have lt45 := bx0.lt
  have sz46 := kw.size
  clear k43
  replace x1 := x1.widen (lo' := w37.heap.size + 1) (by simp) (Nat.le_refl _) (Nat.le_refl _)
  obtain ⟨ca47, fa47⟩ := id p0
  obtain ⟨ca48, fa48⟩ := id bx0
  go_wp2_with fail
  clear ca47 fa47 ca48 fa48
  refine (toRecordS_any (h2.keeps kw)).mono ?_
  rintro e w49 ⟨Bx2, rfl, x2, k49⟩
  have ss50 := k49.size
  replace p0 := p0.keeps k49
  replace bx0 := bx0.keeps k49
  replace p_0 := p_0.keeps k49
  replace x0 := x0.keeps k49
  replace x1 := x1.keeps k49
  replace kw := Keeps.trans kw k49
  have lt51 := bx0.lt
  have sz52 := kw.size
  clear k49
  obtain ⟨ca53, fa53⟩ := id p0
  obtain ⟨ca54, fa54⟩ := id bx0
  go_wp2_with fail
  clear ca53 fa53 ca54 fa54
  refine (implTypeCounts_any x0.1 x1.1 HNK.out x2.1).mono ?_
  rintro e w55 ⟨g_A0, g_N0, g_C0, rfl, g_0, k55⟩
  have ss56 := k55.size
  replace p0 := p0.keeps k55
  replace bx0 := bx0.keeps k55
  replace p_0 := p_0.keeps k55
  replace x0 := x0.keeps k55
  replace x1 := x1.keeps k55
  replace x2 := x2.keeps k55
  replace kw := Keeps.trans kw k55
  have lt57 := bx0.lt
  have sz58 := kw.size
  clear k55
  rw [HR.out]
  rw [HR.out] at g_0
  obtain ⟨ca59, fa59⟩ := id p0
  obtain ⟨ca60, fa60⟩ := id bx0
  go_wp2_with fail
  clear ca59 fa59 ca60 fa60
  have e1 : (r1 != r1) = false := by simp
  refine (eqIntS_true g_0.1 p_0.1).mono ?_
  rintro e w61 ⟨rfl, k61⟩
  replace k61 := Quiet.keeps k61
  have ss62 := k61.size
  replace p0 := p0.keeps k61
  replace bx0 := bx0.keeps k61
  replace p_0 := p_0.keeps k61
  replace x0 := x0.keeps k61
  replace x1 := x1.keeps k61
  replace x2 := x2.keeps k61
  replace g_0 := g_0.keeps k61
  replace kw := Keeps.trans kw k61
  have lt63 := bx0.lt
  have sz64 := kw.size
  clear k61
  obtain ⟨ca65, fa65⟩ := id p0
  obtain ⟨ca66, fa66⟩ := id bx0
  go_wp2_with fail
  clear ca65 fa65 ca66 fa66
  obtain ⟨ca67, -⟩ := id bx0
  obtain ⟨ca68, -⟩ := id p0
  have kS := hid (show ∀ w', Keeps w61 w' → (w'.cell? ⟨w37.heap.size, 0, none⟩ = some (.slice Bx0 n0 n0) ∧ w'.cell? ⟨w.heap.size, 0, none⟩ = some (.slice A0 n0 c0)) from fun w' k => ⟨cell_keeps ca67 k, cell_keeps ca68 k⟩)
  go_region_held3 (fun w' => w'.cell? ⟨w37.heap.size, 0, none⟩ = some (.slice Bx0 n0 n0) ∧ w'.cell? ⟨w.heap.size, 0, none⟩ = some (.slice A0 n0 c0)) (first | exact kS.out _ (keeps_d0 w61) | exact kS.out _ kW | go_keep)
    ((first | (go_at_call 31; refine (toGeo_any (h0.keeps (Keeps.trans kw (keeps_d0 w61)))).mono ?_; rintro e wB69 ⟨Bt69, rfl, t0, kB⟩; have kW : Keeps w61 wB69 := keeps_d kB; clear kB) | (go_at_call 33; refine (eqGeo_true (x0.1.keeps kW) t0.1).mono ?_; rintro e wC69 ⟨rfl, kC⟩; replace kW : Keeps w61 wC69 := kW.trans kC; clear kC)))
  clear kS t0
  clear ca67 ca68
  have ss70 := kW.size
  replace p0 := p0.keeps kW
  replace bx0 := bx0.keeps kW
  replace p_0 := p_0.keeps kW
  replace x0 := x0.keeps kW
  replace x1 := x1.keeps kW
  replace x2 := x2.keeps kW
  replace g_0 := g_0.keeps kW
  replace kw := Keeps.trans kw kW
  have lt71 := bx0.lt
  have sz72 := kw.size
  clear kW
  obtain ⟨ca73, fa73⟩ := id p0
  obtain ⟨ca74, fa74⟩ := id bx0
  go_wp2_with fail
  clear ca73 fa73 ca74 fa74
  refine (toVariableS_any (h1.keeps kw)).mono ?_
  rintro e w75 ⟨Bt1, rfl, t1, k75⟩
  have ss76 := k75.size
  replace p0 := p0.keeps k75
  replace bx0 := bx0.keeps k75
  replace p_0 := p_0.keeps k75
  replace x0 := x0.keeps k75
  replace x1 := x1.keeps k75
  replace x2 := x2.keeps k75
  replace g_0 := g_0.keeps k75
  replace kw := Keeps.trans kw k75
  have lt77 := bx0.lt
  have sz78 := kw.size
  clear k75
  obtain ⟨ca79, fa79⟩ := id p0
  obtain ⟨ca80, fa80⟩ := id bx0
  go_wp2_with fail
  clear ca79 fa79 ca80 fa80
  refine (eqVariableS_true x1.1 t1.1).mono ?_
  rintro e w81 ⟨rfl, k81⟩
  have ss82 := k81.size
  replace p0 := p0.keeps k81
  replace bx0 := bx0.keeps k81
  replace p_0 := p_0.keeps k81
  replace x0 := x0.keeps k81
  replace x1 := x1.keeps k81
  replace x2 := x2.keeps k81
  replace g_0 := g_0.keeps k81
  replace t1 := t1.keeps k81
  replace kw := Keeps.trans kw k81
  have lt83 := bx0.lt
  have sz84 := kw.size
  clear k81
  clear t1
  obtain ⟨ca85, fa85⟩ := id p0
  obtain ⟨ca86, fa86⟩ := id bx0
  go_wp2_with fail
  clear ca85 fa85 ca86 fa86
  refine (toRecordS_any (h2.keeps kw)).mono ?_
  rintro e w87 ⟨Bt2, rfl, t2, k87⟩
  have ss88 := k87.size
  replace p0 := p0.keeps k87
  replace bx0 := bx0.keeps k87
  replace p_0 := p_0.keeps k87
  replace x0 := x0.keeps k87
  replace x1 := x1.keeps k87
  replace x2 := x2.keeps k87
  replace g_0 := g_0.keeps k87
  replace kw := Keeps.trans kw k87
  have lt89 := bx0.lt
  have sz90 := kw.size
  clear k87
  obtain ⟨ca91, fa91⟩ := id p0
  obtain ⟨ca92, fa92⟩ := id bx0
  go_wp2_with fail
  clear ca91 fa91 ca92 fa92
  refine (eqRecordS_true x2.1 t2.1).mono ?_
  rintro e w93 ⟨rfl, k93⟩
  have ss94 := k93.size
  replace p0 := p0.keeps k93
  replace bx0 := bx0.keeps k93
  replace p_0 := p_0.keeps k93
  replace x0 := x0.keeps k93
  replace x1 := x1.keeps k93
  replace x2 := x2.keeps k93
  replace g_0 := g_0.keeps k93
  replace t2 := t2.keeps k93
  replace kw := Keeps.trans kw k93
  have lt95 := bx0.lt
  have sz96 := kw.size
  clear k93
  clear t2
  obtain ⟨ca97, fa97⟩ := id p0
  obtain ⟨ca98, fa98⟩ := id bx0
  go_wp2_with fail
  clear ca97 fa97 ca98 fa98
  refine (markGeo_any x0 (by omega) (by omega)).mono ?_
  rintro e w99 ⟨rfl, mk99, f99⟩
  clear x0
  replace p0 := p0.fr f99 (by omega)
  replace bx0 := bx0.fr f99 (by omega)
  replace p_0 := p_0.fr f99 (by omega)
  replace x1 := x1.fr f99 (by omega)
  replace x2 := x2.fr f99 (by omega)
  replace g_0 := g_0.fr f99 (by omega)
  have ssf99 := f99.size
  replace kw := below_fr kw kw.size (by omega) f99
  obtain ⟨ca100, fa100⟩ := id p0
  obtain ⟨ca101, fa101⟩ := id bx0
  go_wp2_with fail
  clear ca100 fa100 ca101 fa101
  clear mk99
  refine (markVs_any x1 (by omega) (by omega) (by omega)).mono ?_
  rintro e w102 ⟨rfl, mk102, f102⟩
  clear x1
  replace p0 := p0.fr f102 (by omega)
  replace bx0 := bx0.fr f102 (by omega)
  replace p_0 := p_0.fr f102 (by omega)
  replace x2 := x2.fr f102 (by omega)
  replace g_0 := g_0.fr f102 (by omega)
  have ssf102 := f102.size
  replace kw := below_fr kw kw.size (by omega) f102
  obtain ⟨ca103, fa103⟩ := id p0
  obtain ⟨ca104, fa104⟩ := id bx0
  go_wp2_with fail
  clear ca103 fa103 ca104 fa104
  clear mk102
  refine (markRecordS_any x2 (by omega) (by omega) (by omega)).mono ?_
  rintro e w105 ⟨rfl, mk105, f105⟩
  clear x2
  replace p0 := p0.fr f105 (by omega)
  replace bx0 := bx0.fr f105 (by omega)
  replace p_0 := p_0.fr f105 (by omega)
  replace g_0 := g_0.fr f105 (by omega)
  have ssf105 := f105.size
  replace kw := below_fr kw kw.size (by omega) f105
  obtain ⟨ca106, fa106⟩ := id p0
  obtain ⟨ca107, fa107⟩ := id bx0
  go_wp2_with fail
  clear ca106 fa106 ca107 fa107
  clear mk105
  refine (eqIntS_true g_0.1 p_0.1).mono ?_
  rintro e w108 ⟨rfl, k108⟩
  replace k108 := Quiet.keeps k108
  have ss109 := k108.size
  replace p0 := p0.keeps k108
  replace bx0 := bx0.keeps k108
  replace p_0 := p_0.keeps k108
  replace g_0 := g_0.keeps k108
  replace kw := Keeps.trans kw k108
  have lt110 := bx0.lt
  have sz111 := kw.size
  clear k108
  obtain ⟨ca112, fa112⟩ := id p0
  obtain ⟨ca113, fa113⟩ := id bx0
  go_wp2_with fail
  clear ca112 fa112 ca113 fa113
  refine (markIntS_any g_0 (by omega) (by omega)).mono ?_
  rintro e w114 ⟨rfl, mk114, f114⟩
  clear g_0
  replace p0 := p0.fr f114 (by omega)
  replace bx0 := bx0.fr f114 (by omega)
  replace p_0 := p_0.fr f114 (by omega)
  have ssf114 := f114.size
  replace kw := below_fr kw kw.size (by omega) f114
  obtain ⟨ca115, fa115⟩ := id p0
  obtain ⟨ca116, fa116⟩ := id bx0
  go_wp2_with fail
  clear ca115 fa115 ca116 fa116
  have u1 : ((1 + (g_N0 : Int)) != (1 + (g_N0 : Int))) = false := by simp
  refine (heldIntS_any mk114.1 (by omega) (by omega)).mono ?_
  rintro e w' ⟨rfl, rfl⟩
  obtain ⟨ca117, fa117⟩ := id p0
  obtain ⟨ca118, fa118⟩ := id bx0
  go_wp2_with fail
  clear ca117 fa117 ca118 fa118
  refine (toGeo_any (h0.keeps kw)).mono ?_
  rintro e w119 ⟨Bv0, rfl, v0, k119⟩
  have ss120 := k119.size
  replace p0 := p0.keeps k119
  replace bx0 := bx0.keeps k119
  replace p_0 := p_0.keeps k119
  replace mk114 := mk114.keeps k119
  replace kw := Keeps.trans kw k119
  have lt121 := bx0.lt
  have sz122 := kw.size
  clear k119
  obtain ⟨ca123, fa123⟩ := id p0
  obtain ⟨ca124, fa124⟩ := id bx0
  go_wp2_with fail
  clear ca123 fa123 ca124 fa124
  refine (toVariableS_any (h1.keeps kw)).mono ?_
  rintro e w125 ⟨Bv1, rfl, v1, k125⟩
  have ss126 := k125.size
  replace p0 := p0.keeps k125
  replace bx0 := bx0.keeps k125
  replace p_0 := p_0.keeps k125
  replace mk114 := mk114.keeps k125
  replace v0 := v0.keeps k125
  replace kw := Keeps.trans kw k125
  have lt127 := bx0.lt
  have sz128 := kw.size
  clear k125
  obtain ⟨ca129, fa129⟩ := id p0
  obtain ⟨ca130, fa130⟩ := id bx0
  go_wp2_with fail
  clear ca129 fa129 ca130 fa130
  refine (toRecordS_any (h2.keeps kw)).mono ?_
  rintro e w131 ⟨Bv2, rfl, v2, k131⟩
  have ss132 := k131.size
  replace p0 := p0.keeps k131
  replace bx0 := bx0.keeps k131
  replace p_0 := p_0.keeps k131
  replace mk114 := mk114.keeps k131
  replace v0 := v0.keeps k131
  replace v1 := v1.keeps k131
  replace kw := Keeps.trans kw k131
  have lt133 := bx0.lt
  have sz134 := kw.size
  clear k131
  obtain ⟨ca135, fa135⟩ := id p0
  obtain ⟨ca136, fa136⟩ := id bx0
  go_wp2_with fail
  clear ca135 fa135 ca136 fa136
  refine (implTypeCounts_any v0.1 v1.1 HNK.out v2.1).mono ?_
  rintro e w137 ⟨h_A0, h_N0, h_C0, rfl, h_0, k137⟩
  have ss138 := k137.size
  replace p0 := p0.keeps k137
  replace bx0 := bx0.keeps k137
  replace p_0 := p_0.keeps k137
  replace mk114 := mk114.keeps k137
  replace v0 := v0.keeps k137
  replace v1 := v1.keeps k137
  replace v2 := v2.keeps k137
  replace kw := Keeps.trans kw k137
  have lt139 := bx0.lt
  have sz140 := kw.size
  clear k137
  rw [HR.out]
  rw [HR.out] at h_0
  clear v0
  clear v1
  clear v2
  obtain ⟨ca141, fa141⟩ := id p0
  obtain ⟨ca142, fa142⟩ := id bx0
  go_wp2_with fail
  clear ca141 fa141 ca142 fa142
  refine (eqIntS_true h_0.1 p_0.1).mono ?_
  rintro e w143 ⟨rfl, k143⟩
  replace k143 := Quiet.keeps k143
  have ss144 := k143.size
  replace p0 := p0.keeps k143
  replace bx0 := bx0.keeps k143
  replace p_0 := p_0.keeps k143
  replace mk114 := mk114.keeps k143
  replace h_0 := h_0.keeps k143
  replace kw := Keeps.trans kw k143
  have lt145 := bx0.lt
  have sz146 := kw.size
  clear k143
  obtain ⟨ca147, fa147⟩ := id p0
  obtain ⟨ca148, fa148⟩ := id bx0
  go_wp2_with fail
  clear ca147 fa147 ca148 fa148
  refine (heldIntS_any mk114.1 (by omega) (by omega)).mono ?_
  rintro e w' ⟨rfl, rfl⟩
  obtain ⟨ca149, fa149⟩ := id p0
  obtain ⟨ca150, fa150⟩ := id bx0
  go_wp2_with fail
  clear ca149 fa149 ca150 fa150
  go_ret
  exact ⟨rfl, kw⟩
end Go.Proofs.Ytogdfgnolpfelaa
