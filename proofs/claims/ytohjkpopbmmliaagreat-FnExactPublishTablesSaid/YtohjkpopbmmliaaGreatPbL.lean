/- The laws FnExactPublishTables: the walks. -/
import Derived.Test.YtohjkpopbmmliaaGreatPbt
import Derived.Test.YtohjkpopbmmliaaGreatSepH
import Derived.Test.YtohjkpopbmmliaaGreatRecH
import Derived.Test.YtohjkpopbmmliaaGreatOpV
import Derived.Test.YtohjkpopbmmliaaGreatKB
import Derived.Deep.RegionHeld3
namespace Go.Proofs.YtohjkpopbmmliaaGreat
open Go.ChangeShapes Go.WideShapes Go.ChangeAt Go.RowKit
set_option linter.unusedVariables false
set_option linter.unusedSimpArgs false
set_option maxRecDepth 100000 in
set_option maxHeartbeats 6400000 in
theorem FnExactPublishTables_law (A0 : Option Addr) (n0 c0 : Nat) (z0 : List Int) (A1 : Option Addr) (n1 c1 : Nat) (z1 : List VV) (A2 : Option Addr) (n2 c2 : Nat) (z2 : List RR) (A3 : Option Addr) (n3 c3 : Nat) (z3 : List TT) (w : World) (wa0 : IntsArg w A0 n0 z0) (wa1 : VarsArg w A1 n1 z1) (wa2 : RecsArg w A2 n2 z2) (wa3 : TabsArg w A3 n3 z3) :
    Calls Tryz.prog 4 #[.agg #[.slice A0 n0 c0], .slice A1 n1 c1, .slice A2 n2 c2, .slice A3 n3 c3] w fun e w' => e = .returned (.bool true) ∧ Below w.heap.size w w' := by
  have HNK := hid (show NamesOk z1 from wa1.2.2.1)
  go_enter Tryz.func4, Tryz.ntmps4
  have kw := keeps_refl w
  replace kw := Keeps.trans kw (keeps_alloc w (.cells #[.slice A0 n0 c0] 50))
  have p0 : B1 (w.alloc (.cells #[.slice A0 n0 c0] 50)) w.heap.size (.slice A0 n0 c0) := B1.new' (by simp)
  obtain ⟨ca1, fa1⟩ := id p0
  go_wp2_with fail
  clear ca1 fa1
  by_cases hs0 : (n0 : Int) ≤ 1048576
  rotate_left
  · have hm0 := wa0.1
    refine (szGeo_no _ _ _ (1048576) _ hm0 (by omega) (by omega) (by omega)).mono ?_
    rintro e w2 ⟨rfl, k2⟩
    have ss3 := k2.size
    simp at ss3
    replace p0 := p0.keeps k2
    replace kw := Keeps.trans kw k2
    have lt4 := p0.lt
    have sz5 := kw.size
    clear k2
    go_wp2_with fail
    go_ret
    exact ⟨rfl, kw⟩
  have h0 := wa0.ints (by omega)
  refine (szGeo_ok _ _ _ (1048576) _ (by omega) (by omega)).mono ?_
  rintro e w2 ⟨rfl, k2⟩
  have ss3 := k2.size
  simp at ss3
  replace p0 := p0.keeps k2
  replace kw := Keeps.trans kw k2
  have lt4 := p0.lt
  have sz5 := kw.size
  clear k2
  have tz0 : ¬ (1048576 - (n0 : Int) < 0) := by omega
  obtain ⟨ca6, fa6⟩ := id p0
  go_wp2_with fail
  clear ca6 fa6
  by_cases hs1 : ((n1 : Int) + vsz z1 n1) ≤ 1048576 - (n0 : Int)
  rotate_left
  · have hm1 := wa1.1
    refine (szVariableS_any (left := 1048576 - (n0 : Int)) (wa1.keeps kw) (by omega) (by omega)).mono ?_
    rintro e w7 ⟨rfl, k7⟩
    rw [szVs_no (left := 1048576 - (n0 : Int)) (n := n1) (l := z1) (by omega)]
    have ss8 := k7.size
    replace p0 := p0.keeps k7
    replace kw := Keeps.trans kw k7
    have lt9 := p0.lt
    have sz10 := kw.size
    clear k7
    go_wp2_with fail
    go_ret
    exact ⟨rfl, kw⟩
  have h1 := wa1.vars (by omega)
  refine (szVariableS_any (left := 1048576 - (n0 : Int)) (wa1.keeps kw) (by omega) (by omega)).mono ?_
  rintro e w7 ⟨rfl, k7⟩
  rw [szVs_ok (left := 1048576 - (n0 : Int)) (n := n1) (l := z1) (by omega)]
  have ss8 := k7.size
  replace p0 := p0.keeps k7
  replace kw := Keeps.trans kw k7
  have lt9 := p0.lt
  have sz10 := kw.size
  clear k7
  have tz1 : ¬ (1048576 - (n0 : Int) - ((n1 : Int) + vsz z1 n1) < 0) := by omega
  obtain ⟨ca11, fa11⟩ := id p0
  go_wp2_with fail
  clear ca11 fa11
  by_cases hs2 : ((n2 : Int) + rsz z2 n2) ≤ 1048576 - (n0 : Int) - ((n1 : Int) + vsz z1 n1)
  rotate_left
  · have hm2 := wa2.1
    refine (szRecordS_any (left := 1048576 - (n0 : Int) - ((n1 : Int) + vsz z1 n1)) (wa2.keeps kw) (by omega) (by omega)).mono ?_
    rintro e w12 ⟨rfl, k12⟩
    rw [szRs_no (left := 1048576 - (n0 : Int) - ((n1 : Int) + vsz z1 n1)) (n := n2) (l := z2) (by omega)]
    have ss13 := k12.size
    replace p0 := p0.keeps k12
    replace kw := Keeps.trans kw k12
    have lt14 := p0.lt
    have sz15 := kw.size
    clear k12
    go_wp2_with fail
    go_ret
    exact ⟨rfl, kw⟩
  have h2 := wa2.recs (by omega)
  refine (szRecordS_any (left := 1048576 - (n0 : Int) - ((n1 : Int) + vsz z1 n1)) (wa2.keeps kw) (by omega) (by omega)).mono ?_
  rintro e w12 ⟨rfl, k12⟩
  rw [szRs_ok (left := 1048576 - (n0 : Int) - ((n1 : Int) + vsz z1 n1)) (n := n2) (l := z2) (by omega)]
  have ss13 := k12.size
  replace p0 := p0.keeps k12
  replace kw := Keeps.trans kw k12
  have lt14 := p0.lt
  have sz15 := kw.size
  clear k12
  have tz2 : ¬ (1048576 - (n0 : Int) - ((n1 : Int) + vsz z1 n1) - ((n2 : Int) + rsz z2 n2) < 0) := by omega
  obtain ⟨ca16, fa16⟩ := id p0
  go_wp2_with fail
  clear ca16 fa16
  by_cases hs3 : ((n3 + tsz z3 n3 : Nat) : Int) ≤ 1048576 - (n0 : Int) - ((n1 : Int) + vsz z1 n1) - ((n2 : Int) + rsz z2 n2)
  rotate_left
  · have hm3 := wa3.1
    refine (szTableS_any (left := 1048576 - (n0 : Int) - ((n1 : Int) + vsz z1 n1) - ((n2 : Int) + rsz z2 n2)) (wa3.keeps kw) (by omega) (by omega)).mono ?_
    rintro e w17 ⟨rfl, k17⟩
    rw [szQ_no (left := 1048576 - (n0 : Int) - ((n1 : Int) + vsz z1 n1) - ((n2 : Int) + rsz z2 n2)) (s := n3 + tsz z3 n3) hs3]
    have ss18 := k17.size
    replace p0 := p0.keeps k17
    replace kw := Keeps.trans kw k17
    have lt19 := p0.lt
    have sz20 := kw.size
    clear k17
    go_wp2_with fail
    go_ret
    exact ⟨rfl, kw⟩
  have h3 := wa3.tabs (by omega)
  refine (szTableS_any (left := 1048576 - (n0 : Int) - ((n1 : Int) + vsz z1 n1) - ((n2 : Int) + rsz z2 n2)) (wa3.keeps kw) (by omega) (by omega)).mono ?_
  rintro e w17 ⟨rfl, k17⟩
  rw [szQ_ok (left := 1048576 - (n0 : Int) - ((n1 : Int) + vsz z1 n1) - ((n2 : Int) + rsz z2 n2)) (s := n3 + tsz z3 n3) hs3]
  have ss18 := k17.size
  replace p0 := p0.keeps k17
  replace kw := Keeps.trans kw k17
  have lt19 := p0.lt
  have sz20 := kw.size
  clear k17
  have tz3 : ¬ (1048576 - (n0 : Int) - ((n1 : Int) + vsz z1 n1) - ((n2 : Int) + rsz z2 n2) - ((n3 + tsz z3 n3 : Nat) : Int) < 0) := by omega
  obtain ⟨ca21, fa21⟩ := id p0
  go_wp2_with fail
  clear ca21 fa21
  obtain ⟨r0, r1, HR⟩ : ∃ r0 r1, Hid (pbQ z0 z1 z2 z3 = (r0, r1)) := ⟨_, _, rfl⟩
  have hsm := pbQ_len (ps := z0) (l := z1) (rs := z2) (ts := z3)
  rw [HR.out] at hsm
  dsimp only at hsm
  refine (toGeo_any (h0.keeps kw)).mono ?_
  rintro e w22 ⟨By0, rfl, y0, k22⟩
  have ss23 := k22.size
  replace p0 := p0.keeps k22
  replace kw := Keeps.trans kw k22
  have lt24 := p0.lt
  have sz25 := kw.size
  clear k22
  obtain ⟨ca26, fa26⟩ := id p0
  go_wp2_with fail
  clear ca26 fa26
  refine (toVariableS_any (h1.keeps kw)).mono ?_
  rintro e w27 ⟨By1, rfl, y1, k27⟩
  have ss28 := k27.size
  replace p0 := p0.keeps k27
  replace y0 := y0.keeps k27
  replace kw := Keeps.trans kw k27
  have lt29 := p0.lt
  have sz30 := kw.size
  clear k27
  obtain ⟨ca31, fa31⟩ := id p0
  go_wp2_with fail
  clear ca31 fa31
  refine (toRecordS_any (h2.keeps kw)).mono ?_
  rintro e w32 ⟨By2, rfl, y2, k32⟩
  have ss33 := k32.size
  replace p0 := p0.keeps k32
  replace y0 := y0.keeps k32
  replace y1 := y1.keeps k32
  replace kw := Keeps.trans kw k32
  have lt34 := p0.lt
  have sz35 := kw.size
  clear k32
  obtain ⟨ca36, fa36⟩ := id p0
  go_wp2_with fail
  clear ca36 fa36
  refine (toTableS_any (h3.keeps kw)).mono ?_
  rintro e w37 ⟨By3, rfl, y3, k37⟩
  have ss38 := k37.size
  replace p0 := p0.keeps k37
  replace y0 := y0.keeps k37
  replace y1 := y1.keeps k37
  replace y2 := y2.keeps k37
  replace kw := Keeps.trans kw k37
  have lt39 := p0.lt
  have sz40 := kw.size
  clear k37
  obtain ⟨ca41, fa41⟩ := id p0
  go_wp2_with fail
  clear ca41 fa41
  refine (specPublishTables_any y0.1 y1.1 HNK.out y2.1 y3).mono ?_
  rintro e w42 ⟨p_A0, p_N0, p_C0, rfl, p_0, k42⟩
  have ss43 := k42.size
  replace p0 := p0.keeps k42
  replace y0 := y0.keeps k42
  replace y1 := y1.keeps k42
  replace y2 := y2.keeps k42
  replace y3 := y3.keeps k42
  replace kw := Keeps.trans kw k42
  have lt44 := p0.lt
  have sz45 := kw.size
  clear k42
  rw [HR.out]
  rw [HR.out] at p_0
  dsimp only at p_0
  dsimp only
  clear y0
  clear y1
  clear y2
  clear y3
  obtain ⟨ca46, fa46⟩ := id p0
  go_wp2_with fail
  clear ca46 fa46
  refine (toGeo_any (h0.keeps kw)).mono ?_
  rintro e w47 ⟨Bx0, rfl, x0, k47⟩
  have ss48 := k47.size
  replace p0 := p0.keeps k47
  replace p_0 := p_0.keeps k47
  replace kw := Keeps.trans kw k47
  have lt49 := p0.lt
  have sz50 := kw.size
  clear k47
  replace p0 := p0.keeps (keeps_alloc w47 (.cells #[.slice Bx0 n0 n0] 26))
  replace p_0 := p_0.keeps (keeps_alloc w47 (.cells #[.slice Bx0 n0 n0] 26))
  replace x0 := x0.keeps (keeps_alloc w47 (.cells #[.slice Bx0 n0 n0] 26))
  replace kw := Keeps.trans kw (keeps_alloc w47 (.cells #[.slice Bx0 n0 n0] 26))
  have bx0 : B1 (w47.alloc (.cells #[.slice Bx0 n0 n0] 26)) w47.heap.size (.slice Bx0 n0 n0) := B1.new' (by simp)
  obtain ⟨ca51, fa51⟩ := id p0
  obtain ⟨ca52, fa52⟩ := id bx0
  go_wp2_with fail
  clear ca51 fa51 ca52 fa52
  refine (toVariableS_any (h1.keeps kw)).mono ?_
  rintro e w53 ⟨Bx1, rfl, x1, k53⟩
  have ss54 := k53.size
  simp at ss54
  replace p0 := p0.keeps k53
  replace bx0 := bx0.keeps k53
  replace p_0 := p_0.keeps k53
  replace x0 := x0.keeps k53
  replace kw := Keeps.trans kw k53
  have lt55 := bx0.lt
  have sz56 := kw.size
  clear k53
  replace x1 := x1.widen (lo' := w47.heap.size + 1) (by simp) (Nat.le_refl _) (Nat.le_refl _)
  obtain ⟨ca57, fa57⟩ := id p0
  obtain ⟨ca58, fa58⟩ := id bx0
  go_wp2_with fail
  clear ca57 fa57 ca58 fa58
  refine (toRecordS_any (h2.keeps kw)).mono ?_
  rintro e w59 ⟨Bx2, rfl, x2, k59⟩
  have ss60 := k59.size
  replace p0 := p0.keeps k59
  replace bx0 := bx0.keeps k59
  replace p_0 := p_0.keeps k59
  replace x0 := x0.keeps k59
  replace x1 := x1.keeps k59
  replace kw := Keeps.trans kw k59
  have lt61 := bx0.lt
  have sz62 := kw.size
  clear k59
  obtain ⟨ca63, fa63⟩ := id p0
  obtain ⟨ca64, fa64⟩ := id bx0
  go_wp2_with fail
  clear ca63 fa63 ca64 fa64
  refine (toTableS_any (h3.keeps kw)).mono ?_
  rintro e w65 ⟨Bx3, rfl, x3, k65⟩
  have ss66 := k65.size
  replace p0 := p0.keeps k65
  replace bx0 := bx0.keeps k65
  replace p_0 := p_0.keeps k65
  replace x0 := x0.keeps k65
  replace x1 := x1.keeps k65
  replace x2 := x2.keeps k65
  replace kw := Keeps.trans kw k65
  have lt67 := bx0.lt
  have sz68 := kw.size
  clear k65
  obtain ⟨ca69, fa69⟩ := id p0
  obtain ⟨ca70, fa70⟩ := id bx0
  go_wp2_with fail
  clear ca69 fa69 ca70 fa70
  refine (implPublishTables_any x0.1 x1.1 HNK.out x2.1 x3).mono ?_
  rintro e w71 ⟨g_A0, g_N0, g_C0, rfl, g_0, k71⟩
  have ss72 := k71.size
  replace p0 := p0.keeps k71
  replace bx0 := bx0.keeps k71
  replace p_0 := p_0.keeps k71
  replace x0 := x0.keeps k71
  replace x1 := x1.keeps k71
  replace x2 := x2.keeps k71
  replace x3 := x3.keeps k71
  replace kw := Keeps.trans kw k71
  have lt73 := bx0.lt
  have sz74 := kw.size
  clear k71
  rw [HR.out]
  rw [HR.out] at g_0
  dsimp only at g_0
  dsimp only
  obtain ⟨ca75, fa75⟩ := id p0
  obtain ⟨ca76, fa76⟩ := id bx0
  go_wp2_with fail
  clear ca75 fa75 ca76 fa76
  have e1 : (r1 != r1) = false := by simp
  refine (eqPublishedS_true g_0.pubs p_0.pubs).mono ?_
  rintro e w77 ⟨rfl, k77⟩
  have ss78 := k77.size
  replace p0 := p0.keeps k77
  replace bx0 := bx0.keeps k77
  replace p_0 := p_0.keeps k77
  replace x0 := x0.keeps k77
  replace x1 := x1.keeps k77
  replace x2 := x2.keeps k77
  replace x3 := x3.keeps k77
  replace g_0 := g_0.keeps k77
  replace kw := Keeps.trans kw k77
  have lt79 := bx0.lt
  have sz80 := kw.size
  clear k77
  obtain ⟨ca81, fa81⟩ := id p0
  obtain ⟨ca82, fa82⟩ := id bx0
  go_wp2_with fail
  clear ca81 fa81 ca82 fa82
  obtain ⟨ca83, -⟩ := id bx0
  obtain ⟨ca84, -⟩ := id p0
  have kS := hid (show ∀ w', Keeps w77 w' → (w'.cell? ⟨w47.heap.size, 0, none⟩ = some (.slice Bx0 n0 n0) ∧ w'.cell? ⟨w.heap.size, 0, none⟩ = some (.slice A0 n0 c0)) from fun w' k => ⟨cell_keeps ca83 k, cell_keeps ca84 k⟩)
  go_region_held3 (fun w' => w'.cell? ⟨w47.heap.size, 0, none⟩ = some (.slice Bx0 n0 n0) ∧ w'.cell? ⟨w.heap.size, 0, none⟩ = some (.slice A0 n0 c0)) (first | exact kS.out _ (keeps_d0 w77) | exact kS.out _ kW | go_keep)
    ((first | (go_at_call 25; refine (toGeo_any (h0.keeps (Keeps.trans kw (keeps_d0 w77)))).mono ?_; rintro e wB85 ⟨Bt85, rfl, t0, kB⟩; have kW : Keeps w77 wB85 := keeps_d kB; clear kB) | (go_at_call 31; refine (eqGeo_true (x0.1.keeps kW) t0.1).mono ?_; rintro e wC85 ⟨rfl, kC⟩; replace kW : Keeps w77 wC85 := kW.trans kC; clear kC)))
  clear kS t0
  clear ca83 ca84
  have ss86 := kW.size
  replace p0 := p0.keeps kW
  replace bx0 := bx0.keeps kW
  replace p_0 := p_0.keeps kW
  replace x0 := x0.keeps kW
  replace x1 := x1.keeps kW
  replace x2 := x2.keeps kW
  replace x3 := x3.keeps kW
  replace g_0 := g_0.keeps kW
  replace kw := Keeps.trans kw kW
  have lt87 := bx0.lt
  have sz88 := kw.size
  clear kW
  obtain ⟨ca89, fa89⟩ := id p0
  obtain ⟨ca90, fa90⟩ := id bx0
  go_wp2_with fail
  clear ca89 fa89 ca90 fa90
  refine (toVariableS_any (h1.keeps kw)).mono ?_
  rintro e w91 ⟨Bt1, rfl, t1, k91⟩
  have ss92 := k91.size
  replace p0 := p0.keeps k91
  replace bx0 := bx0.keeps k91
  replace p_0 := p_0.keeps k91
  replace x0 := x0.keeps k91
  replace x1 := x1.keeps k91
  replace x2 := x2.keeps k91
  replace x3 := x3.keeps k91
  replace g_0 := g_0.keeps k91
  replace kw := Keeps.trans kw k91
  have lt93 := bx0.lt
  have sz94 := kw.size
  clear k91
  obtain ⟨ca95, fa95⟩ := id p0
  obtain ⟨ca96, fa96⟩ := id bx0
  go_wp2_with fail
  clear ca95 fa95 ca96 fa96
  refine (eqVariableS_true x1.1 t1.1).mono ?_
  rintro e w97 ⟨rfl, k97⟩
  have ss98 := k97.size
  replace p0 := p0.keeps k97
  replace bx0 := bx0.keeps k97
  replace p_0 := p_0.keeps k97
  replace x0 := x0.keeps k97
  replace x1 := x1.keeps k97
  replace x2 := x2.keeps k97
  replace x3 := x3.keeps k97
  replace g_0 := g_0.keeps k97
  replace t1 := t1.keeps k97
  replace kw := Keeps.trans kw k97
  have lt99 := bx0.lt
  have sz100 := kw.size
  clear k97
  clear t1
  obtain ⟨ca101, fa101⟩ := id p0
  obtain ⟨ca102, fa102⟩ := id bx0
  go_wp2_with fail
  clear ca101 fa101 ca102 fa102
  refine (toRecordS_any (h2.keeps kw)).mono ?_
  rintro e w103 ⟨Bt2, rfl, t2, k103⟩
  have ss104 := k103.size
  replace p0 := p0.keeps k103
  replace bx0 := bx0.keeps k103
  replace p_0 := p_0.keeps k103
  replace x0 := x0.keeps k103
  replace x1 := x1.keeps k103
  replace x2 := x2.keeps k103
  replace x3 := x3.keeps k103
  replace g_0 := g_0.keeps k103
  replace kw := Keeps.trans kw k103
  have lt105 := bx0.lt
  have sz106 := kw.size
  clear k103
  obtain ⟨ca107, fa107⟩ := id p0
  obtain ⟨ca108, fa108⟩ := id bx0
  go_wp2_with fail
  clear ca107 fa107 ca108 fa108
  refine (eqRecordS_true x2.1 t2.1).mono ?_
  rintro e w109 ⟨rfl, k109⟩
  have ss110 := k109.size
  replace p0 := p0.keeps k109
  replace bx0 := bx0.keeps k109
  replace p_0 := p_0.keeps k109
  replace x0 := x0.keeps k109
  replace x1 := x1.keeps k109
  replace x2 := x2.keeps k109
  replace x3 := x3.keeps k109
  replace g_0 := g_0.keeps k109
  replace t2 := t2.keeps k109
  replace kw := Keeps.trans kw k109
  have lt111 := bx0.lt
  have sz112 := kw.size
  clear k109
  clear t2
  obtain ⟨ca113, fa113⟩ := id p0
  obtain ⟨ca114, fa114⟩ := id bx0
  go_wp2_with fail
  clear ca113 fa113 ca114 fa114
  refine (toTableS_any (h3.keeps kw)).mono ?_
  rintro e w115 ⟨Bt3, rfl, t3, k115⟩
  have ss116 := k115.size
  replace p0 := p0.keeps k115
  replace bx0 := bx0.keeps k115
  replace p_0 := p_0.keeps k115
  replace x0 := x0.keeps k115
  replace x1 := x1.keeps k115
  replace x2 := x2.keeps k115
  replace x3 := x3.keeps k115
  replace g_0 := g_0.keeps k115
  replace kw := Keeps.trans kw k115
  have lt117 := bx0.lt
  have sz118 := kw.size
  clear k115
  obtain ⟨ca119, fa119⟩ := id p0
  obtain ⟨ca120, fa120⟩ := id bx0
  go_wp2_with fail
  clear ca119 fa119 ca120 fa120
  refine (eqTableS_true x3 t3).mono ?_
  rintro e w121 ⟨rfl, k121⟩
  have ss122 := k121.size
  replace p0 := p0.keeps k121
  replace bx0 := bx0.keeps k121
  replace p_0 := p_0.keeps k121
  replace x0 := x0.keeps k121
  replace x1 := x1.keeps k121
  replace x2 := x2.keeps k121
  replace x3 := x3.keeps k121
  replace g_0 := g_0.keeps k121
  replace t3 := t3.keeps k121
  replace kw := Keeps.trans kw k121
  have lt123 := bx0.lt
  have sz124 := kw.size
  clear k121
  clear t3
  obtain ⟨ca125, fa125⟩ := id p0
  obtain ⟨ca126, fa126⟩ := id bx0
  go_wp2_with fail
  clear ca125 fa125 ca126 fa126
  refine (markGeo_any x0 (by omega) (by omega)).mono ?_
  rintro e w127 ⟨rfl, mk127, f127⟩
  clear x0
  replace p0 := p0.fr f127 (by omega)
  replace bx0 := bx0.fr f127 (by omega)
  replace p_0 := p_0.fr f127 (by omega)
  replace x1 := x1.fr f127 (by omega)
  replace x2 := x2.fr f127 (by omega)
  replace x3 := x3.fr f127 (by omega)
  replace g_0 := g_0.fr f127 (by omega)
  have ssf127 := f127.size
  replace kw := below_fr kw kw.size (by omega) f127
  obtain ⟨ca128, fa128⟩ := id p0
  obtain ⟨ca129, fa129⟩ := id bx0
  go_wp2_with fail
  clear ca128 fa128 ca129 fa129
  clear mk127
  refine (markVs_any x1 (by omega) (by omega) (by omega)).mono ?_
  rintro e w130 ⟨rfl, mk130, f130⟩
  clear x1
  replace p0 := p0.fr f130 (by omega)
  replace bx0 := bx0.fr f130 (by omega)
  replace p_0 := p_0.fr f130 (by omega)
  replace x2 := x2.fr f130 (by omega)
  replace x3 := x3.fr f130 (by omega)
  replace g_0 := g_0.fr f130 (by omega)
  have ssf130 := f130.size
  replace kw := below_fr kw kw.size (by omega) f130
  obtain ⟨ca131, fa131⟩ := id p0
  obtain ⟨ca132, fa132⟩ := id bx0
  go_wp2_with fail
  clear ca131 fa131 ca132 fa132
  clear mk130
  refine (markRecordS_any x2 (by omega) (by omega) (by omega)).mono ?_
  rintro e w133 ⟨rfl, mk133, f133⟩
  clear x2
  replace p0 := p0.fr f133 (by omega)
  replace bx0 := bx0.fr f133 (by omega)
  replace p_0 := p_0.fr f133 (by omega)
  replace x3 := x3.fr f133 (by omega)
  replace g_0 := g_0.fr f133 (by omega)
  have ssf133 := f133.size
  replace kw := below_fr kw kw.size (by omega) f133
  obtain ⟨ca134, fa134⟩ := id p0
  obtain ⟨ca135, fa135⟩ := id bx0
  go_wp2_with fail
  clear ca134 fa134 ca135 fa135
  clear mk133
  refine (markTableS_any x3.shape (by omega) (by omega) (by omega)).mono ?_
  rintro e w136 ⟨rfl, mk136, f136⟩
  clear x3 mk136
  replace p0 := p0.fr f136 (by omega)
  replace bx0 := bx0.fr f136 (by omega)
  replace p_0 := p_0.fr f136 (by omega)
  replace g_0 := g_0.fr f136 (by omega)
  have ssf136 := f136.size
  replace kw := below_fr kw kw.size (by omega) f136
  obtain ⟨ca137, fa137⟩ := id p0
  obtain ⟨ca138, fa138⟩ := id bx0
  go_wp2_with fail
  clear ca137 fa137 ca138 fa138
  refine (eqPublishedS_true g_0.pubs p_0.pubs).mono ?_
  rintro e w139 ⟨rfl, k139⟩
  have ss140 := k139.size
  replace p0 := p0.keeps k139
  replace bx0 := bx0.keeps k139
  replace p_0 := p_0.keeps k139
  replace g_0 := g_0.keeps k139
  replace kw := Keeps.trans kw k139
  have lt141 := bx0.lt
  have sz142 := kw.size
  clear k139
  obtain ⟨ca143, fa143⟩ := id p0
  obtain ⟨ca144, fa144⟩ := id bx0
  go_wp2_with fail
  clear ca143 fa143 ca144 fa144
  have hsz := hsm
  rw [g_0.len] at hsz
  refine (markPublishedS_sep g_0 (by omega) (by omega) hsz).mono ?_
  rintro e w145 ⟨rfl, mk145, f145⟩
  clear g_0
  replace p0 := p0.fr f145 (by omega)
  replace bx0 := bx0.fr f145 (by omega)
  replace p_0 := p_0.fr f145 (by omega)
  have ssf145 := f145.size
  replace kw := below_fr kw kw.size (by omega) f145
  obtain ⟨ca146, fa146⟩ := id p0
  obtain ⟨ca147, fa147⟩ := id bx0
  go_wp2_with fail
  clear ca146 fa146 ca147 fa147
  have u1 : ((1 + (2 * (g_N0 : Int) + ((psz r0 g_N0 : Nat) : Int))) != (1 + (2 * (g_N0 : Int) + ((psz r0 g_N0 : Nat) : Int)))) = false := by simp
  have u2 : ¬ (1 + (2 * (g_N0 : Int) + ((psz r0 g_N0 : Nat) : Int)) < 0) := by omega
  refine (heldPublishedS_any mk145.pubs (by omega) (by omega) hsz).mono ?_
  rintro e w' ⟨rfl, rfl⟩
  obtain ⟨ca148, fa148⟩ := id p0
  obtain ⟨ca149, fa149⟩ := id bx0
  go_wp2_with fail
  clear ca148 fa148 ca149 fa149
  refine (toGeo_any (h0.keeps kw)).mono ?_
  rintro e w150 ⟨Bv0, rfl, v0, k150⟩
  have ss151 := k150.size
  replace p0 := p0.keeps k150
  replace bx0 := bx0.keeps k150
  replace p_0 := p_0.keeps k150
  replace mk145 := mk145.keeps k150
  replace kw := Keeps.trans kw k150
  have lt152 := bx0.lt
  have sz153 := kw.size
  clear k150
  obtain ⟨ca154, fa154⟩ := id p0
  obtain ⟨ca155, fa155⟩ := id bx0
  go_wp2_with fail
  clear ca154 fa154 ca155 fa155
  refine (toVariableS_any (h1.keeps kw)).mono ?_
  rintro e w156 ⟨Bv1, rfl, v1, k156⟩
  have ss157 := k156.size
  replace p0 := p0.keeps k156
  replace bx0 := bx0.keeps k156
  replace p_0 := p_0.keeps k156
  replace mk145 := mk145.keeps k156
  replace v0 := v0.keeps k156
  replace kw := Keeps.trans kw k156
  have lt158 := bx0.lt
  have sz159 := kw.size
  clear k156
  obtain ⟨ca160, fa160⟩ := id p0
  obtain ⟨ca161, fa161⟩ := id bx0
  go_wp2_with fail
  clear ca160 fa160 ca161 fa161
  refine (toRecordS_any (h2.keeps kw)).mono ?_
  rintro e w162 ⟨Bv2, rfl, v2, k162⟩
  have ss163 := k162.size
  replace p0 := p0.keeps k162
  replace bx0 := bx0.keeps k162
  replace p_0 := p_0.keeps k162
  replace mk145 := mk145.keeps k162
  replace v0 := v0.keeps k162
  replace v1 := v1.keeps k162
  replace kw := Keeps.trans kw k162
  have lt164 := bx0.lt
  have sz165 := kw.size
  clear k162
  obtain ⟨ca166, fa166⟩ := id p0
  obtain ⟨ca167, fa167⟩ := id bx0
  go_wp2_with fail
  clear ca166 fa166 ca167 fa167
  refine (toTableS_any (h3.keeps kw)).mono ?_
  rintro e w168 ⟨Bv3, rfl, v3, k168⟩
  have ss169 := k168.size
  replace p0 := p0.keeps k168
  replace bx0 := bx0.keeps k168
  replace p_0 := p_0.keeps k168
  replace mk145 := mk145.keeps k168
  replace v0 := v0.keeps k168
  replace v1 := v1.keeps k168
  replace v2 := v2.keeps k168
  replace kw := Keeps.trans kw k168
  have lt170 := bx0.lt
  have sz171 := kw.size
  clear k168
  obtain ⟨ca172, fa172⟩ := id p0
  obtain ⟨ca173, fa173⟩ := id bx0
  go_wp2_with fail
  clear ca172 fa172 ca173 fa173
  refine (implPublishTables_any v0.1 v1.1 HNK.out v2.1 v3).mono ?_
  rintro e w174 ⟨h_A0, h_N0, h_C0, rfl, h_0, k174⟩
  have ss175 := k174.size
  replace p0 := p0.keeps k174
  replace bx0 := bx0.keeps k174
  replace p_0 := p_0.keeps k174
  replace mk145 := mk145.keeps k174
  replace v0 := v0.keeps k174
  replace v1 := v1.keeps k174
  replace v2 := v2.keeps k174
  replace v3 := v3.keeps k174
  replace kw := Keeps.trans kw k174
  have lt176 := bx0.lt
  have sz177 := kw.size
  clear k174
  rw [HR.out]
  rw [HR.out] at h_0
  dsimp only at h_0
  dsimp only
  clear v0
  clear v1
  clear v2
  clear v3
  obtain ⟨ca178, fa178⟩ := id p0
  obtain ⟨ca179, fa179⟩ := id bx0
  go_wp2_with fail
  clear ca178 fa178 ca179 fa179
  refine (eqPublishedS_true h_0.pubs p_0.pubs).mono ?_
  rintro e w180 ⟨rfl, k180⟩
  have ss181 := k180.size
  replace p0 := p0.keeps k180
  replace bx0 := bx0.keeps k180
  replace p_0 := p_0.keeps k180
  replace mk145 := mk145.keeps k180
  replace h_0 := h_0.keeps k180
  replace kw := Keeps.trans kw k180
  have lt182 := bx0.lt
  have sz183 := kw.size
  clear k180
  obtain ⟨ca184, fa184⟩ := id p0
  obtain ⟨ca185, fa185⟩ := id bx0
  go_wp2_with fail
  clear ca184 fa184 ca185 fa185
  refine (heldPublishedS_any mk145.pubs (by omega) (by omega) hsz).mono ?_
  rintro e w' ⟨rfl, rfl⟩
  obtain ⟨ca186, fa186⟩ := id p0
  obtain ⟨ca187, fa187⟩ := id bx0
  go_wp2_with fail
  clear ca186 fa186 ca187 fa187
  go_ret
  exact ⟨rfl, kw⟩
end Go.Proofs.YtohjkpopbmmliaaGreat
