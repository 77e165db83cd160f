/- SubtreeEstimates of the reference and of the program; the law. -/
import Derived.Test.YtkpliolafkdijaaSubI
namespace Go.Proofs.Ytkpliolafkdijaa
open Go.RowKit
set_option linter.unusedVariables false
set_option linter.unusedSimpArgs false

theorem subQ_eq {ps y v : List Int} {n : Nat} (h : treeB ps y v = true) (hl : ps.length = n) : subQ ps y v = (o1 (subT ps y v n n), o2 (subT ps y v n n), (subT ps y v n n).isSome) := by
  cases e : subT ps y v n n with
  | none => rw [subQ_none h hl e]; rfl
  | some s => rw [subQ_some h hl e]; rfl
theorem o_none : o1 none = [] ∧ o2 none = [] := ⟨rfl, rfl⟩

set_option maxRecDepth 100000 in
set_option maxHeartbeats 1600000 in
theorem specSubtreeEstimates_any {A0 A1 A2 : Option Addr} {l0 l1 l2 u0 u1 u2 n0 n1 n2 c0 c1 c2 : Nat} {ps y v : List Int} {w : World} (h0 : Ints w l0 u0 A0 n0 ps) (h1 : Ints w l1 u1 A1 n1 y) (h2 : Ints w l2 u2 A2 n2 v) :
    Calls Try.prog 31 #[.agg #[.slice A0 n0 c0], .slice A1 n1 c1, .slice A2 n2 c2] w fun e w' => TwoS w (subQ ps y v).1 (subQ ps y v).2.1 (subQ ps y v).2.2 e w' := by
  have hl0 := h0.1
  have hl1 := h1.1
  have hl2 := h2.1
  go_enter Try.func31, Try.ntmps31
  have kw := keeps_refl w
  replace kw := Keeps.trans kw (keeps_alloc w (.cells #[.slice A0 n0 c0] 51))
  have b3 : B1 (w.alloc (.cells #[.slice A0 n0 c0] 51)) w.heap.size (.slice A0 n0 c0) := B1.new' (by simp)
  obtain ⟨ca1, fa1⟩ := id b3
  go_wp2_with fail
  clear ca1 fa1
  obtain ⟨pH1, H1⟩ : ∃ pB, Hid (treeB ps y v = pB) := ⟨_, rfl⟩
  refine (wTree_any (h0.keeps kw) (h1.keeps kw) (h2.keeps kw)).mono ?_
  rintro e w2 ⟨rfl, k2⟩
  rw [H1.out]
  replace b3 := b3.keeps k2
  replace kw := Keeps.trans kw k2
  have lt3 := b3.lt
  have sz4 := kw.size
  clear k2
  cases pH1
  · have HF := hid (subQ_no H1.out)
    go_wp2_with fail
    go_ret3
    exact TwoS.none (by rw [HF.out]) kw
  · skip
    have HT := hid (treeB_true.1 H1.out)
    obtain ⟨rfl, rfl⟩ : n1 = n0 ∧ n2 = n0 := by have := HT.out; omega
    have HF := hid (subQ_eq H1.out hl0)
    obtain ⟨ca5, fa5⟩ := id b3
    go_wp2_with fail
    clear ca5 fa5
    refine (wSubtree_any (h0.keeps kw) (h1.keeps kw) (h2.keeps kw) H1.out).mono ?_
    rintro e w6 ⟨Aa, Na, Ca, Ab, Nb, Cb, L1, U1, L2, U2, rfl, hB, q1, q2, k6⟩
    replace b3 := b3.keeps k6
    replace kw := Keeps.trans kw k6
    have lt7 := b3.lt
    have sz8 := kw.size
    clear k6
    go_wp2_with fail
    go_ret3
    exact ⟨Aa, Na, Ca, Ab, Nb, Cb, L1, U1, L2, U2, by rw [HF.out]; rfl, by omega, by rw [HF.out]; exact q1, by rw [HF.out]; exact q2, kw⟩
set_option maxRecDepth 100000 in
set_option maxHeartbeats 1600000 in
theorem implSubtreeEstimates_any {A0 A1 A2 : Option Addr} {l0 l1 l2 u0 u1 u2 n0 n1 n2 c0 c1 c2 : Nat} {ps y v : List Int} {w : World} (h0 : Ints w l0 u0 A0 n0 ps) (h1 : Ints w l1 u1 A1 n1 y) (h2 : Ints w l2 u2 A2 n2 v) :
    Calls Try.prog 34 #[.agg #[.slice A0 n0 c0], .slice A1 n1 c1, .slice A2 n2 c2] w fun e w' => TwoS w (subQ ps y v).1 (subQ ps y v).2.1 (subQ ps y v).2.2 e w' := by
  have hl0 := h0.1
  have hl1 := h1.1
  have hl2 := h2.1
  go_enter Try.func34, Try.ntmps34
  have kw := keeps_refl w
  replace kw := Keeps.trans kw (keeps_alloc w (.cells #[.slice A0 n0 c0] 51))
  have b3 : B1 (w.alloc (.cells #[.slice A0 n0 c0] 51)) w.heap.size (.slice A0 n0 c0) := B1.new' (by simp)
  obtain ⟨ca1, fa1⟩ := id b3
  go_wp2_with fail
  clear ca1 fa1
  obtain ⟨pH1, H1⟩ : ∃ pB, Hid (treeB ps y v = pB) := ⟨_, rfl⟩
  refine (areTreeValues_any (h0.keeps kw) (h1.keeps kw) (h2.keeps kw)).mono ?_
  rintro e w2 ⟨rfl, k2⟩
  rw [H1.out]
  replace b3 := b3.keeps k2
  replace kw := Keeps.trans kw k2
  have lt3 := b3.lt
  have sz4 := kw.size
  clear k2
  cases pH1
  · have HF := hid (subQ_no H1.out)
    go_wp2_with fail
    go_ret3
    exact TwoS.none (by rw [HF.out]) kw
  · skip
    have HT := hid (treeB_true.1 H1.out)
    obtain ⟨rfl, rfl⟩ : n1 = n0 ∧ n2 = n0 := by have := HT.out; omega
    have HF := hid (subQ_eq H1.out hl0)
    obtain ⟨ca5, fa5⟩ := id b3
    go_wp2_with fail
    clear ca5 fa5
    refine (subtreeEstimates_any (h0.keeps kw) (h1.keeps kw) (h2.keeps kw) H1.out).mono ?_
    rintro e w6 ⟨Aa, Na, Ca, Ab, Nb, Cb, L1, U1, L2, U2, rfl, hB, q1, q2, k6⟩
    replace b3 := b3.keeps k6
    replace kw := Keeps.trans kw k6
    have lt7 := b3.lt
    have sz8 := kw.size
    clear k6
    go_wp2_with fail
    go_ret3
    exact ⟨Aa, Na, Ca, Ab, Nb, Cb, L1, U1, L2, U2, by rw [HF.out]; rfl, by omega, by rw [HF.out]; exact q1, by rw [HF.out]; exact q2, kw⟩
set_option maxRecDepth 100000 in
set_option maxHeartbeats 1600000 in
theorem FnExactSubtreeEstimates_law (A0 : Option Addr) (n0 c0 : Nat) (z0 : List Int) (A1 : Option Addr) (n1 c1 : Nat) (z1 : List Int) (A2 : Option Addr) (n2 c2 : Nat) (z2 : List Int) (w : World) (wa0 : IntsArg w A0 n0 z0) (wa1 : IntsArg w A1 n1 z1) (wa2 : IntsArg w A2 n2 z2) :
    Calls Try.prog 5 #[.agg #[.slice A0 n0 c0], .slice A1 n1 c1, .slice A2 n2 c2] w fun e w' => e = .returned (.bool true) ∧ Below w.heap.size w w' := by
  by_cases hn1 : n1 ≤ 1048576
  rotate_left
  · have hlt : (1048576 : Int) < (n1 : Int) := by omega
    go_enter Try.func5, Try.ntmps5
    have kw := keeps_refl w
    replace kw := Keeps.trans kw (keeps_alloc w (.cells #[.slice A0 n0 c0] 47))
    have p0 : B1 (w.alloc (.cells #[.slice A0 n0 c0] 47)) w.heap.size (.slice A0 n0 c0) := B1.new' (by simp)
    go_wp2_with fail
    go_ret
    exact ⟨rfl, kw⟩
  have h1 := wa1.ints (by omega)
  by_cases hn2 : n2 ≤ 1048576
  rotate_left
  · have hlt : (1048576 : Int) < (n2 : Int) := by omega
    go_enter Try.func5, Try.ntmps5
    have kw := keeps_refl w
    replace kw := Keeps.trans kw (keeps_alloc w (.cells #[.slice A0 n0 c0] 47))
    have p0 : B1 (w.alloc (.cells #[.slice A0 n0 c0] 47)) w.heap.size (.slice A0 n0 c0) := B1.new' (by simp)
    go_wp2_with fail
    go_ret
    exact ⟨rfl, kw⟩
  have h2 := wa2.ints (by omega)
  go_enter Try.func5, Try.ntmps5
  have kw := keeps_refl w
  replace kw := Keeps.trans kw (keeps_alloc w (.cells #[.slice A0 n0 c0] 47))
  have p0 : B1 (w.alloc (.cells #[.slice A0 n0 c0] 47)) w.heap.size (.slice A0 n0 c0) := B1.new' (by simp)
  obtain ⟨ca1, fa1⟩ := id p0
  go_wp2_with fail
  clear ca1 fa1
  by_cases hs0 : (n0 : Int) ≤ 1048576
  rotate_left
  · have hm0 := wa0.1
    refine (szGeo_no _ _ _ (1048576) _ hm0 (by omega) (by omega) (by omega)).mono ?_
    rintro e w2 ⟨rfl, k2⟩
    have ss3 := k2.size
    simp at ss3
    replace p0 := p0.keeps k2
    replace kw := Keeps.trans kw k2
    have lt4 := p0.lt
    have sz5 := kw.size
    clear k2
    go_wp2_with fail
    go_ret
    exact ⟨rfl, kw⟩
  have h0 := wa0.ints (by omega)
  refine (szGeo_ok _ _ _ (1048576) _ (by omega) (by omega)).mono ?_
  rintro e w2 ⟨rfl, k2⟩
  have ss3 := k2.size
  simp at ss3
  replace p0 := p0.keeps k2
  replace kw := Keeps.trans kw k2
  have lt4 := p0.lt
  have sz5 := kw.size
  clear k2
  have tz0 : ¬ (1048576 - (n0 : Int) < 0) := by omega
  obtain ⟨ca6, fa6⟩ := id p0
  go_wp2_with fail
  clear ca6 fa6
  obtain ⟨r0, r1, r2, HR⟩ : ∃ r0 r1 r2, Hid (subQ z0 z1 z2 = (r0, r1, r2)) := ⟨_, _, _, rfl⟩
  refine (toGeo_any (h0.keeps kw)).mono ?_
  rintro e w7 ⟨By0, rfl, y0, k7⟩
  have ss8 := k7.size
  replace p0 := p0.keeps k7
  replace kw := Keeps.trans kw k7
  have lt9 := p0.lt
  have sz10 := kw.size
  clear k7
  obtain ⟨ca11, fa11⟩ := id p0
  go_wp2_with fail
  clear ca11 fa11
  refine (toIntS_any (h1.keeps kw)).mono ?_
  rintro e w12 ⟨By1, rfl, y1, k12⟩
  have ss13 := k12.size
  replace p0 := p0.keeps k12
  replace y0 := y0.keeps k12
  replace kw := Keeps.trans kw k12
  have lt14 := p0.lt
  have sz15 := kw.size
  clear k12
  obtain ⟨ca16, fa16⟩ := id p0
  go_wp2_with fail
  clear ca16 fa16
  refine (toIntS_any (h2.keeps kw)).mono ?_
  rintro e w17 ⟨By2, rfl, y2, k17⟩
  have ss18 := k17.size
  replace p0 := p0.keeps k17
  replace y0 := y0.keeps k17
  replace y1 := y1.keeps k17
  replace kw := Keeps.trans kw k17
  have lt19 := p0.lt
  have sz20 := kw.size
  clear k17
  obtain ⟨ca21, fa21⟩ := id p0
  go_wp2_with fail
  clear ca21 fa21
  refine (specSubtreeEstimates_any y0.1 y1.1 y2.1).mono ?_
  rintro e w22 ⟨p_A0, p_N0, p_C0, p_A1, p_N1, p_C1, p_L0, p_U0, p_L1, p_U1, rfl, p_B, p_0, p_1, k22⟩
  have ss23 := k22.size
  replace p0 := p0.keeps k22
  replace y0 := y0.keeps k22
  replace y1 := y1.keeps k22
  replace y2 := y2.keeps k22
  replace kw := Keeps.trans kw k22
  have lt24 := p0.lt
  have sz25 := kw.size
  clear k22
  rw [HR.out]
  dsimp only
  rw [HR.out] at p_0
  dsimp only at p_0
  rw [HR.out] at p_1
  dsimp only at p_1
  clear y0
  clear y1
  clear y2
  obtain ⟨ca26, fa26⟩ := id p0
  go_wp2_with fail
  clear ca26 fa26
  refine (toGeo_any (h0.keeps kw)).mono ?_
  rintro e w27 ⟨Bx0, rfl, x0, k27⟩
  have ss28 := k27.size
  replace p0 := p0.keeps k27
  replace p_0 := p_0.keeps k27
  replace p_1 := p_1.keeps k27
  replace kw := Keeps.trans kw k27
  have lt29 := p0.lt
  have sz30 := kw.size
  clear k27
  replace p0 := p0.keeps (keeps_alloc w27 (.cells #[.slice Bx0 n0 n0] 51))
  replace p_0 := p_0.keeps (keeps_alloc w27 (.cells #[.slice Bx0 n0 n0] 51))
  replace p_1 := p_1.keeps (keeps_alloc w27 (.cells #[.slice Bx0 n0 n0] 51))
  replace x0 := x0.keeps (keeps_alloc w27 (.cells #[.slice Bx0 n0 n0] 51))
  replace kw := Keeps.trans kw (keeps_alloc w27 (.cells #[.slice Bx0 n0 n0] 51))
  have bx0 : B1 (w27.alloc (.cells #[.slice Bx0 n0 n0] 51)) w27.heap.size (.slice Bx0 n0 n0) := B1.new' (by simp)
  obtain ⟨ca31, fa31⟩ := id p0
  obtain ⟨ca32, fa32⟩ := id bx0
  go_wp2_with fail
  clear ca31 fa31 ca32 fa32
  refine (toIntS_any (h1.keeps kw)).mono ?_
  rintro e w33 ⟨Bx1, rfl, x1, k33⟩
  have ss34 := k33.size
  simp at ss34
  replace p0 := p0.keeps k33
  replace bx0 := bx0.keeps k33
  replace p_0 := p_0.keeps k33
  replace p_1 := p_1.keeps k33
  replace x0 := x0.keeps k33
  replace kw := Keeps.trans kw k33
  have lt35 := bx0.lt
  have sz36 := kw.size
  clear k33
  replace x1 := x1.widen (lo' := w27.heap.size + 1) (by simp) (Nat.le_refl _) (Nat.le_refl _)
  obtain ⟨ca37, fa37⟩ := id p0
  obtain ⟨ca38, fa38⟩ := id bx0
  go_wp2_with fail
  clear ca37 fa37 ca38 fa38
  refine (toIntS_any (h2.keeps kw)).mono ?_
  rintro e w39 ⟨Bx2, rfl, x2, k39⟩
  have ss40 := k39.size
  replace p0 := p0.keeps k39
  replace bx0 := bx0.keeps k39
  replace p_0 := p_0.keeps k39
  replace p_1 := p_1.keeps k39
  replace x0 := x0.keeps k39
  replace x1 := x1.keeps k39
  replace kw := Keeps.trans kw k39
  have lt41 := bx0.lt
  have sz42 := kw.size
  clear k39
  obtain ⟨ca43, fa43⟩ := id p0
  obtain ⟨ca44, fa44⟩ := id bx0
  go_wp2_with fail
  clear ca43 fa43 ca44 fa44
  refine (implSubtreeEstimates_any x0.1 x1.1 x2.1).mono ?_
  rintro e w45 ⟨g_A0, g_N0, g_C0, g_A1, g_N1, g_C1, g_L0, g_U0, g_L1, g_U1, rfl, g_B, g_0, g_1, k45⟩
  have ss46 := k45.size
  replace p0 := p0.keeps k45
  replace bx0 := bx0.keeps k45
  replace p_0 := p_0.keeps k45
  replace p_1 := p_1.keeps k45
  replace x0 := x0.keeps k45
  replace x1 := x1.keeps k45
  replace x2 := x2.keeps k45
  replace kw := Keeps.trans kw k45
  have lt47 := bx0.lt
  have sz48 := kw.size
  clear k45
  rw [HR.out]
  dsimp only
  rw [HR.out] at g_0
  dsimp only at g_0
  rw [HR.out] at g_1
  dsimp only at g_1
  obtain ⟨ca49, fa49⟩ := id p0
  obtain ⟨ca50, fa50⟩ := id bx0
  go_wp2_with fail
  clear ca49 fa49 ca50 fa50
  have e2 : (r2 != r2) = false := by simp
  refine (eqFracS_true g_0.1 p_0.1).mono ?_
  rintro e w51 ⟨rfl, k51⟩
  have ss52 := k51.size
  replace p0 := p0.keeps k51
  replace bx0 := bx0.keeps k51
  replace p_0 := p_0.keeps k51
  replace p_1 := p_1.keeps k51
  replace x0 := x0.keeps k51
  replace x1 := x1.keeps k51
  replace x2 := x2.keeps k51
  replace g_0 := g_0.keeps k51
  replace g_1 := g_1.keeps k51
  replace kw := Keeps.trans kw k51
  have lt53 := bx0.lt
  have sz54 := kw.size
  clear k51
  obtain ⟨ca55, fa55⟩ := id p0
  obtain ⟨ca56, fa56⟩ := id bx0
  go_wp2_with fail
  clear ca55 fa55 ca56 fa56
  refine (eqFracS_true g_1.1 p_1.1).mono ?_
  rintro e w57 ⟨rfl, k57⟩
  have ss58 := k57.size
  replace p0 := p0.keeps k57
  replace bx0 := bx0.keeps k57
  replace p_0 := p_0.keeps k57
  replace p_1 := p_1.keeps k57
  replace x0 := x0.keeps k57
  replace x1 := x1.keeps k57
  replace x2 := x2.keeps k57
  replace g_0 := g_0.keeps k57
  replace g_1 := g_1.keeps k57
  replace kw := Keeps.trans kw k57
  have lt59 := bx0.lt
  have sz60 := kw.size
  clear k57
  obtain ⟨ca61, fa61⟩ := id p0
  obtain ⟨ca62, fa62⟩ := id bx0
  go_wp2_with fail
  clear ca61 fa61 ca62 fa62
  obtain ⟨ca63, -⟩ := id bx0
  obtain ⟨ca64, -⟩ := id p0
  have kS := hid (show ∀ w', Keeps w57 w' → (w'.cell? ⟨w27.heap.size, 0, none⟩ = some (.slice Bx0 n0 n0) ∧ w'.cell? ⟨w.heap.size, 0, none⟩ = some (.slice A0 n0 c0)) from fun w' k => ⟨cell_keeps ca63 k, cell_keeps ca64 k⟩)
  go_region_held3 (fun w' => w'.cell? ⟨w27.heap.size, 0, none⟩ = some (.slice Bx0 n0 n0) ∧ w'.cell? ⟨w.heap.size, 0, none⟩ = some (.slice A0 n0 c0)) (first | exact kS.out _ (keeps_d0 w57) | exact kS.out _ kW | go_keep)
    ((first | (go_at_call 32; refine (toGeo_any (h0.keeps (Keeps.trans kw (keeps_d0 w57)))).mono ?_; rintro e wB65 ⟨Bt65, rfl, t0, kB⟩; have kW : Keeps w57 wB65 := keeps_d kB; clear kB) | (go_at_call 35; refine (eqGeo_true (x0.1.keeps kW) t0.1).mono ?_; rintro e wC65 ⟨rfl, kC⟩; replace kW : Keeps w57 wC65 := kW.trans kC; clear kC)))
  clear kS t0
  clear ca63 ca64
  have ss66 := kW.size
  replace p0 := p0.keeps kW
  replace bx0 := bx0.keeps kW
  replace p_0 := p_0.keeps kW
  replace p_1 := p_1.keeps kW
  replace x0 := x0.keeps kW
  replace x1 := x1.keeps kW
  replace x2 := x2.keeps kW
  replace g_0 := g_0.keeps kW
  replace g_1 := g_1.keeps kW
  replace kw := Keeps.trans kw kW
  have lt67 := bx0.lt
  have sz68 := kw.size
  clear kW
  obtain ⟨ca69, fa69⟩ := id p0
  obtain ⟨ca70, fa70⟩ := id bx0
  go_wp2_with fail
  clear ca69 fa69 ca70 fa70
  refine (toIntS_any (h1.keeps kw)).mono ?_
  rintro e w71 ⟨Bt1, rfl, t1, k71⟩
  have ss72 := k71.size
  replace p0 := p0.keeps k71
  replace bx0 := bx0.keeps k71
  replace p_0 := p_0.keeps k71
  replace p_1 := p_1.keeps k71
  replace x0 := x0.keeps k71
  replace x1 := x1.keeps k71
  replace x2 := x2.keeps k71
  replace g_0 := g_0.keeps k71
  replace g_1 := g_1.keeps k71
  replace kw := Keeps.trans kw k71
  have lt73 := bx0.lt
  have sz74 := kw.size
  clear k71
  obtain ⟨ca75, fa75⟩ := id p0
  obtain ⟨ca76, fa76⟩ := id bx0
  go_wp2_with fail
  clear ca75 fa75 ca76 fa76
  refine (eqIntS_true x1.1 t1.1).mono ?_
  rintro e w77 ⟨rfl, k77⟩
  replace k77 := Quiet.keeps k77
  have ss78 := k77.size
  replace p0 := p0.keeps k77
  replace bx0 := bx0.keeps k77
  replace p_0 := p_0.keeps k77
  replace p_1 := p_1.keeps k77
  replace x0 := x0.keeps k77
  replace x1 := x1.keeps k77
  replace x2 := x2.keeps k77
  replace g_0 := g_0.keeps k77
  replace g_1 := g_1.keeps k77
  replace t1 := t1.keeps k77
  replace kw := Keeps.trans kw k77
  have lt79 := bx0.lt
  have sz80 := kw.size
  clear k77
  clear t1
  obtain ⟨ca81, fa81⟩ := id p0
  obtain ⟨ca82, fa82⟩ := id bx0
  go_wp2_with fail
  clear ca81 fa81 ca82 fa82
  refine (toIntS_any (h2.keeps kw)).mono ?_
  rintro e w83 ⟨Bt2, rfl, t2, k83⟩
  have ss84 := k83.size
  replace p0 := p0.keeps k83
  replace bx0 := bx0.keeps k83
  replace p_0 := p_0.keeps k83
  replace p_1 := p_1.keeps k83
  replace x0 := x0.keeps k83
  replace x1 := x1.keeps k83
  replace x2 := x2.keeps k83
  replace g_0 := g_0.keeps k83
  replace g_1 := g_1.keeps k83
  replace kw := Keeps.trans kw k83
  have lt85 := bx0.lt
  have sz86 := kw.size
  clear k83
  obtain ⟨ca87, fa87⟩ := id p0
  obtain ⟨ca88, fa88⟩ := id bx0
  go_wp2_with fail
  clear ca87 fa87 ca88 fa88
  refine (eqIntS_true x2.1 t2.1).mono ?_
  rintro e w89 ⟨rfl, k89⟩
  replace k89 := Quiet.keeps k89
  have ss90 := k89.size
  replace p0 := p0.keeps k89
  replace bx0 := bx0.keeps k89
  replace p_0 := p_0.keeps k89
  replace p_1 := p_1.keeps k89
  replace x0 := x0.keeps k89
  replace x1 := x1.keeps k89
  replace x2 := x2.keeps k89
  replace g_0 := g_0.keeps k89
  replace g_1 := g_1.keeps k89
  replace t2 := t2.keeps k89
  replace kw := Keeps.trans kw k89
  have lt91 := bx0.lt
  have sz92 := kw.size
  clear k89
  clear t2
  obtain ⟨ca93, fa93⟩ := id p0
  obtain ⟨ca94, fa94⟩ := id bx0
  go_wp2_with fail
  clear ca93 fa93 ca94 fa94
  refine (markGeo_any x0 (by omega) (by omega)).mono ?_
  rintro e w95 ⟨rfl, mk95, f95⟩
  clear x0
  replace p0 := p0.fr f95 (by omega)
  replace bx0 := bx0.fr f95 (by omega)
  replace p_0 := p_0.fr f95 (by omega)
  replace p_1 := p_1.fr f95 (by omega)
  replace x1 := x1.fr f95 (by omega)
  replace x2 := x2.fr f95 (by omega)
  replace g_0 := g_0.fr f95 (by omega)
  replace g_1 := g_1.fr f95 (by omega)
  have ssf95 := f95.size
  replace kw := below_fr kw kw.size (by omega) f95
  obtain ⟨ca96, fa96⟩ := id p0
  obtain ⟨ca97, fa97⟩ := id bx0
  go_wp2_with fail
  clear ca96 fa96 ca97 fa97
  clear mk95
  refine (markIntS_any x1 (by omega) (by omega)).mono ?_
  rintro e w98 ⟨rfl, mk98, f98⟩
  clear x1
  replace p0 := p0.fr f98 (by omega)
  replace bx0 := bx0.fr f98 (by omega)
  replace p_0 := p_0.fr f98 (by omega)
  replace p_1 := p_1.fr f98 (by omega)
  replace x2 := x2.fr f98 (by omega)
  replace g_0 := g_0.fr f98 (by omega)
  replace g_1 := g_1.fr f98 (by omega)
  have ssf98 := f98.size
  replace kw := below_fr kw kw.size (by omega) f98
  obtain ⟨ca99, fa99⟩ := id p0
  obtain ⟨ca100, fa100⟩ := id bx0
  go_wp2_with fail
  clear ca99 fa99 ca100 fa100
  clear mk98
  refine (markIntS_any x2 (by omega) (by omega)).mono ?_
  rintro e w101 ⟨rfl, mk101, f101⟩
  clear x2
  replace p0 := p0.fr f101 (by omega)
  replace bx0 := bx0.fr f101 (by omega)
  replace p_0 := p_0.fr f101 (by omega)
  replace p_1 := p_1.fr f101 (by omega)
  replace g_0 := g_0.fr f101 (by omega)
  replace g_1 := g_1.fr f101 (by omega)
  have ssf101 := f101.size
  replace kw := below_fr kw kw.size (by omega) f101
  obtain ⟨ca102, fa102⟩ := id p0
  obtain ⟨ca103, fa103⟩ := id bx0
  go_wp2_with fail
  clear ca102 fa102 ca103 fa103
  clear mk101
  refine (eqFracS_true g_0.1 p_0.1).mono ?_
  rintro e w104 ⟨rfl, k104⟩
  have ss105 := k104.size
  replace p0 := p0.keeps k104
  replace bx0 := bx0.keeps k104
  replace p_0 := p_0.keeps k104
  replace p_1 := p_1.keeps k104
  replace g_0 := g_0.keeps k104
  replace g_1 := g_1.keeps k104
  replace kw := Keeps.trans kw k104
  have lt106 := bx0.lt
  have sz107 := kw.size
  clear k104
  obtain ⟨ca108, fa108⟩ := id p0
  obtain ⟨ca109, fa109⟩ := id bx0
  go_wp2_with fail
  clear ca108 fa108 ca109 fa109
  refine (eqFracS_true g_1.1 p_1.1).mono ?_
  rintro e w110 ⟨rfl, k110⟩
  have ss111 := k110.size
  replace p0 := p0.keeps k110
  replace bx0 := bx0.keeps k110
  replace p_0 := p_0.keeps k110
  replace p_1 := p_1.keeps k110
  replace g_0 := g_0.keeps k110
  replace g_1 := g_1.keeps k110
  replace kw := Keeps.trans kw k110
  have lt112 := bx0.lt
  have sz113 := kw.size
  clear k110
  obtain ⟨ca114, fa114⟩ := id p0
  obtain ⟨ca115, fa115⟩ := id bx0
  go_wp2_with fail
  clear ca114 fa114 ca115 fa115
  have nb0 := (SlM.sl g_0).le
  refine (markFracS_any g_0 (by omega) (by omega)).mono ?_
  rintro e w116 ⟨rfl, mk116, f116⟩
  clear g_0
  replace p0 := p0.fr f116 (by omega)
  replace bx0 := bx0.fr f116 (by omega)
  replace p_0 := p_0.fr f116 (by omega)
  replace p_1 := p_1.fr f116 (by omega)
  replace g_1 := g_1.fr f116 (by omega)
  have ssf116 := f116.size
  replace kw := below_fr kw kw.size (by omega) f116
  obtain ⟨ca117, fa117⟩ := id p0
  obtain ⟨ca118, fa118⟩ := id bx0
  go_wp2_with fail
  clear ca117 fa117 ca118 fa118
  have nb1 := (SlM.sl g_1).le
  refine (markFracS_any g_1 (by omega) (by omega)).mono ?_
  rintro e w119 ⟨rfl, mk119, f119⟩
  clear g_1
  replace p0 := p0.fr f119 (by omega)
  replace bx0 := bx0.fr f119 (by omega)
  replace p_0 := p_0.fr f119 (by omega)
  replace p_1 := p_1.fr f119 (by omega)
  replace mk116 := mk116.fr f119 (by omega)
  have ssf119 := f119.size
  replace kw := below_fr kw kw.size (by omega) f119
  obtain ⟨ca120, fa120⟩ := id p0
  obtain ⟨ca121, fa121⟩ := id bx0
  go_wp2_with fail
  clear ca120 fa120 ca121 fa121
  have u1 : ((1 + 2 * (g_N0 : Int) + 2 * (g_N1 : Int)) != (1 + 2 * (g_N0 : Int) + 2 * (g_N1 : Int))) = false := by simp
  have u2 : ¬ (1 + 2 * (g_N0 : Int) < 0) := by omega
  have u3 : ¬ (1 + 2 * (g_N0 : Int) + 2 * (g_N1 : Int) < 0) := by omega
  refine (heldFracS_any mk116.1 (by omega) (by omega)).mono ?_
  rintro e w' ⟨rfl, rfl⟩
  obtain ⟨ca122, fa122⟩ := id p0
  obtain ⟨ca123, fa123⟩ := id bx0
  go_wp2_with fail
  clear ca122 fa122 ca123 fa123
  refine (heldFracS_any mk119.1 (by omega) (by omega)).mono ?_
  rintro e w' ⟨rfl, rfl⟩
  obtain ⟨ca124, fa124⟩ := id p0
  obtain ⟨ca125, fa125⟩ := id bx0
  go_wp2_with fail
  clear ca124 fa124 ca125 fa125
  refine (toGeo_any (h0.keeps kw)).mono ?_
  rintro e w126 ⟨Bv0, rfl, v0, k126⟩
  have ss127 := k126.size
  replace p0 := p0.keeps k126
  replace bx0 := bx0.keeps k126
  replace p_0 := p_0.keeps k126
  replace p_1 := p_1.keeps k126
  replace mk116 := mk116.keeps k126
  replace mk119 := mk119.keeps k126
  replace kw := Keeps.trans kw k126
  have lt128 := bx0.lt
  have sz129 := kw.size
  clear k126
  obtain ⟨ca130, fa130⟩ := id p0
  obtain ⟨ca131, fa131⟩ := id bx0
  go_wp2_with fail
  clear ca130 fa130 ca131 fa131
  refine (toIntS_any (h1.keeps kw)).mono ?_
  rintro e w132 ⟨Bv1, rfl, v1, k132⟩
  have ss133 := k132.size
  replace p0 := p0.keeps k132
  replace bx0 := bx0.keeps k132
  replace p_0 := p_0.keeps k132
  replace p_1 := p_1.keeps k132
  replace mk116 := mk116.keeps k132
  replace mk119 := mk119.keeps k132
  replace v0 := v0.keeps k132
  replace kw := Keeps.trans kw k132
  have lt134 := bx0.lt
  have sz135 := kw.size
  clear k132
  obtain ⟨ca136, fa136⟩ := id p0
  obtain ⟨ca137, fa137⟩ := id bx0
  go_wp2_with fail
  clear ca136 fa136 ca137 fa137
  refine (toIntS_any (h2.keeps kw)).mono ?_
  rintro e w138 ⟨Bv2, rfl, v2, k138⟩
  have ss139 := k138.size
  replace p0 := p0.keeps k138
  replace bx0 := bx0.keeps k138
  replace p_0 := p_0.keeps k138
  replace p_1 := p_1.keeps k138
  replace mk116 := mk116.keeps k138
  replace mk119 := mk119.keeps k138
  replace v0 := v0.keeps k138
  replace v1 := v1.keeps k138
  replace kw := Keeps.trans kw k138
  have lt140 := bx0.lt
  have sz141 := kw.size
  clear k138
  obtain ⟨ca142, fa142⟩ := id p0
  obtain ⟨ca143, fa143⟩ := id bx0
  go_wp2_with fail
  clear ca142 fa142 ca143 fa143
  refine (implSubtreeEstimates_any v0.1 v1.1 v2.1).mono ?_
  rintro e w144 ⟨h_A0, h_N0, h_C0, h_A1, h_N1, h_C1, h_L0, h_U0, h_L1, h_U1, rfl, h_B, h_0, h_1, k144⟩
  have ss145 := k144.size
  replace p0 := p0.keeps k144
  replace bx0 := bx0.keeps k144
  replace p_0 := p_0.keeps k144
  replace p_1 := p_1.keeps k144
  replace mk116 := mk116.keeps k144
  replace mk119 := mk119.keeps k144
  replace v0 := v0.keeps k144
  replace v1 := v1.keeps k144
  replace v2 := v2.keeps k144
  replace kw := Keeps.trans kw k144
  have lt146 := bx0.lt
  have sz147 := kw.size
  clear k144
  rw [HR.out]
  dsimp only
  rw [HR.out] at h_0
  dsimp only at h_0
  rw [HR.out] at h_1
  dsimp only at h_1
  clear v0
  clear v1
  clear v2
  obtain ⟨ca148, fa148⟩ := id p0
  obtain ⟨ca149, fa149⟩ := id bx0
  go_wp2_with fail
  clear ca148 fa148 ca149 fa149
  refine (eqFracS_true h_0.1 p_0.1).mono ?_
  rintro e w150 ⟨rfl, k150⟩
  have ss151 := k150.size
  replace p0 := p0.keeps k150
  replace bx0 := bx0.keeps k150
  replace p_0 := p_0.keeps k150
  replace p_1 := p_1.keeps k150
  replace mk116 := mk116.keeps k150
  replace mk119 := mk119.keeps k150
  replace h_0 := h_0.keeps k150
  replace h_1 := h_1.keeps k150
  replace kw := Keeps.trans kw k150
  have lt152 := bx0.lt
  have sz153 := kw.size
  clear k150
  obtain ⟨ca154, fa154⟩ := id p0
  obtain ⟨ca155, fa155⟩ := id bx0
  go_wp2_with fail
  clear ca154 fa154 ca155 fa155
  refine (eqFracS_true h_1.1 p_1.1).mono ?_
  rintro e w156 ⟨rfl, k156⟩
  have ss157 := k156.size
  replace p0 := p0.keeps k156
  replace bx0 := bx0.keeps k156
  replace p_0 := p_0.keeps k156
  replace p_1 := p_1.keeps k156
  replace mk116 := mk116.keeps k156
  replace mk119 := mk119.keeps k156
  replace h_0 := h_0.keeps k156
  replace h_1 := h_1.keeps k156
  replace kw := Keeps.trans kw k156
  have lt158 := bx0.lt
  have sz159 := kw.size
  clear k156
  obtain ⟨ca160, fa160⟩ := id p0
  obtain ⟨ca161, fa161⟩ := id bx0
  go_wp2_with fail
  clear ca160 fa160 ca161 fa161
  refine (heldFracS_any mk116.1 (by omega) (by omega)).mono ?_
  rintro e w' ⟨rfl, rfl⟩
  obtain ⟨ca162, fa162⟩ := id p0
  obtain ⟨ca163, fa163⟩ := id bx0
  go_wp2_with fail
  clear ca162 fa162 ca163 fa163
  refine (heldFracS_any mk119.1 (by omega) (by omega)).mono ?_
  rintro e w' ⟨rfl, rfl⟩
  obtain ⟨ca164, fa164⟩ := id p0
  obtain ⟨ca165, fa165⟩ := id bx0
  go_wp2_with fail
  clear ca164 fa164 ca165 fa165
  go_ret
  exact ⟨rfl, kw⟩
end Go.Proofs.Ytkpliolafkdijaa
