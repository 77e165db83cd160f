/- ConsistentEstimates of the reference and of the program; the law. -/
import Derived.Test.YtkpliolafkdijaaCon
import Derived.Test.YtkpliolafkdijaaConI
namespace Go.Proofs.Ytkpliolafkdijaa
open Go.RowKit
set_option linter.unusedVariables false
set_option linter.unusedSimpArgs false

set_option maxRecDepth 100000 in
set_option maxHeartbeats 1600000 in
theorem specConsistentEstimates_any {A0 A1 A2 : Option Addr} {l0 l1 l2 u0 u1 u2 n0 n1 n2 c0 c1 c2 : Nat} {ps y v : List Int} {w : World} (h0 : Ints w l0 u0 A0 n0 ps) (h1 : Ints w l1 u1 A1 n1 y) (h2 : Ints w l2 u2 A2 n2 v) :
    Calls Try.prog 40 #[.agg #[.slice A0 n0 c0], .slice A1 n1 c1, .slice A2 n2 c2] w fun e w' => ∃ A N C, e = .returned (.tuple #[.slice A N C, .bool (conQ ps y v).2]) ∧ FracsM w' w.heap.size w'.heap.size A N (conQ ps y v).1 ∧ Keeps w w' := by
  have hl0 := h0.1
  have hl1 := h1.1
  have hl2 := h2.1
  go_enter Try.func40, Try.ntmps40
  have kw := keeps_refl w
  replace kw := Keeps.trans kw (keeps_alloc w (.cells #[.slice A0 n0 c0] 51))
  have b3 : B1 (w.alloc (.cells #[.slice A0 n0 c0] 51)) w.heap.size (.slice A0 n0 c0) := B1.new' (by simp)
  obtain ⟨ca1, fa1⟩ := id b3
  go_wp2_with fail
  clear ca1 fa1
  obtain ⟨pH1, H1⟩ : ∃ pB, Hid (treeB ps y v = pB) := ⟨_, rfl⟩
  refine (wTree_any (h0.keeps kw) (h1.keeps kw) (h2.keeps kw)).mono ?_
  rintro e w2 ⟨rfl, k2⟩
  rw [H1.out]
  replace b3 := b3.keeps k2
  replace kw := Keeps.trans kw k2
  have lt3 := b3.lt
  have sz4 := kw.size
  clear k2
  cases pH1
  · have HF := hid (conQ_no H1.out)
    go_wp2_with fail
    go_ret2
    exact ⟨none, 0, 0, by rw [HF.out]; rfl, by rw [HF.out]; exact SlM.nil_ _ _, kw⟩
  · skip
    have HT := hid (treeB_true.1 H1.out)
    obtain ⟨rfl, rfl⟩ : n1 = n0 ∧ n2 = n0 := by have := HT.out; omega
    have HF := hid (conQ_yes H1.out hl0)
    obtain ⟨ca5, fa5⟩ := id b3
    go_wp2_with fail
    clear ca5 fa5
    refine (wConsistent_any (h0.keeps kw) (h1.keeps kw) (h2.keeps kw) H1.out).mono ?_
    rintro e w6 ⟨Aa, Na, Ca, rfl, q1, k6⟩
    replace b3 := b3.keeps k6
    replace kw := Keeps.trans kw k6
    have lt7 := b3.lt
    have sz8 := kw.size
    clear k6
    go_wp2_with fail
    go_ret2
    exact ⟨Aa, Na, Ca, by rw [HF.out]; rfl, by rw [HF.out]; exact q1.widen (by omega) (Nat.le_refl _) (Nat.le_refl _), kw⟩
set_option maxRecDepth 100000 in
set_option maxHeartbeats 1600000 in
theorem implConsistentEstimates_any {A0 A1 A2 : Option Addr} {l0 l1 l2 u0 u1 u2 n0 n1 n2 c0 c1 c2 : Nat} {ps y v : List Int} {w : World} (h0 : Ints w l0 u0 A0 n0 ps) (h1 : Ints w l1 u1 A1 n1 y) (h2 : Ints w l2 u2 A2 n2 v) :
    Calls Try.prog 41 #[.agg #[.slice A0 n0 c0], .slice A1 n1 c1, .slice A2 n2 c2] w fun e w' => ∃ A N C, e = .returned (.tuple #[.slice A N C, .bool (conQ ps y v).2]) ∧ FracsM w' w.heap.size w'.heap.size A N (conQ ps y v).1 ∧ Keeps w w' := by
  have hl0 := h0.1
  have hl1 := h1.1
  have hl2 := h2.1
  go_enter Try.func41, Try.ntmps41
  have kw := keeps_refl w
  replace kw := Keeps.trans kw (keeps_alloc w (.cells #[.slice A0 n0 c0] 51))
  have b3 : B1 (w.alloc (.cells #[.slice A0 n0 c0] 51)) w.heap.size (.slice A0 n0 c0) := B1.new' (by simp)
  obtain ⟨ca1, fa1⟩ := id b3
  go_wp2_with fail
  clear ca1 fa1
  obtain ⟨pH1, H1⟩ : ∃ pB, Hid (treeB ps y v = pB) := ⟨_, rfl⟩
  refine (areTreeValues_any (h0.keeps kw) (h1.keeps kw) (h2.keeps kw)).mono ?_
  rintro e w2 ⟨rfl, k2⟩
  rw [H1.out]
  replace b3 := b3.keeps k2
  replace kw := Keeps.trans kw k2
  have lt3 := b3.lt
  have sz4 := kw.size
  clear k2
  cases pH1
  · have HF := hid (conQ_no H1.out)
    go_wp2_with fail
    go_ret2
    exact ⟨none, 0, 0, by rw [HF.out]; rfl, by rw [HF.out]; exact SlM.nil_ _ _, kw⟩
  · skip
    have HT := hid (treeB_true.1 H1.out)
    obtain ⟨rfl, rfl⟩ : n1 = n0 ∧ n2 = n0 := by have := HT.out; omega
    have HF := hid (conQ_yes H1.out hl0)
    obtain ⟨ca5, fa5⟩ := id b3
    go_wp2_with fail
    clear ca5 fa5
    refine (consistentEstimates_any (h0.keeps kw) (h1.keeps kw) (h2.keeps kw) H1.out).mono ?_
    rintro e w6 ⟨Aa, Na, Ca, rfl, q1, k6⟩
    replace b3 := b3.keeps k6
    replace kw := Keeps.trans kw k6
    have lt7 := b3.lt
    have sz8 := kw.size
    clear k6
    go_wp2_with fail
    go_ret2
    exact ⟨Aa, Na, Ca, by rw [HF.out]; rfl, by rw [HF.out]; exact q1.widen (by omega) (Nat.le_refl _) (Nat.le_refl _), kw⟩
set_option maxRecDepth 100000 in
set_option maxHeartbeats 1600000 in
theorem FnExactConsistentEstimates_law (A0 : Option Addr) (n0 c0 : Nat) (z0 : List Int) (A1 : Option Addr) (n1 c1 : Nat) (z1 : List Int) (A2 : Option Addr) (n2 c2 : Nat) (z2 : List Int) (w : World) (wa0 : IntsArg w A0 n0 z0) (wa1 : IntsArg w A1 n1 z1) (wa2 : IntsArg w A2 n2 z2) :
    Calls Try.prog 7 #[.agg #[.slice A0 n0 c0], .slice A1 n1 c1, .slice A2 n2 c2] w fun e w' => e = .returned (.bool true) ∧ Below w.heap.size w w' := by
  by_cases hn1 : n1 ≤ 1048576
  rotate_left
  · have hlt : (1048576 : Int) < (n1 : Int) := by omega
    go_enter Try.func7, Try.ntmps7
    have kw := keeps_refl w
    replace kw := Keeps.trans kw (keeps_alloc w (.cells #[.slice A0 n0 c0] 47))
    have p0 : B1 (w.alloc (.cells #[.slice A0 n0 c0] 47)) w.heap.size (.slice A0 n0 c0) := B1.new' (by simp)
    go_wp2_with fail
    go_ret
    exact ⟨rfl, kw⟩
  have h1 := wa1.ints (by omega)
  by_cases hn2 : n2 ≤ 1048576
  rotate_left
  · have hlt : (1048576 : Int) < (n2 : Int) := by omega
    go_enter Try.func7, Try.ntmps7
    have kw := keeps_refl w
    replace kw := Keeps.trans kw (keeps_alloc w (.cells #[.slice A0 n0 c0] 47))
    have p0 : B1 (w.alloc (.cells #[.slice A0 n0 c0] 47)) w.heap.size (.slice A0 n0 c0) := B1.new' (by simp)
    go_wp2_with fail
    go_ret
    exact ⟨rfl, kw⟩
  have h2 := wa2.ints (by omega)
  go_enter Try.func7, Try.ntmps7
  have kw := keeps_refl w
  replace kw := Keeps.trans kw (keeps_alloc w (.cells #[.slice A0 n0 c0] 47))
  have p0 : B1 (w.alloc (.cells #[.slice A0 n0 c0] 47)) w.heap.size (.slice A0 n0 c0) := B1.new' (by simp)
  obtain ⟨ca1, fa1⟩ := id p0
  go_wp2_with fail
  clear ca1 fa1
  by_cases hs0 : (n0 : Int) ≤ 1048576
  rotate_left
  · have hm0 := wa0.1
    refine (szGeo_no _ _ _ (1048576) _ hm0 (by omega) (by omega) (by omega)).mono ?_
    rintro e w2 ⟨rfl, k2⟩
    have ss3 := k2.size
    simp at ss3
    replace p0 := p0.keeps k2
    replace kw := Keeps.trans kw k2
    have lt4 := p0.lt
    have sz5 := kw.size
    clear k2
    go_wp2_with fail
    go_ret
    exact ⟨rfl, kw⟩
  have h0 := wa0.ints (by omega)
  refine (szGeo_ok _ _ _ (1048576) _ (by omega) (by omega)).mono ?_
  rintro e w2 ⟨rfl, k2⟩
  have ss3 := k2.size
  simp at ss3
  replace p0 := p0.keeps k2
  replace kw := Keeps.trans kw k2
  have lt4 := p0.lt
  have sz5 := kw.size
  clear k2
  have tz0 : ¬ (1048576 - (n0 : Int) < 0) := by omega
  obtain ⟨ca6, fa6⟩ := id p0
  go_wp2_with fail
  clear ca6 fa6
  obtain ⟨r0, r1, HR⟩ : ∃ r0 r1, Hid (conQ z0 z1 z2 = (r0, r1)) := ⟨_, _, rfl⟩
  refine (toGeo_any (h0.keeps kw)).mono ?_
  rintro e w7 ⟨By0, rfl, y0, k7⟩
  have ss8 := k7.size
  replace p0 := p0.keeps k7
  replace kw := Keeps.trans kw k7
  have lt9 := p0.lt
  have sz10 := kw.size
  clear k7
  obtain ⟨ca11, fa11⟩ := id p0
  go_wp2_with fail
  clear ca11 fa11
  refine (toIntS_any (h1.keeps kw)).mono ?_
  rintro e w12 ⟨By1, rfl, y1, k12⟩
  have ss13 := k12.size
  replace p0 := p0.keeps k12
  replace y0 := y0.keeps k12
  replace kw := Keeps.trans kw k12
  have lt14 := p0.lt
  have sz15 := kw.size
  clear k12
  obtain ⟨ca16, fa16⟩ := id p0
  go_wp2_with fail
  clear ca16 fa16
  refine (toIntS_any (h2.keeps kw)).mono ?_
  rintro e w17 ⟨By2, rfl, y2, k17⟩
  have ss18 := k17.size
  replace p0 := p0.keeps k17
  replace y0 := y0.keeps k17
  replace y1 := y1.keeps k17
  replace kw := Keeps.trans kw k17
  have lt19 := p0.lt
  have sz20 := kw.size
  clear k17
  obtain ⟨ca21, fa21⟩ := id p0
  go_wp2_with fail
  clear ca21 fa21
  refine (specConsistentEstimates_any y0.1 y1.1 y2.1).mono ?_
  rintro e w22 ⟨p_A0, p_N0, p_C0, rfl, p_0, k22⟩
  have ss23 := k22.size
  replace p0 := p0.keeps k22
  replace y0 := y0.keeps k22
  replace y1 := y1.keeps k22
  replace y2 := y2.keeps k22
  replace kw := Keeps.trans kw k22
  have lt24 := p0.lt
  have sz25 := kw.size
  clear k22
  rw [HR.out]
  rw [HR.out] at p_0
  clear y0
  clear y1
  clear y2
  obtain ⟨ca26, fa26⟩ := id p0
  go_wp2_with fail
  clear ca26 fa26
  refine (toGeo_any (h0.keeps kw)).mono ?_
  rintro e w27 ⟨Bx0, rfl, x0, k27⟩
  have ss28 := k27.size
  replace p0 := p0.keeps k27
  replace p_0 := p_0.keeps k27
  replace kw := Keeps.trans kw k27
  have lt29 := p0.lt
  have sz30 := kw.size
  clear k27
  replace p0 := p0.keeps (keeps_alloc w27 (.cells #[.slice Bx0 n0 n0] 51))
  replace p_0 := p_0.keeps (keeps_alloc w27 (.cells #[.slice Bx0 n0 n0] 51))
  replace x0 := x0.keeps (keeps_alloc w27 (.cells #[.slice Bx0 n0 n0] 51))
  replace kw := Keeps.trans kw (keeps_alloc w27 (.cells #[.slice Bx0 n0 n0] 51))
  have bx0 : B1 (w27.alloc (.cells #[.slice Bx0 n0 n0] 51)) w27.heap.size (.slice Bx0 n0 n0) := B1.new' (by simp)
  obtain ⟨ca31, fa31⟩ := id p0
  obtain ⟨ca32, fa32⟩ := id bx0
  go_wp2_with fail
  clear ca31 fa31 ca32 fa32
  refine (toIntS_any (h1.keeps kw)).mono ?_
  rintro e w33 ⟨Bx1, rfl, x1, k33⟩
  have ss34 := k33.size
  simp at ss34
  replace p0 := p0.keeps k33
  replace bx0 := bx0.keeps k33
  replace p_0 := p_0.keeps k33
  replace x0 := x0.keeps k33
  replace kw := Keeps.trans kw k33
  have lt35 := bx0.lt
  have sz36 := kw.size
  clear k33
  replace x1 := x1.widen (lo' := w27.heap.size + 1) (by simp) (Nat.le_refl _) (Nat.le_refl _)
  obtain ⟨ca37, fa37⟩ := id p0
  obtain ⟨ca38, fa38⟩ := id bx0
  go_wp2_with fail
  clear ca37 fa37 ca38 fa38
  refine (toIntS_any (h2.keeps kw)).mono ?_
  rintro e w39 ⟨Bx2, rfl, x2, k39⟩
  have ss40 := k39.size
  replace p0 := p0.keeps k39
  replace bx0 := bx0.keeps k39
  replace p_0 := p_0.keeps k39
  replace x0 := x0.keeps k39
  replace x1 := x1.keeps k39
  replace kw := Keeps.trans kw k39
  have lt41 := bx0.lt
  have sz42 := kw.size
  clear k39
  obtain ⟨ca43, fa43⟩ := id p0
  obtain ⟨ca44, fa44⟩ := id bx0
  go_wp2_with fail
  clear ca43 fa43 ca44 fa44
  refine (implConsistentEstimates_any x0.1 x1.1 x2.1).mono ?_
  rintro e w45 ⟨g_A0, g_N0, g_C0, rfl, g_0, k45⟩
  have ss46 := k45.size
  replace p0 := p0.keeps k45
  replace bx0 := bx0.keeps k45
  replace p_0 := p_0.keeps k45
  replace x0 := x0.keeps k45
  replace x1 := x1.keeps k45
  replace x2 := x2.keeps k45
  replace kw := Keeps.trans kw k45
  have lt47 := bx0.lt
  have sz48 := kw.size
  clear k45
  rw [HR.out]
  rw [HR.out] at g_0
  obtain ⟨ca49, fa49⟩ := id p0
  obtain ⟨ca50, fa50⟩ := id bx0
  go_wp2_with fail
  clear ca49 fa49 ca50 fa50
  have e1 : (r1 != r1) = false := by simp
  refine (eqFracS_true g_0.1 p_0.1).mono ?_
  rintro e w51 ⟨rfl, k51⟩
  have ss52 := k51.size
  replace p0 := p0.keeps k51
  replace bx0 := bx0.keeps k51
  replace p_0 := p_0.keeps k51
  replace x0 := x0.keeps k51
  replace x1 := x1.keeps k51
  replace x2 := x2.keeps k51
  replace g_0 := g_0.keeps k51
  replace kw := Keeps.trans kw k51
  have lt53 := bx0.lt
  have sz54 := kw.size
  clear k51
  obtain ⟨ca55, fa55⟩ := id p0
  obtain ⟨ca56, fa56⟩ := id bx0
  go_wp2_with fail
  clear ca55 fa55 ca56 fa56
  obtain ⟨ca57, -⟩ := id bx0
  obtain ⟨ca58, -⟩ := id p0
  have kS := hid (show ∀ w', Keeps w51 w' → (w'.cell? ⟨w27.heap.size, 0, none⟩ = some (.slice Bx0 n0 n0) ∧ w'.cell? ⟨w.heap.size, 0, none⟩ = some (.slice A0 n0 c0)) from fun w' k => ⟨cell_keeps ca57 k, cell_keeps ca58 k⟩)
  go_region_held3 (fun w' => w'.cell? ⟨w27.heap.size, 0, none⟩ = some (.slice Bx0 n0 n0) ∧ w'.cell? ⟨w.heap.size, 0, none⟩ = some (.slice A0 n0 c0)) (first | exact kS.out _ (keeps_d0 w51) | exact kS.out _ kW | go_keep)
    ((first | (go_at_call 32; refine (toGeo_any (h0.keeps (Keeps.trans kw (keeps_d0 w51)))).mono ?_; rintro e wB59 ⟨Bt59, rfl, t0, kB⟩; have kW : Keeps w51 wB59 := keeps_d kB; clear kB) | (go_at_call 35; refine (eqGeo_true (x0.1.keeps kW) t0.1).mono ?_; rintro e wC59 ⟨rfl, kC⟩; replace kW : Keeps w51 wC59 := kW.trans kC; clear kC)))
  clear kS t0
  clear ca57 ca58
  have ss60 := kW.size
  replace p0 := p0.keeps kW
  replace bx0 := bx0.keeps kW
  replace p_0 := p_0.keeps kW
  replace x0 := x0.keeps kW
  replace x1 := x1.keeps kW
  replace x2 := x2.keeps kW
  replace g_0 := g_0.keeps kW
  replace kw := Keeps.trans kw kW
  have lt61 := bx0.lt
  have sz62 := kw.size
  clear kW
  obtain ⟨ca63, fa63⟩ := id p0
  obtain ⟨ca64, fa64⟩ := id bx0
  go_wp2_with fail
  clear ca63 fa63 ca64 fa64
  refine (toIntS_any (h1.keeps kw)).mono ?_
  rintro e w65 ⟨Bt1, rfl, t1, k65⟩
  have ss66 := k65.size
  replace p0 := p0.keeps k65
  replace bx0 := bx0.keeps k65
  replace p_0 := p_0.keeps k65
  replace x0 := x0.keeps k65
  replace x1 := x1.keeps k65
  replace x2 := x2.keeps k65
  replace g_0 := g_0.keeps k65
  replace kw := Keeps.trans kw k65
  have lt67 := bx0.lt
  have sz68 := kw.size
  clear k65
  obtain ⟨ca69, fa69⟩ := id p0
  obtain ⟨ca70, fa70⟩ := id bx0
  go_wp2_with fail
  clear ca69 fa69 ca70 fa70
  refine (eqIntS_true x1.1 t1.1).mono ?_
  rintro e w71 ⟨rfl, k71⟩
  replace k71 := Quiet.keeps k71
  have ss72 := k71.size
  replace p0 := p0.keeps k71
  replace bx0 := bx0.keeps k71
  replace p_0 := p_0.keeps k71
  replace x0 := x0.keeps k71
  replace x1 := x1.keeps k71
  replace x2 := x2.keeps k71
  replace g_0 := g_0.keeps k71
  replace t1 := t1.keeps k71
  replace kw := Keeps.trans kw k71
  have lt73 := bx0.lt
  have sz74 := kw.size
  clear k71
  clear t1
  obtain ⟨ca75, fa75⟩ := id p0
  obtain ⟨ca76, fa76⟩ := id bx0
  go_wp2_with fail
  clear ca75 fa75 ca76 fa76
  refine (toIntS_any (h2.keeps kw)).mono ?_
  rintro e w77 ⟨Bt2, rfl, t2, k77⟩
  have ss78 := k77.size
  replace p0 := p0.keeps k77
  replace bx0 := bx0.keeps k77
  replace p_0 := p_0.keeps k77
  replace x0 := x0.keeps k77
  replace x1 := x1.keeps k77
  replace x2 := x2.keeps k77
  replace g_0 := g_0.keeps k77
  replace kw := Keeps.trans kw k77
  have lt79 := bx0.lt
  have sz80 := kw.size
  clear k77
  obtain ⟨ca81, fa81⟩ := id p0
  obtain ⟨ca82, fa82⟩ := id bx0
  go_wp2_with fail
  clear ca81 fa81 ca82 fa82
  refine (eqIntS_true x2.1 t2.1).mono ?_
  rintro e w83 ⟨rfl, k83⟩
  replace k83 := Quiet.keeps k83
  have ss84 := k83.size
  replace p0 := p0.keeps k83
  replace bx0 := bx0.keeps k83
  replace p_0 := p_0.keeps k83
  replace x0 := x0.keeps k83
  replace x1 := x1.keeps k83
  replace x2 := x2.keeps k83
  replace g_0 := g_0.keeps k83
  replace t2 := t2.keeps k83
  replace kw := Keeps.trans kw k83
  have lt85 := bx0.lt
  have sz86 := kw.size
  clear k83
  clear t2
  obtain ⟨ca87, fa87⟩ := id p0
  obtain ⟨ca88, fa88⟩ := id bx0
  go_wp2_with fail
  clear ca87 fa87 ca88 fa88
  refine (markGeo_any x0 (by omega) (by omega)).mono ?_
  rintro e w89 ⟨rfl, mk89, f89⟩
  clear x0
  replace p0 := p0.fr f89 (by omega)
  replace bx0 := bx0.fr f89 (by omega)
  replace p_0 := p_0.fr f89 (by omega)
  replace x1 := x1.fr f89 (by omega)
  replace x2 := x2.fr f89 (by omega)
  replace g_0 := g_0.fr f89 (by omega)
  have ssf89 := f89.size
  replace kw := below_fr kw kw.size (by omega) f89
  obtain ⟨ca90, fa90⟩ := id p0
  obtain ⟨ca91, fa91⟩ := id bx0
  go_wp2_with fail
  clear ca90 fa90 ca91 fa91
  clear mk89
  refine (markIntS_any x1 (by omega) (by omega)).mono ?_
  rintro e w92 ⟨rfl, mk92, f92⟩
  clear x1
  replace p0 := p0.fr f92 (by omega)
  replace bx0 := bx0.fr f92 (by omega)
  replace p_0 := p_0.fr f92 (by omega)
  replace x2 := x2.fr f92 (by omega)
  replace g_0 := g_0.fr f92 (by omega)
  have ssf92 := f92.size
  replace kw := below_fr kw kw.size (by omega) f92
  obtain ⟨ca93, fa93⟩ := id p0
  obtain ⟨ca94, fa94⟩ := id bx0
  go_wp2_with fail
  clear ca93 fa93 ca94 fa94
  clear mk92
  refine (markIntS_any x2 (by omega) (by omega)).mono ?_
  rintro e w95 ⟨rfl, mk95, f95⟩
  clear x2
  replace p0 := p0.fr f95 (by omega)
  replace bx0 := bx0.fr f95 (by omega)
  replace p_0 := p_0.fr f95 (by omega)
  replace g_0 := g_0.fr f95 (by omega)
  have ssf95 := f95.size
  replace kw := below_fr kw kw.size (by omega) f95
  obtain ⟨ca96, fa96⟩ := id p0
  obtain ⟨ca97, fa97⟩ := id bx0
  go_wp2_with fail
  clear ca96 fa96 ca97 fa97
  clear mk95
  refine (eqFracS_true g_0.1 p_0.1).mono ?_
  rintro e w98 ⟨rfl, k98⟩
  have ss99 := k98.size
  replace p0 := p0.keeps k98
  replace bx0 := bx0.keeps k98
  replace p_0 := p_0.keeps k98
  replace g_0 := g_0.keeps k98
  replace kw := Keeps.trans kw k98
  have lt100 := bx0.lt
  have sz101 := kw.size
  clear k98
  obtain ⟨ca102, fa102⟩ := id p0
  obtain ⟨ca103, fa103⟩ := id bx0
  go_wp2_with fail
  clear ca102 fa102 ca103 fa103
  refine (markFracS_any g_0 (by omega) (by omega)).mono ?_
  rintro e w104 ⟨rfl, mk104, f104⟩
  clear g_0
  replace p0 := p0.fr f104 (by omega)
  replace bx0 := bx0.fr f104 (by omega)
  replace p_0 := p_0.fr f104 (by omega)
  have ssf104 := f104.size
  replace kw := below_fr kw kw.size (by omega) f104
  obtain ⟨ca105, fa105⟩ := id p0
  obtain ⟨ca106, fa106⟩ := id bx0
  go_wp2_with fail
  clear ca105 fa105 ca106 fa106
  have u1 : ((1 + 2 * (g_N0 : Int)) != (1 + 2 * (g_N0 : Int))) = false := by simp
  refine (heldFracS_any mk104.1 (by omega) (by omega)).mono ?_
  rintro e w' ⟨rfl, rfl⟩
  obtain ⟨ca107, fa107⟩ := id p0
  obtain ⟨ca108, fa108⟩ := id bx0
  go_wp2_with fail
  clear ca107 fa107 ca108 fa108
  refine (toGeo_any (h0.keeps kw)).mono ?_
  rintro e w109 ⟨Bv0, rfl, v0, k109⟩
  have ss110 := k109.size
  replace p0 := p0.keeps k109
  replace bx0 := bx0.keeps k109
  replace p_0 := p_0.keeps k109
  replace mk104 := mk104.keeps k109
  replace kw := Keeps.trans kw k109
  have lt111 := bx0.lt
  have sz112 := kw.size
  clear k109
  obtain ⟨ca113, fa113⟩ := id p0
  obtain ⟨ca114, fa114⟩ := id bx0
  go_wp2_with fail
  clear ca113 fa113 ca114 fa114
  refine (toIntS_any (h1.keeps kw)).mono ?_
  rintro e w115 ⟨Bv1, rfl, v1, k115⟩
  have ss116 := k115.size
  replace p0 := p0.keeps k115
  replace bx0 := bx0.keeps k115
  replace p_0 := p_0.keeps k115
  replace mk104 := mk104.keeps k115
  replace v0 := v0.keeps k115
  replace kw := Keeps.trans kw k115
  have lt117 := bx0.lt
  have sz118 := kw.size
  clear k115
  obtain ⟨ca119, fa119⟩ := id p0
  obtain ⟨ca120, fa120⟩ := id bx0
  go_wp2_with fail
  clear ca119 fa119 ca120 fa120
  refine (toIntS_any (h2.keeps kw)).mono ?_
  rintro e w121 ⟨Bv2, rfl, v2, k121⟩
  have ss122 := k121.size
  replace p0 := p0.keeps k121
  replace bx0 := bx0.keeps k121
  replace p_0 := p_0.keeps k121
  replace mk104 := mk104.keeps k121
  replace v0 := v0.keeps k121
  replace v1 := v1.keeps k121
  replace kw := Keeps.trans kw k121
  have lt123 := bx0.lt
  have sz124 := kw.size
  clear k121
  obtain ⟨ca125, fa125⟩ := id p0
  obtain ⟨ca126, fa126⟩ := id bx0
  go_wp2_with fail
  clear ca125 fa125 ca126 fa126
  refine (implConsistentEstimates_any v0.1 v1.1 v2.1).mono ?_
  rintro e w127 ⟨h_A0, h_N0, h_C0, rfl, h_0, k127⟩
  have ss128 := k127.size
  replace p0 := p0.keeps k127
  replace bx0 := bx0.keeps k127
  replace p_0 := p_0.keeps k127
  replace mk104 := mk104.keeps k127
  replace v0 := v0.keeps k127
  replace v1 := v1.keeps k127
  replace v2 := v2.keeps k127
  replace kw := Keeps.trans kw k127
  have lt129 := bx0.lt
  have sz130 := kw.size
  clear k127
  rw [HR.out]
  rw [HR.out] at h_0
  clear v0
  clear v1
  clear v2
  obtain ⟨ca131, fa131⟩ := id p0
  obtain ⟨ca132, fa132⟩ := id bx0
  go_wp2_with fail
  clear ca131 fa131 ca132 fa132
  refine (eqFracS_true h_0.1 p_0.1).mono ?_
  rintro e w133 ⟨rfl, k133⟩
  have ss134 := k133.size
  replace p0 := p0.keeps k133
  replace bx0 := bx0.keeps k133
  replace p_0 := p_0.keeps k133
  replace mk104 := mk104.keeps k133
  replace h_0 := h_0.keeps k133
  replace kw := Keeps.trans kw k133
  have lt135 := bx0.lt
  have sz136 := kw.size
  clear k133
  obtain ⟨ca137, fa137⟩ := id p0
  obtain ⟨ca138, fa138⟩ := id bx0
  go_wp2_with fail
  clear ca137 fa137 ca138 fa138
  refine (heldFracS_any mk104.1 (by omega) (by omega)).mono ?_
  rintro e w' ⟨rfl, rfl⟩
  obtain ⟨ca139, fa139⟩ := id p0
  obtain ⟨ca140, fa140⟩ := id bx0
  go_wp2_with fail
  clear ca139 fa139 ca140 fa140
  go_ret
  exact ⟨rfl, kw⟩
end Go.Proofs.Ytkpliolafkdijaa
