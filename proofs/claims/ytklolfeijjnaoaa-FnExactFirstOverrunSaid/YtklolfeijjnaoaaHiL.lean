/- The laws FnExactHistoryLoss, FnExactFirstOverrun: the walks. -/
import Derived.Test.YtklolfeijjnaoaaHim
import Derived.Test.YtklolfeijjnaoaaRelH
import Derived.Test.YtklolfeijjnaoaaOpV
import Derived.Test.YtklolfeijjnaoaaKB
import Derived.Deep.RegionHeld3
namespace Go.Proofs.Ytklolfeijjnaoaa
open Go.ChangeShapes Go.WideShapes Go.ChangeAt Go.RowKit
set_option linter.unusedVariables false
set_option linter.unusedSimpArgs false
set_option maxRecDepth 100000 in
set_option maxHeartbeats 6400000 in
theorem FnExactHistoryLoss_law (A0 : Option Addr) (n0 c0 : Nat) (z0 : List Int) (A1 : Option Addr) (n1 c1 : Nat) (z1 : List VV) (A2 : Option Addr) (n2 c2 : Nat) (z2 : List RL) (w : World) (wa0 : IntsArg w A0 n0 z0) (wa1 : VarsArg w A1 n1 z1) (wa2 : RelsArg w A2 n2 z2) :
    Calls Try.prog 6 #[.agg #[.slice A0 n0 c0], .slice A1 n1 c1, .slice A2 n2 c2] w fun e w' => e = .returned (.bool true) ∧ Below w.heap.size w w' := by
  have HNK := hid (show NamesOk z1 from wa1.2.2.1)
  go_enter Try.func6, Try.ntmps6
  have kw := keeps_refl w
  replace kw := Keeps.trans kw (keeps_alloc w (.cells #[.slice A0 n0 c0] 24))
  have p0 : B1 (w.alloc (.cells #[.slice A0 n0 c0] 24)) w.heap.size (.slice A0 n0 c0) := B1.new' (by simp)
  obtain ⟨ca1, fa1⟩ := id p0
  go_wp2_with fail
  clear ca1 fa1
  by_cases hs0 : (n0 : Int) ≤ 1048576
  rotate_left
  · have hm0 := wa0.1
    refine (szGeo_no _ _ _ (1048576) _ hm0 (by omega) (by omega) (by omega)).mono ?_
    rintro e w2 ⟨rfl, k2⟩
    have ss3 := k2.size
    simp at ss3
    replace p0 := p0.keeps k2
    replace kw := Keeps.trans kw k2
    have lt4 := p0.lt
    have sz5 := kw.size
    clear k2
    go_wp2_with fail
    go_ret
    exact ⟨rfl, kw⟩
  have h0 := wa0.ints (by omega)
  refine (szGeo_ok _ _ _ (1048576) _ (by omega) (by omega)).mono ?_
  rintro e w2 ⟨rfl, k2⟩
  have ss3 := k2.size
  simp at ss3
  replace p0 := p0.keeps k2
  replace kw := Keeps.trans kw k2
  have lt4 := p0.lt
  have sz5 := kw.size
  clear k2
  have tz0 : ¬ (1048576 - (n0 : Int) < 0) := by omega
  obtain ⟨ca6, fa6⟩ := id p0
  go_wp2_with fail
  clear ca6 fa6
  by_cases hs1 : ((n1 : Int) + vsz z1 n1) ≤ 1048576 - (n0 : Int)
  rotate_left
  · have hm1 := wa1.1
    refine (szVariableS_any (left := 1048576 - (n0 : Int)) (wa1.keeps kw) (by omega) (by omega)).mono ?_
    rintro e w7 ⟨rfl, k7⟩
    rw [szVs_no (left := 1048576 - (n0 : Int)) (n := n1) (l := z1) (by omega)]
    have ss8 := k7.size
    replace p0 := p0.keeps k7
    replace kw := Keeps.trans kw k7
    have lt9 := p0.lt
    have sz10 := kw.size
    clear k7
    go_wp2_with fail
    go_ret
    exact ⟨rfl, kw⟩
  have h1 := wa1.vars (by omega)
  refine (szVariableS_any (left := 1048576 - (n0 : Int)) (wa1.keeps kw) (by omega) (by omega)).mono ?_
  rintro e w7 ⟨rfl, k7⟩
  rw [szVs_ok (left := 1048576 - (n0 : Int)) (n := n1) (l := z1) (by omega)]
  have ss8 := k7.size
  replace p0 := p0.keeps k7
  replace kw := Keeps.trans kw k7
  have lt9 := p0.lt
  have sz10 := kw.size
  clear k7
  have tz1 : ¬ (1048576 - (n0 : Int) - ((n1 : Int) + vsz z1 n1) < 0) := by omega
  obtain ⟨ca11, fa11⟩ := id p0
  go_wp2_with fail
  clear ca11 fa11
  by_cases hs2 : ((n2 + rlsz z2 n2 : Nat) : Int) ≤ 1048576 - (n0 : Int) - ((n1 : Int) + vsz z1 n1)
  rotate_left
  · have hm2 := wa2.1
    refine (szReleaseS_any (left := 1048576 - (n0 : Int) - ((n1 : Int) + vsz z1 n1)) (wa2.keeps kw) (by omega) (by omega)).mono ?_
    rintro e w12 ⟨rfl, k12⟩
    rw [szQ_no (left := 1048576 - (n0 : Int) - ((n1 : Int) + vsz z1 n1)) (s := n2 + rlsz z2 n2) hs2]
    have ss13 := k12.size
    replace p0 := p0.keeps k12
    replace kw := Keeps.trans kw k12
    have lt14 := p0.lt
    have sz15 := kw.size
    clear k12
    go_wp2_with fail
    go_ret
    exact ⟨rfl, kw⟩
  have h2 := wa2.rels (by omega)
  refine (szReleaseS_any (left := 1048576 - (n0 : Int) - ((n1 : Int) + vsz z1 n1)) (wa2.keeps kw) (by omega) (by omega)).mono ?_
  rintro e w12 ⟨rfl, k12⟩
  rw [szQ_ok (left := 1048576 - (n0 : Int) - ((n1 : Int) + vsz z1 n1)) (s := n2 + rlsz z2 n2) hs2]
  have ss13 := k12.size
  replace p0 := p0.keeps k12
  replace kw := Keeps.trans kw k12
  have lt14 := p0.lt
  have sz15 := kw.size
  clear k12
  have tz2 : ¬ (1048576 - (n0 : Int) - ((n1 : Int) + vsz z1 n1) - ((n2 + rlsz z2 n2 : Nat) : Int) < 0) := by omega
  obtain ⟨ca16, fa16⟩ := id p0
  go_wp2_with fail
  clear ca16 fa16
  obtain ⟨r0a, r0b, r0c, r0d, r1, HR⟩ : ∃ r0a r0b r0c r0d r1, Hid (hlQ z0 z1 z2 = ((r0a, r0b, r0c, r0d), r1)) := ⟨_, _, _, _, _, rfl⟩
  refine (toGeo_any (h0.keeps kw)).mono ?_
  rintro e w17 ⟨By0, rfl, y0, k17⟩
  have ss18 := k17.size
  replace p0 := p0.keeps k17
  replace kw := Keeps.trans kw k17
  have lt19 := p0.lt
  have sz20 := kw.size
  clear k17
  obtain ⟨ca21, fa21⟩ := id p0
  go_wp2_with fail
  clear ca21 fa21
  refine (toVariableS_any (h1.keeps kw)).mono ?_
  rintro e w22 ⟨By1, rfl, y1, k22⟩
  have ss23 := k22.size
  replace p0 := p0.keeps k22
  replace y0 := y0.keeps k22
  replace kw := Keeps.trans kw k22
  have lt24 := p0.lt
  have sz25 := kw.size
  clear k22
  obtain ⟨ca26, fa26⟩ := id p0
  go_wp2_with fail
  clear ca26 fa26
  refine (toReleaseS_any (h2.keeps kw)).mono ?_
  rintro e w27 ⟨By2, rfl, y2, k27⟩
  have ss28 := k27.size
  replace p0 := p0.keeps k27
  replace y0 := y0.keeps k27
  replace y1 := y1.keeps k27
  replace kw := Keeps.trans kw k27
  have lt29 := p0.lt
  have sz30 := kw.size
  clear k27
  obtain ⟨ca31, fa31⟩ := id p0
  go_wp2_with fail
  clear ca31 fa31
  refine (specHistoryLoss_any y0.1 y1.1 HNK.out y2).mono ?_
  rintro e w32 ⟨rfl, k32⟩
  rw [HR.out]
  have ss33 := k32.size
  replace p0 := p0.keeps k32
  replace y0 := y0.keeps k32
  replace y1 := y1.keeps k32
  replace y2 := y2.keeps k32
  replace kw := Keeps.trans kw k32
  have lt34 := p0.lt
  have sz35 := kw.size
  clear k32
  clear y0
  clear y1
  clear y2
  replace p0 := p0.keeps (keeps_alloc w32 (.cells #[.int .i64 r0a, .int .i64 r0b, .int .i64 r0c, .int .i64 r0d] 45))
  replace kw := Keeps.trans kw (keeps_alloc w32 (.cells #[.int .i64 r0a, .int .i64 r0b, .int .i64 r0c, .int .i64 r0d] 45))
  have p_b0 : Bl (w32.alloc (.cells #[.int .i64 r0a, .int .i64 r0b, .int .i64 r0c, .int .i64 r0d] 45)) w32.heap.size [.int .i64 r0a, .int .i64 r0b, .int .i64 r0c, .int .i64 r0d] := Bl.new' (by simp) (by simp)
  obtain ⟨ca36, fa36⟩ := id p0
  have ca37_0 : (w32.alloc (.cells #[.int .i64 r0a, .int .i64 r0b, .int .i64 r0c, .int .i64 r0d] 45)).cell? ⟨w32.heap.size, 0, none⟩ = some (.int .i64 r0a) := (p_b0.2 0 _ rfl).1
  have fa37_0 : (w32.alloc (.cells #[.int .i64 r0a, .int .i64 r0b, .int .i64 r0c, .int .i64 r0d] 45)).frozen? ⟨w32.heap.size, 0, none⟩ = false := (p_b0.2 0 _ rfl).2
  have ca37_1 : (w32.alloc (.cells #[.int .i64 r0a, .int .i64 r0b, .int .i64 r0c, .int .i64 r0d] 45)).cell? ⟨w32.heap.size, 1, none⟩ = some (.int .i64 r0b) := (p_b0.2 1 _ rfl).1
  have fa37_1 : (w32.alloc (.cells #[.int .i64 r0a, .int .i64 r0b, .int .i64 r0c, .int .i64 r0d] 45)).frozen? ⟨w32.heap.size, 1, none⟩ = false := (p_b0.2 1 _ rfl).2
  have ca37_2 : (w32.alloc (.cells #[.int .i64 r0a, .int .i64 r0b, .int .i64 r0c, .int .i64 r0d] 45)).cell? ⟨w32.heap.size, 2, none⟩ = some (.int .i64 r0c) := (p_b0.2 2 _ rfl).1
  have fa37_2 : (w32.alloc (.cells #[.int .i64 r0a, .int .i64 r0b, .int .i64 r0c, .int .i64 r0d] 45)).frozen? ⟨w32.heap.size, 2, none⟩ = false := (p_b0.2 2 _ rfl).2
  have ca37_3 : (w32.alloc (.cells #[.int .i64 r0a, .int .i64 r0b, .int .i64 r0c, .int .i64 r0d] 45)).cell? ⟨w32.heap.size, 3, none⟩ = some (.int .i64 r0d) := (p_b0.2 3 _ rfl).1
  have fa37_3 : (w32.alloc (.cells #[.int .i64 r0a, .int .i64 r0b, .int .i64 r0c, .int .i64 r0d] 45)).frozen? ⟨w32.heap.size, 3, none⟩ = false := (p_b0.2 3 _ rfl).2
  go_wp2_with fail
  clear ca36 fa36 ca37_0 fa37_0 ca37_1 fa37_1 ca37_2 fa37_2 ca37_3 fa37_3
  refine (toGeo_any (h0.keeps kw)).mono ?_
  rintro e w38 ⟨Bx0, rfl, x0, k38⟩
  have ss39 := k38.size
  simp at ss39
  replace p0 := p0.keeps k38
  replace p_b0 := p_b0.keeps k38
  replace kw := Keeps.trans kw k38
  have lt40 := p_b0.lt
  have sz41 := kw.size
  clear k38
  replace x0 := x0.widen (lo' := w32.heap.size + 1) (by simp) (Nat.le_refl _) (Nat.le_refl _)
  replace p0 := p0.keeps (keeps_alloc w38 (.cells #[.slice Bx0 n0 n0] 38))
  replace p_b0 := p_b0.keeps (keeps_alloc w38 (.cells #[.slice Bx0 n0 n0] 38))
  replace x0 := x0.keeps (keeps_alloc w38 (.cells #[.slice Bx0 n0 n0] 38))
  replace kw := Keeps.trans kw (keeps_alloc w38 (.cells #[.slice Bx0 n0 n0] 38))
  have bx0 : B1 (w38.alloc (.cells #[.slice Bx0 n0 n0] 38)) w38.heap.size (.slice Bx0 n0 n0) := B1.new' (by simp)
  obtain ⟨ca42, fa42⟩ := id p0
  have ca43_0 : (w38.alloc (.cells #[.slice Bx0 n0 n0] 38)).cell? ⟨w32.heap.size, 0, none⟩ = some (.int .i64 r0a) := (p_b0.2 0 _ rfl).1
  have fa43_0 : (w38.alloc (.cells #[.slice Bx0 n0 n0] 38)).frozen? ⟨w32.heap.size, 0, none⟩ = false := (p_b0.2 0 _ rfl).2
  have ca43_1 : (w38.alloc (.cells #[.slice Bx0 n0 n0] 38)).cell? ⟨w32.heap.size, 1, none⟩ = some (.int .i64 r0b) := (p_b0.2 1 _ rfl).1
  have fa43_1 : (w38.alloc (.cells #[.slice Bx0 n0 n0] 38)).frozen? ⟨w32.heap.size, 1, none⟩ = false := (p_b0.2 1 _ rfl).2
  have ca43_2 : (w38.alloc (.cells #[.slice Bx0 n0 n0] 38)).cell? ⟨w32.heap.size, 2, none⟩ = some (.int .i64 r0c) := (p_b0.2 2 _ rfl).1
  have fa43_2 : (w38.alloc (.cells #[.slice Bx0 n0 n0] 38)).frozen? ⟨w32.heap.size, 2, none⟩ = false := (p_b0.2 2 _ rfl).2
  have ca43_3 : (w38.alloc (.cells #[.slice Bx0 n0 n0] 38)).cell? ⟨w32.heap.size, 3, none⟩ = some (.int .i64 r0d) := (p_b0.2 3 _ rfl).1
  have fa43_3 : (w38.alloc (.cells #[.slice Bx0 n0 n0] 38)).frozen? ⟨w32.heap.size, 3, none⟩ = false := (p_b0.2 3 _ rfl).2
  obtain ⟨ca44, fa44⟩ := id bx0
  go_wp2_with fail
  clear ca42 fa42 ca43_0 fa43_0 ca43_1 fa43_1 ca43_2 fa43_2 ca43_3 fa43_3 ca44 fa44
  refine (toVariableS_any (h1.keeps kw)).mono ?_
  rintro e w45 ⟨Bx1, rfl, x1, k45⟩
  have ss46 := k45.size
  simp at ss46
  replace p0 := p0.keeps k45
  replace p_b0 := p_b0.keeps k45
  replace bx0 := bx0.keeps k45
  replace x0 := x0.keeps k45
  replace kw := Keeps.trans kw k45
  have lt47 := bx0.lt
  have sz48 := kw.size
  clear k45
  replace x1 := x1.widen (lo' := w38.heap.size + 1) (by simp) (Nat.le_refl _) (Nat.le_refl _)
  obtain ⟨ca49, fa49⟩ := id p0
  have ca50_0 : w45.cell? ⟨w32.heap.size, 0, none⟩ = some (.int .i64 r0a) := (p_b0.2 0 _ rfl).1
  have fa50_0 : w45.frozen? ⟨w32.heap.size, 0, none⟩ = false := (p_b0.2 0 _ rfl).2
  have ca50_1 : w45.cell? ⟨w32.heap.size, 1, none⟩ = some (.int .i64 r0b) := (p_b0.2 1 _ rfl).1
  have fa50_1 : w45.frozen? ⟨w32.heap.size, 1, none⟩ = false := (p_b0.2 1 _ rfl).2
  have ca50_2 : w45.cell? ⟨w32.heap.size, 2, none⟩ = some (.int .i64 r0c) := (p_b0.2 2 _ rfl).1
  have fa50_2 : w45.frozen? ⟨w32.heap.size, 2, none⟩ = false := (p_b0.2 2 _ rfl).2
  have ca50_3 : w45.cell? ⟨w32.heap.size, 3, none⟩ = some (.int .i64 r0d) := (p_b0.2 3 _ rfl).1
  have fa50_3 : w45.frozen? ⟨w32.heap.size, 3, none⟩ = false := (p_b0.2 3 _ rfl).2
  obtain ⟨ca51, fa51⟩ := id bx0
  go_wp2_with fail
  clear ca49 fa49 ca50_0 fa50_0 ca50_1 fa50_1 ca50_2 fa50_2 ca50_3 fa50_3 ca51 fa51
  refine (toReleaseS_any (h2.keeps kw)).mono ?_
  rintro e w52 ⟨Bx2, rfl, x2, k52⟩
  have ss53 := k52.size
  replace p0 := p0.keeps k52
  replace p_b0 := p_b0.keeps k52
  replace bx0 := bx0.keeps k52
  replace x0 := x0.keeps k52
  replace x1 := x1.keeps k52
  replace kw := Keeps.trans kw k52
  have lt54 := bx0.lt
  have sz55 := kw.size
  clear k52
  obtain ⟨ca56, fa56⟩ := id p0
  have ca57_0 : w52.cell? ⟨w32.heap.size, 0, none⟩ = some (.int .i64 r0a) := (p_b0.2 0 _ rfl).1
  have fa57_0 : w52.frozen? ⟨w32.heap.size, 0, none⟩ = false := (p_b0.2 0 _ rfl).2
  have ca57_1 : w52.cell? ⟨w32.heap.size, 1, none⟩ = some (.int .i64 r0b) := (p_b0.2 1 _ rfl).1
  have fa57_1 : w52.frozen? ⟨w32.heap.size, 1, none⟩ = false := (p_b0.2 1 _ rfl).2
  have ca57_2 : w52.cell? ⟨w32.heap.size, 2, none⟩ = some (.int .i64 r0c) := (p_b0.2 2 _ rfl).1
  have fa57_2 : w52.frozen? ⟨w32.heap.size, 2, none⟩ = false := (p_b0.2 2 _ rfl).2
  have ca57_3 : w52.cell? ⟨w32.heap.size, 3, none⟩ = some (.int .i64 r0d) := (p_b0.2 3 _ rfl).1
  have fa57_3 : w52.frozen? ⟨w32.heap.size, 3, none⟩ = false := (p_b0.2 3 _ rfl).2
  obtain ⟨ca58, fa58⟩ := id bx0
  go_wp2_with fail
  clear ca56 fa56 ca57_0 fa57_0 ca57_1 fa57_1 ca57_2 fa57_2 ca57_3 fa57_3 ca58 fa58
  refine (implHistoryLoss_any x0.1 x1.1 HNK.out x2).mono ?_
  rintro e w59 ⟨rfl, k59⟩
  rw [HR.out]
  have ss60 := k59.size
  replace p0 := p0.keeps k59
  replace p_b0 := p_b0.keeps k59
  replace bx0 := bx0.keeps k59
  replace x0 := x0.keeps k59
  replace x1 := x1.keeps k59
  replace x2 := x2.keeps k59
  replace kw := Keeps.trans kw k59
  have lt61 := bx0.lt
  have sz62 := kw.size
  clear k59
  replace p0 := p0.keeps (keeps_alloc w59 (.cells #[.int .i64 r0a, .int .i64 r0b, .int .i64 r0c, .int .i64 r0d] 45))
  replace p_b0 := p_b0.keeps (keeps_alloc w59 (.cells #[.int .i64 r0a, .int .i64 r0b, .int .i64 r0c, .int .i64 r0d] 45))
  replace bx0 := bx0.keeps (keeps_alloc w59 (.cells #[.int .i64 r0a, .int .i64 r0b, .int .i64 r0c, .int .i64 r0d] 45))
  replace x0 := x0.keeps (keeps_alloc w59 (.cells #[.int .i64 r0a, .int .i64 r0b, .int .i64 r0c, .int .i64 r0d] 45))
  replace x1 := x1.keeps (keeps_alloc w59 (.cells #[.int .i64 r0a, .int .i64 r0b, .int .i64 r0c, .int .i64 r0d] 45))
  replace x2 := x2.keeps (keeps_alloc w59 (.cells #[.int .i64 r0a, .int .i64 r0b, .int .i64 r0c, .int .i64 r0d] 45))
  replace kw := Keeps.trans kw (keeps_alloc w59 (.cells #[.int .i64 r0a, .int .i64 r0b, .int .i64 r0c, .int .i64 r0d] 45))
  have g_b0 : Bl (w59.alloc (.cells #[.int .i64 r0a, .int .i64 r0b, .int .i64 r0c, .int .i64 r0d] 45)) w59.heap.size [.int .i64 r0a, .int .i64 r0b, .int .i64 r0c, .int .i64 r0d] := Bl.new' (by simp) (by simp)
  obtain ⟨ca63, fa63⟩ := id p0
  have ca64_0 : (w59.alloc (.cells #[.int .i64 r0a, .int .i64 r0b, .int .i64 r0c, .int .i64 r0d] 45)).cell? ⟨w32.heap.size, 0, none⟩ = some (.int .i64 r0a) := (p_b0.2 0 _ rfl).1
  have fa64_0 : (w59.alloc (.cells #[.int .i64 r0a, .int .i64 r0b, .int .i64 r0c, .int .i64 r0d] 45)).frozen? ⟨w32.heap.size, 0, none⟩ = false := (p_b0.2 0 _ rfl).2
  have ca64_1 : (w59.alloc (.cells #[.int .i64 r0a, .int .i64 r0b, .int .i64 r0c, .int .i64 r0d] 45)).cell? ⟨w32.heap.size, 1, none⟩ = some (.int .i64 r0b) := (p_b0.2 1 _ rfl).1
  have fa64_1 : (w59.alloc (.cells #[.int .i64 r0a, .int .i64 r0b, .int .i64 r0c, .int .i64 r0d] 45)).frozen? ⟨w32.heap.size, 1, none⟩ = false := (p_b0.2 1 _ rfl).2
  have ca64_2 : (w59.alloc (.cells #[.int .i64 r0a, .int .i64 r0b, .int .i64 r0c, .int .i64 r0d] 45)).cell? ⟨w32.heap.size, 2, none⟩ = some (.int .i64 r0c) := (p_b0.2 2 _ rfl).1
  have fa64_2 : (w59.alloc (.cells #[.int .i64 r0a, .int .i64 r0b, .int .i64 r0c, .int .i64 r0d] 45)).frozen? ⟨w32.heap.size, 2, none⟩ = false := (p_b0.2 2 _ rfl).2
  have ca64_3 : (w59.alloc (.cells #[.int .i64 r0a, .int .i64 r0b, .int .i64 r0c, .int .i64 r0d] 45)).cell? ⟨w32.heap.size, 3, none⟩ = some (.int .i64 r0d) := (p_b0.2 3 _ rfl).1
  have fa64_3 : (w59.alloc (.cells #[.int .i64 r0a, .int .i64 r0b, .int .i64 r0c, .int .i64 r0d] 45)).frozen? ⟨w32.heap.size, 3, none⟩ = false := (p_b0.2 3 _ rfl).2
  obtain ⟨ca65, fa65⟩ := id bx0
  have ca66_0 : (w59.alloc (.cells #[.int .i64 r0a, .int .i64 r0b, .int .i64 r0c, .int .i64 r0d] 45)).cell? ⟨w59.heap.size, 0, none⟩ = some (.int .i64 r0a) := (g_b0.2 0 _ rfl).1
  have fa66_0 : (w59.alloc (.cells #[.int .i64 r0a, .int .i64 r0b, .int .i64 r0c, .int .i64 r0d] 45)).frozen? ⟨w59.heap.size, 0, none⟩ = false := (g_b0.2 0 _ rfl).2
  have ca66_1 : (w59.alloc (.cells #[.int .i64 r0a, .int .i64 r0b, .int .i64 r0c, .int .i64 r0d] 45)).cell? ⟨w59.heap.size, 1, none⟩ = some (.int .i64 r0b) := (g_b0.2 1 _ rfl).1
  have fa66_1 : (w59.alloc (.cells #[.int .i64 r0a, .int .i64 r0b, .int .i64 r0c, .int .i64 r0d] 45)).frozen? ⟨w59.heap.size, 1, none⟩ = false := (g_b0.2 1 _ rfl).2
  have ca66_2 : (w59.alloc (.cells #[.int .i64 r0a, .int .i64 r0b, .int .i64 r0c, .int .i64 r0d] 45)).cell? ⟨w59.heap.size, 2, none⟩ = some (.int .i64 r0c) := (g_b0.2 2 _ rfl).1
  have fa66_2 : (w59.alloc (.cells #[.int .i64 r0a, .int .i64 r0b, .int .i64 r0c, .int .i64 r0d] 45)).frozen? ⟨w59.heap.size, 2, none⟩ = false := (g_b0.2 2 _ rfl).2
  have ca66_3 : (w59.alloc (.cells #[.int .i64 r0a, .int .i64 r0b, .int .i64 r0c, .int .i64 r0d] 45)).cell? ⟨w59.heap.size, 3, none⟩ = some (.int .i64 r0d) := (g_b0.2 3 _ rfl).1
  have fa66_3 : (w59.alloc (.cells #[.int .i64 r0a, .int .i64 r0b, .int .i64 r0c, .int .i64 r0d] 45)).frozen? ⟨w59.heap.size, 3, none⟩ = false := (g_b0.2 3 _ rfl).2
  go_wp2_with fail
  clear ca63 fa63 ca64_0 fa64_0 ca64_1 fa64_1 ca64_2 fa64_2 ca64_3 fa64_3 ca65 fa65 ca66_0 fa66_0 ca66_1 fa66_1 ca66_2 fa66_2 ca66_3 fa66_3
  have e1 : (r1 != r1) = false := by simp
  refine (eqLoss_true).mono ?_
  rintro e w67 ⟨rfl, k67⟩
  have ss68 := k67.size
  simp at ss68
  replace p0 := p0.keeps k67
  replace p_b0 := p_b0.keeps k67
  replace bx0 := bx0.keeps k67
  replace g_b0 := g_b0.keeps k67
  replace x0 := x0.keeps k67
  replace x1 := x1.keeps k67
  replace x2 := x2.keeps k67
  replace kw := Keeps.trans kw k67
  have lt69 := g_b0.lt
  have sz70 := kw.size
  clear k67
  obtain ⟨ca71, fa71⟩ := id p0
  have ca72_0 : w67.cell? ⟨w32.heap.size, 0, none⟩ = some (.int .i64 r0a) := (p_b0.2 0 _ rfl).1
  have fa72_0 : w67.frozen? ⟨w32.heap.size, 0, none⟩ = false := (p_b0.2 0 _ rfl).2
  have ca72_1 : w67.cell? ⟨w32.heap.size, 1, none⟩ = some (.int .i64 r0b) := (p_b0.2 1 _ rfl).1
  have fa72_1 : w67.frozen? ⟨w32.heap.size, 1, none⟩ = false := (p_b0.2 1 _ rfl).2
  have ca72_2 : w67.cell? ⟨w32.heap.size, 2, none⟩ = some (.int .i64 r0c) := (p_b0.2 2 _ rfl).1
  have fa72_2 : w67.frozen? ⟨w32.heap.size, 2, none⟩ = false := (p_b0.2 2 _ rfl).2
  have ca72_3 : w67.cell? ⟨w32.heap.size, 3, none⟩ = some (.int .i64 r0d) := (p_b0.2 3 _ rfl).1
  have fa72_3 : w67.frozen? ⟨w32.heap.size, 3, none⟩ = false := (p_b0.2 3 _ rfl).2
  obtain ⟨ca73, fa73⟩ := id bx0
  have ca74_0 : w67.cell? ⟨w59.heap.size, 0, none⟩ = some (.int .i64 r0a) := (g_b0.2 0 _ rfl).1
  have fa74_0 : w67.frozen? ⟨w59.heap.size, 0, none⟩ = false := (g_b0.2 0 _ rfl).2
  have ca74_1 : w67.cell? ⟨w59.heap.size, 1, none⟩ = some (.int .i64 r0b) := (g_b0.2 1 _ rfl).1
  have fa74_1 : w67.frozen? ⟨w59.heap.size, 1, none⟩ = false := (g_b0.2 1 _ rfl).2
  have ca74_2 : w67.cell? ⟨w59.heap.size, 2, none⟩ = some (.int .i64 r0c) := (g_b0.2 2 _ rfl).1
  have fa74_2 : w67.frozen? ⟨w59.heap.size, 2, none⟩ = false := (g_b0.2 2 _ rfl).2
  have ca74_3 : w67.cell? ⟨w59.heap.size, 3, none⟩ = some (.int .i64 r0d) := (g_b0.2 3 _ rfl).1
  have fa74_3 : w67.frozen? ⟨w59.heap.size, 3, none⟩ = false := (g_b0.2 3 _ rfl).2
  go_wp2_with fail
  clear ca71 fa71 ca72_0 fa72_0 ca72_1 fa72_1 ca72_2 fa72_2 ca72_3 fa72_3 ca73 fa73 ca74_0 fa74_0 ca74_1 fa74_1 ca74_2 fa74_2 ca74_3 fa74_3
  obtain ⟨ca75, -⟩ := id bx0
  obtain ⟨ca76, -⟩ := id p0
  have kS := hid (show ∀ w', Keeps w67 w' → (w'.cell? ⟨w38.heap.size, 0, none⟩ = some (.slice Bx0 n0 n0) ∧ w'.cell? ⟨w.heap.size, 0, none⟩ = some (.slice A0 n0 c0)) from fun w' k => ⟨cell_keeps ca75 k, cell_keeps ca76 k⟩)
  go_region_held3 (fun w' => w'.cell? ⟨w38.heap.size, 0, none⟩ = some (.slice Bx0 n0 n0) ∧ w'.cell? ⟨w.heap.size, 0, none⟩ = some (.slice A0 n0 c0)) (first | exact kS.out _ (keeps_d0 w67) | exact kS.out _ kW | go_keep)
    ((first | (go_at_call 17; refine (toGeo_any (h0.keeps (Keeps.trans kw (keeps_d0 w67)))).mono ?_; rintro e wB77 ⟨Bt77, rfl, t0, kB⟩; have kW : Keeps w67 wB77 := keeps_d kB; clear kB) | (go_at_call 21; refine (eqGeo_true (x0.1.keeps kW) t0.1).mono ?_; rintro e wC77 ⟨rfl, kC⟩; replace kW : Keeps w67 wC77 := kW.trans kC; clear kC)))
  clear kS t0
  clear ca75 ca76
  have ss78 := kW.size
  replace p0 := p0.keeps kW
  replace p_b0 := p_b0.keeps kW
  replace bx0 := bx0.keeps kW
  replace g_b0 := g_b0.keeps kW
  replace x0 := x0.keeps kW
  replace x1 := x1.keeps kW
  replace x2 := x2.keeps kW
  replace kw := Keeps.trans kw kW
  have lt79 := g_b0.lt
  have sz80 := kw.size
  clear kW
  obtain ⟨ca81, fa81⟩ := id p0
  have ca82_0 : wC77.cell? ⟨w32.heap.size, 0, none⟩ = some (.int .i64 r0a) := (p_b0.2 0 _ rfl).1
  have fa82_0 : wC77.frozen? ⟨w32.heap.size, 0, none⟩ = false := (p_b0.2 0 _ rfl).2
  have ca82_1 : wC77.cell? ⟨w32.heap.size, 1, none⟩ = some (.int .i64 r0b) := (p_b0.2 1 _ rfl).1
  have fa82_1 : wC77.frozen? ⟨w32.heap.size, 1, none⟩ = false := (p_b0.2 1 _ rfl).2
  have ca82_2 : wC77.cell? ⟨w32.heap.size, 2, none⟩ = some (.int .i64 r0c) := (p_b0.2 2 _ rfl).1
  have fa82_2 : wC77.frozen? ⟨w32.heap.size, 2, none⟩ = false := (p_b0.2 2 _ rfl).2
  have ca82_3 : wC77.cell? ⟨w32.heap.size, 3, none⟩ = some (.int .i64 r0d) := (p_b0.2 3 _ rfl).1
  have fa82_3 : wC77.frozen? ⟨w32.heap.size, 3, none⟩ = false := (p_b0.2 3 _ rfl).2
  obtain ⟨ca83, fa83⟩ := id bx0
  have ca84_0 : wC77.cell? ⟨w59.heap.size, 0, none⟩ = some (.int .i64 r0a) := (g_b0.2 0 _ rfl).1
  have fa84_0 : wC77.frozen? ⟨w59.heap.size, 0, none⟩ = false := (g_b0.2 0 _ rfl).2
  have ca84_1 : wC77.cell? ⟨w59.heap.size, 1, none⟩ = some (.int .i64 r0b) := (g_b0.2 1 _ rfl).1
  have fa84_1 : wC77.frozen? ⟨w59.heap.size, 1, none⟩ = false := (g_b0.2 1 _ rfl).2
  have ca84_2 : wC77.cell? ⟨w59.heap.size, 2, none⟩ = some (.int .i64 r0c) := (g_b0.2 2 _ rfl).1
  have fa84_2 : wC77.frozen? ⟨w59.heap.size, 2, none⟩ = false := (g_b0.2 2 _ rfl).2
  have ca84_3 : wC77.cell? ⟨w59.heap.size, 3, none⟩ = some (.int .i64 r0d) := (g_b0.2 3 _ rfl).1
  have fa84_3 : wC77.frozen? ⟨w59.heap.size, 3, none⟩ = false := (g_b0.2 3 _ rfl).2
  go_wp2_with fail
  clear ca81 fa81 ca82_0 fa82_0 ca82_1 fa82_1 ca82_2 fa82_2 ca82_3 fa82_3 ca83 fa83 ca84_0 fa84_0 ca84_1 fa84_1 ca84_2 fa84_2 ca84_3 fa84_3
  refine (toVariableS_any (h1.keeps kw)).mono ?_
  rintro e w85 ⟨Bt1, rfl, t1, k85⟩
  have ss86 := k85.size
  replace p0 := p0.keeps k85
  replace p_b0 := p_b0.keeps k85
  replace bx0 := bx0.keeps k85
  replace g_b0 := g_b0.keeps k85
  replace x0 := x0.keeps k85
  replace x1 := x1.keeps k85
  replace x2 := x2.keeps k85
  replace kw := Keeps.trans kw k85
  have lt87 := g_b0.lt
  have sz88 := kw.size
  clear k85
  obtain ⟨ca89, fa89⟩ := id p0
  have ca90_0 : w85.cell? ⟨w32.heap.size, 0, none⟩ = some (.int .i64 r0a) := (p_b0.2 0 _ rfl).1
  have fa90_0 : w85.frozen? ⟨w32.heap.size, 0, none⟩ = false := (p_b0.2 0 _ rfl).2
  have ca90_1 : w85.cell? ⟨w32.heap.size, 1, none⟩ = some (.int .i64 r0b) := (p_b0.2 1 _ rfl).1
  have fa90_1 : w85.frozen? ⟨w32.heap.size, 1, none⟩ = false := (p_b0.2 1 _ rfl).2
  have ca90_2 : w85.cell? ⟨w32.heap.size, 2, none⟩ = some (.int .i64 r0c) := (p_b0.2 2 _ rfl).1
  have fa90_2 : w85.frozen? ⟨w32.heap.size, 2, none⟩ = false := (p_b0.2 2 _ rfl).2
  have ca90_3 : w85.cell? ⟨w32.heap.size, 3, none⟩ = some (.int .i64 r0d) := (p_b0.2 3 _ rfl).1
  have fa90_3 : w85.frozen? ⟨w32.heap.size, 3, none⟩ = false := (p_b0.2 3 _ rfl).2
  obtain ⟨ca91, fa91⟩ := id bx0
  have ca92_0 : w85.cell? ⟨w59.heap.size, 0, none⟩ = some (.int .i64 r0a) := (g_b0.2 0 _ rfl).1
  have fa92_0 : w85.frozen? ⟨w59.heap.size, 0, none⟩ = false := (g_b0.2 0 _ rfl).2
  have ca92_1 : w85.cell? ⟨w59.heap.size, 1, none⟩ = some (.int .i64 r0b) := (g_b0.2 1 _ rfl).1
  have fa92_1 : w85.frozen? ⟨w59.heap.size, 1, none⟩ = false := (g_b0.2 1 _ rfl).2
  have ca92_2 : w85.cell? ⟨w59.heap.size, 2, none⟩ = some (.int .i64 r0c) := (g_b0.2 2 _ rfl).1
  have fa92_2 : w85.frozen? ⟨w59.heap.size, 2, none⟩ = false := (g_b0.2 2 _ rfl).2
  have ca92_3 : w85.cell? ⟨w59.heap.size, 3, none⟩ = some (.int .i64 r0d) := (g_b0.2 3 _ rfl).1
  have fa92_3 : w85.frozen? ⟨w59.heap.size, 3, none⟩ = false := (g_b0.2 3 _ rfl).2
  go_wp2_with fail
  clear ca89 fa89 ca90_0 fa90_0 ca90_1 fa90_1 ca90_2 fa90_2 ca90_3 fa90_3 ca91 fa91 ca92_0 fa92_0 ca92_1 fa92_1 ca92_2 fa92_2 ca92_3 fa92_3
  refine (eqVariableS_true x1.1 t1.1).mono ?_
  rintro e w93 ⟨rfl, k93⟩
  have ss94 := k93.size
  replace p0 := p0.keeps k93
  replace p_b0 := p_b0.keeps k93
  replace bx0 := bx0.keeps k93
  replace g_b0 := g_b0.keeps k93
  replace x0 := x0.keeps k93
  replace x1 := x1.keeps k93
  replace x2 := x2.keeps k93
  replace t1 := t1.keeps k93
  replace kw := Keeps.trans kw k93
  have lt95 := g_b0.lt
  have sz96 := kw.size
  clear k93
  clear t1
  obtain ⟨ca97, fa97⟩ := id p0
  have ca98_0 : w93.cell? ⟨w32.heap.size, 0, none⟩ = some (.int .i64 r0a) := (p_b0.2 0 _ rfl).1
  have fa98_0 : w93.frozen? ⟨w32.heap.size, 0, none⟩ = false := (p_b0.2 0 _ rfl).2
  have ca98_1 : w93.cell? ⟨w32.heap.size, 1, none⟩ = some (.int .i64 r0b) := (p_b0.2 1 _ rfl).1
  have fa98_1 : w93.frozen? ⟨w32.heap.size, 1, none⟩ = false := (p_b0.2 1 _ rfl).2
  have ca98_2 : w93.cell? ⟨w32.heap.size, 2, none⟩ = some (.int .i64 r0c) := (p_b0.2 2 _ rfl).1
  have fa98_2 : w93.frozen? ⟨w32.heap.size, 2, none⟩ = false := (p_b0.2 2 _ rfl).2
  have ca98_3 : w93.cell? ⟨w32.heap.size, 3, none⟩ = some (.int .i64 r0d) := (p_b0.2 3 _ rfl).1
  have fa98_3 : w93.frozen? ⟨w32.heap.size, 3, none⟩ = false := (p_b0.2 3 _ rfl).2
  obtain ⟨ca99, fa99⟩ := id bx0
  have ca100_0 : w93.cell? ⟨w59.heap.size, 0, none⟩ = some (.int .i64 r0a) := (g_b0.2 0 _ rfl).1
  have fa100_0 : w93.frozen? ⟨w59.heap.size, 0, none⟩ = false := (g_b0.2 0 _ rfl).2
  have ca100_1 : w93.cell? ⟨w59.heap.size, 1, none⟩ = some (.int .i64 r0b) := (g_b0.2 1 _ rfl).1
  have fa100_1 : w93.frozen? ⟨w59.heap.size, 1, none⟩ = false := (g_b0.2 1 _ rfl).2
  have ca100_2 : w93.cell? ⟨w59.heap.size, 2, none⟩ = some (.int .i64 r0c) := (g_b0.2 2 _ rfl).1
  have fa100_2 : w93.frozen? ⟨w59.heap.size, 2, none⟩ = false := (g_b0.2 2 _ rfl).2
  have ca100_3 : w93.cell? ⟨w59.heap.size, 3, none⟩ = some (.int .i64 r0d) := (g_b0.2 3 _ rfl).1
  have fa100_3 : w93.frozen? ⟨w59.heap.size, 3, none⟩ = false := (g_b0.2 3 _ rfl).2
  go_wp2_with fail
  clear ca97 fa97 ca98_0 fa98_0 ca98_1 fa98_1 ca98_2 fa98_2 ca98_3 fa98_3 ca99 fa99 ca100_0 fa100_0 ca100_1 fa100_1 ca100_2 fa100_2 ca100_3 fa100_3
  refine (toReleaseS_any (h2.keeps kw)).mono ?_
  rintro e w101 ⟨Bt2, rfl, t2, k101⟩
  have ss102 := k101.size
  replace p0 := p0.keeps k101
  replace p_b0 := p_b0.keeps k101
  replace bx0 := bx0.keeps k101
  replace g_b0 := g_b0.keeps k101
  replace x0 := x0.keeps k101
  replace x1 := x1.keeps k101
  replace x2 := x2.keeps k101
  replace kw := Keeps.trans kw k101
  have lt103 := g_b0.lt
  have sz104 := kw.size
  clear k101
  obtain ⟨ca105, fa105⟩ := id p0
  have ca106_0 : w101.cell? ⟨w32.heap.size, 0, none⟩ = some (.int .i64 r0a) := (p_b0.2 0 _ rfl).1
  have fa106_0 : w101.frozen? ⟨w32.heap.size, 0, none⟩ = false := (p_b0.2 0 _ rfl).2
  have ca106_1 : w101.cell? ⟨w32.heap.size, 1, none⟩ = some (.int .i64 r0b) := (p_b0.2 1 _ rfl).1
  have fa106_1 : w101.frozen? ⟨w32.heap.size, 1, none⟩ = false := (p_b0.2 1 _ rfl).2
  have ca106_2 : w101.cell? ⟨w32.heap.size, 2, none⟩ = some (.int .i64 r0c) := (p_b0.2 2 _ rfl).1
  have fa106_2 : w101.frozen? ⟨w32.heap.size, 2, none⟩ = false := (p_b0.2 2 _ rfl).2
  have ca106_3 : w101.cell? ⟨w32.heap.size, 3, none⟩ = some (.int .i64 r0d) := (p_b0.2 3 _ rfl).1
  have fa106_3 : w101.frozen? ⟨w32.heap.size, 3, none⟩ = false := (p_b0.2 3 _ rfl).2
  obtain ⟨ca107, fa107⟩ := id bx0
  have ca108_0 : w101.cell? ⟨w59.heap.size, 0, none⟩ = some (.int .i64 r0a) := (g_b0.2 0 _ rfl).1
  have fa108_0 : w101.frozen? ⟨w59.heap.size, 0, none⟩ = false := (g_b0.2 0 _ rfl).2
  have ca108_1 : w101.cell? ⟨w59.heap.size, 1, none⟩ = some (.int .i64 r0b) := (g_b0.2 1 _ rfl).1
  have fa108_1 : w101.frozen? ⟨w59.heap.size, 1, none⟩ = false := (g_b0.2 1 _ rfl).2
  have ca108_2 : w101.cell? ⟨w59.heap.size, 2, none⟩ = some (.int .i64 r0c) := (g_b0.2 2 _ rfl).1
  have fa108_2 : w101.frozen? ⟨w59.heap.size, 2, none⟩ = false := (g_b0.2 2 _ rfl).2
  have ca108_3 : w101.cell? ⟨w59.heap.size, 3, none⟩ = some (.int .i64 r0d) := (g_b0.2 3 _ rfl).1
  have fa108_3 : w101.frozen? ⟨w59.heap.size, 3, none⟩ = false := (g_b0.2 3 _ rfl).2
  go_wp2_with fail
  clear ca105 fa105 ca106_0 fa106_0 ca106_1 fa106_1 ca106_2 fa106_2 ca106_3 fa106_3 ca107 fa107 ca108_0 fa108_0 ca108_1 fa108_1 ca108_2 fa108_2 ca108_3 fa108_3
  refine (eqReleaseS_true x2 t2).mono ?_
  rintro e w109 ⟨rfl, k109⟩
  have ss110 := k109.size
  replace p0 := p0.keeps k109
  replace p_b0 := p_b0.keeps k109
  replace bx0 := bx0.keeps k109
  replace g_b0 := g_b0.keeps k109
  replace x0 := x0.keeps k109
  replace x1 := x1.keeps k109
  replace x2 := x2.keeps k109
  replace t2 := t2.keeps k109
  replace kw := Keeps.trans kw k109
  have lt111 := g_b0.lt
  have sz112 := kw.size
  clear k109
  clear t2
  obtain ⟨ca113, fa113⟩ := id p0
  have ca114_0 : w109.cell? ⟨w32.heap.size, 0, none⟩ = some (.int .i64 r0a) := (p_b0.2 0 _ rfl).1
  have fa114_0 : w109.frozen? ⟨w32.heap.size, 0, none⟩ = false := (p_b0.2 0 _ rfl).2
  have ca114_1 : w109.cell? ⟨w32.heap.size, 1, none⟩ = some (.int .i64 r0b) := (p_b0.2 1 _ rfl).1
  have fa114_1 : w109.frozen? ⟨w32.heap.size, 1, none⟩ = false := (p_b0.2 1 _ rfl).2
  have ca114_2 : w109.cell? ⟨w32.heap.size, 2, none⟩ = some (.int .i64 r0c) := (p_b0.2 2 _ rfl).1
  have fa114_2 : w109.frozen? ⟨w32.heap.size, 2, none⟩ = false := (p_b0.2 2 _ rfl).2
  have ca114_3 : w109.cell? ⟨w32.heap.size, 3, none⟩ = some (.int .i64 r0d) := (p_b0.2 3 _ rfl).1
  have fa114_3 : w109.frozen? ⟨w32.heap.size, 3, none⟩ = false := (p_b0.2 3 _ rfl).2
  obtain ⟨ca115, fa115⟩ := id bx0
  have ca116_0 : w109.cell? ⟨w59.heap.size, 0, none⟩ = some (.int .i64 r0a) := (g_b0.2 0 _ rfl).1
  have fa116_0 : w109.frozen? ⟨w59.heap.size, 0, none⟩ = false := (g_b0.2 0 _ rfl).2
  have ca116_1 : w109.cell? ⟨w59.heap.size, 1, none⟩ = some (.int .i64 r0b) := (g_b0.2 1 _ rfl).1
  have fa116_1 : w109.frozen? ⟨w59.heap.size, 1, none⟩ = false := (g_b0.2 1 _ rfl).2
  have ca116_2 : w109.cell? ⟨w59.heap.size, 2, none⟩ = some (.int .i64 r0c) := (g_b0.2 2 _ rfl).1
  have fa116_2 : w109.frozen? ⟨w59.heap.size, 2, none⟩ = false := (g_b0.2 2 _ rfl).2
  have ca116_3 : w109.cell? ⟨w59.heap.size, 3, none⟩ = some (.int .i64 r0d) := (g_b0.2 3 _ rfl).1
  have fa116_3 : w109.frozen? ⟨w59.heap.size, 3, none⟩ = false := (g_b0.2 3 _ rfl).2
  go_wp2_with fail
  clear ca113 fa113 ca114_0 fa114_0 ca114_1 fa114_1 ca114_2 fa114_2 ca114_3 fa114_3 ca115 fa115 ca116_0 fa116_0 ca116_1 fa116_1 ca116_2 fa116_2 ca116_3 fa116_3
  go_ret
  exact ⟨rfl, kw⟩
set_option maxRecDepth 100000 in
set_option maxHeartbeats 6400000 in
theorem FnExactFirstOverrun_law (A0 : Option Addr) (n0 c0 : Nat) (z0 : List Int) (A1 : Option Addr) (n1 c1 : Nat) (z1 : List VV) (A2 : Option Addr) (n2 c2 : Nat) (z2 : List RL) (d3a d3b d3c d3d : Int) (w : World) (wa0 : IntsArg w A0 n0 z0) (wa1 : VarsArg w A1 n1 z1) (wa2 : RelsArg w A2 n2 z2) (wa3 : True) :
    Calls Try.prog 9 #[.agg #[.slice A0 n0 c0], .slice A1 n1 c1, .slice A2 n2 c2, .agg #[.int .i64 d3a, .int .i64 d3b, .int .i64 d3c, .int .i64 d3d]] w fun e w' => e = .returned (.bool true) ∧ Below w.heap.size w w' := by
  have HNK := hid (show NamesOk z1 from wa1.2.2.1)
  go_enter Try.func9, Try.ntmps9
  have kw := keeps_refl w
  replace kw := Keeps.trans kw (keeps_alloc w (.cells #[.slice A0 n0 c0] 24))
  have p0 : B1 (w.alloc (.cells #[.slice A0 n0 c0] 24)) w.heap.size (.slice A0 n0 c0) := B1.new' (by simp)
  replace p0 := p0.keeps (keeps_alloc (w.alloc (.cells #[.slice A0 n0 c0] 24)) (.cells #[.int .i64 d3a, .int .i64 d3b, .int .i64 d3c, .int .i64 d3d] 30))
  replace kw := Keeps.trans kw (keeps_alloc (w.alloc (.cells #[.slice A0 n0 c0] 24)) (.cells #[.int .i64 d3a, .int .i64 d3b, .int .i64 d3c, .int .i64 d3d] 30))
  have p3 : Bl ((w.alloc (.cells #[.slice A0 n0 c0] 24)).alloc (.cells #[.int .i64 d3a, .int .i64 d3b, .int .i64 d3c, .int .i64 d3d] 30)) (w.heap.size + 1) [.int .i64 d3a, .int .i64 d3b, .int .i64 d3c, .int .i64 d3d] := Bl.new' (by simp) (by simp)
  obtain ⟨ca1, fa1⟩ := id p0
  have ca2_0 : ((w.alloc (.cells #[.slice A0 n0 c0] 24)).alloc (.cells #[.int .i64 d3a, .int .i64 d3b, .int .i64 d3c, .int .i64 d3d] 30)).cell? ⟨w.heap.size + 1, 0, none⟩ = some (.int .i64 d3a) := (p3.2 0 _ rfl).1
  have fa2_0 : ((w.alloc (.cells #[.slice A0 n0 c0] 24)).alloc (.cells #[.int .i64 d3a, .int .i64 d3b, .int .i64 d3c, .int .i64 d3d] 30)).frozen? ⟨w.heap.size + 1, 0, none⟩ = false := (p3.2 0 _ rfl).2
  have ca2_1 : ((w.alloc (.cells #[.slice A0 n0 c0] 24)).alloc (.cells #[.int .i64 d3a, .int .i64 d3b, .int .i64 d3c, .int .i64 d3d] 30)).cell? ⟨w.heap.size + 1, 1, none⟩ = some (.int .i64 d3b) := (p3.2 1 _ rfl).1
  have fa2_1 : ((w.alloc (.cells #[.slice A0 n0 c0] 24)).alloc (.cells #[.int .i64 d3a, .int .i64 d3b, .int .i64 d3c, .int .i64 d3d] 30)).frozen? ⟨w.heap.size + 1, 1, none⟩ = false := (p3.2 1 _ rfl).2
  have ca2_2 : ((w.alloc (.cells #[.slice A0 n0 c0] 24)).alloc (.cells #[.int .i64 d3a, .int .i64 d3b, .int .i64 d3c, .int .i64 d3d] 30)).cell? ⟨w.heap.size + 1, 2, none⟩ = some (.int .i64 d3c) := (p3.2 2 _ rfl).1
  have fa2_2 : ((w.alloc (.cells #[.slice A0 n0 c0] 24)).alloc (.cells #[.int .i64 d3a, .int .i64 d3b, .int .i64 d3c, .int .i64 d3d] 30)).frozen? ⟨w.heap.size + 1, 2, none⟩ = false := (p3.2 2 _ rfl).2
  have ca2_3 : ((w.alloc (.cells #[.slice A0 n0 c0] 24)).alloc (.cells #[.int .i64 d3a, .int .i64 d3b, .int .i64 d3c, .int .i64 d3d] 30)).cell? ⟨w.heap.size + 1, 3, none⟩ = some (.int .i64 d3d) := (p3.2 3 _ rfl).1
  have fa2_3 : ((w.alloc (.cells #[.slice A0 n0 c0] 24)).alloc (.cells #[.int .i64 d3a, .int .i64 d3b, .int .i64 d3c, .int .i64 d3d] 30)).frozen? ⟨w.heap.size + 1, 3, none⟩ = false := (p3.2 3 _ rfl).2
  go_wp2_with fail
  clear ca1 fa1 ca2_0 fa2_0 ca2_1 fa2_1 ca2_2 fa2_2 ca2_3 fa2_3
  by_cases hs0 : (n0 : Int) ≤ 1048576
  rotate_left
  · have hm0 := wa0.1
    refine (szGeo_no _ _ _ (1048576) _ hm0 (by omega) (by omega) (by omega)).mono ?_
    rintro e w3 ⟨rfl, k3⟩
    have ss4 := k3.size
    simp at ss4
    replace p0 := p0.keeps k3
    replace p3 := p3.keeps k3
    replace kw := Keeps.trans kw k3
    have lt5 := p3.lt
    have sz6 := kw.size
    clear k3
    go_wp2_with fail
    go_ret
    exact ⟨rfl, kw⟩
  have h0 := wa0.ints (by omega)
  refine (szGeo_ok _ _ _ (1048576) _ (by omega) (by omega)).mono ?_
  rintro e w3 ⟨rfl, k3⟩
  have ss4 := k3.size
  simp at ss4
  replace p0 := p0.keeps k3
  replace p3 := p3.keeps k3
  replace kw := Keeps.trans kw k3
  have lt5 := p3.lt
  have sz6 := kw.size
  clear k3
  have tz0 : ¬ (1048576 - (n0 : Int) < 0) := by omega
  obtain ⟨ca7, fa7⟩ := id p0
  have ca8_0 : w3.cell? ⟨w.heap.size + 1, 0, none⟩ = some (.int .i64 d3a) := (p3.2 0 _ rfl).1
  have fa8_0 : w3.frozen? ⟨w.heap.size + 1, 0, none⟩ = false := (p3.2 0 _ rfl).2
  have ca8_1 : w3.cell? ⟨w.heap.size + 1, 1, none⟩ = some (.int .i64 d3b) := (p3.2 1 _ rfl).1
  have fa8_1 : w3.frozen? ⟨w.heap.size + 1, 1, none⟩ = false := (p3.2 1 _ rfl).2
  have ca8_2 : w3.cell? ⟨w.heap.size + 1, 2, none⟩ = some (.int .i64 d3c) := (p3.2 2 _ rfl).1
  have fa8_2 : w3.frozen? ⟨w.heap.size + 1, 2, none⟩ = false := (p3.2 2 _ rfl).2
  have ca8_3 : w3.cell? ⟨w.heap.size + 1, 3, none⟩ = some (.int .i64 d3d) := (p3.2 3 _ rfl).1
  have fa8_3 : w3.frozen? ⟨w.heap.size + 1, 3, none⟩ = false := (p3.2 3 _ rfl).2
  go_wp2_with fail
  clear ca7 fa7 ca8_0 fa8_0 ca8_1 fa8_1 ca8_2 fa8_2 ca8_3 fa8_3
  by_cases hs1 : ((n1 : Int) + vsz z1 n1) ≤ 1048576 - (n0 : Int)
  rotate_left
  · have hm1 := wa1.1
    refine (szVariableS_any (left := 1048576 - (n0 : Int)) (wa1.keeps kw) (by omega) (by omega)).mono ?_
    rintro e w9 ⟨rfl, k9⟩
    rw [szVs_no (left := 1048576 - (n0 : Int)) (n := n1) (l := z1) (by omega)]
    have ss10 := k9.size
    replace p0 := p0.keeps k9
    replace p3 := p3.keeps k9
    replace kw := Keeps.trans kw k9
    have lt11 := p3.lt
    have sz12 := kw.size
    clear k9
    go_wp2_with fail
    go_ret
    exact ⟨rfl, kw⟩
  have h1 := wa1.vars (by omega)
  refine (szVariableS_any (left := 1048576 - (n0 : Int)) (wa1.keeps kw) (by omega) (by omega)).mono ?_
  rintro e w9 ⟨rfl, k9⟩
  rw [szVs_ok (left := 1048576 - (n0 : Int)) (n := n1) (l := z1) (by omega)]
  have ss10 := k9.size
  replace p0 := p0.keeps k9
  replace p3 := p3.keeps k9
  replace kw := Keeps.trans kw k9
  have lt11 := p3.lt
  have sz12 := kw.size
  clear k9
  have tz1 : ¬ (1048576 - (n0 : Int) - ((n1 : Int) + vsz z1 n1) < 0) := by omega
  obtain ⟨ca13, fa13⟩ := id p0
  have ca14_0 : w9.cell? ⟨w.heap.size + 1, 0, none⟩ = some (.int .i64 d3a) := (p3.2 0 _ rfl).1
  have fa14_0 : w9.frozen? ⟨w.heap.size + 1, 0, none⟩ = false := (p3.2 0 _ rfl).2
  have ca14_1 : w9.cell? ⟨w.heap.size + 1, 1, none⟩ = some (.int .i64 d3b) := (p3.2 1 _ rfl).1
  have fa14_1 : w9.frozen? ⟨w.heap.size + 1, 1, none⟩ = false := (p3.2 1 _ rfl).2
  have ca14_2 : w9.cell? ⟨w.heap.size + 1, 2, none⟩ = some (.int .i64 d3c) := (p3.2 2 _ rfl).1
  have fa14_2 : w9.frozen? ⟨w.heap.size + 1, 2, none⟩ = false := (p3.2 2 _ rfl).2
  have ca14_3 : w9.cell? ⟨w.heap.size + 1, 3, none⟩ = some (.int .i64 d3d) := (p3.2 3 _ rfl).1
  have fa14_3 : w9.frozen? ⟨w.heap.size + 1, 3, none⟩ = false := (p3.2 3 _ rfl).2
  go_wp2_with fail
  clear ca13 fa13 ca14_0 fa14_0 ca14_1 fa14_1 ca14_2 fa14_2 ca14_3 fa14_3
  by_cases hs2 : ((n2 + rlsz z2 n2 : Nat) : Int) ≤ 1048576 - (n0 : Int) - ((n1 : Int) + vsz z1 n1)
  rotate_left
  · have hm2 := wa2.1
    refine (szReleaseS_any (left := 1048576 - (n0 : Int) - ((n1 : Int) + vsz z1 n1)) (wa2.keeps kw) (by omega) (by omega)).mono ?_
    rintro e w15 ⟨rfl, k15⟩
    rw [szQ_no (left := 1048576 - (n0 : Int) - ((n1 : Int) + vsz z1 n1)) (s := n2 + rlsz z2 n2) hs2]
    have ss16 := k15.size
    replace p0 := p0.keeps k15
    replace p3 := p3.keeps k15
    replace kw := Keeps.trans kw k15
    have lt17 := p3.lt
    have sz18 := kw.size
    clear k15
    go_wp2_with fail
    go_ret
    exact ⟨rfl, kw⟩
  have h2 := wa2.rels (by omega)
  refine (szReleaseS_any (left := 1048576 - (n0 : Int) - ((n1 : Int) + vsz z1 n1)) (wa2.keeps kw) (by omega) (by omega)).mono ?_
  rintro e w15 ⟨rfl, k15⟩
  rw [szQ_ok (left := 1048576 - (n0 : Int) - ((n1 : Int) + vsz z1 n1)) (s := n2 + rlsz z2 n2) hs2]
  have ss16 := k15.size
  replace p0 := p0.keeps k15
  replace p3 := p3.keeps k15
  replace kw := Keeps.trans kw k15
  have lt17 := p3.lt
  have sz18 := kw.size
  clear k15
  have tz2 : ¬ (1048576 - (n0 : Int) - ((n1 : Int) + vsz z1 n1) - ((n2 + rlsz z2 n2 : Nat) : Int) < 0) := by omega
  obtain ⟨ca19, fa19⟩ := id p0
  have ca20_0 : w15.cell? ⟨w.heap.size + 1, 0, none⟩ = some (.int .i64 d3a) := (p3.2 0 _ rfl).1
  have fa20_0 : w15.frozen? ⟨w.heap.size + 1, 0, none⟩ = false := (p3.2 0 _ rfl).2
  have ca20_1 : w15.cell? ⟨w.heap.size + 1, 1, none⟩ = some (.int .i64 d3b) := (p3.2 1 _ rfl).1
  have fa20_1 : w15.frozen? ⟨w.heap.size + 1, 1, none⟩ = false := (p3.2 1 _ rfl).2
  have ca20_2 : w15.cell? ⟨w.heap.size + 1, 2, none⟩ = some (.int .i64 d3c) := (p3.2 2 _ rfl).1
  have fa20_2 : w15.frozen? ⟨w.heap.size + 1, 2, none⟩ = false := (p3.2 2 _ rfl).2
  have ca20_3 : w15.cell? ⟨w.heap.size + 1, 3, none⟩ = some (.int .i64 d3d) := (p3.2 3 _ rfl).1
  have fa20_3 : w15.frozen? ⟨w.heap.size + 1, 3, none⟩ = false := (p3.2 3 _ rfl).2
  go_wp2_with fail
  clear ca19 fa19 ca20_0 fa20_0 ca20_1 fa20_1 ca20_2 fa20_2 ca20_3 fa20_3
  obtain ⟨r0, r1, HR⟩ : ∃ r0 r1, Hid (foQ z0 z1 z2 (d3a, d3b, d3c, d3d) = (r0, r1)) := ⟨_, _, rfl⟩
  obtain ⟨ca21, -⟩ := id p0
  have ca22_0 : w15.cell? ⟨w.heap.size + 1, 0, none⟩ = some (.int .i64 d3a) := (p3.2 0 _ rfl).1
  have ca22_1 : w15.cell? ⟨w.heap.size + 1, 1, none⟩ = some (.int .i64 d3b) := (p3.2 1 _ rfl).1
  have ca22_2 : w15.cell? ⟨w.heap.size + 1, 2, none⟩ = some (.int .i64 d3c) := (p3.2 2 _ rfl).1
  have ca22_3 : w15.cell? ⟨w.heap.size + 1, 3, none⟩ = some (.int .i64 d3d) := (p3.2 3 _ rfl).1
  have kS := hid (show ∀ w', Keeps w15 w' → (w'.cell? ⟨w.heap.size, 0, none⟩ = some (.slice A0 n0 c0) ∧ w'.cell? ⟨w.heap.size + 1, 0, none⟩ = some (.int .i64 d3a) ∧ w'.cell? ⟨w.heap.size + 1, 1, none⟩ = some (.int .i64 d3b) ∧ w'.cell? ⟨w.heap.size + 1, 2, none⟩ = some (.int .i64 d3c) ∧ w'.cell? ⟨w.heap.size + 1, 3, none⟩ = some (.int .i64 d3d)) from fun w' k => ⟨cell_keeps ca21 k, cell_keeps ca22_0 k, cell_keeps ca22_1 k, cell_keeps ca22_2 k, cell_keeps ca22_3 k⟩)
  have kW := keeps_d0 w15
  have hW0 := (h0.keeps kw)
  have hW1 := (h1.keeps kw)
  have hW2 := (h2.keeps kw)
  go_region_held3 (fun w' => w'.cell? ⟨w.heap.size, 0, none⟩ = some (.slice A0 n0 c0) ∧ w'.cell? ⟨w.heap.size + 1, 0, none⟩ = some (.int .i64 d3a) ∧ w'.cell? ⟨w.heap.size + 1, 1, none⟩ = some (.int .i64 d3b) ∧ w'.cell? ⟨w.heap.size + 1, 2, none⟩ = some (.int .i64 d3c) ∧ w'.cell? ⟨w.heap.size + 1, 3, none⟩ = some (.int .i64 d3d)) (first | with_reducible exact kS.out _ (keeps_d0 _) | with_reducible exact kS.out _ kW | go_keep)
    ((first | (go_at_call 17; refine (toGeo_any (hW0.keeps kW)).mono ?_; rintro e wB ⟨By0, rfl, y9, kB⟩; (first | (have y0 := y0.keeps kB) | skip); (first | (have y1 := y1.keeps kB) | skip); (first | (have y2 := y2.keeps kB) | skip); have y0 := y9; clear y9; replace kW : Keeps w15 wB := kW.trans kB; clear kB) | (go_at_call 18; refine (toVariableS_any (hW1.keeps kW)).mono ?_; rintro e wB ⟨By1, rfl, y9, kB⟩; (first | (have y0 := y0.keeps kB) | skip); (first | (have y1 := y1.keeps kB) | skip); (first | (have y2 := y2.keeps kB) | skip); have y1 := y9; clear y9; replace kW : Keeps w15 wB := kW.trans kB; clear kB) | (go_at_call 26; refine (toReleaseS_any (hW2.keeps kW)).mono ?_; rintro e wB ⟨By2, rfl, y9, kB⟩; (first | (have y0 := y0.keeps kB) | skip); (first | (have y1 := y1.keeps kB) | skip); (first | (have y2 := y2.keeps kB) | skip); have y2 := y9; clear y9; replace kW : Keeps w15 wB := kW.trans kB; clear kB) | (go_at_call 52; refine toLoss_any.mono ?_; rintro e wB ⟨rfl, kB⟩; (first | (have y0 := y0.keeps kB) | skip); (first | (have y1 := y1.keeps kB) | skip); (first | (have y2 := y2.keeps kB) | skip); replace kW : Keeps w15 wB := kW.trans kB; clear kB) | (go_at_call 51; refine (specFirstOverrun_any y0.1 y1.1 HNK.out y2).mono ?_; rintro e wB ⟨rfl, kB⟩; rw [HR.out]; have sW := kW.size; have sB := kB.size; replace kW : Keeps w15 wB := kW.trans kB; clear kB)))
  clear kS hW0 hW1 hW2
  clear ca21 ca22_0 ca22_1 ca22_2 ca22_3
  clear y0 y1 y2
  have ss23 := kW.size
  replace p0 := p0.keeps kW
  replace p3 := p3.keeps kW
  replace kw := Keeps.trans kw kW
  have lt24 := p3.lt
  have sz25 := kw.size
  clear kW
  obtain ⟨wy25, rfl⟩ : ∃ u : World, u = wB := ⟨_, rfl⟩
  obtain ⟨ca26, fa26⟩ := id p0
  have ca27_0 : wy25.cell? ⟨w.heap.size + 1, 0, none⟩ = some (.int .i64 d3a) := (p3.2 0 _ rfl).1
  have fa27_0 : wy25.frozen? ⟨w.heap.size + 1, 0, none⟩ = false := (p3.2 0 _ rfl).2
  have ca27_1 : wy25.cell? ⟨w.heap.size + 1, 1, none⟩ = some (.int .i64 d3b) := (p3.2 1 _ rfl).1
  have fa27_1 : wy25.frozen? ⟨w.heap.size + 1, 1, none⟩ = false := (p3.2 1 _ rfl).2
  have ca27_2 : wy25.cell? ⟨w.heap.size + 1, 2, none⟩ = some (.int .i64 d3c) := (p3.2 2 _ rfl).1
  have fa27_2 : wy25.frozen? ⟨w.heap.size + 1, 2, none⟩ = false := (p3.2 2 _ rfl).2
  have ca27_3 : wy25.cell? ⟨w.heap.size + 1, 3, none⟩ = some (.int .i64 d3d) := (p3.2 3 _ rfl).1
  have fa27_3 : wy25.frozen? ⟨w.heap.size + 1, 3, none⟩ = false := (p3.2 3 _ rfl).2
  go_wp2_with fail
  clear ca26 fa26 ca27_0 fa27_0 ca27_1 fa27_1 ca27_2 fa27_2 ca27_3 fa27_3
  refine (toGeo_any (h0.keeps kw)).mono ?_
  rintro e w28 ⟨Bx0, rfl, x0, k28⟩
  have ss29 := k28.size
  replace p0 := p0.keeps k28
  replace p3 := p3.keeps k28
  replace kw := Keeps.trans kw k28
  have lt30 := p3.lt
  have sz31 := kw.size
  clear k28
  replace p0 := p0.keeps (keeps_alloc w28 (.cells #[.slice Bx0 n0 n0] 38))
  replace p3 := p3.keeps (keeps_alloc w28 (.cells #[.slice Bx0 n0 n0] 38))
  replace x0 := x0.keeps (keeps_alloc w28 (.cells #[.slice Bx0 n0 n0] 38))
  replace kw := Keeps.trans kw (keeps_alloc w28 (.cells #[.slice Bx0 n0 n0] 38))
  have bx0 : B1 (w28.alloc (.cells #[.slice Bx0 n0 n0] 38)) w28.heap.size (.slice Bx0 n0 n0) := B1.new' (by simp)
  obtain ⟨ca32, fa32⟩ := id p0
  have ca33_0 : (w28.alloc (.cells #[.slice Bx0 n0 n0] 38)).cell? ⟨w.heap.size + 1, 0, none⟩ = some (.int .i64 d3a) := (p3.2 0 _ rfl).1
  have fa33_0 : (w28.alloc (.cells #[.slice Bx0 n0 n0] 38)).frozen? ⟨w.heap.size + 1, 0, none⟩ = false := (p3.2 0 _ rfl).2
  have ca33_1 : (w28.alloc (.cells #[.slice Bx0 n0 n0] 38)).cell? ⟨w.heap.size + 1, 1, none⟩ = some (.int .i64 d3b) := (p3.2 1 _ rfl).1
  have fa33_1 : (w28.alloc (.cells #[.slice Bx0 n0 n0] 38)).frozen? ⟨w.heap.size + 1, 1, none⟩ = false := (p3.2 1 _ rfl).2
  have ca33_2 : (w28.alloc (.cells #[.slice Bx0 n0 n0] 38)).cell? ⟨w.heap.size + 1, 2, none⟩ = some (.int .i64 d3c) := (p3.2 2 _ rfl).1
  have fa33_2 : (w28.alloc (.cells #[.slice Bx0 n0 n0] 38)).frozen? ⟨w.heap.size + 1, 2, none⟩ = false := (p3.2 2 _ rfl).2
  have ca33_3 : (w28.alloc (.cells #[.slice Bx0 n0 n0] 38)).cell? ⟨w.heap.size + 1, 3, none⟩ = some (.int .i64 d3d) := (p3.2 3 _ rfl).1
  have fa33_3 : (w28.alloc (.cells #[.slice Bx0 n0 n0] 38)).frozen? ⟨w.heap.size + 1, 3, none⟩ = false := (p3.2 3 _ rfl).2
  obtain ⟨ca34, fa34⟩ := id bx0
  go_wp2_with fail
  clear ca32 fa32 ca33_0 fa33_0 ca33_1 fa33_1 ca33_2 fa33_2 ca33_3 fa33_3 ca34 fa34
  refine (toVariableS_any (h1.keeps kw)).mono ?_
  rintro e w35 ⟨Bx1, rfl, x1, k35⟩
  have ss36 := k35.size
  simp at ss36
  replace p0 := p0.keeps k35
  replace p3 := p3.keeps k35
  replace bx0 := bx0.keeps k35
  replace x0 := x0.keeps k35
  replace kw := Keeps.trans kw k35
  have lt37 := bx0.lt
  have sz38 := kw.size
  clear k35
  replace x1 := x1.widen (lo' := w28.heap.size + 1) (by simp) (Nat.le_refl _) (Nat.le_refl _)
  obtain ⟨ca39, fa39⟩ := id p0
  have ca40_0 : w35.cell? ⟨w.heap.size + 1, 0, none⟩ = some (.int .i64 d3a) := (p3.2 0 _ rfl).1
  have fa40_0 : w35.frozen? ⟨w.heap.size + 1, 0, none⟩ = false := (p3.2 0 _ rfl).2
  have ca40_1 : w35.cell? ⟨w.heap.size + 1, 1, none⟩ = some (.int .i64 d3b) := (p3.2 1 _ rfl).1
  have fa40_1 : w35.frozen? ⟨w.heap.size + 1, 1, none⟩ = false := (p3.2 1 _ rfl).2
  have ca40_2 : w35.cell? ⟨w.heap.size + 1, 2, none⟩ = some (.int .i64 d3c) := (p3.2 2 _ rfl).1
  have fa40_2 : w35.frozen? ⟨w.heap.size + 1, 2, none⟩ = false := (p3.2 2 _ rfl).2
  have ca40_3 : w35.cell? ⟨w.heap.size + 1, 3, none⟩ = some (.int .i64 d3d) := (p3.2 3 _ rfl).1
  have fa40_3 : w35.frozen? ⟨w.heap.size + 1, 3, none⟩ = false := (p3.2 3 _ rfl).2
  obtain ⟨ca41, fa41⟩ := id bx0
  go_wp2_with fail
  clear ca39 fa39 ca40_0 fa40_0 ca40_1 fa40_1 ca40_2 fa40_2 ca40_3 fa40_3 ca41 fa41
  refine (toReleaseS_any (h2.keeps kw)).mono ?_
  rintro e w42 ⟨Bx2, rfl, x2, k42⟩
  have ss43 := k42.size
  replace p0 := p0.keeps k42
  replace p3 := p3.keeps k42
  replace bx0 := bx0.keeps k42
  replace x0 := x0.keeps k42
  replace x1 := x1.keeps k42
  replace kw := Keeps.trans kw k42
  have lt44 := bx0.lt
  have sz45 := kw.size
  clear k42
  obtain ⟨ca46, fa46⟩ := id p0
  have ca47_0 : w42.cell? ⟨w.heap.size + 1, 0, none⟩ = some (.int .i64 d3a) := (p3.2 0 _ rfl).1
  have fa47_0 : w42.frozen? ⟨w.heap.size + 1, 0, none⟩ = false := (p3.2 0 _ rfl).2
  have ca47_1 : w42.cell? ⟨w.heap.size + 1, 1, none⟩ = some (.int .i64 d3b) := (p3.2 1 _ rfl).1
  have fa47_1 : w42.frozen? ⟨w.heap.size + 1, 1, none⟩ = false := (p3.2 1 _ rfl).2
  have ca47_2 : w42.cell? ⟨w.heap.size + 1, 2, none⟩ = some (.int .i64 d3c) := (p3.2 2 _ rfl).1
  have fa47_2 : w42.frozen? ⟨w.heap.size + 1, 2, none⟩ = false := (p3.2 2 _ rfl).2
  have ca47_3 : w42.cell? ⟨w.heap.size + 1, 3, none⟩ = some (.int .i64 d3d) := (p3.2 3 _ rfl).1
  have fa47_3 : w42.frozen? ⟨w.heap.size + 1, 3, none⟩ = false := (p3.2 3 _ rfl).2
  obtain ⟨ca48, fa48⟩ := id bx0
  go_wp2_with fail
  clear ca46 fa46 ca47_0 fa47_0 ca47_1 fa47_1 ca47_2 fa47_2 ca47_3 fa47_3 ca48 fa48
  have ca49_0 : w42.cell? ⟨w.heap.size + 1, 0, none⟩ = some (.int .i64 d3a) := (p3.2 0 _ rfl).1
  have ca49_1 : w42.cell? ⟨w.heap.size + 1, 1, none⟩ = some (.int .i64 d3b) := (p3.2 1 _ rfl).1
  have ca49_2 : w42.cell? ⟨w.heap.size + 1, 2, none⟩ = some (.int .i64 d3c) := (p3.2 2 _ rfl).1
  have ca49_3 : w42.cell? ⟨w.heap.size + 1, 3, none⟩ = some (.int .i64 d3d) := (p3.2 3 _ rfl).1
  obtain ⟨ca50, -⟩ := id bx0
  have kS := hid (show ∀ w', Keeps w42 w' → (w'.cell? ⟨w.heap.size + 1, 0, none⟩ = some (.int .i64 d3a) ∧ w'.cell? ⟨w.heap.size + 1, 1, none⟩ = some (.int .i64 d3b) ∧ w'.cell? ⟨w.heap.size + 1, 2, none⟩ = some (.int .i64 d3c) ∧ w'.cell? ⟨w.heap.size + 1, 3, none⟩ = some (.int .i64 d3d) ∧ w'.cell? ⟨w28.heap.size, 0, none⟩ = some (.slice Bx0 n0 n0)) from fun w' k => ⟨cell_keeps ca49_0 k, cell_keeps ca49_1 k, cell_keeps ca49_2 k, cell_keeps ca49_3 k, cell_keeps ca50 k⟩)
  have kW := keeps_d0 w42
  have hW0 := x0
  have hW1 := x1
  have hW2 := x2
  go_region_held3 (fun w' => w'.cell? ⟨w.heap.size + 1, 0, none⟩ = some (.int .i64 d3a) ∧ w'.cell? ⟨w.heap.size + 1, 1, none⟩ = some (.int .i64 d3b) ∧ w'.cell? ⟨w.heap.size + 1, 2, none⟩ = some (.int .i64 d3c) ∧ w'.cell? ⟨w.heap.size + 1, 3, none⟩ = some (.int .i64 d3d) ∧ w'.cell? ⟨w28.heap.size, 0, none⟩ = some (.slice Bx0 n0 n0)) (first | with_reducible exact kS.out _ (keeps_d0 _) | with_reducible exact kS.out _ kW | go_keep)
    ((first | (go_at_call 52; refine toLoss_any.mono ?_; rintro e wB ⟨rfl, kB⟩; replace kW : Keeps w42 wB := kW.trans kB; clear kB) | (go_at_call 53; refine (implFirstOverrun_any (hW0.1.keeps kW) (hW1.1.keeps kW) HNK.out (hW2.keeps kW)).mono ?_; rintro e wB ⟨rfl, kB⟩; rw [HR.out]; have sW := kW.size; have sB := kB.size; replace kW : Keeps w42 wB := kW.trans kB; clear kB)))
  clear kS hW0 hW1 hW2
  clear ca49_0 ca49_1 ca49_2 ca49_3 ca50
  have ss51 := kW.size
  replace p0 := p0.keeps kW
  replace p3 := p3.keeps kW
  replace bx0 := bx0.keeps kW
  replace x0 := x0.keeps kW
  replace x1 := x1.keeps kW
  replace x2 := x2.keeps kW
  replace kw := Keeps.trans kw kW
  have lt52 := bx0.lt
  have sz53 := kw.size
  clear kW
  obtain ⟨wy53, rfl⟩ : ∃ u : World, u = wB := ⟨_, rfl⟩
  obtain ⟨ca54, fa54⟩ := id p0
  have ca55_0 : wy53.cell? ⟨w.heap.size + 1, 0, none⟩ = some (.int .i64 d3a) := (p3.2 0 _ rfl).1
  have fa55_0 : wy53.frozen? ⟨w.heap.size + 1, 0, none⟩ = false := (p3.2 0 _ rfl).2
  have ca55_1 : wy53.cell? ⟨w.heap.size + 1, 1, none⟩ = some (.int .i64 d3b) := (p3.2 1 _ rfl).1
  have fa55_1 : wy53.frozen? ⟨w.heap.size + 1, 1, none⟩ = false := (p3.2 1 _ rfl).2
  have ca55_2 : wy53.cell? ⟨w.heap.size + 1, 2, none⟩ = some (.int .i64 d3c) := (p3.2 2 _ rfl).1
  have fa55_2 : wy53.frozen? ⟨w.heap.size + 1, 2, none⟩ = false := (p3.2 2 _ rfl).2
  have ca55_3 : wy53.cell? ⟨w.heap.size + 1, 3, none⟩ = some (.int .i64 d3d) := (p3.2 3 _ rfl).1
  have fa55_3 : wy53.frozen? ⟨w.heap.size + 1, 3, none⟩ = false := (p3.2 3 _ rfl).2
  obtain ⟨ca56, fa56⟩ := id bx0
  go_wp2_with fail
  clear ca54 fa54 ca55_0 fa55_0 ca55_1 fa55_1 ca55_2 fa55_2 ca55_3 fa55_3 ca56 fa56
  have e0 : (r0 != r0) = false := by simp
  have e1 : (r1 != r1) = false := by simp
  obtain ⟨ca57, -⟩ := id bx0
  obtain ⟨ca58, -⟩ := id p0
  have kS := hid (show ∀ w', Keeps wy53 w' → (w'.cell? ⟨w28.heap.size, 0, none⟩ = some (.slice Bx0 n0 n0) ∧ w'.cell? ⟨w.heap.size, 0, none⟩ = some (.slice A0 n0 c0)) from fun w' k => ⟨cell_keeps ca57 k, cell_keeps ca58 k⟩)
  go_region_held3 (fun w' => w'.cell? ⟨w28.heap.size, 0, none⟩ = some (.slice Bx0 n0 n0) ∧ w'.cell? ⟨w.heap.size, 0, none⟩ = some (.slice A0 n0 c0)) (first | exact kS.out _ (keeps_d0 wy53) | exact kS.out _ kW | go_keep)
    ((first | (go_at_call 17; refine (toGeo_any (h0.keeps (Keeps.trans kw (keeps_d0 wy53)))).mono ?_; rintro e wB59 ⟨Bt59, rfl, t0, kB⟩; have kW : Keeps wy53 wB59 := keeps_d kB; clear kB) | (go_at_call 21; refine (eqGeo_true (x0.1.keeps kW) t0.1).mono ?_; rintro e wC59 ⟨rfl, kC⟩; replace kW : Keeps wy53 wC59 := kW.trans kC; clear kC)))
  clear kS t0
  clear ca57 ca58
  have ss60 := kW.size
  replace p0 := p0.keeps kW
  replace p3 := p3.keeps kW
  replace bx0 := bx0.keeps kW
  replace x0 := x0.keeps kW
  replace x1 := x1.keeps kW
  replace x2 := x2.keeps kW
  replace kw := Keeps.trans kw kW
  have lt61 := bx0.lt
  have sz62 := kw.size
  clear kW
  obtain ⟨ca63, fa63⟩ := id p0
  have ca64_0 : wC59.cell? ⟨w.heap.size + 1, 0, none⟩ = some (.int .i64 d3a) := (p3.2 0 _ rfl).1
  have fa64_0 : wC59.frozen? ⟨w.heap.size + 1, 0, none⟩ = false := (p3.2 0 _ rfl).2
  have ca64_1 : wC59.cell? ⟨w.heap.size + 1, 1, none⟩ = some (.int .i64 d3b) := (p3.2 1 _ rfl).1
  have fa64_1 : wC59.frozen? ⟨w.heap.size + 1, 1, none⟩ = false := (p3.2 1 _ rfl).2
  have ca64_2 : wC59.cell? ⟨w.heap.size + 1, 2, none⟩ = some (.int .i64 d3c) := (p3.2 2 _ rfl).1
  have fa64_2 : wC59.frozen? ⟨w.heap.size + 1, 2, none⟩ = false := (p3.2 2 _ rfl).2
  have ca64_3 : wC59.cell? ⟨w.heap.size + 1, 3, none⟩ = some (.int .i64 d3d) := (p3.2 3 _ rfl).1
  have fa64_3 : wC59.frozen? ⟨w.heap.size + 1, 3, none⟩ = false := (p3.2 3 _ rfl).2
  obtain ⟨ca65, fa65⟩ := id bx0
  go_wp2_with fail
  clear ca63 fa63 ca64_0 fa64_0 ca64_1 fa64_1 ca64_2 fa64_2 ca64_3 fa64_3 ca65 fa65
  refine (toVariableS_any (h1.keeps kw)).mono ?_
  rintro e w66 ⟨Bt1, rfl, t1, k66⟩
  have ss67 := k66.size
  replace p0 := p0.keeps k66
  replace p3 := p3.keeps k66
  replace bx0 := bx0.keeps k66
  replace x0 := x0.keeps k66
  replace x1 := x1.keeps k66
  replace x2 := x2.keeps k66
  replace kw := Keeps.trans kw k66
  have lt68 := bx0.lt
  have sz69 := kw.size
  clear k66
  obtain ⟨ca70, fa70⟩ := id p0
  have ca71_0 : w66.cell? ⟨w.heap.size + 1, 0, none⟩ = some (.int .i64 d3a) := (p3.2 0 _ rfl).1
  have fa71_0 : w66.frozen? ⟨w.heap.size + 1, 0, none⟩ = false := (p3.2 0 _ rfl).2
  have ca71_1 : w66.cell? ⟨w.heap.size + 1, 1, none⟩ = some (.int .i64 d3b) := (p3.2 1 _ rfl).1
  have fa71_1 : w66.frozen? ⟨w.heap.size + 1, 1, none⟩ = false := (p3.2 1 _ rfl).2
  have ca71_2 : w66.cell? ⟨w.heap.size + 1, 2, none⟩ = some (.int .i64 d3c) := (p3.2 2 _ rfl).1
  have fa71_2 : w66.frozen? ⟨w.heap.size + 1, 2, none⟩ = false := (p3.2 2 _ rfl).2
  have ca71_3 : w66.cell? ⟨w.heap.size + 1, 3, none⟩ = some (.int .i64 d3d) := (p3.2 3 _ rfl).1
  have fa71_3 : w66.frozen? ⟨w.heap.size + 1, 3, none⟩ = false := (p3.2 3 _ rfl).2
  obtain ⟨ca72, fa72⟩ := id bx0
  go_wp2_with fail
  clear ca70 fa70 ca71_0 fa71_0 ca71_1 fa71_1 ca71_2 fa71_2 ca71_3 fa71_3 ca72 fa72
  refine (eqVariableS_true x1.1 t1.1).mono ?_
  rintro e w73 ⟨rfl, k73⟩
  have ss74 := k73.size
  replace p0 := p0.keeps k73
  replace p3 := p3.keeps k73
  replace bx0 := bx0.keeps k73
  replace x0 := x0.keeps k73
  replace x1 := x1.keeps k73
  replace x2 := x2.keeps k73
  replace t1 := t1.keeps k73
  replace kw := Keeps.trans kw k73
  have lt75 := bx0.lt
  have sz76 := kw.size
  clear k73
  clear t1
  obtain ⟨ca77, fa77⟩ := id p0
  have ca78_0 : w73.cell? ⟨w.heap.size + 1, 0, none⟩ = some (.int .i64 d3a) := (p3.2 0 _ rfl).1
  have fa78_0 : w73.frozen? ⟨w.heap.size + 1, 0, none⟩ = false := (p3.2 0 _ rfl).2
  have ca78_1 : w73.cell? ⟨w.heap.size + 1, 1, none⟩ = some (.int .i64 d3b) := (p3.2 1 _ rfl).1
  have fa78_1 : w73.frozen? ⟨w.heap.size + 1, 1, none⟩ = false := (p3.2 1 _ rfl).2
  have ca78_2 : w73.cell? ⟨w.heap.size + 1, 2, none⟩ = some (.int .i64 d3c) := (p3.2 2 _ rfl).1
  have fa78_2 : w73.frozen? ⟨w.heap.size + 1, 2, none⟩ = false := (p3.2 2 _ rfl).2
  have ca78_3 : w73.cell? ⟨w.heap.size + 1, 3, none⟩ = some (.int .i64 d3d) := (p3.2 3 _ rfl).1
  have fa78_3 : w73.frozen? ⟨w.heap.size + 1, 3, none⟩ = false := (p3.2 3 _ rfl).2
  obtain ⟨ca79, fa79⟩ := id bx0
  go_wp2_with fail
  clear ca77 fa77 ca78_0 fa78_0 ca78_1 fa78_1 ca78_2 fa78_2 ca78_3 fa78_3 ca79 fa79
  refine (toReleaseS_any (h2.keeps kw)).mono ?_
  rintro e w80 ⟨Bt2, rfl, t2, k80⟩
  have ss81 := k80.size
  replace p0 := p0.keeps k80
  replace p3 := p3.keeps k80
  replace bx0 := bx0.keeps k80
  replace x0 := x0.keeps k80
  replace x1 := x1.keeps k80
  replace x2 := x2.keeps k80
  replace kw := Keeps.trans kw k80
  have lt82 := bx0.lt
  have sz83 := kw.size
  clear k80
  obtain ⟨ca84, fa84⟩ := id p0
  have ca85_0 : w80.cell? ⟨w.heap.size + 1, 0, none⟩ = some (.int .i64 d3a) := (p3.2 0 _ rfl).1
  have fa85_0 : w80.frozen? ⟨w.heap.size + 1, 0, none⟩ = false := (p3.2 0 _ rfl).2
  have ca85_1 : w80.cell? ⟨w.heap.size + 1, 1, none⟩ = some (.int .i64 d3b) := (p3.2 1 _ rfl).1
  have fa85_1 : w80.frozen? ⟨w.heap.size + 1, 1, none⟩ = false := (p3.2 1 _ rfl).2
  have ca85_2 : w80.cell? ⟨w.heap.size + 1, 2, none⟩ = some (.int .i64 d3c) := (p3.2 2 _ rfl).1
  have fa85_2 : w80.frozen? ⟨w.heap.size + 1, 2, none⟩ = false := (p3.2 2 _ rfl).2
  have ca85_3 : w80.cell? ⟨w.heap.size + 1, 3, none⟩ = some (.int .i64 d3d) := (p3.2 3 _ rfl).1
  have fa85_3 : w80.frozen? ⟨w.heap.size + 1, 3, none⟩ = false := (p3.2 3 _ rfl).2
  obtain ⟨ca86, fa86⟩ := id bx0
  go_wp2_with fail
  clear ca84 fa84 ca85_0 fa85_0 ca85_1 fa85_1 ca85_2 fa85_2 ca85_3 fa85_3 ca86 fa86
  refine (eqReleaseS_true x2 t2).mono ?_
  rintro e w87 ⟨rfl, k87⟩
  have ss88 := k87.size
  replace p0 := p0.keeps k87
  replace p3 := p3.keeps k87
  replace bx0 := bx0.keeps k87
  replace x0 := x0.keeps k87
  replace x1 := x1.keeps k87
  replace x2 := x2.keeps k87
  replace t2 := t2.keeps k87
  replace kw := Keeps.trans kw k87
  have lt89 := bx0.lt
  have sz90 := kw.size
  clear k87
  clear t2
  obtain ⟨ca91, fa91⟩ := id p0
  have ca92_0 : w87.cell? ⟨w.heap.size + 1, 0, none⟩ = some (.int .i64 d3a) := (p3.2 0 _ rfl).1
  have fa92_0 : w87.frozen? ⟨w.heap.size + 1, 0, none⟩ = false := (p3.2 0 _ rfl).2
  have ca92_1 : w87.cell? ⟨w.heap.size + 1, 1, none⟩ = some (.int .i64 d3b) := (p3.2 1 _ rfl).1
  have fa92_1 : w87.frozen? ⟨w.heap.size + 1, 1, none⟩ = false := (p3.2 1 _ rfl).2
  have ca92_2 : w87.cell? ⟨w.heap.size + 1, 2, none⟩ = some (.int .i64 d3c) := (p3.2 2 _ rfl).1
  have fa92_2 : w87.frozen? ⟨w.heap.size + 1, 2, none⟩ = false := (p3.2 2 _ rfl).2
  have ca92_3 : w87.cell? ⟨w.heap.size + 1, 3, none⟩ = some (.int .i64 d3d) := (p3.2 3 _ rfl).1
  have fa92_3 : w87.frozen? ⟨w.heap.size + 1, 3, none⟩ = false := (p3.2 3 _ rfl).2
  obtain ⟨ca93, fa93⟩ := id bx0
  go_wp2_with fail
  clear ca91 fa91 ca92_0 fa92_0 ca92_1 fa92_1 ca92_2 fa92_2 ca92_3 fa92_3 ca93 fa93
  go_ret
  exact ⟨rfl, kw⟩
end Go.Proofs.Ytklolfeijjnaoaa
