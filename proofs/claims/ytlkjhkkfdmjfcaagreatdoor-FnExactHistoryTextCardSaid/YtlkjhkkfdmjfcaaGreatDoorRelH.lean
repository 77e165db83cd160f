/- The helpers of the laws over losses, releases and slices of them: walks. -/
import Derived.Test.YtlkjhkkfdmjfcaaGreatDoorTabH
import Derived.Test.YtlkjhkkfdmjfcaaGreatDoorKC
namespace Go.Proofs.YtlkjhkkfdmjfcaaGreatDoor
open Go.RowKit
set_option linter.unusedVariables false
set_option linter.unusedSimpArgs false

set_option maxRecDepth 100000 in
set_option maxHeartbeats 1600000 in
theorem toLoss_any {x1 x2 x3 x4 : Int} {w : World} :
    Calls Tryz.prog 67 #[.agg #[.int .i64 x1, .int .i64 x2, .int .i64 x3, .int .i64 x4]] w fun e w' => e = .returned (.agg #[.int .i64 x1, .int .i64 x2, .int .i64 x3, .int .i64 x4]) ∧ Keeps w w' := by
  go_enter Tryz.func67, Tryz.ntmps67
  have kw := keeps_refl w
  replace kw := Keeps.trans kw (keeps_alloc w (.cells #[.int .i64 x1, .int .i64 x2, .int .i64 x3, .int .i64 x4] 74))
  have b1 : Bl (w.alloc (.cells #[.int .i64 x1, .int .i64 x2, .int .i64 x3, .int .i64 x4] 74)) w.heap.size [.int .i64 x1, .int .i64 x2, .int .i64 x3, .int .i64 x4] := Bl.new' (by simp) (by simp)
  replace b1 := b1.keeps (keeps_alloc (w.alloc (.cells #[.int .i64 x1, .int .i64 x2, .int .i64 x3, .int .i64 x4] 74)) (.cells #[.int .i64 0, .int .i64 0, .int .i64 0, .int .i64 0] 48))
  replace kw := Keeps.trans kw (keeps_alloc (w.alloc (.cells #[.int .i64 x1, .int .i64 x2, .int .i64 x3, .int .i64 x4] 74)) (.cells #[.int .i64 0, .int .i64 0, .int .i64 0, .int .i64 0] 48))
  have b2 : Bl ((w.alloc (.cells #[.int .i64 x1, .int .i64 x2, .int .i64 x3, .int .i64 x4] 74)).alloc (.cells #[.int .i64 0, .int .i64 0, .int .i64 0, .int .i64 0] 48)) (w.heap.size + 1) [.int .i64 0, .int .i64 0, .int .i64 0, .int .i64 0] := Bl.new' (by simp) (by simp)
  replace b1 := b1.keeps (keeps_alloc ((w.alloc (.cells #[.int .i64 x1, .int .i64 x2, .int .i64 x3, .int .i64 x4] 74)).alloc (.cells #[.int .i64 0, .int .i64 0, .int .i64 0, .int .i64 0] 48)) (.cells #[.int .i64 0, .int .i64 0, .int .i64 0, .int .i64 0] 48))
  replace b2 := b2.keeps (keeps_alloc ((w.alloc (.cells #[.int .i64 x1, .int .i64 x2, .int .i64 x3, .int .i64 x4] 74)).alloc (.cells #[.int .i64 0, .int .i64 0, .int .i64 0, .int .i64 0] 48)) (.cells #[.int .i64 0, .int .i64 0, .int .i64 0, .int .i64 0] 48))
  replace kw := Keeps.trans kw (keeps_alloc ((w.alloc (.cells #[.int .i64 x1, .int .i64 x2, .int .i64 x3, .int .i64 x4] 74)).alloc (.cells #[.int .i64 0, .int .i64 0, .int .i64 0, .int .i64 0] 48)) (.cells #[.int .i64 0, .int .i64 0, .int .i64 0, .int .i64 0] 48))
  have b3 : Bl (((w.alloc (.cells #[.int .i64 x1, .int .i64 x2, .int .i64 x3, .int .i64 x4] 74)).alloc (.cells #[.int .i64 0, .int .i64 0, .int .i64 0, .int .i64 0] 48)).alloc (.cells #[.int .i64 0, .int .i64 0, .int .i64 0, .int .i64 0] 48)) (w.heap.size + 1 + 1) [.int .i64 0, .int .i64 0, .int .i64 0, .int .i64 0] := Bl.new' (by simp) (by simp)
  have ca1_0 : (((w.alloc (.cells #[.int .i64 x1, .int .i64 x2, .int .i64 x3, .int .i64 x4] 74)).alloc (.cells #[.int .i64 0, .int .i64 0, .int .i64 0, .int .i64 0] 48)).alloc (.cells #[.int .i64 0, .int .i64 0, .int .i64 0, .int .i64 0] 48)).cell? ⟨w.heap.size, 0, none⟩ = some (.int .i64 x1) := (b1.2 0 _ rfl).1
  have fa1_0 : (((w.alloc (.cells #[.int .i64 x1, .int .i64 x2, .int .i64 x3, .int .i64 x4] 74)).alloc (.cells #[.int .i64 0, .int .i64 0, .int .i64 0, .int .i64 0] 48)).alloc (.cells #[.int .i64 0, .int .i64 0, .int .i64 0, .int .i64 0] 48)).frozen? ⟨w.heap.size, 0, none⟩ = false := (b1.2 0 _ rfl).2
  have ca1_1 : (((w.alloc (.cells #[.int .i64 x1, .int .i64 x2, .int .i64 x3, .int .i64 x4] 74)).alloc (.cells #[.int .i64 0, .int .i64 0, .int .i64 0, .int .i64 0] 48)).alloc (.cells #[.int .i64 0, .int .i64 0, .int .i64 0, .int .i64 0] 48)).cell? ⟨w.heap.size, 1, none⟩ = some (.int .i64 x2) := (b1.2 1 _ rfl).1
  have fa1_1 : (((w.alloc (.cells #[.int .i64 x1, .int .i64 x2, .int .i64 x3, .int .i64 x4] 74)).alloc (.cells #[.int .i64 0, .int .i64 0, .int .i64 0, .int .i64 0] 48)).alloc (.cells #[.int .i64 0, .int .i64 0, .int .i64 0, .int .i64 0] 48)).frozen? ⟨w.heap.size, 1, none⟩ = false := (b1.2 1 _ rfl).2
  have ca1_2 : (((w.alloc (.cells #[.int .i64 x1, .int .i64 x2, .int .i64 x3, .int .i64 x4] 74)).alloc (.cells #[.int .i64 0, .int .i64 0, .int .i64 0, .int .i64 0] 48)).alloc (.cells #[.int .i64 0, .int .i64 0, .int .i64 0, .int .i64 0] 48)).cell? ⟨w.heap.size, 2, none⟩ = some (.int .i64 x3) := (b1.2 2 _ rfl).1
  have fa1_2 : (((w.alloc (.cells #[.int .i64 x1, .int .i64 x2, .int .i64 x3, .int .i64 x4] 74)).alloc (.cells #[.int .i64 0, .int .i64 0, .int .i64 0, .int .i64 0] 48)).alloc (.cells #[.int .i64 0, .int .i64 0, .int .i64 0, .int .i64 0] 48)).frozen? ⟨w.heap.size, 2, none⟩ = false := (b1.2 2 _ rfl).2
  have ca1_3 : (((w.alloc (.cells #[.int .i64 x1, .int .i64 x2, .int .i64 x3, .int .i64 x4] 74)).alloc (.cells #[.int .i64 0, .int .i64 0, .int .i64 0, .int .i64 0] 48)).alloc (.cells #[.int .i64 0, .int .i64 0, .int .i64 0, .int .i64 0] 48)).cell? ⟨w.heap.size, 3, none⟩ = some (.int .i64 x4) := (b1.2 3 _ rfl).1
  have fa1_3 : (((w.alloc (.cells #[.int .i64 x1, .int .i64 x2, .int .i64 x3, .int .i64 x4] 74)).alloc (.cells #[.int .i64 0, .int .i64 0, .int .i64 0, .int .i64 0] 48)).alloc (.cells #[.int .i64 0, .int .i64 0, .int .i64 0, .int .i64 0] 48)).frozen? ⟨w.heap.size, 3, none⟩ = false := (b1.2 3 _ rfl).2
  have ca2_0 : (((w.alloc (.cells #[.int .i64 x1, .int .i64 x2, .int .i64 x3, .int .i64 x4] 74)).alloc (.cells #[.int .i64 0, .int .i64 0, .int .i64 0, .int .i64 0] 48)).alloc (.cells #[.int .i64 0, .int .i64 0, .int .i64 0, .int .i64 0] 48)).cell? ⟨w.heap.size + 1 + 1, 0, none⟩ = some (.int .i64 0) := (b3.2 0 _ rfl).1
  have fa2_0 : (((w.alloc (.cells #[.int .i64 x1, .int .i64 x2, .int .i64 x3, .int .i64 x4] 74)).alloc (.cells #[.int .i64 0, .int .i64 0, .int .i64 0, .int .i64 0] 48)).alloc (.cells #[.int .i64 0, .int .i64 0, .int .i64 0, .int .i64 0] 48)).frozen? ⟨w.heap.size + 1 + 1, 0, none⟩ = false := (b3.2 0 _ rfl).2
  have ca2_1 : (((w.alloc (.cells #[.int .i64 x1, .int .i64 x2, .int .i64 x3, .int .i64 x4] 74)).alloc (.cells #[.int .i64 0, .int .i64 0, .int .i64 0, .int .i64 0] 48)).alloc (.cells #[.int .i64 0, .int .i64 0, .int .i64 0, .int .i64 0] 48)).cell? ⟨w.heap.size + 1 + 1, 1, none⟩ = some (.int .i64 0) := (b3.2 1 _ rfl).1
  have fa2_1 : (((w.alloc (.cells #[.int .i64 x1, .int .i64 x2, .int .i64 x3, .int .i64 x4] 74)).alloc (.cells #[.int .i64 0, .int .i64 0, .int .i64 0, .int .i64 0] 48)).alloc (.cells #[.int .i64 0, .int .i64 0, .int .i64 0, .int .i64 0] 48)).frozen? ⟨w.heap.size + 1 + 1, 1, none⟩ = false := (b3.2 1 _ rfl).2
  have ca2_2 : (((w.alloc (.cells #[.int .i64 x1, .int .i64 x2, .int .i64 x3, .int .i64 x4] 74)).alloc (.cells #[.int .i64 0, .int .i64 0, .int .i64 0, .int .i64 0] 48)).alloc (.cells #[.int .i64 0, .int .i64 0, .int .i64 0, .int .i64 0] 48)).cell? ⟨w.heap.size + 1 + 1, 2, none⟩ = some (.int .i64 0) := (b3.2 2 _ rfl).1
  have fa2_2 : (((w.alloc (.cells #[.int .i64 x1, .int .i64 x2, .int .i64 x3, .int .i64 x4] 74)).alloc (.cells #[.int .i64 0, .int .i64 0, .int .i64 0, .int .i64 0] 48)).alloc (.cells #[.int .i64 0, .int .i64 0, .int .i64 0, .int .i64 0] 48)).frozen? ⟨w.heap.size + 1 + 1, 2, none⟩ = false := (b3.2 2 _ rfl).2
  have ca2_3 : (((w.alloc (.cells #[.int .i64 x1, .int .i64 x2, .int .i64 x3, .int .i64 x4] 74)).alloc (.cells #[.int .i64 0, .int .i64 0, .int .i64 0, .int .i64 0] 48)).alloc (.cells #[.int .i64 0, .int .i64 0, .int .i64 0, .int .i64 0] 48)).cell? ⟨w.heap.size + 1 + 1, 3, none⟩ = some (.int .i64 0) := (b3.2 3 _ rfl).1
  have fa2_3 : (((w.alloc (.cells #[.int .i64 x1, .int .i64 x2, .int .i64 x3, .int .i64 x4] 74)).alloc (.cells #[.int .i64 0, .int .i64 0, .int .i64 0, .int .i64 0] 48)).alloc (.cells #[.int .i64 0, .int .i64 0, .int .i64 0, .int .i64 0] 48)).frozen? ⟨w.heap.size + 1 + 1, 3, none⟩ = false := (b3.2 3 _ rfl).2
  go_wp2_with fail
  clear ca1_0 fa1_0 ca1_1 fa1_1 ca1_2 fa1_2 ca1_3 fa1_3 ca2_0 fa2_0 ca2_1 fa2_1 ca2_2 fa2_2 ca2_3 fa2_3
  refine (toFrac_any).mono ?_
  rintro e w3 ⟨rfl, k3⟩
  replace b1 := b1.keeps k3
  replace b2 := b2.keeps k3
  replace b3 := b3.keeps k3
  replace kw := Keeps.trans kw k3
  have lt4 := b3.lt
  have sz5 := kw.size
  clear k3
  have ca6_0 : w3.cell? ⟨w.heap.size, 0, none⟩ = some (.int .i64 x1) := (b1.2 0 _ rfl).1
  have fa6_0 : w3.frozen? ⟨w.heap.size, 0, none⟩ = false := (b1.2 0 _ rfl).2
  have ca6_1 : w3.cell? ⟨w.heap.size, 1, none⟩ = some (.int .i64 x2) := (b1.2 1 _ rfl).1
  have fa6_1 : w3.frozen? ⟨w.heap.size, 1, none⟩ = false := (b1.2 1 _ rfl).2
  have ca6_2 : w3.cell? ⟨w.heap.size, 2, none⟩ = some (.int .i64 x3) := (b1.2 2 _ rfl).1
  have fa6_2 : w3.frozen? ⟨w.heap.size, 2, none⟩ = false := (b1.2 2 _ rfl).2
  have ca6_3 : w3.cell? ⟨w.heap.size, 3, none⟩ = some (.int .i64 x4) := (b1.2 3 _ rfl).1
  have fa6_3 : w3.frozen? ⟨w.heap.size, 3, none⟩ = false := (b1.2 3 _ rfl).2
  have ca7_0 : w3.cell? ⟨w.heap.size + 1 + 1, 0, none⟩ = some (.int .i64 0) := (b3.2 0 _ rfl).1
  have fa7_0 : w3.frozen? ⟨w.heap.size + 1 + 1, 0, none⟩ = false := (b3.2 0 _ rfl).2
  have ca7_1 : w3.cell? ⟨w.heap.size + 1 + 1, 1, none⟩ = some (.int .i64 0) := (b3.2 1 _ rfl).1
  have fa7_1 : w3.frozen? ⟨w.heap.size + 1 + 1, 1, none⟩ = false := (b3.2 1 _ rfl).2
  have ca7_2 : w3.cell? ⟨w.heap.size + 1 + 1, 2, none⟩ = some (.int .i64 0) := (b3.2 2 _ rfl).1
  have fa7_2 : w3.frozen? ⟨w.heap.size + 1 + 1, 2, none⟩ = false := (b3.2 2 _ rfl).2
  have ca7_3 : w3.cell? ⟨w.heap.size + 1 + 1, 3, none⟩ = some (.int .i64 0) := (b3.2 3 _ rfl).1
  have fa7_3 : w3.frozen? ⟨w.heap.size + 1 + 1, 3, none⟩ = false := (b3.2 3 _ rfl).2
  replace b1 := b1.far (p := ⟨w.heap.size + 1 + 1, 0, none⟩) (by show _ ≠ (w.heap.size + 1 + 1); omega) (.int .i64 x1)
  replace b2 := b2.far (p := ⟨w.heap.size + 1 + 1, 0, none⟩) (by show _ ≠ (w.heap.size + 1 + 1); omega) (.int .i64 x1)
  replace kw := Below.setCell kw (p := ⟨w.heap.size + 1 + 1, 0, none⟩) (by show _ ≤ (w.heap.size + 1 + 1); omega) (.int .i64 x1)
  replace b3 : Bl (w3.setCell ⟨w.heap.size + 1 + 1, 0, none⟩ (.int .i64 x1)) (w.heap.size + 1 + 1) [.int .i64 x1, .int .i64 0, .int .i64 0, .int .i64 0] := b3.set 0 (.int .i64 x1)
  replace b1 := b1.far (p := ⟨w.heap.size + 1 + 1, 1, none⟩) (by show _ ≠ (w.heap.size + 1 + 1); omega) (.int .i64 x2)
  replace b2 := b2.far (p := ⟨w.heap.size + 1 + 1, 1, none⟩) (by show _ ≠ (w.heap.size + 1 + 1); omega) (.int .i64 x2)
  replace kw := Below.setCell kw (p := ⟨w.heap.size + 1 + 1, 1, none⟩) (by show _ ≤ (w.heap.size + 1 + 1); omega) (.int .i64 x2)
  replace b3 : Bl ((w3.setCell ⟨w.heap.size + 1 + 1, 0, none⟩ (.int .i64 x1)).setCell ⟨w.heap.size + 1 + 1, 1, none⟩ (.int .i64 x2)) (w.heap.size + 1 + 1) [.int .i64 x1, .int .i64 x2, .int .i64 0, .int .i64 0] := b3.set 1 (.int .i64 x2)
  have ca8_0 : ((w3.setCell ⟨w.heap.size + 1 + 1, 0, none⟩ (.int .i64 x1)).setCell ⟨w.heap.size + 1 + 1, 1, none⟩ (.int .i64 x2)).cell? ⟨w.heap.size, 0, none⟩ = some (.int .i64 x1) := (b1.2 0 _ rfl).1
  have fa8_0 : ((w3.setCell ⟨w.heap.size + 1 + 1, 0, none⟩ (.int .i64 x1)).setCell ⟨w.heap.size + 1 + 1, 1, none⟩ (.int .i64 x2)).frozen? ⟨w.heap.size, 0, none⟩ = false := (b1.2 0 _ rfl).2
  have ca8_1 : ((w3.setCell ⟨w.heap.size + 1 + 1, 0, none⟩ (.int .i64 x1)).setCell ⟨w.heap.size + 1 + 1, 1, none⟩ (.int .i64 x2)).cell? ⟨w.heap.size, 1, none⟩ = some (.int .i64 x2) := (b1.2 1 _ rfl).1
  have fa8_1 : ((w3.setCell ⟨w.heap.size + 1 + 1, 0, none⟩ (.int .i64 x1)).setCell ⟨w.heap.size + 1 + 1, 1, none⟩ (.int .i64 x2)).frozen? ⟨w.heap.size, 1, none⟩ = false := (b1.2 1 _ rfl).2
  have ca8_2 : ((w3.setCell ⟨w.heap.size + 1 + 1, 0, none⟩ (.int .i64 x1)).setCell ⟨w.heap.size + 1 + 1, 1, none⟩ (.int .i64 x2)).cell? ⟨w.heap.size, 2, none⟩ = some (.int .i64 x3) := (b1.2 2 _ rfl).1
  have fa8_2 : ((w3.setCell ⟨w.heap.size + 1 + 1, 0, none⟩ (.int .i64 x1)).setCell ⟨w.heap.size + 1 + 1, 1, none⟩ (.int .i64 x2)).frozen? ⟨w.heap.size, 2, none⟩ = false := (b1.2 2 _ rfl).2
  have ca8_3 : ((w3.setCell ⟨w.heap.size + 1 + 1, 0, none⟩ (.int .i64 x1)).setCell ⟨w.heap.size + 1 + 1, 1, none⟩ (.int .i64 x2)).cell? ⟨w.heap.size, 3, none⟩ = some (.int .i64 x4) := (b1.2 3 _ rfl).1
  have fa8_3 : ((w3.setCell ⟨w.heap.size + 1 + 1, 0, none⟩ (.int .i64 x1)).setCell ⟨w.heap.size + 1 + 1, 1, none⟩ (.int .i64 x2)).frozen? ⟨w.heap.size, 3, none⟩ = false := (b1.2 3 _ rfl).2
  go_wp2_with fail
  clear ca6_0 fa6_0 ca6_1 fa6_1 ca6_2 fa6_2 ca6_3 fa6_3 ca7_0 fa7_0 ca7_1 fa7_1 ca7_2 fa7_2 ca7_3 fa7_3 ca8_0 fa8_0 ca8_1 fa8_1 ca8_2 fa8_2 ca8_3 fa8_3
  refine (toFrac_any).mono ?_
  rintro e w9 ⟨rfl, k9⟩
  replace b1 := b1.keeps k9
  replace b2 := b2.keeps k9
  replace b3 := b3.keeps k9
  replace kw := Keeps.trans kw k9
  have lt10 := b3.lt
  have sz11 := kw.size
  clear k9
  have ca12_0 : w9.cell? ⟨w.heap.size, 0, none⟩ = some (.int .i64 x1) := (b1.2 0 _ rfl).1
  have fa12_0 : w9.frozen? ⟨w.heap.size, 0, none⟩ = false := (b1.2 0 _ rfl).2
  have ca12_1 : w9.cell? ⟨w.heap.size, 1, none⟩ = some (.int .i64 x2) := (b1.2 1 _ rfl).1
  have fa12_1 : w9.frozen? ⟨w.heap.size, 1, none⟩ = false := (b1.2 1 _ rfl).2
  have ca12_2 : w9.cell? ⟨w.heap.size, 2, none⟩ = some (.int .i64 x3) := (b1.2 2 _ rfl).1
  have fa12_2 : w9.frozen? ⟨w.heap.size, 2, none⟩ = false := (b1.2 2 _ rfl).2
  have ca12_3 : w9.cell? ⟨w.heap.size, 3, none⟩ = some (.int .i64 x4) := (b1.2 3 _ rfl).1
  have fa12_3 : w9.frozen? ⟨w.heap.size, 3, none⟩ = false := (b1.2 3 _ rfl).2
  have ca13_0 : w9.cell? ⟨w.heap.size + 1 + 1, 0, none⟩ = some (.int .i64 x1) := (b3.2 0 _ rfl).1
  have fa13_0 : w9.frozen? ⟨w.heap.size + 1 + 1, 0, none⟩ = false := (b3.2 0 _ rfl).2
  have ca13_1 : w9.cell? ⟨w.heap.size + 1 + 1, 1, none⟩ = some (.int .i64 x2) := (b3.2 1 _ rfl).1
  have fa13_1 : w9.frozen? ⟨w.heap.size + 1 + 1, 1, none⟩ = false := (b3.2 1 _ rfl).2
  have ca13_2 : w9.cell? ⟨w.heap.size + 1 + 1, 2, none⟩ = some (.int .i64 0) := (b3.2 2 _ rfl).1
  have fa13_2 : w9.frozen? ⟨w.heap.size + 1 + 1, 2, none⟩ = false := (b3.2 2 _ rfl).2
  have ca13_3 : w9.cell? ⟨w.heap.size + 1 + 1, 3, none⟩ = some (.int .i64 0) := (b3.2 3 _ rfl).1
  have fa13_3 : w9.frozen? ⟨w.heap.size + 1 + 1, 3, none⟩ = false := (b3.2 3 _ rfl).2
  replace b1 := b1.far (p := ⟨w.heap.size + 1 + 1, 2, none⟩) (by show _ ≠ (w.heap.size + 1 + 1); omega) (.int .i64 x3)
  replace b2 := b2.far (p := ⟨w.heap.size + 1 + 1, 2, none⟩) (by show _ ≠ (w.heap.size + 1 + 1); omega) (.int .i64 x3)
  replace kw := Below.setCell kw (p := ⟨w.heap.size + 1 + 1, 2, none⟩) (by show _ ≤ (w.heap.size + 1 + 1); omega) (.int .i64 x3)
  replace b3 : Bl (w9.setCell ⟨w.heap.size + 1 + 1, 2, none⟩ (.int .i64 x3)) (w.heap.size + 1 + 1) [.int .i64 x1, .int .i64 x2, .int .i64 x3, .int .i64 0] := b3.set 2 (.int .i64 x3)
  replace b1 := b1.far (p := ⟨w.heap.size + 1 + 1, 3, none⟩) (by show _ ≠ (w.heap.size + 1 + 1); omega) (.int .i64 x4)
  replace b2 := b2.far (p := ⟨w.heap.size + 1 + 1, 3, none⟩) (by show _ ≠ (w.heap.size + 1 + 1); omega) (.int .i64 x4)
  replace kw := Below.setCell kw (p := ⟨w.heap.size + 1 + 1, 3, none⟩) (by show _ ≤ (w.heap.size + 1 + 1); omega) (.int .i64 x4)
  replace b3 : Bl ((w9.setCell ⟨w.heap.size + 1 + 1, 2, none⟩ (.int .i64 x3)).setCell ⟨w.heap.size + 1 + 1, 3, none⟩ (.int .i64 x4)) (w.heap.size + 1 + 1) [.int .i64 x1, .int .i64 x2, .int .i64 x3, .int .i64 x4] := b3.set 3 (.int .i64 x4)
  have ca14_0 : ((w9.setCell ⟨w.heap.size + 1 + 1, 2, none⟩ (.int .i64 x3)).setCell ⟨w.heap.size + 1 + 1, 3, none⟩ (.int .i64 x4)).cell? ⟨w.heap.size + 1 + 1, 0, none⟩ = some (.int .i64 x1) := (b3.2 0 _ rfl).1
  have fa14_0 : ((w9.setCell ⟨w.heap.size + 1 + 1, 2, none⟩ (.int .i64 x3)).setCell ⟨w.heap.size + 1 + 1, 3, none⟩ (.int .i64 x4)).frozen? ⟨w.heap.size + 1 + 1, 0, none⟩ = false := (b3.2 0 _ rfl).2
  have ca14_1 : ((w9.setCell ⟨w.heap.size + 1 + 1, 2, none⟩ (.int .i64 x3)).setCell ⟨w.heap.size + 1 + 1, 3, none⟩ (.int .i64 x4)).cell? ⟨w.heap.size + 1 + 1, 1, none⟩ = some (.int .i64 x2) := (b3.2 1 _ rfl).1
  have fa14_1 : ((w9.setCell ⟨w.heap.size + 1 + 1, 2, none⟩ (.int .i64 x3)).setCell ⟨w.heap.size + 1 + 1, 3, none⟩ (.int .i64 x4)).frozen? ⟨w.heap.size + 1 + 1, 1, none⟩ = false := (b3.2 1 _ rfl).2
  have ca14_2 : ((w9.setCell ⟨w.heap.size + 1 + 1, 2, none⟩ (.int .i64 x3)).setCell ⟨w.heap.size + 1 + 1, 3, none⟩ (.int .i64 x4)).cell? ⟨w.heap.size + 1 + 1, 2, none⟩ = some (.int .i64 x3) := (b3.2 2 _ rfl).1
  have fa14_2 : ((w9.setCell ⟨w.heap.size + 1 + 1, 2, none⟩ (.int .i64 x3)).setCell ⟨w.heap.size + 1 + 1, 3, none⟩ (.int .i64 x4)).frozen? ⟨w.heap.size + 1 + 1, 2, none⟩ = false := (b3.2 2 _ rfl).2
  have ca14_3 : ((w9.setCell ⟨w.heap.size + 1 + 1, 2, none⟩ (.int .i64 x3)).setCell ⟨w.heap.size + 1 + 1, 3, none⟩ (.int .i64 x4)).cell? ⟨w.heap.size + 1 + 1, 3, none⟩ = some (.int .i64 x4) := (b3.2 3 _ rfl).1
  have fa14_3 : ((w9.setCell ⟨w.heap.size + 1 + 1, 2, none⟩ (.int .i64 x3)).setCell ⟨w.heap.size + 1 + 1, 3, none⟩ (.int .i64 x4)).frozen? ⟨w.heap.size + 1 + 1, 3, none⟩ = false := (b3.2 3 _ rfl).2
  have ca15_0 : ((w9.setCell ⟨w.heap.size + 1 + 1, 2, none⟩ (.int .i64 x3)).setCell ⟨w.heap.size + 1 + 1, 3, none⟩ (.int .i64 x4)).cell? ⟨w.heap.size + 1, 0, none⟩ = some (.int .i64 0) := (b2.2 0 _ rfl).1
  have fa15_0 : ((w9.setCell ⟨w.heap.size + 1 + 1, 2, none⟩ (.int .i64 x3)).setCell ⟨w.heap.size + 1 + 1, 3, none⟩ (.int .i64 x4)).frozen? ⟨w.heap.size + 1, 0, none⟩ = false := (b2.2 0 _ rfl).2
  have ca15_1 : ((w9.setCell ⟨w.heap.size + 1 + 1, 2, none⟩ (.int .i64 x3)).setCell ⟨w.heap.size + 1 + 1, 3, none⟩ (.int .i64 x4)).cell? ⟨w.heap.size + 1, 1, none⟩ = some (.int .i64 0) := (b2.2 1 _ rfl).1
  have fa15_1 : ((w9.setCell ⟨w.heap.size + 1 + 1, 2, none⟩ (.int .i64 x3)).setCell ⟨w.heap.size + 1 + 1, 3, none⟩ (.int .i64 x4)).frozen? ⟨w.heap.size + 1, 1, none⟩ = false := (b2.2 1 _ rfl).2
  have ca15_2 : ((w9.setCell ⟨w.heap.size + 1 + 1, 2, none⟩ (.int .i64 x3)).setCell ⟨w.heap.size + 1 + 1, 3, none⟩ (.int .i64 x4)).cell? ⟨w.heap.size + 1, 2, none⟩ = some (.int .i64 0) := (b2.2 2 _ rfl).1
  have fa15_2 : ((w9.setCell ⟨w.heap.size + 1 + 1, 2, none⟩ (.int .i64 x3)).setCell ⟨w.heap.size + 1 + 1, 3, none⟩ (.int .i64 x4)).frozen? ⟨w.heap.size + 1, 2, none⟩ = false := (b2.2 2 _ rfl).2
  have ca15_3 : ((w9.setCell ⟨w.heap.size + 1 + 1, 2, none⟩ (.int .i64 x3)).setCell ⟨w.heap.size + 1 + 1, 3, none⟩ (.int .i64 x4)).cell? ⟨w.heap.size + 1, 3, none⟩ = some (.int .i64 0) := (b2.2 3 _ rfl).1
  have fa15_3 : ((w9.setCell ⟨w.heap.size + 1 + 1, 2, none⟩ (.int .i64 x3)).setCell ⟨w.heap.size + 1 + 1, 3, none⟩ (.int .i64 x4)).frozen? ⟨w.heap.size + 1, 3, none⟩ = false := (b2.2 3 _ rfl).2
  replace b1 := b1.far (p := ⟨w.heap.size + 1, 0, none⟩) (by show _ ≠ (w.heap.size + 1); omega) (.int .i64 x1)
  replace b3 := b3.far (p := ⟨w.heap.size + 1, 0, none⟩) (by show _ ≠ (w.heap.size + 1); omega) (.int .i64 x1)
  replace kw := Below.setCell kw (p := ⟨w.heap.size + 1, 0, none⟩) (by show _ ≤ (w.heap.size + 1); omega) (.int .i64 x1)
  replace b2 : Bl (((w9.setCell ⟨w.heap.size + 1 + 1, 2, none⟩ (.int .i64 x3)).setCell ⟨w.heap.size + 1 + 1, 3, none⟩ (.int .i64 x4)).setCell ⟨w.heap.size + 1, 0, none⟩ (.int .i64 x1)) (w.heap.size + 1) [.int .i64 x1, .int .i64 0, .int .i64 0, .int .i64 0] := b2.set 0 (.int .i64 x1)
  replace b1 := b1.far (p := ⟨w.heap.size + 1, 1, none⟩) (by show _ ≠ (w.heap.size + 1); omega) (.int .i64 x2)
  replace b3 := b3.far (p := ⟨w.heap.size + 1, 1, none⟩) (by show _ ≠ (w.heap.size + 1); omega) (.int .i64 x2)
  replace kw := Below.setCell kw (p := ⟨w.heap.size + 1, 1, none⟩) (by show _ ≤ (w.heap.size + 1); omega) (.int .i64 x2)
  replace b2 : Bl ((((w9.setCell ⟨w.heap.size + 1 + 1, 2, none⟩ (.int .i64 x3)).setCell ⟨w.heap.size + 1 + 1, 3, none⟩ (.int .i64 x4)).setCell ⟨w.heap.size + 1, 0, none⟩ (.int .i64 x1)).setCell ⟨w.heap.size + 1, 1, none⟩ (.int .i64 x2)) (w.heap.size + 1) [.int .i64 x1, .int .i64 x2, .int .i64 0, .int .i64 0] := b2.set 1 (.int .i64 x2)
  replace b1 := b1.far (p := ⟨w.heap.size + 1, 2, none⟩) (by show _ ≠ (w.heap.size + 1); omega) (.int .i64 x3)
  replace b3 := b3.far (p := ⟨w.heap.size + 1, 2, none⟩) (by show _ ≠ (w.heap.size + 1); omega) (.int .i64 x3)
  replace kw := Below.setCell kw (p := ⟨w.heap.size + 1, 2, none⟩) (by show _ ≤ (w.heap.size + 1); omega) (.int .i64 x3)
  replace b2 : Bl (((((w9.setCell ⟨w.heap.size + 1 + 1, 2, none⟩ (.int .i64 x3)).setCell ⟨w.heap.size + 1 + 1, 3, none⟩ (.int .i64 x4)).setCell ⟨w.heap.size + 1, 0, none⟩ (.int .i64 x1)).setCell ⟨w.heap.size + 1, 1, none⟩ (.int .i64 x2)).setCell ⟨w.heap.size + 1, 2, none⟩ (.int .i64 x3)) (w.heap.size + 1) [.int .i64 x1, .int .i64 x2, .int .i64 x3, .int .i64 0] := b2.set 2 (.int .i64 x3)
  replace b1 := b1.far (p := ⟨w.heap.size + 1, 3, none⟩) (by show _ ≠ (w.heap.size + 1); omega) (.int .i64 x4)
  replace b3 := b3.far (p := ⟨w.heap.size + 1, 3, none⟩) (by show _ ≠ (w.heap.size + 1); omega) (.int .i64 x4)
  replace kw := Below.setCell kw (p := ⟨w.heap.size + 1, 3, none⟩) (by show _ ≤ (w.heap.size + 1); omega) (.int .i64 x4)
  replace b2 : Bl ((((((w9.setCell ⟨w.heap.size + 1 + 1, 2, none⟩ (.int .i64 x3)).setCell ⟨w.heap.size + 1 + 1, 3, none⟩ (.int .i64 x4)).setCell ⟨w.heap.size + 1, 0, none⟩ (.int .i64 x1)).setCell ⟨w.heap.size + 1, 1, none⟩ (.int .i64 x2)).setCell ⟨w.heap.size + 1, 2, none⟩ (.int .i64 x3)).setCell ⟨w.heap.size + 1, 3, none⟩ (.int .i64 x4)) (w.heap.size + 1) [.int .i64 x1, .int .i64 x2, .int .i64 x3, .int .i64 x4] := b2.set 3 (.int .i64 x4)
  have HK := hid kw
  clear kw
  go_wp2_with fail
  clear ca12_0 fa12_0 ca12_1 fa12_1 ca12_2 fa12_2 ca12_3 fa12_3 ca13_0 fa13_0 ca13_1 fa13_1 ca13_2 fa13_2 ca13_3 fa13_3 ca14_0 fa14_0 ca14_1 fa14_1 ca14_2 fa14_2 ca14_3 fa14_3 ca15_0 fa15_0 ca15_1 fa15_1 ca15_2 fa15_2 ca15_3 fa15_3
  have ca0_0 : ((((((w9.setCell ⟨w.heap.size + 1 + 1, 2, none⟩ (.int .i64 x3)).setCell ⟨w.heap.size + 1 + 1, 3, none⟩ (.int .i64 x4)).setCell ⟨w.heap.size + 1, 0, none⟩ (.int .i64 x1)).setCell ⟨w.heap.size + 1, 1, none⟩ (.int .i64 x2)).setCell ⟨w.heap.size + 1, 2, none⟩ (.int .i64 x3)).setCell ⟨w.heap.size + 1, 3, none⟩ (.int .i64 x4)).cell? ⟨w.heap.size + 1, 0, none⟩ = some (.int .i64 x1) := (b2.2 0 _ rfl).1
  have ca0_1 : ((((((w9.setCell ⟨w.heap.size + 1 + 1, 2, none⟩ (.int .i64 x3)).setCell ⟨w.heap.size + 1 + 1, 3, none⟩ (.int .i64 x4)).setCell ⟨w.heap.size + 1, 0, none⟩ (.int .i64 x1)).setCell ⟨w.heap.size + 1, 1, none⟩ (.int .i64 x2)).setCell ⟨w.heap.size + 1, 2, none⟩ (.int .i64 x3)).setCell ⟨w.heap.size + 1, 3, none⟩ (.int .i64 x4)).cell? ⟨w.heap.size + 1, 1, none⟩ = some (.int .i64 x2) := (b2.2 1 _ rfl).1
  have ca0_2 : ((((((w9.setCell ⟨w.heap.size + 1 + 1, 2, none⟩ (.int .i64 x3)).setCell ⟨w.heap.size + 1 + 1, 3, none⟩ (.int .i64 x4)).setCell ⟨w.heap.size + 1, 0, none⟩ (.int .i64 x1)).setCell ⟨w.heap.size + 1, 1, none⟩ (.int .i64 x2)).setCell ⟨w.heap.size + 1, 2, none⟩ (.int .i64 x3)).setCell ⟨w.heap.size + 1, 3, none⟩ (.int .i64 x4)).cell? ⟨w.heap.size + 1, 2, none⟩ = some (.int .i64 x3) := (b2.2 2 _ rfl).1
  have ca0_3 : ((((((w9.setCell ⟨w.heap.size + 1 + 1, 2, none⟩ (.int .i64 x3)).setCell ⟨w.heap.size + 1 + 1, 3, none⟩ (.int .i64 x4)).setCell ⟨w.heap.size + 1, 0, none⟩ (.int .i64 x1)).setCell ⟨w.heap.size + 1, 1, none⟩ (.int .i64 x2)).setCell ⟨w.heap.size + 1, 2, none⟩ (.int .i64 x3)).setCell ⟨w.heap.size + 1, 3, none⟩ (.int .i64 x4)).cell? ⟨w.heap.size + 1, 3, none⟩ = some (.int .i64 x4) := (b2.2 3 _ rfl).1
  try simp only [Exit.inBlock, Exit.then]
  exact bodyPost_ret (v := .agg #[.int .i64 x1, .int .i64 x2, .int .i64 x3, .int .i64 x4]) (by simp [results, Tryz.results67, go_sem, ca0_0, ca0_1, ca0_2, ca0_3]) rfl ⟨rfl, HK.out⟩
set_option maxRecDepth 100000 in
set_option maxHeartbeats 1600000 in
theorem eqLoss_true {x1 x2 x3 x4 : Int} {w : World} :
    Calls Tryz.prog 73 #[.agg #[.int .i64 x1, .int .i64 x2, .int .i64 x3, .int .i64 x4], .agg #[.int .i64 x1, .int .i64 x2, .int .i64 x3, .int .i64 x4]] w fun e w' => e = .returned (.bool true) ∧ Keeps w w' := by
  go_enter Tryz.func73, Tryz.ntmps73
  have kw := keeps_refl w
  replace kw := Keeps.trans kw (keeps_alloc w (.cells #[.int .i64 x1, .int .i64 x2, .int .i64 x3, .int .i64 x4] 48))
  have b2 : Bl (w.alloc (.cells #[.int .i64 x1, .int .i64 x2, .int .i64 x3, .int .i64 x4] 48)) w.heap.size [.int .i64 x1, .int .i64 x2, .int .i64 x3, .int .i64 x4] := Bl.new' (by simp) (by simp)
  replace b2 := b2.keeps (keeps_alloc (w.alloc (.cells #[.int .i64 x1, .int .i64 x2, .int .i64 x3, .int .i64 x4] 48)) (.cells #[.int .i64 x1, .int .i64 x2, .int .i64 x3, .int .i64 x4] 48))
  replace kw := Keeps.trans kw (keeps_alloc (w.alloc (.cells #[.int .i64 x1, .int .i64 x2, .int .i64 x3, .int .i64 x4] 48)) (.cells #[.int .i64 x1, .int .i64 x2, .int .i64 x3, .int .i64 x4] 48))
  have b3 : Bl ((w.alloc (.cells #[.int .i64 x1, .int .i64 x2, .int .i64 x3, .int .i64 x4] 48)).alloc (.cells #[.int .i64 x1, .int .i64 x2, .int .i64 x3, .int .i64 x4] 48)) (w.heap.size + 1) [.int .i64 x1, .int .i64 x2, .int .i64 x3, .int .i64 x4] := Bl.new' (by simp) (by simp)
  have ca1_0 : ((w.alloc (.cells #[.int .i64 x1, .int .i64 x2, .int .i64 x3, .int .i64 x4] 48)).alloc (.cells #[.int .i64 x1, .int .i64 x2, .int .i64 x3, .int .i64 x4] 48)).cell? ⟨w.heap.size, 0, none⟩ = some (.int .i64 x1) := (b2.2 0 _ rfl).1
  have fa1_0 : ((w.alloc (.cells #[.int .i64 x1, .int .i64 x2, .int .i64 x3, .int .i64 x4] 48)).alloc (.cells #[.int .i64 x1, .int .i64 x2, .int .i64 x3, .int .i64 x4] 48)).frozen? ⟨w.heap.size, 0, none⟩ = false := (b2.2 0 _ rfl).2
  have ca1_1 : ((w.alloc (.cells #[.int .i64 x1, .int .i64 x2, .int .i64 x3, .int .i64 x4] 48)).alloc (.cells #[.int .i64 x1, .int .i64 x2, .int .i64 x3, .int .i64 x4] 48)).cell? ⟨w.heap.size, 1, none⟩ = some (.int .i64 x2) := (b2.2 1 _ rfl).1
  have fa1_1 : ((w.alloc (.cells #[.int .i64 x1, .int .i64 x2, .int .i64 x3, .int .i64 x4] 48)).alloc (.cells #[.int .i64 x1, .int .i64 x2, .int .i64 x3, .int .i64 x4] 48)).frozen? ⟨w.heap.size, 1, none⟩ = false := (b2.2 1 _ rfl).2
  have ca1_2 : ((w.alloc (.cells #[.int .i64 x1, .int .i64 x2, .int .i64 x3, .int .i64 x4] 48)).alloc (.cells #[.int .i64 x1, .int .i64 x2, .int .i64 x3, .int .i64 x4] 48)).cell? ⟨w.heap.size, 2, none⟩ = some (.int .i64 x3) := (b2.2 2 _ rfl).1
  have fa1_2 : ((w.alloc (.cells #[.int .i64 x1, .int .i64 x2, .int .i64 x3, .int .i64 x4] 48)).alloc (.cells #[.int .i64 x1, .int .i64 x2, .int .i64 x3, .int .i64 x4] 48)).frozen? ⟨w.heap.size, 2, none⟩ = false := (b2.2 2 _ rfl).2
  have ca1_3 : ((w.alloc (.cells #[.int .i64 x1, .int .i64 x2, .int .i64 x3, .int .i64 x4] 48)).alloc (.cells #[.int .i64 x1, .int .i64 x2, .int .i64 x3, .int .i64 x4] 48)).cell? ⟨w.heap.size, 3, none⟩ = some (.int .i64 x4) := (b2.2 3 _ rfl).1
  have fa1_3 : ((w.alloc (.cells #[.int .i64 x1, .int .i64 x2, .int .i64 x3, .int .i64 x4] 48)).alloc (.cells #[.int .i64 x1, .int .i64 x2, .int .i64 x3, .int .i64 x4] 48)).frozen? ⟨w.heap.size, 3, none⟩ = false := (b2.2 3 _ rfl).2
  have ca2_0 : ((w.alloc (.cells #[.int .i64 x1, .int .i64 x2, .int .i64 x3, .int .i64 x4] 48)).alloc (.cells #[.int .i64 x1, .int .i64 x2, .int .i64 x3, .int .i64 x4] 48)).cell? ⟨w.heap.size + 1, 0, none⟩ = some (.int .i64 x1) := (b3.2 0 _ rfl).1
  have fa2_0 : ((w.alloc (.cells #[.int .i64 x1, .int .i64 x2, .int .i64 x3, .int .i64 x4] 48)).alloc (.cells #[.int .i64 x1, .int .i64 x2, .int .i64 x3, .int .i64 x4] 48)).frozen? ⟨w.heap.size + 1, 0, none⟩ = false := (b3.2 0 _ rfl).2
  have ca2_1 : ((w.alloc (.cells #[.int .i64 x1, .int .i64 x2, .int .i64 x3, .int .i64 x4] 48)).alloc (.cells #[.int .i64 x1, .int .i64 x2, .int .i64 x3, .int .i64 x4] 48)).cell? ⟨w.heap.size + 1, 1, none⟩ = some (.int .i64 x2) := (b3.2 1 _ rfl).1
  have fa2_1 : ((w.alloc (.cells #[.int .i64 x1, .int .i64 x2, .int .i64 x3, .int .i64 x4] 48)).alloc (.cells #[.int .i64 x1, .int .i64 x2, .int .i64 x3, .int .i64 x4] 48)).frozen? ⟨w.heap.size + 1, 1, none⟩ = false := (b3.2 1 _ rfl).2
  have ca2_2 : ((w.alloc (.cells #[.int .i64 x1, .int .i64 x2, .int .i64 x3, .int .i64 x4] 48)).alloc (.cells #[.int .i64 x1, .int .i64 x2, .int .i64 x3, .int .i64 x4] 48)).cell? ⟨w.heap.size + 1, 2, none⟩ = some (.int .i64 x3) := (b3.2 2 _ rfl).1
  have fa2_2 : ((w.alloc (.cells #[.int .i64 x1, .int .i64 x2, .int .i64 x3, .int .i64 x4] 48)).alloc (.cells #[.int .i64 x1, .int .i64 x2, .int .i64 x3, .int .i64 x4] 48)).frozen? ⟨w.heap.size + 1, 2, none⟩ = false := (b3.2 2 _ rfl).2
  have ca2_3 : ((w.alloc (.cells #[.int .i64 x1, .int .i64 x2, .int .i64 x3, .int .i64 x4] 48)).alloc (.cells #[.int .i64 x1, .int .i64 x2, .int .i64 x3, .int .i64 x4] 48)).cell? ⟨w.heap.size + 1, 3, none⟩ = some (.int .i64 x4) := (b3.2 3 _ rfl).1
  have fa2_3 : ((w.alloc (.cells #[.int .i64 x1, .int .i64 x2, .int .i64 x3, .int .i64 x4] 48)).alloc (.cells #[.int .i64 x1, .int .i64 x2, .int .i64 x3, .int .i64 x4] 48)).frozen? ⟨w.heap.size + 1, 3, none⟩ = false := (b3.2 3 _ rfl).2
  go_wp2_with fail
  clear ca1_0 fa1_0 ca1_1 fa1_1 ca1_2 fa1_2 ca1_3 fa1_3 ca2_0 fa2_0 ca2_1 fa2_1 ca2_2 fa2_2 ca2_3 fa2_3
  refine (eqFrac_true).mono ?_
  rintro e w3 ⟨rfl, k3⟩
  replace b2 := b2.keeps k3
  replace b3 := b3.keeps k3
  replace kw := Keeps.trans kw k3
  have lt4 := b3.lt
  have sz5 := kw.size
  clear k3
  have ca6_0 : w3.cell? ⟨w.heap.size, 0, none⟩ = some (.int .i64 x1) := (b2.2 0 _ rfl).1
  have fa6_0 : w3.frozen? ⟨w.heap.size, 0, none⟩ = false := (b2.2 0 _ rfl).2
  have ca6_1 : w3.cell? ⟨w.heap.size, 1, none⟩ = some (.int .i64 x2) := (b2.2 1 _ rfl).1
  have fa6_1 : w3.frozen? ⟨w.heap.size, 1, none⟩ = false := (b2.2 1 _ rfl).2
  have ca6_2 : w3.cell? ⟨w.heap.size, 2, none⟩ = some (.int .i64 x3) := (b2.2 2 _ rfl).1
  have fa6_2 : w3.frozen? ⟨w.heap.size, 2, none⟩ = false := (b2.2 2 _ rfl).2
  have ca6_3 : w3.cell? ⟨w.heap.size, 3, none⟩ = some (.int .i64 x4) := (b2.2 3 _ rfl).1
  have fa6_3 : w3.frozen? ⟨w.heap.size, 3, none⟩ = false := (b2.2 3 _ rfl).2
  have ca7_0 : w3.cell? ⟨w.heap.size + 1, 0, none⟩ = some (.int .i64 x1) := (b3.2 0 _ rfl).1
  have fa7_0 : w3.frozen? ⟨w.heap.size + 1, 0, none⟩ = false := (b3.2 0 _ rfl).2
  have ca7_1 : w3.cell? ⟨w.heap.size + 1, 1, none⟩ = some (.int .i64 x2) := (b3.2 1 _ rfl).1
  have fa7_1 : w3.frozen? ⟨w.heap.size + 1, 1, none⟩ = false := (b3.2 1 _ rfl).2
  have ca7_2 : w3.cell? ⟨w.heap.size + 1, 2, none⟩ = some (.int .i64 x3) := (b3.2 2 _ rfl).1
  have fa7_2 : w3.frozen? ⟨w.heap.size + 1, 2, none⟩ = false := (b3.2 2 _ rfl).2
  have ca7_3 : w3.cell? ⟨w.heap.size + 1, 3, none⟩ = some (.int .i64 x4) := (b3.2 3 _ rfl).1
  have fa7_3 : w3.frozen? ⟨w.heap.size + 1, 3, none⟩ = false := (b3.2 3 _ rfl).2
  go_wp2_with fail
  clear ca6_0 fa6_0 ca6_1 fa6_1 ca6_2 fa6_2 ca6_3 fa6_3 ca7_0 fa7_0 ca7_1 fa7_1 ca7_2 fa7_2 ca7_3 fa7_3
  refine (eqFrac_true).mono ?_
  rintro e w8 ⟨rfl, k8⟩
  replace b2 := b2.keeps k8
  replace b3 := b3.keeps k8
  replace kw := Keeps.trans kw k8
  have lt9 := b3.lt
  have sz10 := kw.size
  clear k8
  have ca11_0 : w8.cell? ⟨w.heap.size, 0, none⟩ = some (.int .i64 x1) := (b2.2 0 _ rfl).1
  have fa11_0 : w8.frozen? ⟨w.heap.size, 0, none⟩ = false := (b2.2 0 _ rfl).2
  have ca11_1 : w8.cell? ⟨w.heap.size, 1, none⟩ = some (.int .i64 x2) := (b2.2 1 _ rfl).1
  have fa11_1 : w8.frozen? ⟨w.heap.size, 1, none⟩ = false := (b2.2 1 _ rfl).2
  have ca11_2 : w8.cell? ⟨w.heap.size, 2, none⟩ = some (.int .i64 x3) := (b2.2 2 _ rfl).1
  have fa11_2 : w8.frozen? ⟨w.heap.size, 2, none⟩ = false := (b2.2 2 _ rfl).2
  have ca11_3 : w8.cell? ⟨w.heap.size, 3, none⟩ = some (.int .i64 x4) := (b2.2 3 _ rfl).1
  have fa11_3 : w8.frozen? ⟨w.heap.size, 3, none⟩ = false := (b2.2 3 _ rfl).2
  have ca12_0 : w8.cell? ⟨w.heap.size + 1, 0, none⟩ = some (.int .i64 x1) := (b3.2 0 _ rfl).1
  have fa12_0 : w8.frozen? ⟨w.heap.size + 1, 0, none⟩ = false := (b3.2 0 _ rfl).2
  have ca12_1 : w8.cell? ⟨w.heap.size + 1, 1, none⟩ = some (.int .i64 x2) := (b3.2 1 _ rfl).1
  have fa12_1 : w8.frozen? ⟨w.heap.size + 1, 1, none⟩ = false := (b3.2 1 _ rfl).2
  have ca12_2 : w8.cell? ⟨w.heap.size + 1, 2, none⟩ = some (.int .i64 x3) := (b3.2 2 _ rfl).1
  have fa12_2 : w8.frozen? ⟨w.heap.size + 1, 2, none⟩ = false := (b3.2 2 _ rfl).2
  have ca12_3 : w8.cell? ⟨w.heap.size + 1, 3, none⟩ = some (.int .i64 x4) := (b3.2 3 _ rfl).1
  have fa12_3 : w8.frozen? ⟨w.heap.size + 1, 3, none⟩ = false := (b3.2 3 _ rfl).2
  go_wp2_with fail
  clear ca11_0 fa11_0 ca11_1 fa11_1 ca11_2 fa11_2 ca11_3 fa11_3 ca12_0 fa12_0 ca12_1 fa12_1 ca12_2 fa12_2 ca12_3 fa12_3
  go_ret
  exact ⟨rfl, kw⟩
set_option maxRecDepth 100000 in
set_option maxHeartbeats 1600000 in
theorem szRelease_any {P : Option Addr} {n c : Nat} {v x1 x2 x3 x4 : Int} {l : List TT} {w : World} {left : Int} (h : TabsArg w P n l) (h0 : 0 ≤ left) (h1 : left ≤ 1048576) :
    Calls Tryz.prog 28 #[.agg #[.int .i64 v, .slice P n c, .int .i64 x1, .int .i64 x2, .int .i64 x3, .int .i64 x4], .int .i64 left] w fun e w' => e = .returned (.int .i64 (szQ left (n + tsz l n))) ∧ Keeps w w' := by
  by_cases hs : ((n + tsz l n : Nat) : Int) ≤ left
  · have HE := hid (szQ_ok (left := left) (s := n + tsz l n) hs)
    obtain ⟨S, hS⟩ : ∃ S, left - ((n + tsz l n : Nat) : Int) = S := ⟨_, rfl⟩
    rw [hS] at HE
    have hS0 : ¬ S < 0 := by omega
    clear hS hs
    go_enter Tryz.func28, Tryz.ntmps28
    have kw := keeps_refl w
    replace kw := Keeps.trans kw (keeps_alloc w (.cells #[.int .i64 v, .slice P n c, .int .i64 x1, .int .i64 x2, .int .i64 x3, .int .i64 x4] 76))
    have b2 : Bl (w.alloc (.cells #[.int .i64 v, .slice P n c, .int .i64 x1, .int .i64 x2, .int .i64 x3, .int .i64 x4] 76)) w.heap.size [.int .i64 v, .slice P n c, .int .i64 x1, .int .i64 x2, .int .i64 x3, .int .i64 x4] := Bl.new' (by simp) (by simp)
    have ca1_0 : (w.alloc (.cells #[.int .i64 v, .slice P n c, .int .i64 x1, .int .i64 x2, .int .i64 x3, .int .i64 x4] 76)).cell? ⟨w.heap.size, 0, none⟩ = some (.int .i64 v) := (b2.2 0 _ rfl).1
    have fa1_0 : (w.alloc (.cells #[.int .i64 v, .slice P n c, .int .i64 x1, .int .i64 x2, .int .i64 x3, .int .i64 x4] 76)).frozen? ⟨w.heap.size, 0, none⟩ = false := (b2.2 0 _ rfl).2
    have ca1_1 : (w.alloc (.cells #[.int .i64 v, .slice P n c, .int .i64 x1, .int .i64 x2, .int .i64 x3, .int .i64 x4] 76)).cell? ⟨w.heap.size, 1, none⟩ = some (.slice P n c) := (b2.2 1 _ rfl).1
    have fa1_1 : (w.alloc (.cells #[.int .i64 v, .slice P n c, .int .i64 x1, .int .i64 x2, .int .i64 x3, .int .i64 x4] 76)).frozen? ⟨w.heap.size, 1, none⟩ = false := (b2.2 1 _ rfl).2
    have ca1_2 : (w.alloc (.cells #[.int .i64 v, .slice P n c, .int .i64 x1, .int .i64 x2, .int .i64 x3, .int .i64 x4] 76)).cell? ⟨w.heap.size, 2, none⟩ = some (.int .i64 x1) := (b2.2 2 _ rfl).1
    have fa1_2 : (w.alloc (.cells #[.int .i64 v, .slice P n c, .int .i64 x1, .int .i64 x2, .int .i64 x3, .int .i64 x4] 76)).frozen? ⟨w.heap.size, 2, none⟩ = false := (b2.2 2 _ rfl).2
    have ca1_3 : (w.alloc (.cells #[.int .i64 v, .slice P n c, .int .i64 x1, .int .i64 x2, .int .i64 x3, .int .i64 x4] 76)).cell? ⟨w.heap.size, 3, none⟩ = some (.int .i64 x2) := (b2.2 3 _ rfl).1
    have fa1_3 : (w.alloc (.cells #[.int .i64 v, .slice P n c, .int .i64 x1, .int .i64 x2, .int .i64 x3, .int .i64 x4] 76)).frozen? ⟨w.heap.size, 3, none⟩ = false := (b2.2 3 _ rfl).2
    have ca1_4 : (w.alloc (.cells #[.int .i64 v, .slice P n c, .int .i64 x1, .int .i64 x2, .int .i64 x3, .int .i64 x4] 76)).cell? ⟨w.heap.size, 4, none⟩ = some (.int .i64 x3) := (b2.2 4 _ rfl).1
    have fa1_4 : (w.alloc (.cells #[.int .i64 v, .slice P n c, .int .i64 x1, .int .i64 x2, .int .i64 x3, .int .i64 x4] 76)).frozen? ⟨w.heap.size, 4, none⟩ = false := (b2.2 4 _ rfl).2
    have ca1_5 : (w.alloc (.cells #[.int .i64 v, .slice P n c, .int .i64 x1, .int .i64 x2, .int .i64 x3, .int .i64 x4] 76)).cell? ⟨w.heap.size, 5, none⟩ = some (.int .i64 x4) := (b2.2 5 _ rfl).1
    have fa1_5 : (w.alloc (.cells #[.int .i64 v, .slice P n c, .int .i64 x1, .int .i64 x2, .int .i64 x3, .int .i64 x4] 76)).frozen? ⟨w.heap.size, 5, none⟩ = false := (b2.2 5 _ rfl).2
    go_wp2_with fail
    clear ca1_0 fa1_0 ca1_1 fa1_1 ca1_2 fa1_2 ca1_3 fa1_3 ca1_4 fa1_4 ca1_5 fa1_5
    refine (szTableS_any (h.keeps kw) h0 h1).mono ?_
    rintro e w2 ⟨rfl, k2⟩
    rw [HE.out]
    replace b2 := b2.keeps k2
    replace kw := Keeps.trans kw k2
    have lt3 := b2.lt
    have sz4 := kw.size
    clear k2
    go_wp2_with fail
    go_ret
    exact ⟨ret_int HE.out.symm, kw⟩
  · have HE := hid (szQ_no (left := left) (s := n + tsz l n) hs)
    go_enter Tryz.func28, Tryz.ntmps28
    have kw := keeps_refl w
    replace kw := Keeps.trans kw (keeps_alloc w (.cells #[.int .i64 v, .slice P n c, .int .i64 x1, .int .i64 x2, .int .i64 x3, .int .i64 x4] 76))
    have b2 : Bl (w.alloc (.cells #[.int .i64 v, .slice P n c, .int .i64 x1, .int .i64 x2, .int .i64 x3, .int .i64 x4] 76)) w.heap.size [.int .i64 v, .slice P n c, .int .i64 x1, .int .i64 x2, .int .i64 x3, .int .i64 x4] := Bl.new' (by simp) (by simp)
    have ca1_0 : (w.alloc (.cells #[.int .i64 v, .slice P n c, .int .i64 x1, .int .i64 x2, .int .i64 x3, .int .i64 x4] 76)).cell? ⟨w.heap.size, 0, none⟩ = some (.int .i64 v) := (b2.2 0 _ rfl).1
    have fa1_0 : (w.alloc (.cells #[.int .i64 v, .slice P n c, .int .i64 x1, .int .i64 x2, .int .i64 x3, .int .i64 x4] 76)).frozen? ⟨w.heap.size, 0, none⟩ = false := (b2.2 0 _ rfl).2
    have ca1_1 : (w.alloc (.cells #[.int .i64 v, .slice P n c, .int .i64 x1, .int .i64 x2, .int .i64 x3, .int .i64 x4] 76)).cell? ⟨w.heap.size, 1, none⟩ = some (.slice P n c) := (b2.2 1 _ rfl).1
    have fa1_1 : (w.alloc (.cells #[.int .i64 v, .slice P n c, .int .i64 x1, .int .i64 x2, .int .i64 x3, .int .i64 x4] 76)).frozen? ⟨w.heap.size, 1, none⟩ = false := (b2.2 1 _ rfl).2
    have ca1_2 : (w.alloc (.cells #[.int .i64 v, .slice P n c, .int .i64 x1, .int .i64 x2, .int .i64 x3, .int .i64 x4] 76)).cell? ⟨w.heap.size, 2, none⟩ = some (.int .i64 x1) := (b2.2 2 _ rfl).1
    have fa1_2 : (w.alloc (.cells #[.int .i64 v, .slice P n c, .int .i64 x1, .int .i64 x2, .int .i64 x3, .int .i64 x4] 76)).frozen? ⟨w.heap.size, 2, none⟩ = false := (b2.2 2 _ rfl).2
    have ca1_3 : (w.alloc (.cells #[.int .i64 v, .slice P n c, .int .i64 x1, .int .i64 x2, .int .i64 x3, .int .i64 x4] 76)).cell? ⟨w.heap.size, 3, none⟩ = some (.int .i64 x2) := (b2.2 3 _ rfl).1
    have fa1_3 : (w.alloc (.cells #[.int .i64 v, .slice P n c, .int .i64 x1, .int .i64 x2, .int .i64 x3, .int .i64 x4] 76)).frozen? ⟨w.heap.size, 3, none⟩ = false := (b2.2 3 _ rfl).2
    have ca1_4 : (w.alloc (.cells #[.int .i64 v, .slice P n c, .int .i64 x1, .int .i64 x2, .int .i64 x3, .int .i64 x4] 76)).cell? ⟨w.heap.size, 4, none⟩ = some (.int .i64 x3) := (b2.2 4 _ rfl).1
    have fa1_4 : (w.alloc (.cells #[.int .i64 v, .slice P n c, .int .i64 x1, .int .i64 x2, .int .i64 x3, .int .i64 x4] 76)).frozen? ⟨w.heap.size, 4, none⟩ = false := (b2.2 4 _ rfl).2
    have ca1_5 : (w.alloc (.cells #[.int .i64 v, .slice P n c, .int .i64 x1, .int .i64 x2, .int .i64 x3, .int .i64 x4] 76)).cell? ⟨w.heap.size, 5, none⟩ = some (.int .i64 x4) := (b2.2 5 _ rfl).1
    have fa1_5 : (w.alloc (.cells #[.int .i64 v, .slice P n c, .int .i64 x1, .int .i64 x2, .int .i64 x3, .int .i64 x4] 76)).frozen? ⟨w.heap.size, 5, none⟩ = false := (b2.2 5 _ rfl).2
    go_wp2_with fail
    clear ca1_0 fa1_0 ca1_1 fa1_1 ca1_2 fa1_2 ca1_3 fa1_3 ca1_4 fa1_4 ca1_5 fa1_5
    refine (szTableS_any (h.keeps kw) h0 h1).mono ?_
    rintro e w2 ⟨rfl, k2⟩
    rw [HE.out]
    replace b2 := b2.keeps k2
    replace kw := Keeps.trans kw k2
    have lt3 := b2.lt
    have sz4 := kw.size
    clear k2
    go_wp2_with fail
    go_ret
    exact ⟨ret_int HE.out.symm, kw⟩
/-- A release of one's own. -/
def RelRes (w : World) (v : Int) (n : Nat) (l : List TT) (x1 x2 x3 x4 : Int) (e : Ending) (w' : World) : Prop :=
  ∃ P', e = .returned (.agg #[.int .i64 v, .slice P' n n, .int .i64 x1, .int .i64 x2, .int .i64 x3, .int .i64 x4]) ∧ Tabs true true w' w.heap.size w'.heap.size P' n l ∧ Keeps w w'
set_option maxRecDepth 100000 in
set_option maxHeartbeats 3200000 in
theorem toRelease_any {P : Option Addr} {n c : Nat} {v x1 x2 x3 x4 : Int} {l : List TT} {w : World} {lo hi : Nat} {un : Bool} (h : Tabs true un w lo hi P n l) :
    Calls Tryz.prog 35 #[.agg #[.int .i64 v, .slice P n c, .int .i64 x1, .int .i64 x2, .int .i64 x3, .int .i64 x4]] w (RelRes w v n l x1 x2 x3 x4) := by
  go_enter Tryz.func35, Tryz.ntmps35
  have kw := keeps_refl w
  replace kw := Keeps.trans kw (keeps_alloc w (.cells #[.int .i64 v, .slice P n c, .int .i64 x1, .int .i64 x2, .int .i64 x3, .int .i64 x4] 76))
  have b1 : Bl (w.alloc (.cells #[.int .i64 v, .slice P n c, .int .i64 x1, .int .i64 x2, .int .i64 x3, .int .i64 x4] 76)) w.heap.size [.int .i64 v, .slice P n c, .int .i64 x1, .int .i64 x2, .int .i64 x3, .int .i64 x4] := Bl.new' (by simp) (by simp)
  replace b1 := b1.keeps (keeps_alloc (w.alloc (.cells #[.int .i64 v, .slice P n c, .int .i64 x1, .int .i64 x2, .int .i64 x3, .int .i64 x4] 76)) (.cells #[.int .i64 0, .slice none 0 0, .int .i64 0, .int .i64 0, .int .i64 0, .int .i64 0] 50))
  replace kw := Keeps.trans kw (keeps_alloc (w.alloc (.cells #[.int .i64 v, .slice P n c, .int .i64 x1, .int .i64 x2, .int .i64 x3, .int .i64 x4] 76)) (.cells #[.int .i64 0, .slice none 0 0, .int .i64 0, .int .i64 0, .int .i64 0, .int .i64 0] 50))
  have b2 : Bl ((w.alloc (.cells #[.int .i64 v, .slice P n c, .int .i64 x1, .int .i64 x2, .int .i64 x3, .int .i64 x4] 76)).alloc (.cells #[.int .i64 0, .slice none 0 0, .int .i64 0, .int .i64 0, .int .i64 0, .int .i64 0] 50)) (w.heap.size + 1) [.int .i64 0, .slice none 0 0, .int .i64 0, .int .i64 0, .int .i64 0, .int .i64 0] := Bl.new' (by simp) (by simp)
  replace b1 := b1.keeps (keeps_alloc ((w.alloc (.cells #[.int .i64 v, .slice P n c, .int .i64 x1, .int .i64 x2, .int .i64 x3, .int .i64 x4] 76)).alloc (.cells #[.int .i64 0, .slice none 0 0, .int .i64 0, .int .i64 0, .int .i64 0, .int .i64 0] 50)) (.cells #[.int .i64 v, .slice none 0 0, .int .i64 0, .int .i64 0, .int .i64 0, .int .i64 0] 50))
  replace b2 := b2.keeps (keeps_alloc ((w.alloc (.cells #[.int .i64 v, .slice P n c, .int .i64 x1, .int .i64 x2, .int .i64 x3, .int .i64 x4] 76)).alloc (.cells #[.int .i64 0, .slice none 0 0, .int .i64 0, .int .i64 0, .int .i64 0, .int .i64 0] 50)) (.cells #[.int .i64 v, .slice none 0 0, .int .i64 0, .int .i64 0, .int .i64 0, .int .i64 0] 50))
  replace kw := Keeps.trans kw (keeps_alloc ((w.alloc (.cells #[.int .i64 v, .slice P n c, .int .i64 x1, .int .i64 x2, .int .i64 x3, .int .i64 x4] 76)).alloc (.cells #[.int .i64 0, .slice none 0 0, .int .i64 0, .int .i64 0, .int .i64 0, .int .i64 0] 50)) (.cells #[.int .i64 v, .slice none 0 0, .int .i64 0, .int .i64 0, .int .i64 0, .int .i64 0] 50))
  have b3 : Bl (((w.alloc (.cells #[.int .i64 v, .slice P n c, .int .i64 x1, .int .i64 x2, .int .i64 x3, .int .i64 x4] 76)).alloc (.cells #[.int .i64 0, .slice none 0 0, .int .i64 0, .int .i64 0, .int .i64 0, .int .i64 0] 50)).alloc (.cells #[.int .i64 v, .slice none 0 0, .int .i64 0, .int .i64 0, .int .i64 0, .int .i64 0] 50)) (w.heap.size + 1 + 1) [.int .i64 v, .slice none 0 0, .int .i64 0, .int .i64 0, .int .i64 0, .int .i64 0] := Bl.new' (by simp) (by simp)
  have ca1_0 : (((w.alloc (.cells #[.int .i64 v, .slice P n c, .int .i64 x1, .int .i64 x2, .int .i64 x3, .int .i64 x4] 76)).alloc (.cells #[.int .i64 0, .slice none 0 0, .int .i64 0, .int .i64 0, .int .i64 0, .int .i64 0] 50)).alloc (.cells #[.int .i64 v, .slice none 0 0, .int .i64 0, .int .i64 0, .int .i64 0, .int .i64 0] 50)).cell? ⟨w.heap.size, 0, none⟩ = some (.int .i64 v) := (b1.2 0 _ rfl).1
  have fa1_0 : (((w.alloc (.cells #[.int .i64 v, .slice P n c, .int .i64 x1, .int .i64 x2, .int .i64 x3, .int .i64 x4] 76)).alloc (.cells #[.int .i64 0, .slice none 0 0, .int .i64 0, .int .i64 0, .int .i64 0, .int .i64 0] 50)).alloc (.cells #[.int .i64 v, .slice none 0 0, .int .i64 0, .int .i64 0, .int .i64 0, .int .i64 0] 50)).frozen? ⟨w.heap.size, 0, none⟩ = false := (b1.2 0 _ rfl).2
  have ca1_1 : (((w.alloc (.cells #[.int .i64 v, .slice P n c, .int .i64 x1, .int .i64 x2, .int .i64 x3, .int .i64 x4] 76)).alloc (.cells #[.int .i64 0, .slice none 0 0, .int .i64 0, .int .i64 0, .int .i64 0, .int .i64 0] 50)).alloc (.cells #[.int .i64 v, .slice none 0 0, .int .i64 0, .int .i64 0, .int .i64 0, .int .i64 0] 50)).cell? ⟨w.heap.size, 1, none⟩ = some (.slice P n c) := (b1.2 1 _ rfl).1
  have fa1_1 : (((w.alloc (.cells #[.int .i64 v, .slice P n c, .int .i64 x1, .int .i64 x2, .int .i64 x3, .int .i64 x4] 76)).alloc (.cells #[.int .i64 0, .slice none 0 0, .int .i64 0, .int .i64 0, .int .i64 0, .int .i64 0] 50)).alloc (.cells #[.int .i64 v, .slice none 0 0, .int .i64 0, .int .i64 0, .int .i64 0, .int .i64 0] 50)).frozen? ⟨w.heap.size, 1, none⟩ = false := (b1.2 1 _ rfl).2
  have ca1_2 : (((w.alloc (.cells #[.int .i64 v, .slice P n c, .int .i64 x1, .int .i64 x2, .int .i64 x3, .int .i64 x4] 76)).alloc (.cells #[.int .i64 0, .slice none 0 0, .int .i64 0, .int .i64 0, .int .i64 0, .int .i64 0] 50)).alloc (.cells #[.int .i64 v, .slice none 0 0, .int .i64 0, .int .i64 0, .int .i64 0, .int .i64 0] 50)).cell? ⟨w.heap.size, 2, none⟩ = some (.int .i64 x1) := (b1.2 2 _ rfl).1
  have fa1_2 : (((w.alloc (.cells #[.int .i64 v, .slice P n c, .int .i64 x1, .int .i64 x2, .int .i64 x3, .int .i64 x4] 76)).alloc (.cells #[.int .i64 0, .slice none 0 0, .int .i64 0, .int .i64 0, .int .i64 0, .int .i64 0] 50)).alloc (.cells #[.int .i64 v, .slice none 0 0, .int .i64 0, .int .i64 0, .int .i64 0, .int .i64 0] 50)).frozen? ⟨w.heap.size, 2, none⟩ = false := (b1.2 2 _ rfl).2
  have ca1_3 : (((w.alloc (.cells #[.int .i64 v, .slice P n c, .int .i64 x1, .int .i64 x2, .int .i64 x3, .int .i64 x4] 76)).alloc (.cells #[.int .i64 0, .slice none 0 0, .int .i64 0, .int .i64 0, .int .i64 0, .int .i64 0] 50)).alloc (.cells #[.int .i64 v, .slice none 0 0, .int .i64 0, .int .i64 0, .int .i64 0, .int .i64 0] 50)).cell? ⟨w.heap.size, 3, none⟩ = some (.int .i64 x2) := (b1.2 3 _ rfl).1
  have fa1_3 : (((w.alloc (.cells #[.int .i64 v, .slice P n c, .int .i64 x1, .int .i64 x2, .int .i64 x3, .int .i64 x4] 76)).alloc (.cells #[.int .i64 0, .slice none 0 0, .int .i64 0, .int .i64 0, .int .i64 0, .int .i64 0] 50)).alloc (.cells #[.int .i64 v, .slice none 0 0, .int .i64 0, .int .i64 0, .int .i64 0, .int .i64 0] 50)).frozen? ⟨w.heap.size, 3, none⟩ = false := (b1.2 3 _ rfl).2
  have ca1_4 : (((w.alloc (.cells #[.int .i64 v, .slice P n c, .int .i64 x1, .int .i64 x2, .int .i64 x3, .int .i64 x4] 76)).alloc (.cells #[.int .i64 0, .slice none 0 0, .int .i64 0, .int .i64 0, .int .i64 0, .int .i64 0] 50)).alloc (.cells #[.int .i64 v, .slice none 0 0, .int .i64 0, .int .i64 0, .int .i64 0, .int .i64 0] 50)).cell? ⟨w.heap.size, 4, none⟩ = some (.int .i64 x3) := (b1.2 4 _ rfl).1
  have fa1_4 : (((w.alloc (.cells #[.int .i64 v, .slice P n c, .int .i64 x1, .int .i64 x2, .int .i64 x3, .int .i64 x4] 76)).alloc (.cells #[.int .i64 0, .slice none 0 0, .int .i64 0, .int .i64 0, .int .i64 0, .int .i64 0] 50)).alloc (.cells #[.int .i64 v, .slice none 0 0, .int .i64 0, .int .i64 0, .int .i64 0, .int .i64 0] 50)).frozen? ⟨w.heap.size, 4, none⟩ = false := (b1.2 4 _ rfl).2
  have ca1_5 : (((w.alloc (.cells #[.int .i64 v, .slice P n c, .int .i64 x1, .int .i64 x2, .int .i64 x3, .int .i64 x4] 76)).alloc (.cells #[.int .i64 0, .slice none 0 0, .int .i64 0, .int .i64 0, .int .i64 0, .int .i64 0] 50)).alloc (.cells #[.int .i64 v, .slice none 0 0, .int .i64 0, .int .i64 0, .int .i64 0, .int .i64 0] 50)).cell? ⟨w.heap.size, 5, none⟩ = some (.int .i64 x4) := (b1.2 5 _ rfl).1
  have fa1_5 : (((w.alloc (.cells #[.int .i64 v, .slice P n c, .int .i64 x1, .int .i64 x2, .int .i64 x3, .int .i64 x4] 76)).alloc (.cells #[.int .i64 0, .slice none 0 0, .int .i64 0, .int .i64 0, .int .i64 0, .int .i64 0] 50)).alloc (.cells #[.int .i64 v, .slice none 0 0, .int .i64 0, .int .i64 0, .int .i64 0, .int .i64 0] 50)).frozen? ⟨w.heap.size, 5, none⟩ = false := (b1.2 5 _ rfl).2
  have ca2_0 : (((w.alloc (.cells #[.int .i64 v, .slice P n c, .int .i64 x1, .int .i64 x2, .int .i64 x3, .int .i64 x4] 76)).alloc (.cells #[.int .i64 0, .slice none 0 0, .int .i64 0, .int .i64 0, .int .i64 0, .int .i64 0] 50)).alloc (.cells #[.int .i64 v, .slice none 0 0, .int .i64 0, .int .i64 0, .int .i64 0, .int .i64 0] 50)).cell? ⟨w.heap.size + 1 + 1, 0, none⟩ = some (.int .i64 v) := (b3.2 0 _ rfl).1
  have fa2_0 : (((w.alloc (.cells #[.int .i64 v, .slice P n c, .int .i64 x1, .int .i64 x2, .int .i64 x3, .int .i64 x4] 76)).alloc (.cells #[.int .i64 0, .slice none 0 0, .int .i64 0, .int .i64 0, .int .i64 0, .int .i64 0] 50)).alloc (.cells #[.int .i64 v, .slice none 0 0, .int .i64 0, .int .i64 0, .int .i64 0, .int .i64 0] 50)).frozen? ⟨w.heap.size + 1 + 1, 0, none⟩ = false := (b3.2 0 _ rfl).2
  have ca2_1 : (((w.alloc (.cells #[.int .i64 v, .slice P n c, .int .i64 x1, .int .i64 x2, .int .i64 x3, .int .i64 x4] 76)).alloc (.cells #[.int .i64 0, .slice none 0 0, .int .i64 0, .int .i64 0, .int .i64 0, .int .i64 0] 50)).alloc (.cells #[.int .i64 v, .slice none 0 0, .int .i64 0, .int .i64 0, .int .i64 0, .int .i64 0] 50)).cell? ⟨w.heap.size + 1 + 1, 1, none⟩ = some (.slice none 0 0) := (b3.2 1 _ rfl).1
  have fa2_1 : (((w.alloc (.cells #[.int .i64 v, .slice P n c, .int .i64 x1, .int .i64 x2, .int .i64 x3, .int .i64 x4] 76)).alloc (.cells #[.int .i64 0, .slice none 0 0, .int .i64 0, .int .i64 0, .int .i64 0, .int .i64 0] 50)).alloc (.cells #[.int .i64 v, .slice none 0 0, .int .i64 0, .int .i64 0, .int .i64 0, .int .i64 0] 50)).frozen? ⟨w.heap.size + 1 + 1, 1, none⟩ = false := (b3.2 1 _ rfl).2
  have ca2_2 : (((w.alloc (.cells #[.int .i64 v, .slice P n c, .int .i64 x1, .int .i64 x2, .int .i64 x3, .int .i64 x4] 76)).alloc (.cells #[.int .i64 0, .slice none 0 0, .int .i64 0, .int .i64 0, .int .i64 0, .int .i64 0] 50)).alloc (.cells #[.int .i64 v, .slice none 0 0, .int .i64 0, .int .i64 0, .int .i64 0, .int .i64 0] 50)).cell? ⟨w.heap.size + 1 + 1, 2, none⟩ = some (.int .i64 0) := (b3.2 2 _ rfl).1
  have fa2_2 : (((w.alloc (.cells #[.int .i64 v, .slice P n c, .int .i64 x1, .int .i64 x2, .int .i64 x3, .int .i64 x4] 76)).alloc (.cells #[.int .i64 0, .slice none 0 0, .int .i64 0, .int .i64 0, .int .i64 0, .int .i64 0] 50)).alloc (.cells #[.int .i64 v, .slice none 0 0, .int .i64 0, .int .i64 0, .int .i64 0, .int .i64 0] 50)).frozen? ⟨w.heap.size + 1 + 1, 2, none⟩ = false := (b3.2 2 _ rfl).2
  have ca2_3 : (((w.alloc (.cells #[.int .i64 v, .slice P n c, .int .i64 x1, .int .i64 x2, .int .i64 x3, .int .i64 x4] 76)).alloc (.cells #[.int .i64 0, .slice none 0 0, .int .i64 0, .int .i64 0, .int .i64 0, .int .i64 0] 50)).alloc (.cells #[.int .i64 v, .slice none 0 0, .int .i64 0, .int .i64 0, .int .i64 0, .int .i64 0] 50)).cell? ⟨w.heap.size + 1 + 1, 3, none⟩ = some (.int .i64 0) := (b3.2 3 _ rfl).1
  have fa2_3 : (((w.alloc (.cells #[.int .i64 v, .slice P n c, .int .i64 x1, .int .i64 x2, .int .i64 x3, .int .i64 x4] 76)).alloc (.cells #[.int .i64 0, .slice none 0 0, .int .i64 0, .int .i64 0, .int .i64 0, .int .i64 0] 50)).alloc (.cells #[.int .i64 v, .slice none 0 0, .int .i64 0, .int .i64 0, .int .i64 0, .int .i64 0] 50)).frozen? ⟨w.heap.size + 1 + 1, 3, none⟩ = false := (b3.2 3 _ rfl).2
  have ca2_4 : (((w.alloc (.cells #[.int .i64 v, .slice P n c, .int .i64 x1, .int .i64 x2, .int .i64 x3, .int .i64 x4] 76)).alloc (.cells #[.int .i64 0, .slice none 0 0, .int .i64 0, .int .i64 0, .int .i64 0, .int .i64 0] 50)).alloc (.cells #[.int .i64 v, .slice none 0 0, .int .i64 0, .int .i64 0, .int .i64 0, .int .i64 0] 50)).cell? ⟨w.heap.size + 1 + 1, 4, none⟩ = some (.int .i64 0) := (b3.2 4 _ rfl).1
  have fa2_4 : (((w.alloc (.cells #[.int .i64 v, .slice P n c, .int .i64 x1, .int .i64 x2, .int .i64 x3, .int .i64 x4] 76)).alloc (.cells #[.int .i64 0, .slice none 0 0, .int .i64 0, .int .i64 0, .int .i64 0, .int .i64 0] 50)).alloc (.cells #[.int .i64 v, .slice none 0 0, .int .i64 0, .int .i64 0, .int .i64 0, .int .i64 0] 50)).frozen? ⟨w.heap.size + 1 + 1, 4, none⟩ = false := (b3.2 4 _ rfl).2
  have ca2_5 : (((w.alloc (.cells #[.int .i64 v, .slice P n c, .int .i64 x1, .int .i64 x2, .int .i64 x3, .int .i64 x4] 76)).alloc (.cells #[.int .i64 0, .slice none 0 0, .int .i64 0, .int .i64 0, .int .i64 0, .int .i64 0] 50)).alloc (.cells #[.int .i64 v, .slice none 0 0, .int .i64 0, .int .i64 0, .int .i64 0, .int .i64 0] 50)).cell? ⟨w.heap.size + 1 + 1, 5, none⟩ = some (.int .i64 0) := (b3.2 5 _ rfl).1
  have fa2_5 : (((w.alloc (.cells #[.int .i64 v, .slice P n c, .int .i64 x1, .int .i64 x2, .int .i64 x3, .int .i64 x4] 76)).alloc (.cells #[.int .i64 0, .slice none 0 0, .int .i64 0, .int .i64 0, .int .i64 0, .int .i64 0] 50)).alloc (.cells #[.int .i64 v, .slice none 0 0, .int .i64 0, .int .i64 0, .int .i64 0, .int .i64 0] 50)).frozen? ⟨w.heap.size + 1 + 1, 5, none⟩ = false := (b3.2 5 _ rfl).2
  go_wp2_with fail
  clear ca1_0 fa1_0 ca1_1 fa1_1 ca1_2 fa1_2 ca1_3 fa1_3 ca1_4 fa1_4 ca1_5 fa1_5 ca2_0 fa2_0 ca2_1 fa2_1 ca2_2 fa2_2 ca2_3 fa2_3 ca2_4 fa2_4 ca2_5 fa2_5
  refine (toTableS_any (h.keeps kw)).mono ?_
  rintro e w3 ⟨P1, rfl, m1, k3⟩
  have ss4 := k3.size
  try simp [World.setCell] at ss4
  replace b1 := b1.keeps k3
  replace b2 := b2.keeps k3
  replace b3 := b3.keeps k3
  replace kw := Keeps.trans kw k3
  have lt5 := b3.lt
  have sz6 := kw.size
  clear k3
  replace m1 := m1.widen (lo' := w.heap.size + 1 + 1 + 1) (by simp) (Nat.le_refl _) (Nat.le_refl _)
  have ca7_0 : w3.cell? ⟨w.heap.size, 0, none⟩ = some (.int .i64 v) := (b1.2 0 _ rfl).1
  have fa7_0 : w3.frozen? ⟨w.heap.size, 0, none⟩ = false := (b1.2 0 _ rfl).2
  have ca7_1 : w3.cell? ⟨w.heap.size, 1, none⟩ = some (.slice P n c) := (b1.2 1 _ rfl).1
  have fa7_1 : w3.frozen? ⟨w.heap.size, 1, none⟩ = false := (b1.2 1 _ rfl).2
  have ca7_2 : w3.cell? ⟨w.heap.size, 2, none⟩ = some (.int .i64 x1) := (b1.2 2 _ rfl).1
  have fa7_2 : w3.frozen? ⟨w.heap.size, 2, none⟩ = false := (b1.2 2 _ rfl).2
  have ca7_3 : w3.cell? ⟨w.heap.size, 3, none⟩ = some (.int .i64 x2) := (b1.2 3 _ rfl).1
  have fa7_3 : w3.frozen? ⟨w.heap.size, 3, none⟩ = false := (b1.2 3 _ rfl).2
  have ca7_4 : w3.cell? ⟨w.heap.size, 4, none⟩ = some (.int .i64 x3) := (b1.2 4 _ rfl).1
  have fa7_4 : w3.frozen? ⟨w.heap.size, 4, none⟩ = false := (b1.2 4 _ rfl).2
  have ca7_5 : w3.cell? ⟨w.heap.size, 5, none⟩ = some (.int .i64 x4) := (b1.2 5 _ rfl).1
  have fa7_5 : w3.frozen? ⟨w.heap.size, 5, none⟩ = false := (b1.2 5 _ rfl).2
  have ca8_0 : w3.cell? ⟨w.heap.size + 1 + 1, 0, none⟩ = some (.int .i64 v) := (b3.2 0 _ rfl).1
  have fa8_0 : w3.frozen? ⟨w.heap.size + 1 + 1, 0, none⟩ = false := (b3.2 0 _ rfl).2
  have ca8_1 : w3.cell? ⟨w.heap.size + 1 + 1, 1, none⟩ = some (.slice none 0 0) := (b3.2 1 _ rfl).1
  have fa8_1 : w3.frozen? ⟨w.heap.size + 1 + 1, 1, none⟩ = false := (b3.2 1 _ rfl).2
  have ca8_2 : w3.cell? ⟨w.heap.size + 1 + 1, 2, none⟩ = some (.int .i64 0) := (b3.2 2 _ rfl).1
  have fa8_2 : w3.frozen? ⟨w.heap.size + 1 + 1, 2, none⟩ = false := (b3.2 2 _ rfl).2
  have ca8_3 : w3.cell? ⟨w.heap.size + 1 + 1, 3, none⟩ = some (.int .i64 0) := (b3.2 3 _ rfl).1
  have fa8_3 : w3.frozen? ⟨w.heap.size + 1 + 1, 3, none⟩ = false := (b3.2 3 _ rfl).2
  have ca8_4 : w3.cell? ⟨w.heap.size + 1 + 1, 4, none⟩ = some (.int .i64 0) := (b3.2 4 _ rfl).1
  have fa8_4 : w3.frozen? ⟨w.heap.size + 1 + 1, 4, none⟩ = false := (b3.2 4 _ rfl).2
  have ca8_5 : w3.cell? ⟨w.heap.size + 1 + 1, 5, none⟩ = some (.int .i64 0) := (b3.2 5 _ rfl).1
  have fa8_5 : w3.frozen? ⟨w.heap.size + 1 + 1, 5, none⟩ = false := (b3.2 5 _ rfl).2
  replace b1 := b1.far (p := ⟨w.heap.size + 1 + 1, 1, none⟩) (by show _ ≠ (w.heap.size + 1 + 1); omega) (.slice P1 n n)
  replace b2 := b2.far (p := ⟨w.heap.size + 1 + 1, 1, none⟩) (by show _ ≠ (w.heap.size + 1 + 1); omega) (.slice P1 n n)
  replace m1 := m1.fr (fr_one (p := (w.heap.size + 1 + 1)) (i := 1) (.slice P1 n n)) (by omega)
  replace kw := Below.setCell kw (p := ⟨w.heap.size + 1 + 1, 1, none⟩) (by show _ ≤ (w.heap.size + 1 + 1); omega) (.slice P1 n n)
  replace b3 : Bl (w3.setCell ⟨w.heap.size + 1 + 1, 1, none⟩ (.slice P1 n n)) (w.heap.size + 1 + 1) [.int .i64 v, .slice P1 n n, .int .i64 0, .int .i64 0, .int .i64 0, .int .i64 0] := b3.set 1 (.slice P1 n n)
  have ca9_0 : (w3.setCell ⟨w.heap.size + 1 + 1, 1, none⟩ (.slice P1 n n)).cell? ⟨w.heap.size, 0, none⟩ = some (.int .i64 v) := (b1.2 0 _ rfl).1
  have fa9_0 : (w3.setCell ⟨w.heap.size + 1 + 1, 1, none⟩ (.slice P1 n n)).frozen? ⟨w.heap.size, 0, none⟩ = false := (b1.2 0 _ rfl).2
  have ca9_1 : (w3.setCell ⟨w.heap.size + 1 + 1, 1, none⟩ (.slice P1 n n)).cell? ⟨w.heap.size, 1, none⟩ = some (.slice P n c) := (b1.2 1 _ rfl).1
  have fa9_1 : (w3.setCell ⟨w.heap.size + 1 + 1, 1, none⟩ (.slice P1 n n)).frozen? ⟨w.heap.size, 1, none⟩ = false := (b1.2 1 _ rfl).2
  have ca9_2 : (w3.setCell ⟨w.heap.size + 1 + 1, 1, none⟩ (.slice P1 n n)).cell? ⟨w.heap.size, 2, none⟩ = some (.int .i64 x1) := (b1.2 2 _ rfl).1
  have fa9_2 : (w3.setCell ⟨w.heap.size + 1 + 1, 1, none⟩ (.slice P1 n n)).frozen? ⟨w.heap.size, 2, none⟩ = false := (b1.2 2 _ rfl).2
  have ca9_3 : (w3.setCell ⟨w.heap.size + 1 + 1, 1, none⟩ (.slice P1 n n)).cell? ⟨w.heap.size, 3, none⟩ = some (.int .i64 x2) := (b1.2 3 _ rfl).1
  have fa9_3 : (w3.setCell ⟨w.heap.size + 1 + 1, 1, none⟩ (.slice P1 n n)).frozen? ⟨w.heap.size, 3, none⟩ = false := (b1.2 3 _ rfl).2
  have ca9_4 : (w3.setCell ⟨w.heap.size + 1 + 1, 1, none⟩ (.slice P1 n n)).cell? ⟨w.heap.size, 4, none⟩ = some (.int .i64 x3) := (b1.2 4 _ rfl).1
  have fa9_4 : (w3.setCell ⟨w.heap.size + 1 + 1, 1, none⟩ (.slice P1 n n)).frozen? ⟨w.heap.size, 4, none⟩ = false := (b1.2 4 _ rfl).2
  have ca9_5 : (w3.setCell ⟨w.heap.size + 1 + 1, 1, none⟩ (.slice P1 n n)).cell? ⟨w.heap.size, 5, none⟩ = some (.int .i64 x4) := (b1.2 5 _ rfl).1
  have fa9_5 : (w3.setCell ⟨w.heap.size + 1 + 1, 1, none⟩ (.slice P1 n n)).frozen? ⟨w.heap.size, 5, none⟩ = false := (b1.2 5 _ rfl).2
  go_wp2_with fail
  clear ca7_0 fa7_0 ca7_1 fa7_1 ca7_2 fa7_2 ca7_3 fa7_3 ca7_4 fa7_4 ca7_5 fa7_5 ca8_0 fa8_0 ca8_1 fa8_1 ca8_2 fa8_2 ca8_3 fa8_3 ca8_4 fa8_4 ca8_5 fa8_5 ca9_0 fa9_0 ca9_1 fa9_1 ca9_2 fa9_2 ca9_3 fa9_3 ca9_4 fa9_4 ca9_5 fa9_5
  refine (toLoss_any).mono ?_
  rintro e w10 ⟨rfl, k10⟩
  have ss11 := k10.size
  try simp [World.setCell] at ss11
  replace b1 := b1.keeps k10
  replace b2 := b2.keeps k10
  replace b3 := b3.keeps k10
  replace m1 := m1.keeps k10
  replace kw := Keeps.trans kw k10
  have lt12 := b3.lt
  have sz13 := kw.size
  clear k10
  have ca14_0 : w10.cell? ⟨w.heap.size, 0, none⟩ = some (.int .i64 v) := (b1.2 0 _ rfl).1
  have fa14_0 : w10.frozen? ⟨w.heap.size, 0, none⟩ = false := (b1.2 0 _ rfl).2
  have ca14_1 : w10.cell? ⟨w.heap.size, 1, none⟩ = some (.slice P n c) := (b1.2 1 _ rfl).1
  have fa14_1 : w10.frozen? ⟨w.heap.size, 1, none⟩ = false := (b1.2 1 _ rfl).2
  have ca14_2 : w10.cell? ⟨w.heap.size, 2, none⟩ = some (.int .i64 x1) := (b1.2 2 _ rfl).1
  have fa14_2 : w10.frozen? ⟨w.heap.size, 2, none⟩ = false := (b1.2 2 _ rfl).2
  have ca14_3 : w10.cell? ⟨w.heap.size, 3, none⟩ = some (.int .i64 x2) := (b1.2 3 _ rfl).1
  have fa14_3 : w10.frozen? ⟨w.heap.size, 3, none⟩ = false := (b1.2 3 _ rfl).2
  have ca14_4 : w10.cell? ⟨w.heap.size, 4, none⟩ = some (.int .i64 x3) := (b1.2 4 _ rfl).1
  have fa14_4 : w10.frozen? ⟨w.heap.size, 4, none⟩ = false := (b1.2 4 _ rfl).2
  have ca14_5 : w10.cell? ⟨w.heap.size, 5, none⟩ = some (.int .i64 x4) := (b1.2 5 _ rfl).1
  have fa14_5 : w10.frozen? ⟨w.heap.size, 5, none⟩ = false := (b1.2 5 _ rfl).2
  have ca15_0 : w10.cell? ⟨w.heap.size + 1 + 1, 0, none⟩ = some (.int .i64 v) := (b3.2 0 _ rfl).1
  have fa15_0 : w10.frozen? ⟨w.heap.size + 1 + 1, 0, none⟩ = false := (b3.2 0 _ rfl).2
  have ca15_1 : w10.cell? ⟨w.heap.size + 1 + 1, 1, none⟩ = some (.slice P1 n n) := (b3.2 1 _ rfl).1
  have fa15_1 : w10.frozen? ⟨w.heap.size + 1 + 1, 1, none⟩ = false := (b3.2 1 _ rfl).2
  have ca15_2 : w10.cell? ⟨w.heap.size + 1 + 1, 2, none⟩ = some (.int .i64 0) := (b3.2 2 _ rfl).1
  have fa15_2 : w10.frozen? ⟨w.heap.size + 1 + 1, 2, none⟩ = false := (b3.2 2 _ rfl).2
  have ca15_3 : w10.cell? ⟨w.heap.size + 1 + 1, 3, none⟩ = some (.int .i64 0) := (b3.2 3 _ rfl).1
  have fa15_3 : w10.frozen? ⟨w.heap.size + 1 + 1, 3, none⟩ = false := (b3.2 3 _ rfl).2
  have ca15_4 : w10.cell? ⟨w.heap.size + 1 + 1, 4, none⟩ = some (.int .i64 0) := (b3.2 4 _ rfl).1
  have fa15_4 : w10.frozen? ⟨w.heap.size + 1 + 1, 4, none⟩ = false := (b3.2 4 _ rfl).2
  have ca15_5 : w10.cell? ⟨w.heap.size + 1 + 1, 5, none⟩ = some (.int .i64 0) := (b3.2 5 _ rfl).1
  have fa15_5 : w10.frozen? ⟨w.heap.size + 1 + 1, 5, none⟩ = false := (b3.2 5 _ rfl).2
  replace b1 := b1.far (p := ⟨w.heap.size + 1 + 1, 2, none⟩) (by show _ ≠ (w.heap.size + 1 + 1); omega) (.int .i64 x1)
  replace b2 := b2.far (p := ⟨w.heap.size + 1 + 1, 2, none⟩) (by show _ ≠ (w.heap.size + 1 + 1); omega) (.int .i64 x1)
  replace m1 := m1.fr (fr_one (p := (w.heap.size + 1 + 1)) (i := 2) (.int .i64 x1)) (by omega)
  replace kw := Below.setCell kw (p := ⟨w.heap.size + 1 + 1, 2, none⟩) (by show _ ≤ (w.heap.size + 1 + 1); omega) (.int .i64 x1)
  replace b3 : Bl (w10.setCell ⟨w.heap.size + 1 + 1, 2, none⟩ (.int .i64 x1)) (w.heap.size + 1 + 1) [.int .i64 v, .slice P1 n n, .int .i64 x1, .int .i64 0, .int .i64 0, .int .i64 0] := b3.set 2 (.int .i64 x1)
  replace b1 := b1.far (p := ⟨w.heap.size + 1 + 1, 3, none⟩) (by show _ ≠ (w.heap.size + 1 + 1); omega) (.int .i64 x2)
  replace b2 := b2.far (p := ⟨w.heap.size + 1 + 1, 3, none⟩) (by show _ ≠ (w.heap.size + 1 + 1); omega) (.int .i64 x2)
  replace m1 := m1.fr (fr_one (p := (w.heap.size + 1 + 1)) (i := 3) (.int .i64 x2)) (by omega)
  replace kw := Below.setCell kw (p := ⟨w.heap.size + 1 + 1, 3, none⟩) (by show _ ≤ (w.heap.size + 1 + 1); omega) (.int .i64 x2)
  replace b3 : Bl ((w10.setCell ⟨w.heap.size + 1 + 1, 2, none⟩ (.int .i64 x1)).setCell ⟨w.heap.size + 1 + 1, 3, none⟩ (.int .i64 x2)) (w.heap.size + 1 + 1) [.int .i64 v, .slice P1 n n, .int .i64 x1, .int .i64 x2, .int .i64 0, .int .i64 0] := b3.set 3 (.int .i64 x2)
  replace b1 := b1.far (p := ⟨w.heap.size + 1 + 1, 4, none⟩) (by show _ ≠ (w.heap.size + 1 + 1); omega) (.int .i64 x3)
  replace b2 := b2.far (p := ⟨w.heap.size + 1 + 1, 4, none⟩) (by show _ ≠ (w.heap.size + 1 + 1); omega) (.int .i64 x3)
  replace m1 := m1.fr (fr_one (p := (w.heap.size + 1 + 1)) (i := 4) (.int .i64 x3)) (by omega)
  replace kw := Below.setCell kw (p := ⟨w.heap.size + 1 + 1, 4, none⟩) (by show _ ≤ (w.heap.size + 1 + 1); omega) (.int .i64 x3)
  replace b3 : Bl (((w10.setCell ⟨w.heap.size + 1 + 1, 2, none⟩ (.int .i64 x1)).setCell ⟨w.heap.size + 1 + 1, 3, none⟩ (.int .i64 x2)).setCell ⟨w.heap.size + 1 + 1, 4, none⟩ (.int .i64 x3)) (w.heap.size + 1 + 1) [.int .i64 v, .slice P1 n n, .int .i64 x1, .int .i64 x2, .int .i64 x3, .int .i64 0] := b3.set 4 (.int .i64 x3)
  replace b1 := b1.far (p := ⟨w.heap.size + 1 + 1, 5, none⟩) (by show _ ≠ (w.heap.size + 1 + 1); omega) (.int .i64 x4)
  replace b2 := b2.far (p := ⟨w.heap.size + 1 + 1, 5, none⟩) (by show _ ≠ (w.heap.size + 1 + 1); omega) (.int .i64 x4)
  replace m1 := m1.fr (fr_one (p := (w.heap.size + 1 + 1)) (i := 5) (.int .i64 x4)) (by omega)
  replace kw := Below.setCell kw (p := ⟨w.heap.size + 1 + 1, 5, none⟩) (by show _ ≤ (w.heap.size + 1 + 1); omega) (.int .i64 x4)
  replace b3 : Bl ((((w10.setCell ⟨w.heap.size + 1 + 1, 2, none⟩ (.int .i64 x1)).setCell ⟨w.heap.size + 1 + 1, 3, none⟩ (.int .i64 x2)).setCell ⟨w.heap.size + 1 + 1, 4, none⟩ (.int .i64 x3)).setCell ⟨w.heap.size + 1 + 1, 5, none⟩ (.int .i64 x4)) (w.heap.size + 1 + 1) [.int .i64 v, .slice P1 n n, .int .i64 x1, .int .i64 x2, .int .i64 x3, .int .i64 x4] := b3.set 5 (.int .i64 x4)
  have ca16_0 : ((((w10.setCell ⟨w.heap.size + 1 + 1, 2, none⟩ (.int .i64 x1)).setCell ⟨w.heap.size + 1 + 1, 3, none⟩ (.int .i64 x2)).setCell ⟨w.heap.size + 1 + 1, 4, none⟩ (.int .i64 x3)).setCell ⟨w.heap.size + 1 + 1, 5, none⟩ (.int .i64 x4)).cell? ⟨w.heap.size + 1 + 1, 0, none⟩ = some (.int .i64 v) := (b3.2 0 _ rfl).1
  have fa16_0 : ((((w10.setCell ⟨w.heap.size + 1 + 1, 2, none⟩ (.int .i64 x1)).setCell ⟨w.heap.size + 1 + 1, 3, none⟩ (.int .i64 x2)).setCell ⟨w.heap.size + 1 + 1, 4, none⟩ (.int .i64 x3)).setCell ⟨w.heap.size + 1 + 1, 5, none⟩ (.int .i64 x4)).frozen? ⟨w.heap.size + 1 + 1, 0, none⟩ = false := (b3.2 0 _ rfl).2
  have ca16_1 : ((((w10.setCell ⟨w.heap.size + 1 + 1, 2, none⟩ (.int .i64 x1)).setCell ⟨w.heap.size + 1 + 1, 3, none⟩ (.int .i64 x2)).setCell ⟨w.heap.size + 1 + 1, 4, none⟩ (.int .i64 x3)).setCell ⟨w.heap.size + 1 + 1, 5, none⟩ (.int .i64 x4)).cell? ⟨w.heap.size + 1 + 1, 1, none⟩ = some (.slice P1 n n) := (b3.2 1 _ rfl).1
  have fa16_1 : ((((w10.setCell ⟨w.heap.size + 1 + 1, 2, none⟩ (.int .i64 x1)).setCell ⟨w.heap.size + 1 + 1, 3, none⟩ (.int .i64 x2)).setCell ⟨w.heap.size + 1 + 1, 4, none⟩ (.int .i64 x3)).setCell ⟨w.heap.size + 1 + 1, 5, none⟩ (.int .i64 x4)).frozen? ⟨w.heap.size + 1 + 1, 1, none⟩ = false := (b3.2 1 _ rfl).2
  have ca16_2 : ((((w10.setCell ⟨w.heap.size + 1 + 1, 2, none⟩ (.int .i64 x1)).setCell ⟨w.heap.size + 1 + 1, 3, none⟩ (.int .i64 x2)).setCell ⟨w.heap.size + 1 + 1, 4, none⟩ (.int .i64 x3)).setCell ⟨w.heap.size + 1 + 1, 5, none⟩ (.int .i64 x4)).cell? ⟨w.heap.size + 1 + 1, 2, none⟩ = some (.int .i64 x1) := (b3.2 2 _ rfl).1
  have fa16_2 : ((((w10.setCell ⟨w.heap.size + 1 + 1, 2, none⟩ (.int .i64 x1)).setCell ⟨w.heap.size + 1 + 1, 3, none⟩ (.int .i64 x2)).setCell ⟨w.heap.size + 1 + 1, 4, none⟩ (.int .i64 x3)).setCell ⟨w.heap.size + 1 + 1, 5, none⟩ (.int .i64 x4)).frozen? ⟨w.heap.size + 1 + 1, 2, none⟩ = false := (b3.2 2 _ rfl).2
  have ca16_3 : ((((w10.setCell ⟨w.heap.size + 1 + 1, 2, none⟩ (.int .i64 x1)).setCell ⟨w.heap.size + 1 + 1, 3, none⟩ (.int .i64 x2)).setCell ⟨w.heap.size + 1 + 1, 4, none⟩ (.int .i64 x3)).setCell ⟨w.heap.size + 1 + 1, 5, none⟩ (.int .i64 x4)).cell? ⟨w.heap.size + 1 + 1, 3, none⟩ = some (.int .i64 x2) := (b3.2 3 _ rfl).1
  have fa16_3 : ((((w10.setCell ⟨w.heap.size + 1 + 1, 2, none⟩ (.int .i64 x1)).setCell ⟨w.heap.size + 1 + 1, 3, none⟩ (.int .i64 x2)).setCell ⟨w.heap.size + 1 + 1, 4, none⟩ (.int .i64 x3)).setCell ⟨w.heap.size + 1 + 1, 5, none⟩ (.int .i64 x4)).frozen? ⟨w.heap.size + 1 + 1, 3, none⟩ = false := (b3.2 3 _ rfl).2
  have ca16_4 : ((((w10.setCell ⟨w.heap.size + 1 + 1, 2, none⟩ (.int .i64 x1)).setCell ⟨w.heap.size + 1 + 1, 3, none⟩ (.int .i64 x2)).setCell ⟨w.heap.size + 1 + 1, 4, none⟩ (.int .i64 x3)).setCell ⟨w.heap.size + 1 + 1, 5, none⟩ (.int .i64 x4)).cell? ⟨w.heap.size + 1 + 1, 4, none⟩ = some (.int .i64 x3) := (b3.2 4 _ rfl).1
  have fa16_4 : ((((w10.setCell ⟨w.heap.size + 1 + 1, 2, none⟩ (.int .i64 x1)).setCell ⟨w.heap.size + 1 + 1, 3, none⟩ (.int .i64 x2)).setCell ⟨w.heap.size + 1 + 1, 4, none⟩ (.int .i64 x3)).setCell ⟨w.heap.size + 1 + 1, 5, none⟩ (.int .i64 x4)).frozen? ⟨w.heap.size + 1 + 1, 4, none⟩ = false := (b3.2 4 _ rfl).2
  have ca16_5 : ((((w10.setCell ⟨w.heap.size + 1 + 1, 2, none⟩ (.int .i64 x1)).setCell ⟨w.heap.size + 1 + 1, 3, none⟩ (.int .i64 x2)).setCell ⟨w.heap.size + 1 + 1, 4, none⟩ (.int .i64 x3)).setCell ⟨w.heap.size + 1 + 1, 5, none⟩ (.int .i64 x4)).cell? ⟨w.heap.size + 1 + 1, 5, none⟩ = some (.int .i64 x4) := (b3.2 5 _ rfl).1
  have fa16_5 : ((((w10.setCell ⟨w.heap.size + 1 + 1, 2, none⟩ (.int .i64 x1)).setCell ⟨w.heap.size + 1 + 1, 3, none⟩ (.int .i64 x2)).setCell ⟨w.heap.size + 1 + 1, 4, none⟩ (.int .i64 x3)).setCell ⟨w.heap.size + 1 + 1, 5, none⟩ (.int .i64 x4)).frozen? ⟨w.heap.size + 1 + 1, 5, none⟩ = false := (b3.2 5 _ rfl).2
  have ca17_0 : ((((w10.setCell ⟨w.heap.size + 1 + 1, 2, none⟩ (.int .i64 x1)).setCell ⟨w.heap.size + 1 + 1, 3, none⟩ (.int .i64 x2)).setCell ⟨w.heap.size + 1 + 1, 4, none⟩ (.int .i64 x3)).setCell ⟨w.heap.size + 1 + 1, 5, none⟩ (.int .i64 x4)).cell? ⟨w.heap.size + 1, 0, none⟩ = some (.int .i64 0) := (b2.2 0 _ rfl).1
  have fa17_0 : ((((w10.setCell ⟨w.heap.size + 1 + 1, 2, none⟩ (.int .i64 x1)).setCell ⟨w.heap.size + 1 + 1, 3, none⟩ (.int .i64 x2)).setCell ⟨w.heap.size + 1 + 1, 4, none⟩ (.int .i64 x3)).setCell ⟨w.heap.size + 1 + 1, 5, none⟩ (.int .i64 x4)).frozen? ⟨w.heap.size + 1, 0, none⟩ = false := (b2.2 0 _ rfl).2
  have ca17_1 : ((((w10.setCell ⟨w.heap.size + 1 + 1, 2, none⟩ (.int .i64 x1)).setCell ⟨w.heap.size + 1 + 1, 3, none⟩ (.int .i64 x2)).setCell ⟨w.heap.size + 1 + 1, 4, none⟩ (.int .i64 x3)).setCell ⟨w.heap.size + 1 + 1, 5, none⟩ (.int .i64 x4)).cell? ⟨w.heap.size + 1, 1, none⟩ = some (.slice none 0 0) := (b2.2 1 _ rfl).1
  have fa17_1 : ((((w10.setCell ⟨w.heap.size + 1 + 1, 2, none⟩ (.int .i64 x1)).setCell ⟨w.heap.size + 1 + 1, 3, none⟩ (.int .i64 x2)).setCell ⟨w.heap.size + 1 + 1, 4, none⟩ (.int .i64 x3)).setCell ⟨w.heap.size + 1 + 1, 5, none⟩ (.int .i64 x4)).frozen? ⟨w.heap.size + 1, 1, none⟩ = false := (b2.2 1 _ rfl).2
  have ca17_2 : ((((w10.setCell ⟨w.heap.size + 1 + 1, 2, none⟩ (.int .i64 x1)).setCell ⟨w.heap.size + 1 + 1, 3, none⟩ (.int .i64 x2)).setCell ⟨w.heap.size + 1 + 1, 4, none⟩ (.int .i64 x3)).setCell ⟨w.heap.size + 1 + 1, 5, none⟩ (.int .i64 x4)).cell? ⟨w.heap.size + 1, 2, none⟩ = some (.int .i64 0) := (b2.2 2 _ rfl).1
  have fa17_2 : ((((w10.setCell ⟨w.heap.size + 1 + 1, 2, none⟩ (.int .i64 x1)).setCell ⟨w.heap.size + 1 + 1, 3, none⟩ (.int .i64 x2)).setCell ⟨w.heap.size + 1 + 1, 4, none⟩ (.int .i64 x3)).setCell ⟨w.heap.size + 1 + 1, 5, none⟩ (.int .i64 x4)).frozen? ⟨w.heap.size + 1, 2, none⟩ = false := (b2.2 2 _ rfl).2
  have ca17_3 : ((((w10.setCell ⟨w.heap.size + 1 + 1, 2, none⟩ (.int .i64 x1)).setCell ⟨w.heap.size + 1 + 1, 3, none⟩ (.int .i64 x2)).setCell ⟨w.heap.size + 1 + 1, 4, none⟩ (.int .i64 x3)).setCell ⟨w.heap.size + 1 + 1, 5, none⟩ (.int .i64 x4)).cell? ⟨w.heap.size + 1, 3, none⟩ = some (.int .i64 0) := (b2.2 3 _ rfl).1
  have fa17_3 : ((((w10.setCell ⟨w.heap.size + 1 + 1, 2, none⟩ (.int .i64 x1)).setCell ⟨w.heap.size + 1 + 1, 3, none⟩ (.int .i64 x2)).setCell ⟨w.heap.size + 1 + 1, 4, none⟩ (.int .i64 x3)).setCell ⟨w.heap.size + 1 + 1, 5, none⟩ (.int .i64 x4)).frozen? ⟨w.heap.size + 1, 3, none⟩ = false := (b2.2 3 _ rfl).2
  have ca17_4 : ((((w10.setCell ⟨w.heap.size + 1 + 1, 2, none⟩ (.int .i64 x1)).setCell ⟨w.heap.size + 1 + 1, 3, none⟩ (.int .i64 x2)).setCell ⟨w.heap.size + 1 + 1, 4, none⟩ (.int .i64 x3)).setCell ⟨w.heap.size + 1 + 1, 5, none⟩ (.int .i64 x4)).cell? ⟨w.heap.size + 1, 4, none⟩ = some (.int .i64 0) := (b2.2 4 _ rfl).1
  have fa17_4 : ((((w10.setCell ⟨w.heap.size + 1 + 1, 2, none⟩ (.int .i64 x1)).setCell ⟨w.heap.size + 1 + 1, 3, none⟩ (.int .i64 x2)).setCell ⟨w.heap.size + 1 + 1, 4, none⟩ (.int .i64 x3)).setCell ⟨w.heap.size + 1 + 1, 5, none⟩ (.int .i64 x4)).frozen? ⟨w.heap.size + 1, 4, none⟩ = false := (b2.2 4 _ rfl).2
  have ca17_5 : ((((w10.setCell ⟨w.heap.size + 1 + 1, 2, none⟩ (.int .i64 x1)).setCell ⟨w.heap.size + 1 + 1, 3, none⟩ (.int .i64 x2)).setCell ⟨w.heap.size + 1 + 1, 4, none⟩ (.int .i64 x3)).setCell ⟨w.heap.size + 1 + 1, 5, none⟩ (.int .i64 x4)).cell? ⟨w.heap.size + 1, 5, none⟩ = some (.int .i64 0) := (b2.2 5 _ rfl).1
  have fa17_5 : ((((w10.setCell ⟨w.heap.size + 1 + 1, 2, none⟩ (.int .i64 x1)).setCell ⟨w.heap.size + 1 + 1, 3, none⟩ (.int .i64 x2)).setCell ⟨w.heap.size + 1 + 1, 4, none⟩ (.int .i64 x3)).setCell ⟨w.heap.size + 1 + 1, 5, none⟩ (.int .i64 x4)).frozen? ⟨w.heap.size + 1, 5, none⟩ = false := (b2.2 5 _ rfl).2
  replace b1 := b1.far (p := ⟨w.heap.size + 1, 0, none⟩) (by show _ ≠ (w.heap.size + 1); omega) (.int .i64 v)
  replace b3 := b3.far (p := ⟨w.heap.size + 1, 0, none⟩) (by show _ ≠ (w.heap.size + 1); omega) (.int .i64 v)
  replace m1 := m1.fr (fr_one (p := (w.heap.size + 1)) (i := 0) (.int .i64 v)) (by omega)
  replace kw := Below.setCell kw (p := ⟨w.heap.size + 1, 0, none⟩) (by show _ ≤ (w.heap.size + 1); omega) (.int .i64 v)
  replace b2 : Bl (((((w10.setCell ⟨w.heap.size + 1 + 1, 2, none⟩ (.int .i64 x1)).setCell ⟨w.heap.size + 1 + 1, 3, none⟩ (.int .i64 x2)).setCell ⟨w.heap.size + 1 + 1, 4, none⟩ (.int .i64 x3)).setCell ⟨w.heap.size + 1 + 1, 5, none⟩ (.int .i64 x4)).setCell ⟨w.heap.size + 1, 0, none⟩ (.int .i64 v)) (w.heap.size + 1) [.int .i64 v, .slice none 0 0, .int .i64 0, .int .i64 0, .int .i64 0, .int .i64 0] := b2.set 0 (.int .i64 v)
  replace b1 := b1.far (p := ⟨w.heap.size + 1, 1, none⟩) (by show _ ≠ (w.heap.size + 1); omega) (.slice P1 n n)
  replace b3 := b3.far (p := ⟨w.heap.size + 1, 1, none⟩) (by show _ ≠ (w.heap.size + 1); omega) (.slice P1 n n)
  replace m1 := m1.fr (fr_one (p := (w.heap.size + 1)) (i := 1) (.slice P1 n n)) (by omega)
  replace kw := Below.setCell kw (p := ⟨w.heap.size + 1, 1, none⟩) (by show _ ≤ (w.heap.size + 1); omega) (.slice P1 n n)
  replace b2 : Bl ((((((w10.setCell ⟨w.heap.size + 1 + 1, 2, none⟩ (.int .i64 x1)).setCell ⟨w.heap.size + 1 + 1, 3, none⟩ (.int .i64 x2)).setCell ⟨w.heap.size + 1 + 1, 4, none⟩ (.int .i64 x3)).setCell ⟨w.heap.size + 1 + 1, 5, none⟩ (.int .i64 x4)).setCell ⟨w.heap.size + 1, 0, none⟩ (.int .i64 v)).setCell ⟨w.heap.size + 1, 1, none⟩ (.slice P1 n n)) (w.heap.size + 1) [.int .i64 v, .slice P1 n n, .int .i64 0, .int .i64 0, .int .i64 0, .int .i64 0] := b2.set 1 (.slice P1 n n)
  replace b1 := b1.far (p := ⟨w.heap.size + 1, 2, none⟩) (by show _ ≠ (w.heap.size + 1); omega) (.int .i64 x1)
  replace b3 := b3.far (p := ⟨w.heap.size + 1, 2, none⟩) (by show _ ≠ (w.heap.size + 1); omega) (.int .i64 x1)
  replace m1 := m1.fr (fr_one (p := (w.heap.size + 1)) (i := 2) (.int .i64 x1)) (by omega)
  replace kw := Below.setCell kw (p := ⟨w.heap.size + 1, 2, none⟩) (by show _ ≤ (w.heap.size + 1); omega) (.int .i64 x1)
  replace b2 : Bl (((((((w10.setCell ⟨w.heap.size + 1 + 1, 2, none⟩ (.int .i64 x1)).setCell ⟨w.heap.size + 1 + 1, 3, none⟩ (.int .i64 x2)).setCell ⟨w.heap.size + 1 + 1, 4, none⟩ (.int .i64 x3)).setCell ⟨w.heap.size + 1 + 1, 5, none⟩ (.int .i64 x4)).setCell ⟨w.heap.size + 1, 0, none⟩ (.int .i64 v)).setCell ⟨w.heap.size + 1, 1, none⟩ (.slice P1 n n)).setCell ⟨w.heap.size + 1, 2, none⟩ (.int .i64 x1)) (w.heap.size + 1) [.int .i64 v, .slice P1 n n, .int .i64 x1, .int .i64 0, .int .i64 0, .int .i64 0] := b2.set 2 (.int .i64 x1)
  replace b1 := b1.far (p := ⟨w.heap.size + 1, 3, none⟩) (by show _ ≠ (w.heap.size + 1); omega) (.int .i64 x2)
  replace b3 := b3.far (p := ⟨w.heap.size + 1, 3, none⟩) (by show _ ≠ (w.heap.size + 1); omega) (.int .i64 x2)
  replace m1 := m1.fr (fr_one (p := (w.heap.size + 1)) (i := 3) (.int .i64 x2)) (by omega)
  replace kw := Below.setCell kw (p := ⟨w.heap.size + 1, 3, none⟩) (by show _ ≤ (w.heap.size + 1); omega) (.int .i64 x2)
  replace b2 : Bl ((((((((w10.setCell ⟨w.heap.size + 1 + 1, 2, none⟩ (.int .i64 x1)).setCell ⟨w.heap.size + 1 + 1, 3, none⟩ (.int .i64 x2)).setCell ⟨w.heap.size + 1 + 1, 4, none⟩ (.int .i64 x3)).setCell ⟨w.heap.size + 1 + 1, 5, none⟩ (.int .i64 x4)).setCell ⟨w.heap.size + 1, 0, none⟩ (.int .i64 v)).setCell ⟨w.heap.size + 1, 1, none⟩ (.slice P1 n n)).setCell ⟨w.heap.size + 1, 2, none⟩ (.int .i64 x1)).setCell ⟨w.heap.size + 1, 3, none⟩ (.int .i64 x2)) (w.heap.size + 1) [.int .i64 v, .slice P1 n n, .int .i64 x1, .int .i64 x2, .int .i64 0, .int .i64 0] := b2.set 3 (.int .i64 x2)
  replace b1 := b1.far (p := ⟨w.heap.size + 1, 4, none⟩) (by show _ ≠ (w.heap.size + 1); omega) (.int .i64 x3)
  replace b3 := b3.far (p := ⟨w.heap.size + 1, 4, none⟩) (by show _ ≠ (w.heap.size + 1); omega) (.int .i64 x3)
  replace m1 := m1.fr (fr_one (p := (w.heap.size + 1)) (i := 4) (.int .i64 x3)) (by omega)
  replace kw := Below.setCell kw (p := ⟨w.heap.size + 1, 4, none⟩) (by show _ ≤ (w.heap.size + 1); omega) (.int .i64 x3)
  replace b2 : Bl (((((((((w10.setCell ⟨w.heap.size + 1 + 1, 2, none⟩ (.int .i64 x1)).setCell ⟨w.heap.size + 1 + 1, 3, none⟩ (.int .i64 x2)).setCell ⟨w.heap.size + 1 + 1, 4, none⟩ (.int .i64 x3)).setCell ⟨w.heap.size + 1 + 1, 5, none⟩ (.int .i64 x4)).setCell ⟨w.heap.size + 1, 0, none⟩ (.int .i64 v)).setCell ⟨w.heap.size + 1, 1, none⟩ (.slice P1 n n)).setCell ⟨w.heap.size + 1, 2, none⟩ (.int .i64 x1)).setCell ⟨w.heap.size + 1, 3, none⟩ (.int .i64 x2)).setCell ⟨w.heap.size + 1, 4, none⟩ (.int .i64 x3)) (w.heap.size + 1) [.int .i64 v, .slice P1 n n, .int .i64 x1, .int .i64 x2, .int .i64 x3, .int .i64 0] := b2.set 4 (.int .i64 x3)
  replace b1 := b1.far (p := ⟨w.heap.size + 1, 5, none⟩) (by show _ ≠ (w.heap.size + 1); omega) (.int .i64 x4)
  replace b3 := b3.far (p := ⟨w.heap.size + 1, 5, none⟩) (by show _ ≠ (w.heap.size + 1); omega) (.int .i64 x4)
  replace m1 := m1.fr (fr_one (p := (w.heap.size + 1)) (i := 5) (.int .i64 x4)) (by omega)
  replace kw := Below.setCell kw (p := ⟨w.heap.size + 1, 5, none⟩) (by show _ ≤ (w.heap.size + 1); omega) (.int .i64 x4)
  replace b2 : Bl ((((((((((w10.setCell ⟨w.heap.size + 1 + 1, 2, none⟩ (.int .i64 x1)).setCell ⟨w.heap.size + 1 + 1, 3, none⟩ (.int .i64 x2)).setCell ⟨w.heap.size + 1 + 1, 4, none⟩ (.int .i64 x3)).setCell ⟨w.heap.size + 1 + 1, 5, none⟩ (.int .i64 x4)).setCell ⟨w.heap.size + 1, 0, none⟩ (.int .i64 v)).setCell ⟨w.heap.size + 1, 1, none⟩ (.slice P1 n n)).setCell ⟨w.heap.size + 1, 2, none⟩ (.int .i64 x1)).setCell ⟨w.heap.size + 1, 3, none⟩ (.int .i64 x2)).setCell ⟨w.heap.size + 1, 4, none⟩ (.int .i64 x3)).setCell ⟨w.heap.size + 1, 5, none⟩ (.int .i64 x4)) (w.heap.size + 1) [.int .i64 v, .slice P1 n n, .int .i64 x1, .int .i64 x2, .int .i64 x3, .int .i64 x4] := b2.set 5 (.int .i64 x4)
  have HT := hid (m1.widen (lo' := w.heap.size) (hi' := ((((((((((w10.setCell ⟨w.heap.size + 1 + 1, 2, none⟩ (.int .i64 x1)).setCell ⟨w.heap.size + 1 + 1, 3, none⟩ (.int .i64 x2)).setCell ⟨w.heap.size + 1 + 1, 4, none⟩ (.int .i64 x3)).setCell ⟨w.heap.size + 1 + 1, 5, none⟩ (.int .i64 x4)).setCell ⟨w.heap.size + 1, 0, none⟩ (.int .i64 v)).setCell ⟨w.heap.size + 1, 1, none⟩ (.slice P1 n n)).setCell ⟨w.heap.size + 1, 2, none⟩ (.int .i64 x1)).setCell ⟨w.heap.size + 1, 3, none⟩ (.int .i64 x2)).setCell ⟨w.heap.size + 1, 4, none⟩ (.int .i64 x3)).setCell ⟨w.heap.size + 1, 5, none⟩ (.int .i64 x4)).heap.size) (by omega) (by simp [World.setCell] <;> omega) (Nat.le_refl _))
  have HK := hid kw
  clear m1 kw
  go_wp2_with fail
  clear ca14_0 fa14_0 ca14_1 fa14_1 ca14_2 fa14_2 ca14_3 fa14_3 ca14_4 fa14_4 ca14_5 fa14_5 ca15_0 fa15_0 ca15_1 fa15_1 ca15_2 fa15_2 ca15_3 fa15_3 ca15_4 fa15_4 ca15_5 fa15_5 ca16_0 fa16_0 ca16_1 fa16_1 ca16_2 fa16_2 ca16_3 fa16_3 ca16_4 fa16_4 ca16_5 fa16_5 ca17_0 fa17_0 ca17_1 fa17_1 ca17_2 fa17_2 ca17_3 fa17_3 ca17_4 fa17_4 ca17_5 fa17_5
  have ca0_0 : ((((((((((w10.setCell ⟨w.heap.size + 1 + 1, 2, none⟩ (.int .i64 x1)).setCell ⟨w.heap.size + 1 + 1, 3, none⟩ (.int .i64 x2)).setCell ⟨w.heap.size + 1 + 1, 4, none⟩ (.int .i64 x3)).setCell ⟨w.heap.size + 1 + 1, 5, none⟩ (.int .i64 x4)).setCell ⟨w.heap.size + 1, 0, none⟩ (.int .i64 v)).setCell ⟨w.heap.size + 1, 1, none⟩ (.slice P1 n n)).setCell ⟨w.heap.size + 1, 2, none⟩ (.int .i64 x1)).setCell ⟨w.heap.size + 1, 3, none⟩ (.int .i64 x2)).setCell ⟨w.heap.size + 1, 4, none⟩ (.int .i64 x3)).setCell ⟨w.heap.size + 1, 5, none⟩ (.int .i64 x4)).cell? ⟨w.heap.size + 1, 0, none⟩ = some (.int .i64 v) := (b2.2 0 _ rfl).1
  have ca0_1 : ((((((((((w10.setCell ⟨w.heap.size + 1 + 1, 2, none⟩ (.int .i64 x1)).setCell ⟨w.heap.size + 1 + 1, 3, none⟩ (.int .i64 x2)).setCell ⟨w.heap.size + 1 + 1, 4, none⟩ (.int .i64 x3)).setCell ⟨w.heap.size + 1 + 1, 5, none⟩ (.int .i64 x4)).setCell ⟨w.heap.size + 1, 0, none⟩ (.int .i64 v)).setCell ⟨w.heap.size + 1, 1, none⟩ (.slice P1 n n)).setCell ⟨w.heap.size + 1, 2, none⟩ (.int .i64 x1)).setCell ⟨w.heap.size + 1, 3, none⟩ (.int .i64 x2)).setCell ⟨w.heap.size + 1, 4, none⟩ (.int .i64 x3)).setCell ⟨w.heap.size + 1, 5, none⟩ (.int .i64 x4)).cell? ⟨w.heap.size + 1, 1, none⟩ = some (.slice P1 n n) := (b2.2 1 _ rfl).1
  have ca0_2 : ((((((((((w10.setCell ⟨w.heap.size + 1 + 1, 2, none⟩ (.int .i64 x1)).setCell ⟨w.heap.size + 1 + 1, 3, none⟩ (.int .i64 x2)).setCell ⟨w.heap.size + 1 + 1, 4, none⟩ (.int .i64 x3)).setCell ⟨w.heap.size + 1 + 1, 5, none⟩ (.int .i64 x4)).setCell ⟨w.heap.size + 1, 0, none⟩ (.int .i64 v)).setCell ⟨w.heap.size + 1, 1, none⟩ (.slice P1 n n)).setCell ⟨w.heap.size + 1, 2, none⟩ (.int .i64 x1)).setCell ⟨w.heap.size + 1, 3, none⟩ (.int .i64 x2)).setCell ⟨w.heap.size + 1, 4, none⟩ (.int .i64 x3)).setCell ⟨w.heap.size + 1, 5, none⟩ (.int .i64 x4)).cell? ⟨w.heap.size + 1, 2, none⟩ = some (.int .i64 x1) := (b2.2 2 _ rfl).1
  have ca0_3 : ((((((((((w10.setCell ⟨w.heap.size + 1 + 1, 2, none⟩ (.int .i64 x1)).setCell ⟨w.heap.size + 1 + 1, 3, none⟩ (.int .i64 x2)).setCell ⟨w.heap.size + 1 + 1, 4, none⟩ (.int .i64 x3)).setCell ⟨w.heap.size + 1 + 1, 5, none⟩ (.int .i64 x4)).setCell ⟨w.heap.size + 1, 0, none⟩ (.int .i64 v)).setCell ⟨w.heap.size + 1, 1, none⟩ (.slice P1 n n)).setCell ⟨w.heap.size + 1, 2, none⟩ (.int .i64 x1)).setCell ⟨w.heap.size + 1, 3, none⟩ (.int .i64 x2)).setCell ⟨w.heap.size + 1, 4, none⟩ (.int .i64 x3)).setCell ⟨w.heap.size + 1, 5, none⟩ (.int .i64 x4)).cell? ⟨w.heap.size + 1, 3, none⟩ = some (.int .i64 x2) := (b2.2 3 _ rfl).1
  have ca0_4 : ((((((((((w10.setCell ⟨w.heap.size + 1 + 1, 2, none⟩ (.int .i64 x1)).setCell ⟨w.heap.size + 1 + 1, 3, none⟩ (.int .i64 x2)).setCell ⟨w.heap.size + 1 + 1, 4, none⟩ (.int .i64 x3)).setCell ⟨w.heap.size + 1 + 1, 5, none⟩ (.int .i64 x4)).setCell ⟨w.heap.size + 1, 0, none⟩ (.int .i64 v)).setCell ⟨w.heap.size + 1, 1, none⟩ (.slice P1 n n)).setCell ⟨w.heap.size + 1, 2, none⟩ (.int .i64 x1)).setCell ⟨w.heap.size + 1, 3, none⟩ (.int .i64 x2)).setCell ⟨w.heap.size + 1, 4, none⟩ (.int .i64 x3)).setCell ⟨w.heap.size + 1, 5, none⟩ (.int .i64 x4)).cell? ⟨w.heap.size + 1, 4, none⟩ = some (.int .i64 x3) := (b2.2 4 _ rfl).1
  have ca0_5 : ((((((((((w10.setCell ⟨w.heap.size + 1 + 1, 2, none⟩ (.int .i64 x1)).setCell ⟨w.heap.size + 1 + 1, 3, none⟩ (.int .i64 x2)).setCell ⟨w.heap.size + 1 + 1, 4, none⟩ (.int .i64 x3)).setCell ⟨w.heap.size + 1 + 1, 5, none⟩ (.int .i64 x4)).setCell ⟨w.heap.size + 1, 0, none⟩ (.int .i64 v)).setCell ⟨w.heap.size + 1, 1, none⟩ (.slice P1 n n)).setCell ⟨w.heap.size + 1, 2, none⟩ (.int .i64 x1)).setCell ⟨w.heap.size + 1, 3, none⟩ (.int .i64 x2)).setCell ⟨w.heap.size + 1, 4, none⟩ (.int .i64 x3)).setCell ⟨w.heap.size + 1, 5, none⟩ (.int .i64 x4)).cell? ⟨w.heap.size + 1, 5, none⟩ = some (.int .i64 x4) := (b2.2 5 _ rfl).1
  try simp only [Exit.inBlock, Exit.then]
  exact bodyPost_ret (v := .agg #[.int .i64 v, .slice P1 n n, .int .i64 x1, .int .i64 x2, .int .i64 x3, .int .i64 x4]) (by simp [results, Tryz.results35, go_sem, ca0_0, ca0_1, ca0_2, ca0_3, ca0_4, ca0_5]) rfl ⟨_, rfl, HT.out, HK.out⟩
set_option maxRecDepth 100000 in
set_option maxHeartbeats 1600000 in
theorem eqRelease_true {P : Option Addr} {n c : Nat} {v x1 x2 x3 x4 : Int} {l : List TT} {w : World} {P' : Option Addr} {d lo hi lo' hi' : Nat} {un un' : Bool} (h : Tabs true un w lo hi P n l) (h' : Tabs true un' w lo' hi' P' n l) :
    Calls Tryz.prog 44 #[.agg #[.int .i64 v, .slice P n c, .int .i64 x1, .int .i64 x2, .int .i64 x3, .int .i64 x4], .agg #[.int .i64 v, .slice P' n d, .int .i64 x1, .int .i64 x2, .int .i64 x3, .int .i64 x4]] w fun e w' => e = .returned (.bool true) ∧ Keeps w w' := by
  have e1 : (v != v) = false := by simp
  go_enter Tryz.func44, Tryz.ntmps44
  have kw := keeps_refl w
  replace kw := Keeps.trans kw (keeps_alloc w (.cells #[.int .i64 v, .slice P n c, .int .i64 x1, .int .i64 x2, .int .i64 x3, .int .i64 x4] 50))
  have b2 : Bl (w.alloc (.cells #[.int .i64 v, .slice P n c, .int .i64 x1, .int .i64 x2, .int .i64 x3, .int .i64 x4] 50)) w.heap.size [.int .i64 v, .slice P n c, .int .i64 x1, .int .i64 x2, .int .i64 x3, .int .i64 x4] := Bl.new' (by simp) (by simp)
  replace b2 := b2.keeps (keeps_alloc (w.alloc (.cells #[.int .i64 v, .slice P n c, .int .i64 x1, .int .i64 x2, .int .i64 x3, .int .i64 x4] 50)) (.cells #[.int .i64 v, .slice P' n d, .int .i64 x1, .int .i64 x2, .int .i64 x3, .int .i64 x4] 50))
  replace kw := Keeps.trans kw (keeps_alloc (w.alloc (.cells #[.int .i64 v, .slice P n c, .int .i64 x1, .int .i64 x2, .int .i64 x3, .int .i64 x4] 50)) (.cells #[.int .i64 v, .slice P' n d, .int .i64 x1, .int .i64 x2, .int .i64 x3, .int .i64 x4] 50))
  have b3 : Bl ((w.alloc (.cells #[.int .i64 v, .slice P n c, .int .i64 x1, .int .i64 x2, .int .i64 x3, .int .i64 x4] 50)).alloc (.cells #[.int .i64 v, .slice P' n d, .int .i64 x1, .int .i64 x2, .int .i64 x3, .int .i64 x4] 50)) (w.heap.size + 1) [.int .i64 v, .slice P' n d, .int .i64 x1, .int .i64 x2, .int .i64 x3, .int .i64 x4] := Bl.new' (by simp) (by simp)
  have ca1_0 : ((w.alloc (.cells #[.int .i64 v, .slice P n c, .int .i64 x1, .int .i64 x2, .int .i64 x3, .int .i64 x4] 50)).alloc (.cells #[.int .i64 v, .slice P' n d, .int .i64 x1, .int .i64 x2, .int .i64 x3, .int .i64 x4] 50)).cell? ⟨w.heap.size, 0, none⟩ = some (.int .i64 v) := (b2.2 0 _ rfl).1
  have fa1_0 : ((w.alloc (.cells #[.int .i64 v, .slice P n c, .int .i64 x1, .int .i64 x2, .int .i64 x3, .int .i64 x4] 50)).alloc (.cells #[.int .i64 v, .slice P' n d, .int .i64 x1, .int .i64 x2, .int .i64 x3, .int .i64 x4] 50)).frozen? ⟨w.heap.size, 0, none⟩ = false := (b2.2 0 _ rfl).2
  have ca1_1 : ((w.alloc (.cells #[.int .i64 v, .slice P n c, .int .i64 x1, .int .i64 x2, .int .i64 x3, .int .i64 x4] 50)).alloc (.cells #[.int .i64 v, .slice P' n d, .int .i64 x1, .int .i64 x2, .int .i64 x3, .int .i64 x4] 50)).cell? ⟨w.heap.size, 1, none⟩ = some (.slice P n c) := (b2.2 1 _ rfl).1
  have fa1_1 : ((w.alloc (.cells #[.int .i64 v, .slice P n c, .int .i64 x1, .int .i64 x2, .int .i64 x3, .int .i64 x4] 50)).alloc (.cells #[.int .i64 v, .slice P' n d, .int .i64 x1, .int .i64 x2, .int .i64 x3, .int .i64 x4] 50)).frozen? ⟨w.heap.size, 1, none⟩ = false := (b2.2 1 _ rfl).2
  have ca1_2 : ((w.alloc (.cells #[.int .i64 v, .slice P n c, .int .i64 x1, .int .i64 x2, .int .i64 x3, .int .i64 x4] 50)).alloc (.cells #[.int .i64 v, .slice P' n d, .int .i64 x1, .int .i64 x2, .int .i64 x3, .int .i64 x4] 50)).cell? ⟨w.heap.size, 2, none⟩ = some (.int .i64 x1) := (b2.2 2 _ rfl).1
  have fa1_2 : ((w.alloc (.cells #[.int .i64 v, .slice P n c, .int .i64 x1, .int .i64 x2, .int .i64 x3, .int .i64 x4] 50)).alloc (.cells #[.int .i64 v, .slice P' n d, .int .i64 x1, .int .i64 x2, .int .i64 x3, .int .i64 x4] 50)).frozen? ⟨w.heap.size, 2, none⟩ = false := (b2.2 2 _ rfl).2
  have ca1_3 : ((w.alloc (.cells #[.int .i64 v, .slice P n c, .int .i64 x1, .int .i64 x2, .int .i64 x3, .int .i64 x4] 50)).alloc (.cells #[.int .i64 v, .slice P' n d, .int .i64 x1, .int .i64 x2, .int .i64 x3, .int .i64 x4] 50)).cell? ⟨w.heap.size, 3, none⟩ = some (.int .i64 x2) := (b2.2 3 _ rfl).1
  have fa1_3 : ((w.alloc (.cells #[.int .i64 v, .slice P n c, .int .i64 x1, .int .i64 x2, .int .i64 x3, .int .i64 x4] 50)).alloc (.cells #[.int .i64 v, .slice P' n d, .int .i64 x1, .int .i64 x2, .int .i64 x3, .int .i64 x4] 50)).frozen? ⟨w.heap.size, 3, none⟩ = false := (b2.2 3 _ rfl).2
  have ca1_4 : ((w.alloc (.cells #[.int .i64 v, .slice P n c, .int .i64 x1, .int .i64 x2, .int .i64 x3, .int .i64 x4] 50)).alloc (.cells #[.int .i64 v, .slice P' n d, .int .i64 x1, .int .i64 x2, .int .i64 x3, .int .i64 x4] 50)).cell? ⟨w.heap.size, 4, none⟩ = some (.int .i64 x3) := (b2.2 4 _ rfl).1
  have fa1_4 : ((w.alloc (.cells #[.int .i64 v, .slice P n c, .int .i64 x1, .int .i64 x2, .int .i64 x3, .int .i64 x4] 50)).alloc (.cells #[.int .i64 v, .slice P' n d, .int .i64 x1, .int .i64 x2, .int .i64 x3, .int .i64 x4] 50)).frozen? ⟨w.heap.size, 4, none⟩ = false := (b2.2 4 _ rfl).2
  have ca1_5 : ((w.alloc (.cells #[.int .i64 v, .slice P n c, .int .i64 x1, .int .i64 x2, .int .i64 x3, .int .i64 x4] 50)).alloc (.cells #[.int .i64 v, .slice P' n d, .int .i64 x1, .int .i64 x2, .int .i64 x3, .int .i64 x4] 50)).cell? ⟨w.heap.size, 5, none⟩ = some (.int .i64 x4) := (b2.2 5 _ rfl).1
  have fa1_5 : ((w.alloc (.cells #[.int .i64 v, .slice P n c, .int .i64 x1, .int .i64 x2, .int .i64 x3, .int .i64 x4] 50)).alloc (.cells #[.int .i64 v, .slice P' n d, .int .i64 x1, .int .i64 x2, .int .i64 x3, .int .i64 x4] 50)).frozen? ⟨w.heap.size, 5, none⟩ = false := (b2.2 5 _ rfl).2
  have ca2_0 : ((w.alloc (.cells #[.int .i64 v, .slice P n c, .int .i64 x1, .int .i64 x2, .int .i64 x3, .int .i64 x4] 50)).alloc (.cells #[.int .i64 v, .slice P' n d, .int .i64 x1, .int .i64 x2, .int .i64 x3, .int .i64 x4] 50)).cell? ⟨w.heap.size + 1, 0, none⟩ = some (.int .i64 v) := (b3.2 0 _ rfl).1
  have fa2_0 : ((w.alloc (.cells #[.int .i64 v, .slice P n c, .int .i64 x1, .int .i64 x2, .int .i64 x3, .int .i64 x4] 50)).alloc (.cells #[.int .i64 v, .slice P' n d, .int .i64 x1, .int .i64 x2, .int .i64 x3, .int .i64 x4] 50)).frozen? ⟨w.heap.size + 1, 0, none⟩ = false := (b3.2 0 _ rfl).2
  have ca2_1 : ((w.alloc (.cells #[.int .i64 v, .slice P n c, .int .i64 x1, .int .i64 x2, .int .i64 x3, .int .i64 x4] 50)).alloc (.cells #[.int .i64 v, .slice P' n d, .int .i64 x1, .int .i64 x2, .int .i64 x3, .int .i64 x4] 50)).cell? ⟨w.heap.size + 1, 1, none⟩ = some (.slice P' n d) := (b3.2 1 _ rfl).1
  have fa2_1 : ((w.alloc (.cells #[.int .i64 v, .slice P n c, .int .i64 x1, .int .i64 x2, .int .i64 x3, .int .i64 x4] 50)).alloc (.cells #[.int .i64 v, .slice P' n d, .int .i64 x1, .int .i64 x2, .int .i64 x3, .int .i64 x4] 50)).frozen? ⟨w.heap.size + 1, 1, none⟩ = false := (b3.2 1 _ rfl).2
  have ca2_2 : ((w.alloc (.cells #[.int .i64 v, .slice P n c, .int .i64 x1, .int .i64 x2, .int .i64 x3, .int .i64 x4] 50)).alloc (.cells #[.int .i64 v, .slice P' n d, .int .i64 x1, .int .i64 x2, .int .i64 x3, .int .i64 x4] 50)).cell? ⟨w.heap.size + 1, 2, none⟩ = some (.int .i64 x1) := (b3.2 2 _ rfl).1
  have fa2_2 : ((w.alloc (.cells #[.int .i64 v, .slice P n c, .int .i64 x1, .int .i64 x2, .int .i64 x3, .int .i64 x4] 50)).alloc (.cells #[.int .i64 v, .slice P' n d, .int .i64 x1, .int .i64 x2, .int .i64 x3, .int .i64 x4] 50)).frozen? ⟨w.heap.size + 1, 2, none⟩ = false := (b3.2 2 _ rfl).2
  have ca2_3 : ((w.alloc (.cells #[.int .i64 v, .slice P n c, .int .i64 x1, .int .i64 x2, .int .i64 x3, .int .i64 x4] 50)).alloc (.cells #[.int .i64 v, .slice P' n d, .int .i64 x1, .int .i64 x2, .int .i64 x3, .int .i64 x4] 50)).cell? ⟨w.heap.size + 1, 3, none⟩ = some (.int .i64 x2) := (b3.2 3 _ rfl).1
  have fa2_3 : ((w.alloc (.cells #[.int .i64 v, .slice P n c, .int .i64 x1, .int .i64 x2, .int .i64 x3, .int .i64 x4] 50)).alloc (.cells #[.int .i64 v, .slice P' n d, .int .i64 x1, .int .i64 x2, .int .i64 x3, .int .i64 x4] 50)).frozen? ⟨w.heap.size + 1, 3, none⟩ = false := (b3.2 3 _ rfl).2
  have ca2_4 : ((w.alloc (.cells #[.int .i64 v, .slice P n c, .int .i64 x1, .int .i64 x2, .int .i64 x3, .int .i64 x4] 50)).alloc (.cells #[.int .i64 v, .slice P' n d, .int .i64 x1, .int .i64 x2, .int .i64 x3, .int .i64 x4] 50)).cell? ⟨w.heap.size + 1, 4, none⟩ = some (.int .i64 x3) := (b3.2 4 _ rfl).1
  have fa2_4 : ((w.alloc (.cells #[.int .i64 v, .slice P n c, .int .i64 x1, .int .i64 x2, .int .i64 x3, .int .i64 x4] 50)).alloc (.cells #[.int .i64 v, .slice P' n d, .int .i64 x1, .int .i64 x2, .int .i64 x3, .int .i64 x4] 50)).frozen? ⟨w.heap.size + 1, 4, none⟩ = false := (b3.2 4 _ rfl).2
  have ca2_5 : ((w.alloc (.cells #[.int .i64 v, .slice P n c, .int .i64 x1, .int .i64 x2, .int .i64 x3, .int .i64 x4] 50)).alloc (.cells #[.int .i64 v, .slice P' n d, .int .i64 x1, .int .i64 x2, .int .i64 x3, .int .i64 x4] 50)).cell? ⟨w.heap.size + 1, 5, none⟩ = some (.int .i64 x4) := (b3.2 5 _ rfl).1
  have fa2_5 : ((w.alloc (.cells #[.int .i64 v, .slice P n c, .int .i64 x1, .int .i64 x2, .int .i64 x3, .int .i64 x4] 50)).alloc (.cells #[.int .i64 v, .slice P' n d, .int .i64 x1, .int .i64 x2, .int .i64 x3, .int .i64 x4] 50)).frozen? ⟨w.heap.size + 1, 5, none⟩ = false := (b3.2 5 _ rfl).2
  go_wp2_with fail
  clear ca1_0 fa1_0 ca1_1 fa1_1 ca1_2 fa1_2 ca1_3 fa1_3 ca1_4 fa1_4 ca1_5 fa1_5 ca2_0 fa2_0 ca2_1 fa2_1 ca2_2 fa2_2 ca2_3 fa2_3 ca2_4 fa2_4 ca2_5 fa2_5
  refine (eqTableS_true (h.keeps kw) (h'.keeps kw)).mono ?_
  rintro e w3 ⟨rfl, k3⟩
  replace b2 := b2.keeps k3
  replace b3 := b3.keeps k3
  replace kw := Keeps.trans kw k3
  have lt4 := b3.lt
  have sz5 := kw.size
  clear k3
  have ca6_0 : w3.cell? ⟨w.heap.size, 0, none⟩ = some (.int .i64 v) := (b2.2 0 _ rfl).1
  have fa6_0 : w3.frozen? ⟨w.heap.size, 0, none⟩ = false := (b2.2 0 _ rfl).2
  have ca6_1 : w3.cell? ⟨w.heap.size, 1, none⟩ = some (.slice P n c) := (b2.2 1 _ rfl).1
  have fa6_1 : w3.frozen? ⟨w.heap.size, 1, none⟩ = false := (b2.2 1 _ rfl).2
  have ca6_2 : w3.cell? ⟨w.heap.size, 2, none⟩ = some (.int .i64 x1) := (b2.2 2 _ rfl).1
  have fa6_2 : w3.frozen? ⟨w.heap.size, 2, none⟩ = false := (b2.2 2 _ rfl).2
  have ca6_3 : w3.cell? ⟨w.heap.size, 3, none⟩ = some (.int .i64 x2) := (b2.2 3 _ rfl).1
  have fa6_3 : w3.frozen? ⟨w.heap.size, 3, none⟩ = false := (b2.2 3 _ rfl).2
  have ca6_4 : w3.cell? ⟨w.heap.size, 4, none⟩ = some (.int .i64 x3) := (b2.2 4 _ rfl).1
  have fa6_4 : w3.frozen? ⟨w.heap.size, 4, none⟩ = false := (b2.2 4 _ rfl).2
  have ca6_5 : w3.cell? ⟨w.heap.size, 5, none⟩ = some (.int .i64 x4) := (b2.2 5 _ rfl).1
  have fa6_5 : w3.frozen? ⟨w.heap.size, 5, none⟩ = false := (b2.2 5 _ rfl).2
  have ca7_0 : w3.cell? ⟨w.heap.size + 1, 0, none⟩ = some (.int .i64 v) := (b3.2 0 _ rfl).1
  have fa7_0 : w3.frozen? ⟨w.heap.size + 1, 0, none⟩ = false := (b3.2 0 _ rfl).2
  have ca7_1 : w3.cell? ⟨w.heap.size + 1, 1, none⟩ = some (.slice P' n d) := (b3.2 1 _ rfl).1
  have fa7_1 : w3.frozen? ⟨w.heap.size + 1, 1, none⟩ = false := (b3.2 1 _ rfl).2
  have ca7_2 : w3.cell? ⟨w.heap.size + 1, 2, none⟩ = some (.int .i64 x1) := (b3.2 2 _ rfl).1
  have fa7_2 : w3.frozen? ⟨w.heap.size + 1, 2, none⟩ = false := (b3.2 2 _ rfl).2
  have ca7_3 : w3.cell? ⟨w.heap.size + 1, 3, none⟩ = some (.int .i64 x2) := (b3.2 3 _ rfl).1
  have fa7_3 : w3.frozen? ⟨w.heap.size + 1, 3, none⟩ = false := (b3.2 3 _ rfl).2
  have ca7_4 : w3.cell? ⟨w.heap.size + 1, 4, none⟩ = some (.int .i64 x3) := (b3.2 4 _ rfl).1
  have fa7_4 : w3.frozen? ⟨w.heap.size + 1, 4, none⟩ = false := (b3.2 4 _ rfl).2
  have ca7_5 : w3.cell? ⟨w.heap.size + 1, 5, none⟩ = some (.int .i64 x4) := (b3.2 5 _ rfl).1
  have fa7_5 : w3.frozen? ⟨w.heap.size + 1, 5, none⟩ = false := (b3.2 5 _ rfl).2
  go_wp2_with fail
  clear ca6_0 fa6_0 ca6_1 fa6_1 ca6_2 fa6_2 ca6_3 fa6_3 ca6_4 fa6_4 ca6_5 fa6_5 ca7_0 fa7_0 ca7_1 fa7_1 ca7_2 fa7_2 ca7_3 fa7_3 ca7_4 fa7_4 ca7_5 fa7_5
  refine (eqLoss_true).mono ?_
  rintro e w8 ⟨rfl, k8⟩
  replace b2 := b2.keeps k8
  replace b3 := b3.keeps k8
  replace kw := Keeps.trans kw k8
  have lt9 := b3.lt
  have sz10 := kw.size
  clear k8
  have ca11_0 : w8.cell? ⟨w.heap.size, 0, none⟩ = some (.int .i64 v) := (b2.2 0 _ rfl).1
  have fa11_0 : w8.frozen? ⟨w.heap.size, 0, none⟩ = false := (b2.2 0 _ rfl).2
  have ca11_1 : w8.cell? ⟨w.heap.size, 1, none⟩ = some (.slice P n c) := (b2.2 1 _ rfl).1
  have fa11_1 : w8.frozen? ⟨w.heap.size, 1, none⟩ = false := (b2.2 1 _ rfl).2
  have ca11_2 : w8.cell? ⟨w.heap.size, 2, none⟩ = some (.int .i64 x1) := (b2.2 2 _ rfl).1
  have fa11_2 : w8.frozen? ⟨w.heap.size, 2, none⟩ = false := (b2.2 2 _ rfl).2
  have ca11_3 : w8.cell? ⟨w.heap.size, 3, none⟩ = some (.int .i64 x2) := (b2.2 3 _ rfl).1
  have fa11_3 : w8.frozen? ⟨w.heap.size, 3, none⟩ = false := (b2.2 3 _ rfl).2
  have ca11_4 : w8.cell? ⟨w.heap.size, 4, none⟩ = some (.int .i64 x3) := (b2.2 4 _ rfl).1
  have fa11_4 : w8.frozen? ⟨w.heap.size, 4, none⟩ = false := (b2.2 4 _ rfl).2
  have ca11_5 : w8.cell? ⟨w.heap.size, 5, none⟩ = some (.int .i64 x4) := (b2.2 5 _ rfl).1
  have fa11_5 : w8.frozen? ⟨w.heap.size, 5, none⟩ = false := (b2.2 5 _ rfl).2
  have ca12_0 : w8.cell? ⟨w.heap.size + 1, 0, none⟩ = some (.int .i64 v) := (b3.2 0 _ rfl).1
  have fa12_0 : w8.frozen? ⟨w.heap.size + 1, 0, none⟩ = false := (b3.2 0 _ rfl).2
  have ca12_1 : w8.cell? ⟨w.heap.size + 1, 1, none⟩ = some (.slice P' n d) := (b3.2 1 _ rfl).1
  have fa12_1 : w8.frozen? ⟨w.heap.size + 1, 1, none⟩ = false := (b3.2 1 _ rfl).2
  have ca12_2 : w8.cell? ⟨w.heap.size + 1, 2, none⟩ = some (.int .i64 x1) := (b3.2 2 _ rfl).1
  have fa12_2 : w8.frozen? ⟨w.heap.size + 1, 2, none⟩ = false := (b3.2 2 _ rfl).2
  have ca12_3 : w8.cell? ⟨w.heap.size + 1, 3, none⟩ = some (.int .i64 x2) := (b3.2 3 _ rfl).1
  have fa12_3 : w8.frozen? ⟨w.heap.size + 1, 3, none⟩ = false := (b3.2 3 _ rfl).2
  have ca12_4 : w8.cell? ⟨w.heap.size + 1, 4, none⟩ = some (.int .i64 x3) := (b3.2 4 _ rfl).1
  have fa12_4 : w8.frozen? ⟨w.heap.size + 1, 4, none⟩ = false := (b3.2 4 _ rfl).2
  have ca12_5 : w8.cell? ⟨w.heap.size + 1, 5, none⟩ = some (.int .i64 x4) := (b3.2 5 _ rfl).1
  have fa12_5 : w8.frozen? ⟨w.heap.size + 1, 5, none⟩ = false := (b3.2 5 _ rfl).2
  go_wp2_with fail
  clear ca11_0 fa11_0 ca11_1 fa11_1 ca11_2 fa11_2 ca11_3 fa11_3 ca11_4 fa11_4 ca11_5 fa11_5 ca12_0 fa12_0 ca12_1 fa12_1 ca12_2 fa12_2 ca12_3 fa12_3 ca12_4 fa12_4 ca12_5 fa12_5
  go_ret
  exact ⟨rfl, kw⟩
set_option maxRecDepth 100000 in
set_option maxHeartbeats 3200000 in
theorem szReleaseS_any {A : Option Addr} {n c : Nat} {l : List RL} {left : Int} {w : World} (h : RelsArg w A n l) (h0 : 0 ≤ left) (h1 : left ≤ 1048576) :
    Calls Tryz.prog 7 #[.slice A n c, .int .i64 left] w fun e w' => e = .returned (.int .i64 (szQ left (n + rlsz l n))) ∧ Keeps w w' := by
  have hm := h.le
  unfold maxLen at hm
  have hl := h.len
  have HN := hid (fun h => szQ_no (left := left) (s := n + rlsz l n) h)
  have HY := hid (fun h => szQ_ok (left := left) (s := n + rlsz l n) h)
  by_cases hn : left - (n : Int) < 0
  · go_enter Tryz.func7, Tryz.ntmps7
    go_wp2
    go_ret
    exact ⟨ret_int (HN.out (by omega)).symm, keeps_refl _⟩
  have hn2 : n ≤ 1048576 := by omega
  have HS := hid (fun k (hk : k < n) => rlsz_succ (l := l) (k := k) (by omega))
  have HM := hid (fun k (hk : k ≤ n) => rlsz_mono (l := l) (i := k) (j := n) hk (by omega))
  have HZ := hid (rlsz_zero l)
  clear hl
  go_enter Tryz.func7, Tryz.ntmps7
  go_wp2_with fail
  go_loopw [1, 5] (fun q i wr => ∃ (k : Nat) (z : Int), k ≤ n ∧ i = .int .i64 k ∧ q = .int .i64 z ∧ Hid (z = left - n - rlsz l k) ∧ (0 ≤ z ∧ z ≤ 1048576) ∧ Keeps w wr) (fun _ i _ => n - (intOf i).toNat)
  case atStart => exact ⟨0, _, Nat.zero_le _, rfl, rfl, hid (by rw [HZ.out]; omega), by omega, keeps_refl _⟩
  case round =>
    obtain ⟨k, z, hk, rfl, rfl, HE, hz, hq⟩ := hrel
    by_cases hlt : k < n
    · obtain ⟨b, off, v, P, np, cp, x1, x2, x3, x4, pl, rfl, _, hc0, hc1, hc2, hc3, hc4, hc5, hpl, hx⟩ := (h.keeps hq).at_ hlt
      have hi1 : (k : Int) < (n : Int) := by omega
      go_wp2_with fail
      refine (szRelease_any (c := cp) (x1 := x1) (x2 := x2) (x3 := x3) (x4 := x4) hpl hz.1 hz.2).mono ?_
      rintro e w1 ⟨rfl, k1⟩
      have hq1 := hid (hq.trans k1)
      clear hc0 hc1 hc2 hc3 hc4 hc5 k1 hq
      by_cases h2 : ((np + tsz pl np : Nat) : Int) ≤ z
      · have HV := hid (show z - ((np + tsz pl np : Nat) : Int) = left - n - rlsz l (k + 1) by have := HS.out k hlt; have := hx.out; have := HE.out; omega)
        rw [szQ_ok h2]
        obtain ⟨z', hz'⟩ : ∃ z', z - ((np + tsz pl np : Nat) : Int) = z' := ⟨_, rfl⟩
        rw [hz'] at HV ⊢
        have hz9 : 0 ≤ z' ∧ z' ≤ 1048576 := by omega
        have hz8 : ¬ z' < 0 := by omega
        clear hz'
        go_wp2_with fail
        go_roundw
        case rel => exact ⟨k + 1, z', by omega, by go_num, rfl, HV, hz9, hq1.out⟩
        case measure => simp [intOf]; omega
      · rw [szQ_no h2]
        go_wp2
        go_ret
        exact ⟨ret_int (HN.out (by have := HS.out k hlt; have := hx.out; have := HE.out; have := HM.out (k + 1) hlt; omega)).symm, hq1.out⟩
    · obtain rfl : k = n := by omega
      go_wp2
      go_ret
      exact ⟨ret_int (by rw [HY.out (by have := HE.out; omega)]; have := HE.out; omega), hq⟩
theorem info_rel : (Tryz.prog.info? 50).map (fun i => (i.zero, i.size, i.bytes)) = some (some (.agg #[.int .i64 0, .slice none 0 0, .int .i64 0, .int .i64 0, .int .i64 0, .int .i64 0]), 6, 64) := by kernel_rfl
theorem make_rels (n : Nat) (hn : n ≤ 67108864) (w : World) :
    (Instr.makeSlice 36 (.int .i64 (n : Int)) (.int .i64 (n : Int))).run Tryz.prog w = .ok (.slice (some ⟨w.heap.size, 0, none⟩) n n) (w.alloc (.cells (madeCells #[.int .i64 0, .slice none 0 0, .int .i64 0, .int .i64 0, .int .i64 0, .int .i64 0] (n * 6)) 50)) := by
  obtain ⟨i, hi, hz0, hz1, hz2⟩ := info_parts info_rel
  have h := run_make_rowN (P := Tryz.prog) 36 50 i _ Tryz.underlying36 hi hz0 .i64 .i64 n n (Nat.le_refl _) (by rw [hz2]; omega) (by omega) w
  rw [hz1] at h
  simpa [Value.cells] using h
/-- A release is stored at row k. -/
theorem FillD.rel {w w1 : World} {g n k np : Nat} {T : TypeId} {l : List RL} {v x1 x2 x3 x4 : Int} {pl : List TT} {P1 : Option Addr} (h : FillD dR 6 rl0 w g n T l k) (hk : k < n) (k1 : Keeps w w1) (e : (v, pl, x1, x2, x3, x4) = l.getD k rl0)
    (mp : Tabs true true w1 w.heap.size w1.heap.size P1 np pl) : FillD dR 6 rl0 ((((((w1.setCell ⟨g, k * 6, none⟩ (.int .i64 v)).setCell ⟨g, k * 6 + 1, none⟩ (.slice P1 np np)).setCell ⟨g, k * 6 + 2, none⟩ (.int .i64 x1)).setCell ⟨g, k * 6 + 3, none⟩ (.int .i64 x2)).setCell ⟨g, k * 6 + 4, none⟩ (.int .i64 x3)).setCell ⟨g, k * 6 + 5, none⟩ (.int .i64 x4)) g n T l (k + 1) := by
  have hg := h.lt
  obtain ⟨cs, ho, hc, h1⟩ := h.keeps k1
  have ho1 := (OwnC.set_ (OwnC.set_ (OwnC.set_ (OwnC.set_ (OwnC.set_ (OwnC.set_ ho (k * 6) (.int .i64 v)) (k * 6 + 1) (.slice P1 np np)) (k * 6 + 2) (.int .i64 x1)) (k * 6 + 3) (.int .i64 x2)) (k * 6 + 4) (.int .i64 x3)) (k * 6 + 5) (.int .i64 x4))
  have hr := Nat.mul_le_mul_right 6 (show k + 1 ≤ n from hk)
  rw [Nat.succ_mul] at hr
  have hs := k1.size
  obtain rfl := mp.len
  refine FillD.put (w := w1) (cs := cs) h1 ?_ (by simp [World.setCell]) ho1 (by simpa using hc) (fun j hj => ?_) (fun i hi => ?_)
  · exact (((((fr_one _).trans (fr_one _)).trans (fr_one _)).trans (fr_one _)).trans (fr_one _)).trans (fr_one _)
  · rw [getD_set_other (by omega), getD_set_other (by omega), getD_set_other (by omega), getD_set_other (by omega), getD_set_other (by omega), getD_set_other (by omega)]
  · rw [← e]
    match i, hi with
    | 0, _ =>
      change Rg _ _ _ _ _ _ (List.getD _ (k * 6) undef)
      rw [getD_set_other (by omega), getD_set_other (by omega), getD_set_other (by omega), getD_set_other (by omega), getD_set_other (by omega), getD_set_same (by omega)]
      exact Rg.of_i _
    | 1, _ =>
      rw [getD_set_other (by omega), getD_set_other (by omega), getD_set_other (by omega), getD_set_other (by omega), getD_set_same (by simp; omega)]
      exact (RgS.widen mp.r (by omega) (Nat.le_refl _) (Nat.le_refl _)).rg
    | 2, _ =>
      rw [getD_set_other (by omega), getD_set_other (by omega), getD_set_other (by omega), getD_set_same (by simp; omega)]
      exact Rg.of_i _
    | 3, _ =>
      rw [getD_set_other (by omega), getD_set_other (by omega), getD_set_same (by simp; omega)]
      exact Rg.of_i _
    | 4, _ =>
      rw [getD_set_other (by omega), getD_set_same (by simp; omega)]
      exact Rg.of_i _
    | 5, _ =>
      rw [getD_set_same (by simp; omega)]
      exact Rg.of_i _
set_option maxRecDepth 100000 in
set_option maxHeartbeats 3200000 in
theorem toReleaseS_any {A : Option Addr} {lo hi n c : Nat} {un : Bool} {l : List RL} {w : World} (h : Rels true un w lo hi A n l) :
    Calls Tryz.prog 11 #[.slice A n c] w fun e w' => ∃ A', e = .returned (.slice A' n n) ∧ Rels true true w' w.heap.size w'.heap.size A' n l ∧ Keeps w w' := by
  have hn := h.le
  have hmk := make_rels n hn
  have hl := hid h.len
  have hsm := hid h.sm
  go_enter Tryz.func11, Tryz.ntmps11
  go_wp2_with fail
  clear hmk
  go_loopw [4] (fun i wr => ∃ k : Nat, k ≤ n ∧ i = .int .i64 k ∧ FillD dR 6 rl0 wr w.heap.size n 50 l k ∧ Keeps w wr) (fun i _ => n - (intOf i).toNat)
  case atStart => exact ⟨0, Nat.zero_le _, rfl, FillD.made w n _ _ l, keeps_alloc _ _⟩
  case round =>
    obtain ⟨k, hk, rfl, hown, hkeep⟩ := hrel
    have hgs := hown.lt
    by_cases hlt : k < n
    · obtain ⟨b, off, v, P, np, cp, x1, x2, x3, x4, pl, rfl, _, _, hc0, hc1, hc2, hc3, hc4, hc5, hpl, hx⟩ := (h.keeps hkeep).at_ hlt
      have hi1 : (k : Int) < (n : Int) := by omega
      go_wp2_with fail
      refine (toRelease_any hpl).mono ?_
      rintro e w1 ⟨P1, rfl, mp, k1⟩
      have HF := hid (hown.rel hlt k1 hx.out mp)
      obtain ⟨cs, ho, hcl, _⟩ := hown
      have ho1 := ho.keeps k1
      have d0 := ho1.cell (k * 6) (by omega)
      have f0 := ho1.frozen (k * 6)
      have d1 := ho1.cell (k * 6 + 1) (by omega)
      have f1 := ho1.frozen (k * 6 + 1)
      have d2 := ho1.cell (k * 6 + 2) (by omega)
      have f2 := ho1.frozen (k * 6 + 2)
      have d3 := ho1.cell (k * 6 + 3) (by omega)
      have f3 := ho1.frozen (k * 6 + 3)
      have d4 := ho1.cell (k * 6 + 4) (by omega)
      have f4 := ho1.frozen (k * 6 + 4)
      have d5 := ho1.cell (k * 6 + 5) (by omega)
      have f5 := ho1.frozen (k * 6 + 5)
      have H2 := hid (Below.setCell (Below.setCell (Below.setCell (Below.setCell (Below.setCell (Below.setCell (Keeps.trans hkeep k1) (p := ⟨w.heap.size, k * 6, none⟩) (Nat.le_refl _) (.int .i64 v)) (p := ⟨w.heap.size, k * 6 + 1, none⟩) (Nat.le_refl _) (.slice P1 np np)) (p := ⟨w.heap.size, k * 6 + 2, none⟩) (Nat.le_refl _) (.int .i64 x1)) (p := ⟨w.heap.size, k * 6 + 3, none⟩) (Nat.le_refl _) (.int .i64 x2)) (p := ⟨w.heap.size, k * 6 + 4, none⟩) (Nat.le_refl _) (.int .i64 x3)) (p := ⟨w.heap.size, k * 6 + 5, none⟩) (Nat.le_refl _) (.int .i64 x4))
      clear ho ho1 hkeep k1 mp hpl hc0 hc1 hc2 hc3 hc4 hc5 hx
      go_wp2_with fail
      go_roundw
      case rel => exact ⟨k + 1, by omega, by go_num, HF.out, H2.out⟩
      case measure => simp [intOf]; omega
    · obtain rfl : k = n := by omega
      go_wp2
      go_ret
      exact ⟨_, rfl, ⟨hown.rgs dR_len hl.out, hl.out, hn, hsm.out⟩, hkeep⟩
set_option maxRecDepth 100000 in
set_option maxHeartbeats 6400000 in
theorem eqReleaseS_true {A B : Option Addr} {lo hi lo' hi' n n' c c' : Nat} {un un' : Bool} {l : List RL} {w : World} (ha : Rels true un w lo hi A n l) (hb : Rels true un' w lo' hi' B n' l) :
    Calls Tryz.prog 15 #[.slice A n c, .slice B n' c'] w fun e w' => e = .returned (.bool true) ∧ Keeps w w' := by
  obtain rfl : n = n' := ha.len.symm.trans hb.len
  have hn := ha.le
  have hbb : ((n : Int) != n) = false := by simp
  go_enter Tryz.func15, Tryz.ntmps15
  go_wp2_with fail
  go_loopw [5] (fun i wr => ∃ k : Nat, k ≤ n ∧ i = .int .i64 k ∧ Keeps w wr) (fun i _ => n - (intOf i).toNat)
  case atStart => exact ⟨0, Nat.zero_le _, rfl, keeps_refl _⟩
  case round =>
    obtain ⟨k, hk, rfl, hq⟩ := hrel
    by_cases hlt : k < n
    · obtain ⟨b, off, v, P, np, cp, x1, x2, x3, x4, pl, rfl, _, _, hc0, hc1, hc2, hc3, hc4, hc5, hpl, hx⟩ := (ha.keeps hq).at_ hlt
      obtain ⟨b', off', v', P', np', cp', x1', x2', x3', x4', pl', rfl, _, _, hc0', hc1', hc2', hc3', hc4', hc5', hpl', hx'⟩ := (hb.keeps hq).at_ hlt
      have e0 := hx.out.trans hx'.out.symm
      obtain rfl : v = v' := congrArg (fun p : RL => p.1) e0
      obtain rfl : pl = pl' := congrArg (fun p : RL => p.2.1) e0
      obtain rfl : x1 = x1' := congrArg (fun p : RL => p.2.2.1) e0
      obtain rfl : x2 = x2' := congrArg (fun p : RL => p.2.2.2.1) e0
      obtain rfl : x3 = x3' := congrArg (fun p : RL => p.2.2.2.2.1) e0
      obtain rfl : x4 = x4' := congrArg (fun p : RL => p.2.2.2.2.2) e0
      obtain rfl : np = np' := hpl.len.symm.trans hpl'.len
      clear hx hx' e0
      have hi1 : (k : Int) < (n : Int) := by omega
      have kS := hid (show ∀ w', Keeps wr w' → (w'.cell? ⟨b, off + k * 6, none⟩ = some (.int .i64 v) ∧ w'.cell? ⟨b, off + k * 6 + 1, none⟩ = some (.slice P np cp) ∧ w'.cell? ⟨b, off + k * 6 + 2, none⟩ = some (.int .i64 x1) ∧ w'.cell? ⟨b, off + k * 6 + 3, none⟩ = some (.int .i64 x2) ∧ w'.cell? ⟨b, off + k * 6 + 4, none⟩ = some (.int .i64 x3) ∧ w'.cell? ⟨b, off + k * 6 + 5, none⟩ = some (.int .i64 x4) ∧ w'.cell? ⟨b', off' + k * 6, none⟩ = some (.int .i64 v) ∧ w'.cell? ⟨b', off' + k * 6 + 1, none⟩ = some (.slice P' np cp') ∧ w'.cell? ⟨b', off' + k * 6 + 2, none⟩ = some (.int .i64 x1) ∧ w'.cell? ⟨b', off' + k * 6 + 3, none⟩ = some (.int .i64 x2) ∧ w'.cell? ⟨b', off' + k * 6 + 4, none⟩ = some (.int .i64 x3) ∧ w'.cell? ⟨b', off' + k * 6 + 5, none⟩ = some (.int .i64 x4)) from fun w' q => ⟨cell_keeps hc0 q, cell_keeps hc1 q, cell_keeps hc2 q, cell_keeps hc3 q, cell_keeps hc4 q, cell_keeps hc5 q, cell_keeps hc0' q, cell_keeps hc1' q, cell_keeps hc2' q, cell_keeps hc3' q, cell_keeps hc4' q, cell_keeps hc5' q⟩)
      go_wp2_with fail
      go_region_held3 (fun w' => w'.cell? ⟨b, off + k * 6, none⟩ = some (.int .i64 v) ∧ w'.cell? ⟨b, off + k * 6 + 1, none⟩ = some (.slice P np cp) ∧ w'.cell? ⟨b, off + k * 6 + 2, none⟩ = some (.int .i64 x1) ∧ w'.cell? ⟨b, off + k * 6 + 3, none⟩ = some (.int .i64 x2) ∧ w'.cell? ⟨b, off + k * 6 + 4, none⟩ = some (.int .i64 x3) ∧ w'.cell? ⟨b, off + k * 6 + 5, none⟩ = some (.int .i64 x4) ∧ w'.cell? ⟨b', off' + k * 6, none⟩ = some (.int .i64 v) ∧ w'.cell? ⟨b', off' + k * 6 + 1, none⟩ = some (.slice P' np cp') ∧ w'.cell? ⟨b', off' + k * 6 + 2, none⟩ = some (.int .i64 x1) ∧ w'.cell? ⟨b', off' + k * 6 + 3, none⟩ = some (.int .i64 x2) ∧ w'.cell? ⟨b', off' + k * 6 + 4, none⟩ = some (.int .i64 x3) ∧ w'.cell? ⟨b', off' + k * 6 + 5, none⟩ = some (.int .i64 x4)) (first | with_reducible exact kS.out _ (keeps_d0 _) | with_reducible exact kS.out _ k1 | go_keep)
        ((go_at_call 44; refine (eqRelease_true (hpl.keeps (keeps_d0 wr)) (hpl'.keeps (keeps_d0 wr))).mono ?_; rintro e w1 ⟨rfl, k0⟩; have k1 : Keeps wr w1 := keeps_d k0; clear k0))
      have H2 := hid (hq.trans k1)
      clear k1 hq kS
      go_wp2
      go_roundw
      case rel => exact ⟨k + 1, by omega, by go_num, H2.out⟩
      case measure => simp [intOf]; omega
    · go_wp2
      go_ret
      exact ⟨rfl, hq⟩
end Go.Proofs.YtlkjhkkfdmjfcaaGreatDoor
