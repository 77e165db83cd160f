/- The helpers of the laws over records and slices of them: walks. -/
import Derived.Test.YtohjkpopbmmliaaGreatRec
import Derived.Test.YtohjkpopbmmliaaGreatBl
import Derived.Deep.RegionHeld3
namespace Go.Proofs.YtohjkpopbmmliaaGreat
open Go.RowKit
set_option linter.unusedVariables false
set_option linter.unusedSimpArgs false

set_option maxRecDepth 100000 in
set_option maxHeartbeats 1600000 in
theorem szRecord_any {B : Option Addr} {m c : Nat} {x y : Int} {w : World} {left : Int} (hm : m ≤ maxLen) (h0 : 0 ≤ left) (h1 : left ≤ 1048576) :
    Calls Tryz.prog 68 #[.agg #[.int .i64 x, .int .i64 y, .slice B m c], .int .i64 left] w fun e w' => e = .returned (.int .i64 (szI left m)) ∧ Keeps w w' := by
  by_cases h : left - (m : Int) < 0
  · have HE := hid (szI_no (left := left) (n := m) (by omega))
    go_enter Tryz.func68, Tryz.ntmps68
    have kw := keeps_refl w
    replace kw := Keeps.trans kw (keeps_alloc w (.cells #[.int .i64 x, .int .i64 y, .slice B m c] 115))
    have b2 : Bl (w.alloc (.cells #[.int .i64 x, .int .i64 y, .slice B m c] 115)) w.heap.size [.int .i64 x, .int .i64 y, .slice B m c] := Bl.new' (by simp) (by simp)
    have ca1_0 : (w.alloc (.cells #[.int .i64 x, .int .i64 y, .slice B m c] 115)).cell? ⟨w.heap.size, 0, none⟩ = some (.int .i64 x) := (b2.2 0 _ rfl).1
    have fa1_0 : (w.alloc (.cells #[.int .i64 x, .int .i64 y, .slice B m c] 115)).frozen? ⟨w.heap.size, 0, none⟩ = false := (b2.2 0 _ rfl).2
    have ca1_1 : (w.alloc (.cells #[.int .i64 x, .int .i64 y, .slice B m c] 115)).cell? ⟨w.heap.size, 1, none⟩ = some (.int .i64 y) := (b2.2 1 _ rfl).1
    have fa1_1 : (w.alloc (.cells #[.int .i64 x, .int .i64 y, .slice B m c] 115)).frozen? ⟨w.heap.size, 1, none⟩ = false := (b2.2 1 _ rfl).2
    have ca1_2 : (w.alloc (.cells #[.int .i64 x, .int .i64 y, .slice B m c] 115)).cell? ⟨w.heap.size, 2, none⟩ = some (.slice B m c) := (b2.2 2 _ rfl).1
    have fa1_2 : (w.alloc (.cells #[.int .i64 x, .int .i64 y, .slice B m c] 115)).frozen? ⟨w.heap.size, 2, none⟩ = false := (b2.2 2 _ rfl).2
    go_wp2_with fail
    clear ca1_0 fa1_0 ca1_1 fa1_1 ca1_2 fa1_2
    refine (szIntS_any _ _ _ left _ hm h0 h1).mono ?_
    rintro e w' ⟨rfl, rfl⟩
    rw [HE.out]
    go_wp2_with fail
    go_ret
    exact ⟨ret_int (by rw [HE.out]), kw⟩
  · have HE := hid (szI_ok (left := left) (n := m) (by omega))
    go_enter Tryz.func68, Tryz.ntmps68
    have kw := keeps_refl w
    replace kw := Keeps.trans kw (keeps_alloc w (.cells #[.int .i64 x, .int .i64 y, .slice B m c] 115))
    have b2 : Bl (w.alloc (.cells #[.int .i64 x, .int .i64 y, .slice B m c] 115)) w.heap.size [.int .i64 x, .int .i64 y, .slice B m c] := Bl.new' (by simp) (by simp)
    have ca1_0 : (w.alloc (.cells #[.int .i64 x, .int .i64 y, .slice B m c] 115)).cell? ⟨w.heap.size, 0, none⟩ = some (.int .i64 x) := (b2.2 0 _ rfl).1
    have fa1_0 : (w.alloc (.cells #[.int .i64 x, .int .i64 y, .slice B m c] 115)).frozen? ⟨w.heap.size, 0, none⟩ = false := (b2.2 0 _ rfl).2
    have ca1_1 : (w.alloc (.cells #[.int .i64 x, .int .i64 y, .slice B m c] 115)).cell? ⟨w.heap.size, 1, none⟩ = some (.int .i64 y) := (b2.2 1 _ rfl).1
    have fa1_1 : (w.alloc (.cells #[.int .i64 x, .int .i64 y, .slice B m c] 115)).frozen? ⟨w.heap.size, 1, none⟩ = false := (b2.2 1 _ rfl).2
    have ca1_2 : (w.alloc (.cells #[.int .i64 x, .int .i64 y, .slice B m c] 115)).cell? ⟨w.heap.size, 2, none⟩ = some (.slice B m c) := (b2.2 2 _ rfl).1
    have fa1_2 : (w.alloc (.cells #[.int .i64 x, .int .i64 y, .slice B m c] 115)).frozen? ⟨w.heap.size, 2, none⟩ = false := (b2.2 2 _ rfl).2
    go_wp2_with fail
    clear ca1_0 fa1_0 ca1_1 fa1_1 ca1_2 fa1_2
    refine (szIntS_any _ _ _ left _ hm h0 h1).mono ?_
    rintro e w' ⟨rfl, rfl⟩
    rw [HE.out]
    go_wp2_with fail
    go_ret
    exact ⟨ret_int (by rw [HE.out]), kw⟩
/-- A record of one's own. -/
def RecRes (w : World) (x y : Int) (m : Nat) (zs : List Int) (e : Ending) (w' : World) : Prop :=
  ∃ B', e = .returned (.agg #[.int .i64 x, .int .i64 y, .slice B' m m]) ∧ Mine w' w.heap.size w'.heap.size B' m zs ∧ Keeps w w'
set_option maxRecDepth 100000 in
set_option maxHeartbeats 1600000 in
theorem toRecord_any {B : Option Addr} {m c : Nat} {x y : Int} {w : World} {lo hi : Nat} {zs : List Int} (h : Ints w lo hi B m zs) :
    Calls Tryz.prog 76 #[.agg #[.int .i64 x, .int .i64 y, .slice B m c]] w (RecRes w x y m zs) := by
  go_enter Tryz.func76, Tryz.ntmps76
  have kw := keeps_refl w
  replace kw := Keeps.trans kw (keeps_alloc w (.cells #[.int .i64 x, .int .i64 y, .slice B m c] 115))
  have b1 : Bl (w.alloc (.cells #[.int .i64 x, .int .i64 y, .slice B m c] 115)) w.heap.size [.int .i64 x, .int .i64 y, .slice B m c] := Bl.new' (by simp) (by simp)
  replace b1 := b1.keeps (keeps_alloc (w.alloc (.cells #[.int .i64 x, .int .i64 y, .slice B m c] 115)) (.cells #[.int .i64 0, .int .i64 0, .slice none 0 0] 128))
  replace kw := Keeps.trans kw (keeps_alloc (w.alloc (.cells #[.int .i64 x, .int .i64 y, .slice B m c] 115)) (.cells #[.int .i64 0, .int .i64 0, .slice none 0 0] 128))
  have b2 : Bl ((w.alloc (.cells #[.int .i64 x, .int .i64 y, .slice B m c] 115)).alloc (.cells #[.int .i64 0, .int .i64 0, .slice none 0 0] 128)) (w.heap.size + 1) [.int .i64 0, .int .i64 0, .slice none 0 0] := Bl.new' (by simp) (by simp)
  replace b1 := b1.keeps (keeps_alloc ((w.alloc (.cells #[.int .i64 x, .int .i64 y, .slice B m c] 115)).alloc (.cells #[.int .i64 0, .int .i64 0, .slice none 0 0] 128)) (.cells #[.int .i64 x, .int .i64 y, .slice none 0 0] 128))
  replace b2 := b2.keeps (keeps_alloc ((w.alloc (.cells #[.int .i64 x, .int .i64 y, .slice B m c] 115)).alloc (.cells #[.int .i64 0, .int .i64 0, .slice none 0 0] 128)) (.cells #[.int .i64 x, .int .i64 y, .slice none 0 0] 128))
  replace kw := Keeps.trans kw (keeps_alloc ((w.alloc (.cells #[.int .i64 x, .int .i64 y, .slice B m c] 115)).alloc (.cells #[.int .i64 0, .int .i64 0, .slice none 0 0] 128)) (.cells #[.int .i64 x, .int .i64 y, .slice none 0 0] 128))
  have b3 : Bl (((w.alloc (.cells #[.int .i64 x, .int .i64 y, .slice B m c] 115)).alloc (.cells #[.int .i64 0, .int .i64 0, .slice none 0 0] 128)).alloc (.cells #[.int .i64 x, .int .i64 y, .slice none 0 0] 128)) (w.heap.size + 1 + 1) [.int .i64 x, .int .i64 y, .slice none 0 0] := Bl.new' (by simp) (by simp)
  have ca1_0 : (((w.alloc (.cells #[.int .i64 x, .int .i64 y, .slice B m c] 115)).alloc (.cells #[.int .i64 0, .int .i64 0, .slice none 0 0] 128)).alloc (.cells #[.int .i64 x, .int .i64 y, .slice none 0 0] 128)).cell? ⟨w.heap.size, 0, none⟩ = some (.int .i64 x) := (b1.2 0 _ rfl).1
  have fa1_0 : (((w.alloc (.cells #[.int .i64 x, .int .i64 y, .slice B m c] 115)).alloc (.cells #[.int .i64 0, .int .i64 0, .slice none 0 0] 128)).alloc (.cells #[.int .i64 x, .int .i64 y, .slice none 0 0] 128)).frozen? ⟨w.heap.size, 0, none⟩ = false := (b1.2 0 _ rfl).2
  have ca1_1 : (((w.alloc (.cells #[.int .i64 x, .int .i64 y, .slice B m c] 115)).alloc (.cells #[.int .i64 0, .int .i64 0, .slice none 0 0] 128)).alloc (.cells #[.int .i64 x, .int .i64 y, .slice none 0 0] 128)).cell? ⟨w.heap.size, 1, none⟩ = some (.int .i64 y) := (b1.2 1 _ rfl).1
  have fa1_1 : (((w.alloc (.cells #[.int .i64 x, .int .i64 y, .slice B m c] 115)).alloc (.cells #[.int .i64 0, .int .i64 0, .slice none 0 0] 128)).alloc (.cells #[.int .i64 x, .int .i64 y, .slice none 0 0] 128)).frozen? ⟨w.heap.size, 1, none⟩ = false := (b1.2 1 _ rfl).2
  have ca1_2 : (((w.alloc (.cells #[.int .i64 x, .int .i64 y, .slice B m c] 115)).alloc (.cells #[.int .i64 0, .int .i64 0, .slice none 0 0] 128)).alloc (.cells #[.int .i64 x, .int .i64 y, .slice none 0 0] 128)).cell? ⟨w.heap.size, 2, none⟩ = some (.slice B m c) := (b1.2 2 _ rfl).1
  have fa1_2 : (((w.alloc (.cells #[.int .i64 x, .int .i64 y, .slice B m c] 115)).alloc (.cells #[.int .i64 0, .int .i64 0, .slice none 0 0] 128)).alloc (.cells #[.int .i64 x, .int .i64 y, .slice none 0 0] 128)).frozen? ⟨w.heap.size, 2, none⟩ = false := (b1.2 2 _ rfl).2
  have ca2_0 : (((w.alloc (.cells #[.int .i64 x, .int .i64 y, .slice B m c] 115)).alloc (.cells #[.int .i64 0, .int .i64 0, .slice none 0 0] 128)).alloc (.cells #[.int .i64 x, .int .i64 y, .slice none 0 0] 128)).cell? ⟨w.heap.size + 1 + 1, 0, none⟩ = some (.int .i64 x) := (b3.2 0 _ rfl).1
  have fa2_0 : (((w.alloc (.cells #[.int .i64 x, .int .i64 y, .slice B m c] 115)).alloc (.cells #[.int .i64 0, .int .i64 0, .slice none 0 0] 128)).alloc (.cells #[.int .i64 x, .int .i64 y, .slice none 0 0] 128)).frozen? ⟨w.heap.size + 1 + 1, 0, none⟩ = false := (b3.2 0 _ rfl).2
  have ca2_1 : (((w.alloc (.cells #[.int .i64 x, .int .i64 y, .slice B m c] 115)).alloc (.cells #[.int .i64 0, .int .i64 0, .slice none 0 0] 128)).alloc (.cells #[.int .i64 x, .int .i64 y, .slice none 0 0] 128)).cell? ⟨w.heap.size + 1 + 1, 1, none⟩ = some (.int .i64 y) := (b3.2 1 _ rfl).1
  have fa2_1 : (((w.alloc (.cells #[.int .i64 x, .int .i64 y, .slice B m c] 115)).alloc (.cells #[.int .i64 0, .int .i64 0, .slice none 0 0] 128)).alloc (.cells #[.int .i64 x, .int .i64 y, .slice none 0 0] 128)).frozen? ⟨w.heap.size + 1 + 1, 1, none⟩ = false := (b3.2 1 _ rfl).2
  have ca2_2 : (((w.alloc (.cells #[.int .i64 x, .int .i64 y, .slice B m c] 115)).alloc (.cells #[.int .i64 0, .int .i64 0, .slice none 0 0] 128)).alloc (.cells #[.int .i64 x, .int .i64 y, .slice none 0 0] 128)).cell? ⟨w.heap.size + 1 + 1, 2, none⟩ = some (.slice none 0 0) := (b3.2 2 _ rfl).1
  have fa2_2 : (((w.alloc (.cells #[.int .i64 x, .int .i64 y, .slice B m c] 115)).alloc (.cells #[.int .i64 0, .int .i64 0, .slice none 0 0] 128)).alloc (.cells #[.int .i64 x, .int .i64 y, .slice none 0 0] 128)).frozen? ⟨w.heap.size + 1 + 1, 2, none⟩ = false := (b3.2 2 _ rfl).2
  go_wp2_with fail
  clear ca1_0 fa1_0 ca1_1 fa1_1 ca1_2 fa1_2 ca2_0 fa2_0 ca2_1 fa2_1 ca2_2 fa2_2
  refine (toIntS_any (h.keeps kw)).mono ?_
  rintro e w3 ⟨B1_, rfl, m1, k3⟩
  replace b1 := b1.keeps k3
  replace b2 := b2.keeps k3
  replace b3 := b3.keeps k3
  replace kw := Keeps.trans kw k3
  have lt4 := b3.lt
  have sz5 := kw.size
  clear k3
  replace m1 := m1.widen (lo' := w.heap.size + 1 + 1 + 1) (by simp) (Nat.le_refl _) (Nat.le_refl _)
  have ca6_0 : w3.cell? ⟨w.heap.size, 0, none⟩ = some (.int .i64 x) := (b1.2 0 _ rfl).1
  have fa6_0 : w3.frozen? ⟨w.heap.size, 0, none⟩ = false := (b1.2 0 _ rfl).2
  have ca6_1 : w3.cell? ⟨w.heap.size, 1, none⟩ = some (.int .i64 y) := (b1.2 1 _ rfl).1
  have fa6_1 : w3.frozen? ⟨w.heap.size, 1, none⟩ = false := (b1.2 1 _ rfl).2
  have ca6_2 : w3.cell? ⟨w.heap.size, 2, none⟩ = some (.slice B m c) := (b1.2 2 _ rfl).1
  have fa6_2 : w3.frozen? ⟨w.heap.size, 2, none⟩ = false := (b1.2 2 _ rfl).2
  have ca7_0 : w3.cell? ⟨w.heap.size + 1 + 1, 0, none⟩ = some (.int .i64 x) := (b3.2 0 _ rfl).1
  have fa7_0 : w3.frozen? ⟨w.heap.size + 1 + 1, 0, none⟩ = false := (b3.2 0 _ rfl).2
  have ca7_1 : w3.cell? ⟨w.heap.size + 1 + 1, 1, none⟩ = some (.int .i64 y) := (b3.2 1 _ rfl).1
  have fa7_1 : w3.frozen? ⟨w.heap.size + 1 + 1, 1, none⟩ = false := (b3.2 1 _ rfl).2
  have ca7_2 : w3.cell? ⟨w.heap.size + 1 + 1, 2, none⟩ = some (.slice none 0 0) := (b3.2 2 _ rfl).1
  have fa7_2 : w3.frozen? ⟨w.heap.size + 1 + 1, 2, none⟩ = false := (b3.2 2 _ rfl).2
  replace b1 := b1.far (p := ⟨w.heap.size + 1 + 1, 2, none⟩) (by show _ ≠ (w.heap.size + 1 + 1); omega) (.slice B1_ m m)
  replace b2 := b2.far (p := ⟨w.heap.size + 1 + 1, 2, none⟩) (by show _ ≠ (w.heap.size + 1 + 1); omega) (.slice B1_ m m)
  replace m1 := m1.fr (fr_one (p := (w.heap.size + 1 + 1)) (i := 2) (.slice B1_ m m)) (by omega)
  replace kw := Below.setCell kw (p := ⟨w.heap.size + 1 + 1, 2, none⟩) (by show _ ≤ (w.heap.size + 1 + 1); omega) (.slice B1_ m m)
  replace b3 : Bl (w3.setCell ⟨w.heap.size + 1 + 1, 2, none⟩ (.slice B1_ m m)) (w.heap.size + 1 + 1) [.int .i64 x, .int .i64 y, .slice B1_ m m] := b3.set 2 (.slice B1_ m m)
  have ca8_0 : (w3.setCell ⟨w.heap.size + 1 + 1, 2, none⟩ (.slice B1_ m m)).cell? ⟨w.heap.size + 1 + 1, 0, none⟩ = some (.int .i64 x) := (b3.2 0 _ rfl).1
  have fa8_0 : (w3.setCell ⟨w.heap.size + 1 + 1, 2, none⟩ (.slice B1_ m m)).frozen? ⟨w.heap.size + 1 + 1, 0, none⟩ = false := (b3.2 0 _ rfl).2
  have ca8_1 : (w3.setCell ⟨w.heap.size + 1 + 1, 2, none⟩ (.slice B1_ m m)).cell? ⟨w.heap.size + 1 + 1, 1, none⟩ = some (.int .i64 y) := (b3.2 1 _ rfl).1
  have fa8_1 : (w3.setCell ⟨w.heap.size + 1 + 1, 2, none⟩ (.slice B1_ m m)).frozen? ⟨w.heap.size + 1 + 1, 1, none⟩ = false := (b3.2 1 _ rfl).2
  have ca8_2 : (w3.setCell ⟨w.heap.size + 1 + 1, 2, none⟩ (.slice B1_ m m)).cell? ⟨w.heap.size + 1 + 1, 2, none⟩ = some (.slice B1_ m m) := (b3.2 2 _ rfl).1
  have fa8_2 : (w3.setCell ⟨w.heap.size + 1 + 1, 2, none⟩ (.slice B1_ m m)).frozen? ⟨w.heap.size + 1 + 1, 2, none⟩ = false := (b3.2 2 _ rfl).2
  have ca9_0 : (w3.setCell ⟨w.heap.size + 1 + 1, 2, none⟩ (.slice B1_ m m)).cell? ⟨w.heap.size + 1, 0, none⟩ = some (.int .i64 0) := (b2.2 0 _ rfl).1
  have fa9_0 : (w3.setCell ⟨w.heap.size + 1 + 1, 2, none⟩ (.slice B1_ m m)).frozen? ⟨w.heap.size + 1, 0, none⟩ = false := (b2.2 0 _ rfl).2
  have ca9_1 : (w3.setCell ⟨w.heap.size + 1 + 1, 2, none⟩ (.slice B1_ m m)).cell? ⟨w.heap.size + 1, 1, none⟩ = some (.int .i64 0) := (b2.2 1 _ rfl).1
  have fa9_1 : (w3.setCell ⟨w.heap.size + 1 + 1, 2, none⟩ (.slice B1_ m m)).frozen? ⟨w.heap.size + 1, 1, none⟩ = false := (b2.2 1 _ rfl).2
  have ca9_2 : (w3.setCell ⟨w.heap.size + 1 + 1, 2, none⟩ (.slice B1_ m m)).cell? ⟨w.heap.size + 1, 2, none⟩ = some (.slice none 0 0) := (b2.2 2 _ rfl).1
  have fa9_2 : (w3.setCell ⟨w.heap.size + 1 + 1, 2, none⟩ (.slice B1_ m m)).frozen? ⟨w.heap.size + 1, 2, none⟩ = false := (b2.2 2 _ rfl).2
  replace b1 := b1.far (p := ⟨w.heap.size + 1, 0, none⟩) (by show _ ≠ (w.heap.size + 1); omega) (.int .i64 x)
  replace b3 := b3.far (p := ⟨w.heap.size + 1, 0, none⟩) (by show _ ≠ (w.heap.size + 1); omega) (.int .i64 x)
  replace m1 := m1.fr (fr_one (p := (w.heap.size + 1)) (i := 0) (.int .i64 x)) (by omega)
  replace kw := Below.setCell kw (p := ⟨w.heap.size + 1, 0, none⟩) (by show _ ≤ (w.heap.size + 1); omega) (.int .i64 x)
  replace b2 : Bl ((w3.setCell ⟨w.heap.size + 1 + 1, 2, none⟩ (.slice B1_ m m)).setCell ⟨w.heap.size + 1, 0, none⟩ (.int .i64 x)) (w.heap.size + 1) [.int .i64 x, .int .i64 0, .slice none 0 0] := b2.set 0 (.int .i64 x)
  replace b1 := b1.far (p := ⟨w.heap.size + 1, 1, none⟩) (by show _ ≠ (w.heap.size + 1); omega) (.int .i64 y)
  replace b3 := b3.far (p := ⟨w.heap.size + 1, 1, none⟩) (by show _ ≠ (w.heap.size + 1); omega) (.int .i64 y)
  replace m1 := m1.fr (fr_one (p := (w.heap.size + 1)) (i := 1) (.int .i64 y)) (by omega)
  replace kw := Below.setCell kw (p := ⟨w.heap.size + 1, 1, none⟩) (by show _ ≤ (w.heap.size + 1); omega) (.int .i64 y)
  replace b2 : Bl (((w3.setCell ⟨w.heap.size + 1 + 1, 2, none⟩ (.slice B1_ m m)).setCell ⟨w.heap.size + 1, 0, none⟩ (.int .i64 x)).setCell ⟨w.heap.size + 1, 1, none⟩ (.int .i64 y)) (w.heap.size + 1) [.int .i64 x, .int .i64 y, .slice none 0 0] := b2.set 1 (.int .i64 y)
  replace b1 := b1.far (p := ⟨w.heap.size + 1, 2, none⟩) (by show _ ≠ (w.heap.size + 1); omega) (.slice B1_ m m)
  replace b3 := b3.far (p := ⟨w.heap.size + 1, 2, none⟩) (by show _ ≠ (w.heap.size + 1); omega) (.slice B1_ m m)
  replace m1 := m1.fr (fr_one (p := (w.heap.size + 1)) (i := 2) (.slice B1_ m m)) (by omega)
  replace kw := Below.setCell kw (p := ⟨w.heap.size + 1, 2, none⟩) (by show _ ≤ (w.heap.size + 1); omega) (.slice B1_ m m)
  replace b2 : Bl ((((w3.setCell ⟨w.heap.size + 1 + 1, 2, none⟩ (.slice B1_ m m)).setCell ⟨w.heap.size + 1, 0, none⟩ (.int .i64 x)).setCell ⟨w.heap.size + 1, 1, none⟩ (.int .i64 y)).setCell ⟨w.heap.size + 1, 2, none⟩ (.slice B1_ m m)) (w.heap.size + 1) [.int .i64 x, .int .i64 y, .slice B1_ m m] := b2.set 2 (.slice B1_ m m)
  have HT := hid (m1.widen (lo' := w.heap.size) (hi' := ((((w3.setCell ⟨w.heap.size + 1 + 1, 2, none⟩ (.slice B1_ m m)).setCell ⟨w.heap.size + 1, 0, none⟩ (.int .i64 x)).setCell ⟨w.heap.size + 1, 1, none⟩ (.int .i64 y)).setCell ⟨w.heap.size + 1, 2, none⟩ (.slice B1_ m m)).heap.size) (by omega) (by simp [World.setCell]) (Nat.le_refl _))
  have HK := hid kw
  clear m1 kw
  go_wp2_with fail
  clear ca6_0 fa6_0 ca6_1 fa6_1 ca6_2 fa6_2 ca7_0 fa7_0 ca7_1 fa7_1 ca7_2 fa7_2 ca8_0 fa8_0 ca8_1 fa8_1 ca8_2 fa8_2 ca9_0 fa9_0 ca9_1 fa9_1 ca9_2 fa9_2
  have ca0_0 : ((((w3.setCell ⟨w.heap.size + 1 + 1, 2, none⟩ (.slice B1_ m m)).setCell ⟨w.heap.size + 1, 0, none⟩ (.int .i64 x)).setCell ⟨w.heap.size + 1, 1, none⟩ (.int .i64 y)).setCell ⟨w.heap.size + 1, 2, none⟩ (.slice B1_ m m)).cell? ⟨w.heap.size + 1, 0, none⟩ = some (.int .i64 x) := (b2.2 0 _ rfl).1
  have ca0_1 : ((((w3.setCell ⟨w.heap.size + 1 + 1, 2, none⟩ (.slice B1_ m m)).setCell ⟨w.heap.size + 1, 0, none⟩ (.int .i64 x)).setCell ⟨w.heap.size + 1, 1, none⟩ (.int .i64 y)).setCell ⟨w.heap.size + 1, 2, none⟩ (.slice B1_ m m)).cell? ⟨w.heap.size + 1, 1, none⟩ = some (.int .i64 y) := (b2.2 1 _ rfl).1
  have ca0_2 : ((((w3.setCell ⟨w.heap.size + 1 + 1, 2, none⟩ (.slice B1_ m m)).setCell ⟨w.heap.size + 1, 0, none⟩ (.int .i64 x)).setCell ⟨w.heap.size + 1, 1, none⟩ (.int .i64 y)).setCell ⟨w.heap.size + 1, 2, none⟩ (.slice B1_ m m)).cell? ⟨w.heap.size + 1, 2, none⟩ = some (.slice B1_ m m) := (b2.2 2 _ rfl).1
  try simp only [Exit.inBlock, Exit.then]
  exact bodyPost_ret (v := .agg #[.int .i64 x, .int .i64 y, .slice B1_ m m]) (by simp [results, Tryz.results76, go_sem, ca0_0, ca0_1, ca0_2]) rfl ⟨_, rfl, HT.out, HK.out⟩
set_option maxRecDepth 100000 in
set_option maxHeartbeats 1600000 in
theorem eqRecord_true {B : Option Addr} {m c : Nat} {x y : Int} {w : World} {B' : Option Addr} {d lo hi lo' hi' : Nat} {zs : List Int} (h : Ints w lo hi B m zs) (h' : Ints w lo' hi' B' m zs) :
    Calls Tryz.prog 84 #[.agg #[.int .i64 x, .int .i64 y, .slice B m c], .agg #[.int .i64 x, .int .i64 y, .slice B' m d]] w fun e w' => e = .returned (.bool true) ∧ Keeps w w' := by
  have e1 : (x != x) = false := by simp
  have e2 : (y != y) = false := by simp
  go_enter Tryz.func84, Tryz.ntmps84
  have kw := keeps_refl w
  replace kw := Keeps.trans kw (keeps_alloc w (.cells #[.int .i64 x, .int .i64 y, .slice B m c] 128))
  have b2 : Bl (w.alloc (.cells #[.int .i64 x, .int .i64 y, .slice B m c] 128)) w.heap.size [.int .i64 x, .int .i64 y, .slice B m c] := Bl.new' (by simp) (by simp)
  replace b2 := b2.keeps (keeps_alloc (w.alloc (.cells #[.int .i64 x, .int .i64 y, .slice B m c] 128)) (.cells #[.int .i64 x, .int .i64 y, .slice B' m d] 128))
  replace kw := Keeps.trans kw (keeps_alloc (w.alloc (.cells #[.int .i64 x, .int .i64 y, .slice B m c] 128)) (.cells #[.int .i64 x, .int .i64 y, .slice B' m d] 128))
  have b3 : Bl ((w.alloc (.cells #[.int .i64 x, .int .i64 y, .slice B m c] 128)).alloc (.cells #[.int .i64 x, .int .i64 y, .slice B' m d] 128)) (w.heap.size + 1) [.int .i64 x, .int .i64 y, .slice B' m d] := Bl.new' (by simp) (by simp)
  have ca1_0 : ((w.alloc (.cells #[.int .i64 x, .int .i64 y, .slice B m c] 128)).alloc (.cells #[.int .i64 x, .int .i64 y, .slice B' m d] 128)).cell? ⟨w.heap.size, 0, none⟩ = some (.int .i64 x) := (b2.2 0 _ rfl).1
  have fa1_0 : ((w.alloc (.cells #[.int .i64 x, .int .i64 y, .slice B m c] 128)).alloc (.cells #[.int .i64 x, .int .i64 y, .slice B' m d] 128)).frozen? ⟨w.heap.size, 0, none⟩ = false := (b2.2 0 _ rfl).2
  have ca1_1 : ((w.alloc (.cells #[.int .i64 x, .int .i64 y, .slice B m c] 128)).alloc (.cells #[.int .i64 x, .int .i64 y, .slice B' m d] 128)).cell? ⟨w.heap.size, 1, none⟩ = some (.int .i64 y) := (b2.2 1 _ rfl).1
  have fa1_1 : ((w.alloc (.cells #[.int .i64 x, .int .i64 y, .slice B m c] 128)).alloc (.cells #[.int .i64 x, .int .i64 y, .slice B' m d] 128)).frozen? ⟨w.heap.size, 1, none⟩ = false := (b2.2 1 _ rfl).2
  have ca1_2 : ((w.alloc (.cells #[.int .i64 x, .int .i64 y, .slice B m c] 128)).alloc (.cells #[.int .i64 x, .int .i64 y, .slice B' m d] 128)).cell? ⟨w.heap.size, 2, none⟩ = some (.slice B m c) := (b2.2 2 _ rfl).1
  have fa1_2 : ((w.alloc (.cells #[.int .i64 x, .int .i64 y, .slice B m c] 128)).alloc (.cells #[.int .i64 x, .int .i64 y, .slice B' m d] 128)).frozen? ⟨w.heap.size, 2, none⟩ = false := (b2.2 2 _ rfl).2
  have ca2_0 : ((w.alloc (.cells #[.int .i64 x, .int .i64 y, .slice B m c] 128)).alloc (.cells #[.int .i64 x, .int .i64 y, .slice B' m d] 128)).cell? ⟨w.heap.size + 1, 0, none⟩ = some (.int .i64 x) := (b3.2 0 _ rfl).1
  have fa2_0 : ((w.alloc (.cells #[.int .i64 x, .int .i64 y, .slice B m c] 128)).alloc (.cells #[.int .i64 x, .int .i64 y, .slice B' m d] 128)).frozen? ⟨w.heap.size + 1, 0, none⟩ = false := (b3.2 0 _ rfl).2
  have ca2_1 : ((w.alloc (.cells #[.int .i64 x, .int .i64 y, .slice B m c] 128)).alloc (.cells #[.int .i64 x, .int .i64 y, .slice B' m d] 128)).cell? ⟨w.heap.size + 1, 1, none⟩ = some (.int .i64 y) := (b3.2 1 _ rfl).1
  have fa2_1 : ((w.alloc (.cells #[.int .i64 x, .int .i64 y, .slice B m c] 128)).alloc (.cells #[.int .i64 x, .int .i64 y, .slice B' m d] 128)).frozen? ⟨w.heap.size + 1, 1, none⟩ = false := (b3.2 1 _ rfl).2
  have ca2_2 : ((w.alloc (.cells #[.int .i64 x, .int .i64 y, .slice B m c] 128)).alloc (.cells #[.int .i64 x, .int .i64 y, .slice B' m d] 128)).cell? ⟨w.heap.size + 1, 2, none⟩ = some (.slice B' m d) := (b3.2 2 _ rfl).1
  have fa2_2 : ((w.alloc (.cells #[.int .i64 x, .int .i64 y, .slice B m c] 128)).alloc (.cells #[.int .i64 x, .int .i64 y, .slice B' m d] 128)).frozen? ⟨w.heap.size + 1, 2, none⟩ = false := (b3.2 2 _ rfl).2
  go_wp2_with fail
  clear ca1_0 fa1_0 ca1_1 fa1_1 ca1_2 fa1_2 ca2_0 fa2_0 ca2_1 fa2_1 ca2_2 fa2_2
  refine (eqIntS_true (h.keeps kw) (h'.keeps kw)).mono ?_
  rintro e w3 ⟨rfl, k3⟩
  replace k3 := Quiet.keeps k3
  replace b2 := b2.keeps k3
  replace b3 := b3.keeps k3
  replace kw := Keeps.trans kw k3
  have lt4 := b3.lt
  have sz5 := kw.size
  clear k3
  go_wp2_with fail
  go_ret
  exact ⟨rfl, kw⟩
set_option maxRecDepth 100000 in
set_option maxHeartbeats 3200000 in
theorem szRecordS_any {A : Option Addr} {n c : Nat} {l : List RR} {left : Int} {w : World} (h : RecsArg w A n l) (h0 : 0 ≤ left) (h1 : left ≤ 1048576) :
    Calls Tryz.prog 22 #[.slice A n c, .int .i64 left] w fun e w' => e = .returned (.int .i64 (szRs left n l)) ∧ Keeps w w' := by
  have hm := h.1
  unfold maxLen at hm
  have HZ := hid (show szRs left n l = if (n : Int) + rsz l n ≤ left then left - n - rsz l n else -1 from rfl)
  by_cases hn : left - (n : Int) < 0
  · go_enter Tryz.func22, Tryz.ntmps22
    go_wp2
    go_ret
    exact ⟨ret_int (by rw [HZ.out, if_neg (by omega)]), keeps_refl _⟩
  have hn2 : n ≤ 1048576 := by omega
  go_enter Tryz.func22, Tryz.ntmps22
  go_wp2_with fail
  go_loopw [1, 5] (fun q i wr => ∃ k : Nat, k ≤ n ∧ i = .int .i64 k ∧ q = .int .i64 (left - n - rsz l k) ∧ (n : Int) + rsz l k ≤ left ∧ Keeps w wr) (fun _ i _ => n - (intOf i).toNat)
  case atStart => exact ⟨0, Nat.zero_le _, rfl, by simp [rsz], by simp [rsz]; omega, keeps_refl _⟩
  case round =>
    obtain ⟨k, hk, rfl, rfl, hb, hq⟩ := hrel
    by_cases hlt : k < n
    · obtain ⟨b, off, A', c', rfl, _, hc, hd, hv, hxs⟩ := (h.keeps hq).at_ hlt
      have hi1 : (k : Int) < (n : Int) := by omega
      have HV := hid (rsz_succ l k)
      have HM := hid (rsz_mono l (i := k + 1) (j := n) hlt)
      obtain ⟨m, hmm⟩ : ∃ m, (l.getD k r0).2.2.length = m := ⟨_, rfl⟩
      obtain ⟨x, hx⟩ : ∃ x, (l.getD k r0).1 = x := ⟨_, rfl⟩
      obtain ⟨y, hy⟩ : ∃ x, (l.getD k r0).2.1 = x := ⟨_, rfl⟩
      rw [hmm] at HV hv hxs
      rw [hx] at hc
      rw [hy] at hd
      clear hmm hx hy
      obtain ⟨L, hL⟩ : ∃ L : Int, left - n - rsz l k = L := ⟨_, rfl⟩
      rw [hL]
      have hL0 : 0 ≤ L := by omega
      have hL1 : L ≤ 1048576 := by omega
      have HLL := hid hL
      clear hL
      go_wp2_with fail
      refine (szRecord_any hxs hL0 hL1).mono ?_
      rintro e w1 ⟨rfl, k1⟩
      have hq1 := hid (hq.trans k1)
      clear hc hd hv k1 hq
      by_cases h2 : L - (m : Int) < 0
      · rw [szI_no h2]
        go_wp2
        go_ret
        exact ⟨ret_int (by rw [HZ.out, if_neg (by have := HV.out; have := HM.out; have := HLL.out; omega)]), hq1.out⟩
      · rw [szI_ok h2]
        go_wp2_with fail
        go_roundw
        case rel => exact ⟨k + 1, by omega, by go_num, by congr 1; have := HV.out; have := HLL.out; omega, by have := HV.out; have := HLL.out; omega, hq1.out⟩
        case measure => simp [intOf]; omega
    · obtain rfl : k = n := by omega
      go_wp2
      go_ret
      exact ⟨ret_int (by rw [HZ.out, if_pos hb]), hq⟩
set_option maxRecDepth 100000 in
set_option maxHeartbeats 3200000 in
theorem toRecordS_any {A : Option Addr} {lo hi n c : Nat} {l : List RR} {w : World} (h : Recs w lo hi A n l) :
    Calls Tryz.prog 27 #[.slice A n c] w fun e w' => ∃ A', e = .returned (.slice A' n n) ∧ RecM w' w.heap.size w'.heap.size A' n l ∧ Keeps w w' := by
  have hn := h.le
  have hmk := make_recs n hn
  have hl := h.len
  go_enter Tryz.func27, Tryz.ntmps27
  go_wp2_with fail
  clear hmk
  go_loopw [4] (fun i wr => ∃ k : Nat, k ≤ n ∧ i = .int .i64 k ∧ FillR wr w.heap.size n l k ∧ Keeps w wr) (fun i _ => n - (intOf i).toNat)
  case atStart => exact ⟨0, Nat.zero_le _, rfl, FillR.new w n l, keeps_alloc _ _⟩
  case round =>
    obtain ⟨k, hk, rfl, hown, hkeep⟩ := hrel
    have hgs := hown.lt
    by_cases hlt : k < n
    · obtain ⟨b, off, x, y, A', m, c', zs, rfl, _, hb, hc, hd, hv, hr, hx⟩ := (h.keeps hkeep).at_ hlt
      have hi1 : (k : Int) < (n : Int) := by omega
      have hlen : zs.length = m := hr.1
      go_wp2_with fail
      refine (toRecord_any hr).mono ?_
      rintro e w1 ⟨B, rfl, mz, k1⟩
      have H1 := hid (hown.step hlt k1 hx.out mz)
      obtain ⟨cs, L, U, ho, hcl, _⟩ := hown
      have ho1 := ho.keeps k1
      have d1 := ho1.cell (k * 3) (by omega)
      have d2 := ho1.cell (k * 3 + 1) (by omega)
      have d3 := ho1.cell (k * 3 + 2) (by omega)
      have f1 := ho1.frozen (k * 3)
      have f2 := ho1.frozen (k * 3 + 1)
      have f3 := ho1.frozen (k * 3 + 2)
      have H2 := hid (Below.setCell (Below.setCell (Below.setCell (Keeps.trans hkeep k1) (p := ⟨w.heap.size, k * 3, none⟩) (Nat.le_refl _) (.int .i64 x)) (p := ⟨w.heap.size, k * 3 + 1, none⟩) (Nat.le_refl _) (.int .i64 y)) (p := ⟨w.heap.size, k * 3 + 2, none⟩) (Nat.le_refl _) (.slice B m m))
      clear ho ho1 hkeep k1 mz hr hc hd hv hx hlen
      go_wp2_with fail
      go_roundw
      case rel => exact ⟨k + 1, by omega, by go_num, H1.out, H2.out⟩
      case measure => simp [intOf]; omega
    · obtain rfl : k = n := by omega
      go_wp2
      go_ret
      exact ⟨_, rfl, hown.recM hl hn, hkeep⟩
set_option maxRecDepth 100000 in
set_option maxHeartbeats 3200000 in
theorem eqRecordS_true {A B : Option Addr} {lo hi lo' hi' n n' c c' : Nat} {l : List RR} {w : World} (ha : Recs w lo hi A n l) (hb : Recs w lo' hi' B n' l) :
    Calls Tryz.prog 33 #[.slice A n c, .slice B n' c'] w fun e w' => e = .returned (.bool true) ∧ Keeps w w' := by
  obtain rfl : n = n' := ha.len.symm.trans hb.len
  have hn := ha.le
  have hbb : ((n : Int) != n) = false := by simp
  go_enter Tryz.func33, Tryz.ntmps33
  go_wp2_with fail
  go_loopw [5] (fun i wr => ∃ k : Nat, k ≤ n ∧ i = .int .i64 k ∧ Keeps w wr) (fun i _ => n - (intOf i).toNat)
  case atStart => exact ⟨0, Nat.zero_le _, rfl, keeps_refl _⟩
  case round =>
    obtain ⟨k, hk, rfl, hq⟩ := hrel
    by_cases hlt : k < n
    · obtain ⟨b, off, x, y, Az, m, cz, zs, rfl, _, _, hc, hd, hv, hr, hx⟩ := (ha.keeps hq).at_ hlt
      obtain ⟨b', off', x', y', Az', m', cz', zs', rfl, _, _, hc', hd', hv', hr', hx'⟩ := (hb.keeps hq).at_ hlt
      have e0 := hx.out.trans hx'.out.symm
      obtain rfl : x = x' := congrArg Prod.fst e0
      obtain rfl : y = y' := congrArg (fun p => p.2.1) e0
      obtain rfl : zs = zs' := congrArg (fun p => p.2.2) e0
      obtain rfl : m = m' := hr.1.symm.trans hr'.1
      clear hx hx' e0
      have hi1 : (k : Int) < (n : Int) := by omega
      go_wp2_with fail
      go_region_held3 (fun w' => w'.cell? ⟨b, off + k * 3, none⟩ = some (.int .i64 x) ∧ w'.cell? ⟨b, off + k * 3 + 1, none⟩ = some (.int .i64 y) ∧ w'.cell? ⟨b, off + k * 3 + 2, none⟩ = some (.slice Az m cz) ∧ w'.cell? ⟨b', off' + k * 3, none⟩ = some (.int .i64 x) ∧ w'.cell? ⟨b', off' + k * 3 + 1, none⟩ = some (.int .i64 y) ∧ w'.cell? ⟨b', off' + k * 3 + 2, none⟩ = some (.slice Az' m cz')) (first | exact ⟨hc, hd, hv, hc', hd', hv'⟩ | exact ⟨r1, r2, r3, r4, r5, r6⟩)
        ((go_at_call 84; refine (eqRecord_true (hr.keeps (keeps_d0 wr)) (hr'.keeps (keeps_d0 wr))).mono ?_; rintro e w1 ⟨rfl, k1⟩; have r1 := cell_keeps (w := wr.drew) hc k1; have r2 := cell_keeps (w := wr.drew) hd k1; have r3 := cell_keeps (w := wr.drew) hv k1; have r4 := cell_keeps (w := wr.drew) hc' k1; have r5 := cell_keeps (w := wr.drew) hd' k1; have r6 := cell_keeps (w := wr.drew) hv' k1))
      have H2 := hid (hq.trans ((Keeps.drewN wr 1).trans k1))
      clear r1 r2 r3 r4 r5 r6 k1 hq
      go_wp2
      go_roundw
      case rel => exact ⟨k + 1, by omega, by go_num, H2.out⟩
      case measure => simp [intOf]; omega
    · go_wp2
      go_ret
      exact ⟨rfl, hq⟩
set_option maxRecDepth 100000 in
set_option maxHeartbeats 3200000 in
theorem markRecordS_any {A : Option Addr} {lo hi n c : Nat} {l : List RR} {k0 : Int} {w : World} (h : RecM w lo hi A n l) (h0 : 0 ≤ k0) (h1 : k0 ≤ 100000000) (hn : n + rsz l n ≤ 1048576) :
    Calls Tryz.prog 37 #[.slice A n c, .int .i64 k0] w fun e w' => e = .returned (.int .i64 (k0 + (2 * n + rsz l n))) ∧ True ∧ Fr lo hi w w' := by
  by_cases hz : n = 0
  · subst hz
    go_enter Tryz.func37, Tryz.ntmps37
    go_wp2_with fail
    go_loopw [1, 5] (fun q i wr => i = .int .i64 0 ∧ q = .int .i64 k0 ∧ wr = w) (fun _ i _ => 0)
    case atStart => exact ⟨rfl, rfl, rfl⟩
    case round =>
      obtain ⟨rfl, rfl, rfl⟩ := hrel
      go_wp2
      go_ret
      exact ⟨ret_int (by simp [rsz]), trivial, Fr.refl _ _ _⟩
  obtain ⟨b, off, L, U, rfl, hc⟩ := h.2 (by omega)
  have hl := h.1.len
  clear h
  have hz' := hid hz
  clear hz
  go_enter Tryz.func37, Tryz.ntmps37
  go_wp2_with fail
  go_loopw [1, 5] (fun q i wr => ∃ (k : Nat) (ys : List RR), k ≤ n ∧ i = .int .i64 k ∧ q = .int .i64 (k0 + (2 * k + rsz l k)) ∧ RecC wr lo hi b off n L U ys ∧ (∀ j, (ys.getD j r0).2.2.length = (l.getD j r0).2.2.length) ∧ Fr lo hi w wr) (fun _ i _ => n - (intOf i).toNat)
  case atStart => exact ⟨0, l, Nat.zero_le _, rfl, by simp [rsz], hc, fun _ => rfl, Fr.refl _ _ _⟩
  case round =>
    obtain ⟨k, ys, hk, rfl, rfl, hm, hy, hf⟩ := hrel
    by_cases hlt : k < n
    · obtain ⟨g1, g2, g3, g4, g5, g6, g7, g8, g9⟩ := id hm
      obtain ⟨A', m, c', hcc, hcd, hcv, hr⟩ := g9 k hlt
      have hz1 : wr.frozen? ⟨b, off + k * 3, none⟩ = false := g8 (k * 3) (by omega)
      have hz2 : wr.frozen? ⟨b, off + k * 3 + 1, none⟩ = false := g8 (k * 3 + 1) (by omega)
      have r1 := rsz_mono l (show k + 1 ≤ n by omega)
      rw [rsz_succ] at r1
      have HS := hid (rsz_succ l k)
      have hyk := hy k
      have hml := hr.1.1
      rw [hyk] at hml
      rw [hml] at r1 HS
      have hi1 : (k : Int) < (n : Int) := by omega
      have hgk := g6 k hlt
      have s1 := hm.set_ hlt (k0 + (2 * (k : Int) + rsz l k)) (k0 + (2 * (k : Int) + rsz l k) + 1)
      obtain ⟨s1, f1⟩ := s1
      obtain ⟨zs, hzs⟩ : ∃ zs, (ys.getD k r0).2.2 = zs := ⟨_, rfl⟩
      have HY := hid hy
      have HML := hid hml
      have HZS := hid hzs
      rw [hzs] at s1 hr
      obtain ⟨q, hq⟩ : ∃ q : Int, k0 + (2 * (k : Int) + rsz l k) = q := ⟨_, rfl⟩
      rw [hq] at s1 f1 ⊢
      have hq0 : 0 ≤ q := by omega
      have hq1 : q ≤ 1000000000 := by omega
      have HQ := hid hq
      have HYL := hid g1
      have HC := hid hcv
      replace s1 := hid s1
      replace f1 := hid f1
      replace hf := hid hf
      replace r1 := hid r1
      replace hgk := hid hgk
      clear g1 g2 g3 g6 g7 g8 g9 hm hy hyk hml hzs hq hr
      go_wp2_with fail
      obtain ⟨g1, g2, g3, g4', g5', g6, g7, g8, g9⟩ := id s1.out
      obtain ⟨A2, m2, c2, _, _, e3, hr⟩ := g9 k hlt
      have e4 := e3.symm.trans ((show _ = _ by first | (rw [World.cell?_setCell_other _ _ _ _ (by intro e; injection e with _ e; omega), World.cell?_setCell_other _ _ _ _ (by intro e; injection e with _ e; omega)]) ).trans HC.out)
      injection e4 with e4
      injection e4 with e5 e6 e7
      subst e5 e6 e7
      rw [getD_set_same (by rw [HYL.out]; exact hlt)] at hr
      dsimp only at hr
      clear g1 g2 g3 g4' g5' g6 g7 g8 g9
      refine (markIntS_any hr (by omega) (by omega)).mono ?_
      rintro e w1 ⟨rfl, mk1, fr1⟩
      have H1 := hid (RecC.upd s1.out hlt e3 fr1 mk1)
      clear hr e3 mk1 fr1
      go_wp2_with fail
      go_roundw
      case rel =>
        refine ⟨k + 1, _, by omega, by go_num, ?_, H1.out.1, fun j => ?_, (hf.out.trans f1.out).trans H1.out.2⟩
        · rw [HS.out]; have := HQ.out; congr 1; push_cast; omega
        · by_cases hjk : j = k
          · subst hjk
            rw [getD_set_same (by simp; have := HYL.out; omega), HML.out]
            exact iota_len _ _
          · rw [getD_set_other (Ne.symm hjk), getD_set_other (Ne.symm hjk)]
            exact HY.out j
      case measure => simp [intOf]; omega
    · obtain rfl : k = n := by omega
      go_wp2
      go_ret
      exact ⟨rfl, trivial, hf⟩
end Go.Proofs.YtohjkpopbmmliaaGreat
