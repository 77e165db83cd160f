/- The helpers of the laws over tables and slices of them: walks. -/
import Derived.Test.YtlkjhkkfdmjfcaaGreatDoorTab
import Derived.Test.YtlkjhkkfdmjfcaaGreatDoorRec
import Derived.Test.YtlkjhkkfdmjfcaaGreatDoorBl
import Derived.Deep.RegionHeld3
namespace Go.Proofs.YtlkjhkkfdmjfcaaGreatDoor
open Go.RowKit
set_option linter.unusedVariables false
set_option linter.unusedSimpArgs false

set_option maxRecDepth 100000 in
set_option maxHeartbeats 1600000 in
theorem szTable_any {V H : Option Addr} {n c m d : Nat} {lv sm : Int} {w : World} {left : Int} (hn : n ≤ maxLen) (hm : m ≤ maxLen) (h0 : 0 ≤ left) (h1 : left ≤ 1048576) :
    Calls Tryz.prog 98 #[.agg #[.int .i64 lv, .slice V n c, .slice H m d, .int .i64 sm], .int .i64 left] w fun e w' => e = .returned (.int .i64 (szQ left (n + m))) ∧ Keeps w w' := by
  by_cases h : left - (n : Int) < 0
  · have HE := hid (szI_no (left := left) (n := n) (by omega))
    have HQ := hid (szQ_no (left := left) (s := n + m) (by omega))
    go_enter Tryz.func98, Tryz.ntmps98
    have kw := keeps_refl w
    replace kw := Keeps.trans kw (keeps_alloc w (.cells #[.int .i64 lv, .slice V n c, .slice H m d, .int .i64 sm] 142))
    have b2 : Bl (w.alloc (.cells #[.int .i64 lv, .slice V n c, .slice H m d, .int .i64 sm] 142)) w.heap.size [.int .i64 lv, .slice V n c, .slice H m d, .int .i64 sm] := Bl.new' (by simp) (by simp)
    have ca1_0 : (w.alloc (.cells #[.int .i64 lv, .slice V n c, .slice H m d, .int .i64 sm] 142)).cell? ⟨w.heap.size, 0, none⟩ = some (.int .i64 lv) := (b2.2 0 _ rfl).1
    have fa1_0 : (w.alloc (.cells #[.int .i64 lv, .slice V n c, .slice H m d, .int .i64 sm] 142)).frozen? ⟨w.heap.size, 0, none⟩ = false := (b2.2 0 _ rfl).2
    have ca1_1 : (w.alloc (.cells #[.int .i64 lv, .slice V n c, .slice H m d, .int .i64 sm] 142)).cell? ⟨w.heap.size, 1, none⟩ = some (.slice V n c) := (b2.2 1 _ rfl).1
    have fa1_1 : (w.alloc (.cells #[.int .i64 lv, .slice V n c, .slice H m d, .int .i64 sm] 142)).frozen? ⟨w.heap.size, 1, none⟩ = false := (b2.2 1 _ rfl).2
    have ca1_2 : (w.alloc (.cells #[.int .i64 lv, .slice V n c, .slice H m d, .int .i64 sm] 142)).cell? ⟨w.heap.size, 2, none⟩ = some (.slice H m d) := (b2.2 2 _ rfl).1
    have fa1_2 : (w.alloc (.cells #[.int .i64 lv, .slice V n c, .slice H m d, .int .i64 sm] 142)).frozen? ⟨w.heap.size, 2, none⟩ = false := (b2.2 2 _ rfl).2
    have ca1_3 : (w.alloc (.cells #[.int .i64 lv, .slice V n c, .slice H m d, .int .i64 sm] 142)).cell? ⟨w.heap.size, 3, none⟩ = some (.int .i64 sm) := (b2.2 3 _ rfl).1
    have fa1_3 : (w.alloc (.cells #[.int .i64 lv, .slice V n c, .slice H m d, .int .i64 sm] 142)).frozen? ⟨w.heap.size, 3, none⟩ = false := (b2.2 3 _ rfl).2
    go_wp2_with fail
    clear ca1_0 fa1_0 ca1_1 fa1_1 ca1_2 fa1_2 ca1_3 fa1_3
    refine (szIntS_any _ _ _ left _ hn h0 h1).mono ?_
    rintro e w' ⟨rfl, rfl⟩
    rw [HE.out]
    go_wp2_with fail
    go_ret
    exact ⟨ret_int HQ.out.symm, kw⟩
  have HE := hid (szI_ok (left := left) (n := n) (by omega))
  obtain ⟨L, hL⟩ : ∃ L, left - (n : Int) = L := ⟨_, rfl⟩
  rw [hL] at HE h
  have hL0 : 0 ≤ L := by omega
  have hL1 : L ≤ 1048576 := by omega
  by_cases h2 : L - (m : Int) < 0
  · have HE2 := hid (szI_no (left := L) (n := m) (by omega))
    have HQ := hid ((szQ_no (left := left) (s := n + m) (by omega)))
    clear hL
    go_enter Tryz.func98, Tryz.ntmps98
    have kw := keeps_refl w
    replace kw := Keeps.trans kw (keeps_alloc w (.cells #[.int .i64 lv, .slice V n c, .slice H m d, .int .i64 sm] 142))
    have b2 : Bl (w.alloc (.cells #[.int .i64 lv, .slice V n c, .slice H m d, .int .i64 sm] 142)) w.heap.size [.int .i64 lv, .slice V n c, .slice H m d, .int .i64 sm] := Bl.new' (by simp) (by simp)
    have ca1_0 : (w.alloc (.cells #[.int .i64 lv, .slice V n c, .slice H m d, .int .i64 sm] 142)).cell? ⟨w.heap.size, 0, none⟩ = some (.int .i64 lv) := (b2.2 0 _ rfl).1
    have fa1_0 : (w.alloc (.cells #[.int .i64 lv, .slice V n c, .slice H m d, .int .i64 sm] 142)).frozen? ⟨w.heap.size, 0, none⟩ = false := (b2.2 0 _ rfl).2
    have ca1_1 : (w.alloc (.cells #[.int .i64 lv, .slice V n c, .slice H m d, .int .i64 sm] 142)).cell? ⟨w.heap.size, 1, none⟩ = some (.slice V n c) := (b2.2 1 _ rfl).1
    have fa1_1 : (w.alloc (.cells #[.int .i64 lv, .slice V n c, .slice H m d, .int .i64 sm] 142)).frozen? ⟨w.heap.size, 1, none⟩ = false := (b2.2 1 _ rfl).2
    have ca1_2 : (w.alloc (.cells #[.int .i64 lv, .slice V n c, .slice H m d, .int .i64 sm] 142)).cell? ⟨w.heap.size, 2, none⟩ = some (.slice H m d) := (b2.2 2 _ rfl).1
    have fa1_2 : (w.alloc (.cells #[.int .i64 lv, .slice V n c, .slice H m d, .int .i64 sm] 142)).frozen? ⟨w.heap.size, 2, none⟩ = false := (b2.2 2 _ rfl).2
    have ca1_3 : (w.alloc (.cells #[.int .i64 lv, .slice V n c, .slice H m d, .int .i64 sm] 142)).cell? ⟨w.heap.size, 3, none⟩ = some (.int .i64 sm) := (b2.2 3 _ rfl).1
    have fa1_3 : (w.alloc (.cells #[.int .i64 lv, .slice V n c, .slice H m d, .int .i64 sm] 142)).frozen? ⟨w.heap.size, 3, none⟩ = false := (b2.2 3 _ rfl).2
    go_wp2_with fail
    clear ca1_0 fa1_0 ca1_1 fa1_1 ca1_2 fa1_2 ca1_3 fa1_3
    refine (szIntS_any _ _ _ left _ hn h0 h1).mono ?_
    rintro e w' ⟨rfl, rfl⟩
    rw [HE.out]
    have ca2_0 : (w.alloc (.cells #[.int .i64 lv, .slice V n c, .slice H m d, .int .i64 sm] 142)).cell? ⟨w.heap.size, 0, none⟩ = some (.int .i64 lv) := (b2.2 0 _ rfl).1
    have fa2_0 : (w.alloc (.cells #[.int .i64 lv, .slice V n c, .slice H m d, .int .i64 sm] 142)).frozen? ⟨w.heap.size, 0, none⟩ = false := (b2.2 0 _ rfl).2
    have ca2_1 : (w.alloc (.cells #[.int .i64 lv, .slice V n c, .slice H m d, .int .i64 sm] 142)).cell? ⟨w.heap.size, 1, none⟩ = some (.slice V n c) := (b2.2 1 _ rfl).1
    have fa2_1 : (w.alloc (.cells #[.int .i64 lv, .slice V n c, .slice H m d, .int .i64 sm] 142)).frozen? ⟨w.heap.size, 1, none⟩ = false := (b2.2 1 _ rfl).2
    have ca2_2 : (w.alloc (.cells #[.int .i64 lv, .slice V n c, .slice H m d, .int .i64 sm] 142)).cell? ⟨w.heap.size, 2, none⟩ = some (.slice H m d) := (b2.2 2 _ rfl).1
    have fa2_2 : (w.alloc (.cells #[.int .i64 lv, .slice V n c, .slice H m d, .int .i64 sm] 142)).frozen? ⟨w.heap.size, 2, none⟩ = false := (b2.2 2 _ rfl).2
    have ca2_3 : (w.alloc (.cells #[.int .i64 lv, .slice V n c, .slice H m d, .int .i64 sm] 142)).cell? ⟨w.heap.size, 3, none⟩ = some (.int .i64 sm) := (b2.2 3 _ rfl).1
    have fa2_3 : (w.alloc (.cells #[.int .i64 lv, .slice V n c, .slice H m d, .int .i64 sm] 142)).frozen? ⟨w.heap.size, 3, none⟩ = false := (b2.2 3 _ rfl).2
    go_wp2_with fail
    clear ca2_0 fa2_0 ca2_1 fa2_1 ca2_2 fa2_2 ca2_3 fa2_3
    refine (szIntS_any _ _ _ L _ hm hL0 hL1).mono ?_
    rintro e w' ⟨rfl, rfl⟩
    rw [HE2.out]
    go_wp2_with fail
    go_ret
    exact ⟨ret_int HQ.out.symm, kw⟩
  · have HE2 := hid (szI_ok (left := L) (n := m) (by omega))
    have HQ := hid ((szQ_ok (left := left) (s := n + m) (by omega)).trans (show left - ((n + m : Nat) : Int) = L - m by omega))
    clear hL
    go_enter Tryz.func98, Tryz.ntmps98
    have kw := keeps_refl w
    replace kw := Keeps.trans kw (keeps_alloc w (.cells #[.int .i64 lv, .slice V n c, .slice H m d, .int .i64 sm] 142))
    have b2 : Bl (w.alloc (.cells #[.int .i64 lv, .slice V n c, .slice H m d, .int .i64 sm] 142)) w.heap.size [.int .i64 lv, .slice V n c, .slice H m d, .int .i64 sm] := Bl.new' (by simp) (by simp)
    have ca1_0 : (w.alloc (.cells #[.int .i64 lv, .slice V n c, .slice H m d, .int .i64 sm] 142)).cell? ⟨w.heap.size, 0, none⟩ = some (.int .i64 lv) := (b2.2 0 _ rfl).1
    have fa1_0 : (w.alloc (.cells #[.int .i64 lv, .slice V n c, .slice H m d, .int .i64 sm] 142)).frozen? ⟨w.heap.size, 0, none⟩ = false := (b2.2 0 _ rfl).2
    have ca1_1 : (w.alloc (.cells #[.int .i64 lv, .slice V n c, .slice H m d, .int .i64 sm] 142)).cell? ⟨w.heap.size, 1, none⟩ = some (.slice V n c) := (b2.2 1 _ rfl).1
    have fa1_1 : (w.alloc (.cells #[.int .i64 lv, .slice V n c, .slice H m d, .int .i64 sm] 142)).frozen? ⟨w.heap.size, 1, none⟩ = false := (b2.2 1 _ rfl).2
    have ca1_2 : (w.alloc (.cells #[.int .i64 lv, .slice V n c, .slice H m d, .int .i64 sm] 142)).cell? ⟨w.heap.size, 2, none⟩ = some (.slice H m d) := (b2.2 2 _ rfl).1
    have fa1_2 : (w.alloc (.cells #[.int .i64 lv, .slice V n c, .slice H m d, .int .i64 sm] 142)).frozen? ⟨w.heap.size, 2, none⟩ = false := (b2.2 2 _ rfl).2
    have ca1_3 : (w.alloc (.cells #[.int .i64 lv, .slice V n c, .slice H m d, .int .i64 sm] 142)).cell? ⟨w.heap.size, 3, none⟩ = some (.int .i64 sm) := (b2.2 3 _ rfl).1
    have fa1_3 : (w.alloc (.cells #[.int .i64 lv, .slice V n c, .slice H m d, .int .i64 sm] 142)).frozen? ⟨w.heap.size, 3, none⟩ = false := (b2.2 3 _ rfl).2
    go_wp2_with fail
    clear ca1_0 fa1_0 ca1_1 fa1_1 ca1_2 fa1_2 ca1_3 fa1_3
    refine (szIntS_any _ _ _ left _ hn h0 h1).mono ?_
    rintro e w' ⟨rfl, rfl⟩
    rw [HE.out]
    have ca2_0 : (w.alloc (.cells #[.int .i64 lv, .slice V n c, .slice H m d, .int .i64 sm] 142)).cell? ⟨w.heap.size, 0, none⟩ = some (.int .i64 lv) := (b2.2 0 _ rfl).1
    have fa2_0 : (w.alloc (.cells #[.int .i64 lv, .slice V n c, .slice H m d, .int .i64 sm] 142)).frozen? ⟨w.heap.size, 0, none⟩ = false := (b2.2 0 _ rfl).2
    have ca2_1 : (w.alloc (.cells #[.int .i64 lv, .slice V n c, .slice H m d, .int .i64 sm] 142)).cell? ⟨w.heap.size, 1, none⟩ = some (.slice V n c) := (b2.2 1 _ rfl).1
    have fa2_1 : (w.alloc (.cells #[.int .i64 lv, .slice V n c, .slice H m d, .int .i64 sm] 142)).frozen? ⟨w.heap.size, 1, none⟩ = false := (b2.2 1 _ rfl).2
    have ca2_2 : (w.alloc (.cells #[.int .i64 lv, .slice V n c, .slice H m d, .int .i64 sm] 142)).cell? ⟨w.heap.size, 2, none⟩ = some (.slice H m d) := (b2.2 2 _ rfl).1
    have fa2_2 : (w.alloc (.cells #[.int .i64 lv, .slice V n c, .slice H m d, .int .i64 sm] 142)).frozen? ⟨w.heap.size, 2, none⟩ = false := (b2.2 2 _ rfl).2
    have ca2_3 : (w.alloc (.cells #[.int .i64 lv, .slice V n c, .slice H m d, .int .i64 sm] 142)).cell? ⟨w.heap.size, 3, none⟩ = some (.int .i64 sm) := (b2.2 3 _ rfl).1
    have fa2_3 : (w.alloc (.cells #[.int .i64 lv, .slice V n c, .slice H m d, .int .i64 sm] 142)).frozen? ⟨w.heap.size, 3, none⟩ = false := (b2.2 3 _ rfl).2
    go_wp2_with fail
    clear ca2_0 fa2_0 ca2_1 fa2_1 ca2_2 fa2_2 ca2_3 fa2_3
    refine (szIntS_any _ _ _ L _ hm hL0 hL1).mono ?_
    rintro e w' ⟨rfl, rfl⟩
    rw [HE2.out]
    go_wp2_with fail
    go_ret
    exact ⟨ret_int HQ.out.symm, kw⟩
/-- A table of one's own. -/
def TabRes (w : World) (lv : Int) (n : Nat) (xs : List Int) (m : Nat) (ys : List Int) (sm : Int) (e : Ending) (w' : World) : Prop :=
  ∃ V' H', e = .returned (.agg #[.int .i64 lv, .slice V' n n, .slice H' m m, .int .i64 sm]) ∧ Mine w' w.heap.size w'.heap.size V' n xs ∧ Mine w' w.heap.size w'.heap.size H' m ys ∧ Keeps w w'
set_option maxRecDepth 100000 in
set_option maxHeartbeats 3200000 in
theorem toTable_any {V H : Option Addr} {n c m d : Nat} {lv sm : Int} {w : World} {lo hi lo' hi' : Nat} {xs ys : List Int} (h : Ints w lo hi V n xs) (h' : Ints w lo' hi' H m ys) :
    Calls Tryz.prog 101 #[.agg #[.int .i64 lv, .slice V n c, .slice H m d, .int .i64 sm]] w (TabRes w lv n xs m ys sm) := by
  go_enter Tryz.func101, Tryz.ntmps101
  have kw := keeps_refl w
  replace kw := Keeps.trans kw (keeps_alloc w (.cells #[.int .i64 lv, .slice V n c, .slice H m d, .int .i64 sm] 142))
  have b1 : Bl (w.alloc (.cells #[.int .i64 lv, .slice V n c, .slice H m d, .int .i64 sm] 142)) w.heap.size [.int .i64 lv, .slice V n c, .slice H m d, .int .i64 sm] := Bl.new' (by simp) (by simp)
  replace b1 := b1.keeps (keeps_alloc (w.alloc (.cells #[.int .i64 lv, .slice V n c, .slice H m d, .int .i64 sm] 142)) (.cells #[.int .i64 0, .slice none 0 0, .slice none 0 0, .int .i64 0] 61))
  replace kw := Keeps.trans kw (keeps_alloc (w.alloc (.cells #[.int .i64 lv, .slice V n c, .slice H m d, .int .i64 sm] 142)) (.cells #[.int .i64 0, .slice none 0 0, .slice none 0 0, .int .i64 0] 61))
  have b2 : Bl ((w.alloc (.cells #[.int .i64 lv, .slice V n c, .slice H m d, .int .i64 sm] 142)).alloc (.cells #[.int .i64 0, .slice none 0 0, .slice none 0 0, .int .i64 0] 61)) (w.heap.size + 1) [.int .i64 0, .slice none 0 0, .slice none 0 0, .int .i64 0] := Bl.new' (by simp) (by simp)
  replace b1 := b1.keeps (keeps_alloc ((w.alloc (.cells #[.int .i64 lv, .slice V n c, .slice H m d, .int .i64 sm] 142)).alloc (.cells #[.int .i64 0, .slice none 0 0, .slice none 0 0, .int .i64 0] 61)) (.cells #[.int .i64 lv, .slice none 0 0, .slice none 0 0, .int .i64 0] 61))
  replace b2 := b2.keeps (keeps_alloc ((w.alloc (.cells #[.int .i64 lv, .slice V n c, .slice H m d, .int .i64 sm] 142)).alloc (.cells #[.int .i64 0, .slice none 0 0, .slice none 0 0, .int .i64 0] 61)) (.cells #[.int .i64 lv, .slice none 0 0, .slice none 0 0, .int .i64 0] 61))
  replace kw := Keeps.trans kw (keeps_alloc ((w.alloc (.cells #[.int .i64 lv, .slice V n c, .slice H m d, .int .i64 sm] 142)).alloc (.cells #[.int .i64 0, .slice none 0 0, .slice none 0 0, .int .i64 0] 61)) (.cells #[.int .i64 lv, .slice none 0 0, .slice none 0 0, .int .i64 0] 61))
  have b3 : Bl (((w.alloc (.cells #[.int .i64 lv, .slice V n c, .slice H m d, .int .i64 sm] 142)).alloc (.cells #[.int .i64 0, .slice none 0 0, .slice none 0 0, .int .i64 0] 61)).alloc (.cells #[.int .i64 lv, .slice none 0 0, .slice none 0 0, .int .i64 0] 61)) (w.heap.size + 1 + 1) [.int .i64 lv, .slice none 0 0, .slice none 0 0, .int .i64 0] := Bl.new' (by simp) (by simp)
  have ca1_0 : (((w.alloc (.cells #[.int .i64 lv, .slice V n c, .slice H m d, .int .i64 sm] 142)).alloc (.cells #[.int .i64 0, .slice none 0 0, .slice none 0 0, .int .i64 0] 61)).alloc (.cells #[.int .i64 lv, .slice none 0 0, .slice none 0 0, .int .i64 0] 61)).cell? ⟨w.heap.size, 0, none⟩ = some (.int .i64 lv) := (b1.2 0 _ rfl).1
  have fa1_0 : (((w.alloc (.cells #[.int .i64 lv, .slice V n c, .slice H m d, .int .i64 sm] 142)).alloc (.cells #[.int .i64 0, .slice none 0 0, .slice none 0 0, .int .i64 0] 61)).alloc (.cells #[.int .i64 lv, .slice none 0 0, .slice none 0 0, .int .i64 0] 61)).frozen? ⟨w.heap.size, 0, none⟩ = false := (b1.2 0 _ rfl).2
  have ca1_1 : (((w.alloc (.cells #[.int .i64 lv, .slice V n c, .slice H m d, .int .i64 sm] 142)).alloc (.cells #[.int .i64 0, .slice none 0 0, .slice none 0 0, .int .i64 0] 61)).alloc (.cells #[.int .i64 lv, .slice none 0 0, .slice none 0 0, .int .i64 0] 61)).cell? ⟨w.heap.size, 1, none⟩ = some (.slice V n c) := (b1.2 1 _ rfl).1
  have fa1_1 : (((w.alloc (.cells #[.int .i64 lv, .slice V n c, .slice H m d, .int .i64 sm] 142)).alloc (.cells #[.int .i64 0, .slice none 0 0, .slice none 0 0, .int .i64 0] 61)).alloc (.cells #[.int .i64 lv, .slice none 0 0, .slice none 0 0, .int .i64 0] 61)).frozen? ⟨w.heap.size, 1, none⟩ = false := (b1.2 1 _ rfl).2
  have ca1_2 : (((w.alloc (.cells #[.int .i64 lv, .slice V n c, .slice H m d, .int .i64 sm] 142)).alloc (.cells #[.int .i64 0, .slice none 0 0, .slice none 0 0, .int .i64 0] 61)).alloc (.cells #[.int .i64 lv, .slice none 0 0, .slice none 0 0, .int .i64 0] 61)).cell? ⟨w.heap.size, 2, none⟩ = some (.slice H m d) := (b1.2 2 _ rfl).1
  have fa1_2 : (((w.alloc (.cells #[.int .i64 lv, .slice V n c, .slice H m d, .int .i64 sm] 142)).alloc (.cells #[.int .i64 0, .slice none 0 0, .slice none 0 0, .int .i64 0] 61)).alloc (.cells #[.int .i64 lv, .slice none 0 0, .slice none 0 0, .int .i64 0] 61)).frozen? ⟨w.heap.size, 2, none⟩ = false := (b1.2 2 _ rfl).2
  have ca1_3 : (((w.alloc (.cells #[.int .i64 lv, .slice V n c, .slice H m d, .int .i64 sm] 142)).alloc (.cells #[.int .i64 0, .slice none 0 0, .slice none 0 0, .int .i64 0] 61)).alloc (.cells #[.int .i64 lv, .slice none 0 0, .slice none 0 0, .int .i64 0] 61)).cell? ⟨w.heap.size, 3, none⟩ = some (.int .i64 sm) := (b1.2 3 _ rfl).1
  have fa1_3 : (((w.alloc (.cells #[.int .i64 lv, .slice V n c, .slice H m d, .int .i64 sm] 142)).alloc (.cells #[.int .i64 0, .slice none 0 0, .slice none 0 0, .int .i64 0] 61)).alloc (.cells #[.int .i64 lv, .slice none 0 0, .slice none 0 0, .int .i64 0] 61)).frozen? ⟨w.heap.size, 3, none⟩ = false := (b1.2 3 _ rfl).2
  have ca2_0 : (((w.alloc (.cells #[.int .i64 lv, .slice V n c, .slice H m d, .int .i64 sm] 142)).alloc (.cells #[.int .i64 0, .slice none 0 0, .slice none 0 0, .int .i64 0] 61)).alloc (.cells #[.int .i64 lv, .slice none 0 0, .slice none 0 0, .int .i64 0] 61)).cell? ⟨w.heap.size + 1 + 1, 0, none⟩ = some (.int .i64 lv) := (b3.2 0 _ rfl).1
  have fa2_0 : (((w.alloc (.cells #[.int .i64 lv, .slice V n c, .slice H m d, .int .i64 sm] 142)).alloc (.cells #[.int .i64 0, .slice none 0 0, .slice none 0 0, .int .i64 0] 61)).alloc (.cells #[.int .i64 lv, .slice none 0 0, .slice none 0 0, .int .i64 0] 61)).frozen? ⟨w.heap.size + 1 + 1, 0, none⟩ = false := (b3.2 0 _ rfl).2
  have ca2_1 : (((w.alloc (.cells #[.int .i64 lv, .slice V n c, .slice H m d, .int .i64 sm] 142)).alloc (.cells #[.int .i64 0, .slice none 0 0, .slice none 0 0, .int .i64 0] 61)).alloc (.cells #[.int .i64 lv, .slice none 0 0, .slice none 0 0, .int .i64 0] 61)).cell? ⟨w.heap.size + 1 + 1, 1, none⟩ = some (.slice none 0 0) := (b3.2 1 _ rfl).1
  have fa2_1 : (((w.alloc (.cells #[.int .i64 lv, .slice V n c, .slice H m d, .int .i64 sm] 142)).alloc (.cells #[.int .i64 0, .slice none 0 0, .slice none 0 0, .int .i64 0] 61)).alloc (.cells #[.int .i64 lv, .slice none 0 0, .slice none 0 0, .int .i64 0] 61)).frozen? ⟨w.heap.size + 1 + 1, 1, none⟩ = false := (b3.2 1 _ rfl).2
  have ca2_2 : (((w.alloc (.cells #[.int .i64 lv, .slice V n c, .slice H m d, .int .i64 sm] 142)).alloc (.cells #[.int .i64 0, .slice none 0 0, .slice none 0 0, .int .i64 0] 61)).alloc (.cells #[.int .i64 lv, .slice none 0 0, .slice none 0 0, .int .i64 0] 61)).cell? ⟨w.heap.size + 1 + 1, 2, none⟩ = some (.slice none 0 0) := (b3.2 2 _ rfl).1
  have fa2_2 : (((w.alloc (.cells #[.int .i64 lv, .slice V n c, .slice H m d, .int .i64 sm] 142)).alloc (.cells #[.int .i64 0, .slice none 0 0, .slice none 0 0, .int .i64 0] 61)).alloc (.cells #[.int .i64 lv, .slice none 0 0, .slice none 0 0, .int .i64 0] 61)).frozen? ⟨w.heap.size + 1 + 1, 2, none⟩ = false := (b3.2 2 _ rfl).2
  have ca2_3 : (((w.alloc (.cells #[.int .i64 lv, .slice V n c, .slice H m d, .int .i64 sm] 142)).alloc (.cells #[.int .i64 0, .slice none 0 0, .slice none 0 0, .int .i64 0] 61)).alloc (.cells #[.int .i64 lv, .slice none 0 0, .slice none 0 0, .int .i64 0] 61)).cell? ⟨w.heap.size + 1 + 1, 3, none⟩ = some (.int .i64 0) := (b3.2 3 _ rfl).1
  have fa2_3 : (((w.alloc (.cells #[.int .i64 lv, .slice V n c, .slice H m d, .int .i64 sm] 142)).alloc (.cells #[.int .i64 0, .slice none 0 0, .slice none 0 0, .int .i64 0] 61)).alloc (.cells #[.int .i64 lv, .slice none 0 0, .slice none 0 0, .int .i64 0] 61)).frozen? ⟨w.heap.size + 1 + 1, 3, none⟩ = false := (b3.2 3 _ rfl).2
  go_wp2_with fail
  clear ca1_0 fa1_0 ca1_1 fa1_1 ca1_2 fa1_2 ca1_3 fa1_3 ca2_0 fa2_0 ca2_1 fa2_1 ca2_2 fa2_2 ca2_3 fa2_3
  refine (toIntS_any (h.keeps kw)).mono ?_
  rintro e w3 ⟨V1, rfl, m1, k3⟩
  have ss4 := k3.size
  try simp [World.setCell] at ss4
  replace b1 := b1.keeps k3
  replace b2 := b2.keeps k3
  replace b3 := b3.keeps k3
  replace kw := Keeps.trans kw k3
  have lt5 := b3.lt
  have sz6 := kw.size
  clear k3
  replace m1 := m1.widen (lo' := w.heap.size + 1 + 1 + 1) (by simp) (Nat.le_refl _) (Nat.le_refl _)
  have ca7_0 : w3.cell? ⟨w.heap.size, 0, none⟩ = some (.int .i64 lv) := (b1.2 0 _ rfl).1
  have fa7_0 : w3.frozen? ⟨w.heap.size, 0, none⟩ = false := (b1.2 0 _ rfl).2
  have ca7_1 : w3.cell? ⟨w.heap.size, 1, none⟩ = some (.slice V n c) := (b1.2 1 _ rfl).1
  have fa7_1 : w3.frozen? ⟨w.heap.size, 1, none⟩ = false := (b1.2 1 _ rfl).2
  have ca7_2 : w3.cell? ⟨w.heap.size, 2, none⟩ = some (.slice H m d) := (b1.2 2 _ rfl).1
  have fa7_2 : w3.frozen? ⟨w.heap.size, 2, none⟩ = false := (b1.2 2 _ rfl).2
  have ca7_3 : w3.cell? ⟨w.heap.size, 3, none⟩ = some (.int .i64 sm) := (b1.2 3 _ rfl).1
  have fa7_3 : w3.frozen? ⟨w.heap.size, 3, none⟩ = false := (b1.2 3 _ rfl).2
  have ca8_0 : w3.cell? ⟨w.heap.size + 1 + 1, 0, none⟩ = some (.int .i64 lv) := (b3.2 0 _ rfl).1
  have fa8_0 : w3.frozen? ⟨w.heap.size + 1 + 1, 0, none⟩ = false := (b3.2 0 _ rfl).2
  have ca8_1 : w3.cell? ⟨w.heap.size + 1 + 1, 1, none⟩ = some (.slice none 0 0) := (b3.2 1 _ rfl).1
  have fa8_1 : w3.frozen? ⟨w.heap.size + 1 + 1, 1, none⟩ = false := (b3.2 1 _ rfl).2
  have ca8_2 : w3.cell? ⟨w.heap.size + 1 + 1, 2, none⟩ = some (.slice none 0 0) := (b3.2 2 _ rfl).1
  have fa8_2 : w3.frozen? ⟨w.heap.size + 1 + 1, 2, none⟩ = false := (b3.2 2 _ rfl).2
  have ca8_3 : w3.cell? ⟨w.heap.size + 1 + 1, 3, none⟩ = some (.int .i64 0) := (b3.2 3 _ rfl).1
  have fa8_3 : w3.frozen? ⟨w.heap.size + 1 + 1, 3, none⟩ = false := (b3.2 3 _ rfl).2
  replace b1 := b1.far (p := ⟨w.heap.size + 1 + 1, 1, none⟩) (by show _ ≠ (w.heap.size + 1 + 1); omega) (.slice V1 n n)
  replace b2 := b2.far (p := ⟨w.heap.size + 1 + 1, 1, none⟩) (by show _ ≠ (w.heap.size + 1 + 1); omega) (.slice V1 n n)
  replace m1 := m1.fr (fr_one (p := (w.heap.size + 1 + 1)) (i := 1) (.slice V1 n n)) (by omega)
  replace kw := Below.setCell kw (p := ⟨w.heap.size + 1 + 1, 1, none⟩) (by show _ ≤ (w.heap.size + 1 + 1); omega) (.slice V1 n n)
  replace b3 : Bl (w3.setCell ⟨w.heap.size + 1 + 1, 1, none⟩ (.slice V1 n n)) (w.heap.size + 1 + 1) [.int .i64 lv, .slice V1 n n, .slice none 0 0, .int .i64 0] := b3.set 1 (.slice V1 n n)
  have ca9_0 : (w3.setCell ⟨w.heap.size + 1 + 1, 1, none⟩ (.slice V1 n n)).cell? ⟨w.heap.size, 0, none⟩ = some (.int .i64 lv) := (b1.2 0 _ rfl).1
  have fa9_0 : (w3.setCell ⟨w.heap.size + 1 + 1, 1, none⟩ (.slice V1 n n)).frozen? ⟨w.heap.size, 0, none⟩ = false := (b1.2 0 _ rfl).2
  have ca9_1 : (w3.setCell ⟨w.heap.size + 1 + 1, 1, none⟩ (.slice V1 n n)).cell? ⟨w.heap.size, 1, none⟩ = some (.slice V n c) := (b1.2 1 _ rfl).1
  have fa9_1 : (w3.setCell ⟨w.heap.size + 1 + 1, 1, none⟩ (.slice V1 n n)).frozen? ⟨w.heap.size, 1, none⟩ = false := (b1.2 1 _ rfl).2
  have ca9_2 : (w3.setCell ⟨w.heap.size + 1 + 1, 1, none⟩ (.slice V1 n n)).cell? ⟨w.heap.size, 2, none⟩ = some (.slice H m d) := (b1.2 2 _ rfl).1
  have fa9_2 : (w3.setCell ⟨w.heap.size + 1 + 1, 1, none⟩ (.slice V1 n n)).frozen? ⟨w.heap.size, 2, none⟩ = false := (b1.2 2 _ rfl).2
  have ca9_3 : (w3.setCell ⟨w.heap.size + 1 + 1, 1, none⟩ (.slice V1 n n)).cell? ⟨w.heap.size, 3, none⟩ = some (.int .i64 sm) := (b1.2 3 _ rfl).1
  have fa9_3 : (w3.setCell ⟨w.heap.size + 1 + 1, 1, none⟩ (.slice V1 n n)).frozen? ⟨w.heap.size, 3, none⟩ = false := (b1.2 3 _ rfl).2
  go_wp2_with fail
  clear ca7_0 fa7_0 ca7_1 fa7_1 ca7_2 fa7_2 ca7_3 fa7_3 ca8_0 fa8_0 ca8_1 fa8_1 ca8_2 fa8_2 ca8_3 fa8_3 ca9_0 fa9_0 ca9_1 fa9_1 ca9_2 fa9_2 ca9_3 fa9_3
  refine (toIntS_any (h'.keeps kw)).mono ?_
  rintro e w10 ⟨H1, rfl, m2, k10⟩
  have ss11 := k10.size
  try simp [World.setCell] at ss11
  replace b1 := b1.keeps k10
  replace b2 := b2.keeps k10
  replace b3 := b3.keeps k10
  replace m1 := m1.keeps k10
  replace kw := Keeps.trans kw k10
  have lt12 := b3.lt
  have sz13 := kw.size
  clear k10
  try simp at m2
  replace m2 := m2.widen (lo' := w.heap.size + 1 + 1 + 1) (by first | omega | (simp [World.setCell]; done) | (simp [World.setCell]; omega)) (Nat.le_refl _) (Nat.le_refl _)
  have ca14_0 : w10.cell? ⟨w.heap.size, 0, none⟩ = some (.int .i64 lv) := (b1.2 0 _ rfl).1
  have fa14_0 : w10.frozen? ⟨w.heap.size, 0, none⟩ = false := (b1.2 0 _ rfl).2
  have ca14_1 : w10.cell? ⟨w.heap.size, 1, none⟩ = some (.slice V n c) := (b1.2 1 _ rfl).1
  have fa14_1 : w10.frozen? ⟨w.heap.size, 1, none⟩ = false := (b1.2 1 _ rfl).2
  have ca14_2 : w10.cell? ⟨w.heap.size, 2, none⟩ = some (.slice H m d) := (b1.2 2 _ rfl).1
  have fa14_2 : w10.frozen? ⟨w.heap.size, 2, none⟩ = false := (b1.2 2 _ rfl).2
  have ca14_3 : w10.cell? ⟨w.heap.size, 3, none⟩ = some (.int .i64 sm) := (b1.2 3 _ rfl).1
  have fa14_3 : w10.frozen? ⟨w.heap.size, 3, none⟩ = false := (b1.2 3 _ rfl).2
  have ca15_0 : w10.cell? ⟨w.heap.size + 1 + 1, 0, none⟩ = some (.int .i64 lv) := (b3.2 0 _ rfl).1
  have fa15_0 : w10.frozen? ⟨w.heap.size + 1 + 1, 0, none⟩ = false := (b3.2 0 _ rfl).2
  have ca15_1 : w10.cell? ⟨w.heap.size + 1 + 1, 1, none⟩ = some (.slice V1 n n) := (b3.2 1 _ rfl).1
  have fa15_1 : w10.frozen? ⟨w.heap.size + 1 + 1, 1, none⟩ = false := (b3.2 1 _ rfl).2
  have ca15_2 : w10.cell? ⟨w.heap.size + 1 + 1, 2, none⟩ = some (.slice none 0 0) := (b3.2 2 _ rfl).1
  have fa15_2 : w10.frozen? ⟨w.heap.size + 1 + 1, 2, none⟩ = false := (b3.2 2 _ rfl).2
  have ca15_3 : w10.cell? ⟨w.heap.size + 1 + 1, 3, none⟩ = some (.int .i64 0) := (b3.2 3 _ rfl).1
  have fa15_3 : w10.frozen? ⟨w.heap.size + 1 + 1, 3, none⟩ = false := (b3.2 3 _ rfl).2
  replace b1 := b1.far (p := ⟨w.heap.size + 1 + 1, 2, none⟩) (by show _ ≠ (w.heap.size + 1 + 1); omega) (.slice H1 m m)
  replace b2 := b2.far (p := ⟨w.heap.size + 1 + 1, 2, none⟩) (by show _ ≠ (w.heap.size + 1 + 1); omega) (.slice H1 m m)
  replace m1 := m1.fr (fr_one (p := (w.heap.size + 1 + 1)) (i := 2) (.slice H1 m m)) (by omega)
  replace m2 := m2.fr (fr_one (p := (w.heap.size + 1 + 1)) (i := 2) (.slice H1 m m)) (by omega)
  replace kw := Below.setCell kw (p := ⟨w.heap.size + 1 + 1, 2, none⟩) (by show _ ≤ (w.heap.size + 1 + 1); omega) (.slice H1 m m)
  replace b3 : Bl (w10.setCell ⟨w.heap.size + 1 + 1, 2, none⟩ (.slice H1 m m)) (w.heap.size + 1 + 1) [.int .i64 lv, .slice V1 n n, .slice H1 m m, .int .i64 0] := b3.set 2 (.slice H1 m m)
  have ca16_0 : (w10.setCell ⟨w.heap.size + 1 + 1, 2, none⟩ (.slice H1 m m)).cell? ⟨w.heap.size + 1 + 1, 0, none⟩ = some (.int .i64 lv) := (b3.2 0 _ rfl).1
  have fa16_0 : (w10.setCell ⟨w.heap.size + 1 + 1, 2, none⟩ (.slice H1 m m)).frozen? ⟨w.heap.size + 1 + 1, 0, none⟩ = false := (b3.2 0 _ rfl).2
  have ca16_1 : (w10.setCell ⟨w.heap.size + 1 + 1, 2, none⟩ (.slice H1 m m)).cell? ⟨w.heap.size + 1 + 1, 1, none⟩ = some (.slice V1 n n) := (b3.2 1 _ rfl).1
  have fa16_1 : (w10.setCell ⟨w.heap.size + 1 + 1, 2, none⟩ (.slice H1 m m)).frozen? ⟨w.heap.size + 1 + 1, 1, none⟩ = false := (b3.2 1 _ rfl).2
  have ca16_2 : (w10.setCell ⟨w.heap.size + 1 + 1, 2, none⟩ (.slice H1 m m)).cell? ⟨w.heap.size + 1 + 1, 2, none⟩ = some (.slice H1 m m) := (b3.2 2 _ rfl).1
  have fa16_2 : (w10.setCell ⟨w.heap.size + 1 + 1, 2, none⟩ (.slice H1 m m)).frozen? ⟨w.heap.size + 1 + 1, 2, none⟩ = false := (b3.2 2 _ rfl).2
  have ca16_3 : (w10.setCell ⟨w.heap.size + 1 + 1, 2, none⟩ (.slice H1 m m)).cell? ⟨w.heap.size + 1 + 1, 3, none⟩ = some (.int .i64 0) := (b3.2 3 _ rfl).1
  have fa16_3 : (w10.setCell ⟨w.heap.size + 1 + 1, 2, none⟩ (.slice H1 m m)).frozen? ⟨w.heap.size + 1 + 1, 3, none⟩ = false := (b3.2 3 _ rfl).2
  have ca17_0 : (w10.setCell ⟨w.heap.size + 1 + 1, 2, none⟩ (.slice H1 m m)).cell? ⟨w.heap.size, 0, none⟩ = some (.int .i64 lv) := (b1.2 0 _ rfl).1
  have fa17_0 : (w10.setCell ⟨w.heap.size + 1 + 1, 2, none⟩ (.slice H1 m m)).frozen? ⟨w.heap.size, 0, none⟩ = false := (b1.2 0 _ rfl).2
  have ca17_1 : (w10.setCell ⟨w.heap.size + 1 + 1, 2, none⟩ (.slice H1 m m)).cell? ⟨w.heap.size, 1, none⟩ = some (.slice V n c) := (b1.2 1 _ rfl).1
  have fa17_1 : (w10.setCell ⟨w.heap.size + 1 + 1, 2, none⟩ (.slice H1 m m)).frozen? ⟨w.heap.size, 1, none⟩ = false := (b1.2 1 _ rfl).2
  have ca17_2 : (w10.setCell ⟨w.heap.size + 1 + 1, 2, none⟩ (.slice H1 m m)).cell? ⟨w.heap.size, 2, none⟩ = some (.slice H m d) := (b1.2 2 _ rfl).1
  have fa17_2 : (w10.setCell ⟨w.heap.size + 1 + 1, 2, none⟩ (.slice H1 m m)).frozen? ⟨w.heap.size, 2, none⟩ = false := (b1.2 2 _ rfl).2
  have ca17_3 : (w10.setCell ⟨w.heap.size + 1 + 1, 2, none⟩ (.slice H1 m m)).cell? ⟨w.heap.size, 3, none⟩ = some (.int .i64 sm) := (b1.2 3 _ rfl).1
  have fa17_3 : (w10.setCell ⟨w.heap.size + 1 + 1, 2, none⟩ (.slice H1 m m)).frozen? ⟨w.heap.size, 3, none⟩ = false := (b1.2 3 _ rfl).2
  replace b1 := b1.far (p := ⟨w.heap.size + 1 + 1, 3, none⟩) (by show _ ≠ (w.heap.size + 1 + 1); omega) (.int .i64 sm)
  replace b2 := b2.far (p := ⟨w.heap.size + 1 + 1, 3, none⟩) (by show _ ≠ (w.heap.size + 1 + 1); omega) (.int .i64 sm)
  replace m1 := m1.fr (fr_one (p := (w.heap.size + 1 + 1)) (i := 3) (.int .i64 sm)) (by omega)
  replace m2 := m2.fr (fr_one (p := (w.heap.size + 1 + 1)) (i := 3) (.int .i64 sm)) (by omega)
  replace kw := Below.setCell kw (p := ⟨w.heap.size + 1 + 1, 3, none⟩) (by show _ ≤ (w.heap.size + 1 + 1); omega) (.int .i64 sm)
  replace b3 : Bl ((w10.setCell ⟨w.heap.size + 1 + 1, 2, none⟩ (.slice H1 m m)).setCell ⟨w.heap.size + 1 + 1, 3, none⟩ (.int .i64 sm)) (w.heap.size + 1 + 1) [.int .i64 lv, .slice V1 n n, .slice H1 m m, .int .i64 sm] := b3.set 3 (.int .i64 sm)
  have ca18_0 : ((w10.setCell ⟨w.heap.size + 1 + 1, 2, none⟩ (.slice H1 m m)).setCell ⟨w.heap.size + 1 + 1, 3, none⟩ (.int .i64 sm)).cell? ⟨w.heap.size + 1 + 1, 0, none⟩ = some (.int .i64 lv) := (b3.2 0 _ rfl).1
  have fa18_0 : ((w10.setCell ⟨w.heap.size + 1 + 1, 2, none⟩ (.slice H1 m m)).setCell ⟨w.heap.size + 1 + 1, 3, none⟩ (.int .i64 sm)).frozen? ⟨w.heap.size + 1 + 1, 0, none⟩ = false := (b3.2 0 _ rfl).2
  have ca18_1 : ((w10.setCell ⟨w.heap.size + 1 + 1, 2, none⟩ (.slice H1 m m)).setCell ⟨w.heap.size + 1 + 1, 3, none⟩ (.int .i64 sm)).cell? ⟨w.heap.size + 1 + 1, 1, none⟩ = some (.slice V1 n n) := (b3.2 1 _ rfl).1
  have fa18_1 : ((w10.setCell ⟨w.heap.size + 1 + 1, 2, none⟩ (.slice H1 m m)).setCell ⟨w.heap.size + 1 + 1, 3, none⟩ (.int .i64 sm)).frozen? ⟨w.heap.size + 1 + 1, 1, none⟩ = false := (b3.2 1 _ rfl).2
  have ca18_2 : ((w10.setCell ⟨w.heap.size + 1 + 1, 2, none⟩ (.slice H1 m m)).setCell ⟨w.heap.size + 1 + 1, 3, none⟩ (.int .i64 sm)).cell? ⟨w.heap.size + 1 + 1, 2, none⟩ = some (.slice H1 m m) := (b3.2 2 _ rfl).1
  have fa18_2 : ((w10.setCell ⟨w.heap.size + 1 + 1, 2, none⟩ (.slice H1 m m)).setCell ⟨w.heap.size + 1 + 1, 3, none⟩ (.int .i64 sm)).frozen? ⟨w.heap.size + 1 + 1, 2, none⟩ = false := (b3.2 2 _ rfl).2
  have ca18_3 : ((w10.setCell ⟨w.heap.size + 1 + 1, 2, none⟩ (.slice H1 m m)).setCell ⟨w.heap.size + 1 + 1, 3, none⟩ (.int .i64 sm)).cell? ⟨w.heap.size + 1 + 1, 3, none⟩ = some (.int .i64 sm) := (b3.2 3 _ rfl).1
  have fa18_3 : ((w10.setCell ⟨w.heap.size + 1 + 1, 2, none⟩ (.slice H1 m m)).setCell ⟨w.heap.size + 1 + 1, 3, none⟩ (.int .i64 sm)).frozen? ⟨w.heap.size + 1 + 1, 3, none⟩ = false := (b3.2 3 _ rfl).2
  have ca19_0 : ((w10.setCell ⟨w.heap.size + 1 + 1, 2, none⟩ (.slice H1 m m)).setCell ⟨w.heap.size + 1 + 1, 3, none⟩ (.int .i64 sm)).cell? ⟨w.heap.size + 1, 0, none⟩ = some (.int .i64 0) := (b2.2 0 _ rfl).1
  have fa19_0 : ((w10.setCell ⟨w.heap.size + 1 + 1, 2, none⟩ (.slice H1 m m)).setCell ⟨w.heap.size + 1 + 1, 3, none⟩ (.int .i64 sm)).frozen? ⟨w.heap.size + 1, 0, none⟩ = false := (b2.2 0 _ rfl).2
  have ca19_1 : ((w10.setCell ⟨w.heap.size + 1 + 1, 2, none⟩ (.slice H1 m m)).setCell ⟨w.heap.size + 1 + 1, 3, none⟩ (.int .i64 sm)).cell? ⟨w.heap.size + 1, 1, none⟩ = some (.slice none 0 0) := (b2.2 1 _ rfl).1
  have fa19_1 : ((w10.setCell ⟨w.heap.size + 1 + 1, 2, none⟩ (.slice H1 m m)).setCell ⟨w.heap.size + 1 + 1, 3, none⟩ (.int .i64 sm)).frozen? ⟨w.heap.size + 1, 1, none⟩ = false := (b2.2 1 _ rfl).2
  have ca19_2 : ((w10.setCell ⟨w.heap.size + 1 + 1, 2, none⟩ (.slice H1 m m)).setCell ⟨w.heap.size + 1 + 1, 3, none⟩ (.int .i64 sm)).cell? ⟨w.heap.size + 1, 2, none⟩ = some (.slice none 0 0) := (b2.2 2 _ rfl).1
  have fa19_2 : ((w10.setCell ⟨w.heap.size + 1 + 1, 2, none⟩ (.slice H1 m m)).setCell ⟨w.heap.size + 1 + 1, 3, none⟩ (.int .i64 sm)).frozen? ⟨w.heap.size + 1, 2, none⟩ = false := (b2.2 2 _ rfl).2
  have ca19_3 : ((w10.setCell ⟨w.heap.size + 1 + 1, 2, none⟩ (.slice H1 m m)).setCell ⟨w.heap.size + 1 + 1, 3, none⟩ (.int .i64 sm)).cell? ⟨w.heap.size + 1, 3, none⟩ = some (.int .i64 0) := (b2.2 3 _ rfl).1
  have fa19_3 : ((w10.setCell ⟨w.heap.size + 1 + 1, 2, none⟩ (.slice H1 m m)).setCell ⟨w.heap.size + 1 + 1, 3, none⟩ (.int .i64 sm)).frozen? ⟨w.heap.size + 1, 3, none⟩ = false := (b2.2 3 _ rfl).2
  replace b1 := b1.far (p := ⟨w.heap.size + 1, 0, none⟩) (by show _ ≠ (w.heap.size + 1); omega) (.int .i64 lv)
  replace b3 := b3.far (p := ⟨w.heap.size + 1, 0, none⟩) (by show _ ≠ (w.heap.size + 1); omega) (.int .i64 lv)
  replace m1 := m1.fr (fr_one (p := (w.heap.size + 1)) (i := 0) (.int .i64 lv)) (by omega)
  replace m2 := m2.fr (fr_one (p := (w.heap.size + 1)) (i := 0) (.int .i64 lv)) (by omega)
  replace kw := Below.setCell kw (p := ⟨w.heap.size + 1, 0, none⟩) (by show _ ≤ (w.heap.size + 1); omega) (.int .i64 lv)
  replace b2 : Bl (((w10.setCell ⟨w.heap.size + 1 + 1, 2, none⟩ (.slice H1 m m)).setCell ⟨w.heap.size + 1 + 1, 3, none⟩ (.int .i64 sm)).setCell ⟨w.heap.size + 1, 0, none⟩ (.int .i64 lv)) (w.heap.size + 1) [.int .i64 lv, .slice none 0 0, .slice none 0 0, .int .i64 0] := b2.set 0 (.int .i64 lv)
  replace b1 := b1.far (p := ⟨w.heap.size + 1, 1, none⟩) (by show _ ≠ (w.heap.size + 1); omega) (.slice V1 n n)
  replace b3 := b3.far (p := ⟨w.heap.size + 1, 1, none⟩) (by show _ ≠ (w.heap.size + 1); omega) (.slice V1 n n)
  replace m1 := m1.fr (fr_one (p := (w.heap.size + 1)) (i := 1) (.slice V1 n n)) (by omega)
  replace m2 := m2.fr (fr_one (p := (w.heap.size + 1)) (i := 1) (.slice V1 n n)) (by omega)
  replace kw := Below.setCell kw (p := ⟨w.heap.size + 1, 1, none⟩) (by show _ ≤ (w.heap.size + 1); omega) (.slice V1 n n)
  replace b2 : Bl ((((w10.setCell ⟨w.heap.size + 1 + 1, 2, none⟩ (.slice H1 m m)).setCell ⟨w.heap.size + 1 + 1, 3, none⟩ (.int .i64 sm)).setCell ⟨w.heap.size + 1, 0, none⟩ (.int .i64 lv)).setCell ⟨w.heap.size + 1, 1, none⟩ (.slice V1 n n)) (w.heap.size + 1) [.int .i64 lv, .slice V1 n n, .slice none 0 0, .int .i64 0] := b2.set 1 (.slice V1 n n)
  replace b1 := b1.far (p := ⟨w.heap.size + 1, 2, none⟩) (by show _ ≠ (w.heap.size + 1); omega) (.slice H1 m m)
  replace b3 := b3.far (p := ⟨w.heap.size + 1, 2, none⟩) (by show _ ≠ (w.heap.size + 1); omega) (.slice H1 m m)
  replace m1 := m1.fr (fr_one (p := (w.heap.size + 1)) (i := 2) (.slice H1 m m)) (by omega)
  replace m2 := m2.fr (fr_one (p := (w.heap.size + 1)) (i := 2) (.slice H1 m m)) (by omega)
  replace kw := Below.setCell kw (p := ⟨w.heap.size + 1, 2, none⟩) (by show _ ≤ (w.heap.size + 1); omega) (.slice H1 m m)
  replace b2 : Bl (((((w10.setCell ⟨w.heap.size + 1 + 1, 2, none⟩ (.slice H1 m m)).setCell ⟨w.heap.size + 1 + 1, 3, none⟩ (.int .i64 sm)).setCell ⟨w.heap.size + 1, 0, none⟩ (.int .i64 lv)).setCell ⟨w.heap.size + 1, 1, none⟩ (.slice V1 n n)).setCell ⟨w.heap.size + 1, 2, none⟩ (.slice H1 m m)) (w.heap.size + 1) [.int .i64 lv, .slice V1 n n, .slice H1 m m, .int .i64 0] := b2.set 2 (.slice H1 m m)
  replace b1 := b1.far (p := ⟨w.heap.size + 1, 3, none⟩) (by show _ ≠ (w.heap.size + 1); omega) (.int .i64 sm)
  replace b3 := b3.far (p := ⟨w.heap.size + 1, 3, none⟩) (by show _ ≠ (w.heap.size + 1); omega) (.int .i64 sm)
  replace m1 := m1.fr (fr_one (p := (w.heap.size + 1)) (i := 3) (.int .i64 sm)) (by omega)
  replace m2 := m2.fr (fr_one (p := (w.heap.size + 1)) (i := 3) (.int .i64 sm)) (by omega)
  replace kw := Below.setCell kw (p := ⟨w.heap.size + 1, 3, none⟩) (by show _ ≤ (w.heap.size + 1); omega) (.int .i64 sm)
  replace b2 : Bl ((((((w10.setCell ⟨w.heap.size + 1 + 1, 2, none⟩ (.slice H1 m m)).setCell ⟨w.heap.size + 1 + 1, 3, none⟩ (.int .i64 sm)).setCell ⟨w.heap.size + 1, 0, none⟩ (.int .i64 lv)).setCell ⟨w.heap.size + 1, 1, none⟩ (.slice V1 n n)).setCell ⟨w.heap.size + 1, 2, none⟩ (.slice H1 m m)).setCell ⟨w.heap.size + 1, 3, none⟩ (.int .i64 sm)) (w.heap.size + 1) [.int .i64 lv, .slice V1 n n, .slice H1 m m, .int .i64 sm] := b2.set 3 (.int .i64 sm)
  have HT := hid (m1.widen (lo' := w.heap.size) (hi' := ((((((w10.setCell ⟨w.heap.size + 1 + 1, 2, none⟩ (.slice H1 m m)).setCell ⟨w.heap.size + 1 + 1, 3, none⟩ (.int .i64 sm)).setCell ⟨w.heap.size + 1, 0, none⟩ (.int .i64 lv)).setCell ⟨w.heap.size + 1, 1, none⟩ (.slice V1 n n)).setCell ⟨w.heap.size + 1, 2, none⟩ (.slice H1 m m)).setCell ⟨w.heap.size + 1, 3, none⟩ (.int .i64 sm)).heap.size) (by omega) (by simp [World.setCell] <;> omega) (Nat.le_refl _))
  have HT2 := hid (m2.widen (lo' := w.heap.size) (hi' := ((((((w10.setCell ⟨w.heap.size + 1 + 1, 2, none⟩ (.slice H1 m m)).setCell ⟨w.heap.size + 1 + 1, 3, none⟩ (.int .i64 sm)).setCell ⟨w.heap.size + 1, 0, none⟩ (.int .i64 lv)).setCell ⟨w.heap.size + 1, 1, none⟩ (.slice V1 n n)).setCell ⟨w.heap.size + 1, 2, none⟩ (.slice H1 m m)).setCell ⟨w.heap.size + 1, 3, none⟩ (.int .i64 sm)).heap.size) (by omega) (by simp [World.setCell]) (Nat.le_refl _))
  have HK := hid kw
  clear m1 m2 kw
  go_wp2_with fail
  clear ca14_0 fa14_0 ca14_1 fa14_1 ca14_2 fa14_2 ca14_3 fa14_3 ca15_0 fa15_0 ca15_1 fa15_1 ca15_2 fa15_2 ca15_3 fa15_3 ca16_0 fa16_0 ca16_1 fa16_1 ca16_2 fa16_2 ca16_3 fa16_3 ca17_0 fa17_0 ca17_1 fa17_1 ca17_2 fa17_2 ca17_3 fa17_3 ca18_0 fa18_0 ca18_1 fa18_1 ca18_2 fa18_2 ca18_3 fa18_3 ca19_0 fa19_0 ca19_1 fa19_1 ca19_2 fa19_2 ca19_3 fa19_3
  have ca0_0 : ((((((w10.setCell ⟨w.heap.size + 1 + 1, 2, none⟩ (.slice H1 m m)).setCell ⟨w.heap.size + 1 + 1, 3, none⟩ (.int .i64 sm)).setCell ⟨w.heap.size + 1, 0, none⟩ (.int .i64 lv)).setCell ⟨w.heap.size + 1, 1, none⟩ (.slice V1 n n)).setCell ⟨w.heap.size + 1, 2, none⟩ (.slice H1 m m)).setCell ⟨w.heap.size + 1, 3, none⟩ (.int .i64 sm)).cell? ⟨w.heap.size + 1, 0, none⟩ = some (.int .i64 lv) := (b2.2 0 _ rfl).1
  have ca0_1 : ((((((w10.setCell ⟨w.heap.size + 1 + 1, 2, none⟩ (.slice H1 m m)).setCell ⟨w.heap.size + 1 + 1, 3, none⟩ (.int .i64 sm)).setCell ⟨w.heap.size + 1, 0, none⟩ (.int .i64 lv)).setCell ⟨w.heap.size + 1, 1, none⟩ (.slice V1 n n)).setCell ⟨w.heap.size + 1, 2, none⟩ (.slice H1 m m)).setCell ⟨w.heap.size + 1, 3, none⟩ (.int .i64 sm)).cell? ⟨w.heap.size + 1, 1, none⟩ = some (.slice V1 n n) := (b2.2 1 _ rfl).1
  have ca0_2 : ((((((w10.setCell ⟨w.heap.size + 1 + 1, 2, none⟩ (.slice H1 m m)).setCell ⟨w.heap.size + 1 + 1, 3, none⟩ (.int .i64 sm)).setCell ⟨w.heap.size + 1, 0, none⟩ (.int .i64 lv)).setCell ⟨w.heap.size + 1, 1, none⟩ (.slice V1 n n)).setCell ⟨w.heap.size + 1, 2, none⟩ (.slice H1 m m)).setCell ⟨w.heap.size + 1, 3, none⟩ (.int .i64 sm)).cell? ⟨w.heap.size + 1, 2, none⟩ = some (.slice H1 m m) := (b2.2 2 _ rfl).1
  have ca0_3 : ((((((w10.setCell ⟨w.heap.size + 1 + 1, 2, none⟩ (.slice H1 m m)).setCell ⟨w.heap.size + 1 + 1, 3, none⟩ (.int .i64 sm)).setCell ⟨w.heap.size + 1, 0, none⟩ (.int .i64 lv)).setCell ⟨w.heap.size + 1, 1, none⟩ (.slice V1 n n)).setCell ⟨w.heap.size + 1, 2, none⟩ (.slice H1 m m)).setCell ⟨w.heap.size + 1, 3, none⟩ (.int .i64 sm)).cell? ⟨w.heap.size + 1, 3, none⟩ = some (.int .i64 sm) := (b2.2 3 _ rfl).1
  try simp only [Exit.inBlock, Exit.then]
  exact bodyPost_ret (v := .agg #[.int .i64 lv, .slice V1 n n, .slice H1 m m, .int .i64 sm]) (by simp [results, Tryz.results101, go_sem, ca0_0, ca0_1, ca0_2, ca0_3]) rfl ⟨_, _, rfl, HT.out, HT2.out, HK.out⟩
set_option maxRecDepth 100000 in
set_option maxHeartbeats 1600000 in
theorem eqTable_true {V H : Option Addr} {n c m d : Nat} {lv sm : Int} {w : World} {V' H' : Option Addr} {c' d' lo hi lo' hi' lo2 hi2 lo3 hi3 : Nat} {xs ys : List Int} (h : Ints w lo hi V n xs) (g : Ints w lo2 hi2 H m ys) (h' : Ints w lo' hi' V' n xs) (g' : Ints w lo3 hi3 H' m ys) :
    Calls Tryz.prog 108 #[.agg #[.int .i64 lv, .slice V n c, .slice H m d, .int .i64 sm], .agg #[.int .i64 lv, .slice V' n c', .slice H' m d', .int .i64 sm]] w fun e w' => e = .returned (.bool true) ∧ Keeps w w' := by
  have e1 : (lv != lv) = false := by simp
  have e2 : (sm != sm) = false := by simp
  go_enter Tryz.func108, Tryz.ntmps108
  have kw := keeps_refl w
  replace kw := Keeps.trans kw (keeps_alloc w (.cells #[.int .i64 lv, .slice V n c, .slice H m d, .int .i64 sm] 61))
  have b2 : Bl (w.alloc (.cells #[.int .i64 lv, .slice V n c, .slice H m d, .int .i64 sm] 61)) w.heap.size [.int .i64 lv, .slice V n c, .slice H m d, .int .i64 sm] := Bl.new' (by simp) (by simp)
  replace b2 := b2.keeps (keeps_alloc (w.alloc (.cells #[.int .i64 lv, .slice V n c, .slice H m d, .int .i64 sm] 61)) (.cells #[.int .i64 lv, .slice V' n c', .slice H' m d', .int .i64 sm] 61))
  replace kw := Keeps.trans kw (keeps_alloc (w.alloc (.cells #[.int .i64 lv, .slice V n c, .slice H m d, .int .i64 sm] 61)) (.cells #[.int .i64 lv, .slice V' n c', .slice H' m d', .int .i64 sm] 61))
  have b3 : Bl ((w.alloc (.cells #[.int .i64 lv, .slice V n c, .slice H m d, .int .i64 sm] 61)).alloc (.cells #[.int .i64 lv, .slice V' n c', .slice H' m d', .int .i64 sm] 61)) (w.heap.size + 1) [.int .i64 lv, .slice V' n c', .slice H' m d', .int .i64 sm] := Bl.new' (by simp) (by simp)
  have ca1_0 : ((w.alloc (.cells #[.int .i64 lv, .slice V n c, .slice H m d, .int .i64 sm] 61)).alloc (.cells #[.int .i64 lv, .slice V' n c', .slice H' m d', .int .i64 sm] 61)).cell? ⟨w.heap.size, 0, none⟩ = some (.int .i64 lv) := (b2.2 0 _ rfl).1
  have fa1_0 : ((w.alloc (.cells #[.int .i64 lv, .slice V n c, .slice H m d, .int .i64 sm] 61)).alloc (.cells #[.int .i64 lv, .slice V' n c', .slice H' m d', .int .i64 sm] 61)).frozen? ⟨w.heap.size, 0, none⟩ = false := (b2.2 0 _ rfl).2
  have ca1_1 : ((w.alloc (.cells #[.int .i64 lv, .slice V n c, .slice H m d, .int .i64 sm] 61)).alloc (.cells #[.int .i64 lv, .slice V' n c', .slice H' m d', .int .i64 sm] 61)).cell? ⟨w.heap.size, 1, none⟩ = some (.slice V n c) := (b2.2 1 _ rfl).1
  have fa1_1 : ((w.alloc (.cells #[.int .i64 lv, .slice V n c, .slice H m d, .int .i64 sm] 61)).alloc (.cells #[.int .i64 lv, .slice V' n c', .slice H' m d', .int .i64 sm] 61)).frozen? ⟨w.heap.size, 1, none⟩ = false := (b2.2 1 _ rfl).2
  have ca1_2 : ((w.alloc (.cells #[.int .i64 lv, .slice V n c, .slice H m d, .int .i64 sm] 61)).alloc (.cells #[.int .i64 lv, .slice V' n c', .slice H' m d', .int .i64 sm] 61)).cell? ⟨w.heap.size, 2, none⟩ = some (.slice H m d) := (b2.2 2 _ rfl).1
  have fa1_2 : ((w.alloc (.cells #[.int .i64 lv, .slice V n c, .slice H m d, .int .i64 sm] 61)).alloc (.cells #[.int .i64 lv, .slice V' n c', .slice H' m d', .int .i64 sm] 61)).frozen? ⟨w.heap.size, 2, none⟩ = false := (b2.2 2 _ rfl).2
  have ca1_3 : ((w.alloc (.cells #[.int .i64 lv, .slice V n c, .slice H m d, .int .i64 sm] 61)).alloc (.cells #[.int .i64 lv, .slice V' n c', .slice H' m d', .int .i64 sm] 61)).cell? ⟨w.heap.size, 3, none⟩ = some (.int .i64 sm) := (b2.2 3 _ rfl).1
  have fa1_3 : ((w.alloc (.cells #[.int .i64 lv, .slice V n c, .slice H m d, .int .i64 sm] 61)).alloc (.cells #[.int .i64 lv, .slice V' n c', .slice H' m d', .int .i64 sm] 61)).frozen? ⟨w.heap.size, 3, none⟩ = false := (b2.2 3 _ rfl).2
  have ca2_0 : ((w.alloc (.cells #[.int .i64 lv, .slice V n c, .slice H m d, .int .i64 sm] 61)).alloc (.cells #[.int .i64 lv, .slice V' n c', .slice H' m d', .int .i64 sm] 61)).cell? ⟨w.heap.size + 1, 0, none⟩ = some (.int .i64 lv) := (b3.2 0 _ rfl).1
  have fa2_0 : ((w.alloc (.cells #[.int .i64 lv, .slice V n c, .slice H m d, .int .i64 sm] 61)).alloc (.cells #[.int .i64 lv, .slice V' n c', .slice H' m d', .int .i64 sm] 61)).frozen? ⟨w.heap.size + 1, 0, none⟩ = false := (b3.2 0 _ rfl).2
  have ca2_1 : ((w.alloc (.cells #[.int .i64 lv, .slice V n c, .slice H m d, .int .i64 sm] 61)).alloc (.cells #[.int .i64 lv, .slice V' n c', .slice H' m d', .int .i64 sm] 61)).cell? ⟨w.heap.size + 1, 1, none⟩ = some (.slice V' n c') := (b3.2 1 _ rfl).1
  have fa2_1 : ((w.alloc (.cells #[.int .i64 lv, .slice V n c, .slice H m d, .int .i64 sm] 61)).alloc (.cells #[.int .i64 lv, .slice V' n c', .slice H' m d', .int .i64 sm] 61)).frozen? ⟨w.heap.size + 1, 1, none⟩ = false := (b3.2 1 _ rfl).2
  have ca2_2 : ((w.alloc (.cells #[.int .i64 lv, .slice V n c, .slice H m d, .int .i64 sm] 61)).alloc (.cells #[.int .i64 lv, .slice V' n c', .slice H' m d', .int .i64 sm] 61)).cell? ⟨w.heap.size + 1, 2, none⟩ = some (.slice H' m d') := (b3.2 2 _ rfl).1
  have fa2_2 : ((w.alloc (.cells #[.int .i64 lv, .slice V n c, .slice H m d, .int .i64 sm] 61)).alloc (.cells #[.int .i64 lv, .slice V' n c', .slice H' m d', .int .i64 sm] 61)).frozen? ⟨w.heap.size + 1, 2, none⟩ = false := (b3.2 2 _ rfl).2
  have ca2_3 : ((w.alloc (.cells #[.int .i64 lv, .slice V n c, .slice H m d, .int .i64 sm] 61)).alloc (.cells #[.int .i64 lv, .slice V' n c', .slice H' m d', .int .i64 sm] 61)).cell? ⟨w.heap.size + 1, 3, none⟩ = some (.int .i64 sm) := (b3.2 3 _ rfl).1
  have fa2_3 : ((w.alloc (.cells #[.int .i64 lv, .slice V n c, .slice H m d, .int .i64 sm] 61)).alloc (.cells #[.int .i64 lv, .slice V' n c', .slice H' m d', .int .i64 sm] 61)).frozen? ⟨w.heap.size + 1, 3, none⟩ = false := (b3.2 3 _ rfl).2
  go_wp2_with fail
  clear ca1_0 fa1_0 ca1_1 fa1_1 ca1_2 fa1_2 ca1_3 fa1_3 ca2_0 fa2_0 ca2_1 fa2_1 ca2_2 fa2_2 ca2_3 fa2_3
  refine (eqIntS_true (h.keeps kw) (h'.keeps kw)).mono ?_
  rintro e w3 ⟨rfl, k3⟩
  replace k3 := Quiet.keeps k3
  replace b2 := b2.keeps k3
  replace b3 := b3.keeps k3
  replace kw := Keeps.trans kw k3
  have lt4 := b3.lt
  have sz5 := kw.size
  clear k3
  have ca6_0 : w3.cell? ⟨w.heap.size, 0, none⟩ = some (.int .i64 lv) := (b2.2 0 _ rfl).1
  have fa6_0 : w3.frozen? ⟨w.heap.size, 0, none⟩ = false := (b2.2 0 _ rfl).2
  have ca6_1 : w3.cell? ⟨w.heap.size, 1, none⟩ = some (.slice V n c) := (b2.2 1 _ rfl).1
  have fa6_1 : w3.frozen? ⟨w.heap.size, 1, none⟩ = false := (b2.2 1 _ rfl).2
  have ca6_2 : w3.cell? ⟨w.heap.size, 2, none⟩ = some (.slice H m d) := (b2.2 2 _ rfl).1
  have fa6_2 : w3.frozen? ⟨w.heap.size, 2, none⟩ = false := (b2.2 2 _ rfl).2
  have ca6_3 : w3.cell? ⟨w.heap.size, 3, none⟩ = some (.int .i64 sm) := (b2.2 3 _ rfl).1
  have fa6_3 : w3.frozen? ⟨w.heap.size, 3, none⟩ = false := (b2.2 3 _ rfl).2
  have ca7_0 : w3.cell? ⟨w.heap.size + 1, 0, none⟩ = some (.int .i64 lv) := (b3.2 0 _ rfl).1
  have fa7_0 : w3.frozen? ⟨w.heap.size + 1, 0, none⟩ = false := (b3.2 0 _ rfl).2
  have ca7_1 : w3.cell? ⟨w.heap.size + 1, 1, none⟩ = some (.slice V' n c') := (b3.2 1 _ rfl).1
  have fa7_1 : w3.frozen? ⟨w.heap.size + 1, 1, none⟩ = false := (b3.2 1 _ rfl).2
  have ca7_2 : w3.cell? ⟨w.heap.size + 1, 2, none⟩ = some (.slice H' m d') := (b3.2 2 _ rfl).1
  have fa7_2 : w3.frozen? ⟨w.heap.size + 1, 2, none⟩ = false := (b3.2 2 _ rfl).2
  have ca7_3 : w3.cell? ⟨w.heap.size + 1, 3, none⟩ = some (.int .i64 sm) := (b3.2 3 _ rfl).1
  have fa7_3 : w3.frozen? ⟨w.heap.size + 1, 3, none⟩ = false := (b3.2 3 _ rfl).2
  go_wp2_with fail
  clear ca6_0 fa6_0 ca6_1 fa6_1 ca6_2 fa6_2 ca6_3 fa6_3 ca7_0 fa7_0 ca7_1 fa7_1 ca7_2 fa7_2 ca7_3 fa7_3
  refine (eqIntS_true (g.keeps kw) (g'.keeps kw)).mono ?_
  rintro e w8 ⟨rfl, k8⟩
  replace k8 := Quiet.keeps k8
  replace b2 := b2.keeps k8
  replace b3 := b3.keeps k8
  replace kw := Keeps.trans kw k8
  have lt9 := b3.lt
  have sz10 := kw.size
  clear k8
  have ca11_0 : w8.cell? ⟨w.heap.size, 0, none⟩ = some (.int .i64 lv) := (b2.2 0 _ rfl).1
  have fa11_0 : w8.frozen? ⟨w.heap.size, 0, none⟩ = false := (b2.2 0 _ rfl).2
  have ca11_1 : w8.cell? ⟨w.heap.size, 1, none⟩ = some (.slice V n c) := (b2.2 1 _ rfl).1
  have fa11_1 : w8.frozen? ⟨w.heap.size, 1, none⟩ = false := (b2.2 1 _ rfl).2
  have ca11_2 : w8.cell? ⟨w.heap.size, 2, none⟩ = some (.slice H m d) := (b2.2 2 _ rfl).1
  have fa11_2 : w8.frozen? ⟨w.heap.size, 2, none⟩ = false := (b2.2 2 _ rfl).2
  have ca11_3 : w8.cell? ⟨w.heap.size, 3, none⟩ = some (.int .i64 sm) := (b2.2 3 _ rfl).1
  have fa11_3 : w8.frozen? ⟨w.heap.size, 3, none⟩ = false := (b2.2 3 _ rfl).2
  have ca12_0 : w8.cell? ⟨w.heap.size + 1, 0, none⟩ = some (.int .i64 lv) := (b3.2 0 _ rfl).1
  have fa12_0 : w8.frozen? ⟨w.heap.size + 1, 0, none⟩ = false := (b3.2 0 _ rfl).2
  have ca12_1 : w8.cell? ⟨w.heap.size + 1, 1, none⟩ = some (.slice V' n c') := (b3.2 1 _ rfl).1
  have fa12_1 : w8.frozen? ⟨w.heap.size + 1, 1, none⟩ = false := (b3.2 1 _ rfl).2
  have ca12_2 : w8.cell? ⟨w.heap.size + 1, 2, none⟩ = some (.slice H' m d') := (b3.2 2 _ rfl).1
  have fa12_2 : w8.frozen? ⟨w.heap.size + 1, 2, none⟩ = false := (b3.2 2 _ rfl).2
  have ca12_3 : w8.cell? ⟨w.heap.size + 1, 3, none⟩ = some (.int .i64 sm) := (b3.2 3 _ rfl).1
  have fa12_3 : w8.frozen? ⟨w.heap.size + 1, 3, none⟩ = false := (b3.2 3 _ rfl).2
  go_wp2_with fail
  clear ca11_0 fa11_0 ca11_1 fa11_1 ca11_2 fa11_2 ca11_3 fa11_3 ca12_0 fa12_0 ca12_1 fa12_1 ca12_2 fa12_2 ca12_3 fa12_3
  go_ret
  exact ⟨rfl, kw⟩
set_option maxRecDepth 100000 in
set_option maxHeartbeats 3200000 in
theorem szTableS_any {A : Option Addr} {n c : Nat} {l : List TT} {left : Int} {w : World} (h : TabsArg w A n l) (h0 : 0 ≤ left) (h1 : left ≤ 1048576) :
    Calls Tryz.prog 63 #[.slice A n c, .int .i64 left] w fun e w' => e = .returned (.int .i64 (szQ left (n + tsz l n))) ∧ Keeps w w' := by
  have hm := h.le
  unfold maxLen at hm
  have hl := h.len
  have HN := hid (fun h => szQ_no (left := left) (s := n + tsz l n) h)
  have HY := hid (fun h => szQ_ok (left := left) (s := n + tsz l n) h)
  by_cases hn : left - (n : Int) < 0
  · go_enter Tryz.func63, Tryz.ntmps63
    go_wp2
    go_ret
    exact ⟨ret_int (HN.out (by omega)).symm, keeps_refl _⟩
  have hn2 : n ≤ 1048576 := by omega
  have HS := hid (fun k (hk : k < n) => tsz_succ (l := l) (k := k) (by omega))
  have HM := hid (fun k (hk : k ≤ n) => tsz_mono (l := l) (i := k) (j := n) hk (by omega))
  have HZ := hid (tsz_zero l)
  clear hl
  go_enter Tryz.func63, Tryz.ntmps63
  go_wp2_with fail
  go_loopw [1, 5] (fun q i wr => ∃ (k : Nat) (z : Int), k ≤ n ∧ i = .int .i64 k ∧ q = .int .i64 z ∧ Hid (z = left - n - tsz l k) ∧ (0 ≤ z ∧ z ≤ 1048576) ∧ Keeps w wr) (fun _ i _ => n - (intOf i).toNat)
  case atStart => exact ⟨0, _, Nat.zero_le _, rfl, rfl, hid (by rw [HZ.out]; omega), by omega, keeps_refl _⟩
  case round =>
    obtain ⟨k, z, hk, rfl, rfl, HE, hz, hq⟩ := hrel
    by_cases hlt : k < n
    · obtain ⟨b, off, lv, V, nv, cv, H, nh, ch, sm, rfl, _, hc0, hc1, hc2, hc3, hxs, hys, hx⟩ := (h.keeps hq).at_ hlt
      have hi1 : (k : Int) < (n : Int) := by omega
      go_wp2_with fail
      refine (szTable_any hxs hys hz.1 hz.2).mono ?_
      rintro e w1 ⟨rfl, k1⟩
      have hq1 := hid (hq.trans k1)
      clear hc0 hc1 hc2 hc3 k1 hq
      by_cases h2 : ((nv + nh : Nat) : Int) ≤ z
      · have HV := hid (show z - ((nv + nh : Nat) : Int) = left - n - tsz l (k + 1) by have := HS.out k hlt; have := hx.out; have := HE.out; omega)
        rw [szQ_ok h2]
        obtain ⟨z', hz'⟩ : ∃ z', z - ((nv + nh : Nat) : Int) = z' := ⟨_, rfl⟩
        rw [hz'] at HV ⊢
        have hz9 : 0 ≤ z' ∧ z' ≤ 1048576 := by omega
        have hz8 : ¬ z' < 0 := by omega
        clear hz'
        go_wp2_with fail
        go_roundw
        case rel => exact ⟨k + 1, z', by omega, by go_num, rfl, HV, hz9, hq1.out⟩
        case measure => simp [intOf]; omega
      · rw [szQ_no h2]
        go_wp2
        go_ret
        exact ⟨ret_int (HN.out (by have := HS.out k hlt; have := hx.out; have := HE.out; have := HM.out (k + 1) hlt; omega)).symm, hq1.out⟩
    · obtain rfl : k = n := by omega
      go_wp2
      go_ret
      exact ⟨ret_int (by rw [HY.out (by have := HE.out; omega)]; have := HE.out; omega), hq⟩
theorem info_tab : (Tryz.prog.info? 61).map (fun i => (i.zero, i.size, i.bytes)) = some (some (.agg #[.int .i64 0, .slice none 0 0, .slice none 0 0, .int .i64 0]), 4, 64) := by kernel_rfl
abbrev zT : Array Value := #[.int .i64 0, .slice none 0 0, .slice none 0 0, .int .i64 0]
theorem make_tabs (n : Nat) (hn : n ≤ 67108864) (w : World) :
    (Instr.makeSlice 44 (.int .i64 (n : Int)) (.int .i64 (n : Int))).run Tryz.prog w = .ok (.slice (some ⟨w.heap.size, 0, none⟩) n n) (w.alloc (.cells (madeCells #[.int .i64 0, .slice none 0 0, .slice none 0 0, .int .i64 0] (n * 4)) 61)) := by
  obtain ⟨i, hi, hz0, hz1, hz2⟩ := info_parts info_tab
  have h := run_make_rowN (P := Tryz.prog) 44 61 i _ Tryz.underlying44 hi hz0 .i64 .i64 n n (Nat.le_refl _) (by rw [hz2]; omega) (by omega) w
  rw [hz1] at h
  simpa [Value.cells] using h
theorem FillD.made {α : Type} {f : α → List D} {sz : Nat} {z : α} (w : World) (n : Nat) (c : Array Value) (T : TypeId) (l : List α) : FillD f sz z (w.alloc (.cells (madeCells c (n * sz)) T)) w.heap.size n T l 0 :=
  FillD.new (madeCells c (n * sz)).toList (by unfold OwnC; rw [heap_alloc_new]) (by simp [size_madeCells])
/-- A table is stored at row k. -/
theorem FillD.tab {w w1 : World} {g n k nv nh : Nat} {T : TypeId} {l : List TT} {lv sm : Int} {xs ys : List Int} {V H : Option Addr} (h : FillD dT 4 t0 w g n T l k) (hk : k < n) (k1 : Keeps w w1) (e : (lv, xs, ys, sm) = l.getD k t0) (hx : xs.length = nv) (hy : ys.length = nh)
    (mv : Mine w1 w.heap.size w1.heap.size V nv xs) (mh : Mine w1 w.heap.size w1.heap.size H nh ys) :
    FillD dT 4 t0 ((((w1.setCell ⟨g, k * 4, none⟩ (.int .i64 lv)).setCell ⟨g, k * 4 + 1, none⟩ (.slice V nv nv)).setCell ⟨g, k * 4 + 2, none⟩ (.slice H nh nh)).setCell ⟨g, k * 4 + 3, none⟩ (.int .i64 sm)) g n T l (k + 1) := by
  have hg := h.lt
  obtain ⟨cs, ho, hc, h1⟩ := h.keeps k1
  have ho1 := (((ho.set_ (k * 4) (.int .i64 lv)).set_ (k * 4 + 1) (.slice V nv nv)).set_ (k * 4 + 2) (.slice H nh nh)).set_ (k * 4 + 3) (.int .i64 sm)
  have hr := Nat.mul_le_mul_right 4 (show k + 1 ≤ n from hk)
  rw [Nat.succ_mul] at hr
  have hs := k1.size
  subst hx hy
  refine FillD.put (w := w1) (cs := cs) h1 ?_ (by simp [World.setCell]) ho1 (by simpa using hc) (fun j hj => ?_) (fun i hi => ?_)
  · exact (((fr_one _).trans (fr_one _)).trans (fr_one _)).trans (fr_one _)
  · rw [getD_set_other (by omega), getD_set_other (by omega), getD_set_other (by omega), getD_set_other (by omega)]
  · rw [← e]
    match i, hi with
    | 0, _ =>
      change Rg _ _ _ _ _ _ (List.getD _ (k * 4) undef)
      rw [getD_set_other (by omega), getD_set_other (by omega), getD_set_other (by omega), getD_set_same (by omega)]
      exact Rg.of_i _
    | 1, _ =>
      rw [getD_set_other (by omega), getD_set_other (by omega), getD_set_same (by simp; omega)]
      exact (RgS.widen mv.rgs (by omega) (Nat.le_refl _) (Nat.le_refl _)).rg
    | 2, _ =>
      rw [getD_set_other (by omega), getD_set_same (by simp; omega)]
      exact (RgS.widen mh.rgs (by omega) (Nat.le_refl _) (Nat.le_refl _)).rg
    | 3, _ =>
      rw [getD_set_same (by simp; omega)]
      exact Rg.of_i _
theorem FillD.tabs {w : World} {g n : Nat} {T : TypeId} {l : List TT} (h : FillD dT 4 t0 w g n T l n) (hl : l.length = n) (hn : n ≤ 67108864) (hs : ∀ j, smT (l.getD j t0)) : Tabs true true w g w.heap.size (some ⟨g, 0, none⟩) n l := ⟨h.rgs dT_len hl, hl, hn, hs⟩
set_option maxRecDepth 100000 in
set_option maxHeartbeats 3200000 in
theorem toTableS_any {A : Option Addr} {lo hi n c : Nat} {un : Bool} {l : List TT} {w : World} (h : Tabs true un w lo hi A n l) :
    Calls Tryz.prog 66 #[.slice A n c] w fun e w' => ∃ A', e = .returned (.slice A' n n) ∧ Tabs true true w' w.heap.size w'.heap.size A' n l ∧ Keeps w w' := by
  have hn := h.le
  have hmk := make_tabs n hn
  have hl := hid h.len
  have hsm := hid h.sm
  go_enter Tryz.func66, Tryz.ntmps66
  go_wp2_with fail
  clear hmk
  go_loopw [4] (fun i wr => ∃ k : Nat, k ≤ n ∧ i = .int .i64 k ∧ FillD dT 4 t0 wr w.heap.size n 61 l k ∧ Keeps w wr) (fun i _ => n - (intOf i).toNat)
  case atStart => exact ⟨0, Nat.zero_le _, rfl, FillD.made w n _ _ l, keeps_alloc _ _⟩
  case round =>
    obtain ⟨k, hk, rfl, hown, hkeep⟩ := hrel
    have hgs := hown.lt
    by_cases hlt : k < n
    · obtain ⟨b, off, lv, V, nv, cv, H, nh, ch, sm, vs, hs, rfl, _, _, hc0, hc1, hc2, hc3, hv, hh, hx⟩ := (h.keeps hkeep).at_ hlt
      have hi1 : (k : Int) < (n : Int) := by omega
      have hnv := hv.1
      have hnh := hh.1
      go_wp2_with fail
      refine (toTable_any hv hh).mono ?_
      rintro e w1 ⟨V1, H1, rfl, mv, mh, k1⟩
      have HF := hid (hown.tab hlt k1 hx.out hnv hnh mv mh)
      obtain ⟨cs, ho, hcl, _⟩ := hown
      have ho1 := ho.keeps k1
      have d1 := ho1.cell (k * 4) (by omega)
      have d2 := ho1.cell (k * 4 + 1) (by omega)
      have d3 := ho1.cell (k * 4 + 2) (by omega)
      have d4 := ho1.cell (k * 4 + 3) (by omega)
      have f1 := ho1.frozen (k * 4)
      have f2 := ho1.frozen (k * 4 + 1)
      have f3 := ho1.frozen (k * 4 + 2)
      have f4 := ho1.frozen (k * 4 + 3)
      have H2 := hid (Below.setCell (Below.setCell (Below.setCell (Below.setCell (Keeps.trans hkeep k1) (p := ⟨w.heap.size, k * 4, none⟩) (Nat.le_refl _) (.int .i64 lv)) (p := ⟨w.heap.size, k * 4 + 1, none⟩) (Nat.le_refl _) (.slice V1 nv nv)) (p := ⟨w.heap.size, k * 4 + 2, none⟩) (Nat.le_refl _) (.slice H1 nh nh)) (p := ⟨w.heap.size, k * 4 + 3, none⟩) (Nat.le_refl _) (.int .i64 sm))
      clear ho ho1 hkeep k1 mv mh hv hh hc0 hc1 hc2 hc3 hx hnv hnh
      go_wp2_with fail
      go_roundw
      case rel => exact ⟨k + 1, by omega, by go_num, HF.out, H2.out⟩
      case measure => simp [intOf]; omega
    · obtain rfl : k = n := by omega
      go_wp2
      go_ret
      exact ⟨_, rfl, hown.tabs hl.out hn hsm.out, hkeep⟩
set_option maxRecDepth 100000 in
set_option maxHeartbeats 3200000 in
theorem eqTableS_true {A B : Option Addr} {lo hi lo' hi' n n' c c' : Nat} {un un' : Bool} {l : List TT} {w : World} (ha : Tabs true un w lo hi A n l) (hb : Tabs true un' w lo' hi' B n' l) :
    Calls Tryz.prog 72 #[.slice A n c, .slice B n' c'] w fun e w' => e = .returned (.bool true) ∧ Keeps w w' := by
  obtain rfl : n = n' := ha.len.symm.trans hb.len
  have hn := ha.le
  have hbb : ((n : Int) != n) = false := by simp
  go_enter Tryz.func72, Tryz.ntmps72
  go_wp2_with fail
  go_loopw [5] (fun i wr => ∃ k : Nat, k ≤ n ∧ i = .int .i64 k ∧ Keeps w wr) (fun i _ => n - (intOf i).toNat)
  case atStart => exact ⟨0, Nat.zero_le _, rfl, keeps_refl _⟩
  case round =>
    obtain ⟨k, hk, rfl, hq⟩ := hrel
    by_cases hlt : k < n
    · obtain ⟨b, off, lv, V, nv, cv, H, nh, ch, sm, vs, hs, rfl, _, _, hc0, hc1, hc2, hc3, hv, hh, hx⟩ := (ha.keeps hq).at_ hlt
      obtain ⟨b', off', lv', V', nv', cv', H', nh', ch', sm', vs', hs', rfl, _, _, hc0', hc1', hc2', hc3', hv', hh', hx'⟩ := (hb.keeps hq).at_ hlt
      have e0 := hx.out.trans hx'.out.symm
      obtain rfl : lv = lv' := congrArg (fun p : TT => p.1) e0
      obtain rfl : vs = vs' := congrArg (fun p : TT => p.2.1) e0
      obtain rfl : hs = hs' := congrArg (fun p : TT => p.2.2.1) e0
      obtain rfl : sm = sm' := congrArg (fun p : TT => p.2.2.2) e0
      obtain rfl : nv = nv' := hv.1.symm.trans hv'.1
      obtain rfl : nh = nh' := hh.1.symm.trans hh'.1
      clear hx hx' e0
      have hi1 : (k : Int) < (n : Int) := by omega
      have kS := hid (show ∀ w', Keeps wr w' → (w'.cell? ⟨b, off + k * 4, none⟩ = some (.int .i64 lv) ∧ w'.cell? ⟨b, off + k * 4 + 1, none⟩ = some (.slice V nv cv) ∧ w'.cell? ⟨b, off + k * 4 + 2, none⟩ = some (.slice H nh ch) ∧ w'.cell? ⟨b, off + k * 4 + 3, none⟩ = some (.int .i64 sm) ∧ w'.cell? ⟨b', off' + k * 4, none⟩ = some (.int .i64 lv) ∧ w'.cell? ⟨b', off' + k * 4 + 1, none⟩ = some (.slice V' nv cv') ∧ w'.cell? ⟨b', off' + k * 4 + 2, none⟩ = some (.slice H' nh ch') ∧ w'.cell? ⟨b', off' + k * 4 + 3, none⟩ = some (.int .i64 sm)) from fun w' q => ⟨cell_keeps hc0 q, cell_keeps hc1 q, cell_keeps hc2 q, cell_keeps hc3 q, cell_keeps hc0' q, cell_keeps hc1' q, cell_keeps hc2' q, cell_keeps hc3' q⟩)
      go_wp2_with fail
      go_region_held3 (fun w' => w'.cell? ⟨b, off + k * 4, none⟩ = some (.int .i64 lv) ∧ w'.cell? ⟨b, off + k * 4 + 1, none⟩ = some (.slice V nv cv) ∧ w'.cell? ⟨b, off + k * 4 + 2, none⟩ = some (.slice H nh ch) ∧ w'.cell? ⟨b, off + k * 4 + 3, none⟩ = some (.int .i64 sm) ∧ w'.cell? ⟨b', off' + k * 4, none⟩ = some (.int .i64 lv) ∧ w'.cell? ⟨b', off' + k * 4 + 1, none⟩ = some (.slice V' nv cv') ∧ w'.cell? ⟨b', off' + k * 4 + 2, none⟩ = some (.slice H' nh ch') ∧ w'.cell? ⟨b', off' + k * 4 + 3, none⟩ = some (.int .i64 sm)) (first | with_reducible exact kS.out _ (keeps_d0 _) | with_reducible exact kS.out _ k1 | go_keep)
        ((go_at_call 108; refine (eqTable_true (hv.keeps (keeps_d0 wr)) (hh.keeps (keeps_d0 wr)) (hv'.keeps (keeps_d0 wr)) (hh'.keeps (keeps_d0 wr))).mono ?_; rintro e w1 ⟨rfl, k0⟩; have k1 : Keeps wr w1 := keeps_d k0; clear k0))
      have H2 := hid (hq.trans k1)
      clear k1 hq kS
      go_wp2
      go_roundw
      case rel => exact ⟨k + 1, by omega, by go_num, H2.out⟩
      case measure => simp [intOf]; omega
    · go_wp2
      go_ret
      exact ⟨rfl, hq⟩
end Go.Proofs.YtlkjhkkfdmjfcaaGreatDoor
