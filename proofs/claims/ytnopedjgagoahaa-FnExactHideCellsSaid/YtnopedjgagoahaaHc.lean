/- HideCells: of the program and of the reference. -/
import Derived.Test.YtnopedjgagoahaaHcI
namespace Go.Proofs.Ytnopedjgagoahaa
open Go.RowKit
set_option linter.unusedVariables false
set_option linter.unusedSimpArgs false

theorem hcB_true {zs : List Int} {t : Int} : hcB zs t = true ↔ zs.length ≤ 600 ∧ within (-1) 1000000 zs = true ∧ 0 ≤ t ∧ t ≤ 1000000 := by
  unfold hcB; simp only [Bool.and_eq_true, decide_eq_true_eq, inB_true]; exact ⟨fun h => ⟨h.1.1, h.1.2, h.2⟩, fun h => ⟨⟨h.1, h.2.1⟩, h.2.2⟩⟩
theorem hcB_no1 {zs : List Int} {t : Int} (h : ¬ zs.length ≤ 600) : hcB zs t = false := by
  rw [Bool.eq_false_iff]; intro e; exact h (hcB_true.1 e).1
theorem hcB_no2 {zs : List Int} {t : Int} (h : within (-1) 1000000 zs = false) : hcB zs t = false := by
  rw [Bool.eq_false_iff]; intro e; rw [(hcB_true.1 e).2.1] at h; cases h
theorem hcB_no3 {zs : List Int} {t : Int} (h : ¬ (0 ≤ t ∧ t ≤ 1000000)) : hcB zs t = false := by
  rw [Bool.eq_false_iff]; intro e; exact h (hcB_true.1 e).2.2
theorem HcRes.yes {w w' : World} {lv sm t : Int} {xs ys zs : List Int} {A1 A2 A3 : Option Addr} {n1 c1 n2 c2 n3 c3 : Nat} (h : hcB zs t = true) (m : PubM w' w.heap.size w'.heap.size A1 n1 xs A2 n2 ys A3 n3 (zs.map (hv t))) (k : Keeps w w') :
    HcRes w (hcQ lv sm xs ys zs t) (.returned (.tuple #[.agg #[.int .i64 lv, .slice A1 n1 c1, .slice A2 n2 c2, .int .i64 sm, .slice A3 n3 c3], .bool true])) w' := by
  rw [hcQ_yes h]; exact ⟨_, _, _, _, _, _, _, _, _, rfl, m, k⟩

set_option maxRecDepth 100000 in
set_option maxHeartbeats 6400000 in
theorem implHideCells_any {A1 A2 A3 : Option Addr} {n1 n2 n3 c1 c2 c3 : Nat} {lv sm : Int} {w : World} {t : Int} {lo hi : Nat} {xs ys zs : List Int} (h : PubI w lo hi A1 n1 xs A2 n2 ys A3 n3 zs) (g1 : NilOk A1 n1 c1) (g2 : NilOk A2 n2 c2) :
    Calls Try.prog 47 #[.agg #[.int .i64 lv, .slice A1 n1 c1, .slice A2 n2 c2, .int .i64 sm, .slice A3 n3 c3], .int .i64 t] w (HcRes w (hcQ lv sm xs ys zs t)) := by
  have hn := h.i3.le
  have hl := h.i3.1
  have HL := hid hl
  clear hl
  have G1 := hid g1
  have G2 := hid g2
  clear g1 g2
  go_enter Try.func47, Try.ntmps47
  have kw := keeps_refl w
  replace kw := Keeps.trans kw (keeps_alloc w (.cells #[.int .i64 lv, .slice A1 n1 c1, .slice A2 n2 c2, .int .i64 sm, .slice A3 n3 c3] 74))
  have b2 : Bl (w.alloc (.cells #[.int .i64 lv, .slice A1 n1 c1, .slice A2 n2 c2, .int .i64 sm, .slice A3 n3 c3] 74)) w.heap.size [.int .i64 lv, .slice A1 n1 c1, .slice A2 n2 c2, .int .i64 sm, .slice A3 n3 c3] := Bl.new' (by simp) (by simp)
  replace b2 := b2.keeps (keeps_alloc (w.alloc (.cells #[.int .i64 lv, .slice A1 n1 c1, .slice A2 n2 c2, .int .i64 sm, .slice A3 n3 c3] 74)) (.cells #[.int .i64 0, .slice none 0 0, .slice none 0 0, .int .i64 0, .slice none 0 0] 74))
  replace kw := Keeps.trans kw (keeps_alloc (w.alloc (.cells #[.int .i64 lv, .slice A1 n1 c1, .slice A2 n2 c2, .int .i64 sm, .slice A3 n3 c3] 74)) (.cells #[.int .i64 0, .slice none 0 0, .slice none 0 0, .int .i64 0, .slice none 0 0] 74))
  have b4 : Bl ((w.alloc (.cells #[.int .i64 lv, .slice A1 n1 c1, .slice A2 n2 c2, .int .i64 sm, .slice A3 n3 c3] 74)).alloc (.cells #[.int .i64 0, .slice none 0 0, .slice none 0 0, .int .i64 0, .slice none 0 0] 74)) (w.heap.size + 1) [.int .i64 0, .slice none 0 0, .slice none 0 0, .int .i64 0, .slice none 0 0] := Bl.new' (by simp) (by simp)
  by_cases c0 : n3 ≤ 600
  rotate_left
  · have e600 : (600 : Int) < (n3 : Int) := by omega
    have HN := hid (hcQ_no (lv := lv) (sm := sm) (xs := xs) (ys := ys) (hcB_no1 (t := t) (zs := zs) (by rw [HL.out]; exact c0)))
    have ca1_0 : ((w.alloc (.cells #[.int .i64 lv, .slice A1 n1 c1, .slice A2 n2 c2, .int .i64 sm, .slice A3 n3 c3] 74)).alloc (.cells #[.int .i64 0, .slice none 0 0, .slice none 0 0, .int .i64 0, .slice none 0 0] 74)).cell? ⟨w.heap.size, 0, none⟩ = some (.int .i64 lv) := (b2.2 0 _ rfl).1
    have fa1_0 : ((w.alloc (.cells #[.int .i64 lv, .slice A1 n1 c1, .slice A2 n2 c2, .int .i64 sm, .slice A3 n3 c3] 74)).alloc (.cells #[.int .i64 0, .slice none 0 0, .slice none 0 0, .int .i64 0, .slice none 0 0] 74)).frozen? ⟨w.heap.size, 0, none⟩ = false := (b2.2 0 _ rfl).2
    have ca1_1 : ((w.alloc (.cells #[.int .i64 lv, .slice A1 n1 c1, .slice A2 n2 c2, .int .i64 sm, .slice A3 n3 c3] 74)).alloc (.cells #[.int .i64 0, .slice none 0 0, .slice none 0 0, .int .i64 0, .slice none 0 0] 74)).cell? ⟨w.heap.size, 1, none⟩ = some (.slice A1 n1 c1) := (b2.2 1 _ rfl).1
    have fa1_1 : ((w.alloc (.cells #[.int .i64 lv, .slice A1 n1 c1, .slice A2 n2 c2, .int .i64 sm, .slice A3 n3 c3] 74)).alloc (.cells #[.int .i64 0, .slice none 0 0, .slice none 0 0, .int .i64 0, .slice none 0 0] 74)).frozen? ⟨w.heap.size, 1, none⟩ = false := (b2.2 1 _ rfl).2
    have ca1_2 : ((w.alloc (.cells #[.int .i64 lv, .slice A1 n1 c1, .slice A2 n2 c2, .int .i64 sm, .slice A3 n3 c3] 74)).alloc (.cells #[.int .i64 0, .slice none 0 0, .slice none 0 0, .int .i64 0, .slice none 0 0] 74)).cell? ⟨w.heap.size, 2, none⟩ = some (.slice A2 n2 c2) := (b2.2 2 _ rfl).1
    have fa1_2 : ((w.alloc (.cells #[.int .i64 lv, .slice A1 n1 c1, .slice A2 n2 c2, .int .i64 sm, .slice A3 n3 c3] 74)).alloc (.cells #[.int .i64 0, .slice none 0 0, .slice none 0 0, .int .i64 0, .slice none 0 0] 74)).frozen? ⟨w.heap.size, 2, none⟩ = false := (b2.2 2 _ rfl).2
    have ca1_3 : ((w.alloc (.cells #[.int .i64 lv, .slice A1 n1 c1, .slice A2 n2 c2, .int .i64 sm, .slice A3 n3 c3] 74)).alloc (.cells #[.int .i64 0, .slice none 0 0, .slice none 0 0, .int .i64 0, .slice none 0 0] 74)).cell? ⟨w.heap.size, 3, none⟩ = some (.int .i64 sm) := (b2.2 3 _ rfl).1
    have fa1_3 : ((w.alloc (.cells #[.int .i64 lv, .slice A1 n1 c1, .slice A2 n2 c2, .int .i64 sm, .slice A3 n3 c3] 74)).alloc (.cells #[.int .i64 0, .slice none 0 0, .slice none 0 0, .int .i64 0, .slice none 0 0] 74)).frozen? ⟨w.heap.size, 3, none⟩ = false := (b2.2 3 _ rfl).2
    have ca1_4 : ((w.alloc (.cells #[.int .i64 lv, .slice A1 n1 c1, .slice A2 n2 c2, .int .i64 sm, .slice A3 n3 c3] 74)).alloc (.cells #[.int .i64 0, .slice none 0 0, .slice none 0 0, .int .i64 0, .slice none 0 0] 74)).cell? ⟨w.heap.size, 4, none⟩ = some (.slice A3 n3 c3) := (b2.2 4 _ rfl).1
    have fa1_4 : ((w.alloc (.cells #[.int .i64 lv, .slice A1 n1 c1, .slice A2 n2 c2, .int .i64 sm, .slice A3 n3 c3] 74)).alloc (.cells #[.int .i64 0, .slice none 0 0, .slice none 0 0, .int .i64 0, .slice none 0 0] 74)).frozen? ⟨w.heap.size, 4, none⟩ = false := (b2.2 4 _ rfl).2
    have ca2_0 : ((w.alloc (.cells #[.int .i64 lv, .slice A1 n1 c1, .slice A2 n2 c2, .int .i64 sm, .slice A3 n3 c3] 74)).alloc (.cells #[.int .i64 0, .slice none 0 0, .slice none 0 0, .int .i64 0, .slice none 0 0] 74)).cell? ⟨w.heap.size + 1, 0, none⟩ = some (.int .i64 0) := (b4.2 0 _ rfl).1
    have fa2_0 : ((w.alloc (.cells #[.int .i64 lv, .slice A1 n1 c1, .slice A2 n2 c2, .int .i64 sm, .slice A3 n3 c3] 74)).alloc (.cells #[.int .i64 0, .slice none 0 0, .slice none 0 0, .int .i64 0, .slice none 0 0] 74)).frozen? ⟨w.heap.size + 1, 0, none⟩ = false := (b4.2 0 _ rfl).2
    have ca2_1 : ((w.alloc (.cells #[.int .i64 lv, .slice A1 n1 c1, .slice A2 n2 c2, .int .i64 sm, .slice A3 n3 c3] 74)).alloc (.cells #[.int .i64 0, .slice none 0 0, .slice none 0 0, .int .i64 0, .slice none 0 0] 74)).cell? ⟨w.heap.size + 1, 1, none⟩ = some (.slice none 0 0) := (b4.2 1 _ rfl).1
    have fa2_1 : ((w.alloc (.cells #[.int .i64 lv, .slice A1 n1 c1, .slice A2 n2 c2, .int .i64 sm, .slice A3 n3 c3] 74)).alloc (.cells #[.int .i64 0, .slice none 0 0, .slice none 0 0, .int .i64 0, .slice none 0 0] 74)).frozen? ⟨w.heap.size + 1, 1, none⟩ = false := (b4.2 1 _ rfl).2
    have ca2_2 : ((w.alloc (.cells #[.int .i64 lv, .slice A1 n1 c1, .slice A2 n2 c2, .int .i64 sm, .slice A3 n3 c3] 74)).alloc (.cells #[.int .i64 0, .slice none 0 0, .slice none 0 0, .int .i64 0, .slice none 0 0] 74)).cell? ⟨w.heap.size + 1, 2, none⟩ = some (.slice none 0 0) := (b4.2 2 _ rfl).1
    have fa2_2 : ((w.alloc (.cells #[.int .i64 lv, .slice A1 n1 c1, .slice A2 n2 c2, .int .i64 sm, .slice A3 n3 c3] 74)).alloc (.cells #[.int .i64 0, .slice none 0 0, .slice none 0 0, .int .i64 0, .slice none 0 0] 74)).frozen? ⟨w.heap.size + 1, 2, none⟩ = false := (b4.2 2 _ rfl).2
    have ca2_3 : ((w.alloc (.cells #[.int .i64 lv, .slice A1 n1 c1, .slice A2 n2 c2, .int .i64 sm, .slice A3 n3 c3] 74)).alloc (.cells #[.int .i64 0, .slice none 0 0, .slice none 0 0, .int .i64 0, .slice none 0 0] 74)).cell? ⟨w.heap.size + 1, 3, none⟩ = some (.int .i64 0) := (b4.2 3 _ rfl).1
    have fa2_3 : ((w.alloc (.cells #[.int .i64 lv, .slice A1 n1 c1, .slice A2 n2 c2, .int .i64 sm, .slice A3 n3 c3] 74)).alloc (.cells #[.int .i64 0, .slice none 0 0, .slice none 0 0, .int .i64 0, .slice none 0 0] 74)).frozen? ⟨w.heap.size + 1, 3, none⟩ = false := (b4.2 3 _ rfl).2
    have ca2_4 : ((w.alloc (.cells #[.int .i64 lv, .slice A1 n1 c1, .slice A2 n2 c2, .int .i64 sm, .slice A3 n3 c3] 74)).alloc (.cells #[.int .i64 0, .slice none 0 0, .slice none 0 0, .int .i64 0, .slice none 0 0] 74)).cell? ⟨w.heap.size + 1, 4, none⟩ = some (.slice none 0 0) := (b4.2 4 _ rfl).1
    have fa2_4 : ((w.alloc (.cells #[.int .i64 lv, .slice A1 n1 c1, .slice A2 n2 c2, .int .i64 sm, .slice A3 n3 c3] 74)).alloc (.cells #[.int .i64 0, .slice none 0 0, .slice none 0 0, .int .i64 0, .slice none 0 0] 74)).frozen? ⟨w.heap.size + 1, 4, none⟩ = false := (b4.2 4 _ rfl).2
    have HK := hid kw
    clear kw
    go_wp2_with fail
    clear ca1_0 fa1_0 ca1_1 fa1_1 ca1_2 fa1_2 ca1_3 fa1_3 ca1_4 fa1_4 ca2_0 fa2_0 ca2_1 fa2_1 ca2_2 fa2_2 ca2_3 fa2_3 ca2_4 fa2_4
    have ca0_0 : ((w.alloc (.cells #[.int .i64 lv, .slice A1 n1 c1, .slice A2 n2 c2, .int .i64 sm, .slice A3 n3 c3] 74)).alloc (.cells #[.int .i64 0, .slice none 0 0, .slice none 0 0, .int .i64 0, .slice none 0 0] 74)).cell? ⟨w.heap.size + 1, 0, none⟩ = some (.int .i64 0) := (b4.2 0 _ rfl).1
    have ca0_1 : ((w.alloc (.cells #[.int .i64 lv, .slice A1 n1 c1, .slice A2 n2 c2, .int .i64 sm, .slice A3 n3 c3] 74)).alloc (.cells #[.int .i64 0, .slice none 0 0, .slice none 0 0, .int .i64 0, .slice none 0 0] 74)).cell? ⟨w.heap.size + 1, 1, none⟩ = some (.slice none 0 0) := (b4.2 1 _ rfl).1
    have ca0_2 : ((w.alloc (.cells #[.int .i64 lv, .slice A1 n1 c1, .slice A2 n2 c2, .int .i64 sm, .slice A3 n3 c3] 74)).alloc (.cells #[.int .i64 0, .slice none 0 0, .slice none 0 0, .int .i64 0, .slice none 0 0] 74)).cell? ⟨w.heap.size + 1, 2, none⟩ = some (.slice none 0 0) := (b4.2 2 _ rfl).1
    have ca0_3 : ((w.alloc (.cells #[.int .i64 lv, .slice A1 n1 c1, .slice A2 n2 c2, .int .i64 sm, .slice A3 n3 c3] 74)).alloc (.cells #[.int .i64 0, .slice none 0 0, .slice none 0 0, .int .i64 0, .slice none 0 0] 74)).cell? ⟨w.heap.size + 1, 3, none⟩ = some (.int .i64 0) := (b4.2 3 _ rfl).1
    have ca0_4 : ((w.alloc (.cells #[.int .i64 lv, .slice A1 n1 c1, .slice A2 n2 c2, .int .i64 sm, .slice A3 n3 c3] 74)).alloc (.cells #[.int .i64 0, .slice none 0 0, .slice none 0 0, .int .i64 0, .slice none 0 0] 74)).cell? ⟨w.heap.size + 1, 4, none⟩ = some (.slice none 0 0) := (b4.2 4 _ rfl).1
    exact bodyPost_ret (v := .tuple #[.agg #[.int .i64 0, .slice none 0 0, .slice none 0 0, .int .i64 0, .slice none 0 0], .bool false]) (by simp [results, Try.results47, go_sem, ca0_0, ca0_1, ca0_2, ca0_3, ca0_4]) rfl (HcRes.no HN.out HK.out)
  have c0' : ¬ (600 : Int) < (n3 : Int) := by omega
  have ca1_0 : ((w.alloc (.cells #[.int .i64 lv, .slice A1 n1 c1, .slice A2 n2 c2, .int .i64 sm, .slice A3 n3 c3] 74)).alloc (.cells #[.int .i64 0, .slice none 0 0, .slice none 0 0, .int .i64 0, .slice none 0 0] 74)).cell? ⟨w.heap.size, 0, none⟩ = some (.int .i64 lv) := (b2.2 0 _ rfl).1
  have fa1_0 : ((w.alloc (.cells #[.int .i64 lv, .slice A1 n1 c1, .slice A2 n2 c2, .int .i64 sm, .slice A3 n3 c3] 74)).alloc (.cells #[.int .i64 0, .slice none 0 0, .slice none 0 0, .int .i64 0, .slice none 0 0] 74)).frozen? ⟨w.heap.size, 0, none⟩ = false := (b2.2 0 _ rfl).2
  have ca1_1 : ((w.alloc (.cells #[.int .i64 lv, .slice A1 n1 c1, .slice A2 n2 c2, .int .i64 sm, .slice A3 n3 c3] 74)).alloc (.cells #[.int .i64 0, .slice none 0 0, .slice none 0 0, .int .i64 0, .slice none 0 0] 74)).cell? ⟨w.heap.size, 1, none⟩ = some (.slice A1 n1 c1) := (b2.2 1 _ rfl).1
  have fa1_1 : ((w.alloc (.cells #[.int .i64 lv, .slice A1 n1 c1, .slice A2 n2 c2, .int .i64 sm, .slice A3 n3 c3] 74)).alloc (.cells #[.int .i64 0, .slice none 0 0, .slice none 0 0, .int .i64 0, .slice none 0 0] 74)).frozen? ⟨w.heap.size, 1, none⟩ = false := (b2.2 1 _ rfl).2
  have ca1_2 : ((w.alloc (.cells #[.int .i64 lv, .slice A1 n1 c1, .slice A2 n2 c2, .int .i64 sm, .slice A3 n3 c3] 74)).alloc (.cells #[.int .i64 0, .slice none 0 0, .slice none 0 0, .int .i64 0, .slice none 0 0] 74)).cell? ⟨w.heap.size, 2, none⟩ = some (.slice A2 n2 c2) := (b2.2 2 _ rfl).1
  have fa1_2 : ((w.alloc (.cells #[.int .i64 lv, .slice A1 n1 c1, .slice A2 n2 c2, .int .i64 sm, .slice A3 n3 c3] 74)).alloc (.cells #[.int .i64 0, .slice none 0 0, .slice none 0 0, .int .i64 0, .slice none 0 0] 74)).frozen? ⟨w.heap.size, 2, none⟩ = false := (b2.2 2 _ rfl).2
  have ca1_3 : ((w.alloc (.cells #[.int .i64 lv, .slice A1 n1 c1, .slice A2 n2 c2, .int .i64 sm, .slice A3 n3 c3] 74)).alloc (.cells #[.int .i64 0, .slice none 0 0, .slice none 0 0, .int .i64 0, .slice none 0 0] 74)).cell? ⟨w.heap.size, 3, none⟩ = some (.int .i64 sm) := (b2.2 3 _ rfl).1
  have fa1_3 : ((w.alloc (.cells #[.int .i64 lv, .slice A1 n1 c1, .slice A2 n2 c2, .int .i64 sm, .slice A3 n3 c3] 74)).alloc (.cells #[.int .i64 0, .slice none 0 0, .slice none 0 0, .int .i64 0, .slice none 0 0] 74)).frozen? ⟨w.heap.size, 3, none⟩ = false := (b2.2 3 _ rfl).2
  have ca1_4 : ((w.alloc (.cells #[.int .i64 lv, .slice A1 n1 c1, .slice A2 n2 c2, .int .i64 sm, .slice A3 n3 c3] 74)).alloc (.cells #[.int .i64 0, .slice none 0 0, .slice none 0 0, .int .i64 0, .slice none 0 0] 74)).cell? ⟨w.heap.size, 4, none⟩ = some (.slice A3 n3 c3) := (b2.2 4 _ rfl).1
  have fa1_4 : ((w.alloc (.cells #[.int .i64 lv, .slice A1 n1 c1, .slice A2 n2 c2, .int .i64 sm, .slice A3 n3 c3] 74)).alloc (.cells #[.int .i64 0, .slice none 0 0, .slice none 0 0, .int .i64 0, .slice none 0 0] 74)).frozen? ⟨w.heap.size, 4, none⟩ = false := (b2.2 4 _ rfl).2
  go_wp2_with fail
  clear ca1_0 fa1_0 ca1_1 fa1_1 ca1_2 fa1_2 ca1_3 fa1_3 ca1_4 fa1_4
  obtain ⟨pI, HI⟩ : ∃ pI, Hid (within (-1) 1000000 zs = pI) := ⟨_, rfl⟩
  refine (areWithin_any _ _ _ _ _ _ (-1) 1000000 _ (h.i3.keeps kw)).mono ?_
  rintro e w' ⟨rfl, rfl⟩
  rw [HI.out]
  cases pI
  · have HN := hid (hcQ_no (lv := lv) (sm := sm) (xs := xs) (ys := ys) (hcB_no2 (t := t) HI.out))
    have ca2_0 : ((w.alloc (.cells #[.int .i64 lv, .slice A1 n1 c1, .slice A2 n2 c2, .int .i64 sm, .slice A3 n3 c3] 74)).alloc (.cells #[.int .i64 0, .slice none 0 0, .slice none 0 0, .int .i64 0, .slice none 0 0] 74)).cell? ⟨w.heap.size, 0, none⟩ = some (.int .i64 lv) := (b2.2 0 _ rfl).1
    have fa2_0 : ((w.alloc (.cells #[.int .i64 lv, .slice A1 n1 c1, .slice A2 n2 c2, .int .i64 sm, .slice A3 n3 c3] 74)).alloc (.cells #[.int .i64 0, .slice none 0 0, .slice none 0 0, .int .i64 0, .slice none 0 0] 74)).frozen? ⟨w.heap.size, 0, none⟩ = false := (b2.2 0 _ rfl).2
    have ca2_1 : ((w.alloc (.cells #[.int .i64 lv, .slice A1 n1 c1, .slice A2 n2 c2, .int .i64 sm, .slice A3 n3 c3] 74)).alloc (.cells #[.int .i64 0, .slice none 0 0, .slice none 0 0, .int .i64 0, .slice none 0 0] 74)).cell? ⟨w.heap.size, 1, none⟩ = some (.slice A1 n1 c1) := (b2.2 1 _ rfl).1
    have fa2_1 : ((w.alloc (.cells #[.int .i64 lv, .slice A1 n1 c1, .slice A2 n2 c2, .int .i64 sm, .slice A3 n3 c3] 74)).alloc (.cells #[.int .i64 0, .slice none 0 0, .slice none 0 0, .int .i64 0, .slice none 0 0] 74)).frozen? ⟨w.heap.size, 1, none⟩ = false := (b2.2 1 _ rfl).2
    have ca2_2 : ((w.alloc (.cells #[.int .i64 lv, .slice A1 n1 c1, .slice A2 n2 c2, .int .i64 sm, .slice A3 n3 c3] 74)).alloc (.cells #[.int .i64 0, .slice none 0 0, .slice none 0 0, .int .i64 0, .slice none 0 0] 74)).cell? ⟨w.heap.size, 2, none⟩ = some (.slice A2 n2 c2) := (b2.2 2 _ rfl).1
    have fa2_2 : ((w.alloc (.cells #[.int .i64 lv, .slice A1 n1 c1, .slice A2 n2 c2, .int .i64 sm, .slice A3 n3 c3] 74)).alloc (.cells #[.int .i64 0, .slice none 0 0, .slice none 0 0, .int .i64 0, .slice none 0 0] 74)).frozen? ⟨w.heap.size, 2, none⟩ = false := (b2.2 2 _ rfl).2
    have ca2_3 : ((w.alloc (.cells #[.int .i64 lv, .slice A1 n1 c1, .slice A2 n2 c2, .int .i64 sm, .slice A3 n3 c3] 74)).alloc (.cells #[.int .i64 0, .slice none 0 0, .slice none 0 0, .int .i64 0, .slice none 0 0] 74)).cell? ⟨w.heap.size, 3, none⟩ = some (.int .i64 sm) := (b2.2 3 _ rfl).1
    have fa2_3 : ((w.alloc (.cells #[.int .i64 lv, .slice A1 n1 c1, .slice A2 n2 c2, .int .i64 sm, .slice A3 n3 c3] 74)).alloc (.cells #[.int .i64 0, .slice none 0 0, .slice none 0 0, .int .i64 0, .slice none 0 0] 74)).frozen? ⟨w.heap.size, 3, none⟩ = false := (b2.2 3 _ rfl).2
    have ca2_4 : ((w.alloc (.cells #[.int .i64 lv, .slice A1 n1 c1, .slice A2 n2 c2, .int .i64 sm, .slice A3 n3 c3] 74)).alloc (.cells #[.int .i64 0, .slice none 0 0, .slice none 0 0, .int .i64 0, .slice none 0 0] 74)).cell? ⟨w.heap.size, 4, none⟩ = some (.slice A3 n3 c3) := (b2.2 4 _ rfl).1
    have fa2_4 : ((w.alloc (.cells #[.int .i64 lv, .slice A1 n1 c1, .slice A2 n2 c2, .int .i64 sm, .slice A3 n3 c3] 74)).alloc (.cells #[.int .i64 0, .slice none 0 0, .slice none 0 0, .int .i64 0, .slice none 0 0] 74)).frozen? ⟨w.heap.size, 4, none⟩ = false := (b2.2 4 _ rfl).2
    have ca3_0 : ((w.alloc (.cells #[.int .i64 lv, .slice A1 n1 c1, .slice A2 n2 c2, .int .i64 sm, .slice A3 n3 c3] 74)).alloc (.cells #[.int .i64 0, .slice none 0 0, .slice none 0 0, .int .i64 0, .slice none 0 0] 74)).cell? ⟨w.heap.size + 1, 0, none⟩ = some (.int .i64 0) := (b4.2 0 _ rfl).1
    have fa3_0 : ((w.alloc (.cells #[.int .i64 lv, .slice A1 n1 c1, .slice A2 n2 c2, .int .i64 sm, .slice A3 n3 c3] 74)).alloc (.cells #[.int .i64 0, .slice none 0 0, .slice none 0 0, .int .i64 0, .slice none 0 0] 74)).frozen? ⟨w.heap.size + 1, 0, none⟩ = false := (b4.2 0 _ rfl).2
    have ca3_1 : ((w.alloc (.cells #[.int .i64 lv, .slice A1 n1 c1, .slice A2 n2 c2, .int .i64 sm, .slice A3 n3 c3] 74)).alloc (.cells #[.int .i64 0, .slice none 0 0, .slice none 0 0, .int .i64 0, .slice none 0 0] 74)).cell? ⟨w.heap.size + 1, 1, none⟩ = some (.slice none 0 0) := (b4.2 1 _ rfl).1
    have fa3_1 : ((w.alloc (.cells #[.int .i64 lv, .slice A1 n1 c1, .slice A2 n2 c2, .int .i64 sm, .slice A3 n3 c3] 74)).alloc (.cells #[.int .i64 0, .slice none 0 0, .slice none 0 0, .int .i64 0, .slice none 0 0] 74)).frozen? ⟨w.heap.size + 1, 1, none⟩ = false := (b4.2 1 _ rfl).2
    have ca3_2 : ((w.alloc (.cells #[.int .i64 lv, .slice A1 n1 c1, .slice A2 n2 c2, .int .i64 sm, .slice A3 n3 c3] 74)).alloc (.cells #[.int .i64 0, .slice none 0 0, .slice none 0 0, .int .i64 0, .slice none 0 0] 74)).cell? ⟨w.heap.size + 1, 2, none⟩ = some (.slice none 0 0) := (b4.2 2 _ rfl).1
    have fa3_2 : ((w.alloc (.cells #[.int .i64 lv, .slice A1 n1 c1, .slice A2 n2 c2, .int .i64 sm, .slice A3 n3 c3] 74)).alloc (.cells #[.int .i64 0, .slice none 0 0, .slice none 0 0, .int .i64 0, .slice none 0 0] 74)).frozen? ⟨w.heap.size + 1, 2, none⟩ = false := (b4.2 2 _ rfl).2
    have ca3_3 : ((w.alloc (.cells #[.int .i64 lv, .slice A1 n1 c1, .slice A2 n2 c2, .int .i64 sm, .slice A3 n3 c3] 74)).alloc (.cells #[.int .i64 0, .slice none 0 0, .slice none 0 0, .int .i64 0, .slice none 0 0] 74)).cell? ⟨w.heap.size + 1, 3, none⟩ = some (.int .i64 0) := (b4.2 3 _ rfl).1
    have fa3_3 : ((w.alloc (.cells #[.int .i64 lv, .slice A1 n1 c1, .slice A2 n2 c2, .int .i64 sm, .slice A3 n3 c3] 74)).alloc (.cells #[.int .i64 0, .slice none 0 0, .slice none 0 0, .int .i64 0, .slice none 0 0] 74)).frozen? ⟨w.heap.size + 1, 3, none⟩ = false := (b4.2 3 _ rfl).2
    have ca3_4 : ((w.alloc (.cells #[.int .i64 lv, .slice A1 n1 c1, .slice A2 n2 c2, .int .i64 sm, .slice A3 n3 c3] 74)).alloc (.cells #[.int .i64 0, .slice none 0 0, .slice none 0 0, .int .i64 0, .slice none 0 0] 74)).cell? ⟨w.heap.size + 1, 4, none⟩ = some (.slice none 0 0) := (b4.2 4 _ rfl).1
    have fa3_4 : ((w.alloc (.cells #[.int .i64 lv, .slice A1 n1 c1, .slice A2 n2 c2, .int .i64 sm, .slice A3 n3 c3] 74)).alloc (.cells #[.int .i64 0, .slice none 0 0, .slice none 0 0, .int .i64 0, .slice none 0 0] 74)).frozen? ⟨w.heap.size + 1, 4, none⟩ = false := (b4.2 4 _ rfl).2
    have HK := hid kw
    clear kw
    go_wp2_with fail
    clear ca2_0 fa2_0 ca2_1 fa2_1 ca2_2 fa2_2 ca2_3 fa2_3 ca2_4 fa2_4 ca3_0 fa3_0 ca3_1 fa3_1 ca3_2 fa3_2 ca3_3 fa3_3 ca3_4 fa3_4
    have ca0_0 : ((w.alloc (.cells #[.int .i64 lv, .slice A1 n1 c1, .slice A2 n2 c2, .int .i64 sm, .slice A3 n3 c3] 74)).alloc (.cells #[.int .i64 0, .slice none 0 0, .slice none 0 0, .int .i64 0, .slice none 0 0] 74)).cell? ⟨w.heap.size + 1, 0, none⟩ = some (.int .i64 0) := (b4.2 0 _ rfl).1
    have ca0_1 : ((w.alloc (.cells #[.int .i64 lv, .slice A1 n1 c1, .slice A2 n2 c2, .int .i64 sm, .slice A3 n3 c3] 74)).alloc (.cells #[.int .i64 0, .slice none 0 0, .slice none 0 0, .int .i64 0, .slice none 0 0] 74)).cell? ⟨w.heap.size + 1, 1, none⟩ = some (.slice none 0 0) := (b4.2 1 _ rfl).1
    have ca0_2 : ((w.alloc (.cells #[.int .i64 lv, .slice A1 n1 c1, .slice A2 n2 c2, .int .i64 sm, .slice A3 n3 c3] 74)).alloc (.cells #[.int .i64 0, .slice none 0 0, .slice none 0 0, .int .i64 0, .slice none 0 0] 74)).cell? ⟨w.heap.size + 1, 2, none⟩ = some (.slice none 0 0) := (b4.2 2 _ rfl).1
    have ca0_3 : ((w.alloc (.cells #[.int .i64 lv, .slice A1 n1 c1, .slice A2 n2 c2, .int .i64 sm, .slice A3 n3 c3] 74)).alloc (.cells #[.int .i64 0, .slice none 0 0, .slice none 0 0, .int .i64 0, .slice none 0 0] 74)).cell? ⟨w.heap.size + 1, 3, none⟩ = some (.int .i64 0) := (b4.2 3 _ rfl).1
    have ca0_4 : ((w.alloc (.cells #[.int .i64 lv, .slice A1 n1 c1, .slice A2 n2 c2, .int .i64 sm, .slice A3 n3 c3] 74)).alloc (.cells #[.int .i64 0, .slice none 0 0, .slice none 0 0, .int .i64 0, .slice none 0 0] 74)).cell? ⟨w.heap.size + 1, 4, none⟩ = some (.slice none 0 0) := (b4.2 4 _ rfl).1
    exact bodyPost_ret (v := .tuple #[.agg #[.int .i64 0, .slice none 0 0, .slice none 0 0, .int .i64 0, .slice none 0 0], .bool false]) (by simp [results, Try.results47, go_sem, ca0_0, ca0_1, ca0_2, ca0_3, ca0_4]) rfl (HcRes.no HN.out HK.out)
  by_cases ht0 : 0 ≤ t
  rotate_left
  · have ht0' : t < 0 := by omega
    have HN := hid (hcQ_no (lv := lv) (sm := sm) (xs := xs) (ys := ys) (hcB_no3 (t := t) (zs := zs) (by omega)))
    have ca2_0 : ((w.alloc (.cells #[.int .i64 lv, .slice A1 n1 c1, .slice A2 n2 c2, .int .i64 sm, .slice A3 n3 c3] 74)).alloc (.cells #[.int .i64 0, .slice none 0 0, .slice none 0 0, .int .i64 0, .slice none 0 0] 74)).cell? ⟨w.heap.size, 0, none⟩ = some (.int .i64 lv) := (b2.2 0 _ rfl).1
    have fa2_0 : ((w.alloc (.cells #[.int .i64 lv, .slice A1 n1 c1, .slice A2 n2 c2, .int .i64 sm, .slice A3 n3 c3] 74)).alloc (.cells #[.int .i64 0, .slice none 0 0, .slice none 0 0, .int .i64 0, .slice none 0 0] 74)).frozen? ⟨w.heap.size, 0, none⟩ = false := (b2.2 0 _ rfl).2
    have ca2_1 : ((w.alloc (.cells #[.int .i64 lv, .slice A1 n1 c1, .slice A2 n2 c2, .int .i64 sm, .slice A3 n3 c3] 74)).alloc (.cells #[.int .i64 0, .slice none 0 0, .slice none 0 0, .int .i64 0, .slice none 0 0] 74)).cell? ⟨w.heap.size, 1, none⟩ = some (.slice A1 n1 c1) := (b2.2 1 _ rfl).1
    have fa2_1 : ((w.alloc (.cells #[.int .i64 lv, .slice A1 n1 c1, .slice A2 n2 c2, .int .i64 sm, .slice A3 n3 c3] 74)).alloc (.cells #[.int .i64 0, .slice none 0 0, .slice none 0 0, .int .i64 0, .slice none 0 0] 74)).frozen? ⟨w.heap.size, 1, none⟩ = false := (b2.2 1 _ rfl).2
    have ca2_2 : ((w.alloc (.cells #[.int .i64 lv, .slice A1 n1 c1, .slice A2 n2 c2, .int .i64 sm, .slice A3 n3 c3] 74)).alloc (.cells #[.int .i64 0, .slice none 0 0, .slice none 0 0, .int .i64 0, .slice none 0 0] 74)).cell? ⟨w.heap.size, 2, none⟩ = some (.slice A2 n2 c2) := (b2.2 2 _ rfl).1
    have fa2_2 : ((w.alloc (.cells #[.int .i64 lv, .slice A1 n1 c1, .slice A2 n2 c2, .int .i64 sm, .slice A3 n3 c3] 74)).alloc (.cells #[.int .i64 0, .slice none 0 0, .slice none 0 0, .int .i64 0, .slice none 0 0] 74)).frozen? ⟨w.heap.size, 2, none⟩ = false := (b2.2 2 _ rfl).2
    have ca2_3 : ((w.alloc (.cells #[.int .i64 lv, .slice A1 n1 c1, .slice A2 n2 c2, .int .i64 sm, .slice A3 n3 c3] 74)).alloc (.cells #[.int .i64 0, .slice none 0 0, .slice none 0 0, .int .i64 0, .slice none 0 0] 74)).cell? ⟨w.heap.size, 3, none⟩ = some (.int .i64 sm) := (b2.2 3 _ rfl).1
    have fa2_3 : ((w.alloc (.cells #[.int .i64 lv, .slice A1 n1 c1, .slice A2 n2 c2, .int .i64 sm, .slice A3 n3 c3] 74)).alloc (.cells #[.int .i64 0, .slice none 0 0, .slice none 0 0, .int .i64 0, .slice none 0 0] 74)).frozen? ⟨w.heap.size, 3, none⟩ = false := (b2.2 3 _ rfl).2
    have ca2_4 : ((w.alloc (.cells #[.int .i64 lv, .slice A1 n1 c1, .slice A2 n2 c2, .int .i64 sm, .slice A3 n3 c3] 74)).alloc (.cells #[.int .i64 0, .slice none 0 0, .slice none 0 0, .int .i64 0, .slice none 0 0] 74)).cell? ⟨w.heap.size, 4, none⟩ = some (.slice A3 n3 c3) := (b2.2 4 _ rfl).1
    have fa2_4 : ((w.alloc (.cells #[.int .i64 lv, .slice A1 n1 c1, .slice A2 n2 c2, .int .i64 sm, .slice A3 n3 c3] 74)).alloc (.cells #[.int .i64 0, .slice none 0 0, .slice none 0 0, .int .i64 0, .slice none 0 0] 74)).frozen? ⟨w.heap.size, 4, none⟩ = false := (b2.2 4 _ rfl).2
    have ca3_0 : ((w.alloc (.cells #[.int .i64 lv, .slice A1 n1 c1, .slice A2 n2 c2, .int .i64 sm, .slice A3 n3 c3] 74)).alloc (.cells #[.int .i64 0, .slice none 0 0, .slice none 0 0, .int .i64 0, .slice none 0 0] 74)).cell? ⟨w.heap.size + 1, 0, none⟩ = some (.int .i64 0) := (b4.2 0 _ rfl).1
    have fa3_0 : ((w.alloc (.cells #[.int .i64 lv, .slice A1 n1 c1, .slice A2 n2 c2, .int .i64 sm, .slice A3 n3 c3] 74)).alloc (.cells #[.int .i64 0, .slice none 0 0, .slice none 0 0, .int .i64 0, .slice none 0 0] 74)).frozen? ⟨w.heap.size + 1, 0, none⟩ = false := (b4.2 0 _ rfl).2
    have ca3_1 : ((w.alloc (.cells #[.int .i64 lv, .slice A1 n1 c1, .slice A2 n2 c2, .int .i64 sm, .slice A3 n3 c3] 74)).alloc (.cells #[.int .i64 0, .slice none 0 0, .slice none 0 0, .int .i64 0, .slice none 0 0] 74)).cell? ⟨w.heap.size + 1, 1, none⟩ = some (.slice none 0 0) := (b4.2 1 _ rfl).1
    have fa3_1 : ((w.alloc (.cells #[.int .i64 lv, .slice A1 n1 c1, .slice A2 n2 c2, .int .i64 sm, .slice A3 n3 c3] 74)).alloc (.cells #[.int .i64 0, .slice none 0 0, .slice none 0 0, .int .i64 0, .slice none 0 0] 74)).frozen? ⟨w.heap.size + 1, 1, none⟩ = false := (b4.2 1 _ rfl).2
    have ca3_2 : ((w.alloc (.cells #[.int .i64 lv, .slice A1 n1 c1, .slice A2 n2 c2, .int .i64 sm, .slice A3 n3 c3] 74)).alloc (.cells #[.int .i64 0, .slice none 0 0, .slice none 0 0, .int .i64 0, .slice none 0 0] 74)).cell? ⟨w.heap.size + 1, 2, none⟩ = some (.slice none 0 0) := (b4.2 2 _ rfl).1
    have fa3_2 : ((w.alloc (.cells #[.int .i64 lv, .slice A1 n1 c1, .slice A2 n2 c2, .int .i64 sm, .slice A3 n3 c3] 74)).alloc (.cells #[.int .i64 0, .slice none 0 0, .slice none 0 0, .int .i64 0, .slice none 0 0] 74)).frozen? ⟨w.heap.size + 1, 2, none⟩ = false := (b4.2 2 _ rfl).2
    have ca3_3 : ((w.alloc (.cells #[.int .i64 lv, .slice A1 n1 c1, .slice A2 n2 c2, .int .i64 sm, .slice A3 n3 c3] 74)).alloc (.cells #[.int .i64 0, .slice none 0 0, .slice none 0 0, .int .i64 0, .slice none 0 0] 74)).cell? ⟨w.heap.size + 1, 3, none⟩ = some (.int .i64 0) := (b4.2 3 _ rfl).1
    have fa3_3 : ((w.alloc (.cells #[.int .i64 lv, .slice A1 n1 c1, .slice A2 n2 c2, .int .i64 sm, .slice A3 n3 c3] 74)).alloc (.cells #[.int .i64 0, .slice none 0 0, .slice none 0 0, .int .i64 0, .slice none 0 0] 74)).frozen? ⟨w.heap.size + 1, 3, none⟩ = false := (b4.2 3 _ rfl).2
    have ca3_4 : ((w.alloc (.cells #[.int .i64 lv, .slice A1 n1 c1, .slice A2 n2 c2, .int .i64 sm, .slice A3 n3 c3] 74)).alloc (.cells #[.int .i64 0, .slice none 0 0, .slice none 0 0, .int .i64 0, .slice none 0 0] 74)).cell? ⟨w.heap.size + 1, 4, none⟩ = some (.slice none 0 0) := (b4.2 4 _ rfl).1
    have fa3_4 : ((w.alloc (.cells #[.int .i64 lv, .slice A1 n1 c1, .slice A2 n2 c2, .int .i64 sm, .slice A3 n3 c3] 74)).alloc (.cells #[.int .i64 0, .slice none 0 0, .slice none 0 0, .int .i64 0, .slice none 0 0] 74)).frozen? ⟨w.heap.size + 1, 4, none⟩ = false := (b4.2 4 _ rfl).2
    have HK := hid kw
    clear kw
    go_wp2_with fail
    clear ca2_0 fa2_0 ca2_1 fa2_1 ca2_2 fa2_2 ca2_3 fa2_3 ca2_4 fa2_4 ca3_0 fa3_0 ca3_1 fa3_1 ca3_2 fa3_2 ca3_3 fa3_3 ca3_4 fa3_4
    have ca0_0 : ((w.alloc (.cells #[.int .i64 lv, .slice A1 n1 c1, .slice A2 n2 c2, .int .i64 sm, .slice A3 n3 c3] 74)).alloc (.cells #[.int .i64 0, .slice none 0 0, .slice none 0 0, .int .i64 0, .slice none 0 0] 74)).cell? ⟨w.heap.size + 1, 0, none⟩ = some (.int .i64 0) := (b4.2 0 _ rfl).1
    have ca0_1 : ((w.alloc (.cells #[.int .i64 lv, .slice A1 n1 c1, .slice A2 n2 c2, .int .i64 sm, .slice A3 n3 c3] 74)).alloc (.cells #[.int .i64 0, .slice none 0 0, .slice none 0 0, .int .i64 0, .slice none 0 0] 74)).cell? ⟨w.heap.size + 1, 1, none⟩ = some (.slice none 0 0) := (b4.2 1 _ rfl).1
    have ca0_2 : ((w.alloc (.cells #[.int .i64 lv, .slice A1 n1 c1, .slice A2 n2 c2, .int .i64 sm, .slice A3 n3 c3] 74)).alloc (.cells #[.int .i64 0, .slice none 0 0, .slice none 0 0, .int .i64 0, .slice none 0 0] 74)).cell? ⟨w.heap.size + 1, 2, none⟩ = some (.slice none 0 0) := (b4.2 2 _ rfl).1
    have ca0_3 : ((w.alloc (.cells #[.int .i64 lv, .slice A1 n1 c1, .slice A2 n2 c2, .int .i64 sm, .slice A3 n3 c3] 74)).alloc (.cells #[.int .i64 0, .slice none 0 0, .slice none 0 0, .int .i64 0, .slice none 0 0] 74)).cell? ⟨w.heap.size + 1, 3, none⟩ = some (.int .i64 0) := (b4.2 3 _ rfl).1
    have ca0_4 : ((w.alloc (.cells #[.int .i64 lv, .slice A1 n1 c1, .slice A2 n2 c2, .int .i64 sm, .slice A3 n3 c3] 74)).alloc (.cells #[.int .i64 0, .slice none 0 0, .slice none 0 0, .int .i64 0, .slice none 0 0] 74)).cell? ⟨w.heap.size + 1, 4, none⟩ = some (.slice none 0 0) := (b4.2 4 _ rfl).1
    exact bodyPost_ret (v := .tuple #[.agg #[.int .i64 0, .slice none 0 0, .slice none 0 0, .int .i64 0, .slice none 0 0], .bool false]) (by simp [results, Try.results47, go_sem, ca0_0, ca0_1, ca0_2, ca0_3, ca0_4]) rfl (HcRes.no HN.out HK.out)
  by_cases ht1 : t ≤ 1000000
  rotate_left
  · have ht1' : 1000000 < t := by omega
    have HN := hid (hcQ_no (lv := lv) (sm := sm) (xs := xs) (ys := ys) (hcB_no3 (t := t) (zs := zs) (by omega)))
    have ca2_0 : ((w.alloc (.cells #[.int .i64 lv, .slice A1 n1 c1, .slice A2 n2 c2, .int .i64 sm, .slice A3 n3 c3] 74)).alloc (.cells #[.int .i64 0, .slice none 0 0, .slice none 0 0, .int .i64 0, .slice none 0 0] 74)).cell? ⟨w.heap.size, 0, none⟩ = some (.int .i64 lv) := (b2.2 0 _ rfl).1
    have fa2_0 : ((w.alloc (.cells #[.int .i64 lv, .slice A1 n1 c1, .slice A2 n2 c2, .int .i64 sm, .slice A3 n3 c3] 74)).alloc (.cells #[.int .i64 0, .slice none 0 0, .slice none 0 0, .int .i64 0, .slice none 0 0] 74)).frozen? ⟨w.heap.size, 0, none⟩ = false := (b2.2 0 _ rfl).2
    have ca2_1 : ((w.alloc (.cells #[.int .i64 lv, .slice A1 n1 c1, .slice A2 n2 c2, .int .i64 sm, .slice A3 n3 c3] 74)).alloc (.cells #[.int .i64 0, .slice none 0 0, .slice none 0 0, .int .i64 0, .slice none 0 0] 74)).cell? ⟨w.heap.size, 1, none⟩ = some (.slice A1 n1 c1) := (b2.2 1 _ rfl).1
    have fa2_1 : ((w.alloc (.cells #[.int .i64 lv, .slice A1 n1 c1, .slice A2 n2 c2, .int .i64 sm, .slice A3 n3 c3] 74)).alloc (.cells #[.int .i64 0, .slice none 0 0, .slice none 0 0, .int .i64 0, .slice none 0 0] 74)).frozen? ⟨w.heap.size, 1, none⟩ = false := (b2.2 1 _ rfl).2
    have ca2_2 : ((w.alloc (.cells #[.int .i64 lv, .slice A1 n1 c1, .slice A2 n2 c2, .int .i64 sm, .slice A3 n3 c3] 74)).alloc (.cells #[.int .i64 0, .slice none 0 0, .slice none 0 0, .int .i64 0, .slice none 0 0] 74)).cell? ⟨w.heap.size, 2, none⟩ = some (.slice A2 n2 c2) := (b2.2 2 _ rfl).1
    have fa2_2 : ((w.alloc (.cells #[.int .i64 lv, .slice A1 n1 c1, .slice A2 n2 c2, .int .i64 sm, .slice A3 n3 c3] 74)).alloc (.cells #[.int .i64 0, .slice none 0 0, .slice none 0 0, .int .i64 0, .slice none 0 0] 74)).frozen? ⟨w.heap.size, 2, none⟩ = false := (b2.2 2 _ rfl).2
    have ca2_3 : ((w.alloc (.cells #[.int .i64 lv, .slice A1 n1 c1, .slice A2 n2 c2, .int .i64 sm, .slice A3 n3 c3] 74)).alloc (.cells #[.int .i64 0, .slice none 0 0, .slice none 0 0, .int .i64 0, .slice none 0 0] 74)).cell? ⟨w.heap.size, 3, none⟩ = some (.int .i64 sm) := (b2.2 3 _ rfl).1
    have fa2_3 : ((w.alloc (.cells #[.int .i64 lv, .slice A1 n1 c1, .slice A2 n2 c2, .int .i64 sm, .slice A3 n3 c3] 74)).alloc (.cells #[.int .i64 0, .slice none 0 0, .slice none 0 0, .int .i64 0, .slice none 0 0] 74)).frozen? ⟨w.heap.size, 3, none⟩ = false := (b2.2 3 _ rfl).2
    have ca2_4 : ((w.alloc (.cells #[.int .i64 lv, .slice A1 n1 c1, .slice A2 n2 c2, .int .i64 sm, .slice A3 n3 c3] 74)).alloc (.cells #[.int .i64 0, .slice none 0 0, .slice none 0 0, .int .i64 0, .slice none 0 0] 74)).cell? ⟨w.heap.size, 4, none⟩ = some (.slice A3 n3 c3) := (b2.2 4 _ rfl).1
    have fa2_4 : ((w.alloc (.cells #[.int .i64 lv, .slice A1 n1 c1, .slice A2 n2 c2, .int .i64 sm, .slice A3 n3 c3] 74)).alloc (.cells #[.int .i64 0, .slice none 0 0, .slice none 0 0, .int .i64 0, .slice none 0 0] 74)).frozen? ⟨w.heap.size, 4, none⟩ = false := (b2.2 4 _ rfl).2
    have ca3_0 : ((w.alloc (.cells #[.int .i64 lv, .slice A1 n1 c1, .slice A2 n2 c2, .int .i64 sm, .slice A3 n3 c3] 74)).alloc (.cells #[.int .i64 0, .slice none 0 0, .slice none 0 0, .int .i64 0, .slice none 0 0] 74)).cell? ⟨w.heap.size + 1, 0, none⟩ = some (.int .i64 0) := (b4.2 0 _ rfl).1
    have fa3_0 : ((w.alloc (.cells #[.int .i64 lv, .slice A1 n1 c1, .slice A2 n2 c2, .int .i64 sm, .slice A3 n3 c3] 74)).alloc (.cells #[.int .i64 0, .slice none 0 0, .slice none 0 0, .int .i64 0, .slice none 0 0] 74)).frozen? ⟨w.heap.size + 1, 0, none⟩ = false := (b4.2 0 _ rfl).2
    have ca3_1 : ((w.alloc (.cells #[.int .i64 lv, .slice A1 n1 c1, .slice A2 n2 c2, .int .i64 sm, .slice A3 n3 c3] 74)).alloc (.cells #[.int .i64 0, .slice none 0 0, .slice none 0 0, .int .i64 0, .slice none 0 0] 74)).cell? ⟨w.heap.size + 1, 1, none⟩ = some (.slice none 0 0) := (b4.2 1 _ rfl).1
    have fa3_1 : ((w.alloc (.cells #[.int .i64 lv, .slice A1 n1 c1, .slice A2 n2 c2, .int .i64 sm, .slice A3 n3 c3] 74)).alloc (.cells #[.int .i64 0, .slice none 0 0, .slice none 0 0, .int .i64 0, .slice none 0 0] 74)).frozen? ⟨w.heap.size + 1, 1, none⟩ = false := (b4.2 1 _ rfl).2
    have ca3_2 : ((w.alloc (.cells #[.int .i64 lv, .slice A1 n1 c1, .slice A2 n2 c2, .int .i64 sm, .slice A3 n3 c3] 74)).alloc (.cells #[.int .i64 0, .slice none 0 0, .slice none 0 0, .int .i64 0, .slice none 0 0] 74)).cell? ⟨w.heap.size + 1, 2, none⟩ = some (.slice none 0 0) := (b4.2 2 _ rfl).1
    have fa3_2 : ((w.alloc (.cells #[.int .i64 lv, .slice A1 n1 c1, .slice A2 n2 c2, .int .i64 sm, .slice A3 n3 c3] 74)).alloc (.cells #[.int .i64 0, .slice none 0 0, .slice none 0 0, .int .i64 0, .slice none 0 0] 74)).frozen? ⟨w.heap.size + 1, 2, none⟩ = false := (b4.2 2 _ rfl).2
    have ca3_3 : ((w.alloc (.cells #[.int .i64 lv, .slice A1 n1 c1, .slice A2 n2 c2, .int .i64 sm, .slice A3 n3 c3] 74)).alloc (.cells #[.int .i64 0, .slice none 0 0, .slice none 0 0, .int .i64 0, .slice none 0 0] 74)).cell? ⟨w.heap.size + 1, 3, none⟩ = some (.int .i64 0) := (b4.2 3 _ rfl).1
    have fa3_3 : ((w.alloc (.cells #[.int .i64 lv, .slice A1 n1 c1, .slice A2 n2 c2, .int .i64 sm, .slice A3 n3 c3] 74)).alloc (.cells #[.int .i64 0, .slice none 0 0, .slice none 0 0, .int .i64 0, .slice none 0 0] 74)).frozen? ⟨w.heap.size + 1, 3, none⟩ = false := (b4.2 3 _ rfl).2
    have ca3_4 : ((w.alloc (.cells #[.int .i64 lv, .slice A1 n1 c1, .slice A2 n2 c2, .int .i64 sm, .slice A3 n3 c3] 74)).alloc (.cells #[.int .i64 0, .slice none 0 0, .slice none 0 0, .int .i64 0, .slice none 0 0] 74)).cell? ⟨w.heap.size + 1, 4, none⟩ = some (.slice none 0 0) := (b4.2 4 _ rfl).1
    have fa3_4 : ((w.alloc (.cells #[.int .i64 lv, .slice A1 n1 c1, .slice A2 n2 c2, .int .i64 sm, .slice A3 n3 c3] 74)).alloc (.cells #[.int .i64 0, .slice none 0 0, .slice none 0 0, .int .i64 0, .slice none 0 0] 74)).frozen? ⟨w.heap.size + 1, 4, none⟩ = false := (b4.2 4 _ rfl).2
    have HK := hid kw
    clear kw
    go_wp2_with fail
    clear ca2_0 fa2_0 ca2_1 fa2_1 ca2_2 fa2_2 ca2_3 fa2_3 ca2_4 fa2_4 ca3_0 fa3_0 ca3_1 fa3_1 ca3_2 fa3_2 ca3_3 fa3_3 ca3_4 fa3_4
    have ca0_0 : ((w.alloc (.cells #[.int .i64 lv, .slice A1 n1 c1, .slice A2 n2 c2, .int .i64 sm, .slice A3 n3 c3] 74)).alloc (.cells #[.int .i64 0, .slice none 0 0, .slice none 0 0, .int .i64 0, .slice none 0 0] 74)).cell? ⟨w.heap.size + 1, 0, none⟩ = some (.int .i64 0) := (b4.2 0 _ rfl).1
    have ca0_1 : ((w.alloc (.cells #[.int .i64 lv, .slice A1 n1 c1, .slice A2 n2 c2, .int .i64 sm, .slice A3 n3 c3] 74)).alloc (.cells #[.int .i64 0, .slice none 0 0, .slice none 0 0, .int .i64 0, .slice none 0 0] 74)).cell? ⟨w.heap.size + 1, 1, none⟩ = some (.slice none 0 0) := (b4.2 1 _ rfl).1
    have ca0_2 : ((w.alloc (.cells #[.int .i64 lv, .slice A1 n1 c1, .slice A2 n2 c2, .int .i64 sm, .slice A3 n3 c3] 74)).alloc (.cells #[.int .i64 0, .slice none 0 0, .slice none 0 0, .int .i64 0, .slice none 0 0] 74)).cell? ⟨w.heap.size + 1, 2, none⟩ = some (.slice none 0 0) := (b4.2 2 _ rfl).1
    have ca0_3 : ((w.alloc (.cells #[.int .i64 lv, .slice A1 n1 c1, .slice A2 n2 c2, .int .i64 sm, .slice A3 n3 c3] 74)).alloc (.cells #[.int .i64 0, .slice none 0 0, .slice none 0 0, .int .i64 0, .slice none 0 0] 74)).cell? ⟨w.heap.size + 1, 3, none⟩ = some (.int .i64 0) := (b4.2 3 _ rfl).1
    have ca0_4 : ((w.alloc (.cells #[.int .i64 lv, .slice A1 n1 c1, .slice A2 n2 c2, .int .i64 sm, .slice A3 n3 c3] 74)).alloc (.cells #[.int .i64 0, .slice none 0 0, .slice none 0 0, .int .i64 0, .slice none 0 0] 74)).cell? ⟨w.heap.size + 1, 4, none⟩ = some (.slice none 0 0) := (b4.2 4 _ rfl).1
    exact bodyPost_ret (v := .tuple #[.agg #[.int .i64 0, .slice none 0 0, .slice none 0 0, .int .i64 0, .slice none 0 0], .bool false]) (by simp [results, Try.results47, go_sem, ca0_0, ca0_1, ca0_2, ca0_3, ca0_4]) rfl (HcRes.no HN.out HK.out)
  have HB := hid (hcB_true.2 ⟨by rw [HL.out]; exact c0, HI.out, ht0, ht1⟩)
  have ca2_0 : ((w.alloc (.cells #[.int .i64 lv, .slice A1 n1 c1, .slice A2 n2 c2, .int .i64 sm, .slice A3 n3 c3] 74)).alloc (.cells #[.int .i64 0, .slice none 0 0, .slice none 0 0, .int .i64 0, .slice none 0 0] 74)).cell? ⟨w.heap.size, 0, none⟩ = some (.int .i64 lv) := (b2.2 0 _ rfl).1
  have fa2_0 : ((w.alloc (.cells #[.int .i64 lv, .slice A1 n1 c1, .slice A2 n2 c2, .int .i64 sm, .slice A3 n3 c3] 74)).alloc (.cells #[.int .i64 0, .slice none 0 0, .slice none 0 0, .int .i64 0, .slice none 0 0] 74)).frozen? ⟨w.heap.size, 0, none⟩ = false := (b2.2 0 _ rfl).2
  have ca2_1 : ((w.alloc (.cells #[.int .i64 lv, .slice A1 n1 c1, .slice A2 n2 c2, .int .i64 sm, .slice A3 n3 c3] 74)).alloc (.cells #[.int .i64 0, .slice none 0 0, .slice none 0 0, .int .i64 0, .slice none 0 0] 74)).cell? ⟨w.heap.size, 1, none⟩ = some (.slice A1 n1 c1) := (b2.2 1 _ rfl).1
  have fa2_1 : ((w.alloc (.cells #[.int .i64 lv, .slice A1 n1 c1, .slice A2 n2 c2, .int .i64 sm, .slice A3 n3 c3] 74)).alloc (.cells #[.int .i64 0, .slice none 0 0, .slice none 0 0, .int .i64 0, .slice none 0 0] 74)).frozen? ⟨w.heap.size, 1, none⟩ = false := (b2.2 1 _ rfl).2
  have ca2_2 : ((w.alloc (.cells #[.int .i64 lv, .slice A1 n1 c1, .slice A2 n2 c2, .int .i64 sm, .slice A3 n3 c3] 74)).alloc (.cells #[.int .i64 0, .slice none 0 0, .slice none 0 0, .int .i64 0, .slice none 0 0] 74)).cell? ⟨w.heap.size, 2, none⟩ = some (.slice A2 n2 c2) := (b2.2 2 _ rfl).1
  have fa2_2 : ((w.alloc (.cells #[.int .i64 lv, .slice A1 n1 c1, .slice A2 n2 c2, .int .i64 sm, .slice A3 n3 c3] 74)).alloc (.cells #[.int .i64 0, .slice none 0 0, .slice none 0 0, .int .i64 0, .slice none 0 0] 74)).frozen? ⟨w.heap.size, 2, none⟩ = false := (b2.2 2 _ rfl).2
  have ca2_3 : ((w.alloc (.cells #[.int .i64 lv, .slice A1 n1 c1, .slice A2 n2 c2, .int .i64 sm, .slice A3 n3 c3] 74)).alloc (.cells #[.int .i64 0, .slice none 0 0, .slice none 0 0, .int .i64 0, .slice none 0 0] 74)).cell? ⟨w.heap.size, 3, none⟩ = some (.int .i64 sm) := (b2.2 3 _ rfl).1
  have fa2_3 : ((w.alloc (.cells #[.int .i64 lv, .slice A1 n1 c1, .slice A2 n2 c2, .int .i64 sm, .slice A3 n3 c3] 74)).alloc (.cells #[.int .i64 0, .slice none 0 0, .slice none 0 0, .int .i64 0, .slice none 0 0] 74)).frozen? ⟨w.heap.size, 3, none⟩ = false := (b2.2 3 _ rfl).2
  have ca2_4 : ((w.alloc (.cells #[.int .i64 lv, .slice A1 n1 c1, .slice A2 n2 c2, .int .i64 sm, .slice A3 n3 c3] 74)).alloc (.cells #[.int .i64 0, .slice none 0 0, .slice none 0 0, .int .i64 0, .slice none 0 0] 74)).cell? ⟨w.heap.size, 4, none⟩ = some (.slice A3 n3 c3) := (b2.2 4 _ rfl).1
  have fa2_4 : ((w.alloc (.cells #[.int .i64 lv, .slice A1 n1 c1, .slice A2 n2 c2, .int .i64 sm, .slice A3 n3 c3] 74)).alloc (.cells #[.int .i64 0, .slice none 0 0, .slice none 0 0, .int .i64 0, .slice none 0 0] 74)).frozen? ⟨w.heap.size, 4, none⟩ = false := (b2.2 4 _ rfl).2
  go_wp2_with fail
  clear ca2_0 fa2_0 ca2_1 fa2_1 ca2_2 fa2_2 ca2_3 fa2_3 ca2_4 fa2_4
  refine (hideCells_any (h.keeps kw) G1.out G2.out HI.out).mono ?_
  rintro e w3 ⟨B1_, C1_, B2_, C2_, B3_, C3_, rfl, hm, no1, no2, no3, k3⟩
  replace b2 := b2.keeps k3
  replace b4 := b4.keeps k3
  replace kw := Keeps.trans kw k3
  have lt4 := b4.lt
  have sz5 := kw.size
  clear k3
  replace hm := hm.widen (lo' := w.heap.size + 1 + 1) (by simp) (Nat.le_refl _) (Nat.le_refl _)
  have ca6_0 : w3.cell? ⟨w.heap.size + 1, 0, none⟩ = some (.int .i64 0) := (b4.2 0 _ rfl).1
  have fa6_0 : w3.frozen? ⟨w.heap.size + 1, 0, none⟩ = false := (b4.2 0 _ rfl).2
  have ca6_1 : w3.cell? ⟨w.heap.size + 1, 1, none⟩ = some (.slice none 0 0) := (b4.2 1 _ rfl).1
  have fa6_1 : w3.frozen? ⟨w.heap.size + 1, 1, none⟩ = false := (b4.2 1 _ rfl).2
  have ca6_2 : w3.cell? ⟨w.heap.size + 1, 2, none⟩ = some (.slice none 0 0) := (b4.2 2 _ rfl).1
  have fa6_2 : w3.frozen? ⟨w.heap.size + 1, 2, none⟩ = false := (b4.2 2 _ rfl).2
  have ca6_3 : w3.cell? ⟨w.heap.size + 1, 3, none⟩ = some (.int .i64 0) := (b4.2 3 _ rfl).1
  have fa6_3 : w3.frozen? ⟨w.heap.size + 1, 3, none⟩ = false := (b4.2 3 _ rfl).2
  have ca6_4 : w3.cell? ⟨w.heap.size + 1, 4, none⟩ = some (.slice none 0 0) := (b4.2 4 _ rfl).1
  have fa6_4 : w3.frozen? ⟨w.heap.size + 1, 4, none⟩ = false := (b4.2 4 _ rfl).2
  replace b2 := b2.far (p := ⟨w.heap.size + 1, 0, none⟩) (by show _ ≠ (w.heap.size + 1); omega) (.int .i64 lv)
  replace hm := hm.fr (fr_one (p := (w.heap.size + 1)) (i := 0) (.int .i64 lv)) (by omega)
  replace kw := Below.setCell kw (p := ⟨w.heap.size + 1, 0, none⟩) (by show _ ≤ (w.heap.size + 1); omega) (.int .i64 lv)
  replace b4 : Bl (w3.setCell ⟨w.heap.size + 1, 0, none⟩ (.int .i64 lv)) (w.heap.size + 1) [.int .i64 lv, .slice none 0 0, .slice none 0 0, .int .i64 0, .slice none 0 0] := b4.set 0 (.int .i64 lv)
  replace b2 := b2.far (p := ⟨w.heap.size + 1, 1, none⟩) (by show _ ≠ (w.heap.size + 1); omega) (.slice B1_ n1 C1_)
  replace hm := hm.fr (fr_one (p := (w.heap.size + 1)) (i := 1) (.slice B1_ n1 C1_)) (by omega)
  replace kw := Below.setCell kw (p := ⟨w.heap.size + 1, 1, none⟩) (by show _ ≤ (w.heap.size + 1); omega) (.slice B1_ n1 C1_)
  replace b4 : Bl ((w3.setCell ⟨w.heap.size + 1, 0, none⟩ (.int .i64 lv)).setCell ⟨w.heap.size + 1, 1, none⟩ (.slice B1_ n1 C1_)) (w.heap.size + 1) [.int .i64 lv, .slice B1_ n1 C1_, .slice none 0 0, .int .i64 0, .slice none 0 0] := b4.set 1 (.slice B1_ n1 C1_)
  replace b2 := b2.far (p := ⟨w.heap.size + 1, 2, none⟩) (by show _ ≠ (w.heap.size + 1); omega) (.slice B2_ n2 C2_)
  replace hm := hm.fr (fr_one (p := (w.heap.size + 1)) (i := 2) (.slice B2_ n2 C2_)) (by omega)
  replace kw := Below.setCell kw (p := ⟨w.heap.size + 1, 2, none⟩) (by show _ ≤ (w.heap.size + 1); omega) (.slice B2_ n2 C2_)
  replace b4 : Bl (((w3.setCell ⟨w.heap.size + 1, 0, none⟩ (.int .i64 lv)).setCell ⟨w.heap.size + 1, 1, none⟩ (.slice B1_ n1 C1_)).setCell ⟨w.heap.size + 1, 2, none⟩ (.slice B2_ n2 C2_)) (w.heap.size + 1) [.int .i64 lv, .slice B1_ n1 C1_, .slice B2_ n2 C2_, .int .i64 0, .slice none 0 0] := b4.set 2 (.slice B2_ n2 C2_)
  replace b2 := b2.far (p := ⟨w.heap.size + 1, 3, none⟩) (by show _ ≠ (w.heap.size + 1); omega) (.int .i64 sm)
  replace hm := hm.fr (fr_one (p := (w.heap.size + 1)) (i := 3) (.int .i64 sm)) (by omega)
  replace kw := Below.setCell kw (p := ⟨w.heap.size + 1, 3, none⟩) (by show _ ≤ (w.heap.size + 1); omega) (.int .i64 sm)
  replace b4 : Bl ((((w3.setCell ⟨w.heap.size + 1, 0, none⟩ (.int .i64 lv)).setCell ⟨w.heap.size + 1, 1, none⟩ (.slice B1_ n1 C1_)).setCell ⟨w.heap.size + 1, 2, none⟩ (.slice B2_ n2 C2_)).setCell ⟨w.heap.size + 1, 3, none⟩ (.int .i64 sm)) (w.heap.size + 1) [.int .i64 lv, .slice B1_ n1 C1_, .slice B2_ n2 C2_, .int .i64 sm, .slice none 0 0] := b4.set 3 (.int .i64 sm)
  replace b2 := b2.far (p := ⟨w.heap.size + 1, 4, none⟩) (by show _ ≠ (w.heap.size + 1); omega) (.slice B3_ n3 C3_)
  replace hm := hm.fr (fr_one (p := (w.heap.size + 1)) (i := 4) (.slice B3_ n3 C3_)) (by omega)
  replace kw := Below.setCell kw (p := ⟨w.heap.size + 1, 4, none⟩) (by show _ ≤ (w.heap.size + 1); omega) (.slice B3_ n3 C3_)
  replace b4 : Bl (((((w3.setCell ⟨w.heap.size + 1, 0, none⟩ (.int .i64 lv)).setCell ⟨w.heap.size + 1, 1, none⟩ (.slice B1_ n1 C1_)).setCell ⟨w.heap.size + 1, 2, none⟩ (.slice B2_ n2 C2_)).setCell ⟨w.heap.size + 1, 3, none⟩ (.int .i64 sm)).setCell ⟨w.heap.size + 1, 4, none⟩ (.slice B3_ n3 C3_)) (w.heap.size + 1) [.int .i64 lv, .slice B1_ n1 C1_, .slice B2_ n2 C2_, .int .i64 sm, .slice B3_ n3 C3_] := b4.set 4 (.slice B3_ n3 C3_)
  have HP := hid (hm.widen (lo' := w.heap.size) (hi' := (((((w3.setCell ⟨w.heap.size + 1, 0, none⟩ (.int .i64 lv)).setCell ⟨w.heap.size + 1, 1, none⟩ (.slice B1_ n1 C1_)).setCell ⟨w.heap.size + 1, 2, none⟩ (.slice B2_ n2 C2_)).setCell ⟨w.heap.size + 1, 3, none⟩ (.int .i64 sm)).setCell ⟨w.heap.size + 1, 4, none⟩ (.slice B3_ n3 C3_)).heap.size) (by omega) (by simp [World.setCell]) (Nat.le_refl _))
  have HK := hid kw
  clear hm kw
  go_wp2_with fail
  clear ca6_0 fa6_0 ca6_1 fa6_1 ca6_2 fa6_2 ca6_3 fa6_3 ca6_4 fa6_4
  have ca0_0 : (((((w3.setCell ⟨w.heap.size + 1, 0, none⟩ (.int .i64 lv)).setCell ⟨w.heap.size + 1, 1, none⟩ (.slice B1_ n1 C1_)).setCell ⟨w.heap.size + 1, 2, none⟩ (.slice B2_ n2 C2_)).setCell ⟨w.heap.size + 1, 3, none⟩ (.int .i64 sm)).setCell ⟨w.heap.size + 1, 4, none⟩ (.slice B3_ n3 C3_)).cell? ⟨w.heap.size + 1, 0, none⟩ = some (.int .i64 lv) := (b4.2 0 _ rfl).1
  have ca0_1 : (((((w3.setCell ⟨w.heap.size + 1, 0, none⟩ (.int .i64 lv)).setCell ⟨w.heap.size + 1, 1, none⟩ (.slice B1_ n1 C1_)).setCell ⟨w.heap.size + 1, 2, none⟩ (.slice B2_ n2 C2_)).setCell ⟨w.heap.size + 1, 3, none⟩ (.int .i64 sm)).setCell ⟨w.heap.size + 1, 4, none⟩ (.slice B3_ n3 C3_)).cell? ⟨w.heap.size + 1, 1, none⟩ = some (.slice B1_ n1 C1_) := (b4.2 1 _ rfl).1
  have ca0_2 : (((((w3.setCell ⟨w.heap.size + 1, 0, none⟩ (.int .i64 lv)).setCell ⟨w.heap.size + 1, 1, none⟩ (.slice B1_ n1 C1_)).setCell ⟨w.heap.size + 1, 2, none⟩ (.slice B2_ n2 C2_)).setCell ⟨w.heap.size + 1, 3, none⟩ (.int .i64 sm)).setCell ⟨w.heap.size + 1, 4, none⟩ (.slice B3_ n3 C3_)).cell? ⟨w.heap.size + 1, 2, none⟩ = some (.slice B2_ n2 C2_) := (b4.2 2 _ rfl).1
  have ca0_3 : (((((w3.setCell ⟨w.heap.size + 1, 0, none⟩ (.int .i64 lv)).setCell ⟨w.heap.size + 1, 1, none⟩ (.slice B1_ n1 C1_)).setCell ⟨w.heap.size + 1, 2, none⟩ (.slice B2_ n2 C2_)).setCell ⟨w.heap.size + 1, 3, none⟩ (.int .i64 sm)).setCell ⟨w.heap.size + 1, 4, none⟩ (.slice B3_ n3 C3_)).cell? ⟨w.heap.size + 1, 3, none⟩ = some (.int .i64 sm) := (b4.2 3 _ rfl).1
  have ca0_4 : (((((w3.setCell ⟨w.heap.size + 1, 0, none⟩ (.int .i64 lv)).setCell ⟨w.heap.size + 1, 1, none⟩ (.slice B1_ n1 C1_)).setCell ⟨w.heap.size + 1, 2, none⟩ (.slice B2_ n2 C2_)).setCell ⟨w.heap.size + 1, 3, none⟩ (.int .i64 sm)).setCell ⟨w.heap.size + 1, 4, none⟩ (.slice B3_ n3 C3_)).cell? ⟨w.heap.size + 1, 4, none⟩ = some (.slice B3_ n3 C3_) := (b4.2 4 _ rfl).1
  exact bodyPost_ret (v := .tuple #[.agg #[.int .i64 lv, .slice B1_ n1 C1_, .slice B2_ n2 C2_, .int .i64 sm, .slice B3_ n3 C3_], .bool true]) (by simp [results, Try.results47, go_sem, ca0_0, ca0_1, ca0_2, ca0_3, ca0_4]) rfl (HcRes.yes HB.out HP.out HK.out)
theorem step_own {W : World} {ops : Array Oper} {o : Oper} {a : Act} {K : Act → World → Prop} {Q : Exit → Act → World → Prop} {E : Prop} {lo hi n c : Nat} {A : Option Addr} {xs : List Int}
    (hx : Ints W lo hi A n xs) (h0 : NilOk A n c) (hgd : o.guard = none)
    (hrun : (execOp a.eval o).run Try.prog W = .ok (.enter 135 #[.slice A n c]) W)
    (h : ∀ A1 C1 w', Mine w' W.heap.size w'.heap.size A1 n xs → Keeps W w' → K (a.put o.dst (.slice A1 n C1)) w') :
    if Region.wanted o (yielded ops a.tmps) = true then Oper.wp Try.prog o a W K Q else E := by
  have hw : Region.wanted o (yielded ops a.tmps) = true := by simp [Region.wanted, hgd]
  rw [if_pos hw]
  unfold Oper.wp
  rw [hrun, Oper.upon_enter]
  refine (l1Own_copy hx h0).mono fun e w' hh => ?_
  obtain ⟨A1, C1, rfl, h1, h2, h3⟩ := hh
  exact h A1 C1 w' h1 h3
/-- A new table: its box, the copied slices. -/
structure SpNew (W wy : World) (g : Nat) (lv sm : Int) (B1_ : Option Addr) (n1 C1_ : Nat) (xs : List Int) (B2_ : Option Addr) (n2 C2_ : Nat) (ys : List Int) : Prop where
  b : Bl wy g [.int .i64 lv, .slice B1_ n1 C1_, .slice B2_ n2 C2_, .int .i64 sm]
  t : TabM wy W.heap.size wy.heap.size B1_ n1 xs B2_ n2 ys
  k : Keeps W wy
theorem fr_set4 {w : World} {g : Nat} (v0 v1 v2 v3 : Value) : Fr g (g + 1) w ((((w.setCell ⟨g, 0, none⟩ (v0)).setCell ⟨g, 1, none⟩ (v1)).setCell ⟨g, 2, none⟩ (v2)).setCell ⟨g, 3, none⟩ (v3)) := (((fr_one v0).trans (fr_one v1)).trans (fr_one v2)).trans (fr_one v3)
theorem Bl.set4 {w : World} {g : Nat} {u0 u1 u2 u3 : Value} (h : Bl w g [u0, u1, u2, u3]) (v0 v1 v2 v3 : Value) : Bl ((((w.setCell ⟨g, 0, none⟩ (v0)).setCell ⟨g, 1, none⟩ (v1)).setCell ⟨g, 2, none⟩ (v2)).setCell ⟨g, 3, none⟩ (v3)) g [v0, v1, v2, v3] := (((h.set 0 v0).set 1 v1).set 2 v2).set 3 v3
theorem below_set4 {B : Nat} {a w : World} (k : Below B a w) {g : Nat} (hg : B ≤ g) (v0 v1 v2 v3 : Value) : Below B a ((((w.setCell ⟨g, 0, none⟩ (v0)).setCell ⟨g, 1, none⟩ (v1)).setCell ⟨g, 2, none⟩ (v2)).setCell ⟨g, 3, none⟩ (v3)) := (((k.setCell hg v0).setCell hg v1).setCell hg v2).setCell hg v3
theorem size_set4 {w : World} {g : Nat} (v0 v1 v2 v3 : Value) : ((((w.setCell ⟨g, 0, none⟩ (v0)).setCell ⟨g, 1, none⟩ (v1)).setCell ⟨g, 2, none⟩ (v2)).setCell ⟨g, 3, none⟩ (v3)).heap.size = w.heap.size := by simp [World.setCell]
theorem sp1 {W wB : World} {lv sm : Int} {B1_ : Option Addr} {n1 C1_ : Nat} {xs : List Int} {B2_ : Option Addr} {n2 C2_ : Nat} {ys : List Int} {lo : Nat} (m : TabM wB lo wB.heap.size B1_ n1 xs B2_ n2 ys) (h : W.heap.size ≤ lo) (k : Keeps W wB) : SpNew W (wB.alloc (.cells #[.int .i64 lv, .slice B1_ n1 C1_, .slice B2_ n2 C2_, .int .i64 sm] 72)) wB.heap.size lv sm B1_ n1 C1_ xs B2_ n2 C2_ ys :=
  ⟨Bl.new' rfl (by simp), (m.keeps (keeps_alloc _ _)).widen h (by simp) (Nat.le_refl _), k.trans (keeps_alloc _ _)⟩
theorem sp2 {W wA wB : World} {lv sm : Int} {B1_ : Option Addr} {n1 C1_ : Nat} {xs : List Int} {B2_ : Option Addr} {n2 C2_ : Nat} {ys : List Int} {lo : Nat} (m1 : Mine wA lo wA.heap.size B1_ n1 xs) (h : W.heap.size ≤ lo) (k1 : Keeps W wA) (k2 : Keeps (wA.alloc (.cells #[.int .i64 0, .slice none 0 0, .slice none 0 0, .int .i64 0] 72)) wB) (m2 : Mine wB (wA.alloc (.cells #[.int .i64 0, .slice none 0 0, .slice none 0 0, .int .i64 0] 72)).heap.size wB.heap.size B2_ n2 ys) : SpNew W ((((wB.setCell ⟨wA.heap.size, 0, none⟩ (.int .i64 lv)).setCell ⟨wA.heap.size, 1, none⟩ (.slice B1_ n1 C1_)).setCell ⟨wA.heap.size, 2, none⟩ (.slice B2_ n2 C2_)).setCell ⟨wA.heap.size, 3, none⟩ (.int .i64 sm)) wA.heap.size lv sm B1_ n1 C1_ xs B2_ n2 C2_ ys := by
  have z := Bl.keepsA k2 (by simp)
  replace m2 := m2.widen (lo' := wA.heap.size + 1) (by simp) (Nat.le_refl _) (Nat.le_refl _)
  have hs : wA.heap.size + 1 ≤ wB.heap.size := by have := k2.size; simpa using this
  have k3 : Keeps W wB := k1.trans ((keeps_alloc _ _).trans k2)
  have m1' := (m1.keeps ((keeps_alloc _ _).trans k2)).fr (fr_set4 (g := wA.heap.size) (.int .i64 lv) (.slice B1_ n1 C1_) (.slice B2_ n2 C2_) (.int .i64 sm)) (.inr (.inl (Nat.le_refl _)))
  have m2' := m2.fr (fr_set4 (g := wA.heap.size) (.int .i64 lv) (.slice B1_ n1 C1_) (.slice B2_ n2 C2_) (.int .i64 sm)) (.inl (Nat.le_refl _))
  exact ⟨z.set4 _ _ _ _, ⟨Nat.le_refl _, _, _, _, _, h, by rw [size_set4]; omega, by have := k1.size; omega, by rw [size_set4]; omega, .inl (Nat.le_succ _), m1', m2'⟩, below_set4 k3 k1.size _ _ _ _⟩
theorem sp2' {W wA wB : World} {lv sm : Int} {B1_ : Option Addr} {n1 C1_ : Nat} {xs : List Int} {B2_ : Option Addr} {n2 C2_ : Nat} {ys : List Int} {lo : Nat} (m1 : Mine wA lo wA.heap.size B2_ n2 ys) (h : W.heap.size ≤ lo) (k1 : Keeps W wA) (k2 : Keeps (wA.alloc (.cells #[.int .i64 0, .slice none 0 0, .slice none 0 0, .int .i64 0] 72)) wB) (m2 : Mine wB (wA.alloc (.cells #[.int .i64 0, .slice none 0 0, .slice none 0 0, .int .i64 0] 72)).heap.size wB.heap.size B1_ n1 xs) : SpNew W ((((wB.setCell ⟨wA.heap.size, 0, none⟩ (.int .i64 lv)).setCell ⟨wA.heap.size, 1, none⟩ (.slice B1_ n1 C1_)).setCell ⟨wA.heap.size, 2, none⟩ (.slice B2_ n2 C2_)).setCell ⟨wA.heap.size, 3, none⟩ (.int .i64 sm)) wA.heap.size lv sm B1_ n1 C1_ xs B2_ n2 C2_ ys := by
  have z := Bl.keepsA k2 (by simp)
  replace m2 := m2.widen (lo' := wA.heap.size + 1) (by simp) (Nat.le_refl _) (Nat.le_refl _)
  have hs : wA.heap.size + 1 ≤ wB.heap.size := by have := k2.size; simpa using this
  have k3 : Keeps W wB := k1.trans ((keeps_alloc _ _).trans k2)
  have m1' := (m1.keeps ((keeps_alloc _ _).trans k2)).fr (fr_set4 (g := wA.heap.size) (.int .i64 lv) (.slice B1_ n1 C1_) (.slice B2_ n2 C2_) (.int .i64 sm)) (.inr (.inl (Nat.le_refl _)))
  have m2' := m2.fr (fr_set4 (g := wA.heap.size) (.int .i64 lv) (.slice B1_ n1 C1_) (.slice B2_ n2 C2_) (.int .i64 sm)) (.inl (Nat.le_refl _))
  exact ⟨z.set4 _ _ _ _, ⟨Nat.le_refl _, _, _, _, _, by have := k1.size; omega, by rw [size_set4]; omega, h, by rw [size_set4]; omega, .inr (Nat.le_succ _), m2', m1'⟩, below_set4 k3 k1.size _ _ _ _⟩
theorem sp3 {W wB : World} {lv sm : Int} {B1_ : Option Addr} {n1 C1_ : Nat} {xs : List Int} {B2_ : Option Addr} {n2 C2_ : Nat} {ys : List Int} (m : TabM wB (W.heap.size + 1) wB.heap.size B1_ n1 xs B2_ n2 ys) (k : Keeps (W.alloc (.cells #[.int .i64 0, .slice none 0 0, .slice none 0 0, .int .i64 0] 72)).drew wB) : SpNew W ((((wB.setCell ⟨W.heap.size, 0, none⟩ (.int .i64 lv)).setCell ⟨W.heap.size, 1, none⟩ (.slice B1_ n1 C1_)).setCell ⟨W.heap.size, 2, none⟩ (.slice B2_ n2 C2_)).setCell ⟨W.heap.size, 3, none⟩ (.int .i64 sm)) W.heap.size lv sm B1_ n1 C1_ xs B2_ n2 C2_ ys := by
  have z := ((Bl.new' (w := W) rfl (by simp)).keeps (keeps_d0 _)).keeps k
  have kW : Keeps W wB := keeps_ad k
  exact ⟨z.set4 _ _ _ _, (m.fr (fr_set4 _ _ _ _) (.inl (Nat.le_refl _))).widen (Nat.le_succ _) (by rw [size_set4]; exact Nat.le_refl _) (Nat.le_refl _), below_set4 kW (Nat.le_refl _) _ _ _ _⟩
set_option maxRecDepth 100000 in
set_option maxHeartbeats 6400000 in
theorem specHideCells_any {A1 A2 A3 : Option Addr} {n1 n2 n3 c1 c2 c3 : Nat} {lv sm : Int} {w : World} {t : Int} {lo hi : Nat} {xs ys zs : List Int} (h : PubI w lo hi A1 n1 xs A2 n2 ys A3 n3 zs) (g1 : NilOk A1 n1 c1) (g2 : NilOk A2 n2 c2) :
    Calls Try.prog 45 #[.agg #[.int .i64 lv, .slice A1 n1 c1, .slice A2 n2 c2, .int .i64 sm, .slice A3 n3 c3], .int .i64 t] w (HcRes w (hcQ lv sm xs ys zs t)) := by
  have hn := h.i3.le
  have hl := h.i3.1
  have HL := hid hl
  clear hl
  have G1 := hid g1
  have G2 := hid g2
  clear g1 g2
  go_enter Try.func45, Try.ntmps45
  have kw := keeps_refl w
  replace kw := Keeps.trans kw (keeps_alloc w (.cells #[.int .i64 lv, .slice A1 n1 c1, .slice A2 n2 c2, .int .i64 sm, .slice A3 n3 c3] 74))
  have b2 : Bl (w.alloc (.cells #[.int .i64 lv, .slice A1 n1 c1, .slice A2 n2 c2, .int .i64 sm, .slice A3 n3 c3] 74)) w.heap.size [.int .i64 lv, .slice A1 n1 c1, .slice A2 n2 c2, .int .i64 sm, .slice A3 n3 c3] := Bl.new' (by simp) (by simp)
  replace b2 := b2.keeps (keeps_alloc (w.alloc (.cells #[.int .i64 lv, .slice A1 n1 c1, .slice A2 n2 c2, .int .i64 sm, .slice A3 n3 c3] 74)) (.cells #[.int .i64 0, .slice none 0 0, .slice none 0 0, .int .i64 0, .slice none 0 0] 74))
  replace kw := Keeps.trans kw (keeps_alloc (w.alloc (.cells #[.int .i64 lv, .slice A1 n1 c1, .slice A2 n2 c2, .int .i64 sm, .slice A3 n3 c3] 74)) (.cells #[.int .i64 0, .slice none 0 0, .slice none 0 0, .int .i64 0, .slice none 0 0] 74))
  have b4 : Bl ((w.alloc (.cells #[.int .i64 lv, .slice A1 n1 c1, .slice A2 n2 c2, .int .i64 sm, .slice A3 n3 c3] 74)).alloc (.cells #[.int .i64 0, .slice none 0 0, .slice none 0 0, .int .i64 0, .slice none 0 0] 74)) (w.heap.size + 1) [.int .i64 0, .slice none 0 0, .slice none 0 0, .int .i64 0, .slice none 0 0] := Bl.new' (by simp) (by simp)
  by_cases c0 : n3 ≤ 600
  rotate_left
  · have e600 : (600 : Int) < (n3 : Int) := by omega
    have HN := hid (hcQ_no (lv := lv) (sm := sm) (xs := xs) (ys := ys) (hcB_no1 (t := t) (zs := zs) (by rw [HL.out]; exact c0)))
    have ca1_0 : ((w.alloc (.cells #[.int .i64 lv, .slice A1 n1 c1, .slice A2 n2 c2, .int .i64 sm, .slice A3 n3 c3] 74)).alloc (.cells #[.int .i64 0, .slice none 0 0, .slice none 0 0, .int .i64 0, .slice none 0 0] 74)).cell? ⟨w.heap.size, 0, none⟩ = some (.int .i64 lv) := (b2.2 0 _ rfl).1
    have fa1_0 : ((w.alloc (.cells #[.int .i64 lv, .slice A1 n1 c1, .slice A2 n2 c2, .int .i64 sm, .slice A3 n3 c3] 74)).alloc (.cells #[.int .i64 0, .slice none 0 0, .slice none 0 0, .int .i64 0, .slice none 0 0] 74)).frozen? ⟨w.heap.size, 0, none⟩ = false := (b2.2 0 _ rfl).2
    have ca1_1 : ((w.alloc (.cells #[.int .i64 lv, .slice A1 n1 c1, .slice A2 n2 c2, .int .i64 sm, .slice A3 n3 c3] 74)).alloc (.cells #[.int .i64 0, .slice none 0 0, .slice none 0 0, .int .i64 0, .slice none 0 0] 74)).cell? ⟨w.heap.size, 1, none⟩ = some (.slice A1 n1 c1) := (b2.2 1 _ rfl).1
    have fa1_1 : ((w.alloc (.cells #[.int .i64 lv, .slice A1 n1 c1, .slice A2 n2 c2, .int .i64 sm, .slice A3 n3 c3] 74)).alloc (.cells #[.int .i64 0, .slice none 0 0, .slice none 0 0, .int .i64 0, .slice none 0 0] 74)).frozen? ⟨w.heap.size, 1, none⟩ = false := (b2.2 1 _ rfl).2
    have ca1_2 : ((w.alloc (.cells #[.int .i64 lv, .slice A1 n1 c1, .slice A2 n2 c2, .int .i64 sm, .slice A3 n3 c3] 74)).alloc (.cells #[.int .i64 0, .slice none 0 0, .slice none 0 0, .int .i64 0, .slice none 0 0] 74)).cell? ⟨w.heap.size, 2, none⟩ = some (.slice A2 n2 c2) := (b2.2 2 _ rfl).1
    have fa1_2 : ((w.alloc (.cells #[.int .i64 lv, .slice A1 n1 c1, .slice A2 n2 c2, .int .i64 sm, .slice A3 n3 c3] 74)).alloc (.cells #[.int .i64 0, .slice none 0 0, .slice none 0 0, .int .i64 0, .slice none 0 0] 74)).frozen? ⟨w.heap.size, 2, none⟩ = false := (b2.2 2 _ rfl).2
    have ca1_3 : ((w.alloc (.cells #[.int .i64 lv, .slice A1 n1 c1, .slice A2 n2 c2, .int .i64 sm, .slice A3 n3 c3] 74)).alloc (.cells #[.int .i64 0, .slice none 0 0, .slice none 0 0, .int .i64 0, .slice none 0 0] 74)).cell? ⟨w.heap.size, 3, none⟩ = some (.int .i64 sm) := (b2.2 3 _ rfl).1
    have fa1_3 : ((w.alloc (.cells #[.int .i64 lv, .slice A1 n1 c1, .slice A2 n2 c2, .int .i64 sm, .slice A3 n3 c3] 74)).alloc (.cells #[.int .i64 0, .slice none 0 0, .slice none 0 0, .int .i64 0, .slice none 0 0] 74)).frozen? ⟨w.heap.size, 3, none⟩ = false := (b2.2 3 _ rfl).2
    have ca1_4 : ((w.alloc (.cells #[.int .i64 lv, .slice A1 n1 c1, .slice A2 n2 c2, .int .i64 sm, .slice A3 n3 c3] 74)).alloc (.cells #[.int .i64 0, .slice none 0 0, .slice none 0 0, .int .i64 0, .slice none 0 0] 74)).cell? ⟨w.heap.size, 4, none⟩ = some (.slice A3 n3 c3) := (b2.2 4 _ rfl).1
    have fa1_4 : ((w.alloc (.cells #[.int .i64 lv, .slice A1 n1 c1, .slice A2 n2 c2, .int .i64 sm, .slice A3 n3 c3] 74)).alloc (.cells #[.int .i64 0, .slice none 0 0, .slice none 0 0, .int .i64 0, .slice none 0 0] 74)).frozen? ⟨w.heap.size, 4, none⟩ = false := (b2.2 4 _ rfl).2
    have ca2_0 : ((w.alloc (.cells #[.int .i64 lv, .slice A1 n1 c1, .slice A2 n2 c2, .int .i64 sm, .slice A3 n3 c3] 74)).alloc (.cells #[.int .i64 0, .slice none 0 0, .slice none 0 0, .int .i64 0, .slice none 0 0] 74)).cell? ⟨w.heap.size + 1, 0, none⟩ = some (.int .i64 0) := (b4.2 0 _ rfl).1
    have fa2_0 : ((w.alloc (.cells #[.int .i64 lv, .slice A1 n1 c1, .slice A2 n2 c2, .int .i64 sm, .slice A3 n3 c3] 74)).alloc (.cells #[.int .i64 0, .slice none 0 0, .slice none 0 0, .int .i64 0, .slice none 0 0] 74)).frozen? ⟨w.heap.size + 1, 0, none⟩ = false := (b4.2 0 _ rfl).2
    have ca2_1 : ((w.alloc (.cells #[.int .i64 lv, .slice A1 n1 c1, .slice A2 n2 c2, .int .i64 sm, .slice A3 n3 c3] 74)).alloc (.cells #[.int .i64 0, .slice none 0 0, .slice none 0 0, .int .i64 0, .slice none 0 0] 74)).cell? ⟨w.heap.size + 1, 1, none⟩ = some (.slice none 0 0) := (b4.2 1 _ rfl).1
    have fa2_1 : ((w.alloc (.cells #[.int .i64 lv, .slice A1 n1 c1, .slice A2 n2 c2, .int .i64 sm, .slice A3 n3 c3] 74)).alloc (.cells #[.int .i64 0, .slice none 0 0, .slice none 0 0, .int .i64 0, .slice none 0 0] 74)).frozen? ⟨w.heap.size + 1, 1, none⟩ = false := (b4.2 1 _ rfl).2
    have ca2_2 : ((w.alloc (.cells #[.int .i64 lv, .slice A1 n1 c1, .slice A2 n2 c2, .int .i64 sm, .slice A3 n3 c3] 74)).alloc (.cells #[.int .i64 0, .slice none 0 0, .slice none 0 0, .int .i64 0, .slice none 0 0] 74)).cell? ⟨w.heap.size + 1, 2, none⟩ = some (.slice none 0 0) := (b4.2 2 _ rfl).1
    have fa2_2 : ((w.alloc (.cells #[.int .i64 lv, .slice A1 n1 c1, .slice A2 n2 c2, .int .i64 sm, .slice A3 n3 c3] 74)).alloc (.cells #[.int .i64 0, .slice none 0 0, .slice none 0 0, .int .i64 0, .slice none 0 0] 74)).frozen? ⟨w.heap.size + 1, 2, none⟩ = false := (b4.2 2 _ rfl).2
    have ca2_3 : ((w.alloc (.cells #[.int .i64 lv, .slice A1 n1 c1, .slice A2 n2 c2, .int .i64 sm, .slice A3 n3 c3] 74)).alloc (.cells #[.int .i64 0, .slice none 0 0, .slice none 0 0, .int .i64 0, .slice none 0 0] 74)).cell? ⟨w.heap.size + 1, 3, none⟩ = some (.int .i64 0) := (b4.2 3 _ rfl).1
    have fa2_3 : ((w.alloc (.cells #[.int .i64 lv, .slice A1 n1 c1, .slice A2 n2 c2, .int .i64 sm, .slice A3 n3 c3] 74)).alloc (.cells #[.int .i64 0, .slice none 0 0, .slice none 0 0, .int .i64 0, .slice none 0 0] 74)).frozen? ⟨w.heap.size + 1, 3, none⟩ = false := (b4.2 3 _ rfl).2
    have ca2_4 : ((w.alloc (.cells #[.int .i64 lv, .slice A1 n1 c1, .slice A2 n2 c2, .int .i64 sm, .slice A3 n3 c3] 74)).alloc (.cells #[.int .i64 0, .slice none 0 0, .slice none 0 0, .int .i64 0, .slice none 0 0] 74)).cell? ⟨w.heap.size + 1, 4, none⟩ = some (.slice none 0 0) := (b4.2 4 _ rfl).1
    have fa2_4 : ((w.alloc (.cells #[.int .i64 lv, .slice A1 n1 c1, .slice A2 n2 c2, .int .i64 sm, .slice A3 n3 c3] 74)).alloc (.cells #[.int .i64 0, .slice none 0 0, .slice none 0 0, .int .i64 0, .slice none 0 0] 74)).frozen? ⟨w.heap.size + 1, 4, none⟩ = false := (b4.2 4 _ rfl).2
    have HK := hid kw
    clear kw
    go_wp2_with fail
    clear ca1_0 fa1_0 ca1_1 fa1_1 ca1_2 fa1_2 ca1_3 fa1_3 ca1_4 fa1_4 ca2_0 fa2_0 ca2_1 fa2_1 ca2_2 fa2_2 ca2_3 fa2_3 ca2_4 fa2_4
    have ca0_0 : ((w.alloc (.cells #[.int .i64 lv, .slice A1 n1 c1, .slice A2 n2 c2, .int .i64 sm, .slice A3 n3 c3] 74)).alloc (.cells #[.int .i64 0, .slice none 0 0, .slice none 0 0, .int .i64 0, .slice none 0 0] 74)).cell? ⟨w.heap.size + 1, 0, none⟩ = some (.int .i64 0) := (b4.2 0 _ rfl).1
    have ca0_1 : ((w.alloc (.cells #[.int .i64 lv, .slice A1 n1 c1, .slice A2 n2 c2, .int .i64 sm, .slice A3 n3 c3] 74)).alloc (.cells #[.int .i64 0, .slice none 0 0, .slice none 0 0, .int .i64 0, .slice none 0 0] 74)).cell? ⟨w.heap.size + 1, 1, none⟩ = some (.slice none 0 0) := (b4.2 1 _ rfl).1
    have ca0_2 : ((w.alloc (.cells #[.int .i64 lv, .slice A1 n1 c1, .slice A2 n2 c2, .int .i64 sm, .slice A3 n3 c3] 74)).alloc (.cells #[.int .i64 0, .slice none 0 0, .slice none 0 0, .int .i64 0, .slice none 0 0] 74)).cell? ⟨w.heap.size + 1, 2, none⟩ = some (.slice none 0 0) := (b4.2 2 _ rfl).1
    have ca0_3 : ((w.alloc (.cells #[.int .i64 lv, .slice A1 n1 c1, .slice A2 n2 c2, .int .i64 sm, .slice A3 n3 c3] 74)).alloc (.cells #[.int .i64 0, .slice none 0 0, .slice none 0 0, .int .i64 0, .slice none 0 0] 74)).cell? ⟨w.heap.size + 1, 3, none⟩ = some (.int .i64 0) := (b4.2 3 _ rfl).1
    have ca0_4 : ((w.alloc (.cells #[.int .i64 lv, .slice A1 n1 c1, .slice A2 n2 c2, .int .i64 sm, .slice A3 n3 c3] 74)).alloc (.cells #[.int .i64 0, .slice none 0 0, .slice none 0 0, .int .i64 0, .slice none 0 0] 74)).cell? ⟨w.heap.size + 1, 4, none⟩ = some (.slice none 0 0) := (b4.2 4 _ rfl).1
    exact bodyPost_ret (v := .tuple #[.agg #[.int .i64 0, .slice none 0 0, .slice none 0 0, .int .i64 0, .slice none 0 0], .bool false]) (by simp [results, Try.results45, go_sem, ca0_0, ca0_1, ca0_2, ca0_3, ca0_4]) rfl (HcRes.no HN.out HK.out)
  have c0' : ¬ (600 : Int) < (n3 : Int) := by omega
  have ca1_0 : ((w.alloc (.cells #[.int .i64 lv, .slice A1 n1 c1, .slice A2 n2 c2, .int .i64 sm, .slice A3 n3 c3] 74)).alloc (.cells #[.int .i64 0, .slice none 0 0, .slice none 0 0, .int .i64 0, .slice none 0 0] 74)).cell? ⟨w.heap.size, 0, none⟩ = some (.int .i64 lv) := (b2.2 0 _ rfl).1
  have fa1_0 : ((w.alloc (.cells #[.int .i64 lv, .slice A1 n1 c1, .slice A2 n2 c2, .int .i64 sm, .slice A3 n3 c3] 74)).alloc (.cells #[.int .i64 0, .slice none 0 0, .slice none 0 0, .int .i64 0, .slice none 0 0] 74)).frozen? ⟨w.heap.size, 0, none⟩ = false := (b2.2 0 _ rfl).2
  have ca1_1 : ((w.alloc (.cells #[.int .i64 lv, .slice A1 n1 c1, .slice A2 n2 c2, .int .i64 sm, .slice A3 n3 c3] 74)).alloc (.cells #[.int .i64 0, .slice none 0 0, .slice none 0 0, .int .i64 0, .slice none 0 0] 74)).cell? ⟨w.heap.size, 1, none⟩ = some (.slice A1 n1 c1) := (b2.2 1 _ rfl).1
  have fa1_1 : ((w.alloc (.cells #[.int .i64 lv, .slice A1 n1 c1, .slice A2 n2 c2, .int .i64 sm, .slice A3 n3 c3] 74)).alloc (.cells #[.int .i64 0, .slice none 0 0, .slice none 0 0, .int .i64 0, .slice none 0 0] 74)).frozen? ⟨w.heap.size, 1, none⟩ = false := (b2.2 1 _ rfl).2
  have ca1_2 : ((w.alloc (.cells #[.int .i64 lv, .slice A1 n1 c1, .slice A2 n2 c2, .int .i64 sm, .slice A3 n3 c3] 74)).alloc (.cells #[.int .i64 0, .slice none 0 0, .slice none 0 0, .int .i64 0, .slice none 0 0] 74)).cell? ⟨w.heap.size, 2, none⟩ = some (.slice A2 n2 c2) := (b2.2 2 _ rfl).1
  have fa1_2 : ((w.alloc (.cells #[.int .i64 lv, .slice A1 n1 c1, .slice A2 n2 c2, .int .i64 sm, .slice A3 n3 c3] 74)).alloc (.cells #[.int .i64 0, .slice none 0 0, .slice none 0 0, .int .i64 0, .slice none 0 0] 74)).frozen? ⟨w.heap.size, 2, none⟩ = false := (b2.2 2 _ rfl).2
  have ca1_3 : ((w.alloc (.cells #[.int .i64 lv, .slice A1 n1 c1, .slice A2 n2 c2, .int .i64 sm, .slice A3 n3 c3] 74)).alloc (.cells #[.int .i64 0, .slice none 0 0, .slice none 0 0, .int .i64 0, .slice none 0 0] 74)).cell? ⟨w.heap.size, 3, none⟩ = some (.int .i64 sm) := (b2.2 3 _ rfl).1
  have fa1_3 : ((w.alloc (.cells #[.int .i64 lv, .slice A1 n1 c1, .slice A2 n2 c2, .int .i64 sm, .slice A3 n3 c3] 74)).alloc (.cells #[.int .i64 0, .slice none 0 0, .slice none 0 0, .int .i64 0, .slice none 0 0] 74)).frozen? ⟨w.heap.size, 3, none⟩ = false := (b2.2 3 _ rfl).2
  have ca1_4 : ((w.alloc (.cells #[.int .i64 lv, .slice A1 n1 c1, .slice A2 n2 c2, .int .i64 sm, .slice A3 n3 c3] 74)).alloc (.cells #[.int .i64 0, .slice none 0 0, .slice none 0 0, .int .i64 0, .slice none 0 0] 74)).cell? ⟨w.heap.size, 4, none⟩ = some (.slice A3 n3 c3) := (b2.2 4 _ rfl).1
  have fa1_4 : ((w.alloc (.cells #[.int .i64 lv, .slice A1 n1 c1, .slice A2 n2 c2, .int .i64 sm, .slice A3 n3 c3] 74)).alloc (.cells #[.int .i64 0, .slice none 0 0, .slice none 0 0, .int .i64 0, .slice none 0 0] 74)).frozen? ⟨w.heap.size, 4, none⟩ = false := (b2.2 4 _ rfl).2
  go_wp2_with fail
  clear ca1_0 fa1_0 ca1_1 fa1_1 ca1_2 fa1_2 ca1_3 fa1_3 ca1_4 fa1_4
  obtain ⟨pI, HI⟩ : ∃ pI, Hid (within (-1) 1000000 zs = pI) := ⟨_, rfl⟩
  refine (l1All_any _ _ _ _ _ _ (-1) 1000000 _ (h.i3.keeps kw)).mono ?_
  rintro e w' ⟨rfl, rfl⟩
  rw [HI.out]
  cases pI
  · have HN := hid (hcQ_no (lv := lv) (sm := sm) (xs := xs) (ys := ys) (hcB_no2 (t := t) HI.out))
    have ca2_0 : ((w.alloc (.cells #[.int .i64 lv, .slice A1 n1 c1, .slice A2 n2 c2, .int .i64 sm, .slice A3 n3 c3] 74)).alloc (.cells #[.int .i64 0, .slice none 0 0, .slice none 0 0, .int .i64 0, .slice none 0 0] 74)).cell? ⟨w.heap.size, 0, none⟩ = some (.int .i64 lv) := (b2.2 0 _ rfl).1
    have fa2_0 : ((w.alloc (.cells #[.int .i64 lv, .slice A1 n1 c1, .slice A2 n2 c2, .int .i64 sm, .slice A3 n3 c3] 74)).alloc (.cells #[.int .i64 0, .slice none 0 0, .slice none 0 0, .int .i64 0, .slice none 0 0] 74)).frozen? ⟨w.heap.size, 0, none⟩ = false := (b2.2 0 _ rfl).2
    have ca2_1 : ((w.alloc (.cells #[.int .i64 lv, .slice A1 n1 c1, .slice A2 n2 c2, .int .i64 sm, .slice A3 n3 c3] 74)).alloc (.cells #[.int .i64 0, .slice none 0 0, .slice none 0 0, .int .i64 0, .slice none 0 0] 74)).cell? ⟨w.heap.size, 1, none⟩ = some (.slice A1 n1 c1) := (b2.2 1 _ rfl).1
    have fa2_1 : ((w.alloc (.cells #[.int .i64 lv, .slice A1 n1 c1, .slice A2 n2 c2, .int .i64 sm, .slice A3 n3 c3] 74)).alloc (.cells #[.int .i64 0, .slice none 0 0, .slice none 0 0, .int .i64 0, .slice none 0 0] 74)).frozen? ⟨w.heap.size, 1, none⟩ = false := (b2.2 1 _ rfl).2
    have ca2_2 : ((w.alloc (.cells #[.int .i64 lv, .slice A1 n1 c1, .slice A2 n2 c2, .int .i64 sm, .slice A3 n3 c3] 74)).alloc (.cells #[.int .i64 0, .slice none 0 0, .slice none 0 0, .int .i64 0, .slice none 0 0] 74)).cell? ⟨w.heap.size, 2, none⟩ = some (.slice A2 n2 c2) := (b2.2 2 _ rfl).1
    have fa2_2 : ((w.alloc (.cells #[.int .i64 lv, .slice A1 n1 c1, .slice A2 n2 c2, .int .i64 sm, .slice A3 n3 c3] 74)).alloc (.cells #[.int .i64 0, .slice none 0 0, .slice none 0 0, .int .i64 0, .slice none 0 0] 74)).frozen? ⟨w.heap.size, 2, none⟩ = false := (b2.2 2 _ rfl).2
    have ca2_3 : ((w.alloc (.cells #[.int .i64 lv, .slice A1 n1 c1, .slice A2 n2 c2, .int .i64 sm, .slice A3 n3 c3] 74)).alloc (.cells #[.int .i64 0, .slice none 0 0, .slice none 0 0, .int .i64 0, .slice none 0 0] 74)).cell? ⟨w.heap.size, 3, none⟩ = some (.int .i64 sm) := (b2.2 3 _ rfl).1
    have fa2_3 : ((w.alloc (.cells #[.int .i64 lv, .slice A1 n1 c1, .slice A2 n2 c2, .int .i64 sm, .slice A3 n3 c3] 74)).alloc (.cells #[.int .i64 0, .slice none 0 0, .slice none 0 0, .int .i64 0, .slice none 0 0] 74)).frozen? ⟨w.heap.size, 3, none⟩ = false := (b2.2 3 _ rfl).2
    have ca2_4 : ((w.alloc (.cells #[.int .i64 lv, .slice A1 n1 c1, .slice A2 n2 c2, .int .i64 sm, .slice A3 n3 c3] 74)).alloc (.cells #[.int .i64 0, .slice none 0 0, .slice none 0 0, .int .i64 0, .slice none 0 0] 74)).cell? ⟨w.heap.size, 4, none⟩ = some (.slice A3 n3 c3) := (b2.2 4 _ rfl).1
    have fa2_4 : ((w.alloc (.cells #[.int .i64 lv, .slice A1 n1 c1, .slice A2 n2 c2, .int .i64 sm, .slice A3 n3 c3] 74)).alloc (.cells #[.int .i64 0, .slice none 0 0, .slice none 0 0, .int .i64 0, .slice none 0 0] 74)).frozen? ⟨w.heap.size, 4, none⟩ = false := (b2.2 4 _ rfl).2
    have ca3_0 : ((w.alloc (.cells #[.int .i64 lv, .slice A1 n1 c1, .slice A2 n2 c2, .int .i64 sm, .slice A3 n3 c3] 74)).alloc (.cells #[.int .i64 0, .slice none 0 0, .slice none 0 0, .int .i64 0, .slice none 0 0] 74)).cell? ⟨w.heap.size + 1, 0, none⟩ = some (.int .i64 0) := (b4.2 0 _ rfl).1
    have fa3_0 : ((w.alloc (.cells #[.int .i64 lv, .slice A1 n1 c1, .slice A2 n2 c2, .int .i64 sm, .slice A3 n3 c3] 74)).alloc (.cells #[.int .i64 0, .slice none 0 0, .slice none 0 0, .int .i64 0, .slice none 0 0] 74)).frozen? ⟨w.heap.size + 1, 0, none⟩ = false := (b4.2 0 _ rfl).2
    have ca3_1 : ((w.alloc (.cells #[.int .i64 lv, .slice A1 n1 c1, .slice A2 n2 c2, .int .i64 sm, .slice A3 n3 c3] 74)).alloc (.cells #[.int .i64 0, .slice none 0 0, .slice none 0 0, .int .i64 0, .slice none 0 0] 74)).cell? ⟨w.heap.size + 1, 1, none⟩ = some (.slice none 0 0) := (b4.2 1 _ rfl).1
    have fa3_1 : ((w.alloc (.cells #[.int .i64 lv, .slice A1 n1 c1, .slice A2 n2 c2, .int .i64 sm, .slice A3 n3 c3] 74)).alloc (.cells #[.int .i64 0, .slice none 0 0, .slice none 0 0, .int .i64 0, .slice none 0 0] 74)).frozen? ⟨w.heap.size + 1, 1, none⟩ = false := (b4.2 1 _ rfl).2
    have ca3_2 : ((w.alloc (.cells #[.int .i64 lv, .slice A1 n1 c1, .slice A2 n2 c2, .int .i64 sm, .slice A3 n3 c3] 74)).alloc (.cells #[.int .i64 0, .slice none 0 0, .slice none 0 0, .int .i64 0, .slice none 0 0] 74)).cell? ⟨w.heap.size + 1, 2, none⟩ = some (.slice none 0 0) := (b4.2 2 _ rfl).1
    have fa3_2 : ((w.alloc (.cells #[.int .i64 lv, .slice A1 n1 c1, .slice A2 n2 c2, .int .i64 sm, .slice A3 n3 c3] 74)).alloc (.cells #[.int .i64 0, .slice none 0 0, .slice none 0 0, .int .i64 0, .slice none 0 0] 74)).frozen? ⟨w.heap.size + 1, 2, none⟩ = false := (b4.2 2 _ rfl).2
    have ca3_3 : ((w.alloc (.cells #[.int .i64 lv, .slice A1 n1 c1, .slice A2 n2 c2, .int .i64 sm, .slice A3 n3 c3] 74)).alloc (.cells #[.int .i64 0, .slice none 0 0, .slice none 0 0, .int .i64 0, .slice none 0 0] 74)).cell? ⟨w.heap.size + 1, 3, none⟩ = some (.int .i64 0) := (b4.2 3 _ rfl).1
    have fa3_3 : ((w.alloc (.cells #[.int .i64 lv, .slice A1 n1 c1, .slice A2 n2 c2, .int .i64 sm, .slice A3 n3 c3] 74)).alloc (.cells #[.int .i64 0, .slice none 0 0, .slice none 0 0, .int .i64 0, .slice none 0 0] 74)).frozen? ⟨w.heap.size + 1, 3, none⟩ = false := (b4.2 3 _ rfl).2
    have ca3_4 : ((w.alloc (.cells #[.int .i64 lv, .slice A1 n1 c1, .slice A2 n2 c2, .int .i64 sm, .slice A3 n3 c3] 74)).alloc (.cells #[.int .i64 0, .slice none 0 0, .slice none 0 0, .int .i64 0, .slice none 0 0] 74)).cell? ⟨w.heap.size + 1, 4, none⟩ = some (.slice none 0 0) := (b4.2 4 _ rfl).1
    have fa3_4 : ((w.alloc (.cells #[.int .i64 lv, .slice A1 n1 c1, .slice A2 n2 c2, .int .i64 sm, .slice A3 n3 c3] 74)).alloc (.cells #[.int .i64 0, .slice none 0 0, .slice none 0 0, .int .i64 0, .slice none 0 0] 74)).frozen? ⟨w.heap.size + 1, 4, none⟩ = false := (b4.2 4 _ rfl).2
    have HK := hid kw
    clear kw
    go_wp2_with fail
    clear ca2_0 fa2_0 ca2_1 fa2_1 ca2_2 fa2_2 ca2_3 fa2_3 ca2_4 fa2_4 ca3_0 fa3_0 ca3_1 fa3_1 ca3_2 fa3_2 ca3_3 fa3_3 ca3_4 fa3_4
    have ca0_0 : ((w.alloc (.cells #[.int .i64 lv, .slice A1 n1 c1, .slice A2 n2 c2, .int .i64 sm, .slice A3 n3 c3] 74)).alloc (.cells #[.int .i64 0, .slice none 0 0, .slice none 0 0, .int .i64 0, .slice none 0 0] 74)).cell? ⟨w.heap.size + 1, 0, none⟩ = some (.int .i64 0) := (b4.2 0 _ rfl).1
    have ca0_1 : ((w.alloc (.cells #[.int .i64 lv, .slice A1 n1 c1, .slice A2 n2 c2, .int .i64 sm, .slice A3 n3 c3] 74)).alloc (.cells #[.int .i64 0, .slice none 0 0, .slice none 0 0, .int .i64 0, .slice none 0 0] 74)).cell? ⟨w.heap.size + 1, 1, none⟩ = some (.slice none 0 0) := (b4.2 1 _ rfl).1
    have ca0_2 : ((w.alloc (.cells #[.int .i64 lv, .slice A1 n1 c1, .slice A2 n2 c2, .int .i64 sm, .slice A3 n3 c3] 74)).alloc (.cells #[.int .i64 0, .slice none 0 0, .slice none 0 0, .int .i64 0, .slice none 0 0] 74)).cell? ⟨w.heap.size + 1, 2, none⟩ = some (.slice none 0 0) := (b4.2 2 _ rfl).1
    have ca0_3 : ((w.alloc (.cells #[.int .i64 lv, .slice A1 n1 c1, .slice A2 n2 c2, .int .i64 sm, .slice A3 n3 c3] 74)).alloc (.cells #[.int .i64 0, .slice none 0 0, .slice none 0 0, .int .i64 0, .slice none 0 0] 74)).cell? ⟨w.heap.size + 1, 3, none⟩ = some (.int .i64 0) := (b4.2 3 _ rfl).1
    have ca0_4 : ((w.alloc (.cells #[.int .i64 lv, .slice A1 n1 c1, .slice A2 n2 c2, .int .i64 sm, .slice A3 n3 c3] 74)).alloc (.cells #[.int .i64 0, .slice none 0 0, .slice none 0 0, .int .i64 0, .slice none 0 0] 74)).cell? ⟨w.heap.size + 1, 4, none⟩ = some (.slice none 0 0) := (b4.2 4 _ rfl).1
    exact bodyPost_ret (v := .tuple #[.agg #[.int .i64 0, .slice none 0 0, .slice none 0 0, .int .i64 0, .slice none 0 0], .bool false]) (by simp [results, Try.results45, go_sem, ca0_0, ca0_1, ca0_2, ca0_3, ca0_4]) rfl (HcRes.no HN.out HK.out)
  go_wp2_with fail
  obtain ⟨pT, HT⟩ : ∃ pT, Hid (inB t 0 1000000 = pT) := ⟨_, rfl⟩
  refine (l1In_any _ _ _ _).mono ?_
  rintro e w' ⟨rfl, rfl⟩
  rw [HT.out]
  cases pT
  · have HN := hid (hcQ_no (lv := lv) (sm := sm) (xs := xs) (ys := ys) (hcB_no3 (t := t) (zs := zs) (fun e => by have := inB_true.2 e; rw [HT.out] at this; cases this)))
    have ca2_0 : ((w.alloc (.cells #[.int .i64 lv, .slice A1 n1 c1, .slice A2 n2 c2, .int .i64 sm, .slice A3 n3 c3] 74)).alloc (.cells #[.int .i64 0, .slice none 0 0, .slice none 0 0, .int .i64 0, .slice none 0 0] 74)).cell? ⟨w.heap.size, 0, none⟩ = some (.int .i64 lv) := (b2.2 0 _ rfl).1
    have fa2_0 : ((w.alloc (.cells #[.int .i64 lv, .slice A1 n1 c1, .slice A2 n2 c2, .int .i64 sm, .slice A3 n3 c3] 74)).alloc (.cells #[.int .i64 0, .slice none 0 0, .slice none 0 0, .int .i64 0, .slice none 0 0] 74)).frozen? ⟨w.heap.size, 0, none⟩ = false := (b2.2 0 _ rfl).2
    have ca2_1 : ((w.alloc (.cells #[.int .i64 lv, .slice A1 n1 c1, .slice A2 n2 c2, .int .i64 sm, .slice A3 n3 c3] 74)).alloc (.cells #[.int .i64 0, .slice none 0 0, .slice none 0 0, .int .i64 0, .slice none 0 0] 74)).cell? ⟨w.heap.size, 1, none⟩ = some (.slice A1 n1 c1) := (b2.2 1 _ rfl).1
    have fa2_1 : ((w.alloc (.cells #[.int .i64 lv, .slice A1 n1 c1, .slice A2 n2 c2, .int .i64 sm, .slice A3 n3 c3] 74)).alloc (.cells #[.int .i64 0, .slice none 0 0, .slice none 0 0, .int .i64 0, .slice none 0 0] 74)).frozen? ⟨w.heap.size, 1, none⟩ = false := (b2.2 1 _ rfl).2
    have ca2_2 : ((w.alloc (.cells #[.int .i64 lv, .slice A1 n1 c1, .slice A2 n2 c2, .int .i64 sm, .slice A3 n3 c3] 74)).alloc (.cells #[.int .i64 0, .slice none 0 0, .slice none 0 0, .int .i64 0, .slice none 0 0] 74)).cell? ⟨w.heap.size, 2, none⟩ = some (.slice A2 n2 c2) := (b2.2 2 _ rfl).1
    have fa2_2 : ((w.alloc (.cells #[.int .i64 lv, .slice A1 n1 c1, .slice A2 n2 c2, .int .i64 sm, .slice A3 n3 c3] 74)).alloc (.cells #[.int .i64 0, .slice none 0 0, .slice none 0 0, .int .i64 0, .slice none 0 0] 74)).frozen? ⟨w.heap.size, 2, none⟩ = false := (b2.2 2 _ rfl).2
    have ca2_3 : ((w.alloc (.cells #[.int .i64 lv, .slice A1 n1 c1, .slice A2 n2 c2, .int .i64 sm, .slice A3 n3 c3] 74)).alloc (.cells #[.int .i64 0, .slice none 0 0, .slice none 0 0, .int .i64 0, .slice none 0 0] 74)).cell? ⟨w.heap.size, 3, none⟩ = some (.int .i64 sm) := (b2.2 3 _ rfl).1
    have fa2_3 : ((w.alloc (.cells #[.int .i64 lv, .slice A1 n1 c1, .slice A2 n2 c2, .int .i64 sm, .slice A3 n3 c3] 74)).alloc (.cells #[.int .i64 0, .slice none 0 0, .slice none 0 0, .int .i64 0, .slice none 0 0] 74)).frozen? ⟨w.heap.size, 3, none⟩ = false := (b2.2 3 _ rfl).2
    have ca2_4 : ((w.alloc (.cells #[.int .i64 lv, .slice A1 n1 c1, .slice A2 n2 c2, .int .i64 sm, .slice A3 n3 c3] 74)).alloc (.cells #[.int .i64 0, .slice none 0 0, .slice none 0 0, .int .i64 0, .slice none 0 0] 74)).cell? ⟨w.heap.size, 4, none⟩ = some (.slice A3 n3 c3) := (b2.2 4 _ rfl).1
    have fa2_4 : ((w.alloc (.cells #[.int .i64 lv, .slice A1 n1 c1, .slice A2 n2 c2, .int .i64 sm, .slice A3 n3 c3] 74)).alloc (.cells #[.int .i64 0, .slice none 0 0, .slice none 0 0, .int .i64 0, .slice none 0 0] 74)).frozen? ⟨w.heap.size, 4, none⟩ = false := (b2.2 4 _ rfl).2
    have ca3_0 : ((w.alloc (.cells #[.int .i64 lv, .slice A1 n1 c1, .slice A2 n2 c2, .int .i64 sm, .slice A3 n3 c3] 74)).alloc (.cells #[.int .i64 0, .slice none 0 0, .slice none 0 0, .int .i64 0, .slice none 0 0] 74)).cell? ⟨w.heap.size + 1, 0, none⟩ = some (.int .i64 0) := (b4.2 0 _ rfl).1
    have fa3_0 : ((w.alloc (.cells #[.int .i64 lv, .slice A1 n1 c1, .slice A2 n2 c2, .int .i64 sm, .slice A3 n3 c3] 74)).alloc (.cells #[.int .i64 0, .slice none 0 0, .slice none 0 0, .int .i64 0, .slice none 0 0] 74)).frozen? ⟨w.heap.size + 1, 0, none⟩ = false := (b4.2 0 _ rfl).2
    have ca3_1 : ((w.alloc (.cells #[.int .i64 lv, .slice A1 n1 c1, .slice A2 n2 c2, .int .i64 sm, .slice A3 n3 c3] 74)).alloc (.cells #[.int .i64 0, .slice none 0 0, .slice none 0 0, .int .i64 0, .slice none 0 0] 74)).cell? ⟨w.heap.size + 1, 1, none⟩ = some (.slice none 0 0) := (b4.2 1 _ rfl).1
    have fa3_1 : ((w.alloc (.cells #[.int .i64 lv, .slice A1 n1 c1, .slice A2 n2 c2, .int .i64 sm, .slice A3 n3 c3] 74)).alloc (.cells #[.int .i64 0, .slice none 0 0, .slice none 0 0, .int .i64 0, .slice none 0 0] 74)).frozen? ⟨w.heap.size + 1, 1, none⟩ = false := (b4.2 1 _ rfl).2
    have ca3_2 : ((w.alloc (.cells #[.int .i64 lv, .slice A1 n1 c1, .slice A2 n2 c2, .int .i64 sm, .slice A3 n3 c3] 74)).alloc (.cells #[.int .i64 0, .slice none 0 0, .slice none 0 0, .int .i64 0, .slice none 0 0] 74)).cell? ⟨w.heap.size + 1, 2, none⟩ = some (.slice none 0 0) := (b4.2 2 _ rfl).1
    have fa3_2 : ((w.alloc (.cells #[.int .i64 lv, .slice A1 n1 c1, .slice A2 n2 c2, .int .i64 sm, .slice A3 n3 c3] 74)).alloc (.cells #[.int .i64 0, .slice none 0 0, .slice none 0 0, .int .i64 0, .slice none 0 0] 74)).frozen? ⟨w.heap.size + 1, 2, none⟩ = false := (b4.2 2 _ rfl).2
    have ca3_3 : ((w.alloc (.cells #[.int .i64 lv, .slice A1 n1 c1, .slice A2 n2 c2, .int .i64 sm, .slice A3 n3 c3] 74)).alloc (.cells #[.int .i64 0, .slice none 0 0, .slice none 0 0, .int .i64 0, .slice none 0 0] 74)).cell? ⟨w.heap.size + 1, 3, none⟩ = some (.int .i64 0) := (b4.2 3 _ rfl).1
    have fa3_3 : ((w.alloc (.cells #[.int .i64 lv, .slice A1 n1 c1, .slice A2 n2 c2, .int .i64 sm, .slice A3 n3 c3] 74)).alloc (.cells #[.int .i64 0, .slice none 0 0, .slice none 0 0, .int .i64 0, .slice none 0 0] 74)).frozen? ⟨w.heap.size + 1, 3, none⟩ = false := (b4.2 3 _ rfl).2
    have ca3_4 : ((w.alloc (.cells #[.int .i64 lv, .slice A1 n1 c1, .slice A2 n2 c2, .int .i64 sm, .slice A3 n3 c3] 74)).alloc (.cells #[.int .i64 0, .slice none 0 0, .slice none 0 0, .int .i64 0, .slice none 0 0] 74)).cell? ⟨w.heap.size + 1, 4, none⟩ = some (.slice none 0 0) := (b4.2 4 _ rfl).1
    have fa3_4 : ((w.alloc (.cells #[.int .i64 lv, .slice A1 n1 c1, .slice A2 n2 c2, .int .i64 sm, .slice A3 n3 c3] 74)).alloc (.cells #[.int .i64 0, .slice none 0 0, .slice none 0 0, .int .i64 0, .slice none 0 0] 74)).frozen? ⟨w.heap.size + 1, 4, none⟩ = false := (b4.2 4 _ rfl).2
    have HK := hid kw
    clear kw
    go_wp2_with fail
    clear ca2_0 fa2_0 ca2_1 fa2_1 ca2_2 fa2_2 ca2_3 fa2_3 ca2_4 fa2_4 ca3_0 fa3_0 ca3_1 fa3_1 ca3_2 fa3_2 ca3_3 fa3_3 ca3_4 fa3_4
    have ca0_0 : ((w.alloc (.cells #[.int .i64 lv, .slice A1 n1 c1, .slice A2 n2 c2, .int .i64 sm, .slice A3 n3 c3] 74)).alloc (.cells #[.int .i64 0, .slice none 0 0, .slice none 0 0, .int .i64 0, .slice none 0 0] 74)).cell? ⟨w.heap.size + 1, 0, none⟩ = some (.int .i64 0) := (b4.2 0 _ rfl).1
    have ca0_1 : ((w.alloc (.cells #[.int .i64 lv, .slice A1 n1 c1, .slice A2 n2 c2, .int .i64 sm, .slice A3 n3 c3] 74)).alloc (.cells #[.int .i64 0, .slice none 0 0, .slice none 0 0, .int .i64 0, .slice none 0 0] 74)).cell? ⟨w.heap.size + 1, 1, none⟩ = some (.slice none 0 0) := (b4.2 1 _ rfl).1
    have ca0_2 : ((w.alloc (.cells #[.int .i64 lv, .slice A1 n1 c1, .slice A2 n2 c2, .int .i64 sm, .slice A3 n3 c3] 74)).alloc (.cells #[.int .i64 0, .slice none 0 0, .slice none 0 0, .int .i64 0, .slice none 0 0] 74)).cell? ⟨w.heap.size + 1, 2, none⟩ = some (.slice none 0 0) := (b4.2 2 _ rfl).1
    have ca0_3 : ((w.alloc (.cells #[.int .i64 lv, .slice A1 n1 c1, .slice A2 n2 c2, .int .i64 sm, .slice A3 n3 c3] 74)).alloc (.cells #[.int .i64 0, .slice none 0 0, .slice none 0 0, .int .i64 0, .slice none 0 0] 74)).cell? ⟨w.heap.size + 1, 3, none⟩ = some (.int .i64 0) := (b4.2 3 _ rfl).1
    have ca0_4 : ((w.alloc (.cells #[.int .i64 lv, .slice A1 n1 c1, .slice A2 n2 c2, .int .i64 sm, .slice A3 n3 c3] 74)).alloc (.cells #[.int .i64 0, .slice none 0 0, .slice none 0 0, .int .i64 0, .slice none 0 0] 74)).cell? ⟨w.heap.size + 1, 4, none⟩ = some (.slice none 0 0) := (b4.2 4 _ rfl).1
    exact bodyPost_ret (v := .tuple #[.agg #[.int .i64 0, .slice none 0 0, .slice none 0 0, .int .i64 0, .slice none 0 0], .bool false]) (by simp [results, Try.results45, go_sem, ca0_0, ca0_1, ca0_2, ca0_3, ca0_4]) rfl (HcRes.no HN.out HK.out)
  have HB := hid (hcB_true.2 ⟨by rw [HL.out]; exact c0, HI.out, inB_true.1 HT.out⟩)
  go_wp2_with fail
  obtain ⟨W, hX⟩ : ∃ u : World, u = ((w.alloc (.cells #[.int .i64 lv, .slice A1 n1 c1, .slice A2 n2 c2, .int .i64 sm, .slice A3 n3 c3] 74)).alloc (.cells #[.int .i64 0, .slice none 0 0, .slice none 0 0, .int .i64 0, .slice none 0 0] 74)) := ⟨_, rfl⟩
  have szX1 := hid (show W.heap.size = w.heap.size + 1 + 1 by rw [hX]; simp)
  rw [← hX] at b2
  rw [← hX] at b4
  rw [← hX] at kw
  rw [← hX]
  clear hX
  have sz3 := kw.size
  have hD := True.intro
  have hE := True.intro
  have lt2 := b2.lt
  have b2D := b2.keeps (keeps_d0 W)
  have eD : W.drew.heap.size = W.heap.size := rfl
  have z0 : W.drew.cell? ⟨w.heap.size, 0, none⟩ = some (.int .i64 lv) := (b2D.2 0 _ rfl).1
  have x0 : W.cell? ⟨w.heap.size, 0, none⟩ = some (.int .i64 lv) := (b2.2 0 _ rfl).1
  have z1 : W.drew.cell? ⟨w.heap.size, 1, none⟩ = some (.slice A1 n1 c1) := (b2D.2 1 _ rfl).1
  have x1 : W.cell? ⟨w.heap.size, 1, none⟩ = some (.slice A1 n1 c1) := (b2.2 1 _ rfl).1
  have z2 : W.drew.cell? ⟨w.heap.size, 2, none⟩ = some (.slice A2 n2 c2) := (b2D.2 2 _ rfl).1
  have x2 : W.cell? ⟨w.heap.size, 2, none⟩ = some (.slice A2 n2 c2) := (b2.2 2 _ rfl).1
  have z3 : W.drew.cell? ⟨w.heap.size, 3, none⟩ = some (.int .i64 sm) := (b2D.2 3 _ rfl).1
  have x3 : W.cell? ⟨w.heap.size, 3, none⟩ = some (.int .i64 sm) := (b2.2 3 _ rfl).1
  have z4 : W.drew.cell? ⟨w.heap.size, 4, none⟩ = some (.slice A3 n3 c3) := (b2D.2 4 _ rfl).1
  have x4 : W.cell? ⟨w.heap.size, 4, none⟩ = some (.slice A3 n3 c3) := (b2.2 4 _ rfl).1
  go_cut [6] (fun sp wq => ∃ wy g A1' C1' A2' C2', wy = wq ∧ sp = .pointer (some ⟨g, 0, none⟩) ∧ SpNew W wy g lv sm A1' n1 C1' xs A2' n2 C2' ys)
  case first =>
    have hW := h.keeps kw
    have kS := hid (show ∀ w', Keeps W w' → (w'.cell? ⟨w.heap.size, 0, none⟩ = some (.int .i64 lv) ∧ w'.cell? ⟨w.heap.size, 1, none⟩ = some (.slice A1 n1 c1) ∧ w'.cell? ⟨w.heap.size, 2, none⟩ = some (.slice A2 n2 c2) ∧ w'.cell? ⟨w.heap.size, 3, none⟩ = some (.int .i64 sm) ∧ w'.cell? ⟨w.heap.size, 4, none⟩ = some (.slice A3 n3 c3)) from fun w' k => ⟨((b2.keeps k).2 0 _ rfl).1, ((b2.keeps k).2 1 _ rfl).1, ((b2.keeps k).2 2 _ rfl).1, ((b2.keeps k).2 3 _ rfl).1, ((b2.keeps k).2 4 _ rfl).1⟩)
    go_region_held3 (fun w' => w'.cell? ⟨w.heap.size, 0, none⟩ = some (.int .i64 lv) ∧ w'.cell? ⟨w.heap.size, 1, none⟩ = some (.slice A1 n1 c1) ∧ w'.cell? ⟨w.heap.size, 2, none⟩ = some (.slice A2 n2 c2) ∧ w'.cell? ⟨w.heap.size, 3, none⟩ = some (.int .i64 sm) ∧ w'.cell? ⟨w.heap.size, 4, none⟩ = some (.slice A3 n3 c3)) (first | with_reducible exact kS.out _ (keeps_d0 W) | with_reducible exact kS.out _ (keeps_ad0 W _) | with_reducible exact kS.out _ kQ | with_reducible exact kS.out _ (kQ.trans (keeps_alloc _ _)) | with_reducible exact kS.out _ (below_set4 kQ (Nat.le_refl _) _ _ _ _) | with_reducible exact kS.out _ (below_set4 kQ kP.size _ _ _ _) | go_keep)
      ((first | (go_at_call 135; (first | with_reducible refine (l1Own_copy (hW.i2.keeps kP) G2.out).mono ?_ | with_reducible refine (l1Own_copy (hW.i2.keeps (kP.trans (keeps_alloc _ _))) G2.out).mono ?_); rintro e wB ⟨B2_, C2_, rfl, my, -, kB⟩; (first | (have NA := hid (sp3 (W := W) (lv := lv) (sm := sm) (C1_ := C1_) (C2_ := C2_) (TabM.of_two (B := W.heap.size + 1) mx kB my (by simp) kM.size) (kM.trans kB)); have kQ : Keeps W wB := kP.trans kB; have bzB : Bl wB W.heap.size [.int .i64 0, .slice none 0 0, .slice none 0 0, .int .i64 0] := bzA.keeps kB; have ltzB := bzB.lt; have qB0 : wB.cell? ⟨W.heap.size, 0, none⟩ = some (.int .i64 0) := (bzB.2 0 _ rfl).1; have rB0 : wB.frozen? ⟨W.heap.size, 0, none⟩ = false := (bzB.2 0 _ rfl).2; have qB1 : wB.cell? ⟨W.heap.size, 1, none⟩ = some (.slice none 0 0) := (bzB.2 1 _ rfl).1; have rB1 : wB.frozen? ⟨W.heap.size, 1, none⟩ = false := (bzB.2 1 _ rfl).2; have qB2 : wB.cell? ⟨W.heap.size, 2, none⟩ = some (.slice none 0 0) := (bzB.2 2 _ rfl).1; have rB2 : wB.frozen? ⟨W.heap.size, 2, none⟩ = false := (bzB.2 2 _ rfl).2; have qB3 : wB.cell? ⟨W.heap.size, 3, none⟩ = some (.int .i64 0) := (bzB.2 3 _ rfl).1; have rB3 : wB.frozen? ⟨W.heap.size, 3, none⟩ = false := (bzB.2 3 _ rfl).2) | (have kNN := kN; have NA := hid (sp1 (W := W) (lv := lv) (sm := sm) (C1_ := C1_) (C2_ := C2_) (TabM.of_two (B := W.heap.size) mx kB my (Nat.le_refl _) kP.size) (Nat.le_refl _) (kP.trans kB)); have kQ : Keeps W wB := kP.trans kB) | (have NA := hid (sp2 (W := W) (lv := lv) (sm := sm) (C1_ := C1_) (C2_ := C2_) mx (Nat.le_refl _) kP kB my); have kQ : Keeps W wB := kP.trans ((keeps_alloc _ _).trans kB); have bzB : Bl wB wA.heap.size [.int .i64 0, .slice none 0 0, .slice none 0 0, .int .i64 0] := Bl.keepsA kB (by simp); have ltzB := bzB.lt; have qB0 : wB.cell? ⟨wA.heap.size, 0, none⟩ = some (.int .i64 0) := (bzB.2 0 _ rfl).1; have rB0 : wB.frozen? ⟨wA.heap.size, 0, none⟩ = false := (bzB.2 0 _ rfl).2; have qB1 : wB.cell? ⟨wA.heap.size, 1, none⟩ = some (.slice none 0 0) := (bzB.2 1 _ rfl).1; have rB1 : wB.frozen? ⟨wA.heap.size, 1, none⟩ = false := (bzB.2 1 _ rfl).2; have qB2 : wB.cell? ⟨wA.heap.size, 2, none⟩ = some (.slice none 0 0) := (bzB.2 2 _ rfl).1; have rB2 : wB.frozen? ⟨wA.heap.size, 2, none⟩ = false := (bzB.2 2 _ rfl).2; have qB3 : wB.cell? ⟨wA.heap.size, 3, none⟩ = some (.int .i64 0) := (bzB.2 3 _ rfl).1; have rB3 : wB.frozen? ⟨wA.heap.size, 3, none⟩ = false := (bzB.2 3 _ rfl).2))) | (go_at_call 135; (first | with_reducible refine (l1Own_copy (hW.i1.keeps (keeps_d0 _)) G1.out).mono ?_ | with_reducible refine (l1Own_copy (hW.i1.keeps (keeps_ad0 _ _)) G1.out).mono ?_); rintro e wA ⟨B1_, C1_, rfl, mx, -, kA⟩; (first | (have kP : Keeps W wA := keeps_d kA; have kN := kA) | (have kP : Keeps W wA := keeps_ad kA; have kM := kA; have bzA : Bl wA W.heap.size [.int .i64 0, .slice none 0 0, .slice none 0 0, .int .i64 0] := ((Bl.new' (w := W) rfl (by simp)).keeps (keeps_d0 _)).keeps kA; have ltzA := bzA.lt; have qA0 : wA.cell? ⟨W.heap.size, 0, none⟩ = some (.int .i64 0) := (bzA.2 0 _ rfl).1; have rA0 : wA.frozen? ⟨W.heap.size, 0, none⟩ = false := (bzA.2 0 _ rfl).2; have qA1 : wA.cell? ⟨W.heap.size, 1, none⟩ = some (.slice none 0 0) := (bzA.2 1 _ rfl).1; have rA1 : wA.frozen? ⟨W.heap.size, 1, none⟩ = false := (bzA.2 1 _ rfl).2; have qA2 : wA.cell? ⟨W.heap.size, 2, none⟩ = some (.slice none 0 0) := (bzA.2 2 _ rfl).1; have rA2 : wA.frozen? ⟨W.heap.size, 2, none⟩ = false := (bzA.2 2 _ rfl).2; have qA3 : wA.cell? ⟨W.heap.size, 3, none⟩ = some (.int .i64 0) := (bzA.2 3 _ rfl).1; have rA3 : wA.frozen? ⟨W.heap.size, 3, none⟩ = false := (bzA.2 3 _ rfl).2)); have kQ := kP)))
    all_goals (go_wp2_with fail; go_meet; first | with_reducible exact ⟨_, _, B1_, C1_, B2_, C2_, rfl, rfl, NA.out⟩ | (trace_state; sorry))
  case rest =>
    clear hD hE b2D eD z0 x0 z1 x1 z2 x2 z3 x3 z4 x4
    obtain ⟨wy, gg, B1_, C1_, B2_, C2_, rfl, rfl, hnw⟩ := hcut
    obtain ⟨bo, tm, kY⟩ := hnw
    have s0 := b4.lt
    have hW := kY.size
    have hgg : W.heap.size ≤ gg ∨ gg < W.heap.size := by omega
    clear hgg
    replace b2 := b2.keeps kY
    replace b4 := b4.keeps kY
    replace kw := Keeps.trans kw kY
    have lt4 := b4.lt
    have sz5 := kw.size
    clear kY
    have tl := tm.top
    obtain ⟨M, hM⟩ : ∃ M, W.heap.size = M := ⟨_, rfl⟩
    obtain ⟨M2, hM2⟩ : ∃ M2, wy.heap.size = M2 := ⟨_, rfl⟩
    have HM := hid hM
    have HM2 := hid hM2
    rw [hM, hM2] at tm
    have tlo : w.heap.size + 2 ≤ M := by rw [← hM]; rw [szX1.out]; omega
    clear hM hM2
    have ca6_0 : wy.cell? ⟨gg, 0, none⟩ = some (.int .i64 lv) := (bo.2 0 _ rfl).1
    have fa6_0 : wy.frozen? ⟨gg, 0, none⟩ = false := (bo.2 0 _ rfl).2
    have ca6_1 : wy.cell? ⟨gg, 1, none⟩ = some (.slice B1_ n1 C1_) := (bo.2 1 _ rfl).1
    have fa6_1 : wy.frozen? ⟨gg, 1, none⟩ = false := (bo.2 1 _ rfl).2
    have ca6_2 : wy.cell? ⟨gg, 2, none⟩ = some (.slice B2_ n2 C2_) := (bo.2 2 _ rfl).1
    have fa6_2 : wy.frozen? ⟨gg, 2, none⟩ = false := (bo.2 2 _ rfl).2
    have ca6_3 : wy.cell? ⟨gg, 3, none⟩ = some (.int .i64 sm) := (bo.2 3 _ rfl).1
    have fa6_3 : wy.frozen? ⟨gg, 3, none⟩ = false := (bo.2 3 _ rfl).2
    replace b2 := b2.keeps (keeps_alloc wy (.cells #[.int .i64 lv, .slice B1_ n1 C1_, .slice B2_ n2 C2_, .int .i64 sm, .slice none 0 0] 74))
    replace b4 := b4.keeps (keeps_alloc wy (.cells #[.int .i64 lv, .slice B1_ n1 C1_, .slice B2_ n2 C2_, .int .i64 sm, .slice none 0 0] 74))
    replace bo := bo.keeps (keeps_alloc wy (.cells #[.int .i64 lv, .slice B1_ n1 C1_, .slice B2_ n2 C2_, .int .i64 sm, .slice none 0 0] 74))
    replace tm := tm.keeps (keeps_alloc wy (.cells #[.int .i64 lv, .slice B1_ n1 C1_, .slice B2_ n2 C2_, .int .i64 sm, .slice none 0 0] 74))
    replace kw := Keeps.trans kw (keeps_alloc wy (.cells #[.int .i64 lv, .slice B1_ n1 C1_, .slice B2_ n2 C2_, .int .i64 sm, .slice none 0 0] 74))
    have b7 : Bl (wy.alloc (.cells #[.int .i64 lv, .slice B1_ n1 C1_, .slice B2_ n2 C2_, .int .i64 sm, .slice none 0 0] 74)) wy.heap.size [.int .i64 lv, .slice B1_ n1 C1_, .slice B2_ n2 C2_, .int .i64 sm, .slice none 0 0] := Bl.new' (by simp) (by simp)
    have ca7_0 : (wy.alloc (.cells #[.int .i64 lv, .slice B1_ n1 C1_, .slice B2_ n2 C2_, .int .i64 sm, .slice none 0 0] 74)).cell? ⟨w.heap.size, 0, none⟩ = some (.int .i64 lv) := (b2.2 0 _ rfl).1
    have fa7_0 : (wy.alloc (.cells #[.int .i64 lv, .slice B1_ n1 C1_, .slice B2_ n2 C2_, .int .i64 sm, .slice none 0 0] 74)).frozen? ⟨w.heap.size, 0, none⟩ = false := (b2.2 0 _ rfl).2
    have ca7_1 : (wy.alloc (.cells #[.int .i64 lv, .slice B1_ n1 C1_, .slice B2_ n2 C2_, .int .i64 sm, .slice none 0 0] 74)).cell? ⟨w.heap.size, 1, none⟩ = some (.slice A1 n1 c1) := (b2.2 1 _ rfl).1
    have fa7_1 : (wy.alloc (.cells #[.int .i64 lv, .slice B1_ n1 C1_, .slice B2_ n2 C2_, .int .i64 sm, .slice none 0 0] 74)).frozen? ⟨w.heap.size, 1, none⟩ = false := (b2.2 1 _ rfl).2
    have ca7_2 : (wy.alloc (.cells #[.int .i64 lv, .slice B1_ n1 C1_, .slice B2_ n2 C2_, .int .i64 sm, .slice none 0 0] 74)).cell? ⟨w.heap.size, 2, none⟩ = some (.slice A2 n2 c2) := (b2.2 2 _ rfl).1
    have fa7_2 : (wy.alloc (.cells #[.int .i64 lv, .slice B1_ n1 C1_, .slice B2_ n2 C2_, .int .i64 sm, .slice none 0 0] 74)).frozen? ⟨w.heap.size, 2, none⟩ = false := (b2.2 2 _ rfl).2
    have ca7_3 : (wy.alloc (.cells #[.int .i64 lv, .slice B1_ n1 C1_, .slice B2_ n2 C2_, .int .i64 sm, .slice none 0 0] 74)).cell? ⟨w.heap.size, 3, none⟩ = some (.int .i64 sm) := (b2.2 3 _ rfl).1
    have fa7_3 : (wy.alloc (.cells #[.int .i64 lv, .slice B1_ n1 C1_, .slice B2_ n2 C2_, .int .i64 sm, .slice none 0 0] 74)).frozen? ⟨w.heap.size, 3, none⟩ = false := (b2.2 3 _ rfl).2
    have ca7_4 : (wy.alloc (.cells #[.int .i64 lv, .slice B1_ n1 C1_, .slice B2_ n2 C2_, .int .i64 sm, .slice none 0 0] 74)).cell? ⟨w.heap.size, 4, none⟩ = some (.slice A3 n3 c3) := (b2.2 4 _ rfl).1
    have fa7_4 : (wy.alloc (.cells #[.int .i64 lv, .slice B1_ n1 C1_, .slice B2_ n2 C2_, .int .i64 sm, .slice none 0 0] 74)).frozen? ⟨w.heap.size, 4, none⟩ = false := (b2.2 4 _ rfl).2
    go_wp2_with fail
    clear ca6_0 fa6_0 ca6_1 fa6_1 ca6_2 fa6_2 ca6_3 fa6_3 ca7_0 fa7_0 ca7_1 fa7_1 ca7_2 fa7_2 ca7_3 fa7_3 ca7_4 fa7_4
    clear bo b2
    have s7 : wy.heap.size + 1 ≤ (wy.alloc (.cells #[.int .i64 lv, .slice B1_ n1 C1_, .slice B2_ n2 C2_, .int .i64 sm, .slice none 0 0] 74)).heap.size := by simp
    have HN := hid h
    clear s7
    go_loopw [46] (fun si wr => ∃ (k : Nat) (v : Value), k ≤ n3 ∧ si = .int .i64 k ∧ Has wr (wy.heap.size + 1) 3 1 v k (((zs.take k).map (hv t)).map (Value.int .i64)) ∧ Bl wr wy.heap.size [.int .i64 lv, .slice B1_ n1 C1_, .slice B2_ n2 C2_, .int .i64 sm, v] ∧ TabM wr M M2 B1_ n1 xs B2_ n2 ys ∧ Bl wr (w.heap.size + 1) [.int .i64 0, .slice none 0 0, .slice none 0 0, .int .i64 0, .slice none 0 0] ∧ Keeps w wr ∧ wy.heap.size + 1 ≤ wr.heap.size) (fun si _ => n3 - (intOf si).toNat)
    case atStart => exact ⟨0, _, Nat.zero_le _, rfl, by simpa using World.ownsRow_nil _ _ _ _, b7, tm, b4, kw, by simp⟩
    clear b7 tm b4 kw
    case round =>
      obtain ⟨k, v, hk, rfl, hown, b7, tm, b4, kw, sw⟩ := hrel
      have sz := kw.size
      have hM2 : M2 = wy.heap.size := HM2.out.symm
      have hM : W.heap.size = M := HM.out
      have szM : w.heap.size + 2 ≤ M := tlo
      have q1 : M ≤ wy.heap.size := by omega
      have q2 : M2 ≤ wy.heap.size := by omega
      clear hM hM2
      obtain ⟨A4, C4, rfl⟩ := hown.form
      by_cases hlt : k < n3
      · have hki : (k : Int) < (n3 : Int) := by omega
        obtain ⟨b, off, z, rfl, _, _, hcz, hz⟩ := (HN.out.i3.keeps kw).at_ hlt
        by_cases c1_ : 0 < z
        · by_cases c2_ : z < t
          · have HV := hid (show hv t z = (-1) from hv_yes (by omega) c2_)
            have HP := hv_snoc (t := t) (by rw [HL.out]; exact hlt) hz.out
            rw [HV.out] at HP
            have HP2 := hid HP
            clear HP
            have ca8_0 : wr.cell? ⟨wy.heap.size, 0, none⟩ = some (.int .i64 lv) := (b7.2 0 _ rfl).1
            have fa8_0 : wr.frozen? ⟨wy.heap.size, 0, none⟩ = false := (b7.2 0 _ rfl).2
            have ca8_1 : wr.cell? ⟨wy.heap.size, 1, none⟩ = some (.slice B1_ n1 C1_) := (b7.2 1 _ rfl).1
            have fa8_1 : wr.frozen? ⟨wy.heap.size, 1, none⟩ = false := (b7.2 1 _ rfl).2
            have ca8_2 : wr.cell? ⟨wy.heap.size, 2, none⟩ = some (.slice B2_ n2 C2_) := (b7.2 2 _ rfl).1
            have fa8_2 : wr.frozen? ⟨wy.heap.size, 2, none⟩ = false := (b7.2 2 _ rfl).2
            have ca8_3 : wr.cell? ⟨wy.heap.size, 3, none⟩ = some (.int .i64 sm) := (b7.2 3 _ rfl).1
            have fa8_3 : wr.frozen? ⟨wy.heap.size, 3, none⟩ = false := (b7.2 3 _ rfl).2
            have ca8_4 : wr.cell? ⟨wy.heap.size, 4, none⟩ = some (.slice A4 k C4) := (b7.2 4 _ rfl).1
            have fa8_4 : wr.frozen? ⟨wy.heap.size, 4, none⟩ = false := (b7.2 4 _ rfl).2
            go_wp2_with (at_builtin; refine append_int (xs := (zs.take k).map (hv t)) (u := (-1)) hown (by omega) (by omega) _ _ rfl rfl rfl (by first | rfl | (simp <;> rfl)) ?_; intro v' w4 hown4 hb4; have fm := Has.form hown4; obtain ⟨A5, C5, e5⟩ := fm; subst e5; have b74 := b7.fr (fr_below hb4) (by omega); have ya4 : w4.cell? ⟨wy.heap.size, 4, none⟩ = some (.slice A4 k C4) := (b74.2 4 _ rfl).1; have yf4 : w4.frozen? ⟨wy.heap.size, 4, none⟩ = false := (b74.2 4 _ rfl).2)
            rw [HP2.out] at hown4
            have b44 := b4.fr (fr_below hb4) (by omega)
            have tm4 := tm.fr (fr_below hb4) (by omega)
            have kw4 : Keeps w w4 := Below.trans kw (hb4.mono (by omega))
            have s4 := hb4.size
            clear hcz ya4 yf4
            clear ca8_0 fa8_0 ca8_1 fa8_1 ca8_2 fa8_2 ca8_3 fa8_3 ca8_4 fa8_4
            have OW := hid (Has.frB hown4 (fr_one (p := wy.heap.size) (i := 4) (.slice A5 (k + 1) C5)) (by omega))
            have B7 := hid (b74.set 4 (.slice A5 (k + 1) C5))
            have B4 := hid (b44.far (p := ⟨wy.heap.size, 4, none⟩) (by show _ ≠ wy.heap.size; omega) (.slice A5 (k + 1) C5))
            have TM := hid (tm4.fr (fr_one (p := wy.heap.size) (i := 4) (.slice A5 (k + 1) C5)) (by omega))
            have KW := hid (Below.setCell kw4 (p := ⟨wy.heap.size, 4, none⟩) (by show _ ≤ wy.heap.size; omega) (.slice A5 (k + 1) C5))
            have SW := hid (show wy.heap.size + 1 ≤ (w4.setCell ⟨wy.heap.size, 4, none⟩ (.slice A5 (k + 1) C5)).heap.size by simp [World.setCell]; omega)
            clear hown hown4 b7 b74 b4 b44 tm tm4 kw kw4 hz hb4
            go_wp2
            go_roundw
            case rel => exact ⟨k + 1, _, by omega, by go_num, OW.out, B7.out, TM.out, B4.out, KW.out, SW.out⟩
            case measure => simp [intOf]; omega
          · have HV := hid (show hv t z = z from hv_no2 c2_)
            have HP := hv_snoc (t := t) (by rw [HL.out]; exact hlt) hz.out
            rw [HV.out] at HP
            have HP2 := hid HP
            clear HP
            have ca8_0 : wr.cell? ⟨wy.heap.size, 0, none⟩ = some (.int .i64 lv) := (b7.2 0 _ rfl).1
            have fa8_0 : wr.frozen? ⟨wy.heap.size, 0, none⟩ = false := (b7.2 0 _ rfl).2
            have ca8_1 : wr.cell? ⟨wy.heap.size, 1, none⟩ = some (.slice B1_ n1 C1_) := (b7.2 1 _ rfl).1
            have fa8_1 : wr.frozen? ⟨wy.heap.size, 1, none⟩ = false := (b7.2 1 _ rfl).2
            have ca8_2 : wr.cell? ⟨wy.heap.size, 2, none⟩ = some (.slice B2_ n2 C2_) := (b7.2 2 _ rfl).1
            have fa8_2 : wr.frozen? ⟨wy.heap.size, 2, none⟩ = false := (b7.2 2 _ rfl).2
            have ca8_3 : wr.cell? ⟨wy.heap.size, 3, none⟩ = some (.int .i64 sm) := (b7.2 3 _ rfl).1
            have fa8_3 : wr.frozen? ⟨wy.heap.size, 3, none⟩ = false := (b7.2 3 _ rfl).2
            have ca8_4 : wr.cell? ⟨wy.heap.size, 4, none⟩ = some (.slice A4 k C4) := (b7.2 4 _ rfl).1
            have fa8_4 : wr.frozen? ⟨wy.heap.size, 4, none⟩ = false := (b7.2 4 _ rfl).2
            go_wp2_with (at_builtin; refine append_int (xs := (zs.take k).map (hv t)) (u := z) hown (by omega) (by omega) _ _ rfl rfl rfl (by first | rfl | (simp <;> rfl)) ?_; intro v' w4 hown4 hb4; have fm := Has.form hown4; obtain ⟨A5, C5, e5⟩ := fm; subst e5; have b74 := b7.fr (fr_below hb4) (by omega); have ya4 : w4.cell? ⟨wy.heap.size, 4, none⟩ = some (.slice A4 k C4) := (b74.2 4 _ rfl).1; have yf4 : w4.frozen? ⟨wy.heap.size, 4, none⟩ = false := (b74.2 4 _ rfl).2)
            rw [HP2.out] at hown4
            have b44 := b4.fr (fr_below hb4) (by omega)
            have tm4 := tm.fr (fr_below hb4) (by omega)
            have kw4 : Keeps w w4 := Below.trans kw (hb4.mono (by omega))
            have s4 := hb4.size
            clear hcz ya4 yf4
            clear ca8_0 fa8_0 ca8_1 fa8_1 ca8_2 fa8_2 ca8_3 fa8_3 ca8_4 fa8_4
            have OW := hid (Has.frB hown4 (fr_one (p := wy.heap.size) (i := 4) (.slice A5 (k + 1) C5)) (by omega))
            have B7 := hid (b74.set 4 (.slice A5 (k + 1) C5))
            have B4 := hid (b44.far (p := ⟨wy.heap.size, 4, none⟩) (by show _ ≠ wy.heap.size; omega) (.slice A5 (k + 1) C5))
            have TM := hid (tm4.fr (fr_one (p := wy.heap.size) (i := 4) (.slice A5 (k + 1) C5)) (by omega))
            have KW := hid (Below.setCell kw4 (p := ⟨wy.heap.size, 4, none⟩) (by show _ ≤ wy.heap.size; omega) (.slice A5 (k + 1) C5))
            have SW := hid (show wy.heap.size + 1 ≤ (w4.setCell ⟨wy.heap.size, 4, none⟩ (.slice A5 (k + 1) C5)).heap.size by simp [World.setCell]; omega)
            clear hown hown4 b7 b74 b4 b44 tm tm4 kw kw4 hz hb4
            go_wp2
            go_roundw
            case rel => exact ⟨k + 1, _, by omega, by go_num, OW.out, B7.out, TM.out, B4.out, KW.out, SW.out⟩
            case measure => simp [intOf]; omega
        · have HV := hid (show hv t z = z from hv_no1 (by omega))
          have HP := hv_snoc (t := t) (by rw [HL.out]; exact hlt) hz.out
          rw [HV.out] at HP
          have HP2 := hid HP
          clear HP
          have ca8_0 : wr.cell? ⟨wy.heap.size, 0, none⟩ = some (.int .i64 lv) := (b7.2 0 _ rfl).1
          have fa8_0 : wr.frozen? ⟨wy.heap.size, 0, none⟩ = false := (b7.2 0 _ rfl).2
          have ca8_1 : wr.cell? ⟨wy.heap.size, 1, none⟩ = some (.slice B1_ n1 C1_) := (b7.2 1 _ rfl).1
          have fa8_1 : wr.frozen? ⟨wy.heap.size, 1, none⟩ = false := (b7.2 1 _ rfl).2
          have ca8_2 : wr.cell? ⟨wy.heap.size, 2, none⟩ = some (.slice B2_ n2 C2_) := (b7.2 2 _ rfl).1
          have fa8_2 : wr.frozen? ⟨wy.heap.size, 2, none⟩ = false := (b7.2 2 _ rfl).2
          have ca8_3 : wr.cell? ⟨wy.heap.size, 3, none⟩ = some (.int .i64 sm) := (b7.2 3 _ rfl).1
          have fa8_3 : wr.frozen? ⟨wy.heap.size, 3, none⟩ = false := (b7.2 3 _ rfl).2
          have ca8_4 : wr.cell? ⟨wy.heap.size, 4, none⟩ = some (.slice A4 k C4) := (b7.2 4 _ rfl).1
          have fa8_4 : wr.frozen? ⟨wy.heap.size, 4, none⟩ = false := (b7.2 4 _ rfl).2
          go_wp2_with (at_builtin; refine append_int (xs := (zs.take k).map (hv t)) (u := z) hown (by omega) (by omega) _ _ rfl rfl rfl (by first | rfl | (simp <;> rfl)) ?_; intro v' w4 hown4 hb4; have fm := Has.form hown4; obtain ⟨A5, C5, e5⟩ := fm; subst e5; have b74 := b7.fr (fr_below hb4) (by omega); have ya4 : w4.cell? ⟨wy.heap.size, 4, none⟩ = some (.slice A4 k C4) := (b74.2 4 _ rfl).1; have yf4 : w4.frozen? ⟨wy.heap.size, 4, none⟩ = false := (b74.2 4 _ rfl).2)
          rw [HP2.out] at hown4
          have b44 := b4.fr (fr_below hb4) (by omega)
          have tm4 := tm.fr (fr_below hb4) (by omega)
          have kw4 : Keeps w w4 := Below.trans kw (hb4.mono (by omega))
          have s4 := hb4.size
          clear hcz ya4 yf4
          clear ca8_0 fa8_0 ca8_1 fa8_1 ca8_2 fa8_2 ca8_3 fa8_3 ca8_4 fa8_4
          have OW := hid (Has.frB hown4 (fr_one (p := wy.heap.size) (i := 4) (.slice A5 (k + 1) C5)) (by omega))
          have B7 := hid (b74.set 4 (.slice A5 (k + 1) C5))
          have B4 := hid (b44.far (p := ⟨wy.heap.size, 4, none⟩) (by show _ ≠ wy.heap.size; omega) (.slice A5 (k + 1) C5))
          have TM := hid (tm4.fr (fr_one (p := wy.heap.size) (i := 4) (.slice A5 (k + 1) C5)) (by omega))
          have KW := hid (Below.setCell kw4 (p := ⟨wy.heap.size, 4, none⟩) (by show _ ≤ wy.heap.size; omega) (.slice A5 (k + 1) C5))
          have SW := hid (show wy.heap.size + 1 ≤ (w4.setCell ⟨wy.heap.size, 4, none⟩ (.slice A5 (k + 1) C5)).heap.size by simp [World.setCell]; omega)
          clear hown hown4 b7 b74 b4 b44 tm tm4 kw kw4 hz hb4
          go_wp2
          go_roundw
          case rel => exact ⟨k + 1, _, by omega, by go_num, OW.out, B7.out, TM.out, B4.out, KW.out, SW.out⟩
          case measure => simp [intOf]; omega
      · obtain rfl : k = n3 := by omega
        have HE := hid (show (zs.take k).map (hv t) = zs.map (hv t) by rw [List.take_of_length_le (by rw [HL.out]; exact Nat.le_refl _)])
        rw [HE.out] at hown
        have hm := Mine.of_own hown (by omega)
        have tt := tm.top
        have HP := tm.pub (l := w.heap.size + 2) (h' := wr.heap.size) hm (by omega) (by omega) (by omega) (by omega) (by omega) (Nat.le_refl _)
        clear hown tm hm
        have ca8_0 : wr.cell? ⟨wy.heap.size, 0, none⟩ = some (.int .i64 lv) := (b7.2 0 _ rfl).1
        have fa8_0 : wr.frozen? ⟨wy.heap.size, 0, none⟩ = false := (b7.2 0 _ rfl).2
        have ca8_1 : wr.cell? ⟨wy.heap.size, 1, none⟩ = some (.slice B1_ n1 C1_) := (b7.2 1 _ rfl).1
        have fa8_1 : wr.frozen? ⟨wy.heap.size, 1, none⟩ = false := (b7.2 1 _ rfl).2
        have ca8_2 : wr.cell? ⟨wy.heap.size, 2, none⟩ = some (.slice B2_ n2 C2_) := (b7.2 2 _ rfl).1
        have fa8_2 : wr.frozen? ⟨wy.heap.size, 2, none⟩ = false := (b7.2 2 _ rfl).2
        have ca8_3 : wr.cell? ⟨wy.heap.size, 3, none⟩ = some (.int .i64 sm) := (b7.2 3 _ rfl).1
        have fa8_3 : wr.frozen? ⟨wy.heap.size, 3, none⟩ = false := (b7.2 3 _ rfl).2
        have ca8_4 : wr.cell? ⟨wy.heap.size, 4, none⟩ = some (.slice A4 k C4) := (b7.2 4 _ rfl).1
        have fa8_4 : wr.frozen? ⟨wy.heap.size, 4, none⟩ = false := (b7.2 4 _ rfl).2
        have ca9_0 : wr.cell? ⟨w.heap.size + 1, 0, none⟩ = some (.int .i64 0) := (b4.2 0 _ rfl).1
        have fa9_0 : wr.frozen? ⟨w.heap.size + 1, 0, none⟩ = false := (b4.2 0 _ rfl).2
        have ca9_1 : wr.cell? ⟨w.heap.size + 1, 1, none⟩ = some (.slice none 0 0) := (b4.2 1 _ rfl).1
        have fa9_1 : wr.frozen? ⟨w.heap.size + 1, 1, none⟩ = false := (b4.2 1 _ rfl).2
        have ca9_2 : wr.cell? ⟨w.heap.size + 1, 2, none⟩ = some (.slice none 0 0) := (b4.2 2 _ rfl).1
        have fa9_2 : wr.frozen? ⟨w.heap.size + 1, 2, none⟩ = false := (b4.2 2 _ rfl).2
        have ca9_3 : wr.cell? ⟨w.heap.size + 1, 3, none⟩ = some (.int .i64 0) := (b4.2 3 _ rfl).1
        have fa9_3 : wr.frozen? ⟨w.heap.size + 1, 3, none⟩ = false := (b4.2 3 _ rfl).2
        have ca9_4 : wr.cell? ⟨w.heap.size + 1, 4, none⟩ = some (.slice none 0 0) := (b4.2 4 _ rfl).1
        have fa9_4 : wr.frozen? ⟨w.heap.size + 1, 4, none⟩ = false := (b4.2 4 _ rfl).2
        replace b7 := b7.far (p := ⟨w.heap.size + 1, 0, none⟩) (by show _ ≠ (w.heap.size + 1); omega) (.int .i64 lv)
        replace HP := HP.fr (fr_one (p := (w.heap.size + 1)) (i := 0) (.int .i64 lv)) (by omega)
        replace kw := Below.setCell kw (p := ⟨w.heap.size + 1, 0, none⟩) (by show _ ≤ (w.heap.size + 1); omega) (.int .i64 lv)
        replace b4 : Bl (wr.setCell ⟨w.heap.size + 1, 0, none⟩ (.int .i64 lv)) (w.heap.size + 1) [.int .i64 lv, .slice none 0 0, .slice none 0 0, .int .i64 0, .slice none 0 0] := b4.set 0 (.int .i64 lv)
        replace b7 := b7.far (p := ⟨w.heap.size + 1, 1, none⟩) (by show _ ≠ (w.heap.size + 1); omega) (.slice B1_ n1 C1_)
        replace HP := HP.fr (fr_one (p := (w.heap.size + 1)) (i := 1) (.slice B1_ n1 C1_)) (by omega)
        replace kw := Below.setCell kw (p := ⟨w.heap.size + 1, 1, none⟩) (by show _ ≤ (w.heap.size + 1); omega) (.slice B1_ n1 C1_)
        replace b4 : Bl ((wr.setCell ⟨w.heap.size + 1, 0, none⟩ (.int .i64 lv)).setCell ⟨w.heap.size + 1, 1, none⟩ (.slice B1_ n1 C1_)) (w.heap.size + 1) [.int .i64 lv, .slice B1_ n1 C1_, .slice none 0 0, .int .i64 0, .slice none 0 0] := b4.set 1 (.slice B1_ n1 C1_)
        replace b7 := b7.far (p := ⟨w.heap.size + 1, 2, none⟩) (by show _ ≠ (w.heap.size + 1); omega) (.slice B2_ n2 C2_)
        replace HP := HP.fr (fr_one (p := (w.heap.size + 1)) (i := 2) (.slice B2_ n2 C2_)) (by omega)
        replace kw := Below.setCell kw (p := ⟨w.heap.size + 1, 2, none⟩) (by show _ ≤ (w.heap.size + 1); omega) (.slice B2_ n2 C2_)
        replace b4 : Bl (((wr.setCell ⟨w.heap.size + 1, 0, none⟩ (.int .i64 lv)).setCell ⟨w.heap.size + 1, 1, none⟩ (.slice B1_ n1 C1_)).setCell ⟨w.heap.size + 1, 2, none⟩ (.slice B2_ n2 C2_)) (w.heap.size + 1) [.int .i64 lv, .slice B1_ n1 C1_, .slice B2_ n2 C2_, .int .i64 0, .slice none 0 0] := b4.set 2 (.slice B2_ n2 C2_)
        replace b7 := b7.far (p := ⟨w.heap.size + 1, 3, none⟩) (by show _ ≠ (w.heap.size + 1); omega) (.int .i64 sm)
        replace HP := HP.fr (fr_one (p := (w.heap.size + 1)) (i := 3) (.int .i64 sm)) (by omega)
        replace kw := Below.setCell kw (p := ⟨w.heap.size + 1, 3, none⟩) (by show _ ≤ (w.heap.size + 1); omega) (.int .i64 sm)
        replace b4 : Bl ((((wr.setCell ⟨w.heap.size + 1, 0, none⟩ (.int .i64 lv)).setCell ⟨w.heap.size + 1, 1, none⟩ (.slice B1_ n1 C1_)).setCell ⟨w.heap.size + 1, 2, none⟩ (.slice B2_ n2 C2_)).setCell ⟨w.heap.size + 1, 3, none⟩ (.int .i64 sm)) (w.heap.size + 1) [.int .i64 lv, .slice B1_ n1 C1_, .slice B2_ n2 C2_, .int .i64 sm, .slice none 0 0] := b4.set 3 (.int .i64 sm)
        replace b7 := b7.far (p := ⟨w.heap.size + 1, 4, none⟩) (by show _ ≠ (w.heap.size + 1); omega) (.slice A4 k C4)
        replace HP := HP.fr (fr_one (p := (w.heap.size + 1)) (i := 4) (.slice A4 k C4)) (by omega)
        replace kw := Below.setCell kw (p := ⟨w.heap.size + 1, 4, none⟩) (by show _ ≤ (w.heap.size + 1); omega) (.slice A4 k C4)
        replace b4 : Bl (((((wr.setCell ⟨w.heap.size + 1, 0, none⟩ (.int .i64 lv)).setCell ⟨w.heap.size + 1, 1, none⟩ (.slice B1_ n1 C1_)).setCell ⟨w.heap.size + 1, 2, none⟩ (.slice B2_ n2 C2_)).setCell ⟨w.heap.size + 1, 3, none⟩ (.int .i64 sm)).setCell ⟨w.heap.size + 1, 4, none⟩ (.slice A4 k C4)) (w.heap.size + 1) [.int .i64 lv, .slice B1_ n1 C1_, .slice B2_ n2 C2_, .int .i64 sm, .slice A4 k C4] := b4.set 4 (.slice A4 k C4)
        have HP2 := hid (HP.widen (lo' := w.heap.size) (hi' := (((((wr.setCell ⟨w.heap.size + 1, 0, none⟩ (.int .i64 lv)).setCell ⟨w.heap.size + 1, 1, none⟩ (.slice B1_ n1 C1_)).setCell ⟨w.heap.size + 1, 2, none⟩ (.slice B2_ n2 C2_)).setCell ⟨w.heap.size + 1, 3, none⟩ (.int .i64 sm)).setCell ⟨w.heap.size + 1, 4, none⟩ (.slice A4 k C4)).heap.size) (by omega) (by simp [World.setCell]) (Nat.le_refl _))
        have HK := hid kw
        clear HP kw
        go_wp2_with fail
        clear ca8_0 fa8_0 ca8_1 fa8_1 ca8_2 fa8_2 ca8_3 fa8_3 ca8_4 fa8_4 ca9_0 fa9_0 ca9_1 fa9_1 ca9_2 fa9_2 ca9_3 fa9_3 ca9_4 fa9_4
        have ca0_0 : (((((wr.setCell ⟨w.heap.size + 1, 0, none⟩ (.int .i64 lv)).setCell ⟨w.heap.size + 1, 1, none⟩ (.slice B1_ n1 C1_)).setCell ⟨w.heap.size + 1, 2, none⟩ (.slice B2_ n2 C2_)).setCell ⟨w.heap.size + 1, 3, none⟩ (.int .i64 sm)).setCell ⟨w.heap.size + 1, 4, none⟩ (.slice A4 k C4)).cell? ⟨w.heap.size + 1, 0, none⟩ = some (.int .i64 lv) := (b4.2 0 _ rfl).1
        have ca0_1 : (((((wr.setCell ⟨w.heap.size + 1, 0, none⟩ (.int .i64 lv)).setCell ⟨w.heap.size + 1, 1, none⟩ (.slice B1_ n1 C1_)).setCell ⟨w.heap.size + 1, 2, none⟩ (.slice B2_ n2 C2_)).setCell ⟨w.heap.size + 1, 3, none⟩ (.int .i64 sm)).setCell ⟨w.heap.size + 1, 4, none⟩ (.slice A4 k C4)).cell? ⟨w.heap.size + 1, 1, none⟩ = some (.slice B1_ n1 C1_) := (b4.2 1 _ rfl).1
        have ca0_2 : (((((wr.setCell ⟨w.heap.size + 1, 0, none⟩ (.int .i64 lv)).setCell ⟨w.heap.size + 1, 1, none⟩ (.slice B1_ n1 C1_)).setCell ⟨w.heap.size + 1, 2, none⟩ (.slice B2_ n2 C2_)).setCell ⟨w.heap.size + 1, 3, none⟩ (.int .i64 sm)).setCell ⟨w.heap.size + 1, 4, none⟩ (.slice A4 k C4)).cell? ⟨w.heap.size + 1, 2, none⟩ = some (.slice B2_ n2 C2_) := (b4.2 2 _ rfl).1
        have ca0_3 : (((((wr.setCell ⟨w.heap.size + 1, 0, none⟩ (.int .i64 lv)).setCell ⟨w.heap.size + 1, 1, none⟩ (.slice B1_ n1 C1_)).setCell ⟨w.heap.size + 1, 2, none⟩ (.slice B2_ n2 C2_)).setCell ⟨w.heap.size + 1, 3, none⟩ (.int .i64 sm)).setCell ⟨w.heap.size + 1, 4, none⟩ (.slice A4 k C4)).cell? ⟨w.heap.size + 1, 3, none⟩ = some (.int .i64 sm) := (b4.2 3 _ rfl).1
        have ca0_4 : (((((wr.setCell ⟨w.heap.size + 1, 0, none⟩ (.int .i64 lv)).setCell ⟨w.heap.size + 1, 1, none⟩ (.slice B1_ n1 C1_)).setCell ⟨w.heap.size + 1, 2, none⟩ (.slice B2_ n2 C2_)).setCell ⟨w.heap.size + 1, 3, none⟩ (.int .i64 sm)).setCell ⟨w.heap.size + 1, 4, none⟩ (.slice A4 k C4)).cell? ⟨w.heap.size + 1, 4, none⟩ = some (.slice A4 k C4) := (b4.2 4 _ rfl).1
        exact bodyPost_ret (v := .tuple #[.agg #[.int .i64 lv, .slice B1_ n1 C1_, .slice B2_ n2 C2_, .int .i64 sm, .slice A4 k C4], .bool true]) (by simp [results, Try.results45, go_sem, ca0_0, ca0_1, ca0_2, ca0_3, ca0_4]) rfl (HcRes.yes HB.out HP2.out HK.out)
end Go.Proofs.Ytnopedjgagoahaa
