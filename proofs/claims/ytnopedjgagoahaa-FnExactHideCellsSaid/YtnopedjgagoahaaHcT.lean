/- Tables and published tables: the helpers of their laws, copies. -/
import Derived.Test.YtnopedjgagoahaaBl
import Derived.Deep.RegionLaw
namespace Go.Proofs.Ytnopedjgagoahaa
open Go.RowKit
set_option linter.unusedVariables false
set_option linter.unusedSimpArgs false

/-- Two slices of ints of one's own, apart from each other. -/
structure TabM (w : World) (lo hi : Nat) (A1 : Option Addr) (n1 : Nat) (xs : List Int) (A2 : Option Addr) (n2 : Nat) (ys : List Int) : Prop where
  top : hi ≤ w.heap.size
  ex : ∃ l1 h1 l2 h2, lo ≤ l1 ∧ h1 ≤ hi ∧ lo ≤ l2 ∧ h2 ≤ hi ∧ (h1 ≤ l2 ∨ h2 ≤ l1) ∧ Mine w l1 h1 A1 n1 xs ∧ Mine w l2 h2 A2 n2 ys
/-- Three of them. -/
structure PubM (w : World) (lo hi : Nat) (A1 : Option Addr) (n1 : Nat) (xs : List Int) (A2 : Option Addr) (n2 : Nat) (ys : List Int) (A3 : Option Addr) (n3 : Nat) (zs : List Int) : Prop where
  top : hi ≤ w.heap.size
  ex : ∃ l1 h1 l2 h2 l3 h3, (lo ≤ l1 ∧ h1 ≤ hi ∧ lo ≤ l2 ∧ h2 ≤ hi ∧ lo ≤ l3 ∧ h3 ≤ hi) ∧ (h1 ≤ l2 ∨ h2 ≤ l1) ∧ (h1 ≤ l3 ∨ h3 ≤ l1) ∧ (h2 ≤ l3 ∨ h3 ≤ l2) ∧ Mine w l1 h1 A1 n1 xs ∧ Mine w l2 h2 A2 n2 ys ∧ Mine w l3 h3 A3 n3 zs
/-- Three slices of ints, read. -/
structure PubI (w : World) (lo hi : Nat) (A1 : Option Addr) (n1 : Nat) (xs : List Int) (A2 : Option Addr) (n2 : Nat) (ys : List Int) (A3 : Option Addr) (n3 : Nat) (zs : List Int) : Prop where
  i1 : Ints w lo hi A1 n1 xs
  i2 : Ints w lo hi A2 n2 ys
  i3 : Ints w lo hi A3 n3 zs
section
variable {w w' : World} {lo hi l h' n1 n2 n3 : Nat} {A1 A2 A3 : Option Addr} {xs ys zs : List Int}
theorem PubI.fr (h : PubI w lo hi A1 n1 xs A2 n2 ys A3 n3 zs) (f : Fr l h' w w') (ho : h' ≤ lo ∨ hi ≤ l ∨ h' ≤ l) : PubI w' lo hi A1 n1 xs A2 n2 ys A3 n3 zs := ⟨h.i1.fr f ho, h.i2.fr f ho, h.i3.fr f ho⟩
theorem PubI.keeps (h : PubI w lo hi A1 n1 xs A2 n2 ys A3 n3 zs) (k : Keeps w w') : PubI w' lo hi A1 n1 xs A2 n2 ys A3 n3 zs := h.fr (Fr.of_keeps k 0 0) (by omega)
theorem PubM.ints (h : PubM w lo hi A1 n1 xs A2 n2 ys A3 n3 zs) : PubI w lo hi A1 n1 xs A2 n2 ys A3 n3 zs := by
  obtain ⟨ht, l1, h1, l2, h2, l3, h3, ho, _, _, _, m1, m2, m3⟩ := h
  exact ⟨m1.1.widen (by omega) (by omega) ht, m2.1.widen (by omega) (by omega) ht, m3.1.widen (by omega) (by omega) ht⟩
theorem PubM.fr (h : PubM w lo hi A1 n1 xs A2 n2 ys A3 n3 zs) (f : Fr l h' w w') (ho : h' ≤ lo ∨ hi ≤ l ∨ h' ≤ l) : PubM w' lo hi A1 n1 xs A2 n2 ys A3 n3 zs := by
  obtain ⟨ht, l1, h1, l2, h2, l3, h3, hq, d1, d2, d3, m1, m2, m3⟩ := h
  exact ⟨Nat.le_trans ht f.size, l1, h1, l2, h2, l3, h3, hq, d1, d2, d3, m1.fr f (by omega), m2.fr f (by omega), m3.fr f (by omega)⟩
theorem PubM.keeps (h : PubM w lo hi A1 n1 xs A2 n2 ys A3 n3 zs) (k : Keeps w w') : PubM w' lo hi A1 n1 xs A2 n2 ys A3 n3 zs := h.fr (Fr.of_keeps k 0 0) (by omega)
theorem PubM.widen {lo' hi' : Nat} (h : PubM w lo hi A1 n1 xs A2 n2 ys A3 n3 zs) (h1 : lo' ≤ lo) (h2 : hi ≤ hi') (h3 : hi' ≤ w.heap.size) : PubM w lo' hi' A1 n1 xs A2 n2 ys A3 n3 zs := by
  obtain ⟨ht, a1, b1, a2, b2, a3, b3, hq, d1, d2, d3, m1, m2, m3⟩ := h
  exact ⟨h3, a1, b1, a2, b2, a3, b3, by omega, d1, d2, d3, m1, m2, m3⟩
theorem TabM.fr (h : TabM w lo hi A1 n1 xs A2 n2 ys) (f : Fr l h' w w') (ho : h' ≤ lo ∨ hi ≤ l ∨ h' ≤ l) : TabM w' lo hi A1 n1 xs A2 n2 ys := by
  obtain ⟨ht, l1, h1, l2, h2, q1, q2, q3, q4, d1, m1, m2⟩ := h
  exact ⟨Nat.le_trans ht f.size, l1, h1, l2, h2, q1, q2, q3, q4, d1, m1.fr f (by omega), m2.fr f (by omega)⟩
theorem TabM.keeps (h : TabM w lo hi A1 n1 xs A2 n2 ys) (k : Keeps w w') : TabM w' lo hi A1 n1 xs A2 n2 ys := h.fr (Fr.of_keeps k 0 0) (by omega)
theorem TabM.widen {lo' hi' : Nat} (h : TabM w lo hi A1 n1 xs A2 n2 ys) (h1 : lo' ≤ lo) (h2 : hi ≤ hi') (h3 : hi' ≤ w.heap.size) : TabM w lo' hi' A1 n1 xs A2 n2 ys := by
  obtain ⟨ht, a1, b1, a2, b2, q1, q2, q3, q4, d1, m1, m2⟩ := h
  exact ⟨h3, a1, b1, a2, b2, by omega, by omega, by omega, by omega, d1, m1, m2⟩
theorem TabM.pub {lo' hi' : Nat} (h : TabM w lo hi A1 n1 xs A2 n2 ys) (m : Mine w lo' hi' A3 n3 zs) (d : hi ≤ lo' ∨ hi' ≤ lo) (h3 : l ≤ lo) (h4 : l ≤ lo') (h5 : hi ≤ h') (h6 : hi' ≤ h') (h7 : h' ≤ w.heap.size) : PubM w l h' A1 n1 xs A2 n2 ys A3 n3 zs := by
  obtain ⟨ht, a1, b1, a2, b2, q1, q2, q3, q4, d1, m1, m2⟩ := h
  exact ⟨h7, a1, b1, a2, b2, lo', hi', by omega, d1, by omega, by omega, m1, m2, m⟩
end
/-- What is left of a size. -/
def szT (left : Int) (n1 n2 : Nat) : Int := if (n1 : Int) + n2 ≤ left then left - n1 - n2 else -1
def szP (left : Int) (n1 n2 n3 : Nat) : Int := if (n1 : Int) + n2 + n3 ≤ left then left - n1 - n2 - n3 else -1

set_option maxRecDepth 100000 in
set_option maxHeartbeats 1600000 in
theorem szTable_any {A1 A2 : Option Addr} {n1 n2 c1 c2 : Nat} {lv sm left : Int} {w : World} (m1 : n1 ≤ maxLen) (m2 : n2 ≤ maxLen) (h0 : 0 ≤ left) (h1 : left ≤ 1048576) :
    Calls Try.prog 131 #[.agg #[.int .i64 lv, .slice A1 n1 c1, .slice A2 n2 c2, .int .i64 sm], .int .i64 left] w fun e w' => e = .returned (.int .i64 (szT left n1 n2)) ∧ Keeps w w' := by
  have HZ := hid (show szT left n1 n2 = if (n1 : Int) + n2 ≤ left then left - n1 - n2 else -1 from rfl)
  go_enter Try.func131, Try.ntmps131
  have kw := keeps_refl w
  replace kw := Keeps.trans kw (keeps_alloc w (.cells #[.int .i64 lv, .slice A1 n1 c1, .slice A2 n2 c2, .int .i64 sm] 68))
  have b2 : Bl (w.alloc (.cells #[.int .i64 lv, .slice A1 n1 c1, .slice A2 n2 c2, .int .i64 sm] 68)) w.heap.size [.int .i64 lv, .slice A1 n1 c1, .slice A2 n2 c2, .int .i64 sm] := Bl.new' (by simp) (by simp)
  have ca1_0 : (w.alloc (.cells #[.int .i64 lv, .slice A1 n1 c1, .slice A2 n2 c2, .int .i64 sm] 68)).cell? ⟨w.heap.size, 0, none⟩ = some (.int .i64 lv) := (b2.2 0 _ rfl).1
  have fa1_0 : (w.alloc (.cells #[.int .i64 lv, .slice A1 n1 c1, .slice A2 n2 c2, .int .i64 sm] 68)).frozen? ⟨w.heap.size, 0, none⟩ = false := (b2.2 0 _ rfl).2
  have ca1_1 : (w.alloc (.cells #[.int .i64 lv, .slice A1 n1 c1, .slice A2 n2 c2, .int .i64 sm] 68)).cell? ⟨w.heap.size, 1, none⟩ = some (.slice A1 n1 c1) := (b2.2 1 _ rfl).1
  have fa1_1 : (w.alloc (.cells #[.int .i64 lv, .slice A1 n1 c1, .slice A2 n2 c2, .int .i64 sm] 68)).frozen? ⟨w.heap.size, 1, none⟩ = false := (b2.2 1 _ rfl).2
  have ca1_2 : (w.alloc (.cells #[.int .i64 lv, .slice A1 n1 c1, .slice A2 n2 c2, .int .i64 sm] 68)).cell? ⟨w.heap.size, 2, none⟩ = some (.slice A2 n2 c2) := (b2.2 2 _ rfl).1
  have fa1_2 : (w.alloc (.cells #[.int .i64 lv, .slice A1 n1 c1, .slice A2 n2 c2, .int .i64 sm] 68)).frozen? ⟨w.heap.size, 2, none⟩ = false := (b2.2 2 _ rfl).2
  have ca1_3 : (w.alloc (.cells #[.int .i64 lv, .slice A1 n1 c1, .slice A2 n2 c2, .int .i64 sm] 68)).cell? ⟨w.heap.size, 3, none⟩ = some (.int .i64 sm) := (b2.2 3 _ rfl).1
  have fa1_3 : (w.alloc (.cells #[.int .i64 lv, .slice A1 n1 c1, .slice A2 n2 c2, .int .i64 sm] 68)).frozen? ⟨w.heap.size, 3, none⟩ = false := (b2.2 3 _ rfl).2
  go_wp2_with fail
  clear ca1_0 fa1_0 ca1_1 fa1_1 ca1_2 fa1_2 ca1_3 fa1_3
  by_cases hs1 : (n1 : Int) ≤ left
  rotate_left
  · refine (szIntS_any _ _ _ left _ m1 h0 h1).mono ?_
    rintro e w' ⟨rfl, rfl⟩
    rw [szI_no (left := left) (n := n1) (by omega)]
    go_wp2_with fail
    go_ret
    exact ⟨ret_int (by rw [HZ.out, if_neg (by omega)]), kw⟩
  refine (szIntS_any _ _ _ left _ m1 h0 h1).mono ?_
  rintro e w' ⟨rfl, rfl⟩
  rw [szI_ok (left := left) (n := n1) (by omega)]
  have t1 : ¬ (left - (n1 : Int) < 0) := by omega
  have ca2_0 : (w.alloc (.cells #[.int .i64 lv, .slice A1 n1 c1, .slice A2 n2 c2, .int .i64 sm] 68)).cell? ⟨w.heap.size, 0, none⟩ = some (.int .i64 lv) := (b2.2 0 _ rfl).1
  have fa2_0 : (w.alloc (.cells #[.int .i64 lv, .slice A1 n1 c1, .slice A2 n2 c2, .int .i64 sm] 68)).frozen? ⟨w.heap.size, 0, none⟩ = false := (b2.2 0 _ rfl).2
  have ca2_1 : (w.alloc (.cells #[.int .i64 lv, .slice A1 n1 c1, .slice A2 n2 c2, .int .i64 sm] 68)).cell? ⟨w.heap.size, 1, none⟩ = some (.slice A1 n1 c1) := (b2.2 1 _ rfl).1
  have fa2_1 : (w.alloc (.cells #[.int .i64 lv, .slice A1 n1 c1, .slice A2 n2 c2, .int .i64 sm] 68)).frozen? ⟨w.heap.size, 1, none⟩ = false := (b2.2 1 _ rfl).2
  have ca2_2 : (w.alloc (.cells #[.int .i64 lv, .slice A1 n1 c1, .slice A2 n2 c2, .int .i64 sm] 68)).cell? ⟨w.heap.size, 2, none⟩ = some (.slice A2 n2 c2) := (b2.2 2 _ rfl).1
  have fa2_2 : (w.alloc (.cells #[.int .i64 lv, .slice A1 n1 c1, .slice A2 n2 c2, .int .i64 sm] 68)).frozen? ⟨w.heap.size, 2, none⟩ = false := (b2.2 2 _ rfl).2
  have ca2_3 : (w.alloc (.cells #[.int .i64 lv, .slice A1 n1 c1, .slice A2 n2 c2, .int .i64 sm] 68)).cell? ⟨w.heap.size, 3, none⟩ = some (.int .i64 sm) := (b2.2 3 _ rfl).1
  have fa2_3 : (w.alloc (.cells #[.int .i64 lv, .slice A1 n1 c1, .slice A2 n2 c2, .int .i64 sm] 68)).frozen? ⟨w.heap.size, 3, none⟩ = false := (b2.2 3 _ rfl).2
  go_wp2_with fail
  clear ca2_0 fa2_0 ca2_1 fa2_1 ca2_2 fa2_2 ca2_3 fa2_3
  by_cases hs2 : (n1 : Int) + n2 ≤ left
  rotate_left
  · refine (szIntS_any _ _ _ (left - (n1 : Int)) _ m2 (by omega) (by omega)).mono ?_
    rintro e w' ⟨rfl, rfl⟩
    rw [szI_no (left := left - (n1 : Int)) (n := n2) (by omega)]
    go_wp2_with fail
    go_ret
    exact ⟨ret_int (by rw [HZ.out, if_neg (by omega)]), kw⟩
  refine (szIntS_any _ _ _ (left - (n1 : Int)) _ m2 (by omega) (by omega)).mono ?_
  rintro e w' ⟨rfl, rfl⟩
  rw [szI_ok (left := left - (n1 : Int)) (n := n2) (by omega)]
  have t2 : ¬ (left - (n1 : Int) - (n2 : Int) < 0) := by omega
  go_wp2_with fail
  go_ret
  exact ⟨ret_int (by rw [HZ.out, if_pos (by omega)]), kw⟩
set_option maxRecDepth 100000 in
set_option maxHeartbeats 1600000 in
theorem szPublished_any {A1 A2 A3 : Option Addr} {n1 n2 n3 c1 c2 c3 : Nat} {lv sm left : Int} {w : World} (m1 : n1 ≤ maxLen) (m2 : n2 ≤ maxLen) (m3 : n3 ≤ maxLen) (h0 : 0 ≤ left) (h1 : left ≤ 1048576) :
    Calls Try.prog 44 #[.agg #[.int .i64 lv, .slice A1 n1 c1, .slice A2 n2 c2, .int .i64 sm, .slice A3 n3 c3], .int .i64 left] w fun e w' => e = .returned (.int .i64 (szP left n1 n2 n3)) ∧ Keeps w w' := by
  have HZ := hid (show szP left n1 n2 n3 = if (n1 : Int) + n2 + n3 ≤ left then left - n1 - n2 - n3 else -1 from rfl)
  go_enter Try.func44, Try.ntmps44
  have kw := keeps_refl w
  replace kw := Keeps.trans kw (keeps_alloc w (.cells #[.int .i64 lv, .slice A1 n1 c1, .slice A2 n2 c2, .int .i64 sm, .slice A3 n3 c3] 70))
  have b2 : Bl (w.alloc (.cells #[.int .i64 lv, .slice A1 n1 c1, .slice A2 n2 c2, .int .i64 sm, .slice A3 n3 c3] 70)) w.heap.size [.int .i64 lv, .slice A1 n1 c1, .slice A2 n2 c2, .int .i64 sm, .slice A3 n3 c3] := Bl.new' (by simp) (by simp)
  have ca1_0 : (w.alloc (.cells #[.int .i64 lv, .slice A1 n1 c1, .slice A2 n2 c2, .int .i64 sm, .slice A3 n3 c3] 70)).cell? ⟨w.heap.size, 0, none⟩ = some (.int .i64 lv) := (b2.2 0 _ rfl).1
  have fa1_0 : (w.alloc (.cells #[.int .i64 lv, .slice A1 n1 c1, .slice A2 n2 c2, .int .i64 sm, .slice A3 n3 c3] 70)).frozen? ⟨w.heap.size, 0, none⟩ = false := (b2.2 0 _ rfl).2
  have ca1_1 : (w.alloc (.cells #[.int .i64 lv, .slice A1 n1 c1, .slice A2 n2 c2, .int .i64 sm, .slice A3 n3 c3] 70)).cell? ⟨w.heap.size, 1, none⟩ = some (.slice A1 n1 c1) := (b2.2 1 _ rfl).1
  have fa1_1 : (w.alloc (.cells #[.int .i64 lv, .slice A1 n1 c1, .slice A2 n2 c2, .int .i64 sm, .slice A3 n3 c3] 70)).frozen? ⟨w.heap.size, 1, none⟩ = false := (b2.2 1 _ rfl).2
  have ca1_2 : (w.alloc (.cells #[.int .i64 lv, .slice A1 n1 c1, .slice A2 n2 c2, .int .i64 sm, .slice A3 n3 c3] 70)).cell? ⟨w.heap.size, 2, none⟩ = some (.slice A2 n2 c2) := (b2.2 2 _ rfl).1
  have fa1_2 : (w.alloc (.cells #[.int .i64 lv, .slice A1 n1 c1, .slice A2 n2 c2, .int .i64 sm, .slice A3 n3 c3] 70)).frozen? ⟨w.heap.size, 2, none⟩ = false := (b2.2 2 _ rfl).2
  have ca1_3 : (w.alloc (.cells #[.int .i64 lv, .slice A1 n1 c1, .slice A2 n2 c2, .int .i64 sm, .slice A3 n3 c3] 70)).cell? ⟨w.heap.size, 3, none⟩ = some (.int .i64 sm) := (b2.2 3 _ rfl).1
  have fa1_3 : (w.alloc (.cells #[.int .i64 lv, .slice A1 n1 c1, .slice A2 n2 c2, .int .i64 sm, .slice A3 n3 c3] 70)).frozen? ⟨w.heap.size, 3, none⟩ = false := (b2.2 3 _ rfl).2
  have ca1_4 : (w.alloc (.cells #[.int .i64 lv, .slice A1 n1 c1, .slice A2 n2 c2, .int .i64 sm, .slice A3 n3 c3] 70)).cell? ⟨w.heap.size, 4, none⟩ = some (.slice A3 n3 c3) := (b2.2 4 _ rfl).1
  have fa1_4 : (w.alloc (.cells #[.int .i64 lv, .slice A1 n1 c1, .slice A2 n2 c2, .int .i64 sm, .slice A3 n3 c3] 70)).frozen? ⟨w.heap.size, 4, none⟩ = false := (b2.2 4 _ rfl).2
  go_wp2_with fail
  clear ca1_0 fa1_0 ca1_1 fa1_1 ca1_2 fa1_2 ca1_3 fa1_3 ca1_4 fa1_4
  by_cases hs1 : (n1 : Int) + n2 ≤ left
  rotate_left
  · refine (szTable_any m1 m2 h0 h1).mono ?_
    rintro e w2 ⟨rfl, k2⟩
    rw [show szT left n1 n2 = -1 from if_neg hs1]
    replace b2 := b2.keeps k2
    replace kw := Keeps.trans kw k2
    have lt3 := b2.lt
    have sz4 := kw.size
    clear k2
    go_wp2_with fail
    go_ret
    exact ⟨ret_int (by rw [HZ.out, if_neg (by omega)]), kw⟩
  refine (szTable_any m1 m2 h0 h1).mono ?_
  rintro e w2 ⟨rfl, k2⟩
  rw [show szT left n1 n2 = left - n1 - n2 from if_pos hs1]
  replace b2 := b2.keeps k2
  replace kw := Keeps.trans kw k2
  have lt3 := b2.lt
  have sz4 := kw.size
  clear k2
  obtain ⟨L, hL⟩ : ∃ L : Int, left - (n1 : Int) - (n2 : Int) = L := ⟨_, rfl⟩
  rw [hL]
  replace hL := hid hL
  have hl := hL.out
  have t1 : ¬ (L < 0) := by omega
  have t2 : 0 ≤ L := by omega
  have t3 : L ≤ 1048576 := by omega
  clear hl
  have ca5_0 : w2.cell? ⟨w.heap.size, 0, none⟩ = some (.int .i64 lv) := (b2.2 0 _ rfl).1
  have fa5_0 : w2.frozen? ⟨w.heap.size, 0, none⟩ = false := (b2.2 0 _ rfl).2
  have ca5_1 : w2.cell? ⟨w.heap.size, 1, none⟩ = some (.slice A1 n1 c1) := (b2.2 1 _ rfl).1
  have fa5_1 : w2.frozen? ⟨w.heap.size, 1, none⟩ = false := (b2.2 1 _ rfl).2
  have ca5_2 : w2.cell? ⟨w.heap.size, 2, none⟩ = some (.slice A2 n2 c2) := (b2.2 2 _ rfl).1
  have fa5_2 : w2.frozen? ⟨w.heap.size, 2, none⟩ = false := (b2.2 2 _ rfl).2
  have ca5_3 : w2.cell? ⟨w.heap.size, 3, none⟩ = some (.int .i64 sm) := (b2.2 3 _ rfl).1
  have fa5_3 : w2.frozen? ⟨w.heap.size, 3, none⟩ = false := (b2.2 3 _ rfl).2
  have ca5_4 : w2.cell? ⟨w.heap.size, 4, none⟩ = some (.slice A3 n3 c3) := (b2.2 4 _ rfl).1
  have fa5_4 : w2.frozen? ⟨w.heap.size, 4, none⟩ = false := (b2.2 4 _ rfl).2
  go_wp2_with fail
  clear ca5_0 fa5_0 ca5_1 fa5_1 ca5_2 fa5_2 ca5_3 fa5_3 ca5_4 fa5_4
  have hl := hL.out
  by_cases hs2 : (n3 : Int) ≤ L
  rotate_left
  · refine (szIntS_any _ _ _ L _ m3 t2 t3).mono ?_
    rintro e w' ⟨rfl, rfl⟩
    rw [szI_no (left := L) (n := n3) (by omega)]
    have HE := hid (show -1 = szP left n1 n2 n3 by rw [HZ.out, if_neg (by omega)])
    clear hl
    go_wp2_with fail
    go_ret
    exact ⟨ret_int HE.out, kw⟩
  refine (szIntS_any _ _ _ L _ m3 t2 t3).mono ?_
  rintro e w' ⟨rfl, rfl⟩
  rw [szI_ok (left := L) (n := n3) (by omega)]
  have HE := hid (show L - n3 = szP left n1 n2 n3 by rw [HZ.out, if_pos (by omega)]; omega)
  have t4 : ¬ (L - (n3 : Int) < 0) := by omega
  clear hl
  go_wp2_with fail
  go_ret
  exact ⟨ret_int HE.out, kw⟩
/-- A table of one's own. -/
def TabRes (w : World) (lv sm : Int) (n1 : Nat) (xs : List Int) (n2 : Nat) (ys : List Int) (e : Ending) (w' : World) : Prop :=
  ∃ A1 c1 A2 c2, e = .returned (.agg #[.int .i64 lv, .slice A1 n1 c1, .slice A2 n2 c2, .int .i64 sm]) ∧ TabM w' w.heap.size w'.heap.size A1 n1 xs A2 n2 ys ∧ NilOk A1 n1 c1 ∧ NilOk A2 n2 c2 ∧ Keeps w w'
/-- A published table of one's own. -/
def PubRes (w : World) (lv sm : Int) (n1 : Nat) (xs : List Int) (n2 : Nat) (ys : List Int) (n3 : Nat) (zs : List Int) (e : Ending) (w' : World) : Prop :=
  ∃ A1 c1 A2 c2 A3 c3, e = .returned (.agg #[.int .i64 lv, .slice A1 n1 c1, .slice A2 n2 c2, .int .i64 sm, .slice A3 n3 c3]) ∧ PubM w' w.heap.size w'.heap.size A1 n1 xs A2 n2 ys A3 n3 zs ∧ NilOk A1 n1 c1 ∧ NilOk A2 n2 c2 ∧ NilOk A3 n3 c3 ∧ Keeps w w'

set_option maxRecDepth 100000 in
set_option maxHeartbeats 1600000 in
theorem toTable_any {A1 A2 : Option Addr} {n1 n2 c1 c2 : Nat} {lv sm : Int} {w : World} {l1 u1 l2 u2 : Nat} {xs ys : List Int} (h1 : Ints w l1 u1 A1 n1 xs) (h2 : Ints w l2 u2 A2 n2 ys) :
    Calls Try.prog 136 #[.agg #[.int .i64 lv, .slice A1 n1 c1, .slice A2 n2 c2, .int .i64 sm]] w (TabRes w lv sm n1 xs n2 ys) := by
  go_enter Try.func136, Try.ntmps136
  have kw := keeps_refl w
  replace kw := Keeps.trans kw (keeps_alloc w (.cells #[.int .i64 lv, .slice A1 n1 c1, .slice A2 n2 c2, .int .i64 sm] 68))
  have b1 : Bl (w.alloc (.cells #[.int .i64 lv, .slice A1 n1 c1, .slice A2 n2 c2, .int .i64 sm] 68)) w.heap.size [.int .i64 lv, .slice A1 n1 c1, .slice A2 n2 c2, .int .i64 sm] := Bl.new' (by simp) (by simp)
  replace b1 := b1.keeps (keeps_alloc (w.alloc (.cells #[.int .i64 lv, .slice A1 n1 c1, .slice A2 n2 c2, .int .i64 sm] 68)) (.cells #[.int .i64 0, .slice none 0 0, .slice none 0 0, .int .i64 0] 72))
  replace kw := Keeps.trans kw (keeps_alloc (w.alloc (.cells #[.int .i64 lv, .slice A1 n1 c1, .slice A2 n2 c2, .int .i64 sm] 68)) (.cells #[.int .i64 0, .slice none 0 0, .slice none 0 0, .int .i64 0] 72))
  have b2 : Bl ((w.alloc (.cells #[.int .i64 lv, .slice A1 n1 c1, .slice A2 n2 c2, .int .i64 sm] 68)).alloc (.cells #[.int .i64 0, .slice none 0 0, .slice none 0 0, .int .i64 0] 72)) (w.heap.size + 1) [.int .i64 0, .slice none 0 0, .slice none 0 0, .int .i64 0] := Bl.new' (by simp) (by simp)
  replace b1 := b1.keeps (keeps_alloc ((w.alloc (.cells #[.int .i64 lv, .slice A1 n1 c1, .slice A2 n2 c2, .int .i64 sm] 68)).alloc (.cells #[.int .i64 0, .slice none 0 0, .slice none 0 0, .int .i64 0] 72)) (.cells #[.int .i64 lv, .slice none 0 0, .slice none 0 0, .int .i64 0] 72))
  replace b2 := b2.keeps (keeps_alloc ((w.alloc (.cells #[.int .i64 lv, .slice A1 n1 c1, .slice A2 n2 c2, .int .i64 sm] 68)).alloc (.cells #[.int .i64 0, .slice none 0 0, .slice none 0 0, .int .i64 0] 72)) (.cells #[.int .i64 lv, .slice none 0 0, .slice none 0 0, .int .i64 0] 72))
  replace kw := Keeps.trans kw (keeps_alloc ((w.alloc (.cells #[.int .i64 lv, .slice A1 n1 c1, .slice A2 n2 c2, .int .i64 sm] 68)).alloc (.cells #[.int .i64 0, .slice none 0 0, .slice none 0 0, .int .i64 0] 72)) (.cells #[.int .i64 lv, .slice none 0 0, .slice none 0 0, .int .i64 0] 72))
  have b3 : Bl (((w.alloc (.cells #[.int .i64 lv, .slice A1 n1 c1, .slice A2 n2 c2, .int .i64 sm] 68)).alloc (.cells #[.int .i64 0, .slice none 0 0, .slice none 0 0, .int .i64 0] 72)).alloc (.cells #[.int .i64 lv, .slice none 0 0, .slice none 0 0, .int .i64 0] 72)) (w.heap.size + 1 + 1) [.int .i64 lv, .slice none 0 0, .slice none 0 0, .int .i64 0] := Bl.new' (by simp) (by simp)
  have ca1_0 : (((w.alloc (.cells #[.int .i64 lv, .slice A1 n1 c1, .slice A2 n2 c2, .int .i64 sm] 68)).alloc (.cells #[.int .i64 0, .slice none 0 0, .slice none 0 0, .int .i64 0] 72)).alloc (.cells #[.int .i64 lv, .slice none 0 0, .slice none 0 0, .int .i64 0] 72)).cell? ⟨w.heap.size, 0, none⟩ = some (.int .i64 lv) := (b1.2 0 _ rfl).1
  have fa1_0 : (((w.alloc (.cells #[.int .i64 lv, .slice A1 n1 c1, .slice A2 n2 c2, .int .i64 sm] 68)).alloc (.cells #[.int .i64 0, .slice none 0 0, .slice none 0 0, .int .i64 0] 72)).alloc (.cells #[.int .i64 lv, .slice none 0 0, .slice none 0 0, .int .i64 0] 72)).frozen? ⟨w.heap.size, 0, none⟩ = false := (b1.2 0 _ rfl).2
  have ca1_1 : (((w.alloc (.cells #[.int .i64 lv, .slice A1 n1 c1, .slice A2 n2 c2, .int .i64 sm] 68)).alloc (.cells #[.int .i64 0, .slice none 0 0, .slice none 0 0, .int .i64 0] 72)).alloc (.cells #[.int .i64 lv, .slice none 0 0, .slice none 0 0, .int .i64 0] 72)).cell? ⟨w.heap.size, 1, none⟩ = some (.slice A1 n1 c1) := (b1.2 1 _ rfl).1
  have fa1_1 : (((w.alloc (.cells #[.int .i64 lv, .slice A1 n1 c1, .slice A2 n2 c2, .int .i64 sm] 68)).alloc (.cells #[.int .i64 0, .slice none 0 0, .slice none 0 0, .int .i64 0] 72)).alloc (.cells #[.int .i64 lv, .slice none 0 0, .slice none 0 0, .int .i64 0] 72)).frozen? ⟨w.heap.size, 1, none⟩ = false := (b1.2 1 _ rfl).2
  have ca1_2 : (((w.alloc (.cells #[.int .i64 lv, .slice A1 n1 c1, .slice A2 n2 c2, .int .i64 sm] 68)).alloc (.cells #[.int .i64 0, .slice none 0 0, .slice none 0 0, .int .i64 0] 72)).alloc (.cells #[.int .i64 lv, .slice none 0 0, .slice none 0 0, .int .i64 0] 72)).cell? ⟨w.heap.size, 2, none⟩ = some (.slice A2 n2 c2) := (b1.2 2 _ rfl).1
  have fa1_2 : (((w.alloc (.cells #[.int .i64 lv, .slice A1 n1 c1, .slice A2 n2 c2, .int .i64 sm] 68)).alloc (.cells #[.int .i64 0, .slice none 0 0, .slice none 0 0, .int .i64 0] 72)).alloc (.cells #[.int .i64 lv, .slice none 0 0, .slice none 0 0, .int .i64 0] 72)).frozen? ⟨w.heap.size, 2, none⟩ = false := (b1.2 2 _ rfl).2
  have ca1_3 : (((w.alloc (.cells #[.int .i64 lv, .slice A1 n1 c1, .slice A2 n2 c2, .int .i64 sm] 68)).alloc (.cells #[.int .i64 0, .slice none 0 0, .slice none 0 0, .int .i64 0] 72)).alloc (.cells #[.int .i64 lv, .slice none 0 0, .slice none 0 0, .int .i64 0] 72)).cell? ⟨w.heap.size, 3, none⟩ = some (.int .i64 sm) := (b1.2 3 _ rfl).1
  have fa1_3 : (((w.alloc (.cells #[.int .i64 lv, .slice A1 n1 c1, .slice A2 n2 c2, .int .i64 sm] 68)).alloc (.cells #[.int .i64 0, .slice none 0 0, .slice none 0 0, .int .i64 0] 72)).alloc (.cells #[.int .i64 lv, .slice none 0 0, .slice none 0 0, .int .i64 0] 72)).frozen? ⟨w.heap.size, 3, none⟩ = false := (b1.2 3 _ rfl).2
  have ca2_0 : (((w.alloc (.cells #[.int .i64 lv, .slice A1 n1 c1, .slice A2 n2 c2, .int .i64 sm] 68)).alloc (.cells #[.int .i64 0, .slice none 0 0, .slice none 0 0, .int .i64 0] 72)).alloc (.cells #[.int .i64 lv, .slice none 0 0, .slice none 0 0, .int .i64 0] 72)).cell? ⟨w.heap.size + 1 + 1, 0, none⟩ = some (.int .i64 lv) := (b3.2 0 _ rfl).1
  have fa2_0 : (((w.alloc (.cells #[.int .i64 lv, .slice A1 n1 c1, .slice A2 n2 c2, .int .i64 sm] 68)).alloc (.cells #[.int .i64 0, .slice none 0 0, .slice none 0 0, .int .i64 0] 72)).alloc (.cells #[.int .i64 lv, .slice none 0 0, .slice none 0 0, .int .i64 0] 72)).frozen? ⟨w.heap.size + 1 + 1, 0, none⟩ = false := (b3.2 0 _ rfl).2
  have ca2_1 : (((w.alloc (.cells #[.int .i64 lv, .slice A1 n1 c1, .slice A2 n2 c2, .int .i64 sm] 68)).alloc (.cells #[.int .i64 0, .slice none 0 0, .slice none 0 0, .int .i64 0] 72)).alloc (.cells #[.int .i64 lv, .slice none 0 0, .slice none 0 0, .int .i64 0] 72)).cell? ⟨w.heap.size + 1 + 1, 1, none⟩ = some (.slice none 0 0) := (b3.2 1 _ rfl).1
  have fa2_1 : (((w.alloc (.cells #[.int .i64 lv, .slice A1 n1 c1, .slice A2 n2 c2, .int .i64 sm] 68)).alloc (.cells #[.int .i64 0, .slice none 0 0, .slice none 0 0, .int .i64 0] 72)).alloc (.cells #[.int .i64 lv, .slice none 0 0, .slice none 0 0, .int .i64 0] 72)).frozen? ⟨w.heap.size + 1 + 1, 1, none⟩ = false := (b3.2 1 _ rfl).2
  have ca2_2 : (((w.alloc (.cells #[.int .i64 lv, .slice A1 n1 c1, .slice A2 n2 c2, .int .i64 sm] 68)).alloc (.cells #[.int .i64 0, .slice none 0 0, .slice none 0 0, .int .i64 0] 72)).alloc (.cells #[.int .i64 lv, .slice none 0 0, .slice none 0 0, .int .i64 0] 72)).cell? ⟨w.heap.size + 1 + 1, 2, none⟩ = some (.slice none 0 0) := (b3.2 2 _ rfl).1
  have fa2_2 : (((w.alloc (.cells #[.int .i64 lv, .slice A1 n1 c1, .slice A2 n2 c2, .int .i64 sm] 68)).alloc (.cells #[.int .i64 0, .slice none 0 0, .slice none 0 0, .int .i64 0] 72)).alloc (.cells #[.int .i64 lv, .slice none 0 0, .slice none 0 0, .int .i64 0] 72)).frozen? ⟨w.heap.size + 1 + 1, 2, none⟩ = false := (b3.2 2 _ rfl).2
  have ca2_3 : (((w.alloc (.cells #[.int .i64 lv, .slice A1 n1 c1, .slice A2 n2 c2, .int .i64 sm] 68)).alloc (.cells #[.int .i64 0, .slice none 0 0, .slice none 0 0, .int .i64 0] 72)).alloc (.cells #[.int .i64 lv, .slice none 0 0, .slice none 0 0, .int .i64 0] 72)).cell? ⟨w.heap.size + 1 + 1, 3, none⟩ = some (.int .i64 0) := (b3.2 3 _ rfl).1
  have fa2_3 : (((w.alloc (.cells #[.int .i64 lv, .slice A1 n1 c1, .slice A2 n2 c2, .int .i64 sm] 68)).alloc (.cells #[.int .i64 0, .slice none 0 0, .slice none 0 0, .int .i64 0] 72)).alloc (.cells #[.int .i64 lv, .slice none 0 0, .slice none 0 0, .int .i64 0] 72)).frozen? ⟨w.heap.size + 1 + 1, 3, none⟩ = false := (b3.2 3 _ rfl).2
  go_wp2_with fail
  clear ca1_0 fa1_0 ca1_1 fa1_1 ca1_2 fa1_2 ca1_3 fa1_3 ca2_0 fa2_0 ca2_1 fa2_1 ca2_2 fa2_2 ca2_3 fa2_3
  refine (toIntS_any (h1.keeps kw)).mono ?_
  rintro e w3 ⟨B1_, rfl, m1, k3⟩
  replace b1 := b1.keeps k3
  replace b2 := b2.keeps k3
  replace b3 := b3.keeps k3
  replace kw := Keeps.trans kw k3
  have lt4 := b3.lt
  have sz5 := kw.size
  clear k3
  replace m1 := m1.widen (lo' := w.heap.size + 1 + 1 + 1) (by simp) (Nat.le_refl _) (Nat.le_refl _)
  have no1 := m1.1.nilOk
  have ca6_0 : w3.cell? ⟨w.heap.size, 0, none⟩ = some (.int .i64 lv) := (b1.2 0 _ rfl).1
  have fa6_0 : w3.frozen? ⟨w.heap.size, 0, none⟩ = false := (b1.2 0 _ rfl).2
  have ca6_1 : w3.cell? ⟨w.heap.size, 1, none⟩ = some (.slice A1 n1 c1) := (b1.2 1 _ rfl).1
  have fa6_1 : w3.frozen? ⟨w.heap.size, 1, none⟩ = false := (b1.2 1 _ rfl).2
  have ca6_2 : w3.cell? ⟨w.heap.size, 2, none⟩ = some (.slice A2 n2 c2) := (b1.2 2 _ rfl).1
  have fa6_2 : w3.frozen? ⟨w.heap.size, 2, none⟩ = false := (b1.2 2 _ rfl).2
  have ca6_3 : w3.cell? ⟨w.heap.size, 3, none⟩ = some (.int .i64 sm) := (b1.2 3 _ rfl).1
  have fa6_3 : w3.frozen? ⟨w.heap.size, 3, none⟩ = false := (b1.2 3 _ rfl).2
  have ca7_0 : w3.cell? ⟨w.heap.size + 1 + 1, 0, none⟩ = some (.int .i64 lv) := (b3.2 0 _ rfl).1
  have fa7_0 : w3.frozen? ⟨w.heap.size + 1 + 1, 0, none⟩ = false := (b3.2 0 _ rfl).2
  have ca7_1 : w3.cell? ⟨w.heap.size + 1 + 1, 1, none⟩ = some (.slice none 0 0) := (b3.2 1 _ rfl).1
  have fa7_1 : w3.frozen? ⟨w.heap.size + 1 + 1, 1, none⟩ = false := (b3.2 1 _ rfl).2
  have ca7_2 : w3.cell? ⟨w.heap.size + 1 + 1, 2, none⟩ = some (.slice none 0 0) := (b3.2 2 _ rfl).1
  have fa7_2 : w3.frozen? ⟨w.heap.size + 1 + 1, 2, none⟩ = false := (b3.2 2 _ rfl).2
  have ca7_3 : w3.cell? ⟨w.heap.size + 1 + 1, 3, none⟩ = some (.int .i64 0) := (b3.2 3 _ rfl).1
  have fa7_3 : w3.frozen? ⟨w.heap.size + 1 + 1, 3, none⟩ = false := (b3.2 3 _ rfl).2
  replace b1 := b1.far (p := ⟨w.heap.size + 1 + 1, 1, none⟩) (by show _ ≠ (w.heap.size + 1 + 1); omega) (.slice B1_ n1 n1)
  replace b2 := b2.far (p := ⟨w.heap.size + 1 + 1, 1, none⟩) (by show _ ≠ (w.heap.size + 1 + 1); omega) (.slice B1_ n1 n1)
  replace m1 := m1.fr (fr_one (p := (w.heap.size + 1 + 1)) (i := 1) (.slice B1_ n1 n1)) (by omega)
  replace kw := Below.setCell kw (p := ⟨w.heap.size + 1 + 1, 1, none⟩) (by show _ ≤ (w.heap.size + 1 + 1); omega) (.slice B1_ n1 n1)
  replace b3 : Bl (w3.setCell ⟨w.heap.size + 1 + 1, 1, none⟩ (.slice B1_ n1 n1)) (w.heap.size + 1 + 1) [.int .i64 lv, .slice B1_ n1 n1, .slice none 0 0, .int .i64 0] := b3.set 1 (.slice B1_ n1 n1)
  have ca8_0 : (w3.setCell ⟨w.heap.size + 1 + 1, 1, none⟩ (.slice B1_ n1 n1)).cell? ⟨w.heap.size, 0, none⟩ = some (.int .i64 lv) := (b1.2 0 _ rfl).1
  have fa8_0 : (w3.setCell ⟨w.heap.size + 1 + 1, 1, none⟩ (.slice B1_ n1 n1)).frozen? ⟨w.heap.size, 0, none⟩ = false := (b1.2 0 _ rfl).2
  have ca8_1 : (w3.setCell ⟨w.heap.size + 1 + 1, 1, none⟩ (.slice B1_ n1 n1)).cell? ⟨w.heap.size, 1, none⟩ = some (.slice A1 n1 c1) := (b1.2 1 _ rfl).1
  have fa8_1 : (w3.setCell ⟨w.heap.size + 1 + 1, 1, none⟩ (.slice B1_ n1 n1)).frozen? ⟨w.heap.size, 1, none⟩ = false := (b1.2 1 _ rfl).2
  have ca8_2 : (w3.setCell ⟨w.heap.size + 1 + 1, 1, none⟩ (.slice B1_ n1 n1)).cell? ⟨w.heap.size, 2, none⟩ = some (.slice A2 n2 c2) := (b1.2 2 _ rfl).1
  have fa8_2 : (w3.setCell ⟨w.heap.size + 1 + 1, 1, none⟩ (.slice B1_ n1 n1)).frozen? ⟨w.heap.size, 2, none⟩ = false := (b1.2 2 _ rfl).2
  have ca8_3 : (w3.setCell ⟨w.heap.size + 1 + 1, 1, none⟩ (.slice B1_ n1 n1)).cell? ⟨w.heap.size, 3, none⟩ = some (.int .i64 sm) := (b1.2 3 _ rfl).1
  have fa8_3 : (w3.setCell ⟨w.heap.size + 1 + 1, 1, none⟩ (.slice B1_ n1 n1)).frozen? ⟨w.heap.size, 3, none⟩ = false := (b1.2 3 _ rfl).2
  go_wp2_with fail
  clear ca6_0 fa6_0 ca6_1 fa6_1 ca6_2 fa6_2 ca6_3 fa6_3 ca7_0 fa7_0 ca7_1 fa7_1 ca7_2 fa7_2 ca7_3 fa7_3 ca8_0 fa8_0 ca8_1 fa8_1 ca8_2 fa8_2 ca8_3 fa8_3
  refine (toIntS_any (h2.keeps kw)).mono ?_
  rintro e w9 ⟨B2_, rfl, m2, k9⟩
  replace b1 := b1.keeps k9
  replace b2 := b2.keeps k9
  replace b3 := b3.keeps k9
  replace m1 := m1.keeps k9
  replace kw := Keeps.trans kw k9
  have lt10 := b3.lt
  have sz11 := kw.size
  clear k9
  replace m2 := m2.widen (lo' := w3.heap.size) (by simp [World.setCell]) (Nat.le_refl _) (Nat.le_refl _)
  have no2 := m2.1.nilOk
  have ca12_0 : w9.cell? ⟨w.heap.size, 0, none⟩ = some (.int .i64 lv) := (b1.2 0 _ rfl).1
  have fa12_0 : w9.frozen? ⟨w.heap.size, 0, none⟩ = false := (b1.2 0 _ rfl).2
  have ca12_1 : w9.cell? ⟨w.heap.size, 1, none⟩ = some (.slice A1 n1 c1) := (b1.2 1 _ rfl).1
  have fa12_1 : w9.frozen? ⟨w.heap.size, 1, none⟩ = false := (b1.2 1 _ rfl).2
  have ca12_2 : w9.cell? ⟨w.heap.size, 2, none⟩ = some (.slice A2 n2 c2) := (b1.2 2 _ rfl).1
  have fa12_2 : w9.frozen? ⟨w.heap.size, 2, none⟩ = false := (b1.2 2 _ rfl).2
  have ca12_3 : w9.cell? ⟨w.heap.size, 3, none⟩ = some (.int .i64 sm) := (b1.2 3 _ rfl).1
  have fa12_3 : w9.frozen? ⟨w.heap.size, 3, none⟩ = false := (b1.2 3 _ rfl).2
  have ca13_0 : w9.cell? ⟨w.heap.size + 1 + 1, 0, none⟩ = some (.int .i64 lv) := (b3.2 0 _ rfl).1
  have fa13_0 : w9.frozen? ⟨w.heap.size + 1 + 1, 0, none⟩ = false := (b3.2 0 _ rfl).2
  have ca13_1 : w9.cell? ⟨w.heap.size + 1 + 1, 1, none⟩ = some (.slice B1_ n1 n1) := (b3.2 1 _ rfl).1
  have fa13_1 : w9.frozen? ⟨w.heap.size + 1 + 1, 1, none⟩ = false := (b3.2 1 _ rfl).2
  have ca13_2 : w9.cell? ⟨w.heap.size + 1 + 1, 2, none⟩ = some (.slice none 0 0) := (b3.2 2 _ rfl).1
  have fa13_2 : w9.frozen? ⟨w.heap.size + 1 + 1, 2, none⟩ = false := (b3.2 2 _ rfl).2
  have ca13_3 : w9.cell? ⟨w.heap.size + 1 + 1, 3, none⟩ = some (.int .i64 0) := (b3.2 3 _ rfl).1
  have fa13_3 : w9.frozen? ⟨w.heap.size + 1 + 1, 3, none⟩ = false := (b3.2 3 _ rfl).2
  replace b1 := b1.far (p := ⟨w.heap.size + 1 + 1, 2, none⟩) (by show _ ≠ (w.heap.size + 1 + 1); omega) (.slice B2_ n2 n2)
  replace b2 := b2.far (p := ⟨w.heap.size + 1 + 1, 2, none⟩) (by show _ ≠ (w.heap.size + 1 + 1); omega) (.slice B2_ n2 n2)
  replace m1 := m1.fr (fr_one (p := (w.heap.size + 1 + 1)) (i := 2) (.slice B2_ n2 n2)) (by omega)
  replace m2 := m2.fr (fr_one (p := (w.heap.size + 1 + 1)) (i := 2) (.slice B2_ n2 n2)) (by omega)
  replace kw := Below.setCell kw (p := ⟨w.heap.size + 1 + 1, 2, none⟩) (by show _ ≤ (w.heap.size + 1 + 1); omega) (.slice B2_ n2 n2)
  replace b3 : Bl (w9.setCell ⟨w.heap.size + 1 + 1, 2, none⟩ (.slice B2_ n2 n2)) (w.heap.size + 1 + 1) [.int .i64 lv, .slice B1_ n1 n1, .slice B2_ n2 n2, .int .i64 0] := b3.set 2 (.slice B2_ n2 n2)
  replace b1 := b1.far (p := ⟨w.heap.size + 1 + 1, 3, none⟩) (by show _ ≠ (w.heap.size + 1 + 1); omega) (.int .i64 sm)
  replace b2 := b2.far (p := ⟨w.heap.size + 1 + 1, 3, none⟩) (by show _ ≠ (w.heap.size + 1 + 1); omega) (.int .i64 sm)
  replace m1 := m1.fr (fr_one (p := (w.heap.size + 1 + 1)) (i := 3) (.int .i64 sm)) (by omega)
  replace m2 := m2.fr (fr_one (p := (w.heap.size + 1 + 1)) (i := 3) (.int .i64 sm)) (by omega)
  replace kw := Below.setCell kw (p := ⟨w.heap.size + 1 + 1, 3, none⟩) (by show _ ≤ (w.heap.size + 1 + 1); omega) (.int .i64 sm)
  replace b3 : Bl ((w9.setCell ⟨w.heap.size + 1 + 1, 2, none⟩ (.slice B2_ n2 n2)).setCell ⟨w.heap.size + 1 + 1, 3, none⟩ (.int .i64 sm)) (w.heap.size + 1 + 1) [.int .i64 lv, .slice B1_ n1 n1, .slice B2_ n2 n2, .int .i64 sm] := b3.set 3 (.int .i64 sm)
  have ca14_0 : ((w9.setCell ⟨w.heap.size + 1 + 1, 2, none⟩ (.slice B2_ n2 n2)).setCell ⟨w.heap.size + 1 + 1, 3, none⟩ (.int .i64 sm)).cell? ⟨w.heap.size + 1 + 1, 0, none⟩ = some (.int .i64 lv) := (b3.2 0 _ rfl).1
  have fa14_0 : ((w9.setCell ⟨w.heap.size + 1 + 1, 2, none⟩ (.slice B2_ n2 n2)).setCell ⟨w.heap.size + 1 + 1, 3, none⟩ (.int .i64 sm)).frozen? ⟨w.heap.size + 1 + 1, 0, none⟩ = false := (b3.2 0 _ rfl).2
  have ca14_1 : ((w9.setCell ⟨w.heap.size + 1 + 1, 2, none⟩ (.slice B2_ n2 n2)).setCell ⟨w.heap.size + 1 + 1, 3, none⟩ (.int .i64 sm)).cell? ⟨w.heap.size + 1 + 1, 1, none⟩ = some (.slice B1_ n1 n1) := (b3.2 1 _ rfl).1
  have fa14_1 : ((w9.setCell ⟨w.heap.size + 1 + 1, 2, none⟩ (.slice B2_ n2 n2)).setCell ⟨w.heap.size + 1 + 1, 3, none⟩ (.int .i64 sm)).frozen? ⟨w.heap.size + 1 + 1, 1, none⟩ = false := (b3.2 1 _ rfl).2
  have ca14_2 : ((w9.setCell ⟨w.heap.size + 1 + 1, 2, none⟩ (.slice B2_ n2 n2)).setCell ⟨w.heap.size + 1 + 1, 3, none⟩ (.int .i64 sm)).cell? ⟨w.heap.size + 1 + 1, 2, none⟩ = some (.slice B2_ n2 n2) := (b3.2 2 _ rfl).1
  have fa14_2 : ((w9.setCell ⟨w.heap.size + 1 + 1, 2, none⟩ (.slice B2_ n2 n2)).setCell ⟨w.heap.size + 1 + 1, 3, none⟩ (.int .i64 sm)).frozen? ⟨w.heap.size + 1 + 1, 2, none⟩ = false := (b3.2 2 _ rfl).2
  have ca14_3 : ((w9.setCell ⟨w.heap.size + 1 + 1, 2, none⟩ (.slice B2_ n2 n2)).setCell ⟨w.heap.size + 1 + 1, 3, none⟩ (.int .i64 sm)).cell? ⟨w.heap.size + 1 + 1, 3, none⟩ = some (.int .i64 sm) := (b3.2 3 _ rfl).1
  have fa14_3 : ((w9.setCell ⟨w.heap.size + 1 + 1, 2, none⟩ (.slice B2_ n2 n2)).setCell ⟨w.heap.size + 1 + 1, 3, none⟩ (.int .i64 sm)).frozen? ⟨w.heap.size + 1 + 1, 3, none⟩ = false := (b3.2 3 _ rfl).2
  have ca15_0 : ((w9.setCell ⟨w.heap.size + 1 + 1, 2, none⟩ (.slice B2_ n2 n2)).setCell ⟨w.heap.size + 1 + 1, 3, none⟩ (.int .i64 sm)).cell? ⟨w.heap.size + 1, 0, none⟩ = some (.int .i64 0) := (b2.2 0 _ rfl).1
  have fa15_0 : ((w9.setCell ⟨w.heap.size + 1 + 1, 2, none⟩ (.slice B2_ n2 n2)).setCell ⟨w.heap.size + 1 + 1, 3, none⟩ (.int .i64 sm)).frozen? ⟨w.heap.size + 1, 0, none⟩ = false := (b2.2 0 _ rfl).2
  have ca15_1 : ((w9.setCell ⟨w.heap.size + 1 + 1, 2, none⟩ (.slice B2_ n2 n2)).setCell ⟨w.heap.size + 1 + 1, 3, none⟩ (.int .i64 sm)).cell? ⟨w.heap.size + 1, 1, none⟩ = some (.slice none 0 0) := (b2.2 1 _ rfl).1
  have fa15_1 : ((w9.setCell ⟨w.heap.size + 1 + 1, 2, none⟩ (.slice B2_ n2 n2)).setCell ⟨w.heap.size + 1 + 1, 3, none⟩ (.int .i64 sm)).frozen? ⟨w.heap.size + 1, 1, none⟩ = false := (b2.2 1 _ rfl).2
  have ca15_2 : ((w9.setCell ⟨w.heap.size + 1 + 1, 2, none⟩ (.slice B2_ n2 n2)).setCell ⟨w.heap.size + 1 + 1, 3, none⟩ (.int .i64 sm)).cell? ⟨w.heap.size + 1, 2, none⟩ = some (.slice none 0 0) := (b2.2 2 _ rfl).1
  have fa15_2 : ((w9.setCell ⟨w.heap.size + 1 + 1, 2, none⟩ (.slice B2_ n2 n2)).setCell ⟨w.heap.size + 1 + 1, 3, none⟩ (.int .i64 sm)).frozen? ⟨w.heap.size + 1, 2, none⟩ = false := (b2.2 2 _ rfl).2
  have ca15_3 : ((w9.setCell ⟨w.heap.size + 1 + 1, 2, none⟩ (.slice B2_ n2 n2)).setCell ⟨w.heap.size + 1 + 1, 3, none⟩ (.int .i64 sm)).cell? ⟨w.heap.size + 1, 3, none⟩ = some (.int .i64 0) := (b2.2 3 _ rfl).1
  have fa15_3 : ((w9.setCell ⟨w.heap.size + 1 + 1, 2, none⟩ (.slice B2_ n2 n2)).setCell ⟨w.heap.size + 1 + 1, 3, none⟩ (.int .i64 sm)).frozen? ⟨w.heap.size + 1, 3, none⟩ = false := (b2.2 3 _ rfl).2
  replace b1 := b1.far (p := ⟨w.heap.size + 1, 0, none⟩) (by show _ ≠ (w.heap.size + 1); omega) (.int .i64 lv)
  replace b3 := b3.far (p := ⟨w.heap.size + 1, 0, none⟩) (by show _ ≠ (w.heap.size + 1); omega) (.int .i64 lv)
  replace m1 := m1.fr (fr_one (p := (w.heap.size + 1)) (i := 0) (.int .i64 lv)) (by omega)
  replace m2 := m2.fr (fr_one (p := (w.heap.size + 1)) (i := 0) (.int .i64 lv)) (by omega)
  replace kw := Below.setCell kw (p := ⟨w.heap.size + 1, 0, none⟩) (by show _ ≤ (w.heap.size + 1); omega) (.int .i64 lv)
  replace b2 : Bl (((w9.setCell ⟨w.heap.size + 1 + 1, 2, none⟩ (.slice B2_ n2 n2)).setCell ⟨w.heap.size + 1 + 1, 3, none⟩ (.int .i64 sm)).setCell ⟨w.heap.size + 1, 0, none⟩ (.int .i64 lv)) (w.heap.size + 1) [.int .i64 lv, .slice none 0 0, .slice none 0 0, .int .i64 0] := b2.set 0 (.int .i64 lv)
  replace b1 := b1.far (p := ⟨w.heap.size + 1, 1, none⟩) (by show _ ≠ (w.heap.size + 1); omega) (.slice B1_ n1 n1)
  replace b3 := b3.far (p := ⟨w.heap.size + 1, 1, none⟩) (by show _ ≠ (w.heap.size + 1); omega) (.slice B1_ n1 n1)
  replace m1 := m1.fr (fr_one (p := (w.heap.size + 1)) (i := 1) (.slice B1_ n1 n1)) (by omega)
  replace m2 := m2.fr (fr_one (p := (w.heap.size + 1)) (i := 1) (.slice B1_ n1 n1)) (by omega)
  replace kw := Below.setCell kw (p := ⟨w.heap.size + 1, 1, none⟩) (by show _ ≤ (w.heap.size + 1); omega) (.slice B1_ n1 n1)
  replace b2 : Bl ((((w9.setCell ⟨w.heap.size + 1 + 1, 2, none⟩ (.slice B2_ n2 n2)).setCell ⟨w.heap.size + 1 + 1, 3, none⟩ (.int .i64 sm)).setCell ⟨w.heap.size + 1, 0, none⟩ (.int .i64 lv)).setCell ⟨w.heap.size + 1, 1, none⟩ (.slice B1_ n1 n1)) (w.heap.size + 1) [.int .i64 lv, .slice B1_ n1 n1, .slice none 0 0, .int .i64 0] := b2.set 1 (.slice B1_ n1 n1)
  replace b1 := b1.far (p := ⟨w.heap.size + 1, 2, none⟩) (by show _ ≠ (w.heap.size + 1); omega) (.slice B2_ n2 n2)
  replace b3 := b3.far (p := ⟨w.heap.size + 1, 2, none⟩) (by show _ ≠ (w.heap.size + 1); omega) (.slice B2_ n2 n2)
  replace m1 := m1.fr (fr_one (p := (w.heap.size + 1)) (i := 2) (.slice B2_ n2 n2)) (by omega)
  replace m2 := m2.fr (fr_one (p := (w.heap.size + 1)) (i := 2) (.slice B2_ n2 n2)) (by omega)
  replace kw := Below.setCell kw (p := ⟨w.heap.size + 1, 2, none⟩) (by show _ ≤ (w.heap.size + 1); omega) (.slice B2_ n2 n2)
  replace b2 : Bl (((((w9.setCell ⟨w.heap.size + 1 + 1, 2, none⟩ (.slice B2_ n2 n2)).setCell ⟨w.heap.size + 1 + 1, 3, none⟩ (.int .i64 sm)).setCell ⟨w.heap.size + 1, 0, none⟩ (.int .i64 lv)).setCell ⟨w.heap.size + 1, 1, none⟩ (.slice B1_ n1 n1)).setCell ⟨w.heap.size + 1, 2, none⟩ (.slice B2_ n2 n2)) (w.heap.size + 1) [.int .i64 lv, .slice B1_ n1 n1, .slice B2_ n2 n2, .int .i64 0] := b2.set 2 (.slice B2_ n2 n2)
  replace b1 := b1.far (p := ⟨w.heap.size + 1, 3, none⟩) (by show _ ≠ (w.heap.size + 1); omega) (.int .i64 sm)
  replace b3 := b3.far (p := ⟨w.heap.size + 1, 3, none⟩) (by show _ ≠ (w.heap.size + 1); omega) (.int .i64 sm)
  replace m1 := m1.fr (fr_one (p := (w.heap.size + 1)) (i := 3) (.int .i64 sm)) (by omega)
  replace m2 := m2.fr (fr_one (p := (w.heap.size + 1)) (i := 3) (.int .i64 sm)) (by omega)
  replace kw := Below.setCell kw (p := ⟨w.heap.size + 1, 3, none⟩) (by show _ ≤ (w.heap.size + 1); omega) (.int .i64 sm)
  replace b2 : Bl ((((((w9.setCell ⟨w.heap.size + 1 + 1, 2, none⟩ (.slice B2_ n2 n2)).setCell ⟨w.heap.size + 1 + 1, 3, none⟩ (.int .i64 sm)).setCell ⟨w.heap.size + 1, 0, none⟩ (.int .i64 lv)).setCell ⟨w.heap.size + 1, 1, none⟩ (.slice B1_ n1 n1)).setCell ⟨w.heap.size + 1, 2, none⟩ (.slice B2_ n2 n2)).setCell ⟨w.heap.size + 1, 3, none⟩ (.int .i64 sm)) (w.heap.size + 1) [.int .i64 lv, .slice B1_ n1 n1, .slice B2_ n2 n2, .int .i64 sm] := b2.set 3 (.int .i64 sm)
  have es : ((((((w9.setCell ⟨w.heap.size + 1 + 1, 2, none⟩ (.slice B2_ n2 n2)).setCell ⟨w.heap.size + 1 + 1, 3, none⟩ (.int .i64 sm)).setCell ⟨w.heap.size + 1, 0, none⟩ (.int .i64 lv)).setCell ⟨w.heap.size + 1, 1, none⟩ (.slice B1_ n1 n1)).setCell ⟨w.heap.size + 1, 2, none⟩ (.slice B2_ n2 n2)).setCell ⟨w.heap.size + 1, 3, none⟩ (.int .i64 sm)).heap.size = w9.heap.size := by simp [World.setCell]
  have lb := m1.1.top
  have sz0 : w.heap.size + 1 + 1 + 1 ≤ w9.heap.size := by omega
  have sz1 : w3.heap.size ≤ w9.heap.size := by have := m2.1.top; omega
  have HT := hid (show TabM ((((((w9.setCell ⟨w.heap.size + 1 + 1, 2, none⟩ (.slice B2_ n2 n2)).setCell ⟨w.heap.size + 1 + 1, 3, none⟩ (.int .i64 sm)).setCell ⟨w.heap.size + 1, 0, none⟩ (.int .i64 lv)).setCell ⟨w.heap.size + 1, 1, none⟩ (.slice B1_ n1 n1)).setCell ⟨w.heap.size + 1, 2, none⟩ (.slice B2_ n2 n2)).setCell ⟨w.heap.size + 1, 3, none⟩ (.int .i64 sm)) w.heap.size ((((((w9.setCell ⟨w.heap.size + 1 + 1, 2, none⟩ (.slice B2_ n2 n2)).setCell ⟨w.heap.size + 1 + 1, 3, none⟩ (.int .i64 sm)).setCell ⟨w.heap.size + 1, 0, none⟩ (.int .i64 lv)).setCell ⟨w.heap.size + 1, 1, none⟩ (.slice B1_ n1 n1)).setCell ⟨w.heap.size + 1, 2, none⟩ (.slice B2_ n2 n2)).setCell ⟨w.heap.size + 1, 3, none⟩ (.int .i64 sm)).heap.size B1_ n1 xs B2_ n2 ys from ⟨Nat.le_refl _, _, _, _, _, by omega, by omega, by omega, by omega, by omega, m1, m2⟩)
  have HK := hid kw
  clear m1 m2 kw lb
  go_wp2_with fail
  clear ca12_0 fa12_0 ca12_1 fa12_1 ca12_2 fa12_2 ca12_3 fa12_3 ca13_0 fa13_0 ca13_1 fa13_1 ca13_2 fa13_2 ca13_3 fa13_3 ca14_0 fa14_0 ca14_1 fa14_1 ca14_2 fa14_2 ca14_3 fa14_3 ca15_0 fa15_0 ca15_1 fa15_1 ca15_2 fa15_2 ca15_3 fa15_3
  have ca0_0 : ((((((w9.setCell ⟨w.heap.size + 1 + 1, 2, none⟩ (.slice B2_ n2 n2)).setCell ⟨w.heap.size + 1 + 1, 3, none⟩ (.int .i64 sm)).setCell ⟨w.heap.size + 1, 0, none⟩ (.int .i64 lv)).setCell ⟨w.heap.size + 1, 1, none⟩ (.slice B1_ n1 n1)).setCell ⟨w.heap.size + 1, 2, none⟩ (.slice B2_ n2 n2)).setCell ⟨w.heap.size + 1, 3, none⟩ (.int .i64 sm)).cell? ⟨w.heap.size + 1, 0, none⟩ = some (.int .i64 lv) := (b2.2 0 _ rfl).1
  have ca0_1 : ((((((w9.setCell ⟨w.heap.size + 1 + 1, 2, none⟩ (.slice B2_ n2 n2)).setCell ⟨w.heap.size + 1 + 1, 3, none⟩ (.int .i64 sm)).setCell ⟨w.heap.size + 1, 0, none⟩ (.int .i64 lv)).setCell ⟨w.heap.size + 1, 1, none⟩ (.slice B1_ n1 n1)).setCell ⟨w.heap.size + 1, 2, none⟩ (.slice B2_ n2 n2)).setCell ⟨w.heap.size + 1, 3, none⟩ (.int .i64 sm)).cell? ⟨w.heap.size + 1, 1, none⟩ = some (.slice B1_ n1 n1) := (b2.2 1 _ rfl).1
  have ca0_2 : ((((((w9.setCell ⟨w.heap.size + 1 + 1, 2, none⟩ (.slice B2_ n2 n2)).setCell ⟨w.heap.size + 1 + 1, 3, none⟩ (.int .i64 sm)).setCell ⟨w.heap.size + 1, 0, none⟩ (.int .i64 lv)).setCell ⟨w.heap.size + 1, 1, none⟩ (.slice B1_ n1 n1)).setCell ⟨w.heap.size + 1, 2, none⟩ (.slice B2_ n2 n2)).setCell ⟨w.heap.size + 1, 3, none⟩ (.int .i64 sm)).cell? ⟨w.heap.size + 1, 2, none⟩ = some (.slice B2_ n2 n2) := (b2.2 2 _ rfl).1
  have ca0_3 : ((((((w9.setCell ⟨w.heap.size + 1 + 1, 2, none⟩ (.slice B2_ n2 n2)).setCell ⟨w.heap.size + 1 + 1, 3, none⟩ (.int .i64 sm)).setCell ⟨w.heap.size + 1, 0, none⟩ (.int .i64 lv)).setCell ⟨w.heap.size + 1, 1, none⟩ (.slice B1_ n1 n1)).setCell ⟨w.heap.size + 1, 2, none⟩ (.slice B2_ n2 n2)).setCell ⟨w.heap.size + 1, 3, none⟩ (.int .i64 sm)).cell? ⟨w.heap.size + 1, 3, none⟩ = some (.int .i64 sm) := (b2.2 3 _ rfl).1
  try simp only [Exit.inBlock, Exit.then]
  exact bodyPost_ret (v := .agg #[.int .i64 lv, .slice B1_ n1 n1, .slice B2_ n2 n2, .int .i64 sm]) (by simp [results, Try.results136, go_sem, ca0_0, ca0_1, ca0_2, ca0_3]) rfl ⟨_, _, _, _, rfl, HT.out, no1, no2, HK.out⟩
set_option maxRecDepth 100000 in
set_option maxHeartbeats 1600000 in
theorem toPublished_any {A1 A2 A3 : Option Addr} {n1 n2 n3 c1 c2 c3 : Nat} {lv sm : Int} {w : World} {l1 u1 l2 u2 : Nat} {xs ys : List Int} {l3 u3 : Nat} {zs : List Int} (h1 : Ints w l1 u1 A1 n1 xs) (h2 : Ints w l2 u2 A2 n2 ys) (h3 : Ints w l3 u3 A3 n3 zs) :
    Calls Try.prog 46 #[.agg #[.int .i64 lv, .slice A1 n1 c1, .slice A2 n2 c2, .int .i64 sm, .slice A3 n3 c3]] w (PubRes w lv sm n1 xs n2 ys n3 zs) := by
  go_enter Try.func46, Try.ntmps46
  have kw := keeps_refl w
  replace kw := Keeps.trans kw (keeps_alloc w (.cells #[.int .i64 lv, .slice A1 n1 c1, .slice A2 n2 c2, .int .i64 sm, .slice A3 n3 c3] 70))
  have b1 : Bl (w.alloc (.cells #[.int .i64 lv, .slice A1 n1 c1, .slice A2 n2 c2, .int .i64 sm, .slice A3 n3 c3] 70)) w.heap.size [.int .i64 lv, .slice A1 n1 c1, .slice A2 n2 c2, .int .i64 sm, .slice A3 n3 c3] := Bl.new' (by simp) (by simp)
  replace b1 := b1.keeps (keeps_alloc (w.alloc (.cells #[.int .i64 lv, .slice A1 n1 c1, .slice A2 n2 c2, .int .i64 sm, .slice A3 n3 c3] 70)) (.cells #[.int .i64 0, .slice none 0 0, .slice none 0 0, .int .i64 0, .slice none 0 0] 74))
  replace kw := Keeps.trans kw (keeps_alloc (w.alloc (.cells #[.int .i64 lv, .slice A1 n1 c1, .slice A2 n2 c2, .int .i64 sm, .slice A3 n3 c3] 70)) (.cells #[.int .i64 0, .slice none 0 0, .slice none 0 0, .int .i64 0, .slice none 0 0] 74))
  have b2 : Bl ((w.alloc (.cells #[.int .i64 lv, .slice A1 n1 c1, .slice A2 n2 c2, .int .i64 sm, .slice A3 n3 c3] 70)).alloc (.cells #[.int .i64 0, .slice none 0 0, .slice none 0 0, .int .i64 0, .slice none 0 0] 74)) (w.heap.size + 1) [.int .i64 0, .slice none 0 0, .slice none 0 0, .int .i64 0, .slice none 0 0] := Bl.new' (by simp) (by simp)
  replace b1 := b1.keeps (keeps_alloc ((w.alloc (.cells #[.int .i64 lv, .slice A1 n1 c1, .slice A2 n2 c2, .int .i64 sm, .slice A3 n3 c3] 70)).alloc (.cells #[.int .i64 0, .slice none 0 0, .slice none 0 0, .int .i64 0, .slice none 0 0] 74)) (.cells #[.int .i64 0, .slice none 0 0, .slice none 0 0, .int .i64 0, .slice none 0 0] 74))
  replace b2 := b2.keeps (keeps_alloc ((w.alloc (.cells #[.int .i64 lv, .slice A1 n1 c1, .slice A2 n2 c2, .int .i64 sm, .slice A3 n3 c3] 70)).alloc (.cells #[.int .i64 0, .slice none 0 0, .slice none 0 0, .int .i64 0, .slice none 0 0] 74)) (.cells #[.int .i64 0, .slice none 0 0, .slice none 0 0, .int .i64 0, .slice none 0 0] 74))
  replace kw := Keeps.trans kw (keeps_alloc ((w.alloc (.cells #[.int .i64 lv, .slice A1 n1 c1, .slice A2 n2 c2, .int .i64 sm, .slice A3 n3 c3] 70)).alloc (.cells #[.int .i64 0, .slice none 0 0, .slice none 0 0, .int .i64 0, .slice none 0 0] 74)) (.cells #[.int .i64 0, .slice none 0 0, .slice none 0 0, .int .i64 0, .slice none 0 0] 74))
  have b3 : Bl (((w.alloc (.cells #[.int .i64 lv, .slice A1 n1 c1, .slice A2 n2 c2, .int .i64 sm, .slice A3 n3 c3] 70)).alloc (.cells #[.int .i64 0, .slice none 0 0, .slice none 0 0, .int .i64 0, .slice none 0 0] 74)).alloc (.cells #[.int .i64 0, .slice none 0 0, .slice none 0 0, .int .i64 0, .slice none 0 0] 74)) (w.heap.size + 1 + 1) [.int .i64 0, .slice none 0 0, .slice none 0 0, .int .i64 0, .slice none 0 0] := Bl.new' (by simp) (by simp)
  have ca1_0 : (((w.alloc (.cells #[.int .i64 lv, .slice A1 n1 c1, .slice A2 n2 c2, .int .i64 sm, .slice A3 n3 c3] 70)).alloc (.cells #[.int .i64 0, .slice none 0 0, .slice none 0 0, .int .i64 0, .slice none 0 0] 74)).alloc (.cells #[.int .i64 0, .slice none 0 0, .slice none 0 0, .int .i64 0, .slice none 0 0] 74)).cell? ⟨w.heap.size, 0, none⟩ = some (.int .i64 lv) := (b1.2 0 _ rfl).1
  have fa1_0 : (((w.alloc (.cells #[.int .i64 lv, .slice A1 n1 c1, .slice A2 n2 c2, .int .i64 sm, .slice A3 n3 c3] 70)).alloc (.cells #[.int .i64 0, .slice none 0 0, .slice none 0 0, .int .i64 0, .slice none 0 0] 74)).alloc (.cells #[.int .i64 0, .slice none 0 0, .slice none 0 0, .int .i64 0, .slice none 0 0] 74)).frozen? ⟨w.heap.size, 0, none⟩ = false := (b1.2 0 _ rfl).2
  have ca1_1 : (((w.alloc (.cells #[.int .i64 lv, .slice A1 n1 c1, .slice A2 n2 c2, .int .i64 sm, .slice A3 n3 c3] 70)).alloc (.cells #[.int .i64 0, .slice none 0 0, .slice none 0 0, .int .i64 0, .slice none 0 0] 74)).alloc (.cells #[.int .i64 0, .slice none 0 0, .slice none 0 0, .int .i64 0, .slice none 0 0] 74)).cell? ⟨w.heap.size, 1, none⟩ = some (.slice A1 n1 c1) := (b1.2 1 _ rfl).1
  have fa1_1 : (((w.alloc (.cells #[.int .i64 lv, .slice A1 n1 c1, .slice A2 n2 c2, .int .i64 sm, .slice A3 n3 c3] 70)).alloc (.cells #[.int .i64 0, .slice none 0 0, .slice none 0 0, .int .i64 0, .slice none 0 0] 74)).alloc (.cells #[.int .i64 0, .slice none 0 0, .slice none 0 0, .int .i64 0, .slice none 0 0] 74)).frozen? ⟨w.heap.size, 1, none⟩ = false := (b1.2 1 _ rfl).2
  have ca1_2 : (((w.alloc (.cells #[.int .i64 lv, .slice A1 n1 c1, .slice A2 n2 c2, .int .i64 sm, .slice A3 n3 c3] 70)).alloc (.cells #[.int .i64 0, .slice none 0 0, .slice none 0 0, .int .i64 0, .slice none 0 0] 74)).alloc (.cells #[.int .i64 0, .slice none 0 0, .slice none 0 0, .int .i64 0, .slice none 0 0] 74)).cell? ⟨w.heap.size, 2, none⟩ = some (.slice A2 n2 c2) := (b1.2 2 _ rfl).1
  have fa1_2 : (((w.alloc (.cells #[.int .i64 lv, .slice A1 n1 c1, .slice A2 n2 c2, .int .i64 sm, .slice A3 n3 c3] 70)).alloc (.cells #[.int .i64 0, .slice none 0 0, .slice none 0 0, .int .i64 0, .slice none 0 0] 74)).alloc (.cells #[.int .i64 0, .slice none 0 0, .slice none 0 0, .int .i64 0, .slice none 0 0] 74)).frozen? ⟨w.heap.size, 2, none⟩ = false := (b1.2 2 _ rfl).2
  have ca1_3 : (((w.alloc (.cells #[.int .i64 lv, .slice A1 n1 c1, .slice A2 n2 c2, .int .i64 sm, .slice A3 n3 c3] 70)).alloc (.cells #[.int .i64 0, .slice none 0 0, .slice none 0 0, .int .i64 0, .slice none 0 0] 74)).alloc (.cells #[.int .i64 0, .slice none 0 0, .slice none 0 0, .int .i64 0, .slice none 0 0] 74)).cell? ⟨w.heap.size, 3, none⟩ = some (.int .i64 sm) := (b1.2 3 _ rfl).1
  have fa1_3 : (((w.alloc (.cells #[.int .i64 lv, .slice A1 n1 c1, .slice A2 n2 c2, .int .i64 sm, .slice A3 n3 c3] 70)).alloc (.cells #[.int .i64 0, .slice none 0 0, .slice none 0 0, .int .i64 0, .slice none 0 0] 74)).alloc (.cells #[.int .i64 0, .slice none 0 0, .slice none 0 0, .int .i64 0, .slice none 0 0] 74)).frozen? ⟨w.heap.size, 3, none⟩ = false := (b1.2 3 _ rfl).2
  have ca1_4 : (((w.alloc (.cells #[.int .i64 lv, .slice A1 n1 c1, .slice A2 n2 c2, .int .i64 sm, .slice A3 n3 c3] 70)).alloc (.cells #[.int .i64 0, .slice none 0 0, .slice none 0 0, .int .i64 0, .slice none 0 0] 74)).alloc (.cells #[.int .i64 0, .slice none 0 0, .slice none 0 0, .int .i64 0, .slice none 0 0] 74)).cell? ⟨w.heap.size, 4, none⟩ = some (.slice A3 n3 c3) := (b1.2 4 _ rfl).1
  have fa1_4 : (((w.alloc (.cells #[.int .i64 lv, .slice A1 n1 c1, .slice A2 n2 c2, .int .i64 sm, .slice A3 n3 c3] 70)).alloc (.cells #[.int .i64 0, .slice none 0 0, .slice none 0 0, .int .i64 0, .slice none 0 0] 74)).alloc (.cells #[.int .i64 0, .slice none 0 0, .slice none 0 0, .int .i64 0, .slice none 0 0] 74)).frozen? ⟨w.heap.size, 4, none⟩ = false := (b1.2 4 _ rfl).2
  have ca2_0 : (((w.alloc (.cells #[.int .i64 lv, .slice A1 n1 c1, .slice A2 n2 c2, .int .i64 sm, .slice A3 n3 c3] 70)).alloc (.cells #[.int .i64 0, .slice none 0 0, .slice none 0 0, .int .i64 0, .slice none 0 0] 74)).alloc (.cells #[.int .i64 0, .slice none 0 0, .slice none 0 0, .int .i64 0, .slice none 0 0] 74)).cell? ⟨w.heap.size + 1 + 1, 0, none⟩ = some (.int .i64 0) := (b3.2 0 _ rfl).1
  have fa2_0 : (((w.alloc (.cells #[.int .i64 lv, .slice A1 n1 c1, .slice A2 n2 c2, .int .i64 sm, .slice A3 n3 c3] 70)).alloc (.cells #[.int .i64 0, .slice none 0 0, .slice none 0 0, .int .i64 0, .slice none 0 0] 74)).alloc (.cells #[.int .i64 0, .slice none 0 0, .slice none 0 0, .int .i64 0, .slice none 0 0] 74)).frozen? ⟨w.heap.size + 1 + 1, 0, none⟩ = false := (b3.2 0 _ rfl).2
  have ca2_1 : (((w.alloc (.cells #[.int .i64 lv, .slice A1 n1 c1, .slice A2 n2 c2, .int .i64 sm, .slice A3 n3 c3] 70)).alloc (.cells #[.int .i64 0, .slice none 0 0, .slice none 0 0, .int .i64 0, .slice none 0 0] 74)).alloc (.cells #[.int .i64 0, .slice none 0 0, .slice none 0 0, .int .i64 0, .slice none 0 0] 74)).cell? ⟨w.heap.size + 1 + 1, 1, none⟩ = some (.slice none 0 0) := (b3.2 1 _ rfl).1
  have fa2_1 : (((w.alloc (.cells #[.int .i64 lv, .slice A1 n1 c1, .slice A2 n2 c2, .int .i64 sm, .slice A3 n3 c3] 70)).alloc (.cells #[.int .i64 0, .slice none 0 0, .slice none 0 0, .int .i64 0, .slice none 0 0] 74)).alloc (.cells #[.int .i64 0, .slice none 0 0, .slice none 0 0, .int .i64 0, .slice none 0 0] 74)).frozen? ⟨w.heap.size + 1 + 1, 1, none⟩ = false := (b3.2 1 _ rfl).2
  have ca2_2 : (((w.alloc (.cells #[.int .i64 lv, .slice A1 n1 c1, .slice A2 n2 c2, .int .i64 sm, .slice A3 n3 c3] 70)).alloc (.cells #[.int .i64 0, .slice none 0 0, .slice none 0 0, .int .i64 0, .slice none 0 0] 74)).alloc (.cells #[.int .i64 0, .slice none 0 0, .slice none 0 0, .int .i64 0, .slice none 0 0] 74)).cell? ⟨w.heap.size + 1 + 1, 2, none⟩ = some (.slice none 0 0) := (b3.2 2 _ rfl).1
  have fa2_2 : (((w.alloc (.cells #[.int .i64 lv, .slice A1 n1 c1, .slice A2 n2 c2, .int .i64 sm, .slice A3 n3 c3] 70)).alloc (.cells #[.int .i64 0, .slice none 0 0, .slice none 0 0, .int .i64 0, .slice none 0 0] 74)).alloc (.cells #[.int .i64 0, .slice none 0 0, .slice none 0 0, .int .i64 0, .slice none 0 0] 74)).frozen? ⟨w.heap.size + 1 + 1, 2, none⟩ = false := (b3.2 2 _ rfl).2
  have ca2_3 : (((w.alloc (.cells #[.int .i64 lv, .slice A1 n1 c1, .slice A2 n2 c2, .int .i64 sm, .slice A3 n3 c3] 70)).alloc (.cells #[.int .i64 0, .slice none 0 0, .slice none 0 0, .int .i64 0, .slice none 0 0] 74)).alloc (.cells #[.int .i64 0, .slice none 0 0, .slice none 0 0, .int .i64 0, .slice none 0 0] 74)).cell? ⟨w.heap.size + 1 + 1, 3, none⟩ = some (.int .i64 0) := (b3.2 3 _ rfl).1
  have fa2_3 : (((w.alloc (.cells #[.int .i64 lv, .slice A1 n1 c1, .slice A2 n2 c2, .int .i64 sm, .slice A3 n3 c3] 70)).alloc (.cells #[.int .i64 0, .slice none 0 0, .slice none 0 0, .int .i64 0, .slice none 0 0] 74)).alloc (.cells #[.int .i64 0, .slice none 0 0, .slice none 0 0, .int .i64 0, .slice none 0 0] 74)).frozen? ⟨w.heap.size + 1 + 1, 3, none⟩ = false := (b3.2 3 _ rfl).2
  have ca2_4 : (((w.alloc (.cells #[.int .i64 lv, .slice A1 n1 c1, .slice A2 n2 c2, .int .i64 sm, .slice A3 n3 c3] 70)).alloc (.cells #[.int .i64 0, .slice none 0 0, .slice none 0 0, .int .i64 0, .slice none 0 0] 74)).alloc (.cells #[.int .i64 0, .slice none 0 0, .slice none 0 0, .int .i64 0, .slice none 0 0] 74)).cell? ⟨w.heap.size + 1 + 1, 4, none⟩ = some (.slice none 0 0) := (b3.2 4 _ rfl).1
  have fa2_4 : (((w.alloc (.cells #[.int .i64 lv, .slice A1 n1 c1, .slice A2 n2 c2, .int .i64 sm, .slice A3 n3 c3] 70)).alloc (.cells #[.int .i64 0, .slice none 0 0, .slice none 0 0, .int .i64 0, .slice none 0 0] 74)).alloc (.cells #[.int .i64 0, .slice none 0 0, .slice none 0 0, .int .i64 0, .slice none 0 0] 74)).frozen? ⟨w.heap.size + 1 + 1, 4, none⟩ = false := (b3.2 4 _ rfl).2
  go_wp2_with fail
  clear ca1_0 fa1_0 ca1_1 fa1_1 ca1_2 fa1_2 ca1_3 fa1_3 ca1_4 fa1_4 ca2_0 fa2_0 ca2_1 fa2_1 ca2_2 fa2_2 ca2_3 fa2_3 ca2_4 fa2_4
  refine (toTable_any (h1.keeps kw) (h2.keeps kw)).mono ?_
  rintro e w3 ⟨B1_, C1_, B2_, C2_, rfl, m1, no1, no2, k3⟩
  replace b1 := b1.keeps k3
  replace b2 := b2.keeps k3
  replace b3 := b3.keeps k3
  replace kw := Keeps.trans kw k3
  have lt4 := b3.lt
  have sz5 := kw.size
  clear k3
  replace m1 := m1.widen (lo' := w.heap.size + 1 + 1 + 1) (by simp) (Nat.le_refl _) (Nat.le_refl _)
  have ca6_0 : w3.cell? ⟨w.heap.size, 0, none⟩ = some (.int .i64 lv) := (b1.2 0 _ rfl).1
  have fa6_0 : w3.frozen? ⟨w.heap.size, 0, none⟩ = false := (b1.2 0 _ rfl).2
  have ca6_1 : w3.cell? ⟨w.heap.size, 1, none⟩ = some (.slice A1 n1 c1) := (b1.2 1 _ rfl).1
  have fa6_1 : w3.frozen? ⟨w.heap.size, 1, none⟩ = false := (b1.2 1 _ rfl).2
  have ca6_2 : w3.cell? ⟨w.heap.size, 2, none⟩ = some (.slice A2 n2 c2) := (b1.2 2 _ rfl).1
  have fa6_2 : w3.frozen? ⟨w.heap.size, 2, none⟩ = false := (b1.2 2 _ rfl).2
  have ca6_3 : w3.cell? ⟨w.heap.size, 3, none⟩ = some (.int .i64 sm) := (b1.2 3 _ rfl).1
  have fa6_3 : w3.frozen? ⟨w.heap.size, 3, none⟩ = false := (b1.2 3 _ rfl).2
  have ca6_4 : w3.cell? ⟨w.heap.size, 4, none⟩ = some (.slice A3 n3 c3) := (b1.2 4 _ rfl).1
  have fa6_4 : w3.frozen? ⟨w.heap.size, 4, none⟩ = false := (b1.2 4 _ rfl).2
  have ca7_0 : w3.cell? ⟨w.heap.size + 1 + 1, 0, none⟩ = some (.int .i64 0) := (b3.2 0 _ rfl).1
  have fa7_0 : w3.frozen? ⟨w.heap.size + 1 + 1, 0, none⟩ = false := (b3.2 0 _ rfl).2
  have ca7_1 : w3.cell? ⟨w.heap.size + 1 + 1, 1, none⟩ = some (.slice none 0 0) := (b3.2 1 _ rfl).1
  have fa7_1 : w3.frozen? ⟨w.heap.size + 1 + 1, 1, none⟩ = false := (b3.2 1 _ rfl).2
  have ca7_2 : w3.cell? ⟨w.heap.size + 1 + 1, 2, none⟩ = some (.slice none 0 0) := (b3.2 2 _ rfl).1
  have fa7_2 : w3.frozen? ⟨w.heap.size + 1 + 1, 2, none⟩ = false := (b3.2 2 _ rfl).2
  have ca7_3 : w3.cell? ⟨w.heap.size + 1 + 1, 3, none⟩ = some (.int .i64 0) := (b3.2 3 _ rfl).1
  have fa7_3 : w3.frozen? ⟨w.heap.size + 1 + 1, 3, none⟩ = false := (b3.2 3 _ rfl).2
  have ca7_4 : w3.cell? ⟨w.heap.size + 1 + 1, 4, none⟩ = some (.slice none 0 0) := (b3.2 4 _ rfl).1
  have fa7_4 : w3.frozen? ⟨w.heap.size + 1 + 1, 4, none⟩ = false := (b3.2 4 _ rfl).2
  replace b1 := b1.far (p := ⟨w.heap.size + 1 + 1, 0, none⟩) (by show _ ≠ (w.heap.size + 1 + 1); omega) (.int .i64 lv)
  replace b2 := b2.far (p := ⟨w.heap.size + 1 + 1, 0, none⟩) (by show _ ≠ (w.heap.size + 1 + 1); omega) (.int .i64 lv)
  replace m1 := m1.fr (fr_one (p := (w.heap.size + 1 + 1)) (i := 0) (.int .i64 lv)) (by omega)
  replace kw := Below.setCell kw (p := ⟨w.heap.size + 1 + 1, 0, none⟩) (by show _ ≤ (w.heap.size + 1 + 1); omega) (.int .i64 lv)
  replace b3 : Bl (w3.setCell ⟨w.heap.size + 1 + 1, 0, none⟩ (.int .i64 lv)) (w.heap.size + 1 + 1) [.int .i64 lv, .slice none 0 0, .slice none 0 0, .int .i64 0, .slice none 0 0] := b3.set 0 (.int .i64 lv)
  replace b1 := b1.far (p := ⟨w.heap.size + 1 + 1, 1, none⟩) (by show _ ≠ (w.heap.size + 1 + 1); omega) (.slice B1_ n1 C1_)
  replace b2 := b2.far (p := ⟨w.heap.size + 1 + 1, 1, none⟩) (by show _ ≠ (w.heap.size + 1 + 1); omega) (.slice B1_ n1 C1_)
  replace m1 := m1.fr (fr_one (p := (w.heap.size + 1 + 1)) (i := 1) (.slice B1_ n1 C1_)) (by omega)
  replace kw := Below.setCell kw (p := ⟨w.heap.size + 1 + 1, 1, none⟩) (by show _ ≤ (w.heap.size + 1 + 1); omega) (.slice B1_ n1 C1_)
  replace b3 : Bl ((w3.setCell ⟨w.heap.size + 1 + 1, 0, none⟩ (.int .i64 lv)).setCell ⟨w.heap.size + 1 + 1, 1, none⟩ (.slice B1_ n1 C1_)) (w.heap.size + 1 + 1) [.int .i64 lv, .slice B1_ n1 C1_, .slice none 0 0, .int .i64 0, .slice none 0 0] := b3.set 1 (.slice B1_ n1 C1_)
  replace b1 := b1.far (p := ⟨w.heap.size + 1 + 1, 2, none⟩) (by show _ ≠ (w.heap.size + 1 + 1); omega) (.slice B2_ n2 C2_)
  replace b2 := b2.far (p := ⟨w.heap.size + 1 + 1, 2, none⟩) (by show _ ≠ (w.heap.size + 1 + 1); omega) (.slice B2_ n2 C2_)
  replace m1 := m1.fr (fr_one (p := (w.heap.size + 1 + 1)) (i := 2) (.slice B2_ n2 C2_)) (by omega)
  replace kw := Below.setCell kw (p := ⟨w.heap.size + 1 + 1, 2, none⟩) (by show _ ≤ (w.heap.size + 1 + 1); omega) (.slice B2_ n2 C2_)
  replace b3 : Bl (((w3.setCell ⟨w.heap.size + 1 + 1, 0, none⟩ (.int .i64 lv)).setCell ⟨w.heap.size + 1 + 1, 1, none⟩ (.slice B1_ n1 C1_)).setCell ⟨w.heap.size + 1 + 1, 2, none⟩ (.slice B2_ n2 C2_)) (w.heap.size + 1 + 1) [.int .i64 lv, .slice B1_ n1 C1_, .slice B2_ n2 C2_, .int .i64 0, .slice none 0 0] := b3.set 2 (.slice B2_ n2 C2_)
  replace b1 := b1.far (p := ⟨w.heap.size + 1 + 1, 3, none⟩) (by show _ ≠ (w.heap.size + 1 + 1); omega) (.int .i64 sm)
  replace b2 := b2.far (p := ⟨w.heap.size + 1 + 1, 3, none⟩) (by show _ ≠ (w.heap.size + 1 + 1); omega) (.int .i64 sm)
  replace m1 := m1.fr (fr_one (p := (w.heap.size + 1 + 1)) (i := 3) (.int .i64 sm)) (by omega)
  replace kw := Below.setCell kw (p := ⟨w.heap.size + 1 + 1, 3, none⟩) (by show _ ≤ (w.heap.size + 1 + 1); omega) (.int .i64 sm)
  replace b3 : Bl ((((w3.setCell ⟨w.heap.size + 1 + 1, 0, none⟩ (.int .i64 lv)).setCell ⟨w.heap.size + 1 + 1, 1, none⟩ (.slice B1_ n1 C1_)).setCell ⟨w.heap.size + 1 + 1, 2, none⟩ (.slice B2_ n2 C2_)).setCell ⟨w.heap.size + 1 + 1, 3, none⟩ (.int .i64 sm)) (w.heap.size + 1 + 1) [.int .i64 lv, .slice B1_ n1 C1_, .slice B2_ n2 C2_, .int .i64 sm, .slice none 0 0] := b3.set 3 (.int .i64 sm)
  have ca8_0 : ((((w3.setCell ⟨w.heap.size + 1 + 1, 0, none⟩ (.int .i64 lv)).setCell ⟨w.heap.size + 1 + 1, 1, none⟩ (.slice B1_ n1 C1_)).setCell ⟨w.heap.size + 1 + 1, 2, none⟩ (.slice B2_ n2 C2_)).setCell ⟨w.heap.size + 1 + 1, 3, none⟩ (.int .i64 sm)).cell? ⟨w.heap.size, 0, none⟩ = some (.int .i64 lv) := (b1.2 0 _ rfl).1
  have fa8_0 : ((((w3.setCell ⟨w.heap.size + 1 + 1, 0, none⟩ (.int .i64 lv)).setCell ⟨w.heap.size + 1 + 1, 1, none⟩ (.slice B1_ n1 C1_)).setCell ⟨w.heap.size + 1 + 1, 2, none⟩ (.slice B2_ n2 C2_)).setCell ⟨w.heap.size + 1 + 1, 3, none⟩ (.int .i64 sm)).frozen? ⟨w.heap.size, 0, none⟩ = false := (b1.2 0 _ rfl).2
  have ca8_1 : ((((w3.setCell ⟨w.heap.size + 1 + 1, 0, none⟩ (.int .i64 lv)).setCell ⟨w.heap.size + 1 + 1, 1, none⟩ (.slice B1_ n1 C1_)).setCell ⟨w.heap.size + 1 + 1, 2, none⟩ (.slice B2_ n2 C2_)).setCell ⟨w.heap.size + 1 + 1, 3, none⟩ (.int .i64 sm)).cell? ⟨w.heap.size, 1, none⟩ = some (.slice A1 n1 c1) := (b1.2 1 _ rfl).1
  have fa8_1 : ((((w3.setCell ⟨w.heap.size + 1 + 1, 0, none⟩ (.int .i64 lv)).setCell ⟨w.heap.size + 1 + 1, 1, none⟩ (.slice B1_ n1 C1_)).setCell ⟨w.heap.size + 1 + 1, 2, none⟩ (.slice B2_ n2 C2_)).setCell ⟨w.heap.size + 1 + 1, 3, none⟩ (.int .i64 sm)).frozen? ⟨w.heap.size, 1, none⟩ = false := (b1.2 1 _ rfl).2
  have ca8_2 : ((((w3.setCell ⟨w.heap.size + 1 + 1, 0, none⟩ (.int .i64 lv)).setCell ⟨w.heap.size + 1 + 1, 1, none⟩ (.slice B1_ n1 C1_)).setCell ⟨w.heap.size + 1 + 1, 2, none⟩ (.slice B2_ n2 C2_)).setCell ⟨w.heap.size + 1 + 1, 3, none⟩ (.int .i64 sm)).cell? ⟨w.heap.size, 2, none⟩ = some (.slice A2 n2 c2) := (b1.2 2 _ rfl).1
  have fa8_2 : ((((w3.setCell ⟨w.heap.size + 1 + 1, 0, none⟩ (.int .i64 lv)).setCell ⟨w.heap.size + 1 + 1, 1, none⟩ (.slice B1_ n1 C1_)).setCell ⟨w.heap.size + 1 + 1, 2, none⟩ (.slice B2_ n2 C2_)).setCell ⟨w.heap.size + 1 + 1, 3, none⟩ (.int .i64 sm)).frozen? ⟨w.heap.size, 2, none⟩ = false := (b1.2 2 _ rfl).2
  have ca8_3 : ((((w3.setCell ⟨w.heap.size + 1 + 1, 0, none⟩ (.int .i64 lv)).setCell ⟨w.heap.size + 1 + 1, 1, none⟩ (.slice B1_ n1 C1_)).setCell ⟨w.heap.size + 1 + 1, 2, none⟩ (.slice B2_ n2 C2_)).setCell ⟨w.heap.size + 1 + 1, 3, none⟩ (.int .i64 sm)).cell? ⟨w.heap.size, 3, none⟩ = some (.int .i64 sm) := (b1.2 3 _ rfl).1
  have fa8_3 : ((((w3.setCell ⟨w.heap.size + 1 + 1, 0, none⟩ (.int .i64 lv)).setCell ⟨w.heap.size + 1 + 1, 1, none⟩ (.slice B1_ n1 C1_)).setCell ⟨w.heap.size + 1 + 1, 2, none⟩ (.slice B2_ n2 C2_)).setCell ⟨w.heap.size + 1 + 1, 3, none⟩ (.int .i64 sm)).frozen? ⟨w.heap.size, 3, none⟩ = false := (b1.2 3 _ rfl).2
  have ca8_4 : ((((w3.setCell ⟨w.heap.size + 1 + 1, 0, none⟩ (.int .i64 lv)).setCell ⟨w.heap.size + 1 + 1, 1, none⟩ (.slice B1_ n1 C1_)).setCell ⟨w.heap.size + 1 + 1, 2, none⟩ (.slice B2_ n2 C2_)).setCell ⟨w.heap.size + 1 + 1, 3, none⟩ (.int .i64 sm)).cell? ⟨w.heap.size, 4, none⟩ = some (.slice A3 n3 c3) := (b1.2 4 _ rfl).1
  have fa8_4 : ((((w3.setCell ⟨w.heap.size + 1 + 1, 0, none⟩ (.int .i64 lv)).setCell ⟨w.heap.size + 1 + 1, 1, none⟩ (.slice B1_ n1 C1_)).setCell ⟨w.heap.size + 1 + 1, 2, none⟩ (.slice B2_ n2 C2_)).setCell ⟨w.heap.size + 1 + 1, 3, none⟩ (.int .i64 sm)).frozen? ⟨w.heap.size, 4, none⟩ = false := (b1.2 4 _ rfl).2
  go_wp2_with fail
  clear ca6_0 fa6_0 ca6_1 fa6_1 ca6_2 fa6_2 ca6_3 fa6_3 ca6_4 fa6_4 ca7_0 fa7_0 ca7_1 fa7_1 ca7_2 fa7_2 ca7_3 fa7_3 ca7_4 fa7_4 ca8_0 fa8_0 ca8_1 fa8_1 ca8_2 fa8_2 ca8_3 fa8_3 ca8_4 fa8_4
  refine (toIntS_any (h3.keeps kw)).mono ?_
  rintro e w9 ⟨B3_, rfl, m3, k9⟩
  replace b1 := b1.keeps k9
  replace b2 := b2.keeps k9
  replace b3 := b3.keeps k9
  replace m1 := m1.keeps k9
  replace kw := Keeps.trans kw k9
  have lt10 := b3.lt
  have sz11 := kw.size
  clear k9
  replace m3 := m3.widen (lo' := w3.heap.size) (by simp [World.setCell]) (Nat.le_refl _) (Nat.le_refl _)
  have no3 := m3.1.nilOk
  have ca12_0 : w9.cell? ⟨w.heap.size, 0, none⟩ = some (.int .i64 lv) := (b1.2 0 _ rfl).1
  have fa12_0 : w9.frozen? ⟨w.heap.size, 0, none⟩ = false := (b1.2 0 _ rfl).2
  have ca12_1 : w9.cell? ⟨w.heap.size, 1, none⟩ = some (.slice A1 n1 c1) := (b1.2 1 _ rfl).1
  have fa12_1 : w9.frozen? ⟨w.heap.size, 1, none⟩ = false := (b1.2 1 _ rfl).2
  have ca12_2 : w9.cell? ⟨w.heap.size, 2, none⟩ = some (.slice A2 n2 c2) := (b1.2 2 _ rfl).1
  have fa12_2 : w9.frozen? ⟨w.heap.size, 2, none⟩ = false := (b1.2 2 _ rfl).2
  have ca12_3 : w9.cell? ⟨w.heap.size, 3, none⟩ = some (.int .i64 sm) := (b1.2 3 _ rfl).1
  have fa12_3 : w9.frozen? ⟨w.heap.size, 3, none⟩ = false := (b1.2 3 _ rfl).2
  have ca12_4 : w9.cell? ⟨w.heap.size, 4, none⟩ = some (.slice A3 n3 c3) := (b1.2 4 _ rfl).1
  have fa12_4 : w9.frozen? ⟨w.heap.size, 4, none⟩ = false := (b1.2 4 _ rfl).2
  have ca13_0 : w9.cell? ⟨w.heap.size + 1 + 1, 0, none⟩ = some (.int .i64 lv) := (b3.2 0 _ rfl).1
  have fa13_0 : w9.frozen? ⟨w.heap.size + 1 + 1, 0, none⟩ = false := (b3.2 0 _ rfl).2
  have ca13_1 : w9.cell? ⟨w.heap.size + 1 + 1, 1, none⟩ = some (.slice B1_ n1 C1_) := (b3.2 1 _ rfl).1
  have fa13_1 : w9.frozen? ⟨w.heap.size + 1 + 1, 1, none⟩ = false := (b3.2 1 _ rfl).2
  have ca13_2 : w9.cell? ⟨w.heap.size + 1 + 1, 2, none⟩ = some (.slice B2_ n2 C2_) := (b3.2 2 _ rfl).1
  have fa13_2 : w9.frozen? ⟨w.heap.size + 1 + 1, 2, none⟩ = false := (b3.2 2 _ rfl).2
  have ca13_3 : w9.cell? ⟨w.heap.size + 1 + 1, 3, none⟩ = some (.int .i64 sm) := (b3.2 3 _ rfl).1
  have fa13_3 : w9.frozen? ⟨w.heap.size + 1 + 1, 3, none⟩ = false := (b3.2 3 _ rfl).2
  have ca13_4 : w9.cell? ⟨w.heap.size + 1 + 1, 4, none⟩ = some (.slice none 0 0) := (b3.2 4 _ rfl).1
  have fa13_4 : w9.frozen? ⟨w.heap.size + 1 + 1, 4, none⟩ = false := (b3.2 4 _ rfl).2
  replace b1 := b1.far (p := ⟨w.heap.size + 1 + 1, 4, none⟩) (by show _ ≠ (w.heap.size + 1 + 1); omega) (.slice B3_ n3 n3)
  replace b2 := b2.far (p := ⟨w.heap.size + 1 + 1, 4, none⟩) (by show _ ≠ (w.heap.size + 1 + 1); omega) (.slice B3_ n3 n3)
  replace m1 := m1.fr (fr_one (p := (w.heap.size + 1 + 1)) (i := 4) (.slice B3_ n3 n3)) (by omega)
  replace m3 := m3.fr (fr_one (p := (w.heap.size + 1 + 1)) (i := 4) (.slice B3_ n3 n3)) (by omega)
  replace kw := Below.setCell kw (p := ⟨w.heap.size + 1 + 1, 4, none⟩) (by show _ ≤ (w.heap.size + 1 + 1); omega) (.slice B3_ n3 n3)
  replace b3 : Bl (w9.setCell ⟨w.heap.size + 1 + 1, 4, none⟩ (.slice B3_ n3 n3)) (w.heap.size + 1 + 1) [.int .i64 lv, .slice B1_ n1 C1_, .slice B2_ n2 C2_, .int .i64 sm, .slice B3_ n3 n3] := b3.set 4 (.slice B3_ n3 n3)
  have ca14_0 : (w9.setCell ⟨w.heap.size + 1 + 1, 4, none⟩ (.slice B3_ n3 n3)).cell? ⟨w.heap.size + 1 + 1, 0, none⟩ = some (.int .i64 lv) := (b3.2 0 _ rfl).1
  have fa14_0 : (w9.setCell ⟨w.heap.size + 1 + 1, 4, none⟩ (.slice B3_ n3 n3)).frozen? ⟨w.heap.size + 1 + 1, 0, none⟩ = false := (b3.2 0 _ rfl).2
  have ca14_1 : (w9.setCell ⟨w.heap.size + 1 + 1, 4, none⟩ (.slice B3_ n3 n3)).cell? ⟨w.heap.size + 1 + 1, 1, none⟩ = some (.slice B1_ n1 C1_) := (b3.2 1 _ rfl).1
  have fa14_1 : (w9.setCell ⟨w.heap.size + 1 + 1, 4, none⟩ (.slice B3_ n3 n3)).frozen? ⟨w.heap.size + 1 + 1, 1, none⟩ = false := (b3.2 1 _ rfl).2
  have ca14_2 : (w9.setCell ⟨w.heap.size + 1 + 1, 4, none⟩ (.slice B3_ n3 n3)).cell? ⟨w.heap.size + 1 + 1, 2, none⟩ = some (.slice B2_ n2 C2_) := (b3.2 2 _ rfl).1
  have fa14_2 : (w9.setCell ⟨w.heap.size + 1 + 1, 4, none⟩ (.slice B3_ n3 n3)).frozen? ⟨w.heap.size + 1 + 1, 2, none⟩ = false := (b3.2 2 _ rfl).2
  have ca14_3 : (w9.setCell ⟨w.heap.size + 1 + 1, 4, none⟩ (.slice B3_ n3 n3)).cell? ⟨w.heap.size + 1 + 1, 3, none⟩ = some (.int .i64 sm) := (b3.2 3 _ rfl).1
  have fa14_3 : (w9.setCell ⟨w.heap.size + 1 + 1, 4, none⟩ (.slice B3_ n3 n3)).frozen? ⟨w.heap.size + 1 + 1, 3, none⟩ = false := (b3.2 3 _ rfl).2
  have ca14_4 : (w9.setCell ⟨w.heap.size + 1 + 1, 4, none⟩ (.slice B3_ n3 n3)).cell? ⟨w.heap.size + 1 + 1, 4, none⟩ = some (.slice B3_ n3 n3) := (b3.2 4 _ rfl).1
  have fa14_4 : (w9.setCell ⟨w.heap.size + 1 + 1, 4, none⟩ (.slice B3_ n3 n3)).frozen? ⟨w.heap.size + 1 + 1, 4, none⟩ = false := (b3.2 4 _ rfl).2
  have ca15_0 : (w9.setCell ⟨w.heap.size + 1 + 1, 4, none⟩ (.slice B3_ n3 n3)).cell? ⟨w.heap.size + 1, 0, none⟩ = some (.int .i64 0) := (b2.2 0 _ rfl).1
  have fa15_0 : (w9.setCell ⟨w.heap.size + 1 + 1, 4, none⟩ (.slice B3_ n3 n3)).frozen? ⟨w.heap.size + 1, 0, none⟩ = false := (b2.2 0 _ rfl).2
  have ca15_1 : (w9.setCell ⟨w.heap.size + 1 + 1, 4, none⟩ (.slice B3_ n3 n3)).cell? ⟨w.heap.size + 1, 1, none⟩ = some (.slice none 0 0) := (b2.2 1 _ rfl).1
  have fa15_1 : (w9.setCell ⟨w.heap.size + 1 + 1, 4, none⟩ (.slice B3_ n3 n3)).frozen? ⟨w.heap.size + 1, 1, none⟩ = false := (b2.2 1 _ rfl).2
  have ca15_2 : (w9.setCell ⟨w.heap.size + 1 + 1, 4, none⟩ (.slice B3_ n3 n3)).cell? ⟨w.heap.size + 1, 2, none⟩ = some (.slice none 0 0) := (b2.2 2 _ rfl).1
  have fa15_2 : (w9.setCell ⟨w.heap.size + 1 + 1, 4, none⟩ (.slice B3_ n3 n3)).frozen? ⟨w.heap.size + 1, 2, none⟩ = false := (b2.2 2 _ rfl).2
  have ca15_3 : (w9.setCell ⟨w.heap.size + 1 + 1, 4, none⟩ (.slice B3_ n3 n3)).cell? ⟨w.heap.size + 1, 3, none⟩ = some (.int .i64 0) := (b2.2 3 _ rfl).1
  have fa15_3 : (w9.setCell ⟨w.heap.size + 1 + 1, 4, none⟩ (.slice B3_ n3 n3)).frozen? ⟨w.heap.size + 1, 3, none⟩ = false := (b2.2 3 _ rfl).2
  have ca15_4 : (w9.setCell ⟨w.heap.size + 1 + 1, 4, none⟩ (.slice B3_ n3 n3)).cell? ⟨w.heap.size + 1, 4, none⟩ = some (.slice none 0 0) := (b2.2 4 _ rfl).1
  have fa15_4 : (w9.setCell ⟨w.heap.size + 1 + 1, 4, none⟩ (.slice B3_ n3 n3)).frozen? ⟨w.heap.size + 1, 4, none⟩ = false := (b2.2 4 _ rfl).2
  replace b1 := b1.far (p := ⟨w.heap.size + 1, 0, none⟩) (by show _ ≠ (w.heap.size + 1); omega) (.int .i64 lv)
  replace b3 := b3.far (p := ⟨w.heap.size + 1, 0, none⟩) (by show _ ≠ (w.heap.size + 1); omega) (.int .i64 lv)
  replace m1 := m1.fr (fr_one (p := (w.heap.size + 1)) (i := 0) (.int .i64 lv)) (by omega)
  replace m3 := m3.fr (fr_one (p := (w.heap.size + 1)) (i := 0) (.int .i64 lv)) (by omega)
  replace kw := Below.setCell kw (p := ⟨w.heap.size + 1, 0, none⟩) (by show _ ≤ (w.heap.size + 1); omega) (.int .i64 lv)
  replace b2 : Bl ((w9.setCell ⟨w.heap.size + 1 + 1, 4, none⟩ (.slice B3_ n3 n3)).setCell ⟨w.heap.size + 1, 0, none⟩ (.int .i64 lv)) (w.heap.size + 1) [.int .i64 lv, .slice none 0 0, .slice none 0 0, .int .i64 0, .slice none 0 0] := b2.set 0 (.int .i64 lv)
  replace b1 := b1.far (p := ⟨w.heap.size + 1, 1, none⟩) (by show _ ≠ (w.heap.size + 1); omega) (.slice B1_ n1 C1_)
  replace b3 := b3.far (p := ⟨w.heap.size + 1, 1, none⟩) (by show _ ≠ (w.heap.size + 1); omega) (.slice B1_ n1 C1_)
  replace m1 := m1.fr (fr_one (p := (w.heap.size + 1)) (i := 1) (.slice B1_ n1 C1_)) (by omega)
  replace m3 := m3.fr (fr_one (p := (w.heap.size + 1)) (i := 1) (.slice B1_ n1 C1_)) (by omega)
  replace kw := Below.setCell kw (p := ⟨w.heap.size + 1, 1, none⟩) (by show _ ≤ (w.heap.size + 1); omega) (.slice B1_ n1 C1_)
  replace b2 : Bl (((w9.setCell ⟨w.heap.size + 1 + 1, 4, none⟩ (.slice B3_ n3 n3)).setCell ⟨w.heap.size + 1, 0, none⟩ (.int .i64 lv)).setCell ⟨w.heap.size + 1, 1, none⟩ (.slice B1_ n1 C1_)) (w.heap.size + 1) [.int .i64 lv, .slice B1_ n1 C1_, .slice none 0 0, .int .i64 0, .slice none 0 0] := b2.set 1 (.slice B1_ n1 C1_)
  replace b1 := b1.far (p := ⟨w.heap.size + 1, 2, none⟩) (by show _ ≠ (w.heap.size + 1); omega) (.slice B2_ n2 C2_)
  replace b3 := b3.far (p := ⟨w.heap.size + 1, 2, none⟩) (by show _ ≠ (w.heap.size + 1); omega) (.slice B2_ n2 C2_)
  replace m1 := m1.fr (fr_one (p := (w.heap.size + 1)) (i := 2) (.slice B2_ n2 C2_)) (by omega)
  replace m3 := m3.fr (fr_one (p := (w.heap.size + 1)) (i := 2) (.slice B2_ n2 C2_)) (by omega)
  replace kw := Below.setCell kw (p := ⟨w.heap.size + 1, 2, none⟩) (by show _ ≤ (w.heap.size + 1); omega) (.slice B2_ n2 C2_)
  replace b2 : Bl ((((w9.setCell ⟨w.heap.size + 1 + 1, 4, none⟩ (.slice B3_ n3 n3)).setCell ⟨w.heap.size + 1, 0, none⟩ (.int .i64 lv)).setCell ⟨w.heap.size + 1, 1, none⟩ (.slice B1_ n1 C1_)).setCell ⟨w.heap.size + 1, 2, none⟩ (.slice B2_ n2 C2_)) (w.heap.size + 1) [.int .i64 lv, .slice B1_ n1 C1_, .slice B2_ n2 C2_, .int .i64 0, .slice none 0 0] := b2.set 2 (.slice B2_ n2 C2_)
  replace b1 := b1.far (p := ⟨w.heap.size + 1, 3, none⟩) (by show _ ≠ (w.heap.size + 1); omega) (.int .i64 sm)
  replace b3 := b3.far (p := ⟨w.heap.size + 1, 3, none⟩) (by show _ ≠ (w.heap.size + 1); omega) (.int .i64 sm)
  replace m1 := m1.fr (fr_one (p := (w.heap.size + 1)) (i := 3) (.int .i64 sm)) (by omega)
  replace m3 := m3.fr (fr_one (p := (w.heap.size + 1)) (i := 3) (.int .i64 sm)) (by omega)
  replace kw := Below.setCell kw (p := ⟨w.heap.size + 1, 3, none⟩) (by show _ ≤ (w.heap.size + 1); omega) (.int .i64 sm)
  replace b2 : Bl (((((w9.setCell ⟨w.heap.size + 1 + 1, 4, none⟩ (.slice B3_ n3 n3)).setCell ⟨w.heap.size + 1, 0, none⟩ (.int .i64 lv)).setCell ⟨w.heap.size + 1, 1, none⟩ (.slice B1_ n1 C1_)).setCell ⟨w.heap.size + 1, 2, none⟩ (.slice B2_ n2 C2_)).setCell ⟨w.heap.size + 1, 3, none⟩ (.int .i64 sm)) (w.heap.size + 1) [.int .i64 lv, .slice B1_ n1 C1_, .slice B2_ n2 C2_, .int .i64 sm, .slice none 0 0] := b2.set 3 (.int .i64 sm)
  replace b1 := b1.far (p := ⟨w.heap.size + 1, 4, none⟩) (by show _ ≠ (w.heap.size + 1); omega) (.slice B3_ n3 n3)
  replace b3 := b3.far (p := ⟨w.heap.size + 1, 4, none⟩) (by show _ ≠ (w.heap.size + 1); omega) (.slice B3_ n3 n3)
  replace m1 := m1.fr (fr_one (p := (w.heap.size + 1)) (i := 4) (.slice B3_ n3 n3)) (by omega)
  replace m3 := m3.fr (fr_one (p := (w.heap.size + 1)) (i := 4) (.slice B3_ n3 n3)) (by omega)
  replace kw := Below.setCell kw (p := ⟨w.heap.size + 1, 4, none⟩) (by show _ ≤ (w.heap.size + 1); omega) (.slice B3_ n3 n3)
  replace b2 : Bl ((((((w9.setCell ⟨w.heap.size + 1 + 1, 4, none⟩ (.slice B3_ n3 n3)).setCell ⟨w.heap.size + 1, 0, none⟩ (.int .i64 lv)).setCell ⟨w.heap.size + 1, 1, none⟩ (.slice B1_ n1 C1_)).setCell ⟨w.heap.size + 1, 2, none⟩ (.slice B2_ n2 C2_)).setCell ⟨w.heap.size + 1, 3, none⟩ (.int .i64 sm)).setCell ⟨w.heap.size + 1, 4, none⟩ (.slice B3_ n3 n3)) (w.heap.size + 1) [.int .i64 lv, .slice B1_ n1 C1_, .slice B2_ n2 C2_, .int .i64 sm, .slice B3_ n3 n3] := b2.set 4 (.slice B3_ n3 n3)
  have es : ((((((w9.setCell ⟨w.heap.size + 1 + 1, 4, none⟩ (.slice B3_ n3 n3)).setCell ⟨w.heap.size + 1, 0, none⟩ (.int .i64 lv)).setCell ⟨w.heap.size + 1, 1, none⟩ (.slice B1_ n1 C1_)).setCell ⟨w.heap.size + 1, 2, none⟩ (.slice B2_ n2 C2_)).setCell ⟨w.heap.size + 1, 3, none⟩ (.int .i64 sm)).setCell ⟨w.heap.size + 1, 4, none⟩ (.slice B3_ n3 n3)).heap.size = w9.heap.size := by simp [World.setCell]
  have lb := m1.top
  have sz0 : w.heap.size + 1 + 1 + 1 ≤ w9.heap.size := by omega
  have sz1 : w3.heap.size ≤ w9.heap.size := by have := m3.1.top; omega
  have HT := hid (show PubM ((((((w9.setCell ⟨w.heap.size + 1 + 1, 4, none⟩ (.slice B3_ n3 n3)).setCell ⟨w.heap.size + 1, 0, none⟩ (.int .i64 lv)).setCell ⟨w.heap.size + 1, 1, none⟩ (.slice B1_ n1 C1_)).setCell ⟨w.heap.size + 1, 2, none⟩ (.slice B2_ n2 C2_)).setCell ⟨w.heap.size + 1, 3, none⟩ (.int .i64 sm)).setCell ⟨w.heap.size + 1, 4, none⟩ (.slice B3_ n3 n3)) w.heap.size ((((((w9.setCell ⟨w.heap.size + 1 + 1, 4, none⟩ (.slice B3_ n3 n3)).setCell ⟨w.heap.size + 1, 0, none⟩ (.int .i64 lv)).setCell ⟨w.heap.size + 1, 1, none⟩ (.slice B1_ n1 C1_)).setCell ⟨w.heap.size + 1, 2, none⟩ (.slice B2_ n2 C2_)).setCell ⟨w.heap.size + 1, 3, none⟩ (.int .i64 sm)).setCell ⟨w.heap.size + 1, 4, none⟩ (.slice B3_ n3 n3)).heap.size B1_ n1 xs B2_ n2 ys B3_ n3 zs from m1.pub m3 (by omega) (by omega) (by omega) (by omega) (by omega) (Nat.le_refl _))
  have HK := hid kw
  clear m1 m3 kw lb
  go_wp2_with fail
  clear ca12_0 fa12_0 ca12_1 fa12_1 ca12_2 fa12_2 ca12_3 fa12_3 ca12_4 fa12_4 ca13_0 fa13_0 ca13_1 fa13_1 ca13_2 fa13_2 ca13_3 fa13_3 ca13_4 fa13_4 ca14_0 fa14_0 ca14_1 fa14_1 ca14_2 fa14_2 ca14_3 fa14_3 ca14_4 fa14_4 ca15_0 fa15_0 ca15_1 fa15_1 ca15_2 fa15_2 ca15_3 fa15_3 ca15_4 fa15_4
  have ca0_0 : ((((((w9.setCell ⟨w.heap.size + 1 + 1, 4, none⟩ (.slice B3_ n3 n3)).setCell ⟨w.heap.size + 1, 0, none⟩ (.int .i64 lv)).setCell ⟨w.heap.size + 1, 1, none⟩ (.slice B1_ n1 C1_)).setCell ⟨w.heap.size + 1, 2, none⟩ (.slice B2_ n2 C2_)).setCell ⟨w.heap.size + 1, 3, none⟩ (.int .i64 sm)).setCell ⟨w.heap.size + 1, 4, none⟩ (.slice B3_ n3 n3)).cell? ⟨w.heap.size + 1, 0, none⟩ = some (.int .i64 lv) := (b2.2 0 _ rfl).1
  have ca0_1 : ((((((w9.setCell ⟨w.heap.size + 1 + 1, 4, none⟩ (.slice B3_ n3 n3)).setCell ⟨w.heap.size + 1, 0, none⟩ (.int .i64 lv)).setCell ⟨w.heap.size + 1, 1, none⟩ (.slice B1_ n1 C1_)).setCell ⟨w.heap.size + 1, 2, none⟩ (.slice B2_ n2 C2_)).setCell ⟨w.heap.size + 1, 3, none⟩ (.int .i64 sm)).setCell ⟨w.heap.size + 1, 4, none⟩ (.slice B3_ n3 n3)).cell? ⟨w.heap.size + 1, 1, none⟩ = some (.slice B1_ n1 C1_) := (b2.2 1 _ rfl).1
  have ca0_2 : ((((((w9.setCell ⟨w.heap.size + 1 + 1, 4, none⟩ (.slice B3_ n3 n3)).setCell ⟨w.heap.size + 1, 0, none⟩ (.int .i64 lv)).setCell ⟨w.heap.size + 1, 1, none⟩ (.slice B1_ n1 C1_)).setCell ⟨w.heap.size + 1, 2, none⟩ (.slice B2_ n2 C2_)).setCell ⟨w.heap.size + 1, 3, none⟩ (.int .i64 sm)).setCell ⟨w.heap.size + 1, 4, none⟩ (.slice B3_ n3 n3)).cell? ⟨w.heap.size + 1, 2, none⟩ = some (.slice B2_ n2 C2_) := (b2.2 2 _ rfl).1
  have ca0_3 : ((((((w9.setCell ⟨w.heap.size + 1 + 1, 4, none⟩ (.slice B3_ n3 n3)).setCell ⟨w.heap.size + 1, 0, none⟩ (.int .i64 lv)).setCell ⟨w.heap.size + 1, 1, none⟩ (.slice B1_ n1 C1_)).setCell ⟨w.heap.size + 1, 2, none⟩ (.slice B2_ n2 C2_)).setCell ⟨w.heap.size + 1, 3, none⟩ (.int .i64 sm)).setCell ⟨w.heap.size + 1, 4, none⟩ (.slice B3_ n3 n3)).cell? ⟨w.heap.size + 1, 3, none⟩ = some (.int .i64 sm) := (b2.2 3 _ rfl).1
  have ca0_4 : ((((((w9.setCell ⟨w.heap.size + 1 + 1, 4, none⟩ (.slice B3_ n3 n3)).setCell ⟨w.heap.size + 1, 0, none⟩ (.int .i64 lv)).setCell ⟨w.heap.size + 1, 1, none⟩ (.slice B1_ n1 C1_)).setCell ⟨w.heap.size + 1, 2, none⟩ (.slice B2_ n2 C2_)).setCell ⟨w.heap.size + 1, 3, none⟩ (.int .i64 sm)).setCell ⟨w.heap.size + 1, 4, none⟩ (.slice B3_ n3 n3)).cell? ⟨w.heap.size + 1, 4, none⟩ = some (.slice B3_ n3 n3) := (b2.2 4 _ rfl).1
  try simp only [Exit.inBlock, Exit.then]
  exact bodyPost_ret (v := .agg #[.int .i64 lv, .slice B1_ n1 C1_, .slice B2_ n2 C2_, .int .i64 sm, .slice B3_ n3 n3]) (by simp [results, Try.results46, go_sem, ca0_0, ca0_1, ca0_2, ca0_3, ca0_4]) rfl ⟨_, _, _, _, _, _, rfl, HT.out, no1, no2, no3, HK.out⟩
set_option maxRecDepth 100000 in
set_option maxHeartbeats 1600000 in
theorem eqTable_true {A1 A2 : Option Addr} {n1 n2 c1 c2 : Nat} {lv sm : Int} {w : World} {l1 u1 l2 u2 : Nat} {xs ys : List Int} {B1_ B2_ : Option Addr} {d1 d2 l1' u1' l2' u2' : Nat} (h1 : Ints w l1 u1 A1 n1 xs) (h2 : Ints w l2 u2 A2 n2 ys) (g1 : Ints w l1' u1' B1_ n1 xs) (g2 : Ints w l2' u2' B2_ n2 ys) :
    Calls Try.prog 139 #[.agg #[.int .i64 lv, .slice A1 n1 c1, .slice A2 n2 c2, .int .i64 sm], .agg #[.int .i64 lv, .slice B1_ n1 d1, .slice B2_ n2 d2, .int .i64 sm]] w fun e w' => e = .returned (.bool true) ∧ Keeps w w' := by
  have e1 : (lv != lv) = false := by simp
  have e2 : (sm != sm) = false := by simp
  go_enter Try.func139, Try.ntmps139
  have kw := keeps_refl w
  replace kw := Keeps.trans kw (keeps_alloc w (.cells #[.int .i64 lv, .slice A1 n1 c1, .slice A2 n2 c2, .int .i64 sm] 72))
  have b2 : Bl (w.alloc (.cells #[.int .i64 lv, .slice A1 n1 c1, .slice A2 n2 c2, .int .i64 sm] 72)) w.heap.size [.int .i64 lv, .slice A1 n1 c1, .slice A2 n2 c2, .int .i64 sm] := Bl.new' (by simp) (by simp)
  replace b2 := b2.keeps (keeps_alloc (w.alloc (.cells #[.int .i64 lv, .slice A1 n1 c1, .slice A2 n2 c2, .int .i64 sm] 72)) (.cells #[.int .i64 lv, .slice B1_ n1 d1, .slice B2_ n2 d2, .int .i64 sm] 72))
  replace kw := Keeps.trans kw (keeps_alloc (w.alloc (.cells #[.int .i64 lv, .slice A1 n1 c1, .slice A2 n2 c2, .int .i64 sm] 72)) (.cells #[.int .i64 lv, .slice B1_ n1 d1, .slice B2_ n2 d2, .int .i64 sm] 72))
  have b3 : Bl ((w.alloc (.cells #[.int .i64 lv, .slice A1 n1 c1, .slice A2 n2 c2, .int .i64 sm] 72)).alloc (.cells #[.int .i64 lv, .slice B1_ n1 d1, .slice B2_ n2 d2, .int .i64 sm] 72)) (w.heap.size + 1) [.int .i64 lv, .slice B1_ n1 d1, .slice B2_ n2 d2, .int .i64 sm] := Bl.new' (by simp) (by simp)
  have ca1_0 : ((w.alloc (.cells #[.int .i64 lv, .slice A1 n1 c1, .slice A2 n2 c2, .int .i64 sm] 72)).alloc (.cells #[.int .i64 lv, .slice B1_ n1 d1, .slice B2_ n2 d2, .int .i64 sm] 72)).cell? ⟨w.heap.size, 0, none⟩ = some (.int .i64 lv) := (b2.2 0 _ rfl).1
  have fa1_0 : ((w.alloc (.cells #[.int .i64 lv, .slice A1 n1 c1, .slice A2 n2 c2, .int .i64 sm] 72)).alloc (.cells #[.int .i64 lv, .slice B1_ n1 d1, .slice B2_ n2 d2, .int .i64 sm] 72)).frozen? ⟨w.heap.size, 0, none⟩ = false := (b2.2 0 _ rfl).2
  have ca1_1 : ((w.alloc (.cells #[.int .i64 lv, .slice A1 n1 c1, .slice A2 n2 c2, .int .i64 sm] 72)).alloc (.cells #[.int .i64 lv, .slice B1_ n1 d1, .slice B2_ n2 d2, .int .i64 sm] 72)).cell? ⟨w.heap.size, 1, none⟩ = some (.slice A1 n1 c1) := (b2.2 1 _ rfl).1
  have fa1_1 : ((w.alloc (.cells #[.int .i64 lv, .slice A1 n1 c1, .slice A2 n2 c2, .int .i64 sm] 72)).alloc (.cells #[.int .i64 lv, .slice B1_ n1 d1, .slice B2_ n2 d2, .int .i64 sm] 72)).frozen? ⟨w.heap.size, 1, none⟩ = false := (b2.2 1 _ rfl).2
  have ca1_2 : ((w.alloc (.cells #[.int .i64 lv, .slice A1 n1 c1, .slice A2 n2 c2, .int .i64 sm] 72)).alloc (.cells #[.int .i64 lv, .slice B1_ n1 d1, .slice B2_ n2 d2, .int .i64 sm] 72)).cell? ⟨w.heap.size, 2, none⟩ = some (.slice A2 n2 c2) := (b2.2 2 _ rfl).1
  have fa1_2 : ((w.alloc (.cells #[.int .i64 lv, .slice A1 n1 c1, .slice A2 n2 c2, .int .i64 sm] 72)).alloc (.cells #[.int .i64 lv, .slice B1_ n1 d1, .slice B2_ n2 d2, .int .i64 sm] 72)).frozen? ⟨w.heap.size, 2, none⟩ = false := (b2.2 2 _ rfl).2
  have ca1_3 : ((w.alloc (.cells #[.int .i64 lv, .slice A1 n1 c1, .slice A2 n2 c2, .int .i64 sm] 72)).alloc (.cells #[.int .i64 lv, .slice B1_ n1 d1, .slice B2_ n2 d2, .int .i64 sm] 72)).cell? ⟨w.heap.size, 3, none⟩ = some (.int .i64 sm) := (b2.2 3 _ rfl).1
  have fa1_3 : ((w.alloc (.cells #[.int .i64 lv, .slice A1 n1 c1, .slice A2 n2 c2, .int .i64 sm] 72)).alloc (.cells #[.int .i64 lv, .slice B1_ n1 d1, .slice B2_ n2 d2, .int .i64 sm] 72)).frozen? ⟨w.heap.size, 3, none⟩ = false := (b2.2 3 _ rfl).2
  have ca2_0 : ((w.alloc (.cells #[.int .i64 lv, .slice A1 n1 c1, .slice A2 n2 c2, .int .i64 sm] 72)).alloc (.cells #[.int .i64 lv, .slice B1_ n1 d1, .slice B2_ n2 d2, .int .i64 sm] 72)).cell? ⟨w.heap.size + 1, 0, none⟩ = some (.int .i64 lv) := (b3.2 0 _ rfl).1
  have fa2_0 : ((w.alloc (.cells #[.int .i64 lv, .slice A1 n1 c1, .slice A2 n2 c2, .int .i64 sm] 72)).alloc (.cells #[.int .i64 lv, .slice B1_ n1 d1, .slice B2_ n2 d2, .int .i64 sm] 72)).frozen? ⟨w.heap.size + 1, 0, none⟩ = false := (b3.2 0 _ rfl).2
  have ca2_1 : ((w.alloc (.cells #[.int .i64 lv, .slice A1 n1 c1, .slice A2 n2 c2, .int .i64 sm] 72)).alloc (.cells #[.int .i64 lv, .slice B1_ n1 d1, .slice B2_ n2 d2, .int .i64 sm] 72)).cell? ⟨w.heap.size + 1, 1, none⟩ = some (.slice B1_ n1 d1) := (b3.2 1 _ rfl).1
  have fa2_1 : ((w.alloc (.cells #[.int .i64 lv, .slice A1 n1 c1, .slice A2 n2 c2, .int .i64 sm] 72)).alloc (.cells #[.int .i64 lv, .slice B1_ n1 d1, .slice B2_ n2 d2, .int .i64 sm] 72)).frozen? ⟨w.heap.size + 1, 1, none⟩ = false := (b3.2 1 _ rfl).2
  have ca2_2 : ((w.alloc (.cells #[.int .i64 lv, .slice A1 n1 c1, .slice A2 n2 c2, .int .i64 sm] 72)).alloc (.cells #[.int .i64 lv, .slice B1_ n1 d1, .slice B2_ n2 d2, .int .i64 sm] 72)).cell? ⟨w.heap.size + 1, 2, none⟩ = some (.slice B2_ n2 d2) := (b3.2 2 _ rfl).1
  have fa2_2 : ((w.alloc (.cells #[.int .i64 lv, .slice A1 n1 c1, .slice A2 n2 c2, .int .i64 sm] 72)).alloc (.cells #[.int .i64 lv, .slice B1_ n1 d1, .slice B2_ n2 d2, .int .i64 sm] 72)).frozen? ⟨w.heap.size + 1, 2, none⟩ = false := (b3.2 2 _ rfl).2
  have ca2_3 : ((w.alloc (.cells #[.int .i64 lv, .slice A1 n1 c1, .slice A2 n2 c2, .int .i64 sm] 72)).alloc (.cells #[.int .i64 lv, .slice B1_ n1 d1, .slice B2_ n2 d2, .int .i64 sm] 72)).cell? ⟨w.heap.size + 1, 3, none⟩ = some (.int .i64 sm) := (b3.2 3 _ rfl).1
  have fa2_3 : ((w.alloc (.cells #[.int .i64 lv, .slice A1 n1 c1, .slice A2 n2 c2, .int .i64 sm] 72)).alloc (.cells #[.int .i64 lv, .slice B1_ n1 d1, .slice B2_ n2 d2, .int .i64 sm] 72)).frozen? ⟨w.heap.size + 1, 3, none⟩ = false := (b3.2 3 _ rfl).2
  go_wp2_with fail
  clear ca1_0 fa1_0 ca1_1 fa1_1 ca1_2 fa1_2 ca1_3 fa1_3 ca2_0 fa2_0 ca2_1 fa2_1 ca2_2 fa2_2 ca2_3 fa2_3
  refine (eqIntS_true (h1.keeps kw) (g1.keeps kw)).mono ?_
  rintro e w3 ⟨rfl, k3⟩
  replace k3 := Quiet.keeps k3
  replace b2 := b2.keeps k3
  replace b3 := b3.keeps k3
  replace kw := Keeps.trans kw k3
  have lt4 := b3.lt
  have sz5 := kw.size
  clear k3
  have ca6_0 : w3.cell? ⟨w.heap.size, 0, none⟩ = some (.int .i64 lv) := (b2.2 0 _ rfl).1
  have fa6_0 : w3.frozen? ⟨w.heap.size, 0, none⟩ = false := (b2.2 0 _ rfl).2
  have ca6_1 : w3.cell? ⟨w.heap.size, 1, none⟩ = some (.slice A1 n1 c1) := (b2.2 1 _ rfl).1
  have fa6_1 : w3.frozen? ⟨w.heap.size, 1, none⟩ = false := (b2.2 1 _ rfl).2
  have ca6_2 : w3.cell? ⟨w.heap.size, 2, none⟩ = some (.slice A2 n2 c2) := (b2.2 2 _ rfl).1
  have fa6_2 : w3.frozen? ⟨w.heap.size, 2, none⟩ = false := (b2.2 2 _ rfl).2
  have ca6_3 : w3.cell? ⟨w.heap.size, 3, none⟩ = some (.int .i64 sm) := (b2.2 3 _ rfl).1
  have fa6_3 : w3.frozen? ⟨w.heap.size, 3, none⟩ = false := (b2.2 3 _ rfl).2
  have ca7_0 : w3.cell? ⟨w.heap.size + 1, 0, none⟩ = some (.int .i64 lv) := (b3.2 0 _ rfl).1
  have fa7_0 : w3.frozen? ⟨w.heap.size + 1, 0, none⟩ = false := (b3.2 0 _ rfl).2
  have ca7_1 : w3.cell? ⟨w.heap.size + 1, 1, none⟩ = some (.slice B1_ n1 d1) := (b3.2 1 _ rfl).1
  have fa7_1 : w3.frozen? ⟨w.heap.size + 1, 1, none⟩ = false := (b3.2 1 _ rfl).2
  have ca7_2 : w3.cell? ⟨w.heap.size + 1, 2, none⟩ = some (.slice B2_ n2 d2) := (b3.2 2 _ rfl).1
  have fa7_2 : w3.frozen? ⟨w.heap.size + 1, 2, none⟩ = false := (b3.2 2 _ rfl).2
  have ca7_3 : w3.cell? ⟨w.heap.size + 1, 3, none⟩ = some (.int .i64 sm) := (b3.2 3 _ rfl).1
  have fa7_3 : w3.frozen? ⟨w.heap.size + 1, 3, none⟩ = false := (b3.2 3 _ rfl).2
  go_wp2_with fail
  clear ca6_0 fa6_0 ca6_1 fa6_1 ca6_2 fa6_2 ca6_3 fa6_3 ca7_0 fa7_0 ca7_1 fa7_1 ca7_2 fa7_2 ca7_3 fa7_3
  refine (eqIntS_true (h2.keeps kw) (g2.keeps kw)).mono ?_
  rintro e w8 ⟨rfl, k8⟩
  replace k8 := Quiet.keeps k8
  replace b2 := b2.keeps k8
  replace b3 := b3.keeps k8
  replace kw := Keeps.trans kw k8
  have lt9 := b3.lt
  have sz10 := kw.size
  clear k8
  have ca11_0 : w8.cell? ⟨w.heap.size, 0, none⟩ = some (.int .i64 lv) := (b2.2 0 _ rfl).1
  have fa11_0 : w8.frozen? ⟨w.heap.size, 0, none⟩ = false := (b2.2 0 _ rfl).2
  have ca11_1 : w8.cell? ⟨w.heap.size, 1, none⟩ = some (.slice A1 n1 c1) := (b2.2 1 _ rfl).1
  have fa11_1 : w8.frozen? ⟨w.heap.size, 1, none⟩ = false := (b2.2 1 _ rfl).2
  have ca11_2 : w8.cell? ⟨w.heap.size, 2, none⟩ = some (.slice A2 n2 c2) := (b2.2 2 _ rfl).1
  have fa11_2 : w8.frozen? ⟨w.heap.size, 2, none⟩ = false := (b2.2 2 _ rfl).2
  have ca11_3 : w8.cell? ⟨w.heap.size, 3, none⟩ = some (.int .i64 sm) := (b2.2 3 _ rfl).1
  have fa11_3 : w8.frozen? ⟨w.heap.size, 3, none⟩ = false := (b2.2 3 _ rfl).2
  have ca12_0 : w8.cell? ⟨w.heap.size + 1, 0, none⟩ = some (.int .i64 lv) := (b3.2 0 _ rfl).1
  have fa12_0 : w8.frozen? ⟨w.heap.size + 1, 0, none⟩ = false := (b3.2 0 _ rfl).2
  have ca12_1 : w8.cell? ⟨w.heap.size + 1, 1, none⟩ = some (.slice B1_ n1 d1) := (b3.2 1 _ rfl).1
  have fa12_1 : w8.frozen? ⟨w.heap.size + 1, 1, none⟩ = false := (b3.2 1 _ rfl).2
  have ca12_2 : w8.cell? ⟨w.heap.size + 1, 2, none⟩ = some (.slice B2_ n2 d2) := (b3.2 2 _ rfl).1
  have fa12_2 : w8.frozen? ⟨w.heap.size + 1, 2, none⟩ = false := (b3.2 2 _ rfl).2
  have ca12_3 : w8.cell? ⟨w.heap.size + 1, 3, none⟩ = some (.int .i64 sm) := (b3.2 3 _ rfl).1
  have fa12_3 : w8.frozen? ⟨w.heap.size + 1, 3, none⟩ = false := (b3.2 3 _ rfl).2
  go_wp2_with fail
  clear ca11_0 fa11_0 ca11_1 fa11_1 ca11_2 fa11_2 ca11_3 fa11_3 ca12_0 fa12_0 ca12_1 fa12_1 ca12_2 fa12_2 ca12_3 fa12_3
  go_ret
  exact ⟨rfl, kw⟩
set_option maxRecDepth 100000 in
set_option maxHeartbeats 1600000 in
theorem eqPublished_true {A1 A2 A3 : Option Addr} {n1 n2 n3 c1 c2 c3 : Nat} {lv sm : Int} {w : World} {xs ys zs : List Int} {B1_ B2_ B3_ : Option Addr} {d1 d2 d3 lo hi lo' hi' : Nat} (h : PubI w lo hi A1 n1 xs A2 n2 ys A3 n3 zs) (g : PubI w lo' hi' B1_ n1 xs B2_ n2 ys B3_ n3 zs) :
    Calls Try.prog 48 #[.agg #[.int .i64 lv, .slice A1 n1 c1, .slice A2 n2 c2, .int .i64 sm, .slice A3 n3 c3], .agg #[.int .i64 lv, .slice B1_ n1 d1, .slice B2_ n2 d2, .int .i64 sm, .slice B3_ n3 d3]] w fun e w' => e = .returned (.bool true) ∧ Keeps w w' := by
  go_enter Try.func48, Try.ntmps48
  have kw := keeps_refl w
  replace kw := Keeps.trans kw (keeps_alloc w (.cells #[.int .i64 lv, .slice A1 n1 c1, .slice A2 n2 c2, .int .i64 sm, .slice A3 n3 c3] 74))
  have b2 : Bl (w.alloc (.cells #[.int .i64 lv, .slice A1 n1 c1, .slice A2 n2 c2, .int .i64 sm, .slice A3 n3 c3] 74)) w.heap.size [.int .i64 lv, .slice A1 n1 c1, .slice A2 n2 c2, .int .i64 sm, .slice A3 n3 c3] := Bl.new' (by simp) (by simp)
  replace b2 := b2.keeps (keeps_alloc (w.alloc (.cells #[.int .i64 lv, .slice A1 n1 c1, .slice A2 n2 c2, .int .i64 sm, .slice A3 n3 c3] 74)) (.cells #[.int .i64 lv, .slice B1_ n1 d1, .slice B2_ n2 d2, .int .i64 sm, .slice B3_ n3 d3] 74))
  replace kw := Keeps.trans kw (keeps_alloc (w.alloc (.cells #[.int .i64 lv, .slice A1 n1 c1, .slice A2 n2 c2, .int .i64 sm, .slice A3 n3 c3] 74)) (.cells #[.int .i64 lv, .slice B1_ n1 d1, .slice B2_ n2 d2, .int .i64 sm, .slice B3_ n3 d3] 74))
  have b3 : Bl ((w.alloc (.cells #[.int .i64 lv, .slice A1 n1 c1, .slice A2 n2 c2, .int .i64 sm, .slice A3 n3 c3] 74)).alloc (.cells #[.int .i64 lv, .slice B1_ n1 d1, .slice B2_ n2 d2, .int .i64 sm, .slice B3_ n3 d3] 74)) (w.heap.size + 1) [.int .i64 lv, .slice B1_ n1 d1, .slice B2_ n2 d2, .int .i64 sm, .slice B3_ n3 d3] := Bl.new' (by simp) (by simp)
  have ca1_0 : ((w.alloc (.cells #[.int .i64 lv, .slice A1 n1 c1, .slice A2 n2 c2, .int .i64 sm, .slice A3 n3 c3] 74)).alloc (.cells #[.int .i64 lv, .slice B1_ n1 d1, .slice B2_ n2 d2, .int .i64 sm, .slice B3_ n3 d3] 74)).cell? ⟨w.heap.size, 0, none⟩ = some (.int .i64 lv) := (b2.2 0 _ rfl).1
  have fa1_0 : ((w.alloc (.cells #[.int .i64 lv, .slice A1 n1 c1, .slice A2 n2 c2, .int .i64 sm, .slice A3 n3 c3] 74)).alloc (.cells #[.int .i64 lv, .slice B1_ n1 d1, .slice B2_ n2 d2, .int .i64 sm, .slice B3_ n3 d3] 74)).frozen? ⟨w.heap.size, 0, none⟩ = false := (b2.2 0 _ rfl).2
  have ca1_1 : ((w.alloc (.cells #[.int .i64 lv, .slice A1 n1 c1, .slice A2 n2 c2, .int .i64 sm, .slice A3 n3 c3] 74)).alloc (.cells #[.int .i64 lv, .slice B1_ n1 d1, .slice B2_ n2 d2, .int .i64 sm, .slice B3_ n3 d3] 74)).cell? ⟨w.heap.size, 1, none⟩ = some (.slice A1 n1 c1) := (b2.2 1 _ rfl).1
  have fa1_1 : ((w.alloc (.cells #[.int .i64 lv, .slice A1 n1 c1, .slice A2 n2 c2, .int .i64 sm, .slice A3 n3 c3] 74)).alloc (.cells #[.int .i64 lv, .slice B1_ n1 d1, .slice B2_ n2 d2, .int .i64 sm, .slice B3_ n3 d3] 74)).frozen? ⟨w.heap.size, 1, none⟩ = false := (b2.2 1 _ rfl).2
  have ca1_2 : ((w.alloc (.cells #[.int .i64 lv, .slice A1 n1 c1, .slice A2 n2 c2, .int .i64 sm, .slice A3 n3 c3] 74)).alloc (.cells #[.int .i64 lv, .slice B1_ n1 d1, .slice B2_ n2 d2, .int .i64 sm, .slice B3_ n3 d3] 74)).cell? ⟨w.heap.size, 2, none⟩ = some (.slice A2 n2 c2) := (b2.2 2 _ rfl).1
  have fa1_2 : ((w.alloc (.cells #[.int .i64 lv, .slice A1 n1 c1, .slice A2 n2 c2, .int .i64 sm, .slice A3 n3 c3] 74)).alloc (.cells #[.int .i64 lv, .slice B1_ n1 d1, .slice B2_ n2 d2, .int .i64 sm, .slice B3_ n3 d3] 74)).frozen? ⟨w.heap.size, 2, none⟩ = false := (b2.2 2 _ rfl).2
  have ca1_3 : ((w.alloc (.cells #[.int .i64 lv, .slice A1 n1 c1, .slice A2 n2 c2, .int .i64 sm, .slice A3 n3 c3] 74)).alloc (.cells #[.int .i64 lv, .slice B1_ n1 d1, .slice B2_ n2 d2, .int .i64 sm, .slice B3_ n3 d3] 74)).cell? ⟨w.heap.size, 3, none⟩ = some (.int .i64 sm) := (b2.2 3 _ rfl).1
  have fa1_3 : ((w.alloc (.cells #[.int .i64 lv, .slice A1 n1 c1, .slice A2 n2 c2, .int .i64 sm, .slice A3 n3 c3] 74)).alloc (.cells #[.int .i64 lv, .slice B1_ n1 d1, .slice B2_ n2 d2, .int .i64 sm, .slice B3_ n3 d3] 74)).frozen? ⟨w.heap.size, 3, none⟩ = false := (b2.2 3 _ rfl).2
  have ca1_4 : ((w.alloc (.cells #[.int .i64 lv, .slice A1 n1 c1, .slice A2 n2 c2, .int .i64 sm, .slice A3 n3 c3] 74)).alloc (.cells #[.int .i64 lv, .slice B1_ n1 d1, .slice B2_ n2 d2, .int .i64 sm, .slice B3_ n3 d3] 74)).cell? ⟨w.heap.size, 4, none⟩ = some (.slice A3 n3 c3) := (b2.2 4 _ rfl).1
  have fa1_4 : ((w.alloc (.cells #[.int .i64 lv, .slice A1 n1 c1, .slice A2 n2 c2, .int .i64 sm, .slice A3 n3 c3] 74)).alloc (.cells #[.int .i64 lv, .slice B1_ n1 d1, .slice B2_ n2 d2, .int .i64 sm, .slice B3_ n3 d3] 74)).frozen? ⟨w.heap.size, 4, none⟩ = false := (b2.2 4 _ rfl).2
  have ca2_0 : ((w.alloc (.cells #[.int .i64 lv, .slice A1 n1 c1, .slice A2 n2 c2, .int .i64 sm, .slice A3 n3 c3] 74)).alloc (.cells #[.int .i64 lv, .slice B1_ n1 d1, .slice B2_ n2 d2, .int .i64 sm, .slice B3_ n3 d3] 74)).cell? ⟨w.heap.size + 1, 0, none⟩ = some (.int .i64 lv) := (b3.2 0 _ rfl).1
  have fa2_0 : ((w.alloc (.cells #[.int .i64 lv, .slice A1 n1 c1, .slice A2 n2 c2, .int .i64 sm, .slice A3 n3 c3] 74)).alloc (.cells #[.int .i64 lv, .slice B1_ n1 d1, .slice B2_ n2 d2, .int .i64 sm, .slice B3_ n3 d3] 74)).frozen? ⟨w.heap.size + 1, 0, none⟩ = false := (b3.2 0 _ rfl).2
  have ca2_1 : ((w.alloc (.cells #[.int .i64 lv, .slice A1 n1 c1, .slice A2 n2 c2, .int .i64 sm, .slice A3 n3 c3] 74)).alloc (.cells #[.int .i64 lv, .slice B1_ n1 d1, .slice B2_ n2 d2, .int .i64 sm, .slice B3_ n3 d3] 74)).cell? ⟨w.heap.size + 1, 1, none⟩ = some (.slice B1_ n1 d1) := (b3.2 1 _ rfl).1
  have fa2_1 : ((w.alloc (.cells #[.int .i64 lv, .slice A1 n1 c1, .slice A2 n2 c2, .int .i64 sm, .slice A3 n3 c3] 74)).alloc (.cells #[.int .i64 lv, .slice B1_ n1 d1, .slice B2_ n2 d2, .int .i64 sm, .slice B3_ n3 d3] 74)).frozen? ⟨w.heap.size + 1, 1, none⟩ = false := (b3.2 1 _ rfl).2
  have ca2_2 : ((w.alloc (.cells #[.int .i64 lv, .slice A1 n1 c1, .slice A2 n2 c2, .int .i64 sm, .slice A3 n3 c3] 74)).alloc (.cells #[.int .i64 lv, .slice B1_ n1 d1, .slice B2_ n2 d2, .int .i64 sm, .slice B3_ n3 d3] 74)).cell? ⟨w.heap.size + 1, 2, none⟩ = some (.slice B2_ n2 d2) := (b3.2 2 _ rfl).1
  have fa2_2 : ((w.alloc (.cells #[.int .i64 lv, .slice A1 n1 c1, .slice A2 n2 c2, .int .i64 sm, .slice A3 n3 c3] 74)).alloc (.cells #[.int .i64 lv, .slice B1_ n1 d1, .slice B2_ n2 d2, .int .i64 sm, .slice B3_ n3 d3] 74)).frozen? ⟨w.heap.size + 1, 2, none⟩ = false := (b3.2 2 _ rfl).2
  have ca2_3 : ((w.alloc (.cells #[.int .i64 lv, .slice A1 n1 c1, .slice A2 n2 c2, .int .i64 sm, .slice A3 n3 c3] 74)).alloc (.cells #[.int .i64 lv, .slice B1_ n1 d1, .slice B2_ n2 d2, .int .i64 sm, .slice B3_ n3 d3] 74)).cell? ⟨w.heap.size + 1, 3, none⟩ = some (.int .i64 sm) := (b3.2 3 _ rfl).1
  have fa2_3 : ((w.alloc (.cells #[.int .i64 lv, .slice A1 n1 c1, .slice A2 n2 c2, .int .i64 sm, .slice A3 n3 c3] 74)).alloc (.cells #[.int .i64 lv, .slice B1_ n1 d1, .slice B2_ n2 d2, .int .i64 sm, .slice B3_ n3 d3] 74)).frozen? ⟨w.heap.size + 1, 3, none⟩ = false := (b3.2 3 _ rfl).2
  have ca2_4 : ((w.alloc (.cells #[.int .i64 lv, .slice A1 n1 c1, .slice A2 n2 c2, .int .i64 sm, .slice A3 n3 c3] 74)).alloc (.cells #[.int .i64 lv, .slice B1_ n1 d1, .slice B2_ n2 d2, .int .i64 sm, .slice B3_ n3 d3] 74)).cell? ⟨w.heap.size + 1, 4, none⟩ = some (.slice B3_ n3 d3) := (b3.2 4 _ rfl).1
  have fa2_4 : ((w.alloc (.cells #[.int .i64 lv, .slice A1 n1 c1, .slice A2 n2 c2, .int .i64 sm, .slice A3 n3 c3] 74)).alloc (.cells #[.int .i64 lv, .slice B1_ n1 d1, .slice B2_ n2 d2, .int .i64 sm, .slice B3_ n3 d3] 74)).frozen? ⟨w.heap.size + 1, 4, none⟩ = false := (b3.2 4 _ rfl).2
  go_wp2_with fail
  clear ca1_0 fa1_0 ca1_1 fa1_1 ca1_2 fa1_2 ca1_3 fa1_3 ca1_4 fa1_4 ca2_0 fa2_0 ca2_1 fa2_1 ca2_2 fa2_2 ca2_3 fa2_3 ca2_4 fa2_4
  refine (eqTable_true (h.i1.keeps kw) (h.i2.keeps kw) (g.i1.keeps kw) (g.i2.keeps kw)).mono ?_
  rintro e w3 ⟨rfl, k3⟩
  replace b2 := b2.keeps k3
  replace b3 := b3.keeps k3
  replace kw := Keeps.trans kw k3
  have lt4 := b3.lt
  have sz5 := kw.size
  clear k3
  have ca6_0 : w3.cell? ⟨w.heap.size, 0, none⟩ = some (.int .i64 lv) := (b2.2 0 _ rfl).1
  have fa6_0 : w3.frozen? ⟨w.heap.size, 0, none⟩ = false := (b2.2 0 _ rfl).2
  have ca6_1 : w3.cell? ⟨w.heap.size, 1, none⟩ = some (.slice A1 n1 c1) := (b2.2 1 _ rfl).1
  have fa6_1 : w3.frozen? ⟨w.heap.size, 1, none⟩ = false := (b2.2 1 _ rfl).2
  have ca6_2 : w3.cell? ⟨w.heap.size, 2, none⟩ = some (.slice A2 n2 c2) := (b2.2 2 _ rfl).1
  have fa6_2 : w3.frozen? ⟨w.heap.size, 2, none⟩ = false := (b2.2 2 _ rfl).2
  have ca6_3 : w3.cell? ⟨w.heap.size, 3, none⟩ = some (.int .i64 sm) := (b2.2 3 _ rfl).1
  have fa6_3 : w3.frozen? ⟨w.heap.size, 3, none⟩ = false := (b2.2 3 _ rfl).2
  have ca6_4 : w3.cell? ⟨w.heap.size, 4, none⟩ = some (.slice A3 n3 c3) := (b2.2 4 _ rfl).1
  have fa6_4 : w3.frozen? ⟨w.heap.size, 4, none⟩ = false := (b2.2 4 _ rfl).2
  have ca7_0 : w3.cell? ⟨w.heap.size + 1, 0, none⟩ = some (.int .i64 lv) := (b3.2 0 _ rfl).1
  have fa7_0 : w3.frozen? ⟨w.heap.size + 1, 0, none⟩ = false := (b3.2 0 _ rfl).2
  have ca7_1 : w3.cell? ⟨w.heap.size + 1, 1, none⟩ = some (.slice B1_ n1 d1) := (b3.2 1 _ rfl).1
  have fa7_1 : w3.frozen? ⟨w.heap.size + 1, 1, none⟩ = false := (b3.2 1 _ rfl).2
  have ca7_2 : w3.cell? ⟨w.heap.size + 1, 2, none⟩ = some (.slice B2_ n2 d2) := (b3.2 2 _ rfl).1
  have fa7_2 : w3.frozen? ⟨w.heap.size + 1, 2, none⟩ = false := (b3.2 2 _ rfl).2
  have ca7_3 : w3.cell? ⟨w.heap.size + 1, 3, none⟩ = some (.int .i64 sm) := (b3.2 3 _ rfl).1
  have fa7_3 : w3.frozen? ⟨w.heap.size + 1, 3, none⟩ = false := (b3.2 3 _ rfl).2
  have ca7_4 : w3.cell? ⟨w.heap.size + 1, 4, none⟩ = some (.slice B3_ n3 d3) := (b3.2 4 _ rfl).1
  have fa7_4 : w3.frozen? ⟨w.heap.size + 1, 4, none⟩ = false := (b3.2 4 _ rfl).2
  go_wp2_with fail
  clear ca6_0 fa6_0 ca6_1 fa6_1 ca6_2 fa6_2 ca6_3 fa6_3 ca6_4 fa6_4 ca7_0 fa7_0 ca7_1 fa7_1 ca7_2 fa7_2 ca7_3 fa7_3 ca7_4 fa7_4
  refine (eqIntS_true (h.i3.keeps kw) (g.i3.keeps kw)).mono ?_
  rintro e w8 ⟨rfl, k8⟩
  replace k8 := Quiet.keeps k8
  replace b2 := b2.keeps k8
  replace b3 := b3.keeps k8
  replace kw := Keeps.trans kw k8
  have lt9 := b3.lt
  have sz10 := kw.size
  clear k8
  go_wp2_with fail
  go_ret
  exact ⟨rfl, kw⟩
set_option maxRecDepth 100000 in
set_option maxHeartbeats 1600000 in
theorem markTable_any {A1 A2 : Option Addr} {n1 n2 c1 c2 : Nat} {lv sm : Int} {w : World} {l1 u1 l2 u2 : Nat} {xs ys : List Int} {k0 : Int} (h1 : Mine w l1 u1 A1 n1 xs) (h2 : Mine w l2 u2 A2 n2 ys) (hd : u1 ≤ l2 ∨ u2 ≤ l1) (hk0 : 0 ≤ k0) (hk1 : k0 ≤ 100000000) :
    Calls Try.prog 140 #[.agg #[.int .i64 lv, .slice A1 n1 c1, .slice A2 n2 c2, .int .i64 sm], .int .i64 k0] w fun e w' => e = .returned (.int .i64 (k0 + n1 + n2)) ∧ Mine w' l1 u1 A1 n1 (iota k0 n1) ∧ Mine w' l2 u2 A2 n2 (iota (k0 + n1) n2) ∧ ∃ wm, Fr l1 u1 w wm ∧ Fr l2 u2 wm w' := by
  have t1 := h1.1.top
  have t2 := h2.1.top
  have s1 := h1.1.le
  have s2 := h2.1.le
  go_enter Try.func140, Try.ntmps140
  have kw := keeps_refl w
  replace kw := Keeps.trans kw (keeps_alloc w (.cells #[.int .i64 lv, .slice A1 n1 c1, .slice A2 n2 c2, .int .i64 sm] 72))
  have b2 : Bl (w.alloc (.cells #[.int .i64 lv, .slice A1 n1 c1, .slice A2 n2 c2, .int .i64 sm] 72)) w.heap.size [.int .i64 lv, .slice A1 n1 c1, .slice A2 n2 c2, .int .i64 sm] := Bl.new' (by simp) (by simp)
  replace h1 := h1.keeps kw
  replace h2 := h2.keeps kw
  have ca1_0 : (w.alloc (.cells #[.int .i64 lv, .slice A1 n1 c1, .slice A2 n2 c2, .int .i64 sm] 72)).cell? ⟨w.heap.size, 0, none⟩ = some (.int .i64 lv) := (b2.2 0 _ rfl).1
  have fa1_0 : (w.alloc (.cells #[.int .i64 lv, .slice A1 n1 c1, .slice A2 n2 c2, .int .i64 sm] 72)).frozen? ⟨w.heap.size, 0, none⟩ = false := (b2.2 0 _ rfl).2
  have ca1_1 : (w.alloc (.cells #[.int .i64 lv, .slice A1 n1 c1, .slice A2 n2 c2, .int .i64 sm] 72)).cell? ⟨w.heap.size, 1, none⟩ = some (.slice A1 n1 c1) := (b2.2 1 _ rfl).1
  have fa1_1 : (w.alloc (.cells #[.int .i64 lv, .slice A1 n1 c1, .slice A2 n2 c2, .int .i64 sm] 72)).frozen? ⟨w.heap.size, 1, none⟩ = false := (b2.2 1 _ rfl).2
  have ca1_2 : (w.alloc (.cells #[.int .i64 lv, .slice A1 n1 c1, .slice A2 n2 c2, .int .i64 sm] 72)).cell? ⟨w.heap.size, 2, none⟩ = some (.slice A2 n2 c2) := (b2.2 2 _ rfl).1
  have fa1_2 : (w.alloc (.cells #[.int .i64 lv, .slice A1 n1 c1, .slice A2 n2 c2, .int .i64 sm] 72)).frozen? ⟨w.heap.size, 2, none⟩ = false := (b2.2 2 _ rfl).2
  have ca1_3 : (w.alloc (.cells #[.int .i64 lv, .slice A1 n1 c1, .slice A2 n2 c2, .int .i64 sm] 72)).cell? ⟨w.heap.size, 3, none⟩ = some (.int .i64 sm) := (b2.2 3 _ rfl).1
  have fa1_3 : (w.alloc (.cells #[.int .i64 lv, .slice A1 n1 c1, .slice A2 n2 c2, .int .i64 sm] 72)).frozen? ⟨w.heap.size, 3, none⟩ = false := (b2.2 3 _ rfl).2
  go_wp2_with fail
  clear ca1_0 fa1_0 ca1_1 fa1_1 ca1_2 fa1_2 ca1_3 fa1_3
  refine (markIntS_any h1 hk0 (by omega)).mono ?_
  rintro e wm ⟨rfl, i1, f1⟩
  replace b2 := b2.fr f1 (by omega)
  replace h2 := h2.fr f1 (by omega)
  have ssf1 := f1.size
  have F1 := hid ((Fr.of_keeps kw l1 u1).trans f1)
  clear f1 h1 kw
  have ca2_0 : wm.cell? ⟨w.heap.size, 0, none⟩ = some (.int .i64 lv) := (b2.2 0 _ rfl).1
  have fa2_0 : wm.frozen? ⟨w.heap.size, 0, none⟩ = false := (b2.2 0 _ rfl).2
  have ca2_1 : wm.cell? ⟨w.heap.size, 1, none⟩ = some (.slice A1 n1 c1) := (b2.2 1 _ rfl).1
  have fa2_1 : wm.frozen? ⟨w.heap.size, 1, none⟩ = false := (b2.2 1 _ rfl).2
  have ca2_2 : wm.cell? ⟨w.heap.size, 2, none⟩ = some (.slice A2 n2 c2) := (b2.2 2 _ rfl).1
  have fa2_2 : wm.frozen? ⟨w.heap.size, 2, none⟩ = false := (b2.2 2 _ rfl).2
  have ca2_3 : wm.cell? ⟨w.heap.size, 3, none⟩ = some (.int .i64 sm) := (b2.2 3 _ rfl).1
  have fa2_3 : wm.frozen? ⟨w.heap.size, 3, none⟩ = false := (b2.2 3 _ rfl).2
  go_wp2_with fail
  clear ca2_0 fa2_0 ca2_1 fa2_1 ca2_2 fa2_2 ca2_3 fa2_3
  refine (markIntS_any h2 (by omega) (by omega)).mono ?_
  rintro e wn ⟨rfl, i2, f2⟩
  replace b2 := b2.fr f2 (by omega)
  replace i1 := i1.fr f2 (by omega)
  have ssf2 := f2.size
  have F2 := hid f2
  clear f2 h2
  go_wp2_with fail
  go_ret
  exact ⟨rfl, i1, i2, wm, F1.out, F2.out⟩
set_option maxRecDepth 100000 in
set_option maxHeartbeats 1600000 in
theorem markPublished_any {A1 A2 A3 : Option Addr} {n1 n2 n3 c1 c2 c3 : Nat} {lv sm : Int} {w : World} {xs ys zs : List Int} {lo hi : Nat} {k0 : Int} (h : PubM w lo hi A1 n1 xs A2 n2 ys A3 n3 zs) (hk0 : 0 ≤ k0) (hk1 : k0 ≤ 100) :
    Calls Try.prog 49 #[.agg #[.int .i64 lv, .slice A1 n1 c1, .slice A2 n2 c2, .int .i64 sm, .slice A3 n3 c3], .int .i64 k0] w fun e w' => e = .returned (.int .i64 (k0 + n1 + n2 + n3)) ∧ PubM w' lo hi A1 n1 (iota k0 n1) A2 n2 (iota (k0 + n1) n2) A3 n3 (iota (k0 + n1 + n2) n3) ∧ Fr lo hi w w' := by
  obtain ⟨ht, l1, u1, l2, u2, l3, u3, hq, d1, d2, d3, h1, h2, h3⟩ := h
  have t1 := h1.1.top
  have t2 := h2.1.top
  have t3 := h3.1.top
  have s1 := h1.1.le
  have s2 := h2.1.le
  have s3 := h3.1.le
  go_enter Try.func49, Try.ntmps49
  have kw := keeps_refl w
  replace kw := Keeps.trans kw (keeps_alloc w (.cells #[.int .i64 lv, .slice A1 n1 c1, .slice A2 n2 c2, .int .i64 sm, .slice A3 n3 c3] 74))
  have b2 : Bl (w.alloc (.cells #[.int .i64 lv, .slice A1 n1 c1, .slice A2 n2 c2, .int .i64 sm, .slice A3 n3 c3] 74)) w.heap.size [.int .i64 lv, .slice A1 n1 c1, .slice A2 n2 c2, .int .i64 sm, .slice A3 n3 c3] := Bl.new' (by simp) (by simp)
  replace h1 := h1.keeps kw
  replace h2 := h2.keeps kw
  replace h3 := h3.keeps kw
  have ca1_0 : (w.alloc (.cells #[.int .i64 lv, .slice A1 n1 c1, .slice A2 n2 c2, .int .i64 sm, .slice A3 n3 c3] 74)).cell? ⟨w.heap.size, 0, none⟩ = some (.int .i64 lv) := (b2.2 0 _ rfl).1
  have fa1_0 : (w.alloc (.cells #[.int .i64 lv, .slice A1 n1 c1, .slice A2 n2 c2, .int .i64 sm, .slice A3 n3 c3] 74)).frozen? ⟨w.heap.size, 0, none⟩ = false := (b2.2 0 _ rfl).2
  have ca1_1 : (w.alloc (.cells #[.int .i64 lv, .slice A1 n1 c1, .slice A2 n2 c2, .int .i64 sm, .slice A3 n3 c3] 74)).cell? ⟨w.heap.size, 1, none⟩ = some (.slice A1 n1 c1) := (b2.2 1 _ rfl).1
  have fa1_1 : (w.alloc (.cells #[.int .i64 lv, .slice A1 n1 c1, .slice A2 n2 c2, .int .i64 sm, .slice A3 n3 c3] 74)).frozen? ⟨w.heap.size, 1, none⟩ = false := (b2.2 1 _ rfl).2
  have ca1_2 : (w.alloc (.cells #[.int .i64 lv, .slice A1 n1 c1, .slice A2 n2 c2, .int .i64 sm, .slice A3 n3 c3] 74)).cell? ⟨w.heap.size, 2, none⟩ = some (.slice A2 n2 c2) := (b2.2 2 _ rfl).1
  have fa1_2 : (w.alloc (.cells #[.int .i64 lv, .slice A1 n1 c1, .slice A2 n2 c2, .int .i64 sm, .slice A3 n3 c3] 74)).frozen? ⟨w.heap.size, 2, none⟩ = false := (b2.2 2 _ rfl).2
  have ca1_3 : (w.alloc (.cells #[.int .i64 lv, .slice A1 n1 c1, .slice A2 n2 c2, .int .i64 sm, .slice A3 n3 c3] 74)).cell? ⟨w.heap.size, 3, none⟩ = some (.int .i64 sm) := (b2.2 3 _ rfl).1
  have fa1_3 : (w.alloc (.cells #[.int .i64 lv, .slice A1 n1 c1, .slice A2 n2 c2, .int .i64 sm, .slice A3 n3 c3] 74)).frozen? ⟨w.heap.size, 3, none⟩ = false := (b2.2 3 _ rfl).2
  have ca1_4 : (w.alloc (.cells #[.int .i64 lv, .slice A1 n1 c1, .slice A2 n2 c2, .int .i64 sm, .slice A3 n3 c3] 74)).cell? ⟨w.heap.size, 4, none⟩ = some (.slice A3 n3 c3) := (b2.2 4 _ rfl).1
  have fa1_4 : (w.alloc (.cells #[.int .i64 lv, .slice A1 n1 c1, .slice A2 n2 c2, .int .i64 sm, .slice A3 n3 c3] 74)).frozen? ⟨w.heap.size, 4, none⟩ = false := (b2.2 4 _ rfl).2
  go_wp2_with fail
  clear ca1_0 fa1_0 ca1_1 fa1_1 ca1_2 fa1_2 ca1_3 fa1_3 ca1_4 fa1_4
  refine (markTable_any h1 h2 d1 hk0 (by omega)).mono ?_
  rintro e wn ⟨rfl, i1, i2, wm, f1, f2⟩
  have ss1 := f1.size
  replace b2 := (b2.fr f1 (by omega)).fr f2 (by omega)
  replace h3 := (h3.fr f1 (by omega)).fr f2 (by omega)
  have ss2 := f2.size
  have F1 := hid ((Fr.of_keeps kw lo hi).trans ((f1.widen (lo' := lo) (hi' := hi) (by omega) (by omega)).trans (f2.widen (lo' := lo) (hi' := hi) (by omega) (by omega))))
  clear f1 f2 h1 h2 kw
  have ca2_0 : wn.cell? ⟨w.heap.size, 0, none⟩ = some (.int .i64 lv) := (b2.2 0 _ rfl).1
  have fa2_0 : wn.frozen? ⟨w.heap.size, 0, none⟩ = false := (b2.2 0 _ rfl).2
  have ca2_1 : wn.cell? ⟨w.heap.size, 1, none⟩ = some (.slice A1 n1 c1) := (b2.2 1 _ rfl).1
  have fa2_1 : wn.frozen? ⟨w.heap.size, 1, none⟩ = false := (b2.2 1 _ rfl).2
  have ca2_2 : wn.cell? ⟨w.heap.size, 2, none⟩ = some (.slice A2 n2 c2) := (b2.2 2 _ rfl).1
  have fa2_2 : wn.frozen? ⟨w.heap.size, 2, none⟩ = false := (b2.2 2 _ rfl).2
  have ca2_3 : wn.cell? ⟨w.heap.size, 3, none⟩ = some (.int .i64 sm) := (b2.2 3 _ rfl).1
  have fa2_3 : wn.frozen? ⟨w.heap.size, 3, none⟩ = false := (b2.2 3 _ rfl).2
  have ca2_4 : wn.cell? ⟨w.heap.size, 4, none⟩ = some (.slice A3 n3 c3) := (b2.2 4 _ rfl).1
  have fa2_4 : wn.frozen? ⟨w.heap.size, 4, none⟩ = false := (b2.2 4 _ rfl).2
  go_wp2_with fail
  clear ca2_0 fa2_0 ca2_1 fa2_1 ca2_2 fa2_2 ca2_3 fa2_3 ca2_4 fa2_4
  refine (markIntS_any h3 (by omega) (by omega)).mono ?_
  rintro e wo ⟨rfl, i3, f3⟩
  replace b2 := b2.fr f3 (by omega)
  replace i1 := i1.fr f3 (by omega)
  replace i2 := i2.fr f3 (by omega)
  have ssf3 := f3.size
  have F3 := hid (F1.out.trans (f3.widen (lo' := lo) (hi' := hi) (by omega) (by omega)))
  clear F1 f3 h3
  go_wp2_with fail
  go_ret
  exact ⟨rfl, ⟨by have := F3.out.size; omega, l1, u1, l2, u2, l3, u3, hq, d1, d2, d3, i1, i2, i3⟩, F3.out⟩
set_option maxRecDepth 100000 in
set_option maxHeartbeats 1600000 in
theorem heldTable_any {A1 A2 : Option Addr} {n1 n2 c1 c2 : Nat} {lv sm : Int} {w : World} {l1 u1 l2 u2 : Nat} {k0 : Int} (h1 : Ints w l1 u1 A1 n1 (iota k0 n1)) (h2 : Ints w l2 u2 A2 n2 (iota (k0 + n1) n2)) (hk0 : 0 ≤ k0) (hk1 : k0 ≤ 100000000) :
    Calls Try.prog 141 #[.agg #[.int .i64 lv, .slice A1 n1 c1, .slice A2 n2 c2, .int .i64 sm], .int .i64 k0] w fun e w' => e = .returned (.int .i64 (k0 + n1 + n2)) ∧ Keeps w w' := by
  have s1 := h1.le
  have s2 := h2.le
  have t1 : ¬ (k0 + (n1 : Int) < 0) := by omega
  have t2 : ¬ (k0 + (n1 : Int) + (n2 : Int) < 0) := by omega
  go_enter Try.func141, Try.ntmps141
  have kw := keeps_refl w
  replace kw := Keeps.trans kw (keeps_alloc w (.cells #[.int .i64 lv, .slice A1 n1 c1, .slice A2 n2 c2, .int .i64 sm] 72))
  have b2 : Bl (w.alloc (.cells #[.int .i64 lv, .slice A1 n1 c1, .slice A2 n2 c2, .int .i64 sm] 72)) w.heap.size [.int .i64 lv, .slice A1 n1 c1, .slice A2 n2 c2, .int .i64 sm] := Bl.new' (by simp) (by simp)
  have ca1_0 : (w.alloc (.cells #[.int .i64 lv, .slice A1 n1 c1, .slice A2 n2 c2, .int .i64 sm] 72)).cell? ⟨w.heap.size, 0, none⟩ = some (.int .i64 lv) := (b2.2 0 _ rfl).1
  have fa1_0 : (w.alloc (.cells #[.int .i64 lv, .slice A1 n1 c1, .slice A2 n2 c2, .int .i64 sm] 72)).frozen? ⟨w.heap.size, 0, none⟩ = false := (b2.2 0 _ rfl).2
  have ca1_1 : (w.alloc (.cells #[.int .i64 lv, .slice A1 n1 c1, .slice A2 n2 c2, .int .i64 sm] 72)).cell? ⟨w.heap.size, 1, none⟩ = some (.slice A1 n1 c1) := (b2.2 1 _ rfl).1
  have fa1_1 : (w.alloc (.cells #[.int .i64 lv, .slice A1 n1 c1, .slice A2 n2 c2, .int .i64 sm] 72)).frozen? ⟨w.heap.size, 1, none⟩ = false := (b2.2 1 _ rfl).2
  have ca1_2 : (w.alloc (.cells #[.int .i64 lv, .slice A1 n1 c1, .slice A2 n2 c2, .int .i64 sm] 72)).cell? ⟨w.heap.size, 2, none⟩ = some (.slice A2 n2 c2) := (b2.2 2 _ rfl).1
  have fa1_2 : (w.alloc (.cells #[.int .i64 lv, .slice A1 n1 c1, .slice A2 n2 c2, .int .i64 sm] 72)).frozen? ⟨w.heap.size, 2, none⟩ = false := (b2.2 2 _ rfl).2
  have ca1_3 : (w.alloc (.cells #[.int .i64 lv, .slice A1 n1 c1, .slice A2 n2 c2, .int .i64 sm] 72)).cell? ⟨w.heap.size, 3, none⟩ = some (.int .i64 sm) := (b2.2 3 _ rfl).1
  have fa1_3 : (w.alloc (.cells #[.int .i64 lv, .slice A1 n1 c1, .slice A2 n2 c2, .int .i64 sm] 72)).frozen? ⟨w.heap.size, 3, none⟩ = false := (b2.2 3 _ rfl).2
  go_wp2_with fail
  clear ca1_0 fa1_0 ca1_1 fa1_1 ca1_2 fa1_2 ca1_3 fa1_3
  refine (heldIntS_any (h1.keeps kw) hk0 (by omega)).mono ?_
  rintro e w' ⟨rfl, rfl⟩
  have ca2_0 : (w.alloc (.cells #[.int .i64 lv, .slice A1 n1 c1, .slice A2 n2 c2, .int .i64 sm] 72)).cell? ⟨w.heap.size, 0, none⟩ = some (.int .i64 lv) := (b2.2 0 _ rfl).1
  have fa2_0 : (w.alloc (.cells #[.int .i64 lv, .slice A1 n1 c1, .slice A2 n2 c2, .int .i64 sm] 72)).frozen? ⟨w.heap.size, 0, none⟩ = false := (b2.2 0 _ rfl).2
  have ca2_1 : (w.alloc (.cells #[.int .i64 lv, .slice A1 n1 c1, .slice A2 n2 c2, .int .i64 sm] 72)).cell? ⟨w.heap.size, 1, none⟩ = some (.slice A1 n1 c1) := (b2.2 1 _ rfl).1
  have fa2_1 : (w.alloc (.cells #[.int .i64 lv, .slice A1 n1 c1, .slice A2 n2 c2, .int .i64 sm] 72)).frozen? ⟨w.heap.size, 1, none⟩ = false := (b2.2 1 _ rfl).2
  have ca2_2 : (w.alloc (.cells #[.int .i64 lv, .slice A1 n1 c1, .slice A2 n2 c2, .int .i64 sm] 72)).cell? ⟨w.heap.size, 2, none⟩ = some (.slice A2 n2 c2) := (b2.2 2 _ rfl).1
  have fa2_2 : (w.alloc (.cells #[.int .i64 lv, .slice A1 n1 c1, .slice A2 n2 c2, .int .i64 sm] 72)).frozen? ⟨w.heap.size, 2, none⟩ = false := (b2.2 2 _ rfl).2
  have ca2_3 : (w.alloc (.cells #[.int .i64 lv, .slice A1 n1 c1, .slice A2 n2 c2, .int .i64 sm] 72)).cell? ⟨w.heap.size, 3, none⟩ = some (.int .i64 sm) := (b2.2 3 _ rfl).1
  have fa2_3 : (w.alloc (.cells #[.int .i64 lv, .slice A1 n1 c1, .slice A2 n2 c2, .int .i64 sm] 72)).frozen? ⟨w.heap.size, 3, none⟩ = false := (b2.2 3 _ rfl).2
  go_wp2_with fail
  clear ca2_0 fa2_0 ca2_1 fa2_1 ca2_2 fa2_2 ca2_3 fa2_3
  refine (heldIntS_any (h2.keeps kw) (by omega) (by omega)).mono ?_
  rintro e w' ⟨rfl, rfl⟩
  go_wp2_with fail
  go_ret
  exact ⟨rfl, kw⟩
set_option maxRecDepth 100000 in
set_option maxHeartbeats 1600000 in
theorem heldPublished_any {A1 A2 A3 : Option Addr} {n1 n2 n3 c1 c2 c3 : Nat} {lv sm : Int} {w : World} {lo hi : Nat} {k0 : Int} (h : PubI w lo hi A1 n1 (iota k0 n1) A2 n2 (iota (k0 + n1) n2) A3 n3 (iota (k0 + n1 + n2) n3)) (hk0 : 0 ≤ k0) (hk1 : k0 ≤ 100) :
    Calls Try.prog 50 #[.agg #[.int .i64 lv, .slice A1 n1 c1, .slice A2 n2 c2, .int .i64 sm, .slice A3 n3 c3], .int .i64 k0] w fun e w' => e = .returned (.int .i64 (k0 + n1 + n2 + n3)) ∧ Keeps w w' := by
  have s1 := h.i1.le
  have s2 := h.i2.le
  have s3 := h.i3.le
  have t1 : ¬ (k0 + (n1 : Int) + (n2 : Int) < 0) := by omega
  have t2 : ¬ (k0 + (n1 : Int) + (n2 : Int) + (n3 : Int) < 0) := by omega
  go_enter Try.func50, Try.ntmps50
  have kw := keeps_refl w
  replace kw := Keeps.trans kw (keeps_alloc w (.cells #[.int .i64 lv, .slice A1 n1 c1, .slice A2 n2 c2, .int .i64 sm, .slice A3 n3 c3] 74))
  have b2 : Bl (w.alloc (.cells #[.int .i64 lv, .slice A1 n1 c1, .slice A2 n2 c2, .int .i64 sm, .slice A3 n3 c3] 74)) w.heap.size [.int .i64 lv, .slice A1 n1 c1, .slice A2 n2 c2, .int .i64 sm, .slice A3 n3 c3] := Bl.new' (by simp) (by simp)
  have ca1_0 : (w.alloc (.cells #[.int .i64 lv, .slice A1 n1 c1, .slice A2 n2 c2, .int .i64 sm, .slice A3 n3 c3] 74)).cell? ⟨w.heap.size, 0, none⟩ = some (.int .i64 lv) := (b2.2 0 _ rfl).1
  have fa1_0 : (w.alloc (.cells #[.int .i64 lv, .slice A1 n1 c1, .slice A2 n2 c2, .int .i64 sm, .slice A3 n3 c3] 74)).frozen? ⟨w.heap.size, 0, none⟩ = false := (b2.2 0 _ rfl).2
  have ca1_1 : (w.alloc (.cells #[.int .i64 lv, .slice A1 n1 c1, .slice A2 n2 c2, .int .i64 sm, .slice A3 n3 c3] 74)).cell? ⟨w.heap.size, 1, none⟩ = some (.slice A1 n1 c1) := (b2.2 1 _ rfl).1
  have fa1_1 : (w.alloc (.cells #[.int .i64 lv, .slice A1 n1 c1, .slice A2 n2 c2, .int .i64 sm, .slice A3 n3 c3] 74)).frozen? ⟨w.heap.size, 1, none⟩ = false := (b2.2 1 _ rfl).2
  have ca1_2 : (w.alloc (.cells #[.int .i64 lv, .slice A1 n1 c1, .slice A2 n2 c2, .int .i64 sm, .slice A3 n3 c3] 74)).cell? ⟨w.heap.size, 2, none⟩ = some (.slice A2 n2 c2) := (b2.2 2 _ rfl).1
  have fa1_2 : (w.alloc (.cells #[.int .i64 lv, .slice A1 n1 c1, .slice A2 n2 c2, .int .i64 sm, .slice A3 n3 c3] 74)).frozen? ⟨w.heap.size, 2, none⟩ = false := (b2.2 2 _ rfl).2
  have ca1_3 : (w.alloc (.cells #[.int .i64 lv, .slice A1 n1 c1, .slice A2 n2 c2, .int .i64 sm, .slice A3 n3 c3] 74)).cell? ⟨w.heap.size, 3, none⟩ = some (.int .i64 sm) := (b2.2 3 _ rfl).1
  have fa1_3 : (w.alloc (.cells #[.int .i64 lv, .slice A1 n1 c1, .slice A2 n2 c2, .int .i64 sm, .slice A3 n3 c3] 74)).frozen? ⟨w.heap.size, 3, none⟩ = false := (b2.2 3 _ rfl).2
  have ca1_4 : (w.alloc (.cells #[.int .i64 lv, .slice A1 n1 c1, .slice A2 n2 c2, .int .i64 sm, .slice A3 n3 c3] 74)).cell? ⟨w.heap.size, 4, none⟩ = some (.slice A3 n3 c3) := (b2.2 4 _ rfl).1
  have fa1_4 : (w.alloc (.cells #[.int .i64 lv, .slice A1 n1 c1, .slice A2 n2 c2, .int .i64 sm, .slice A3 n3 c3] 74)).frozen? ⟨w.heap.size, 4, none⟩ = false := (b2.2 4 _ rfl).2
  go_wp2_with fail
  clear ca1_0 fa1_0 ca1_1 fa1_1 ca1_2 fa1_2 ca1_3 fa1_3 ca1_4 fa1_4
  refine (heldTable_any (h.i1.keeps kw) (h.i2.keeps kw) hk0 (by omega)).mono ?_
  rintro e w2 ⟨rfl, k2⟩
  replace b2 := b2.keeps k2
  replace kw := Keeps.trans kw k2
  have lt3 := b2.lt
  have sz4 := kw.size
  clear k2
  have ca5_0 : w2.cell? ⟨w.heap.size, 0, none⟩ = some (.int .i64 lv) := (b2.2 0 _ rfl).1
  have fa5_0 : w2.frozen? ⟨w.heap.size, 0, none⟩ = false := (b2.2 0 _ rfl).2
  have ca5_1 : w2.cell? ⟨w.heap.size, 1, none⟩ = some (.slice A1 n1 c1) := (b2.2 1 _ rfl).1
  have fa5_1 : w2.frozen? ⟨w.heap.size, 1, none⟩ = false := (b2.2 1 _ rfl).2
  have ca5_2 : w2.cell? ⟨w.heap.size, 2, none⟩ = some (.slice A2 n2 c2) := (b2.2 2 _ rfl).1
  have fa5_2 : w2.frozen? ⟨w.heap.size, 2, none⟩ = false := (b2.2 2 _ rfl).2
  have ca5_3 : w2.cell? ⟨w.heap.size, 3, none⟩ = some (.int .i64 sm) := (b2.2 3 _ rfl).1
  have fa5_3 : w2.frozen? ⟨w.heap.size, 3, none⟩ = false := (b2.2 3 _ rfl).2
  have ca5_4 : w2.cell? ⟨w.heap.size, 4, none⟩ = some (.slice A3 n3 c3) := (b2.2 4 _ rfl).1
  have fa5_4 : w2.frozen? ⟨w.heap.size, 4, none⟩ = false := (b2.2 4 _ rfl).2
  go_wp2_with fail
  clear ca5_0 fa5_0 ca5_1 fa5_1 ca5_2 fa5_2 ca5_3 fa5_3 ca5_4 fa5_4
  refine (heldIntS_any (h.i3.keeps kw) (by omega) (by omega)).mono ?_
  rintro e w' ⟨rfl, rfl⟩
  go_wp2_with fail
  go_ret
  exact ⟨rfl, kw⟩
theorem step_clone {W : World} {ops : Array Oper} {o : Oper} {a : Act} {K : Act → World → Prop} {Q : Exit → Act → World → Prop} {E : Prop} {lo hi n c : Nat} {A : Option Addr} {xs : List Int}
    (hx : Ints W lo hi A n xs) (h0 : NilOk A n c) (hgd : o.guard = none)
    (hrun : (execOp a.eval o).run Try.prog W = .ok (.enter 237 #[.slice A n c]) W)
    (h : ∀ A1 C1 w', Mine w' W.heap.size w'.heap.size A1 n xs → NilOk A1 n C1 → Keeps W w' → K (a.put o.dst (.slice A1 n C1)) w') :
    if Region.wanted o (yielded ops a.tmps) = true then Oper.wp Try.prog o a W K Q else E := by
  have hw : Region.wanted o (yielded ops a.tmps) = true := by simp [Region.wanted, hgd]
  rw [if_pos hw]
  unfold Oper.wp
  rw [hrun, Oper.upon_enter]
  refine (cloneI_copy hx h0).mono fun e w' hh => ?_
  obtain ⟨A1, C1, rfl, h1, h2, h3⟩ := hh
  exact h A1 C1 w' h1 h2 h3
theorem TabM.of_two {wA w' : World} {B lo1 n1 n2 : Nat} {A1 A2 : Option Addr} {xs ys : List Int} (m1 : Mine wA lo1 wA.heap.size A1 n1 xs) (k : Keeps wA w') (m2 : Mine w' wA.heap.size w'.heap.size A2 n2 ys) (h : B ≤ lo1) (h2 : lo1 ≤ wA.heap.size) : TabM w' B w'.heap.size A1 n1 xs A2 n2 ys :=
  ⟨Nat.le_refl _, lo1, wA.heap.size, wA.heap.size, w'.heap.size, h, k.size, by omega, Nat.le_refl _, .inl (Nat.le_refl _), m1.keeps k, m2⟩
theorem TabM.swap {w : World} {lo hi n1 n2 : Nat} {A1 A2 : Option Addr} {xs ys : List Int} (h : TabM w lo hi A1 n1 xs A2 n2 ys) : TabM w lo hi A2 n2 ys A1 n1 xs := by
  obtain ⟨ht, a1, b1, a2, b2, q1, q2, q3, q4, d1, m1, m2⟩ := h
  exact ⟨ht, a2, b2, a1, b1, q3, q4, q1, q2, d1.symm, m2, m1⟩

set_option maxRecDepth 100000 in
set_option maxHeartbeats 3200000 in
theorem copyTable_any {A1 A2 : Option Addr} {n1 n2 c1 c2 : Nat} {lv sm : Int} {w : World} {l1 u1 l2 u2 : Nat} {xs ys : List Int} (h1 : Ints w l1 u1 A1 n1 xs) (h2 : Ints w l2 u2 A2 n2 ys) (g1 : NilOk A1 n1 c1) (g2 : NilOk A2 n2 c2) :
    Calls Try.prog 203 #[.agg #[.int .i64 lv, .slice A1 n1 c1, .slice A2 n2 c2, .int .i64 sm]] w (TabRes w lv sm n1 xs n2 ys) := by
  go_enter Try.func203, Try.ntmps203
  have kw := keeps_refl w
  replace kw := Keeps.trans kw (keeps_alloc w (.cells #[.int .i64 lv, .slice A1 n1 c1, .slice A2 n2 c2, .int .i64 sm] 72))
  have b1 : Bl (w.alloc (.cells #[.int .i64 lv, .slice A1 n1 c1, .slice A2 n2 c2, .int .i64 sm] 72)) w.heap.size [.int .i64 lv, .slice A1 n1 c1, .slice A2 n2 c2, .int .i64 sm] := Bl.new' (by simp) (by simp)
  replace b1 := b1.keeps (keeps_alloc (w.alloc (.cells #[.int .i64 lv, .slice A1 n1 c1, .slice A2 n2 c2, .int .i64 sm] 72)) (.cells #[.int .i64 0, .slice none 0 0, .slice none 0 0, .int .i64 0] 72))
  replace kw := Keeps.trans kw (keeps_alloc (w.alloc (.cells #[.int .i64 lv, .slice A1 n1 c1, .slice A2 n2 c2, .int .i64 sm] 72)) (.cells #[.int .i64 0, .slice none 0 0, .slice none 0 0, .int .i64 0] 72))
  have b2 : Bl ((w.alloc (.cells #[.int .i64 lv, .slice A1 n1 c1, .slice A2 n2 c2, .int .i64 sm] 72)).alloc (.cells #[.int .i64 0, .slice none 0 0, .slice none 0 0, .int .i64 0] 72)) (w.heap.size + 1) [.int .i64 0, .slice none 0 0, .slice none 0 0, .int .i64 0] := Bl.new' (by simp) (by simp)
  go_wp2_with fail
  obtain ⟨W, hX⟩ : ∃ u : World, u = ((w.alloc (.cells #[.int .i64 lv, .slice A1 n1 c1, .slice A2 n2 c2, .int .i64 sm] 72)).alloc (.cells #[.int .i64 0, .slice none 0 0, .slice none 0 0, .int .i64 0] 72)) := ⟨_, rfl⟩
  have szX0 := hid (show W.heap.size = w.heap.size + 1 + 1 by rw [hX]; simp)
  rw [← hX] at b1
  rw [← hX] at b2
  rw [← hX] at kw
  rw [← hX]
  clear hX
  have sz2 := kw.size
  have hxD := h1.keeps (kw.trans (keeps_d0 W))
  have hyD := h2.keeps (kw.trans (keeps_d0 W))
  have b1D := b1.keeps (keeps_d0 W)
  have b2D := b2.keeps (keeps_d0 W)
  have sW : w.heap.size + 2 ≤ W.drew.heap.size := by show _ ≤ W.heap.size; rw [szX0.out]; omega
  have kwD := kw.trans (keeps_d0 W)
  have G1 := hid g1
  have G2 := hid g2
  clear g1 g2
  have z0D : W.drew.cell? ⟨w.heap.size, 0, none⟩ = some (.int .i64 lv) := (b1D.2 0 _ rfl).1
  have y0D : W.drew.frozen? ⟨w.heap.size, 0, none⟩ = false := (b1D.2 0 _ rfl).2
  have z1D : W.drew.cell? ⟨w.heap.size, 1, none⟩ = some (.slice A1 n1 c1) := (b1D.2 1 _ rfl).1
  have y1D : W.drew.frozen? ⟨w.heap.size, 1, none⟩ = false := (b1D.2 1 _ rfl).2
  have z2D : W.drew.cell? ⟨w.heap.size, 2, none⟩ = some (.slice A2 n2 c2) := (b1D.2 2 _ rfl).1
  have y2D : W.drew.frozen? ⟨w.heap.size, 2, none⟩ = false := (b1D.2 2 _ rfl).2
  have z3D : W.drew.cell? ⟨w.heap.size, 3, none⟩ = some (.int .i64 sm) := (b1D.2 3 _ rfl).1
  have y3D : W.drew.frozen? ⟨w.heap.size, 3, none⟩ = false := (b1D.2 3 _ rfl).2
  go_region_law ((first | (refine step_clone hyA G2.out rfl (by kernel_rfl) ?_; intro B2_ C2_ wZ m2 no2 kZ; have TT := hid (TabM.of_two (B := w.heap.size + 2) m1 kZ m2 (by omega) kA.size); have b1Z := b1A.keeps kZ; have b2Z := b2A.keeps kZ; have kwZ := (kwD.trans kA).trans kZ; have sZ := Nat.le_trans kA.size kZ.size; have z0wZ : wZ.cell? ⟨w.heap.size, 0, none⟩ = some (.int .i64 lv) := (b1Z.2 0 _ rfl).1; have y0wZ : wZ.frozen? ⟨w.heap.size, 0, none⟩ = false := (b1Z.2 0 _ rfl).2; have z1wZ : wZ.cell? ⟨w.heap.size, 1, none⟩ = some (.slice A1 n1 c1) := (b1Z.2 1 _ rfl).1; have y1wZ : wZ.frozen? ⟨w.heap.size, 1, none⟩ = false := (b1Z.2 1 _ rfl).2; have z2wZ : wZ.cell? ⟨w.heap.size, 2, none⟩ = some (.slice A2 n2 c2) := (b1Z.2 2 _ rfl).1; have y2wZ : wZ.frozen? ⟨w.heap.size, 2, none⟩ = false := (b1Z.2 2 _ rfl).2; have z3wZ : wZ.cell? ⟨w.heap.size, 3, none⟩ = some (.int .i64 sm) := (b1Z.2 3 _ rfl).1; have y3wZ : wZ.frozen? ⟨w.heap.size, 3, none⟩ = false := (b1Z.2 3 _ rfl).2) | (refine step_clone hxB G1.out rfl (by kernel_rfl) ?_; intro B1_ C1_ wZ m1 no1 kZ; have TT := hid ((TabM.of_two (B := w.heap.size + 2) m2 kZ m1 (by omega) kB.size).swap); have b1Z := b1B.keeps kZ; have b2Z := b2B.keeps kZ; have kwZ := (kwD.trans kB).trans kZ; have sZ := Nat.le_trans kB.size kZ.size; have z0wZ : wZ.cell? ⟨w.heap.size, 0, none⟩ = some (.int .i64 lv) := (b1Z.2 0 _ rfl).1; have y0wZ : wZ.frozen? ⟨w.heap.size, 0, none⟩ = false := (b1Z.2 0 _ rfl).2; have z1wZ : wZ.cell? ⟨w.heap.size, 1, none⟩ = some (.slice A1 n1 c1) := (b1Z.2 1 _ rfl).1; have y1wZ : wZ.frozen? ⟨w.heap.size, 1, none⟩ = false := (b1Z.2 1 _ rfl).2; have z2wZ : wZ.cell? ⟨w.heap.size, 2, none⟩ = some (.slice A2 n2 c2) := (b1Z.2 2 _ rfl).1; have y2wZ : wZ.frozen? ⟨w.heap.size, 2, none⟩ = false := (b1Z.2 2 _ rfl).2; have z3wZ : wZ.cell? ⟨w.heap.size, 3, none⟩ = some (.int .i64 sm) := (b1Z.2 3 _ rfl).1; have y3wZ : wZ.frozen? ⟨w.heap.size, 3, none⟩ = false := (b1Z.2 3 _ rfl).2) | (refine step_clone hxD G1.out rfl (by kernel_rfl) ?_; intro B1_ C1_ wA m1 no1 kA; have b1A := b1D.keeps kA; have b2A := b2D.keeps kA; have hyA := hyD.keeps kA; have z0wA : wA.cell? ⟨w.heap.size, 0, none⟩ = some (.int .i64 lv) := (b1A.2 0 _ rfl).1; have y0wA : wA.frozen? ⟨w.heap.size, 0, none⟩ = false := (b1A.2 0 _ rfl).2; have z1wA : wA.cell? ⟨w.heap.size, 1, none⟩ = some (.slice A1 n1 c1) := (b1A.2 1 _ rfl).1; have y1wA : wA.frozen? ⟨w.heap.size, 1, none⟩ = false := (b1A.2 1 _ rfl).2; have z2wA : wA.cell? ⟨w.heap.size, 2, none⟩ = some (.slice A2 n2 c2) := (b1A.2 2 _ rfl).1; have y2wA : wA.frozen? ⟨w.heap.size, 2, none⟩ = false := (b1A.2 2 _ rfl).2; have z3wA : wA.cell? ⟨w.heap.size, 3, none⟩ = some (.int .i64 sm) := (b1A.2 3 _ rfl).1; have y3wA : wA.frozen? ⟨w.heap.size, 3, none⟩ = false := (b1A.2 3 _ rfl).2) | (refine step_clone hyD G2.out rfl (by kernel_rfl) ?_; intro B2_ C2_ wB m2 no2 kB; have b1B := b1D.keeps kB; have b2B := b2D.keeps kB; have hxB := hxD.keeps kB; have z0wB : wB.cell? ⟨w.heap.size, 0, none⟩ = some (.int .i64 lv) := (b1B.2 0 _ rfl).1; have y0wB : wB.frozen? ⟨w.heap.size, 0, none⟩ = false := (b1B.2 0 _ rfl).2; have z1wB : wB.cell? ⟨w.heap.size, 1, none⟩ = some (.slice A1 n1 c1) := (b1B.2 1 _ rfl).1; have y1wB : wB.frozen? ⟨w.heap.size, 1, none⟩ = false := (b1B.2 1 _ rfl).2; have z2wB : wB.cell? ⟨w.heap.size, 2, none⟩ = some (.slice A2 n2 c2) := (b1B.2 2 _ rfl).1; have y2wB : wB.frozen? ⟨w.heap.size, 2, none⟩ = false := (b1B.2 2 _ rfl).2; have z3wB : wB.cell? ⟨w.heap.size, 3, none⟩ = some (.int .i64 sm) := (b1B.2 3 _ rfl).1; have y3wB : wB.frozen? ⟨w.heap.size, 3, none⟩ = false := (b1B.2 3 _ rfl).2)))
  all_goals (
    replace b2Z := b2Z.far (p := ⟨w.heap.size, 1, none⟩) (by show _ ≠ w.heap.size; omega) (.slice B1_ n1 C1_)
    replace kwZ := Below.setCell kwZ (p := ⟨w.heap.size, 1, none⟩) (by show _ ≤ w.heap.size; omega) (.slice B1_ n1 C1_)
    replace b1Z : Bl (wZ.setCell ⟨w.heap.size, 1, none⟩ (.slice B1_ n1 C1_)) w.heap.size [.int .i64 lv, .slice B1_ n1 C1_, .slice A2 n2 c2, .int .i64 sm] := b1Z.set 1 (.slice B1_ n1 C1_)
    replace b2Z := b2Z.far (p := ⟨w.heap.size, 2, none⟩) (by show _ ≠ w.heap.size; omega) (.slice B2_ n2 C2_)
    replace kwZ := Below.setCell kwZ (p := ⟨w.heap.size, 2, none⟩) (by show _ ≤ w.heap.size; omega) (.slice B2_ n2 C2_)
    replace b1Z : Bl ((wZ.setCell ⟨w.heap.size, 1, none⟩ (.slice B1_ n1 C1_)).setCell ⟨w.heap.size, 2, none⟩ (.slice B2_ n2 C2_)) w.heap.size [.int .i64 lv, .slice B1_ n1 C1_, .slice B2_ n2 C2_, .int .i64 sm] := b1Z.set 2 (.slice B2_ n2 C2_)
    have ca3_0 : ((wZ.setCell ⟨w.heap.size, 1, none⟩ (.slice B1_ n1 C1_)).setCell ⟨w.heap.size, 2, none⟩ (.slice B2_ n2 C2_)).cell? ⟨w.heap.size, 0, none⟩ = some (.int .i64 lv) := (b1Z.2 0 _ rfl).1
    have fa3_0 : ((wZ.setCell ⟨w.heap.size, 1, none⟩ (.slice B1_ n1 C1_)).setCell ⟨w.heap.size, 2, none⟩ (.slice B2_ n2 C2_)).frozen? ⟨w.heap.size, 0, none⟩ = false := (b1Z.2 0 _ rfl).2
    have ca3_1 : ((wZ.setCell ⟨w.heap.size, 1, none⟩ (.slice B1_ n1 C1_)).setCell ⟨w.heap.size, 2, none⟩ (.slice B2_ n2 C2_)).cell? ⟨w.heap.size, 1, none⟩ = some (.slice B1_ n1 C1_) := (b1Z.2 1 _ rfl).1
    have fa3_1 : ((wZ.setCell ⟨w.heap.size, 1, none⟩ (.slice B1_ n1 C1_)).setCell ⟨w.heap.size, 2, none⟩ (.slice B2_ n2 C2_)).frozen? ⟨w.heap.size, 1, none⟩ = false := (b1Z.2 1 _ rfl).2
    have ca3_2 : ((wZ.setCell ⟨w.heap.size, 1, none⟩ (.slice B1_ n1 C1_)).setCell ⟨w.heap.size, 2, none⟩ (.slice B2_ n2 C2_)).cell? ⟨w.heap.size, 2, none⟩ = some (.slice B2_ n2 C2_) := (b1Z.2 2 _ rfl).1
    have fa3_2 : ((wZ.setCell ⟨w.heap.size, 1, none⟩ (.slice B1_ n1 C1_)).setCell ⟨w.heap.size, 2, none⟩ (.slice B2_ n2 C2_)).frozen? ⟨w.heap.size, 2, none⟩ = false := (b1Z.2 2 _ rfl).2
    have ca3_3 : ((wZ.setCell ⟨w.heap.size, 1, none⟩ (.slice B1_ n1 C1_)).setCell ⟨w.heap.size, 2, none⟩ (.slice B2_ n2 C2_)).cell? ⟨w.heap.size, 3, none⟩ = some (.int .i64 sm) := (b1Z.2 3 _ rfl).1
    have fa3_3 : ((wZ.setCell ⟨w.heap.size, 1, none⟩ (.slice B1_ n1 C1_)).setCell ⟨w.heap.size, 2, none⟩ (.slice B2_ n2 C2_)).frozen? ⟨w.heap.size, 3, none⟩ = false := (b1Z.2 3 _ rfl).2
    have ca4_0 : ((wZ.setCell ⟨w.heap.size, 1, none⟩ (.slice B1_ n1 C1_)).setCell ⟨w.heap.size, 2, none⟩ (.slice B2_ n2 C2_)).cell? ⟨(w.heap.size + 1), 0, none⟩ = some (.int .i64 0) := (b2Z.2 0 _ rfl).1
    have fa4_0 : ((wZ.setCell ⟨w.heap.size, 1, none⟩ (.slice B1_ n1 C1_)).setCell ⟨w.heap.size, 2, none⟩ (.slice B2_ n2 C2_)).frozen? ⟨(w.heap.size + 1), 0, none⟩ = false := (b2Z.2 0 _ rfl).2
    have ca4_1 : ((wZ.setCell ⟨w.heap.size, 1, none⟩ (.slice B1_ n1 C1_)).setCell ⟨w.heap.size, 2, none⟩ (.slice B2_ n2 C2_)).cell? ⟨(w.heap.size + 1), 1, none⟩ = some (.slice none 0 0) := (b2Z.2 1 _ rfl).1
    have fa4_1 : ((wZ.setCell ⟨w.heap.size, 1, none⟩ (.slice B1_ n1 C1_)).setCell ⟨w.heap.size, 2, none⟩ (.slice B2_ n2 C2_)).frozen? ⟨(w.heap.size + 1), 1, none⟩ = false := (b2Z.2 1 _ rfl).2
    have ca4_2 : ((wZ.setCell ⟨w.heap.size, 1, none⟩ (.slice B1_ n1 C1_)).setCell ⟨w.heap.size, 2, none⟩ (.slice B2_ n2 C2_)).cell? ⟨(w.heap.size + 1), 2, none⟩ = some (.slice none 0 0) := (b2Z.2 2 _ rfl).1
    have fa4_2 : ((wZ.setCell ⟨w.heap.size, 1, none⟩ (.slice B1_ n1 C1_)).setCell ⟨w.heap.size, 2, none⟩ (.slice B2_ n2 C2_)).frozen? ⟨(w.heap.size + 1), 2, none⟩ = false := (b2Z.2 2 _ rfl).2
    have ca4_3 : ((wZ.setCell ⟨w.heap.size, 1, none⟩ (.slice B1_ n1 C1_)).setCell ⟨w.heap.size, 2, none⟩ (.slice B2_ n2 C2_)).cell? ⟨(w.heap.size + 1), 3, none⟩ = some (.int .i64 0) := (b2Z.2 3 _ rfl).1
    have fa4_3 : ((wZ.setCell ⟨w.heap.size, 1, none⟩ (.slice B1_ n1 C1_)).setCell ⟨w.heap.size, 2, none⟩ (.slice B2_ n2 C2_)).frozen? ⟨(w.heap.size + 1), 3, none⟩ = false := (b2Z.2 3 _ rfl).2
    replace b1Z := b1Z.far (p := ⟨(w.heap.size + 1), 0, none⟩) (by show _ ≠ (w.heap.size + 1); omega) (.int .i64 lv)
    replace kwZ := Below.setCell kwZ (p := ⟨(w.heap.size + 1), 0, none⟩) (by show _ ≤ (w.heap.size + 1); omega) (.int .i64 lv)
    replace b2Z : Bl (((wZ.setCell ⟨w.heap.size, 1, none⟩ (.slice B1_ n1 C1_)).setCell ⟨w.heap.size, 2, none⟩ (.slice B2_ n2 C2_)).setCell ⟨(w.heap.size + 1), 0, none⟩ (.int .i64 lv)) (w.heap.size + 1) [.int .i64 lv, .slice none 0 0, .slice none 0 0, .int .i64 0] := b2Z.set 0 (.int .i64 lv)
    replace b1Z := b1Z.far (p := ⟨(w.heap.size + 1), 1, none⟩) (by show _ ≠ (w.heap.size + 1); omega) (.slice B1_ n1 C1_)
    replace kwZ := Below.setCell kwZ (p := ⟨(w.heap.size + 1), 1, none⟩) (by show _ ≤ (w.heap.size + 1); omega) (.slice B1_ n1 C1_)
    replace b2Z : Bl ((((wZ.setCell ⟨w.heap.size, 1, none⟩ (.slice B1_ n1 C1_)).setCell ⟨w.heap.size, 2, none⟩ (.slice B2_ n2 C2_)).setCell ⟨(w.heap.size + 1), 0, none⟩ (.int .i64 lv)).setCell ⟨(w.heap.size + 1), 1, none⟩ (.slice B1_ n1 C1_)) (w.heap.size + 1) [.int .i64 lv, .slice B1_ n1 C1_, .slice none 0 0, .int .i64 0] := b2Z.set 1 (.slice B1_ n1 C1_)
    replace b1Z := b1Z.far (p := ⟨(w.heap.size + 1), 2, none⟩) (by show _ ≠ (w.heap.size + 1); omega) (.slice B2_ n2 C2_)
    replace kwZ := Below.setCell kwZ (p := ⟨(w.heap.size + 1), 2, none⟩) (by show _ ≤ (w.heap.size + 1); omega) (.slice B2_ n2 C2_)
    replace b2Z : Bl (((((wZ.setCell ⟨w.heap.size, 1, none⟩ (.slice B1_ n1 C1_)).setCell ⟨w.heap.size, 2, none⟩ (.slice B2_ n2 C2_)).setCell ⟨(w.heap.size + 1), 0, none⟩ (.int .i64 lv)).setCell ⟨(w.heap.size + 1), 1, none⟩ (.slice B1_ n1 C1_)).setCell ⟨(w.heap.size + 1), 2, none⟩ (.slice B2_ n2 C2_)) (w.heap.size + 1) [.int .i64 lv, .slice B1_ n1 C1_, .slice B2_ n2 C2_, .int .i64 0] := b2Z.set 2 (.slice B2_ n2 C2_)
    replace b1Z := b1Z.far (p := ⟨(w.heap.size + 1), 3, none⟩) (by show _ ≠ (w.heap.size + 1); omega) (.int .i64 sm)
    replace kwZ := Below.setCell kwZ (p := ⟨(w.heap.size + 1), 3, none⟩) (by show _ ≤ (w.heap.size + 1); omega) (.int .i64 sm)
    replace b2Z : Bl ((((((wZ.setCell ⟨w.heap.size, 1, none⟩ (.slice B1_ n1 C1_)).setCell ⟨w.heap.size, 2, none⟩ (.slice B2_ n2 C2_)).setCell ⟨(w.heap.size + 1), 0, none⟩ (.int .i64 lv)).setCell ⟨(w.heap.size + 1), 1, none⟩ (.slice B1_ n1 C1_)).setCell ⟨(w.heap.size + 1), 2, none⟩ (.slice B2_ n2 C2_)).setCell ⟨(w.heap.size + 1), 3, none⟩ (.int .i64 sm)) (w.heap.size + 1) [.int .i64 lv, .slice B1_ n1 C1_, .slice B2_ n2 C2_, .int .i64 sm] := b2Z.set 3 (.int .i64 sm)
    have TT2 := hid ((TT.out.fr (fr_one (p := w.heap.size) (i := 1) (.slice B1_ n1 C1_)) (by omega)).fr (fr_one (p := w.heap.size) (i := 2) (.slice B2_ n2 C2_)) (by omega))
    replace TT2 := hid (TT2.out.fr (fr_one (p := w.heap.size + 1) (i := 0) (.int .i64 lv)) (by omega))
    replace TT2 := hid (TT2.out.fr (fr_one (p := w.heap.size + 1) (i := 1) (.slice B1_ n1 C1_)) (by omega))
    replace TT2 := hid (TT2.out.fr (fr_one (p := w.heap.size + 1) (i := 2) (.slice B2_ n2 C2_)) (by omega))
    replace TT2 := hid (TT2.out.fr (fr_one (p := w.heap.size + 1) (i := 3) (.int .i64 sm)) (by omega))
    have TT3 := hid (TT2.out.widen (lo' := w.heap.size) (hi' := ((((((wZ.setCell ⟨w.heap.size, 1, none⟩ (.slice B1_ n1 C1_)).setCell ⟨w.heap.size, 2, none⟩ (.slice B2_ n2 C2_)).setCell ⟨(w.heap.size + 1), 0, none⟩ (.int .i64 lv)).setCell ⟨(w.heap.size + 1), 1, none⟩ (.slice B1_ n1 C1_)).setCell ⟨(w.heap.size + 1), 2, none⟩ (.slice B2_ n2 C2_)).setCell ⟨(w.heap.size + 1), 3, none⟩ (.int .i64 sm)).heap.size) (by omega) (by simp [World.setCell]) (Nat.le_refl _))
    have HK := hid kwZ
    clear TT TT2 kwZ
    try clear hyA
    try clear hxB
    try clear m1 m2
    go_wp2_with fail
    clear ca3_0 fa3_0 ca3_1 fa3_1 ca3_2 fa3_2 ca3_3 fa3_3 ca4_0 fa4_0 ca4_1 fa4_1 ca4_2 fa4_2 ca4_3 fa4_3
    have ca0_0 : ((((((wZ.setCell ⟨w.heap.size, 1, none⟩ (.slice B1_ n1 C1_)).setCell ⟨w.heap.size, 2, none⟩ (.slice B2_ n2 C2_)).setCell ⟨(w.heap.size + 1), 0, none⟩ (.int .i64 lv)).setCell ⟨(w.heap.size + 1), 1, none⟩ (.slice B1_ n1 C1_)).setCell ⟨(w.heap.size + 1), 2, none⟩ (.slice B2_ n2 C2_)).setCell ⟨(w.heap.size + 1), 3, none⟩ (.int .i64 sm)).cell? ⟨(w.heap.size + 1), 0, none⟩ = some (.int .i64 lv) := (b2Z.2 0 _ rfl).1
    have ca0_1 : ((((((wZ.setCell ⟨w.heap.size, 1, none⟩ (.slice B1_ n1 C1_)).setCell ⟨w.heap.size, 2, none⟩ (.slice B2_ n2 C2_)).setCell ⟨(w.heap.size + 1), 0, none⟩ (.int .i64 lv)).setCell ⟨(w.heap.size + 1), 1, none⟩ (.slice B1_ n1 C1_)).setCell ⟨(w.heap.size + 1), 2, none⟩ (.slice B2_ n2 C2_)).setCell ⟨(w.heap.size + 1), 3, none⟩ (.int .i64 sm)).cell? ⟨(w.heap.size + 1), 1, none⟩ = some (.slice B1_ n1 C1_) := (b2Z.2 1 _ rfl).1
    have ca0_2 : ((((((wZ.setCell ⟨w.heap.size, 1, none⟩ (.slice B1_ n1 C1_)).setCell ⟨w.heap.size, 2, none⟩ (.slice B2_ n2 C2_)).setCell ⟨(w.heap.size + 1), 0, none⟩ (.int .i64 lv)).setCell ⟨(w.heap.size + 1), 1, none⟩ (.slice B1_ n1 C1_)).setCell ⟨(w.heap.size + 1), 2, none⟩ (.slice B2_ n2 C2_)).setCell ⟨(w.heap.size + 1), 3, none⟩ (.int .i64 sm)).cell? ⟨(w.heap.size + 1), 2, none⟩ = some (.slice B2_ n2 C2_) := (b2Z.2 2 _ rfl).1
    have ca0_3 : ((((((wZ.setCell ⟨w.heap.size, 1, none⟩ (.slice B1_ n1 C1_)).setCell ⟨w.heap.size, 2, none⟩ (.slice B2_ n2 C2_)).setCell ⟨(w.heap.size + 1), 0, none⟩ (.int .i64 lv)).setCell ⟨(w.heap.size + 1), 1, none⟩ (.slice B1_ n1 C1_)).setCell ⟨(w.heap.size + 1), 2, none⟩ (.slice B2_ n2 C2_)).setCell ⟨(w.heap.size + 1), 3, none⟩ (.int .i64 sm)).cell? ⟨(w.heap.size + 1), 3, none⟩ = some (.int .i64 sm) := (b2Z.2 3 _ rfl).1
    try simp only [Exit.inBlock, Exit.then]
    exact bodyPost_ret (v := .agg #[.int .i64 lv, .slice B1_ n1 C1_, .slice B2_ n2 C2_, .int .i64 sm]) (by simp [results, Try.results203, go_sem, ca0_0, ca0_1, ca0_2, ca0_3]) rfl ⟨_, _, _, _, rfl, TT3.out, no1, no2, HK.out⟩)
end Go.Proofs.Ytnopedjgagoahaa
