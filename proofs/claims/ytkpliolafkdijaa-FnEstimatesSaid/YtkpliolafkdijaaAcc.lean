/- Sums of fractions over a list, and small words for boxes of fractions in walks. -/
import Derived.Test.YtkpliolafkdijaaSqr
import Derived.Deep.RegionHeld3
namespace Go.Proofs.Ytkpliolafkdijaa
open Go.RowKit
set_option linter.unusedVariables false
set_option linter.unusedSimpArgs false

theorem Bx.new' {w : World} {g : Nat} {x y : Int} {t : TypeId} (e : w.heap.size = g) : Bx (w.alloc (.cells #[.int .i64 x, .int .i64 y] t)) g x y := by
  subst e; exact Bx.new w x y t
/-- Block g holds one value that may be written. -/
def B1 (w : World) (g : Nat) (v : Value) : Prop := w.cell? ⟨g, 0, none⟩ = some v ∧ w.frozen? ⟨g, 0, none⟩ = false
theorem B1.lt {w : World} {g : Nat} {v : Value} (h : B1 w g v) : g < w.heap.size := World.block_lt_of_cell? w _ h.1
theorem B1.below {w w' : World} {g B : Nat} {v : Value} (h : B1 w g v) (k : Below B w w') (hg : g < B) : B1 w' g v := by
  have e := k.block g hg
  exact ⟨(World.cell?_of_block (w := w) e).trans h.1, (World.frozen?_of_block (w := w) e).trans h.2⟩
theorem B1.keeps {w w' : World} {g : Nat} {v : Value} (h : B1 w g v) (k : Keeps w w') : B1 w' g v := h.below k h.lt
theorem B1.new' {w : World} {g : Nat} {v : Value} {t : TypeId} (e : w.heap.size = g) : B1 (w.alloc (.cells #[v] t)) g v := by
  subst e
  have h := heap_alloc_new w (.cells #[v] t)
  exact ⟨cell_new w v t, by simp only [World.frozen?, h]; simp⟩
theorem B1.far {w : World} {g : Nat} {v : Value} (h : B1 w g v) {p : Addr} (hp : g ≠ p.block) (u : Value) : B1 (w.setCell p u) g v := by
  have e := Below.heap_setCell w p u g hp
  exact ⟨(World.cell?_of_block (w := w) e).trans h.1, (World.frozen?_of_block (w := w) e).trans h.2⟩
theorem Bx.fr {w w' : World} {g l h' : Nat} {x y : Int} (h : Bx w g x y) (k : Fr l h' w w') (ho : g < l ∨ h' ≤ g) : Bx w' g x y := by
  have e := k.block g h.lt ho
  exact ⟨(World.cell?_of_block (w := w) e).trans h.1, (World.cell?_of_block (w := w) e).trans h.2.1, (World.frozen?_of_block (w := w) e).trans h.2.2.1, (World.frozen?_of_block (w := w) e).trans h.2.2.2⟩
theorem B1.fr {w w' : World} {g l h' : Nat} {v : Value} (h : B1 w g v) (k : Fr l h' w w') (ho : g < l ∨ h' ≤ g) : B1 w' g v := by
  have e := k.block g h.lt ho
  exact ⟨(World.cell?_of_block (w := w) e).trans h.1, (World.frozen?_of_block (w := w) e).trans h.2⟩
theorem B1.set2 {w : World} {g p : Nat} {v : Value} (h : B1 w g v) (hp : g ≠ p) (a b : Value) : B1 ((w.setCell ⟨p, 0, none⟩ a).setCell ⟨p, 1, none⟩ b) g v := (h.far (p := ⟨p, 0, none⟩) hp a).far (p := ⟨p, 1, none⟩) hp b
theorem Bx.set2 {w : World} {g p : Nat} {x y : Int} (h : Bx w g x y) (hp : g ≠ p) (a b : Value) : Bx ((w.setCell ⟨p, 0, none⟩ a).setCell ⟨p, 1, none⟩ b) g x y := (h.far (p := ⟨p, 0, none⟩) hp a).far (p := ⟨p, 1, none⟩) hp b
theorem Bx.set0 {w : World} {g : Nat} {x y : Int} (h : Bx w g x y) (u : Int) : Bx (w.setCell ⟨g, 0, none⟩ (.int .i64 u)) g u y :=
  ⟨World.cell?_setCell_same _ _ _ h.1, (World.cell?_setCell_other _ _ _ _ (by simp)).trans h.2.1, by simpa using h.2.2.1, by simpa using h.2.2.2⟩
theorem fr_set2 {w : World} {p : Nat} (a b : Value) : Fr p (p + 1) w ((w.setCell ⟨p, 0, none⟩ a).setCell ⟨p, 1, none⟩ b) :=
  ((Fr.refl p (p + 1) w).setCell (p := ⟨p, 0, none⟩) (Nat.le_refl _) (Nat.lt_succ_self _) a).setCell (p := ⟨p, 1, none⟩) (Nat.le_refl _) (Nat.lt_succ_self _) b
theorem below_set2 {B p : Nat} {a w : World} (h : Below B a w) (hp : B ≤ p) (x y : Value) : Below B a ((w.setCell ⟨p, 0, none⟩ x).setCell ⟨p, 1, none⟩ y) := (h.setCell (p := ⟨p, 0, none⟩) hp x).setCell (p := ⟨p, 1, none⟩) hp y
theorem keeps_d0 (w : World) : Keeps w w.drew := Keeps.drewN w 1
theorem keeps_ad0 (w : World) (o : Obj) : Keeps w (w.alloc o).drew := (keeps_alloc w o).trans (keeps_d0 _)
theorem Bx.kZ1 {w w' : World} {g : Nat} {x y : Int} {t : TypeId} (k : Keeps (w.alloc (.cells #[.int .i64 x, .int .i64 y] t)).drew w') (e : w.heap.size = g) : Bx w' g x y := Bx.kd (Bx.new' e) k
theorem Bx.kZ2 {w w' : World} {g : Nat} {x y : Int} {t : TypeId} (k : Keeps (w.alloc (.cells #[.int .i64 x, .int .i64 y] t)) w') (e : w.heap.size = g) : Bx w' g x y := (Bx.new' e).keeps k

/-- Steps over fractions, from (a, b), k of them; (0, 0, false) from the first that fails on. -/
def accQ (st : Nat → Int → Int → Int × Int × Bool) (a b : Int) : Nat → Int × Int × Bool
  | 0 => (a, b, true)
  | k + 1 => if (accQ st a b k).2.2 = true then st k (accQ st a b k).1 (accQ st a b k).2.1 else (0, 0, false)
theorem accQ_next {st : Nat → Int → Int → Int × Int × Bool} {a b x y : Int} {k : Nat} {r : Int × Int × Bool} (h : accQ st a b k = (x, y, true)) (e : st k x y = r) : accQ st a b (k + 1) = r := by
  simp only [accQ]; rw [h]; simpa using e
theorem accQ_stuck {st : Nat → Int → Int → Int × Int × Bool} {a b : Int} {k n : Nat} (h : accQ st a b k = (0, 0, false)) (hk : k ≤ n) : accQ st a b n = (0, 0, false) := by
  induction n with
  | zero => obtain rfl : k = 0 := by omega
            exact h
  | succ n ih =>
    by_cases e : k = n + 1
    · subst e; exact h
    · have := ih (by omega)
      simp only [accQ]; rw [this]; simp
theorem accQ_fail {st : Nat → Int → Int → Int × Int × Bool} {a b x y : Int} {k n : Nat} (h : accQ st a b k = (x, y, true)) (e : st k x y = (0, 0, false)) (hk : k < n) : accQ st a b n = (0, 0, false) :=
  accQ_stuck (accQ_next h e) (by omega)
theorem one_bd : -1000000000 ≤ (1 : Int) ∧ (1 : Int) ≤ 1000000000 := by omega
theorem fracB_01 : fracB 0 1 = true := fracB_int (by omega)
theorem fracB_11 : fracB 1 1 = true := fracB_int (by omega)
/-- A triple that is a valid fraction, or (0, 0, false). -/
def Fine (r : Int × Int × Bool) : Prop := (r.2.2 = true → fracB r.1 r.2.1 = true) ∧ (r.2.2 = false → r = (0, 0, false))
theorem Fine.mk (n d : Int) : Fine (mkF n d) := ⟨mkF_ok, mkF_fail⟩
theorem Fine.no : Fine (0, 0, false) := ⟨(fun h => by cases h), fun _ => rfl⟩
theorem Fine.yes {x y : Int} (h : fracB x y = true) : Fine (x, y, true) := ⟨fun _ => h, (fun h => by cases h)⟩
theorem Fine.ite {r s : Int × Int × Bool} {p : Prop} [Decidable p] (h : Fine r) (k : Fine s) : Fine (if p then r else s) := by split <;> assumption
theorem Fine.ok {r : Int × Int × Bool} {a b : Int} (h : Fine r) (e : r = (a, b, true)) : fracB a b = true := by have := h.1 (by rw [e]); rwa [e] at this
theorem Fine.bad {r : Int × Int × Bool} {a b : Int} (h : Fine r) (e : r = (a, b, false)) : r = (0, 0, false) := h.2 (by rw [e])
theorem sqrQ_fine (x y n : Int) : Fine (sqrQ x y n) := by unfold sqrQ; exact Fine.ite (Fine.mk _ _) Fine.no
end Go.Proofs.Ytkpliolafkdijaa
