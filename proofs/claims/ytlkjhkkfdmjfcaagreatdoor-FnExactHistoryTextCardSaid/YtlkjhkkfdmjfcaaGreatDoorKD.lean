/- Fractions that can be rounded: areRoundable, wShort, wFew; squares of differences: squareOf, wSquare. -/
import Derived.Test.YtlkjhkkfdmjfcaaGreatDoorKC
import Derived.Deep.DeepCutAuto
import Derived.Deep.RegionHeld3
namespace Go.Proofs.YtlkjhkkfdmjfcaaGreatDoor
open Go.RowKit
set_option linter.unusedVariables false
set_option linter.unusedSimpArgs false

theorem box2 {w w' : World} {x y : Value} {t : TypeId} (k : Keeps (w.alloc (.cells #[x, y] t)) w') :
    w'.cell? ⟨w.heap.size, 0, none⟩ = some x ∧ w'.cell? ⟨w.heap.size, 1, none⟩ = some y ∧ w'.frozen? ⟨w.heap.size, 0, none⟩ = false ∧ w'.frozen? ⟨w.heap.size, 1, none⟩ = false := by
  have c1 := k.cell (p := ⟨w.heap.size, 0, none⟩) (by simp)
  have c2 := k.cell (p := ⟨w.heap.size, 1, none⟩) (by simp)
  have f1 := k.frozen (p := ⟨w.heap.size, 0, none⟩) (by simp)
  have f2 := k.frozen (p := ⟨w.heap.size, 1, none⟩) (by simp)
  simp [go_sem] at c1 c2 f1 f2
  exact ⟨c1, c2, f1, f2⟩
/-- Block g holds a fraction that may be written. -/
def Bx (w : World) (g : Nat) (x y : Int) : Prop :=
  w.cell? ⟨g, 0, none⟩ = some (.int .i64 x) ∧ w.cell? ⟨g, 1, none⟩ = some (.int .i64 y) ∧ w.frozen? ⟨g, 0, none⟩ = false ∧ w.frozen? ⟨g, 1, none⟩ = false
theorem Bx.lt {w : World} {g : Nat} {x y : Int} (h : Bx w g x y) : g < w.heap.size := World.block_lt_of_cell? w _ h.1
theorem Bx.below {w w' : World} {g B : Nat} {x y : Int} (h : Bx w g x y) (k : Below B w w') (hg : g < B) : Bx w' g x y := by
  have e := k.block g hg
  exact ⟨(World.cell?_of_block (w := w) e).trans h.1, (World.cell?_of_block (w := w) e).trans h.2.1, (World.frozen?_of_block (w := w) e).trans h.2.2.1, (World.frozen?_of_block (w := w) e).trans h.2.2.2⟩
theorem Bx.keeps {w w' : World} {g : Nat} {x y : Int} (h : Bx w g x y) (k : Keeps w w') : Bx w' g x y := h.below k h.lt
theorem Bx.new (w : World) (x y : Int) (t : TypeId) : Bx (w.alloc (.cells #[.int .i64 x, .int .i64 y] t)) w.heap.size x y := box2 (keeps_refl _)

theorem all_true {p : Int × Int → Bool} {l : List (Int × Int)} : l.all p = true ↔ ∀ j, j < l.length → p (l.getD j (0, 0)) = true := by
  simp only [List.all_eq_true]
  constructor
  · intro h j hj
    have := h l[j] (List.getElem_mem hj)
    simpa [List.getD, hj] using this
  · intro h x hx
    obtain ⟨j, hj, rfl⟩ := List.getElem_of_mem hx
    simpa [List.getD, hj] using h j hj
theorem all_no {p : Int × Int → Bool} {l : List (Int × Int)} {k : Nat} {f : Int × Int} (hk : k < l.length) (hf : f = l.getD k (0, 0)) (h : p f = false) : l.all p = false := by
  rw [Bool.eq_false_iff]; intro h1; have := all_true.1 h1 k hk; rw [← hf, h] at this; cases this
def AllTo (p : Int × Int → Bool) (l : List (Int × Int)) (k : Nat) : Prop := ∀ j, j < k → p (l.getD j (0, 0)) = true
theorem allTo_succ {p : Int × Int → Bool} {l : List (Int × Int)} {k : Nat} {f : Int × Int} (h : AllTo p l k) (hf : f = l.getD k (0, 0)) (h1 : p f = true) : AllTo p l (k + 1) := by
  intro j hj
  by_cases hjk : j = k
  · subst hjk; rw [← hf]; exact h1
  · exact h j (by omega)
def shortQ (f : Int × Int) : Bool := fracB f.1 f.2 && inB f.1 (-5000 * f.2) (5000 * f.2)
def fewQ (f : Int × Int) : Bool := decide (f.2 ≤ 1000000)
def rdQ (f : Int × Int) : Bool := shortQ f && fewQ f
/-- 1 to 30 fractions that can be rounded. -/
def roundB (l : List (Int × Int)) : Bool := inB l.length 1 30 && l.all rdQ
theorem roundB_split (l : List (Int × Int)) : roundB l = ((l.all shortQ && inB l.length 1 30) && l.all fewQ) := by
  have : l.all rdQ = (l.all shortQ && l.all fewQ) := by
    unfold rdQ
    induction l with
    | nil => rfl
    | cons a t ih => simp only [List.all_cons, ih]; cases shortQ a <;> cases fewQ a <;> simp
  rw [roundB, this]
  cases inB l.length 1 30 <;> simp

end Go.Proofs.YtlkjhkkfdmjfcaaGreatDoor

/- Squares of differences of fractions and integers: squareOf, wSquare. -/
namespace Go.Proofs.YtlkjhkkfdmjfcaaGreatDoor
open Go.RowKit
set_option linter.unusedVariables false
set_option linter.unusedSimpArgs false

theorem mkF_self {n d : Int} (h : fracB n d = true) : mkF n d = (n, d, true) := by
  have h1 := fracB_true.1 h
  have h0 : ¬ d < 0 := by omega
  rw [mkF_red (by omega)]
  have e1 : redN n d = n := by unfold redN; rw [if_neg h0, h1.2.2]; simp
  have e2 : redD n d = d := by unfold redD; rw [if_neg h0, h1.2.2]; simp
  rw [red_yes (by rw [e1]; omega) (by rw [e1]; omega) (by rw [e2]; omega), e1, e2]
theorem fracB_int {n : Int} (h : -1000000000 ≤ n ∧ n ≤ 1000000000) : fracB n 1 = true := fracB_true.2 ⟨by omega, h, by simp⟩
/-- The square of f - n. -/
def sqrQ (x y n : Int) : Int × Int × Bool :=
  if (mkF (x * 1 - n * y) (y * 1)).2.2 = true then mkF ((mkF (x * 1 - n * y) (y * 1)).1 * (mkF (x * 1 - n * y) (y * 1)).1) ((mkF (x * 1 - n * y) (y * 1)).2.1 * (mkF (x * 1 - n * y) (y * 1)).2.1) else (0, 0, false)
theorem sqrQ_no {x y n : Int} {r1 r2 : Int} (h : mkF (x * 1 - n * y) (y * 1) = (r1, r2, false)) : sqrQ x y n = (0, 0, false) := by
  unfold sqrQ; rw [h]; rfl
theorem sqrQ_yes {x y n : Int} {r1 r2 : Int} (h : mkF (x * 1 - n * y) (y * 1) = (r1, r2, true)) : sqrQ x y n = mkF (r1 * r1) (r2 * r2) := by
  unfold sqrQ; rw [h]; rfl
theorem sqrQ_ok {x y n : Int} (h : (sqrQ x y n).2.2 = true) : fracB (sqrQ x y n).1 (sqrQ x y n).2.1 = true := by
  cases h1 : (mkF (x * 1 - n * y) (y * 1)) with
  | mk r1 p =>
    obtain ⟨r2, b⟩ := p
    cases b with
    | false => rw [sqrQ_no h1] at h; cases h
    | true => rw [sqrQ_yes h1] at *; exact mkF_ok h

theorem Bx.far {w : World} {g : Nat} {x y : Int} (h : Bx w g x y) {p : Addr} (hp : g ≠ p.block) (u : Value) : Bx (w.setCell p u) g x y := by
  have e := Below.heap_setCell w p u g hp
  exact ⟨(World.cell?_of_block (w := w) e).trans h.1, (World.cell?_of_block (w := w) e).trans h.2.1, (World.frozen?_of_block (w := w) e).trans h.2.2.1, (World.frozen?_of_block (w := w) e).trans h.2.2.2⟩
theorem Bx.set {w : World} {g : Nat} {x y : Int} (h : Bx w g x y) (u v : Int) : Bx ((w.setCell ⟨g, 0, none⟩ (.int .i64 u)).setCell ⟨g, 1, none⟩ (.int .i64 v)) g u v := by
  have h2 : (w.setCell ⟨g, 0, none⟩ (.int .i64 u)).cell? ⟨g, 1, none⟩ = some (.int .i64 y) :=
    (World.cell?_setCell_other _ _ _ _ (by simp)).trans h.2.1
  refine ⟨(World.cell?_setCell_other _ _ _ _ (by simp)).trans (World.cell?_setCell_same _ _ _ h.1), World.cell?_setCell_same _ _ _ h2, ?_, ?_⟩
  · simpa using h.2.2.1
  · simpa using h.2.2.2
section
variable {w w' : World} {g : Nat} {x y : Int} {o : Obj} {t : TypeId}
theorem Bx.kd (h : Bx w g x y) (k : Keeps w.drew w') : Bx w' g x y := Bx.keeps (w := w.drew) h k
theorem Bx.ka (h : Bx w g x y) (k : Keeps (w.alloc o) w') : Bx w' g x y := (h.keeps (keeps_alloc w o)).keeps k
theorem Bx.kad (h : Bx w g x y) (k : Keeps (w.alloc o).drew w') : Bx w' g x y := Bx.kd (h.keeps (keeps_alloc w o)) k
theorem Bx.nk (k : Keeps (w.alloc (.cells #[.int .i64 x, .int .i64 y] t)) w') : Bx w' w.heap.size x y := (Bx.new w x y t).keeps k
theorem Bx.nkd (k : Keeps (w.alloc (.cells #[.int .i64 x, .int .i64 y] t)).drew w') : Bx w' w.heap.size x y := Bx.kd (Bx.new w x y t) k
theorem set2_far {g i : Nat} {p : Nat} {a b s : Value} (h : w.cell? ⟨g, i, none⟩ = some s) (hne : g ≠ p) : ((w.setCell ⟨p, 0, none⟩ a).setCell ⟨p, 1, none⟩ b).cell? ⟨g, i, none⟩ = some s := by
  rw [World.cell?_of_block (w := w.setCell ⟨p, 0, none⟩ a) (Below.heap_setCell _ ⟨p, 1, none⟩ b g hne), World.cell?_of_block (w := w) (Below.heap_setCell _ ⟨p, 0, none⟩ a g hne)]; exact h
theorem keeps_d (k : Keeps w.drew w') : Keeps w w' := (Keeps.drewN w 1).trans k
theorem keeps_ad (k : Keeps (w.alloc o).drew w') : Keeps w w' := (keeps_alloc w o).trans (keeps_d k)
end
end Go.Proofs.YtlkjhkkfdmjfcaaGreatDoor

/- Sums of fractions over a list, and small words for boxes of fractions in walks. -/
namespace Go.Proofs.YtlkjhkkfdmjfcaaGreatDoor
open Go.RowKit
set_option linter.unusedVariables false
set_option linter.unusedSimpArgs false

theorem Bx.new' {w : World} {g : Nat} {x y : Int} {t : TypeId} (e : w.heap.size = g) : Bx (w.alloc (.cells #[.int .i64 x, .int .i64 y] t)) g x y := by
  subst e; exact Bx.new w x y t
/-- Block g holds one value that may be written. -/
def B1 (w : World) (g : Nat) (v : Value) : Prop := w.cell? ⟨g, 0, none⟩ = some v ∧ w.frozen? ⟨g, 0, none⟩ = false
theorem B1.lt {w : World} {g : Nat} {v : Value} (h : B1 w g v) : g < w.heap.size := World.block_lt_of_cell? w _ h.1
theorem B1.below {w w' : World} {g B : Nat} {v : Value} (h : B1 w g v) (k : Below B w w') (hg : g < B) : B1 w' g v := by
  have e := k.block g hg
  exact ⟨(World.cell?_of_block (w := w) e).trans h.1, (World.frozen?_of_block (w := w) e).trans h.2⟩
theorem B1.keeps {w w' : World} {g : Nat} {v : Value} (h : B1 w g v) (k : Keeps w w') : B1 w' g v := h.below k h.lt
theorem B1.new' {w : World} {g : Nat} {v : Value} {t : TypeId} (e : w.heap.size = g) : B1 (w.alloc (.cells #[v] t)) g v := by
  subst e
  have h := heap_alloc_new w (.cells #[v] t)
  exact ⟨cell_new w v t, by simp only [World.frozen?, h]; simp⟩
theorem B1.far {w : World} {g : Nat} {v : Value} (h : B1 w g v) {p : Addr} (hp : g ≠ p.block) (u : Value) : B1 (w.setCell p u) g v := by
  have e := Below.heap_setCell w p u g hp
  exact ⟨(World.cell?_of_block (w := w) e).trans h.1, (World.frozen?_of_block (w := w) e).trans h.2⟩
theorem Bx.fr {w w' : World} {g l h' : Nat} {x y : Int} (h : Bx w g x y) (k : Fr l h' w w') (ho : g < l ∨ h' ≤ g) : Bx w' g x y := by
  have e := k.block g h.lt ho
  exact ⟨(World.cell?_of_block (w := w) e).trans h.1, (World.cell?_of_block (w := w) e).trans h.2.1, (World.frozen?_of_block (w := w) e).trans h.2.2.1, (World.frozen?_of_block (w := w) e).trans h.2.2.2⟩
theorem B1.fr {w w' : World} {g l h' : Nat} {v : Value} (h : B1 w g v) (k : Fr l h' w w') (ho : g < l ∨ h' ≤ g) : B1 w' g v := by
  have e := k.block g h.lt ho
  exact ⟨(World.cell?_of_block (w := w) e).trans h.1, (World.frozen?_of_block (w := w) e).trans h.2⟩
theorem B1.set2 {w : World} {g p : Nat} {v : Value} (h : B1 w g v) (hp : g ≠ p) (a b : Value) : B1 ((w.setCell ⟨p, 0, none⟩ a).setCell ⟨p, 1, none⟩ b) g v := (h.far (p := ⟨p, 0, none⟩) hp a).far (p := ⟨p, 1, none⟩) hp b
theorem Bx.set2 {w : World} {g p : Nat} {x y : Int} (h : Bx w g x y) (hp : g ≠ p) (a b : Value) : Bx ((w.setCell ⟨p, 0, none⟩ a).setCell ⟨p, 1, none⟩ b) g x y := (h.far (p := ⟨p, 0, none⟩) hp a).far (p := ⟨p, 1, none⟩) hp b
theorem Bx.set0 {w : World} {g : Nat} {x y : Int} (h : Bx w g x y) (u : Int) : Bx (w.setCell ⟨g, 0, none⟩ (.int .i64 u)) g u y :=
  ⟨World.cell?_setCell_same _ _ _ h.1, (World.cell?_setCell_other _ _ _ _ (by simp)).trans h.2.1, by simpa using h.2.2.1, by simpa using h.2.2.2⟩
theorem fr_set2 {w : World} {p : Nat} (a b : Value) : Fr p (p + 1) w ((w.setCell ⟨p, 0, none⟩ a).setCell ⟨p, 1, none⟩ b) :=
  ((Fr.refl p (p + 1) w).setCell (p := ⟨p, 0, none⟩) (Nat.le_refl _) (Nat.lt_succ_self _) a).setCell (p := ⟨p, 1, none⟩) (Nat.le_refl _) (Nat.lt_succ_self _) b
theorem below_set2 {B p : Nat} {a w : World} (h : Below B a w) (hp : B ≤ p) (x y : Value) : Below B a ((w.setCell ⟨p, 0, none⟩ x).setCell ⟨p, 1, none⟩ y) := (h.setCell (p := ⟨p, 0, none⟩) hp x).setCell (p := ⟨p, 1, none⟩) hp y
theorem keeps_d0 (w : World) : Keeps w w.drew := Keeps.drewN w 1
theorem keeps_ad0 (w : World) (o : Obj) : Keeps w (w.alloc o).drew := (keeps_alloc w o).trans (keeps_d0 _)
theorem Bx.kZ1 {w w' : World} {g : Nat} {x y : Int} {t : TypeId} (k : Keeps (w.alloc (.cells #[.int .i64 x, .int .i64 y] t)).drew w') (e : w.heap.size = g) : Bx w' g x y := Bx.kd (Bx.new' e) k
theorem Bx.kZ2 {w w' : World} {g : Nat} {x y : Int} {t : TypeId} (k : Keeps (w.alloc (.cells #[.int .i64 x, .int .i64 y] t)) w') (e : w.heap.size = g) : Bx w' g x y := (Bx.new' e).keeps k

/-- Steps over fractions, from (a, b), k of them; (0, 0, false) from the first that fails on. -/
def accQ (st : Nat → Int → Int → Int × Int × Bool) (a b : Int) : Nat → Int × Int × Bool
  | 0 => (a, b, true)
  | k + 1 => if (accQ st a b k).2.2 = true then st k (accQ st a b k).1 (accQ st a b k).2.1 else (0, 0, false)
theorem accQ_next {st : Nat → Int → Int → Int × Int × Bool} {a b x y : Int} {k : Nat} {r : Int × Int × Bool} (h : accQ st a b k = (x, y, true)) (e : st k x y = r) : accQ st a b (k + 1) = r := by
  simp only [accQ]; rw [h]; simpa using e
theorem accQ_stuck {st : Nat → Int → Int → Int × Int × Bool} {a b : Int} {k n : Nat} (h : accQ st a b k = (0, 0, false)) (hk : k ≤ n) : accQ st a b n = (0, 0, false) := by
  induction n with
  | zero => obtain rfl : k = 0 := by omega
            exact h
  | succ n ih =>
    by_cases e : k = n + 1
    · subst e; exact h
    · have := ih (by omega)
      simp only [accQ]; rw [this]; simp
theorem accQ_fail {st : Nat → Int → Int → Int × Int × Bool} {a b x y : Int} {k n : Nat} (h : accQ st a b k = (x, y, true)) (e : st k x y = (0, 0, false)) (hk : k < n) : accQ st a b n = (0, 0, false) :=
  accQ_stuck (accQ_next h e) (by omega)
theorem one_bd : -1000000000 ≤ (1 : Int) ∧ (1 : Int) ≤ 1000000000 := by omega
theorem fracB_01 : fracB 0 1 = true := fracB_int (by omega)
theorem fracB_11 : fracB 1 1 = true := fracB_int (by omega)
/-- A triple that is a valid fraction, or (0, 0, false). -/
def Fine (r : Int × Int × Bool) : Prop := (r.2.2 = true → fracB r.1 r.2.1 = true) ∧ (r.2.2 = false → r = (0, 0, false))
theorem Fine.mk (n d : Int) : Fine (mkF n d) := ⟨mkF_ok, mkF_fail⟩
theorem Fine.no : Fine (0, 0, false) := ⟨(fun h => by cases h), fun _ => rfl⟩
theorem Fine.yes {x y : Int} (h : fracB x y = true) : Fine (x, y, true) := ⟨fun _ => h, (fun h => by cases h)⟩
theorem Fine.ite {r s : Int × Int × Bool} {p : Prop} [Decidable p] (h : Fine r) (k : Fine s) : Fine (if p then r else s) := by split <;> assumption
theorem Fine.ok {r : Int × Int × Bool} {a b : Int} (h : Fine r) (e : r = (a, b, true)) : fracB a b = true := by have := h.1 (by rw [e]); rwa [e] at this
theorem Fine.bad {r : Int × Int × Bool} {a b : Int} (h : Fine r) (e : r = (a, b, false)) : r = (0, 0, false) := h.2 (by rw [e])
theorem sqrQ_fine (x y n : Int) : Fine (sqrQ x y n) := by unfold sqrQ; exact Fine.ite (Fine.mk _ _) Fine.no
end Go.Proofs.YtlkjhkkfdmjfcaaGreatDoor

