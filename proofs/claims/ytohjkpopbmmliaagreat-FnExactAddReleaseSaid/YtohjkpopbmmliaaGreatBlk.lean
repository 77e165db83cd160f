/- Boxes of cells in worlds that a drawn region may have come to. No walk. -/
import Derived.Test.YtohjkpopbmmliaaGreatBl
namespace Go.Proofs.YtohjkpopbmmliaaGreat
open Go.RowKit Go.Sort
set_option linter.unusedVariables false
set_option linter.unusedSimpArgs false
section
variable {W X : World}
theorem calls_at {P : Program} {f : FuncId} {args : Array Value} {R : Ending → World → Prop} (h : ∀ X, X = W → Calls P f args X R) : Calls P f args W R := h W rfl
theorem keeps_al {O : Obj} (k : Keeps W X) : Keeps W (X.alloc O) := k.trans (keeps_alloc _ _)
theorem keeps_dr (k : Keeps W X) : Keeps W X.drew := k.trans (keeps_d0 _)
theorem keeps_s1 {g i : Nat} {v : Value} (k : Keeps W X) (h : W.heap.size ≤ g) : Keeps W (X.setCell ⟨g, i, none⟩ v) := Below.setCell k (p := ⟨g, i, none⟩) h v
theorem bl_dr {g : Nat} {vs : List Value} (h : Bl X g vs) : Bl X.drew g vs := h
theorem bl_al {g : Nat} {vs : List Value} {O : Obj} (h : Bl X g vs) : Bl (X.alloc O) g vs := h.keeps (keeps_alloc _ _)
theorem bl_s1 {g p i : Nat} {v : Value} {vs : List Value} (h : Bl X g vs) (e : g ≠ p) : Bl (X.setCell ⟨p, i, none⟩ v) g vs := h.far (p := ⟨p, i, none⟩) e v
theorem bl_p4 {g : Nat} {z0 z1 z2 z3 a b c d : Value} (h : Bl X g [z0, z1, z2, z3]) : Bl ((((X.setCell ⟨g, 0, none⟩ a).setCell ⟨g, 1, none⟩ b).setCell ⟨g, 2, none⟩ c).setCell ⟨g, 3, none⟩ d) g [a, b, c, d] := (((h.set 0 a).set 1 b).set 2 c).set 3 d
theorem bl_p4z {g : Nat} {a b c d : Value} (h : Bl X g [.int .i64 0, .slice none 0 0, .slice none 0 0, .int .i64 0]) : Bl ((((X.setCell ⟨g, 0, none⟩ a).setCell ⟨g, 1, none⟩ b).setCell ⟨g, 2, none⟩ c).setCell ⟨g, 3, none⟩ d) g [a, b, c, d] := bl_p4 h
theorem bl_nw {g : Nat} {a b c d : Value} {ty : TypeId} (e : X.heap.size = g) : Bl (X.alloc (.cells #[a, b, c, d] ty)) g [a, b, c, d] := Bl.new' e (by simp)
theorem nsz0 (h : X = W) : X.heap.size = W.heap.size + 0 := by subst h; rfl
theorem kx0 (h : X = W) : Keeps W X := by subst h; exact keeps_refl _
theorem ob0 {g : Nat} {vs : List Value} (h : X = W) (b : Bl W g vs) : Bl X g vs := by subst h; exact b
theorem nsz0d (h : X = W.drew) : X.heap.size = W.heap.size + 0 := by subst h; rfl
theorem kx0d (h : X = W.drew) : Keeps W X := by subst h; exact keeps_dr (keeps_refl _)
theorem nsz1 {O : Obj} (h : X = W.alloc O) : X.heap.size = W.heap.size + 1 := by subst h; simp
theorem kx1 {O : Obj} (h : X = W.alloc O) : Keeps W X := by subst h; exact keeps_alloc _ _
theorem ob1 {O : Obj} {g : Nat} {vs : List Value} (h : X = W.alloc O) (b : Bl W g vs) : Bl X g vs := by subst h; exact b.keeps (keeps_alloc _ _)
theorem nsz1d {O : Obj} (h : X = (W.alloc O).drew) : X.heap.size = W.heap.size + 1 := by subst h; simp
theorem kx1d {O : Obj} (h : X = (W.alloc O).drew) : Keeps W X := by subst h; exact keeps_dr (keeps_alloc _ _)
theorem nsz2 {O O' : Obj} (h : X = (W.alloc O).alloc O') : X.heap.size = W.heap.size + 2 := by subst h; simp
theorem kx2 {O O' : Obj} (h : X = (W.alloc O).alloc O') : Keeps W X := by subst h; exact (keeps_alloc _ _).trans (keeps_alloc _ _)
theorem ob2 {O O' : Obj} {g : Nat} {vs : List Value} (h : X = (W.alloc O).alloc O') (b : Bl W g vs) : Bl X g vs := by subst h; exact (b.keeps (keeps_alloc _ _)).keeps (keeps_alloc _ _)
theorem nsz2d {O O' : Obj} (h : X = ((W.alloc O).alloc O').drew) : X.heap.size = W.heap.size + 2 := by subst h; simp
theorem kx2d {O O' : Obj} (h : X = ((W.alloc O).alloc O').drew) : Keeps W X := by subst h; exact keeps_dr ((keeps_alloc _ _).trans (keeps_alloc _ _))
theorem nb1 {a b c d : Value} {ty : TypeId} (h : X = W.alloc (.cells #[a, b, c, d] ty)) : Bl X W.heap.size [a, b, c, d] := by subst h; exact bl_nw rfl
theorem nb2a {O : Obj} {a b c d : Value} {ty : TypeId} (h : X = (W.alloc (.cells #[a, b, c, d] ty)).alloc O) : Bl X W.heap.size [a, b, c, d] := by subst h; exact bl_al (bl_nw rfl)
theorem nb2b {O : Obj} {a b c d : Value} {ty : TypeId} (h : X = (W.alloc O).alloc (.cells #[a, b, c, d] ty)) : Bl X (W.heap.size + 1) [a, b, c, d] := by subst h; exact bl_nw (by simp)
theorem nb1d {a b c d : Value} {ty : TypeId} (h : X = (W.alloc (.cells #[a, b, c, d] ty)).drew) : Bl X W.heap.size [a, b, c, d] := by subst h; exact bl_dr (bl_nw rfl)
theorem nb2ad {O : Obj} {a b c d : Value} {ty : TypeId} (h : X = ((W.alloc (.cells #[a, b, c, d] ty)).alloc O).drew) : Bl X W.heap.size [a, b, c, d] := by subst h; exact bl_dr (bl_al (bl_nw rfl))
theorem nb2bd {O : Obj} {a b c d : Value} {ty : TypeId} (h : X = ((W.alloc O).alloc (.cells #[a, b, c, d] ty)).drew) : Bl X (W.heap.size + 1) [a, b, c, d] := by subst h; exact bl_dr (bl_nw (by simp))
theorem fr_s4 {p : Nat} {a b c d : Value} : Fr p (p + 1) X ((((X.setCell ⟨p, 0, none⟩ a).setCell ⟨p, 1, none⟩ b).setCell ⟨p, 2, none⟩ c).setCell ⟨p, 3, none⟩ d) := (((fr_one a).trans (fr_one b)).trans (fr_one c)).trans (fr_one d)
theorem keeps_s4 {p : Nat} {a b c d : Value} (k : Keeps W X) (h : W.heap.size ≤ p) : Keeps W ((((X.setCell ⟨p, 0, none⟩ a).setCell ⟨p, 1, none⟩ b).setCell ⟨p, 2, none⟩ c).setCell ⟨p, 3, none⟩ d) := keeps_s1 (keeps_s1 (keeps_s1 (keeps_s1 k h) h) h) h
theorem bl_s4 {g p : Nat} {a b c d : Value} {vs : List Value} (h : Bl X g vs) (e : g ≠ p) : Bl ((((X.setCell ⟨p, 0, none⟩ a).setCell ⟨p, 1, none⟩ b).setCell ⟨p, 2, none⟩ c).setCell ⟨p, 3, none⟩ d) g vs := bl_s1 (bl_s1 (bl_s1 (bl_s1 h e) e) e) e
structure PairI (X : World) (lo hi n m : Nat) (A B : Option Addr) (xs ys : List Int) : Prop where
  a : Ints X lo hi A n xs
  b : Ints X lo hi B m ys
theorem in_al {lo hi n m : Nat} {A B : Option Addr} {xs ys : List Int} {O : Obj} (h : PairI X lo hi n m A B xs ys) : PairI (X.alloc O) lo hi n m A B xs ys := ⟨h.a.keeps (keeps_alloc _ _), h.b.keeps (keeps_alloc _ _)⟩
theorem in_dr {lo hi n m : Nat} {A B : Option Addr} {xs ys : List Int} (h : PairI X lo hi n m A B xs ys) : PairI X.drew lo hi n m A B xs ys := ⟨h.a, h.b⟩
theorem in_kp {lo hi n m : Nat} {A B : Option Addr} {xs ys : List Int} {Y : World} (h : PairI X lo hi n m A B xs ys) (k : Keeps X Y) : PairI Y lo hi n m A B xs ys := ⟨h.a.keeps k, h.b.keeps k⟩
theorem in_s4 {lo hi n m p : Nat} {A B : Option Addr} {xs ys : List Int} {a b c d : Value} (h : PairI X lo hi n m A B xs ys) (e : p < lo ∨ hi ≤ p) : PairI ((((X.setCell ⟨p, 0, none⟩ a).setCell ⟨p, 1, none⟩ b).setCell ⟨p, 2, none⟩ c).setCell ⟨p, 3, none⟩ d) lo hi n m A B xs ys := ⟨h.a.fr fr_s4 (by omega), h.b.fr fr_s4 (by omega)⟩
theorem bl_grown {g : Nat} {vs : List Value} {r : Option Nat} (h : Bl W g vs) (hg : W.grownBy X r) (hne : r ≠ some g) : Bl X g vs := by
  have hb := hg.block g h.1 (fun e => hne e.symm)
  refine ⟨Nat.lt_of_lt_of_le h.1 hg.size, fun j v hj => ?_⟩
  obtain ⟨h1, h2⟩ := h.2 j v hj
  exact ⟨(World.cell?_of_block (a := ⟨g, j, none⟩) hb).trans h1, (World.frozen?_of_block (a := ⟨g, j, none⟩) hb).trans h2⟩
theorem b1_grown {g : Nat} {v : Value} {r : Option Nat} (h : B1 W g v) (hg : W.grownBy X r) (hne : r ≠ some g) : B1 X g v := by
  have hb := hg.block g h.lt (fun e => hne e.symm)
  exact ⟨(World.cell?_of_block (a := ⟨g, 0, none⟩) hb).trans h.1, (World.frozen?_of_block (a := ⟨g, 0, none⟩) hb).trans h.2⟩
theorem cell_grown {g i : Nat} {v : Value} {r : Option Nat} (h : W.cell? ⟨g, i, none⟩ = some v) (hg : W.grownBy X r) (hne : r ≠ some g) : X.cell? ⟨g, i, none⟩ = some v :=
  (World.cell?_of_block (a := ⟨g, i, none⟩) (hg.block g (World.block_lt_of_cell? W _ h) (fun e => hne e.symm))).trans h
theorem keeps_grown {r : Option Nat} {Y : World} (k : Keeps W X) (hg : X.grownBy Y r) (hr : ∀ g, r = some g → W.heap.size ≤ g) : Keeps W Y := Below.grown k hg k.size hr
/-- A slice of ints of one's own, in a world that went on. -/
theorem mn_al {lo hi n : Nat} {A : Option Addr} {xs : List Int} {O : Obj} (h : Mine X lo hi A n xs) : Mine (X.alloc O) lo hi A n xs := h.keeps (keeps_alloc _ _)
theorem mn_s4 {lo hi n p : Nat} {A : Option Addr} {xs : List Int} {a b c d : Value} (h : Mine X lo hi A n xs) (e : p < lo ∨ hi ≤ p) : Mine ((((X.setCell ⟨p, 0, none⟩ a).setCell ⟨p, 1, none⟩ b).setCell ⟨p, 2, none⟩ c).setCell ⟨p, 3, none⟩ d) lo hi A n xs := h.fr fr_s4 (by omega)
end
end Go.Proofs.YtohjkpopbmmliaaGreat
