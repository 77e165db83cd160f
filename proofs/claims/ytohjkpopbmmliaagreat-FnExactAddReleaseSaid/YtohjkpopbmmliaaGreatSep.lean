/- Slices of structs of one's own, their rows' data apart from each other; marks. No walk. -/
import Derived.Test.YtohjkpopbmmliaaGreatCpt
import Derived.Test.YtohjkpopbmmliaaGreatPub
namespace Go.Proofs.YtohjkpopbmmliaaGreat
open Go.RowKit Go.Sort Go.Deep
set_option linter.unusedVariables false
set_option linter.unusedSimpArgs false

/-- The blocks from lo to hi are as they were. -/
def Sm (w w' : World) (lo hi : Nat) : Prop := w.heap.size ≤ w'.heap.size ∧ ∀ g, lo ≤ g → g < hi → w'.heap[g]? = w.heap[g]?
section
variable {w w' : World} {lo hi a b n : Nat} {A : Option Addr} {xs : List Int}
theorem Sm.of_fr (f : Fr a b w w') (ht : hi ≤ w.heap.size) (ho : b ≤ lo ∨ hi ≤ a ∨ b ≤ a) : Sm w w' lo hi := ⟨f.size, fun g h1 h2 => f.block g (by omega) (by omega)⟩
theorem Sm.sub {lo' hi' : Nat} (s : Sm w w' lo hi) (h1 : lo ≤ lo') (h2 : hi' ≤ hi) : Sm w w' lo' hi' := ⟨s.1, fun g h3 h4 => s.2 g (by omega) (by omega)⟩
theorem Ints.sm (h : Ints w lo hi A n xs) (s : Sm w w' lo hi) : Ints w' lo hi A n xs :=
  ⟨h.1, h.2.1, Nat.le_trans h.2.2.1 s.1, fun h0 => by
    obtain ⟨b, off, e, h1, h2, h3⟩ := h.2.2.2 h0
    exact ⟨b, off, e, h1, h2, fun j hj => (World.cell?_of_block (a := ⟨b, off + j, none⟩) (s.2 b h1 h2)).trans (h3 j hj)⟩⟩
theorem Mine.sm (h : Mine w lo hi A n xs) (s : Sm w w' lo hi) : Mine w' lo hi A n xs :=
  ⟨h.1.sm s, fun b off e j hj => by
    obtain ⟨b', off', e', h1, h2, _⟩ := h.1.2.2.2 (by omega)
    rw [e] at e'
    injection e' with e'
    injection e' with e1 e2
    subst e1 e2
    exact (World.frozen?_of_block (a := ⟨b, off + j, none⟩) (s.2 b h1 h2)).trans (h.2 b off e j hj)⟩
theorem TwM.sm {A2 : Option Addr} {m : Nat} {ys : List Int} (h : TwM w lo hi A n xs A2 m ys) (s : Sm w w' lo hi) : TwM w' lo hi A n xs A2 m ys := by
  obtain ⟨ht, l1, h1, l2, h2, q1, q2, q3, q4, d1, m1, m2⟩ := h
  exact ⟨Nat.le_trans ht s.1, l1, h1, l2, h2, q1, q2, q3, q4, d1, m1.sm (s.sub q1 q2), m2.sm (s.sub q3 q4)⟩
end
/-- Three slices of ints of one's own, apart from each other. -/
structure ThM (w : World) (lo hi : Nat) (A1 : Option Addr) (n1 : Nat) (xs : List Int) (A2 : Option Addr) (n2 : Nat) (ys : List Int) (A3 : Option Addr) (n3 : Nat) (zs : List Int) : Prop where
  top : hi ≤ w.heap.size
  ex : ∃ l1 h1 l2 h2 l3 h3, (lo ≤ l1 ∧ h1 ≤ hi ∧ lo ≤ l2 ∧ h2 ≤ hi ∧ lo ≤ l3 ∧ h3 ≤ hi) ∧ (h1 ≤ l2 ∨ h2 ≤ l1) ∧ (h1 ≤ l3 ∨ h3 ≤ l1) ∧ (h2 ≤ l3 ∨ h3 ≤ l2) ∧ Mine w l1 h1 A1 n1 xs ∧ Mine w l2 h2 A2 n2 ys ∧ Mine w l3 h3 A3 n3 zs
theorem ThM.sm {w w' : World} {lo hi n1 n2 n3 : Nat} {A1 A2 A3 : Option Addr} {xs ys zs : List Int} (h : ThM w lo hi A1 n1 xs A2 n2 ys A3 n3 zs) (s : Sm w w' lo hi) : ThM w' lo hi A1 n1 xs A2 n2 ys A3 n3 zs := by
  obtain ⟨ht, l1, h1, l2, h2, l3, h3, hq, d1, d2, d3, m1, m2, m3⟩ := h
  exact ⟨Nat.le_trans ht s.1, l1, h1, l2, h2, l3, h3, hq, d1, d2, d3, m1.sm (s.sub (by omega) (by omega)), m2.sm (s.sub (by omega) (by omega)), m3.sm (s.sub (by omega) (by omega))⟩
theorem TwM.three {w w' : World} {lo hi lo' hi' l h' n1 n2 n3 : Nat} {A1 A2 A3 : Option Addr} {xs ys zs : List Int} (h : TwM w lo hi A1 n1 xs A2 n2 ys) (m : Mine w lo' hi' A3 n3 zs) (d : hi ≤ lo' ∨ hi' ≤ lo) (h3 : l ≤ lo) (h4 : l ≤ lo') (h5 : hi ≤ h') (h6 : hi' ≤ h') (h7 : h' ≤ w.heap.size) : ThM w l h' A1 n1 xs A2 n2 ys A3 n3 zs := by
  obtain ⟨ht, a1, b1, a2, b2, q1, q2, q3, q4, d1, m1, m2⟩ := h
  exact ⟨h7, a1, b1, a2, b2, lo', hi', by omega, d1, by omega, by omega, m1, m2, m⟩

/-! ### Rows -/
abbrev RowP (α : Type) := World → Nat → Nat → (Nat → Value) → α → Prop
/-- What stands in blocks from lo to hi alone. -/
def RwOk {α : Type} (R : RowP α) : Prop := ∀ w w' lo hi u a, R w lo hi u a → Sm w w' lo hi → R w' lo hi u a
/-- Block b holds the rows; the data of row j lie from L j to U j. -/
structure RowsC {α : Type} (sz : Nat) (z : α) (R : RowP α) (w : World) (lo hi b off n : Nat) (L U : Nat → Nat) (l : List α) : Prop where
  len : l.length = n
  le : n ≤ 67108864
  top : hi ≤ w.heap.size
  bl : lo ≤ b ∧ b < hi
  iv : ∀ j, j < n → lo ≤ L j ∧ U j ≤ hi ∧ (b < L j ∨ U j ≤ b)
  inc : ∀ i j, i < j → j < n → U i ≤ L j
  fz : ∀ j, j < n * sz → w.frozen? ⟨b, off + j, none⟩ = false
  row : ∀ j, j < n → ∃ u : Nat → Value, (∀ i, i < sz → w.cell? ⟨b, off + (j * sz + i), none⟩ = some (u i)) ∧ R w (L j) (U j) u (l.getD j z)
/-- A slice of rows of one's own. -/
structure RowsM {α : Type} (sz : Nat) (z : α) (R : RowP α) (w : World) (lo hi : Nat) (A : Option Addr) (n : Nat) (l : List α) : Prop where
  len : l.length = n
  le : n ≤ 67108864
  top : hi ≤ w.heap.size
  ex : 0 < n → ∃ b off L U, A = some ⟨b, off, none⟩ ∧ RowsC sz z R w lo hi b off n L U l
/-- Of block b the cells from o1 to o2 may have turned, and the blocks from lk to uk. -/
structure Ch (w w1 : World) (b o1 o2 lk uk : Nat) : Prop where
  os : w1.os = w.os
  tape : w1.tape = w.tape
  output : w1.output = w.output
  size : w.heap.size ≤ w1.heap.size
  block : ∀ g, g < w.heap.size → g ≠ b → (g < lk ∨ uk ≤ g) → w1.heap[g]? = w.heap[g]?
  cell : ∀ i, (i < o1 ∨ o2 ≤ i) → w1.cell? ⟨b, i, none⟩ = w.cell? ⟨b, i, none⟩
  fz : ∀ i, w1.frozen? ⟨b, i, none⟩ = w.frozen? ⟨b, i, none⟩
section
variable {w w1 w2 : World} {b o1 o2 lk uk : Nat}
theorem Ch.refl (w : World) (b o1 o2 lk uk : Nat) : Ch w w b o1 o2 lk uk := ⟨rfl, rfl, rfl, Nat.le_refl _, fun _ _ _ _ => rfl, fun _ _ => rfl, fun _ => rfl⟩
theorem Ch.set (h : Ch w w1 b o1 o2 lk uk) {i : Nat} (h1 : o1 ≤ i) (h2 : i < o2) (v : Value) : Ch w (w1.setCell ⟨b, i, none⟩ v) b o1 o2 lk uk :=
  ⟨h.os, h.tape, h.output, by simpa [World.setCell] using h.size, fun g hg hne ho => (Below.heap_setCell w1 ⟨b, i, none⟩ v g hne).trans (h.block g hg hne ho), fun j hj => by
    rw [World.cell?_setCell_other w1 _ _ _ (by intro e; injection e with _ e; omega)]; exact h.cell j hj, fun j => by rw [World.frozen?_setCell]; exact h.fz j⟩
theorem Ch.fr {l' u' : Nat} (h : Ch w w1 b o1 o2 lk uk) (f : Fr l' u' w1 w2) (h1 : lk ≤ l') (h2 : u' ≤ uk) (hb : b < lk ∨ uk ≤ b) (hlt : b < w.heap.size) : Ch w w2 b o1 o2 lk uk :=
  ⟨f.os.trans h.os, f.tape.trans h.tape, f.output.trans h.output, Nat.le_trans h.size f.size, fun g hg hne ho => (f.block g (Nat.lt_of_lt_of_le hg h.size) (by omega)).trans (h.block g hg hne ho), fun j hj => (f.cell (p := ⟨b, j, none⟩) (Nat.lt_of_lt_of_le hlt h.size) (by show b < _ ∨ _ ≤ b; omega)).trans (h.cell j hj), fun j => (f.frozen (p := ⟨b, j, none⟩) (Nat.lt_of_lt_of_le hlt h.size) (by show b < _ ∨ _ ≤ b; omega)).trans (h.fz j)⟩
end
section
variable {α : Type} {sz : Nat} {z : α} {R : RowP α} {w w1 : World} {lo hi b off n : Nat} {L U : Nat → Nat} {l : List α} {A : Option Addr}
theorem RowsC.sm (ok : RwOk R) (h : RowsC sz z R w lo hi b off n L U l) (s : Sm w w1 lo hi) : RowsC sz z R w1 lo hi b off n L U l := by
  have hb := s.2 b h.bl.1 h.bl.2
  refine ⟨h.len, h.le, Nat.le_trans h.top s.1, h.bl, h.iv, h.inc, fun j hj => (World.frozen?_of_block (a := ⟨b, off + j, none⟩) hb).trans (h.fz j hj), fun j hj => ?_⟩
  obtain ⟨u, h1, h2⟩ := h.row j hj
  have hi := h.iv j hj
  exact ⟨u, fun i hi => (World.cell?_of_block (a := ⟨b, off + (j * sz + i), none⟩) hb).trans (h1 i hi), ok _ _ _ _ _ _ h2 (s.sub hi.1 hi.2.1)⟩
theorem RowsC.put (ok : RwOk R) (h : RowsC sz z R w lo hi b off n L U l) {k : Nat} (hk : k < n) {a' : α} {u' : Nat → Value} (c : Ch w w1 b (off + k * sz) (off + k * sz + sz) (L k) (U k))
    (hc : ∀ i, i < sz → w1.cell? ⟨b, off + (k * sz + i), none⟩ = some (u' i)) (hr : R w1 (L k) (U k) u' a') : RowsC sz z R w1 lo hi b off n L U (l.set k a') ∧ Fr lo hi w w1 := by
  have hk2 := h.iv k hk
  refine ⟨⟨by simpa using h.len, h.le, Nat.le_trans h.top c.size, h.bl, h.iv, h.inc, fun j hj => (c.fz _).trans (h.fz j hj), fun j hj => ?_⟩, ⟨c.os, c.tape, c.output, c.size, fun g hg ho => c.block g hg (by have := h.bl; omega) (by omega)⟩⟩
  by_cases e : j = k
  · subst e
    exact ⟨u', hc, by rw [getD_set_same (by rw [h.len]; exact hj)]; exact hr⟩
  · obtain ⟨u, h1, h2⟩ := h.row j hj
    have hj2 := h.iv j hj
    rw [getD_set_other (by omega)]
    refine ⟨u, fun i hi => ?_, ok _ _ _ _ _ _ h2 ⟨c.size, fun g g1 g2 => c.block g (by have := h.top; omega) (by omega) ?_⟩⟩
    · have hm : (j + 1) * sz ≤ k * sz ∨ (k + 1) * sz ≤ j * sz := by
        rcases Nat.lt_or_gt_of_ne e with q | q
        · exact .inl (Nat.mul_le_mul_right _ q)
        · exact .inr (Nat.mul_le_mul_right _ q)
      rw [Nat.succ_mul, Nat.succ_mul] at hm
      rw [c.cell _ (by omega)]; exact h1 i hi
    · rcases Nat.lt_or_gt_of_ne e with q | q
      · have := h.inc j k q hk; omega
      · have := h.inc k j q hj; omega
theorem RowsC.rowsM (h : RowsC sz z R w lo hi b off n L U l) : RowsM sz z R w lo hi (some ⟨b, off, none⟩) n l := ⟨h.len, h.le, h.top, fun _ => ⟨b, off, L, U, rfl, h⟩⟩
theorem RowsM.sm (ok : RwOk R) (h : RowsM sz z R w lo hi A n l) (s : Sm w w1 lo hi) : RowsM sz z R w1 lo hi A n l :=
  ⟨h.len, h.le, Nat.le_trans h.top s.1, fun h0 => by obtain ⟨b, off, L, U, e, hc⟩ := h.ex h0; exact ⟨b, off, L, U, e, hc.sm ok s⟩⟩
theorem RowsM.fr {x y : Nat} (ok : RwOk R) (h : RowsM sz z R w lo hi A n l) (f : Fr x y w w1) (ho : y ≤ lo ∨ hi ≤ x ∨ y ≤ x) : RowsM sz z R w1 lo hi A n l := h.sm ok (Sm.of_fr f h.top ho)
theorem RowsM.keeps (ok : RwOk R) (h : RowsM sz z R w lo hi A n l) (k : Keeps w w1) : RowsM sz z R w1 lo hi A n l := h.fr ok (Fr.of_keeps k 0 0) (by omega)
theorem RowsM.widen {lo' hi' : Nat} (h : RowsM sz z R w lo hi A n l) (h1 : lo' ≤ lo) (h2 : hi ≤ hi') (h3 : hi' ≤ w.heap.size) : RowsM sz z R w lo' hi' A n l :=
  ⟨h.len, h.le, h3, fun h0 => by
    obtain ⟨b, off, L, U, e, hc⟩ := h.ex h0
    exact ⟨b, off, L, U, e, hc.len, hc.le, h3, by have := hc.bl; omega, fun j hj => by have := hc.iv j hj; omega, hc.inc, hc.fz, hc.row⟩⟩
theorem RowsM.nil_ (w : World) (A : Option Addr) (lo hi : Nat) (h : hi ≤ w.heap.size) : RowsM sz z R w lo hi A 0 [] := ⟨rfl, by omega, h, fun h => absurd h (by omega)⟩
/-- Rows of one's own are read. -/
theorem RowsM.rgs {f : α → List D} (hf : ∀ a, (f a).length = sz) (hs : 0 < sz) (hR : ∀ w lo hi u a, R w lo hi u a → hi ≤ w.heap.size → ∀ i, i < sz → Rg true true w lo hi ((f a).getD i (.i 0)) (u i)) (h : RowsM sz z R w lo hi A n l) : RgS true true w lo hi A n (l.flatMap f) := by
  refine ⟨h.top, fun h0 => ?_⟩
  obtain ⟨b, off, L, U, e, hc⟩ := h.ex h0
  refine ⟨b, off, e, hc.bl.1, hc.bl.2, RgL.of_at _ off fun j hj => ?_⟩
  rw [flat_len hf, hc.len] at hj
  have hq : j / sz < n := Nat.div_lt_of_lt_mul (by rw [Nat.mul_comm]; exact hj)
  have hm := Nat.mod_lt j hs
  have ej : j / sz * sz + j % sz = j := by rw [Nat.mul_comm]; exact Nat.div_add_mod j sz
  obtain ⟨u, h1, h2⟩ := hc.row (j / sz) hq
  have h3 := flat_at hf (.i 0) z l (j / sz) (j % sz) (by rw [hc.len]; exact hq) hm
  have h4 := h1 (j % sz) hm
  have hi := hc.iv _ hq
  rw [ej] at h3 h4
  refine ⟨_, h4, fun _ => hc.fz j hj, ?_⟩
  rw [h3]
  exact Rg.widen hi.1 hi.2.1 hc.top _ _ (hR _ _ _ _ _ h2 (by have := hc.top; omega) _ hm)
end
/-! ### Rows that are gathered by append -/
structure GrowC {α : Type} (sz : Nat) (z : α) (R : RowP α) (w : World) (B E : Nat) (v : Value) (cs : List Value) (L U : Nat → Nat) (l : List α) : Prop where
  has : Has w B E sz v l.length cs
  iv : ∀ j, j < l.length → B ≤ L j ∧ U j ≤ w.heap.size ∧ ∀ g, v.ownBlock = some g → g < L j ∨ U j ≤ g
  inc : ∀ i j, i < j → j < l.length → U i ≤ L j
  row : ∀ j, j < l.length → ∃ u : Nat → Value, (∀ i, i < sz → cs[j * sz + i]? = some (u i)) ∧ R w (L j) (U j) u (l.getD j z)
section
variable {α : Type} {sz : Nat} {z : α} {R : RowP α} {w w1 : World} {B E : Nat} {v : Value} {cs : List Value} {L U : Nat → Nat} {l : List α}
theorem GrowC.nil (w : World) (B E : Nat) : GrowC sz z R w B E (.slice none 0 0) [] (fun _ => 0) (fun _ => 0) [] :=
  ⟨World.ownsRow_nil _ _ _ _, fun j h => absurd h (by simp), fun i j _ h => absurd h (by simp), fun j h => absurd h (by simp)⟩
theorem GrowC.keeps (ok : RwOk R) (h : GrowC sz z R w B E v cs L U l) (k : Keeps w w1) : GrowC sz z R w1 B E v cs L U l :=
  ⟨h.has.below k, fun j hj => by have := h.iv j hj; have := k.size; exact ⟨by omega, by omega, (h.iv j hj).2.2⟩, h.inc, fun j hj => by
    obtain ⟨u, h1, h2⟩ := h.row j hj
    exact ⟨u, h1, ok _ _ _ _ _ _ h2 ⟨k.size, fun g _ hg => k.block g (by have := h.iv j hj; omega)⟩⟩⟩
/-- One row more. -/
theorem GrowC.snoc (ok : RwOk R) (h : GrowC sz z R w B E v cs L U l) {v' : Value} {new : List Value} {a : α} {x y : Nat} (hn : new.length = sz) (hh : Has w1 B E sz v' (l.length + 1) (cs ++ new)) (hg : w.grownBy w1 v.ownBlock)
    (ho : v'.ownBlock = v.ownBlock ∨ v'.ownBlock = some (w.heap.size + 1)) (hx : B ≤ x) (hy : y ≤ w.heap.size) (hU : ∀ j, j < l.length → U j ≤ x) (hv : ∀ g, v.ownBlock = some g → g < x ∨ y ≤ g) (hr : R w x y (fun i => new.getD i undef) a) :
    GrowC sz z R w1 B E v' (cs ++ new) (fun j => if j < l.length then L j else x) (fun j => if j < l.length then U j else y) (l ++ [a]) := by
  have hcl : cs.length = l.length * sz := h.has.1
  have own : ∀ lo hi, hi ≤ w.heap.size → (∀ g, v.ownBlock = some g → g < lo ∨ hi ≤ g) → Sm w w1 lo hi := fun lo hi h1 h2 => ⟨hg.size, fun g g1 g2 => hg.block g (by omega) (fun e => by have := h2 g e.symm; omega)⟩
  have new' : ∀ lo hi, hi ≤ w.heap.size → (∀ g, v.ownBlock = some g → g < lo ∨ hi ≤ g) → ∀ g, v'.ownBlock = some g → g < lo ∨ hi ≤ g := fun lo hi h1 h2 g e => by
    rcases ho with q | q
    · exact h2 g (q ▸ e)
    · rw [q] at e; injection e with e; omega
  refine ⟨by rw [List.length_append]; exact hh, fun j hj => ?_, fun i j hij hj => ?_, fun j hj => ?_⟩
  · rw [List.length_append, List.length_singleton] at hj
    have hs := hg.size
    by_cases e : j < l.length
    · have q := h.iv j e
      try dsimp only
      rw [if_pos e, if_pos e]; exact ⟨q.1, by omega, new' _ _ q.2.1 q.2.2⟩
    · try dsimp only
      rw [if_neg e, if_neg e]; exact ⟨hx, by omega, new' _ _ hy hv⟩
  · rw [List.length_append, List.length_singleton] at hj
    try dsimp only
    by_cases e : j < l.length
    · rw [if_pos (show i < l.length by omega), if_pos e]; exact h.inc i j hij e
    · rw [if_pos (show i < l.length by omega), if_neg e]; exact hU i (by omega)
  · rw [List.length_append, List.length_singleton] at hj
    try dsimp only
    by_cases e : j < l.length
    · obtain ⟨u, h1, h2⟩ := h.row j e
      have q := h.iv j e
      have hm : (j + 1) * sz ≤ l.length * sz := Nat.mul_le_mul_right _ e
      rw [Nat.succ_mul] at hm
      rw [if_pos e, if_pos e]
      refine ⟨u, fun i hi => ?_, ?_⟩
      · rw [List.getElem?_append_left (by omega)]; exact h1 i hi
      · rw [show (l ++ [a]).getD j z = l.getD j z by simp only [List.getD]; rw [List.getElem?_append_left e]]
        exact ok _ _ _ _ _ _ h2 (own _ _ q.2.1 q.2.2)
    · obtain rfl : j = l.length := by omega
      rw [if_neg e, if_neg e]
      refine ⟨fun i => new.getD i undef, fun i hi => ?_, ?_⟩
      · rw [List.getElem?_append_right (by omega), hcl, show l.length * sz + i - l.length * sz = i by omega]
        simp [List.getD, show i < new.length by omega]
      · rw [show (l ++ [a]).getD l.length z = a by simp [List.getD]]
        exact ok _ _ _ _ _ _ hr (own _ _ hy hv)
/-- What was gathered is a slice of rows of one's own. -/
theorem GrowC.rowsM (h : GrowC sz z R w B E v cs L U l) (hl : l.length ≤ 67108864) (hB : B ≤ w.heap.size) : ∃ A c, v = .slice A l.length c ∧ RowsM sz z R w B w.heap.size A l.length l := by
  obtain ⟨A, c, hv⟩ := h.has.form
  refine ⟨A, c, hv, rfl, hl, Nat.le_refl _, fun h0 => ?_⟩
  rcases h.has.2 with ⟨_, h3⟩ | ⟨g, cap, cur, hv', hb, hg, hcap, hmax, hsz, htk⟩
  · omega
  · rw [hv] at hv'
    injection hv' with e1 e2 e3
    have hlt := (h.has.lt g (by rw [hv, e1]; rfl)).2
    refine ⟨g, 0, L, U, e1, rfl, hl, Nat.le_refl _, ⟨hb, hlt⟩, fun j hj => ?_, h.inc, fun j hj => ?_, fun j hj => ?_⟩
    · have q := h.iv j hj
      exact ⟨q.1, q.2.1, q.2.2 g (by rw [hv, e1]; rfl)⟩
    · unfold World.frozen?
      simp [hg]
    · obtain ⟨u, q1, q2⟩ := h.row j hj
      refine ⟨u, fun i hi => ?_, q2⟩
      have := h.has.cells (g := g) (by rw [hv, e1]; rfl) _ _ (q1 i hi)
      rwa [Addr.add_lit] at this
end
/-! ### Rows of tables, of published tables, of releases -/
def RwT : RowP TT := fun w lo hi u t => ∃ V cv H ch, u 0 = .int .i64 t.1 ∧ u 1 = .slice V t.2.1.length cv ∧ u 2 = .slice H t.2.2.1.length ch ∧ u 3 = .int .i64 t.2.2.2 ∧ TwM w lo hi V t.2.1.length t.2.1 H t.2.2.1.length t.2.2.1
theorem RwT.ok : RwOk RwT := fun w w' lo hi u t h s => by obtain ⟨V, cv, H, ch, h0, h1, h2, h3, h4⟩ := h; exact ⟨V, cv, H, ch, h0, h1, h2, h3, h4.sm s⟩
theorem RwT.rg {w : World} {lo hi : Nat} {u : Nat → Value} {t : TT} (h : RwT w lo hi u t) (ht : hi ≤ w.heap.size) : ∀ i, i < 4 → Rg true true w lo hi ((dT t).getD i (.i 0)) (u i) := by
  obtain ⟨V, cv, H, ch, h0, h1, h2, h3, h4⟩ := h
  obtain ⟨_, a1, b1, a2, b2, q1, q2, q3, q4, d1, m1, m2⟩ := h4
  intro i hi
  match i, hi with
  | 0, _ => rw [h0]; exact Rg.of_i _
  | 1, _ => rw [h1]; exact (RgS.widen m1.rgs q1 q2 ht).rg
  | 2, _ => rw [h2]; exact (RgS.widen m2.rgs q3 q4 ht).rg
  | 3, _ => rw [h3]; exact Rg.of_i _
theorem RwT.sm_ {w : World} {lo hi : Nat} {u : Nat → Value} {t : TT} (h : RwT w lo hi u t) : smT t := by
  obtain ⟨V, cv, H, ch, h0, h1, h2, h3, h4⟩ := h
  exact ⟨h4.a.le, h4.b.le⟩
theorem RowsM.tabs {w : World} {lo hi n : Nat} {A : Option Addr} {l : List TT} (h : RowsM 4 t0 RwT w lo hi A n l) : Tabs true true w lo hi A n l :=
  ⟨h.rgs dT_len (by omega) (fun w lo hi u a hr ht => hr.rg ht), h.len, h.le, fun j => by
    rcases Nat.lt_or_ge j n with hj | hj
    · obtain ⟨b, off, L, U, e, hc⟩ := h.ex (by omega)
      obtain ⟨u, _, h2⟩ := hc.row j hj
      exact h2.sm_
    · rw [getD_out (by rw [h.len]; exact hj)]; simp [smT, t0]⟩
def RwP : RowP PP := fun w lo hi u p => ∃ V cv H ch K ck, u 0 = .int .i64 p.1.1 ∧ u 1 = .slice V p.1.2.1.length cv ∧ u 2 = .slice H p.1.2.2.1.length ch ∧ u 3 = .int .i64 p.1.2.2.2 ∧ u 4 = .slice K p.2.length ck ∧ ThM w lo hi V p.1.2.1.length p.1.2.1 H p.1.2.2.1.length p.1.2.2.1 K p.2.length p.2
theorem RwP.ok : RwOk RwP := fun w w' lo hi u t h s => by obtain ⟨V, cv, H, ch, K, ck, h0, h1, h2, h3, h4, h5⟩ := h; exact ⟨V, cv, H, ch, K, ck, h0, h1, h2, h3, h4, h5.sm s⟩
theorem RwP.rg {w : World} {lo hi : Nat} {u : Nat → Value} {p : PP} (h : RwP w lo hi u p) (ht : hi ≤ w.heap.size) : ∀ i, i < 5 → Rg true true w lo hi ((dP p).getD i (.i 0)) (u i) := by
  obtain ⟨V, cv, H, ch, K, ck, h0, h1, h2, h3, h4, h5⟩ := h
  obtain ⟨_, a1, b1, a2, b2, a3, b3, ⟨q1, q2, q3, q4, q5, q6⟩, d1, d2, d3, m1, m2, m3⟩ := h5
  intro i hi
  match i, hi with
  | 0, _ => rw [h0]; exact Rg.of_i _
  | 1, _ => rw [h1]; exact (RgS.widen m1.rgs q1 q2 ht).rg
  | 2, _ => rw [h2]; exact (RgS.widen m2.rgs q3 q4 ht).rg
  | 3, _ => rw [h3]; exact Rg.of_i _
  | 4, _ => rw [h4]; exact (RgS.widen m3.rgs q5 q6 ht).rg
theorem RowsM.pubs {w : World} {lo hi n : Nat} {A : Option Addr} {l : List PP} (h : RowsM 5 p0 RwP w lo hi A n l) : Pubs true true w lo hi A n l :=
  ⟨h.rgs dP_len (by omega) (fun w lo hi u a hr ht => hr.rg ht), h.len, h.le, fun j => by
    rcases Nat.lt_or_ge j n with hj | hj
    · obtain ⟨b, off, L, U, e, hc⟩ := h.ex (by omega)
      obtain ⟨u, _, V, cv, H, ch, K, ck, h0, h1, h2, h3, h4, h5⟩ := hc.row j hj
      obtain ⟨_, a1, b1, a2, b2, a3, b3, _, d1, d2, d3, m1, m2, m3⟩ := h5
      exact ⟨⟨m1.1.le, m2.1.le⟩, m3.1.le⟩
    · rw [getD_out (by rw [h.len]; exact hj)]; simp [smP, smT, p0, t0]⟩
def RwR : RowP RL := fun w lo hi u r => ∃ P cp, u 0 = .int .i64 r.1 ∧ u 1 = .slice P r.2.1.length cp ∧ u 2 = .int .i64 r.2.2.1 ∧ u 3 = .int .i64 r.2.2.2.1 ∧ u 4 = .int .i64 r.2.2.2.2.1 ∧ u 5 = .int .i64 r.2.2.2.2.2 ∧ RowsM 4 t0 RwT w lo hi P r.2.1.length r.2.1
theorem RwR.ok : RwOk RwR := fun w w' lo hi u t h s => by obtain ⟨P, cp, h0, h1, h2, h3, h4, h5, h6⟩ := h; exact ⟨P, cp, h0, h1, h2, h3, h4, h5, h6.sm RwT.ok s⟩
theorem RwR.rg {w : World} {lo hi : Nat} {u : Nat → Value} {r : RL} (h : RwR w lo hi u r) (ht : hi ≤ w.heap.size) : ∀ i, i < 6 → Rg true true w lo hi ((dR r).getD i (.i 0)) (u i) := by
  obtain ⟨P, cp, h0, h1, h2, h3, h4, h5, h6⟩ := h
  intro i hi
  match i, hi with
  | 0, _ => rw [h0]; exact Rg.of_i _
  | 1, _ => rw [h1]; exact h6.tabs.r.rg
  | 2, _ => rw [h2]; exact Rg.of_i _
  | 3, _ => rw [h3]; exact Rg.of_i _
  | 4, _ => rw [h4]; exact Rg.of_i _
  | 5, _ => rw [h5]; exact Rg.of_i _
theorem RowsM.rels {w : World} {lo hi n : Nat} {A : Option Addr} {l : List RL} (h : RowsM 6 rl0 RwR w lo hi A n l) : Rels true true w lo hi A n l :=
  ⟨h.rgs dR_len (by omega) (fun w lo hi u a hr ht => hr.rg ht), h.len, h.le, fun j => by
    rcases Nat.lt_or_ge j n with hj | hj
    · obtain ⟨b, off, L, U, e, hc⟩ := h.ex (by omega)
      obtain ⟨u, _, P, cp, h0, h1, h2, h3, h4, h5, h6⟩ := hc.row j hj
      exact ⟨h6.le, fun i => h6.tabs.sm i⟩
    · rw [getD_out (by rw [h.len]; exact hj)]; simp [smR, smT, rl0, t0]⟩
/-! ### Rows that are filled -/
/-- The first k rows of block g are filled. -/
structure FillS {α : Type} (sz : Nat) (z : α) (R : RowP α) (w : World) (g n E : Nat) (cs : List Value) (L U : Nat → Nat) (l : List α) (k : Nat) : Prop where
  own : OwnC w g E cs
  len : cs.length = n * sz
  iv : ∀ j, j < k → g < L j ∧ U j ≤ w.heap.size
  inc : ∀ i j, i < j → j < k → U i ≤ L j
  row : ∀ j, j < k → R w (L j) (U j) (fun i => cs.getD (j * sz + i) undef) (l.getD j z)
section
variable {α : Type} {sz : Nat} {z : α} {R : RowP α} {w w1 w2 : World} {g n E k : Nat} {cs : List Value} {L U : Nat → Nat} {l : List α}
theorem FillS.lt (h : FillS sz z R w g n E cs L U l k) : g < w.heap.size := h.own.lt
theorem FillS.new (w : World) (c : Array Value) (n T : Nat) (l : List α) : FillS sz z R (w.alloc (.cells (madeCells c (n * sz)) T)) w.heap.size n T (madeCells c (n * sz)).toList (fun _ => 0) (fun _ => 0) l 0 :=
  ⟨by unfold OwnC; rw [heap_alloc_new], by simp [size_madeCells], fun j h => absurd h (by omega), fun i j _ h => absurd h (by omega), fun j h => absurd h (by omega)⟩
theorem FillS.keeps (ok : RwOk R) (h : FillS sz z R w g n E cs L U l k) (kk : Keeps w w1) : FillS sz z R w1 g n E cs L U l k :=
  ⟨h.own.keeps kk, h.len, fun j hj => by have := h.iv j hj; have := kk.size; omega, h.inc, fun j hj => ok _ _ _ _ _ _ (h.row j hj) ⟨kk.size, fun x _ hx => kk.block x (by have := h.iv j hj; omega)⟩⟩
/-- Row k is written: its data lie behind the old world. -/
theorem FillS.put (ok : RwOk R) (h : FillS sz z R w g n E cs L U l k) (hk : k < n) (k1 : Keeps w w1) (f : Fr g (g + 1) w1 w2) (hs : w2.heap.size = w1.heap.size) {cs' : List Value} {a : α} (ha : l.getD k z = a) (ho : OwnC w2 g E cs') (hc : cs'.length = n * sz)
    (old : ∀ j, j < k * sz → cs'.getD j undef = cs.getD j undef) (new : R w1 w.heap.size w1.heap.size (fun i => cs'.getD (k * sz + i) undef) a) (hco : ∀ lo hi u u' x, R w2 lo hi u x → (∀ i, i < sz → u i = u' i) → R w2 lo hi u' x) :
    FillS sz z R w2 g n E cs' (fun j => if j < k then L j else w.heap.size) (fun j => if j < k then U j else w1.heap.size) l (k + 1) := by
  have hsz := k1.size
  have hlt := h.lt
  refine ⟨ho, hc, fun j hj => ?_, fun i j hij hj => ?_, fun j hj => ?_⟩
  · try dsimp only
    by_cases e : j < k
    · have := h.iv j e; rw [if_pos e, if_pos e]; omega
    · rw [if_neg e, if_neg e]; omega
  · try dsimp only
    rw [if_pos (show i < k by omega)]
    by_cases e : j < k
    · rw [if_pos e]; exact h.inc i j hij e
    · rw [if_neg e]; exact (h.iv i (by omega)).2
  · try dsimp only
    by_cases e : j < k
    · have q := h.iv j e
      rw [if_pos e, if_pos e]
      refine hco _ _ _ _ _ (ok _ _ _ _ _ _ (h.row j e) ⟨by omega, fun x x1 x2 => ?_⟩) (fun i hi => ?_)
      · rw [f.block x (by omega) (by omega)]; exact k1.block x (by omega)
      · have hm : (j + 1) * sz ≤ k * sz := Nat.mul_le_mul_right _ e
        rw [Nat.succ_mul] at hm
        exact (old _ (by omega)).symm
    · obtain rfl : j = k := by omega
      rw [if_neg e, if_neg e, ha]
      exact ok _ _ _ _ _ _ new ⟨by omega, fun x x1 x2 => f.block x (by omega) (by omega)⟩
theorem FillS.rowsM (h : FillS sz z R w g n E cs L U l n) (hl : l.length = n) (hn : n ≤ 67108864) {lo : Nat} (hlo : lo ≤ g) : RowsM sz z R w lo w.heap.size (some ⟨g, 0, none⟩) n l := by
  refine ⟨hl, hn, Nat.le_refl _, fun _ => ⟨g, 0, L, U, rfl, hl, hn, Nat.le_refl _, ⟨hlo, h.lt⟩, fun j hj => ?_, h.inc, fun j hj => h.own.frozen _, fun j hj => ⟨_, fun i hi => ?_, h.row j hj⟩⟩⟩
  · have := h.iv j hj; omega
  · have hm : (j + 1) * sz ≤ n * sz := Nat.mul_le_mul_right _ hj
    rw [Nat.succ_mul] at hm
    rw [Nat.zero_add]
    exact h.own.cell _ (by rw [h.len]; omega)
end
theorem RwT.co {w : World} {lo hi : Nat} {u u' : Nat → Value} {x : TT} (h : RwT w lo hi u x) (e : ∀ i, i < 4 → u i = u' i) : RwT w lo hi u' x := by
  obtain ⟨V, cv, H, ch, h0, h1, h2, h3, h4⟩ := h
  exact ⟨V, cv, H, ch, by rw [← e 0 (by omega)]; exact h0, by rw [← e 1 (by omega)]; exact h1, by rw [← e 2 (by omega)]; exact h2, by rw [← e 3 (by omega)]; exact h3, h4⟩
theorem RwP.co {w : World} {lo hi : Nat} {u u' : Nat → Value} {x : PP} (h : RwP w lo hi u x) (e : ∀ i, i < 5 → u i = u' i) : RwP w lo hi u' x := by
  obtain ⟨V, cv, H, ch, K, ck, h0, h1, h2, h3, h4, h5⟩ := h
  exact ⟨V, cv, H, ch, K, ck, by rw [← e 0 (by omega)]; exact h0, by rw [← e 1 (by omega)]; exact h1, by rw [← e 2 (by omega)]; exact h2, by rw [← e 3 (by omega)]; exact h3, by rw [← e 4 (by omega)]; exact h4, h5⟩
/-- Published tables of one's own. -/
def PubsO (w : World) (lo hi : Nat) (A : Option Addr) (n : Nat) (l : List PP) : Prop := RowsM 5 p0 RwP w lo hi A n l
/-- Releases of one's own. -/
def RelsO (w : World) (lo hi : Nat) (A : Option Addr) (n : Nat) (l : List RL) : Prop := RowsM 6 rl0 RwR w lo hi A n l
section
variable {w w' : World} {lo hi a b n : Nat} {A : Option Addr} {l : List PP} {l' : List RL}
theorem PubsO.rows (h : PubsO w lo hi A n l) : RowsM 5 p0 RwP w lo hi A n l := h
theorem PubsO.top (h : PubsO w lo hi A n l) : hi ≤ w.heap.size := RowsM.top h
theorem PubsO.len (h : PubsO w lo hi A n l) : l.length = n := RowsM.len h
theorem PubsO.fr (h : PubsO w lo hi A n l) (f : Fr a b w w') (ho : b ≤ lo ∨ hi ≤ a ∨ b ≤ a) : PubsO w' lo hi A n l := RowsM.fr RwP.ok h f ho
theorem PubsO.keeps (h : PubsO w lo hi A n l) (k : Keeps w w') : PubsO w' lo hi A n l := RowsM.keeps RwP.ok h k
theorem PubsO.widen {lo' hi' : Nat} (h : PubsO w lo hi A n l) (h1 : lo' ≤ lo) (h2 : hi ≤ hi') (h3 : hi' ≤ w.heap.size) : PubsO w lo' hi' A n l := RowsM.widen h h1 h2 h3
theorem PubsO.pubs (h : PubsO w lo hi A n l) : Pubs true true w lo hi A n l := RowsM.pubs h
theorem RelsO.rows (h : RelsO w lo hi A n l') : RowsM 6 rl0 RwR w lo hi A n l' := h
theorem RelsO.top (h : RelsO w lo hi A n l') : hi ≤ w.heap.size := RowsM.top h
theorem RelsO.len (h : RelsO w lo hi A n l') : l'.length = n := RowsM.len h
theorem RelsO.fr (h : RelsO w lo hi A n l') (f : Fr a b w w') (ho : b ≤ lo ∨ hi ≤ a ∨ b ≤ a) : RelsO w' lo hi A n l' := RowsM.fr RwR.ok h f ho
theorem RelsO.keeps (h : RelsO w lo hi A n l') (k : Keeps w w') : RelsO w' lo hi A n l' := RowsM.keeps RwR.ok h k
theorem RelsO.widen {lo' hi' : Nat} (h : RelsO w lo hi A n l') (h1 : lo' ≤ lo) (h2 : hi ≤ hi') (h3 : hi' ≤ w.heap.size) : RelsO w lo' hi' A n l' := RowsM.widen h h1 h2 h3
theorem RelsO.rels (h : RelsO w lo hi A n l') : Rels true true w lo hi A n l' := RowsM.rels h
end
/-! ### Marks -/
def mkT (k : Int) (t : TT) : TT := (k, iota (k + 1) t.2.1.length, iota (k + 1 + t.2.1.length) t.2.2.1.length, k + 1 + t.2.1.length + t.2.2.1.length)
def mkTs (k : Int) (l : List TT) : Nat → List TT
  | 0 => l
  | j + 1 => (mkTs k l j).set j (mkT (k + (2 * j + tsz l j)) (l.getD j t0))
def mkP (k : Int) (p : PP) : PP := (mkT k p.1, iota (k + 2 + p.1.2.1.length + p.1.2.2.1.length) p.2.length)
def mkPs (k : Int) (l : List PP) : Nat → List PP
  | 0 => l
  | j + 1 => (mkPs k l j).set j (mkP (k + (2 * j + psz l j)) (l.getD j p0))
def mkR (k : Int) (r : RL) : RL :=
  let q := k + 1 + (2 * r.2.1.length + tsz r.2.1 r.2.1.length)
  (k, mkTs (k + 1) r.2.1 r.2.1.length, q, q + 1, q + 2, q + 3)
/-- The marks ahead of row j. -/
def rmk (l : List RL) : Nat → Nat
  | 0 => 0
  | j + 1 => rmk l j + (5 + 2 * (l.getD j rl0).2.1.length + tsz (l.getD j rl0).2.1 (l.getD j rl0).2.1.length)
def mkRs (k : Int) (l : List RL) : Nat → List RL
  | 0 => l
  | j + 1 => (mkRs k l j).set j (mkR (k + rmk l j) (l.getD j rl0))
theorem mkTs_len (k : Int) (l : List TT) : ∀ j, (mkTs k l j).length = l.length
  | 0 => rfl
  | j + 1 => by unfold mkTs; rw [List.length_set, mkTs_len k l j]
theorem mkTs_at {k : Int} {l : List TT} : ∀ j i, i < l.length → (mkTs k l j).getD i t0 = if i < j then mkT (k + (2 * i + tsz l i)) (l.getD i t0) else l.getD i t0
  | 0, i, _ => by rw [if_neg (by omega)]; rfl
  | j + 1, i, hi => by
    unfold mkTs
    by_cases e : i = j
    · subst e; rw [getD_set_same (by rw [mkTs_len]; exact hi), if_pos (by omega)]
    · rw [getD_set_other (by omega), mkTs_at j i hi]
      by_cases h : i < j
      · rw [if_pos h, if_pos (by omega)]
      · rw [if_neg h, if_neg (by omega)]
theorem mkPs_len (k : Int) (l : List PP) : ∀ j, (mkPs k l j).length = l.length
  | 0 => rfl
  | j + 1 => by unfold mkPs; rw [List.length_set, mkPs_len k l j]
theorem mkPs_at {k : Int} {l : List PP} : ∀ j i, i < l.length → (mkPs k l j).getD i p0 = if i < j then mkP (k + (2 * i + psz l i)) (l.getD i p0) else l.getD i p0
  | 0, i, _ => by rw [if_neg (by omega)]; rfl
  | j + 1, i, hi => by
    unfold mkPs
    by_cases e : i = j
    · subst e; rw [getD_set_same (by rw [mkPs_len]; exact hi), if_pos (by omega)]
    · rw [getD_set_other (by omega), mkPs_at j i hi]
      by_cases h : i < j
      · rw [if_pos h, if_pos (by omega)]
      · rw [if_neg h, if_neg (by omega)]
theorem mkRs_len (k : Int) (l : List RL) : ∀ j, (mkRs k l j).length = l.length
  | 0 => rfl
  | j + 1 => by unfold mkRs; rw [List.length_set, mkRs_len k l j]
theorem mkRs_at {k : Int} {l : List RL} : ∀ j i, i < l.length → (mkRs k l j).getD i rl0 = if i < j then mkR (k + rmk l i) (l.getD i rl0) else l.getD i rl0
  | 0, i, _ => by rw [if_neg (by omega)]; rfl
  | j + 1, i, hi => by
    unfold mkRs
    by_cases e : i = j
    · subst e; rw [getD_set_same (by rw [mkRs_len]; exact hi), if_pos (by omega)]
    · rw [getD_set_other (by omega), mkRs_at j i hi]
      by_cases h : i < j
      · rw [if_pos h, if_pos (by omega)]
      · rw [if_neg h, if_neg (by omega)]
theorem rmk_le (l : List RL) : ∀ j, j ≤ l.length → rmk l j ≤ 5 * j + 2 * rlsz l j
  | 0, _ => by simp [rmk]
  | j + 1, h => by
    have ih := rmk_le l j (by omega)
    have hs := rlsz_succ (l := l) (k := j) (by omega)
    unfold szRl at hs
    unfold rmk; omega
end Go.Proofs.YtohjkpopbmmliaaGreat
