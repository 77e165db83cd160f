/- What the proof of the statement leans on, part 7: walks of functions and plain lemmas, with no condition. -/
import Derived.Deep.RegionHeld3
import Derived.Deep.RegionHeldLaw
import Derived.Maps.AppendAt
import Derived.Deep.RegionLaw
import Derived.Test.YtohjkpopbmmliaaGreatQ5
namespace Go.Proofs.YtohjkpopbmmliaaGreat
open Go.RowKit Go.Sort Go.Deep
set_option linter.unusedVariables false
set_option linter.unusedSimpArgs false
/-- The blocks from lo to hi are as they were. -/
def SmB (w w' : World) (lo hi : Nat) : Prop := w.heap.size ≤ w'.heap.size ∧ ∀ g, lo ≤ g → g < hi → w'.heap[g]? = w.heap[g]?
section
variable {w w' : World} {lo hi a b n : Nat} {A : Option Addr} {xs : List Int}
theorem SmB.of_fr (f : Fr a b w w') (ht : hi ≤ w.heap.size) (ho : b ≤ lo ∨ hi ≤ a ∨ b ≤ a) : SmB w w' lo hi := ⟨f.size, fun g h1 h2 => f.block g (by omega) (by omega)⟩
theorem SmB.sub {lo' hi' : Nat} (s : SmB w w' lo hi) (h1 : lo ≤ lo') (h2 : hi' ≤ hi) : SmB w w' lo' hi' := ⟨s.1, fun g h3 h4 => s.2 g (by omega) (by omega)⟩
theorem Ints.sm (h : Ints w lo hi A n xs) (s : SmB w w' lo hi) : Ints w' lo hi A n xs :=
  ⟨h.1, h.2.1, Nat.le_trans h.2.2.1 s.1, fun h0 => by
    obtain ⟨b, off, e, h1, h2, h3⟩ := h.2.2.2 h0
    exact ⟨b, off, e, h1, h2, fun j hj => (World.cell?_of_block (a := ⟨b, off + j, none⟩) (s.2 b h1 h2)).trans (h3 j hj)⟩⟩
theorem Mine.sm (h : Mine w lo hi A n xs) (s : SmB w w' lo hi) : Mine w' lo hi A n xs :=
  ⟨h.1.sm s, fun b off e j hj => by
    obtain ⟨b', off', e', h1, h2, _⟩ := h.1.2.2.2 (by omega)
    rw [e] at e'
    injection e' with e'
    injection e' with e1 e2
    subst e1 e2
    exact (World.frozen?_of_block (a := ⟨b, off + j, none⟩) (s.2 b h1 h2)).trans (h.2 b off e j hj)⟩
theorem TwM.sm {A2 : Option Addr} {m : Nat} {ys : List Int} (h : TwM w lo hi A n xs A2 m ys) (s : SmB w w' lo hi) : TwM w' lo hi A n xs A2 m ys := by
  obtain ⟨ht, l1, h1, l2, h2, q1, q2, q3, q4, d1, m1, m2⟩ := h
  exact ⟨Nat.le_trans ht s.1, l1, h1, l2, h2, q1, q2, q3, q4, d1, m1.sm (s.sub q1 q2), m2.sm (s.sub q3 q4)⟩
end
/-- Three slices of ints of one's own, apart from each other. -/
structure ThM (w : World) (lo hi : Nat) (A1 : Option Addr) (n1 : Nat) (xs : List Int) (A2 : Option Addr) (n2 : Nat) (ys : List Int) (A3 : Option Addr) (n3 : Nat) (zs : List Int) : Prop where
  top : hi ≤ w.heap.size
  ex : ∃ l1 h1 l2 h2 l3 h3, (lo ≤ l1 ∧ h1 ≤ hi ∧ lo ≤ l2 ∧ h2 ≤ hi ∧ lo ≤ l3 ∧ h3 ≤ hi) ∧ (h1 ≤ l2 ∨ h2 ≤ l1) ∧ (h1 ≤ l3 ∨ h3 ≤ l1) ∧ (h2 ≤ l3 ∨ h3 ≤ l2) ∧ Mine w l1 h1 A1 n1 xs ∧ Mine w l2 h2 A2 n2 ys ∧ Mine w l3 h3 A3 n3 zs
abbrev RowP (α : Type) := World → Nat → Nat → (Nat → Value) → α → Prop
/-- What stands in blocks from lo to hi alone. -/
def RwOk {α : Type} (R : RowP α) : Prop := ∀ w w' lo hi u a, R w lo hi u a → SmB w w' lo hi → R w' lo hi u a
/-- Block b holds the rows; the data of row j lie from L j to U j. -/
structure RowsC {α : Type} (sz : Nat) (z : α) (R : RowP α) (w : World) (lo hi b off n : Nat) (L U : Nat → Nat) (l : List α) : Prop where
  len : l.length = n
  le : n ≤ 67108864
  top : hi ≤ w.heap.size
  bl : lo ≤ b ∧ b < hi
  iv : ∀ j, j < n → lo ≤ L j ∧ U j ≤ hi ∧ (b < L j ∨ U j ≤ b)
  inc : ∀ i j, i < j → j < n → U i ≤ L j
  fz : ∀ j, j < n * sz → w.frozen? ⟨b, off + j, none⟩ = false
  row : ∀ j, j < n → ∃ u : Nat → Value, (∀ i, i < sz → w.cell? ⟨b, off + (j * sz + i), none⟩ = some (u i)) ∧ R w (L j) (U j) u (l.getD j z)
/-- A slice of rows of one's own. -/
structure RowsM {α : Type} (sz : Nat) (z : α) (R : RowP α) (w : World) (lo hi : Nat) (A : Option Addr) (n : Nat) (l : List α) : Prop where
  len : l.length = n
  le : n ≤ 67108864
  top : hi ≤ w.heap.size
  ex : 0 < n → ∃ b off L U, A = some ⟨b, off, none⟩ ∧ RowsC sz z R w lo hi b off n L U l
/-- Of block b the cells from o1 to o2 may have turned, and the blocks from lk to uk. -/
structure Ch (w w1 : World) (b o1 o2 lk uk : Nat) : Prop where
  os : w1.os = w.os
  tape : w1.tape = w.tape
  output : w1.output = w.output
  size : w.heap.size ≤ w1.heap.size
  block : ∀ g, g < w.heap.size → g ≠ b → (g < lk ∨ uk ≤ g) → w1.heap[g]? = w.heap[g]?
  cell : ∀ i, (i < o1 ∨ o2 ≤ i) → w1.cell? ⟨b, i, none⟩ = w.cell? ⟨b, i, none⟩
  fz : ∀ i, w1.frozen? ⟨b, i, none⟩ = w.frozen? ⟨b, i, none⟩
section
variable {w w1 w2 : World} {b o1 o2 lk uk : Nat}
end
section
variable {α : Type} {sz : Nat} {z : α} {R : RowP α} {w w1 : World} {lo hi b off n : Nat} {L U : Nat → Nat} {l : List α} {A : Option Addr}
theorem RowsC.sm (ok : RwOk R) (h : RowsC sz z R w lo hi b off n L U l) (s : SmB w w1 lo hi) : RowsC sz z R w1 lo hi b off n L U l := by
  have hb := s.2 b h.bl.1 h.bl.2
  refine ⟨h.len, h.le, Nat.le_trans h.top s.1, h.bl, h.iv, h.inc, fun j hj => (World.frozen?_of_block (a := ⟨b, off + j, none⟩) hb).trans (h.fz j hj), fun j hj => ?_⟩
  obtain ⟨u, h1, h2⟩ := h.row j hj
  have hi := h.iv j hj
  exact ⟨u, fun i hi => (World.cell?_of_block (a := ⟨b, off + (j * sz + i), none⟩) hb).trans (h1 i hi), ok _ _ _ _ _ _ h2 (s.sub hi.1 hi.2.1)⟩
theorem RowsM.sm (ok : RwOk R) (h : RowsM sz z R w lo hi A n l) (s : SmB w w1 lo hi) : RowsM sz z R w1 lo hi A n l :=
  ⟨h.len, h.le, Nat.le_trans h.top s.1, fun h0 => by obtain ⟨b, off, L, U, e, hc⟩ := h.ex h0; exact ⟨b, off, L, U, e, hc.sm ok s⟩⟩
theorem RowsM.fr {x y : Nat} (ok : RwOk R) (h : RowsM sz z R w lo hi A n l) (f : Fr x y w w1) (ho : y ≤ lo ∨ hi ≤ x ∨ y ≤ x) : RowsM sz z R w1 lo hi A n l := h.sm ok (SmB.of_fr f h.top ho)
theorem RowsM.widen {lo' hi' : Nat} (h : RowsM sz z R w lo hi A n l) (h1 : lo' ≤ lo) (h2 : hi ≤ hi') (h3 : hi' ≤ w.heap.size) : RowsM sz z R w lo' hi' A n l :=
  ⟨h.len, h.le, h3, fun h0 => by
    obtain ⟨b, off, L, U, e, hc⟩ := h.ex h0
    exact ⟨b, off, L, U, e, hc.len, hc.le, h3, by have := hc.bl; omega, fun j hj => by have := hc.iv j hj; omega, hc.inc, hc.fz, hc.row⟩⟩
theorem RowsM.nil_ (w : World) (A : Option Addr) (lo hi : Nat) (h : hi ≤ w.heap.size) : RowsM sz z R w lo hi A 0 [] := ⟨rfl, by omega, h, fun h => absurd h (by omega)⟩
/-- Rows of one's own are read. -/
theorem RowsM.rgs {f : α → List D} (hf : ∀ a, (f a).length = sz) (hs : 0 < sz) (hR : ∀ w lo hi u a, R w lo hi u a → hi ≤ w.heap.size → ∀ i, i < sz → Rg true true w lo hi ((f a).getD i (.i 0)) (u i)) (h : RowsM sz z R w lo hi A n l) : RgS true true w lo hi A n (l.flatMap f) := by
  refine ⟨h.top, fun h0 => ?_⟩
  obtain ⟨b, off, L, U, e, hc⟩ := h.ex h0
  refine ⟨b, off, e, hc.bl.1, hc.bl.2, RgL.of_at _ off fun j hj => ?_⟩
  rw [flat_len hf, hc.len] at hj
  have hq : j / sz < n := Nat.div_lt_of_lt_mul (by rw [Nat.mul_comm]; exact hj)
  have hm := Nat.mod_lt j hs
  have ej : j / sz * sz + j % sz = j := by rw [Nat.mul_comm]; exact Nat.div_add_mod j sz
  obtain ⟨u, h1, h2⟩ := hc.row (j / sz) hq
  have h3 := flat_at hf (.i 0) z l (j / sz) (j % sz) (by rw [hc.len]; exact hq) hm
  have h4 := h1 (j % sz) hm
  have hi := hc.iv _ hq
  rw [ej] at h3 h4
  refine ⟨_, h4, fun _ => hc.fz j hj, ?_⟩
  rw [h3]
  exact Rg.widen hi.1 hi.2.1 hc.top _ _ (hR _ _ _ _ _ h2 (by have := hc.top; omega) _ hm)
end
structure GrowC {α : Type} (sz : Nat) (z : α) (R : RowP α) (w : World) (B E : Nat) (v : Value) (cs : List Value) (L U : Nat → Nat) (l : List α) : Prop where
  has : Has w B E sz v l.length cs
  iv : ∀ j, j < l.length → B ≤ L j ∧ U j ≤ w.heap.size ∧ ∀ g, v.ownBlock = some g → g < L j ∨ U j ≤ g
  inc : ∀ i j, i < j → j < l.length → U i ≤ L j
  row : ∀ j, j < l.length → ∃ u : Nat → Value, (∀ i, i < sz → cs[j * sz + i]? = some (u i)) ∧ R w (L j) (U j) u (l.getD j z)
section
variable {α : Type} {sz : Nat} {z : α} {R : RowP α} {w w1 : World} {B E : Nat} {v : Value} {cs : List Value} {L U : Nat → Nat} {l : List α}
theorem GrowC.nil (w : World) (B E : Nat) : GrowC sz z R w B E (.slice none 0 0) [] (fun _ => 0) (fun _ => 0) [] :=
  ⟨World.ownsRow_nil _ _ _ _, fun j h => absurd h (by simp), fun i j _ h => absurd h (by simp), fun j h => absurd h (by simp)⟩
theorem GrowC.keeps (ok : RwOk R) (h : GrowC sz z R w B E v cs L U l) (k : Keeps w w1) : GrowC sz z R w1 B E v cs L U l :=
  ⟨h.has.below k, fun j hj => by have := h.iv j hj; have := k.size; exact ⟨by omega, by omega, (h.iv j hj).2.2⟩, h.inc, fun j hj => by
    obtain ⟨u, h1, h2⟩ := h.row j hj
    exact ⟨u, h1, ok _ _ _ _ _ _ h2 ⟨k.size, fun g _ hg => k.block g (by have := h.iv j hj; omega)⟩⟩⟩
/-- One row more. -/
theorem GrowC.snoc (ok : RwOk R) (h : GrowC sz z R w B E v cs L U l) {v' : Value} {new : List Value} {a : α} {x y : Nat} (hn : new.length = sz) (hh : Has w1 B E sz v' (l.length + 1) (cs ++ new)) (hg : w.grownBy w1 v.ownBlock)
    (ho : v'.ownBlock = v.ownBlock ∨ v'.ownBlock = some (w.heap.size + 1)) (hx : B ≤ x) (hy : y ≤ w.heap.size) (hU : ∀ j, j < l.length → U j ≤ x) (hv : ∀ g, v.ownBlock = some g → g < x ∨ y ≤ g) (hr : R w x y (fun i => new.getD i undef) a) :
    GrowC sz z R w1 B E v' (cs ++ new) (fun j => if j < l.length then L j else x) (fun j => if j < l.length then U j else y) (l ++ [a]) := by
  have hcl : cs.length = l.length * sz := h.has.1
  have own : ∀ lo hi, hi ≤ w.heap.size → (∀ g, v.ownBlock = some g → g < lo ∨ hi ≤ g) → SmB w w1 lo hi := fun lo hi h1 h2 => ⟨hg.size, fun g g1 g2 => hg.block g (by omega) (fun e => by have := h2 g e.symm; omega)⟩
  have new' : ∀ lo hi, hi ≤ w.heap.size → (∀ g, v.ownBlock = some g → g < lo ∨ hi ≤ g) → ∀ g, v'.ownBlock = some g → g < lo ∨ hi ≤ g := fun lo hi h1 h2 g e => by
    rcases ho with q | q
    · exact h2 g (q ▸ e)
    · rw [q] at e; injection e with e; omega
  refine ⟨by rw [List.length_append]; exact hh, fun j hj => ?_, fun i j hij hj => ?_, fun j hj => ?_⟩
  · rw [List.length_append, List.length_singleton] at hj
    have hs := hg.size
    by_cases e : j < l.length
    · have q := h.iv j e
      try dsimp only
      rw [if_pos e, if_pos e]; exact ⟨q.1, by omega, new' _ _ q.2.1 q.2.2⟩
    · try dsimp only
      rw [if_neg e, if_neg e]; exact ⟨hx, by omega, new' _ _ hy hv⟩
  · rw [List.length_append, List.length_singleton] at hj
    try dsimp only
    by_cases e : j < l.length
    · rw [if_pos (show i < l.length by omega), if_pos e]; exact h.inc i j hij e
    · rw [if_pos (show i < l.length by omega), if_neg e]; exact hU i (by omega)
  · rw [List.length_append, List.length_singleton] at hj
    try dsimp only
    by_cases e : j < l.length
    · obtain ⟨u, h1, h2⟩ := h.row j e
      have q := h.iv j e
      have hm : (j + 1) * sz ≤ l.length * sz := Nat.mul_le_mul_right _ e
      rw [Nat.succ_mul] at hm
      rw [if_pos e, if_pos e]
      refine ⟨u, fun i hi => ?_, ?_⟩
      · rw [List.getElem?_append_left (by omega)]; exact h1 i hi
      · rw [show (l ++ [a]).getD j z = l.getD j z by simp only [List.getD]; rw [List.getElem?_append_left e]]
        exact ok _ _ _ _ _ _ h2 (own _ _ q.2.1 q.2.2)
    · obtain rfl : j = l.length := by omega
      rw [if_neg e, if_neg e]
      refine ⟨fun i => new.getD i undef, fun i hi => ?_, ?_⟩
      · rw [List.getElem?_append_right (by omega), hcl, show l.length * sz + i - l.length * sz = i by omega]
        simp [List.getD, show i < new.length by omega]
      · rw [show (l ++ [a]).getD l.length z = a by simp [List.getD]]
        exact ok _ _ _ _ _ _ hr (own _ _ hy hv)
/-- What was gathered is a slice of rows of one's own. -/
theorem GrowC.rowsM (h : GrowC sz z R w B E v cs L U l) (hl : l.length ≤ 67108864) (hB : B ≤ w.heap.size) : ∃ A c, v = .slice A l.length c ∧ RowsM sz z R w B w.heap.size A l.length l := by
  obtain ⟨A, c, hv⟩ := h.has.form
  refine ⟨A, c, hv, rfl, hl, Nat.le_refl _, fun h0 => ?_⟩
  rcases h.has.2 with ⟨_, h3⟩ | ⟨g, cap, cur, hv', hb, hg, hcap, hmax, hsz, htk⟩
  · omega
  · rw [hv] at hv'
    injection hv' with e1 e2 e3
    have hlt := (h.has.lt g (by rw [hv, e1]; rfl)).2
    refine ⟨g, 0, L, U, e1, rfl, hl, Nat.le_refl _, ⟨hb, hlt⟩, fun j hj => ?_, h.inc, fun j hj => ?_, fun j hj => ?_⟩
    · have q := h.iv j hj
      exact ⟨q.1, q.2.1, q.2.2 g (by rw [hv, e1]; rfl)⟩
    · unfold World.frozen?
      simp [hg]
    · obtain ⟨u, q1, q2⟩ := h.row j hj
      refine ⟨u, fun i hi => ?_, q2⟩
      have := h.has.cells (g := g) (by rw [hv, e1]; rfl) _ _ (q1 i hi)
      rwa [Addr.add_lit] at this
end
def RwT : RowP TT := fun w lo hi u t => ∃ V cv H ch, u 0 = .int .i64 t.1 ∧ u 1 = .slice V t.2.1.length cv ∧ u 2 = .slice H t.2.2.1.length ch ∧ u 3 = .int .i64 t.2.2.2 ∧ TwM w lo hi V t.2.1.length t.2.1 H t.2.2.1.length t.2.2.1
theorem RwT.ok : RwOk RwT := fun w w' lo hi u t h s => by obtain ⟨V, cv, H, ch, h0, h1, h2, h3, h4⟩ := h; exact ⟨V, cv, H, ch, h0, h1, h2, h3, h4.sm s⟩
theorem RwT.rg {w : World} {lo hi : Nat} {u : Nat → Value} {t : TT} (h : RwT w lo hi u t) (ht : hi ≤ w.heap.size) : ∀ i, i < 4 → Rg true true w lo hi ((dT t).getD i (.i 0)) (u i) := by
  obtain ⟨V, cv, H, ch, h0, h1, h2, h3, h4⟩ := h
  obtain ⟨_, a1, b1, a2, b2, q1, q2, q3, q4, d1, m1, m2⟩ := h4
  intro i hi
  match i, hi with
  | 0, _ => rw [h0]; exact Rg.of_i _
  | 1, _ => rw [h1]; exact (RgS.widen m1.rgs q1 q2 ht).rg
  | 2, _ => rw [h2]; exact (RgS.widen m2.rgs q3 q4 ht).rg
  | 3, _ => rw [h3]; exact Rg.of_i _
theorem RwT.sm_ {w : World} {lo hi : Nat} {u : Nat → Value} {t : TT} (h : RwT w lo hi u t) : smT t := by
  obtain ⟨V, cv, H, ch, h0, h1, h2, h3, h4⟩ := h
  exact ⟨h4.a.le, h4.b.le⟩
theorem RowsM.tabs {w : World} {lo hi n : Nat} {A : Option Addr} {l : List TT} (h : RowsM 4 t0 RwT w lo hi A n l) : Tabs true true w lo hi A n l :=
  ⟨h.rgs dT_len (by omega) (fun w lo hi u a hr ht => hr.rg ht), h.len, h.le, fun j => by
    rcases Nat.lt_or_ge j n with hj | hj
    · obtain ⟨b, off, L, U, e, hc⟩ := h.ex (by omega)
      obtain ⟨u, _, h2⟩ := hc.row j hj
      exact h2.sm_
    · rw [getD_out (by rw [h.len]; exact hj)]; simp [smT, t0]⟩
def RwP : RowP PP := fun w lo hi u p => ∃ V cv H ch K ck, u 0 = .int .i64 p.1.1 ∧ u 1 = .slice V p.1.2.1.length cv ∧ u 2 = .slice H p.1.2.2.1.length ch ∧ u 3 = .int .i64 p.1.2.2.2 ∧ u 4 = .slice K p.2.length ck ∧ ThM w lo hi V p.1.2.1.length p.1.2.1 H p.1.2.2.1.length p.1.2.2.1 K p.2.length p.2
def RwR : RowP RL := fun w lo hi u r => ∃ P cp, u 0 = .int .i64 r.1 ∧ u 1 = .slice P r.2.1.length cp ∧ u 2 = .int .i64 r.2.2.1 ∧ u 3 = .int .i64 r.2.2.2.1 ∧ u 4 = .int .i64 r.2.2.2.2.1 ∧ u 5 = .int .i64 r.2.2.2.2.2 ∧ RowsM 4 t0 RwT w lo hi P r.2.1.length r.2.1
theorem RwR.ok : RwOk RwR := fun w w' lo hi u t h s => by obtain ⟨P, cp, h0, h1, h2, h3, h4, h5, h6⟩ := h; exact ⟨P, cp, h0, h1, h2, h3, h4, h5, h6.sm RwT.ok s⟩
theorem RwR.rg {w : World} {lo hi : Nat} {u : Nat → Value} {r : RL} (h : RwR w lo hi u r) (ht : hi ≤ w.heap.size) : ∀ i, i < 6 → Rg true true w lo hi ((dR r).getD i (.i 0)) (u i) := by
  obtain ⟨P, cp, h0, h1, h2, h3, h4, h5, h6⟩ := h
  intro i hi
  match i, hi with
  | 0, _ => rw [h0]; exact Rg.of_i _
  | 1, _ => rw [h1]; exact h6.tabs.r.rg
  | 2, _ => rw [h2]; exact Rg.of_i _
  | 3, _ => rw [h3]; exact Rg.of_i _
  | 4, _ => rw [h4]; exact Rg.of_i _
  | 5, _ => rw [h5]; exact Rg.of_i _
theorem RowsM.rels {w : World} {lo hi n : Nat} {A : Option Addr} {l : List RL} (h : RowsM 6 rl0 RwR w lo hi A n l) : Rels true true w lo hi A n l :=
  ⟨h.rgs dR_len (by omega) (fun w lo hi u a hr ht => hr.rg ht), h.len, h.le, fun j => by
    rcases Nat.lt_or_ge j n with hj | hj
    · obtain ⟨b, off, L, U, e, hc⟩ := h.ex (by omega)
      obtain ⟨u, _, P, cp, h0, h1, h2, h3, h4, h5, h6⟩ := hc.row j hj
      exact ⟨h6.le, fun i => h6.tabs.sm i⟩
    · rw [getD_out (by rw [h.len]; exact hj)]; simp [smR, smT, rl0, t0]⟩
/-- The first k rows of block g are filled. -/
structure FillS {α : Type} (sz : Nat) (z : α) (R : RowP α) (w : World) (g n E : Nat) (cs : List Value) (L U : Nat → Nat) (l : List α) (k : Nat) : Prop where
  own : OwnC w g E cs
  len : cs.length = n * sz
  iv : ∀ j, j < k → g < L j ∧ U j ≤ w.heap.size
  inc : ∀ i j, i < j → j < k → U i ≤ L j
  row : ∀ j, j < k → R w (L j) (U j) (fun i => cs.getD (j * sz + i) undef) (l.getD j z)
section
variable {α : Type} {sz : Nat} {z : α} {R : RowP α} {w w1 w2 : World} {g n E k : Nat} {cs : List Value} {L U : Nat → Nat} {l : List α}
theorem FillS.lt (h : FillS sz z R w g n E cs L U l k) : g < w.heap.size := h.own.lt
theorem FillS.new (w : World) (c : Array Value) (n T : Nat) (l : List α) : FillS sz z R (w.alloc (.cells (madeCells c (n * sz)) T)) w.heap.size n T (madeCells c (n * sz)).toList (fun _ => 0) (fun _ => 0) l 0 :=
  ⟨by unfold OwnC; rw [heap_alloc_new], by simp [size_madeCells], fun j h => absurd h (by omega), fun i j _ h => absurd h (by omega), fun j h => absurd h (by omega)⟩
theorem FillS.keeps (ok : RwOk R) (h : FillS sz z R w g n E cs L U l k) (kk : Keeps w w1) : FillS sz z R w1 g n E cs L U l k :=
  ⟨h.own.keeps kk, h.len, fun j hj => by have := h.iv j hj; have := kk.size; omega, h.inc, fun j hj => ok _ _ _ _ _ _ (h.row j hj) ⟨kk.size, fun x _ hx => kk.block x (by have := h.iv j hj; omega)⟩⟩
/-- Row k is written: its data lie behind the old world. -/
theorem FillS.put (ok : RwOk R) (h : FillS sz z R w g n E cs L U l k) (hk : k < n) (k1 : Keeps w w1) (f : Fr g (g + 1) w1 w2) (hs : w2.heap.size = w1.heap.size) {cs' : List Value} {a : α} (ha : l.getD k z = a) (ho : OwnC w2 g E cs') (hc : cs'.length = n * sz)
    (old : ∀ j, j < k * sz → cs'.getD j undef = cs.getD j undef) (new : R w1 w.heap.size w1.heap.size (fun i => cs'.getD (k * sz + i) undef) a) (hco : ∀ lo hi u u' x, R w2 lo hi u x → (∀ i, i < sz → u i = u' i) → R w2 lo hi u' x) :
    FillS sz z R w2 g n E cs' (fun j => if j < k then L j else w.heap.size) (fun j => if j < k then U j else w1.heap.size) l (k + 1) := by
  have hsz := k1.size
  have hlt := h.lt
  refine ⟨ho, hc, fun j hj => ?_, fun i j hij hj => ?_, fun j hj => ?_⟩
  · try dsimp only
    by_cases e : j < k
    · have := h.iv j e; rw [if_pos e, if_pos e]; omega
    · rw [if_neg e, if_neg e]; omega
  · try dsimp only
    rw [if_pos (show i < k by omega)]
    by_cases e : j < k
    · rw [if_pos e]; exact h.inc i j hij e
    · rw [if_neg e]; exact (h.iv i (by omega)).2
  · try dsimp only
    by_cases e : j < k
    · have q := h.iv j e
      rw [if_pos e, if_pos e]
      refine hco _ _ _ _ _ (ok _ _ _ _ _ _ (h.row j e) ⟨by omega, fun x x1 x2 => ?_⟩) (fun i hi => ?_)
      · rw [f.block x (by omega) (by omega)]; exact k1.block x (by omega)
      · have hm : (j + 1) * sz ≤ k * sz := Nat.mul_le_mul_right _ e
        rw [Nat.succ_mul] at hm
        exact (old _ (by omega)).symm
    · obtain rfl : j = k := by omega
      rw [if_neg e, if_neg e, ha]
      exact ok _ _ _ _ _ _ new ⟨by omega, fun x x1 x2 => f.block x (by omega) (by omega)⟩
theorem FillS.rowsM (h : FillS sz z R w g n E cs L U l n) (hl : l.length = n) (hn : n ≤ 67108864) {lo : Nat} (hlo : lo ≤ g) : RowsM sz z R w lo w.heap.size (some ⟨g, 0, none⟩) n l := by
  refine ⟨hl, hn, Nat.le_refl _, fun _ => ⟨g, 0, L, U, rfl, hl, hn, Nat.le_refl _, ⟨hlo, h.lt⟩, fun j hj => ?_, h.inc, fun j hj => h.own.frozen _, fun j hj => ⟨_, fun i hi => ?_, h.row j hj⟩⟩⟩
  · have := h.iv j hj; omega
  · have hm : (j + 1) * sz ≤ n * sz := Nat.mul_le_mul_right _ hj
    rw [Nat.succ_mul] at hm
    rw [Nat.zero_add]
    exact h.own.cell _ (by rw [h.len]; omega)
end
theorem RwT.co {w : World} {lo hi : Nat} {u u' : Nat → Value} {x : TT} (h : RwT w lo hi u x) (e : ∀ i, i < 4 → u i = u' i) : RwT w lo hi u' x := by
  obtain ⟨V, cv, H, ch, h0, h1, h2, h3, h4⟩ := h
  exact ⟨V, cv, H, ch, by rw [← e 0 (by omega)]; exact h0, by rw [← e 1 (by omega)]; exact h1, by rw [← e 2 (by omega)]; exact h2, by rw [← e 3 (by omega)]; exact h3, h4⟩
/-- Published tables of one's own. -/
def PubsO (w : World) (lo hi : Nat) (A : Option Addr) (n : Nat) (l : List PP) : Prop := RowsM 5 p0 RwP w lo hi A n l
/-- Releases of one's own. -/
def RelsO (w : World) (lo hi : Nat) (A : Option Addr) (n : Nat) (l : List RL) : Prop := RowsM 6 rl0 RwR w lo hi A n l
section
variable {w w' : World} {lo hi a b n : Nat} {A : Option Addr} {l : List PP} {l' : List RL}
theorem RelsO.rels (h : RelsO w lo hi A n l') : Rels true true w lo hi A n l' := RowsM.rels h
end
end Go.Proofs.YtohjkpopbmmliaaGreat
namespace Go.Proofs.YtohjkpopbmmliaaGreat
open Go.RowKit Go.Sort Go.Deep
set_option linter.unusedVariables false
set_option linter.unusedSimpArgs false
/-- A store into a block below. -/
theorem GrowC.store {α : Type} {sz : Nat} {z : α} {R : RowP α} {w : World} {B E : Nat} {v : Value} {cs : List Value} {L U : Nat → Nat} {l : List α} (ok : RwOk R) (h : GrowC sz z R w B E v cs L U l) {g i : Nat} (x : Value) (hg : g < B) : GrowC sz z R (w.setCell ⟨g, i, none⟩ x) B E v cs L U l := by
  refine ⟨⟨h.has.1, ?_⟩, fun j hj => by simpa [World.setCell] using h.iv j hj, h.inc, fun j hj => ?_⟩
  · rcases h.has.2 with h3 | ⟨g', cap, cur, hv, hb, hh, rest⟩
    · exact .inl h3
    · exact .inr ⟨g', cap, cur, hv, hb, (Below.heap_setCell w ⟨g, i, none⟩ x g' (by show g' ≠ g; omega)).trans hh, rest⟩
  · obtain ⟨u, h1, h2⟩ := h.row j hj
    exact ⟨u, h1, ok _ _ _ _ _ _ h2 ⟨by simp [World.setCell], fun b hb _ => Below.heap_setCell w ⟨g, i, none⟩ x b (by have := h.iv j hj; show b ≠ g; omega)⟩⟩
/-- Nothing is gathered yet, in a row that was made. -/
theorem GrowC.made {α : Type} {sz : Nat} {z : α} {R : RowP α} (w : World) (c : Array Value) (n B E : Nat) (hB : B ≤ w.heap.size) (hn : n ≤ 67108864) (hc : c.size = sz) : GrowC sz z R (w.alloc (.cells (madeCells c (n * sz)) E)) B E (.slice (some ⟨w.heap.size, 0, none⟩) 0 n) [] (fun _ => 0) (fun _ => 0) [] :=
  ⟨World.ownsRow_made w _ n hB (by unfold maxLen; omega) (by rw [size_madeCells]), fun j h => absurd h (by simp), fun i j _ h => absurd h (by simp), fun j h => absurd h (by simp)⟩
section
variable {W0 : World} {ops : Array Oper} {rest : List Oper} {o : Oper} {a : Act} {K : Act → World → Prop} {Q : Exit → Act → World → Prop} {E' : Prop} {α : Type} {sz : Nat} {z a0 : α} {Rw : RowP α} {B E Ty x yb : Nat} {zr v : Value} {cs new : List Value} {L U : Nat → Nat} {l : List α}
theorem row_run (hinfo : (Tryz.prog.info? E).map (fun i => (i.zero, i.size, i.bytes)) = some (some zr, sz, yb)) (hzs : zr.cells.size = sz) (hsz : 0 < sz) (hyb : yb ≤ 1000)
    (ok : RwOk Rw) (hG : GrowC sz z Rw W0 B E v cs L U l) (hn : l.length ≤ 67108864) (hB : B ≤ W0.heap.size) (hnew : new.length = sz) (h1 : ∀ y ∈ new, y.oneCell' = true)
    (hxB : B ≤ x) (hU : ∀ j, j < l.length → U j ≤ x) (hv : ∀ g, v.ownBlock = some g → g < x) (hr : Rw W0 x W0.heap.size (fun i => new.getD i undef) a0) (ty : TypeId) (ht : Tryz.prog.underlying Ty = some (.slice E)) :
    ∃ v' w' cs' L' U', (Builtin.append_ #[Ty, Ty] ty #[v, .slice (some ⟨W0.heap.size, 0, none⟩) 1 1]).run Tryz.prog (W0.alloc (.cells new.toArray E)) = .ok v' w' ∧ GrowC sz z Rw w' B E v' cs' L' U' (l ++ [a0]) ∧ W0.grownBy w' v.ownBlock := by
  obtain ⟨i, hi, hz0, hz1, hz2⟩ := info_parts hinfo
  have hbytes : (l.length + 1) * yb ≤ 140737488355328 := Nat.le_trans (Nat.mul_le_mul (show l.length + 1 ≤ 67108865 by omega) hyb) (by decide)
  obtain ⟨v', w', hq, h2, h3, _, h5⟩ := run_append_own_at (P := Tryz.prog) (W0.alloc (.cells new.toArray E)) B Ty ty E i zr sz yb ht hi hz0 hz1 hz2 hzs hsz v l.length cs (hG.has.alloc _) ⟨W0.heap.size, 0, none⟩ 1 1 new (by rw [hnew, Nat.one_mul]) (fun j u hu => by rw [Addr.add_lit, Nat.zero_add, cell_of_row _ _ _ _ _ _ (heap_alloc_new W0 _)]; simpa using hu) h1 (by unfold maxLen; omega) hbytes (by simp; omega)
  have hg : W0.grownBy w' v.ownBlock := ⟨h3.os, h3.tape, h3.output, by have := h3.size; simp at this; omega, fun k hk hne => by rw [h3.block k (by simp; omega) hne]; exact heap_alloc_old W0 _ hk⟩
  exact ⟨v', w', _, _, _, hq, hG.snoc ok hnew h2 hg (by simpa using h5) hxB (Nat.le_refl _) hU (fun g e => .inl (hv g e)) hr, hg⟩
/-- A row more is appended, in a region that draws its order. -/
theorem step_row (hinfo : (Tryz.prog.info? E).map (fun i => (i.zero, i.size, i.bytes)) = some (some zr, sz, yb)) (hzs : zr.cells.size = sz) (hsz : 0 < sz) (hyb : yb ≤ 1000)
    (ok : RwOk Rw) (hG : GrowC sz z Rw W0 B E v cs L U l) (hn : l.length ≤ 67108864) (hB : B ≤ W0.heap.size) (hnew : new.length = sz) (h1 : ∀ y ∈ new, y.oneCell' = true)
    (hxB : B ≤ x) (hU : ∀ j, j < l.length → U j ≤ x) (hv : ∀ g, v.ownBlock = some g → g < x) (hr : Rw W0 x W0.heap.size (fun i => new.getD i undef) a0)
    (s x9 : Operand) (hgd : o.guard = none) (ho : o.op = .call { callee := .builtin .append, args := #[s, x9], argTypes := #[Ty, Ty] }) (ht : Tryz.prog.underlying Ty = some (.slice E))
    (hs : a.eval s = v) (hx : a.eval x9 = .slice (some ⟨W0.heap.size, 0, none⟩) 1 1)
    (h : ∀ v' w' cs' L' U', GrowC sz z Rw w' B E v' cs' L' U' (l ++ [a0]) → W0.grownBy w' v.ownBlock → K (a.put o.dst v') w') :
    if Region.wanted o (yielded ops a.tmps) = true then Oper.wp Tryz.prog o a (W0.alloc (.cells new.toArray E)) K Q else E' := by
  have hw : Region.wanted o (yielded ops a.tmps) = true := by simp [Region.wanted, hgd]
  rw [if_pos hw]
  obtain ⟨v', w', cs', L', U', hq, h2, h3⟩ := row_run hinfo hzs hsz hyb ok hG hn hB hnew h1 hxB hU hv hr o.type ht
  unfold Oper.wp
  simp [execOp, ho, resolve, invoke, builtin, hs, hx, hq, Result.andThen]
  exact h v' w' _ _ _ h2 h3
/-- A row more is appended. -/
theorem append_row (hinfo : (Tryz.prog.info? E).map (fun i => (i.zero, i.size, i.bytes)) = some (some zr, sz, yb)) (hzs : zr.cells.size = sz) (hsz : 0 < sz) (hyb : yb ≤ 1000)
    (ok : RwOk Rw) (hG : GrowC sz z Rw W0 B E v cs L U l) (hn : l.length ≤ 67108864) (hB : B ≤ W0.heap.size) (hnew : new.length = sz) (h1 : ∀ y ∈ new, y.oneCell' = true)
    (hxB : B ≤ x) (hU : ∀ j, j < l.length → U j ≤ x) (hv : ∀ g, v.ownBlock = some g → g < x) (hr : Rw W0 x W0.heap.size (fun i => new.getD i undef) a0)
    (s x9 : Operand) (hgd : o.guard = none) (ho : o.op = .call { callee := .builtin .append, args := #[s, x9], argTypes := #[Ty, Ty] }) (ht : Tryz.prog.underlying Ty = some (.slice E))
    (hs : a.eval s = v) (hx : a.eval x9 = .slice (some ⟨W0.heap.size, 0, none⟩) 1 1)
    (h : ∀ v' w' cs' L' U', GrowC sz z Rw w' B E v' cs' L' U' (l ++ [a0]) → W0.grownBy w' v.ownBlock → wpList Tryz.prog ops Q rest (a.put o.dst v') w') :
    wpList Tryz.prog ops Q (o :: rest) a (W0.alloc (.cells new.toArray E)) := by
  refine wpList_plain hgd fun K hK => ?_
  obtain ⟨v', w', cs', L', U', hq, h2, h3⟩ := row_run hinfo hzs hsz hyb ok hG hn hB hnew h1 hxB hU hv hr o.type ht
  unfold Oper.wp execOp
  simp only [ho, resolve, invoke, builtin, Sem.run_bind, Sem.run_pure, Result.andThen_ok, List.map_toArray, List.map_cons, List.map_nil, hs, hx, hq]
  exact hK _ _ (h v' w' _ _ _ h2 h3)
end
/-- A table of one's own is stored at row k. -/
theorem FillS.tab {w w1 : World} {g n k E nv nh cv ch : Nat} {cs : List Value} {L U : Nat → Nat} {l : List TT} {lv sm : Int} {xs ys : List Int} {V H : Option Addr} (h : FillS 4 t0 RwT w g n E cs L U l k) (hk : k < n) (k1 : Keeps w w1) (e : l.getD k t0 = (lv, xs, ys, sm)) (hx : xs.length = nv) (hy : ys.length = nh)
    (m : TwM w1 w.heap.size w1.heap.size V nv xs H nh ys) :
    ∃ cs' L' U', FillS 4 t0 RwT ((((w1.setCell ⟨g, k * 4, none⟩ (.int .i64 lv)).setCell ⟨g, k * 4 + 1, none⟩ (.slice V nv cv)).setCell ⟨g, k * 4 + 2, none⟩ (.slice H nh ch)).setCell ⟨g, k * 4 + 3, none⟩ (.int .i64 sm)) g n E cs' L' U' l (k + 1) := by
  subst hx hy
  have hr := Nat.mul_le_mul_right 4 (show k + 1 ≤ n from hk)
  rw [Nat.succ_mul] at hr
  have hl := h.len
  have ho := ((((h.own.keeps k1).set_ (k * 4) (.int .i64 lv)).set_ (k * 4 + 1) (.slice V xs.length cv)).set_ (k * 4 + 2) (.slice H ys.length ch)).set_ (k * 4 + 3) (.int .i64 sm)
  refine ⟨_, _, _, h.put RwT.ok hk k1 ?_ (by simp [World.setCell]) e ho (by simpa using hl) (fun j hj => ?_) ⟨V, cv, H, ch, ?_, ?_, ?_, ?_, m⟩ (fun lo hi u u' x hr => hr.co)⟩
  · exact (((fr_one _).trans (fr_one _)).trans (fr_one _)).trans (fr_one _)
  · rw [getD_set_other (by omega), getD_set_other (by omega), getD_set_other (by omega), getD_set_other (by omega)]
  · show List.getD _ (k * 4) undef = _
    rw [getD_set_other (by omega), getD_set_other (by omega), getD_set_other (by omega), getD_set_same (by omega)]
  · show List.getD _ (k * 4 + 1) undef = _
    rw [getD_set_other (by omega), getD_set_other (by omega), getD_set_same (by simp; omega)]
  · show List.getD _ (k * 4 + 2) undef = _
    rw [getD_set_other (by omega), getD_set_same (by simp; omega)]
  · show List.getD _ (k * 4 + 3) undef = _
    rw [getD_set_same (by simp; omega)]
end Go.Proofs.YtohjkpopbmmliaaGreat
namespace Go.Proofs.YtohjkpopbmmliaaGreat
open Go.RowKit Go.Sort
set_option linter.unusedVariables false
set_option linter.unusedSimpArgs false
section
variable {W X : World}
theorem keeps_al {O : Obj} (k : Keeps W X) : Keeps W (X.alloc O) := k.trans (keeps_alloc _ _)
theorem bl_grown {g : Nat} {vs : List Value} {r : Option Nat} (h : Bl W g vs) (hg : W.grownBy X r) (hne : r ≠ some g) : Bl X g vs := by
  have hb := hg.block g h.1 (fun e => hne e.symm)
  refine ⟨Nat.lt_of_lt_of_le h.1 hg.size, fun j v hj => ?_⟩
  obtain ⟨h1, h2⟩ := h.2 j v hj
  exact ⟨(World.cell?_of_block (a := ⟨g, j, none⟩) hb).trans h1, (World.frozen?_of_block (a := ⟨g, j, none⟩) hb).trans h2⟩
theorem b1_grown {g : Nat} {v : Value} {r : Option Nat} (h : B1 W g v) (hg : W.grownBy X r) (hne : r ≠ some g) : B1 X g v := by
  have hb := hg.block g h.lt (fun e => hne e.symm)
  exact ⟨(World.cell?_of_block (a := ⟨g, 0, none⟩) hb).trans h.1, (World.frozen?_of_block (a := ⟨g, 0, none⟩) hb).trans h.2⟩
theorem cell_grown {g i : Nat} {v : Value} {r : Option Nat} (h : W.cell? ⟨g, i, none⟩ = some v) (hg : W.grownBy X r) (hne : r ≠ some g) : X.cell? ⟨g, i, none⟩ = some v :=
  (World.cell?_of_block (a := ⟨g, i, none⟩) (hg.block g (World.block_lt_of_cell? W _ h) (fun e => hne e.symm))).trans h
theorem keeps_grown {r : Option Nat} {Y : World} (k : Keeps W X) (hg : X.grownBy Y r) (hr : ∀ g, r = some g → W.heap.size ≤ g) : Keeps W Y := Below.grown k hg k.size hr
end
end Go.Proofs.YtohjkpopbmmliaaGreat
namespace Go.Proofs.YtohjkpopbmmliaaGreat
open Go.RowKit Go.Sort Go.Deep
set_option linter.unusedVariables false
set_option linter.unusedSimpArgs false
theorem make_tabsI (n : Nat) (hn : n ≤ 67108864) (w : World) :
    (Instr.makeSlice 33 (.int .i64 (n : Int)) (.int .i64 (n : Int))).run Tryz.prog w = .ok (.slice (some ⟨w.heap.size, 0, none⟩) n n) (w.alloc (.cells (madeCells #[.int .i64 0, .slice none 0 0, .slice none 0 0, .int .i64 0] (n * 4)) 120)) := by
  have info : (Tryz.prog.info? 120).map (fun i => (i.zero, i.size, i.bytes)) = some (some (.agg #[.int .i64 0, .slice none 0 0, .slice none 0 0, .int .i64 0]), 4, 64) := by kernel_rfl
  obtain ⟨i, hi, hz0, hz1, hz2⟩ := info_parts info
  have h := run_make_rowN (P := Tryz.prog) 33 120 i _ Tryz.underlying33 hi hz0 .i64 .i64 n n (Nat.le_refl _) (by rw [hz2]; omega) (by omega) w
  rw [hz1] at h
  simpa [Value.cells] using h
theorem make_relsI (n : Nat) (hn : n ≤ 67108863) (w : World) :
    (Instr.makeSlice 28 (.int .i64 0) (.int .i64 ((n : Int) + 1))).run Tryz.prog w = .ok (.slice (some ⟨w.heap.size, 0, none⟩) 0 (n + 1)) (w.alloc (.cells (madeCells #[.int .i64 0, .slice none 0 0, .int .i64 0, .int .i64 0, .int .i64 0, .int .i64 0] ((n + 1) * 6)) 87)) := by
  have info : (Tryz.prog.info? 87).map (fun i => (i.zero, i.size, i.bytes)) = some (some (.agg #[.int .i64 0, .slice none 0 0, .int .i64 0, .int .i64 0, .int .i64 0, .int .i64 0]), 6, 64) := by kernel_rfl
  obtain ⟨i, hi, hz0, hz1, hz2⟩ := info_parts info
  have h := run_make_rowN (P := Tryz.prog) 28 87 i _ Tryz.underlying28 hi hz0 .i64 .i64 0 (n + 1) (Nat.zero_le _) (by rw [hz2]; omega) (by omega) w
  rw [hz1] at h
  simpa [Value.cells] using h
theorem info_rel : (Tryz.prog.info? 87).map (fun i => (i.zero, i.size, i.bytes)) = some (some (.agg #[.int .i64 0, .slice none 0 0, .int .i64 0, .int .i64 0, .int .i64 0, .int .i64 0]), 6, 64) := by kernel_rfl
theorem info_tabI : (Tryz.prog.info? 120).map (fun i => (i.zero, i.size, i.bytes)) = some (some (.agg #[.int .i64 0, .slice none 0 0, .slice none 0 0, .int .i64 0]), 4, 64) := by kernel_rfl
/-- What AddRelease says. -/
def adQ (ps : List Int) (l : List VV) (rs : List RL) (b : LQ) (ts : List TT) (x : LQ) : List RL × Bool := if (caQ ps l rs b ts x).1 = true then (rs ++ [((rs.length : Int) + 1, ts, x)], true) else ([], false)
theorem adQ_no {ps : List Int} {l : List VV} {rs : List RL} {b x : LQ} {ts : List TT} (h : (caQ ps l rs b ts x).1 = false) : adQ ps l rs b ts x = ([], false) := if_neg (by rw [h]; simp)
theorem adQ_yes {ps : List Int} {l : List VV} {rs : List RL} {b x : LQ} {ts : List TT} (h : (caQ ps l rs b ts x).1 = true) : adQ ps l rs b ts x = (rs ++ [((rs.length : Int) + 1, ts, x)], true) := if_pos h
theorem caQ_parts {ps : List Int} {l : List VV} {rs : List RL} {b x : LQ} {ts : List TT} (h : (caQ ps l rs b ts x).1 = true) : (caQ ps l rs b ts x).2 = true ∧ hisB ps l rs = true ∧ plB ps l ts = true := by
  unfold caQ at h ⊢
  split at h
  · rename_i hh
    rw [if_pos hh]
    simp only [Bool.and_eq_true] at hh
    exact ⟨rfl, hh.1.1.1, hh.1.2⟩
  · cases h
def AdRes (w : World) (R : List RL × Bool) (e : Ending) (w' : World) : Prop := ∃ A n c, e = .returned (.tuple #[.slice A n c, .bool R.2]) ∧ RelsO w' w.heap.size w'.heap.size A n R.1 ∧ Keeps w w'
theorem AdRes.no {w w' : World} {R : List RL × Bool} (h : R = ([], false)) (k : Keeps w w') : AdRes w R (.returned (.tuple #[.slice none 0 0, .bool false])) w' := by
  subst h; exact ⟨none, 0, 0, rfl, RowsM.nil_ _ _ _ _ (Nat.le_refl _), k⟩
theorem AdRes.yes {w w' : World} {R : List RL × Bool} {B E : Nat} {v : Value} {cs : List Value} {L U : Nat → Nat} {l : List RL} (h : R = (l, true)) (hG : GrowC 6 rl0 RwR w' B E v cs L U l) (hl : l.length ≤ 67108864) (hB : w.heap.size ≤ B) (hB2 : B ≤ w'.heap.size) (k : Keeps w w') : AdRes w R (.returned (.tuple #[v, .bool true])) w' := by
  subst h
  obtain ⟨A, c, rfl, hM⟩ := hG.rowsM hl hB2
  exact ⟨A, _, c, rfl, RowsM.widen hM hB (Nat.le_refl _) (Nat.le_refl _), k⟩
set_option maxRecDepth 100000 in
set_option maxHeartbeats 6400000 in
theorem copyTables_any {Q : Option Addr} {lo hi n c : Nat} {un : Bool} {ts : List TT} {w : World} (ht : Tabs true un w lo hi Q n ts) :
    Calls Tryz.prog 48 #[.slice Q n c] w fun e w' => ∃ P, e = .returned (.slice P n n) ∧ RowsM 4 t0 RwT w' w.heap.size w'.heap.size P n ts ∧ Keeps w w' := by
  have HTL := hid ht.len
  have hn := ht.le
  have hmk := make_tabsI n hn
  go_enter Tryz.func48, Tryz.ntmps48
  have kw := keeps_refl w
  replace kw := Keeps.trans kw (keeps_alloc w (.cells (madeCells #[.int .i64 0, .slice none 0 0, .slice none 0 0, .int .i64 0] (n * 4)) 120))
  go_wp2_with fail
  clear hmk
  have F0 := FillS.new (sz := 4) (z := t0) (R := RwT) w #[.int .i64 0, .slice none 0 0, .slice none 0 0, .int .i64 0] n 120 ts
  go_loopw [11] (fun i wr => ∃ (k : Nat) (cs : List Value) (L U : Nat → Nat), k ≤ n ∧ i = .int .i64 k ∧ FillS 4 t0 RwT wr w.heap.size n 120 cs L U ts k ∧ Keeps w wr) (fun i _ => n - (intOf i).toNat)
  case atStart => exact ⟨0, _, _, _, Nat.zero_le _, rfl, F0, kw⟩
  clear F0 kw
  case round =>
    obtain ⟨k, cs, L, U, hk, rfl, hF, kw⟩ := hrel
    by_cases hlt : k < n
    rotate_left
    · obtain rfl : k = n := by omega
      have HM := hid (hF.rowsM HTL.out hn (lo := w.heap.size) (Nat.le_refl _))
      clear hF
      go_wp2
      go_ret
      exact ⟨_, rfl, HM.out, kw⟩
    obtain ⟨b, off, lv, V, nv, cv, H, nh, ch, sm, vs, ws, rfl, _, _, hc0, hc1, hc2, hc3, hvv, hhh, hx⟩ := (ht.keeps kw).at_ hlt
    have hi1 : (k : Int) < (n : Int) := by omega
    have HX := hid hx.out
    have hnv := hid hvv.1
    have hnh := hid hhh.1
    clear hx
    have kr := keeps_refl wr
    have lF := hF.lt
    replace kw := Keeps.trans kw (keeps_alloc wr (.cells #[.int .i64 lv, .slice V nv cv, .slice H nh ch, .int .i64 sm] 120))
    replace kr := Keeps.trans kr (keeps_alloc wr (.cells #[.int .i64 lv, .slice V nv cv, .slice H nh ch, .int .i64 sm] 120))
    have b5 : Bl (wr.alloc (.cells #[.int .i64 lv, .slice V nv cv, .slice H nh ch, .int .i64 sm] 120)) wr.heap.size [.int .i64 lv, .slice V nv cv, .slice H nh ch, .int .i64 sm] := Bl.new' (by simp) (by simp)
    have ca1_0 : (wr.alloc (.cells #[.int .i64 lv, .slice V nv cv, .slice H nh ch, .int .i64 sm] 120)).cell? ⟨wr.heap.size, 0, none⟩ = some (.int .i64 lv) := (b5.2 0 _ rfl).1
    have ca1_1 : (wr.alloc (.cells #[.int .i64 lv, .slice V nv cv, .slice H nh ch, .int .i64 sm] 120)).cell? ⟨wr.heap.size, 1, none⟩ = some (.slice V nv cv) := (b5.2 1 _ rfl).1
    have ca1_2 : (wr.alloc (.cells #[.int .i64 lv, .slice V nv cv, .slice H nh ch, .int .i64 sm] 120)).cell? ⟨wr.heap.size, 2, none⟩ = some (.slice H nh ch) := (b5.2 2 _ rfl).1
    have ca1_3 : (wr.alloc (.cells #[.int .i64 lv, .slice V nv cv, .slice H nh ch, .int .i64 sm] 120)).cell? ⟨wr.heap.size, 3, none⟩ = some (.int .i64 sm) := (b5.2 3 _ rfl).1
    go_wp2_with fail
    clear ca1_0 ca1_1 ca1_2 ca1_3
    clear hc0 hc1 hc2 hc3
    have sW : wr.heap.size ≤ (wr.alloc (.cells #[.int .i64 lv, .slice V nv cv, .slice H nh ch, .int .i64 sm] 120)).heap.size := kr.size
    refine (copyTable_tw (c1 := cv) (c2 := ch) (hvv.keeps kr) (hhh.keeps kr)).mono ?_
    rintro e wB ⟨A1, C1, A2, C2, rfl, tw, kB⟩
    have kx := hid (kr.trans kB)
    replace tw := hid (tw.widen (lo' := wr.heap.size) sW (Nat.le_refl _) (Nat.le_refl _))
    replace b5 := b5.keeps kB
    replace kw := Keeps.trans kw kB
    replace kr := Keeps.trans kr kB
    have lt2 := b5.lt
    have sz3 := kw.size
    have sz4 := kr.size
    clear kB kr
    have F9 := hF.keeps RwT.ok kx.out
    have FP := hid (hF.tab hlt kx.out HX.out.symm hnv.out hnh.out (cv := C1) (ch := C2) tw.out)
    have hl5 := F9.len
    have hm5 := Nat.mul_le_mul_right 4 (show k + 1 ≤ n from hlt)
    rw [Nat.succ_mul] at hm5
    have d0 := F9.own.cell (k * 4) (by omega)
    have f0 := F9.own.frozen (k * 4)
    have d1 := F9.own.cell (k * 4 + 1) (by omega)
    have f1 := F9.own.frozen (k * 4 + 1)
    have d2 := F9.own.cell (k * 4 + 2) (by omega)
    have f2 := F9.own.frozen (k * 4 + 2)
    have d3 := F9.own.cell (k * 4 + 3) (by omega)
    have f3 := F9.own.frozen (k * 4 + 3)
    have N5 := hid (show Keeps w ((((wB.setCell ⟨w.heap.size, k * 4, none⟩ (.int .i64 lv)).setCell ⟨w.heap.size, k * 4 + 1, none⟩ (.slice A1 nv C1)).setCell ⟨w.heap.size, k * 4 + 2, none⟩ (.slice A2 nh C2)).setCell ⟨w.heap.size, k * 4 + 3, none⟩ (.int .i64 sm)) from (Below.setCell (Below.setCell (Below.setCell (Below.setCell kw (p := ⟨w.heap.size, k * 4, none⟩) (Nat.le_refl _) _) (p := ⟨w.heap.size, k * 4 + 1, none⟩) (Nat.le_refl _) _) (p := ⟨w.heap.size, k * 4 + 2, none⟩) (Nat.le_refl _) _) (p := ⟨w.heap.size, k * 4 + 3, none⟩) (Nat.le_refl _) _))
    obtain ⟨cs2, L2, U2, F2⟩ := FP.out
    have N6 := hid F2
    clear FP F2 F9 hF kw b5 hl5 hm5 kx tw
    go_wp2_with fail
    go_roundw
    case rel => exact ⟨k + 1, cs2, L2, U2, by omega, by go_num, N6.out, N5.out⟩
    case measure => simp [intOf]; omega
theorem step_nOwn {W : World} {ops : Array Oper} {o : Oper} {a : Act} {K : Act → World → Prop} {Q : Exit → Act → World → Prop} {E : Prop} {l1 u1 l2 u2 n1 n2 c1 c2 : Nat} {A1 A2 : Option Addr} {xs ys : List Int} {lv sm : Int}
    (h1 : Ints W l1 u1 A1 n1 xs) (h2 : Ints W l2 u2 A2 n2 ys) (hgd : o.guard = none)
    (hrun : (execOp a.eval o).run Tryz.prog W = .ok (.enter 98 #[.agg #[.int .i64 lv, .slice A1 n1 c1, .slice A2 n2 c2, .int .i64 sm]]) W)
    (h : ∀ B1 C1 B2 C2 w', TwM w' W.heap.size w'.heap.size B1 n1 xs B2 n2 ys → Keeps W w' → K (a.put o.dst (.agg #[.int .i64 lv, .slice B1 n1 C1, .slice B2 n2 C2, .int .i64 sm])) w') :
    if Region.wanted o (yielded ops a.tmps) = true then Oper.wp Tryz.prog o a W K Q else E := by
  have hw : Region.wanted o (yielded ops a.tmps) = true := by simp [Region.wanted, hgd]
  rw [if_pos hw]
  unfold Oper.wp
  rw [hrun, Oper.upon_enter]
  refine (nOwn_tw h1 h2).mono fun e w' hh => ?_
  obtain ⟨B1, C1, B2, C2, rfl, h3, h4⟩ := hh
  exact h B1 C1 B2 C2 w' h3 h4
set_option maxRecDepth 100000 in
set_option maxHeartbeats 6400000 in
theorem rlOwn_any {P : Option Addr} {np cp lo hi : Nat} {un : Bool} {v x1 x2 x3 x4 : Int} {pl : List TT} {w : World} (ht : Tabs true un w lo hi P np pl) :
    Calls Tryz.prog 51 #[.agg #[.int .i64 v, .slice P np cp, .int .i64 x1, .int .i64 x2, .int .i64 x3, .int .i64 x4]] w fun e w' => ∃ P' c', e = .returned (.agg #[.int .i64 v, .slice P' np c', .int .i64 x1, .int .i64 x2, .int .i64 x3, .int .i64 x4]) ∧ RowsM 4 t0 RwT w' w.heap.size w'.heap.size P' np pl ∧ Keeps w w' := by
  have HTL := hid ht.len
  have hn := ht.le
  have HIT := hid info_tabI
  go_enter Tryz.func51, Tryz.ntmps51
  have kw := keeps_refl w
  replace kw := Keeps.trans kw (keeps_alloc w (.cells #[.int .i64 v, .slice P np cp, .int .i64 x1, .int .i64 x2, .int .i64 x3, .int .i64 x4] 87))
  have b1 : Bl (w.alloc (.cells #[.int .i64 v, .slice P np cp, .int .i64 x1, .int .i64 x2, .int .i64 x3, .int .i64 x4] 87)) w.heap.size [.int .i64 v, .slice P np cp, .int .i64 x1, .int .i64 x2, .int .i64 x3, .int .i64 x4] := Bl.new' (by simp) (by simp)
  replace b1 := b1.keeps (keeps_alloc (w.alloc (.cells #[.int .i64 v, .slice P np cp, .int .i64 x1, .int .i64 x2, .int .i64 x3, .int .i64 x4] 87)) (.cells #[.int .i64 0, .slice none 0 0, .int .i64 0, .int .i64 0, .int .i64 0, .int .i64 0] 87))
  replace kw := Keeps.trans kw (keeps_alloc (w.alloc (.cells #[.int .i64 v, .slice P np cp, .int .i64 x1, .int .i64 x2, .int .i64 x3, .int .i64 x4] 87)) (.cells #[.int .i64 0, .slice none 0 0, .int .i64 0, .int .i64 0, .int .i64 0, .int .i64 0] 87))
  have b2 : Bl ((w.alloc (.cells #[.int .i64 v, .slice P np cp, .int .i64 x1, .int .i64 x2, .int .i64 x3, .int .i64 x4] 87)).alloc (.cells #[.int .i64 0, .slice none 0 0, .int .i64 0, .int .i64 0, .int .i64 0, .int .i64 0] 87)) (w.heap.size + 1) [.int .i64 0, .slice none 0 0, .int .i64 0, .int .i64 0, .int .i64 0, .int .i64 0] := Bl.new' (by simp) (by simp)
  have ca1_0 : ((w.alloc (.cells #[.int .i64 v, .slice P np cp, .int .i64 x1, .int .i64 x2, .int .i64 x3, .int .i64 x4] 87)).alloc (.cells #[.int .i64 0, .slice none 0 0, .int .i64 0, .int .i64 0, .int .i64 0, .int .i64 0] 87)).cell? ⟨w.heap.size, 0, none⟩ = some (.int .i64 v) := (b1.2 0 _ rfl).1
  have ca1_1 : ((w.alloc (.cells #[.int .i64 v, .slice P np cp, .int .i64 x1, .int .i64 x2, .int .i64 x3, .int .i64 x4] 87)).alloc (.cells #[.int .i64 0, .slice none 0 0, .int .i64 0, .int .i64 0, .int .i64 0, .int .i64 0] 87)).cell? ⟨w.heap.size, 1, none⟩ = some (.slice P np cp) := (b1.2 1 _ rfl).1
  have ca1_2 : ((w.alloc (.cells #[.int .i64 v, .slice P np cp, .int .i64 x1, .int .i64 x2, .int .i64 x3, .int .i64 x4] 87)).alloc (.cells #[.int .i64 0, .slice none 0 0, .int .i64 0, .int .i64 0, .int .i64 0, .int .i64 0] 87)).cell? ⟨w.heap.size, 2, none⟩ = some (.int .i64 x1) := (b1.2 2 _ rfl).1
  have ca1_3 : ((w.alloc (.cells #[.int .i64 v, .slice P np cp, .int .i64 x1, .int .i64 x2, .int .i64 x3, .int .i64 x4] 87)).alloc (.cells #[.int .i64 0, .slice none 0 0, .int .i64 0, .int .i64 0, .int .i64 0, .int .i64 0] 87)).cell? ⟨w.heap.size, 3, none⟩ = some (.int .i64 x2) := (b1.2 3 _ rfl).1
  have ca1_4 : ((w.alloc (.cells #[.int .i64 v, .slice P np cp, .int .i64 x1, .int .i64 x2, .int .i64 x3, .int .i64 x4] 87)).alloc (.cells #[.int .i64 0, .slice none 0 0, .int .i64 0, .int .i64 0, .int .i64 0, .int .i64 0] 87)).cell? ⟨w.heap.size, 4, none⟩ = some (.int .i64 x3) := (b1.2 4 _ rfl).1
  have ca1_5 : ((w.alloc (.cells #[.int .i64 v, .slice P np cp, .int .i64 x1, .int .i64 x2, .int .i64 x3, .int .i64 x4] 87)).alloc (.cells #[.int .i64 0, .slice none 0 0, .int .i64 0, .int .i64 0, .int .i64 0, .int .i64 0] 87)).cell? ⟨w.heap.size, 5, none⟩ = some (.int .i64 x4) := (b1.2 5 _ rfl).1
  replace b1 := b1.keeps (keeps_alloc ((w.alloc (.cells #[.int .i64 v, .slice P np cp, .int .i64 x1, .int .i64 x2, .int .i64 x3, .int .i64 x4] 87)).alloc (.cells #[.int .i64 0, .slice none 0 0, .int .i64 0, .int .i64 0, .int .i64 0, .int .i64 0] 87)) (.cells #[.int .i64 v, .slice none 0 0, .int .i64 x1, .int .i64 x2, .int .i64 x3, .int .i64 x4] 87))
  replace b2 := b2.keeps (keeps_alloc ((w.alloc (.cells #[.int .i64 v, .slice P np cp, .int .i64 x1, .int .i64 x2, .int .i64 x3, .int .i64 x4] 87)).alloc (.cells #[.int .i64 0, .slice none 0 0, .int .i64 0, .int .i64 0, .int .i64 0, .int .i64 0] 87)) (.cells #[.int .i64 v, .slice none 0 0, .int .i64 x1, .int .i64 x2, .int .i64 x3, .int .i64 x4] 87))
  replace kw := Keeps.trans kw (keeps_alloc ((w.alloc (.cells #[.int .i64 v, .slice P np cp, .int .i64 x1, .int .i64 x2, .int .i64 x3, .int .i64 x4] 87)).alloc (.cells #[.int .i64 0, .slice none 0 0, .int .i64 0, .int .i64 0, .int .i64 0, .int .i64 0] 87)) (.cells #[.int .i64 v, .slice none 0 0, .int .i64 x1, .int .i64 x2, .int .i64 x3, .int .i64 x4] 87))
  have b3 : Bl (((w.alloc (.cells #[.int .i64 v, .slice P np cp, .int .i64 x1, .int .i64 x2, .int .i64 x3, .int .i64 x4] 87)).alloc (.cells #[.int .i64 0, .slice none 0 0, .int .i64 0, .int .i64 0, .int .i64 0, .int .i64 0] 87)).alloc (.cells #[.int .i64 v, .slice none 0 0, .int .i64 x1, .int .i64 x2, .int .i64 x3, .int .i64 x4] 87)) (w.heap.size + 1 + 1) [.int .i64 v, .slice none 0 0, .int .i64 x1, .int .i64 x2, .int .i64 x3, .int .i64 x4] := Bl.new' (by simp) (by simp)
  have ca2_0 : (((w.alloc (.cells #[.int .i64 v, .slice P np cp, .int .i64 x1, .int .i64 x2, .int .i64 x3, .int .i64 x4] 87)).alloc (.cells #[.int .i64 0, .slice none 0 0, .int .i64 0, .int .i64 0, .int .i64 0, .int .i64 0] 87)).alloc (.cells #[.int .i64 v, .slice none 0 0, .int .i64 x1, .int .i64 x2, .int .i64 x3, .int .i64 x4] 87)).cell? ⟨w.heap.size, 0, none⟩ = some (.int .i64 v) := (b1.2 0 _ rfl).1
  have ca2_1 : (((w.alloc (.cells #[.int .i64 v, .slice P np cp, .int .i64 x1, .int .i64 x2, .int .i64 x3, .int .i64 x4] 87)).alloc (.cells #[.int .i64 0, .slice none 0 0, .int .i64 0, .int .i64 0, .int .i64 0, .int .i64 0] 87)).alloc (.cells #[.int .i64 v, .slice none 0 0, .int .i64 x1, .int .i64 x2, .int .i64 x3, .int .i64 x4] 87)).cell? ⟨w.heap.size, 1, none⟩ = some (.slice P np cp) := (b1.2 1 _ rfl).1
  have ca2_2 : (((w.alloc (.cells #[.int .i64 v, .slice P np cp, .int .i64 x1, .int .i64 x2, .int .i64 x3, .int .i64 x4] 87)).alloc (.cells #[.int .i64 0, .slice none 0 0, .int .i64 0, .int .i64 0, .int .i64 0, .int .i64 0] 87)).alloc (.cells #[.int .i64 v, .slice none 0 0, .int .i64 x1, .int .i64 x2, .int .i64 x3, .int .i64 x4] 87)).cell? ⟨w.heap.size, 2, none⟩ = some (.int .i64 x1) := (b1.2 2 _ rfl).1
  have ca2_3 : (((w.alloc (.cells #[.int .i64 v, .slice P np cp, .int .i64 x1, .int .i64 x2, .int .i64 x3, .int .i64 x4] 87)).alloc (.cells #[.int .i64 0, .slice none 0 0, .int .i64 0, .int .i64 0, .int .i64 0, .int .i64 0] 87)).alloc (.cells #[.int .i64 v, .slice none 0 0, .int .i64 x1, .int .i64 x2, .int .i64 x3, .int .i64 x4] 87)).cell? ⟨w.heap.size, 3, none⟩ = some (.int .i64 x2) := (b1.2 3 _ rfl).1
  have ca2_4 : (((w.alloc (.cells #[.int .i64 v, .slice P np cp, .int .i64 x1, .int .i64 x2, .int .i64 x3, .int .i64 x4] 87)).alloc (.cells #[.int .i64 0, .slice none 0 0, .int .i64 0, .int .i64 0, .int .i64 0, .int .i64 0] 87)).alloc (.cells #[.int .i64 v, .slice none 0 0, .int .i64 x1, .int .i64 x2, .int .i64 x3, .int .i64 x4] 87)).cell? ⟨w.heap.size, 4, none⟩ = some (.int .i64 x3) := (b1.2 4 _ rfl).1
  have ca2_5 : (((w.alloc (.cells #[.int .i64 v, .slice P np cp, .int .i64 x1, .int .i64 x2, .int .i64 x3, .int .i64 x4] 87)).alloc (.cells #[.int .i64 0, .slice none 0 0, .int .i64 0, .int .i64 0, .int .i64 0, .int .i64 0] 87)).alloc (.cells #[.int .i64 v, .slice none 0 0, .int .i64 x1, .int .i64 x2, .int .i64 x3, .int .i64 x4] 87)).cell? ⟨w.heap.size, 5, none⟩ = some (.int .i64 x4) := (b1.2 5 _ rfl).1
  have ca3_0 : (((w.alloc (.cells #[.int .i64 v, .slice P np cp, .int .i64 x1, .int .i64 x2, .int .i64 x3, .int .i64 x4] 87)).alloc (.cells #[.int .i64 0, .slice none 0 0, .int .i64 0, .int .i64 0, .int .i64 0, .int .i64 0] 87)).alloc (.cells #[.int .i64 v, .slice none 0 0, .int .i64 x1, .int .i64 x2, .int .i64 x3, .int .i64 x4] 87)).cell? ⟨w.heap.size + 1 + 1, 0, none⟩ = some (.int .i64 v) := (b3.2 0 _ rfl).1
  have ca3_1 : (((w.alloc (.cells #[.int .i64 v, .slice P np cp, .int .i64 x1, .int .i64 x2, .int .i64 x3, .int .i64 x4] 87)).alloc (.cells #[.int .i64 0, .slice none 0 0, .int .i64 0, .int .i64 0, .int .i64 0, .int .i64 0] 87)).alloc (.cells #[.int .i64 v, .slice none 0 0, .int .i64 x1, .int .i64 x2, .int .i64 x3, .int .i64 x4] 87)).cell? ⟨w.heap.size + 1 + 1, 1, none⟩ = some (.slice none 0 0) := (b3.2 1 _ rfl).1
  have ca3_2 : (((w.alloc (.cells #[.int .i64 v, .slice P np cp, .int .i64 x1, .int .i64 x2, .int .i64 x3, .int .i64 x4] 87)).alloc (.cells #[.int .i64 0, .slice none 0 0, .int .i64 0, .int .i64 0, .int .i64 0, .int .i64 0] 87)).alloc (.cells #[.int .i64 v, .slice none 0 0, .int .i64 x1, .int .i64 x2, .int .i64 x3, .int .i64 x4] 87)).cell? ⟨w.heap.size + 1 + 1, 2, none⟩ = some (.int .i64 x1) := (b3.2 2 _ rfl).1
  have ca3_3 : (((w.alloc (.cells #[.int .i64 v, .slice P np cp, .int .i64 x1, .int .i64 x2, .int .i64 x3, .int .i64 x4] 87)).alloc (.cells #[.int .i64 0, .slice none 0 0, .int .i64 0, .int .i64 0, .int .i64 0, .int .i64 0] 87)).alloc (.cells #[.int .i64 v, .slice none 0 0, .int .i64 x1, .int .i64 x2, .int .i64 x3, .int .i64 x4] 87)).cell? ⟨w.heap.size + 1 + 1, 3, none⟩ = some (.int .i64 x2) := (b3.2 3 _ rfl).1
  have ca3_4 : (((w.alloc (.cells #[.int .i64 v, .slice P np cp, .int .i64 x1, .int .i64 x2, .int .i64 x3, .int .i64 x4] 87)).alloc (.cells #[.int .i64 0, .slice none 0 0, .int .i64 0, .int .i64 0, .int .i64 0, .int .i64 0] 87)).alloc (.cells #[.int .i64 v, .slice none 0 0, .int .i64 x1, .int .i64 x2, .int .i64 x3, .int .i64 x4] 87)).cell? ⟨w.heap.size + 1 + 1, 4, none⟩ = some (.int .i64 x3) := (b3.2 4 _ rfl).1
  have ca3_5 : (((w.alloc (.cells #[.int .i64 v, .slice P np cp, .int .i64 x1, .int .i64 x2, .int .i64 x3, .int .i64 x4] 87)).alloc (.cells #[.int .i64 0, .slice none 0 0, .int .i64 0, .int .i64 0, .int .i64 0, .int .i64 0] 87)).alloc (.cells #[.int .i64 v, .slice none 0 0, .int .i64 x1, .int .i64 x2, .int .i64 x3, .int .i64 x4] 87)).cell? ⟨w.heap.size + 1 + 1, 5, none⟩ = some (.int .i64 x4) := (b3.2 5 _ rfl).1
  go_wp2_with fail
  clear ca1_0 ca1_1 ca1_2 ca1_3 ca1_4 ca1_5 ca2_0 ca2_1 ca2_2 ca2_3 ca2_4 ca2_5 ca3_0 ca3_1 ca3_2 ca3_3 ca3_4 ca3_5
  obtain ⟨W, hX⟩ : ∃ u : World, u = (((w.alloc (.cells #[.int .i64 v, .slice P np cp, .int .i64 x1, .int .i64 x2, .int .i64 x3, .int .i64 x4] 87)).alloc (.cells #[.int .i64 0, .slice none 0 0, .int .i64 0, .int .i64 0, .int .i64 0, .int .i64 0] 87)).alloc (.cells #[.int .i64 v, .slice none 0 0, .int .i64 x1, .int .i64 x2, .int .i64 x3, .int .i64 x4] 87)) := ⟨_, rfl⟩
  have szX3 := hid (show W.heap.size = w.heap.size + 1 + 1 + 1 by rw [hX]; simp)
  rw [← hX] at b1
  rw [← hX] at b2
  rw [← hX] at b3
  rw [← hX] at kw
  rw [← hX]
  clear hX
  have sz5 := kw.size
  have F0 := GrowC.nil (sz := 4) (z := t0) (R := RwT) W (w.heap.size + 3) 120
  go_loopw [14] (fun i wr => ∃ (k : Nat) (vq : Value) (cs : List Value) (L U : Nat → Nat), i = .int .i64 k ∧ k ≤ np ∧ GrowC 4 t0 RwT wr (w.heap.size + 3) 120 vq cs L U (pl.take k) ∧ Bl wr (w.heap.size + 1) [.int .i64 0, .slice none 0 0, .int .i64 0, .int .i64 0, .int .i64 0, .int .i64 0] ∧ Bl wr (w.heap.size + 1 + 1) [.int .i64 v, vq, .int .i64 x1, .int .i64 x2, .int .i64 x3, .int .i64 x4] ∧ Keeps w wr) (fun i _ => np - (intOf i).toNat)
  case atStart => exact ⟨0, _, _, _, _, rfl, Nat.zero_le _, F0, b2, b3, kw⟩
  clear F0 b1 b2 b3 kw szX3
  case round =>
    obtain ⟨k, vq, cs, L, U, rfl, hk, hF, b2, b3, kw⟩ := hrel
    have lb3 := b3.lt
    by_cases hlt : k < np
    rotate_left
    · obtain rfl : k = np := by omega
      rw [List.take_of_length_le (by rw [HTL.out]; exact Nat.le_refl _)] at hF
      obtain ⟨A9, c9, e9, hM⟩ := hF.rowsM (by rw [HTL.out]; exact hn) (by omega)
      rw [HTL.out] at hM e9
      subst e9
      have HM0 := hid hM
      clear hM hF
      skip
      have ca6_0 : wr.cell? ⟨w.heap.size + 1, 0, none⟩ = some (.int .i64 0) := (b2.2 0 _ rfl).1
      have fa6_0 : wr.frozen? ⟨w.heap.size + 1, 0, none⟩ = false := (b2.2 0 _ rfl).2
      have ca6_1 : wr.cell? ⟨w.heap.size + 1, 1, none⟩ = some (.slice none 0 0) := (b2.2 1 _ rfl).1
      have fa6_1 : wr.frozen? ⟨w.heap.size + 1, 1, none⟩ = false := (b2.2 1 _ rfl).2
      have ca6_2 : wr.cell? ⟨w.heap.size + 1, 2, none⟩ = some (.int .i64 0) := (b2.2 2 _ rfl).1
      have fa6_2 : wr.frozen? ⟨w.heap.size + 1, 2, none⟩ = false := (b2.2 2 _ rfl).2
      have ca6_3 : wr.cell? ⟨w.heap.size + 1, 3, none⟩ = some (.int .i64 0) := (b2.2 3 _ rfl).1
      have fa6_3 : wr.frozen? ⟨w.heap.size + 1, 3, none⟩ = false := (b2.2 3 _ rfl).2
      have ca6_4 : wr.cell? ⟨w.heap.size + 1, 4, none⟩ = some (.int .i64 0) := (b2.2 4 _ rfl).1
      have fa6_4 : wr.frozen? ⟨w.heap.size + 1, 4, none⟩ = false := (b2.2 4 _ rfl).2
      have ca6_5 : wr.cell? ⟨w.heap.size + 1, 5, none⟩ = some (.int .i64 0) := (b2.2 5 _ rfl).1
      have fa6_5 : wr.frozen? ⟨w.heap.size + 1, 5, none⟩ = false := (b2.2 5 _ rfl).2
      have ca7_0 : wr.cell? ⟨w.heap.size + 1 + 1, 0, none⟩ = some (.int .i64 v) := (b3.2 0 _ rfl).1
      have ca7_1 : wr.cell? ⟨w.heap.size + 1 + 1, 1, none⟩ = some (.slice A9 k c9) := (b3.2 1 _ rfl).1
      have ca7_2 : wr.cell? ⟨w.heap.size + 1 + 1, 2, none⟩ = some (.int .i64 x1) := (b3.2 2 _ rfl).1
      have ca7_3 : wr.cell? ⟨w.heap.size + 1 + 1, 3, none⟩ = some (.int .i64 x2) := (b3.2 3 _ rfl).1
      have ca7_4 : wr.cell? ⟨w.heap.size + 1 + 1, 4, none⟩ = some (.int .i64 x3) := (b3.2 4 _ rfl).1
      have ca7_5 : wr.cell? ⟨w.heap.size + 1 + 1, 5, none⟩ = some (.int .i64 x4) := (b3.2 5 _ rfl).1
      have hM2 := HM0.out
      clear hM2
      have HM3 := hid (show RowsM 4 t0 RwT ((((((wr.setCell ⟨w.heap.size + 1, 0, none⟩ (.int .i64 v)).setCell ⟨w.heap.size + 1, 1, none⟩ (.slice A9 k c9)).setCell ⟨w.heap.size + 1, 2, none⟩ (.int .i64 x1)).setCell ⟨w.heap.size + 1, 3, none⟩ (.int .i64 x2)).setCell ⟨w.heap.size + 1, 4, none⟩ (.int .i64 x3)).setCell ⟨w.heap.size + 1, 5, none⟩ (.int .i64 x4)) (w.heap.size + 3) wr.heap.size A9 k pl from (RowsM.fr RwT.ok (RowsM.fr RwT.ok (RowsM.fr RwT.ok (RowsM.fr RwT.ok (RowsM.fr RwT.ok (RowsM.fr RwT.ok (HM0.out) (fr_one (p := (w.heap.size + 1)) (i := 0) (.int .i64 v)) (by omega)) (fr_one (p := (w.heap.size + 1)) (i := 1) (.slice A9 k c9)) (by omega)) (fr_one (p := (w.heap.size + 1)) (i := 2) (.int .i64 x1)) (by omega)) (fr_one (p := (w.heap.size + 1)) (i := 3) (.int .i64 x2)) (by omega)) (fr_one (p := (w.heap.size + 1)) (i := 4) (.int .i64 x3)) (by omega)) (fr_one (p := (w.heap.size + 1)) (i := 5) (.int .i64 x4)) (by omega)))
      have HM2 := hid (RowsM.widen (lo' := w.heap.size) (hi' := ((((((wr.setCell ⟨w.heap.size + 1, 0, none⟩ (.int .i64 v)).setCell ⟨w.heap.size + 1, 1, none⟩ (.slice A9 k c9)).setCell ⟨w.heap.size + 1, 2, none⟩ (.int .i64 x1)).setCell ⟨w.heap.size + 1, 3, none⟩ (.int .i64 x2)).setCell ⟨w.heap.size + 1, 4, none⟩ (.int .i64 x3)).setCell ⟨w.heap.size + 1, 5, none⟩ (.int .i64 x4)).heap.size) HM3.out (by omega) (by simp [World.setCell]) (Nat.le_refl _))
      clear HM3
      replace b3 := b3.far (p := ⟨w.heap.size + 1, 0, none⟩) (by show _ ≠ (w.heap.size + 1); omega) (.int .i64 v)
      replace kw := Below.setCell kw (p := ⟨w.heap.size + 1, 0, none⟩) (by show _ ≤ (w.heap.size + 1); omega) (.int .i64 v)
      replace b2 : Bl (wr.setCell ⟨w.heap.size + 1, 0, none⟩ (.int .i64 v)) (w.heap.size + 1) [.int .i64 v, .slice none 0 0, .int .i64 0, .int .i64 0, .int .i64 0, .int .i64 0] := b2.set 0 (.int .i64 v)
      replace b3 := b3.far (p := ⟨w.heap.size + 1, 1, none⟩) (by show _ ≠ (w.heap.size + 1); omega) (.slice A9 k c9)
      replace kw := Below.setCell kw (p := ⟨w.heap.size + 1, 1, none⟩) (by show _ ≤ (w.heap.size + 1); omega) (.slice A9 k c9)
      replace b2 : Bl ((wr.setCell ⟨w.heap.size + 1, 0, none⟩ (.int .i64 v)).setCell ⟨w.heap.size + 1, 1, none⟩ (.slice A9 k c9)) (w.heap.size + 1) [.int .i64 v, .slice A9 k c9, .int .i64 0, .int .i64 0, .int .i64 0, .int .i64 0] := b2.set 1 (.slice A9 k c9)
      replace b3 := b3.far (p := ⟨w.heap.size + 1, 2, none⟩) (by show _ ≠ (w.heap.size + 1); omega) (.int .i64 x1)
      replace kw := Below.setCell kw (p := ⟨w.heap.size + 1, 2, none⟩) (by show _ ≤ (w.heap.size + 1); omega) (.int .i64 x1)
      replace b2 : Bl (((wr.setCell ⟨w.heap.size + 1, 0, none⟩ (.int .i64 v)).setCell ⟨w.heap.size + 1, 1, none⟩ (.slice A9 k c9)).setCell ⟨w.heap.size + 1, 2, none⟩ (.int .i64 x1)) (w.heap.size + 1) [.int .i64 v, .slice A9 k c9, .int .i64 x1, .int .i64 0, .int .i64 0, .int .i64 0] := b2.set 2 (.int .i64 x1)
      replace b3 := b3.far (p := ⟨w.heap.size + 1, 3, none⟩) (by show _ ≠ (w.heap.size + 1); omega) (.int .i64 x2)
      replace kw := Below.setCell kw (p := ⟨w.heap.size + 1, 3, none⟩) (by show _ ≤ (w.heap.size + 1); omega) (.int .i64 x2)
      replace b2 : Bl ((((wr.setCell ⟨w.heap.size + 1, 0, none⟩ (.int .i64 v)).setCell ⟨w.heap.size + 1, 1, none⟩ (.slice A9 k c9)).setCell ⟨w.heap.size + 1, 2, none⟩ (.int .i64 x1)).setCell ⟨w.heap.size + 1, 3, none⟩ (.int .i64 x2)) (w.heap.size + 1) [.int .i64 v, .slice A9 k c9, .int .i64 x1, .int .i64 x2, .int .i64 0, .int .i64 0] := b2.set 3 (.int .i64 x2)
      replace b3 := b3.far (p := ⟨w.heap.size + 1, 4, none⟩) (by show _ ≠ (w.heap.size + 1); omega) (.int .i64 x3)
      replace kw := Below.setCell kw (p := ⟨w.heap.size + 1, 4, none⟩) (by show _ ≤ (w.heap.size + 1); omega) (.int .i64 x3)
      replace b2 : Bl (((((wr.setCell ⟨w.heap.size + 1, 0, none⟩ (.int .i64 v)).setCell ⟨w.heap.size + 1, 1, none⟩ (.slice A9 k c9)).setCell ⟨w.heap.size + 1, 2, none⟩ (.int .i64 x1)).setCell ⟨w.heap.size + 1, 3, none⟩ (.int .i64 x2)).setCell ⟨w.heap.size + 1, 4, none⟩ (.int .i64 x3)) (w.heap.size + 1) [.int .i64 v, .slice A9 k c9, .int .i64 x1, .int .i64 x2, .int .i64 x3, .int .i64 0] := b2.set 4 (.int .i64 x3)
      replace b3 := b3.far (p := ⟨w.heap.size + 1, 5, none⟩) (by show _ ≠ (w.heap.size + 1); omega) (.int .i64 x4)
      replace kw := Below.setCell kw (p := ⟨w.heap.size + 1, 5, none⟩) (by show _ ≤ (w.heap.size + 1); omega) (.int .i64 x4)
      replace b2 : Bl ((((((wr.setCell ⟨w.heap.size + 1, 0, none⟩ (.int .i64 v)).setCell ⟨w.heap.size + 1, 1, none⟩ (.slice A9 k c9)).setCell ⟨w.heap.size + 1, 2, none⟩ (.int .i64 x1)).setCell ⟨w.heap.size + 1, 3, none⟩ (.int .i64 x2)).setCell ⟨w.heap.size + 1, 4, none⟩ (.int .i64 x3)).setCell ⟨w.heap.size + 1, 5, none⟩ (.int .i64 x4)) (w.heap.size + 1) [.int .i64 v, .slice A9 k c9, .int .i64 x1, .int .i64 x2, .int .i64 x3, .int .i64 x4] := b2.set 5 (.int .i64 x4)
      have HK := hid kw
      clear kw
      go_wp2_with fail
      clear ca6_0 fa6_0 ca6_1 fa6_1 ca6_2 fa6_2 ca6_3 fa6_3 ca6_4 fa6_4 ca6_5 fa6_5 ca7_0 ca7_1 ca7_2 ca7_3 ca7_4 ca7_5
      have ca0_0 : ((((((wr.setCell ⟨w.heap.size + 1, 0, none⟩ (.int .i64 v)).setCell ⟨w.heap.size + 1, 1, none⟩ (.slice A9 k c9)).setCell ⟨w.heap.size + 1, 2, none⟩ (.int .i64 x1)).setCell ⟨w.heap.size + 1, 3, none⟩ (.int .i64 x2)).setCell ⟨w.heap.size + 1, 4, none⟩ (.int .i64 x3)).setCell ⟨w.heap.size + 1, 5, none⟩ (.int .i64 x4)).cell? ⟨w.heap.size + 1, 0, none⟩ = some (.int .i64 v) := (b2.2 0 _ rfl).1
      have ca0_1 : ((((((wr.setCell ⟨w.heap.size + 1, 0, none⟩ (.int .i64 v)).setCell ⟨w.heap.size + 1, 1, none⟩ (.slice A9 k c9)).setCell ⟨w.heap.size + 1, 2, none⟩ (.int .i64 x1)).setCell ⟨w.heap.size + 1, 3, none⟩ (.int .i64 x2)).setCell ⟨w.heap.size + 1, 4, none⟩ (.int .i64 x3)).setCell ⟨w.heap.size + 1, 5, none⟩ (.int .i64 x4)).cell? ⟨w.heap.size + 1, 1, none⟩ = some (.slice A9 k c9) := (b2.2 1 _ rfl).1
      have ca0_2 : ((((((wr.setCell ⟨w.heap.size + 1, 0, none⟩ (.int .i64 v)).setCell ⟨w.heap.size + 1, 1, none⟩ (.slice A9 k c9)).setCell ⟨w.heap.size + 1, 2, none⟩ (.int .i64 x1)).setCell ⟨w.heap.size + 1, 3, none⟩ (.int .i64 x2)).setCell ⟨w.heap.size + 1, 4, none⟩ (.int .i64 x3)).setCell ⟨w.heap.size + 1, 5, none⟩ (.int .i64 x4)).cell? ⟨w.heap.size + 1, 2, none⟩ = some (.int .i64 x1) := (b2.2 2 _ rfl).1
      have ca0_3 : ((((((wr.setCell ⟨w.heap.size + 1, 0, none⟩ (.int .i64 v)).setCell ⟨w.heap.size + 1, 1, none⟩ (.slice A9 k c9)).setCell ⟨w.heap.size + 1, 2, none⟩ (.int .i64 x1)).setCell ⟨w.heap.size + 1, 3, none⟩ (.int .i64 x2)).setCell ⟨w.heap.size + 1, 4, none⟩ (.int .i64 x3)).setCell ⟨w.heap.size + 1, 5, none⟩ (.int .i64 x4)).cell? ⟨w.heap.size + 1, 3, none⟩ = some (.int .i64 x2) := (b2.2 3 _ rfl).1
      have ca0_4 : ((((((wr.setCell ⟨w.heap.size + 1, 0, none⟩ (.int .i64 v)).setCell ⟨w.heap.size + 1, 1, none⟩ (.slice A9 k c9)).setCell ⟨w.heap.size + 1, 2, none⟩ (.int .i64 x1)).setCell ⟨w.heap.size + 1, 3, none⟩ (.int .i64 x2)).setCell ⟨w.heap.size + 1, 4, none⟩ (.int .i64 x3)).setCell ⟨w.heap.size + 1, 5, none⟩ (.int .i64 x4)).cell? ⟨w.heap.size + 1, 4, none⟩ = some (.int .i64 x3) := (b2.2 4 _ rfl).1
      have ca0_5 : ((((((wr.setCell ⟨w.heap.size + 1, 0, none⟩ (.int .i64 v)).setCell ⟨w.heap.size + 1, 1, none⟩ (.slice A9 k c9)).setCell ⟨w.heap.size + 1, 2, none⟩ (.int .i64 x1)).setCell ⟨w.heap.size + 1, 3, none⟩ (.int .i64 x2)).setCell ⟨w.heap.size + 1, 4, none⟩ (.int .i64 x3)).setCell ⟨w.heap.size + 1, 5, none⟩ (.int .i64 x4)).cell? ⟨w.heap.size + 1, 5, none⟩ = some (.int .i64 x4) := (b2.2 5 _ rfl).1
      try simp only [Exit.inBlock, Exit.then]
      exact bodyPost_ret (v := .agg #[.int .i64 v, .slice A9 k c9, .int .i64 x1, .int .i64 x2, .int .i64 x3, .int .i64 x4]) (by simp [results, Tryz.results51, go_sem, ca0_0, ca0_1, ca0_2, ca0_3, ca0_4, ca0_5]) rfl ⟨_, _, rfl, HM2.out, HK.out⟩
    obtain ⟨b, off, lv, V, nv, cv, H, nh, ch, sm, vs, ws, rfl, _, _, hc0, hc1, hc2, hc3, hvv, hhh, hx⟩ := (ht.keeps kw).at_ hlt
    have hi1 : (k : Int) < (np : Int) := by omega
    have HX := hid hx.out
    have hnv := hid hvv.1
    have hnh := hid hhh.1
    clear hx
    have kr := keeps_refl wr
    have lr := hid hF.has.lt
    replace b2 := b2.keeps (keeps_alloc wr (.cells #[.int .i64 lv, .slice V nv cv, .slice H nh ch, .int .i64 sm] 120))
    replace b3 := b3.keeps (keeps_alloc wr (.cells #[.int .i64 lv, .slice V nv cv, .slice H nh ch, .int .i64 sm] 120))
    replace kw := Keeps.trans kw (keeps_alloc wr (.cells #[.int .i64 lv, .slice V nv cv, .slice H nh ch, .int .i64 sm] 120))
    replace kr := Keeps.trans kr (keeps_alloc wr (.cells #[.int .i64 lv, .slice V nv cv, .slice H nh ch, .int .i64 sm] 120))
    have b5 : Bl (wr.alloc (.cells #[.int .i64 lv, .slice V nv cv, .slice H nh ch, .int .i64 sm] 120)) wr.heap.size [.int .i64 lv, .slice V nv cv, .slice H nh ch, .int .i64 sm] := Bl.new' (by simp) (by simp)
    have ca6_0 : (wr.alloc (.cells #[.int .i64 lv, .slice V nv cv, .slice H nh ch, .int .i64 sm] 120)).cell? ⟨w.heap.size + 1 + 1, 0, none⟩ = some (.int .i64 v) := (b3.2 0 _ rfl).1
    have ca6_1 : (wr.alloc (.cells #[.int .i64 lv, .slice V nv cv, .slice H nh ch, .int .i64 sm] 120)).cell? ⟨w.heap.size + 1 + 1, 1, none⟩ = some (vq) := (b3.2 1 _ rfl).1
    have ca6_2 : (wr.alloc (.cells #[.int .i64 lv, .slice V nv cv, .slice H nh ch, .int .i64 sm] 120)).cell? ⟨w.heap.size + 1 + 1, 2, none⟩ = some (.int .i64 x1) := (b3.2 2 _ rfl).1
    have ca6_3 : (wr.alloc (.cells #[.int .i64 lv, .slice V nv cv, .slice H nh ch, .int .i64 sm] 120)).cell? ⟨w.heap.size + 1 + 1, 3, none⟩ = some (.int .i64 x2) := (b3.2 3 _ rfl).1
    have ca6_4 : (wr.alloc (.cells #[.int .i64 lv, .slice V nv cv, .slice H nh ch, .int .i64 sm] 120)).cell? ⟨w.heap.size + 1 + 1, 4, none⟩ = some (.int .i64 x3) := (b3.2 4 _ rfl).1
    have ca6_5 : (wr.alloc (.cells #[.int .i64 lv, .slice V nv cv, .slice H nh ch, .int .i64 sm] 120)).cell? ⟨w.heap.size + 1 + 1, 5, none⟩ = some (.int .i64 x4) := (b3.2 5 _ rfl).1
    have ca7_0 : (wr.alloc (.cells #[.int .i64 lv, .slice V nv cv, .slice H nh ch, .int .i64 sm] 120)).cell? ⟨wr.heap.size, 0, none⟩ = some (.int .i64 lv) := (b5.2 0 _ rfl).1
    have ca7_1 : (wr.alloc (.cells #[.int .i64 lv, .slice V nv cv, .slice H nh ch, .int .i64 sm] 120)).cell? ⟨wr.heap.size, 1, none⟩ = some (.slice V nv cv) := (b5.2 1 _ rfl).1
    have ca7_2 : (wr.alloc (.cells #[.int .i64 lv, .slice V nv cv, .slice H nh ch, .int .i64 sm] 120)).cell? ⟨wr.heap.size, 2, none⟩ = some (.slice H nh ch) := (b5.2 2 _ rfl).1
    have ca7_3 : (wr.alloc (.cells #[.int .i64 lv, .slice V nv cv, .slice H nh ch, .int .i64 sm] 120)).cell? ⟨wr.heap.size, 3, none⟩ = some (.int .i64 sm) := (b5.2 3 _ rfl).1
    go_wp2_with fail
    clear ca6_0 ca6_1 ca6_2 ca6_3 ca6_4 ca6_5 ca7_0 ca7_1 ca7_2 ca7_3
    clear hc0 hc1 hc2 hc3
    have sW := kr.size
    have l5 := b5.lt
    obtain ⟨W1, hWW⟩ : ∃ x : World, x = (wr.alloc (.cells #[.int .i64 lv, .slice V nv cv, .slice H nh ch, .int .i64 sm] 120)) := ⟨_, rfl⟩
    rw [← hWW] at b2 b3 b5 kw kr sW l5
    rw [← hWW]
    clear hWW
    have kS := hid (show ∀ w', Keeps W1 w' → (w'.cell? ⟨wr.heap.size, 0, none⟩ = some (.int .i64 lv) ∧ w'.cell? ⟨wr.heap.size, 1, none⟩ = some (.slice V nv cv) ∧ w'.cell? ⟨wr.heap.size, 2, none⟩ = some (.slice H nh ch) ∧ w'.cell? ⟨wr.heap.size, 3, none⟩ = some (.int .i64 sm)) from fun w' k => ⟨cell_keeps (b5.2 0 _ rfl).1 k, cell_keeps (b5.2 1 _ rfl).1 k, cell_keeps (b5.2 2 _ rfl).1 k, cell_keeps (b5.2 3 _ rfl).1 k⟩)
    have HNE := hid (show ∀ g, g < w.heap.size + 3 ∨ wr.heap.size ≤ g → vq.ownBlock ≠ some g from fun g hg e => by have := lr.out g e; omega)
    have kG := hid (show ∀ wA wB : World, Keeps W1 wA → wA.grownBy wB vq.ownBlock → (wB.cell? ⟨wr.heap.size, 0, none⟩ = some (.int .i64 lv) ∧ wB.cell? ⟨wr.heap.size, 1, none⟩ = some (.slice V nv cv) ∧ wB.cell? ⟨wr.heap.size, 2, none⟩ = some (.slice H nh ch) ∧ wB.cell? ⟨wr.heap.size, 3, none⟩ = some (.int .i64 sm)) from fun wA wB k hg => ⟨cell_grown (cell_keeps (b5.2 0 _ rfl).1 k) hg (HNE.out _ (.inr (Nat.le_refl _))), cell_grown (cell_keeps (b5.2 1 _ rfl).1 k) hg (HNE.out _ (.inr (Nat.le_refl _))), cell_grown (cell_keeps (b5.2 2 _ rfl).1 k) hg (HNE.out _ (.inr (Nat.le_refl _))), cell_grown (cell_keeps (b5.2 3 _ rfl).1 k) hg (HNE.out _ (.inr (Nat.le_refl _)))⟩)
    have HLT := hid (show (pl.take k).length = k by rw [List.length_take, HTL.out]; omega)
    have HRW := hid (show ∀ (wC : World) (V1 H1 : Option Addr) (c1 c2 : Nat), TwM wC wr.heap.size wC.heap.size V1 nv vs H1 nh ws → RwT wC wr.heap.size wC.heap.size (fun i => [Value.int .i64 lv, .slice V1 nv c1, .slice H1 nh c2, .int .i64 sm].getD i undef) (pl.getD k t0) from fun wC V1 H1 c1 c2 th => by
      rw [← HX.out]
      have e1 := hnv.out
      have e2 := hnh.out
      subst e1 e2
      exact ⟨V1, c1, H1, c2, rfl, rfl, rfl, rfl, th⟩)
    have HTK := hid (take_snoc pl k t0 (by rw [HTL.out]; exact hlt))
    have hvD := hvv.keeps (Keeps.trans kr (keeps_d0 W1))
    have hhD := hhh.keeps (Keeps.trans kr (keeps_d0 W1))
    have ew_0 : W1.drew.cell? ⟨w.heap.size + 1 + 1, 1, none⟩ = some (vq) := (b3.2 1 _ rfl).1
    have ew_1 : W1.drew.cell? ⟨wr.heap.size, 0, none⟩ = some (.int .i64 lv) := (b5.2 0 _ rfl).1
    have ew_2 : W1.drew.cell? ⟨wr.heap.size, 1, none⟩ = some (.slice V nv cv) := (b5.2 1 _ rfl).1
    have ew_3 : W1.drew.cell? ⟨wr.heap.size, 2, none⟩ = some (.slice H nh ch) := (b5.2 2 _ rfl).1
    have ew_4 : W1.drew.cell? ⟨wr.heap.size, 3, none⟩ = some (.int .i64 sm) := (b5.2 3 _ rfl).1
    go_region_law ((first | (refine step_nOwn (lv := lv) (sm := sm) (c1 := cv) (c2 := ch) hvD hhD rfl (by kernel_rfl) ?_; intro A1 C1 A2 C2 wC tw kC; have kW : Keeps W1 wC := keeps_d kC; replace tw : TwM wC W1.heap.size wC.heap.size A1 nv vs A2 nh ws := tw; replace tw := tw.widen (lo' := wr.heap.size) sW (Nat.le_refl _) (Nat.le_refl _); have sC : W1.heap.size ≤ wC.heap.size := kW.size; have eR : (wC.alloc (.cells #[.int .i64 lv, .slice A1 nv C1, .slice A2 nh C2, .int .i64 sm] 120)).cell? ⟨w.heap.size + 1 + 1, 1, none⟩ = some vq := cell_keeps (b3.2 1 _ rfl).1 (keeps_al kW); have eC_0 : wC.cell? ⟨w.heap.size + 1 + 1, 1, none⟩ = some (vq) := cell_keeps (b3.2 1 _ rfl).1 kW; have eC_1 : wC.cell? ⟨wr.heap.size, 0, none⟩ = some (.int .i64 lv) := cell_keeps (b5.2 0 _ rfl).1 kW; have eC_2 : wC.cell? ⟨wr.heap.size, 1, none⟩ = some (.slice V nv cv) := cell_keeps (b5.2 1 _ rfl).1 kW; have eC_3 : wC.cell? ⟨wr.heap.size, 2, none⟩ = some (.slice H nh ch) := cell_keeps (b5.2 2 _ rfl).1 kW; have eC_4 : wC.cell? ⟨wr.heap.size, 3, none⟩ = some (.int .i64 sm) := cell_keeps (b5.2 3 _ rfl).1 kW; clear kC) | (refine step_row (a0 := pl.getD k t0) (x := wr.heap.size) (new := [.int .i64 lv, .slice A1 nv C1, .slice A2 nh C2, .int .i64 sm]) HIT.out rfl (by decide) (by decide) RwT.ok (hF.keeps RwT.ok (kr.trans kW)) (by rw [HLT.out]; omega) (by omega) rfl (fun y hy => by simp at hy; rcases hy with rfl | rfl | rfl | rfl <;> rfl) (by omega) (fun j hj => (hF.iv j hj).2.1) (fun g e => (lr.out g e).2) (HRW.out wC A1 A2 C1 C2 tw) _ _ rfl rfl Tryz.underlying33 rfl rfl ?_; intro v9 w9 cs9 L9 U9 hF9 hg9; obtain ⟨A9, c9, e9⟩ := hF9.has.form; rw [List.length_append, HLT.out, List.length_singleton] at e9; subst e9; have B3 := bl_grown (b3.keeps kW) hg9 (HNE.out _ (.inl (by omega))); have z1 := (B3.2 1 _ rfl).1; have z2 := (B3.2 1 _ rfl).2)))
    all_goals (
      have G3_ := hid (hF9.store RwT.ok (g := w.heap.size + 1 + 1) (i := 1) (.slice A9 (k + 1) c9) (by omega))
      have B3_ := hid (B3.set 1 (.slice A9 (k + 1) c9))
      have B2_ := hid ((bl_grown (b2.keeps kW) hg9 (HNE.out _ (.inl (by omega)))).far (p := ⟨w.heap.size + 1 + 1, 1, none⟩) (by show w.heap.size + 1 ≠ w.heap.size + 1 + 1; omega) (.slice A9 (k + 1) c9))
      have K_ := hid (Below.setCell (keeps_grown (kw.trans kW) hg9 (fun g e => by have := lr.out g e; omega)) (p := ⟨w.heap.size + 1 + 1, 1, none⟩) (by show w.heap.size ≤ w.heap.size + 1 + 1; omega) (.slice A9 (k + 1) c9))
      clear hF9 hg9 hF b2 b3 b5 tw hvD hhD ew_0 ew_1 ew_2 ew_3 ew_4 eC_0 eC_1 eC_2 eC_3 eC_4 eR kw kW kr B3 z1 z2
      go_wp2_with fail
      go_roundw
      case rel => exact ⟨k + 1, _, _, _, _, by go_num, hlt, (by rw [HTK.out]; exact G3_.out), B2_.out, B3_.out, K_.out⟩
      case measure => simp [intOf]; omega)
set_option maxRecDepth 100000 in
set_option maxHeartbeats 12800000 in
theorem implAddRelease_gen {A A' R Q : Option Addr} {lo hi a c0 lo3 hi3 n q cq cr : Nat} {lo4 hi4 m cm : Nat} {un un' : Bool} {ts : List TT} {d1 d2 d3 d4 x1 x2 x3 x4 : Int} {ps : List Int} {l : List VV} {rs : List RL} {w : World} (h : Ints w lo hi A a ps) (h' : Sch w A' q cq l) (hr : Rels true un w lo3 hi3 R n rs) (ht : Tabs true un' w lo4 hi4 Q m ts) :
    Calls Tryz.prog 8 #[.agg #[.slice A a c0], .slice A' q cq, .slice R n cr, .agg #[.int .i64 d1, .int .i64 d2, .int .i64 d3, .int .i64 d4], .slice Q m cm, .agg #[.int .i64 x1, .int .i64 x2, .int .i64 x3, .int .i64 x4]] w (AdRes w (adQ ps l rs (d1, d2, d3, d4) ts (x1, x2, x3, x4))) := by
  have hq : q ≤ 67108864 := by obtain ⟨_, _, hv⟩ := h'.v; exact hv.le
  have hn := hr.le
  have HRL := hid hr.len
  have HTL := hid ht.len
  obtain ⟨z, HZ⟩ : ∃ z, Hid (adQ ps l rs (d1, d2, d3, d4) ts (x1, x2, x3, x4) = z) := ⟨_, rfl⟩
  rw [HZ.out]
  have HNO := hid (fun (e : (caQ ps l rs (d1, d2, d3, d4) ts (x1, x2, x3, x4)).1 = false) => HZ.out.symm.trans (adQ_no e))
  have HYE := hid (fun (e : (caQ ps l rs (d1, d2, d3, d4) ts (x1, x2, x3, x4)).1 = true) => HZ.out.symm.trans (adQ_yes e))
  have HIR := hid info_rel
  go_enter Tryz.func8, Tryz.ntmps8
  have kw := keeps_refl w
  replace kw := Keeps.trans kw (keeps_alloc w (.cells #[.slice A a c0] 26))
  have b6 : B1 (w.alloc (.cells #[.slice A a c0] 26)) w.heap.size (.slice A a c0) := B1.new' (by simp)
  replace b6 := b6.keeps (keeps_alloc (w.alloc (.cells #[.slice A a c0] 26)) (.cells #[.int .i64 d1, .int .i64 d2, .int .i64 d3, .int .i64 d4] 32))
  replace kw := Keeps.trans kw (keeps_alloc (w.alloc (.cells #[.slice A a c0] 26)) (.cells #[.int .i64 d1, .int .i64 d2, .int .i64 d3, .int .i64 d4] 32))
  have b9 : Bl ((w.alloc (.cells #[.slice A a c0] 26)).alloc (.cells #[.int .i64 d1, .int .i64 d2, .int .i64 d3, .int .i64 d4] 32)) (w.heap.size + 1) [.int .i64 d1, .int .i64 d2, .int .i64 d3, .int .i64 d4] := Bl.new' (by simp) (by simp)
  replace b6 := b6.keeps (keeps_alloc ((w.alloc (.cells #[.slice A a c0] 26)).alloc (.cells #[.int .i64 d1, .int .i64 d2, .int .i64 d3, .int .i64 d4] 32)) (.cells #[.int .i64 x1, .int .i64 x2, .int .i64 x3, .int .i64 x4] 32))
  replace b9 := b9.keeps (keeps_alloc ((w.alloc (.cells #[.slice A a c0] 26)).alloc (.cells #[.int .i64 d1, .int .i64 d2, .int .i64 d3, .int .i64 d4] 32)) (.cells #[.int .i64 x1, .int .i64 x2, .int .i64 x3, .int .i64 x4] 32))
  replace kw := Keeps.trans kw (keeps_alloc ((w.alloc (.cells #[.slice A a c0] 26)).alloc (.cells #[.int .i64 d1, .int .i64 d2, .int .i64 d3, .int .i64 d4] 32)) (.cells #[.int .i64 x1, .int .i64 x2, .int .i64 x3, .int .i64 x4] 32))
  have b11 : Bl (((w.alloc (.cells #[.slice A a c0] 26)).alloc (.cells #[.int .i64 d1, .int .i64 d2, .int .i64 d3, .int .i64 d4] 32)).alloc (.cells #[.int .i64 x1, .int .i64 x2, .int .i64 x3, .int .i64 x4] 32)) (w.heap.size + 1 + 1) [.int .i64 x1, .int .i64 x2, .int .i64 x3, .int .i64 x4] := Bl.new' (by simp) (by simp)
  obtain ⟨ca1, fa1⟩ := id b6
  have ca2_0 : (((w.alloc (.cells #[.slice A a c0] 26)).alloc (.cells #[.int .i64 d1, .int .i64 d2, .int .i64 d3, .int .i64 d4] 32)).alloc (.cells #[.int .i64 x1, .int .i64 x2, .int .i64 x3, .int .i64 x4] 32)).cell? ⟨w.heap.size + 1, 0, none⟩ = some (.int .i64 d1) := (b9.2 0 _ rfl).1
  have ca2_1 : (((w.alloc (.cells #[.slice A a c0] 26)).alloc (.cells #[.int .i64 d1, .int .i64 d2, .int .i64 d3, .int .i64 d4] 32)).alloc (.cells #[.int .i64 x1, .int .i64 x2, .int .i64 x3, .int .i64 x4] 32)).cell? ⟨w.heap.size + 1, 1, none⟩ = some (.int .i64 d2) := (b9.2 1 _ rfl).1
  have ca2_2 : (((w.alloc (.cells #[.slice A a c0] 26)).alloc (.cells #[.int .i64 d1, .int .i64 d2, .int .i64 d3, .int .i64 d4] 32)).alloc (.cells #[.int .i64 x1, .int .i64 x2, .int .i64 x3, .int .i64 x4] 32)).cell? ⟨w.heap.size + 1, 2, none⟩ = some (.int .i64 d3) := (b9.2 2 _ rfl).1
  have ca2_3 : (((w.alloc (.cells #[.slice A a c0] 26)).alloc (.cells #[.int .i64 d1, .int .i64 d2, .int .i64 d3, .int .i64 d4] 32)).alloc (.cells #[.int .i64 x1, .int .i64 x2, .int .i64 x3, .int .i64 x4] 32)).cell? ⟨w.heap.size + 1, 3, none⟩ = some (.int .i64 d4) := (b9.2 3 _ rfl).1
  have ca3_0 : (((w.alloc (.cells #[.slice A a c0] 26)).alloc (.cells #[.int .i64 d1, .int .i64 d2, .int .i64 d3, .int .i64 d4] 32)).alloc (.cells #[.int .i64 x1, .int .i64 x2, .int .i64 x3, .int .i64 x4] 32)).cell? ⟨w.heap.size + 1 + 1, 0, none⟩ = some (.int .i64 x1) := (b11.2 0 _ rfl).1
  have ca3_1 : (((w.alloc (.cells #[.slice A a c0] 26)).alloc (.cells #[.int .i64 d1, .int .i64 d2, .int .i64 d3, .int .i64 d4] 32)).alloc (.cells #[.int .i64 x1, .int .i64 x2, .int .i64 x3, .int .i64 x4] 32)).cell? ⟨w.heap.size + 1 + 1, 1, none⟩ = some (.int .i64 x2) := (b11.2 1 _ rfl).1
  have ca3_2 : (((w.alloc (.cells #[.slice A a c0] 26)).alloc (.cells #[.int .i64 d1, .int .i64 d2, .int .i64 d3, .int .i64 d4] 32)).alloc (.cells #[.int .i64 x1, .int .i64 x2, .int .i64 x3, .int .i64 x4] 32)).cell? ⟨w.heap.size + 1 + 1, 2, none⟩ = some (.int .i64 x3) := (b11.2 2 _ rfl).1
  have ca3_3 : (((w.alloc (.cells #[.slice A a c0] 26)).alloc (.cells #[.int .i64 d1, .int .i64 d2, .int .i64 d3, .int .i64 d4] 32)).alloc (.cells #[.int .i64 x1, .int .i64 x2, .int .i64 x3, .int .i64 x4] 32)).cell? ⟨w.heap.size + 1 + 1, 3, none⟩ = some (.int .i64 x4) := (b11.2 3 _ rfl).1
  go_wp2_with fail
  clear ca1 fa1 ca2_0 ca2_1 ca2_2 ca2_3 ca3_0 ca3_1 ca3_2 ca3_3
  obtain ⟨q0, q1, HQ⟩ : ∃ q0 q1, Hid (caQ ps l rs (d1, d2, d3, d4) ts (x1, x2, x3, x4) = (q0, q1)) := ⟨_, _, rfl⟩
  refine (implCanAdd_gen (h.keeps kw) (h'.keeps kw) (hr.keeps kw) (ht.keeps kw)).mono ?_
  rintro e w4 ⟨rfl, k4⟩
  rw [HQ.out]
  replace b6 := b6.keeps k4
  replace b9 := b9.keeps k4
  replace b11 := b11.keeps k4
  replace kw := Keeps.trans kw k4
  have lt5 := b11.lt
  have sz6 := kw.size
  clear k4
  cases q0
  · have HY := hid (HNO.out (by rw [HQ.out]))
    obtain ⟨ca7, fa7⟩ := id b6
    have ca8_0 : w4.cell? ⟨w.heap.size + 1, 0, none⟩ = some (.int .i64 d1) := (b9.2 0 _ rfl).1
    have ca8_1 : w4.cell? ⟨w.heap.size + 1, 1, none⟩ = some (.int .i64 d2) := (b9.2 1 _ rfl).1
    have ca8_2 : w4.cell? ⟨w.heap.size + 1, 2, none⟩ = some (.int .i64 d3) := (b9.2 2 _ rfl).1
    have ca8_3 : w4.cell? ⟨w.heap.size + 1, 3, none⟩ = some (.int .i64 d4) := (b9.2 3 _ rfl).1
    have ca9_0 : w4.cell? ⟨w.heap.size + 1 + 1, 0, none⟩ = some (.int .i64 x1) := (b11.2 0 _ rfl).1
    have ca9_1 : w4.cell? ⟨w.heap.size + 1 + 1, 1, none⟩ = some (.int .i64 x2) := (b11.2 1 _ rfl).1
    have ca9_2 : w4.cell? ⟨w.heap.size + 1 + 1, 2, none⟩ = some (.int .i64 x3) := (b11.2 2 _ rfl).1
    have ca9_3 : w4.cell? ⟨w.heap.size + 1 + 1, 3, none⟩ = some (.int .i64 x4) := (b11.2 3 _ rfl).1
    go_wp2_with fail
    clear ca7 fa7 ca8_0 ca8_1 ca8_2 ca8_3 ca9_0 ca9_1 ca9_2 ca9_3
    go_ret2
    exact AdRes.no HY.out kw
  have HP3 := hid (caQ_parts (show (caQ ps l rs (d1, d2, d3, d4) ts (x1, x2, x3, x4)).1 = true by rw [HQ.out]))
  obtain rfl : q1 = true := by have := HP3.out.1; rw [HQ.out] at this; exact this
  have HY := hid (HYE.out (by rw [HQ.out]))
  have h12 := (hisB_parts HP3.out.2.1).2.2.1
  rw [HRL.out] at h12
  clear HNO HYE HZ HQ HP3
  have hmk := make_relsI n (by omega)
  have lt11 := b11.lt
  have F0 := GrowC.made (sz := 6) (z := rl0) (R := RwR) w4 #[.int .i64 0, .slice none 0 0, .int .i64 0, .int .i64 0, .int .i64 0, .int .i64 0] (n + 1) (w.heap.size + 3) 87 (by omega) (by omega) rfl
  replace b6 := b6.keeps (keeps_alloc w4 (.cells (madeCells #[.int .i64 0, .slice none 0 0, .int .i64 0, .int .i64 0, .int .i64 0, .int .i64 0] ((n + 1) * 6)) 87))
  replace b9 := b9.keeps (keeps_alloc w4 (.cells (madeCells #[.int .i64 0, .slice none 0 0, .int .i64 0, .int .i64 0, .int .i64 0, .int .i64 0] ((n + 1) * 6)) 87))
  replace b11 := b11.keeps (keeps_alloc w4 (.cells (madeCells #[.int .i64 0, .slice none 0 0, .int .i64 0, .int .i64 0, .int .i64 0, .int .i64 0] ((n + 1) * 6)) 87))
  replace kw := Keeps.trans kw (keeps_alloc w4 (.cells (madeCells #[.int .i64 0, .slice none 0 0, .int .i64 0, .int .i64 0, .int .i64 0, .int .i64 0] ((n + 1) * 6)) 87))
  go_wp2_with fail
  clear hmk
  go_loopw [16, 41] (fun sv i wr => ∃ (k : Nat) (vq : Value) (cs : List Value) (L U : Nat → Nat), vq = sv ∧ i = .int .i64 k ∧ k ≤ n ∧ GrowC 6 rl0 RwR wr (w.heap.size + 3) 87 vq cs L U (rs.take k) ∧ Bl wr (w.heap.size + 1 + 1) [.int .i64 x1, .int .i64 x2, .int .i64 x3, .int .i64 x4] ∧ Keeps w wr) (fun _ i _ => n - (intOf i).toNat)
  case atStart => exact ⟨0, _, _, _, _, rfl, rfl, Nat.zero_le _, F0, b11, kw⟩
  clear F0 b6 b9 b11 kw lt11
  case round =>
    obtain ⟨k, vq, cs, L, U, rfl, rfl, hk, hF, b11, kw⟩ := hrel
    have lb := b11.lt
    have lr := hid hF.has.lt
    have HNE := hid (show ∀ g, g < w.heap.size + 3 ∨ wr.heap.size ≤ g → vq.ownBlock ≠ some g from fun g hg e => by have := lr.out g e; omega)
    have kr := keeps_refl wr
    by_cases hlt : k < n
    rotate_left
    · obtain rfl : k = n := by omega
      rw [List.take_of_length_le (by rw [HRL.out]; exact Nat.le_refl _)] at hF
      have HRW := hid (show ∀ (wC : World) (P2 : Option Addr) (c2 : Nat), RowsM 4 t0 RwT wC wr.heap.size wC.heap.size P2 m ts → RwR wC wr.heap.size wC.heap.size (fun i => [Value.int .i64 ((k : Int) + 1), .slice P2 m c2, .int .i64 x1, .int .i64 x2, .int .i64 x3, .int .i64 x4].getD i undef) (((rs.length : Int) + 1, ts, (x1, x2, x3, x4))) from fun wC P2 c2 hM => by
        have e1 := HTL.out
        have e2 := HRL.out
        subst e1
        rw [e2]
        exact ⟨P2, c2, rfl, rfl, rfl, rfl, rfl, rfl, hM⟩)
      have kS := hid (show ∀ w', Keeps wr w' → (w'.cell? ⟨w.heap.size + 1 + 1, 0, none⟩ = some (.int .i64 x1) ∧ w'.cell? ⟨w.heap.size + 1 + 1, 1, none⟩ = some (.int .i64 x2) ∧ w'.cell? ⟨w.heap.size + 1 + 1, 2, none⟩ = some (.int .i64 x3) ∧ w'.cell? ⟨w.heap.size + 1 + 1, 3, none⟩ = some (.int .i64 x4)) from fun w' k => ⟨cell_keeps (b11.2 0 _ rfl).1 k, cell_keeps (b11.2 1 _ rfl).1 k, cell_keeps (b11.2 2 _ rfl).1 k, cell_keeps (b11.2 3 _ rfl).1 k⟩)
      have kG := hid (show ∀ wA wB : World, Keeps wr wA → wA.grownBy wB vq.ownBlock → (wB.cell? ⟨w.heap.size + 1 + 1, 0, none⟩ = some (.int .i64 x1) ∧ wB.cell? ⟨w.heap.size + 1 + 1, 1, none⟩ = some (.int .i64 x2) ∧ wB.cell? ⟨w.heap.size + 1 + 1, 2, none⟩ = some (.int .i64 x3) ∧ wB.cell? ⟨w.heap.size + 1 + 1, 3, none⟩ = some (.int .i64 x4)) from fun wA wB k hg => ⟨cell_grown (cell_keeps (b11.2 0 _ rfl).1 k) hg (HNE.out _ (.inl (by omega))), cell_grown (cell_keeps (b11.2 1 _ rfl).1 k) hg (HNE.out _ (.inl (by omega))), cell_grown (cell_keeps (b11.2 2 _ rfl).1 k) hg (HNE.out _ (.inl (by omega))), cell_grown (cell_keeps (b11.2 3 _ rfl).1 k) hg (HNE.out _ (.inl (by omega)))⟩)
      go_wp2_with fail
      have hwr : IntKind.i64.wrap ((k : Int) + 1) = (k : Int) + 1 := IntWalk.i64_in _ (by omega)
      go_region_held3 (fun w' => w'.cell? ⟨w.heap.size + 1 + 1, 0, none⟩ = some (.int .i64 x1) ∧ w'.cell? ⟨w.heap.size + 1 + 1, 1, none⟩ = some (.int .i64 x2) ∧ w'.cell? ⟨w.heap.size + 1 + 1, 2, none⟩ = some (.int .i64 x3) ∧ w'.cell? ⟨w.heap.size + 1 + 1, 3, none⟩ = some (.int .i64 x4)) (first | with_reducible exact kS.out _ (keeps_d0 _) | with_reducible exact kS.out _ kW | with_reducible exact kS.out _ (keeps_al kW) | with_reducible exact kG.out _ _ kW hg9 | go_keep)
        ((first | (go_at_call 48; refine (copyTables_any (ht.keeps (Keeps.trans kw (keeps_d0 _)))).mono ?_; rintro e wC ⟨P2, rfl, hM, kC⟩; have kW : Keeps wr wC := keeps_d kC; have sC : wr.heap.size ≤ wC.heap.size := kW.size; replace hM : RowsM 4 t0 RwT wC wr.heap.size wC.heap.size P2 m ts := hM; clear kC) | ((try rw [hwr]); refine step_row (a0 := ((rs.length : Int) + 1, ts, (x1, x2, x3, x4))) (x := wr.heap.size) (new := [Value.int .i64 ((k : Int) + 1), .slice P2 m m, .int .i64 x1, .int .i64 x2, .int .i64 x3, .int .i64 x4]) HIR.out rfl (by decide) (by decide) RwR.ok (hF.keeps RwR.ok kW) (by rw [HRL.out]; omega) (by omega) rfl (fun y hy => by simp at hy; rcases hy with rfl | rfl | rfl | rfl | rfl | rfl <;> rfl) (by omega) (fun j hj => (hF.iv j hj).2.1) (fun g e => (lr.out g e).2) (HRW.out wC P2 m hM) _ _ rfl rfl Tryz.underlying28 rfl rfl ?_; intro v9 w9 cs9 L9 U9 hF9 hg9)))
      clear kS kG HRW hwr
      have HF := hid hF9
      have HG := hid hg9
      have KW := hid (keeps_grown (kw.trans kW) hg9 (fun g e => by have := lr.out g e; omega))
      have sz9 := hg9.size
      clear hF9 hg9 hF b11 kw kr
      go_wp2_with fail
      go_ret2
      exact AdRes.yes HY.out HF.out (by rw [List.length_append, List.length_singleton, HRL.out]; omega) (by omega) (by omega) KW.out
    obtain ⟨b, off, v, P, np, cp, y1, y2, y3, y4, pl, rfl, _, _, hc0, hc1, hc2, hc3, hc4, hc5, htp, hx⟩ := (hr.keeps kw).at_ hlt
    have hi1 : (k : Int) < (n : Int) := by omega
    have HX := hid hx.out
    have HPL := hid htp.len
    clear hx
    replace b11 := b11.keeps (keeps_alloc wr (.cells #[.int .i64 v, .slice P np cp, .int .i64 y1, .int .i64 y2, .int .i64 y3, .int .i64 y4] 87))
    replace kw := Keeps.trans kw (keeps_alloc wr (.cells #[.int .i64 v, .slice P np cp, .int .i64 y1, .int .i64 y2, .int .i64 y3, .int .i64 y4] 87))
    replace kr := Keeps.trans kr (keeps_alloc wr (.cells #[.int .i64 v, .slice P np cp, .int .i64 y1, .int .i64 y2, .int .i64 y3, .int .i64 y4] 87))
    have b18 : Bl (wr.alloc (.cells #[.int .i64 v, .slice P np cp, .int .i64 y1, .int .i64 y2, .int .i64 y3, .int .i64 y4] 87)) wr.heap.size [.int .i64 v, .slice P np cp, .int .i64 y1, .int .i64 y2, .int .i64 y3, .int .i64 y4] := Bl.new' (by simp) (by simp)
    have ca7_0 : (wr.alloc (.cells #[.int .i64 v, .slice P np cp, .int .i64 y1, .int .i64 y2, .int .i64 y3, .int .i64 y4] 87)).cell? ⟨wr.heap.size, 0, none⟩ = some (.int .i64 v) := (b18.2 0 _ rfl).1
    have ca7_1 : (wr.alloc (.cells #[.int .i64 v, .slice P np cp, .int .i64 y1, .int .i64 y2, .int .i64 y3, .int .i64 y4] 87)).cell? ⟨wr.heap.size, 1, none⟩ = some (.slice P np cp) := (b18.2 1 _ rfl).1
    have ca7_2 : (wr.alloc (.cells #[.int .i64 v, .slice P np cp, .int .i64 y1, .int .i64 y2, .int .i64 y3, .int .i64 y4] 87)).cell? ⟨wr.heap.size, 2, none⟩ = some (.int .i64 y1) := (b18.2 2 _ rfl).1
    have ca7_3 : (wr.alloc (.cells #[.int .i64 v, .slice P np cp, .int .i64 y1, .int .i64 y2, .int .i64 y3, .int .i64 y4] 87)).cell? ⟨wr.heap.size, 3, none⟩ = some (.int .i64 y2) := (b18.2 3 _ rfl).1
    have ca7_4 : (wr.alloc (.cells #[.int .i64 v, .slice P np cp, .int .i64 y1, .int .i64 y2, .int .i64 y3, .int .i64 y4] 87)).cell? ⟨wr.heap.size, 4, none⟩ = some (.int .i64 y3) := (b18.2 4 _ rfl).1
    have ca7_5 : (wr.alloc (.cells #[.int .i64 v, .slice P np cp, .int .i64 y1, .int .i64 y2, .int .i64 y3, .int .i64 y4] 87)).cell? ⟨wr.heap.size, 5, none⟩ = some (.int .i64 y4) := (b18.2 5 _ rfl).1
    go_wp2_with fail
    clear ca7_0 ca7_1 ca7_2 ca7_3 ca7_4 ca7_5
    clear hc0 hc1 hc2 hc3 hc4 hc5
    have HRW := hid (show ∀ (wC : World) (P2 : Option Addr) (c2 : Nat), RowsM 4 t0 RwT wC wr.heap.size wC.heap.size P2 np pl → RwR wC wr.heap.size wC.heap.size (fun i => [Value.int .i64 v, .slice P2 np c2, .int .i64 y1, .int .i64 y2, .int .i64 y3, .int .i64 y4].getD i undef) (rs.getD k rl0) from fun wC P2 c2 hM => by
      rw [← HX.out]
      have e1 := HPL.out
      subst e1
      exact ⟨P2, c2, rfl, rfl, rfl, rfl, rfl, rfl, hM⟩)
    have HLT := hid (show (rs.take k).length = k by rw [List.length_take, HRL.out]; omega)
    have HTK := hid (take_snoc rs k rl0 (by rw [HRL.out]; exact hlt))
    have sW := kr.size
    have l18 := b18.lt
    have e18 := hid (show (wr.alloc (.cells #[.int .i64 v, .slice P np cp, .int .i64 y1, .int .i64 y2, .int .i64 y3, .int .i64 y4] 87)).heap.size = wr.heap.size + 1 by simp)
    refine (copyTables_any (htp.keeps kr)).mono ?_
    rintro e wB ⟨P2, rfl, hM, kB⟩
    have sB := kB.size
    rw [e18.out] at hM sB
    replace b11 := b11.keeps kB
    replace b18 := b18.keeps kB
    replace kw := Keeps.trans kw kB
    replace kr := Keeps.trans kr kB
    have lt8 := b18.lt
    have sz9 := kw.size
    have sz10 := kr.size
    clear kB
    have ca11_0 : wB.cell? ⟨wr.heap.size, 0, none⟩ = some (.int .i64 v) := (b18.2 0 _ rfl).1
    have fa11_0 : wB.frozen? ⟨wr.heap.size, 0, none⟩ = false := (b18.2 0 _ rfl).2
    have ca11_1 : wB.cell? ⟨wr.heap.size, 1, none⟩ = some (.slice P np cp) := (b18.2 1 _ rfl).1
    have fa11_1 : wB.frozen? ⟨wr.heap.size, 1, none⟩ = false := (b18.2 1 _ rfl).2
    have ca11_2 : wB.cell? ⟨wr.heap.size, 2, none⟩ = some (.int .i64 y1) := (b18.2 2 _ rfl).1
    have fa11_2 : wB.frozen? ⟨wr.heap.size, 2, none⟩ = false := (b18.2 2 _ rfl).2
    have ca11_3 : wB.cell? ⟨wr.heap.size, 3, none⟩ = some (.int .i64 y2) := (b18.2 3 _ rfl).1
    have fa11_3 : wB.frozen? ⟨wr.heap.size, 3, none⟩ = false := (b18.2 3 _ rfl).2
    have ca11_4 : wB.cell? ⟨wr.heap.size, 4, none⟩ = some (.int .i64 y3) := (b18.2 4 _ rfl).1
    have fa11_4 : wB.frozen? ⟨wr.heap.size, 4, none⟩ = false := (b18.2 4 _ rfl).2
    have ca11_5 : wB.cell? ⟨wr.heap.size, 5, none⟩ = some (.int .i64 y4) := (b18.2 5 _ rfl).1
    have fa11_5 : wB.frozen? ⟨wr.heap.size, 5, none⟩ = false := (b18.2 5 _ rfl).2
    replace b11 := b11.far (p := ⟨wr.heap.size, 1, none⟩) (by show _ ≠ wr.heap.size; omega) (.slice P2 np np)
    replace kw := Below.setCell kw (p := ⟨wr.heap.size, 1, none⟩) (by show _ ≤ wr.heap.size; omega) (.slice P2 np np)
    replace kr := Below.setCell kr (p := ⟨wr.heap.size, 1, none⟩) (by show _ ≤ wr.heap.size; omega) (.slice P2 np np)
    replace b18 : Bl (wB.setCell ⟨wr.heap.size, 1, none⟩ (.slice P2 np np)) wr.heap.size [.int .i64 v, .slice P2 np np, .int .i64 y1, .int .i64 y2, .int .i64 y3, .int .i64 y4] := b18.set 1 (.slice P2 np np)
    have HM3 := hid (RowsM.widen (lo' := wr.heap.size) (hi' := (wB.setCell ⟨wr.heap.size, 1, none⟩ (.slice P2 np np)).heap.size) (hM.fr RwT.ok (fr_one (p := wr.heap.size) (i := 1) (.slice P2 np np)) (by omega)) (by omega) (by simp [World.setCell]) (Nat.le_refl _))
    have sZ : wr.heap.size + 1 ≤ (wB.setCell ⟨wr.heap.size, 1, none⟩ (.slice P2 np np)).heap.size := by simpa [World.setCell] using sB
    clear hM
    have HK := hid kr
    have HKW := hid kw
    have HB11 := hid b11
    have HB18 := hid b18
    clear kr kw b11
    have qa_0 : (wB.setCell ⟨wr.heap.size, 1, none⟩ (.slice P2 np np)).cell? ⟨wr.heap.size, 0, none⟩ = some (.int .i64 v) := (HB18.out.2 0 _ rfl).1
    have qa_1 : (wB.setCell ⟨wr.heap.size, 1, none⟩ (.slice P2 np np)).cell? ⟨wr.heap.size, 1, none⟩ = some (.slice P2 np np) := (HB18.out.2 1 _ rfl).1
    have qa_2 : (wB.setCell ⟨wr.heap.size, 1, none⟩ (.slice P2 np np)).cell? ⟨wr.heap.size, 2, none⟩ = some (.int .i64 y1) := (HB18.out.2 2 _ rfl).1
    have qa_3 : (wB.setCell ⟨wr.heap.size, 1, none⟩ (.slice P2 np np)).cell? ⟨wr.heap.size, 3, none⟩ = some (.int .i64 y2) := (HB18.out.2 3 _ rfl).1
    have qa_4 : (wB.setCell ⟨wr.heap.size, 1, none⟩ (.slice P2 np np)).cell? ⟨wr.heap.size, 4, none⟩ = some (.int .i64 y3) := (HB18.out.2 4 _ rfl).1
    have qa_5 : (wB.setCell ⟨wr.heap.size, 1, none⟩ (.slice P2 np np)).cell? ⟨wr.heap.size, 5, none⟩ = some (.int .i64 y4) := (HB18.out.2 5 _ rfl).1
    clear b18
    go_wp2_with (at_builtin; refine append_row (a0 := rs.getD k rl0) (x := wr.heap.size) (new := [Value.int .i64 v, .slice P2 np np, .int .i64 y1, .int .i64 y2, .int .i64 y3, .int .i64 y4]) HIR.out rfl (by decide) (by decide) RwR.ok (hF.keeps RwR.ok HK.out) (by rw [HLT.out]; omega) (by omega) rfl (fun y hy => by simp at hy; rcases hy with rfl | rfl | rfl | rfl | rfl | rfl <;> rfl) (by omega) (fun j hj => (hF.iv j hj).2.1) (fun g e => (lr.out g e).2) (HRW.out _ P2 np HM3.out) _ _ rfl rfl Tryz.underlying28 rfl (by first | rfl | (simp [World.setCell] <;> rfl)) ?_; intro v9 w9 cs9 L9 U9 hF9 hg9)
    have HG2 := hid hF9
    have KW := hid (keeps_grown HKW.out hg9 (fun g e => by have := lr.out g e; omega))
    have B4 := hid (bl_grown HB11.out hg9 (HNE.out _ (.inl (by omega))))
    clear hF9 hg9 hF HK HKW HB11 HM3 HB18 qa_0 qa_1 qa_2 qa_3 qa_4 qa_5
    go_wp2_with fail
    go_roundw
    case rel => exact ⟨k + 1, _, _, _, _, rfl, by go_num, hlt, (by rw [HTK.out]; exact HG2.out), B4.out, KW.out⟩
    case measure => simp [intOf]; omega
set_option maxRecDepth 100000 in
set_option maxHeartbeats 12800000 in
theorem specAddRelease_gen {A A' R Q : Option Addr} {lo hi a c0 lo3 hi3 n q cq cr : Nat} {lo4 hi4 m cm : Nat} {un un' : Bool} {ts : List TT} {d1 d2 d3 d4 x1 x2 x3 x4 : Int} {ps : List Int} {l : List VV} {rs : List RL} {w : World} (h : Ints w lo hi A a ps) (h' : Sch w A' q cq l) (hr : Rels true un w lo3 hi3 R n rs) (ht : Tabs true un' w lo4 hi4 Q m ts) :
    Calls Tryz.prog 9 #[.agg #[.slice A a c0], .slice A' q cq, .slice R n cr, .agg #[.int .i64 d1, .int .i64 d2, .int .i64 d3, .int .i64 d4], .slice Q m cm, .agg #[.int .i64 x1, .int .i64 x2, .int .i64 x3, .int .i64 x4]] w (AdRes w (adQ ps l rs (d1, d2, d3, d4) ts (x1, x2, x3, x4))) := by
  have hq : q ≤ 67108864 := by obtain ⟨_, _, hv⟩ := h'.v; exact hv.le
  have hn := hr.le
  have HRL := hid hr.len
  have HTL := hid ht.len
  obtain ⟨z, HZ⟩ : ∃ z, Hid (adQ ps l rs (d1, d2, d3, d4) ts (x1, x2, x3, x4) = z) := ⟨_, rfl⟩
  rw [HZ.out]
  have HNO := hid (fun (e : (caQ ps l rs (d1, d2, d3, d4) ts (x1, x2, x3, x4)).1 = false) => HZ.out.symm.trans (adQ_no e))
  have HYE := hid (fun (e : (caQ ps l rs (d1, d2, d3, d4) ts (x1, x2, x3, x4)).1 = true) => HZ.out.symm.trans (adQ_yes e))
  have HIR := hid info_rel
  go_enter Tryz.func9, Tryz.ntmps9
  have kw := keeps_refl w
  replace kw := Keeps.trans kw (keeps_alloc w (.cells #[.slice A a c0] 26))
  have b6 : B1 (w.alloc (.cells #[.slice A a c0] 26)) w.heap.size (.slice A a c0) := B1.new' (by simp)
  replace b6 := b6.keeps (keeps_alloc (w.alloc (.cells #[.slice A a c0] 26)) (.cells #[.int .i64 d1, .int .i64 d2, .int .i64 d3, .int .i64 d4] 32))
  replace kw := Keeps.trans kw (keeps_alloc (w.alloc (.cells #[.slice A a c0] 26)) (.cells #[.int .i64 d1, .int .i64 d2, .int .i64 d3, .int .i64 d4] 32))
  have b9 : Bl ((w.alloc (.cells #[.slice A a c0] 26)).alloc (.cells #[.int .i64 d1, .int .i64 d2, .int .i64 d3, .int .i64 d4] 32)) (w.heap.size + 1) [.int .i64 d1, .int .i64 d2, .int .i64 d3, .int .i64 d4] := Bl.new' (by simp) (by simp)
  replace b6 := b6.keeps (keeps_alloc ((w.alloc (.cells #[.slice A a c0] 26)).alloc (.cells #[.int .i64 d1, .int .i64 d2, .int .i64 d3, .int .i64 d4] 32)) (.cells #[.int .i64 x1, .int .i64 x2, .int .i64 x3, .int .i64 x4] 32))
  replace b9 := b9.keeps (keeps_alloc ((w.alloc (.cells #[.slice A a c0] 26)).alloc (.cells #[.int .i64 d1, .int .i64 d2, .int .i64 d3, .int .i64 d4] 32)) (.cells #[.int .i64 x1, .int .i64 x2, .int .i64 x3, .int .i64 x4] 32))
  replace kw := Keeps.trans kw (keeps_alloc ((w.alloc (.cells #[.slice A a c0] 26)).alloc (.cells #[.int .i64 d1, .int .i64 d2, .int .i64 d3, .int .i64 d4] 32)) (.cells #[.int .i64 x1, .int .i64 x2, .int .i64 x3, .int .i64 x4] 32))
  have b11 : Bl (((w.alloc (.cells #[.slice A a c0] 26)).alloc (.cells #[.int .i64 d1, .int .i64 d2, .int .i64 d3, .int .i64 d4] 32)).alloc (.cells #[.int .i64 x1, .int .i64 x2, .int .i64 x3, .int .i64 x4] 32)) (w.heap.size + 1 + 1) [.int .i64 x1, .int .i64 x2, .int .i64 x3, .int .i64 x4] := Bl.new' (by simp) (by simp)
  obtain ⟨ca1, fa1⟩ := id b6
  have ca2_0 : (((w.alloc (.cells #[.slice A a c0] 26)).alloc (.cells #[.int .i64 d1, .int .i64 d2, .int .i64 d3, .int .i64 d4] 32)).alloc (.cells #[.int .i64 x1, .int .i64 x2, .int .i64 x3, .int .i64 x4] 32)).cell? ⟨w.heap.size + 1, 0, none⟩ = some (.int .i64 d1) := (b9.2 0 _ rfl).1
  have ca2_1 : (((w.alloc (.cells #[.slice A a c0] 26)).alloc (.cells #[.int .i64 d1, .int .i64 d2, .int .i64 d3, .int .i64 d4] 32)).alloc (.cells #[.int .i64 x1, .int .i64 x2, .int .i64 x3, .int .i64 x4] 32)).cell? ⟨w.heap.size + 1, 1, none⟩ = some (.int .i64 d2) := (b9.2 1 _ rfl).1
  have ca2_2 : (((w.alloc (.cells #[.slice A a c0] 26)).alloc (.cells #[.int .i64 d1, .int .i64 d2, .int .i64 d3, .int .i64 d4] 32)).alloc (.cells #[.int .i64 x1, .int .i64 x2, .int .i64 x3, .int .i64 x4] 32)).cell? ⟨w.heap.size + 1, 2, none⟩ = some (.int .i64 d3) := (b9.2 2 _ rfl).1
  have ca2_3 : (((w.alloc (.cells #[.slice A a c0] 26)).alloc (.cells #[.int .i64 d1, .int .i64 d2, .int .i64 d3, .int .i64 d4] 32)).alloc (.cells #[.int .i64 x1, .int .i64 x2, .int .i64 x3, .int .i64 x4] 32)).cell? ⟨w.heap.size + 1, 3, none⟩ = some (.int .i64 d4) := (b9.2 3 _ rfl).1
  have ca3_0 : (((w.alloc (.cells #[.slice A a c0] 26)).alloc (.cells #[.int .i64 d1, .int .i64 d2, .int .i64 d3, .int .i64 d4] 32)).alloc (.cells #[.int .i64 x1, .int .i64 x2, .int .i64 x3, .int .i64 x4] 32)).cell? ⟨w.heap.size + 1 + 1, 0, none⟩ = some (.int .i64 x1) := (b11.2 0 _ rfl).1
  have ca3_1 : (((w.alloc (.cells #[.slice A a c0] 26)).alloc (.cells #[.int .i64 d1, .int .i64 d2, .int .i64 d3, .int .i64 d4] 32)).alloc (.cells #[.int .i64 x1, .int .i64 x2, .int .i64 x3, .int .i64 x4] 32)).cell? ⟨w.heap.size + 1 + 1, 1, none⟩ = some (.int .i64 x2) := (b11.2 1 _ rfl).1
  have ca3_2 : (((w.alloc (.cells #[.slice A a c0] 26)).alloc (.cells #[.int .i64 d1, .int .i64 d2, .int .i64 d3, .int .i64 d4] 32)).alloc (.cells #[.int .i64 x1, .int .i64 x2, .int .i64 x3, .int .i64 x4] 32)).cell? ⟨w.heap.size + 1 + 1, 2, none⟩ = some (.int .i64 x3) := (b11.2 2 _ rfl).1
  have ca3_3 : (((w.alloc (.cells #[.slice A a c0] 26)).alloc (.cells #[.int .i64 d1, .int .i64 d2, .int .i64 d3, .int .i64 d4] 32)).alloc (.cells #[.int .i64 x1, .int .i64 x2, .int .i64 x3, .int .i64 x4] 32)).cell? ⟨w.heap.size + 1 + 1, 3, none⟩ = some (.int .i64 x4) := (b11.2 3 _ rfl).1
  go_wp2_with fail
  clear ca1 fa1 ca2_0 ca2_1 ca2_2 ca2_3 ca3_0 ca3_1 ca3_2 ca3_3
  obtain ⟨pH1, H1⟩ : ∃ pB, Hid ((hisB ps l rs && lsB (d1, d2, d3, d4) && plB ps l ts && lsB (x1, x2, x3, x4)) = pB) := ⟨_, rfl⟩
  refine (rlAsked_any (h.keeps kw) (h'.keeps kw) (hr.keeps kw) (ht.keeps kw)).mono ?_
  rintro e w4 ⟨rfl, k4⟩
  rw [H1.out]
  replace b6 := b6.keeps k4
  replace b9 := b9.keeps k4
  replace b11 := b11.keeps k4
  replace kw := Keeps.trans kw k4
  have lt5 := b11.lt
  have sz6 := kw.size
  clear k4
  cases pH1
  · have HY := hid (HNO.out (by rw [caQ_no H1.out]))
    obtain ⟨ca7, fa7⟩ := id b6
    have ca8_0 : w4.cell? ⟨w.heap.size + 1, 0, none⟩ = some (.int .i64 d1) := (b9.2 0 _ rfl).1
    have ca8_1 : w4.cell? ⟨w.heap.size + 1, 1, none⟩ = some (.int .i64 d2) := (b9.2 1 _ rfl).1
    have ca8_2 : w4.cell? ⟨w.heap.size + 1, 2, none⟩ = some (.int .i64 d3) := (b9.2 2 _ rfl).1
    have ca8_3 : w4.cell? ⟨w.heap.size + 1, 3, none⟩ = some (.int .i64 d4) := (b9.2 3 _ rfl).1
    have ca9_0 : w4.cell? ⟨w.heap.size + 1 + 1, 0, none⟩ = some (.int .i64 x1) := (b11.2 0 _ rfl).1
    have ca9_1 : w4.cell? ⟨w.heap.size + 1 + 1, 1, none⟩ = some (.int .i64 x2) := (b11.2 1 _ rfl).1
    have ca9_2 : w4.cell? ⟨w.heap.size + 1 + 1, 2, none⟩ = some (.int .i64 x3) := (b11.2 2 _ rfl).1
    have ca9_3 : w4.cell? ⟨w.heap.size + 1 + 1, 3, none⟩ = some (.int .i64 x4) := (b11.2 3 _ rfl).1
    go_wp2_with fail
    clear ca7 fa7 ca8_0 ca8_1 ca8_2 ca8_3 ca9_0 ca9_1 ca9_2 ca9_3
    go_ret2
    exact AdRes.no HY.out kw
  · skip
    have H5 := H1.out
    simp only [Bool.and_eq_true] at H5
    have HH := hid H5.1.1.1
    have HB := hid H5.1.1.2
    have HX5 := hid H5.2
    clear H5
    obtain ⟨ca7, fa7⟩ := id b6
    have ca8_0 : w4.cell? ⟨w.heap.size + 1, 0, none⟩ = some (.int .i64 d1) := (b9.2 0 _ rfl).1
    have ca8_1 : w4.cell? ⟨w.heap.size + 1, 1, none⟩ = some (.int .i64 d2) := (b9.2 1 _ rfl).1
    have ca8_2 : w4.cell? ⟨w.heap.size + 1, 2, none⟩ = some (.int .i64 d3) := (b9.2 2 _ rfl).1
    have ca8_3 : w4.cell? ⟨w.heap.size + 1, 3, none⟩ = some (.int .i64 d4) := (b9.2 3 _ rfl).1
    have ca9_0 : w4.cell? ⟨w.heap.size + 1 + 1, 0, none⟩ = some (.int .i64 x1) := (b11.2 0 _ rfl).1
    have ca9_1 : w4.cell? ⟨w.heap.size + 1 + 1, 1, none⟩ = some (.int .i64 x2) := (b11.2 1 _ rfl).1
    have ca9_2 : w4.cell? ⟨w.heap.size + 1 + 1, 2, none⟩ = some (.int .i64 x3) := (b11.2 2 _ rfl).1
    have ca9_3 : w4.cell? ⟨w.heap.size + 1 + 1, 3, none⟩ = some (.int .i64 x4) := (b11.2 3 _ rfl).1
    go_wp2_with fail
    clear ca7 fa7 ca8_0 ca8_1 ca8_2 ca8_3 ca9_0 ca9_1 ca9_2 ca9_3
    obtain ⟨pH2, H2⟩ : ∃ pB, Hid (decide (0 < cn (d1, d2, d3, d4) (exq (rlLs rs) (x1, x2, x3, x4)) (12 - n)) = pB) := ⟨_, rfl⟩
    refine (rlCan_any (hr.keeps kw) HH.out HB.out HX5.out).mono ?_
    rintro e w10 ⟨rfl, k10⟩
    rw [H2.out]
    replace b6 := b6.keeps k10
    replace b9 := b9.keeps k10
    replace b11 := b11.keeps k10
    replace kw := Keeps.trans kw k10
    have lt11 := b11.lt
    have sz12 := kw.size
    clear k10
    cases pH2
    · have HY := hid (HNO.out (by rw [caQ_yes H1.out, HRL.out]; exact H2.out))
      obtain ⟨ca13, fa13⟩ := id b6
      have ca14_0 : w10.cell? ⟨w.heap.size + 1, 0, none⟩ = some (.int .i64 d1) := (b9.2 0 _ rfl).1
      have ca14_1 : w10.cell? ⟨w.heap.size + 1, 1, none⟩ = some (.int .i64 d2) := (b9.2 1 _ rfl).1
      have ca14_2 : w10.cell? ⟨w.heap.size + 1, 2, none⟩ = some (.int .i64 d3) := (b9.2 2 _ rfl).1
      have ca14_3 : w10.cell? ⟨w.heap.size + 1, 3, none⟩ = some (.int .i64 d4) := (b9.2 3 _ rfl).1
      have ca15_0 : w10.cell? ⟨w.heap.size + 1 + 1, 0, none⟩ = some (.int .i64 x1) := (b11.2 0 _ rfl).1
      have ca15_1 : w10.cell? ⟨w.heap.size + 1 + 1, 1, none⟩ = some (.int .i64 x2) := (b11.2 1 _ rfl).1
      have ca15_2 : w10.cell? ⟨w.heap.size + 1 + 1, 2, none⟩ = some (.int .i64 x3) := (b11.2 2 _ rfl).1
      have ca15_3 : w10.cell? ⟨w.heap.size + 1 + 1, 3, none⟩ = some (.int .i64 x4) := (b11.2 3 _ rfl).1
      go_wp2_with fail
      clear ca13 fa13 ca14_0 ca14_1 ca14_2 ca14_3 ca15_0 ca15_1 ca15_2 ca15_3
      go_ret2
      exact AdRes.no HY.out kw
    · skip
      have HY := hid (HYE.out (by rw [caQ_yes H1.out, HRL.out]; exact H2.out))
      have h12 := (hisB_parts HH.out).2.2.1
      rw [HRL.out] at h12
      clear HNO HYE HZ H1 H2 HB HX5 HH
      go_wp2_with fail
      have lt11 := b11.lt
      have F0 := GrowC.nil (sz := 6) (z := rl0) (R := RwR) w10 (w.heap.size + 3) 87
      go_loopw [14, 34] (fun sv i wr => ∃ (k : Nat) (vq : Value) (cs : List Value) (L U : Nat → Nat), vq = sv ∧ i = .int .i64 k ∧ k ≤ n ∧ GrowC 6 rl0 RwR wr (w.heap.size + 3) 87 vq cs L U (rs.take k) ∧ Bl wr (w.heap.size + 1 + 1) [.int .i64 x1, .int .i64 x2, .int .i64 x3, .int .i64 x4] ∧ Keeps w wr) (fun _ i _ => n - (intOf i).toNat)
      case atStart => exact ⟨0, _, _, _, _, rfl, rfl, Nat.zero_le _, F0, b11, kw⟩
      clear F0 b6 b9 b11 kw lt11
      case round =>
        obtain ⟨k, vq, cs, L, U, rfl, rfl, hk, hF, b11, kw⟩ := hrel
        have lb := b11.lt
        have lr := hid hF.has.lt
        have HNE := hid (show ∀ g, g < w.heap.size + 3 ∨ wr.heap.size ≤ g → vq.ownBlock ≠ some g from fun g hg e => by have := lr.out g e; omega)
        have kr := keeps_refl wr
        by_cases hlt : k < n
        rotate_left
        · obtain rfl : k = n := by omega
          rw [List.take_of_length_le (by rw [HRL.out]; exact Nat.le_refl _)] at hF
          have HRW := hid (show ∀ (wC : World) (P2 : Option Addr) (c2 : Nat), RowsM 4 t0 RwT wC wr.heap.size wC.heap.size P2 m ts → RwR wC wr.heap.size wC.heap.size (fun i => [Value.int .i64 ((k : Int) + 1), .slice P2 m c2, .int .i64 x1, .int .i64 x2, .int .i64 x3, .int .i64 x4].getD i undef) (((rs.length : Int) + 1, ts, (x1, x2, x3, x4))) from fun wC P2 c2 hM => by
            have e1 := HTL.out
            have e2 := HRL.out
            subst e1
            rw [e2]
            exact ⟨P2, c2, rfl, rfl, rfl, rfl, rfl, rfl, hM⟩)
          have ca13_0 : wr.cell? ⟨w.heap.size + 1 + 1, 0, none⟩ = some (.int .i64 x1) := (b11.2 0 _ rfl).1
          have ca13_1 : wr.cell? ⟨w.heap.size + 1 + 1, 1, none⟩ = some (.int .i64 x2) := (b11.2 1 _ rfl).1
          have ca13_2 : wr.cell? ⟨w.heap.size + 1 + 1, 2, none⟩ = some (.int .i64 x3) := (b11.2 2 _ rfl).1
          have ca13_3 : wr.cell? ⟨w.heap.size + 1 + 1, 3, none⟩ = some (.int .i64 x4) := (b11.2 3 _ rfl).1
          go_wp2_with fail
          clear ca13_0 ca13_1 ca13_2 ca13_3
          refine (rlOwn_any (ht.keeps kw)).mono ?_
          rintro e wC ⟨P2, c2, rfl, hM, kW⟩
          have sC := kW.size
          go_wp2_with (at_builtin; refine append_row (a0 := ((rs.length : Int) + 1, ts, (x1, x2, x3, x4))) (x := wr.heap.size) (new := [Value.int .i64 ((k : Int) + 1), .slice P2 m c2, .int .i64 x1, .int .i64 x2, .int .i64 x3, .int .i64 x4]) HIR.out rfl (by decide) (by decide) RwR.ok (hF.keeps RwR.ok kW) (by rw [HRL.out]; omega) (by omega) rfl (fun y hy => by simp at hy; rcases hy with rfl | rfl | rfl | rfl | rfl | rfl <;> rfl) (by omega) (fun j hj => (hF.iv j hj).2.1) (fun g e => (lr.out g e).2) (HRW.out wC P2 c2 hM) _ _ rfl rfl Tryz.underlying28 rfl rfl ?_; intro v9 w9 cs9 L9 U9 hF9 hg9)
          have HF := hid hF9
          have HG := hid hg9
          have KW := hid (keeps_grown (kw.trans kW) hg9 (fun g e => by have := lr.out g e; omega))
          have sz9 := hg9.size
          clear hF9 hg9 hF b11 kw kr
          go_wp2_with fail
          go_ret2
          exact AdRes.yes HY.out HF.out (by rw [List.length_append, List.length_singleton, HRL.out]; omega) (by omega) (by omega) KW.out
        obtain ⟨b, off, v, P, np, cp, y1, y2, y3, y4, pl, rfl, _, _, hc0, hc1, hc2, hc3, hc4, hc5, htp, hx⟩ := (hr.keeps kw).at_ hlt
        have hi1 : (k : Int) < (n : Int) := by omega
        have HX := hid hx.out
        have HPL := hid htp.len
        clear hx
        replace b11 := b11.keeps (keeps_alloc wr (.cells #[.int .i64 v, .slice P np cp, .int .i64 y1, .int .i64 y2, .int .i64 y3, .int .i64 y4] 87))
        replace kw := Keeps.trans kw (keeps_alloc wr (.cells #[.int .i64 v, .slice P np cp, .int .i64 y1, .int .i64 y2, .int .i64 y3, .int .i64 y4] 87))
        replace kr := Keeps.trans kr (keeps_alloc wr (.cells #[.int .i64 v, .slice P np cp, .int .i64 y1, .int .i64 y2, .int .i64 y3, .int .i64 y4] 87))
        have b18 : Bl (wr.alloc (.cells #[.int .i64 v, .slice P np cp, .int .i64 y1, .int .i64 y2, .int .i64 y3, .int .i64 y4] 87)) wr.heap.size [.int .i64 v, .slice P np cp, .int .i64 y1, .int .i64 y2, .int .i64 y3, .int .i64 y4] := Bl.new' (by simp) (by simp)
        have ca13_0 : (wr.alloc (.cells #[.int .i64 v, .slice P np cp, .int .i64 y1, .int .i64 y2, .int .i64 y3, .int .i64 y4] 87)).cell? ⟨wr.heap.size, 0, none⟩ = some (.int .i64 v) := (b18.2 0 _ rfl).1
        have ca13_1 : (wr.alloc (.cells #[.int .i64 v, .slice P np cp, .int .i64 y1, .int .i64 y2, .int .i64 y3, .int .i64 y4] 87)).cell? ⟨wr.heap.size, 1, none⟩ = some (.slice P np cp) := (b18.2 1 _ rfl).1
        have ca13_2 : (wr.alloc (.cells #[.int .i64 v, .slice P np cp, .int .i64 y1, .int .i64 y2, .int .i64 y3, .int .i64 y4] 87)).cell? ⟨wr.heap.size, 2, none⟩ = some (.int .i64 y1) := (b18.2 2 _ rfl).1
        have ca13_3 : (wr.alloc (.cells #[.int .i64 v, .slice P np cp, .int .i64 y1, .int .i64 y2, .int .i64 y3, .int .i64 y4] 87)).cell? ⟨wr.heap.size, 3, none⟩ = some (.int .i64 y2) := (b18.2 3 _ rfl).1
        have ca13_4 : (wr.alloc (.cells #[.int .i64 v, .slice P np cp, .int .i64 y1, .int .i64 y2, .int .i64 y3, .int .i64 y4] 87)).cell? ⟨wr.heap.size, 4, none⟩ = some (.int .i64 y3) := (b18.2 4 _ rfl).1
        have ca13_5 : (wr.alloc (.cells #[.int .i64 v, .slice P np cp, .int .i64 y1, .int .i64 y2, .int .i64 y3, .int .i64 y4] 87)).cell? ⟨wr.heap.size, 5, none⟩ = some (.int .i64 y4) := (b18.2 5 _ rfl).1
        go_wp2_with fail
        clear ca13_0 ca13_1 ca13_2 ca13_3 ca13_4 ca13_5
        clear hc0 hc1 hc2 hc3 hc4 hc5
        have HRW := hid (show ∀ (wC : World) (P2 : Option Addr) (c2 : Nat), RowsM 4 t0 RwT wC wr.heap.size wC.heap.size P2 np pl → RwR wC wr.heap.size wC.heap.size (fun i => [Value.int .i64 v, .slice P2 np c2, .int .i64 y1, .int .i64 y2, .int .i64 y3, .int .i64 y4].getD i undef) (rs.getD k rl0) from fun wC P2 c2 hM => by
          rw [← HX.out]
          have e1 := HPL.out
          subst e1
          exact ⟨P2, c2, rfl, rfl, rfl, rfl, rfl, rfl, hM⟩)
        have HLT := hid (show (rs.take k).length = k by rw [List.length_take, HRL.out]; omega)
        have HTK := hid (take_snoc rs k rl0 (by rw [HRL.out]; exact hlt))
        refine (rlOwn_any (htp.keeps kr)).mono ?_
        rintro e wB ⟨P2, c2, rfl, hM, kB⟩
        have sB := kB.size
        have sW := kr.size
        replace hM := hM.widen (lo' := wr.heap.size) sW (Nat.le_refl _) (Nat.le_refl _)
        replace b11 := b11.keeps kB
        replace b18 := b18.keeps kB
        replace kw := Keeps.trans kw kB
        replace kr := Keeps.trans kr kB
        have lt14 := b18.lt
        have sz15 := kw.size
        have sz16 := kr.size
        clear kB
        have HK := hid kr
        have HKW := hid kw
        have HB11 := hid b11
        have HM3 := hid hM
        clear kr kw b11 b18 hM
        go_wp2_with (at_builtin; refine append_row (a0 := rs.getD k rl0) (x := wr.heap.size) (new := [Value.int .i64 v, .slice P2 np c2, .int .i64 y1, .int .i64 y2, .int .i64 y3, .int .i64 y4]) HIR.out rfl (by decide) (by decide) RwR.ok (hF.keeps RwR.ok HK.out) (by rw [HLT.out]; omega) (by omega) rfl (fun y hy => by simp at hy; rcases hy with rfl | rfl | rfl | rfl | rfl | rfl <;> rfl) (by omega) (fun j hj => (hF.iv j hj).2.1) (fun g e => (lr.out g e).2) (HRW.out _ P2 c2 HM3.out) _ _ rfl rfl Tryz.underlying28 rfl rfl ?_; intro v9 w9 cs9 L9 U9 hF9 hg9)
        have HG2 := hid hF9
        have KW := hid (keeps_grown HKW.out hg9 (fun g e => by have := lr.out g e; omega))
        have B4 := hid (bl_grown HB11.out hg9 (HNE.out _ (.inl (by omega))))
        clear hF9 hg9 hF HK HKW HB11 HM3 
        go_wp2_with fail
        go_roundw
        case rel => exact ⟨k + 1, _, _, _, _, rfl, by go_num, hlt, (by rw [HTK.out]; exact HG2.out), B4.out, KW.out⟩
        case measure => simp [intOf]; omega
end Go.Proofs.YtohjkpopbmmliaaGreat
