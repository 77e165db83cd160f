/- Words for memory over this seat's program: slices of ints that are read, slices that the call may write, frames. Plain lemmas, no walk. -/
import Derived.Test.YtkpliolafkdijaaRows
import Derived.WalkKit
import Derived.Deep.Draws
import Derived.Laws.NewBlocks
namespace Go.Proofs.Ytkpliolafkdijaa
open Go.RowKit
set_option linter.unusedVariables false
set_option linter.unusedSimpArgs false

theorem hid {p : Prop} (h : p) : Hid p := h

/-- Everything below the old size of the heap is as it was. -/
abbrev Keeps (w w' : World) : Prop := Below w.heap.size w w'
theorem Keeps.trans {a b c : World} (h : Keeps a b) (k : Keeps b c) : Keeps a c := Below.trans h (k.mono h.size)
theorem Keeps.drewN (w : World) (n : Nat) : Keeps w (w.drewN n) := ⟨rfl, rfl, rfl, Nat.le_refl _, fun _ _ => rfl⟩
theorem keeps_refl (w : World) : Keeps w w := Below.refl _ _
theorem below_drewN {B : Nat} {a w : World} (h : Below B a w) (n : Nat) : Below B a (w.drewN n) := ⟨h.os, h.tape, h.output, h.size, h.block⟩
theorem below_keeps {B : Nat} {a b c : World} (h : Below B a b) (hB : B ≤ b.heap.size) (k : Keeps b c) : Below B a c := h.trans (k.mono hB)

/-- Only draws between the two worlds. -/
def Quiet (w w' : World) : Prop := ∃ m, w' = w.drewN m
theorem Quiet.refl (w : World) : Quiet w w := ⟨0, rfl⟩
theorem Quiet.drewN (w : World) (n : Nat) : Quiet w (w.drewN n) := ⟨n, rfl⟩
theorem Quiet.trans {a b c : World} (h : Quiet a b) (k : Quiet b c) : Quiet a c := by
  obtain ⟨m, rfl⟩ := h; obtain ⟨n, rfl⟩ := k; exact ⟨m + n, by rw [World.drewN_drewN]⟩
theorem Quiet.keeps {w w' : World} (h : Quiet w w') : Keeps w w' := by obtain ⟨m, rfl⟩ := h; exact Keeps.drewN w m
theorem Quiet.step {w w' : World} (h : Quiet w w') (n : Nat) : Quiet w (w'.drewN n) := h.trans (Quiet.drewN _ _)

/-- Of the old blocks only those from lo to hi (hi not included) may have turned. -/
structure Fr (lo hi : Nat) (w w' : World) : Prop where
  os : w'.os = w.os
  tape : w'.tape = w.tape
  output : w'.output = w.output
  size : w.heap.size ≤ w'.heap.size
  block : ∀ k, k < w.heap.size → (k < lo ∨ hi ≤ k) → w'.heap[k]? = w.heap[k]?
theorem Fr.refl (lo hi : Nat) (w : World) : Fr lo hi w w := ⟨rfl, rfl, rfl, Nat.le_refl _, fun _ _ _ => rfl⟩
theorem Fr.trans {lo hi : Nat} {a b c : World} (h : Fr lo hi a b) (k : Fr lo hi b c) : Fr lo hi a c :=
  ⟨k.os.trans h.os, k.tape.trans h.tape, k.output.trans h.output, Nat.le_trans h.size k.size, fun i hi ho => (k.block i (Nat.lt_of_lt_of_le hi h.size) ho).trans (h.block i hi ho)⟩
theorem Fr.of_keeps {w w' : World} (h : Keeps w w') (lo hi : Nat) : Fr lo hi w w' := ⟨h.os, h.tape, h.output, h.size, fun k hk _ => h.block k hk⟩
theorem Fr.widen {lo hi lo' hi' : Nat} {w w' : World} (h : Fr lo hi w w') (h1 : lo' ≤ lo ∨ hi ≤ lo) (h2 : hi ≤ hi' ∨ hi ≤ lo) : Fr lo' hi' w w' :=
  ⟨h.os, h.tape, h.output, h.size, fun k hk ho => h.block k hk (by omega)⟩
theorem Fr.drewN {lo hi : Nat} {a w : World} (h : Fr lo hi a w) (n : Nat) : Fr lo hi a (w.drewN n) := ⟨h.os, h.tape, h.output, h.size, h.block⟩
theorem Fr.setCell {lo hi : Nat} {a w : World} (h : Fr lo hi a w) {p : Addr} (h1 : lo ≤ p.block) (h2 : p.block < hi) (u : Value) : Fr lo hi a (w.setCell p u) :=
  h.trans ⟨rfl, rfl, rfl, by simp [World.setCell], fun k hk ho => Below.heap_setCell _ _ _ _ (by omega)⟩
theorem below_fr {B lo hi : Nat} {a b c : World} (h : Below B a b) (hB : B ≤ b.heap.size) (hlo : B ≤ lo) (k : Fr lo hi b c) : Below B a c :=
  h.trans ⟨k.os, k.tape, k.output, k.size, fun i hi => k.block i (by omega) (by omega)⟩
theorem Fr.cell {lo hi : Nat} {w w' : World} (h : Fr lo hi w w') {p : Addr} (hp : p.block < w.heap.size) (ho : p.block < lo ∨ hi ≤ p.block) : w'.cell? p = w.cell? p := World.cell?_of_block (w := w) (h.block p.block hp ho)
theorem Fr.frozen {lo hi : Nat} {w w' : World} (h : Fr lo hi w w') {p : Addr} (hp : p.block < w.heap.size) (ho : p.block < lo ∨ hi ≤ p.block) : w'.frozen? p = w.frozen? p := World.frozen?_of_block (w := w) (h.block p.block hp ho)

/-- A length that no counter outgrows. -/
abbrev small : Nat := 67108864

/-- The slice (A, n) reads as the list xs of ints, in blocks from lo to hi. -/
def Ints (w : World) (lo hi : Nat) (A : Option Addr) (n : Nat) (xs : List Int) : Prop :=
  xs.length = n ∧ n ≤ 67108864 ∧ hi ≤ w.heap.size ∧
  (0 < n → ∃ b off, A = some ⟨b, off, none⟩ ∧ lo ≤ b ∧ b < hi ∧ ∀ j, j < n → w.cell? ⟨b, off + j, none⟩ = some (.int .i64 (xs.getD j 0)))
/-- The same, and its cells may be written. -/
def Mine (w : World) (lo hi : Nat) (A : Option Addr) (n : Nat) (xs : List Int) : Prop :=
  Ints w lo hi A n xs ∧ (∀ b off, A = some ⟨b, off, none⟩ → ∀ j, j < n → w.frozen? ⟨b, off + j, none⟩ = false)

/-- Block g is just the ints xs, none frozen. -/
def Own (w : World) (g : Nat) (xs : List Int) : Prop := w.heap[g]? = some (.cells (xs.map (Value.int .i64)).toArray 3 (0, 0))

section
variable {w w' : World} {lo hi n : Nat} {A : Option Addr} {xs : List Int}
theorem Ints.len (h : Ints w lo hi A n xs) : xs.length = n := h.1
theorem Ints.le (h : Ints w lo hi A n xs) : n ≤ 67108864 := h.2.1
theorem Ints.top (h : Ints w lo hi A n xs) : hi ≤ w.heap.size := h.2.2.1
theorem Ints.at_ {k : Nat} (h : Ints w lo hi A n xs) (hk : k < n) :
    ∃ b off x, A = some ⟨b, off, none⟩ ∧ lo ≤ b ∧ b < hi ∧ w.cell? ⟨b, off + k, none⟩ = some (.int .i64 x) ∧ Hid (x = xs.getD k 0) := by
  obtain ⟨b, off, e, hl, hb, hc⟩ := h.2.2.2 (by omega)
  exact ⟨b, off, _, e, hl, hb, hc k hk, rfl⟩
theorem Ints.nil_ (w : World) (A : Option Addr) (lo : Nat) : Ints w lo w.heap.size A 0 [] := ⟨rfl, by omega, Nat.le_refl _, fun h => absurd h (by omega)⟩
theorem Ints.fr {l h' : Nat} (h : Ints w lo hi A n xs) (hf : Fr l h' w w') (ho : h' ≤ lo ∨ hi ≤ l ∨ h' ≤ l) : Ints w' lo hi A n xs :=
  ⟨h.1, h.2.1, Nat.le_trans h.top hf.size, fun hn => by
    obtain ⟨b, off, e, hl, hb, hc⟩ := h.2.2.2 hn
    have := h.top
    exact ⟨b, off, e, hl, hb, fun j hj => (hf.cell (p := ⟨b, off + j, none⟩) (by show b < _; omega) (by show b < _ ∨ _ ≤ b; omega)).trans (hc j hj)⟩⟩
theorem Ints.keeps (h : Ints w lo hi A n xs) (hb : Keeps w w') : Ints w' lo hi A n xs := h.fr (Fr.of_keeps hb 0 0) (by omega)
theorem Ints.quiet (h : Ints w lo hi A n xs) (hb : Quiet w w') : Ints w' lo hi A n xs := h.keeps hb.keeps
theorem Ints.drew (h : Ints w lo hi A n xs) : Ints w.drew lo hi A n xs := h
theorem Mine.drew (h : Mine w lo hi A n xs) : Mine w.drew lo hi A n xs := h
theorem Ints.widen {lo' hi' : Nat} (h : Ints w lo hi A n xs) (h1 : lo' ≤ lo) (h2 : hi ≤ hi') (h3 : hi' ≤ w.heap.size) : Ints w lo' hi' A n xs :=
  ⟨h.1, h.2.1, h3, fun hn => by
    obtain ⟨b, off, e, hl, hb, hc⟩ := h.2.2.2 hn
    exact ⟨b, off, e, by omega, by omega, hc⟩⟩
theorem Mine.ints (h : Mine w lo hi A n xs) : Ints w lo hi A n xs := h.1
theorem Mine.fr {l h' : Nat} (h : Mine w lo hi A n xs) (hf : Fr l h' w w') (ho : h' ≤ lo ∨ hi ≤ l ∨ h' ≤ l) : Mine w' lo hi A n xs :=
  ⟨h.1.fr hf ho, fun b off e j hj => by
    obtain ⟨b', off', e', hl, hb, _⟩ := h.1.2.2.2 (by omega)
    have := h.1.top
    rw [e] at e'
    obtain ⟨rfl, rfl⟩ : b = b' ∧ off = off' := by simpa using e'
    exact (hf.frozen (p := ⟨b, off + j, none⟩) (by show b < _; omega) (by show b < _ ∨ _ ≤ b; omega)).trans (h.2 b off e j hj)⟩
theorem Mine.keeps (h : Mine w lo hi A n xs) (hb : Keeps w w') : Mine w' lo hi A n xs := h.fr (Fr.of_keeps hb 0 0) (by omega)
theorem Mine.quiet (h : Mine w lo hi A n xs) (hb : Quiet w w') : Mine w' lo hi A n xs := h.keeps hb.keeps
theorem Mine.nil_ (w : World) (lo : Nat) : Mine w lo w.heap.size none 0 [] := ⟨Ints.nil_ w _ lo, fun b off e => by cases e⟩
theorem Mine.widen {lo' hi' : Nat} (h : Mine w lo hi A n xs) (h1 : lo' ≤ lo) (h2 : hi ≤ hi') (h3 : hi' ≤ w.heap.size) : Mine w lo' hi' A n xs := ⟨h.1.widen h1 h2 h3, h.2⟩
/-- A store at k. -/
theorem Mine.set_ {k : Nat} {b off : Nat} (h : Mine w lo hi (some ⟨b, off, none⟩) n xs) (hk : k < n) (u : Int) :
    Mine (w.setCell ⟨b, off + k, none⟩ (.int .i64 u)) lo hi (some ⟨b, off, none⟩) n (xs.set k u) ∧ Fr lo hi w (w.setCell ⟨b, off + k, none⟩ (.int .i64 u)) := by
  obtain ⟨⟨h1, h2, h3, h4⟩, h5⟩ := h
  obtain ⟨b', off', e, hl, hb, hc⟩ := h4 (by omega)
  obtain ⟨rfl, rfl⟩ : b = b' ∧ off = off' := by simpa using e
  refine ⟨⟨⟨by simpa using h1, h2, by simpa [World.setCell] using h3, fun _ => ⟨b, off, rfl, hl, hb, fun j hj => ?_⟩⟩, fun b' off' e' j hj => ?_⟩, (Fr.refl lo hi w).setCell (p := ⟨b, off + k, none⟩) hl hb _⟩
  · by_cases hjk : j = k
    · subst hjk
      rw [World.cell?_setCell_same _ _ _ (hc j hj)]
      simp [List.getD, h1, hj]
    · rw [World.cell?_setCell_other w _ _ _ (by intro e; injection e with _ e; omega), hc j hj]
      simp [List.getD, List.getElem?_set_ne (Ne.symm hjk)]
  · rw [World.frozen?_setCell]; exact h5 b' off' e' j hj
end

section
variable {w w' : World} {g : Nat} {xs : List Int}
theorem Own.lt (h : Own w g xs) : g < w.heap.size := by
  rcases Nat.lt_or_ge g w.heap.size with hlt | hge
  · exact hlt
  · unfold Own at h; rw [Array.getElem?_eq_none hge] at h; cases h
theorem Own.cell (h : Own w g xs) (j : Nat) (hj : j < xs.length) : w.cell? ⟨g, j, none⟩ = some (.int .i64 (xs.getD j 0)) := by
  rw [cell_of_row w g j _ _ _ h]
  simp [List.getD, hj]
theorem Own.at_ (h : Own w g xs) (j : Nat) (hj : j < xs.length) : ∃ x, w.cell? ⟨g, j, none⟩ = some (.int .i64 x) ∧ Hid (x = xs.getD j 0) := ⟨_, h.cell j hj, rfl⟩
theorem Own.frozen (h : Own w g xs) (i : Nat) : w.frozen? ⟨g, i, none⟩ = false := by
  unfold Own at h
  simp [World.frozen?, h]
theorem Own.mine (h : Own w g xs) {n lo hi : Nat} (hn : xs.length = n) (hs : n ≤ 67108864) (h1 : lo ≤ g) (h2 : g < hi) (h3 : hi ≤ w.heap.size) : Mine w lo hi (some ⟨g, 0, none⟩) n xs :=
  ⟨⟨hn, hs, h3, fun _ => ⟨g, 0, rfl, h1, h2, fun j hj => by rw [Nat.zero_add]; exact h.cell j (by omega)⟩⟩, fun b off e j hj => by
    obtain ⟨rfl, rfl⟩ : g = b ∧ 0 = off := by simpa using e
    exact h.frozen _⟩
theorem Own.drewN (h : Own w g xs) (k : Nat) : Own (w.drewN k) g xs := h
theorem Own.below {B : Nat} (h : Own w g xs) (hb : Below B w w') (hg : g < B) : Own w' g xs := (hb.block g hg).trans h
theorem Own.keeps (h : Own w g xs) (hb : Keeps w w') : Own w' g xs := h.below hb h.lt
theorem Own.set_ (h : Own w g xs) (i : Nat) (u : Int) : Own (w.setCell ⟨g, i, none⟩ (.int .i64 u)) g (xs.set i u) := by
  unfold Own at h ⊢
  simp [World.setCell, Array.getElem?_modify, h, List.map_set]
theorem Own.far (h : Own w g xs) {p : Addr} (hp : g ≠ p.block) (u : Value) : Own (w.setCell p u) g xs := (Below.heap_setCell w p u g hp).trans h
theorem Own.new (w : World) (n : Nat) : Own (w.alloc (.cells (madeCells #[.int .i64 0] n) 3)) w.heap.size (List.replicate n 0) := by
  unfold Own
  rw [heap_alloc_new]
  congr 2
  apply Array.ext
  · simp [size_madeCells]
  · intro i h1 h2
    simp [madeCells, Nat.mod_one]
end
/-- An owned row of ints (the kit's word for what append makes) is a slice that may be written. -/
theorem Mine.of_own {w : World} {base n : Nat} {A : Option Addr} {c : Nat} {xs : List Int} (h : w.ownsRow base 3 1 (.slice A n c) n (xs.map (Value.int .i64))) (hs : n ≤ 67108864) : Mine w base w.heap.size A n xs := by
  obtain ⟨h1, h2⟩ := h
  have hl : xs.length = n := by simpa using h1
  rcases h2 with ⟨h2, rfl⟩ | ⟨g, cap, cur, hv, hg, hh, hnc, hcm, hcs, htake⟩
  · refine ⟨⟨hl, hs, Nat.le_refl _, fun h => absurd h (by omega)⟩, fun b off e j hj => absurd hj (by omega)⟩
  · have hA : A = some ⟨g, 0, none⟩ := by injection hv
    subst hA
    have hlt : g < w.heap.size := (Array.getElem?_eq_some_iff.1 hh).1
    refine ⟨⟨hl, hs, Nat.le_refl _, fun _ => ⟨g, 0, rfl, hg, hlt, fun j hj => ?_⟩⟩, fun b off e j hj => ?_⟩
    · rw [Nat.zero_add, cell_of_row w g j cur _ _ hh]
      have h3 : (cur.toList.take (n * 1))[j]? = some (.int .i64 (xs.getD j 0)) := by
        rw [htake]; simp [List.getD, hl, hj]
      rw [List.getElem?_take, if_pos (by omega)] at h3
      simpa using h3
    · obtain ⟨rfl, rfl⟩ : g = b ∧ 0 = off := by simpa using e
      simp [World.frozen?, hh]
end Go.Proofs.Ytkpliolafkdijaa
