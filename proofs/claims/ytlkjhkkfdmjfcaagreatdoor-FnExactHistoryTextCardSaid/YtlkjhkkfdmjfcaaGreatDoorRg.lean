/- Data of any shape in memory, read, and where wanted writable, or of a shape alone; stores of numbers keep the shape. No walk. -/
import Derived.Test.YtlkjhkkfdmjfcaaGreatDoorDat
namespace Go.Proofs.YtlkjhkkfdmjfcaaGreatDoor
open Go.ChangeShapes Go.WideShapes Go.ChangeAt Go.RowKit Go.Deep
set_option linter.unusedVariables false
set_option linter.unusedSimpArgs false

mutual
/-- The value v has the shape of d, in blocks from lo to hi; ex: it reads as d; un: its cells may be written. -/
def Rg (ex un : Bool) (w : World) (lo hi : Nat) : D → Value → Prop
  | .i x, v => ∃ y, v = .int .i64 y ∧ (ex = true → y = x)
  | .s b, v => ∃ y, v = .string y ∧ (ex = true → y = b)
  | .sl n ds, v => ∃ A c, v = .slice A n c ∧ hi ≤ w.heap.size ∧ (0 < n → ∃ b off, A = some ⟨b, off, none⟩ ∧ lo ≤ b ∧ b < hi ∧ RgL ex un w lo hi b off ds)
def RgL (ex un : Bool) (w : World) (lo hi b : Nat) : Nat → List D → Prop
  | _, [] => True
  | off, d :: ds => (∃ u, w.cell? ⟨b, off, none⟩ = some u ∧ (un = true → w.frozen? ⟨b, off, none⟩ = false) ∧ Rg ex un w lo hi d u) ∧ RgL ex un w lo hi b (off + 1) ds
end
/-- The slice (A, n) holds the cells ds. -/
def RgS (ex un : Bool) (w : World) (lo hi : Nat) (A : Option Addr) (n : Nat) (ds : List D) : Prop :=
  hi ≤ w.heap.size ∧ (0 < n → ∃ b off, A = some ⟨b, off, none⟩ ∧ lo ≤ b ∧ b < hi ∧ RgL ex un w lo hi b off ds)
theorem Rg.sl {ex un : Bool} {w : World} {lo hi n : Nat} {ds : List D} {v : Value} (h : Rg ex un w lo hi (.sl n ds) v) : ∃ A c, v = .slice A n c ∧ RgS ex un w lo hi A n ds := by
  unfold Rg at h
  obtain ⟨A, c, e, h1, h2⟩ := h
  exact ⟨A, c, e, h1, h2⟩
theorem RgS.rg {ex un : Bool} {w : World} {lo hi n c : Nat} {ds : List D} {A : Option Addr} (h : RgS ex un w lo hi A n ds) : Rg ex un w lo hi (.sl n ds) (.slice A n c) := by
  unfold Rg
  exact ⟨A, c, rfl, h.1, h.2⟩
theorem Rg.i_ {un : Bool} {w : World} {lo hi : Nat} {x : Int} {v : Value} (h : Rg true un w lo hi (.i x) v) : v = .int .i64 x := by
  unfold Rg at h; obtain ⟨y, e, h1⟩ := h; rw [e, h1 rfl]
theorem Rg.iS {ex un : Bool} {w : World} {lo hi : Nat} {x : Int} {v : Value} (h : Rg ex un w lo hi (.i x) v) : ∃ y, v = .int .i64 y := by
  unfold Rg at h; obtain ⟨y, e, _⟩ := h; exact ⟨y, e⟩
theorem Rg.of_i {ex un : Bool} {w : World} {lo hi : Nat} (x : Int) : Rg ex un w lo hi (.i x) (.int .i64 x) := by
  unfold Rg; exact ⟨x, rfl, fun _ => rfl⟩
section
variable {ex un : Bool} {w w' : World} {lo hi l h' : Nat}
mutual
theorem Rg.fr (hf : Fr l h' w w') (ho : h' ≤ lo ∨ hi ≤ l ∨ h' ≤ l) : ∀ (d : D) (v : Value), Rg ex un w lo hi d v → Rg ex un w' lo hi d v
  | .i x, v, h => by unfold Rg at h ⊢; exact h
  | .s b, v, h => by unfold Rg at h ⊢; exact h
  | .sl n ds, v, h => by
    unfold Rg at h ⊢
    obtain ⟨A, c, e, ht, hr⟩ := h
    refine ⟨A, c, e, Nat.le_trans ht hf.size, fun hn => ?_⟩
    obtain ⟨b, off, e2, h1, h2, h3⟩ := hr hn
    exact ⟨b, off, e2, h1, h2, RgL.fr hf ho h1 h2 ht ds off h3⟩
theorem RgL.fr (hf : Fr l h' w w') (ho : h' ≤ lo ∨ hi ≤ l ∨ h' ≤ l) {b : Nat} (h1 : lo ≤ b) (h2 : b < hi) (ht : hi ≤ w.heap.size) : ∀ (ds : List D) (off : Nat), RgL ex un w lo hi b off ds → RgL ex un w' lo hi b off ds
  | [], off, h => by unfold RgL; trivial
  | d :: ds, off, h => by
    unfold RgL at h ⊢
    obtain ⟨⟨u, h3, hz, h4⟩, h5⟩ := h
    exact ⟨⟨u, (hf.cell (p := ⟨b, off, none⟩) (by show b < _; omega) (by show b < _ ∨ _ ≤ b; omega)).trans h3, fun e => (hf.frozen (p := ⟨b, off, none⟩) (by show b < _; omega) (by show b < _ ∨ _ ≤ b; omega)).trans (hz e), Rg.fr hf ho d u h4⟩, RgL.fr hf ho h1 h2 ht ds (off + 1) h5⟩
end
mutual
theorem Rg.widen {lo' hi' : Nat} (h1 : lo' ≤ lo) (h2 : hi ≤ hi') (h3 : hi' ≤ w.heap.size) : ∀ (d : D) (v : Value), Rg ex un w lo hi d v → Rg ex un w lo' hi' d v
  | .i x, v, h => by unfold Rg at h ⊢; exact h
  | .s b, v, h => by unfold Rg at h ⊢; exact h
  | .sl n ds, v, h => by
    unfold Rg at h ⊢
    obtain ⟨A, c, e, ht, hr⟩ := h
    refine ⟨A, c, e, h3, fun hn => ?_⟩
    obtain ⟨b, off, e2, g1, g2, g3⟩ := hr hn
    exact ⟨b, off, e2, by omega, by omega, RgL.widen h1 h2 h3 ds off g3⟩
theorem RgL.widen {lo' hi' b : Nat} (h1 : lo' ≤ lo) (h2 : hi ≤ hi') (h3 : hi' ≤ w.heap.size) : ∀ (ds : List D) (off : Nat), RgL ex un w lo hi b off ds → RgL ex un w lo' hi' b off ds
  | [], off, h => by unfold RgL; trivial
  | d :: ds, off, h => by
    unfold RgL at h ⊢
    obtain ⟨⟨u, g3, gz, g4⟩, g5⟩ := h
    exact ⟨⟨u, g3, gz, Rg.widen h1 h2 h3 d u g4⟩, RgL.widen h1 h2 h3 ds (off + 1) g5⟩
end
mutual
theorem Rg.weak {ex' un' : Bool} (h1 : ex' = true → ex = true) (h2 : un' = true → un = true) : ∀ (d : D) (v : Value), Rg ex un w lo hi d v → Rg ex' un' w lo hi d v
  | .i x, v, h => by unfold Rg at h ⊢; obtain ⟨y, e, h3⟩ := h; exact ⟨y, e, fun e => h3 (h1 e)⟩
  | .s b, v, h => by unfold Rg at h ⊢; obtain ⟨y, e, h3⟩ := h; exact ⟨y, e, fun e => h3 (h1 e)⟩
  | .sl n ds, v, h => by
    unfold Rg at h ⊢
    obtain ⟨A, c, e, ht, hr⟩ := h
    refine ⟨A, c, e, ht, fun hn => ?_⟩
    obtain ⟨b, off, e2, g1, g2, g3⟩ := hr hn
    exact ⟨b, off, e2, g1, g2, RgL.weak h1 h2 ds off g3⟩
theorem RgL.weak {ex' un' : Bool} {b : Nat} (h1 : ex' = true → ex = true) (h2 : un' = true → un = true) : ∀ (ds : List D) (off : Nat), RgL ex un w lo hi b off ds → RgL ex' un' w lo hi b off ds
  | [], off, h => by unfold RgL; trivial
  | d :: ds, off, h => by
    unfold RgL at h ⊢
    obtain ⟨⟨u, g3, gz, g4⟩, g5⟩ := h
    exact ⟨⟨u, g3, fun e => gz (h2 e), Rg.weak h1 h2 d u g4⟩, RgL.weak h1 h2 ds (off + 1) g5⟩
end
mutual
theorem Rd.rg : ∀ (d : D) (v : Value), Rd w lo hi d v → Rg true false w lo hi d v
  | .i x, v, h => by unfold Rd at h; unfold Rg; exact ⟨x, h, fun _ => rfl⟩
  | .s b, v, h => by unfold Rd at h; unfold Rg; exact ⟨b, h, fun _ => rfl⟩
  | .sl n ds, v, h => by
    unfold Rd at h
    unfold Rg
    obtain ⟨A, c, e, ht, hr⟩ := h
    refine ⟨A, c, e, ht, fun hn => ?_⟩
    obtain ⟨b, off, e2, h1, h2, h3⟩ := hr hn
    exact ⟨b, off, e2, h1, h2, RdL.rg ds off h3⟩
theorem RdL.rg {b : Nat} : ∀ (ds : List D) (off : Nat), RdL w lo hi b off ds → RgL true false w lo hi b off ds
  | [], off, h => by unfold RgL; trivial
  | d :: ds, off, h => by
    unfold RdL at h
    unfold RgL
    obtain ⟨⟨u, g3, g4⟩, g5⟩ := h
    exact ⟨⟨u, g3, (fun e => by cases e), Rd.rg d u g4⟩, RdL.rg ds (off + 1) g5⟩
end
theorem RgL.at_ {b : Nat} : ∀ (ds : List D) (off j : Nat), RgL ex un w lo hi b off ds → j < ds.length → ∃ u, w.cell? ⟨b, off + j, none⟩ = some u ∧ (un = true → w.frozen? ⟨b, off + j, none⟩ = false) ∧ Rg ex un w lo hi (ds.getD j (.i 0)) u
  | [], off, j, h, hj => absurd hj (by simp)
  | d :: ds, off, 0, h, hj => by
    unfold RgL at h
    obtain ⟨⟨u, h1, hz, h2⟩, _⟩ := h
    exact ⟨u, h1, hz, h2⟩
  | d :: ds, off, j + 1, h, hj => by
    unfold RgL at h
    obtain ⟨u, h1, hz, h2⟩ := RgL.at_ ds (off + 1) j h.2 (by simpa using hj)
    rw [show off + 1 + j = off + (j + 1) by omega] at h1 hz
    exact ⟨u, h1, hz, by simpa using h2⟩
theorem RgL.of_at {b : Nat} : ∀ (ds : List D) (off : Nat), (∀ j, j < ds.length → ∃ u, w.cell? ⟨b, off + j, none⟩ = some u ∧ (un = true → w.frozen? ⟨b, off + j, none⟩ = false) ∧ Rg ex un w lo hi (ds.getD j (.i 0)) u) → RgL ex un w lo hi b off ds
  | [], off, h => by unfold RgL; trivial
  | d :: ds, off, h => by
    unfold RgL
    refine ⟨by have := h 0 (by simp); simpa using this, RgL.of_at ds (off + 1) fun j hj => ?_⟩
    obtain ⟨u, h1, hz, h2⟩ := h (j + 1) (by simpa using hj)
    rw [show off + (j + 1) = off + 1 + j by omega] at h1 hz
    exact ⟨u, h1, hz, by simpa using h2⟩
end
section
variable {ex un : Bool} {w w' : World} {lo hi n : Nat} {A : Option Addr} {ds : List D}
theorem RgS.top (h : RgS ex un w lo hi A n ds) : hi ≤ w.heap.size := h.1
theorem RgS.fr {l h' : Nat} (h : RgS ex un w lo hi A n ds) (f : Fr l h' w w') (ho : h' ≤ lo ∨ hi ≤ l ∨ h' ≤ l) : RgS ex un w' lo hi A n ds :=
  ⟨Nat.le_trans h.1 f.size, fun hn => by obtain ⟨b, off, e, h1, h2, h3⟩ := h.2 hn; exact ⟨b, off, e, h1, h2, RgL.fr f ho h1 h2 h.1 ds off h3⟩⟩
theorem RgS.keeps (h : RgS ex un w lo hi A n ds) (k : Keeps w w') : RgS ex un w' lo hi A n ds := h.fr (Fr.of_keeps k 0 0) (by omega)
theorem RgS.widen {lo' hi' : Nat} (h : RgS ex un w lo hi A n ds) (h1 : lo' ≤ lo) (h2 : hi ≤ hi') (h3 : hi' ≤ w.heap.size) : RgS ex un w lo' hi' A n ds :=
  ⟨h3, fun hn => by obtain ⟨b, off, e, g1, g2, g3⟩ := h.2 hn; exact ⟨b, off, e, by omega, by omega, RgL.widen h1 h2 h3 ds off g3⟩⟩
theorem RgS.weak {ex' un' : Bool} (h : RgS ex un w lo hi A n ds) (h1 : ex' = true → ex = true) (h2 : un' = true → un = true) : RgS ex' un' w lo hi A n ds :=
  ⟨h.1, fun hn => by obtain ⟨b, off, e, g1, g2, g3⟩ := h.2 hn; exact ⟨b, off, e, g1, g2, RgL.weak h1 h2 ds off g3⟩⟩
/-- Row k of a slice of rows. -/
theorem RgS.row {α : Type} {f : α → List D} {sz k : Nat} (hf : ∀ a, (f a).length = sz) (z : α) {ts : List α} (h : RgS ex un w lo hi A n (ts.flatMap f)) (hl : ts.length = n) (hk : k < n) :
    ∃ b off, A = some ⟨b, off, none⟩ ∧ lo ≤ b ∧ b < hi ∧ ∀ j, j < sz → ∃ u, w.cell? ⟨b, off + (k * sz + j), none⟩ = some u ∧ (un = true → w.frozen? ⟨b, off + (k * sz + j), none⟩ = false) ∧ Rg ex un w lo hi ((f (ts.getD k z)).getD j (.i 0)) u := by
  obtain ⟨b, off, rfl, h1, h2, h3⟩ := h.2 (by omega)
  refine ⟨b, off, rfl, h1, h2, fun j hj => ?_⟩
  have hlt : k * sz + j < (ts.flatMap f).length := by
    rw [flat_len hf, hl]
    have : (k + 1) * sz ≤ n * sz := Nat.mul_le_mul_right _ hk
    rw [Nat.succ_mul] at this
    omega
  have := RgL.at_ _ off (k * sz + j) h3 hlt
  rwa [flat_at hf _ z ts k j (by omega) hj] at this
theorem RgS.ints {xs : List Int} (h : RgS true un w lo hi A n (xs.map D.i)) (hl : xs.length = n) (hn : n ≤ 67108864) : Ints w lo hi A n xs :=
  ⟨hl, hn, h.1, fun h0 => by
    obtain ⟨b, off, e, h1, h2, h3⟩ := h.2 h0
    refine ⟨b, off, e, h1, h2, fun j hj => ?_⟩
    obtain ⟨u, h4, _, h5⟩ := RgL.at_ _ off j h3 (by simpa [hl] using hj)
    have e : (xs.map D.i).getD j (.i 0) = .i (xs.getD j 0) := by simp [List.getD, hl, hj]
    rw [e] at h5
    rw [h4, h5.i_]⟩
theorem RgS.mine {xs : List Int} (h : RgS true true w lo hi A n (xs.map D.i)) (hl : xs.length = n) (hn : n ≤ 67108864) : Mine w lo hi A n xs :=
  ⟨h.ints hl hn, fun b off e j hj => by
    obtain ⟨b', off', e', h1, h2, h3⟩ := h.2 (by omega)
    rw [e] at e'
    injection e' with e'
    injection e' with e1 e2
    subst e1 e2
    obtain ⟨u, _, hz, _⟩ := RgL.at_ _ off j h3 (by simpa [hl] using hj)
    exact hz rfl⟩
theorem Ints.rgs {xs : List Int} (h : Ints w lo hi A n xs) : RgS true false w lo hi A n (xs.map D.i) :=
  ⟨h.top, fun h0 => by
    obtain ⟨b, off, e, h1, h2, h3⟩ := h.2.2.2 h0
    refine ⟨b, off, e, h1, h2, RgL.of_at _ off fun j hj => ?_⟩
    have hl := h.1
    have hj' : j < n := by simpa [hl] using hj
    have e : (xs.map D.i).getD j (.i 0) = .i (xs.getD j 0) := by simp [List.getD, hl, hj']
    exact ⟨_, h3 j hj', (fun e => by cases e), by rw [e]; exact Rg.of_i _⟩⟩
theorem Mine.rgs {xs : List Int} (h : Mine w lo hi A n xs) : RgS true true w lo hi A n (xs.map D.i) :=
  ⟨h.1.top, fun h0 => by
    obtain ⟨b, off, e, h1, h2, h3⟩ := h.1.2.2.2 h0
    refine ⟨b, off, e, h1, h2, RgL.of_at _ off fun j hj => ?_⟩
    have hl := h.1.1
    have hj' : j < n := by simpa [hl] using hj
    have e2 : (xs.map D.i).getD j (.i 0) = .i (xs.getD j 0) := by simp [List.getD, hl, hj']
    exact ⟨_, h3 j hj', fun _ => h.2 b off e j hj', by rw [e2]; exact Rg.of_i _⟩⟩
end

/-- Of the old cells only numbers may have turned, into numbers. -/
structure Sp (w w' : World) : Prop where
  size : w.heap.size ≤ w'.heap.size
  cell : ∀ p v, w.cell? p = some v → (∀ x, v ≠ .int .i64 x) → w'.cell? p = some v
  ints : ∀ p x, w.cell? p = some (.int .i64 x) → ∃ y, w'.cell? p = some (.int .i64 y)
  fz : ∀ p : Addr, p.block < w.heap.size → w'.frozen? p = w.frozen? p
theorem Sp.refl (w : World) : Sp w w := ⟨Nat.le_refl _, fun _ _ h _ => h, fun _ x h => ⟨x, h⟩, fun _ _ => rfl⟩
theorem Sp.trans {a b c : World} (h : Sp a b) (k : Sp b c) : Sp a c :=
  ⟨Nat.le_trans h.size k.size, fun p v e hx => k.cell p v (h.cell p v e hx) hx, fun p x e => by obtain ⟨y, e2⟩ := h.ints p x e; exact k.ints p y e2, fun p hp => (k.fz p (Nat.lt_of_lt_of_le hp h.size)).trans (h.fz p hp)⟩
theorem Sp.of_keeps {w w' : World} (k : Keeps w w') : Sp w w' :=
  ⟨k.size, fun p v e _ => cell_keeps e k, fun p x e => ⟨x, cell_keeps e k⟩, fun p hp => World.frozen?_of_block (k.block p.block hp)⟩
theorem Sp.set {w : World} {p : Addr} {x : Int} (h : w.cell? p = some (.int .i64 x)) (y : Int) : Sp w (w.setCell p (.int .i64 y)) := by
  refine ⟨by simp [World.setCell], fun q v e hv => ?_, fun q z e => ?_, fun q _ => World.frozen?_setCell _ _ _ _⟩
  · rw [World.cell?_setCell_other w _ _ _ (by rintro rfl; rw [h] at e; injection e with e; exact hv x e.symm)]; exact e
  · by_cases hq : q = p
    · subst hq; exact ⟨y, World.cell?_setCell_same _ _ _ h⟩
    · exact ⟨z, by rw [World.cell?_setCell_other w _ _ _ (fun e => hq e.symm)]; exact e⟩
section
variable {un : Bool} {w w' : World} {lo hi : Nat}
theorem Rg.len_ge {ex un : Bool} {w : World} {lo hi n : Nat} {ds : List D} {v : Value} (h : Rg ex un w lo hi (.sl n ds) v) : hi ≤ w.heap.size := by
  unfold Rg at h; obtain ⟨_, _, _, h, _⟩ := h; exact h
mutual
theorem Rg.sp (s : Sp w w') : ∀ (d : D) (v : Value), Rg false un w lo hi d v → Rg false un w' lo hi d v
  | .i x, v, h => by unfold Rg at h ⊢; exact h
  | .s b, v, h => by unfold Rg at h ⊢; exact h
  | .sl n ds, v, h => by
    unfold Rg at h ⊢
    obtain ⟨A, c, e, ht, hr⟩ := h
    refine ⟨A, c, e, Nat.le_trans ht s.size, fun hn => ?_⟩
    obtain ⟨b, off, e2, h1, h2, h3⟩ := hr hn
    exact ⟨b, off, e2, h1, h2, RgL.sp s (by omega) ds off h3⟩
theorem RgL.sp (s : Sp w w') {b : Nat} (hb : b < w.heap.size) : ∀ (ds : List D) (off : Nat), RgL false un w lo hi b off ds → RgL false un w' lo hi b off ds
  | [], off, h => by unfold RgL; trivial
  | .i x :: ds, off, h => by
    unfold RgL at h ⊢
    obtain ⟨⟨u, h3, hz, h4⟩, h5⟩ := h
    obtain ⟨y, rfl⟩ := h4.iS
    obtain ⟨y', h6⟩ := s.ints _ _ h3
    exact ⟨⟨_, h6, fun e => (s.fz _ hb).trans (hz e), by unfold Rg; exact ⟨y', rfl, (fun e => by cases e)⟩⟩, RgL.sp s hb ds (off + 1) h5⟩
  | .s x :: ds, off, h => by
    unfold RgL at h ⊢
    obtain ⟨⟨u, h3, hz, h4⟩, h5⟩ := h
    refine ⟨⟨u, s.cell _ _ h3 ?_, fun e => (s.fz _ hb).trans (hz e), Rg.sp s (.s x) u h4⟩, RgL.sp s hb ds (off + 1) h5⟩
    unfold Rg at h4
    obtain ⟨y, rfl, _⟩ := h4
    exact fun x e => by cases e
  | .sl n dd :: ds, off, h => by
    unfold RgL at h ⊢
    obtain ⟨⟨u, h3, hz, h4⟩, h5⟩ := h
    refine ⟨⟨u, s.cell _ _ h3 ?_, fun e => (s.fz _ hb).trans (hz e), Rg.sp s (.sl n dd) u h4⟩, RgL.sp s hb ds (off + 1) h5⟩
    obtain ⟨A, c, rfl, _⟩ := h4.sl
    exact fun x e => by cases e
end
theorem RgS.sp {A : Option Addr} {n : Nat} {ds : List D} (h : RgS false un w lo hi A n ds) (s : Sp w w') : RgS false un w' lo hi A n ds :=
  ⟨Nat.le_trans h.1 s.size, fun hn => by obtain ⟨b, off, e, h1, h2, h3⟩ := h.2 hn; exact ⟨b, off, e, h1, h2, RgL.sp s (by have := h.1; omega) ds off h3⟩⟩
/-- A cell of a slice of numbers of which the shape alone is known. -/
theorem RgS.iat {A : Option Addr} {n k : Nat} {xs : List Int} (h : RgS false true w lo hi A n (xs.map D.i)) (hl : xs.length = n) (hk : k < n) :
    ∃ b off x, A = some ⟨b, off, none⟩ ∧ lo ≤ b ∧ b < hi ∧ w.cell? ⟨b, off + k, none⟩ = some (.int .i64 x) ∧ w.frozen? ⟨b, off + k, none⟩ = false := by
  obtain ⟨b, off, e, h1, h2, h3⟩ := h.2 (by omega)
  obtain ⟨u, h4, hz, h5⟩ := RgL.at_ _ off k h3 (by simpa [hl] using hk)
  have e2 : (xs.map D.i).getD k (.i 0) = .i (xs.getD k 0) := by simp [List.getD, hl, hk]
  rw [e2] at h5
  obtain ⟨y, rfl⟩ := h5.iS
  exact ⟨b, off, y, e, h1, h2, h4, hz rfl⟩
end
/-- The first k rows are copied into block g. -/
def FillD {α : Type} (f : α → List D) (sz : Nat) (z : α) (w : World) (g n : Nat) (T : TypeId) (l : List α) (k : Nat) : Prop :=
  ∃ cs : List Value, OwnC w g T cs ∧ cs.length = n * sz ∧ ∀ j i, j < k → i < sz → Rg true true w (g + 1) w.heap.size ((f (l.getD j z)).getD i (.i 0)) (cs.getD (j * sz + i) undef)
section
variable {α : Type} {f : α → List D} {sz : Nat} {z : α} {w w' : World} {g n k : Nat} {T : TypeId} {l : List α}
theorem FillD.lt (h : FillD f sz z w g n T l k) : g < w.heap.size := by obtain ⟨cs, ho, _⟩ := h; exact ho.lt
theorem FillD.rgs (hf : ∀ a, (f a).length = sz) (h : FillD f sz z w g n T l n) (hl : l.length = n) : RgS true true w g w.heap.size (some ⟨g, 0, none⟩) n (l.flatMap f) := by
  obtain ⟨cs, ho, hc, h1⟩ := h
  refine ⟨Nat.le_refl _, fun h0 => ⟨g, 0, rfl, Nat.le_refl _, ho.lt, RgL.of_at _ 0 fun j hj => ?_⟩⟩
  rw [flat_len hf, hl] at hj
  have hs : 0 < sz := by
    rcases Nat.eq_zero_or_pos sz with e | e
    · subst e; simp at hj
    · exact e
  have hq : j / sz < n := Nat.div_lt_of_lt_mul (by rw [Nat.mul_comm]; exact hj)
  have hm := Nat.mod_lt j hs
  have e : j / sz * sz + j % sz = j := by rw [Nat.mul_comm]; exact Nat.div_add_mod j sz
  have h2 := h1 (j / sz) (j % sz) hq hm
  have h3 := flat_at hf (.i 0) z l (j / sz) (j % sz) (by omega) hm
  rw [e] at h2 h3
  refine ⟨_, by rw [Nat.zero_add]; exact ho.cell j (by omega), fun _ => ho.frozen _, ?_⟩
  rw [h3]
  exact Rg.widen (by omega) (Nat.le_refl _) (Nat.le_refl _) _ _ h2
theorem FillD.new (cs : List Value) (ho : OwnC w g T cs) (hc : cs.length = n * sz) : FillD f sz z w g n T l 0 := ⟨cs, ho, hc, fun j i h => absurd h (by omega)⟩
theorem FillD.keeps (h : FillD f sz z w g n T l k) (kk : Keeps w w') : FillD f sz z w' g n T l k := by
  obtain ⟨cs, ho, hc, h1⟩ := h
  exact ⟨cs, ho.keeps kk, hc, fun j i hj hi => Rg.widen (Nat.le_refl _) kk.size (Nat.le_refl _) _ _ (Rg.fr (Fr.of_keeps kk 0 0) (by omega) _ _ (h1 j i hj hi))⟩
/-- A row is written: what stands in block g afterwards is cs'. -/
theorem FillD.put {w1 : World} {cs cs' : List Value} (h1 : ∀ j i, j < k → i < sz → Rg true true w (g + 1) w.heap.size ((f (l.getD j z)).getD i (.i 0)) (cs.getD (j * sz + i) undef))
    (fr : Fr g (g + 1) w w1) (hs : w1.heap.size = w.heap.size) (ho : OwnC w1 g T cs') (hc : cs'.length = n * sz) (old : ∀ j, j < k * sz → cs'.getD j undef = cs.getD j undef)
    (new : ∀ i, i < sz → Rg true true w (g + 1) w.heap.size ((f (l.getD k z)).getD i (.i 0)) (cs'.getD (k * sz + i) undef)) : FillD f sz z w1 g n T l (k + 1) := by
  refine ⟨cs', ho, hc, fun j i hj hi => ?_⟩
  rw [hs]
  refine Rg.fr fr (by omega) _ _ ?_
  by_cases e : j = k
  · subst e; exact new i hi
  · have : (j + 1) * sz ≤ k * sz := Nat.mul_le_mul_right _ (by omega)
    rw [Nat.succ_mul] at this
    rw [old (j * sz + i) (by omega)]
    exact h1 j i (by omega) hi
end
end Go.Proofs.YtlkjhkkfdmjfcaaGreatDoor
