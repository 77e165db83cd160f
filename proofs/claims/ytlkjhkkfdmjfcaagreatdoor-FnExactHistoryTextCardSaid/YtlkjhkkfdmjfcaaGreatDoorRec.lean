/- Slices of records (two numbers and a slice of ints): read, of one's own, as an argument. No walk. -/
import Derived.Test.YtlkjhkkfdmjfcaaGreatDoorOpV
import Derived.Test.YtlkjhkkfdmjfcaaGreatDoorKA
namespace Go.Proofs.YtlkjhkkfdmjfcaaGreatDoor
open Go.ChangeShapes Go.WideShapes Go.ChangeAt Go.RowKit
set_option linter.unusedVariables false
set_option linter.unusedSimpArgs false

abbrev RR := Int × Int × List Int
def r0 : RR := (0, 0, [])
/-- Records that can be read. -/
def Recs (w : World) (lo hi : Nat) (A : Option Addr) (n : Nat) (l : List RR) : Prop :=
  l.length = n ∧ n ≤ 67108864 ∧ hi ≤ w.heap.size ∧ (0 < n → ∃ b off, A = some ⟨b, off, none⟩ ∧ lo ≤ b ∧ b < hi ∧
    ∀ j, j < n → ∃ A' m c, w.cell? ⟨b, off + j * 3, none⟩ = some (.int .i64 (l.getD j r0).1) ∧ w.cell? ⟨b, off + j * 3 + 1, none⟩ = some (.int .i64 (l.getD j r0).2.1) ∧ w.cell? ⟨b, off + j * 3 + 2, none⟩ = some (.slice A' m c) ∧ Ints w lo hi A' m (l.getD j r0).2.2)
/-- Records of one's own: block b holds the rows, the values of row j lie from L j to U j. -/
def RecC (w : World) (lo hi b off n : Nat) (L U : Nat → Nat) (l : List RR) : Prop :=
  l.length = n ∧ n ≤ 67108864 ∧ hi ≤ w.heap.size ∧ lo ≤ b ∧ b < hi ∧ (∀ j, j < n → lo ≤ L j ∧ U j ≤ hi ∧ (b < L j ∨ U j ≤ b)) ∧ (∀ i j, i < j → j < n → U i ≤ L j) ∧
  (∀ j, j < n * 3 → w.frozen? ⟨b, off + j, none⟩ = false) ∧
  ∀ j, j < n → ∃ A' m c, w.cell? ⟨b, off + j * 3, none⟩ = some (.int .i64 (l.getD j r0).1) ∧ w.cell? ⟨b, off + j * 3 + 1, none⟩ = some (.int .i64 (l.getD j r0).2.1) ∧ w.cell? ⟨b, off + j * 3 + 2, none⟩ = some (.slice A' m c) ∧ Mine w (L j) (U j) A' m (l.getD j r0).2.2
def RecM (w : World) (lo hi : Nat) (A : Option Addr) (n : Nat) (l : List RR) : Prop :=
  Recs w lo hi A n l ∧ (0 < n → ∃ b off L U, A = some ⟨b, off, none⟩ ∧ RecC w lo hi b off n L U l)
section
variable {w w' : World} {lo hi n : Nat} {A : Option Addr} {l : List RR}
theorem Recs.len (h : Recs w lo hi A n l) : l.length = n := h.1
theorem Recs.le (h : Recs w lo hi A n l) : n ≤ 67108864 := h.2.1
theorem Recs.top (h : Recs w lo hi A n l) : hi ≤ w.heap.size := h.2.2.1
theorem Recs.at_ {k : Nat} (h : Recs w lo hi A n l) (hk : k < n) :
    ∃ b off x y A' m c zs, A = some ⟨b, off, none⟩ ∧ lo ≤ b ∧ b < hi ∧ w.cell? ⟨b, off + k * 3, none⟩ = some (.int .i64 x) ∧ w.cell? ⟨b, off + k * 3 + 1, none⟩ = some (.int .i64 y) ∧ w.cell? ⟨b, off + k * 3 + 2, none⟩ = some (.slice A' m c) ∧ Ints w lo hi A' m zs ∧ Hid ((x, y, zs) = l.getD k r0) := by
  obtain ⟨b, off, e, hl, hb, hc⟩ := h.2.2.2 (by omega)
  obtain ⟨A', m, c, h1, h2, h3, h4⟩ := hc k hk
  exact ⟨b, off, _, _, A', m, c, _, e, hl, hb, h1, h2, h3, h4, hid rfl⟩
theorem Recs.fr {a b : Nat} (h : Recs w lo hi A n l) (hf : Fr a b w w') (ho : b ≤ lo ∨ hi ≤ a ∨ b ≤ a) : Recs w' lo hi A n l :=
  ⟨h.1, h.2.1, Nat.le_trans h.top hf.size, fun hn => by
    obtain ⟨g, off, e, hl, hb, hc⟩ := h.2.2.2 hn
    have := h.top
    refine ⟨g, off, e, hl, hb, fun j hj => ?_⟩
    obtain ⟨A', m, c, h1, h2, h3, h4⟩ := hc j hj
    have q : ∀ i, w'.cell? ⟨g, i, none⟩ = w.cell? ⟨g, i, none⟩ := fun i => hf.cell (p := ⟨g, i, none⟩) (by show g < _; omega) (by show g < _ ∨ _ ≤ g; omega)
    exact ⟨A', m, c, (q _).trans h1, (q _).trans h2, (q _).trans h3, h4.fr hf ho⟩⟩
theorem Recs.keeps (h : Recs w lo hi A n l) (hb : Keeps w w') : Recs w' lo hi A n l := h.fr (Fr.of_keeps hb 0 0) (by omega)
theorem Recs.widen {lo' hi' : Nat} (h : Recs w lo hi A n l) (h1 : lo' ≤ lo) (h2 : hi ≤ hi') (h3 : hi' ≤ w.heap.size) : Recs w lo' hi' A n l :=
  ⟨h.1, h.2.1, h3, fun hn => by
    obtain ⟨g, off, e, hl, hb, hc⟩ := h.2.2.2 hn
    refine ⟨g, off, e, by omega, by omega, fun j hj => ?_⟩
    obtain ⟨A', m, c, q1, q2, q3, q4⟩ := hc j hj
    exact ⟨A', m, c, q1, q2, q3, q4.widen h1 h2 h3⟩⟩
theorem Recs.drew (h : Recs w lo hi A n l) : Recs w.drew lo hi A n l := h.keeps (keeps_d0 w)
theorem Recs.nil_ (w : World) (A : Option Addr) (lo : Nat) : Recs w lo w.heap.size A 0 [] := ⟨rfl, by omega, Nat.le_refl _, fun h => absurd h (by omega)⟩
theorem RecC.fr {b off : Nat} {L U : Nat → Nat} {a h' : Nat} (h : RecC w lo hi b off n L U l) (hf : Fr a h' w w') (ho : h' ≤ lo ∨ hi ≤ a ∨ h' ≤ a) : RecC w' lo hi b off n L U l := by
  obtain ⟨h1, h2, h3, h4, h5, h6, h7, hz, h8⟩ := h
  have q : ∀ i, w'.cell? ⟨b, i, none⟩ = w.cell? ⟨b, i, none⟩ := fun i => hf.cell (p := ⟨b, i, none⟩) (by show b < _; omega) (by show b < _ ∨ _ ≤ b; omega)
  refine ⟨h1, h2, Nat.le_trans h3 hf.size, h4, h5, h6, h7, fun j hj => (hf.frozen (p := ⟨b, off + j, none⟩) (by show b < _; omega) (by show b < _ ∨ _ ≤ b; omega)).trans (hz j hj), fun j hj => ?_⟩
  obtain ⟨A', m, c, e1, e2, e3, e4⟩ := h8 j hj
  have := h6 j hj
  exact ⟨A', m, c, (q _).trans e1, (q _).trans e2, (q _).trans e3, e4.fr hf (by omega)⟩
theorem RecC.recs {b off : Nat} {L U : Nat → Nat} (h : RecC w lo hi b off n L U l) : Recs w lo hi (some ⟨b, off, none⟩) n l := by
  obtain ⟨h1, h2, h3, h4, h5, h6, h7, hz, h8⟩ := h
  refine ⟨h1, h2, h3, fun _ => ⟨b, off, rfl, h4, h5, fun j hj => ?_⟩⟩
  obtain ⟨A', m, c, e1, e2, e3, e4⟩ := h8 j hj
  have := h6 j hj
  exact ⟨A', m, c, e1, e2, e3, e4.1.widen (by omega) (by omega) h3⟩
theorem RecC.recM {b off : Nat} {L U : Nat → Nat} (h : RecC w lo hi b off n L U l) : RecM w lo hi (some ⟨b, off, none⟩) n l := ⟨h.recs, fun _ => ⟨b, off, L, U, rfl, h⟩⟩
theorem RecM.recs (h : RecM w lo hi A n l) : Recs w lo hi A n l := h.1
theorem RecM.fr {a h' : Nat} (h : RecM w lo hi A n l) (hf : Fr a h' w w') (ho : h' ≤ lo ∨ hi ≤ a ∨ h' ≤ a) : RecM w' lo hi A n l :=
  ⟨h.1.fr hf ho, fun hn => by obtain ⟨b, off, L, U, e, hc⟩ := h.2 hn; exact ⟨b, off, L, U, e, hc.fr hf ho⟩⟩
theorem RecM.keeps (h : RecM w lo hi A n l) (hb : Keeps w w') : RecM w' lo hi A n l := h.fr (Fr.of_keeps hb 0 0) (by omega)
theorem RecM.widen {lo' hi' : Nat} (h : RecM w lo hi A n l) (h1 : lo' ≤ lo) (h2 : hi ≤ hi') (h3 : hi' ≤ w.heap.size) : RecM w lo' hi' A n l :=
  ⟨h.1.widen h1 h2 h3, fun hn => by
    obtain ⟨b, off, L, U, e, g1, g2, g3, g4, g5, g6, g7, g8⟩ := h.2 hn
    exact ⟨b, off, L, U, e, g1, g2, h3, by omega, by omega, fun j hj => by have := g6 j hj; omega, g7, g8⟩⟩
/-- The numbers of row k are written. -/
theorem RecC.set_ {b off k : Nat} {L U : Nat → Nat} (h : RecC w lo hi b off n L U l) (hk : k < n) (x y : Int) :
    RecC ((w.setCell ⟨b, off + k * 3, none⟩ (.int .i64 x)).setCell ⟨b, off + k * 3 + 1, none⟩ (.int .i64 y)) lo hi b off n L U (l.set k (x, y, (l.getD k r0).2.2)) ∧
      Fr lo hi w ((w.setCell ⟨b, off + k * 3, none⟩ (.int .i64 x)).setCell ⟨b, off + k * 3 + 1, none⟩ (.int .i64 y)) := by
  obtain ⟨h1, h2, h3, h4, h5, h6, h7, hz, h8⟩ := h
  have f1 : Fr b (b + 1) w ((w.setCell ⟨b, off + k * 3, none⟩ (.int .i64 x)).setCell ⟨b, off + k * 3 + 1, none⟩ (.int .i64 y)) :=
    ((Fr.refl b (b + 1) w).setCell (p := ⟨b, off + k * 3, none⟩) (Nat.le_refl _) (Nat.lt_succ_self _) _).setCell (p := ⟨b, off + k * 3 + 1, none⟩) (Nat.le_refl _) (Nat.lt_succ_self _) _
  have f2 : Fr lo hi w ((w.setCell ⟨b, off + k * 3, none⟩ (.int .i64 x)).setCell ⟨b, off + k * 3 + 1, none⟩ (.int .i64 y)) :=
    ((Fr.refl lo hi w).setCell (p := ⟨b, off + k * 3, none⟩) h4 h5 _).setCell (p := ⟨b, off + k * 3 + 1, none⟩) h4 h5 _
  have q : ∀ i, i ≠ off + k * 3 → i ≠ off + k * 3 + 1 → ((w.setCell ⟨b, off + k * 3, none⟩ (.int .i64 x)).setCell ⟨b, off + k * 3 + 1, none⟩ (.int .i64 y)).cell? ⟨b, i, none⟩ = w.cell? ⟨b, i, none⟩ := fun i i1 i2 => by
    rw [World.cell?_setCell_other _ _ _ _ (by intro e; injection e with _ e; omega), World.cell?_setCell_other _ _ _ _ (by intro e; injection e with _ e; omega)]
  obtain ⟨Ak, mk, ck, c1, c2, c3, c4⟩ := h8 k hk
  refine ⟨⟨by simpa using h1, h2, by simpa [World.setCell] using h3, h4, h5, h6, h7, fun j hj => ?_, fun j hj => ?_⟩, f2⟩
  · rw [World.frozen?_setCell, World.frozen?_setCell]; exact hz j hj
  · have hb := h6 j hj
    by_cases hjk : j = k
    · subst hjk
      have e : (l.set j (x, y, (l.getD j r0).2.2)).getD j r0 = (x, y, (l.getD j r0).2.2) := by simp [List.getD, h1, hj]
      rw [e]
      refine ⟨Ak, mk, ck, ?_, ?_, ?_, c4.fr f1 (by omega)⟩
      · rw [World.cell?_setCell_other _ _ _ _ (by intro e; injection e with _ e; omega)]
        exact World.cell?_setCell_same _ _ _ c1
      · exact World.cell?_setCell_same _ _ _ ((World.cell?_setCell_other _ _ _ _ (by intro e; injection e with _ e; omega)).trans c2)
      · rw [q _ (by omega) (by omega)]; exact c3
    · have e : (l.set k (x, y, (l.getD k r0).2.2)).getD j r0 = l.getD j r0 := by simp [List.getD, List.getElem?_set_ne (Ne.symm hjk)]
      rw [e]
      obtain ⟨A', m, c, e1, e2, e3, e4⟩ := h8 j hj
      exact ⟨A', m, c, (q _ (by omega) (by omega)).trans e1, (q _ (by omega) (by omega)).trans e2, (q _ (by omega) (by omega)).trans e3, e4.fr f1 (by omega)⟩
/-- The values of row k are written. -/
theorem RecC.upd {b off k m c : Nat} {L U : Nat → Nat} {A' : Option Addr} {zs : List Int} {w1 : World} (h : RecC w lo hi b off n L U l) (hk : k < n) (hc : w.cell? ⟨b, off + k * 3 + 2, none⟩ = some (.slice A' m c)) (f : Fr (L k) (U k) w w1) (hm : Mine w1 (L k) (U k) A' m zs) :
    RecC w1 lo hi b off n L U (l.set k ((l.getD k r0).1, (l.getD k r0).2.1, zs)) ∧ Fr lo hi w w1 := by
  obtain ⟨h1, h2, h3, h4, h5, h6, h7, hz, h8⟩ := h
  have hb := h6 k hk
  have q : ∀ i, w1.cell? ⟨b, i, none⟩ = w.cell? ⟨b, i, none⟩ := fun i => f.cell (p := ⟨b, i, none⟩) (by show b < _; omega) (by show b < _ ∨ _ ≤ b; omega)
  refine ⟨⟨by simpa using h1, h2, Nat.le_trans h3 f.size, h4, h5, h6, h7, fun j hj => (f.frozen (p := ⟨b, off + j, none⟩) (by show b < _; omega) (by show b < _ ∨ _ ≤ b; omega)).trans (hz j hj), fun j hj => ?_⟩, f.widen (by omega) (by omega)⟩
  obtain ⟨A1, m1, d1, e1, e2, e3, e4⟩ := h8 j hj
  by_cases hjk : j = k
  · subst hjk
    have e : (l.set j ((l.getD j r0).1, (l.getD j r0).2.1, zs)).getD j r0 = ((l.getD j r0).1, (l.getD j r0).2.1, zs) := by simp [List.getD, h1, hj]
    rw [e]
    exact ⟨A', m, c, (q _).trans e1, (q _).trans e2, (q _).trans hc, hm⟩
  · have e : (l.set k ((l.getD k r0).1, (l.getD k r0).2.1, zs)).getD j r0 = l.getD j r0 := by simp [List.getD, List.getElem?_set_ne (Ne.symm hjk)]
    rw [e]
    refine ⟨A1, m1, d1, (q _).trans e1, (q _).trans e2, (q _).trans e3, e4.fr f ?_⟩
    rcases Nat.lt_or_gt_of_ne hjk with h | h
    · have := h7 j k h hk; omega
    · have := h7 k j h hj; omega
end
/-- The values of the first k records. -/
def rsz (l : List RR) : Nat → Nat
  | 0 => 0
  | k + 1 => rsz l k + (l.getD k r0).2.2.length
theorem rsz_succ (l : List RR) (k : Nat) : rsz l (k + 1) = rsz l k + (l.getD k r0).2.2.length := rfl
theorem rsz_mono (l : List RR) {i j : Nat} (h : i ≤ j) : rsz l i ≤ rsz l j := by
  induction j with
  | zero => obtain rfl : i = 0 := by omega
            exact Nat.le_refl _
  | succ j ih =>
    by_cases e : i = j + 1
    · subst e; exact Nat.le_refl _
    · have := ih (by omega); rw [rsz_succ]; omega
/-- What is left of a size. -/
def szRs (left : Int) (n : Nat) (l : List RR) : Int := if (n : Int) + rsz l n ≤ left then left - n - rsz l n else -1
theorem szRs_ok {left : Int} {n : Nat} {l : List RR} (h : (n : Int) + rsz l n ≤ left) : szRs left n l = left - ((n : Int) + rsz l n) := by
  unfold szRs; rw [if_pos h]; omega
theorem szRs_no {left : Int} {n : Nat} {l : List RR} (h : ¬ (n : Int) + rsz l n ≤ left) : szRs left n l = -1 := by
  unfold szRs; rw [if_neg h]
/-- Records that came in. -/
def RecsArg (w : World) (A : Option Addr) (n : Nat) (l : List RR) : Prop :=
  n ≤ maxLen ∧ l.length = n ∧ (0 < n → ∃ b off, A = some ⟨b, off, none⟩ ∧ b < w.heap.size ∧ ∀ j, j < n → ∃ A' c, w.cell? ⟨b, off + j * 3, none⟩ = some (.int .i64 (l.getD j r0).1) ∧ w.cell? ⟨b, off + j * 3 + 1, none⟩ = some (.int .i64 (l.getD j r0).2.1) ∧ w.cell? ⟨b, off + j * 3 + 2, none⟩ = some (.slice A' (l.getD j r0).2.2.length c) ∧ IntsArg w A' (l.getD j r0).2.2.length (l.getD j r0).2.2) ∧
  ∀ j, (-9223372036854775808 ≤ (l.getD j r0).1 ∧ (l.getD j r0).1 ≤ 9223372036854775807) ∧ -9223372036854775808 ≤ (l.getD j r0).2.1 ∧ (l.getD j r0).2.1 ≤ 9223372036854775807
theorem RecsArg.recs {w : World} {A : Option Addr} {n : Nat} {l : List RR} (h : RecsArg w A n l) (hn : n + rsz l n ≤ 67108864) : Recs w 0 w.heap.size A n l := by
  obtain ⟨h1, h2, h3, _⟩ := h
  refine ⟨h2, by omega, Nat.le_refl _, fun h0 => ?_⟩
  obtain ⟨b, off, e, hb, hc⟩ := h3 h0
  refine ⟨b, off, e, Nat.zero_le _, hb, fun j hj => ?_⟩
  obtain ⟨A', c, e1, e2, e3, e4⟩ := hc j hj
  have := rsz_mono l (i := j + 1) (j := n) (by omega)
  rw [rsz_succ] at this
  exact ⟨A', _, c, e1, e2, e3, e4.2.1 (by omega)⟩
theorem RecsArg.at_ {w : World} {A : Option Addr} {n k : Nat} {l : List RR} (h : RecsArg w A n l) (hk : k < n) :
    ∃ b off A' c, A = some ⟨b, off, none⟩ ∧ b < w.heap.size ∧ w.cell? ⟨b, off + k * 3, none⟩ = some (.int .i64 (l.getD k r0).1) ∧ w.cell? ⟨b, off + k * 3 + 1, none⟩ = some (.int .i64 (l.getD k r0).2.1) ∧ w.cell? ⟨b, off + k * 3 + 2, none⟩ = some (.slice A' (l.getD k r0).2.2.length c) ∧ (l.getD k r0).2.2.length ≤ maxLen := by
  obtain ⟨b, off, e, hb, hc⟩ := h.2.2.1 (by omega)
  obtain ⟨A', c, e1, e2, e3, e4⟩ := hc k hk
  exact ⟨b, off, A', c, e, hb, e1, e2, e3, e4.1⟩
theorem RecsArg.keeps {w w' : World} {A : Option Addr} {n : Nat} {l : List RR} (h : RecsArg w A n l) (k : Keeps w w') : RecsArg w' A n l :=
  ⟨h.1, h.2.1, fun h0 => by
    obtain ⟨b, off, e, hb, hc⟩ := h.2.2.1 h0
    refine ⟨b, off, e, Nat.lt_of_lt_of_le hb k.size, fun j hj => ?_⟩
    obtain ⟨A', c, e1, e2, e3, e4⟩ := hc j hj
    exact ⟨A', c, cell_keeps e1 k, cell_keeps e2 k, cell_keeps e3 k, e4.1, fun hn => ((e4.2.1 hn).keeps k).widen (Nat.le_refl _) k.size (Nat.le_refl _), e4.2.2⟩, h.2.2.2⟩
def dr3 (r : RR) : List D := [.i r.1, .i r.2.1, .sl r.2.2.length (r.2.2.map D.i)]
theorem rows_recs : ∀ (rows : List (List D)), (∀ r, r ∈ rows → HkL [.i, .i, .sl [.i]] r) → ∃ l : List RR, rows.flatten = l.flatMap dr3 ∧ l.length = rows.length ∧ (∀ j, (l.getD j r0).2.2.length ≤ maxLen) ∧ (∀ j i, -9223372036854775808 ≤ (l.getD j r0).2.2.getD i 0 ∧ (l.getD j r0).2.2.getD i 0 ≤ 9223372036854775807) ∧ ∀ j, (-9223372036854775808 ≤ (l.getD j r0).1 ∧ (l.getD j r0).1 ≤ 9223372036854775807) ∧ -9223372036854775808 ≤ (l.getD j r0).2.1 ∧ (l.getD j r0).2.1 ≤ 9223372036854775807
  | [], _ => ⟨[], rfl, rfl, fun j => by simp [r0], fun j i => by simp [r0], fun j => by simp [r0]⟩
  | r :: rows, h => by
    obtain ⟨l, h1, h2, h3, h4, h5⟩ := rows_recs rows (fun r hr => h r (by simp [hr]))
    obtain ⟨d, ds, rfl, g1, g2⟩ := (h r (by simp)).inv
    obtain ⟨d', ds', rfl, g3, g4⟩ := g2.inv
    obtain ⟨d'', ds'', rfl, g5, g6⟩ := g4.inv
    obtain rfl := g6.inv0
    obtain ⟨x, rfl, hx⟩ := g1.inv_i
    obtain ⟨y, rfl, hy⟩ := g3.inv_i
    obtain ⟨m, rw', rfl, q1, q2, q3⟩ := g5.inv_sl
    obtain ⟨zs, e1, e2, e3⟩ := rows_ints rw' q3
    have em : zs.length = m := by omega
    subst em
    refine ⟨(x, y, zs) :: l, by simp [h1, dr3, e1], by simp [h2], fun j => ?_, fun j i => ?_, fun j => ?_⟩
    · cases j with
      | zero => simpa using q1
      | succ j => simpa using h3 j
    · cases j with
      | zero => simpa using e3 i
      | succ j => simpa using h4 j i
    · cases j with
      | zero => simpa using ⟨hx, hy⟩
      | succ j => simpa using h5 j
theorem RdL.recs {w : World} {lo hi b : Nat} : ∀ (l : List RR) (off : Nat), RdL w lo hi b off (l.flatMap dr3) → ∀ j, j < l.length → ∃ v, w.cell? ⟨b, off + j * 3, none⟩ = some (.int .i64 (l.getD j r0).1) ∧ w.cell? ⟨b, off + j * 3 + 1, none⟩ = some (.int .i64 (l.getD j r0).2.1) ∧ w.cell? ⟨b, off + j * 3 + 2, none⟩ = some v ∧ Rd w lo hi (.sl (l.getD j r0).2.2.length ((l.getD j r0).2.2.map D.i)) v
  | [], _, _, j, hj => by simp at hj
  | r :: l, off, h, j, hj => by
    have h' : RdL w lo hi b off (.i r.1 :: .i r.2.1 :: .sl r.2.2.length (r.2.2.map D.i) :: l.flatMap dr3) := h
    rw [RdL, RdL, RdL] at h'
    obtain ⟨⟨u, hu, e1⟩, ⟨u', hu', e2⟩, ⟨v, hv, e3⟩, hr⟩ := h'
    rw [Rd] at e1 e2
    subst e1; subst e2
    match j with
    | 0 => exact ⟨v, hu, hu', hv, e3⟩
    | j + 1 =>
      obtain ⟨v, a1, a2, a3, a4⟩ := RdL.recs l (off + 1 + 1 + 1) hr j (by simp at hj; omega)
      rw [show off + 1 + 1 + 1 + j * 3 = off + (j + 1) * 3 by omega] at a1 a2 a3
      exact ⟨v, a1, a2, a3, a4⟩
/-- A slice of records that came in. -/
theorem Hk.recs {d : D} {w : World} {v : Value} (h : Hk (.sl [.i, .i, .sl [.i]]) d) (hr : Rd w 0 w.heap.size d v) : ∃ A n c l, v = .slice A n c ∧ RecsArg w A n l := by
  obtain ⟨n, rows, rfl, h1, h2, h3⟩ := h.inv_sl
  obtain ⟨l, e1, e2, e3, e4, e5⟩ := rows_recs rows h3
  rw [e1] at hr
  unfold Rd at hr
  obtain ⟨A, c, rfl, ht, hb⟩ := hr
  refine ⟨A, n, c, l, rfl, h1, by omega, fun h0 => ?_, e5⟩
  obtain ⟨b, off, rfl, hl, hh, hc⟩ := hb h0
  refine ⟨b, off, rfl, hh, fun j hj => ?_⟩
  obtain ⟨v, a1, a2, a3, a4⟩ := RdL.recs l off hc j (by omega)
  have a5 := a4
  unfold Rd at a5
  obtain ⟨A', c', rfl, _, _⟩ := a5
  refine ⟨A', c', a1, a2, a3, e3 j, fun hn => ?_, e4 j⟩
  obtain ⟨A2, c2, e, hi⟩ := Rd.ints a4 rfl hn
  injection e with e6 e7 e8
  subst e6; exact hi
section
variable {H : Type} {enc : TypeId × Value → H} {w : World} {held : Bool}
end
/-- The first k records are copied into block g. -/
def FillR (w : World) (g n : Nat) (l : List RR) (k : Nat) : Prop :=
  ∃ (cs : List Value) (L U : Nat → Nat), OwnC w g 160 cs ∧ cs.length = n * 3 ∧ (∀ j, j < k → g < L j ∧ U j ≤ w.heap.size) ∧ (∀ i j, i < j → j < k → U i ≤ L j) ∧
    ∀ j, j < k → ∃ A' m, cs.getD (j * 3) undef = .int .i64 (l.getD j r0).1 ∧ cs.getD (j * 3 + 1) undef = .int .i64 (l.getD j r0).2.1 ∧ cs.getD (j * 3 + 2) undef = .slice A' m m ∧ Mine w (L j) (U j) A' m (l.getD j r0).2.2
theorem FillR.lt {w : World} {g n k : Nat} {l : List RR} (h : FillR w g n l k) : g < w.heap.size := by
  obtain ⟨cs, L, U, ho, _⟩ := h; exact ho.lt
theorem getD_set_other {α : Type} {l : List α} {i j : Nat} {d a : α} (h : i ≠ j) : (l.set i a).getD j d = l.getD j d := by simp [List.getD, List.getElem?_set_ne h]
theorem getD_set_same {α : Type} {l : List α} {i : Nat} {d a : α} (h : i < l.length) : (l.set i a).getD i d = a := by simp [List.getD, h]
theorem FillR.step {w w1 : World} {g n k m : Nat} {x y : Int} {zs : List Int} {B : Option Addr} {l : List RR} (h : FillR w g n l k) (hk : k < n) (k1 : Keeps w w1) (e : (x, y, zs) = l.getD k r0) (mz : Mine w1 w.heap.size w1.heap.size B m zs) :
    FillR (((w1.setCell ⟨g, k * 3, none⟩ (.int .i64 x)).setCell ⟨g, k * 3 + 1, none⟩ (.int .i64 y)).setCell ⟨g, k * 3 + 2, none⟩ (.slice B m m)) g n l (k + 1) := by
  obtain ⟨cs, L, U, ho, hl, h1, h2, h3⟩ := h
  have hg := ho.lt
  have ho1 := (((ho.keeps k1).set_ (k * 3) (.int .i64 x)).set_ (k * 3 + 1) (.int .i64 y)).set_ (k * 3 + 2) (.slice B m m)
  have fr1 : Fr g (g + 1) w1 (((w1.setCell ⟨g, k * 3, none⟩ (.int .i64 x)).setCell ⟨g, k * 3 + 1, none⟩ (.int .i64 y)).setCell ⟨g, k * 3 + 2, none⟩ (.slice B m m)) :=
    (((Fr.refl g (g + 1) w1).setCell (p := ⟨g, k * 3, none⟩) (Nat.le_refl _) (Nat.lt_succ_self _) _).setCell (p := ⟨g, k * 3 + 1, none⟩) (Nat.le_refl _) (Nat.lt_succ_self _) _).setCell (p := ⟨g, k * 3 + 2, none⟩) (Nat.le_refl _) (Nat.lt_succ_self _) _
  have hs := k1.size
  have es : (((w1.setCell ⟨g, k * 3, none⟩ (.int .i64 x)).setCell ⟨g, k * 3 + 1, none⟩ (.int .i64 y)).setCell ⟨g, k * 3 + 2, none⟩ (.slice B m m)).heap.size = w1.heap.size := by simp [World.setCell]
  refine ⟨_, fun j => if j = k then w.heap.size else L j, fun j => if j = k then w1.heap.size else U j, ho1, by simpa using hl, fun j hj => ?_, fun i j hij hj => ?_, fun j hj => ?_⟩
  · dsimp only
    rw [es]
    split
    · exact ⟨hg, Nat.le_refl _⟩
    · have := h1 j (by omega); omega
  · dsimp only
    rw [if_neg (show ¬ i = k by omega)]
    split
    · have := (h1 i (by omega)).2; omega
    · exact h2 i j hij (by omega)
  · dsimp only
    by_cases hjk : j = k
    · subst hjk
      rw [if_pos rfl, if_pos rfl, ← e]
      refine ⟨B, m, ?_, ?_, ?_, mz.fr fr1 (by omega)⟩
      · rw [getD_set_other (by omega), getD_set_other (by omega), getD_set_same (by omega)]
      · rw [getD_set_other (by omega), getD_set_same (by simp; omega)]
      · rw [getD_set_same (by simp; omega)]
    · rw [if_neg hjk, if_neg hjk]
      obtain ⟨A', m', e1, e2, e3, e4⟩ := h3 j (by omega)
      have := h1 j (by omega)
      refine ⟨A', m', ?_, ?_, ?_, (e4.keeps k1).fr fr1 (by omega)⟩
      · rw [getD_set_other (by omega), getD_set_other (by omega), getD_set_other (by omega)]; exact e1
      · rw [getD_set_other (by omega), getD_set_other (by omega), getD_set_other (by omega)]; exact e2
      · rw [getD_set_other (by omega), getD_set_other (by omega), getD_set_other (by omega)]; exact e3
theorem FillR.recM {w : World} {g n : Nat} {l : List RR} (h : FillR w g n l n) (hl : l.length = n) (hn : n ≤ 67108864) : RecM w g w.heap.size (some ⟨g, 0, none⟩) n l := by
  obtain ⟨cs, L, U, ho, hc, h1, h2, h3⟩ := h
  have hg := ho.lt
  refine RecC.recM (L := L) (U := U) ⟨hl, hn, Nat.le_refl _, Nat.le_refl _, hg, fun j hj => ?_, h2, fun j hj => ho.frozen _, fun j hj => ?_⟩
  · have := h1 j hj; omega
  · obtain ⟨A', m, e1, e2, e3, e4⟩ := h3 j hj
    refine ⟨A', m, m, ?_, ?_, ?_, e4⟩
    · rw [Nat.zero_add, ho.cell _ (by omega), e1]
    · rw [Nat.zero_add, ho.cell _ (by omega), e2]
    · rw [Nat.zero_add, ho.cell _ (by omega), e3]
theorem info_rec : (Tryz.prog.info? 160).map (fun i => (i.zero, i.size, i.bytes)) = some (some (.agg #[.int .i64 0, .int .i64 0, .slice none 0 0]), 3, 40) := by kernel_rfl
theorem make_recs (n : Nat) (hn : n ≤ 67108864) (w : World) :
    (Instr.makeSlice 122 (.int .i64 (n : Int)) (.int .i64 (n : Int))).run Tryz.prog w = .ok (.slice (some ⟨w.heap.size, 0, none⟩) n n) (w.alloc (.cells (madeCells #[.int .i64 0, .int .i64 0, .slice none 0 0] (n * 3)) 160)) := by
  obtain ⟨i, hi, hz0, hz1, hz2⟩ := info_parts info_rec
  have h := run_make_rowN (P := Tryz.prog) 122 160 i _ Tryz.underlying122 hi hz0 .i64 .i64 n n (Nat.le_refl _) (by rw [hz2]; omega) (by omega) w
  rw [hz1] at h
  simpa [Value.cells] using h
theorem FillR.new (w : World) (n : Nat) (l : List RR) : FillR (w.alloc (.cells (madeCells #[.int .i64 0, .int .i64 0, .slice none 0 0] (n * 3)) 160)) w.heap.size n l 0 :=
  ⟨(madeCells #[.int .i64 0, .int .i64 0, .slice none 0 0] (n * 3)).toList, fun _ => 0, fun _ => 0, by unfold OwnC; rw [heap_alloc_new], by simp [size_madeCells], fun j hj => absurd hj (by omega), fun i j h hj => absurd hj (by omega), fun j hj => absurd hj (by omega)⟩
end Go.Proofs.YtlkjhkkfdmjfcaaGreatDoor
