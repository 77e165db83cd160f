/- Fractions: plain facts on greatest common divisors and reducing; slices of fractions in memory. No walk. -/
import Derived.Test.YtkpliolafkdijaaApp
import Derived.Test.YtkpliolafkdijaaGeo
import Derived.Test.YtkpliolafkdijaaBounds
namespace Go.Proofs.Ytkpliolafkdijaa
open Go.RowKit
set_option linter.unusedVariables false
set_option linter.unusedSimpArgs false

theorem gcd_emod (a b : Int) : Int.gcd b (a % b) = Int.gcd a b := by
  rw [Int.emod_def, show a - b * (a / b) = a - (a / b) * b by rw [Int.mul_comm], Int.gcd_sub_mul_right_right, Int.gcd_comm]
theorem gcd_tmod (a b : Int) : Int.gcd b (a.tmod b) = Int.gcd a b := by
  rw [Int.tmod_def, show a - b * a.tdiv b = a - (a.tdiv b) * b by rw [Int.mul_comm], Int.gcd_sub_mul_right_right, Int.gcd_comm]
theorem tmod_abs_lt (a b : Int) (h : b ≠ 0) : (a.tmod b).natAbs < b.natAbs := by
  rw [Int.natAbs_tmod]; exact Nat.mod_lt _ (by omega)

/-- n/d in lowest terms with a positive denominator, where it is a valid fraction. -/
def redN (n d : Int) : Int := if d < 0 then -(n / (Int.gcd n d : Int)) else n / (Int.gcd n d : Int)
def redD (n d : Int) : Int := if d < 0 then -(d / (Int.gcd n d : Int)) else d / (Int.gcd n d : Int)
def redOk (n d : Int) : Bool := decide (-1000000000 ≤ redN n d ∧ redN n d ≤ 1000000000 ∧ redD n d ≤ 1000000000)
def red (n d : Int) : Int × Int × Bool := if redOk n d then (redN n d, redD n d, true) else (0, 0, false)
theorem gcd_pos {n d : Int} (h : d ≠ 0) : 0 < Int.gcd n d := Int.gcd_pos_of_ne_zero_right _ h
theorem redD_pos {n d : Int} (h : d ≠ 0) : 1 ≤ redD n d := by
  have hg := gcd_pos (n := n) h
  obtain ⟨q, hq⟩ := Int.gcd_dvd_right n d
  have hd : d / (Int.gcd n d : Int) = q := by
    rw [Int.ediv_eq_of_eq_mul_right (by omega) hq]
  unfold redD
  rw [hd]
  by_cases h0 : d < 0
  · rw [if_pos h0]
    have : q < 0 := by
      rcases Int.lt_or_le q 0 with h1 | h1
      · exact h1
      · have := Int.mul_nonneg (Int.natCast_nonneg (Int.gcd n d)) h1; omega
    omega
  · rw [if_neg h0]
    have : 0 < q := by
      rcases Int.lt_or_le 0 q with h1 | h1
      · exact h1
      · have := Int.mul_nonpos_of_nonneg_of_nonpos (Int.natCast_nonneg (Int.gcd n d)) h1; omega
    omega
theorem red_gcd {n d : Int} (h : d ≠ 0) : Int.gcd (redN n d) (redD n d) = 1 := by
  have := Int.gcd_ediv_gcd_ediv_gcd (i := n) (j := d) (gcd_pos h)
  unfold redN redD
  split
  · rw [Int.gcd_neg, Int.neg_gcd]; exact this
  · exact this
theorem quo_le {n g B : Int} (hg : 1 ≤ g) (h : -B ≤ n ∧ n ≤ B) : -B ≤ n / g ∧ n / g ≤ B := by
  have h0 : 0 ≤ B := by omega
  constructor
  · rw [Int.le_ediv_iff_mul_le (by omega)]
    have := Int.mul_le_mul_of_nonneg_left hg h0
    rw [Int.neg_mul]; omega
  · apply Int.le_of_lt_add_one
    rw [Int.ediv_lt_iff_lt_mul (by omega)]
    have h1 := Int.mul_le_mul_of_nonneg_left hg (show 0 ≤ B + 1 by omega)
    omega
theorem gcd_le {n d B : Int} (hd : d ≠ 0) (h : -B ≤ d ∧ d ≤ B) : (Int.gcd n d : Int) ≤ B := by
  have h1 : Int.gcd n d ≤ d.natAbs := Nat.le_of_dvd (by omega) (Nat.gcd_dvd_right _ _)
  omega

theorem tdiv_gcd_left (n d : Int) : n.tdiv (Int.gcd n d : Int) = n / (Int.gcd n d : Int) := Int.tdiv_eq_ediv_of_dvd (Int.gcd_dvd_left _ _)
theorem tdiv_gcd_right (n d : Int) : d.tdiv (Int.gcd n d : Int) = d / (Int.gcd n d : Int) := Int.tdiv_eq_ediv_of_dvd (Int.gcd_dvd_right _ _)
theorem red_yes {n d : Int} (h1 : redN n d ≤ 1000000000) (h2 : -1000000000 ≤ redN n d) (h3 : redD n d ≤ 1000000000) : red n d = (redN n d, redD n d, true) := by
  have : redOk n d = true := by simp [redOk, h1, h2, h3]
  simp [red, this]
theorem red_no {n d : Int} (h : 1000000000 < redN n d ∨ redN n d < -1000000000 ∨ 1000000000 < redD n d) : red n d = (0, 0, false) := by
  have : redOk n d = false := by simp only [redOk, decide_eq_false_iff_not]; omega
  simp [red, this]
/-- A valid fraction. -/
def fracB (n d : Int) : Bool := decide (1 ≤ d ∧ d ≤ 1000000000) && decide (-1000000000 ≤ n ∧ n ≤ 1000000000) && (Int.gcd n d == 1)
theorem fracB_true {n d : Int} : fracB n d = true ↔ (1 ≤ d ∧ d ≤ 1000000000) ∧ (-1000000000 ≤ n ∧ n ≤ 1000000000) ∧ Int.gcd n d = 1 := by simp [fracB, and_assoc]
theorem red_frac {n d : Int} (h : d ≠ 0) : fracB (redN n d) (redD n d) = redOk n d := by
  rw [Bool.eq_iff_iff, fracB_true]
  simp only [redOk, decide_eq_true_eq]
  have := redD_pos (n := n) h
  have := red_gcd (n := n) h
  omega

/-- The slice (A, n) reads as the cells cs, sz of them an element, in blocks from lo to hi. -/
def Sl (sz : Nat) (w : World) (lo hi : Nat) (A : Option Addr) (n : Nat) (cs : List Value) : Prop :=
  cs.length = n * sz ∧ n ≤ 67108864 ∧ hi ≤ w.heap.size ∧
  (0 < n → ∃ b off, A = some ⟨b, off, none⟩ ∧ lo ≤ b ∧ b < hi ∧ ∀ j, j < n * sz → w.cell? ⟨b, off + j, none⟩ = some (cs.getD j undef))
/-- The same, and its cells may be written. -/
def SlM (sz : Nat) (w : World) (lo hi : Nat) (A : Option Addr) (n : Nat) (cs : List Value) : Prop :=
  Sl sz w lo hi A n cs ∧ (∀ b off, A = some ⟨b, off, none⟩ → ∀ j, j < n * sz → w.frozen? ⟨b, off + j, none⟩ = false)
section
variable {w w' : World} {lo hi n sz : Nat} {A : Option Addr} {cs : List Value}
theorem Sl.le (h : Sl sz w lo hi A n cs) : n ≤ 67108864 := h.2.1
theorem Sl.top (h : Sl sz w lo hi A n cs) : hi ≤ w.heap.size := h.2.2.1
theorem Sl.fr {l h' : Nat} (h : Sl sz w lo hi A n cs) (hf : Fr l h' w w') (ho : h' ≤ lo ∨ hi ≤ l ∨ h' ≤ l) : Sl sz w' lo hi A n cs :=
  ⟨h.1, h.2.1, Nat.le_trans h.top hf.size, fun hn => by
    obtain ⟨b, off, e, hl, hb, hc⟩ := h.2.2.2 hn
    have := h.top
    exact ⟨b, off, e, hl, hb, fun j hj => (hf.cell (p := ⟨b, off + j, none⟩) (by show b < _; omega) (by show b < _ ∨ _ ≤ b; omega)).trans (hc j hj)⟩⟩
theorem Sl.keeps (h : Sl sz w lo hi A n cs) (hb : Keeps w w') : Sl sz w' lo hi A n cs := h.fr (Fr.of_keeps hb 0 0) (by omega)
theorem Sl.quiet (h : Sl sz w lo hi A n cs) (hb : Quiet w w') : Sl sz w' lo hi A n cs := h.keeps hb.keeps
theorem Sl.drew (h : Sl sz w lo hi A n cs) : Sl sz w.drew lo hi A n cs := h
theorem Sl.widen {lo' hi' : Nat} (h : Sl sz w lo hi A n cs) (h1 : lo' ≤ lo) (h2 : hi ≤ hi') (h3 : hi' ≤ w.heap.size) : Sl sz w lo' hi' A n cs :=
  ⟨h.1, h.2.1, h3, fun hn => by
    obtain ⟨b, off, e, hl, hb, hc⟩ := h.2.2.2 hn
    exact ⟨b, off, e, by omega, by omega, hc⟩⟩
theorem Sl.nil_ (w : World) (A : Option Addr) (lo : Nat) : Sl sz w lo w.heap.size A 0 [] := ⟨by simp, by omega, Nat.le_refl _, fun h => absurd h (by omega)⟩
theorem SlM.sl (h : SlM sz w lo hi A n cs) : Sl sz w lo hi A n cs := h.1
theorem SlM.fr {l h' : Nat} (h : SlM sz w lo hi A n cs) (hf : Fr l h' w w') (ho : h' ≤ lo ∨ hi ≤ l ∨ h' ≤ l) : SlM sz w' lo hi A n cs :=
  ⟨h.1.fr hf ho, fun b off e j hj => by
    have hn : 0 < n := by
      rcases Nat.eq_zero_or_pos n with h0 | h0
      · subst h0; simp at hj
      · exact h0
    obtain ⟨b', off', e', hl, hb, _⟩ := h.1.2.2.2 hn
    have := h.1.top
    rw [e] at e'
    obtain ⟨rfl, rfl⟩ : b = b' ∧ off = off' := by simpa using e'
    exact (hf.frozen (p := ⟨b, off + j, none⟩) (by show b < _; omega) (by show b < _ ∨ _ ≤ b; omega)).trans (h.2 b off e j hj)⟩
theorem SlM.keeps (h : SlM sz w lo hi A n cs) (hb : Keeps w w') : SlM sz w' lo hi A n cs := h.fr (Fr.of_keeps hb 0 0) (by omega)
theorem SlM.quiet (h : SlM sz w lo hi A n cs) (hb : Quiet w w') : SlM sz w' lo hi A n cs := h.keeps hb.keeps
theorem SlM.drew (h : SlM sz w lo hi A n cs) : SlM sz w.drew lo hi A n cs := h
theorem SlM.widen {lo' hi' : Nat} (h : SlM sz w lo hi A n cs) (h1 : lo' ≤ lo) (h2 : hi ≤ hi') (h3 : hi' ≤ w.heap.size) : SlM sz w lo' hi' A n cs := ⟨h.1.widen h1 h2 h3, h.2⟩
theorem SlM.nil_ (w : World) (lo : Nat) : SlM sz w lo w.heap.size none 0 [] := ⟨Sl.nil_ w _ lo, fun b off e => by cases e⟩
/-- A store into cell k. -/
theorem SlM.set_ {k b off : Nat} (h : SlM sz w lo hi (some ⟨b, off, none⟩) n cs) (hk : k < n * sz) (u : Value) :
    SlM sz (w.setCell ⟨b, off + k, none⟩ u) lo hi (some ⟨b, off, none⟩) n (cs.set k u) ∧ Fr lo hi w (w.setCell ⟨b, off + k, none⟩ u) := by
  obtain ⟨⟨h1, h2, h3, h4⟩, h5⟩ := h
  have hn : 0 < n := by
    rcases Nat.eq_zero_or_pos n with h0 | h0
    · subst h0; simp at hk
    · exact h0
  obtain ⟨b', off', e, hl, hb, hc⟩ := h4 hn
  obtain ⟨rfl, rfl⟩ : b = b' ∧ off = off' := by simpa using e
  refine ⟨⟨⟨by simpa using h1, h2, by simpa [World.setCell] using h3, fun _ => ⟨b, off, rfl, hl, hb, fun j hj => ?_⟩⟩, fun b' off' e' j hj => ?_⟩, (Fr.refl lo hi w).setCell (p := ⟨b, off + k, none⟩) hl hb _⟩
  · by_cases hjk : j = k
    · subst hjk
      rw [World.cell?_setCell_same _ _ _ (hc j hj)]
      simp [List.getD, h1, hj]
    · rw [World.cell?_setCell_other w _ _ _ (by intro e; injection e with _ e; omega), hc j hj]
      simp [List.getD, List.getElem?_set_ne (Ne.symm hjk)]
  · rw [World.frozen?_setCell]; exact h5 b' off' e' j hj
end
/-- An owned row (the kit's word for what append makes) is a slice that may be written. -/
theorem SlM.of_own {w : World} {base n sz c : Nat} {A : Option Addr} {e : TypeId} {cs : List Value} (h : w.ownsRow base e sz (.slice A n c) n cs) (hs : n ≤ 67108864) (hsz : 0 < sz) : SlM sz w base w.heap.size A n cs := by
  obtain ⟨h1, h2⟩ := h
  rcases h2 with ⟨h2, rfl⟩ | ⟨g, cap, cur, hv, hg, hh, hnc, hcm, hcs, htake⟩
  · refine ⟨⟨h1, hs, Nat.le_refl _, fun h => absurd h (by omega)⟩, fun b off e j hj => absurd hj (by simp)⟩
  · have hA : A = some ⟨g, 0, none⟩ := by injection hv
    subst hA
    have hlt : g < w.heap.size := (Array.getElem?_eq_some_iff.1 hh).1
    refine ⟨⟨h1, hs, Nat.le_refl _, fun _ => ⟨g, 0, rfl, hg, hlt, fun j hj => ?_⟩⟩, fun b off e j hj => ?_⟩
    · rw [Nat.zero_add, cell_of_row w g j cur _ _ hh]
      have h3 : (cur.toList.take (n * sz))[j]? = some (cs.getD j undef) := by
        rw [htake]; simp [List.getD, h1, hj]
      rw [List.getElem?_take, if_pos (by omega)] at h3
      simpa using h3
    · obtain ⟨rfl, rfl⟩ : g = b ∧ 0 = off := by simpa using e
      simp [World.frozen?, hh]
/-- Block g is just the cells cs of element type t, none frozen. -/
def OwnC (w : World) (g : Nat) (t : TypeId) (cs : List Value) : Prop := w.heap[g]? = some (.cells cs.toArray t (0, 0))
section
variable {w w' : World} {g : Nat} {t : TypeId} {cs : List Value}
theorem OwnC.lt (h : OwnC w g t cs) : g < w.heap.size := (Array.getElem?_eq_some_iff.1 h).1
theorem OwnC.cell (h : OwnC w g t cs) (j : Nat) (hj : j < cs.length) : w.cell? ⟨g, j, none⟩ = some (cs.getD j undef) := by
  rw [cell_of_row w g j _ _ _ h]; simp [List.getD, hj]
theorem OwnC.frozen (h : OwnC w g t cs) (i : Nat) : w.frozen? ⟨g, i, none⟩ = false := by unfold OwnC at h; simp [World.frozen?, h]
theorem OwnC.slm (h : OwnC w g t cs) {n sz lo hi : Nat} (hn : cs.length = n * sz) (hs : n ≤ 67108864) (h1 : lo ≤ g) (h2 : g < hi) (h3 : hi ≤ w.heap.size) : SlM sz w lo hi (some ⟨g, 0, none⟩) n cs :=
  ⟨⟨hn, hs, h3, fun _ => ⟨g, 0, rfl, h1, h2, fun j hj => by rw [Nat.zero_add]; exact h.cell j (by omega)⟩⟩, fun b off e j hj => by
    obtain ⟨rfl, rfl⟩ : g = b ∧ 0 = off := by simpa using e
    exact h.frozen _⟩
theorem OwnC.below {B : Nat} (h : OwnC w g t cs) (hb : Below B w w') (hg : g < B) : OwnC w' g t cs := (hb.block g hg).trans h
theorem OwnC.keeps (h : OwnC w g t cs) (hb : Keeps w w') : OwnC w' g t cs := h.below hb h.lt
theorem OwnC.drewN (h : OwnC w g t cs) (n : Nat) : OwnC (w.drewN n) g t cs := h
theorem OwnC.set_ (h : OwnC w g t cs) (i : Nat) (u : Value) : OwnC (w.setCell ⟨g, i, none⟩ u) g t (cs.set i u) := by
  unfold OwnC at h ⊢
  simp [World.setCell, Array.getElem?_modify, h]
theorem OwnC.far (h : OwnC w g t cs) {p : Addr} (hp : g ≠ p.block) (u : Value) : OwnC (w.setCell p u) g t cs := (Below.heap_setCell w p u g hp).trans h
end

/-- A fraction's two cells. -/
def fr2 (f : Int × Int) : List Value := [.int .i64 f.1, .int .i64 f.2]
def frs (l : List (Int × Int)) : List Value := l.flatMap fr2
theorem frs_len (l : List (Int × Int)) : (frs l).length = l.length * 2 := by
  induction l with
  | nil => rfl
  | cons a r ih =>
    have e : (frs (a :: r)).length = 2 + (frs r).length := by simp [frs, fr2]; omega
    rw [e, ih, List.length_cons]; omega
theorem frs_at (l : List (Int × Int)) (k : Nat) (h : k < l.length) : (frs l).getD (k * 2) undef = .int .i64 (l.getD k (0, 0)).1 ∧ (frs l).getD (k * 2 + 1) undef = .int .i64 (l.getD k (0, 0)).2 := by
  induction l generalizing k with
  | nil => simp at h
  | cons a r ih =>
    cases k with
    | zero => simp [frs, fr2]
    | succ k =>
      have := ih k (by simpa using h)
      have e1 : (k + 1) * 2 = k * 2 + 2 := by omega
      have e2 : (k + 1) * 2 + 1 = k * 2 + 1 + 2 := by omega
      rw [e1, show k * 2 + 2 + 1 = k * 2 + 1 + 2 by omega]
      simpa [frs, fr2, List.getD] using this
theorem frs_append (l r : List (Int × Int)) : frs (l ++ r) = frs l ++ frs r := by simp [frs]
abbrev Fracs (w : World) (lo hi : Nat) (A : Option Addr) (n : Nat) (l : List (Int × Int)) : Prop := Sl 2 w lo hi A n (frs l)
abbrev FracsM (w : World) (lo hi : Nat) (A : Option Addr) (n : Nat) (l : List (Int × Int)) : Prop := SlM 2 w lo hi A n (frs l)
theorem Fracs.len {w : World} {lo hi n : Nat} {A : Option Addr} {l : List (Int × Int)} (h : Fracs w lo hi A n l) : l.length = n := by
  have := h.1; rw [frs_len] at this; omega
theorem Fracs.at_ {w : World} {lo hi n k : Nat} {A : Option Addr} {l : List (Int × Int)} (h : Fracs w lo hi A n l) (hk : k < n) :
    ∃ b off x y, A = some ⟨b, off, none⟩ ∧ lo ≤ b ∧ b < hi ∧ w.cell? ⟨b, off + k * 2, none⟩ = some (.int .i64 x) ∧ w.cell? ⟨b, off + k * 2 + 1, none⟩ = some (.int .i64 y) ∧ Hid ((x, y) = l.getD k (0, 0)) := by
  obtain ⟨b, off, e, hl, hb, hc⟩ := h.2.2.2 (by omega)
  have h1 := hc (k * 2) (by omega)
  have h2 := hc (k * 2 + 1) (by omega)
  have := h.len
  have h3 := frs_at l k (by omega)
  rw [h3.1] at h1
  rw [h3.2] at h2
  exact ⟨b, off, _, _, e, hl, hb, h1, h2, rfl⟩
theorem frs_set (l : List (Int × Int)) (k : Nat) (x y : Int) : ((frs l).set (k * 2) (.int .i64 x)).set (k * 2 + 1) (.int .i64 y) = frs (l.set k (x, y)) := by
  induction l generalizing k with
  | nil => simp [frs]
  | cons a r ih =>
    cases k with
    | zero => simp [frs, fr2]
    | succ k =>
      have e1 : (k + 1) * 2 = k * 2 + 2 := by omega
      have e2 : (k + 1) * 2 + 1 = k * 2 + 1 + 2 := by omega
      rw [e1, show k * 2 + 2 + 1 = k * 2 + 1 + 2 by omega]
      have := ih k
      simpa [frs, fr2] using this
/-- Pairs of successive numbers. -/
def pio (k : Int) (n : Nat) : List (Int × Int) := (List.range n).map fun (j : Nat) => (k + 2 * (j : Int), k + 2 * (j : Int) + 1)
def pmark (k : Int) (xs : List (Int × Int)) (j : Nat) : List (Int × Int) := pio k j ++ xs.drop j
theorem pmark_zero (k : Int) (xs : List (Int × Int)) : pmark k xs 0 = xs := by simp [pmark, pio]
theorem pmark_all (k : Int) (xs : List (Int × Int)) : pmark k xs xs.length = pio k xs.length := by simp [pmark]
theorem pmark_succ (k : Int) (xs : List (Int × Int)) (j : Nat) (h : j < xs.length) : (pmark k xs j).set j (k + 2 * j, k + 2 * j + 1) = pmark k xs (j + 1) := by
  apply List.ext_getElem
  · simp [pmark, pio]; omega
  · intro i h1 h2
    simp only [pmark, pio, List.getElem_set, List.getElem_append, List.length_map, List.length_range, List.getElem_map, List.getElem_range, List.getElem_drop]
    split
    · subst_vars; rw [dif_pos (by omega)]
    · rename_i hne
      by_cases hik : i < j
      · rw [dif_pos (by omega), dif_pos (by omega)]
      · rw [dif_neg (by omega), dif_neg (by omega)]; congr 1; omega
theorem pio_getD (k : Int) (n j : Nat) (h : j < n) : (pio k n).getD j (0, 0) = (k + 2 * j, k + 2 * j + 1) := by simp [pio, List.getD, h]
theorem FracsM.set_ {w : World} {lo hi n k b off : Nat} {l : List (Int × Int)} (h : FracsM w lo hi (some ⟨b, off, none⟩) n l) (hk : k < n) (x y : Int) :
    FracsM ((w.setCell ⟨b, off + k * 2, none⟩ (.int .i64 x)).setCell ⟨b, off + (k * 2 + 1), none⟩ (.int .i64 y)) lo hi (some ⟨b, off, none⟩) n (l.set k (x, y)) ∧
      Fr lo hi w ((w.setCell ⟨b, off + k * 2, none⟩ (.int .i64 x)).setCell ⟨b, off + (k * 2 + 1), none⟩ (.int .i64 y)) := by
  have h1 := SlM.set_ h (k := k * 2) (by omega) (.int .i64 x)
  have h2 := SlM.set_ h1.1 (k := k * 2 + 1) (by omega) (.int .i64 y)
  rw [frs_set] at h2
  exact ⟨h2.1, h1.2.trans h2.2⟩
/-- The first k of xs, d behind. -/
def padD {α : Type} (d : α) (xs : List α) (k : Nat) : List α := xs.take k ++ List.replicate (xs.length - k) d
theorem padD_len {α : Type} (d : α) (xs : List α) (k : Nat) (h : k ≤ xs.length) : (padD d xs k).length = xs.length := by simp [padD]; omega
theorem padD_zero {α : Type} (d : α) (xs : List α) : padD d xs 0 = List.replicate xs.length d := by simp [padD]
theorem padD_all {α : Type} (d : α) (xs : List α) : padD d xs xs.length = xs := by simp [padD]
theorem padD_succ {α : Type} (d : α) (xs : List α) (k : Nat) (h : k < xs.length) : (padD d xs k).set k (xs.getD k d) = padD d xs (k + 1) := by
  apply List.ext_getElem
  · simp [padD]; omega
  · intro i h1 h2
    simp only [padD, List.getElem_set, List.getElem_append, List.length_take]
    split
    · subst_vars; simp [List.getD, h]; omega
    · rename_i hne
      by_cases hik : i < k
      · rw [dif_pos (by omega), dif_pos (by omega)]; simp
      · rw [dif_neg (by omega), dif_neg (by omega)]; simp
theorem info_frac : (Try.prog.info? 41).map (fun i => (i.zero, i.size, i.bytes)) = some (some (.agg #[.int .i64 0, .int .i64 0]), 2, 16) := by kernel_rfl
theorem make_fracs (n : Nat) (hn : n ≤ 67108864) (w : World) :
    (Instr.makeSlice 27 (.int .i64 (n : Int)) (.int .i64 (n : Int))).run Try.prog w = .ok (.slice (some ⟨w.heap.size, 0, none⟩) n n) (w.alloc (.cells (madeCells #[.int .i64 0, .int .i64 0] (n * 2)) 41)) := by
  obtain ⟨i, hi, hz0, hz1, hz2⟩ := info_parts info_frac
  have h := run_make_rowN (P := Try.prog) 27 41 i _ Try.underlying27 hi hz0 .i64 .i64 n n (Nat.le_refl _) (by rw [hz2]; omega) (by omega) w
  rw [hz1] at h
  simpa [Value.cells] using h
theorem frs_replicate (n : Nat) : frs (List.replicate n (0, 0)) = (madeCells #[.int .i64 0, .int .i64 0] (n * 2)).toList := by
  apply List.ext_getElem
  · simp [frs_len, size_madeCells]
  · intro i h1 h2
    rw [frs_len, List.length_replicate] at h1
    have hk : i / 2 < (List.replicate n ((0 : Int), (0 : Int))).length := by simp; omega
    have h3 := frs_at (List.replicate n (0, 0)) (i / 2) hk
    have h4 : (List.replicate n ((0 : Int), (0 : Int))).getD (i / 2) (0, 0) = (0, 0) := by
      simp [List.getD, show i / 2 < n by omega]
    rw [h4] at h3
    have e : (madeCells #[Value.int .i64 0, Value.int .i64 0] (n * 2)).toList[i] = .int .i64 0 := by
      simp only [madeCells, Array.toList_map, Array.toList_range, List.getElem_map, List.getElem_range]
      rcases Nat.mod_two_eq_zero_or_one i with h | h <;> simp [h]
    rw [e]
    have hgd : (frs (List.replicate n (0, 0))).getD i undef = (frs (List.replicate n (0, 0)))[i]'(by rw [frs_len, List.length_replicate]; exact h1) := by
      simp [List.getD, show i < (frs (List.replicate n (0, 0))).length by rw [frs_len, List.length_replicate]; exact h1]
    rw [← hgd]
    rcases Nat.mod_two_eq_zero_or_one i with h | h
    · have : i = i / 2 * 2 := by omega
      rw [this]; exact h3.1
    · have : i = i / 2 * 2 + 1 := by omega
      rw [this]; exact h3.2
theorem OwnC.newF (w : World) (n : Nat) : OwnC (w.alloc (.cells (madeCells #[.int .i64 0, .int .i64 0] (n * 2)) 41)) w.heap.size 41 (frs (List.replicate n (0, 0))) := by
  unfold OwnC
  rw [heap_alloc_new, frs_replicate]
theorem OwnC.setF {w : World} {g k : Nat} {t : TypeId} {l : List (Int × Int)} (h : OwnC w g t (frs l)) (x y : Int) :
    OwnC ((w.setCell ⟨g, k * 2, none⟩ (.int .i64 x)).setCell ⟨g, k * 2 + 1, none⟩ (.int .i64 y)) g t (frs (l.set k (x, y))) := by
  have := (h.set_ (k * 2) (.int .i64 x)).set_ (k * 2 + 1) (.int .i64 y)
  rwa [frs_set] at this
/-- append of a fraction. -/
theorem append_frac {w0 : World} {ops : Array Oper} {rest : List Oper} {o : Oper} {a : Act} {Q : Exit → Act → World → Prop} {B : Nat} {v : Value} {n : Nat} {xs : List (Int × Int)} {x y : Int}
    (hown : Has w0 B 41 2 v n (frs xs)) (hn : n ≤ 67108864) (hB : B ≤ w0.heap.size)
    (s u : Operand) (hgd : o.guard = none)
    (ho : o.op = .call { callee := .builtin .append, args := #[s, u], argTypes := #[27, 27] })
    (hs : a.eval s = v) (hx : a.eval u = .slice (some ⟨w0.heap.size, 0, none⟩) 1 1)
    (h : ∀ v' w', Has w' B 41 2 v' (n + 1) (frs (xs ++ [(x, y)])) → Below B w0 w' → wpList Try.prog ops Q rest (a.put o.dst v') w') : wpList Try.prog ops Q (o :: rest) a (w0.alloc (.cells #[.int .i64 x, .int .i64 y] 41)) :=
  append_one (cs := [.int .i64 x, .int .i64 y]) hown rfl info_frac rfl (by omega) s u 27 hgd ho Try.underlying27 hs hx (fun y hy => by simp at hy; rcases hy with rfl | rfl <;> rfl) hn (by omega) hB
    (fun v' w' h2 h3 => h v' w' (by rw [frs_append]; simpa [frs, fr2] using h2) h3)
end Go.Proofs.Ytkpliolafkdijaa
