/- CheckSums and IsAdditiveWhole, of the reference and of the program; and the laws. -/
import Derived.Test.YtlkjhkkfdmjfcaaGreatDoorKB
namespace Go.Proofs.YtlkjhkkfdmjfcaaGreatDoor
open Go.RowKit
set_option linter.unusedVariables false
set_option linter.unusedSimpArgs false

theorem ret_ib {a c : Int} {p q : Bool} (h1 : a = c) (h3 : p = q) : Ending.returned (.tuple #[.int .i64 a, .bool p]) = .returned (.tuple #[.int .i64 c, .bool q]) := by rw [h1, h3]
theorem ret_bs {a c : Bool} {p q : Bool} (h1 : a = c) (h3 : p = q) : Ending.returned (.tuple #[.bool a, .bool p]) = .returned (.tuple #[.bool c, .bool q]) := by rw [h1, h3]

/-- The elements of vs at the indices ks. -/
def vsAt (vs ks : List Int) : List Int := ks.map fun c => vs.getD c.toNat 0
theorem vsAt_len (vs ks : List Int) : (vsAt vs ks).length = ks.length := by simp [vsAt]
theorem vsAt_getD {vs ks : List Int} {m j : Nat} (hm : m < ks.length) (h : ks.getD m 0 = (j : Int)) : (vsAt vs ks).getD m 0 = vs.getD j 0 := by
  have h2 : ks[m] = (j : Int) := by simpa [List.getD, hm] using h
  simp [vsAt, List.getD, hm, h2]
theorem vsAt_bd {vs ks : List Int} {B : Int} (h : Bd B vs) (h0 : 0 ≤ B) : Bd B (vsAt vs ks) := by
  intro m
  by_cases hm : m < ks.length
  · have := h (ks[m]).toNat
    simpa [vsAt, List.getD, hm] using this
  · simp [vsAt, List.getD, List.getElem?_eq_none (Nat.le_of_not_lt hm)]; exact h0
def okAt (ps vs : List Int) (i : Nat) : Bool := decide ((kids ps i).length = 0) || ((vsAt vs (kids ps i)).sum == vs.getD i 0)
/-- The least number below n that p refuses, or n. -/
def firstNot (p : Nat → Bool) (n : Nat) : Nat := ((List.range n).find? fun i => !p i).getD n
theorem firstNot_at {p : Nat → Bool} {n k : Nat} (hk : k < n) (h : ∀ j, j < k → p j = true) (hp : p k = false) : firstNot p n = k := by
  unfold firstNot
  have : (List.range n).find? (fun i => !p i) = some k := by
    rw [List.find?_range_eq_some]
    exact ⟨by simp [hp], by simpa using hk, fun j hj => by simp [h j hj]⟩
  rw [this]; rfl
theorem firstNot_all {p : Nat → Bool} {n : Nat} (h : ∀ j, j < n → p j = true) : firstNot p n = n := by
  unfold firstNot
  have : (List.range n).find? (fun i => !p i) = none := by
    rw [List.find?_eq_none]
    intro j hj
    simp [h j (by simpa using hj)]
  rw [this]; rfl
theorem firstNot_le (p : Nat → Bool) (n : Nat) : firstNot p n ≤ n := by
  unfold firstNot
  cases h : (List.range n).find? (fun i => !p i) with
  | none => exact Nat.le_refl _
  | some k => have := List.mem_of_find?_eq_some h; simp at this; simp; omega
def OkToS (ps vs : List Int) (k : Nat) : Prop := ∀ j, j < k → okAt ps vs j = true
theorem okToS_succ {ps vs : List Int} {k : Nat} (h : OkToS ps vs k) (h1 : okAt ps vs k = true) : OkToS ps vs (k + 1) := by
  intro j hj
  by_cases hjk : j = k
  · subst hjk; exact h1
  · exact h j (by omega)
theorem okAt_none {ps vs : List Int} {k : Nat} (h : (kids ps k).length = 0) : okAt ps vs k = true := by simp [okAt, h]
theorem okAt_eq {ps vs : List Int} {k : Nat} {x : Int} (hx : x = vs.getD k 0) (h : (vsAt vs (kids ps k)).sum = x) : okAt ps vs k = true := by simp [okAt, h, hx]
theorem okAt_ne {ps vs : List Int} {k : Nat} {x : Int} (hx : x = vs.getD k 0) (h0 : ¬ (kids ps k).length = 0) (h : (vsAt vs (kids ps k)).sum ≠ x) : okAt ps vs k = false := by
  rw [hx] at h
  simp only [okAt, Bool.or_eq_false_iff, decide_eq_false_iff_not, beq_eq_false_iff_ne]
  exact ⟨h0, h⟩

def smallB (vs : List Int) (n : Nat) : Bool := decide (vs.length = n) && within (-1000000) 1000000 vs
theorem smallB_bd {vs : List Int} {n : Nat} (h : smallB vs n = true) : Bd 1000000 vs := by
  simp [smallB] at h
  exact within_bd h.2 (by omega) (by omega) (by omega)



def csF (ps vs : List Int) : Int × Bool := if geoB ps && smallB vs ps.length then (((firstNot (okAt ps vs) ps.length : Nat) : Int), true) else (0, false)
def iaF (ps vs : List Int) : Bool × Bool := if geoB ps && smallB vs ps.length then (firstNot (okAt ps vs) ps.length == ps.length, true) else (false, false)


end Go.Proofs.YtlkjhkkfdmjfcaaGreatDoor

/- Children of areas by number; numbers handed down from parents to children. Plain lemmas, no walk. -/
namespace Go.Proofs.YtlkjhkkfdmjfcaaGreatDoor
open Go.RowKit
set_option linter.unusedVariables false
set_option linter.unusedSimpArgs false

def kid (ps : List Int) (i m : Nat) : Nat := ((kids ps i).getD m 0).toNat
theorem kid_cast {ps : List Int} {i m : Nat} (hm : m < (kids ps i).length) : ((kid ps i m : Nat) : Int) = (kids ps i).getD m 0 := by
  obtain ⟨j, e, _⟩ := kids_getD hm
  unfold kid; rw [e, Int.toNat_natCast]
theorem kid_lt {ps : List Int} {i m : Nat} (hg : geoB ps = true) (hm : m < (kids ps i).length) : i < kid ps i m ∧ kid ps i m < ps.length ∧ ps.getD (kid ps i m) 0 = i := by
  obtain ⟨j, e, h0, hj, hp⟩ := kids_getD hm
  have := (geoB_true.1 hg).2.2 j hj h0
  unfold kid
  rw [e, Int.toNat_natCast]
  exact ⟨by omega, hj, hp⟩
theorem kids_has {ps : List Int} {i j : Nat} (h0 : 0 < j) (hj : j < ps.length) (hp : ps.getD j 0 = i) : ∃ m, m < (kids ps i).length ∧ kid ps i m = j := by
  have hm : (j : Int) ∈ kids ps i := by
    unfold kids kidsTo
    refine List.mem_map.2 ⟨j, List.mem_filter.2 ⟨List.mem_range.2 hj, ?_⟩, rfl⟩
    unfold isKid; rw [hp]; simp [h0]
  obtain ⟨m, hm1, hm2⟩ := List.getElem_of_mem hm
  refine ⟨m, hm1, ?_⟩
  unfold kid
  simp only [List.getD, List.getElem?_eq_getElem hm1, Option.getD_some, hm2, Int.toNat_natCast]
theorem kids_rising (ps : List Int) (i : Int) : (kids ps i).Pairwise (· < ·) := by
  unfold kids kidsTo
  rw [List.pairwise_map]
  exact (List.pairwise_lt_range.filter _).imp (fun h => by omega)
theorem kid_mono {ps : List Int} {i p q : Nat} (hq : q < (kids ps i).length) (h : p < q) : kid ps i p < kid ps i q := by
  have h1 := List.pairwise_iff_getElem.1 (kids_rising ps i) p q (by omega) hq h
  have e1 := kid_cast (ps := ps) (i := i) (m := p) (by omega)
  have e2 := kid_cast hq
  have g1 : (kids ps i).getD p 0 = (kids ps i)[p]'(by omega) := by simp [List.getD, show p < (kids ps i).length by omega]
  have g2 : (kids ps i).getD q 0 = (kids ps i)[q] := by simp [List.getD, hq]
  omega
theorem kid_inj {ps : List Int} {i p q : Nat} (hp : p < (kids ps i).length) (hq : q < (kids ps i).length) (h : kid ps i p = kid ps i q) : p = q := by
  rcases Nat.lt_trichotomy p q with h1 | h1 | h1
  · have := kid_mono hq h1; omega
  · exact h1
  · have := kid_mono hp h1; omega
theorem getD_setI (x : List Int) (i j : Nat) (v : Int) : (x.set i v).getD j 0 = if i = j ∧ j < x.length then v else x.getD j 0 := by
  simp only [List.getD, List.getElem?_set]
  by_cases h : i = j
  · subst h
    by_cases h2 : i < x.length
    · simp [h2]
    · simp [h2]
  · simp [h]
/-- The first m children of ks get the numbers ys. -/
def putK (x ks ys : List Int) : Nat → List Int
  | 0 => x
  | m + 1 => (putK x ks ys m).set (ks.getD m 0).toNat (ys.getD m 0)
theorem putK_len (x ks ys : List Int) (m : Nat) : (putK x ks ys m).length = x.length := by
  induction m with
  | zero => rfl
  | succ m ih => simp [putK, ih]
theorem putK_at {ps x ys : List Int} {i : Nat} (hg : geoB ps = true) (hl : x.length = ps.length) : ∀ m, m ≤ (kids ps i).length →
    (∀ j, (∀ q, q < m → kid ps i q ≠ j) → (putK x (kids ps i) ys m).getD j 0 = x.getD j 0) ∧ ∀ q, q < m → (putK x (kids ps i) ys m).getD (kid ps i q) 0 = ys.getD q 0
  | 0, _ => ⟨fun j _ => rfl, fun q hq => absurd hq (by omega)⟩
  | m + 1, hm => by
    obtain ⟨h1, h2⟩ := putK_at (i := i) (ys := ys) hg hl m (by omega)
    have hk := kid_lt hg (show m < (kids ps i).length by omega)
    have hlen := putK_len x (kids ps i) ys m
    refine ⟨fun j hj => ?_, fun q hq => ?_⟩
    · show ((putK x (kids ps i) ys m).set (kid ps i m) (ys.getD m 0)).getD j 0 = _
      rw [getD_setI, if_neg (fun h => hj m (by omega) h.1)]
      exact h1 j fun q hq => hj q (by omega)
    · show ((putK x (kids ps i) ys m).set (kid ps i m) (ys.getD m 0)).getD (kid ps i q) 0 = _
      rw [getD_setI]
      by_cases hqm : q = m
      · subst hqm; rw [if_pos ⟨rfl, by omega⟩]
      · rw [if_neg (fun h => hqm (kid_inj (ps := ps) (i := i) (p := q) (q := m) (by omega) (by omega) h.1.symm))]
        exact h2 q (by omega)
theorem vsAt_kid {ps vs : List Int} {i m : Nat} (hm : m < (kids ps i).length) : (vsAt vs (kids ps i)).getD m 0 = vs.getD (kid ps i m) 0 := vsAt_getD hm (kid_cast hm).symm
theorem ext_getD {x y : List Int} (hl : x.length = y.length) (h : ∀ m, m < x.length → x.getD m 0 = y.getD m 0) : x = y := by
  apply List.ext_getElem hl
  intro i h1 h2
  have := h i h1
  simpa [List.getD, h1, h2] using this
theorem vsAt_put {ps x ys : List Int} {i : Nat} (hg : geoB ps = true) (hl : x.length = ps.length) (hy : ys.length = (kids ps i).length) : vsAt (putK x (kids ps i) ys (kids ps i).length) (kids ps i) = ys := by
  refine ext_getD (by rw [vsAt_len, hy]) fun m hm => ?_
  rw [vsAt_len] at hm
  rw [vsAt_kid hm]
  exact (putK_at hg hl _ (Nat.le_refl _)).2 m hm
theorem vsAt_congr {ps x y : List Int} {i : Nat} (h : ∀ m, m < (kids ps i).length → x.getD (kid ps i m) 0 = y.getD (kid ps i m) 0) : vsAt x (kids ps i) = vsAt y (kids ps i) := by
  refine ext_getD (by rw [vsAt_len, vsAt_len]) fun m hm => ?_
  rw [vsAt_len] at hm
  rw [vsAt_kid hm, vsAt_kid hm]; exact h m hm
/-- Area k has handed its number down. -/
def HandK (ps x y : List Int) (k : Nat) : Prop :=
  ((kids ps k).length = 0 → y = x) ∧ (¬ (kids ps k).length = 0 → ∃ ys, ys.length = (kids ps k).length ∧ ys.sum = x.getD k 0 ∧ y = putK x (kids ps k) ys (kids ps k).length)
theorem HandK.keep {ps x y : List Int} {k : Nat} (hg : geoB ps = true) (hl : x.length = ps.length) (h : HandK ps x y k) : y.length = ps.length ∧ ∀ j, ps.getD j 0 ≠ (k : Int) → y.getD j 0 = x.getD j 0 := by
  by_cases hk : (kids ps k).length = 0
  · rw [h.1 hk]; exact ⟨hl, fun j _ => rfl⟩
  · obtain ⟨ys, h1, h2, rfl⟩ := h.2 hk
    exact ⟨by rw [putK_len, hl], fun j hj => (putK_at hg hl _ (Nat.le_refl _)).1 j fun q hq e => hj (by rw [← e]; exact (kid_lt hg hq).2.2)⟩
/-- The first k areas are the sums of their children; the root stays. -/
def HandTo (ps x : List Int) (root : Int) (k : Nat) : Prop := x.length = ps.length ∧ x.getD 0 0 = root ∧ ∀ i, i < k → okAt ps x i = true
theorem HandTo.step {ps x y : List Int} {root : Int} {k : Nat} (hg : geoB ps = true) (hk : k < ps.length) (h : HandTo ps x root k) (s : HandK ps x y k) : HandTo ps y root (k + 1) := by
  obtain ⟨h1, h2, h3⟩ := h
  obtain ⟨g1, g2⟩ := s.keep hg h1
  have hroot : ps.getD 0 0 = -1 := (geoB_true.1 hg).2.1
  refine ⟨g1, by rw [g2 0 (by rw [hroot]; omega)]; exact h2, fun i hi => ?_⟩
  have par : ∀ j, j ≤ k → ps.getD j 0 ≠ (k : Int) := fun j hj => by
    rcases Nat.eq_zero_or_pos j with h | h
    · subst h; rw [hroot]; omega
    · have := (geoB_true.1 hg).2.2 j (by omega) h; omega
  by_cases hik : i = k
  · subst hik
    by_cases hki : (kids ps i).length = 0
    · exact okAt_none hki
    · obtain ⟨ys, e1, e2, rfl⟩ := s.2 hki
      refine okAt_eq rfl ?_
      rw [vsAt_put hg h1 e1, e2, g2 i (par i (Nat.le_refl _))]
  · by_cases hki : (kids ps i).length = 0
    · exact okAt_none hki
    · have := h3 i (by omega)
      simp only [okAt, Bool.or_eq_true, decide_eq_true_eq, beq_iff_eq] at this
      refine okAt_eq rfl ?_
      rw [vsAt_congr (y := x) fun m hm => g2 _ (by rw [(kid_lt hg hm).2.2]; omega), g2 i (par i (by omega))]
      rcases this with h | h
      · exact absurd h hki
      · exact h
end Go.Proofs.YtlkjhkkfdmjfcaaGreatDoor

