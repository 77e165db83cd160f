/- The nearest integers within bounds that have a sum: what they are, that they are one, and how a step leads from one to the next. Plain lemmas on numbers and lists; no program, no walk. -/
import Derived.Test.YtkpliolafkdijaaBounds
namespace Go.Proofs.Ytkpliolafkdijaa
open Go.RowKit
set_option linter.unusedVariables false
set_option linter.unusedSimpArgs false

section
variable {n : Nat} {v lo hi x y : Nat → Int}
def cl (v lo hi : Nat → Int) (b : Int) (i : Nat) : Int := min (max (v i + b) (lo i)) (hi i)
/-- Each number plus b within the bounds, and one more for the first few of those that one more raises. -/
def At (n : Nat) (v lo hi : Nat → Int) (b : Int) (x : Nat → Int) : Prop :=
  (∀ i, i < n → x i = cl v lo hi b i ∨ (x i = v i + b + 1 ∧ lo i ≤ v i + b ∧ v i + b < hi i)) ∧
  (∀ i k, i < k → k < n → x k = v k + b + 1 → lo k ≤ v k + b → v k + b < hi k → lo i ≤ v i + b → v i + b < hi i → x i = v i + b + 1)
def sumTo (x : Nat → Int) : Nat → Int
  | 0 => 0
  | k + 1 => sumTo x k + x k
theorem sumTo_le {x y : Nat → Int} {n : Nat} (h : ∀ i, i < n → x i ≤ y i) : sumTo x n ≤ sumTo y n := by
  induction n with
  | zero => exact Int.le_refl _
  | succ n ih =>
    have := ih (fun i hi => h i (by omega))
    have := h n (by omega)
    simp only [sumTo]; omega
theorem sumTo_eq {x y : Nat → Int} {n : Nat} (h : ∀ i, i < n → x i ≤ y i) (hs : sumTo x n = sumTo y n) : ∀ i, i < n → x i = y i := by
  induction n with
  | zero => intro i hi; omega
  | succ n ih =>
    have h1 := sumTo_le (n := n) (fun i hi => h i (by omega))
    have h2 := h n (by omega)
    simp only [sumTo] at hs
    intro i hi
    by_cases hin : i = n
    · subst hin; omega
    · exact ih (fun i hi => h i (by omega)) (by omega) i (by omega)
theorem sumTo_congr {x y : Nat → Int} {n : Nat} (h : ∀ i, i < n → x i = y i) : sumTo x n = sumTo y n := by
  induction n with
  | zero => rfl
  | succ n ih => simp only [sumTo]; rw [ih (fun i hi => h i (by omega)), h n (by omega)]
theorem at_bounds (hle : ∀ i, i < n → lo i ≤ hi i) {b : Int} (h : At n v lo hi b x) (i : Nat) (hin : i < n) : lo i ≤ x i ∧ x i ≤ hi i := by
  have := hle i hin
  rcases h.1 i hin with h1 | ⟨h1, h2, h3⟩
  · unfold cl at h1; omega
  · omega
/-- Two such lists with one sum are one. -/
theorem at_uniq (hle : ∀ i, i < n → lo i ≤ hi i) {b b' : Int} (hx : At n v lo hi b x) (hy : At n v lo hi b' y) (hs : sumTo x n = sumTo y n) : ∀ i, i < n → x i = y i := by
  have key : ∀ {b b' : Int} {x y : Nat → Int}, At n v lo hi b x → At n v lo hi b' y → b < b' → ∀ i, i < n → x i ≤ y i := by
    intro b b' x y hx hy hb i hin
    have := hle i hin
    have h2 : cl v lo hi b' i ≤ y i := by
      rcases hy.1 i hin with h1 | ⟨h1, h2, h3⟩
      · omega
      · unfold cl; omega
    have h3 : x i ≤ cl v lo hi b' i := by
      rcases hx.1 i hin with h1 | ⟨h1, h2, h3⟩
      · unfold cl at *; omega
      · unfold cl at *; omega
    omega
  rcases Int.lt_trichotomy b b' with hb | hb | hb
  · exact sumTo_eq (key hx hy hb) hs
  · subst hb
    by_cases hk : ∃ k, k < n ∧ (y k = v k + b + 1 ∧ lo k ≤ v k + b ∧ v k + b < hi k) ∧ x k ≠ v k + b + 1
    · obtain ⟨k, hkn, ⟨hy1, hy2, hy3⟩, hxk⟩ := hk
      refine sumTo_eq (fun i hin => ?_) hs
      have := hle i hin
      rcases hx.1 i hin with h1 | ⟨h1, h2, h3⟩
      · rcases hy.1 i hin with g1 | ⟨g1, g2, g3⟩
        · omega
        · unfold cl at h1; omega
      · by_cases hik : i < k
        · have := hy.2 i k hik hkn hy1 hy2 hy3 h2 h3; omega
        · by_cases hki : k < i
          · exact absurd (hx.2 k i hki hin h1 h2 h3 hy2 hy3) hxk
          · obtain rfl : i = k := by omega
            exact absurd h1 hxk
    · have h' : ∀ i, i < n → y i ≤ x i := by
        intro i hin
        have := hle i hin
        rcases hy.1 i hin with g1 | ⟨g1, g2, g3⟩
        · rcases hx.1 i hin with h1 | ⟨h1, h2, h3⟩
          · omega
          · unfold cl at g1; omega
        · have : x i = v i + b + 1 := by
            rcases Classical.em (x i = v i + b + 1) with h1 | h1
            · exact h1
            · exact absurd ⟨i, hin, ⟨g1, g2, g3⟩, h1⟩ hk
          omega
      intro i hin
      exact (sumTo_eq h' hs.symm i hin).symm
  · intro i hin
    exact (sumTo_eq (key hy hx hb) hs.symm i hin).symm
/-- At any level that no element short of its upper bound lies below. -/
theorem at_raise (hle : ∀ i, i < n → lo i ≤ hi i) {b D : Int} (hx : At n v lo hi b x) {m : Nat} (hm : m < n) (hmx : x m < hi m) (hD : x m = v m + D) (hmin : ∀ i, i < n → x i < hi i → D ≤ x i - v i) : At n v lo hi D x := by
  have hbD : b ≤ D := by
    have := hle m hm
    rcases hx.1 m hm with h1 | ⟨h1, h2, h3⟩
    · unfold cl at h1; omega
    · omega
  by_cases hb : D = b
  · subst hb; exact hx
  have all : ∀ i, i < n → x i = cl v lo hi D i := by
    intro i hin
    have := hle i hin
    have hm' := hmin i hin
    rcases hx.1 i hin with h1 | ⟨h1, h2, h3⟩
    · unfold cl at *
      by_cases hf : x i < hi i
      · have := hm' hf; omega
      · omega
    · unfold cl
      by_cases hf : x i < hi i
      · have := hm' hf; omega
      · omega
  refine ⟨fun i hin => .inl (all i hin), fun i k hik hkn h1 h2 h3 _ _ => ?_⟩
  have := all k hkn
  unfold cl at this
  omega
theorem at_up (hle : ∀ i, i < n → lo i ≤ hi i) {b : Int} (hx : At n v lo hi b x) {m : Nat} (hm : m < n) (hmx : x m < hi m) (hmin : ∀ i, i < n → x i < hi i → x m - v m ≤ x i - v i) (hfirst : ∀ i, i < m → x i < hi i → x m - v m < x i - v i)
    {x' : Nat → Int} (h1 : x' m = x m + 1) (h2 : ∀ i, i ≠ m → x' i = x i) : At n v lo hi (x m - v m) x' := by
  have hD := at_raise hle hx hm hmx (D := x m - v m) (by omega) hmin
  obtain ⟨D, hDD⟩ : ∃ D, x m - v m = D := ⟨_, rfl⟩
  rw [hDD] at hD hmin hfirst ⊢
  have hlo : lo m ≤ v m + D := by
    have := at_bounds hle hD m hm; omega
  refine ⟨fun i hin => ?_, fun i k hik hkn g1 g2 g3 g4 g5 => ?_⟩
  · by_cases him : i = m
    · subst him; right; omega
    · rw [h2 i him]; exact hD.1 i hin
  · by_cases him : i = m
    · subst him; omega
    · rw [h2 i him]
      by_cases hkm : k = m
      · subst hkm
        -- an earlier one that one more raises is raised already
        have hin : i < n := by omega
        rcases hD.1 i hin with e | ⟨e, _⟩
        · have e' : x i = v i + D := by unfold cl at e; omega
          have := hfirst i hik (by omega); omega
        · exact e
      · rw [h2 k hkm] at g1
        exact hD.2 i k hik hkn g1 g2 g3 g4 g5
theorem at_lower (hle : ∀ i, i < n → lo i ≤ hi i) {b D : Int} (hx : At n v lo hi b x) {m : Nat} (hm : m < n) (hmx : lo m < x m) (hD : x m = v m + D + 1) (hmax : ∀ i, i < n → lo i < x i → x i - v i ≤ D + 1) : At n v lo hi D x := by
  have hbD : D ≤ b := by
    have := hle m hm
    rcases hx.1 m hm with h1 | ⟨h1, h2, h3⟩
    · unfold cl at h1; omega
    · omega
  by_cases hb : D = b
  · subst hb; exact hx
  have all : ∀ i, i < n → x i = cl v lo hi (D + 1) i := by
    intro i hin
    have := hle i hin
    have hm' := hmax i hin
    rcases hx.1 i hin with h1 | ⟨h1, h2, h3⟩
    · unfold cl at *
      by_cases hf : lo i < x i
      · have := hm' hf; omega
      · omega
    · unfold cl
      by_cases hf : lo i < x i
      · have := hm' hf; omega
      · omega
  refine ⟨fun i hin => ?_, fun i k hik hkn h1 h2 h3 h4 h5 => ?_⟩
  · have := all i hin
    have := hle i hin
    by_cases he : lo i ≤ v i + D ∧ v i + D < hi i
    · right; unfold cl at *; omega
    · left; unfold cl at *; omega
  · have := all i (by omega)
    unfold cl at this; omega
theorem at_down (hle : ∀ i, i < n → lo i ≤ hi i) {b : Int} (hx : At n v lo hi b x) {m : Nat} (hm : m < n) (hmx : lo m < x m) (hmax : ∀ i, i < n → lo i < x i → x i - v i ≤ x m - v m) (hlast : ∀ i, i < n → m < i → lo i < x i → x i - v i < x m - v m)
    {x' : Nat → Int} (h1 : x' m = x m - 1) (h2 : ∀ i, i ≠ m → x' i = x i) : At n v lo hi (x m - v m - 1) x' := by
  have hD := at_lower hle hx hm hmx (D := x m - v m - 1) (by omega) (fun i hi hl => by have := hmax i hi hl; omega)
  obtain ⟨D, hDD⟩ : ∃ D, x m - v m - 1 = D := ⟨_, rfl⟩
  rw [hDD] at hD ⊢
  have hup : v m + D + 1 ≤ hi m := by
    have := at_bounds hle hD m hm; omega
  refine ⟨fun i hin => ?_, fun i k hik hkn g1 g2 g3 g4 g5 => ?_⟩
  · by_cases him : i = m
    · subst him; left; unfold cl; omega
    · rw [h2 i him]; exact hD.1 i hin
  · by_cases hkm : k = m
    · subst hkm; omega
    · rw [h2 k hkm] at g1
      have e := hD.2 i k hik hkn g1 g2 g3 g4 g5
      by_cases him : i = m
      · subst him
        have := hlast k hkn hik (by omega); omega
      · rw [h2 i him]; exact e
/-- No exchange of two units toward the front is without cost. -/
theorem at_still (hle : ∀ i, i < n → lo i ≤ hi i) {b : Int} (hx : At n v lo hi b x) {i k : Nat} (hik : i < k) (hk : k < n) (h1 : x i < hi i) (h2 : lo k < x k) : x k - v k ≠ x i - v i + 1 := by
  intro e
  have hli := hle i (by omega)
  have hlk := hle k hk
  rcases hx.1 i (by omega) with a | ⟨a, a2, a3⟩
  · rcases hx.1 k hk with c | ⟨c, c2, c3⟩
    · unfold cl at a c; omega
    · have hi1 : x i - v i = b := by omega
      by_cases he : lo i ≤ v i + b
      · have := hx.2 i k hik hk c c2 c3 he (by omega); omega
      · unfold cl at a; omega
  · rcases hx.1 k hk with c | ⟨c, c2, c3⟩
    · unfold cl at c; omega
    · omega
end

/-- The list as a function. -/
abbrev fn (l : List Int) (i : Nat) : Int := l.getD i 0
theorem sumTo_take (l : List Int) (k : Nat) (h : k ≤ l.length) : sumTo (fn l) k = (l.take k).sum := by
  induction k with
  | zero => simp [sumTo]
  | succ k ih => rw [take_sum_succ _ _ (by omega)]; simp only [sumTo]; rw [ih (by omega)]
theorem sumTo_list (l : List Int) : sumTo (fn l) l.length = l.sum := by
  have := sumTo_take l l.length (Nat.le_refl _)
  simpa using this
def IsAdj (vs lo hi : List Int) (t : Int) (xs : List Int) : Prop := xs.length = vs.length ∧ xs.sum = t ∧ ∃ b, At vs.length (fn vs) (fn lo) (fn hi) b (fn xs)
theorem isAdj_one {vs lo hi xs ys : List Int} {t : Int} (ho : Ordered lo hi) (hx : IsAdj vs lo hi t xs) (hy : IsAdj vs lo hi t ys) : xs = ys := by
  obtain ⟨l1, s1, b1, a1⟩ := hx
  obtain ⟨l2, s2, b2, a2⟩ := hy
  have h := at_uniq (fun i _ => ho i) a1 a2 (by rw [← l1, sumTo_list, s1, l1, ← l2, sumTo_list, s2])
  apply List.ext_getElem (by omega)
  intro i h1 h2
  have := h i (by omega)
  simpa [fn, List.getD, h1, h2] using this
theorem clampL_cl (vs lo hi : List Int) (b : Int) (i : Nat) (h : i < vs.length) : fn (clampL vs lo hi b) i = cl (fn vs) (fn lo) (fn hi) b i := clampL_getD _ _ _ _ _ h
theorem clampL_at (vs lo hi : List Int) (b : Int) : At vs.length (fn vs) (fn lo) (fn hi) b (fn (clampL vs lo hi b)) := by
  refine ⟨fun i hi => .inl (clampL_cl _ _ _ _ _ hi), fun i k hik hk h1 h2 h3 _ _ => ?_⟩
  rw [clampL_cl _ _ _ _ _ hk] at h1
  unfold cl at h1; omega
theorem clampL_sum (vs lo hi : List Int) (b : Int) : (clampL vs lo hi b).sum = sumTo (cl (fn vs) (fn lo) (fn hi) b) vs.length := by
  rw [← sumTo_list, clampL_len]
  exact sumTo_congr fun i hi => clampL_cl _ _ _ _ _ hi
end Go.Proofs.Ytkpliolafkdijaa
