/- The nearest integers within bounds that have a sum: what they are, that they are one, and how a step leads from one to the next. Plain lemmas on numbers and lists; no program, no walk. -/
import Derived.Test.YtikmgohjgdojdaaKB
import Derived.Test.YtikmgohjgdojdaaKG
import Derived.WalkSpells
namespace Go.Proofs.Ytikmgohjgdojdaa
open Go.RowKit
set_option linter.unusedVariables false
set_option linter.unusedSimpArgs false

section
variable {n : Nat} {v lo hi x y : Nat → Int}
def cl (v lo hi : Nat → Int) (b : Int) (i : Nat) : Int := min (max (v i + b) (lo i)) (hi i)
/-- Each number plus b within the bounds, and one more for the first few of those that one more raises. -/
def At (n : Nat) (v lo hi : Nat → Int) (b : Int) (x : Nat → Int) : Prop :=
  (∀ i, i < n → x i = cl v lo hi b i ∨ (x i = v i + b + 1 ∧ lo i ≤ v i + b ∧ v i + b < hi i)) ∧
  (∀ i k, i < k → k < n → x k = v k + b + 1 → lo k ≤ v k + b → v k + b < hi k → lo i ≤ v i + b → v i + b < hi i → x i = v i + b + 1)
def sumTo (x : Nat → Int) : Nat → Int
  | 0 => 0
  | k + 1 => sumTo x k + x k
theorem sumTo_le {x y : Nat → Int} {n : Nat} (h : ∀ i, i < n → x i ≤ y i) : sumTo x n ≤ sumTo y n := by
  induction n with
  | zero => exact Int.le_refl _
  | succ n ih =>
    have := ih (fun i hi => h i (by omega))
    have := h n (by omega)
    simp only [sumTo]; omega
theorem sumTo_eq {x y : Nat → Int} {n : Nat} (h : ∀ i, i < n → x i ≤ y i) (hs : sumTo x n = sumTo y n) : ∀ i, i < n → x i = y i := by
  induction n with
  | zero => intro i hi; omega
  | succ n ih =>
    have h1 := sumTo_le (n := n) (fun i hi => h i (by omega))
    have h2 := h n (by omega)
    simp only [sumTo] at hs
    intro i hi
    by_cases hin : i = n
    · subst hin; omega
    · exact ih (fun i hi => h i (by omega)) (by omega) i (by omega)
theorem sumTo_congr {x y : Nat → Int} {n : Nat} (h : ∀ i, i < n → x i = y i) : sumTo x n = sumTo y n := by
  induction n with
  | zero => rfl
  | succ n ih => simp only [sumTo]; rw [ih (fun i hi => h i (by omega)), h n (by omega)]
theorem at_bounds (hle : ∀ i, i < n → lo i ≤ hi i) {b : Int} (h : At n v lo hi b x) (i : Nat) (hin : i < n) : lo i ≤ x i ∧ x i ≤ hi i := by
  have := hle i hin
  rcases h.1 i hin with h1 | ⟨h1, h2, h3⟩
  · unfold cl at h1; omega
  · omega
/-- Two such lists with one sum are one. -/
theorem at_uniq (hle : ∀ i, i < n → lo i ≤ hi i) {b b' : Int} (hx : At n v lo hi b x) (hy : At n v lo hi b' y) (hs : sumTo x n = sumTo y n) : ∀ i, i < n → x i = y i := by
  have key : ∀ {b b' : Int} {x y : Nat → Int}, At n v lo hi b x → At n v lo hi b' y → b < b' → ∀ i, i < n → x i ≤ y i := by
    intro b b' x y hx hy hb i hin
    have := hle i hin
    have h2 : cl v lo hi b' i ≤ y i := by
      rcases hy.1 i hin with h1 | ⟨h1, h2, h3⟩
      · omega
      · unfold cl; omega
    have h3 : x i ≤ cl v lo hi b' i := by
      rcases hx.1 i hin with h1 | ⟨h1, h2, h3⟩
      · unfold cl at *; omega
      · unfold cl at *; omega
    omega
  rcases Int.lt_trichotomy b b' with hb | hb | hb
  · exact sumTo_eq (key hx hy hb) hs
  · subst hb
    by_cases hk : ∃ k, k < n ∧ (y k = v k + b + 1 ∧ lo k ≤ v k + b ∧ v k + b < hi k) ∧ x k ≠ v k + b + 1
    · obtain ⟨k, hkn, ⟨hy1, hy2, hy3⟩, hxk⟩ := hk
      refine sumTo_eq (fun i hin => ?_) hs
      have := hle i hin
      rcases hx.1 i hin with h1 | ⟨h1, h2, h3⟩
      · rcases hy.1 i hin with g1 | ⟨g1, g2, g3⟩
        · omega
        · unfold cl at h1; omega
      · by_cases hik : i < k
        · have := hy.2 i k hik hkn hy1 hy2 hy3 h2 h3; omega
        · by_cases hki : k < i
          · exact absurd (hx.2 k i hki hin h1 h2 h3 hy2 hy3) hxk
          · obtain rfl : i = k := by omega
            exact absurd h1 hxk
    · have h' : ∀ i, i < n → y i ≤ x i := by
        intro i hin
        have := hle i hin
        rcases hy.1 i hin with g1 | ⟨g1, g2, g3⟩
        · rcases hx.1 i hin with h1 | ⟨h1, h2, h3⟩
          · omega
          · unfold cl at g1; omega
        · have : x i = v i + b + 1 := by
            rcases Classical.em (x i = v i + b + 1) with h1 | h1
            · exact h1
            · exact absurd ⟨i, hin, ⟨g1, g2, g3⟩, h1⟩ hk
          omega
      intro i hin
      exact (sumTo_eq h' hs.symm i hin).symm
  · intro i hin
    exact (sumTo_eq (key hy hx hb) hs.symm i hin).symm
/-- At any level that no element short of its upper bound lies below. -/
theorem at_raise (hle : ∀ i, i < n → lo i ≤ hi i) {b D : Int} (hx : At n v lo hi b x) {m : Nat} (hm : m < n) (hmx : x m < hi m) (hD : x m = v m + D) (hmin : ∀ i, i < n → x i < hi i → D ≤ x i - v i) : At n v lo hi D x := by
  have hbD : b ≤ D := by
    have := hle m hm
    rcases hx.1 m hm with h1 | ⟨h1, h2, h3⟩
    · unfold cl at h1; omega
    · omega
  by_cases hb : D = b
  · subst hb; exact hx
  have all : ∀ i, i < n → x i = cl v lo hi D i := by
    intro i hin
    have := hle i hin
    have hm' := hmin i hin
    rcases hx.1 i hin with h1 | ⟨h1, h2, h3⟩
    · unfold cl at *
      by_cases hf : x i < hi i
      · have := hm' hf; omega
      · omega
    · unfold cl
      by_cases hf : x i < hi i
      · have := hm' hf; omega
      · omega
  refine ⟨fun i hin => .inl (all i hin), fun i k hik hkn h1 h2 h3 _ _ => ?_⟩
  have := all k hkn
  unfold cl at this
  omega
theorem at_up (hle : ∀ i, i < n → lo i ≤ hi i) {b : Int} (hx : At n v lo hi b x) {m : Nat} (hm : m < n) (hmx : x m < hi m) (hmin : ∀ i, i < n → x i < hi i → x m - v m ≤ x i - v i) (hfirst : ∀ i, i < m → x i < hi i → x m - v m < x i - v i)
    {x' : Nat → Int} (h1 : x' m = x m + 1) (h2 : ∀ i, i ≠ m → x' i = x i) : At n v lo hi (x m - v m) x' := by
  have hD := at_raise hle hx hm hmx (D := x m - v m) (by omega) hmin
  obtain ⟨D, hDD⟩ : ∃ D, x m - v m = D := ⟨_, rfl⟩
  rw [hDD] at hD hmin hfirst ⊢
  have hlo : lo m ≤ v m + D := by
    have := at_bounds hle hD m hm; omega
  refine ⟨fun i hin => ?_, fun i k hik hkn g1 g2 g3 g4 g5 => ?_⟩
  · by_cases him : i = m
    · subst him; right; omega
    · rw [h2 i him]; exact hD.1 i hin
  · by_cases him : i = m
    · subst him; omega
    · rw [h2 i him]
      by_cases hkm : k = m
      · subst hkm
        -- an earlier one that one more raises is raised already
        have hin : i < n := by omega
        rcases hD.1 i hin with e | ⟨e, _⟩
        · have e' : x i = v i + D := by unfold cl at e; omega
          have := hfirst i hik (by omega); omega
        · exact e
      · rw [h2 k hkm] at g1
        exact hD.2 i k hik hkn g1 g2 g3 g4 g5
theorem at_lower (hle : ∀ i, i < n → lo i ≤ hi i) {b D : Int} (hx : At n v lo hi b x) {m : Nat} (hm : m < n) (hmx : lo m < x m) (hD : x m = v m + D + 1) (hmax : ∀ i, i < n → lo i < x i → x i - v i ≤ D + 1) : At n v lo hi D x := by
  have hbD : D ≤ b := by
    have := hle m hm
    rcases hx.1 m hm with h1 | ⟨h1, h2, h3⟩
    · unfold cl at h1; omega
    · omega
  by_cases hb : D = b
  · subst hb; exact hx
  have all : ∀ i, i < n → x i = cl v lo hi (D + 1) i := by
    intro i hin
    have := hle i hin
    have hm' := hmax i hin
    rcases hx.1 i hin with h1 | ⟨h1, h2, h3⟩
    · unfold cl at *
      by_cases hf : lo i < x i
      · have := hm' hf; omega
      · omega
    · unfold cl
      by_cases hf : lo i < x i
      · have := hm' hf; omega
      · omega
  refine ⟨fun i hin => ?_, fun i k hik hkn h1 h2 h3 h4 h5 => ?_⟩
  · have := all i hin
    have := hle i hin
    by_cases he : lo i ≤ v i + D ∧ v i + D < hi i
    · right; unfold cl at *; omega
    · left; unfold cl at *; omega
  · have := all i (by omega)
    unfold cl at this; omega
theorem at_down (hle : ∀ i, i < n → lo i ≤ hi i) {b : Int} (hx : At n v lo hi b x) {m : Nat} (hm : m < n) (hmx : lo m < x m) (hmax : ∀ i, i < n → lo i < x i → x i - v i ≤ x m - v m) (hlast : ∀ i, i < n → m < i → lo i < x i → x i - v i < x m - v m)
    {x' : Nat → Int} (h1 : x' m = x m - 1) (h2 : ∀ i, i ≠ m → x' i = x i) : At n v lo hi (x m - v m - 1) x' := by
  have hD := at_lower hle hx hm hmx (D := x m - v m - 1) (by omega) (fun i hi hl => by have := hmax i hi hl; omega)
  obtain ⟨D, hDD⟩ : ∃ D, x m - v m - 1 = D := ⟨_, rfl⟩
  rw [hDD] at hD ⊢
  have hup : v m + D + 1 ≤ hi m := by
    have := at_bounds hle hD m hm; omega
  refine ⟨fun i hin => ?_, fun i k hik hkn g1 g2 g3 g4 g5 => ?_⟩
  · by_cases him : i = m
    · subst him; left; unfold cl; omega
    · rw [h2 i him]; exact hD.1 i hin
  · by_cases hkm : k = m
    · subst hkm; omega
    · rw [h2 k hkm] at g1
      have e := hD.2 i k hik hkn g1 g2 g3 g4 g5
      by_cases him : i = m
      · subst him
        have := hlast k hkn hik (by omega); omega
      · rw [h2 i him]; exact e
/-- No exchange of two units toward the front is without cost. -/
theorem at_still (hle : ∀ i, i < n → lo i ≤ hi i) {b : Int} (hx : At n v lo hi b x) {i k : Nat} (hik : i < k) (hk : k < n) (h1 : x i < hi i) (h2 : lo k < x k) : x k - v k ≠ x i - v i + 1 := by
  intro e
  have hli := hle i (by omega)
  have hlk := hle k hk
  rcases hx.1 i (by omega) with a | ⟨a, a2, a3⟩
  · rcases hx.1 k hk with c | ⟨c, c2, c3⟩
    · unfold cl at a c; omega
    · have hi1 : x i - v i = b := by omega
      by_cases he : lo i ≤ v i + b
      · have := hx.2 i k hik hk c c2 c3 he (by omega); omega
      · unfold cl at a; omega
  · rcases hx.1 k hk with c | ⟨c, c2, c3⟩
    · unfold cl at c; omega
    · omega
end

/-- The list as a function. -/
abbrev fn (l : List Int) (i : Nat) : Int := l.getD i 0
theorem sumTo_take (l : List Int) (k : Nat) (h : k ≤ l.length) : sumTo (fn l) k = (l.take k).sum := by
  induction k with
  | zero => simp [sumTo]
  | succ k ih => rw [take_sum_succ _ _ (by omega)]; simp only [sumTo]; rw [ih (by omega)]
theorem sumTo_list (l : List Int) : sumTo (fn l) l.length = l.sum := by
  have := sumTo_take l l.length (Nat.le_refl _)
  simpa using this
def IsAdj (vs lo hi : List Int) (t : Int) (xs : List Int) : Prop := xs.length = vs.length ∧ xs.sum = t ∧ ∃ b, At vs.length (fn vs) (fn lo) (fn hi) b (fn xs)
theorem isAdj_one {vs lo hi xs ys : List Int} {t : Int} (ho : Ordered lo hi) (hx : IsAdj vs lo hi t xs) (hy : IsAdj vs lo hi t ys) : xs = ys := by
  obtain ⟨l1, s1, b1, a1⟩ := hx
  obtain ⟨l2, s2, b2, a2⟩ := hy
  have h := at_uniq (fun i _ => ho i) a1 a2 (by rw [← l1, sumTo_list, s1, l1, ← l2, sumTo_list, s2])
  apply List.ext_getElem (by omega)
  intro i h1 h2
  have := h i (by omega)
  simpa [fn, List.getD, h1, h2] using this
theorem clampL_cl (vs lo hi : List Int) (b : Int) (i : Nat) (h : i < vs.length) : fn (clampL vs lo hi b) i = cl (fn vs) (fn lo) (fn hi) b i := clampL_getD _ _ _ _ _ h
theorem clampL_at (vs lo hi : List Int) (b : Int) : At vs.length (fn vs) (fn lo) (fn hi) b (fn (clampL vs lo hi b)) := by
  refine ⟨fun i hi => .inl (clampL_cl _ _ _ _ _ hi), fun i k hik hk h1 h2 h3 _ _ => ?_⟩
  rw [clampL_cl _ _ _ _ _ hk] at h1
  unfold cl at h1; omega
theorem clampL_sum (vs lo hi : List Int) (b : Int) : (clampL vs lo hi b).sum = sumTo (cl (fn vs) (fn lo) (fn hi) b) vs.length := by
  rw [← sumTo_list, clampL_len]
  exact sumTo_congr fun i hi => clampL_cl _ _ _ _ _ hi
end Go.Proofs.Ytikmgohjgdojdaa

/- adjusted, of the program: the nearest integers within bounds that have a sum. -/
namespace Go.Proofs.Ytikmgohjgdojdaa
open Go.RowKit
set_option linter.unusedVariables false
set_option linter.unusedSimpArgs false

theorem clampL_low {vs lo hi : List Int} (hv : Bd 1000000 vs) (hl : Bd 1000000 lo) (ho : Ordered lo hi) (h1 : lo.length = vs.length) : clampL vs lo hi (-4000000) = lo := by
  apply List.ext_getElem
  · rw [clampL_len]; exact h1.symm
  · intro i a b
    rw [clampL_len] at a
    have := clampL_getD vs lo hi (-4000000) i a
    have h2 := hv i
    have h3 := hl i
    have h4 := ho i
    have e : (clampL vs lo hi (-4000000)).getD i 0 = lo.getD i 0 := by rw [this]; omega
    simpa [List.getD, a, b, clampL_len] using e
theorem clampL_high {vs lo hi : List Int} (hv : Bd 1000000 vs) (hl : Bd 1000000 hi) (ho : Ordered lo hi) (h1 : hi.length = vs.length) : clampL vs lo hi 4000000 = hi := by
  apply List.ext_getElem
  · rw [clampL_len]; exact h1.symm
  · intro i a b
    rw [clampL_len] at a
    have := clampL_getD vs lo hi 4000000 i a
    have h2 := hv i
    have h3 := hl i
    have h4 := ho i
    have e : (clampL vs lo hi 4000000).getD i 0 = hi.getD i 0 := by rw [this]; omega
    simpa [List.getD, a, b, clampL_len] using e
theorem clampL_bd {vs lo hi : List Int} {b : Int} (hl : Bd 1000000 lo) (hh : Bd 1000000 hi) (ho : Ordered lo hi) : Bd 1000000 (clampL vs lo hi b) := by
  intro i
  by_cases hi' : i < vs.length
  · rw [clampL_getD _ _ _ _ _ hi']
    have h2 := hh i
    have h3 := hl i
    have h4 := ho i
    omega
  · simp [List.getD, List.getElem?_eq_none (show (clampL vs lo hi b).length ≤ i by rw [clampL_len]; omega)]

/-- Of the elements at level b the first k have been looked at, m units are still to be given. -/
def Stage (n : Nat) (v lo hi : Nat → Int) (b t : Int) (x : Nat → Int) (k : Nat) (m : Int) : Prop :=
  (∀ i, k ≤ i → i < n → x i = cl v lo hi b i) ∧ (∀ i, i < k → i < n → x i = cl v lo hi b i ∨ (x i = v i + b + 1 ∧ lo i ≤ v i + b ∧ v i + b < hi i)) ∧
  (∀ i j, i < j → j < k → j < n → x j = v j + b + 1 → lo j ≤ v j + b → v j + b < hi j → lo i ≤ v i + b → v i + b < hi i → x i = v i + b + 1) ∧
  (0 < m → ∀ i, i < k → i < n → lo i ≤ v i + b → v i + b < hi i → x i = v i + b + 1) ∧ sumTo x n + m = t ∧ 0 ≤ m
section
variable {n : Nat} {v lo hi x x' : Nat → Int} {b t m : Int} {k : Nat}
theorem sumTo_set {x x' : Nat → Int} {k : Nat} (h1 : x' k = x k + 1) (h2 : ∀ i, i ≠ k → x' i = x i) : ∀ n, sumTo x' n = sumTo x n + (if k < n then 1 else 0) := by
  intro n
  induction n with
  | zero => simp [sumTo]
  | succ n ih =>
    simp only [sumTo]
    rw [ih]
    by_cases hn : n = k
    · subst hn; rw [h1, if_neg (by omega), if_pos (by omega)]; omega
    · rw [h2 n hn]
      by_cases hk : k < n
      · rw [if_pos hk, if_pos (by omega)]; omega
      · rw [if_neg hk, if_neg (by omega)]; omega
theorem stage_skip (h : Stage n v lo hi b t x k m) (hk : k < n) (hle : lo k ≤ hi k) (hno : 0 < m → cl v lo hi (b + 1) k ≤ x k) : Stage n v lo hi b t x (k + 1) m := by
  obtain ⟨h1, h2, h3, h4, h5, h6⟩ := h
  have hk1 := h1 k (Nat.le_refl _) hk
  refine ⟨fun i hi hn => h1 i (by omega) hn, fun i hi hn => ?_, fun i j hij hj hjn a b' c d e => ?_, fun hm i hi hn a b' => ?_, h5, h6⟩
  · by_cases hik : i = k
    · subst hik; exact .inl hk1
    · exact h2 i (by omega) hn
  · by_cases hjk : j = k
    · subst hjk; unfold cl at hk1; omega
    · exact h3 i j hij (by omega) hjn a b' c d e
  · by_cases hik : i = k
    · subst hik; have := hno hm; unfold cl at *; omega
    · exact h4 hm i (by omega) hn a b'
theorem stage_take (h : Stage n v lo hi b t x k m) (hk : k < n) (hm : 0 < m) (hyes : x k < cl v lo hi (b + 1) k) (hle : lo k ≤ hi k) (e1 : x' k = x k + 1) (e2 : ∀ i, i ≠ k → x' i = x i) : Stage n v lo hi b t x' (k + 1) (m - 1) := by
  obtain ⟨h1, h2, h3, h4, h5, h6⟩ := h
  have hk1 := h1 k (Nat.le_refl _) hk
  have hel : lo k ≤ v k + b ∧ v k + b < hi k ∧ x k = v k + b := by unfold cl at *; omega
  refine ⟨fun i hi hn => by rw [e2 i (by omega)]; exact h1 i (by omega) hn, fun i hi hn => ?_, fun i j hij hj hjn a b' c d e => ?_, fun hm' i hi hn a b' => ?_, ?_, by omega⟩
  · by_cases hik : i = k
    · subst hik; right; omega
    · rw [e2 i hik]; exact h2 i (by omega) hn
  · rw [e2 i (by omega)]
    exact h4 hm i (by omega) (by omega) d e
  · by_cases hik : i = k
    · subst hik; omega
    · rw [e2 i hik]; exact h4 hm i (by omega) hn a b'
  · rw [sumTo_set e1 e2 n, if_pos hk]; omega
theorem stage_start (hx : ∀ i, i < n → x i = cl v lo hi b i) (hm : sumTo x n + m = t) (h0 : 0 ≤ m) : Stage n v lo hi b t x 0 m :=
  ⟨fun i _ hn => hx i hn, fun i hi => absurd hi (by omega), fun i j hij hj => absurd hj (by omega), fun _ i hi => absurd hi (by omega), hm, h0⟩
theorem stage_end (h : Stage n v lo hi b t x n m) (hle : ∀ i, i < n → lo i ≤ hi i) (hs : t ≤ sumTo (cl v lo hi (b + 1)) n) : At n v lo hi b x ∧ sumTo x n = t := by
  obtain ⟨h1, h2, h3, h4, h5, h6⟩ := h
  have hm : m = 0 := by
    rcases Int.lt_or_le 0 m with hm | hm
    · have : sumTo x n = sumTo (cl v lo hi (b + 1)) n := sumTo_congr fun i hi' => by
        have := hle i hi'
        by_cases he : lo i ≤ v i + b ∧ v i + b < hi i
        · have := h4 hm i hi' hi' he.1 he.2
          unfold cl; omega
        · rcases h2 i hi' hi' with e | e
          · unfold cl at *; omega
          · omega
      omega
    · omega
  exact ⟨⟨fun i hi' => h2 i hi' hi', fun i k hik hk a b' c d e => h3 i k hik hk hk a b' c d e⟩, by omega⟩
end

end Go.Proofs.Ytikmgohjgdojdaa

/- iAdjust, of the reference: the nearest integers within bounds that have a sum. -/
namespace Go.Proofs.Ytikmgohjgdojdaa
open Go.RowKit
set_option linter.unusedVariables false
set_option linter.unusedSimpArgs false

def boolOf : Value → Nat | .bool true => 1 | _ => 0
def stepV (d s : Int) : Int := (d + s) * (d + s) - d * d
theorem stepV_up (d : Int) : stepV d 1 = 2 * d + 1 := by unfold stepV; rw [Int.add_mul, Int.mul_add]; omega
theorem stepV_dn (d : Int) : stepV d (-1) = -2 * d + 1 := by unfold stepV; rw [Int.add_mul, Int.mul_add]; omega
def dif (xs vs : List Int) (j : Nat) : Int := xs.getD j 0 - vs.getD j 0
theorem dif_fn (xs vs : List Int) (j : Nat) : dif xs vs j = fn xs j - fn vs j := rfl

end Go.Proofs.Ytikmgohjgdojdaa

/- PossibleTotals and RaiseToBounds, of the reference and of the program; and the laws. -/
namespace Go.Proofs.Ytikmgohjgdojdaa
open Go.RowKit
set_option linter.unusedVariables false
set_option linter.unusedSimpArgs false

theorem ret3_iib {a b c d : Int} {p q : Bool} (h1 : a = c) (h2 : b = d) (h3 : p = q) : Ending.returned (.tuple #[.int .i64 a, .int .i64 b, .bool p]) = .returned (.tuple #[.int .i64 c, .int .i64 d, .bool q]) := by rw [h1, h2, h3]
def ptF (lo hi : List Int) : Int × Int × Bool := if limitsB lo hi then (lo.sum, hi.sum, true) else (0, 0, false)
theorem ptF_no {lo hi : List Int} (h : limitsB lo hi = false) : ptF lo hi = (0, 0, false) := by simp [ptF, h]
theorem ptF_yes {lo hi : List Int} (h : limitsB lo hi = true) : ptF lo hi = (lo.sum, hi.sum, true) := by simp [ptF, h]
end Go.Proofs.Ytikmgohjgdojdaa

/- AdjustTo and IsAdjusted, of the reference and of the program; and the laws. -/
namespace Go.Proofs.Ytikmgohjgdojdaa
open Go.RowKit
set_option linter.unusedVariables false
set_option linter.unusedSimpArgs false

def AdjR (vs lo hi : List Int) (t : Int) (xs : List Int) (ok : Bool) : Prop :=
  if (boundedB vs lo hi && inB t (-1000000) 1000000 && inB t lo.sum hi.sum) = true then ok = true ∧ IsAdj vs lo hi t xs else xs = [] ∧ ok = false
theorem adjR_no {vs lo hi : List Int} {t : Int} (h : (boundedB vs lo hi && inB t (-1000000) 1000000 && inB t lo.sum hi.sum) = false) : AdjR vs lo hi t [] false := by
  unfold AdjR; rw [h]; exact ⟨rfl, rfl⟩
theorem adjR_yes {vs lo hi xs : List Int} {t : Int} (h1 : boundedB vs lo hi = true) (h2 : inB t (-1000000) 1000000 = true) (h3 : inB t lo.sum hi.sum = true) (h : IsAdj vs lo hi t xs) : AdjR vs lo hi t xs true := by
  unfold AdjR; rw [h1, h2, h3]; exact ⟨rfl, h⟩
theorem bounded_ordered {vs lo hi : List Int} (h : boundedB vs lo hi = true) : Ordered lo hi := by
  have h1 := limitsB_true.1 (boundedB_true.1 h).2.1
  exact ordered_of h1.2.2.2 h1.2.2.1
theorem AdjR_one (vs lo hi : List Int) (t : Int) : ∃ (r0 : List Int) (r1 : Bool), Hid (∀ a b, AdjR vs lo hi t a b → r0 = a ∧ r1 = b) := by
  by_cases hc : (boundedB vs lo hi && inB t (-1000000) 1000000 && inB t lo.sum hi.sum) = true
  · by_cases hx : ∃ x, IsAdj vs lo hi t x
    · obtain ⟨x, hx⟩ := hx
      refine ⟨x, true, fun a b h => ?_⟩
      unfold AdjR at h
      rw [if_pos hc] at h
      simp only [Bool.and_eq_true] at hc
      exact ⟨(isAdj_one (bounded_ordered hc.1.1) h.2 hx).symm, h.1.symm⟩
    · refine ⟨[], true, fun a b h => ?_⟩
      unfold AdjR at h
      rw [if_pos hc] at h
      exact absurd ⟨a, h.2⟩ hx
  · refine ⟨[], false, fun a b h => ?_⟩
    unfold AdjR at h
    rw [if_neg hc] at h
    exact ⟨h.1.symm, h.2.symm⟩


end Go.Proofs.Ytikmgohjgdojdaa

/- IsAdjusted, of the reference and of the program; and the law. -/
namespace Go.Proofs.Ytikmgohjgdojdaa
open Go.RowKit
set_option linter.unusedVariables false
set_option linter.unusedSimpArgs false

theorem sqd_comm (xs ys : List Int) (k : Nat) : sqd xs ys k = sqd ys xs k := by
  induction k with
  | zero => rfl
  | succ k ih =>
    rw [sqd_succ, sqd_succ, ih]
    have e : ys.getD k 0 - xs.getD k 0 = -(xs.getD k 0 - ys.getD k 0) := by omega
    rw [e, Int.neg_mul_neg]
/-- The first k numbers lie within their bounds. -/
def InB (lo hi xs : List Int) (k : Nat) : Prop := ∀ j, j < k → lo.getD j 0 ≤ xs.getD j 0 ∧ xs.getD j 0 ≤ hi.getD j 0
theorem inB_succ {lo hi xs : List Int} {k : Nat} (h : InB lo hi xs k) {a x b : Int} (ha : a = lo.getD k 0) (hx : x = xs.getD k 0) (hb : b = hi.getD k 0) (h1 : a ≤ x) (h2 : x ≤ b) : InB lo hi xs (k + 1) := by
  intro j hj
  by_cases hjk : j = k
  · subst hjk; rw [← ha, ← hx, ← hb]; exact ⟨h1, h2⟩
  · exact h j (by omega)
theorem inB_no {lo hi xs : List Int} {n k : Nat} (hk : k < n) {a x b : Int} (ha : a = lo.getD k 0) (hx : x = xs.getD k 0) (hb : b = hi.getD k 0) (h : x < a ∨ b < x) : ¬ InB lo hi xs n := by
  intro h1
  have := h1 k hk
  rw [← ha, ← hx, ← hb] at this
  omega
theorem InB.bd {lo hi xs : List Int} {n : Nat} {B : Int} (h : InB lo hi xs n) (hl : xs.length = n) (h1 : Bd B lo) (h2 : Bd B hi) : Bd B xs := by
  intro j
  have a := h1 j
  have b := h2 j
  by_cases hj : j < n
  · have := h j hj; omega
  · have e : xs.getD j 0 = 0 := by simp [List.getD, List.getElem?_eq_none (show xs.length ≤ j by omega)]
    rw [e]; omega
theorem isAdj_in {vs lo hi xs : List Int} {t : Int} {n : Nat} (hn : vs.length = n) (ho : Ordered lo hi) (h : IsAdj vs lo hi t xs) : InB lo hi xs n := by
  subst hn
  obtain ⟨_, _, b, h1, _⟩ := h
  intro j hj
  have ho := ho j
  have := h1 j hj
  simp only [fn, cl] at this
  omega

open Classical in
/-- What IsAdjusted answers: whether the numbers have the sum and are as near as the nearest. -/
noncomputable def isaF (vs lo hi : List Int) (t : Int) (xs : List Int) : Bool × Bool :=
  if (boundedB vs lo hi && inB t (-1000000) 1000000) = true then
    (if inB t lo.sum hi.sum = true ∧ xs.length = vs.length ∧ InB lo hi xs vs.length then (decide (xs.sum = t) && decide (∃ best, IsAdj vs lo hi t best ∧ sqd vs xs vs.length = sqd vs best vs.length), true) else (false, true))
  else (false, false)
theorem isaF_no {vs lo hi xs : List Int} {t : Int} (h : (boundedB vs lo hi && inB t (-1000000) 1000000) = false) : isaF vs lo hi t xs = (false, false) := by
  unfold isaF; rw [h]; rfl
theorem isaF_out {vs lo hi xs : List Int} {t : Int} (h1 : boundedB vs lo hi = true) (h2 : inB t (-1000000) 1000000 = true) (h : ¬ (inB t lo.sum hi.sum = true ∧ xs.length = vs.length ∧ InB lo hi xs vs.length)) : isaF vs lo hi t xs = (false, true) := by
  unfold isaF; rw [h1, h2, if_pos (by rfl), if_neg h]
theorem isaF_in {vs lo hi xs best : List Int} {t : Int} (ho : Ordered lo hi) (h1 : boundedB vs lo hi = true) (h2 : inB t (-1000000) 1000000 = true) (h3 : inB t lo.sum hi.sum = true) (h4 : xs.length = vs.length) (h5 : InB lo hi xs vs.length) (hb : IsAdj vs lo hi t best) :
    isaF vs lo hi t xs = ((xs.sum == t) && (sqd vs xs vs.length == sqd vs best vs.length), true) := by
  unfold isaF
  rw [h1, h2, if_pos (by rfl), if_pos ⟨h3, h4, h5⟩]
  congr 1
  have e : (∃ best, IsAdj vs lo hi t best ∧ sqd vs xs vs.length = sqd vs best vs.length) ↔ sqd vs xs vs.length = sqd vs best vs.length := by
    constructor
    · rintro ⟨b, hb', h⟩
      rw [h, isAdj_one ho hb' hb]
    · intro h; exact ⟨best, hb, h⟩
  generalize (∃ best, IsAdj vs lo hi t best ∧ sqd vs xs vs.length = sqd vs best vs.length) = P at *
  generalize (sqd vs xs vs.length) = x1 at *
  generalize (sqd vs best vs.length) = x2 at *
  by_cases ha : xs.sum = t <;> by_cases hc : x1 = x2 <;> simp [ha, hc, e]

end Go.Proofs.Ytikmgohjgdojdaa

