/- Adjusted integers: they exist; no exchange of two units is nearer. Plain lemmas, no walk. -/
import Derived.Test.YtkpliolafkdijaaIsadj
namespace Go.Proofs.Ytkpliolafkdijaa
open Go.RowKit
set_option linter.unusedVariables false
set_option linter.unusedSimpArgs false

/-- Among the first n with p one whose f is least, and the first of those. -/
theorem least_first {p : Nat → Prop} {f : Nat → Int} : ∀ n, (∃ i, i < n ∧ p i) → ∃ m, m < n ∧ p m ∧ (∀ i, i < n → p i → f m ≤ f i) ∧ ∀ i, i < m → p i → f m < f i
  | 0, h => by obtain ⟨i, hi, _⟩ := h; omega
  | n + 1, h => by
    by_cases hn : ∃ i, i < n ∧ p i
    · obtain ⟨m, h1, h2, h3, h4⟩ := least_first (f := f) n hn
      by_cases hp : p n ∧ f n < f m
      · refine ⟨n, by omega, hp.1, fun i hi hpi => ?_, fun i hi hpi => ?_⟩
        · by_cases e : i = n
          · subst e; exact Int.le_refl _
          · have := h3 i (by omega) hpi; omega
        · have := h3 i hi hpi; omega
      · refine ⟨m, by omega, h2, fun i hi hpi => ?_, h4⟩
        by_cases e : i = n
        · subst e
          rcases Int.lt_or_le (f i) (f m) with h | h
          · exact absurd ⟨hpi, h⟩ hp
          · exact h
        · exact h3 i (by omega) hpi
    · obtain ⟨i, hi, hpi⟩ := h
      have e : i = n := by
        rcases Nat.lt_or_ge i n with h | h
        · exact absurd ⟨i, h, hpi⟩ hn
        · omega
      subst e
      refine ⟨i, hi, hpi, fun j hj hpj => ?_, fun j hj hpj => absurd ⟨j, hj, hpj⟩ hn⟩
      by_cases e : j = i
      · subst e; exact Int.le_refl _
      · exact absurd ⟨j, by omega, hpj⟩ hn
theorem low_all {f : Nat → Int} : ∀ n, ∃ b : Int, ∀ i, i < n → b < f i
  | 0 => ⟨0, fun i hi => absurd hi (by omega)⟩
  | n + 1 => by
    obtain ⟨b, hb⟩ := low_all (f := f) n
    refine ⟨min b (f n - 1), fun i hi => ?_⟩
    by_cases e : i = n
    · subst e; omega
    · have := hb i (by omega); omega
theorem at_exists {n : Nat} {v lo hi : Nat → Int} (hle : ∀ i, i < n → lo i ≤ hi i) : ∀ (d : Nat), sumTo lo n + d ≤ sumTo hi n → ∃ x b, At n v lo hi b x ∧ sumTo x n = sumTo lo n + d
  | 0, _ => by
    obtain ⟨b, hb⟩ := low_all (f := fun i => lo i - v i) n
    refine ⟨lo, b, ⟨fun i hi => .inl ?_, fun i k hik hk h1 h2 => ?_⟩, by omega⟩
    · have := hb i hi; have := hle i hi; unfold cl; omega
    · have := hb k hk; omega
  | d + 1, hd => by
    obtain ⟨x, b, hx, hs⟩ := at_exists hle d (by omega)
    have hex : ∃ i, i < n ∧ x i < hi i := by
      apply Classical.byContradiction
      intro hno
      have : sumTo hi n ≤ sumTo x n := sumTo_le fun i hin => by
        rcases Int.lt_or_le (x i) (hi i) with h | h
        · exact absurd ⟨i, hin, h⟩ hno
        · exact h
      omega
    obtain ⟨m, h1, h2, h3, h4⟩ := least_first (p := fun i => x i < hi i) (f := fun i => x i - v i) n hex
    let x' : Nat → Int := fun i => if i = m then x m + 1 else x i
    have e1 : x' m = x m + 1 := if_pos rfl
    have e2 : ∀ i, i ≠ m → x' i = x i := fun i hi => if_neg hi
    refine ⟨x', _, at_up hle hx h1 h2 h3 h4 e1 e2, ?_⟩
    have := sumTo_set (x := x) (x' := x') (k := m) e1 e2 n
    rw [this, if_pos h1, hs]
    omega
theorem isAdj_exists {vs lo hi : List Int} {t : Int} (hl : lo.length = vs.length) (hh : hi.length = vs.length) (ho : Ordered lo hi) (h1 : lo.sum ≤ t) (h2 : t ≤ hi.sum) : ∃ xs, IsAdj vs lo hi t xs := by
  have s1 : sumTo (fn lo) vs.length = lo.sum := by rw [← hl]; exact sumTo_list lo
  have s2 : sumTo (fn hi) vs.length = hi.sum := by rw [← hh]; exact sumTo_list hi
  obtain ⟨x, b, hx, hs⟩ := at_exists (v := fn vs) (lo := fn lo) (hi := fn hi) (n := vs.length) (fun i _ => ho i) (t - lo.sum).toNat (by omega)
  let xs : List Int := (List.range vs.length).map x
  have hxl : xs.length = vs.length := by simp [xs]
  have hfx : ∀ i, i < vs.length → fn xs i = x i := fun i hi => by simp [xs, fn, List.getD, hi]
  refine ⟨xs, hxl, ?_, b, ⟨fun i hi => by rw [hfx i hi]; exact hx.1 i hi, fun i k hik hk g1 g2 g3 g4 g5 => ?_⟩⟩
  · rw [← sumTo_list, hxl, sumTo_congr hfx, hs, s1]; omega
  · rw [hfx k hk] at g1
    rw [hfx i (by omega)]
    exact hx.2 i k hik hk g1 g2 g3 g4 g5
/-- No exchange of two units is nearer. -/
theorem isAdj_best {vs lo hi xs : List Int} {t : Int} {i k : Nat} (ho : Ordered lo hi) (h : IsAdj vs lo hi t xs) (hi' : i < vs.length) (hk : k < vs.length) (h1 : xs.getD i 0 < hi.getD i 0) (h2 : lo.getD k 0 < xs.getD k 0) :
    ¬ (((xs.getD i 0 - vs.getD i 0) + 1) * ((xs.getD i 0 - vs.getD i 0) + 1) + ((xs.getD k 0 - vs.getD k 0) - 1) * ((xs.getD k 0 - vs.getD k 0) - 1) < (xs.getD i 0 - vs.getD i 0) * (xs.getD i 0 - vs.getD i 0) + (xs.getD k 0 - vs.getD k 0) * (xs.getD k 0 - vs.getD k 0)) := by
  obtain ⟨_, _, b, ha⟩ := h
  have oi := ho i
  have ok := ho k
  have e1 : b ≤ xs.getD i 0 - vs.getD i 0 := by
    rcases ha.1 i hi' with h | ⟨h, _⟩
    · unfold cl fn at h; omega
    · unfold fn at h; omega
  have e2 : xs.getD k 0 - vs.getD k 0 ≤ b + 1 := by
    rcases ha.1 k hk with h | ⟨h, _⟩
    · unfold cl fn at h; omega
    · unfold fn at h; omega
  generalize xs.getD i 0 - vs.getD i 0 = a at *
  generalize xs.getD k 0 - vs.getD k 0 = c at *
  grind
/-- The list that is adjusted is adjusted. -/
theorem isaF_self {vs lo hi xs : List Int} {t : Int} (h1 : boundedB vs lo hi = true) (h2 : inB t (-1000000) 1000000 = true) (h3 : inB t lo.sum hi.sum = true) (h : IsAdj vs lo hi t xs) : isaF vs lo hi t xs = (true, true) := by
  have hl := limitsB_true.1 (boundedB_true.1 h1).2.1
  have ho := ordered_of hl.2.2.2 hl.2.2.1
  rw [isaF_in ho h1 h2 h3 h.1 (isAdj_in rfl ho h) h]
  simp [h.2.1]
end Go.Proofs.Ytkpliolafkdijaa
