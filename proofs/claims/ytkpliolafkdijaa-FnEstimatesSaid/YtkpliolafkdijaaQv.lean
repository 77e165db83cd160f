/- The value of a fraction as a rational number; what the steps over fractions add up. Plain lemmas, no walk. -/
import Derived.Test.YtkpliolafkdijaaAcc
namespace Go.Proofs.Ytkpliolafkdijaa
open Go.RowKit
set_option linter.unusedVariables false
set_option linter.unusedSimpArgs false

def qv (x y : Int) : Rat := (x : Rat) / (y : Rat)
theorem rat_ne {y : Int} (h : y ≠ 0) : (y : Rat) ≠ 0 := by exact_mod_cast h
theorem rat_pos {y : Int} (h : 0 < y) : (0 : Rat) < (y : Rat) := by exact_mod_cast h
theorem rat_nonneg {y : Int} (h : 0 ≤ y) : (0 : Rat) ≤ (y : Rat) := by exact_mod_cast h
theorem rat_le {x y : Int} (h : x ≤ y) : (x : Rat) ≤ (y : Rat) := by exact_mod_cast h
theorem rat_lt {x y : Int} (h : x < y) : (x : Rat) < (y : Rat) := by exact_mod_cast h
theorem rat_mul_pos {x y : Rat} (hx : 0 < x) (hy : 0 < y) : 0 < x * y := Rat.mul_pos hx hy
theorem qv_mul {x y : Int} (h : y ≠ 0) : qv x y * (y : Rat) = x := by
  have := rat_ne h
  unfold qv
  grind
/-- a b = c d of whole numbers, as rational ones. -/
theorem rat_cross {a b c d : Int} (h : a * b = c * d) : (a : Rat) * b = c * d := by exact_mod_cast h
theorem qv_eq {a b c d : Int} (hb : b ≠ 0) (hd : d ≠ 0) : qv a b = qv c d ↔ a * d = c * b := by
  have hb' := rat_ne hb
  have hd' := rat_ne hd
  constructor
  · intro h
    have : (a : Rat) * d = c * b := by unfold qv at h; grind
    exact_mod_cast this
  · intro h
    have := rat_cross h
    unfold qv
    grind
theorem qv_le {a b c d : Int} (hb : 0 < b) (hd : 0 < d) : qv a b ≤ qv c d ↔ a * d ≤ c * b := by
  have hb' := rat_pos hb
  have hd' := rat_pos hd
  have e1 := qv_mul (x := a) (y := b) (by omega)
  have e2 := qv_mul (x := c) (y := d) (by omega)
  have hbd := rat_mul_pos hb' hd'
  constructor
  · intro h
    have h2 := Rat.mul_le_mul_of_nonneg_right h (Rat.le_of_lt hbd)
    have g1 : qv a b * ((b : Rat) * d) = a * d := by rw [← e1]; grind
    have g2 : qv c d * ((b : Rat) * d) = c * b := by rw [← e2]; grind
    rw [g1, g2] at h2
    exact_mod_cast h2
  · intro h
    have h1 : (a : Rat) * d ≤ c * b := by exact_mod_cast h
    have g1 : qv a b * ((b : Rat) * d) = a * d := by rw [← e1]; grind
    have g2 : qv c d * ((b : Rat) * d) = c * b := by rw [← e2]; grind
    rcases Rat.le_total (a := qv a b) (b := qv c d) with h2 | h2
    · exact h2
    · have h3 := Rat.mul_le_mul_of_nonneg_right h2 (Rat.le_of_lt hbd)
      rw [g1, g2] at h3
      have h4 : (c : Rat) * b = a * d := Rat.le_antisymm h3 h1
      have h5 : qv a b = qv c d := by
        rw [qv_eq (by omega) (by omega)]
        have : (a : Rat) * d = c * b := h4.symm
        exact_mod_cast this
      rw [h5]; exact Rat.le_refl
theorem qv_lt {a b c d : Int} (hb : 0 < b) (hd : 0 < d) : qv a b < qv c d ↔ a * d < c * b := by
  have := qv_le (a := c) (c := a) hd hb
  rw [← Rat.not_le, this]
  omega
theorem mkF_one {n d a b : Int} (hd : d ≠ 0) (h : mkF n d = (a, b, true)) : a * d = n * b ∧ 1 ≤ b := by
  refine ⟨?_, (fracB_true.1 ((Fine.mk n d).ok h)).1.1⟩
  rw [mkF_red hd] at h
  unfold red at h
  split at h
  · injection h with h1 h2
    injection h2 with h2 _
    have hg := gcd_pos (n := n) (d := d) hd
    obtain ⟨u, hu⟩ := Int.gcd_dvd_left n d
    obtain ⟨v, hv⟩ := Int.gcd_dvd_right n d
    have e1 : n / (Int.gcd n d : Int) = u := Int.ediv_eq_of_eq_mul_right (by omega) hu
    have e2 : d / (Int.gcd n d : Int) = v := Int.ediv_eq_of_eq_mul_right (by omega) hv
    unfold redN at h1
    unfold redD at h2
    rw [e1] at h1
    rw [e2] at h2
    generalize (Int.gcd n d : Int) = g at *
    split at h1
    · rw [if_pos (by assumption)] at h2
      grind
    · rw [if_neg (by assumption)] at h2
      grind
  · cases h
theorem mkF_qv {n d a b : Int} (hd : d ≠ 0) (h : mkF n d = (a, b, true)) : qv a b = qv n d ∧ 1 ≤ b := by
  have := mkF_one hd h
  exact ⟨(qv_eq (by omega) hd).2 this.1, this.2⟩
theorem mkF_add {a b x y r s : Int} (hb : 1 ≤ b) (hy : 1 ≤ y) (h : mkF (a * y + x * b) (b * y) = (r, s, true)) : qv r s = qv a b + qv x y ∧ 1 ≤ s := by
  have hb' := rat_pos (show 0 < b by omega)
  have hy' := rat_pos (show 0 < y by omega)
  have h1 := mkF_qv (by have := Int.mul_pos (show 0 < b by omega) (show 0 < y by omega); omega) h
  refine ⟨?_, h1.2⟩
  rw [h1.1]
  unfold qv
  simp only [Rat.intCast_add, Rat.intCast_mul]
  grind
theorem mkF_sub {a b x y r s : Int} (hb : 1 ≤ b) (hy : 1 ≤ y) (h : mkF (a * y - x * b) (b * y) = (r, s, true)) : qv r s = qv a b - qv x y ∧ 1 ≤ s := by
  have hb' := rat_pos (show 0 < b by omega)
  have hy' := rat_pos (show 0 < y by omega)
  have h1 := mkF_qv (by have := Int.mul_pos (show 0 < b by omega) (show 0 < y by omega); omega) h
  refine ⟨?_, h1.2⟩
  rw [h1.1]
  unfold qv
  simp only [Rat.intCast_sub, Rat.intCast_mul]
  grind
theorem mkF_mul {a b x y r s : Int} (hb : 1 ≤ b) (hy : 1 ≤ y) (h : mkF (a * x) (b * y) = (r, s, true)) : qv r s = qv a b * qv x y ∧ 1 ≤ s := by
  have hb' := rat_pos (show 0 < b by omega)
  have hy' := rat_pos (show 0 < y by omega)
  have h1 := mkF_qv (by have := Int.mul_pos (show 0 < b by omega) (show 0 < y by omega); omega) h
  refine ⟨?_, h1.2⟩
  rw [h1.1]
  unfold qv
  simp only [Rat.intCast_mul]
  grind
theorem mkF_div {a b x y r s : Int} (hb : 1 ≤ b) (hy : 1 ≤ y) (hx : x ≠ 0) (h : mkF (a * y) (b * x) = (r, s, true)) : qv r s = qv a b / qv x y ∧ 1 ≤ s := by
  have hb' := rat_pos (show 0 < b by omega)
  have hy' := rat_pos (show 0 < y by omega)
  have hx' := rat_ne hx
  have h1 := mkF_qv (Int.mul_ne_zero (by omega) hx) h
  refine ⟨?_, h1.2⟩
  rw [h1.1]
  unfold qv
  simp only [Rat.intCast_mul]
  grind
theorem qv_one (n : Int) : qv n 1 = n := by unfold qv; grind
theorem cmpQ_le {a b c d : Int} (hb : 1 ≤ b) (hd : 1 ≤ d) (h : qv a b ≤ qv c d) : cmpQ a b c d ≤ 0 := by
  have := (qv_le (by omega) (by omega)).1 h
  unfold cmpQ
  split
  · omega
  · rw [if_neg (by omega)]; omega

def qsum (t : Nat → Rat) : Nat → Rat
  | 0 => 0
  | k + 1 => qsum t k + t k
theorem qsum_congr {t t' : Nat → Rat} {n : Nat} (h : ∀ j, j < n → t j = t' j) : qsum t n = qsum t' n := by
  induction n with
  | zero => rfl
  | succ n ih => simp only [qsum]; rw [ih (fun j hj => h j (by omega)), h n (by omega)]
/-- One summand turned. -/
theorem qsum_one {t t' : Nat → Rat} {i : Nat} (h : ∀ j, j ≠ i → t' j = t j) : ∀ n, i < n → qsum t' n = qsum t n + (t' i - t i)
  | 0, hi => absurd hi (by omega)
  | n + 1, hi => by
    simp only [qsum]
    by_cases e : i = n
    · subst e
      rw [qsum_congr (t := t') (t' := t) (fun j hj => h j (by omega))]
      grind
    · rw [qsum_one h n (by omega), h n (by omega)]
      grind
theorem qsum_nonneg {t : Nat → Rat} {n : Nat} (h : ∀ j, j < n → 0 ≤ t j) : 0 ≤ qsum t n := by
  induction n with
  | zero => exact Rat.le_refl
  | succ n ih =>
    have := ih (fun j hj => h j (by omega))
    have := h n (by omega)
    simp only [qsum]
    grind
theorem qsum_le {t t' : Nat → Rat} {n : Nat} (h : ∀ j, j < n → t j ≤ t' j) : qsum t n ≤ qsum t' n := by
  induction n with
  | zero => exact Rat.le_refl
  | succ n ih =>
    have := ih (fun j hj => h j (by omega))
    have := h n (by omega)
    simp only [qsum]
    grind
theorem qsum_mul (c : Rat) (t : Nat → Rat) (n : Nat) : qsum (fun j => c * t j) n = c * qsum t n := by
  induction n with
  | zero => simp [qsum]
  | succ n ih => simp only [qsum]; rw [ih]; grind
theorem qsum_add (t t' : Nat → Rat) (n : Nat) : qsum (fun j => t j + t' j) n = qsum t n + qsum t' n := by
  induction n with
  | zero => simp only [qsum]; grind
  | succ n ih => simp only [qsum]; rw [ih]; grind
/-- Steps that add t k. -/
theorem accQ_qv {st : Nat → Int → Int → Int × Int × Bool} {t : Nat → Rat} {a b : Int} : ∀ (n : Nat) (x y : Int), (∀ k p q r s, k < n → 1 ≤ q → st k p q = (r, s, true) → qv r s = qv p q + t k ∧ 1 ≤ s) → 1 ≤ b → accQ st a b n = (x, y, true) → qv x y = qv a b + qsum t n ∧ 1 ≤ y
  | 0, x, y, _, hb, h => by
    simp only [accQ, Prod.mk.injEq] at h
    obtain ⟨rfl, rfl, _⟩ := h
    exact ⟨by simp only [qsum]; grind, hb⟩
  | n + 1, x, y, hst, hb, h => by
    obtain ⟨p, q, o, e⟩ : ∃ p q o, accQ st a b n = (p, q, o) := ⟨_, _, _, rfl⟩
    simp only [accQ] at h
    rw [e] at h
    cases o with
    | false => simp at h
    | true =>
      simp only [if_true] at h
      have h1 := accQ_qv n p q (fun k p q r s hk => hst k p q r s (by omega)) hb e
      have h2 := hst n p q x y (by omega) h1.2 h
      refine ⟨?_, h2.2⟩
      rw [h2.1, h1.1]
      simp only [qsum]
      grind
theorem sqrQ_qv {x y n r s : Int} (hy : 1 ≤ y) (h : sqrQ x y n = (r, s, true)) : qv r s = (qv x y - n) * (qv x y - n) ∧ 1 ≤ s := by
  obtain ⟨p, q, o, e⟩ : ∃ p q o, mkF (x * 1 - n * y) (y * 1) = (p, q, o) := ⟨_, _, _, rfl⟩
  cases o with
  | false => rw [sqrQ_no e] at h; cases h
  | true =>
    rw [sqrQ_yes e] at h
    have h1 := mkF_sub (a := x) (b := y) (x := n) (y := 1) hy (by omega) e
    have h2 := mkF_mul (a := p) (b := q) (x := p) (y := q) h1.2 h1.2 h
    refine ⟨?_, h2.2⟩
    rw [h2.1, h1.1, qv_one]
end Go.Proofs.Ytkpliolafkdijaa
