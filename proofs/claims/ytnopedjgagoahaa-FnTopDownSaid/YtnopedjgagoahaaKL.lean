/- The value of a fraction as a rational number; what the steps over fractions add up. Plain lemmas, no walk. -/
import Derived.Test.YtnopedjgagoahaaKD
import Derived.Test.YtnopedjgagoahaaKH
namespace Go.Proofs.Ytnopedjgagoahaa
open Go.RowKit
set_option linter.unusedVariables false
set_option linter.unusedSimpArgs false

def qv (x y : Int) : Rat := (x : Rat) / (y : Rat)
theorem rat_ne {y : Int} (h : y ≠ 0) : (y : Rat) ≠ 0 := by exact_mod_cast h
theorem rat_pos {y : Int} (h : 0 < y) : (0 : Rat) < (y : Rat) := by exact_mod_cast h
theorem rat_nonneg {y : Int} (h : 0 ≤ y) : (0 : Rat) ≤ (y : Rat) := by exact_mod_cast h
theorem rat_le {x y : Int} (h : x ≤ y) : (x : Rat) ≤ (y : Rat) := by exact_mod_cast h
theorem rat_lt {x y : Int} (h : x < y) : (x : Rat) < (y : Rat) := by exact_mod_cast h
theorem rat_mul_pos {x y : Rat} (hx : 0 < x) (hy : 0 < y) : 0 < x * y := Rat.mul_pos hx hy
theorem qv_mul {x y : Int} (h : y ≠ 0) : qv x y * (y : Rat) = x := by
  have := rat_ne h
  unfold qv
  grind
/-- a b = c d of whole numbers, as rational ones. -/
theorem rat_cross {a b c d : Int} (h : a * b = c * d) : (a : Rat) * b = c * d := by exact_mod_cast h
theorem qv_eq {a b c d : Int} (hb : b ≠ 0) (hd : d ≠ 0) : qv a b = qv c d ↔ a * d = c * b := by
  have hb' := rat_ne hb
  have hd' := rat_ne hd
  constructor
  · intro h
    have : (a : Rat) * d = c * b := by unfold qv at h; grind
    exact_mod_cast this
  · intro h
    have := rat_cross h
    unfold qv
    grind
theorem qv_le {a b c d : Int} (hb : 0 < b) (hd : 0 < d) : qv a b ≤ qv c d ↔ a * d ≤ c * b := by
  have hb' := rat_pos hb
  have hd' := rat_pos hd
  have e1 := qv_mul (x := a) (y := b) (by omega)
  have e2 := qv_mul (x := c) (y := d) (by omega)
  have hbd := rat_mul_pos hb' hd'
  constructor
  · intro h
    have h2 := Rat.mul_le_mul_of_nonneg_right h (Rat.le_of_lt hbd)
    have g1 : qv a b * ((b : Rat) * d) = a * d := by rw [← e1]; grind
    have g2 : qv c d * ((b : Rat) * d) = c * b := by rw [← e2]; grind
    rw [g1, g2] at h2
    exact_mod_cast h2
  · intro h
    have h1 : (a : Rat) * d ≤ c * b := by exact_mod_cast h
    have g1 : qv a b * ((b : Rat) * d) = a * d := by rw [← e1]; grind
    have g2 : qv c d * ((b : Rat) * d) = c * b := by rw [← e2]; grind
    rcases Rat.le_total (a := qv a b) (b := qv c d) with h2 | h2
    · exact h2
    · have h3 := Rat.mul_le_mul_of_nonneg_right h2 (Rat.le_of_lt hbd)
      rw [g1, g2] at h3
      have h4 : (c : Rat) * b = a * d := Rat.le_antisymm h3 h1
      have h5 : qv a b = qv c d := by
        rw [qv_eq (by omega) (by omega)]
        have : (a : Rat) * d = c * b := h4.symm
        exact_mod_cast this
      rw [h5]; exact Rat.le_refl
theorem qv_lt {a b c d : Int} (hb : 0 < b) (hd : 0 < d) : qv a b < qv c d ↔ a * d < c * b := by
  have := qv_le (a := c) (c := a) hd hb
  rw [← Rat.not_le, this]
  omega
theorem mkF_oneV {n d a b : Int} (hd : d ≠ 0) (h : mkF n d = (a, b, true)) : a * d = n * b ∧ 1 ≤ b := by
  refine ⟨?_, (fracB_true.1 ((Fine.mk n d).ok h)).1.1⟩
  rw [mkF_red hd] at h
  unfold red at h
  split at h
  · injection h with h1 h2
    injection h2 with h2 _
    have hg := gcd_pos (n := n) (d := d) hd
    obtain ⟨u, hu⟩ := Int.gcd_dvd_left n d
    obtain ⟨v, hv⟩ := Int.gcd_dvd_right n d
    have e1 : n / (Int.gcd n d : Int) = u := Int.ediv_eq_of_eq_mul_right (by omega) hu
    have e2 : d / (Int.gcd n d : Int) = v := Int.ediv_eq_of_eq_mul_right (by omega) hv
    unfold redN at h1
    unfold redD at h2
    rw [e1] at h1
    rw [e2] at h2
    generalize (Int.gcd n d : Int) = g at *
    split at h1
    · rw [if_pos (by assumption)] at h2
      grind
    · rw [if_neg (by assumption)] at h2
      grind
  · cases h
theorem mkF_qv {n d a b : Int} (hd : d ≠ 0) (h : mkF n d = (a, b, true)) : qv a b = qv n d ∧ 1 ≤ b := by
  have := mkF_oneV hd h
  exact ⟨(qv_eq (by omega) hd).2 this.1, this.2⟩
theorem mkF_add {a b x y r s : Int} (hb : 1 ≤ b) (hy : 1 ≤ y) (h : mkF (a * y + x * b) (b * y) = (r, s, true)) : qv r s = qv a b + qv x y ∧ 1 ≤ s := by
  have hb' := rat_pos (show 0 < b by omega)
  have hy' := rat_pos (show 0 < y by omega)
  have h1 := mkF_qv (by have := Int.mul_pos (show 0 < b by omega) (show 0 < y by omega); omega) h
  refine ⟨?_, h1.2⟩
  rw [h1.1]
  unfold qv
  simp only [Rat.intCast_add, Rat.intCast_mul]
  grind
theorem mkF_sub {a b x y r s : Int} (hb : 1 ≤ b) (hy : 1 ≤ y) (h : mkF (a * y - x * b) (b * y) = (r, s, true)) : qv r s = qv a b - qv x y ∧ 1 ≤ s := by
  have hb' := rat_pos (show 0 < b by omega)
  have hy' := rat_pos (show 0 < y by omega)
  have h1 := mkF_qv (by have := Int.mul_pos (show 0 < b by omega) (show 0 < y by omega); omega) h
  refine ⟨?_, h1.2⟩
  rw [h1.1]
  unfold qv
  simp only [Rat.intCast_sub, Rat.intCast_mul]
  grind
theorem mkF_mul {a b x y r s : Int} (hb : 1 ≤ b) (hy : 1 ≤ y) (h : mkF (a * x) (b * y) = (r, s, true)) : qv r s = qv a b * qv x y ∧ 1 ≤ s := by
  have hb' := rat_pos (show 0 < b by omega)
  have hy' := rat_pos (show 0 < y by omega)
  have h1 := mkF_qv (by have := Int.mul_pos (show 0 < b by omega) (show 0 < y by omega); omega) h
  refine ⟨?_, h1.2⟩
  rw [h1.1]
  unfold qv
  simp only [Rat.intCast_mul]
  grind
theorem mkF_div {a b x y r s : Int} (hb : 1 ≤ b) (hy : 1 ≤ y) (hx : x ≠ 0) (h : mkF (a * y) (b * x) = (r, s, true)) : qv r s = qv a b / qv x y ∧ 1 ≤ s := by
  have hb' := rat_pos (show 0 < b by omega)
  have hy' := rat_pos (show 0 < y by omega)
  have hx' := rat_ne hx
  have h1 := mkF_qv (Int.mul_ne_zero (by omega) hx) h
  refine ⟨?_, h1.2⟩
  rw [h1.1]
  unfold qv
  simp only [Rat.intCast_mul]
  grind
theorem qv_one (n : Int) : qv n 1 = n := by unfold qv; grind
theorem cmpQ_le {a b c d : Int} (hb : 1 ≤ b) (hd : 1 ≤ d) (h : qv a b ≤ qv c d) : cmpQ a b c d ≤ 0 := by
  have := (qv_le (by omega) (by omega)).1 h
  unfold cmpQ
  split
  · omega
  · rw [if_neg (by omega)]; omega

def qsum (t : Nat → Rat) : Nat → Rat
  | 0 => 0
  | k + 1 => qsum t k + t k
theorem qsum_congr {t t' : Nat → Rat} {n : Nat} (h : ∀ j, j < n → t j = t' j) : qsum t n = qsum t' n := by
  induction n with
  | zero => rfl
  | succ n ih => simp only [qsum]; rw [ih (fun j hj => h j (by omega)), h n (by omega)]
/-- One summand turned. -/
theorem qsum_one {t t' : Nat → Rat} {i : Nat} (h : ∀ j, j ≠ i → t' j = t j) : ∀ n, i < n → qsum t' n = qsum t n + (t' i - t i)
  | 0, hi => absurd hi (by omega)
  | n + 1, hi => by
    simp only [qsum]
    by_cases e : i = n
    · subst e
      rw [qsum_congr (t := t') (t' := t) (fun j hj => h j (by omega))]
      grind
    · rw [qsum_one h n (by omega), h n (by omega)]
      grind
theorem qsum_nonneg {t : Nat → Rat} {n : Nat} (h : ∀ j, j < n → 0 ≤ t j) : 0 ≤ qsum t n := by
  induction n with
  | zero => exact Rat.le_refl
  | succ n ih =>
    have := ih (fun j hj => h j (by omega))
    have := h n (by omega)
    simp only [qsum]
    grind
theorem qsum_le {t t' : Nat → Rat} {n : Nat} (h : ∀ j, j < n → t j ≤ t' j) : qsum t n ≤ qsum t' n := by
  induction n with
  | zero => exact Rat.le_refl
  | succ n ih =>
    have := ih (fun j hj => h j (by omega))
    have := h n (by omega)
    simp only [qsum]
    grind
theorem qsum_mul (c : Rat) (t : Nat → Rat) (n : Nat) : qsum (fun j => c * t j) n = c * qsum t n := by
  induction n with
  | zero => simp [qsum]
  | succ n ih => simp only [qsum]; rw [ih]; grind
theorem qsum_add (t t' : Nat → Rat) (n : Nat) : qsum (fun j => t j + t' j) n = qsum t n + qsum t' n := by
  induction n with
  | zero => simp only [qsum]; grind
  | succ n ih => simp only [qsum]; rw [ih]; grind
/-- Steps that add t k. -/
theorem accQ_qv {st : Nat → Int → Int → Int × Int × Bool} {t : Nat → Rat} {a b : Int} : ∀ (n : Nat) (x y : Int), (∀ k p q r s, k < n → 1 ≤ q → st k p q = (r, s, true) → qv r s = qv p q + t k ∧ 1 ≤ s) → 1 ≤ b → accQ st a b n = (x, y, true) → qv x y = qv a b + qsum t n ∧ 1 ≤ y
  | 0, x, y, _, hb, h => by
    simp only [accQ, Prod.mk.injEq] at h
    obtain ⟨rfl, rfl, _⟩ := h
    exact ⟨by simp only [qsum]; grind, hb⟩
  | n + 1, x, y, hst, hb, h => by
    obtain ⟨p, q, o, e⟩ : ∃ p q o, accQ st a b n = (p, q, o) := ⟨_, _, _, rfl⟩
    simp only [accQ] at h
    rw [e] at h
    cases o with
    | false => simp at h
    | true =>
      simp only [if_true] at h
      have h1 := accQ_qv n p q (fun k p q r s hk => hst k p q r s (by omega)) hb e
      have h2 := hst n p q x y (by omega) h1.2 h
      refine ⟨?_, h2.2⟩
      rw [h2.1, h1.1]
      simp only [qsum]
      grind
theorem sqrQ_qv {x y n r s : Int} (hy : 1 ≤ y) (h : sqrQ x y n = (r, s, true)) : qv r s = (qv x y - n) * (qv x y - n) ∧ 1 ≤ s := by
  obtain ⟨p, q, o, e⟩ : ∃ p q o, mkF (x * 1 - n * y) (y * 1) = (p, q, o) := ⟨_, _, _, rfl⟩
  cases o with
  | false => rw [sqrQ_no e] at h; cases h
  | true =>
    rw [sqrQ_yes e] at h
    have h1 := mkF_sub (a := x) (b := y) (x := n) (y := 1) hy (by omega) e
    have h2 := mkF_mul (a := p) (b := q) (x := p) (y := q) h1.2 h1.2 h
    refine ⟨?_, h2.2⟩
    rw [h2.1, h1.1, qv_one]
end Go.Proofs.Ytnopedjgagoahaa

/- Rows of fractions as rational numbers. Plain lemmas, no walk. -/
namespace Go.Proofs.Ytnopedjgagoahaa
open Go.RowKit
set_option linter.unusedVariables false
set_option linter.unusedSimpArgs false


def rv (r : List QQ) (k : Nat) : Rat := qv (r.getD k (0, 0)).1 (r.getD k (0, 0)).2
/-- n numbers that are not negative. -/
def PosR (r : List QQ) (n : Nat) : Prop := r.length = n ∧ ∀ k, k < n → 1 ≤ (r.getD k (0, 0)).2 ∧ 0 ≤ (r.getD k (0, 0)).1
theorem qv_nn {x y : Int} (hy : 1 ≤ y) (hx : 0 ≤ x) : 0 ≤ qv x y := by
  rw [show (0 : Rat) = qv 0 1 by rw [qv_one]; rfl, qv_le (by omega) (by omega)]; omega
theorem PosR.nn {r : List QQ} {n k : Nat} (h : PosR r n) (hk : k < n) : 0 ≤ rv r k := qv_nn (h.2 k hk).1 (h.2 k hk).2
theorem accQ_inv {st : Nat → Int → Int → Int × Int × Bool} {P : Nat → Int → Int → Prop} {a b : Int} : ∀ (n : Nat) (x y : Int), (∀ k p q r s, k < n → P k p q → st k p q = (r, s, true) → P (k + 1) r s) → P 0 a b → accQ st a b n = (x, y, true) → P n x y
  | 0, x, y, _, hb, h => by
    simp only [accQ, Prod.mk.injEq] at h
    obtain ⟨rfl, rfl, _⟩ := h
    exact hb
  | n + 1, x, y, hst, hb, h => by
    obtain ⟨p, q, o, e⟩ : ∃ p q o, accQ st a b n = (p, q, o) := ⟨_, _, _, rfl⟩
    simp only [accQ] at h
    rw [e] at h
    cases o with
    | false => simp at h
    | true =>
      simp only [if_true] at h
      exact hst n p q x y (by omega) (accQ_inv n p q (fun k p q r s hk => hst k p q r s (by omega)) hb e) h
theorem mul_le_r {x y c : Rat} (h : x ≤ y) (hc : 0 ≤ c) : x * c ≤ y * c := Rat.mul_le_mul_of_nonneg_right h hc
theorem mul_le_l {x y c : Rat} (h : x ≤ y) (hc : 0 ≤ c) : c * x ≤ c * y := Rat.mul_le_mul_of_nonneg_left h hc
theorem le_scale {x p p' y : Rat} (h : x ≤ p * y) (hp : p ≤ p') (hy : 0 ≤ y) : x ≤ p' * y := by
  have := mul_le_r hp hy
  grind
theorem accQ_fineR {st : Nat → Int → Int → Int × Int × Bool} {a b : Int} (h0 : fracB a b = true) (h : ∀ k x y, fracB x y = true → Fine (st k x y)) (n : Nat) : Fine (accQ st a b n) := by
  induction n with
  | zero => exact Fine.yes h0
  | succ n ih =>
    simp only [accQ]
    split
    · rename_i h1; exact h _ _ _ (ih.1 h1)
    · exact Fine.no
def leQR (f g : QQ) : Prop := f.1 * g.2 ≤ g.1 * f.2
theorem dvd_partR {a b c : Int} (h : b ∣ a * c) (k : Int.gcd a b = 1) : b ∣ c := by
  have h1 := Int.natAbs_dvd_natAbs.2 h
  rw [Int.natAbs_mul] at h1
  have h2 : Nat.Coprime b.natAbs a.natAbs := by unfold Nat.Coprime; rw [Nat.gcd_comm]; exact k
  exact Int.natAbs_dvd_natAbs.1 (h2.dvd_of_dvd_mul_left h1)
theorem leQ_antisymmR {f g : QQ} (hf : fracB f.1 f.2 = true) (hg : fracB g.1 g.2 = true) (a : leQR f g) (b : leQR g f) : f = g := by
  have h1 := fracB_true.1 hf
  have h2 := fracB_true.1 hg
  have e : f.1 * g.2 = g.1 * f.2 := by unfold leQR at *; omega
  have d1 : f.2 ∣ g.2 := by
    exact dvd_partR ⟨g.1, by rw [e, Int.mul_comm]⟩ h1.2.2
  have d2 : g.2 ∣ f.2 := by
    exact dvd_partR ⟨f.1, by rw [← e, Int.mul_comm]⟩ h2.2.2
  have l1 := Int.le_of_dvd (by omega) d1
  have l2 := Int.le_of_dvd (by omega) d2
  have e2 : f.2 = g.2 := by omega
  have e1 : f.1 = g.1 := by
    rw [e2] at e
    exact Int.eq_of_mul_eq_mul_right (by omega) e
  exact Prod.ext e1 e2
end Go.Proofs.Ytnopedjgagoahaa

