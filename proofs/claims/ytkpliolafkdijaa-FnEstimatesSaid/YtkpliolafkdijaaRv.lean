/- Rows of fractions as rational numbers. Plain lemmas, no walk. -/
import Derived.Test.YtkpliolafkdijaaQv
import Derived.Test.YtkpliolafkdijaaFrows
import Derived.Test.YtkpliolafkdijaaAcc
namespace Go.Proofs.Ytkpliolafkdijaa
open Go.RowKit
set_option linter.unusedVariables false
set_option linter.unusedSimpArgs false


def rv (r : List QQ) (k : Nat) : Rat := qv (r.getD k (0, 0)).1 (r.getD k (0, 0)).2
/-- n numbers that are not negative. -/
def PosR (r : List QQ) (n : Nat) : Prop := r.length = n ∧ ∀ k, k < n → 1 ≤ (r.getD k (0, 0)).2 ∧ 0 ≤ (r.getD k (0, 0)).1
theorem qv_nn {x y : Int} (hy : 1 ≤ y) (hx : 0 ≤ x) : 0 ≤ qv x y := by
  rw [show (0 : Rat) = qv 0 1 by rw [qv_one]; rfl, qv_le (by omega) (by omega)]; omega
theorem PosR.nn {r : List QQ} {n k : Nat} (h : PosR r n) (hk : k < n) : 0 ≤ rv r k := qv_nn (h.2 k hk).1 (h.2 k hk).2
theorem accQ_inv {st : Nat → Int → Int → Int × Int × Bool} {P : Nat → Int → Int → Prop} {a b : Int} : ∀ (n : Nat) (x y : Int), (∀ k p q r s, k < n → P k p q → st k p q = (r, s, true) → P (k + 1) r s) → P 0 a b → accQ st a b n = (x, y, true) → P n x y
  | 0, x, y, _, hb, h => by
    simp only [accQ, Prod.mk.injEq] at h
    obtain ⟨rfl, rfl, _⟩ := h
    exact hb
  | n + 1, x, y, hst, hb, h => by
    obtain ⟨p, q, o, e⟩ : ∃ p q o, accQ st a b n = (p, q, o) := ⟨_, _, _, rfl⟩
    simp only [accQ] at h
    rw [e] at h
    cases o with
    | false => simp at h
    | true =>
      simp only [if_true] at h
      exact hst n p q x y (by omega) (accQ_inv n p q (fun k p q r s hk => hst k p q r s (by omega)) hb e) h
theorem mul_le_r {x y c : Rat} (h : x ≤ y) (hc : 0 ≤ c) : x * c ≤ y * c := Rat.mul_le_mul_of_nonneg_right h hc
theorem mul_le_l {x y c : Rat} (h : x ≤ y) (hc : 0 ≤ c) : c * x ≤ c * y := Rat.mul_le_mul_of_nonneg_left h hc
theorem le_scale {x p p' y : Rat} (h : x ≤ p * y) (hp : p ≤ p') (hy : 0 ≤ y) : x ≤ p' * y := by
  have := mul_le_r hp hy
  grind
theorem accQ_fineR {st : Nat → Int → Int → Int × Int × Bool} {a b : Int} (h0 : fracB a b = true) (h : ∀ k x y, fracB x y = true → Fine (st k x y)) (n : Nat) : Fine (accQ st a b n) := by
  induction n with
  | zero => exact Fine.yes h0
  | succ n ih =>
    simp only [accQ]
    split
    · rename_i h1; exact h _ _ _ (ih.1 h1)
    · exact Fine.no
def leQR (f g : QQ) : Prop := f.1 * g.2 ≤ g.1 * f.2
theorem dvd_partR {a b c : Int} (h : b ∣ a * c) (k : Int.gcd a b = 1) : b ∣ c := by
  have h1 := Int.natAbs_dvd_natAbs.2 h
  rw [Int.natAbs_mul] at h1
  have h2 : Nat.Coprime b.natAbs a.natAbs := by unfold Nat.Coprime; rw [Nat.gcd_comm]; exact k
  exact Int.natAbs_dvd_natAbs.1 (h2.dvd_of_dvd_mul_left h1)
theorem leQ_antisymmR {f g : QQ} (hf : fracB f.1 f.2 = true) (hg : fracB g.1 g.2 = true) (a : leQR f g) (b : leQR g f) : f = g := by
  have h1 := fracB_true.1 hf
  have h2 := fracB_true.1 hg
  have e : f.1 * g.2 = g.1 * f.2 := by unfold leQR at *; omega
  have d1 : f.2 ∣ g.2 := by
    exact dvd_partR ⟨g.1, by rw [e, Int.mul_comm]⟩ h1.2.2
  have d2 : g.2 ∣ f.2 := by
    exact dvd_partR ⟨f.1, by rw [← e, Int.mul_comm]⟩ h2.2.2
  have l1 := Int.le_of_dvd (by omega) d1
  have l2 := Int.le_of_dvd (by omega) d2
  have e2 : f.2 = g.2 := by omega
  have e1 : f.1 = g.1 := by
    rw [e2] at e
    exact Int.eq_of_mul_eq_mul_right (by omega) e
  exact Prod.ext e1 e2
end Go.Proofs.Ytkpliolafkdijaa
