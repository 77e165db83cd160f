/- The neighbour ratio of the geometric mechanism. No walk. -/
import Derived.Test.YtkpliolafkdijaaGmL
import Derived.Test.YtkpliolafkdijaaMnb
namespace Go.Proofs.Ytkpliolafkdijaa
open Go.RowKit
set_option linter.unusedVariables false
set_option linter.unusedSimpArgs false

theorem mkF_cross {n d n' d' : Int} (hd : 0 < d) (hd' : 0 < d') (h : n * d' = n' * d) : mkF n d = mkF n' d' := by
  rw [← mkF_scale (n := n) hd hd', ← mkF_scale (n := n') hd' hd, h, Int.mul_comm d d']
/-- A reduced fraction is what it was made of. -/
theorem mkF_val {n d a b : Int} (hd : 0 < d) (h : mkF n d = (a, b, true)) : a * d = n * b := by
  rw [mkF_red (by omega)] at h
  unfold red at h
  split at h
  · injection h with h1 h2
    injection h2 with h2 _
    have hg := gcd_pos (n := n) (d := d) (by omega)
    obtain ⟨u, hu⟩ := Int.gcd_dvd_left n d
    obtain ⟨v, hv⟩ := Int.gcd_dvd_right n d
    generalize hgg : (Int.gcd n d : Int) = g at *
    have e1 : a = u := by
      rw [← h1]; unfold redN; rw [if_neg (by omega), hgg]; exact Int.ediv_eq_of_eq_mul_right (by omega) hu
    have e2 : b = v := by
      rw [← h2]; unfold redD; rw [if_neg (by omega), hgg]; exact Int.ediv_eq_of_eq_mul_right (by omega) hv
    subst e1; subst e2
    rw [hv, hu, ← Int.mul_assoc, Int.mul_comm a g]
  · cases h
theorem mkF_pos {n d a b : Int} (hn : 0 < n) (hd : 0 < d) (h : mkF n d = (a, b, true)) : 0 < a ∧ 0 < b := by
  have e := mkF_val hd h
  have hb := (fracB_true.1 (mkF_fine h)).1.1
  refine ⟨?_, by omega⟩
  have h1 : 0 < a * d := by rw [e]; exact Int.mul_pos hn (by omega)
  rcases Int.lt_or_le 0 a with h2 | h2
  · exact h2
  · have := Int.mul_nonpos_of_nonpos_of_nonneg h2 (show 0 ≤ d by omega); omega
/-- The number that stands for the column: a tail or a mass. -/
def colN (p q : Int) (n j : Nat) : Int := if 0 < j ∧ j + 1 < n then q - p else q
theorem colN_pos {p q : Int} (h : ratB p q = true) (n j : Nat) : 0 < colN p q n j := by
  have := (ratB_true.1 h).2; unfold colN; split <;> omega
/-- An entry's value: p^k c / (q^k (q + p)). -/
theorem gI_val {p q : Int} (h : ratB p q = true) {n i j : Nat} {x y : Int} (e : gI p q n i j = (x, y, true)) :
    mkF (p ^ dst i j * colN p q n j) (q ^ dst i j * (q + p)) = (x, y, true) := by
  obtain ⟨hf, h1, h2⟩ := ratB_true.1 h
  have hk1 := pow_pos' h1 (dst i j)
  have hk2 := pow_pos' (show 1 ≤ q by omega) (dst i j)
  have hW := powQ_eq h (dst i j)
  have hD := onePlus_eq h
  unfold gI at e
  unfold colN
  generalize dst i j = k at *
  split at e
  · rename_i hc
    rw [if_pos hc]
    unfold geoMassI at e
    by_cases hb : q + p ≤ 1000000000
    · rw [if_pos hb] at hD
      rw [bindT_yes hD] at e
      obtain ⟨c1, c2, c3, hC⟩ : ∃ c1 c2 c3, mkF ((q - p) * q) (q * (q + p)) = (c1, c2, c3) := ⟨_, _, _, rfl⟩
      cases c3 with
      | false => rw [bindT_no hC] at e; cases e
      | true =>
        rw [bindT_yes hC] at e
        by_cases hq : q ^ k ≤ 1000000000
        · rw [if_pos hq] at hW
          rw [bindT_yes hW] at e
          have hv := mkF_val (Int.mul_pos (by omega) (by omega)) hC
          have hp := mkF_pos (Int.mul_pos (by omega) (by omega)) (Int.mul_pos (by omega) (by omega)) hC
          rw [← e]
          have hv2 : c1 * (q + p) = (q - p) * c2 := by
            have : (c1 * (q + p)) * q = ((q - p) * c2) * q := by
              rw [Int.mul_assoc, Int.mul_comm (q + p) q, hv, Int.mul_assoc, Int.mul_comm q c2, ← Int.mul_assoc]
            exact Int.eq_of_mul_eq_mul_right (by omega) this
          refine mkF_cross (Int.mul_pos (by omega) (by omega)) (Int.mul_pos (by omega) (by omega)) ?_
          calc p ^ k * (q - p) * (c2 * q ^ k) = p ^ k * q ^ k * ((q - p) * c2) := by ac_rfl
            _ = p ^ k * q ^ k * (c1 * (q + p)) := by rw [hv2]
            _ = c1 * p ^ k * (q ^ k * (q + p)) := by ac_rfl
        · rw [if_neg hq] at hW; rw [bindT_no hW] at e; cases e
    · rw [if_neg hb] at hD; rw [bindT_no hD] at e; cases e
  · rename_i hc
    rw [if_neg hc]
    unfold geoTailQ at e
    by_cases hq : q ^ k ≤ 1000000000
    · rw [if_pos hq] at hW
      rw [bindT_yes hW] at e
      by_cases hb : q + p ≤ 1000000000
      · rw [if_pos hb] at hD; rw [bindT_yes hD] at e; exact e
      · rw [if_neg hb] at hD; rw [bindT_no hD] at e; cases e
    · rw [if_neg hq] at hW; rw [bindT_no hW] at e; cases e
/-- Two entries of a column, one step apart. -/
theorem gI_quo {p q : Int} (h : ratB p q = true) {n i i' j : Nat} {x y r s : Int} (e : gI p q n i j = (x, y, true)) (e' : gI p q n i' j = (r, s, true)) (hd : dst i' j = dst i j + 1) :
    (0 < x ∧ 0 < y) ∧ (0 < r ∧ 0 < s) ∧ mkF (x * s) (y * r) = (q, p, true) ∧ mkF (r * y) (s * x) = (p, q, true) := by
  obtain ⟨hf, h1, h2⟩ := ratB_true.1 h
  have h3 := fracB_true.1 hf
  have hv := gI_val h e
  have hv' := gI_val h e'
  rw [hd] at hv'
  have hc := colN_pos h n j
  have hk1 := pow_pos' h1 (dst i j)
  have hk2 := pow_pos' (show 1 ≤ q by omega) (dst i j)
  have hk3 := pow_pos' h1 (dst i j + 1)
  have hk4 := pow_pos' (show 1 ≤ q by omega) (dst i j + 1)
  have s1 : p ^ (dst i j + 1) = p ^ dst i j * p := Int.pow_succ _ _
  have s2 : q ^ (dst i j + 1) = q ^ dst i j * q := Int.pow_succ _ _
  have p1 := mkF_pos (Int.mul_pos (by omega) hc) (Int.mul_pos (by omega) (by omega)) hv
  have p2 := mkF_pos (Int.mul_pos (by omega) hc) (Int.mul_pos (by omega) (by omega)) hv'
  have v1 := mkF_val (Int.mul_pos (by omega) (by omega)) hv
  have v2 := mkF_val (Int.mul_pos (by omega) (by omega)) hv'
  rw [s1, s2] at v2
  generalize p ^ dst i j = P at *
  generalize q ^ dst i j = Q at *
  generalize colN p q n j = C at *
  refine ⟨p1, p2, ?_, ?_⟩
  all_goals
    have hB : 0 < P * C * (Q * (q + p)) := Int.mul_pos (Int.mul_pos (by omega) hc) (Int.mul_pos (by omega) (by omega))
    have key : x * s * p = q * (y * r) := by
      have e1 : (x * s * p) * (P * C * (Q * (q + p))) = (q * (y * r)) * (P * C * (Q * (q + p))) := by
        calc (x * s * p) * (P * C * (Q * (q + p))) = (x * (Q * (q + p))) * (P * p * C * s) := by ac_rfl
          _ = (P * C * y) * (r * (Q * q * (q + p))) := by rw [v1, ← v2]
          _ = (q * (y * r)) * (P * C * (Q * (q + p))) := by ac_rfl
      exact Int.eq_of_mul_eq_mul_right (by omega) e1
  · rw [mkF_cross (n' := q) (d' := p) (Int.mul_pos p1.2 p2.1) (by omega) key]
    exact mkF_one (by rw [Int.gcd_comm]; exact h3.2.2) (by omega) (by omega) (by omega)
  · rw [mkF_cross (n' := p) (d' := q) (Int.mul_pos p2.2 p1.1) (by omega) (by rw [Int.mul_comm s x, Int.mul_comm r y, Int.mul_comm _ q, ← key]; ac_rfl)]
    exact mkF_one h3.2.2 (by omega) (by omega) (by omega)
end Go.Proofs.Ytkpliolafkdijaa
