/- The geometric mechanism: two ways to its probabilities. No walk. -/
import Derived.Test.YtnopedjgagoahaaMrr
import Derived.Test.YtnopedjgagoahaaConL
namespace Go.Proofs.Ytnopedjgagoahaa
open Go.RowKit
set_option linter.unusedVariables false
set_option linter.unusedSimpArgs false

/-- The k-th power, a factor at a time. -/
def powQ (p q : Int) (k : Nat) : Int × Int × Bool := accQ (fun _ x y => mkF (x * p) (y * q)) 1 1 k
theorem powQ_fine {p q : Int} {k : Nat} : Fine (powQ p q k) := by
  unfold powQ
  induction k with
  | zero => exact Fine.yes fracB_11
  | succ k ih => simp only [accQ]; exact Fine.ite (Fine.mk _ _) Fine.no
def onePlus (p q : Int) : Int × Int × Bool := mkF (1 * q + p * 1) (1 * q)
def geoTailQ (p q : Int) (k : Nat) : Int × Int × Bool := bindT (powQ p q k) fun w1 w2 => bindT (onePlus p q) fun d1 d2 => mkF (w1 * d2) (w2 * d1)
def geoMassS (p q : Int) (k : Nat) : Int × Int × Bool := bindT (powQ p q k) fun w1 w2 => bindT (onePlus p q) fun d1 d2 => bindT (mkF (1 * q - p * 1) (1 * q)) fun e1 e2 => bindT (mkF (w1 * e1) (w2 * e2)) fun x1 x2 => mkF (x1 * d2) (x2 * d1)
def geoMassI (p q : Int) (k : Nat) : Int × Int × Bool := bindT (onePlus p q) fun d1 d2 => bindT (mkF ((q - p) * d2) (q * d1)) fun c1 c2 => bindT (powQ p q k) fun w1 w2 => mkF (c1 * w1) (c2 * w2)
def dst (i j : Nat) : Nat := ((i : Int) - (j : Int)).natAbs
def gS (p q : Int) (n i j : Nat) : Int × Int × Bool := if 0 < j ∧ j + 1 < n then geoMassS p q (dst i j) else geoTailQ p q (dst i j)
def gI (p q : Int) (n i j : Nat) : Int × Int × Bool := if 0 < j ∧ j + 1 < n then geoMassI p q (dst i j) else geoTailQ p q (dst i j)
theorem mkF_scale {n d m : Int} (hd : 0 < d) (hm : 0 < m) : mkF (n * m) (d * m) = mkF n d := by
  have hdm : 0 < d * m := Int.mul_pos hd hm
  have hg : (Int.gcd (n * m) (d * m) : Int) = (Int.gcd n d : Int) * m := by
    rw [Int.gcd_mul_right]; push_cast; rw [Int.natAbs_of_nonneg (by omega)]
  have e1 : redN (n * m) (d * m) = redN n d := by
    unfold redN; rw [if_neg (by omega), if_neg (by omega), hg, Int.mul_ediv_mul_of_pos_left _ _ hm]
  have e2 : redD (n * m) (d * m) = redD n d := by
    unfold redD; rw [if_neg (by omega), if_neg (by omega), hg, Int.mul_ediv_mul_of_pos_left _ _ hm]
  rw [mkF_red (by omega), mkF_red (by omega)]
  unfold red redOk
  rw [e1, e2]
theorem mkF_big {n d : Int} (hg : Int.gcd n d = 1) (hd : 1000000000 < d) : mkF n d = (0, 0, false) := by
  rw [mkF_red (by omega)]
  apply red_no
  unfold redD
  rw [if_neg (by omega), hg]
  simp
  omega
theorem mkF_one {n d : Int} (hg : Int.gcd n d = 1) (h1 : 1 ≤ d) (h2 : d ≤ 1000000000) (h3 : -1000000000 ≤ n ∧ n ≤ 1000000000) : mkF n d = (n, d, true) := mkF_self (fracB_true.2 ⟨⟨h1, h2⟩, h3, hg⟩)
theorem gcd_pow {p q : Int} (h : Int.gcd p q = 1) (k m : Nat) : Int.gcd (p ^ k) (q ^ m) = 1 := by
  rw [Int.gcd, Int.natAbs_pow, Int.natAbs_pow]
  exact Nat.Coprime.pow k m h
theorem gcd_mul1 {a b c : Int} (h1 : Int.gcd a c = 1) (h2 : Int.gcd b c = 1) : Int.gcd (a * b) c = 1 := by
  rw [Int.gcd, Int.natAbs_mul]; exact Nat.Coprime.mul_left h1 h2
theorem pow_pos' {q : Int} (hq : 1 ≤ q) (k : Nat) : 1 ≤ q ^ k := Int.pow_pos (show 0 < q by omega)
theorem pow_le' {p q : Int} (hp : 1 ≤ p) (h : p ≤ q) (k : Nat) : p ^ k ≤ q ^ k := by
  induction k with
  | zero => simp
  | succ k ih =>
    rw [Int.pow_succ, Int.pow_succ]
    exact Int.mul_le_mul ih h (by omega) (by have := pow_pos' (show 1 ≤ q by omega) k; omega)
theorem pow_mono' {q : Int} (hq : 1 ≤ q) {k m : Nat} (h : k ≤ m) : q ^ k ≤ q ^ m := by
  induction m with
  | zero => obtain rfl : k = 0 := by omega
            exact Int.le_refl _
  | succ m ih =>
    by_cases e : k = m + 1
    · subst e; exact Int.le_refl _
    · have h1 := ih (by omega)
      have h2 := pow_pos' hq m
      rw [Int.pow_succ]
      have := Int.mul_le_mul_of_nonneg_left hq (show 0 ≤ q ^ m by omega)
      omega
/-- A chance between 0 and 1. -/
def ratB (p q : Int) : Bool := fracB p q && decide (1 ≤ p) && decide (p < q)
theorem ratB_true {p q : Int} : ratB p q = true ↔ fracB p q = true ∧ 1 ≤ p ∧ p < q := by simp [ratB, and_assoc]
theorem powQ_eq {p q : Int} (h : ratB p q = true) (k : Nat) : powQ p q k = if q ^ k ≤ 1000000000 then (p ^ k, q ^ k, true) else (0, 0, false) := by
  obtain ⟨hf, h1, h2⟩ := ratB_true.1 h
  have hg := (fracB_true.1 hf).2.2
  unfold powQ
  induction k with
  | zero => simp [accQ]
  | succ k ih =>
    have s1 : p ^ k * p = p ^ (k + 1) := (Int.pow_succ _ _).symm
    have s2 : q ^ k * q = q ^ (k + 1) := (Int.pow_succ _ _).symm
    by_cases hb : q ^ k ≤ 1000000000
    · rw [if_pos hb] at ih
      rw [accQ_next ih rfl, s1, s2]
      have e := pow_le' h1 (show p ≤ q by omega) (k + 1)
      have e2 := pow_pos' h1 (k + 1)
      by_cases hb2 : q ^ (k + 1) ≤ 1000000000
      · rw [if_pos hb2]; exact mkF_one (gcd_pow hg _ _) (by omega) hb2 (by omega)
      · rw [if_neg hb2]; exact mkF_big (gcd_pow hg _ _) (by omega)
    · rw [if_neg hb] at ih
      have := pow_mono' (show 1 ≤ q by omega) (show k ≤ k + 1 by omega)
      rw [if_neg (by omega)]
      exact accQ_stuck ih (by omega)
theorem onePlus_eq {p q : Int} (h : ratB p q = true) : onePlus p q = if q + p ≤ 1000000000 then (q + p, q, true) else (0, 0, false) := by
  obtain ⟨hf, h1, h2⟩ := ratB_true.1 h
  have h3 := fracB_true.1 hf
  have hg : Int.gcd (q + p) q = 1 := by rw [Int.add_comm, Int.gcd_add_self_left]; exact h3.2.2
  unfold onePlus
  rw [Int.one_mul, Int.mul_one]
  by_cases hb : q + p ≤ 1000000000
  · rw [if_pos hb]; exact mkF_one hg (by omega) (by omega) (by omega)
  · rw [if_neg hb, mkF_red (by omega)]
    apply red_no
    unfold redN
    rw [if_neg (by omega), hg]
    simp
    omega
theorem geoMass_eq {p q : Int} (h : ratB p q = true) (k : Nat) (hk : q ^ (k + 1) ≤ 1000000000) : geoMassS p q k = geoMassI p q k := by
  obtain ⟨hf, h1, h2⟩ := ratB_true.1 h
  have h3 := fracB_true.1 hf
  have hq0 := pow_mono' (show 1 ≤ q by omega) (show k ≤ k + 1 by omega)
  have hW : powQ p q k = (p ^ k, q ^ k, true) := by rw [powQ_eq h, if_pos (by omega)]
  have hw1 := pow_pos' h1 k
  have hw2 := pow_pos' (show 1 ≤ q by omega) k
  have hw3 := pow_le' h1 (show p ≤ q by omega) k
  by_cases hb : q + p ≤ 1000000000
  · have hD : onePlus p q = (q + p, q, true) := by rw [onePlus_eq h, if_pos hb]
    have hE : mkF (1 * q - p * 1) (1 * q) = (q - p, q, true) := by
      rw [Int.one_mul, Int.mul_one]
      exact mkF_one (by rw [Int.gcd_comm, Int.gcd_self_sub_right, Int.gcd_comm]; exact h3.2.2) (by omega) (by omega) (by omega)
    have hqk : q ^ (k + 1) = q ^ k * q := Int.pow_succ _ _
    have hge : Int.gcd (q - p) q = 1 := by rw [Int.gcd_comm, Int.gcd_self_sub_right, Int.gcd_comm]; exact h3.2.2
    have hX : mkF (p ^ k * (q - p)) (q ^ k * q) = (p ^ k * (q - p), q ^ k * q, true) := by
      have b1 : p ^ k * (q - p) ≤ q ^ k * q := Int.mul_le_mul hw3 (by omega) (by omega) (by omega)
      have b2 : 0 ≤ p ^ k * (q - p) := Int.mul_nonneg (by omega) (by omega)
      have b3 := pow_pos' (show 1 ≤ q by omega) (k + 1)
      refine mkF_one ?_ (by omega) (by omega) (by omega)
      rw [← hqk]
      refine gcd_mul1 (gcd_pow h3.2.2 _ _) ?_
      have := gcd_pow hge 1 (k + 1)
      rwa [Int.pow_one] at this
    have hS : geoMassS p q k = mkF (p ^ k * (q - p)) (q ^ k * (q + p)) := by
      unfold geoMassS
      rw [bindT_yes hW, bindT_yes hD, bindT_yes hE, bindT_yes hX, show q ^ k * q * (q + p) = q ^ k * (q + p) * q by rw [Int.mul_assoc, Int.mul_comm q, ← Int.mul_assoc]]
      exact mkF_scale (Int.mul_pos (by omega) (by omega)) (by omega)
    rw [hS]
    unfold geoMassI
    rw [bindT_yes hD, Int.mul_comm q (q + p), mkF_scale (by omega) (by omega)]
    have hg0 : 0 < Int.gcd (q - p) (q + p) := gcd_pos (by omega)
    obtain ⟨c1, hc1⟩ := Int.gcd_dvd_left (q - p) (q + p)
    obtain ⟨c2, hc2⟩ := Int.gcd_dvd_right (q - p) (q + p)
    generalize hgg : (Int.gcd (q - p) (q + p) : Int) = g at *
    have hgp : 0 < g := by omega
    have e1 : redN (q - p) (q + p) = c1 := by
      unfold redN; rw [if_neg (by omega), hgg]; exact Int.ediv_eq_of_eq_mul_right (by omega) hc1
    have e2 : redD (q - p) (q + p) = c2 := by
      unfold redD; rw [if_neg (by omega), hgg]; exact Int.ediv_eq_of_eq_mul_right (by omega) hc2
    have p1 := redD_pos (n := q - p) (d := q + p) (by omega)
    rw [e2] at p1
    have q1 := quo_le (n := q - p) (g := g) (B := 1000000000) (by omega) (by omega)
    have q2 := quo_le (n := q + p) (g := g) (B := 1000000000) (by omega) (by omega)
    rw [Int.ediv_eq_of_eq_mul_right (by omega) hc1] at q1
    rw [Int.ediv_eq_of_eq_mul_right (by omega) hc2] at q2
    have hC : mkF (q - p) (q + p) = (c1, c2, true) := by
      rw [mkF_red (by omega)]
      have := red_yes (n := q - p) (d := q + p) (by rw [e1]; omega) (by rw [e1]; omega) (by rw [e2]; omega)
      rw [this, e1, e2]
    rw [bindT_yes hC, bindT_yes hW]
    rw [hc1, hc2, show p ^ k * (g * c1) = c1 * p ^ k * g by rw [Int.mul_comm g, ← Int.mul_assoc, Int.mul_comm (p ^ k)], show q ^ k * (g * c2) = c2 * q ^ k * g by rw [Int.mul_comm g, ← Int.mul_assoc, Int.mul_comm (q ^ k)]]
    exact mkF_scale (Int.mul_pos (by omega) (by omega)) hgp
  · have hD : onePlus p q = (0, 0, false) := by rw [onePlus_eq h, if_neg hb]
    unfold geoMassS geoMassI
    rw [bindT_yes hW, bindT_no hD, bindT_no hD]
theorem nmQ_congr {f g : Nat → Nat → Int × Int × Bool} {n m : Nat} (h : ∀ i j, i < n → j < m → f i j = g i j) : nmQ f n m = nmQ g n m := by
  have h1 : okAll f n m = okAll g n m := by
    rw [Bool.eq_iff_iff]
    simp only [okAll, List.all_eq_true, List.mem_range]
    exact ⟨fun k i hi j hj => by rw [← h i j hi hj]; exact k i hi j hj, fun k i hi j hj => by rw [h i j hi hj]; exact k i hi j hj⟩
  have h2 : tab f n m = tab g n m := by
    unfold tab
    refine List.map_congr_left fun i hi => List.map_congr_left fun j hj => ?_
    rw [h i j (List.mem_range.1 hi) (List.mem_range.1 hj)]
  unfold nmQ
  rw [h1, h2]
theorem dst_le {n i j : Nat} (hi : i < n) (h0 : 0 < j) (hj : j + 1 < n) : dst i j + 1 ≤ n - 1 := by unfold dst; omega
/-- Both ways give the same mechanism, or none. -/
theorem geo_same {p q : Int} (h : ratB p q = true) {n : Nat} (hn : 2 ≤ n) : nmQ (gS p q n) n n = nmQ (gI p q n) n n := by
  obtain ⟨hf, h1, h2⟩ := ratB_true.1 h
  by_cases hb : q ^ (n - 1) ≤ 1000000000
  · refine nmQ_congr fun i j hi hj => ?_
    unfold gS gI
    by_cases hc : 0 < j ∧ j + 1 < n
    · rw [if_pos hc, if_pos hc]
      have := pow_mono' (show 1 ≤ q by omega) (dst_le hi hc.1 hc.2)
      exact geoMass_eq h _ (by omega)
    · rw [if_neg hc, if_neg hc]
  · have hc : ¬ (0 < n - 1 ∧ n - 1 + 1 < n) := by omega
    have ht : geoTailQ p q (dst 0 (n - 1)) = (0, 0, false) := by
      unfold geoTailQ
      have : dst 0 (n - 1) = n - 1 := by unfold dst; omega
      rw [this]
      exact bindT_no (by rw [powQ_eq h, if_neg hb])
    rw [nmQ_no1 (okAll_no (i := 0) (j := n - 1) (by omega) (by omega) (by unfold gS; rw [if_neg hc]; exact ht)), nmQ_no1 (okAll_no (i := 0) (j := n - 1) (by omega) (by omega) (by unfold gI; rw [if_neg hc]; exact ht))]
theorem dst_bd {n i j : Nat} (hn : n ≤ 8) (hi : i < n) (hj : j < n) : dst i j ≤ 60 := by unfold dst; omega
def gmQ (n p q : Int) : List (List QQ) × Bool := if inB n 2 8 = true ∧ ratB p q = true then nmQ (gI p q n.toNat) n.toNat n.toNat else ([], false)
theorem gmQ_no {n p q : Int} (h : ¬ (inB n 2 8 = true ∧ ratB p q = true)) : gmQ n p q = ([], false) := if_neg h
theorem gmQ_yes {n : Nat} {p q : Int} (h1 : inB (n : Int) 2 8 = true) (h2 : ratB p q = true) : gmQ n p q = nmQ (gI p q n) n n := by unfold gmQ; rw [if_pos ⟨h1, h2⟩]; simp
theorem gmQ_yesS {n : Nat} {p q : Int} (h1 : inB (n : Int) 2 8 = true) (h2 : ratB p q = true) : gmQ n p q = nmQ (gS p q n) n n := by rw [gmQ_yes h1 h2, geo_same h2 (by have := inB_true.1 h1; omega)]
theorem gmQ_len (n p q : Int) : (gmQ n p q).1.length ≤ 64 ∧ rowSum (gmQ n p q).1 (gmQ n p q).1.length ≤ 67108864 := by
  unfold gmQ; split
  · exact nmQ_small _ _ _
  · simp [rowSum]
theorem gfine (p q : Int) (n i j : Nat) : Fine (gS p q n i j) ∧ Fine (gI p q n i j) := by
  unfold gS gI
  constructor
  · exact Fine.ite (bindT_fine fun _ _ => bindT_fine fun _ _ => bindT_fine fun _ _ => bindT_fine fun _ _ => Fine.mk _ _) (bindT_fine fun _ _ => bindT_fine fun _ _ => Fine.mk _ _)
  · exact Fine.ite (bindT_fine fun _ _ => bindT_fine fun _ _ => bindT_fine fun _ _ => Fine.mk _ _) (bindT_fine fun _ _ => bindT_fine fun _ _ => Fine.mk _ _)
end Go.Proofs.Ytnopedjgagoahaa
