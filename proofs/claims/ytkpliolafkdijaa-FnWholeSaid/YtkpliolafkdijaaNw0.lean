/- Rounding to whole numbers: how rests compare; which element is raised or lowered; the floors. -/
import Derived.Test.YtkpliolafkdijaaRound
import Derived.Test.YtkpliolafkdijaaAcc
namespace Go.Proofs.Ytkpliolafkdijaa
open Go.RowKit
set_option linter.unusedVariables false
set_option linter.unusedSimpArgs false

/-- The difference (a - m) - (b - k) of two rests, times the denominators. -/
def gapZ (p q m r s k : Int) : Int := p * s - r * q - (m - k) * q * s
theorem cmp_sgn {a b x : Int} (h : x = a - b) : (if a < b then (-1 : Int) else if b < a then 1 else 0) = sgn x := by
  unfold sgn
  by_cases h1 : a < b
  · rw [if_pos h1, if_pos (show x < 0 by omega)]
  · rw [if_neg h1, if_neg (show ¬ x < 0 by omega)]
    by_cases h2 : b < a
    · rw [if_pos h2, if_pos (show 0 < x by omega)]
    · rw [if_neg h2, if_neg (show ¬ 0 < x by omega)]
theorem rest_gap (p q m r s k : Int) : cmpQ (p - m * q) q (r - k * s) s = sgn (gapZ p q m r s k) := by
  have e1 : (p - m * q) * s = p * s - m * q * s := by rw [Int.sub_mul]
  have e2 : (r - k * s) * q = r * q - k * q * s := by rw [Int.sub_mul, Int.mul_right_comm k s q]
  have e3 : (m - k) * q * s = m * q * s - k * q * s := by rw [Int.sub_mul, Int.sub_mul]
  unfold cmpQ
  exact cmp_sgn (by unfold gapZ; rw [e1, e2, e3]; omega)
/-- A fraction that can be rounded. -/
def Rd (p q : Int) : Prop := (1 ≤ q ∧ q ≤ 1000000) ∧ (-1000000000 ≤ p ∧ p ≤ 1000000000)
theorem Rd.of {p q : Int} (h : rdQ (p, q) = true) : Rd p q := by
  simp only [rdQ, shortQ, fewQ, Bool.and_eq_true, decide_eq_true_eq] at h
  have h1 := fracB_true.1 h.1.1
  exact ⟨⟨h1.1.1, h.2⟩, h1.2.1⟩
theorem mul_le {a b M N : Int} (ha : -M ≤ a ∧ a ≤ M) (hb : -N ≤ b ∧ b ≤ N) : -(M * N) ≤ a * b ∧ a * b ≤ M * N := by
  have h := Nat.mul_le_mul (show a.natAbs ≤ M.natAbs by omega) (show b.natAbs ≤ N.natAbs by omega)
  rw [← Int.natAbs_mul, ← Int.natAbs_mul] at h
  have hm : 0 ≤ M * N := Int.mul_nonneg (by omega) (by omega)
  omega
theorem gap_bd {p q m r s k : Int} (h1 : Rd p q) (h2 : Rd r s) (hm : 0 ≤ m ∧ m ≤ 20000) (hk : 0 ≤ k ∧ k ≤ 20000) :
    (-1000000000000000 ≤ p * s ∧ p * s ≤ 1000000000000000) ∧ (-1000000000000000 ≤ r * q ∧ r * q ≤ 1000000000000000) ∧ (-20000000000 ≤ (m - k) * q ∧ (m - k) * q ≤ 20000000000) ∧ (-20000000000000000 ≤ (m - k) * q * s ∧ (m - k) * q * s ≤ 20000000000000000) ∧
    (0 ≤ m * q ∧ m * q ≤ 20000000000) ∧ (0 ≤ k * s ∧ k * s ≤ 20000000000) ∧ (-21000000000000000 ≤ (p - m * q) * s ∧ (p - m * q) * s ≤ 21000000000000000) ∧ (-21000000000000000 ≤ (r - k * s) * q ∧ (r - k * s) * q ≤ 21000000000000000) := by
  obtain ⟨⟨q1, q2⟩, p1⟩ := h1
  obtain ⟨⟨s1, s2⟩, r1⟩ := h2
  have a1 := mul_le (M := 1000000000) (N := 1000000) p1 (b := s) (by omega)
  have a2 := mul_le (M := 1000000000) (N := 1000000) r1 (b := q) (by omega)
  have a3 := mul_le (M := 20000) (N := 1000000) (a := m - k) (b := q) (by omega) (by omega)
  have a4 := mul_le (M := 20000000000) (N := 1000000) (a := (m - k) * q) (b := s) (by omega) (by omega)
  have a5 := mul_le (M := 20000) (N := 1000000) (a := m) (b := q) (by omega) (by omega)
  have a6 := mul_le (M := 20000) (N := 1000000) (a := k) (b := s) (by omega) (by omega)
  have a7 := mul_le (M := 21000000000) (N := 1000000) (a := p - m * q) (b := s) (by omega) (by omega)
  have a8 := mul_le (M := 21000000000) (N := 1000000) (a := r - k * s) (b := q) (by omega) (by omega)
  have a9 : 0 ≤ m * q := Int.mul_nonneg hm.1 (by omega)
  have a0 : 0 ≤ k * s := Int.mul_nonneg hk.1 (by omega)
  refine ⟨⟨?_, ?_⟩, ⟨?_, ?_⟩, ⟨?_, ?_⟩, ⟨?_, ?_⟩, ⟨?_, ?_⟩, ⟨?_, ?_⟩, ⟨?_, ?_⟩, ⟨?_, ?_⟩⟩ <;> omega
theorem floor_of {p q : Int} (hq : 1 ≤ q) : (p.tmod q < 0 → p.tdiv q - 1 = p / q) ∧ (¬ p.tmod q < 0 → p.tdiv q = p / q) := by
  have h1 := Int.mul_tdiv_add_tmod p q
  have h2 : p.tmod q < q ∧ -q < p.tmod q := by
    have a := Int.tmod_lt_of_pos p (show 0 < q by omega)
    have b := Int.tmod_lt_of_pos (-p) (show 0 < q by omega)
    rw [Int.neg_tmod] at b
    omega
  constructor
  · intro h
    have e : p = (p.tmod q + q) + q * (p.tdiv q - 1) := by rw [Int.mul_sub]; omega
    have := Int.add_mul_ediv_left (p.tmod q + q) (p.tdiv q - 1) (show q ≠ 0 by omega)
    have z : (p.tmod q + q) / q = 0 := Int.ediv_eq_zero_of_lt (by omega) (by omega)
    rw [← e, z] at this
    omega
  · intro h
    have e : p = p.tmod q + q * p.tdiv q := by omega
    have := Int.add_mul_ediv_left (p.tmod q) (p.tdiv q) (show q ≠ 0 by omega)
    have z : p.tmod q / q = 0 := Int.ediv_eq_zero_of_lt (by omega) (by omega)
    rw [← e, z] at this
    omega
set_option maxHeartbeats 800000 in
theorem fFloor_any {p q : Int} {w : World} (hp : -1000000000 ≤ p ∧ p ≤ 1000000000) (hq : 1 ≤ q ∧ q ≤ 1000000000) :
    Calls Try.prog 189 #[.agg #[.int .i64 p, .int .i64 q]] w fun e w' => e = .returned (.int .i64 (p / q)) ∧ Keeps w w' := by
  have HF := hid (floor_of (p := p) hq.1)
  have hb := tdiv_between p q hq.1
  obtain ⟨hp1, hp2⟩ := hp
  obtain ⟨hq1, hq2⟩ := hq
  have hq0 : ¬ q = 0 := by omega
  have hb1 : -1000000000 ≤ p.tdiv q ∧ p.tdiv q ≤ 1000000000 := by by_cases h : 0 ≤ p <;> omega
  clear hb
  by_cases ht : p.tmod q < 0
  · have HE := hid (HF.out.1 ht)
    go_enter Try.func189, Try.ntmps189
    go_wp2_with fail
    go_ret
    exact ⟨ret_int HE.out, keeps_alloc _ _⟩
  · have HE := hid (HF.out.2 ht)
    go_enter Try.func189, Try.ntmps189
    go_wp2_with fail
    go_ret
    exact ⟨ret_int HE.out, keeps_alloc _ _⟩
set_option maxHeartbeats 800000 in
theorem floorDiv_any {p q : Int} {w : World} (hp : -9000000000000000000 ≤ p ∧ p ≤ 9000000000000000000) (hq : 1 ≤ q ∧ q ≤ 9000000000000000000) :
    Calls Try.prog 191 #[.int .i64 p, .int .i64 q] w fun e w' => e = .returned (.int .i64 (p / q)) ∧ w = w' := by
  have HF := hid (floor_of (p := p) hq.1)
  have hb := tdiv_between p q hq.1
  obtain ⟨hp1, hp2⟩ := hp
  obtain ⟨hq1, hq2⟩ := hq
  have hq0 : ¬ q = 0 := by omega
  have hb1 : -9000000000000000000 ≤ p.tdiv q ∧ p.tdiv q ≤ 9000000000000000000 := by by_cases h : 0 ≤ p <;> omega
  clear hb
  by_cases ht : p.tmod q < 0
  · have HE := hid (HF.out.1 ht)
    go_enter Try.func191, Try.ntmps191
    go_wp2_with fail
    go_ret
    exact ⟨ret_int HE.out, rfl⟩
  · have HE := hid (HF.out.2 ht)
    go_enter Try.func191, Try.ntmps191
    go_wp2_with fail
    go_ret
    exact ⟨ret_int HE.out, rfl⟩
set_option maxHeartbeats 800000 in
theorem wGap_any {p q m r s k : Int} {w : World} (h1 : Rd p q) (h2 : Rd r s) (hm : 0 ≤ m ∧ m ≤ 20000) (hk : 0 ≤ k ∧ k ≤ 20000) :
    Calls Try.prog 190 #[.agg #[.int .i64 p, .int .i64 q], .int .i64 m, .agg #[.int .i64 r, .int .i64 s], .int .i64 k] w fun e w' => e = .returned (.int .i64 (sgn (gapZ p q m r s k))) ∧ Keeps w w' := by
  obtain ⟨a1, a2, a3, a4, -⟩ := gap_bd h1 h2 hm hk
  obtain ⟨⟨q1, q2⟩, p1, p2⟩ := h1
  obtain ⟨⟨s1, s2⟩, r1, r2⟩ := h2
  have kw := Keeps.trans (keeps_alloc w (.cells #[.int .i64 p, .int .i64 q] 41)) (keeps_alloc _ (.cells #[.int .i64 r, .int .i64 s] 41))
  have KW := hid kw
  clear kw
  go_enter Try.func190, Try.ntmps190
  go_wp2_with fail
  refine l1Sign_any.mono ?_
  rintro e w' ⟨rfl, rfl⟩
  go_wp2_with fail
  go_ret
  exact ⟨rfl, KW.out⟩
set_option maxHeartbeats 800000 in
theorem cmpFrac_wide {a b c d : Int} {w : World} (m1 : -1000000000000000000 ≤ a * d ∧ a * d ≤ 1000000000000000000) (m2 : -1000000000000000000 ≤ c * b ∧ c * b ≤ 1000000000000000000) :
    Calls Try.prog 149 #[.agg #[.int .i64 a, .int .i64 b], .agg #[.int .i64 c, .int .i64 d]] w fun e w' => e = .returned (.int .i64 (cmpQ a b c d)) ∧ Keeps w w' := by
  by_cases h1 : a * d < c * b
  · have HF := hid (cmpQ_lt h1)
    go_enter Try.func149, Try.ntmps149
    go_wp2_with fail
    go_quiet (fail)
    go_wp2
    go_ret
    exact ⟨ret_int (by rw [HF.out]), below_drewN (((Below.refl w.heap.size w).alloc (Nat.le_refl _) _).alloc (by simp) _) _⟩
  by_cases h2 : c * b < a * d
  · have HF := hid (cmpQ_gt h2)
    go_enter Try.func149, Try.ntmps149
    go_wp2_with fail
    go_quiet (fail)
    go_wp2
    go_ret
    exact ⟨ret_int (by rw [HF.out]), below_drewN (((Below.refl w.heap.size w).alloc (Nat.le_refl _) _).alloc (by simp) _) _⟩
  have HF := hid (cmpQ_eq h1 h2)
  go_enter Try.func149, Try.ntmps149
  go_wp2_with fail
  go_quiet (fail)
  go_wp2
  go_ret
  exact ⟨ret_int (by rw [HF.out]), below_drewN (((Below.refl w.heap.size w).alloc (Nat.le_refl _) _).alloc (by simp) _) _⟩
set_option maxHeartbeats 800000 in
theorem compareRests_any {p q m r s k : Int} {w : World} (h1 : Rd p q) (h2 : Rd r s) (hm : 0 ≤ m ∧ m ≤ 20000) (hk : 0 ≤ k ∧ k ≤ 20000) :
    Calls Try.prog 192 #[.agg #[.int .i64 p, .int .i64 q], .int .i64 m, .agg #[.int .i64 r, .int .i64 s], .int .i64 k] w fun e w' => e = .returned (.int .i64 (sgn (gapZ p q m r s k))) ∧ Keeps w w' := by
  obtain ⟨-, -, -, -, a5, a6, a7, a8⟩ := gap_bd h1 h2 hm hk
  obtain ⟨⟨q1, q2⟩, p1, p2⟩ := h1
  obtain ⟨⟨s1, s2⟩, r1, r2⟩ := h2
  have kw := Keeps.trans (keeps_alloc w (.cells #[.int .i64 p, .int .i64 q] 41)) (keeps_alloc _ (.cells #[.int .i64 r, .int .i64 s] 41))
  have KW := hid kw
  clear kw
  go_enter Try.func192, Try.ntmps192
  go_wp2_with fail
  refine (cmpFrac_wide (by omega) (by omega)).mono ?_
  rintro e w' ⟨rfl, kk⟩
  rw [rest_gap]
  have KK := hid (Keeps.trans KW.out kk)
  clear kk
  go_wp2_with fail
  go_ret
  exact ⟨rfl, KK.out⟩
end Go.Proofs.Ytkpliolafkdijaa
