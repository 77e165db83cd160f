/- Rounding to whole numbers: how rests compare; which element is raised or lowered; the floors. -/
import Derived.Test.YtnopedjgagoahaaKD
namespace Go.Proofs.Ytnopedjgagoahaa
open Go.RowKit
set_option linter.unusedVariables false
set_option linter.unusedSimpArgs false

/-- The difference (a - m) - (b - k) of two rests, times the denominators. -/
def gapZ (p q m r s k : Int) : Int := p * s - r * q - (m - k) * q * s
theorem cmp_sgn {a b x : Int} (h : x = a - b) : (if a < b then (-1 : Int) else if b < a then 1 else 0) = sgn x := by
  unfold sgn
  by_cases h1 : a < b
  · rw [if_pos h1, if_pos (show x < 0 by omega)]
  · rw [if_neg h1, if_neg (show ¬ x < 0 by omega)]
    by_cases h2 : b < a
    · rw [if_pos h2, if_pos (show 0 < x by omega)]
    · rw [if_neg h2, if_neg (show ¬ 0 < x by omega)]
theorem rest_gap (p q m r s k : Int) : cmpQ (p - m * q) q (r - k * s) s = sgn (gapZ p q m r s k) := by
  have e1 : (p - m * q) * s = p * s - m * q * s := by rw [Int.sub_mul]
  have e2 : (r - k * s) * q = r * q - k * q * s := by rw [Int.sub_mul, Int.mul_right_comm k s q]
  have e3 : (m - k) * q * s = m * q * s - k * q * s := by rw [Int.sub_mul, Int.sub_mul]
  unfold cmpQ
  exact cmp_sgn (by unfold gapZ; rw [e1, e2, e3]; omega)
/-- A fraction that can be rounded. -/
def Rd (p q : Int) : Prop := (1 ≤ q ∧ q ≤ 1000000) ∧ (-1000000000 ≤ p ∧ p ≤ 1000000000)
theorem Rd.of {p q : Int} (h : rdQ (p, q) = true) : Rd p q := by
  simp only [rdQ, shortQ, fewQ, Bool.and_eq_true, decide_eq_true_eq] at h
  have h1 := fracB_true.1 h.1.1
  exact ⟨⟨h1.1.1, h.2⟩, h1.2.1⟩
theorem mul_le {a b M N : Int} (ha : -M ≤ a ∧ a ≤ M) (hb : -N ≤ b ∧ b ≤ N) : -(M * N) ≤ a * b ∧ a * b ≤ M * N := by
  have h := Nat.mul_le_mul (show a.natAbs ≤ M.natAbs by omega) (show b.natAbs ≤ N.natAbs by omega)
  rw [← Int.natAbs_mul, ← Int.natAbs_mul] at h
  have hm : 0 ≤ M * N := Int.mul_nonneg (by omega) (by omega)
  omega
theorem gap_bd {p q m r s k : Int} (h1 : Rd p q) (h2 : Rd r s) (hm : 0 ≤ m ∧ m ≤ 20000) (hk : 0 ≤ k ∧ k ≤ 20000) :
    (-1000000000000000 ≤ p * s ∧ p * s ≤ 1000000000000000) ∧ (-1000000000000000 ≤ r * q ∧ r * q ≤ 1000000000000000) ∧ (-20000000000 ≤ (m - k) * q ∧ (m - k) * q ≤ 20000000000) ∧ (-20000000000000000 ≤ (m - k) * q * s ∧ (m - k) * q * s ≤ 20000000000000000) ∧
    (0 ≤ m * q ∧ m * q ≤ 20000000000) ∧ (0 ≤ k * s ∧ k * s ≤ 20000000000) ∧ (-21000000000000000 ≤ (p - m * q) * s ∧ (p - m * q) * s ≤ 21000000000000000) ∧ (-21000000000000000 ≤ (r - k * s) * q ∧ (r - k * s) * q ≤ 21000000000000000) := by
  obtain ⟨⟨q1, q2⟩, p1⟩ := h1
  obtain ⟨⟨s1, s2⟩, r1⟩ := h2
  have a1 := mul_le (M := 1000000000) (N := 1000000) p1 (b := s) (by omega)
  have a2 := mul_le (M := 1000000000) (N := 1000000) r1 (b := q) (by omega)
  have a3 := mul_le (M := 20000) (N := 1000000) (a := m - k) (b := q) (by omega) (by omega)
  have a4 := mul_le (M := 20000000000) (N := 1000000) (a := (m - k) * q) (b := s) (by omega) (by omega)
  have a5 := mul_le (M := 20000) (N := 1000000) (a := m) (b := q) (by omega) (by omega)
  have a6 := mul_le (M := 20000) (N := 1000000) (a := k) (b := s) (by omega) (by omega)
  have a7 := mul_le (M := 21000000000) (N := 1000000) (a := p - m * q) (b := s) (by omega) (by omega)
  have a8 := mul_le (M := 21000000000) (N := 1000000) (a := r - k * s) (b := q) (by omega) (by omega)
  have a9 : 0 ≤ m * q := Int.mul_nonneg hm.1 (by omega)
  have a0 : 0 ≤ k * s := Int.mul_nonneg hk.1 (by omega)
  refine ⟨⟨?_, ?_⟩, ⟨?_, ?_⟩, ⟨?_, ?_⟩, ⟨?_, ?_⟩, ⟨?_, ?_⟩, ⟨?_, ?_⟩, ⟨?_, ?_⟩, ⟨?_, ?_⟩⟩ <;> omega
theorem floor_of {p q : Int} (hq : 1 ≤ q) : (p.tmod q < 0 → p.tdiv q - 1 = p / q) ∧ (¬ p.tmod q < 0 → p.tdiv q = p / q) := by
  have h1 := Int.mul_tdiv_add_tmod p q
  have h2 : p.tmod q < q ∧ -q < p.tmod q := by
    have a := Int.tmod_lt_of_pos p (show 0 < q by omega)
    have b := Int.tmod_lt_of_pos (-p) (show 0 < q by omega)
    rw [Int.neg_tmod] at b
    omega
  constructor
  · intro h
    have e : p = (p.tmod q + q) + q * (p.tdiv q - 1) := by rw [Int.mul_sub]; omega
    have := Int.add_mul_ediv_left (p.tmod q + q) (p.tdiv q - 1) (show q ≠ 0 by omega)
    have z : (p.tmod q + q) / q = 0 := Int.ediv_eq_zero_of_lt (by omega) (by omega)
    rw [← e, z] at this
    omega
  · intro h
    have e : p = p.tmod q + q * p.tdiv q := by omega
    have := Int.add_mul_ediv_left (p.tmod q) (p.tdiv q) (show q ≠ 0 by omega)
    have z : p.tmod q / q = 0 := Int.ediv_eq_zero_of_lt (by omega) (by omega)
    rw [← e, z] at this
    omega
set_option maxHeartbeats 800000 in
theorem fFloor_any {p q : Int} {w : World} (hp : -1000000000 ≤ p ∧ p ≤ 1000000000) (hq : 1 ≤ q ∧ q ≤ 1000000000) :
    Calls Try.prog 231 #[.agg #[.int .i64 p, .int .i64 q]] w fun e w' => e = .returned (.int .i64 (p / q)) ∧ Keeps w w' := by
  have HF := hid (floor_of (p := p) hq.1)
  have hb := tdiv_between p q hq.1
  obtain ⟨hp1, hp2⟩ := hp
  obtain ⟨hq1, hq2⟩ := hq
  have hq0 : ¬ q = 0 := by omega
  have hb1 : -1000000000 ≤ p.tdiv q ∧ p.tdiv q ≤ 1000000000 := by by_cases h : 0 ≤ p <;> omega
  clear hb
  by_cases ht : p.tmod q < 0
  · have HE := hid (HF.out.1 ht)
    go_enter Try.func231, Try.ntmps231
    go_wp2_with fail
    go_ret
    exact ⟨ret_int HE.out, keeps_alloc _ _⟩
  · have HE := hid (HF.out.2 ht)
    go_enter Try.func231, Try.ntmps231
    go_wp2_with fail
    go_ret
    exact ⟨ret_int HE.out, keeps_alloc _ _⟩
set_option maxHeartbeats 800000 in
theorem floorDiv_any {p q : Int} {w : World} (hp : -9000000000000000000 ≤ p ∧ p ≤ 9000000000000000000) (hq : 1 ≤ q ∧ q ≤ 9000000000000000000) :
    Calls Try.prog 226 #[.int .i64 p, .int .i64 q] w fun e w' => e = .returned (.int .i64 (p / q)) ∧ w = w' := by
  have HF := hid (floor_of (p := p) hq.1)
  have hb := tdiv_between p q hq.1
  obtain ⟨hp1, hp2⟩ := hp
  obtain ⟨hq1, hq2⟩ := hq
  have hq0 : ¬ q = 0 := by omega
  have hb1 : -9000000000000000000 ≤ p.tdiv q ∧ p.tdiv q ≤ 9000000000000000000 := by by_cases h : 0 ≤ p <;> omega
  clear hb
  by_cases ht : p.tmod q < 0
  · have HE := hid (HF.out.1 ht)
    go_enter Try.func226, Try.ntmps226
    go_wp2_with fail
    go_ret
    exact ⟨ret_int HE.out, rfl⟩
  · have HE := hid (HF.out.2 ht)
    go_enter Try.func226, Try.ntmps226
    go_wp2_with fail
    go_ret
    exact ⟨ret_int HE.out, rfl⟩
set_option maxHeartbeats 800000 in
theorem wGap_any {p q m r s k : Int} {w : World} (h1 : Rd p q) (h2 : Rd r s) (hm : 0 ≤ m ∧ m ≤ 20000) (hk : 0 ≤ k ∧ k ≤ 20000) :
    Calls Try.prog 252 #[.agg #[.int .i64 p, .int .i64 q], .int .i64 m, .agg #[.int .i64 r, .int .i64 s], .int .i64 k] w fun e w' => e = .returned (.int .i64 (sgn (gapZ p q m r s k))) ∧ Keeps w w' := by
  obtain ⟨a1, a2, a3, a4, -⟩ := gap_bd h1 h2 hm hk
  obtain ⟨⟨q1, q2⟩, p1, p2⟩ := h1
  obtain ⟨⟨s1, s2⟩, r1, r2⟩ := h2
  have kw := Keeps.trans (keeps_alloc w (.cells #[.int .i64 p, .int .i64 q] 31)) (keeps_alloc _ (.cells #[.int .i64 r, .int .i64 s] 31))
  have KW := hid kw
  clear kw
  go_enter Try.func252, Try.ntmps252
  go_wp2_with fail
  refine l1Sign_any.mono ?_
  rintro e w' ⟨rfl, rfl⟩
  go_wp2_with fail
  go_ret
  exact ⟨rfl, KW.out⟩
set_option maxHeartbeats 800000 in
theorem cmpFrac_wide {a b c d : Int} {w : World} (m1 : -1000000000000000000 ≤ a * d ∧ a * d ≤ 1000000000000000000) (m2 : -1000000000000000000 ≤ c * b ∧ c * b ≤ 1000000000000000000) :
    Calls Try.prog 100 #[.agg #[.int .i64 a, .int .i64 b], .agg #[.int .i64 c, .int .i64 d]] w fun e w' => e = .returned (.int .i64 (cmpQ a b c d)) ∧ Keeps w w' := by
  by_cases h1 : a * d < c * b
  · have HF := hid (cmpQ_lt h1)
    go_enter Try.func100, Try.ntmps100
    go_wp2_with fail
    go_quiet (fail)
    go_wp2
    go_ret
    exact ⟨ret_int (by rw [HF.out]), below_drewN (((Below.refl w.heap.size w).alloc (Nat.le_refl _) _).alloc (by simp) _) _⟩
  by_cases h2 : c * b < a * d
  · have HF := hid (cmpQ_gt h2)
    go_enter Try.func100, Try.ntmps100
    go_wp2_with fail
    go_quiet (fail)
    go_wp2
    go_ret
    exact ⟨ret_int (by rw [HF.out]), below_drewN (((Below.refl w.heap.size w).alloc (Nat.le_refl _) _).alloc (by simp) _) _⟩
  have HF := hid (cmpQ_eq h1 h2)
  go_enter Try.func100, Try.ntmps100
  go_wp2_with fail
  go_quiet (fail)
  go_wp2
  go_ret
  exact ⟨ret_int (by rw [HF.out]), below_drewN (((Below.refl w.heap.size w).alloc (Nat.le_refl _) _).alloc (by simp) _) _⟩
set_option maxHeartbeats 800000 in
theorem compareRests_any {p q m r s k : Int} {w : World} (h1 : Rd p q) (h2 : Rd r s) (hm : 0 ≤ m ∧ m ≤ 20000) (hk : 0 ≤ k ∧ k ≤ 20000) :
    Calls Try.prog 251 #[.agg #[.int .i64 p, .int .i64 q], .int .i64 m, .agg #[.int .i64 r, .int .i64 s], .int .i64 k] w fun e w' => e = .returned (.int .i64 (sgn (gapZ p q m r s k))) ∧ Keeps w w' := by
  obtain ⟨-, -, -, -, a5, a6, a7, a8⟩ := gap_bd h1 h2 hm hk
  obtain ⟨⟨q1, q2⟩, p1, p2⟩ := h1
  obtain ⟨⟨s1, s2⟩, r1, r2⟩ := h2
  have kw := Keeps.trans (keeps_alloc w (.cells #[.int .i64 p, .int .i64 q] 31)) (keeps_alloc _ (.cells #[.int .i64 r, .int .i64 s] 31))
  have KW := hid kw
  clear kw
  go_enter Try.func251, Try.ntmps251
  go_wp2_with fail
  refine (cmpFrac_wide (by omega) (by omega)).mono ?_
  rintro e w' ⟨rfl, kk⟩
  rw [rest_gap]
  have KK := hid (Keeps.trans KW.out kk)
  clear kk
  go_wp2_with fail
  go_ret
  exact ⟨rfl, KK.out⟩
end Go.Proofs.Ytnopedjgagoahaa

/- Whole numbers with a sum, nearest to fractions: the plain law. -/
namespace Go.Proofs.Ytnopedjgagoahaa
open Go.RowKit
set_option linter.unusedVariables false
set_option linter.unusedSimpArgs false

abbrev QL := List (Int × Int)
def gapS (l : QL) (x : List Int) (i j : Nat) : Int := sgn (gapZ (l.getD i (0, 0)).1 (l.getD i (0, 0)).2 (x.getD i 0) (l.getD j (0, 0)).1 (l.getD j (0, 0)).2 (x.getD j 0))
/-- Of the first k elements the one with the greatest rest. -/
def upAt (l : QL) (x : List Int) : Nat → Nat
  | 0 => 0
  | k + 1 => if 0 < gapS l x k (upAt l x k) then k else upAt l x k
/-- Of the first k elements that are not 0 the one with the least rest, or -1. -/
def dnAt (l : QL) (x : List Int) : Nat → Int
  | 0 => -1
  | k + 1 => if 0 < x.getD k 0 ∧ (dnAt l x k < 0 ∨ gapS l x k (dnAt l x k).toNat < 0) then (k : Int) else dnAt l x k
def upX (l : QL) (x : List Int) : List Int := x.set (upAt l x l.length) (x.getD (upAt l x l.length) 0 + 1)
def dnX (l : QL) (x : List Int) : List Int := x.set (dnAt l x l.length).toNat (x.getD (dnAt l x l.length).toNat 0 - 1)
def upN (l : QL) (x : List Int) : Nat → List Int
  | 0 => x
  | t + 1 => upX l (upN l x t)
def dnN (l : QL) (x : List Int) : Nat → List Int
  | 0 => x
  | t + 1 => dnX l (dnN l x t)
def flr (f : Int × Int) : Int := max (f.1 / f.2) 0
def floors (l : QL) : List Int := l.map flr
/-- How many units are added, and how many taken. -/
def nT (l : QL) (z : Int) : Nat := (z - (floors l).sum).toNat
def nD (l : QL) (z : Int) : Nat := ((floors l).sum - z).toNat
def nearX (l : QL) (z : Int) : List Int := dnN l (upN l (floors l) (nT l z)) (nD l z)
def nearB (l : QL) (z : Int) : Bool := roundB l && inB z 0 5000
def nearQ (l : QL) (z : Int) : List Int × Bool := if nearB l z = true then (nearX l z, true) else ([], false)
theorem nearQ_no {l : QL} {z : Int} (h : nearB l z = false) : nearQ l z = ([], false) := if_neg (by rw [h]; simp)
theorem nearQ_yes {l : QL} {z : Int} (h : nearB l z = true) : nearQ l z = (nearX l z, true) := if_pos h

theorem sum_setAt : ∀ (x : List Int) (i : Nat) (v : Int), i < x.length → (x.set i v).sum = x.sum - x.getD i 0 + v
  | a :: x, 0, v, _ => by simp; omega
  | a :: x, i + 1, v, h => by
    have := sum_setAt x i v (by simpa using h)
    simp only [List.set_cons_succ, List.sum_cons, List.getD_cons_succ]
    omega
theorem sum_nonpos : ∀ (x : List Int), (∀ j, j < x.length → x.getD j 0 ≤ 0) → x.sum ≤ 0
  | [], _ => by simp
  | a :: x, h => by
    have h0 := h 0 (by simp)
    have := sum_nonpos x (fun j hj => by have := h (j + 1) (by simp; omega); simpa using this)
    simp at h0 ⊢
    omega
theorem getD_set_int (x : List Int) (i j : Nat) (v : Int) : (x.set i v).getD j 0 = if i = j ∧ j < x.length then v else x.getD j 0 := by
  simp only [List.getD, List.getElem?_set]
  by_cases h : i = j
  · subst h
    by_cases h2 : i < x.length
    · simp [h2]
    · simp [h2]
  · simp [h]
theorem upAt_lt (l : QL) (x : List Int) (k : Nat) : upAt l x k ≤ k ∧ (0 < k → upAt l x k < k) := by
  induction k with
  | zero => exact ⟨Nat.le_refl _, fun h => absurd h (by omega)⟩
  | succ k ih => unfold upAt; split <;> omega
theorem upAt_one (l : QL) (x : List Int) : (0 : Int) = if 0 + 1 = 0 then -1 else ((upAt l x (0 + 1) : Nat) : Int) := by
  have h1 : upAt l x (0 + 1) < 0 + 1 := (upAt_lt l x (0 + 1)).2 (by omega)
  rw [if_neg (by omega), show upAt l x (0 + 1) = 0 by omega]; rfl
theorem dnAt_bd (l : QL) (x : List Int) (k : Nat) : -1 ≤ dnAt l x k ∧ dnAt l x k < k := by
  induction k with
  | zero => simp [dnAt]
  | succ k ih => unfold dnAt; split <;> omega
theorem dnAt_pos (l : QL) (x : List Int) (k : Nat) (h : 0 ≤ dnAt l x k) : 0 < x.getD (dnAt l x k).toNat 0 := by
  induction k with
  | zero => simp [dnAt] at h
  | succ k ih =>
    unfold dnAt at h ⊢
    by_cases c : 0 < x.getD k 0 ∧ (dnAt l x k < 0 ∨ gapS l x k (dnAt l x k).toNat < 0)
    · rw [if_pos c]; simpa using c.1
    · rw [if_neg c] at h ⊢; exact ih h
theorem dnAt_none (l : QL) (x : List Int) (k : Nat) (h : dnAt l x k < 0) : ∀ j, j < k → x.getD j 0 ≤ 0 := by
  induction k with
  | zero => intro j hj; omega
  | succ k ih =>
    unfold dnAt at h
    by_cases c : 0 < x.getD k 0 ∧ (dnAt l x k < 0 ∨ gapS l x k (dnAt l x k).toNat < 0)
    · rw [if_pos c] at h; omega
    · rw [if_neg c] at h
      intro j hj
      by_cases hjk : j = k
      · subst hjk
        by_cases hp : 0 < x.getD j 0
        · exact absurd ⟨hp, .inl h⟩ c
        · omega
      · exact ih h j (by omega)
/-- As many numbers as fractions, each from 0 to B, with the sum s. -/
structure NInv (l : QL) (x : List Int) (B s : Int) : Prop where
  len : x.length = l.length
  bd : ∀ j, 0 ≤ x.getD j 0 ∧ x.getD j 0 ≤ B
  sum : x.sum = s
theorem NInv.up {l : QL} {x : List Int} {B s : Int} (h : NInv l x B s) (h0 : 0 < l.length) : NInv l (upX l x) (B + 1) (s + 1) := by
  have hu := (upAt_lt l x l.length).2 h0
  refine ⟨by simp [upX, h.len], fun j => ?_, ?_⟩
  · have h1 := h.bd j
    have h2 := h.bd (upAt l x l.length)
    unfold upX
    rw [getD_set_int]
    split <;> omega
  · unfold upX
    rw [sum_setAt _ _ _ (by rw [h.len]; exact hu)]
    have := h.sum
    omega
theorem NInv.pos {l : QL} {x : List Int} {B s : Int} (h : NInv l x B s) (h0 : 0 < s) : 0 ≤ dnAt l x l.length := by
  rcases Int.lt_or_le (dnAt l x l.length) 0 with hn | hp
  · have := sum_nonpos x (fun j hj => dnAt_none l x l.length hn j (by rw [← h.len]; exact hj))
    have := h.sum
    omega
  · exact hp
theorem NInv.dn {l : QL} {x : List Int} {B s : Int} (h : NInv l x B s) (h0 : 0 < s) : NInv l (dnX l x) B (s - 1) := by
  have hp := h.pos h0
  have hb := dnAt_bd l x l.length
  have hx := dnAt_pos l x l.length hp
  refine ⟨by simp [dnX, h.len], fun j => ?_, ?_⟩
  · have h1 := h.bd j
    have h2 := h.bd (dnAt l x l.length).toNat
    unfold dnX
    rw [getD_set_int]
    split <;> omega
  · unfold dnX
    rw [sum_setAt _ _ _ (by rw [h.len]; omega)]
    have := h.sum
    omega
theorem NInv.mono {l : QL} {x : List Int} {B B' s : Int} (h : NInv l x B s) (hB : B ≤ B') : NInv l x B' s := ⟨h.len, fun j => by have := h.bd j; omega, h.sum⟩
theorem roundB_all {l : QL} (h : roundB l = true) : (1 ≤ l.length ∧ l.length ≤ 30) ∧ ∀ j, j < l.length → rdQ (l.getD j (0, 0)) = true := by
  simp only [roundB, Bool.and_eq_true] at h
  have h1 := inB_true.1 h.1
  exact ⟨by omega, all_true.1 h.2⟩
theorem flr_bd {f : Int × Int} (h : rdQ f = true) : 0 ≤ flr f ∧ flr f ≤ 5000 := by
  simp only [rdQ, shortQ, fewQ, Bool.and_eq_true, decide_eq_true_eq] at h
  have h1 := fracB_true.1 h.1.1
  have h2 := (inB_true.1 h.1.2).2
  have h3 : f.1 / f.2 ≤ 5000 := by
    have := Int.ediv_le_ediv (show 0 < f.2 by omega) h2
    rw [Int.mul_ediv_cancel _ (show f.2 ≠ 0 by omega)] at this
    exact this
  unfold flr
  omega
theorem floors_getD (l : QL) (j : Nat) (h : j < l.length) : (floors l).getD j 0 = flr (l.getD j (0, 0)) := by simp [floors, List.getD, h]
theorem floors_inv {l : QL} (h : roundB l = true) : NInv l (floors l) 5000 (floors l).sum := by
  refine ⟨by simp [floors], fun j => ?_, rfl⟩
  by_cases hj : j < l.length
  · rw [floors_getD l j hj]; exact flr_bd ((roundB_all h).2 j hj)
  · simp [floors, List.getD, List.getElem?_eq_none (show (List.map flr l).length ≤ j by simp; omega)]
theorem upN_inv {l : QL} {x : List Int} {B s : Int} (h : NInv l x B s) (h0 : 0 < l.length) (t : Nat) : NInv l (upN l x t) (B + t) (s + t) := by
  induction t with
  | zero => simpa [upN] using h
  | succ t ih =>
    have := ih.up h0
    have e1 : B + ((t + 1 : Nat) : Int) = B + t + 1 := by omega
    have e2 : s + ((t + 1 : Nat) : Int) = s + t + 1 := by omega
    rw [e1, e2]; exact this
theorem dnN_inv {l : QL} {x : List Int} {B s : Int} (h : NInv l x B s) (t : Nat) (ht : (t : Int) ≤ s) : NInv l (dnN l x t) B (s - t) := by
  induction t with
  | zero => simpa [dnN] using h
  | succ t ih =>
    have := (ih (by omega)).dn (by omega)
    have e2 : s - ((t + 1 : Nat) : Int) = s - t - 1 := by omega
    rw [e2]; exact this
/-- The numbers behind t units more and d units less. -/
def nwX (l : QL) (t d : Nat) : List Int := dnN l (upN l (floors l) t) d
theorem floors_sum {l : QL} (h : roundB l = true) : 0 ≤ (floors l).sum ∧ (floors l).sum ≤ 150000 := by
  have h1 := floors_inv h
  have h2 := roundB_all h
  have : ∀ (x : List Int), (∀ j, 0 ≤ x.getD j 0 ∧ x.getD j 0 ≤ 5000) → 0 ≤ x.sum ∧ x.sum ≤ 5000 * x.length := by
    intro x
    induction x with
    | nil => intro _; simp
    | cons a x ih =>
      intro hx
      have a0 := hx 0
      have := ih (fun j => by have := hx (j + 1); simpa using this)
      simp at a0 ⊢
      omega
  have := this _ h1.bd
  rw [h1.len] at this
  omega
theorem nw_inv {l : QL} {z : Int} (h : nearB l z = true) {t d : Nat} (ht : t ≤ nT l z) (hd : d ≤ nD l z) : NInv l (nwX l t d) 10000 ((floors l).sum + t - d) := by
  simp only [nearB, Bool.and_eq_true] at h
  have hz := inB_true.1 h.2
  have h1 := upN_inv (floors_inv h.1) (by have := (roundB_all h.1).1; omega) t
  have hs := floors_sum h.1
  unfold nT at ht
  unfold nD at hd
  exact (dnN_inv h1 d (by omega)).mono (by omega)
theorem nw_up {l : QL} {t : Nat} : nwX l (t + 1) 0 = upX l (nwX l t 0) := rfl
theorem nw_dn {l : QL} {t d : Nat} : nwX l t (d + 1) = dnX l (nwX l t d) := rfl
theorem nw_end {l : QL} {z : Int} : nwX l (nT l z) (nD l z) = nearX l z := rfl
theorem upAt_next {l : QL} {x : List Int} {k u : Nat} {s : Int} (h : upAt l x k = u) (hs : gapS l x k u = s) : upAt l x (k + 1) = if 0 < s then k else u := by unfold upAt; rw [h, hs]
theorem dnAt_next0 {l : QL} {x : List Int} {k : Nat} {xk u : Int} (hx : xk = x.getD k 0) (h0 : ¬ 0 < xk) (h : dnAt l x k = u) : dnAt l x (k + 1) = u := by
  unfold dnAt; rw [h, if_neg (by rw [← hx]; exact fun c => h0 c.1)]
theorem dnAt_next1 {l : QL} {x : List Int} {k : Nat} {xk u : Int} (hx : xk = x.getD k 0) (h0 : 0 < xk) (h : dnAt l x k = u) (hu : u < 0) : dnAt l x (k + 1) = k := by
  unfold dnAt; rw [h, if_pos (by rw [← hx]; exact ⟨h0, .inl hu⟩)]
theorem dnAt_next2 {l : QL} {x : List Int} {k v : Nat} {xk s : Int} (hx : xk = x.getD k 0) (h0 : 0 < xk) (h : dnAt l x k = (v : Int)) (hs : gapS l x k v = s) : dnAt l x (k + 1) = if s < 0 then (k : Int) else v := by
  unfold dnAt; rw [h, ← hx]
  simp only [Int.toNat_natCast, hs]
  by_cases c : s < 0
  · rw [if_pos ⟨h0, .inr c⟩, if_pos c]
  · rw [if_neg (by omega), if_neg c]
theorem gapS_at {l : QL} {x : List Int} {i j : Nat} {p q m r s k : Int} (h1 : (p, q) = l.getD i (0, 0)) (h2 : m = x.getD i 0) (h3 : (r, s) = l.getD j (0, 0)) (h4 : k = x.getD j 0) : gapS l x i j = sgn (gapZ p q m r s k) := by
  unfold gapS; rw [← h1, ← h2, ← h3, ← h4]
end Go.Proofs.Ytnopedjgagoahaa

