/- Contracts of the small functions over ints and []int that many others call. -/
import Derived.Test.YtkpliolafkdijaaInts
namespace Go.Proofs.Ytkpliolafkdijaa
open Go.RowKit
set_option linter.unusedVariables false
set_option linter.unusedSimpArgs false

theorem ret_int {k : IntKind} {a b : Int} (h : a = b) : Ending.returned (.int k a) = .returned (.int k b) := by rw [h]
theorem ret_bool {a b : Bool} (h : a = b) : Ending.returned (.bool a) = .returned (.bool b) := by rw [h]

/-- Each element lies within -B and B. -/
def Bd (B : Int) (xs : List Int) : Prop := ∀ j, -B ≤ xs.getD j 0 ∧ xs.getD j 0 ≤ B
def inB (a lo hi : Int) : Bool := decide (lo ≤ a ∧ a ≤ hi)
theorem inB_true {a lo hi : Int} : inB a lo hi = true ↔ lo ≤ a ∧ a ≤ hi := by simp [inB]
theorem inB_false {a lo hi : Int} : inB a lo hi = false ↔ a < lo ∨ hi < a := by simp [inB]; omega
def within (lo hi : Int) (xs : List Int) : Bool := xs.all fun x => inB x lo hi
def Upto (lo hi : Int) (xs : List Int) (k : Nat) : Prop := ∀ j, j < k → lo ≤ xs.getD j 0 ∧ xs.getD j 0 ≤ hi
theorem upto_succ {lo hi : Int} {xs : List Int} {k : Nat} (h : Upto lo hi xs k) {x : Int} (hx : x = xs.getD k 0) (h1 : lo ≤ x) (h2 : x ≤ hi) : Upto lo hi xs (k + 1) := by
  intro j hj
  by_cases hjk : j = k
  · subst hjk; rw [← hx]; exact ⟨h1, h2⟩
  · exact h j (by omega)
theorem within_true {lo hi : Int} {xs : List Int} : within lo hi xs = true ↔ Upto lo hi xs xs.length := by
  simp only [within, List.all_eq_true, inB_true, Upto]
  constructor
  · intro h j hj
    have := h xs[j] (List.getElem_mem hj)
    simpa [List.getD, hj] using this
  · intro h x hx
    obtain ⟨j, hj, rfl⟩ := List.getElem_of_mem hx
    simpa [List.getD, hj] using h j hj
theorem within_no {lo hi : Int} {xs : List Int} {k : Nat} (hk : k < xs.length) {x : Int} (hx : x = xs.getD k 0) (h : x < lo ∨ hi < x) : within lo hi xs = false := by
  rw [Bool.eq_false_iff]
  intro h1
  have := within_true.1 h1 k hk
  omega
theorem within_bd {lo hi B : Int} {xs : List Int} (h : within lo hi xs = true) (h1 : -B ≤ lo) (h2 : hi ≤ B) (h3 : 0 ≤ B) : Bd B xs := by
  intro j
  by_cases hj : j < xs.length
  · have := within_true.1 h j hj; omega
  · simp [List.getD, List.getElem?_eq_none (Nat.le_of_not_lt hj)]; exact h3
theorem Bd.mono {B B' : Int} {xs : List Int} (h : Bd B xs) (hB : B ≤ B') : Bd B' xs := fun j => by have := h j; omega
theorem Bd.nil {B : Int} (h : 0 ≤ B) : Bd B [] := fun j => by simp; exact h

theorem take_sum_succ (xs : List Int) (k : Nat) (h : k < xs.length) : (xs.take (k + 1)).sum = (xs.take k).sum + xs.getD k 0 := by
  rw [List.take_succ_eq_append_getElem h, List.sum_append]
  simp [List.getD, h]
theorem sum_bd (xs : List Int) (B : Int) (h : Bd B xs) (h0 : 0 ≤ B) (k : Nat) (hk : k ≤ xs.length) : -(B * k) ≤ (xs.take k).sum ∧ (xs.take k).sum ≤ B * k := by
  induction k with
  | zero => simp
  | succ k ih =>
    have := ih (by omega)
    rw [take_sum_succ _ _ (by omega)]
    have := h k
    have e : B * ((k + 1 : Nat) : Int) = B * k + B := by rw [Int.natCast_succ, Int.mul_add, Int.mul_one]
    rw [e]; omega
theorem sum_bd_all (xs : List Int) (B : Int) (h : Bd B xs) (h0 : 0 ≤ B) : -(B * xs.length) ≤ xs.sum ∧ xs.sum ≤ B * xs.length := by
  have := sum_bd xs B h h0 xs.length (Nat.le_refl _)
  simpa using this
/-- The sum's bound, at a number for the length. -/
theorem sum_num (xs : List Int) (B : Int) (h : Bd B xs) (h0 : 0 ≤ B) (k m : Nat) (hk : k ≤ xs.length) (hm : k ≤ m) : -(B * m) ≤ (xs.take k).sum ∧ (xs.take k).sum ≤ B * m := by
  have h1 := sum_bd xs B h h0 k hk
  have h2 : B * (k : Int) ≤ B * (m : Int) := Int.mul_le_mul_of_nonneg_left (by omega) h0
  omega

theorem sq_bd {x B : Int} (h : -B ≤ x ∧ x ≤ B) : 0 ≤ x * x ∧ x * x ≤ B * B := by
  have h0 : 0 ≤ B := by omega
  constructor
  · rcases Int.le_total 0 x with h1 | h1
    · exact Int.mul_nonneg h1 h1
    · exact Int.mul_nonneg_of_nonpos_of_nonpos h1 h1
  · rcases Int.le_total 0 x with h1 | h1
    · exact Int.mul_le_mul h.2 h.2 h1 h0
    · have : (-x) * (-x) ≤ B * B := Int.mul_le_mul (by omega) (by omega) (by omega) h0
      rwa [Int.neg_mul_neg] at this

/-- The sum of the squares of the differences, of the first k. -/
def sqd (xs ys : List Int) : Nat → Int
  | 0 => 0
  | k + 1 => sqd xs ys k + (xs.getD k 0 - ys.getD k 0) * (xs.getD k 0 - ys.getD k 0)
theorem sqd_succ (xs ys : List Int) (k : Nat) : sqd xs ys (k + 1) = sqd xs ys k + (xs.getD k 0 - ys.getD k 0) * (xs.getD k 0 - ys.getD k 0) := rfl
theorem sqd_bd (xs ys : List Int) (hx : Bd 100000 xs) (hy : Bd 100000 ys) (k : Nat) : 0 ≤ sqd xs ys k ∧ sqd xs ys k ≤ 40000000000 * k := by
  induction k with
  | zero => simp [sqd]
  | succ k ih =>
    have := sq_bd (x := xs.getD k 0 - ys.getD k 0) (B := 200000) (by have := hx k; have := hy k; omega)
    simp only [sqd]
    omega

theorem l1In_any (a lo hi : Int) (w : World) : Calls Try.prog 96 #[.int .i64 a, .int .i64 lo, .int .i64 hi] w fun e w' => e = .returned (.bool (inB a lo hi)) ∧ w = w' := by
  by_cases h1 : lo ≤ a
  · by_cases h2 : a ≤ hi
    · go_enter Try.func96, Try.ntmps96
      go_wp2
      go_ret
      exact ⟨ret_bool (by simp [inB, h1, h2]), rfl⟩
    · go_enter Try.func96, Try.ntmps96
      go_wp2
      go_ret
      exact ⟨ret_bool (by simp [inB, h1]; omega), rfl⟩
  · go_enter Try.func96, Try.ntmps96
    go_wp2
    go_ret
    exact ⟨ret_bool (by simp [inB]; omega), rfl⟩
set_option maxHeartbeats 400000 in
theorem l1All_any (A : Option Addr) (l h n c : Nat) (xs : List Int) (lo hi : Int) (w : World) (ha : Ints w l h A n xs) :
    Calls Try.prog 146 #[.slice A n c, .int .i64 lo, .int .i64 hi] w fun e w' => e = .returned (.bool (within lo hi xs)) ∧ w = w' := by
  have hn := ha.le
  have hl := ha.1
  go_enter Try.func146, Try.ntmps146
  go_wp2_with fail
  go_loop [11] (fun i => ∃ k : Nat, k ≤ n ∧ i = .int .i64 k ∧ Upto lo hi xs k) (fun i => n - (intOf i).toNat)
  case atStart => exact ⟨0, Nat.zero_le _, rfl, fun j hj => absurd hj (by omega)⟩
  case round =>
    obtain ⟨k, hk, rfl, hu⟩ := hrel
    have HU := hid hu
    clear hu
    by_cases hlt : k < n
    · obtain ⟨b, off, x, rfl, _, _, hc, hx⟩ := ha.at_ hlt
      cases hin : inB x lo hi with
      | true =>
        have HI := hid (inB_true.1 hin)
        have HB := hid hin
        clear hin
        go_wp2_with (go_at_call 96; refine (l1In_any _ _ _ _).mono ?_; rintro e w' ⟨rfl, rfl⟩; rw [HB.out])
        go_round
        case rel => exact ⟨k + 1, by omega, by go_num, upto_succ HU.out hx.out HI.out.1 HI.out.2⟩
        case measure => simp [intOf]; omega
      | false =>
        have HI := hid (inB_false.1 hin)
        have HB := hid hin
        clear hin
        go_wp2_with (go_at_call 96; refine (l1In_any _ _ _ _).mono ?_; rintro e w' ⟨rfl, rfl⟩; rw [HB.out])
        go_ret
        exact ⟨ret_bool (within_no (by omega) hx.out HI.out).symm, rfl⟩
    · obtain rfl : k = n := by omega
      go_wp2
      go_ret
      exact ⟨ret_bool (within_true.2 (by rw [hl]; exact HU.out)).symm, rfl⟩
set_option maxHeartbeats 400000 in
theorem areWithin_any (A : Option Addr) (l h n c : Nat) (xs : List Int) (lo hi : Int) (w : World) (ha : Ints w l h A n xs) :
    Calls Try.prog 144 #[.slice A n c, .int .i64 lo, .int .i64 hi] w fun e w' => e = .returned (.bool (within lo hi xs)) ∧ w = w' := by
  have hn := ha.le
  have hl := ha.1
  go_enter Try.func144, Try.ntmps144
  go_wp2_with fail
  go_loop [11] (fun i => ∃ k : Nat, k ≤ n ∧ i = .int .i64 k ∧ Upto lo hi xs k) (fun i => n - (intOf i).toNat)
  case atStart => exact ⟨0, Nat.zero_le _, rfl, fun j hj => absurd hj (by omega)⟩
  case round =>
    obtain ⟨k, hk, rfl, hu⟩ := hrel
    have HU := hid hu
    clear hu
    by_cases hlt : k < n
    · obtain ⟨b, off, x, rfl, _, _, hc, hx⟩ := ha.at_ hlt
      by_cases h1 : lo ≤ x
      · by_cases h2 : x ≤ hi
        · go_wp2
          go_round
          case rel => exact ⟨k + 1, by omega, by go_num, upto_succ HU.out hx.out h1 h2⟩
          case measure => simp [intOf]; omega
        · go_wp2
          go_ret
          exact ⟨ret_bool (within_no (by omega) hx.out (.inr (by omega))).symm, rfl⟩
      · go_wp2
        go_ret
        exact ⟨ret_bool (within_no (by omega) hx.out (.inl (by omega))).symm, rfl⟩
    · obtain rfl : k = n := by omega
      go_wp2
      go_ret
      exact ⟨ret_bool (within_true.2 (by rw [hl]; exact HU.out)).symm, rfl⟩
set_option maxHeartbeats 400000 in
theorem total_any (A : Option Addr) (l h n c : Nat) (xs : List Int) (w : World) (ha : Ints w l h A n xs) (hb : Bd 10000000000 xs) :
    Calls Try.prog 135 #[.slice A n c] w fun e w' => e = .returned (.int .i64 xs.sum) ∧ w = w' := by
  have hn := ha.le
  have hl := ha.1
  have HB := hid hb
  clear hb
  go_enter Try.func135, Try.ntmps135
  go_wp2_with fail
  go_loop [3, 8] (fun s i => ∃ k : Nat, k ≤ n ∧ i = .int .i64 k ∧ s = .int .i64 (xs.take k).sum) (fun _ i => n - (intOf i).toNat)
  case atStart => exact ⟨0, Nat.zero_le _, rfl, by simp⟩
  case round =>
    obtain ⟨k, hk, rfl, rfl⟩ := hrel
    by_cases hlt : k < n
    · obtain ⟨b, off, x, rfl, _, _, hc, hx⟩ := ha.at_ hlt
      have h1 := sum_num xs _ HB.out (by omega) k 67108864 (by omega) (by omega)
      have h2 := HB.out k
      rw [← hx.out] at h2
      have HS := hid (take_sum_succ xs k (by omega))
      rw [← hx.out] at HS
      generalize (xs.take k).sum = s at *
      go_wp2
      go_round
      case rel => exact ⟨k + 1, by omega, by go_num, by rw [HS.out]⟩
      case measure => simp [intOf]; omega
    · obtain rfl : k = n := by omega
      have HS := hid (List.take_of_length_le (l := xs) (i := k) (by omega))
      go_wp2
      go_ret
      exact ⟨ret_int (by rw [HS.out]), rfl⟩
set_option maxHeartbeats 400000 in
theorem tSum_any (A : Option Addr) (l h n c : Nat) (xs : List Int) (w : World) (ha : Ints w l h A n xs) (hb : Bd 10000000000 xs) :
    Calls Try.prog 125 #[.slice A n c] w fun e w' => e = .returned (.int .i64 xs.sum) ∧ w = w' := by
  have hn := ha.le
  have hl := ha.1
  have HB := hid hb
  clear hb
  go_enter Try.func125, Try.ntmps125
  go_wp2_with fail
  go_loop [3, 8] (fun s i => ∃ k : Nat, k ≤ n ∧ i = .int .i64 k ∧ s = .int .i64 (xs.take k).sum) (fun _ i => n - (intOf i).toNat)
  case atStart => exact ⟨0, Nat.zero_le _, rfl, by simp⟩
  case round =>
    obtain ⟨k, hk, rfl, rfl⟩ := hrel
    by_cases hlt : k < n
    · obtain ⟨b, off, x, rfl, _, _, hc, hx⟩ := ha.at_ hlt
      have h1 := sum_num xs _ HB.out (by omega) k 67108864 (by omega) (by omega)
      have h2 := HB.out k
      rw [← hx.out] at h2
      have HS := hid (take_sum_succ xs k (by omega))
      rw [← hx.out] at HS
      generalize (xs.take k).sum = s at *
      go_wp2
      go_round
      case rel => exact ⟨k + 1, by omega, by go_num, by rw [HS.out]⟩
      case measure => simp [intOf]; omega
    · obtain rfl : k = n := by omega
      have HS := hid (List.take_of_length_le (l := xs) (i := k) (by omega))
      go_wp2
      go_ret
      exact ⟨ret_int (by rw [HS.out]), rfl⟩
/-- 1 to 30 numbers, each between -100000 and 100000. -/
def partsB (xs : List Int) : Bool := decide (1 ≤ xs.length) && decide (xs.length ≤ 30) && within (-100000) 100000 xs
theorem partsB_true {xs : List Int} : partsB xs = true ↔ 1 ≤ xs.length ∧ xs.length ≤ 30 ∧ within (-100000) 100000 xs = true := by simp [partsB, and_assoc]
theorem partsB_short {xs : List Int} (h : xs.length < 1 ∨ 30 < xs.length) : partsB xs = false := by
  rw [Bool.eq_false_iff]; intro h1; have := partsB_true.1 h1; omega
theorem partsB_mid {xs : List Int} (h : 1 ≤ xs.length) (h' : xs.length ≤ 30) : partsB xs = within (-100000) 100000 xs := by simp [partsB, h, h']
theorem partsB_bd {xs : List Int} (h : partsB xs = true) : Bd 100000 xs := within_bd (partsB_true.1 h).2.2 (by omega) (by omega) (by omega)

theorem iList_any (A : Option Addr) (l h n c : Nat) (xs : List Int) (w : World) (ha : Ints w l h A n xs) :
    Calls Try.prog 211 #[.slice A n c] w fun e w' => e = .returned (.bool (partsB xs)) ∧ w = w' := by
  have hn := ha.le
  have hl := ha.1
  by_cases h1 : inB n 1 30 = true
  · have h2 := inB_true.1 h1
    have HP := hid (partsB_mid (xs := xs) (by omega) (by omega))
    have HB := hid h1
    clear h1
    go_enter Try.func211, Try.ntmps211
    go_wp2_with (first | (go_at_call 96; refine (l1In_any _ _ _ _).mono ?_; rintro e w' ⟨rfl, rfl⟩; rw [HB.out]) | (go_at_call 146; refine (l1All_any _ _ _ _ _ _ _ _ _ ha).mono ?_; rintro e w' ⟨rfl, rfl⟩))
    go_ret
    exact ⟨ret_bool HP.out.symm, rfl⟩
  · have h1 : inB n 1 30 = false := by simpa using h1
    have HP := hid (partsB_short (xs := xs) (by have := inB_false.1 h1; omega))
    have HB := hid h1
    clear h1
    go_enter Try.func211, Try.ntmps211
    go_wp2_with (first | (go_at_call 96; refine (l1In_any _ _ _ _).mono ?_; rintro e w' ⟨rfl, rfl⟩; rw [HB.out]))
    go_ret
    exact ⟨ret_bool HP.out.symm, rfl⟩
theorem areParts_any (A : Option Addr) (l h n c : Nat) (xs : List Int) (w : World) (ha : Ints w l h A n xs) :
    Calls Try.prog 151 #[.slice A n c] w fun e w' => e = .returned (.bool (partsB xs)) ∧ w = w' := by
  have hn := ha.le
  have hl := ha.1
  by_cases h1 : 1 ≤ n
  · by_cases h2 : n ≤ 30
    · have HP := hid (partsB_mid (xs := xs) (by omega) (by omega))
      have hi1 : (1 : Int) ≤ (n : Int) := by omega
      have hi2 : (n : Int) ≤ (30 : Int) := by omega
      go_enter Try.func151, Try.ntmps151
      go_wp2_with (first | (go_at_call 144; refine (areWithin_any _ _ _ _ _ _ _ _ _ ha).mono ?_; rintro e w' ⟨rfl, rfl⟩))
      go_ret
      exact ⟨ret_bool HP.out.symm, rfl⟩
    · have HP := hid (partsB_short (xs := xs) (by omega))
      have hi1 : (1 : Int) ≤ (n : Int) := by omega
      have hi2 : ¬ (n : Int) ≤ (30 : Int) := by omega
      go_enter Try.func151, Try.ntmps151
      go_wp2_with fail
      go_ret
      exact ⟨ret_bool HP.out.symm, rfl⟩
  · have HP := hid (partsB_short (xs := xs) (by omega))
    have hi1 : ¬ (1 : Int) ≤ (n : Int) := by omega
    go_enter Try.func151, Try.ntmps151
    go_wp2_with fail
    go_ret
    exact ⟨ret_bool HP.out.symm, rfl⟩
set_option maxHeartbeats 400000 in
theorem iDistance_any (A A' : Option Addr) (l h l' h' n c c' : Nat) (xs ys : List Int) (w : World) (ha : Ints w l h A n xs) (hb : Ints w l' h' A' n ys) (bx : Bd 100000 xs) (by' : Bd 100000 ys) :
    Calls Try.prog 137 #[.slice A n c, .slice A' n c'] w fun e w' => e = .returned (.int .i64 (sqd xs ys n)) ∧ Quiet w w' := by
  have hn := ha.le
  have HX := hid bx
  have HY := hid by'
  clear bx by'
  go_enter Try.func137, Try.ntmps137
  go_wp2_with fail
  go_loopw [5, 10] (fun s i wr => ∃ k : Nat, k ≤ n ∧ i = .int .i64 k ∧ s = .int .i64 (sqd xs ys k) ∧ Quiet w wr) (fun _ i _ => n - (intOf i).toNat)
  case atStart => exact ⟨0, Nat.zero_le _, rfl, rfl, Quiet.refl _⟩
  case round =>
    obtain ⟨k, hk, rfl, rfl, hq⟩ := hrel
    by_cases hlt : k < n
    · obtain ⟨b, off, x, rfl, _, _, hc, hx⟩ := (ha.quiet hq).at_ hlt
      obtain ⟨b', off', y, rfl, _, _, hc', hy⟩ := (hb.quiet hq).at_ hlt
      have hi1 : (k : Int) < (n : Int) := by omega
      have g1 := HX.out k
      have g2 := HY.out k
      have g3 := sqd_bd xs ys HX.out HY.out k
      have HS := hid (sqd_succ xs ys k)
      rw [← hx.out, ← hy.out] at HS
      rw [← hx.out] at g1
      rw [← hy.out] at g2
      generalize sqd xs ys k = s at *
      have g4 := sq_bd (x := x - y) (B := 200000) (by omega)
      go_wp2_with fail
      go_quiet (fail)
      go_wp2
      go_roundw
      case rel => exact ⟨k + 1, by omega, by go_num, by rw [HS.out], hq.step _⟩
      case measure => simp [intOf]; omega
    · obtain rfl : k = n := by omega
      go_wp2
      go_ret
      exact ⟨rfl, hq⟩
set_option maxHeartbeats 400000 in
theorem squaredDistance_any (A A' : Option Addr) (l h l' h' n c c' : Nat) (xs ys : List Int) (w : World) (ha : Ints w l h A n xs) (hb : Ints w l' h' A' n ys) (bx : Bd 100000 xs) (by' : Bd 100000 ys) :
    Calls Try.prog 136 #[.slice A n c, .slice A' n c'] w fun e w' => e = .returned (.int .i64 (sqd xs ys n)) ∧ Quiet w w' := by
  have hn := ha.le
  have HX := hid bx
  have HY := hid by'
  clear bx by'
  go_enter Try.func136, Try.ntmps136
  go_wp2_with fail
  go_loopw [5, 10] (fun s i wr => ∃ k : Nat, k ≤ n ∧ i = .int .i64 k ∧ s = .int .i64 (sqd xs ys k) ∧ Quiet w wr) (fun _ i _ => n - (intOf i).toNat)
  case atStart => exact ⟨0, Nat.zero_le _, rfl, rfl, Quiet.refl _⟩
  case round =>
    obtain ⟨k, hk, rfl, rfl, hq⟩ := hrel
    by_cases hlt : k < n
    · obtain ⟨b, off, x, rfl, _, _, hc, hx⟩ := (ha.quiet hq).at_ hlt
      obtain ⟨b', off', y, rfl, _, _, hc', hy⟩ := (hb.quiet hq).at_ hlt
      have hi1 : (k : Int) < (n : Int) := by omega
      have g1 := HX.out k
      have g2 := HY.out k
      have g3 := sqd_bd xs ys HX.out HY.out k
      have HS := hid (sqd_succ xs ys k)
      rw [← hx.out, ← hy.out] at HS
      rw [← hx.out] at g1
      rw [← hy.out] at g2
      generalize sqd xs ys k = s at *
      have g4 := sq_bd (x := x - y) (B := 200000) (by omega)
      go_wp2_with fail
      go_quiet (fail)
      go_wp2
      go_roundw
      case rel => exact ⟨k + 1, by omega, by go_num, by rw [HS.out], hq.step _⟩
      case measure => simp [intOf]; omega
    · obtain rfl : k = n := by omega
      go_wp2
      go_ret
      exact ⟨rfl, hq⟩
end Go.Proofs.Ytkpliolafkdijaa
