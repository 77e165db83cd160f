/- Lists within bounds: iBounds, areLimits, areBounded; clamping: iClamp, shifted. -/
import Derived.Test.YtochlkebibkbiaaApp
namespace Go.Proofs.Ytochlkebibkbiaa
open Go.RowKit
set_option linter.unusedVariables false
set_option linter.unusedSimpArgs false

theorem l1Most_any (a b : Int) (w : World) : Calls Try.prog 113 #[.int .i64 a, .int .i64 b] w fun e w' => e = .returned (.int .i64 (max a b)) ∧ w = w' := by
  by_cases h : b < a
  · go_enter Try.func113, Try.ntmps113
    go_wp2
    go_ret
    exact ⟨ret_int (by omega), rfl⟩
  · go_enter Try.func113, Try.ntmps113
    go_wp2
    go_ret
    exact ⟨ret_int (by omega), rfl⟩

theorem l1Abs_any {a : Int} {w : World} (h1 : -4611686018427387904 ≤ a) (h2 : a ≤ 4611686018427387904) : Calls Try.prog 80 #[.int .i64 a] w fun e w' => e = .returned (.int .i64 (max a (-a))) ∧ w = w' := by
  go_enter Try.func80, Try.ntmps80
  go_wp2_with (go_at_call 113; refine (l1Most_any _ _ _).mono ?_; rintro e w' ⟨rfl, rfl⟩)
  go_ret
  exact ⟨rfl, rfl⟩
theorem go_max (a b : Int) : (if a < b then b else a) = max a b := by omega
theorem go_min (a b : Int) : (if b < a then b else a) = min a b := by omega
/-- The values plus a number, within the bounds. -/
def clampL (xs lo hi : List Int) (by' : Int) : List Int := (List.range xs.length).map fun i => min (max (xs.getD i 0 + by') (lo.getD i 0)) (hi.getD i 0)
theorem clampL_len (xs lo hi : List Int) (b : Int) : (clampL xs lo hi b).length = xs.length := by simp [clampL]
theorem clampL_getD (xs lo hi : List Int) (b : Int) (k : Nat) (h : k < xs.length) : (clampL xs lo hi b).getD k 0 = min (max (xs.getD k 0 + b) (lo.getD k 0)) (hi.getD k 0) := by simp [clampL, List.getD, h]
def Ordered (lo hi : List Int) : Prop := ∀ j, lo.getD j 0 ≤ hi.getD j 0

/-- The first k lower bounds are not above the upper ones. -/
def Below_ (lo hi : List Int) (k : Nat) : Prop := ∀ j, j < k → lo.getD j 0 ≤ hi.getD j 0
def leB (lo hi : List Int) : Bool := (List.range lo.length).all fun j => decide (lo.getD j 0 ≤ hi.getD j 0)
theorem leB_true {lo hi : List Int} : leB lo hi = true ↔ Below_ lo hi lo.length := by simp [leB, Below_]
theorem leB_no {lo hi : List Int} {k : Nat} (hk : k < lo.length) {x y : Int} (hx : x = lo.getD k 0) (hy : y = hi.getD k 0) (h : y < x) : leB lo hi = false := by
  rw [Bool.eq_false_iff]; intro h1; have := leB_true.1 h1 k hk; omega
theorem below_succ {lo hi : List Int} {k : Nat} (h : Below_ lo hi k) {x y : Int} (hx : x = lo.getD k 0) (hy : y = hi.getD k 0) (h1 : x ≤ y) : Below_ lo hi (k + 1) := by
  intro j hj
  by_cases hjk : j = k
  · subst hjk; omega
  · exact h j (by omega)
theorem ordered_of {lo hi : List Int} (h : leB lo hi = true) (hl : lo.length = hi.length) : Ordered lo hi := by
  intro j
  by_cases hj : j < lo.length
  · exact leB_true.1 h j hj
  · simp [List.getD, List.getElem?_eq_none (Nat.le_of_not_lt hj), List.getElem?_eq_none (show hi.length ≤ j by omega)]
def limitsB (lo hi : List Int) : Bool := partsB lo && partsB hi && decide (lo.length = hi.length) && leB lo hi
def boundedB (vs lo hi : List Int) : Bool := partsB vs && limitsB lo hi && decide (lo.length = vs.length)
theorem limitsB_true {lo hi : List Int} : limitsB lo hi = true ↔ partsB lo = true ∧ partsB hi = true ∧ lo.length = hi.length ∧ leB lo hi = true := by simp [limitsB, and_assoc]
theorem boundedB_true {vs lo hi : List Int} : boundedB vs lo hi = true ↔ partsB vs = true ∧ limitsB lo hi = true ∧ lo.length = vs.length := by simp [boundedB, and_assoc]
theorem boundedB_same (lo hi : List Int) : boundedB lo lo hi = limitsB lo hi := by
  cases h : limitsB lo hi with
  | false => simp [boundedB, h]
  | true => simp [boundedB, h, (limitsB_true.1 h).1]

def sgn (a : Int) : Int := if a < 0 then -1 else if 0 < a then 1 else 0
theorem l1Sign_any {a : Int} {w : World} : Calls Try.prog 124 #[.int .i64 a] w fun e w' => e = .returned (.int .i64 (sgn a)) ∧ w = w' := by
  by_cases h1 : a < 0
  · have E := hid (show sgn a = -1 by simp [sgn, h1])
    go_enter Try.func124, Try.ntmps124
    go_wp2
    go_ret
    exact ⟨ret_int E.out.symm, rfl⟩
  · by_cases h2 : 0 < a
    · have E := hid (show sgn a = 1 by simp [sgn, h1, h2])
      go_enter Try.func124, Try.ntmps124
      go_wp2
      go_ret
      exact ⟨ret_int E.out.symm, rfl⟩
    · have E := hid (show sgn a = 0 by simp [sgn, h1, h2])
      go_enter Try.func124, Try.ntmps124
      go_wp2
      go_ret
      exact ⟨ret_int E.out.symm, rfl⟩
end Go.Proofs.Ytochlkebibkbiaa
