/- Records and surveys: valid or not; of the program and of the reference. -/
import Derived.Test.YtlkjhkkfdmjfcaaGreatDoorFit
namespace Go.Proofs.YtlkjhkkfdmjfcaaGreatDoor
open Go.RowKit
set_option linter.unusedVariables false
set_option linter.unusedSimpArgs false

/-- A record of a schema. -/
def recB (l : List VV) (r : RR) : Bool := inB r.1 0 29 && inB r.2.1 0 999 && fitB l r.2.2
theorem recB_no1 {l : List VV} {x y : Int} {zs : List Int} (h : inB x 0 29 = false) : recB l (x, y, zs) = false := by unfold recB; simp [h]
theorem recB_no2 {l : List VV} {x y : Int} {zs : List Int} (h : inB y 0 999 = false) : recB l (x, y, zs) = false := by unfold recB; simp [h]
theorem recB_eq {l : List VV} {x y : Int} {zs : List Int} (h : inB x 0 29 = true) (h2 : inB y 0 999 = true) : recB l (x, y, zs) = fitB l zs := by unfold recB; simp [h, h2]
theorem inB_not {a lo hi : Int} (h : ¬ (lo ≤ a ∧ a ≤ hi)) : inB a lo hi = false := by rw [Bool.eq_false_iff]; intro e; exact h (inB_true.1 e)
def datTo (l : List VV) (rs : List RR) : Nat → Bool
  | 0 => true
  | k + 1 => datTo l rs k && recB l (rs.getD k r0)
/-- Data of a schema. -/
def datB (l : List VV) (rs : List RR) : Bool := datTo l rs rs.length && decide (rs.length ≤ 40)
theorem datTo_bad {l : List VV} {rs : List RR} {k n : Nat} (h : datTo l rs k = false) (hn : k ≤ n) : datTo l rs n = false := by
  induction n with
  | zero => obtain rfl : k = 0 := by omega
            exact h
  | succ n ih =>
    rcases Nat.lt_or_ge n k with h1 | h1
    · obtain rfl : k = n + 1 := by omega
      exact h
    · unfold datTo; rw [ih h1]; rfl
theorem datTo_row {l : List VV} {rs : List RR} : ∀ n k, datTo l rs n = true → k < n → recB l (rs.getD k r0) = true
  | 0, k, _, hk => absurd hk (by omega)
  | n + 1, k, h, hk => by
    unfold datTo at h
    simp only [Bool.and_eq_true] at h
    rcases Nat.lt_or_ge k n with h1 | h1
    · exact datTo_row n k h.1 h1
    · obtain rfl : k = n := by omega
      exact h.2
theorem datB_no {l : List VV} {rs : List RR} {n k : Nat} (hl : rs.length = n) (hk : k < n) (h : recB l (rs.getD k r0) = false) : datB l rs = false := by
  unfold datB; rw [hl, datTo_bad (k := k + 1) (by unfold datTo; rw [h, Bool.and_false]) hk]; rfl
theorem datB_len {l : List VV} {rs : List RR} (h : ¬ rs.length ≤ 40) : datB l rs = false := by unfold datB; rw [decide_eq_false h, Bool.and_false]
theorem datB_yes {l : List VV} {rs : List RR} {n : Nat} (hl : rs.length = n) (h : datTo l rs n = true) : datB l rs = decide (n ≤ 40) := by unfold datB; rw [hl, h]; rfl

end Go.Proofs.YtlkjhkkfdmjfcaaGreatDoor
