/- Values of a record, records: valid or not; of the program and of the reference. -/
import Derived.Test.YtlkjhkkfdmjfcaaGreatDoorRecH
import Derived.Test.YtlkjhkkfdmjfcaaGreatDoorTaF
namespace Go.Proofs.YtlkjhkkfdmjfcaaGreatDoor
open Go.RowKit
set_option linter.unusedVariables false
set_option linter.unusedSimpArgs false

def fitRow (l : List VV) (vs : List Int) (k : Nat) : Bool := inB (vs.getD k 0) 0 ((l.getD k v0).2 - 1)
def fitTo (l : List VV) (vs : List Int) : Nat → Bool
  | 0 => true
  | k + 1 => fitTo l vs k && fitRow l vs k
/-- One value for each variable. -/
def fitB (l : List VV) (vs : List Int) : Bool := decide (vs.length = l.length) && fitTo l vs l.length
theorem fitTo_bad {l : List VV} {vs : List Int} {k n : Nat} (h : fitTo l vs k = false) (hn : k ≤ n) : fitTo l vs n = false := by
  induction n with
  | zero => obtain rfl : k = 0 := by omega
            exact h
  | succ n ih =>
    rcases Nat.lt_or_ge n k with h1 | h1
    · obtain rfl : k = n + 1 := by omega
      exact h
    · unfold fitTo; rw [ih h1]; rfl
theorem fitTo_row {l : List VV} {vs : List Int} : ∀ n k, fitTo l vs n = true → k < n → fitRow l vs k = true
  | 0, k, _, hk => absurd hk (by omega)
  | n + 1, k, h, hk => by
    unfold fitTo at h
    simp only [Bool.and_eq_true] at h
    rcases Nat.lt_or_ge k n with h1 | h1
    · exact fitTo_row n k h.1 h1
    · obtain rfl : k = n := by omega
      exact h.2
theorem fitB_no {l : List VV} {vs : List Int} {n k : Nat} (hl : l.length = n) (hk : k < n) (h : fitRow l vs k = false) : fitB l vs = false := by
  unfold fitB; rw [hl, fitTo_bad (k := k + 1) (by unfold fitTo; rw [h, Bool.and_false]) hk, Bool.and_false]
theorem fitB_yes {l : List VV} {vs : List Int} {n : Nat} (hl : l.length = n) (hv : vs.length = n) (h : fitTo l vs n = true) : fitB l vs = true := by
  unfold fitB; rw [hl, h, hv]; simp
theorem fitB_len {l : List VV} {vs : List Int} (h : vs.length ≠ l.length) : fitB l vs = false := by
  unfold fitB; rw [decide_eq_false h]; rfl
theorem fitB_row {l : List VV} {vs : List Int} {k : Nat} (h : fitB l vs = true) (hk : k < l.length) : vs.length = l.length ∧ 0 ≤ vs.getD k 0 ∧ vs.getD k 0 ≤ (l.getD k v0).2 - 1 := by
  unfold fitB at h
  simp only [Bool.and_eq_true, decide_eq_true_eq] at h
  have := inB_true.1 (fitTo_row _ k h.2 hk)
  exact ⟨h.1, this⟩
end Go.Proofs.YtlkjhkkfdmjfcaaGreatDoor
