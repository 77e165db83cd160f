/- The index of a record's values, the place of a number in a list: of the program and of the reference. -/
import Derived.Test.YtlkjhkkfdmjfcaaGreatDoorSurw
namespace Go.Proofs.YtlkjhkkfdmjfcaaGreatDoor
open Go.RowKit
set_option linter.unusedVariables false
set_option linter.unusedSimpArgs false

def ixTo (l : List VV) (vs : List Int) : Nat → Int
  | 0 => 0
  | k + 1 => ixTo l vs k * (l.getD k v0).2 + vs.getD k 0
theorem ixTo_bd {l : List VV} {vs : List Int} (hf : fitB l vs = true) (hv : LvOk l l.length) : ∀ k, k ≤ l.length → 0 ≤ ixTo l vs k ∧ ixTo l vs k + 1 ≤ prodTo l k
  | 0, _ => by simp [ixTo, prodTo]
  | k + 1, hk => by
    have ih := ixTo_bd hf hv k (by omega)
    have h1 := hv k (by omega)
    have h2 := (fitB_row hf (k := k) (by omega)).2
    show 0 ≤ ixTo l vs k * (l.getD k v0).2 + vs.getD k 0 ∧ ixTo l vs k * (l.getD k v0).2 + vs.getD k 0 + 1 ≤ prodTo l k * (l.getD k v0).2
    generalize (l.getD k v0).2 = L at *
    generalize vs.getD k 0 = v at *
    generalize ixTo l vs k = I at *
    generalize prodTo l k = P at *
    have h3 : 0 ≤ I * L := Int.mul_nonneg ih.1 (by omega)
    have h4 : (I + 1) * L ≤ P * L := Int.mul_le_mul_of_nonneg_right ih.2 (by omega)
    rw [Int.add_mul, Int.one_mul] at h4
    omega
/-- The first place of a number, as an int; -1 where it is not. -/
def posTo (xs : List Int) (v : Int) : Nat → Option Nat
  | 0 => none
  | k + 1 => match posTo xs v k with
    | some j => some j
    | none => if xs.getD k 0 = v then some k else none
end Go.Proofs.YtlkjhkkfdmjfcaaGreatDoor
