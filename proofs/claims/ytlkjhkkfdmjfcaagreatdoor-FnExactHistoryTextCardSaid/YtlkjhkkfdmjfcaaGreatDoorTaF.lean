/- TypeAt: of the program and of the reference, and the law. -/
import Derived.Test.YtlkjhkkfdmjfcaaGreatDoorTat
import Derived.Test.YtlkjhkkfdmjfcaaGreatDoorVarH
import Derived.Test.YtlkjhkkfdmjfcaaGreatDoorDat
import Derived.Deep.QuietTactic
import Derived.BigQuiet
namespace Go.Proofs.YtlkjhkkfdmjfcaaGreatDoor
open Go.ChangeShapes Go.WideShapes Go.ChangeAt Go.RowKit
set_option linter.unusedVariables false
set_option linter.unusedSimpArgs false

def taB (ps : List Int) (l : List VV) (i : Int) : Bool := tyB ps l && inB i 0 (tyN ps l - 1)
def taQ (ps : List Int) (l : List VV) (i : Int) : Int × List Int × Bool := if taB ps l i = true then (taLeaf ps l i, taVals l i, true) else (0, [], false)
theorem taQ_no {ps : List Int} {l : List VV} {i : Int} (h : taB ps l i = false) : taQ ps l i = (0, [], false) := if_neg (by rw [h]; simp)
theorem taQ_yes {ps : List Int} {l : List VV} {i : Int} (h : taB ps l i = true) : taQ ps l i = (taLeaf ps l i, taVals l i, true) := if_pos h
/-- A leaf, values of one's own, and whether they are fine. -/
def TaRes (w : World) (R : Int × List Int × Bool) (e : Ending) (w' : World) : Prop := ∃ A n c, e = .returned (.tuple #[.int .i64 R.1, .slice A n c, .bool R.2.2]) ∧ Mine w' w.heap.size w'.heap.size A n R.2.1 ∧ Keeps w w'
theorem TaRes.no {w w' : World} {R : Int × List Int × Bool} (h : R = (0, [], false)) (k : Keeps w w') : TaRes w R (.returned (.tuple #[.int .i64 0, .slice none 0 0, .bool false])) w' := by
  subst h; exact ⟨_, _, _, rfl, Mine.nil_ _ _, k⟩
theorem TaRes.yes {w w' : World} {R : Int × List Int × Bool} {a : Int} {xs : List Int} {A : Option Addr} {n c : Nat} (h : R = (a, xs, true)) (m : Mine w' w.heap.size w'.heap.size A n xs) (k : Keeps w w') : TaRes w R (.returned (.tuple #[.int .i64 a, .slice A n c, .bool true])) w' := by
  subst h; exact ⟨_, _, _, rfl, m, k⟩
theorem tyB_parts {ps : List Int} {l : List VV} (ht : tyB ps l = true) : geoB ps = true ∧ schB l = true := by unfold tyB at ht; simp only [Bool.and_eq_true] at ht; exact ht.1

end Go.Proofs.YtlkjhkkfdmjfcaaGreatDoor
