/- The helpers of the laws over records and slices of them: walks. -/
import Derived.Test.YtlkjhkkfdmjfcaaGreatDoorRec
import Derived.Test.YtlkjhkkfdmjfcaaGreatDoorBl
import Derived.Deep.RegionHeld3
namespace Go.Proofs.YtlkjhkkfdmjfcaaGreatDoor
open Go.RowKit
set_option linter.unusedVariables false
set_option linter.unusedSimpArgs false

/-- A record of one's own. -/
def RecRes (w : World) (x y : Int) (m : Nat) (zs : List Int) (e : Ending) (w' : World) : Prop :=
  ∃ B', e = .returned (.agg #[.int .i64 x, .int .i64 y, .slice B' m m]) ∧ Mine w' w.heap.size w'.heap.size B' m zs ∧ Keeps w w'
end Go.Proofs.YtlkjhkkfdmjfcaaGreatDoor
