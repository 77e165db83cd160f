/-
  No cell of these rows narrows 'for every input' (looked for: loops, veiled, ifaces, maps, wideKeys, modest, calm, conditions, laid).
  DERIVED. THE GIVEN ROWS OF THIS SEAT. 10 by the template 'for every input the law returns true; each argument reads behind the call as it read before'; 0 by the template 'total and deterministic' (their statements: YtklolfeijjnaoaaTotals.lean).
  GIVEN WITH THE SEED: the statements are not yours to turn. If you find one false, say at which input.
  Laid BY PROGRAM, IN A SANDBOX (cutbox-rows.mjs): the forced cells as the released guide's own fill.sh prints them over the translation c82896c037eba2ef… (all of the seat's roots in one cut). By AI agents, Wed Nov 11 2026. No macro, syntax, notation, axiom, sorry.
-/
import Derived.Test.YtklolfeijjnaoaaChecked
import GoSem.Claim
import GoSem.ClaimJoined
import GoSem.ClaimMapViews
import Derived.JoinedTies
import Derived.KernelRfl
namespace Go.Proofs.Ytklolfeijjnaoaa
/- THE CELL 'sum', in the pinned program and in every row, IS THE sha256 OF THE DUMP (.gsa) THAT YtklolfeijjnaoaaProg.lean LOADS. Nothing in Lean hashes anything: it is a label: what it is worth is what the hold of that sum in a sandbox is worth. -/
noncomputable def Try.pinned : Pinned := { name := "ytklolfeijjnaoaa", sum := "c82896c037eba2ef26939e26a49652e1eb398b8dff8b76fd8af81104b2456c67", checked := Try.checked }
namespace Rows
def none {H : Type} : Left H := { results := [], args := [] }

/-- 'laws.FnExactIsRelease': WHATEVER THE INPUT: true; the input reads as it did. -/
def fnExactIsReleaseSpec : ChangeSpec := { name := "fnExactIsRelease", fn := fun _ => fun
  | [d1, d2, d3] => { results := [.lit (.bool true)], args := [d1, d2, d3] }
  | _ => none }
def fnExactIsReleaseRow : OpenClaim := { program := "ytklolfeijjnaoaa", sum := "c82896c037eba2ef26939e26a49652e1eb398b8dff8b76fd8af81104b2456c67", func := "loop.example/g00908/laws.FnExactIsRelease", spec := "fnExactIsRelease", apart := false }
def FnExactIsReleaseSaid : Prop := fnExactIsReleaseRow.holds Try.pinned (OpenSpec.ofChange fnExactIsReleaseSpec)

/-- ITS FALSE NEIGHBOUR: 'it returns false'. Refute it at one input. -/
def fnExactIsReleaseWrong : ChangeSpec := { name := "fnExactIsRelease", fn := fun _ => fun
  | [d1, d2, d3] => { results := [.lit (.bool false)], args := [d1, d2, d3] }
  | _ => none }
def FnExactIsReleaseWrongFalsely : Prop := fnExactIsReleaseRow.holds Try.pinned (OpenSpec.ofChange fnExactIsReleaseWrong)

/-- 'laws.FnExactIsHistory': WHATEVER THE INPUT: true; the input reads as it did. -/
def fnExactIsHistorySpec : ChangeSpec := { name := "fnExactIsHistory", fn := fun _ => fun
  | [d1, d2, d3] => { results := [.lit (.bool true)], args := [d1, d2, d3] }
  | _ => none }
def fnExactIsHistoryRow : OpenClaim := { program := "ytklolfeijjnaoaa", sum := "c82896c037eba2ef26939e26a49652e1eb398b8dff8b76fd8af81104b2456c67", func := "loop.example/g00908/laws.FnExactIsHistory", spec := "fnExactIsHistory", apart := false }
def FnExactIsHistorySaid : Prop := fnExactIsHistoryRow.holds Try.pinned (OpenSpec.ofChange fnExactIsHistorySpec)

/-- ITS FALSE NEIGHBOUR: 'it returns false'. Refute it at one input. -/
def fnExactIsHistoryWrong : ChangeSpec := { name := "fnExactIsHistory", fn := fun _ => fun
  | [d1, d2, d3] => { results := [.lit (.bool false)], args := [d1, d2, d3] }
  | _ => none }
def FnExactIsHistoryWrongFalsely : Prop := fnExactIsHistoryRow.holds Try.pinned (OpenSpec.ofChange fnExactIsHistoryWrong)

/-- 'laws.FnExactPlanChanges': WHATEVER THE INPUT: true; the input reads as it did. -/
def fnExactPlanChangesSpec : ChangeSpec := { name := "fnExactPlanChanges", fn := fun _ => fun
  | [d1, d2, d3, d4] => { results := [.lit (.bool true)], args := [d1, d2, d3, d4] }
  | _ => none }
def fnExactPlanChangesRow : OpenClaim := { program := "ytklolfeijjnaoaa", sum := "c82896c037eba2ef26939e26a49652e1eb398b8dff8b76fd8af81104b2456c67", func := "loop.example/g00908/laws.FnExactPlanChanges", spec := "fnExactPlanChanges", unfollowed := true, recurses := true, apart := false }
def FnExactPlanChangesSaid : Prop := fnExactPlanChangesRow.holds Try.pinned (OpenSpec.ofChange fnExactPlanChangesSpec)

/-- ITS FALSE NEIGHBOUR: 'it returns false'. Refute it at one input. -/
def fnExactPlanChangesWrong : ChangeSpec := { name := "fnExactPlanChanges", fn := fun _ => fun
  | [d1, d2, d3, d4] => { results := [.lit (.bool false)], args := [d1, d2, d3, d4] }
  | _ => none }
def FnExactPlanChangesWrongFalsely : Prop := fnExactPlanChangesRow.holds Try.pinned (OpenSpec.ofChange fnExactPlanChangesWrong)

/-- 'laws.FnExactHistoryLoss': WHATEVER THE INPUT: true; the input reads as it did. -/
def fnExactHistoryLossSpec : ChangeSpec := { name := "fnExactHistoryLoss", fn := fun _ => fun
  | [d1, d2, d3] => { results := [.lit (.bool true)], args := [d1, d2, d3] }
  | _ => none }
def fnExactHistoryLossRow : OpenClaim := { program := "ytklolfeijjnaoaa", sum := "c82896c037eba2ef26939e26a49652e1eb398b8dff8b76fd8af81104b2456c67", func := "loop.example/g00908/laws.FnExactHistoryLoss", spec := "fnExactHistoryLoss", apart := false }
def FnExactHistoryLossSaid : Prop := fnExactHistoryLossRow.holds Try.pinned (OpenSpec.ofChange fnExactHistoryLossSpec)

/-- ITS FALSE NEIGHBOUR: 'it returns false'. Refute it at one input. -/
def fnExactHistoryLossWrong : ChangeSpec := { name := "fnExactHistoryLoss", fn := fun _ => fun
  | [d1, d2, d3] => { results := [.lit (.bool false)], args := [d1, d2, d3] }
  | _ => none }
def FnExactHistoryLossWrongFalsely : Prop := fnExactHistoryLossRow.holds Try.pinned (OpenSpec.ofChange fnExactHistoryLossWrong)

/-- 'laws.FnExactAgrees': WHATEVER THE INPUT: true; the input reads as it did. -/
def fnExactAgreesSpec : ChangeSpec := { name := "fnExactAgrees", fn := fun _ => fun
  | [d1, d2, d3, d4] => { results := [.lit (.bool true)], args := [d1, d2, d3, d4] }
  | _ => none }
def fnExactAgreesRow : OpenClaim := { program := "ytklolfeijjnaoaa", sum := "c82896c037eba2ef26939e26a49652e1eb398b8dff8b76fd8af81104b2456c67", func := "loop.example/g00908/laws.FnExactAgrees", spec := "fnExactAgrees", apart := false }
def FnExactAgreesSaid : Prop := fnExactAgreesRow.holds Try.pinned (OpenSpec.ofChange fnExactAgreesSpec)

/-- ITS FALSE NEIGHBOUR: 'it returns false'. Refute it at one input. -/
def fnExactAgreesWrong : ChangeSpec := { name := "fnExactAgrees", fn := fun _ => fun
  | [d1, d2, d3, d4] => { results := [.lit (.bool false)], args := [d1, d2, d3, d4] }
  | _ => none }
def FnExactAgreesWrongFalsely : Prop := fnExactAgreesRow.holds Try.pinned (OpenSpec.ofChange fnExactAgreesWrong)

/-- 'laws.FnExactFirstVersionOf': WHATEVER THE INPUT: true; the input reads as it did. -/
def fnExactFirstVersionOfSpec : ChangeSpec := { name := "fnExactFirstVersionOf", fn := fun _ => fun
  | [d1, d2, d3, d4] => { results := [.lit (.bool true)], args := [d1, d2, d3, d4] }
  | _ => none }
def fnExactFirstVersionOfRow : OpenClaim := { program := "ytklolfeijjnaoaa", sum := "c82896c037eba2ef26939e26a49652e1eb398b8dff8b76fd8af81104b2456c67", func := "loop.example/g00908/laws.FnExactFirstVersionOf", spec := "fnExactFirstVersionOf", unfollowed := true, recurses := true, apart := false }
def FnExactFirstVersionOfSaid : Prop := fnExactFirstVersionOfRow.holds Try.pinned (OpenSpec.ofChange fnExactFirstVersionOfSpec)

/-- ITS FALSE NEIGHBOUR: 'it returns false'. Refute it at one input. -/
def fnExactFirstVersionOfWrong : ChangeSpec := { name := "fnExactFirstVersionOf", fn := fun _ => fun
  | [d1, d2, d3, d4] => { results := [.lit (.bool false)], args := [d1, d2, d3, d4] }
  | _ => none }
def FnExactFirstVersionOfWrongFalsely : Prop := fnExactFirstVersionOfRow.holds Try.pinned (OpenSpec.ofChange fnExactFirstVersionOfWrong)

/-- 'laws.FnExactFirstOverrun': WHATEVER THE INPUT: true; the input reads as it did. -/
def fnExactFirstOverrunSpec : ChangeSpec := { name := "fnExactFirstOverrun", fn := fun _ => fun
  | [d1, d2, d3, d4] => { results := [.lit (.bool true)], args := [d1, d2, d3, d4] }
  | _ => none }
def fnExactFirstOverrunRow : OpenClaim := { program := "ytklolfeijjnaoaa", sum := "c82896c037eba2ef26939e26a49652e1eb398b8dff8b76fd8af81104b2456c67", func := "loop.example/g00908/laws.FnExactFirstOverrun", spec := "fnExactFirstOverrun", apart := false }
def FnExactFirstOverrunSaid : Prop := fnExactFirstOverrunRow.holds Try.pinned (OpenSpec.ofChange fnExactFirstOverrunSpec)

/-- ITS FALSE NEIGHBOUR: 'it returns false'. Refute it at one input. -/
def fnExactFirstOverrunWrong : ChangeSpec := { name := "fnExactFirstOverrun", fn := fun _ => fun
  | [d1, d2, d3, d4] => { results := [.lit (.bool false)], args := [d1, d2, d3, d4] }
  | _ => none }
def FnExactFirstOverrunWrongFalsely : Prop := fnExactFirstOverrunRow.holds Try.pinned (OpenSpec.ofChange fnExactFirstOverrunWrong)

/-- 'laws.FnExactCanAdd': WHATEVER THE INPUT: true; the input reads as it did. -/
def fnExactCanAddSpec : ChangeSpec := { name := "fnExactCanAdd", fn := fun _ => fun
  | [d1, d2, d3, d4, d5, d6] => { results := [.lit (.bool true)], args := [d1, d2, d3, d4, d5, d6] }
  | _ => none }
def fnExactCanAddRow : OpenClaim := { program := "ytklolfeijjnaoaa", sum := "c82896c037eba2ef26939e26a49652e1eb398b8dff8b76fd8af81104b2456c67", func := "loop.example/g00908/laws.FnExactCanAdd", spec := "fnExactCanAdd", apart := false }
def FnExactCanAddSaid : Prop := fnExactCanAddRow.holds Try.pinned (OpenSpec.ofChange fnExactCanAddSpec)

/-- ITS FALSE NEIGHBOUR: 'it returns false'. Refute it at one input. -/
def fnExactCanAddWrong : ChangeSpec := { name := "fnExactCanAdd", fn := fun _ => fun
  | [d1, d2, d3, d4, d5, d6] => { results := [.lit (.bool false)], args := [d1, d2, d3, d4, d5, d6] }
  | _ => none }
def FnExactCanAddWrongFalsely : Prop := fnExactCanAddRow.holds Try.pinned (OpenSpec.ofChange fnExactCanAddWrong)

/-- 'laws.FnExactReleasesLeft': WHATEVER THE INPUT: true; the input reads as it did. -/
def fnExactReleasesLeftSpec : ChangeSpec := { name := "fnExactReleasesLeft", fn := fun _ => fun
  | [d1, d2, d3, d4, d5] => { results := [.lit (.bool true)], args := [d1, d2, d3, d4, d5] }
  | _ => none }
def fnExactReleasesLeftRow : OpenClaim := { program := "ytklolfeijjnaoaa", sum := "c82896c037eba2ef26939e26a49652e1eb398b8dff8b76fd8af81104b2456c67", func := "loop.example/g00908/laws.FnExactReleasesLeft", spec := "fnExactReleasesLeft", apart := false }
def FnExactReleasesLeftSaid : Prop := fnExactReleasesLeftRow.holds Try.pinned (OpenSpec.ofChange fnExactReleasesLeftSpec)

/-- ITS FALSE NEIGHBOUR: 'it returns false'. Refute it at one input. -/
def fnExactReleasesLeftWrong : ChangeSpec := { name := "fnExactReleasesLeft", fn := fun _ => fun
  | [d1, d2, d3, d4, d5] => { results := [.lit (.bool false)], args := [d1, d2, d3, d4, d5] }
  | _ => none }
def FnExactReleasesLeftWrongFalsely : Prop := fnExactReleasesLeftRow.holds Try.pinned (OpenSpec.ofChange fnExactReleasesLeftWrong)

/-- 'laws.FnExactNewTables': WHATEVER THE INPUT: true; the input reads as it did. -/
def fnExactNewTablesSpec : ChangeSpec := { name := "fnExactNewTables", fn := fun _ => fun
  | [d1, d2, d3, d4] => { results := [.lit (.bool true)], args := [d1, d2, d3, d4] }
  | _ => none }
def fnExactNewTablesRow : OpenClaim := { program := "ytklolfeijjnaoaa", sum := "c82896c037eba2ef26939e26a49652e1eb398b8dff8b76fd8af81104b2456c67", func := "loop.example/g00908/laws.FnExactNewTables", spec := "fnExactNewTables", unfollowed := true, recurses := true, apart := false }
def FnExactNewTablesSaid : Prop := fnExactNewTablesRow.holds Try.pinned (OpenSpec.ofChange fnExactNewTablesSpec)

/-- ITS FALSE NEIGHBOUR: 'it returns false'. Refute it at one input. -/
def fnExactNewTablesWrong : ChangeSpec := { name := "fnExactNewTables", fn := fun _ => fun
  | [d1, d2, d3, d4] => { results := [.lit (.bool false)], args := [d1, d2, d3, d4] }
  | _ => none }
def FnExactNewTablesWrongFalsely : Prop := fnExactNewTablesRow.holds Try.pinned (OpenSpec.ofChange fnExactNewTablesWrong)

/- THE SECOND FORM. 'bulk': how many values and letters a reading holds, each counted each time it is reached (what is shared counts as often as it is met; a slice's spare places count too). A statement '..UptoSaid' is the law's where the arguments, and the package variables that the reading takes, are together of bulk at most 1048576: NARROWER than '..Said'. Prove '..Said' where nothing that the law and all that it calls make is longer than what came in: it says more and counts as full. Else prove '..UptoSaid'. A law counts once. -/
mutual
def uptoBulk {H : Type} : DataW H → Nat
  | .lit (.string bytes) => bytes.length + 1
  | .lit _ => 1
  | .nil => 1
  | .ptr d => uptoBulk d + 1
  | .slice elems spare => uptoBulkAll elems + uptoBulkAll spare + 1
  | .agg parts => uptoBulkAll parts + 1
  | .iface _ d => uptoBulk d + 1
  | .map entries => uptoBulkEntries entries + 1
  | .held _ => 1
def uptoBulkAll {H : Type} : List (DataW H) → Nat
  | [] => 0
  | d :: r => uptoBulk d + uptoBulkAll r
def uptoBulkEntries {H : Type} : List (Lit × DataW H) → Nat
  | [] => 0
  | x :: r => uptoBulkEntry x + uptoBulkEntries r
def uptoBulkEntry {H : Type} : Lit × DataW H → Nat
  | (.string bytes, d) => bytes.length + uptoBulk d + 1
  | (_, d) => uptoBulk d + 1
 end
def uptoSmall : (H : Type) → List (DataW H) → Bool := fun _ ds => decide (uptoBulkAll ds ≤ 1048576)
def OpenSpec.upto (s : _root_.Go.ChangeSpec) : _root_.Go.OpenSpec := { _root_.Go.OpenSpec.ofChange s with cond := some uptoSmall }

/-- 'laws.FnExactIsRelease', WHERE WHAT IT READS IS OF BULK AT MOST 1048576: true; the input reads as it did. -/
def fnExactIsReleaseUptoRow : OpenClaim := { program := "ytklolfeijjnaoaa", sum := "c82896c037eba2ef26939e26a49652e1eb398b8dff8b76fd8af81104b2456c67", func := "loop.example/g00908/laws.FnExactIsRelease", spec := "fnExactIsRelease", apart := false, narrowed := true }
def FnExactIsReleaseUptoSaid : Prop := fnExactIsReleaseUptoRow.holds Try.pinned (OpenSpec.upto fnExactIsReleaseSpec)

/-- 'laws.FnExactIsHistory', WHERE WHAT IT READS IS OF BULK AT MOST 1048576: true; the input reads as it did. -/
def fnExactIsHistoryUptoRow : OpenClaim := { program := "ytklolfeijjnaoaa", sum := "c82896c037eba2ef26939e26a49652e1eb398b8dff8b76fd8af81104b2456c67", func := "loop.example/g00908/laws.FnExactIsHistory", spec := "fnExactIsHistory", apart := false, narrowed := true }
def FnExactIsHistoryUptoSaid : Prop := fnExactIsHistoryUptoRow.holds Try.pinned (OpenSpec.upto fnExactIsHistorySpec)

/-- 'laws.FnExactPlanChanges', WHERE WHAT IT READS IS OF BULK AT MOST 1048576: true; the input reads as it did. -/
def fnExactPlanChangesUptoRow : OpenClaim := { program := "ytklolfeijjnaoaa", sum := "c82896c037eba2ef26939e26a49652e1eb398b8dff8b76fd8af81104b2456c67", func := "loop.example/g00908/laws.FnExactPlanChanges", spec := "fnExactPlanChanges", unfollowed := true, recurses := true, apart := false, narrowed := true }
def FnExactPlanChangesUptoSaid : Prop := fnExactPlanChangesUptoRow.holds Try.pinned (OpenSpec.upto fnExactPlanChangesSpec)

/-- 'laws.FnExactHistoryLoss', WHERE WHAT IT READS IS OF BULK AT MOST 1048576: true; the input reads as it did. -/
def fnExactHistoryLossUptoRow : OpenClaim := { program := "ytklolfeijjnaoaa", sum := "c82896c037eba2ef26939e26a49652e1eb398b8dff8b76fd8af81104b2456c67", func := "loop.example/g00908/laws.FnExactHistoryLoss", spec := "fnExactHistoryLoss", apart := false, narrowed := true }
def FnExactHistoryLossUptoSaid : Prop := fnExactHistoryLossUptoRow.holds Try.pinned (OpenSpec.upto fnExactHistoryLossSpec)

/-- 'laws.FnExactAgrees', WHERE WHAT IT READS IS OF BULK AT MOST 1048576: true; the input reads as it did. -/
def fnExactAgreesUptoRow : OpenClaim := { program := "ytklolfeijjnaoaa", sum := "c82896c037eba2ef26939e26a49652e1eb398b8dff8b76fd8af81104b2456c67", func := "loop.example/g00908/laws.FnExactAgrees", spec := "fnExactAgrees", apart := false, narrowed := true }
def FnExactAgreesUptoSaid : Prop := fnExactAgreesUptoRow.holds Try.pinned (OpenSpec.upto fnExactAgreesSpec)

/-- 'laws.FnExactFirstVersionOf', WHERE WHAT IT READS IS OF BULK AT MOST 1048576: true; the input reads as it did. -/
def fnExactFirstVersionOfUptoRow : OpenClaim := { program := "ytklolfeijjnaoaa", sum := "c82896c037eba2ef26939e26a49652e1eb398b8dff8b76fd8af81104b2456c67", func := "loop.example/g00908/laws.FnExactFirstVersionOf", spec := "fnExactFirstVersionOf", unfollowed := true, recurses := true, apart := false, narrowed := true }
def FnExactFirstVersionOfUptoSaid : Prop := fnExactFirstVersionOfUptoRow.holds Try.pinned (OpenSpec.upto fnExactFirstVersionOfSpec)

/-- 'laws.FnExactFirstOverrun', WHERE WHAT IT READS IS OF BULK AT MOST 1048576: true; the input reads as it did. -/
def fnExactFirstOverrunUptoRow : OpenClaim := { program := "ytklolfeijjnaoaa", sum := "c82896c037eba2ef26939e26a49652e1eb398b8dff8b76fd8af81104b2456c67", func := "loop.example/g00908/laws.FnExactFirstOverrun", spec := "fnExactFirstOverrun", apart := false, narrowed := true }
def FnExactFirstOverrunUptoSaid : Prop := fnExactFirstOverrunUptoRow.holds Try.pinned (OpenSpec.upto fnExactFirstOverrunSpec)

/-- 'laws.FnExactCanAdd', WHERE WHAT IT READS IS OF BULK AT MOST 1048576: true; the input reads as it did. -/
def fnExactCanAddUptoRow : OpenClaim := { program := "ytklolfeijjnaoaa", sum := "c82896c037eba2ef26939e26a49652e1eb398b8dff8b76fd8af81104b2456c67", func := "loop.example/g00908/laws.FnExactCanAdd", spec := "fnExactCanAdd", apart := false, narrowed := true }
def FnExactCanAddUptoSaid : Prop := fnExactCanAddUptoRow.holds Try.pinned (OpenSpec.upto fnExactCanAddSpec)

/-- 'laws.FnExactReleasesLeft', WHERE WHAT IT READS IS OF BULK AT MOST 1048576: true; the input reads as it did. -/
def fnExactReleasesLeftUptoRow : OpenClaim := { program := "ytklolfeijjnaoaa", sum := "c82896c037eba2ef26939e26a49652e1eb398b8dff8b76fd8af81104b2456c67", func := "loop.example/g00908/laws.FnExactReleasesLeft", spec := "fnExactReleasesLeft", apart := false, narrowed := true }
def FnExactReleasesLeftUptoSaid : Prop := fnExactReleasesLeftUptoRow.holds Try.pinned (OpenSpec.upto fnExactReleasesLeftSpec)

/-- 'laws.FnExactNewTables', WHERE WHAT IT READS IS OF BULK AT MOST 1048576: true; the input reads as it did. -/
def fnExactNewTablesUptoRow : OpenClaim := { program := "ytklolfeijjnaoaa", sum := "c82896c037eba2ef26939e26a49652e1eb398b8dff8b76fd8af81104b2456c67", func := "loop.example/g00908/laws.FnExactNewTables", spec := "fnExactNewTables", unfollowed := true, recurses := true, apart := false, narrowed := true }
def FnExactNewTablesUptoSaid : Prop := fnExactNewTablesUptoRow.holds Try.pinned (OpenSpec.upto fnExactNewTablesSpec)

end Rows
end Go.Proofs.Ytklolfeijjnaoaa
