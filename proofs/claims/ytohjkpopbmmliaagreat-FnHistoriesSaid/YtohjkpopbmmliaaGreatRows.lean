/-
  No cell of these rows narrows 'for every input' (looked for: loops, veiled, ifaces, maps, wideKeys, modest, calm, conditions, laid).
  DERIVED. THE GIVEN ROWS OF THIS SEAT. 3 by the template 'for every input the law returns true; each argument reads behind the call as it read before'; 0 by the template 'total and deterministic' (their statements: YtohjkpopbmmliaaGreatTotals.lean).
  GIVEN WITH THE SEED: the statements are not yours to turn. If you find one false, say at which input.
  Laid BY PROGRAM, IN A SANDBOX (cutbox-rows.mjs): the forced cells as the released guide's own fill.sh prints them over the translation 8cb9bc7c817df7af… (all of the seat's roots in one cut). By AI agents, Wed Nov 11 2026. No macro, syntax, notation, axiom, sorry.
-/
import Derived.Test.YtohjkpopbmmliaaGreatChecked
import GoSem.Claim
import GoSem.ClaimJoined
import GoSem.ClaimMapViews
import Derived.JoinedTies
import Derived.KernelRfl
namespace Go.Proofs.YtohjkpopbmmliaaGreat
/- THE CELL 'sum', in the pinned program and in every row, IS THE sha256 OF THE DUMP (.gsa) THAT YtohjkpopbmmliaaGreatProg.lean LOADS. Nothing in Lean hashes anything: it is a label: what it is worth is what the hold of that sum in a sandbox is worth. -/
noncomputable def Tryz.pinned : Pinned := { name := "ytohjkpopbmmliaagreat", sum := "8cb9bc7c817df7af5f1170d4bbc26d3ef5e69f6999a71e49faadc42951067abf", checked := Tryz.checked }
namespace Rows
def none {H : Type} : Left H := { results := [], args := [] }

/-- 'laws.FnHistories': WHATEVER THE INPUT: true; the input reads as it did. -/
def fnHistoriesSpec : ChangeSpec := { name := "fnHistories", fn := fun _ => fun
  | [d1, d2] => { results := [.lit (.bool true)], args := [d1, d2] }
  | _ => none }
def fnHistoriesRow : OpenClaim := { program := "ytohjkpopbmmliaagreat", sum := "8cb9bc7c817df7af5f1170d4bbc26d3ef5e69f6999a71e49faadc42951067abf", func := "loop.example/g00908/laws.FnHistories", spec := "fnHistories", apart := false }
def FnHistoriesSaid : Prop := fnHistoriesRow.holds Tryz.pinned (OpenSpec.ofChange fnHistoriesSpec)

/-- ITS FALSE NEIGHBOUR: 'it returns false'. Refute it at one input. -/
def fnHistoriesWrong : ChangeSpec := { name := "fnHistories", fn := fun _ => fun
  | [d1, d2] => { results := [.lit (.bool false)], args := [d1, d2] }
  | _ => none }
def FnHistoriesWrongFalsely : Prop := fnHistoriesRow.holds Tryz.pinned (OpenSpec.ofChange fnHistoriesWrong)

/-- 'laws.FnExactPublishTables': WHATEVER THE INPUT: true; the input reads as it did. -/
def fnExactPublishTablesSpec : ChangeSpec := { name := "fnExactPublishTables", fn := fun _ => fun
  | [d1, d2, d3, d4] => { results := [.lit (.bool true)], args := [d1, d2, d3, d4] }
  | _ => none }
def fnExactPublishTablesRow : OpenClaim := { program := "ytohjkpopbmmliaagreat", sum := "8cb9bc7c817df7af5f1170d4bbc26d3ef5e69f6999a71e49faadc42951067abf", func := "loop.example/g00908/laws.FnExactPublishTables", spec := "fnExactPublishTables", apart := false }
def FnExactPublishTablesSaid : Prop := fnExactPublishTablesRow.holds Tryz.pinned (OpenSpec.ofChange fnExactPublishTablesSpec)

/-- ITS FALSE NEIGHBOUR: 'it returns false'. Refute it at one input. -/
def fnExactPublishTablesWrong : ChangeSpec := { name := "fnExactPublishTables", fn := fun _ => fun
  | [d1, d2, d3, d4] => { results := [.lit (.bool false)], args := [d1, d2, d3, d4] }
  | _ => none }
def FnExactPublishTablesWrongFalsely : Prop := fnExactPublishTablesRow.holds Tryz.pinned (OpenSpec.ofChange fnExactPublishTablesWrong)

/-- 'laws.FnExactAddRelease': WHATEVER THE INPUT: true; the input reads as it did. -/
def fnExactAddReleaseSpec : ChangeSpec := { name := "fnExactAddRelease", fn := fun _ => fun
  | [d1, d2, d3, d4, d5, d6] => { results := [.lit (.bool true)], args := [d1, d2, d3, d4, d5, d6] }
  | _ => none }
def fnExactAddReleaseRow : OpenClaim := { program := "ytohjkpopbmmliaagreat", sum := "8cb9bc7c817df7af5f1170d4bbc26d3ef5e69f6999a71e49faadc42951067abf", func := "loop.example/g00908/laws.FnExactAddRelease", spec := "fnExactAddRelease", apart := false }
def FnExactAddReleaseSaid : Prop := fnExactAddReleaseRow.holds Tryz.pinned (OpenSpec.ofChange fnExactAddReleaseSpec)

/-- ITS FALSE NEIGHBOUR: 'it returns false'. Refute it at one input. -/
def fnExactAddReleaseWrong : ChangeSpec := { name := "fnExactAddRelease", fn := fun _ => fun
  | [d1, d2, d3, d4, d5, d6] => { results := [.lit (.bool false)], args := [d1, d2, d3, d4, d5, d6] }
  | _ => none }
def FnExactAddReleaseWrongFalsely : Prop := fnExactAddReleaseRow.holds Tryz.pinned (OpenSpec.ofChange fnExactAddReleaseWrong)

/- THE SECOND FORM. 'bulk': how many values and letters a reading holds, each counted each time it is reached (what is shared counts as often as it is met; a slice's spare places count too). A statement '..UptoSaid' is the law's where the arguments, and the package variables that the reading takes, are together of bulk at most 1048576: NARROWER than '..Said'. Prove '..Said' where nothing that the law and all that it calls make is longer than what came in: it says more and counts as full. Else prove '..UptoSaid'. A law counts once. -/
mutual
def uptoBulk {H : Type} : DataW H → Nat
  | .lit (.string bytes) => bytes.length + 1
  | .lit _ => 1
  | .nil => 1
  | .ptr d => uptoBulk d + 1
  | .slice elems spare => uptoBulkAll elems + uptoBulkAll spare + 1
  | .agg parts => uptoBulkAll parts + 1
  | .iface _ d => uptoBulk d + 1
  | .map entries => uptoBulkEntries entries + 1
  | .held _ => 1
def uptoBulkAll {H : Type} : List (DataW H) → Nat
  | [] => 0
  | d :: r => uptoBulk d + uptoBulkAll r
def uptoBulkEntries {H : Type} : List (Lit × DataW H) → Nat
  | [] => 0
  | x :: r => uptoBulkEntry x + uptoBulkEntries r
def uptoBulkEntry {H : Type} : Lit × DataW H → Nat
  | (.string bytes, d) => bytes.length + uptoBulk d + 1
  | (_, d) => uptoBulk d + 1
 end
def uptoSmall : (H : Type) → List (DataW H) → Bool := fun _ ds => decide (uptoBulkAll ds ≤ 1048576)
def OpenSpec.upto (s : _root_.Go.ChangeSpec) : _root_.Go.OpenSpec := { _root_.Go.OpenSpec.ofChange s with cond := some uptoSmall }

/-- 'laws.FnHistories', WHERE WHAT IT READS IS OF BULK AT MOST 1048576: true; the input reads as it did. -/
def fnHistoriesUptoRow : OpenClaim := { program := "ytohjkpopbmmliaagreat", sum := "8cb9bc7c817df7af5f1170d4bbc26d3ef5e69f6999a71e49faadc42951067abf", func := "loop.example/g00908/laws.FnHistories", spec := "fnHistories", apart := false, narrowed := true }
def FnHistoriesUptoSaid : Prop := fnHistoriesUptoRow.holds Tryz.pinned (OpenSpec.upto fnHistoriesSpec)

/-- 'laws.FnExactPublishTables', WHERE WHAT IT READS IS OF BULK AT MOST 1048576: true; the input reads as it did. -/
def fnExactPublishTablesUptoRow : OpenClaim := { program := "ytohjkpopbmmliaagreat", sum := "8cb9bc7c817df7af5f1170d4bbc26d3ef5e69f6999a71e49faadc42951067abf", func := "loop.example/g00908/laws.FnExactPublishTables", spec := "fnExactPublishTables", apart := false, narrowed := true }
def FnExactPublishTablesUptoSaid : Prop := fnExactPublishTablesUptoRow.holds Tryz.pinned (OpenSpec.upto fnExactPublishTablesSpec)

/-- 'laws.FnExactAddRelease', WHERE WHAT IT READS IS OF BULK AT MOST 1048576: true; the input reads as it did. -/
def fnExactAddReleaseUptoRow : OpenClaim := { program := "ytohjkpopbmmliaagreat", sum := "8cb9bc7c817df7af5f1170d4bbc26d3ef5e69f6999a71e49faadc42951067abf", func := "loop.example/g00908/laws.FnExactAddRelease", spec := "fnExactAddRelease", apart := false, narrowed := true }
def FnExactAddReleaseUptoSaid : Prop := fnExactAddReleaseUptoRow.holds Tryz.pinned (OpenSpec.upto fnExactAddReleaseSpec)

end Rows
end Go.Proofs.YtohjkpopbmmliaaGreat
