/-
  No cell of these rows narrows 'for every input' (looked for: loops, veiled, ifaces, maps, wideKeys, modest, calm, conditions, laid).
  DERIVED. THE GIVEN ROWS OF THIS SEAT. 4 by the template 'for every input the law returns true; each argument reads behind the call as it read before'; 0 by the template 'total and deterministic' (their statements: YtogdfgnolpfelaaTotals.lean).
  GIVEN WITH THE SEED: the statements are not yours to turn. If you find one false, say at which input.
  Laid BY PROGRAM, IN A SANDBOX (cutbox-rows.mjs): the forced cells as the released guide's own fill.sh prints them over the translation 64d97e182744857f… (all of the seat's roots in one cut). By AI agents, Wed Nov 11 2026. No macro, syntax, notation, axiom, sorry.
-/
import Derived.Test.YtogdfgnolpfelaaChecked
import GoSem.Claim
import GoSem.ClaimJoined
import GoSem.ClaimMapViews
import Derived.JoinedTies
import Derived.KernelRfl
namespace Go.Proofs.Ytogdfgnolpfelaa
/- THE CELL 'sum', in the pinned program and in every row, IS THE sha256 OF THE DUMP (.gsa) THAT YtogdfgnolpfelaaProg.lean LOADS. Nothing in Lean hashes anything: it is a label: what it is worth is what the hold of that sum in a sandbox is worth. -/
noncomputable def Try.pinned : Pinned := { name := "ytogdfgnolpfelaa", sum := "64d97e182744857f96c6248318b3428efea6024adb513581a14cb4afd6f5b983", checked := Try.checked }
namespace Rows
def none {H : Type} : Left H := { results := [], args := [] }

/-- 'laws.FnExactLargestRemainders': WHATEVER THE INPUT: true; the input reads as it did. -/
def fnExactLargestRemaindersSpec : ChangeSpec := { name := "fnExactLargestRemainders", fn := fun _ => fun
  | [d1, d2] => { results := [.lit (.bool true)], args := [d1, d2] }
  | _ => none }
def fnExactLargestRemaindersRow : OpenClaim := { program := "ytogdfgnolpfelaa", sum := "64d97e182744857f96c6248318b3428efea6024adb513581a14cb4afd6f5b983", func := "loop.example/g00908/laws.FnExactLargestRemainders", spec := "fnExactLargestRemainders", unfollowed := true, recurses := true, apart := false }
def FnExactLargestRemaindersSaid : Prop := fnExactLargestRemaindersRow.holds Try.pinned (OpenSpec.ofChange fnExactLargestRemaindersSpec)

/-- ITS FALSE NEIGHBOUR: 'it returns false'. Refute it at one input. -/
def fnExactLargestRemaindersWrong : ChangeSpec := { name := "fnExactLargestRemainders", fn := fun _ => fun
  | [d1, d2] => { results := [.lit (.bool false)], args := [d1, d2] }
  | _ => none }
def FnExactLargestRemaindersWrongFalsely : Prop := fnExactLargestRemaindersRow.holds Try.pinned (OpenSpec.ofChange fnExactLargestRemaindersWrong)

/-- 'laws.FnExactLeastClass': WHATEVER THE INPUT: true; the input reads as it did. -/
def fnExactLeastClassSpec : ChangeSpec := { name := "fnExactLeastClass", fn := fun _ => fun
  | [d1, d2, d3] => { results := [.lit (.bool true)], args := [d1, d2, d3] }
  | _ => none }
def fnExactLeastClassRow : OpenClaim := { program := "ytogdfgnolpfelaa", sum := "64d97e182744857f96c6248318b3428efea6024adb513581a14cb4afd6f5b983", func := "loop.example/g00908/laws.FnExactLeastClass", spec := "fnExactLeastClass", apart := false }
def FnExactLeastClassSaid : Prop := fnExactLeastClassRow.holds Try.pinned (OpenSpec.ofChange fnExactLeastClassSpec)

/-- ITS FALSE NEIGHBOUR: 'it returns false'. Refute it at one input. -/
def fnExactLeastClassWrong : ChangeSpec := { name := "fnExactLeastClass", fn := fun _ => fun
  | [d1, d2, d3] => { results := [.lit (.bool false)], args := [d1, d2, d3] }
  | _ => none }
def FnExactLeastClassWrongFalsely : Prop := fnExactLeastClassRow.holds Try.pinned (OpenSpec.ofChange fnExactLeastClassWrong)

/-- 'laws.FnRemainders': WHATEVER THE INPUT: true; the input reads as it did. -/
def fnRemaindersSpec : ChangeSpec := { name := "fnRemainders", fn := fun _ => fun
  | [d1, d2] => { results := [.lit (.bool true)], args := [d1, d2] }
  | _ => none }
def fnRemaindersRow : OpenClaim := { program := "ytogdfgnolpfelaa", sum := "64d97e182744857f96c6248318b3428efea6024adb513581a14cb4afd6f5b983", func := "loop.example/g00908/laws.FnRemainders", spec := "fnRemainders", unfollowed := true, recurses := true, apart := false }
def FnRemaindersSaid : Prop := fnRemaindersRow.holds Try.pinned (OpenSpec.ofChange fnRemaindersSpec)

/-- ITS FALSE NEIGHBOUR: 'it returns false'. Refute it at one input. -/
def fnRemaindersWrong : ChangeSpec := { name := "fnRemainders", fn := fun _ => fun
  | [d1, d2] => { results := [.lit (.bool false)], args := [d1, d2] }
  | _ => none }
def FnRemaindersWrongFalsely : Prop := fnRemaindersRow.holds Try.pinned (OpenSpec.ofChange fnRemaindersWrong)

/-- 'laws.FnExactTypeCounts': WHATEVER THE INPUT: true; the input reads as it did. -/
def fnExactTypeCountsSpec : ChangeSpec := { name := "fnExactTypeCounts", fn := fun _ => fun
  | [d1, d2, d3] => { results := [.lit (.bool true)], args := [d1, d2, d3] }
  | _ => none }
def fnExactTypeCountsRow : OpenClaim := { program := "ytogdfgnolpfelaa", sum := "64d97e182744857f96c6248318b3428efea6024adb513581a14cb4afd6f5b983", func := "loop.example/g00908/laws.FnExactTypeCounts", spec := "fnExactTypeCounts", apart := false }
def FnExactTypeCountsSaid : Prop := fnExactTypeCountsRow.holds Try.pinned (OpenSpec.ofChange fnExactTypeCountsSpec)

/-- ITS FALSE NEIGHBOUR: 'it returns false'. Refute it at one input. -/
def fnExactTypeCountsWrong : ChangeSpec := { name := "fnExactTypeCounts", fn := fun _ => fun
  | [d1, d2, d3] => { results := [.lit (.bool false)], args := [d1, d2, d3] }
  | _ => none }
def FnExactTypeCountsWrongFalsely : Prop := fnExactTypeCountsRow.holds Try.pinned (OpenSpec.ofChange fnExactTypeCountsWrong)

/- THE SECOND FORM. 'bulk': how many values and letters a reading holds, each counted each time it is reached (what is shared counts as often as it is met; a slice's spare places count too). A statement '..UptoSaid' is the law's where the arguments, and the package variables that the reading takes, are together of bulk at most 1048576: NARROWER than '..Said'. Prove '..Said' where nothing that the law and all that it calls make is longer than what came in: it says more and counts as full. Else prove '..UptoSaid'. A law counts once. -/
mutual
def uptoBulk {H : Type} : DataW H → Nat
  | .lit (.string bytes) => bytes.length + 1
  | .lit _ => 1
  | .nil => 1
  | .ptr d => uptoBulk d + 1
  | .slice elems spare => uptoBulkAll elems + uptoBulkAll spare + 1
  | .agg parts => uptoBulkAll parts + 1
  | .iface _ d => uptoBulk d + 1
  | .map entries => uptoBulkEntries entries + 1
  | .held _ => 1
def uptoBulkAll {H : Type} : List (DataW H) → Nat
  | [] => 0
  | d :: r => uptoBulk d + uptoBulkAll r
def uptoBulkEntries {H : Type} : List (Lit × DataW H) → Nat
  | [] => 0
  | x :: r => uptoBulkEntry x + uptoBulkEntries r
def uptoBulkEntry {H : Type} : Lit × DataW H → Nat
  | (.string bytes, d) => bytes.length + uptoBulk d + 1
  | (_, d) => uptoBulk d + 1
 end
def uptoSmall : (H : Type) → List (DataW H) → Bool := fun _ ds => decide (uptoBulkAll ds ≤ 1048576)
def OpenSpec.upto (s : _root_.Go.ChangeSpec) : _root_.Go.OpenSpec := { _root_.Go.OpenSpec.ofChange s with cond := some uptoSmall }

/-- 'laws.FnExactLargestRemainders', WHERE WHAT IT READS IS OF BULK AT MOST 1048576: true; the input reads as it did. -/
def fnExactLargestRemaindersUptoRow : OpenClaim := { program := "ytogdfgnolpfelaa", sum := "64d97e182744857f96c6248318b3428efea6024adb513581a14cb4afd6f5b983", func := "loop.example/g00908/laws.FnExactLargestRemainders", spec := "fnExactLargestRemainders", unfollowed := true, recurses := true, apart := false, narrowed := true }
def FnExactLargestRemaindersUptoSaid : Prop := fnExactLargestRemaindersUptoRow.holds Try.pinned (OpenSpec.upto fnExactLargestRemaindersSpec)

/-- 'laws.FnExactLeastClass', WHERE WHAT IT READS IS OF BULK AT MOST 1048576: true; the input reads as it did. -/
def fnExactLeastClassUptoRow : OpenClaim := { program := "ytogdfgnolpfelaa", sum := "64d97e182744857f96c6248318b3428efea6024adb513581a14cb4afd6f5b983", func := "loop.example/g00908/laws.FnExactLeastClass", spec := "fnExactLeastClass", apart := false, narrowed := true }
def FnExactLeastClassUptoSaid : Prop := fnExactLeastClassUptoRow.holds Try.pinned (OpenSpec.upto fnExactLeastClassSpec)

/-- 'laws.FnRemainders', WHERE WHAT IT READS IS OF BULK AT MOST 1048576: true; the input reads as it did. -/
def fnRemaindersUptoRow : OpenClaim := { program := "ytogdfgnolpfelaa", sum := "64d97e182744857f96c6248318b3428efea6024adb513581a14cb4afd6f5b983", func := "loop.example/g00908/laws.FnRemainders", spec := "fnRemainders", unfollowed := true, recurses := true, apart := false, narrowed := true }
def FnRemaindersUptoSaid : Prop := fnRemaindersUptoRow.holds Try.pinned (OpenSpec.upto fnRemaindersSpec)

/-- 'laws.FnExactTypeCounts', WHERE WHAT IT READS IS OF BULK AT MOST 1048576: true; the input reads as it did. -/
def fnExactTypeCountsUptoRow : OpenClaim := { program := "ytogdfgnolpfelaa", sum := "64d97e182744857f96c6248318b3428efea6024adb513581a14cb4afd6f5b983", func := "loop.example/g00908/laws.FnExactTypeCounts", spec := "fnExactTypeCounts", apart := false, narrowed := true }
def FnExactTypeCountsUptoSaid : Prop := fnExactTypeCountsUptoRow.holds Try.pinned (OpenSpec.upto fnExactTypeCountsSpec)

end Rows
end Go.Proofs.Ytogdfgnolpfelaa
