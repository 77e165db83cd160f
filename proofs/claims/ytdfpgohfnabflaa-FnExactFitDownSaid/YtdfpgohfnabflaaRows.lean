/-
  No cell of these rows narrows 'for every input' (looked for: loops, veiled, ifaces, maps, wideKeys, modest, calm, conditions, laid).
  DERIVED. THE GIVEN ROWS OF THIS SEAT. 12 by the template 'for every input the law returns true; each argument reads behind the call as it read before'; 0 by the template 'total and deterministic' (their statements: YtdfpgohfnabflaaTotals.lean).
  GIVEN WITH THE SEED: the statements are not yours to turn. If you find one false, say at which input.
  Laid BY PROGRAM, IN A SANDBOX (cutbox-rows.mjs): the forced cells as the released guide's own fill.sh prints them over the translation 752a8bed6e135511… (all of the seat's roots in one cut). By AI agents, Wed Nov 11 2026. No macro, syntax, notation, axiom, sorry.
-/
import Derived.Test.YtdfpgohfnabflaaChecked
import GoSem.Claim
import GoSem.ClaimJoined
import GoSem.ClaimMapViews
import Derived.JoinedTies
import Derived.KernelRfl
namespace Go.Proofs.Ytdfpgohfnabflaa
/- THE CELL 'sum', in the pinned program and in every row, IS THE sha256 OF THE DUMP (.gsa) THAT YtdfpgohfnabflaaProg.lean LOADS. Nothing in Lean hashes anything: it is a label: what it is worth is what the hold of that sum in a sandbox is worth. -/
noncomputable def Try.pinned : Pinned := { name := "ytdfpgohfnabflaa", sum := "752a8bed6e1355113363659bc206c31b12b22257bc3c5f7ec75845e6e7f9a047", checked := Try.checked }
namespace Rows
def none {H : Type} : Left H := { results := [], args := [] }

/-- 'laws.FnExactSquaredDistance': WHATEVER THE INPUT: true; the input reads as it did. -/
def fnExactSquaredDistanceSpec : ChangeSpec := { name := "fnExactSquaredDistance", fn := fun _ => fun
  | [d1, d2] => { results := [.lit (.bool true)], args := [d1, d2] }
  | _ => none }
def fnExactSquaredDistanceRow : OpenClaim := { program := "ytdfpgohfnabflaa", sum := "752a8bed6e1355113363659bc206c31b12b22257bc3c5f7ec75845e6e7f9a047", func := "loop.example/g00908/laws.FnExactSquaredDistance", spec := "fnExactSquaredDistance", apart := false }
def FnExactSquaredDistanceSaid : Prop := fnExactSquaredDistanceRow.holds Try.pinned (OpenSpec.ofChange fnExactSquaredDistanceSpec)

/-- ITS FALSE NEIGHBOUR: 'it returns false'. Refute it at one input. -/
def fnExactSquaredDistanceWrong : ChangeSpec := { name := "fnExactSquaredDistance", fn := fun _ => fun
  | [d1, d2] => { results := [.lit (.bool false)], args := [d1, d2] }
  | _ => none }
def FnExactSquaredDistanceWrongFalsely : Prop := fnExactSquaredDistanceRow.holds Try.pinned (OpenSpec.ofChange fnExactSquaredDistanceWrong)

/-- 'laws.FnExactPossibleTotals': WHATEVER THE INPUT: true; the input reads as it did. -/
def fnExactPossibleTotalsSpec : ChangeSpec := { name := "fnExactPossibleTotals", fn := fun _ => fun
  | [d1, d2] => { results := [.lit (.bool true)], args := [d1, d2] }
  | _ => none }
def fnExactPossibleTotalsRow : OpenClaim := { program := "ytdfpgohfnabflaa", sum := "752a8bed6e1355113363659bc206c31b12b22257bc3c5f7ec75845e6e7f9a047", func := "loop.example/g00908/laws.FnExactPossibleTotals", spec := "fnExactPossibleTotals", apart := false }
def FnExactPossibleTotalsSaid : Prop := fnExactPossibleTotalsRow.holds Try.pinned (OpenSpec.ofChange fnExactPossibleTotalsSpec)

/-- ITS FALSE NEIGHBOUR: 'it returns false'. Refute it at one input. -/
def fnExactPossibleTotalsWrong : ChangeSpec := { name := "fnExactPossibleTotals", fn := fun _ => fun
  | [d1, d2] => { results := [.lit (.bool false)], args := [d1, d2] }
  | _ => none }
def FnExactPossibleTotalsWrongFalsely : Prop := fnExactPossibleTotalsRow.holds Try.pinned (OpenSpec.ofChange fnExactPossibleTotalsWrong)

/-- 'laws.FnExactRaiseToBounds': WHATEVER THE INPUT: true; the input reads as it did. -/
def fnExactRaiseToBoundsSpec : ChangeSpec := { name := "fnExactRaiseToBounds", fn := fun _ => fun
  | [d1, d2, d3] => { results := [.lit (.bool true)], args := [d1, d2, d3] }
  | _ => none }
def fnExactRaiseToBoundsRow : OpenClaim := { program := "ytdfpgohfnabflaa", sum := "752a8bed6e1355113363659bc206c31b12b22257bc3c5f7ec75845e6e7f9a047", func := "loop.example/g00908/laws.FnExactRaiseToBounds", spec := "fnExactRaiseToBounds", apart := false }
def FnExactRaiseToBoundsSaid : Prop := fnExactRaiseToBoundsRow.holds Try.pinned (OpenSpec.ofChange fnExactRaiseToBoundsSpec)

/-- ITS FALSE NEIGHBOUR: 'it returns false'. Refute it at one input. -/
def fnExactRaiseToBoundsWrong : ChangeSpec := { name := "fnExactRaiseToBounds", fn := fun _ => fun
  | [d1, d2, d3] => { results := [.lit (.bool false)], args := [d1, d2, d3] }
  | _ => none }
def FnExactRaiseToBoundsWrongFalsely : Prop := fnExactRaiseToBoundsRow.holds Try.pinned (OpenSpec.ofChange fnExactRaiseToBoundsWrong)

/-- 'laws.FnExactCheckSums': WHATEVER THE INPUT: true; the input reads as it did. -/
def fnExactCheckSumsSpec : ChangeSpec := { name := "fnExactCheckSums", fn := fun _ => fun
  | [d1, d2] => { results := [.lit (.bool true)], args := [d1, d2] }
  | _ => none }
def fnExactCheckSumsRow : OpenClaim := { program := "ytdfpgohfnabflaa", sum := "752a8bed6e1355113363659bc206c31b12b22257bc3c5f7ec75845e6e7f9a047", func := "loop.example/g00908/laws.FnExactCheckSums", spec := "fnExactCheckSums", apart := false }
def FnExactCheckSumsSaid : Prop := fnExactCheckSumsRow.holds Try.pinned (OpenSpec.ofChange fnExactCheckSumsSpec)

/-- ITS FALSE NEIGHBOUR: 'it returns false'. Refute it at one input. -/
def fnExactCheckSumsWrong : ChangeSpec := { name := "fnExactCheckSums", fn := fun _ => fun
  | [d1, d2] => { results := [.lit (.bool false)], args := [d1, d2] }
  | _ => none }
def FnExactCheckSumsWrongFalsely : Prop := fnExactCheckSumsRow.holds Try.pinned (OpenSpec.ofChange fnExactCheckSumsWrong)

/-- 'laws.FnExactIsAdditiveWhole': WHATEVER THE INPUT: true; the input reads as it did. -/
def fnExactIsAdditiveWholeSpec : ChangeSpec := { name := "fnExactIsAdditiveWhole", fn := fun _ => fun
  | [d1, d2] => { results := [.lit (.bool true)], args := [d1, d2] }
  | _ => none }
def fnExactIsAdditiveWholeRow : OpenClaim := { program := "ytdfpgohfnabflaa", sum := "752a8bed6e1355113363659bc206c31b12b22257bc3c5f7ec75845e6e7f9a047", func := "loop.example/g00908/laws.FnExactIsAdditiveWhole", spec := "fnExactIsAdditiveWhole", apart := false }
def FnExactIsAdditiveWholeSaid : Prop := fnExactIsAdditiveWholeRow.holds Try.pinned (OpenSpec.ofChange fnExactIsAdditiveWholeSpec)

/-- ITS FALSE NEIGHBOUR: 'it returns false'. Refute it at one input. -/
def fnExactIsAdditiveWholeWrong : ChangeSpec := { name := "fnExactIsAdditiveWhole", fn := fun _ => fun
  | [d1, d2] => { results := [.lit (.bool false)], args := [d1, d2] }
  | _ => none }
def FnExactIsAdditiveWholeWrongFalsely : Prop := fnExactIsAdditiveWholeRow.holds Try.pinned (OpenSpec.ofChange fnExactIsAdditiveWholeWrong)

/-- 'laws.FnExactKeptTotals': WHATEVER THE INPUT: true; the input reads as it did. -/
def fnExactKeptTotalsSpec : ChangeSpec := { name := "fnExactKeptTotals", fn := fun _ => fun
  | [d1, d2, d3, d4] => { results := [.lit (.bool true)], args := [d1, d2, d3, d4] }
  | _ => none }
def fnExactKeptTotalsRow : OpenClaim := { program := "ytdfpgohfnabflaa", sum := "752a8bed6e1355113363659bc206c31b12b22257bc3c5f7ec75845e6e7f9a047", func := "loop.example/g00908/laws.FnExactKeptTotals", spec := "fnExactKeptTotals", apart := false }
def FnExactKeptTotalsSaid : Prop := fnExactKeptTotalsRow.holds Try.pinned (OpenSpec.ofChange fnExactKeptTotalsSpec)

/-- ITS FALSE NEIGHBOUR: 'it returns false'. Refute it at one input. -/
def fnExactKeptTotalsWrong : ChangeSpec := { name := "fnExactKeptTotals", fn := fun _ => fun
  | [d1, d2, d3, d4] => { results := [.lit (.bool false)], args := [d1, d2, d3, d4] }
  | _ => none }
def FnExactKeptTotalsWrongFalsely : Prop := fnExactKeptTotalsRow.holds Try.pinned (OpenSpec.ofChange fnExactKeptTotalsWrong)

/-- 'laws.FnExactLevelError': WHATEVER THE INPUT: true; the input reads as it did. -/
def fnExactLevelErrorSpec : ChangeSpec := { name := "fnExactLevelError", fn := fun _ => fun
  | [d1, d2, d3, d4] => { results := [.lit (.bool true)], args := [d1, d2, d3, d4] }
  | _ => none }
def fnExactLevelErrorRow : OpenClaim := { program := "ytdfpgohfnabflaa", sum := "752a8bed6e1355113363659bc206c31b12b22257bc3c5f7ec75845e6e7f9a047", func := "loop.example/g00908/laws.FnExactLevelError", spec := "fnExactLevelError", apart := false }
def FnExactLevelErrorSaid : Prop := fnExactLevelErrorRow.holds Try.pinned (OpenSpec.ofChange fnExactLevelErrorSpec)

/-- ITS FALSE NEIGHBOUR: 'it returns false'. Refute it at one input. -/
def fnExactLevelErrorWrong : ChangeSpec := { name := "fnExactLevelError", fn := fun _ => fun
  | [d1, d2, d3, d4] => { results := [.lit (.bool false)], args := [d1, d2, d3, d4] }
  | _ => none }
def FnExactLevelErrorWrongFalsely : Prop := fnExactLevelErrorRow.holds Try.pinned (OpenSpec.ofChange fnExactLevelErrorWrong)

/-- 'laws.FnExactSharesOf': WHATEVER THE INPUT: true; the input reads as it did. -/
def fnExactSharesOfSpec : ChangeSpec := { name := "fnExactSharesOf", fn := fun _ => fun
  | [d] => { results := [.lit (.bool true)], args := [d] }
  | _ => none }
def fnExactSharesOfRow : OpenClaim := { program := "ytdfpgohfnabflaa", sum := "752a8bed6e1355113363659bc206c31b12b22257bc3c5f7ec75845e6e7f9a047", func := "loop.example/g00908/laws.FnExactSharesOf", spec := "fnExactSharesOf", apart := false }
def FnExactSharesOfSaid : Prop := fnExactSharesOfRow.holds Try.pinned (OpenSpec.ofChange fnExactSharesOfSpec)

/-- ITS FALSE NEIGHBOUR: 'it returns false'. Refute it at one input. -/
def fnExactSharesOfWrong : ChangeSpec := { name := "fnExactSharesOf", fn := fun _ => fun
  | [d] => { results := [.lit (.bool false)], args := [d] }
  | _ => none }
def FnExactSharesOfWrongFalsely : Prop := fnExactSharesOfRow.holds Try.pinned (OpenSpec.ofChange fnExactSharesOfWrong)

/-- 'laws.FnExactAdjustTo': WHATEVER THE INPUT: true; the input reads as it did. -/
def fnExactAdjustToSpec : ChangeSpec := { name := "fnExactAdjustTo", fn := fun _ => fun
  | [d1, d2, d3, d4] => { results := [.lit (.bool true)], args := [d1, d2, d3, d4] }
  | _ => none }
def fnExactAdjustToRow : OpenClaim := { program := "ytdfpgohfnabflaa", sum := "752a8bed6e1355113363659bc206c31b12b22257bc3c5f7ec75845e6e7f9a047", func := "loop.example/g00908/laws.FnExactAdjustTo", spec := "fnExactAdjustTo", apart := false }
def FnExactAdjustToSaid : Prop := fnExactAdjustToRow.holds Try.pinned (OpenSpec.ofChange fnExactAdjustToSpec)

/-- ITS FALSE NEIGHBOUR: 'it returns false'. Refute it at one input. -/
def fnExactAdjustToWrong : ChangeSpec := { name := "fnExactAdjustTo", fn := fun _ => fun
  | [d1, d2, d3, d4] => { results := [.lit (.bool false)], args := [d1, d2, d3, d4] }
  | _ => none }
def FnExactAdjustToWrongFalsely : Prop := fnExactAdjustToRow.holds Try.pinned (OpenSpec.ofChange fnExactAdjustToWrong)

/-- 'laws.FnExactIsAdjusted': WHATEVER THE INPUT: true; the input reads as it did. -/
def fnExactIsAdjustedSpec : ChangeSpec := { name := "fnExactIsAdjusted", fn := fun _ => fun
  | [d1, d2, d3, d4, d5] => { results := [.lit (.bool true)], args := [d1, d2, d3, d4, d5] }
  | _ => none }
def fnExactIsAdjustedRow : OpenClaim := { program := "ytdfpgohfnabflaa", sum := "752a8bed6e1355113363659bc206c31b12b22257bc3c5f7ec75845e6e7f9a047", func := "loop.example/g00908/laws.FnExactIsAdjusted", spec := "fnExactIsAdjusted", apart := false }
def FnExactIsAdjustedSaid : Prop := fnExactIsAdjustedRow.holds Try.pinned (OpenSpec.ofChange fnExactIsAdjustedSpec)

/-- ITS FALSE NEIGHBOUR: 'it returns false'. Refute it at one input. -/
def fnExactIsAdjustedWrong : ChangeSpec := { name := "fnExactIsAdjusted", fn := fun _ => fun
  | [d1, d2, d3, d4, d5] => { results := [.lit (.bool false)], args := [d1, d2, d3, d4, d5] }
  | _ => none }
def FnExactIsAdjustedWrongFalsely : Prop := fnExactIsAdjustedRow.holds Try.pinned (OpenSpec.ofChange fnExactIsAdjustedWrong)

/-- 'laws.FnExactLargestRemainders': WHATEVER THE INPUT: true; the input reads as it did. -/
def fnExactLargestRemaindersSpec : ChangeSpec := { name := "fnExactLargestRemainders", fn := fun _ => fun
  | [d1, d2] => { results := [.lit (.bool true)], args := [d1, d2] }
  | _ => none }
def fnExactLargestRemaindersRow : OpenClaim := { program := "ytdfpgohfnabflaa", sum := "752a8bed6e1355113363659bc206c31b12b22257bc3c5f7ec75845e6e7f9a047", func := "loop.example/g00908/laws.FnExactLargestRemainders", spec := "fnExactLargestRemainders", unfollowed := true, recurses := true, apart := false }
def FnExactLargestRemaindersSaid : Prop := fnExactLargestRemaindersRow.holds Try.pinned (OpenSpec.ofChange fnExactLargestRemaindersSpec)

/-- ITS FALSE NEIGHBOUR: 'it returns false'. Refute it at one input. -/
def fnExactLargestRemaindersWrong : ChangeSpec := { name := "fnExactLargestRemainders", fn := fun _ => fun
  | [d1, d2] => { results := [.lit (.bool false)], args := [d1, d2] }
  | _ => none }
def FnExactLargestRemaindersWrongFalsely : Prop := fnExactLargestRemaindersRow.holds Try.pinned (OpenSpec.ofChange fnExactLargestRemaindersWrong)

/-- 'laws.FnExactFitDown': WHATEVER THE INPUT: true; the input reads as it did. -/
def fnExactFitDownSpec : ChangeSpec := { name := "fnExactFitDown", fn := fun _ => fun
  | [d1, d2, d3] => { results := [.lit (.bool true)], args := [d1, d2, d3] }
  | _ => none }
def fnExactFitDownRow : OpenClaim := { program := "ytdfpgohfnabflaa", sum := "752a8bed6e1355113363659bc206c31b12b22257bc3c5f7ec75845e6e7f9a047", func := "loop.example/g00908/laws.FnExactFitDown", spec := "fnExactFitDown", apart := false }
def FnExactFitDownSaid : Prop := fnExactFitDownRow.holds Try.pinned (OpenSpec.ofChange fnExactFitDownSpec)

/-- ITS FALSE NEIGHBOUR: 'it returns false'. Refute it at one input. -/
def fnExactFitDownWrong : ChangeSpec := { name := "fnExactFitDown", fn := fun _ => fun
  | [d1, d2, d3] => { results := [.lit (.bool false)], args := [d1, d2, d3] }
  | _ => none }
def FnExactFitDownWrongFalsely : Prop := fnExactFitDownRow.holds Try.pinned (OpenSpec.ofChange fnExactFitDownWrong)

/- THE SECOND FORM. 'bulk': how many values and letters a reading holds, each counted each time it is reached (what is shared counts as often as it is met; a slice's spare places count too). A statement '..UptoSaid' is the law's where the arguments, and the package variables that the reading takes, are together of bulk at most 1048576: NARROWER than '..Said'. Prove '..Said' where nothing that the law and all that it calls make is longer than what came in: it says more and counts as full. Else prove '..UptoSaid'. A law counts once. -/
mutual
def uptoBulk {H : Type} : DataW H → Nat
  | .lit (.string bytes) => bytes.length + 1
  | .lit _ => 1
  | .nil => 1
  | .ptr d => uptoBulk d + 1
  | .slice elems spare => uptoBulkAll elems + uptoBulkAll spare + 1
  | .agg parts => uptoBulkAll parts + 1
  | .iface _ d => uptoBulk d + 1
  | .map entries => uptoBulkEntries entries + 1
  | .held _ => 1
def uptoBulkAll {H : Type} : List (DataW H) → Nat
  | [] => 0
  | d :: r => uptoBulk d + uptoBulkAll r
def uptoBulkEntries {H : Type} : List (Lit × DataW H) → Nat
  | [] => 0
  | x :: r => uptoBulkEntry x + uptoBulkEntries r
def uptoBulkEntry {H : Type} : Lit × DataW H → Nat
  | (.string bytes, d) => bytes.length + uptoBulk d + 1
  | (_, d) => uptoBulk d + 1
 end
def uptoSmall : (H : Type) → List (DataW H) → Bool := fun _ ds => decide (uptoBulkAll ds ≤ 1048576)
def OpenSpec.upto (s : _root_.Go.ChangeSpec) : _root_.Go.OpenSpec := { _root_.Go.OpenSpec.ofChange s with cond := some uptoSmall }

/-- 'laws.FnExactSquaredDistance', WHERE WHAT IT READS IS OF BULK AT MOST 1048576: true; the input reads as it did. -/
def fnExactSquaredDistanceUptoRow : OpenClaim := { program := "ytdfpgohfnabflaa", sum := "752a8bed6e1355113363659bc206c31b12b22257bc3c5f7ec75845e6e7f9a047", func := "loop.example/g00908/laws.FnExactSquaredDistance", spec := "fnExactSquaredDistance", apart := false, narrowed := true }
def FnExactSquaredDistanceUptoSaid : Prop := fnExactSquaredDistanceUptoRow.holds Try.pinned (OpenSpec.upto fnExactSquaredDistanceSpec)

/-- 'laws.FnExactPossibleTotals', WHERE WHAT IT READS IS OF BULK AT MOST 1048576: true; the input reads as it did. -/
def fnExactPossibleTotalsUptoRow : OpenClaim := { program := "ytdfpgohfnabflaa", sum := "752a8bed6e1355113363659bc206c31b12b22257bc3c5f7ec75845e6e7f9a047", func := "loop.example/g00908/laws.FnExactPossibleTotals", spec := "fnExactPossibleTotals", apart := false, narrowed := true }
def FnExactPossibleTotalsUptoSaid : Prop := fnExactPossibleTotalsUptoRow.holds Try.pinned (OpenSpec.upto fnExactPossibleTotalsSpec)

/-- 'laws.FnExactRaiseToBounds', WHERE WHAT IT READS IS OF BULK AT MOST 1048576: true; the input reads as it did. -/
def fnExactRaiseToBoundsUptoRow : OpenClaim := { program := "ytdfpgohfnabflaa", sum := "752a8bed6e1355113363659bc206c31b12b22257bc3c5f7ec75845e6e7f9a047", func := "loop.example/g00908/laws.FnExactRaiseToBounds", spec := "fnExactRaiseToBounds", apart := false, narrowed := true }
def FnExactRaiseToBoundsUptoSaid : Prop := fnExactRaiseToBoundsUptoRow.holds Try.pinned (OpenSpec.upto fnExactRaiseToBoundsSpec)

/-- 'laws.FnExactCheckSums', WHERE WHAT IT READS IS OF BULK AT MOST 1048576: true; the input reads as it did. -/
def fnExactCheckSumsUptoRow : OpenClaim := { program := "ytdfpgohfnabflaa", sum := "752a8bed6e1355113363659bc206c31b12b22257bc3c5f7ec75845e6e7f9a047", func := "loop.example/g00908/laws.FnExactCheckSums", spec := "fnExactCheckSums", apart := false, narrowed := true }
def FnExactCheckSumsUptoSaid : Prop := fnExactCheckSumsUptoRow.holds Try.pinned (OpenSpec.upto fnExactCheckSumsSpec)

/-- 'laws.FnExactIsAdditiveWhole', WHERE WHAT IT READS IS OF BULK AT MOST 1048576: true; the input reads as it did. -/
def fnExactIsAdditiveWholeUptoRow : OpenClaim := { program := "ytdfpgohfnabflaa", sum := "752a8bed6e1355113363659bc206c31b12b22257bc3c5f7ec75845e6e7f9a047", func := "loop.example/g00908/laws.FnExactIsAdditiveWhole", spec := "fnExactIsAdditiveWhole", apart := false, narrowed := true }
def FnExactIsAdditiveWholeUptoSaid : Prop := fnExactIsAdditiveWholeUptoRow.holds Try.pinned (OpenSpec.upto fnExactIsAdditiveWholeSpec)

/-- 'laws.FnExactKeptTotals', WHERE WHAT IT READS IS OF BULK AT MOST 1048576: true; the input reads as it did. -/
def fnExactKeptTotalsUptoRow : OpenClaim := { program := "ytdfpgohfnabflaa", sum := "752a8bed6e1355113363659bc206c31b12b22257bc3c5f7ec75845e6e7f9a047", func := "loop.example/g00908/laws.FnExactKeptTotals", spec := "fnExactKeptTotals", apart := false, narrowed := true }
def FnExactKeptTotalsUptoSaid : Prop := fnExactKeptTotalsUptoRow.holds Try.pinned (OpenSpec.upto fnExactKeptTotalsSpec)

/-- 'laws.FnExactLevelError', WHERE WHAT IT READS IS OF BULK AT MOST 1048576: true; the input reads as it did. -/
def fnExactLevelErrorUptoRow : OpenClaim := { program := "ytdfpgohfnabflaa", sum := "752a8bed6e1355113363659bc206c31b12b22257bc3c5f7ec75845e6e7f9a047", func := "loop.example/g00908/laws.FnExactLevelError", spec := "fnExactLevelError", apart := false, narrowed := true }
def FnExactLevelErrorUptoSaid : Prop := fnExactLevelErrorUptoRow.holds Try.pinned (OpenSpec.upto fnExactLevelErrorSpec)

/-- 'laws.FnExactSharesOf', WHERE WHAT IT READS IS OF BULK AT MOST 1048576: true; the input reads as it did. -/
def fnExactSharesOfUptoRow : OpenClaim := { program := "ytdfpgohfnabflaa", sum := "752a8bed6e1355113363659bc206c31b12b22257bc3c5f7ec75845e6e7f9a047", func := "loop.example/g00908/laws.FnExactSharesOf", spec := "fnExactSharesOf", apart := false, narrowed := true }
def FnExactSharesOfUptoSaid : Prop := fnExactSharesOfUptoRow.holds Try.pinned (OpenSpec.upto fnExactSharesOfSpec)

/-- 'laws.FnExactAdjustTo', WHERE WHAT IT READS IS OF BULK AT MOST 1048576: true; the input reads as it did. -/
def fnExactAdjustToUptoRow : OpenClaim := { program := "ytdfpgohfnabflaa", sum := "752a8bed6e1355113363659bc206c31b12b22257bc3c5f7ec75845e6e7f9a047", func := "loop.example/g00908/laws.FnExactAdjustTo", spec := "fnExactAdjustTo", apart := false, narrowed := true }
def FnExactAdjustToUptoSaid : Prop := fnExactAdjustToUptoRow.holds Try.pinned (OpenSpec.upto fnExactAdjustToSpec)

/-- 'laws.FnExactIsAdjusted', WHERE WHAT IT READS IS OF BULK AT MOST 1048576: true; the input reads as it did. -/
def fnExactIsAdjustedUptoRow : OpenClaim := { program := "ytdfpgohfnabflaa", sum := "752a8bed6e1355113363659bc206c31b12b22257bc3c5f7ec75845e6e7f9a047", func := "loop.example/g00908/laws.FnExactIsAdjusted", spec := "fnExactIsAdjusted", apart := false, narrowed := true }
def FnExactIsAdjustedUptoSaid : Prop := fnExactIsAdjustedUptoRow.holds Try.pinned (OpenSpec.upto fnExactIsAdjustedSpec)

/-- 'laws.FnExactLargestRemainders', WHERE WHAT IT READS IS OF BULK AT MOST 1048576: true; the input reads as it did. -/
def fnExactLargestRemaindersUptoRow : OpenClaim := { program := "ytdfpgohfnabflaa", sum := "752a8bed6e1355113363659bc206c31b12b22257bc3c5f7ec75845e6e7f9a047", func := "loop.example/g00908/laws.FnExactLargestRemainders", spec := "fnExactLargestRemainders", unfollowed := true, recurses := true, apart := false, narrowed := true }
def FnExactLargestRemaindersUptoSaid : Prop := fnExactLargestRemaindersUptoRow.holds Try.pinned (OpenSpec.upto fnExactLargestRemaindersSpec)

/-- 'laws.FnExactFitDown', WHERE WHAT IT READS IS OF BULK AT MOST 1048576: true; the input reads as it did. -/
def fnExactFitDownUptoRow : OpenClaim := { program := "ytdfpgohfnabflaa", sum := "752a8bed6e1355113363659bc206c31b12b22257bc3c5f7ec75845e6e7f9a047", func := "loop.example/g00908/laws.FnExactFitDown", spec := "fnExactFitDown", apart := false, narrowed := true }
def FnExactFitDownUptoSaid : Prop := fnExactFitDownUptoRow.holds Try.pinned (OpenSpec.upto fnExactFitDownSpec)

end Rows
end Go.Proofs.Ytdfpgohfnabflaa
