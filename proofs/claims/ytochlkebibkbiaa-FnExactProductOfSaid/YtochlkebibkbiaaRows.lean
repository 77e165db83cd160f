/-
  No cell of these rows narrows 'for every input' (looked for: loops, veiled, ifaces, maps, wideKeys, modest, calm, conditions, laid).
  DERIVED. THE GIVEN ROWS OF THIS SEAT. 12 by the template 'for every input the law returns true; each argument reads behind the call as it read before'; 0 by the template 'total and deterministic' (their statements: YtochlkebibkbiaaTotals.lean).
  GIVEN WITH THE SEED: the statements are not yours to turn. If you find one false, say at which input.
  Laid BY PROGRAM, IN A SANDBOX (cutbox-rows.mjs): the forced cells as the released guide's own fill.sh prints them over the translation 4998abbcfaf9eb05… (all of the seat's roots in one cut). By AI agents, Wed Nov 11 2026. No macro, syntax, notation, axiom, sorry.
-/
import Derived.Test.YtochlkebibkbiaaChecked
import GoSem.Claim
import GoSem.ClaimJoined
import GoSem.ClaimMapViews
import Derived.JoinedTies
import Derived.KernelRfl
namespace Go.Proofs.Ytochlkebibkbiaa
/- THE CELL 'sum', in the pinned program and in every row, IS THE sha256 OF THE DUMP (.gsa) THAT YtochlkebibkbiaaProg.lean LOADS. Nothing in Lean hashes anything: it is a label: what it is worth is what the hold of that sum in a sandbox is worth. -/
noncomputable def Try.pinned : Pinned := { name := "ytochlkebibkbiaa", sum := "4998abbcfaf9eb05453b7e7f22257cf75a7d981706ef7f08e6312cce04cd565e", checked := Try.checked }
namespace Rows
def none {H : Type} : Left H := { results := [], args := [] }

/-- 'laws.FnExactDistanceWhole': WHATEVER THE INPUT: true; the input reads as it did. -/
def fnExactDistanceWholeSpec : ChangeSpec := { name := "fnExactDistanceWhole", fn := fun _ => fun
  | [d1, d2] => { results := [.lit (.bool true)], args := [d1, d2] }
  | _ => none }
def fnExactDistanceWholeRow : OpenClaim := { program := "ytochlkebibkbiaa", sum := "4998abbcfaf9eb05453b7e7f22257cf75a7d981706ef7f08e6312cce04cd565e", func := "loop.example/g00908/laws.FnExactDistanceWhole", spec := "fnExactDistanceWhole", apart := false }
def FnExactDistanceWholeSaid : Prop := fnExactDistanceWholeRow.holds Try.pinned (OpenSpec.ofChange fnExactDistanceWholeSpec)

/-- ITS FALSE NEIGHBOUR: 'it returns false'. Refute it at one input. -/
def fnExactDistanceWholeWrong : ChangeSpec := { name := "fnExactDistanceWhole", fn := fun _ => fun
  | [d1, d2] => { results := [.lit (.bool false)], args := [d1, d2] }
  | _ => none }
def FnExactDistanceWholeWrongFalsely : Prop := fnExactDistanceWholeRow.holds Try.pinned (OpenSpec.ofChange fnExactDistanceWholeWrong)

/-- 'laws.FnExactNearestWhole': WHATEVER THE INPUT: true; the input reads as it did. -/
def fnExactNearestWholeSpec : ChangeSpec := { name := "fnExactNearestWhole", fn := fun _ => fun
  | [d1, d2] => { results := [.lit (.bool true)], args := [d1, d2] }
  | _ => none }
def fnExactNearestWholeRow : OpenClaim := { program := "ytochlkebibkbiaa", sum := "4998abbcfaf9eb05453b7e7f22257cf75a7d981706ef7f08e6312cce04cd565e", func := "loop.example/g00908/laws.FnExactNearestWhole", spec := "fnExactNearestWhole", apart := false }
def FnExactNearestWholeSaid : Prop := fnExactNearestWholeRow.holds Try.pinned (OpenSpec.ofChange fnExactNearestWholeSpec)

/-- ITS FALSE NEIGHBOUR: 'it returns false'. Refute it at one input. -/
def fnExactNearestWholeWrong : ChangeSpec := { name := "fnExactNearestWhole", fn := fun _ => fun
  | [d1, d2] => { results := [.lit (.bool false)], args := [d1, d2] }
  | _ => none }
def FnExactNearestWholeWrongFalsely : Prop := fnExactNearestWholeRow.holds Try.pinned (OpenSpec.ofChange fnExactNearestWholeWrong)

/-- 'laws.FnExactIsAdditiveTree': WHATEVER THE INPUT: true; the input reads as it did. -/
def fnExactIsAdditiveTreeSpec : ChangeSpec := { name := "fnExactIsAdditiveTree", fn := fun _ => fun
  | [d1, d2] => { results := [.lit (.bool true)], args := [d1, d2] }
  | _ => none }
def fnExactIsAdditiveTreeRow : OpenClaim := { program := "ytochlkebibkbiaa", sum := "4998abbcfaf9eb05453b7e7f22257cf75a7d981706ef7f08e6312cce04cd565e", func := "loop.example/g00908/laws.FnExactIsAdditiveTree", spec := "fnExactIsAdditiveTree", apart := false }
def FnExactIsAdditiveTreeSaid : Prop := fnExactIsAdditiveTreeRow.holds Try.pinned (OpenSpec.ofChange fnExactIsAdditiveTreeSpec)

/-- ITS FALSE NEIGHBOUR: 'it returns false'. Refute it at one input. -/
def fnExactIsAdditiveTreeWrong : ChangeSpec := { name := "fnExactIsAdditiveTree", fn := fun _ => fun
  | [d1, d2] => { results := [.lit (.bool false)], args := [d1, d2] }
  | _ => none }
def FnExactIsAdditiveTreeWrongFalsely : Prop := fnExactIsAdditiveTreeRow.holds Try.pinned (OpenSpec.ofChange fnExactIsAdditiveTreeWrong)

/-- 'laws.FnExactVariationOf': WHATEVER THE INPUT: true; the input reads as it did. -/
def fnExactVariationOfSpec : ChangeSpec := { name := "fnExactVariationOf", fn := fun _ => fun
  | [d1, d2, d3] => { results := [.lit (.bool true)], args := [d1, d2, d3] }
  | _ => none }
def fnExactVariationOfRow : OpenClaim := { program := "ytochlkebibkbiaa", sum := "4998abbcfaf9eb05453b7e7f22257cf75a7d981706ef7f08e6312cce04cd565e", func := "loop.example/g00908/laws.FnExactVariationOf", spec := "fnExactVariationOf", apart := false }
def FnExactVariationOfSaid : Prop := fnExactVariationOfRow.holds Try.pinned (OpenSpec.ofChange fnExactVariationOfSpec)

/-- ITS FALSE NEIGHBOUR: 'it returns false'. Refute it at one input. -/
def fnExactVariationOfWrong : ChangeSpec := { name := "fnExactVariationOf", fn := fun _ => fun
  | [d1, d2, d3] => { results := [.lit (.bool false)], args := [d1, d2, d3] }
  | _ => none }
def FnExactVariationOfWrongFalsely : Prop := fnExactVariationOfRow.holds Try.pinned (OpenSpec.ofChange fnExactVariationOfWrong)

/-- 'laws.FnExactRandomResponse': WHATEVER THE INPUT: true; the input reads as it did. -/
def fnExactRandomResponseSpec : ChangeSpec := { name := "fnExactRandomResponse", fn := fun _ => fun
  | [d1, d2] => { results := [.lit (.bool true)], args := [d1, d2] }
  | _ => none }
def fnExactRandomResponseRow : OpenClaim := { program := "ytochlkebibkbiaa", sum := "4998abbcfaf9eb05453b7e7f22257cf75a7d981706ef7f08e6312cce04cd565e", func := "loop.example/g00908/laws.FnExactRandomResponse", spec := "fnExactRandomResponse", unfollowed := true, recurses := true, apart := false }
def FnExactRandomResponseSaid : Prop := fnExactRandomResponseRow.holds Try.pinned (OpenSpec.ofChange fnExactRandomResponseSpec)

/-- ITS FALSE NEIGHBOUR: 'it returns false'. Refute it at one input. -/
def fnExactRandomResponseWrong : ChangeSpec := { name := "fnExactRandomResponse", fn := fun _ => fun
  | [d1, d2] => { results := [.lit (.bool false)], args := [d1, d2] }
  | _ => none }
def FnExactRandomResponseWrongFalsely : Prop := fnExactRandomResponseRow.holds Try.pinned (OpenSpec.ofChange fnExactRandomResponseWrong)

/-- 'laws.FnExactBestGuess': WHATEVER THE INPUT: true; the input reads as it did. -/
def fnExactBestGuessSpec : ChangeSpec := { name := "fnExactBestGuess", fn := fun _ => fun
  | [d1, d2] => { results := [.lit (.bool true)], args := [d1, d2] }
  | _ => none }
def fnExactBestGuessRow : OpenClaim := { program := "ytochlkebibkbiaa", sum := "4998abbcfaf9eb05453b7e7f22257cf75a7d981706ef7f08e6312cce04cd565e", func := "loop.example/g00908/laws.FnExactBestGuess", spec := "fnExactBestGuess", apart := false }
def FnExactBestGuessSaid : Prop := fnExactBestGuessRow.holds Try.pinned (OpenSpec.ofChange fnExactBestGuessSpec)

/-- ITS FALSE NEIGHBOUR: 'it returns false'. Refute it at one input. -/
def fnExactBestGuessWrong : ChangeSpec := { name := "fnExactBestGuess", fn := fun _ => fun
  | [d1, d2] => { results := [.lit (.bool false)], args := [d1, d2] }
  | _ => none }
def FnExactBestGuessWrongFalsely : Prop := fnExactBestGuessRow.holds Try.pinned (OpenSpec.ofChange fnExactBestGuessWrong)

/-- 'laws.FnExactWeightedError': WHATEVER THE INPUT: true; the input reads as it did. -/
def fnExactWeightedErrorSpec : ChangeSpec := { name := "fnExactWeightedError", fn := fun _ => fun
  | [d1, d2, d3, d4] => { results := [.lit (.bool true)], args := [d1, d2, d3, d4] }
  | _ => none }
def fnExactWeightedErrorRow : OpenClaim := { program := "ytochlkebibkbiaa", sum := "4998abbcfaf9eb05453b7e7f22257cf75a7d981706ef7f08e6312cce04cd565e", func := "loop.example/g00908/laws.FnExactWeightedError", spec := "fnExactWeightedError", apart := false }
def FnExactWeightedErrorSaid : Prop := fnExactWeightedErrorRow.holds Try.pinned (OpenSpec.ofChange fnExactWeightedErrorSpec)

/-- ITS FALSE NEIGHBOUR: 'it returns false'. Refute it at one input. -/
def fnExactWeightedErrorWrong : ChangeSpec := { name := "fnExactWeightedError", fn := fun _ => fun
  | [d1, d2, d3, d4] => { results := [.lit (.bool false)], args := [d1, d2, d3, d4] }
  | _ => none }
def FnExactWeightedErrorWrongFalsely : Prop := fnExactWeightedErrorRow.holds Try.pinned (OpenSpec.ofChange fnExactWeightedErrorWrong)

/-- 'laws.FnExactDeltaOf': WHATEVER THE INPUT: true; the input reads as it did. -/
def fnExactDeltaOfSpec : ChangeSpec := { name := "fnExactDeltaOf", fn := fun _ => fun
  | [d1, d2, d3, d4] => { results := [.lit (.bool true)], args := [d1, d2, d3, d4] }
  | _ => none }
def fnExactDeltaOfRow : OpenClaim := { program := "ytochlkebibkbiaa", sum := "4998abbcfaf9eb05453b7e7f22257cf75a7d981706ef7f08e6312cce04cd565e", func := "loop.example/g00908/laws.FnExactDeltaOf", spec := "fnExactDeltaOf", apart := false }
def FnExactDeltaOfSaid : Prop := fnExactDeltaOfRow.holds Try.pinned (OpenSpec.ofChange fnExactDeltaOfSpec)

/-- ITS FALSE NEIGHBOUR: 'it returns false'. Refute it at one input. -/
def fnExactDeltaOfWrong : ChangeSpec := { name := "fnExactDeltaOf", fn := fun _ => fun
  | [d1, d2, d3, d4] => { results := [.lit (.bool false)], args := [d1, d2, d3, d4] }
  | _ => none }
def FnExactDeltaOfWrongFalsely : Prop := fnExactDeltaOfRow.holds Try.pinned (OpenSpec.ofChange fnExactDeltaOfWrong)

/-- 'laws.FnExactRowRatio': WHATEVER THE INPUT: true; the input reads as it did. -/
def fnExactRowRatioSpec : ChangeSpec := { name := "fnExactRowRatio", fn := fun _ => fun
  | [d1, d2, d3] => { results := [.lit (.bool true)], args := [d1, d2, d3] }
  | _ => none }
def fnExactRowRatioRow : OpenClaim := { program := "ytochlkebibkbiaa", sum := "4998abbcfaf9eb05453b7e7f22257cf75a7d981706ef7f08e6312cce04cd565e", func := "loop.example/g00908/laws.FnExactRowRatio", spec := "fnExactRowRatio", apart := false }
def FnExactRowRatioSaid : Prop := fnExactRowRatioRow.holds Try.pinned (OpenSpec.ofChange fnExactRowRatioSpec)

/-- ITS FALSE NEIGHBOUR: 'it returns false'. Refute it at one input. -/
def fnExactRowRatioWrong : ChangeSpec := { name := "fnExactRowRatio", fn := fun _ => fun
  | [d1, d2, d3] => { results := [.lit (.bool false)], args := [d1, d2, d3] }
  | _ => none }
def FnExactRowRatioWrongFalsely : Prop := fnExactRowRatioRow.holds Try.pinned (OpenSpec.ofChange fnExactRowRatioWrong)

/-- 'laws.FnExactNeighbourRatio': WHATEVER THE INPUT: true; the input reads as it did. -/
def fnExactNeighbourRatioSpec : ChangeSpec := { name := "fnExactNeighbourRatio", fn := fun _ => fun
  | [d] => { results := [.lit (.bool true)], args := [d] }
  | _ => none }
def fnExactNeighbourRatioRow : OpenClaim := { program := "ytochlkebibkbiaa", sum := "4998abbcfaf9eb05453b7e7f22257cf75a7d981706ef7f08e6312cce04cd565e", func := "loop.example/g00908/laws.FnExactNeighbourRatio", spec := "fnExactNeighbourRatio", apart := false }
def FnExactNeighbourRatioSaid : Prop := fnExactNeighbourRatioRow.holds Try.pinned (OpenSpec.ofChange fnExactNeighbourRatioSpec)

/-- ITS FALSE NEIGHBOUR: 'it returns false'. Refute it at one input. -/
def fnExactNeighbourRatioWrong : ChangeSpec := { name := "fnExactNeighbourRatio", fn := fun _ => fun
  | [d] => { results := [.lit (.bool false)], args := [d] }
  | _ => none }
def FnExactNeighbourRatioWrongFalsely : Prop := fnExactNeighbourRatioRow.holds Try.pinned (OpenSpec.ofChange fnExactNeighbourRatioWrong)

/-- 'laws.FnExactProductOf': WHATEVER THE INPUT: true; the input reads as it did. -/
def fnExactProductOfSpec : ChangeSpec := { name := "fnExactProductOf", fn := fun _ => fun
  | [d1, d2] => { results := [.lit (.bool true)], args := [d1, d2] }
  | _ => none }
def fnExactProductOfRow : OpenClaim := { program := "ytochlkebibkbiaa", sum := "4998abbcfaf9eb05453b7e7f22257cf75a7d981706ef7f08e6312cce04cd565e", func := "loop.example/g00908/laws.FnExactProductOf", spec := "fnExactProductOf", unfollowed := true, recurses := true, apart := false }
def FnExactProductOfSaid : Prop := fnExactProductOfRow.holds Try.pinned (OpenSpec.ofChange fnExactProductOfSpec)

/-- ITS FALSE NEIGHBOUR: 'it returns false'. Refute it at one input. -/
def fnExactProductOfWrong : ChangeSpec := { name := "fnExactProductOf", fn := fun _ => fun
  | [d1, d2] => { results := [.lit (.bool false)], args := [d1, d2] }
  | _ => none }
def FnExactProductOfWrongFalsely : Prop := fnExactProductOfRow.holds Try.pinned (OpenSpec.ofChange fnExactProductOfWrong)

/-- 'laws.FnExactPostProcess': WHATEVER THE INPUT: true; the input reads as it did. -/
def fnExactPostProcessSpec : ChangeSpec := { name := "fnExactPostProcess", fn := fun _ => fun
  | [d1, d2] => { results := [.lit (.bool true)], args := [d1, d2] }
  | _ => none }
def fnExactPostProcessRow : OpenClaim := { program := "ytochlkebibkbiaa", sum := "4998abbcfaf9eb05453b7e7f22257cf75a7d981706ef7f08e6312cce04cd565e", func := "loop.example/g00908/laws.FnExactPostProcess", spec := "fnExactPostProcess", unfollowed := true, recurses := true, apart := false }
def FnExactPostProcessSaid : Prop := fnExactPostProcessRow.holds Try.pinned (OpenSpec.ofChange fnExactPostProcessSpec)

/-- ITS FALSE NEIGHBOUR: 'it returns false'. Refute it at one input. -/
def fnExactPostProcessWrong : ChangeSpec := { name := "fnExactPostProcess", fn := fun _ => fun
  | [d1, d2] => { results := [.lit (.bool false)], args := [d1, d2] }
  | _ => none }
def FnExactPostProcessWrongFalsely : Prop := fnExactPostProcessRow.holds Try.pinned (OpenSpec.ofChange fnExactPostProcessWrong)

/- THE SECOND FORM. 'bulk': how many values and letters a reading holds, each counted each time it is reached (what is shared counts as often as it is met; a slice's spare places count too). A statement '..UptoSaid' is the law's where the arguments, and the package variables that the reading takes, are together of bulk at most 1048576: NARROWER than '..Said'. Prove '..Said' where nothing that the law and all that it calls make is longer than what came in: it says more and counts as full. Else prove '..UptoSaid'. A law counts once. -/
mutual
def uptoBulk {H : Type} : DataW H → Nat
  | .lit (.string bytes) => bytes.length + 1
  | .lit _ => 1
  | .nil => 1
  | .ptr d => uptoBulk d + 1
  | .slice elems spare => uptoBulkAll elems + uptoBulkAll spare + 1
  | .agg parts => uptoBulkAll parts + 1
  | .iface _ d => uptoBulk d + 1
  | .map entries => uptoBulkEntries entries + 1
  | .held _ => 1
def uptoBulkAll {H : Type} : List (DataW H) → Nat
  | [] => 0
  | d :: r => uptoBulk d + uptoBulkAll r
def uptoBulkEntries {H : Type} : List (Lit × DataW H) → Nat
  | [] => 0
  | x :: r => uptoBulkEntry x + uptoBulkEntries r
def uptoBulkEntry {H : Type} : Lit × DataW H → Nat
  | (.string bytes, d) => bytes.length + uptoBulk d + 1
  | (_, d) => uptoBulk d + 1
 end
def uptoSmall : (H : Type) → List (DataW H) → Bool := fun _ ds => decide (uptoBulkAll ds ≤ 1048576)
def OpenSpec.upto (s : _root_.Go.ChangeSpec) : _root_.Go.OpenSpec := { _root_.Go.OpenSpec.ofChange s with cond := some uptoSmall }

/-- 'laws.FnExactDistanceWhole', WHERE WHAT IT READS IS OF BULK AT MOST 1048576: true; the input reads as it did. -/
def fnExactDistanceWholeUptoRow : OpenClaim := { program := "ytochlkebibkbiaa", sum := "4998abbcfaf9eb05453b7e7f22257cf75a7d981706ef7f08e6312cce04cd565e", func := "loop.example/g00908/laws.FnExactDistanceWhole", spec := "fnExactDistanceWhole", apart := false, narrowed := true }
def FnExactDistanceWholeUptoSaid : Prop := fnExactDistanceWholeUptoRow.holds Try.pinned (OpenSpec.upto fnExactDistanceWholeSpec)

/-- 'laws.FnExactNearestWhole', WHERE WHAT IT READS IS OF BULK AT MOST 1048576: true; the input reads as it did. -/
def fnExactNearestWholeUptoRow : OpenClaim := { program := "ytochlkebibkbiaa", sum := "4998abbcfaf9eb05453b7e7f22257cf75a7d981706ef7f08e6312cce04cd565e", func := "loop.example/g00908/laws.FnExactNearestWhole", spec := "fnExactNearestWhole", apart := false, narrowed := true }
def FnExactNearestWholeUptoSaid : Prop := fnExactNearestWholeUptoRow.holds Try.pinned (OpenSpec.upto fnExactNearestWholeSpec)

/-- 'laws.FnExactIsAdditiveTree', WHERE WHAT IT READS IS OF BULK AT MOST 1048576: true; the input reads as it did. -/
def fnExactIsAdditiveTreeUptoRow : OpenClaim := { program := "ytochlkebibkbiaa", sum := "4998abbcfaf9eb05453b7e7f22257cf75a7d981706ef7f08e6312cce04cd565e", func := "loop.example/g00908/laws.FnExactIsAdditiveTree", spec := "fnExactIsAdditiveTree", apart := false, narrowed := true }
def FnExactIsAdditiveTreeUptoSaid : Prop := fnExactIsAdditiveTreeUptoRow.holds Try.pinned (OpenSpec.upto fnExactIsAdditiveTreeSpec)

/-- 'laws.FnExactVariationOf', WHERE WHAT IT READS IS OF BULK AT MOST 1048576: true; the input reads as it did. -/
def fnExactVariationOfUptoRow : OpenClaim := { program := "ytochlkebibkbiaa", sum := "4998abbcfaf9eb05453b7e7f22257cf75a7d981706ef7f08e6312cce04cd565e", func := "loop.example/g00908/laws.FnExactVariationOf", spec := "fnExactVariationOf", apart := false, narrowed := true }
def FnExactVariationOfUptoSaid : Prop := fnExactVariationOfUptoRow.holds Try.pinned (OpenSpec.upto fnExactVariationOfSpec)

/-- 'laws.FnExactRandomResponse', WHERE WHAT IT READS IS OF BULK AT MOST 1048576: true; the input reads as it did. -/
def fnExactRandomResponseUptoRow : OpenClaim := { program := "ytochlkebibkbiaa", sum := "4998abbcfaf9eb05453b7e7f22257cf75a7d981706ef7f08e6312cce04cd565e", func := "loop.example/g00908/laws.FnExactRandomResponse", spec := "fnExactRandomResponse", unfollowed := true, recurses := true, apart := false, narrowed := true }
def FnExactRandomResponseUptoSaid : Prop := fnExactRandomResponseUptoRow.holds Try.pinned (OpenSpec.upto fnExactRandomResponseSpec)

/-- 'laws.FnExactBestGuess', WHERE WHAT IT READS IS OF BULK AT MOST 1048576: true; the input reads as it did. -/
def fnExactBestGuessUptoRow : OpenClaim := { program := "ytochlkebibkbiaa", sum := "4998abbcfaf9eb05453b7e7f22257cf75a7d981706ef7f08e6312cce04cd565e", func := "loop.example/g00908/laws.FnExactBestGuess", spec := "fnExactBestGuess", apart := false, narrowed := true }
def FnExactBestGuessUptoSaid : Prop := fnExactBestGuessUptoRow.holds Try.pinned (OpenSpec.upto fnExactBestGuessSpec)

/-- 'laws.FnExactWeightedError', WHERE WHAT IT READS IS OF BULK AT MOST 1048576: true; the input reads as it did. -/
def fnExactWeightedErrorUptoRow : OpenClaim := { program := "ytochlkebibkbiaa", sum := "4998abbcfaf9eb05453b7e7f22257cf75a7d981706ef7f08e6312cce04cd565e", func := "loop.example/g00908/laws.FnExactWeightedError", spec := "fnExactWeightedError", apart := false, narrowed := true }
def FnExactWeightedErrorUptoSaid : Prop := fnExactWeightedErrorUptoRow.holds Try.pinned (OpenSpec.upto fnExactWeightedErrorSpec)

/-- 'laws.FnExactDeltaOf', WHERE WHAT IT READS IS OF BULK AT MOST 1048576: true; the input reads as it did. -/
def fnExactDeltaOfUptoRow : OpenClaim := { program := "ytochlkebibkbiaa", sum := "4998abbcfaf9eb05453b7e7f22257cf75a7d981706ef7f08e6312cce04cd565e", func := "loop.example/g00908/laws.FnExactDeltaOf", spec := "fnExactDeltaOf", apart := false, narrowed := true }
def FnExactDeltaOfUptoSaid : Prop := fnExactDeltaOfUptoRow.holds Try.pinned (OpenSpec.upto fnExactDeltaOfSpec)

/-- 'laws.FnExactRowRatio', WHERE WHAT IT READS IS OF BULK AT MOST 1048576: true; the input reads as it did. -/
def fnExactRowRatioUptoRow : OpenClaim := { program := "ytochlkebibkbiaa", sum := "4998abbcfaf9eb05453b7e7f22257cf75a7d981706ef7f08e6312cce04cd565e", func := "loop.example/g00908/laws.FnExactRowRatio", spec := "fnExactRowRatio", apart := false, narrowed := true }
def FnExactRowRatioUptoSaid : Prop := fnExactRowRatioUptoRow.holds Try.pinned (OpenSpec.upto fnExactRowRatioSpec)

/-- 'laws.FnExactNeighbourRatio', WHERE WHAT IT READS IS OF BULK AT MOST 1048576: true; the input reads as it did. -/
def fnExactNeighbourRatioUptoRow : OpenClaim := { program := "ytochlkebibkbiaa", sum := "4998abbcfaf9eb05453b7e7f22257cf75a7d981706ef7f08e6312cce04cd565e", func := "loop.example/g00908/laws.FnExactNeighbourRatio", spec := "fnExactNeighbourRatio", apart := false, narrowed := true }
def FnExactNeighbourRatioUptoSaid : Prop := fnExactNeighbourRatioUptoRow.holds Try.pinned (OpenSpec.upto fnExactNeighbourRatioSpec)

/-- 'laws.FnExactProductOf', WHERE WHAT IT READS IS OF BULK AT MOST 1048576: true; the input reads as it did. -/
def fnExactProductOfUptoRow : OpenClaim := { program := "ytochlkebibkbiaa", sum := "4998abbcfaf9eb05453b7e7f22257cf75a7d981706ef7f08e6312cce04cd565e", func := "loop.example/g00908/laws.FnExactProductOf", spec := "fnExactProductOf", unfollowed := true, recurses := true, apart := false, narrowed := true }
def FnExactProductOfUptoSaid : Prop := fnExactProductOfUptoRow.holds Try.pinned (OpenSpec.upto fnExactProductOfSpec)

/-- 'laws.FnExactPostProcess', WHERE WHAT IT READS IS OF BULK AT MOST 1048576: true; the input reads as it did. -/
def fnExactPostProcessUptoRow : OpenClaim := { program := "ytochlkebibkbiaa", sum := "4998abbcfaf9eb05453b7e7f22257cf75a7d981706ef7f08e6312cce04cd565e", func := "loop.example/g00908/laws.FnExactPostProcess", spec := "fnExactPostProcess", unfollowed := true, recurses := true, apart := false, narrowed := true }
def FnExactPostProcessUptoSaid : Prop := fnExactPostProcessUptoRow.holds Try.pinned (OpenSpec.upto fnExactPostProcessSpec)

end Rows
end Go.Proofs.Ytochlkebibkbiaa
