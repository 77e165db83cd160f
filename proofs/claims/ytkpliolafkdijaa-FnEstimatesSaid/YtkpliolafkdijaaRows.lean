/-
  No cell of these rows narrows 'for every input' (looked for: loops, veiled, ifaces, maps, wideKeys, modest, calm, conditions, laid).
  DERIVED. THE GIVEN ROWS OF THIS SEAT. 12 by the template 'for every input the law returns true; each argument reads behind the call as it read before'; 0 by the template 'total and deterministic' (their statements: YtkpliolafkdijaaTotals.lean).
  GIVEN WITH THE SEED: the statements are not yours to turn. If you find one false, say at which input.
  Laid BY PROGRAM, IN A SANDBOX (cutbox-rows.mjs): the forced cells as the released guide's own fill.sh prints them over the translation 83708785eb2e4c45… (all of the seat's roots in one cut). By AI agents, Wed Nov 11 2026. No macro, syntax, notation, axiom, sorry.
-/
import Derived.Test.YtkpliolafkdijaaChecked
import GoSem.Claim
import GoSem.ClaimJoined
import GoSem.ClaimMapViews
import Derived.JoinedTies
import Derived.KernelRfl
namespace Go.Proofs.Ytkpliolafkdijaa
/- THE CELL 'sum', in the pinned program and in every row, IS THE sha256 OF THE DUMP (.gsa) THAT YtkpliolafkdijaaProg.lean LOADS. Nothing in Lean hashes anything: it is a label: what it is worth is what the hold of that sum in a sandbox is worth. -/
noncomputable def Try.pinned : Pinned := { name := "ytkpliolafkdijaa", sum := "83708785eb2e4c457e3a7624f8dc476d49717520971f109fb9201d9f1574fba4", checked := Try.checked }
namespace Rows
def none {H : Type} : Left H := { results := [], args := [] }

/-- 'laws.FnExactNearestWhole': WHATEVER THE INPUT: true; the input reads as it did. -/
def fnExactNearestWholeSpec : ChangeSpec := { name := "fnExactNearestWhole", fn := fun _ => fun
  | [d1, d2] => { results := [.lit (.bool true)], args := [d1, d2] }
  | _ => none }
def fnExactNearestWholeRow : OpenClaim := { program := "ytkpliolafkdijaa", sum := "83708785eb2e4c457e3a7624f8dc476d49717520971f109fb9201d9f1574fba4", func := "loop.example/g00908/laws.FnExactNearestWhole", spec := "fnExactNearestWhole", apart := false }
def FnExactNearestWholeSaid : Prop := fnExactNearestWholeRow.holds Try.pinned (OpenSpec.ofChange fnExactNearestWholeSpec)

/-- ITS FALSE NEIGHBOUR: 'it returns false'. Refute it at one input. -/
def fnExactNearestWholeWrong : ChangeSpec := { name := "fnExactNearestWhole", fn := fun _ => fun
  | [d1, d2] => { results := [.lit (.bool false)], args := [d1, d2] }
  | _ => none }
def FnExactNearestWholeWrongFalsely : Prop := fnExactNearestWholeRow.holds Try.pinned (OpenSpec.ofChange fnExactNearestWholeWrong)

/-- 'laws.FnExactGeometricMechanism': WHATEVER THE INPUT: true; the input reads as it did. -/
def fnExactGeometricMechanismSpec : ChangeSpec := { name := "fnExactGeometricMechanism", fn := fun _ => fun
  | [d1, d2] => { results := [.lit (.bool true)], args := [d1, d2] }
  | _ => none }
def fnExactGeometricMechanismRow : OpenClaim := { program := "ytkpliolafkdijaa", sum := "83708785eb2e4c457e3a7624f8dc476d49717520971f109fb9201d9f1574fba4", func := "loop.example/g00908/laws.FnExactGeometricMechanism", spec := "fnExactGeometricMechanism", unfollowed := true, recurses := true, apart := false }
def FnExactGeometricMechanismSaid : Prop := fnExactGeometricMechanismRow.holds Try.pinned (OpenSpec.ofChange fnExactGeometricMechanismSpec)

/-- ITS FALSE NEIGHBOUR: 'it returns false'. Refute it at one input. -/
def fnExactGeometricMechanismWrong : ChangeSpec := { name := "fnExactGeometricMechanism", fn := fun _ => fun
  | [d1, d2] => { results := [.lit (.bool false)], args := [d1, d2] }
  | _ => none }
def FnExactGeometricMechanismWrongFalsely : Prop := fnExactGeometricMechanismRow.holds Try.pinned (OpenSpec.ofChange fnExactGeometricMechanismWrong)

/-- 'laws.FnExactSubtreeEstimates': WHATEVER THE INPUT: true; the input reads as it did. -/
def fnExactSubtreeEstimatesSpec : ChangeSpec := { name := "fnExactSubtreeEstimates", fn := fun _ => fun
  | [d1, d2, d3] => { results := [.lit (.bool true)], args := [d1, d2, d3] }
  | _ => none }
def fnExactSubtreeEstimatesRow : OpenClaim := { program := "ytkpliolafkdijaa", sum := "83708785eb2e4c457e3a7624f8dc476d49717520971f109fb9201d9f1574fba4", func := "loop.example/g00908/laws.FnExactSubtreeEstimates", spec := "fnExactSubtreeEstimates", apart := false }
def FnExactSubtreeEstimatesSaid : Prop := fnExactSubtreeEstimatesRow.holds Try.pinned (OpenSpec.ofChange fnExactSubtreeEstimatesSpec)

/-- ITS FALSE NEIGHBOUR: 'it returns false'. Refute it at one input. -/
def fnExactSubtreeEstimatesWrong : ChangeSpec := { name := "fnExactSubtreeEstimates", fn := fun _ => fun
  | [d1, d2, d3] => { results := [.lit (.bool false)], args := [d1, d2, d3] }
  | _ => none }
def FnExactSubtreeEstimatesWrongFalsely : Prop := fnExactSubtreeEstimatesRow.holds Try.pinned (OpenSpec.ofChange fnExactSubtreeEstimatesWrong)

/-- 'laws.FnExactWholeTree': WHATEVER THE INPUT: true; the input reads as it did. -/
def fnExactWholeTreeSpec : ChangeSpec := { name := "fnExactWholeTree", fn := fun _ => fun
  | [d1, d2] => { results := [.lit (.bool true)], args := [d1, d2] }
  | _ => none }
def fnExactWholeTreeRow : OpenClaim := { program := "ytkpliolafkdijaa", sum := "83708785eb2e4c457e3a7624f8dc476d49717520971f109fb9201d9f1574fba4", func := "loop.example/g00908/laws.FnExactWholeTree", spec := "fnExactWholeTree", apart := false }
def FnExactWholeTreeSaid : Prop := fnExactWholeTreeRow.holds Try.pinned (OpenSpec.ofChange fnExactWholeTreeSpec)

/-- ITS FALSE NEIGHBOUR: 'it returns false'. Refute it at one input. -/
def fnExactWholeTreeWrong : ChangeSpec := { name := "fnExactWholeTree", fn := fun _ => fun
  | [d1, d2] => { results := [.lit (.bool false)], args := [d1, d2] }
  | _ => none }
def FnExactWholeTreeWrongFalsely : Prop := fnExactWholeTreeRow.holds Try.pinned (OpenSpec.ofChange fnExactWholeTreeWrong)

/-- 'laws.FnExactConsistentEstimates': WHATEVER THE INPUT: true; the input reads as it did. -/
def fnExactConsistentEstimatesSpec : ChangeSpec := { name := "fnExactConsistentEstimates", fn := fun _ => fun
  | [d1, d2, d3] => { results := [.lit (.bool true)], args := [d1, d2, d3] }
  | _ => none }
def fnExactConsistentEstimatesRow : OpenClaim := { program := "ytkpliolafkdijaa", sum := "83708785eb2e4c457e3a7624f8dc476d49717520971f109fb9201d9f1574fba4", func := "loop.example/g00908/laws.FnExactConsistentEstimates", spec := "fnExactConsistentEstimates", apart := false }
def FnExactConsistentEstimatesSaid : Prop := fnExactConsistentEstimatesRow.holds Try.pinned (OpenSpec.ofChange fnExactConsistentEstimatesSpec)

/-- ITS FALSE NEIGHBOUR: 'it returns false'. Refute it at one input. -/
def fnExactConsistentEstimatesWrong : ChangeSpec := { name := "fnExactConsistentEstimates", fn := fun _ => fun
  | [d1, d2, d3] => { results := [.lit (.bool false)], args := [d1, d2, d3] }
  | _ => none }
def FnExactConsistentEstimatesWrongFalsely : Prop := fnExactConsistentEstimatesRow.holds Try.pinned (OpenSpec.ofChange fnExactConsistentEstimatesWrong)

/-- 'laws.FnExactTopDown': WHATEVER THE INPUT: true; the input reads as it did. -/
def fnExactTopDownSpec : ChangeSpec := { name := "fnExactTopDown", fn := fun _ => fun
  | [d1, d2, d3] => { results := [.lit (.bool true)], args := [d1, d2, d3] }
  | _ => none }
def fnExactTopDownRow : OpenClaim := { program := "ytkpliolafkdijaa", sum := "83708785eb2e4c457e3a7624f8dc476d49717520971f109fb9201d9f1574fba4", func := "loop.example/g00908/laws.FnExactTopDown", spec := "fnExactTopDown", apart := false }
def FnExactTopDownSaid : Prop := fnExactTopDownRow.holds Try.pinned (OpenSpec.ofChange fnExactTopDownSpec)

/-- ITS FALSE NEIGHBOUR: 'it returns false'. Refute it at one input. -/
def fnExactTopDownWrong : ChangeSpec := { name := "fnExactTopDown", fn := fun _ => fun
  | [d1, d2, d3] => { results := [.lit (.bool false)], args := [d1, d2, d3] }
  | _ => none }
def FnExactTopDownWrongFalsely : Prop := fnExactTopDownRow.holds Try.pinned (OpenSpec.ofChange fnExactTopDownWrong)

/-- 'laws.FnAdjusted': WHATEVER THE INPUT: true; the input reads as it did. -/
def fnAdjustedSpec : ChangeSpec := { name := "fnAdjusted", fn := fun _ => fun
  | [d1, d2] => { results := [.lit (.bool true)], args := [d1, d2] }
  | _ => none }
def fnAdjustedRow : OpenClaim := { program := "ytkpliolafkdijaa", sum := "83708785eb2e4c457e3a7624f8dc476d49717520971f109fb9201d9f1574fba4", func := "loop.example/g00908/laws.FnAdjusted", spec := "fnAdjusted", apart := false }
def FnAdjustedSaid : Prop := fnAdjustedRow.holds Try.pinned (OpenSpec.ofChange fnAdjustedSpec)

/-- ITS FALSE NEIGHBOUR: 'it returns false'. Refute it at one input. -/
def fnAdjustedWrong : ChangeSpec := { name := "fnAdjusted", fn := fun _ => fun
  | [d1, d2] => { results := [.lit (.bool false)], args := [d1, d2] }
  | _ => none }
def FnAdjustedWrongFalsely : Prop := fnAdjustedRow.holds Try.pinned (OpenSpec.ofChange fnAdjustedWrong)

/-- 'laws.FnWhole': WHATEVER THE INPUT: true; the input reads as it did. -/
def fnWholeSpec : ChangeSpec := { name := "fnWhole", fn := fun _ => fun
  | [d1, d2] => { results := [.lit (.bool true)], args := [d1, d2] }
  | _ => none }
def fnWholeRow : OpenClaim := { program := "ytkpliolafkdijaa", sum := "83708785eb2e4c457e3a7624f8dc476d49717520971f109fb9201d9f1574fba4", func := "loop.example/g00908/laws.FnWhole", spec := "fnWhole", apart := false }
def FnWholeSaid : Prop := fnWholeRow.holds Try.pinned (OpenSpec.ofChange fnWholeSpec)

/-- ITS FALSE NEIGHBOUR: 'it returns false'. Refute it at one input. -/
def fnWholeWrong : ChangeSpec := { name := "fnWhole", fn := fun _ => fun
  | [d1, d2] => { results := [.lit (.bool false)], args := [d1, d2] }
  | _ => none }
def FnWholeWrongFalsely : Prop := fnWholeRow.holds Try.pinned (OpenSpec.ofChange fnWholeWrong)

/-- 'laws.FnConsistent': WHATEVER THE INPUT: true; the input reads as it did. -/
def fnConsistentSpec : ChangeSpec := { name := "fnConsistent", fn := fun _ => fun
  | [d1, d2] => { results := [.lit (.bool true)], args := [d1, d2] }
  | _ => none }
def fnConsistentRow : OpenClaim := { program := "ytkpliolafkdijaa", sum := "83708785eb2e4c457e3a7624f8dc476d49717520971f109fb9201d9f1574fba4", func := "loop.example/g00908/laws.FnConsistent", spec := "fnConsistent", apart := false }
def FnConsistentSaid : Prop := fnConsistentRow.holds Try.pinned (OpenSpec.ofChange fnConsistentSpec)

/-- ITS FALSE NEIGHBOUR: 'it returns false'. Refute it at one input. -/
def fnConsistentWrong : ChangeSpec := { name := "fnConsistent", fn := fun _ => fun
  | [d1, d2] => { results := [.lit (.bool false)], args := [d1, d2] }
  | _ => none }
def FnConsistentWrongFalsely : Prop := fnConsistentRow.holds Try.pinned (OpenSpec.ofChange fnConsistentWrong)

/-- 'laws.FnEstimates': WHATEVER THE INPUT: true; the input reads as it did. -/
def fnEstimatesSpec : ChangeSpec := { name := "fnEstimates", fn := fun _ => fun
  | [d1, d2] => { results := [.lit (.bool true)], args := [d1, d2] }
  | _ => none }
def fnEstimatesRow : OpenClaim := { program := "ytkpliolafkdijaa", sum := "83708785eb2e4c457e3a7624f8dc476d49717520971f109fb9201d9f1574fba4", func := "loop.example/g00908/laws.FnEstimates", spec := "fnEstimates", apart := false }
def FnEstimatesSaid : Prop := fnEstimatesRow.holds Try.pinned (OpenSpec.ofChange fnEstimatesSpec)

/-- ITS FALSE NEIGHBOUR: 'it returns false'. Refute it at one input. -/
def fnEstimatesWrong : ChangeSpec := { name := "fnEstimates", fn := fun _ => fun
  | [d1, d2] => { results := [.lit (.bool false)], args := [d1, d2] }
  | _ => none }
def FnEstimatesWrongFalsely : Prop := fnEstimatesRow.holds Try.pinned (OpenSpec.ofChange fnEstimatesWrong)

/-- 'laws.FnMechanisms': WHATEVER THE INPUT: true; the input reads as it did. -/
def fnMechanismsSpec : ChangeSpec := { name := "fnMechanisms", fn := fun _ => fun
  | [d1, d2] => { results := [.lit (.bool true)], args := [d1, d2] }
  | _ => none }
def fnMechanismsRow : OpenClaim := { program := "ytkpliolafkdijaa", sum := "83708785eb2e4c457e3a7624f8dc476d49717520971f109fb9201d9f1574fba4", func := "loop.example/g00908/laws.FnMechanisms", spec := "fnMechanisms", unfollowed := true, recurses := true, apart := false }
def FnMechanismsSaid : Prop := fnMechanismsRow.holds Try.pinned (OpenSpec.ofChange fnMechanismsSpec)

/-- ITS FALSE NEIGHBOUR: 'it returns false'. Refute it at one input. -/
def fnMechanismsWrong : ChangeSpec := { name := "fnMechanisms", fn := fun _ => fun
  | [d1, d2] => { results := [.lit (.bool false)], args := [d1, d2] }
  | _ => none }
def FnMechanismsWrongFalsely : Prop := fnMechanismsRow.holds Try.pinned (OpenSpec.ofChange fnMechanismsWrong)

/-- 'laws.FnNoisyMechanisms': WHATEVER THE INPUT: true; the input reads as it did. -/
def fnNoisyMechanismsSpec : ChangeSpec := { name := "fnNoisyMechanisms", fn := fun _ => fun
  | [d1, d2] => { results := [.lit (.bool true)], args := [d1, d2] }
  | _ => none }
def fnNoisyMechanismsRow : OpenClaim := { program := "ytkpliolafkdijaa", sum := "83708785eb2e4c457e3a7624f8dc476d49717520971f109fb9201d9f1574fba4", func := "loop.example/g00908/laws.FnNoisyMechanisms", spec := "fnNoisyMechanisms", unfollowed := true, recurses := true, apart := false }
def FnNoisyMechanismsSaid : Prop := fnNoisyMechanismsRow.holds Try.pinned (OpenSpec.ofChange fnNoisyMechanismsSpec)

/-- ITS FALSE NEIGHBOUR: 'it returns false'. Refute it at one input. -/
def fnNoisyMechanismsWrong : ChangeSpec := { name := "fnNoisyMechanisms", fn := fun _ => fun
  | [d1, d2] => { results := [.lit (.bool false)], args := [d1, d2] }
  | _ => none }
def FnNoisyMechanismsWrongFalsely : Prop := fnNoisyMechanismsRow.holds Try.pinned (OpenSpec.ofChange fnNoisyMechanismsWrong)

/- THE SECOND FORM. 'bulk': how many values and letters a reading holds, each counted each time it is reached (what is shared counts as often as it is met; a slice's spare places count too). A statement '..UptoSaid' is the law's where the arguments, and the package variables that the reading takes, are together of bulk at most 1048576: NARROWER than '..Said'. Prove '..Said' where nothing that the law and all that it calls make is longer than what came in: it says more and counts as full. Else prove '..UptoSaid'. A law counts once. -/
mutual
def uptoBulk {H : Type} : DataW H → Nat
  | .lit (.string bytes) => bytes.length + 1
  | .lit _ => 1
  | .nil => 1
  | .ptr d => uptoBulk d + 1
  | .slice elems spare => uptoBulkAll elems + uptoBulkAll spare + 1
  | .agg parts => uptoBulkAll parts + 1
  | .iface _ d => uptoBulk d + 1
  | .map entries => uptoBulkEntries entries + 1
  | .held _ => 1
def uptoBulkAll {H : Type} : List (DataW H) → Nat
  | [] => 0
  | d :: r => uptoBulk d + uptoBulkAll r
def uptoBulkEntries {H : Type} : List (Lit × DataW H) → Nat
  | [] => 0
  | x :: r => uptoBulkEntry x + uptoBulkEntries r
def uptoBulkEntry {H : Type} : Lit × DataW H → Nat
  | (.string bytes, d) => bytes.length + uptoBulk d + 1
  | (_, d) => uptoBulk d + 1
 end
def uptoSmall : (H : Type) → List (DataW H) → Bool := fun _ ds => decide (uptoBulkAll ds ≤ 1048576)
def OpenSpec.upto (s : _root_.Go.ChangeSpec) : _root_.Go.OpenSpec := { _root_.Go.OpenSpec.ofChange s with cond := some uptoSmall }

/-- 'laws.FnExactNearestWhole', WHERE WHAT IT READS IS OF BULK AT MOST 1048576: true; the input reads as it did. -/
def fnExactNearestWholeUptoRow : OpenClaim := { program := "ytkpliolafkdijaa", sum := "83708785eb2e4c457e3a7624f8dc476d49717520971f109fb9201d9f1574fba4", func := "loop.example/g00908/laws.FnExactNearestWhole", spec := "fnExactNearestWhole", apart := false, narrowed := true }
def FnExactNearestWholeUptoSaid : Prop := fnExactNearestWholeUptoRow.holds Try.pinned (OpenSpec.upto fnExactNearestWholeSpec)

/-- 'laws.FnExactGeometricMechanism', WHERE WHAT IT READS IS OF BULK AT MOST 1048576: true; the input reads as it did. -/
def fnExactGeometricMechanismUptoRow : OpenClaim := { program := "ytkpliolafkdijaa", sum := "83708785eb2e4c457e3a7624f8dc476d49717520971f109fb9201d9f1574fba4", func := "loop.example/g00908/laws.FnExactGeometricMechanism", spec := "fnExactGeometricMechanism", unfollowed := true, recurses := true, apart := false, narrowed := true }
def FnExactGeometricMechanismUptoSaid : Prop := fnExactGeometricMechanismUptoRow.holds Try.pinned (OpenSpec.upto fnExactGeometricMechanismSpec)

/-- 'laws.FnExactSubtreeEstimates', WHERE WHAT IT READS IS OF BULK AT MOST 1048576: true; the input reads as it did. -/
def fnExactSubtreeEstimatesUptoRow : OpenClaim := { program := "ytkpliolafkdijaa", sum := "83708785eb2e4c457e3a7624f8dc476d49717520971f109fb9201d9f1574fba4", func := "loop.example/g00908/laws.FnExactSubtreeEstimates", spec := "fnExactSubtreeEstimates", apart := false, narrowed := true }
def FnExactSubtreeEstimatesUptoSaid : Prop := fnExactSubtreeEstimatesUptoRow.holds Try.pinned (OpenSpec.upto fnExactSubtreeEstimatesSpec)

/-- 'laws.FnExactWholeTree', WHERE WHAT IT READS IS OF BULK AT MOST 1048576: true; the input reads as it did. -/
def fnExactWholeTreeUptoRow : OpenClaim := { program := "ytkpliolafkdijaa", sum := "83708785eb2e4c457e3a7624f8dc476d49717520971f109fb9201d9f1574fba4", func := "loop.example/g00908/laws.FnExactWholeTree", spec := "fnExactWholeTree", apart := false, narrowed := true }
def FnExactWholeTreeUptoSaid : Prop := fnExactWholeTreeUptoRow.holds Try.pinned (OpenSpec.upto fnExactWholeTreeSpec)

/-- 'laws.FnExactConsistentEstimates', WHERE WHAT IT READS IS OF BULK AT MOST 1048576: true; the input reads as it did. -/
def fnExactConsistentEstimatesUptoRow : OpenClaim := { program := "ytkpliolafkdijaa", sum := "83708785eb2e4c457e3a7624f8dc476d49717520971f109fb9201d9f1574fba4", func := "loop.example/g00908/laws.FnExactConsistentEstimates", spec := "fnExactConsistentEstimates", apart := false, narrowed := true }
def FnExactConsistentEstimatesUptoSaid : Prop := fnExactConsistentEstimatesUptoRow.holds Try.pinned (OpenSpec.upto fnExactConsistentEstimatesSpec)

/-- 'laws.FnExactTopDown', WHERE WHAT IT READS IS OF BULK AT MOST 1048576: true; the input reads as it did. -/
def fnExactTopDownUptoRow : OpenClaim := { program := "ytkpliolafkdijaa", sum := "83708785eb2e4c457e3a7624f8dc476d49717520971f109fb9201d9f1574fba4", func := "loop.example/g00908/laws.FnExactTopDown", spec := "fnExactTopDown", apart := false, narrowed := true }
def FnExactTopDownUptoSaid : Prop := fnExactTopDownUptoRow.holds Try.pinned (OpenSpec.upto fnExactTopDownSpec)

/-- 'laws.FnAdjusted', WHERE WHAT IT READS IS OF BULK AT MOST 1048576: true; the input reads as it did. -/
def fnAdjustedUptoRow : OpenClaim := { program := "ytkpliolafkdijaa", sum := "83708785eb2e4c457e3a7624f8dc476d49717520971f109fb9201d9f1574fba4", func := "loop.example/g00908/laws.FnAdjusted", spec := "fnAdjusted", apart := false, narrowed := true }
def FnAdjustedUptoSaid : Prop := fnAdjustedUptoRow.holds Try.pinned (OpenSpec.upto fnAdjustedSpec)

/-- 'laws.FnWhole', WHERE WHAT IT READS IS OF BULK AT MOST 1048576: true; the input reads as it did. -/
def fnWholeUptoRow : OpenClaim := { program := "ytkpliolafkdijaa", sum := "83708785eb2e4c457e3a7624f8dc476d49717520971f109fb9201d9f1574fba4", func := "loop.example/g00908/laws.FnWhole", spec := "fnWhole", apart := false, narrowed := true }
def FnWholeUptoSaid : Prop := fnWholeUptoRow.holds Try.pinned (OpenSpec.upto fnWholeSpec)

/-- 'laws.FnConsistent', WHERE WHAT IT READS IS OF BULK AT MOST 1048576: true; the input reads as it did. -/
def fnConsistentUptoRow : OpenClaim := { program := "ytkpliolafkdijaa", sum := "83708785eb2e4c457e3a7624f8dc476d49717520971f109fb9201d9f1574fba4", func := "loop.example/g00908/laws.FnConsistent", spec := "fnConsistent", apart := false, narrowed := true }
def FnConsistentUptoSaid : Prop := fnConsistentUptoRow.holds Try.pinned (OpenSpec.upto fnConsistentSpec)

/-- 'laws.FnEstimates', WHERE WHAT IT READS IS OF BULK AT MOST 1048576: true; the input reads as it did. -/
def fnEstimatesUptoRow : OpenClaim := { program := "ytkpliolafkdijaa", sum := "83708785eb2e4c457e3a7624f8dc476d49717520971f109fb9201d9f1574fba4", func := "loop.example/g00908/laws.FnEstimates", spec := "fnEstimates", apart := false, narrowed := true }
def FnEstimatesUptoSaid : Prop := fnEstimatesUptoRow.holds Try.pinned (OpenSpec.upto fnEstimatesSpec)

/-- 'laws.FnMechanisms', WHERE WHAT IT READS IS OF BULK AT MOST 1048576: true; the input reads as it did. -/
def fnMechanismsUptoRow : OpenClaim := { program := "ytkpliolafkdijaa", sum := "83708785eb2e4c457e3a7624f8dc476d49717520971f109fb9201d9f1574fba4", func := "loop.example/g00908/laws.FnMechanisms", spec := "fnMechanisms", unfollowed := true, recurses := true, apart := false, narrowed := true }
def FnMechanismsUptoSaid : Prop := fnMechanismsUptoRow.holds Try.pinned (OpenSpec.upto fnMechanismsSpec)

/-- 'laws.FnNoisyMechanisms', WHERE WHAT IT READS IS OF BULK AT MOST 1048576: true; the input reads as it did. -/
def fnNoisyMechanismsUptoRow : OpenClaim := { program := "ytkpliolafkdijaa", sum := "83708785eb2e4c457e3a7624f8dc476d49717520971f109fb9201d9f1574fba4", func := "loop.example/g00908/laws.FnNoisyMechanisms", spec := "fnNoisyMechanisms", unfollowed := true, recurses := true, apart := false, narrowed := true }
def FnNoisyMechanismsUptoSaid : Prop := fnNoisyMechanismsUptoRow.holds Try.pinned (OpenSpec.upto fnNoisyMechanismsSpec)

end Rows
end Go.Proofs.Ytkpliolafkdijaa
