/-
  No cell of these rows narrows 'for every input' (looked for: loops, veiled, ifaces, maps, wideKeys, modest, calm, conditions, laid).
  DERIVED. THE GIVEN ROWS OF THIS SEAT. 9 by the template 'for every input the law returns true; each argument reads behind the call as it read before'; 0 by the template 'total and deterministic' (their statements: YtnopedjgagoahaaTotals.lean).
  GIVEN WITH THE SEED: the statements are not yours to turn. If you find one false, say at which input.
  Laid BY PROGRAM, IN A SANDBOX (cutbox-rows.mjs): the forced cells as the released guide's own fill.sh prints them over the translation 3f0d878271e50eb6… (all of the seat's roots in one cut). By AI agents, Wed Nov 11 2026. No macro, syntax, notation, axiom, sorry.
-/
import Derived.Test.YtnopedjgagoahaaChecked
import GoSem.Claim
import GoSem.ClaimJoined
import GoSem.ClaimMapViews
import Derived.JoinedTies
import Derived.KernelRfl
namespace Go.Proofs.Ytnopedjgagoahaa
/- THE CELL 'sum', in the pinned program and in every row, IS THE sha256 OF THE DUMP (.gsa) THAT YtnopedjgagoahaaProg.lean LOADS. Nothing in Lean hashes anything: it is a label: what it is worth is what the hold of that sum in a sandbox is worth. -/
noncomputable def Try.pinned : Pinned := { name := "ytnopedjgagoahaa", sum := "3f0d878271e50eb6e318aca2b78f9df0faf149d15afea7cc55704da000a8448c", checked := Try.checked }
namespace Rows
def none {H : Type} : Left H := { results := [], args := [] }

/-- 'laws.FnMechanisms': WHATEVER THE INPUT: true; the input reads as it did. -/
def fnMechanismsSpec : ChangeSpec := { name := "fnMechanisms", fn := fun _ => fun
  | [d1, d2] => { results := [.lit (.bool true)], args := [d1, d2] }
  | _ => none }
def fnMechanismsRow : OpenClaim := { program := "ytnopedjgagoahaa", sum := "3f0d878271e50eb6e318aca2b78f9df0faf149d15afea7cc55704da000a8448c", func := "loop.example/g00908/laws.FnMechanisms", spec := "fnMechanisms", unfollowed := true, recurses := true, apart := false }
def FnMechanismsSaid : Prop := fnMechanismsRow.holds Try.pinned (OpenSpec.ofChange fnMechanismsSpec)

/-- ITS FALSE NEIGHBOUR: 'it returns false'. Refute it at one input. -/
def fnMechanismsWrong : ChangeSpec := { name := "fnMechanisms", fn := fun _ => fun
  | [d1, d2] => { results := [.lit (.bool false)], args := [d1, d2] }
  | _ => none }
def FnMechanismsWrongFalsely : Prop := fnMechanismsRow.holds Try.pinned (OpenSpec.ofChange fnMechanismsWrong)

/-- 'laws.FnGuesses': WHATEVER THE INPUT: true; the input reads as it did. -/
def fnGuessesSpec : ChangeSpec := { name := "fnGuesses", fn := fun _ => fun
  | [d1, d2] => { results := [.lit (.bool true)], args := [d1, d2] }
  | _ => none }
def fnGuessesRow : OpenClaim := { program := "ytnopedjgagoahaa", sum := "3f0d878271e50eb6e318aca2b78f9df0faf149d15afea7cc55704da000a8448c", func := "loop.example/g00908/laws.FnGuesses", spec := "fnGuesses", unfollowed := true, recurses := true, apart := false }
def FnGuessesSaid : Prop := fnGuessesRow.holds Try.pinned (OpenSpec.ofChange fnGuessesSpec)

/-- ITS FALSE NEIGHBOUR: 'it returns false'. Refute it at one input. -/
def fnGuessesWrong : ChangeSpec := { name := "fnGuesses", fn := fun _ => fun
  | [d1, d2] => { results := [.lit (.bool false)], args := [d1, d2] }
  | _ => none }
def FnGuessesWrongFalsely : Prop := fnGuessesRow.holds Try.pinned (OpenSpec.ofChange fnGuessesWrong)

/-- 'laws.FnTopDown': WHATEVER THE INPUT: true; the input reads as it did. -/
def fnTopDownSpec : ChangeSpec := { name := "fnTopDown", fn := fun _ => fun
  | [d1, d2] => { results := [.lit (.bool true)], args := [d1, d2] }
  | _ => none }
def fnTopDownRow : OpenClaim := { program := "ytnopedjgagoahaa", sum := "3f0d878271e50eb6e318aca2b78f9df0faf149d15afea7cc55704da000a8448c", func := "loop.example/g00908/laws.FnTopDown", spec := "fnTopDown", apart := false }
def FnTopDownSaid : Prop := fnTopDownRow.holds Try.pinned (OpenSpec.ofChange fnTopDownSpec)

/-- ITS FALSE NEIGHBOUR: 'it returns false'. Refute it at one input. -/
def fnTopDownWrong : ChangeSpec := { name := "fnTopDown", fn := fun _ => fun
  | [d1, d2] => { results := [.lit (.bool false)], args := [d1, d2] }
  | _ => none }
def FnTopDownWrongFalsely : Prop := fnTopDownRow.holds Try.pinned (OpenSpec.ofChange fnTopDownWrong)

/-- 'laws.FnExactHideCells': WHATEVER THE INPUT: true; the input reads as it did. -/
def fnExactHideCellsSpec : ChangeSpec := { name := "fnExactHideCells", fn := fun _ => fun
  | [d1, d2] => { results := [.lit (.bool true)], args := [d1, d2] }
  | _ => none }
def fnExactHideCellsRow : OpenClaim := { program := "ytnopedjgagoahaa", sum := "3f0d878271e50eb6e318aca2b78f9df0faf149d15afea7cc55704da000a8448c", func := "loop.example/g00908/laws.FnExactHideCells", spec := "fnExactHideCells", apart := false }
def FnExactHideCellsSaid : Prop := fnExactHideCellsRow.holds Try.pinned (OpenSpec.ofChange fnExactHideCellsSpec)

/-- ITS FALSE NEIGHBOUR: 'it returns false'. Refute it at one input. -/
def fnExactHideCellsWrong : ChangeSpec := { name := "fnExactHideCells", fn := fun _ => fun
  | [d1, d2] => { results := [.lit (.bool false)], args := [d1, d2] }
  | _ => none }
def FnExactHideCellsWrongFalsely : Prop := fnExactHideCellsRow.holds Try.pinned (OpenSpec.ofChange fnExactHideCellsWrong)

/-- 'laws.FnExactTypeAt': WHATEVER THE INPUT: true; the input reads as it did. -/
def fnExactTypeAtSpec : ChangeSpec := { name := "fnExactTypeAt", fn := fun _ => fun
  | [d1, d2, d3] => { results := [.lit (.bool true)], args := [d1, d2, d3] }
  | _ => none }
def fnExactTypeAtRow : OpenClaim := { program := "ytnopedjgagoahaa", sum := "3f0d878271e50eb6e318aca2b78f9df0faf149d15afea7cc55704da000a8448c", func := "loop.example/g00908/laws.FnExactTypeAt", spec := "fnExactTypeAt", apart := false }
def FnExactTypeAtSaid : Prop := fnExactTypeAtRow.holds Try.pinned (OpenSpec.ofChange fnExactTypeAtSpec)

/-- ITS FALSE NEIGHBOUR: 'it returns false'. Refute it at one input. -/
def fnExactTypeAtWrong : ChangeSpec := { name := "fnExactTypeAt", fn := fun _ => fun
  | [d1, d2, d3] => { results := [.lit (.bool false)], args := [d1, d2, d3] }
  | _ => none }
def FnExactTypeAtWrongFalsely : Prop := fnExactTypeAtRow.holds Try.pinned (OpenSpec.ofChange fnExactTypeAtWrong)

/-- 'laws.FnExactLeastClass': WHATEVER THE INPUT: true; the input reads as it did. -/
def fnExactLeastClassSpec : ChangeSpec := { name := "fnExactLeastClass", fn := fun _ => fun
  | [d1, d2, d3] => { results := [.lit (.bool true)], args := [d1, d2, d3] }
  | _ => none }
def fnExactLeastClassRow : OpenClaim := { program := "ytnopedjgagoahaa", sum := "3f0d878271e50eb6e318aca2b78f9df0faf149d15afea7cc55704da000a8448c", func := "loop.example/g00908/laws.FnExactLeastClass", spec := "fnExactLeastClass", apart := false }
def FnExactLeastClassSaid : Prop := fnExactLeastClassRow.holds Try.pinned (OpenSpec.ofChange fnExactLeastClassSpec)

/-- ITS FALSE NEIGHBOUR: 'it returns false'. Refute it at one input. -/
def fnExactLeastClassWrong : ChangeSpec := { name := "fnExactLeastClass", fn := fun _ => fun
  | [d1, d2, d3] => { results := [.lit (.bool false)], args := [d1, d2, d3] }
  | _ => none }
def FnExactLeastClassWrongFalsely : Prop := fnExactLeastClassRow.holds Try.pinned (OpenSpec.ofChange fnExactLeastClassWrong)

/-- 'laws.FnExactTypeCounts': WHATEVER THE INPUT: true; the input reads as it did. -/
def fnExactTypeCountsSpec : ChangeSpec := { name := "fnExactTypeCounts", fn := fun _ => fun
  | [d1, d2, d3] => { results := [.lit (.bool true)], args := [d1, d2, d3] }
  | _ => none }
def fnExactTypeCountsRow : OpenClaim := { program := "ytnopedjgagoahaa", sum := "3f0d878271e50eb6e318aca2b78f9df0faf149d15afea7cc55704da000a8448c", func := "loop.example/g00908/laws.FnExactTypeCounts", spec := "fnExactTypeCounts", apart := false }
def FnExactTypeCountsSaid : Prop := fnExactTypeCountsRow.holds Try.pinned (OpenSpec.ofChange fnExactTypeCountsSpec)

/-- ITS FALSE NEIGHBOUR: 'it returns false'. Refute it at one input. -/
def fnExactTypeCountsWrong : ChangeSpec := { name := "fnExactTypeCounts", fn := fun _ => fun
  | [d1, d2, d3] => { results := [.lit (.bool false)], args := [d1, d2, d3] }
  | _ => none }
def FnExactTypeCountsWrongFalsely : Prop := fnExactTypeCountsRow.holds Try.pinned (OpenSpec.ofChange fnExactTypeCountsWrong)

/-- 'laws.FnRemainders': WHATEVER THE INPUT: true; the input reads as it did. -/
def fnRemaindersSpec : ChangeSpec := { name := "fnRemainders", fn := fun _ => fun
  | [d1, d2] => { results := [.lit (.bool true)], args := [d1, d2] }
  | _ => none }
def fnRemaindersRow : OpenClaim := { program := "ytnopedjgagoahaa", sum := "3f0d878271e50eb6e318aca2b78f9df0faf149d15afea7cc55704da000a8448c", func := "loop.example/g00908/laws.FnRemainders", spec := "fnRemainders", unfollowed := true, recurses := true, apart := false }
def FnRemaindersSaid : Prop := fnRemaindersRow.holds Try.pinned (OpenSpec.ofChange fnRemaindersSpec)

/-- ITS FALSE NEIGHBOUR: 'it returns false'. Refute it at one input. -/
def fnRemaindersWrong : ChangeSpec := { name := "fnRemainders", fn := fun _ => fun
  | [d1, d2] => { results := [.lit (.bool false)], args := [d1, d2] }
  | _ => none }
def FnRemaindersWrongFalsely : Prop := fnRemaindersRow.holds Try.pinned (OpenSpec.ofChange fnRemaindersWrong)

/-- 'laws.FnExactLargestRemainders': WHATEVER THE INPUT: true; the input reads as it did. -/
def fnExactLargestRemaindersSpec : ChangeSpec := { name := "fnExactLargestRemainders", fn := fun _ => fun
  | [d1, d2] => { results := [.lit (.bool true)], args := [d1, d2] }
  | _ => none }
def fnExactLargestRemaindersRow : OpenClaim := { program := "ytnopedjgagoahaa", sum := "3f0d878271e50eb6e318aca2b78f9df0faf149d15afea7cc55704da000a8448c", func := "loop.example/g00908/laws.FnExactLargestRemainders", spec := "fnExactLargestRemainders", unfollowed := true, recurses := true, apart := false }
def FnExactLargestRemaindersSaid : Prop := fnExactLargestRemaindersRow.holds Try.pinned (OpenSpec.ofChange fnExactLargestRemaindersSpec)

/-- ITS FALSE NEIGHBOUR: 'it returns false'. Refute it at one input. -/
def fnExactLargestRemaindersWrong : ChangeSpec := { name := "fnExactLargestRemainders", fn := fun _ => fun
  | [d1, d2] => { results := [.lit (.bool false)], args := [d1, d2] }
  | _ => none }
def FnExactLargestRemaindersWrongFalsely : Prop := fnExactLargestRemaindersRow.holds Try.pinned (OpenSpec.ofChange fnExactLargestRemaindersWrong)

/- THE SECOND FORM. 'bulk': how many values and letters a reading holds, each counted each time it is reached (what is shared counts as often as it is met; a slice's spare places count too). A statement '..UptoSaid' is the law's where the arguments, and the package variables that the reading takes, are together of bulk at most 1048576: NARROWER than '..Said'. Prove '..Said' where nothing that the law and all that it calls make is longer than what came in: it says more and counts as full. Else prove '..UptoSaid'. A law counts once. -/
mutual
def uptoBulk {H : Type} : DataW H → Nat
  | .lit (.string bytes) => bytes.length + 1
  | .lit _ => 1
  | .nil => 1
  | .ptr d => uptoBulk d + 1
  | .slice elems spare => uptoBulkAll elems + uptoBulkAll spare + 1
  | .agg parts => uptoBulkAll parts + 1
  | .iface _ d => uptoBulk d + 1
  | .map entries => uptoBulkEntries entries + 1
  | .held _ => 1
def uptoBulkAll {H : Type} : List (DataW H) → Nat
  | [] => 0
  | d :: r => uptoBulk d + uptoBulkAll r
def uptoBulkEntries {H : Type} : List (Lit × DataW H) → Nat
  | [] => 0
  | x :: r => uptoBulkEntry x + uptoBulkEntries r
def uptoBulkEntry {H : Type} : Lit × DataW H → Nat
  | (.string bytes, d) => bytes.length + uptoBulk d + 1
  | (_, d) => uptoBulk d + 1
 end
def uptoSmall : (H : Type) → List (DataW H) → Bool := fun _ ds => decide (uptoBulkAll ds ≤ 1048576)
def OpenSpec.upto (s : _root_.Go.ChangeSpec) : _root_.Go.OpenSpec := { _root_.Go.OpenSpec.ofChange s with cond := some uptoSmall }

/-- 'laws.FnMechanisms', WHERE WHAT IT READS IS OF BULK AT MOST 1048576: true; the input reads as it did. -/
def fnMechanismsUptoRow : OpenClaim := { program := "ytnopedjgagoahaa", sum := "3f0d878271e50eb6e318aca2b78f9df0faf149d15afea7cc55704da000a8448c", func := "loop.example/g00908/laws.FnMechanisms", spec := "fnMechanisms", unfollowed := true, recurses := true, apart := false, narrowed := true }
def FnMechanismsUptoSaid : Prop := fnMechanismsUptoRow.holds Try.pinned (OpenSpec.upto fnMechanismsSpec)

/-- 'laws.FnGuesses', WHERE WHAT IT READS IS OF BULK AT MOST 1048576: true; the input reads as it did. -/
def fnGuessesUptoRow : OpenClaim := { program := "ytnopedjgagoahaa", sum := "3f0d878271e50eb6e318aca2b78f9df0faf149d15afea7cc55704da000a8448c", func := "loop.example/g00908/laws.FnGuesses", spec := "fnGuesses", unfollowed := true, recurses := true, apart := false, narrowed := true }
def FnGuessesUptoSaid : Prop := fnGuessesUptoRow.holds Try.pinned (OpenSpec.upto fnGuessesSpec)

/-- 'laws.FnTopDown', WHERE WHAT IT READS IS OF BULK AT MOST 1048576: true; the input reads as it did. -/
def fnTopDownUptoRow : OpenClaim := { program := "ytnopedjgagoahaa", sum := "3f0d878271e50eb6e318aca2b78f9df0faf149d15afea7cc55704da000a8448c", func := "loop.example/g00908/laws.FnTopDown", spec := "fnTopDown", apart := false, narrowed := true }
def FnTopDownUptoSaid : Prop := fnTopDownUptoRow.holds Try.pinned (OpenSpec.upto fnTopDownSpec)

/-- 'laws.FnExactHideCells', WHERE WHAT IT READS IS OF BULK AT MOST 1048576: true; the input reads as it did. -/
def fnExactHideCellsUptoRow : OpenClaim := { program := "ytnopedjgagoahaa", sum := "3f0d878271e50eb6e318aca2b78f9df0faf149d15afea7cc55704da000a8448c", func := "loop.example/g00908/laws.FnExactHideCells", spec := "fnExactHideCells", apart := false, narrowed := true }
def FnExactHideCellsUptoSaid : Prop := fnExactHideCellsUptoRow.holds Try.pinned (OpenSpec.upto fnExactHideCellsSpec)

/-- 'laws.FnExactTypeAt', WHERE WHAT IT READS IS OF BULK AT MOST 1048576: true; the input reads as it did. -/
def fnExactTypeAtUptoRow : OpenClaim := { program := "ytnopedjgagoahaa", sum := "3f0d878271e50eb6e318aca2b78f9df0faf149d15afea7cc55704da000a8448c", func := "loop.example/g00908/laws.FnExactTypeAt", spec := "fnExactTypeAt", apart := false, narrowed := true }
def FnExactTypeAtUptoSaid : Prop := fnExactTypeAtUptoRow.holds Try.pinned (OpenSpec.upto fnExactTypeAtSpec)

/-- 'laws.FnExactLeastClass', WHERE WHAT IT READS IS OF BULK AT MOST 1048576: true; the input reads as it did. -/
def fnExactLeastClassUptoRow : OpenClaim := { program := "ytnopedjgagoahaa", sum := "3f0d878271e50eb6e318aca2b78f9df0faf149d15afea7cc55704da000a8448c", func := "loop.example/g00908/laws.FnExactLeastClass", spec := "fnExactLeastClass", apart := false, narrowed := true }
def FnExactLeastClassUptoSaid : Prop := fnExactLeastClassUptoRow.holds Try.pinned (OpenSpec.upto fnExactLeastClassSpec)

/-- 'laws.FnExactTypeCounts', WHERE WHAT IT READS IS OF BULK AT MOST 1048576: true; the input reads as it did. -/
def fnExactTypeCountsUptoRow : OpenClaim := { program := "ytnopedjgagoahaa", sum := "3f0d878271e50eb6e318aca2b78f9df0faf149d15afea7cc55704da000a8448c", func := "loop.example/g00908/laws.FnExactTypeCounts", spec := "fnExactTypeCounts", apart := false, narrowed := true }
def FnExactTypeCountsUptoSaid : Prop := fnExactTypeCountsUptoRow.holds Try.pinned (OpenSpec.upto fnExactTypeCountsSpec)

/-- 'laws.FnRemainders', WHERE WHAT IT READS IS OF BULK AT MOST 1048576: true; the input reads as it did. -/
def fnRemaindersUptoRow : OpenClaim := { program := "ytnopedjgagoahaa", sum := "3f0d878271e50eb6e318aca2b78f9df0faf149d15afea7cc55704da000a8448c", func := "loop.example/g00908/laws.FnRemainders", spec := "fnRemainders", unfollowed := true, recurses := true, apart := false, narrowed := true }
def FnRemaindersUptoSaid : Prop := fnRemaindersUptoRow.holds Try.pinned (OpenSpec.upto fnRemaindersSpec)

/-- 'laws.FnExactLargestRemainders', WHERE WHAT IT READS IS OF BULK AT MOST 1048576: true; the input reads as it did. -/
def fnExactLargestRemaindersUptoRow : OpenClaim := { program := "ytnopedjgagoahaa", sum := "3f0d878271e50eb6e318aca2b78f9df0faf149d15afea7cc55704da000a8448c", func := "loop.example/g00908/laws.FnExactLargestRemainders", spec := "fnExactLargestRemainders", unfollowed := true, recurses := true, apart := false, narrowed := true }
def FnExactLargestRemaindersUptoSaid : Prop := fnExactLargestRemaindersUptoRow.holds Try.pinned (OpenSpec.upto fnExactLargestRemaindersSpec)

end Rows
end Go.Proofs.Ytnopedjgagoahaa
