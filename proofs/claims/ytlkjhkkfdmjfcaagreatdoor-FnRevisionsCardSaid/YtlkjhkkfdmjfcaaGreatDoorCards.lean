/-
  DERIVED. GIVEN WITH THE SEED: THE CARDS: each row of YtlkjhkkfdmjfcaaGreatDoorRows.lean that lists a variable, with what it lists TIED to the program's text (the seventh form; the later family's looks); each row that meets fmt, with fmt's text TOLD by the authors' own Lean function (tested against real Go, not proved from fmt's source: count such statements apart). THE CARD IS WHAT COUNTS. Prove the row's statement (the work); the ties are given (YtlkjhkkfdmjfcaaGreatDoorTie.lean); close each card by the builder's one call (the guide's Derived/Test/ToyasCard.lean, 'card_holds'). Laid BY PROGRAM, IN A SANDBOX (cutbox-door.mjs). By AI agents, Wed Nov 11 2026. No macro, syntax, notation, axiom, sorry.
-/
import Derived.Test.YtlkjhkkfdmjfcaaGreatDoorRows
import GoSem.ClaimSeven
namespace Go.Proofs.YtlkjhkkfdmjfcaaGreatDoor
namespace Rows

/-- THE TIED CARD OF 'laws.FnExactHistoryText'. -/
def fnExactHistoryTextCard : Claim7 := { stood := { row := fnExactHistoryTextRow, standIns := [], harness := (true, "bf91cb0f0d770c3a499191be71decbcb381d662a72f85fa3f230ae2bc55b08b9"), looks := false }, kinds := [], alts := [], laidByText := true, laidKinds := [.data, .data, .data], laidTests := true, laidLooks := .later }
def FnExactHistoryTextCardSaid : Prop := Claim7.holds Tryz.pinned (.plain (OpenSpec.ofChange fnExactHistoryTextSpec)) fnExactHistoryTextCard

/-- THE TIED CARD OF 'laws.FnRevisions'. -/
def fnRevisionsCard : Claim7 := { stood := { row := fnRevisionsRow, standIns := [], harness := (true, "bf91cb0f0d770c3a499191be71decbcb381d662a72f85fa3f230ae2bc55b08b9"), looks := false }, kinds := [], alts := [], laidByText := true, laidKinds := [.data, .data, .data], laidTests := true, laidLooks := .later }
def FnRevisionsCardSaid : Prop := Claim7.holds Tryz.pinned (.plain (OpenSpec.ofChange fnRevisionsSpec)) fnRevisionsCard

/-- THE SECOND FORM's CARD OF 'laws.FnExactHistoryText'. -/
def fnExactHistoryTextUptoCard : Claim7 := { stood := { row := fnExactHistoryTextUptoRow, standIns := [], harness := (true, "bf91cb0f0d770c3a499191be71decbcb381d662a72f85fa3f230ae2bc55b08b9"), looks := false }, kinds := [], alts := [], laidByText := true, laidKinds := [.data, .data, .data], laidTests := true, laidLooks := .later }
def FnExactHistoryTextUptoCardSaid : Prop := Claim7.holds Tryz.pinned (.plain (OpenSpec.upto fnExactHistoryTextSpec)) fnExactHistoryTextUptoCard

/-- THE SECOND FORM's CARD OF 'laws.FnRevisions'. -/
def fnRevisionsUptoCard : Claim7 := { stood := { row := fnRevisionsUptoRow, standIns := [], harness := (true, "bf91cb0f0d770c3a499191be71decbcb381d662a72f85fa3f230ae2bc55b08b9"), looks := false }, kinds := [], alts := [], laidByText := true, laidKinds := [.data, .data, .data], laidTests := true, laidLooks := .later }
def FnRevisionsUptoCardSaid : Prop := Claim7.holds Tryz.pinned (.plain (OpenSpec.upto fnRevisionsSpec)) fnRevisionsUptoCard
end Rows
end Go.Proofs.YtlkjhkkfdmjfcaaGreatDoor
