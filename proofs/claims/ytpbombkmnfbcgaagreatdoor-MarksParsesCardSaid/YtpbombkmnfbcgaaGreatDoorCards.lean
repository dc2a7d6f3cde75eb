/-
  DERIVED. GIVEN WITH THE SEED: THE CARDS: each row of YtpbombkmnfbcgaaGreatDoorRows.lean that lists a variable, with what it lists TIED to the program's text (the seventh form; the later family's looks); each row that meets fmt, with fmt's text TOLD by the authors' own Lean function (tested against real Go, not proved from fmt's source: count such statements apart). THE CARD IS WHAT COUNTS. Prove the row's statement (the work); the ties are given (YtpbombkmnfbcgaaGreatDoorTie.lean); close each card by the builder's one call (the guide's Derived/Test/ToyasCard.lean, 'card_holds'). Laid BY PROGRAM, IN A SANDBOX (cutbox-door.mjs). By AI agents, Wed Nov 11 2026. No macro, syntax, notation, axiom, sorry.
-/
import Derived.Test.YtpbombkmnfbcgaaGreatDoorRows
import GoSem.ClaimSeven
namespace Go.Proofs.YtpbombkmnfbcgaaGreatDoor
namespace Rows

/-- THE TIED CARD OF 'primerlaw02.MarksParses'. -/
def marksParsesCard : Claim7 := { stood := { row := marksParsesRow, standIns := [], harness := (true, "50ee2bb5e752977b00f5bd89f2e75ef2e89b59b3090d2cb67f021fb64df60db5"), looks := true }, kinds := [], alts := [], laidByText := true, laidKinds := [.data, .data, .widerDeep, .widerDeep, .data, .data, .data, .data, .data, .sentinel, .sentinel, .pinned, .pinned], laidTests := true, laidLooks := .later }
def MarksParsesCardSaid : Prop := Claim7.holds Tryz.pinned (.plain (OpenSpec.ofChange marksParsesSpec)) marksParsesCard

/-- THE SECOND FORM's CARD OF 'primerlaw02.MarksParses'. -/
def marksParsesUptoCard : Claim7 := { stood := { row := marksParsesUptoRow, standIns := [], harness := (true, "50ee2bb5e752977b00f5bd89f2e75ef2e89b59b3090d2cb67f021fb64df60db5"), looks := true }, kinds := [], alts := [], laidByText := true, laidKinds := [.data, .data, .widerDeep, .widerDeep, .data, .data, .data, .data, .data, .sentinel, .sentinel, .pinned, .pinned], laidTests := true, laidLooks := .later }
def MarksParsesUptoCardSaid : Prop := Claim7.holds Tryz.pinned (.plain (OpenSpec.upto marksParsesSpec)) marksParsesUptoCard
end Rows
end Go.Proofs.YtpbombkmnfbcgaaGreatDoor
