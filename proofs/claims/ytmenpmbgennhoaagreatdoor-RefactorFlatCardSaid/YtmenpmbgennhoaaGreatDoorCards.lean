/-
  DERIVED. GIVEN WITH THE SEED: THE CARDS: each row of YtmenpmbgennhoaaGreatDoorRows.lean that lists a variable, with what it lists TIED to the program's text (the seventh form; the later family's looks); each row that meets fmt, with fmt's text TOLD by the authors' own Lean function (tested against real Go, not proved from fmt's source: count such statements apart). THE CARD IS WHAT COUNTS. Prove the row's statement (the work); the ties are given (YtmenpmbgennhoaaGreatDoorTie.lean); close each card by the builder's one call (the guide's Derived/Test/ToyasCard.lean, 'card_holds'). Laid BY PROGRAM, IN A SANDBOX (cutbox-door.mjs). By AI agents, Wed Nov 11 2026. No macro, syntax, notation, axiom, sorry.
-/
import Derived.Test.YtmenpmbgennhoaaGreatDoorRows
import GoSem.ClaimSeven
namespace Go.Proofs.YtmenpmbgennhoaaGreatDoor
namespace Rows

/-- THE TIED CARD OF 'primerlaw11.RefactorFlat'. -/
def refactorFlatCard : Claim7 := { stood := { row := refactorFlatRow, standIns := [], harness := (true, "d224e9c2ebfe095e900c692166a53542341d1b60ccc4ca24eed520191dc4e934"), looks := true }, kinds := [], alts := [], laidByText := true, laidKinds := [.data, .data, .data], laidTests := true, laidLooks := .later }
def RefactorFlatCardSaid : Prop := Claim7.holds Tryz.pinned (.plain (OpenSpec.ofChange refactorFlatSpec)) refactorFlatCard

/-- THE SECOND FORM's CARD OF 'primerlaw11.RefactorFlat'. -/
def refactorFlatUptoCard : Claim7 := { stood := { row := refactorFlatUptoRow, standIns := [], harness := (true, "d224e9c2ebfe095e900c692166a53542341d1b60ccc4ca24eed520191dc4e934"), looks := true }, kinds := [], alts := [], laidByText := true, laidKinds := [.data, .data, .data], laidTests := true, laidLooks := .later }
def RefactorFlatUptoCardSaid : Prop := Claim7.holds Tryz.pinned (.plain (OpenSpec.upto refactorFlatSpec)) refactorFlatUptoCard
end Rows
end Go.Proofs.YtmenpmbgennhoaaGreatDoor
