/-
  DERIVED. GIVEN WITH THE SEED: THE CARDS: each row of YthhmimlfiaboeaaGreatDoorRows.lean that lists a variable, with what it lists TIED to the program's text (the seventh form; the later family's looks); each row that meets fmt, with fmt's text TOLD by the authors' own Lean function (tested against real Go, not proved from fmt's source: count such statements apart). THE CARD IS WHAT COUNTS. Prove the row's statement (the work); the ties are given (YthhmimlfiaboeaaGreatDoorTie.lean); close each card by the builder's one call (the guide's Derived/Test/ToyasCard.lean, 'card_holds'). Laid BY PROGRAM, IN A SANDBOX (cutbox-door.mjs). By AI agents, Wed Nov 11 2026. No macro, syntax, notation, axiom, sorry.
-/
import Derived.Test.YthhmimlfiaboeaaGreatDoorRows
import GoSem.ClaimSeven
namespace Go.Proofs.YthhmimlfiaboeaaGreatDoor
namespace Rows

/-- THE TIED CARD OF 'primerlaw02.MarksShows'. -/
def marksShowsCard : Claim7 := { stood := { row := marksShowsRow, standIns := [], harness := (true, "e9b09add0fea64547a42993e03f8a5750fc475fc2f6a4d6565ade89d8dd65e1e"), looks := true }, kinds := [], alts := [], laidByText := true, laidKinds := [.data, .data, .widerDeep, .widerDeep, .data, .data, .data, .data, .data, .sentinel, .sentinel, .pinned, .pinned], laidTests := true, laidLooks := .later }
def MarksShowsCardSaid : Prop := Claim7.holds Tryz.pinned (.plain (OpenSpec.ofChange marksShowsSpec)) marksShowsCard

/-- THE SECOND FORM's CARD OF 'primerlaw02.MarksShows'. -/
def marksShowsUptoCard : Claim7 := { stood := { row := marksShowsUptoRow, standIns := [], harness := (true, "e9b09add0fea64547a42993e03f8a5750fc475fc2f6a4d6565ade89d8dd65e1e"), looks := true }, kinds := [], alts := [], laidByText := true, laidKinds := [.data, .data, .widerDeep, .widerDeep, .data, .data, .data, .data, .data, .sentinel, .sentinel, .pinned, .pinned], laidTests := true, laidLooks := .later }
def MarksShowsUptoCardSaid : Prop := Claim7.holds Tryz.pinned (.plain (OpenSpec.upto marksShowsSpec)) marksShowsUptoCard
end Rows
end Go.Proofs.YthhmimlfiaboeaaGreatDoor
