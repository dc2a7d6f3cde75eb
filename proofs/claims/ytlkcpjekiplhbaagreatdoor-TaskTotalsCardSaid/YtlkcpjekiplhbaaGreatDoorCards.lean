/-
  DERIVED. GIVEN WITH THE SEED: THE CARDS: each row of YtlkcpjekiplhbaaGreatDoorRows.lean that lists a variable, with what it lists TIED to the program's text (the seventh form; the later family's looks); each row that meets fmt, with fmt's text TOLD by the authors' own Lean function (tested against real Go, not proved from fmt's source: count such statements apart). THE CARD IS WHAT COUNTS. Prove the row's statement (the work); the ties are given (YtlkcpjekiplhbaaGreatDoorTie.lean); close each card by the builder's one call (the guide's Derived/Test/ToyasCard.lean, 'card_holds'). Laid BY PROGRAM, IN A SANDBOX (cutbox-door.mjs). By AI agents, Wed Nov 11 2026. No macro, syntax, notation, axiom, sorry.
-/
import Derived.Test.YtlkcpjekiplhbaaGreatDoorRows
import GoSem.ClaimSeven
namespace Go.Proofs.YtlkcpjekiplhbaaGreatDoor
namespace Rows

/-- THE TIED CARD OF 'primerlaw20.TaskTotals'. -/
def taskTotalsCard : Claim7 := { stood := { row := taskTotalsRow, standIns := [], harness := (true, "7bfebce68c5ead4e8b01171865a99b673b59b0908be9160c35d66e7c1e0b4c96"), looks := true }, kinds := [], alts := [], laidByText := true, laidKinds := [.data, .data, .data], laidTests := true, laidLooks := .later }
def TaskTotalsCardSaid : Prop := Claim7.holds Tryz.pinned (.plain (OpenSpec.ofChange taskTotalsSpec)) taskTotalsCard

/-- THE SECOND FORM's CARD OF 'primerlaw20.TaskTotals'. -/
def taskTotalsUptoCard : Claim7 := { stood := { row := taskTotalsUptoRow, standIns := [], harness := (true, "7bfebce68c5ead4e8b01171865a99b673b59b0908be9160c35d66e7c1e0b4c96"), looks := true }, kinds := [], alts := [], laidByText := true, laidKinds := [.data, .data, .data], laidTests := true, laidLooks := .later }
def TaskTotalsUptoCardSaid : Prop := Claim7.holds Tryz.pinned (.plain (OpenSpec.upto taskTotalsSpec)) taskTotalsUptoCard
end Rows
end Go.Proofs.YtlkcpjekiplhbaaGreatDoor
