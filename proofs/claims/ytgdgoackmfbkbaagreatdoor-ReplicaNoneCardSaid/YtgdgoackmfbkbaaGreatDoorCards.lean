/-
  DERIVED. GIVEN WITH THE SEED: THE CARDS: each row of YtgdgoackmfbkbaaGreatDoorRows.lean that lists a variable, with what it lists TIED to the program's text (the seventh form; the later family's looks); each row that meets fmt, with fmt's text TOLD by the authors' own Lean function (tested against real Go, not proved from fmt's source: count such statements apart). THE CARD IS WHAT COUNTS. Prove the row's statement (the work); the ties are given (YtgdgoackmfbkbaaGreatDoorTie.lean); close each card by the builder's one call (the guide's Derived/Test/ToyasCard.lean, 'card_holds'). Laid BY PROGRAM, IN A SANDBOX (cutbox-door.mjs). By AI agents, Wed Nov 11 2026. No macro, syntax, notation, axiom, sorry.
-/
import Derived.Test.YtgdgoackmfbkbaaGreatDoorRows
import GoSem.ClaimSeven
namespace Go.Proofs.YtgdgoackmfbkbaaGreatDoor
namespace Rows

/-- THE TIED CARD OF 'primerlaw25.ReplicaNone'. -/
def replicaNoneCard : Claim7 := { stood := { row := replicaNoneRow, standIns := [], harness := (true, "9443ed5aefae3e344453eaef729eea401e1c1871ef0d031957822ae2274ae3a3"), looks := true }, kinds := [], alts := [], laidByText := true, laidKinds := [.data, .data, .data, .data], laidTests := true, laidLooks := .later }
def ReplicaNoneCardSaid : Prop := Claim7.holds Tryz.pinned (.plain (OpenSpec.ofChange replicaNoneSpec)) replicaNoneCard

/-- THE SECOND FORM's CARD OF 'primerlaw25.ReplicaNone'. -/
def replicaNoneUptoCard : Claim7 := { stood := { row := replicaNoneUptoRow, standIns := [], harness := (true, "9443ed5aefae3e344453eaef729eea401e1c1871ef0d031957822ae2274ae3a3"), looks := true }, kinds := [], alts := [], laidByText := true, laidKinds := [.data, .data, .data, .data], laidTests := true, laidLooks := .later }
def ReplicaNoneUptoCardSaid : Prop := Claim7.holds Tryz.pinned (.plain (OpenSpec.upto replicaNoneSpec)) replicaNoneUptoCard
end Rows
end Go.Proofs.YtgdgoackmfbkbaaGreatDoor
