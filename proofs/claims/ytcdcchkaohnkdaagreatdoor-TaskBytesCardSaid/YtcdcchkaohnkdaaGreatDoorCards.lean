/-
  DERIVED. GIVEN WITH THE SEED: THE CARDS: each row of YtcdcchkaohnkdaaGreatDoorRows.lean that lists a variable, with what it lists TIED to the program's text (the seventh form; the later family's looks); each row that meets fmt, with fmt's text TOLD by the authors' own Lean function (tested against real Go, not proved from fmt's source: count such statements apart). THE CARD IS WHAT COUNTS. Prove the row's statement (the work); the ties are given (YtcdcchkaohnkdaaGreatDoorTie.lean); close each card by the builder's one call (the guide's Derived/Test/ToyasCard.lean, 'card_holds'). Laid BY PROGRAM, IN A SANDBOX (cutbox-door.mjs). By AI agents, Wed Nov 11 2026. No macro, syntax, notation, axiom, sorry.
-/
import Derived.Test.YtcdcchkaohnkdaaGreatDoorRows
import GoSem.ClaimSeven
namespace Go.Proofs.YtcdcchkaohnkdaaGreatDoor
namespace Rows

/-- THE TIED CARD OF 'primerlaw20.TaskBytes'. -/
def taskBytesCard : Claim7 := { stood := { row := taskBytesRow, standIns := [], harness := (true, "a96bcf063ec7b28eb8b21e0d730c2bb7a1f38397f53345f1f595a76bddab0e74"), looks := true }, kinds := [], alts := [], laidByText := true, laidKinds := [.data, .data, .data], laidTests := true, laidLooks := .later }
def TaskBytesCardSaid : Prop := Claim7.holds Tryz.pinned (.plain (OpenSpec.ofChange taskBytesSpec)) taskBytesCard

/-- THE SECOND FORM's CARD OF 'primerlaw20.TaskBytes'. -/
def taskBytesUptoCard : Claim7 := { stood := { row := taskBytesUptoRow, standIns := [], harness := (true, "a96bcf063ec7b28eb8b21e0d730c2bb7a1f38397f53345f1f595a76bddab0e74"), looks := true }, kinds := [], alts := [], laidByText := true, laidKinds := [.data, .data, .data], laidTests := true, laidLooks := .later }
def TaskBytesUptoCardSaid : Prop := Claim7.holds Tryz.pinned (.plain (OpenSpec.upto taskBytesSpec)) taskBytesUptoCard
end Rows
end Go.Proofs.YtcdcchkaohnkdaaGreatDoor
