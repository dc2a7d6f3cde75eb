/-
  DERIVED. GIVEN WITH THE SEED: THE CARDS: each row of YtniamhbcmcgonaaGreatDoorRows.lean that lists a variable, with what it lists TIED to the program's text (the seventh form; the later family's looks); each row that meets fmt, with fmt's text TOLD by the authors' own Lean function (tested against real Go, not proved from fmt's source: count such statements apart). THE CARD IS WHAT COUNTS. Prove the row's statement (the work); the ties are given (YtniamhbcmcgonaaGreatDoorTie.lean); close each card by the builder's one call (the guide's Derived/Test/ToyasCard.lean, 'card_holds'). Laid BY PROGRAM, IN A SANDBOX (cutbox-door.mjs). By AI agents, Wed Nov 11 2026. No macro, syntax, notation, axiom, sorry.
-/
import Derived.Test.YtniamhbcmcgonaaGreatDoorRows
import GoSem.ClaimSeven
namespace Go.Proofs.YtniamhbcmcgonaaGreatDoor
namespace Rows

/-- THE TIED CARD OF 'primerlaw25.ReplicaDeaf'. -/
def replicaDeafCard : Claim7 := { stood := { row := replicaDeafRow, standIns := [], harness := (true, "3fa509304c3d123fc64cfa7b2926cd6df2e5c15a4569a417d754bacf3f1c874a"), looks := true }, kinds := [], alts := [], laidByText := true, laidKinds := [.data, .data, .data, .data], laidTests := true, laidLooks := .later }
def ReplicaDeafCardSaid : Prop := Claim7.holds Tryz.pinned (.plain (OpenSpec.ofChange replicaDeafSpec)) replicaDeafCard

/-- THE SECOND FORM's CARD OF 'primerlaw25.ReplicaDeaf'. -/
def replicaDeafUptoCard : Claim7 := { stood := { row := replicaDeafUptoRow, standIns := [], harness := (true, "3fa509304c3d123fc64cfa7b2926cd6df2e5c15a4569a417d754bacf3f1c874a"), looks := true }, kinds := [], alts := [], laidByText := true, laidKinds := [.data, .data, .data, .data], laidTests := true, laidLooks := .later }
def ReplicaDeafUptoCardSaid : Prop := Claim7.holds Tryz.pinned (.plain (OpenSpec.upto replicaDeafSpec)) replicaDeafUptoCard
end Rows
end Go.Proofs.YtniamhbcmcgonaaGreatDoor
