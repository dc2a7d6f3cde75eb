/-
  DERIVED. GIVEN WITH THE SEED: THE CARDS: each row of YtekmkmidjoenoaaGreatDoorRows.lean that lists a variable, with what it lists TIED to the program's text (the seventh form; the later family's looks); each row that meets fmt, with fmt's text TOLD by the authors' own Lean function (tested against real Go, not proved from fmt's source: count such statements apart). THE CARD IS WHAT COUNTS. Prove the row's statement (the work); the ties are given (YtekmkmidjoenoaaGreatDoorTie.lean); close each card by the builder's one call (the guide's Derived/Test/ToyasCard.lean, 'card_holds'). Laid BY PROGRAM, IN A SANDBOX (cutbox-door.mjs). By AI agents, Wed Nov 11 2026. No macro, syntax, notation, axiom, sorry.
-/
import Derived.Test.YtekmkmidjoenoaaGreatDoorRows
import GoSem.ClaimSeven
namespace Go.Proofs.YtekmkmidjoenoaaGreatDoor
namespace Rows

/-- THE TIED CARD OF 'primerlaw24.OplogAgrees'. -/
def oplogAgreesCard : Claim7 := { stood := { row := oplogAgreesRow, standIns := [], harness := (true, "aea0b250bdc9ea5789316910ba8199b9c3acd48cea4a84f2e0345d1408f2430c"), looks := true }, kinds := [], alts := [], laidByText := true, laidKinds := [.data, .data, .data], laidTests := true, laidLooks := .later }
def OplogAgreesCardSaid : Prop := Claim7.holds Tryz.pinned (.plain (OpenSpec.ofChange oplogAgreesSpec)) oplogAgreesCard

/-- THE TIED CARD OF 'primerlaw22.SchoolNil'. -/
def schoolNilCard : Claim7 := { stood := { row := schoolNilRow, standIns := [], harness := (true, "aea0b250bdc9ea5789316910ba8199b9c3acd48cea4a84f2e0345d1408f2430c"), looks := true }, kinds := [], alts := [], laidByText := true, laidKinds := [.data, .data, .data], laidTests := true, laidLooks := .later }
def SchoolNilCardSaid : Prop := Claim7.holds Tryz.pinned (.plain (OpenSpec.ofChange schoolNilSpec)) schoolNilCard

/-- THE SECOND FORM's CARD OF 'primerlaw24.OplogAgrees'. -/
def oplogAgreesUptoCard : Claim7 := { stood := { row := oplogAgreesUptoRow, standIns := [], harness := (true, "aea0b250bdc9ea5789316910ba8199b9c3acd48cea4a84f2e0345d1408f2430c"), looks := true }, kinds := [], alts := [], laidByText := true, laidKinds := [.data, .data, .data], laidTests := true, laidLooks := .later }
def OplogAgreesUptoCardSaid : Prop := Claim7.holds Tryz.pinned (.plain (OpenSpec.upto oplogAgreesSpec)) oplogAgreesUptoCard

/-- THE SECOND FORM's CARD OF 'primerlaw22.SchoolNil'. -/
def schoolNilUptoCard : Claim7 := { stood := { row := schoolNilUptoRow, standIns := [], harness := (true, "aea0b250bdc9ea5789316910ba8199b9c3acd48cea4a84f2e0345d1408f2430c"), looks := true }, kinds := [], alts := [], laidByText := true, laidKinds := [.data, .data, .data], laidTests := true, laidLooks := .later }
def SchoolNilUptoCardSaid : Prop := Claim7.holds Tryz.pinned (.plain (OpenSpec.upto schoolNilSpec)) schoolNilUptoCard
end Rows
end Go.Proofs.YtekmkmidjoenoaaGreatDoor
