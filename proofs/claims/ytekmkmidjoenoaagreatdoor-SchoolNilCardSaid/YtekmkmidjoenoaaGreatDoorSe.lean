/- SchoolNil: one closed fact of its card's. -/
import Derived.Test.YtekmkmidjoenoaaGreatDoorRows
import Derived.SevenTiedAt
namespace Go.Proofs.YtekmkmidjoenoaaGreatDoor
set_option maxRecDepth 100000 in
theorem schoolNil_wf : Rows.schoolNilRow.wfByText (OpenSpec.ofChange Rows.schoolNilSpec) = true := by kernel_rfl
end Go.Proofs.YtekmkmidjoenoaaGreatDoor
