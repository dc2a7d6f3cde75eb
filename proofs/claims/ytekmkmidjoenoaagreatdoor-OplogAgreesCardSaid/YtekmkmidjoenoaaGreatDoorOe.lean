/- OplogAgrees: one closed fact of its card's. -/
import Derived.Test.YtekmkmidjoenoaaGreatDoorRows
import Derived.SevenTiedAt
namespace Go.Proofs.YtekmkmidjoenoaaGreatDoor
set_option maxRecDepth 100000 in
theorem oplogAgrees_wf : Rows.oplogAgreesRow.wfByText (OpenSpec.ofChange Rows.oplogAgreesSpec) = true := by kernel_rfl
end Go.Proofs.YtekmkmidjoenoaaGreatDoor
