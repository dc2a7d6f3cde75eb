/- OplogAgrees: one closed fact of its row's. -/
import Derived.Test.YtekmkmidjoenoaaGreatDoorRows
import Derived.JoinedOf
namespace Go.Proofs.YtekmkmidjoenoaaGreatDoor
set_option maxRecDepth 100000 in
theorem oplogAgrees_inPlace : (Rows.oplogAgreesRow.inPlace == Program.inPlace Tryz.pinned.checked.prog 3) = true := by kernel_rfl
end Go.Proofs.YtekmkmidjoenoaaGreatDoor
