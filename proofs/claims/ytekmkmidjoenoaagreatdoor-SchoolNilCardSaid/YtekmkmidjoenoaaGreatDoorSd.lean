/- SchoolNil: one closed fact of its row's. -/
import Derived.Test.YtekmkmidjoenoaaGreatDoorRows
import Derived.JoinedOf
namespace Go.Proofs.YtekmkmidjoenoaaGreatDoor
set_option maxRecDepth 100000 in
theorem schoolNil_named : (Rows.schoolNilRow.named == Program.varsNamed Tryz.pinned.checked.prog 4) = true := by kernel_rfl
end Go.Proofs.YtekmkmidjoenoaaGreatDoor
