/- ReplicaNone: one closed fact of its card's. -/
import Derived.Test.YtgdgoackmfbkbaaGreatDoorRows
import Derived.SevenTiedAt
namespace Go.Proofs.YtgdgoackmfbkbaaGreatDoor
set_option maxRecDepth 100000 in
theorem replicaNone_wf : Rows.replicaNoneRow.wfByText (OpenSpec.ofChange Rows.replicaNoneSpec) = true := by kernel_rfl
end Go.Proofs.YtgdgoackmfbkbaaGreatDoor
