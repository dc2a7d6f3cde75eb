/- ReplicaNone: one closed fact of its row's. -/
import Derived.Test.YtgdgoackmfbkbaaGreatDoorRows
import Derived.JoinedOf
namespace Go.Proofs.YtgdgoackmfbkbaaGreatDoor
set_option maxRecDepth 100000 in
theorem replicaNone_recurses : (Rows.replicaNoneRow.recurses == Program.recurses Tryz.pinned.checked.prog 3) = true := by kernel_rfl
end Go.Proofs.YtgdgoackmfbkbaaGreatDoor
