/- replicaNone: closed facts of its row's. -/
import Derived.Test.YtgdgoackmfbkbaaGreatDoorRows
import Derived.JoinedOf
namespace Go.Proofs.YtgdgoackmfbkbaaGreatDoor
set_option maxRecDepth 100000 in
theorem replicaNone_laidOut : laidOutB Tryz.pinned.checked.prog = true := by kernel_rfl
set_option maxRecDepth 100000 in
theorem replicaNone_rowed : mapsRowed Tryz.pinned.checked.prog = true := by kernel_rfl
end Go.Proofs.YtgdgoackmfbkbaaGreatDoor
