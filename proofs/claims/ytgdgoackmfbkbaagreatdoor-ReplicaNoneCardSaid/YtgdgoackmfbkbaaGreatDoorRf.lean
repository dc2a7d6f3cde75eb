/- replicaNone: closed facts of its row's. -/
import Derived.Test.YtgdgoackmfbkbaaGreatDoorRows
import Derived.JoinedOf
namespace Go.Proofs.YtgdgoackmfbkbaaGreatDoor
set_option maxRecDepth 100000 in
theorem replicaNone_stops : (Tryz.pinned.checked.prog.stops == []) = true := by kernel_rfl
set_option maxRecDepth 100000 in
theorem replicaNone_knobs : (Tryz.pinned.checked.prog.stopKnobs == []) = true := by kernel_rfl
set_option maxRecDepth 100000 in
theorem replicaNone_heard : Tryz.pinned.checked.prog.stopsHeard = true := by kernel_rfl
end Go.Proofs.YtgdgoackmfbkbaaGreatDoor
