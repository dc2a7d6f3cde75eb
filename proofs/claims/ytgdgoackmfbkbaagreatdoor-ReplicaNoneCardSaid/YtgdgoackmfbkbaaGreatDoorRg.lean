/- replicaNone: closed facts of its row's. -/
import Derived.Test.YtgdgoackmfbkbaaGreatDoorRows
import Derived.JoinedOf
namespace Go.Proofs.YtgdgoackmfbkbaaGreatDoor
set_option maxRecDepth 100000 in
theorem replicaNone_enter : Tryz.pinned.checked.prog.mayEnter = true := by kernel_rfl
set_option maxRecDepth 100000 in
theorem replicaNone_lifts : (Rows.replicaNoneRow.lifted == Tryz.pinned.checked.prog.liftsFinal) = true := by kernel_rfl
set_option maxRecDepth 100000 in
theorem replicaNone_keys : (Rows.replicaNoneRow.plainKeys == Tryz.pinned.checked.prog.plainKeys) = true := by kernel_rfl
end Go.Proofs.YtgdgoackmfbkbaaGreatDoor
