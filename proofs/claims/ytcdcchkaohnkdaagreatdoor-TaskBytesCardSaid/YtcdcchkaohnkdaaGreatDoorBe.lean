/- TaskBytes: one closed fact of its card's. -/
import Derived.Test.YtcdcchkaohnkdaaGreatDoorRows
import Derived.SevenTiedAt
namespace Go.Proofs.YtcdcchkaohnkdaaGreatDoor
set_option maxRecDepth 100000 in
theorem taskBytes_wf : Rows.taskBytesRow.wfByText (OpenSpec.ofChange Rows.taskBytesSpec) = true := by kernel_rfl
end Go.Proofs.YtcdcchkaohnkdaaGreatDoor
