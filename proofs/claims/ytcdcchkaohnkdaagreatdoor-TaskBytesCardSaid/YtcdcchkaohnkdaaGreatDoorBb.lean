/- TaskBytes: one closed fact of its row's. -/
import Derived.Test.YtcdcchkaohnkdaaGreatDoorRows
import Derived.JoinedOf
namespace Go.Proofs.YtcdcchkaohnkdaaGreatDoor
set_option maxRecDepth 100000 in
theorem taskBytes_unfollowed : (Rows.taskBytesRow.unfollowed == Program.unfollowed Tryz.pinned.checked.prog 3) = true := by kernel_rfl
end Go.Proofs.YtcdcchkaohnkdaaGreatDoor
