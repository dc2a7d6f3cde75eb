/- ReplicaDeaf: one closed fact of its row's. -/
import Derived.Test.YtniamhbcmcgonaaGreatDoorRows
import Derived.JoinedOf
namespace Go.Proofs.YtniamhbcmcgonaaGreatDoor
set_option maxRecDepth 100000 in
theorem replicaDeaf_inPlace:(Rows.replicaDeafRow.inPlace==Program.inPlace Tryz.pinned.checked.prog 3)=true:=by kernel_rfl
end Go.Proofs.YtniamhbcmcgonaaGreatDoor
