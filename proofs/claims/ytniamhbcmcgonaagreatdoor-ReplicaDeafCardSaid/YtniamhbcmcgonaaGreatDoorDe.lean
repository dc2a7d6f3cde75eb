/- ReplicaDeaf: one closed fact of its card's. -/
import Derived.Test.YtniamhbcmcgonaaGreatDoorRows
import Derived.SevenTiedAt
namespace Go.Proofs.YtniamhbcmcgonaaGreatDoor
set_option maxRecDepth 100000 in
theorem replicaDeaf_wf:Rows.replicaDeafRow.wfByText (OpenSpec.ofChange Rows.replicaDeafSpec)=true:=by kernel_rfl
end Go.Proofs.YtniamhbcmcgonaaGreatDoor
