/- replicaDeaf: closed facts of its row's. -/
import Derived.Test.YtniamhbcmcgonaaGreatDoorRows
import Derived.JoinedOf
namespace Go.Proofs.YtniamhbcmcgonaaGreatDoor
set_option maxRecDepth 100000 in
theorem replicaDeaf_laidOut:laidOutB Tryz.pinned.checked.prog=true:=by kernel_rfl
set_option maxRecDepth 100000 in
theorem replicaDeaf_rowed:mapsRowed Tryz.pinned.checked.prog=true:=by kernel_rfl
end Go.Proofs.YtniamhbcmcgonaaGreatDoor
