/- replicaDeaf: closed facts of its row's. -/
import Derived.Test.YtniamhbcmcgonaaGreatDoorRows
import Derived.JoinedOf
namespace Go.Proofs.YtniamhbcmcgonaaGreatDoor
set_option maxRecDepth 100000 in
theorem replicaDeaf_stops:(Tryz.pinned.checked.prog.stops==[])=true:=by kernel_rfl
set_option maxRecDepth 100000 in
theorem replicaDeaf_knobs:(Tryz.pinned.checked.prog.stopKnobs==[])=true:=by kernel_rfl
set_option maxRecDepth 100000 in
theorem replicaDeaf_heard:Tryz.pinned.checked.prog.stopsHeard=true:=by kernel_rfl
end Go.Proofs.YtniamhbcmcgonaaGreatDoor
