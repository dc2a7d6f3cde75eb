/- replicaDeaf: closed facts of its row's. -/
import Derived.Test.YtniamhbcmcgonaaGreatDoorRows
import Derived.JoinedOf
namespace Go.Proofs.YtniamhbcmcgonaaGreatDoor
set_option maxRecDepth 100000 in
theorem replicaDeaf_enter:Tryz.pinned.checked.prog.mayEnter=true:=by kernel_rfl
set_option maxRecDepth 100000 in
theorem replicaDeaf_lifts:(Rows.replicaDeafRow.lifted==Tryz.pinned.checked.prog.liftsFinal)=true:=by kernel_rfl
set_option maxRecDepth 100000 in
theorem replicaDeaf_keys:(Rows.replicaDeafRow.plainKeys==Tryz.pinned.checked.prog.plainKeys)=true:=by kernel_rfl
end Go.Proofs.YtniamhbcmcgonaaGreatDoor
