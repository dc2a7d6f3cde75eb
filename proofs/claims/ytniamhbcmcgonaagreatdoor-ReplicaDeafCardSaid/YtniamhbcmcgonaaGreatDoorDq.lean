/- replicaDeaf: which variables the text that it reaches names. -/
import Derived.Test.YtniamhbcmcgonaaGreatDoorDp
namespace Go.Proofs.YtniamhbcmcgonaaGreatDoor
set_option maxRecDepth 100000 in
theorem replicaDeaf_globB:((replicaDeaf_clo.flatMap fun g=>((Tryz.pinned.checked.prog.funcs[g]?).bind (·.body)).elim [] Code.globalsNamed)==[0,3,4,5,2,2,2])=true:=by kernel_rfl
end Go.Proofs.YtniamhbcmcgonaaGreatDoor
