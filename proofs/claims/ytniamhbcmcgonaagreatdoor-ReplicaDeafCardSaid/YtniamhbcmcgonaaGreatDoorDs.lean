/- replicaDeaf: which variables are read behind a function without a body. -/
import Derived.Test.YtniamhbcmcgonaaGreatDoorDp
namespace Go.Proofs.YtniamhbcmcgonaaGreatDoor
noncomputable def replicaDeaf_ents:List String:=replicaDeaf_clo.filterMap fun g=>(Tryz.pinned.checked.prog.funcs[g]?).bind fun fn=>if fn.body.isNone then entryReads.lookup fn.name else none
set_option maxRecDepth 100000 in
theorem replicaDeaf_entB:(Rows.replicaDeafRow.named==((([0,3,4,5,2,2,2]:List Nat).eraseDups).filterMap (fun g=>Option.map (fun x:Global=>x.name) (Tryz.pinned.checked.prog.globals[g]?))++replicaDeaf_ents).eraseDups)=true:=by kernel_rfl
end Go.Proofs.YtniamhbcmcgonaaGreatDoor
