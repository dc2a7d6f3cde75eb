/- replicaDeaf: one closed fact of its row's. -/
import Derived.Test.YtniamhbcmcgonaaGreatDoorDq
import Derived.Test.YtniamhbcmcgonaaGreatDoorDs
namespace Go.Proofs.YtniamhbcmcgonaaGreatDoor
theorem replicaDeaf_named:(Rows.replicaDeafRow.named==Program.varsNamed Tryz.pinned.checked.prog 3)=true:=by
 have h:=eq_of_beq replicaDeaf_globB
 have h2:=replicaDeaf_entB
 unfold replicaDeaf_ents at h2
 unfold Program.varsNamed
 rw [replicaDeaf_clos,h]
 exact h2
end Go.Proofs.YtniamhbcmcgonaaGreatDoor
