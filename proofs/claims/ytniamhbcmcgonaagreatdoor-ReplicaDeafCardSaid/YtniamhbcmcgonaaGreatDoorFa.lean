/- One closed fact of the cards': the program's looks. -/
import Derived.Test.YtniamhbcmcgonaaGreatDoorRows
import Derived.SevenTiedAt
namespace Go.Proofs.YtniamhbcmcgonaaGreatDoor
set_option maxRecDepth 100000 in
theorem facts_looks:true=Tryz.pinned.checked.prog.looks []:=by kernel_rfl
end Go.Proofs.YtniamhbcmcgonaaGreatDoor
