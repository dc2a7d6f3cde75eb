/- One closed fact of the cards': the program's looks. -/
import Derived.Test.YtcdcchkaohnkdaaGreatDoorRows
import Derived.SevenTiedAt
namespace Go.Proofs.YtcdcchkaohnkdaaGreatDoor
set_option maxRecDepth 100000 in
theorem facts_looks : true = Tryz.pinned.checked.prog.looks [] := by kernel_rfl
end Go.Proofs.YtcdcchkaohnkdaaGreatDoor
