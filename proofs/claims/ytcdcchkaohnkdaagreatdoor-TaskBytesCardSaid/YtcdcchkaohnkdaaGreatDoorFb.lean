/- One closed fact of the cards': the program's harness. -/
import Derived.Test.YtcdcchkaohnkdaaGreatDoorRows
import Derived.SevenTiedAt
namespace Go.Proofs.YtcdcchkaohnkdaaGreatDoor
set_option maxRecDepth 100000 in
theorem facts_main : Tryz.pinned.checked.prog.mainIs = some (true, "a96bcf063ec7b28eb8b21e0d730c2bb7a1f38397f53345f1f595a76bddab0e74".toList) := by kernel_rfl
end Go.Proofs.YtcdcchkaohnkdaaGreatDoor
