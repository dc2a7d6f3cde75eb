/- One closed fact of the cards': the program's harness. -/
import Derived.Test.YtgdgoackmfbkbaaGreatDoorRows
import Derived.SevenTiedAt
namespace Go.Proofs.YtgdgoackmfbkbaaGreatDoor
set_option maxRecDepth 100000 in
theorem facts_main : Tryz.pinned.checked.prog.mainIs = some (true, "9443ed5aefae3e344453eaef729eea401e1c1871ef0d031957822ae2274ae3a3".toList) := by kernel_rfl
end Go.Proofs.YtgdgoackmfbkbaaGreatDoor
