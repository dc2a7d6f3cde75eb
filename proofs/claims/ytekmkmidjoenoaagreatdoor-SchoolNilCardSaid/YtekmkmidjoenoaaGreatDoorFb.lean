/- One closed fact of the cards': the program's harness. -/
import Derived.Test.YtekmkmidjoenoaaGreatDoorRows
import Derived.SevenTiedAt
namespace Go.Proofs.YtekmkmidjoenoaaGreatDoor
set_option maxRecDepth 100000 in
theorem facts_main : Tryz.pinned.checked.prog.mainIs = some (true, "aea0b250bdc9ea5789316910ba8199b9c3acd48cea4a84f2e0345d1408f2430c".toList) := by kernel_rfl
end Go.Proofs.YtekmkmidjoenoaaGreatDoor
