/- JudgeMany: one closed fact of its card's. -/
import Derived.Test.YtfjmpneipionmaaGreatDoorRows
import Derived.SevenTiedAt
namespace Go.Proofs.YtfjmpneipionmaaGreatDoor
set_option maxRecDepth 100000 in
theorem facts_looks : true = Tryz.pinned.checked.prog.looks [] := by kernel_rfl
end Go.Proofs.YtfjmpneipionmaaGreatDoor
