/- JudgeMany: one closed fact of its row's. -/
import Derived.Test.YtfjmpneipionmaaGreatDoorRows
import Derived.JoinedOf
namespace Go.Proofs.YtfjmpneipionmaaGreatDoor
set_option maxRecDepth 100000 in
theorem facts_recurses : (Rows.judgeManyRow.recurses == Program.recurses Tryz.pinned.checked.prog 3) = true := by kernel_rfl
end Go.Proofs.YtfjmpneipionmaaGreatDoor
