/- TaskTotals: one closed fact of its row's. -/
import Derived.Test.YtlkcpjekiplhbaaGreatDoorRows
import Derived.JoinedOf
namespace Go.Proofs.YtlkcpjekiplhbaaGreatDoor
set_option maxRecDepth 100000 in
theorem taskTotals_unfollowed : (Rows.taskTotalsRow.unfollowed == Program.unfollowed Tryz.pinned.checked.prog 3) = true := by kernel_rfl
end Go.Proofs.YtlkcpjekiplhbaaGreatDoor
