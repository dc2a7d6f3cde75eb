/- TaskTotals: one closed fact of its card's. -/
import Derived.Test.YtlkcpjekiplhbaaGreatDoorRows
import Derived.SevenTiedAt
namespace Go.Proofs.YtlkcpjekiplhbaaGreatDoor
set_option maxRecDepth 100000 in
theorem taskTotals_wf : Rows.taskTotalsRow.wfByText (OpenSpec.ofChange Rows.taskTotalsSpec) = true := by kernel_rfl
end Go.Proofs.YtlkcpjekiplhbaaGreatDoor
