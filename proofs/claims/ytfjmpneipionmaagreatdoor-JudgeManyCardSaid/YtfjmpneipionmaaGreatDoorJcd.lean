/- JudgeMany: one closed fact of its card's. -/
import Derived.Test.YtfjmpneipionmaaGreatDoorRows
import Derived.SevenTiedAt
namespace Go.Proofs.YtfjmpneipionmaaGreatDoor
set_option maxRecDepth 100000 in
theorem facts_main : Tryz.pinned.checked.prog.mainIs = some (true, "d10099eee1e781cbf30e2a01c5a67fd1298d8a9a0e2d6def5aea9adb5f83eac9".toList) := by kernel_rfl
end Go.Proofs.YtfjmpneipionmaaGreatDoor
