/- One closed fact of the cards': the program's harness. -/
import Derived.Test.YtlkcpjekiplhbaaGreatDoorRows
import Derived.SevenTiedAt
namespace Go.Proofs.YtlkcpjekiplhbaaGreatDoor
set_option maxRecDepth 100000 in
theorem facts_main : Tryz.pinned.checked.prog.mainIs = some (true, "7bfebce68c5ead4e8b01171865a99b673b59b0908be9160c35d66e7c1e0b4c96".toList) := by kernel_rfl
end Go.Proofs.YtlkcpjekiplhbaaGreatDoor
