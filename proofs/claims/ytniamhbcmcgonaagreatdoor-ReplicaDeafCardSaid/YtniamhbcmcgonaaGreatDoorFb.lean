/- One closed fact of the cards': the program's harness. -/
import Derived.Test.YtniamhbcmcgonaaGreatDoorRows
import Derived.SevenTiedAt
namespace Go.Proofs.YtniamhbcmcgonaaGreatDoor
set_option maxRecDepth 100000 in
theorem facts_main:Tryz.pinned.checked.prog.mainIs=some (true, "3fa509304c3d123fc64cfa7b2926cd6df2e5c15a4569a417d754bacf3f1c874a".toList):=by kernel_rfl
end Go.Proofs.YtniamhbcmcgonaaGreatDoor
