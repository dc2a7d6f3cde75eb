/- replicaNone: one closed fact of its row's. -/
import Derived.Test.YtgdgoackmfbkbaaGreatDoorRq
import Derived.Test.YtgdgoackmfbkbaaGreatDoorRs
namespace Go.Proofs.YtgdgoackmfbkbaaGreatDoor

theorem replicaNone_named : (Rows.replicaNoneRow.named == Program.varsNamed Tryz.pinned.checked.prog 3) = true := by
  have h := eq_of_beq replicaNone_globB
  have h2 := replicaNone_entB
  unfold replicaNone_ents at h2
  unfold Program.varsNamed
  rw [replicaNone_clos, h]
  exact h2
end Go.Proofs.YtgdgoackmfbkbaaGreatDoor
