/- The law's first line in a later world: below the old size nothing has turned. -/
import Derived.Test.YtedncponpbieeaaDoorSpk
namespace Go.Proofs.YtedncponpbieeaaDoor
open Go.Ev

theorem speaks_below {w w1 : World} (hL : laidMet Tryd.prog laid6 w) (hb : RowKit.Below w.heap.size w w1) : Calls Tryd.prog 8 #[] w1 fun e w' => e = .returned (.bool true) ∧ RowKit.Below w1.heap.size w1 w' := by
  have h := spoke_true
  unfold spoke at h
  split at h
  · rename_i st' hr
    exact run_closed (by kernel_rfl) ext_ok hr rfl rfl fun b o u hg => by
      obtain ⟨h1, h2, h3, h4⟩ := glob_ok hL b o u hg
      exact ⟨Nat.lt_of_lt_of_le h1 hb.size, h2, by rw [hb.cell (by exact h1)]; exact h3, h4⟩
  · cases h
end Go.Proofs.YtedncponpbieeaaDoor
