/- OplogAgrees' first line: 'speaks' returns true, whatever the memory: a closed run. -/
import Derived.Test.YtekmkmidjoenoaaGreatDoorExt
import Derived.LaidMore
namespace Go.Proofs.YtekmkmidjoenoaaGreatDoor
open Go.Ev

def glob : Glob := fun _ _ => none

noncomputable def spoke : Bool :=
  match evalCall Tryz.prog 100 glob ext 100000 60 (.fn 5) [] ⟨.nil, .nil, 100⟩ with
  | some (.bool true, _) => true
  | _ => false

set_option maxRecDepth 100000 in
theorem spoke_true : spoke = true := by kernel_rfl

theorem speaks_any (w : World) : Calls Tryz.prog 5 #[] w fun e w' => e = .returned (.bool true) ∧ RowKit.Below w.heap.size w w' := by
  have h := spoke_true
  unfold spoke at h
  split at h
  · rename_i st' hr
    exact run_closed mixed ext_ok hr rfl rfl (fun b o u h => by cases h)
  · cases h
#print axioms speaks_any
end Go.Proofs.YtekmkmidjoenoaaGreatDoor
