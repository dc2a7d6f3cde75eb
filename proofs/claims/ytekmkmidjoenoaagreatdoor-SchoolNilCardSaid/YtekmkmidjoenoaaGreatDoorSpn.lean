/- SchoolNil's first line: 'speaks' returns true, whatever the memory: a closed run. -/
import Derived.Test.YtekmkmidjoenoaaGreatDoorSna
namespace Go.Proofs.YtekmkmidjoenoaaGreatDoor
open Go.Ev

noncomputable def spokeS : Bool :=
  match evalCallM Tryz.prog 100 sglob ext (fun _ => false) (memoAt 14 apA apBL apBF apBN apV ⟨T.made apEL, apEF, apEN⟩) 100000 60 (.fn 12) [] ⟨.nil, .nil, 100⟩ with
  | some (.bool true, _) => true
  | _ => false

set_option maxRecDepth 100000 in
theorem spokeS_true : spokeS = true := by kernel_rfl

theorem speaksS_any (w : World) : Calls Tryz.prog 12 #[] w fun e w' => e = .returned (.bool true) ∧ RowKit.Below w.heap.size w w' := by
  have h := spokeS_true
  unfold spokeS at h
  split at h
  · rename_i st' hr
    exact run_closedM mixed ext_ok (ap_memo _) hr rfl rfl (fun b o u h => by cases h)
  · cases h
#print axioms speaksS_any
end Go.Proofs.YtekmkmidjoenoaaGreatDoor
