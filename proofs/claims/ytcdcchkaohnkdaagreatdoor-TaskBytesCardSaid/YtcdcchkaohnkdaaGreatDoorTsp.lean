/- The law's first line: 'speaks' returns true, whatever the memory: a closed run; the chart's cell is filled in whatever order the map is walked. -/
import Derived.Test.YtcdcchkaohnkdaaGreatDoorTsa
namespace Go.Proofs.YtcdcchkaohnkdaaGreatDoor
open Go.Ev

def forks (f : FuncId) : Bool := Nat.beq f 162

noncomputable def spoke : Bool :=
  match evalCallM Tryz.prog 100 glob ext forks (memoOf 13 acArgs 100 acV acM) 100000 60 (.fn 4) [] ⟨.nil, .nil, 100⟩ with
  | some (.bool true, _) => true
  | _ => false

set_option maxRecDepth 100000 in
theorem spoke_true : spoke = true := by kernel_rfl

theorem speaks_any (w : World) : Calls Tryz.prog 4 #[] w fun e w' => e = .returned (.bool true) ∧ RowKit.Below w.heap.size w w' := by
  have h := spoke_true
  unfold spoke at h
  split at h
  · rename_i st' hr
    exact run_closedM mixed ext_ok (acc_memo _) hr rfl rfl (fun b o u h => by cases h)
  · cases h
#print axioms speaks_any
end Go.Proofs.YtcdcchkaohnkdaaGreatDoor
