/- RefactorFlat's first line: 'speaks' returns true, whatever the memory, where the listed tables lie as the text lays them: a closed run. -/
import Derived.Test.YtmenpmbgennhoaaGreatDoorSpa
import Derived.Test.YtmenpmbgennhoaaGreatDoorSpb
import Derived.Test.YtmenpmbgennhoaaGreatDoorSpc
import Derived.Test.YtmenpmbgennhoaaGreatDoorSpd
namespace Go.Proofs.YtmenpmbgennhoaaGreatDoor
open Go.Ev
noncomputable def spoke:Bool:=
 match evalCallM Tryz.prog 100 glob ext (fun _=>false) (memoOr p1M (memoOr ilM (memoOr p3M f2M))) 100000 60 (.fn 4) [] ⟨.nil,.nil,100⟩ with
 | some (.bool true,_)=>true
 | _=>false
set_option maxRecDepth 100000 in
theorem spoke_true:spoke=true:=by kernel_rfl
theorem speaks_any {w:World} (hL:laidMet Tryz.prog laidAll w):Calls Tryz.prog 4 #[] w fun e w'=>e= .returned (.bool true)∧RowKit.Below w.heap.size w w':=by
 have h:=spoke_true
 unfold spoke at h
 split at h
 ·rename_i st' hr
  exact run_closedM mixed ext_ok (memoOr_ok (p1_memo _) (memoOr_ok (il_memo _) (memoOr_ok (p3_memo _) (f2_memo _)))) hr rfl rfl (glob_ok hL)
 ·cases h
#print axioms speaks_any
end Go.Proofs.YtmenpmbgennhoaaGreatDoor
