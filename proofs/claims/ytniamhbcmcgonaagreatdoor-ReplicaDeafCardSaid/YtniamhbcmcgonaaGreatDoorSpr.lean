/- ReplicaDeaf's first line: 'speaks' returns true, whatever the memory, where the frames' table lies as the text lays it: a closed run. -/
import Derived.Test.YtniamhbcmcgonaaGreatDoorQa
import Derived.Test.YtniamhbcmcgonaaGreatDoorQb
import Derived.Test.YtniamhbcmcgonaaGreatDoorQc
import Derived.Test.YtniamhbcmcgonaaGreatDoorQd
import Derived.Test.YtniamhbcmcgonaaGreatDoorQe
namespace Go.Proofs.YtniamhbcmcgonaaGreatDoor
open Go.Ev
noncomputable def spoke:Bool:=
 match evalCallM Tryz.prog 100 glob ext (fun _=>false) (memoOr r1M (memoOr r2M (memoOr r3M (memoOr r4M r5M)))) 100000 60 (.fn 4) [] ⟨.nil,.nil,100⟩ with
 | some (.bool true,_)=>true
 | _=>false
set_option maxRecDepth 100000 in
theorem spoke_true:spoke=true:=by kernel_rfl
theorem speaks_any {w:World} (hg:GlobMet w):Calls Tryz.prog 4 #[] w fun e w'=>e= .returned (.bool true)∧RowKit.Below w.heap.size w w':=by
 have h:=spoke_true
 unfold spoke at h
 split at h
 ·rename_i st' hr
  exact run_closedM mixed ext_ok (memoOr_ok (r1_memo _) (memoOr_ok (r2_memo _) (memoOr_ok (r3_memo _) (memoOr_ok (r4_memo _) (r5_memo _))))) hr rfl rfl hg
 ·cases h
#print axioms speaks_any
end Go.Proofs.YtniamhbcmcgonaaGreatDoor
