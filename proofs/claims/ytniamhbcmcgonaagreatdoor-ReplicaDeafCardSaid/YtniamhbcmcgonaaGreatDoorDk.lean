/- ReplicaDeaf: whatever its arguments are, the law returns true: its row and its tied card; no conditions beyond the statement's own. -/
import Derived.Test.YtniamhbcmcgonaaGreatDoorDr
import Derived.Test.YtniamhbcmcgonaaGreatDoorDa
import Derived.Test.YtniamhbcmcgonaaGreatDoorDb
import Derived.Test.YtniamhbcmcgonaaGreatDoorDc
import Derived.Test.YtniamhbcmcgonaaGreatDoorDd
import Derived.Test.YtniamhbcmcgonaaGreatDoorDf
import Derived.Test.YtniamhbcmcgonaaGreatDoorDg
import Derived.Test.YtniamhbcmcgonaaGreatDoorDh
import Derived.Test.YtniamhbcmcgonaaGreatDoorDe
import Derived.Test.YtniamhbcmcgonaaGreatDoorFa
import Derived.Test.YtniamhbcmcgonaaGreatDoorFb
import Derived.Test.YtniamhbcmcgonaaGreatDoorFc
import Derived.Test.YtniamhbcmcgonaaGreatDoorTie
import Derived.Test.YtniamhbcmcgonaaGreatDoorCards
namespace Go.Proofs.YtniamhbcmcgonaaGreatDoor
open Go.ChangeShapes Go.WideShapes Go.ChangeAt Go.RowKit
open Go.ChangeMaps (open_string shut_string)
theorem replicaDeaf_two {a b:Bool} (ha:a=true) (hb:b=true):(a && b)=true:=by rw [ha,hb]; rfl
set_option maxRecDepth 100000 in
theorem replicaDeaf_facts:joinedFacts Tryz.pinned.checked.prog 3 Tryz.f3 Rows.replicaDeafSpec Rows.replicaDeafRow=true:=by
 unfold joinedFacts
 repeat' with_reducible apply replicaDeaf_two
 all_goals first
  | with_reducible exact replicaDeaf_inPlace
  | with_reducible exact replicaDeaf_unfollowed
  | with_reducible exact replicaDeaf_recurses
  | with_reducible exact replicaDeaf_named
  | with_reducible exact replicaDeaf_stops
  | with_reducible exact replicaDeaf_knobs
  | with_reducible exact replicaDeaf_heard
  | with_reducible exact replicaDeaf_enter
  | with_reducible exact replicaDeaf_lifts
  | with_reducible exact replicaDeaf_keys
  | with_reducible exact replicaDeaf_laidOut
  | with_reducible exact replicaDeaf_rowed
  | kernel_rfl
set_option maxRecDepth 100000 in
theorem replicaDeaf_holds:Rows.ReplicaDeafSaid:=
 OpenClaim.holds_of_wide 3 Tryz.f3 rfl rfl rfl rfl rfl rfl rfl ⟨rfl,rfl,rfl,rfl,rfl⟩ rfl rfl rfl rfl rfl (by kernel_rfl) Tryz.func3 replicaDeaf_facts
  (of_decide_eq_true (by kernel_rfl)) (by unfold Func.isWrapper; first | (rw [if_pos (by decide +kernel)]; kernel_rfl) | (rw [if_neg (by decide +kernel)]; exact ⟨rfl,rfl⟩))
  (fun os started H enc _=>replicaDeaf_lifted os started H enc)
theorem replicaDeaf_goes:false=Rows.replicaDeafRow.goesBy Tryz.pinned.checked.prog:=goesBy_none none_goes rfl
set_option maxRecDepth 100000 in
theorem replicaDeaf_card:Rows.ReplicaDeafCardSaid:=
 Claim7.holds_tied_plain_at .later [] [.data,.data,.data,.data] true (true, "3fa509304c3d123fc64cfa7b2926cd6df2e5c15a4569a417d754bacf3f1c874a") true replicaDeaf_holds (fun _ h=>by cases h) replicaDeaf_wf (fun _ h=>by cases h) replicaDeaf_row_tie rfl ⟨rfl,rfl⟩ facts_main rfl
  (fun f fn hf hfn=>by
   obtain rfl:f=3:=Option.some.inj ((show Tryz.prog.funcNamed "primer/primerlaw25.ReplicaDeaf" = some 3 by kernel_rfl).symm.trans hf) |>.symm
   obtain rfl:fn=Tryz.f3:=(Option.some.inj (Tryz.func3.symm.trans hfn)).symm
   exact ⟨facts_looks,fun j t ht=>by
    rw [replicaDeaf_params] at ht
    have hm:t ∈ [9,22]:=by simpa using Array.mem_of_getElem? ht
    have hall:([9,22].all fun u=> !Tryz.prog.wantsStandIn u)=true:=by kernel_rfl
    exact (show Tryz.prog.wantsStandIn t=false by simpa using List.all_eq_true.1 hall t hm)⟩)
  replicaDeaf_goes
#print axioms replicaDeaf_card
end Go.Proofs.YtniamhbcmcgonaaGreatDoor
