/- RefactorFlat: whatever its arguments are, the law returns true: its row and its tied card; no conditions beyond the statement's own. -/
import Derived.Test.YtmenpmbgennhoaaGreatDoorRer
import Derived.Test.YtmenpmbgennhoaaGreatDoorFa
import Derived.Test.YtmenpmbgennhoaaGreatDoorTie
import Derived.Test.YtmenpmbgennhoaaGreatDoorCards
namespace Go.Proofs.YtmenpmbgennhoaaGreatDoor
open Go.ChangeShapes Go.WideShapes Go.ChangeAt Go.RowKit
open Go.ChangeMaps (open_string shut_string)
theorem refactorFlat_two {a b:Bool} (ha:a=true) (hb:b=true):(a && b)=true:=by rw [ha,hb]; rfl
set_option maxRecDepth 100000 in
theorem refactorFlat_facts:joinedFacts Tryz.pinned.checked.prog 3 Tryz.f3 Rows.refactorFlatSpec Rows.refactorFlatRow=true:=by
 unfold joinedFacts
 repeat' with_reducible apply refactorFlat_two
 all_goals first
  | with_reducible exact refactorFlat_inPlace
  | with_reducible exact refactorFlat_unfollowed
  | with_reducible exact refactorFlat_recurses
  | with_reducible exact refactorFlat_named
  | kernel_rfl
set_option maxRecDepth 100000 in
theorem refactorFlat_holds:Rows.RefactorFlatSaid:=
 OpenClaim.holds_of_wide 3 Tryz.f3 rfl rfl rfl rfl rfl rfl rfl ⟨rfl,rfl,rfl,rfl,rfl⟩ rfl rfl rfl rfl rfl (by kernel_rfl) Tryz.func3 refactorFlat_facts
  (of_decide_eq_true (by kernel_rfl)) (by unfold Func.isWrapper; first | (rw [if_pos (by decide +kernel)]; kernel_rfl) | (rw [if_neg (by decide +kernel)]; exact ⟨rfl,rfl⟩))
  (fun os started H enc _=>refactorFlat_lifted os started H enc)
theorem refactorFlat_goes:false=Rows.refactorFlatRow.goesBy Tryz.pinned.checked.prog:=goesBy_none none_goes rfl
set_option maxRecDepth 100000 in
theorem refactorFlat_card:Rows.RefactorFlatCardSaid:=
 Claim7.holds_tied_plain_at .later [] [.data,.data,.data] true (true, "d224e9c2ebfe095e900c692166a53542341d1b60ccc4ca24eed520191dc4e934") true refactorFlat_holds (fun _ h=>by cases h) refactorFlat_wf (fun _ h=>by cases h) refactorFlat_row_tie rfl ⟨rfl,rfl⟩ facts_main rfl
  (fun f fn hf hfn=>by
   obtain rfl:f=3:=Option.some.inj ((show Tryz.prog.funcNamed "primer/primerlaw11.RefactorFlat" = some 3 by kernel_rfl).symm.trans hf) |>.symm
   obtain rfl:fn=Tryz.f3:=(Option.some.inj (Tryz.func3.symm.trans hfn)).symm
   exact ⟨facts_looks,fun j t ht=>by
    rw [refactorFlat_params] at ht
    have hm:t ∈ [9]:=by simpa using Array.mem_of_getElem? ht
    have hall:([9].all fun u=> !Tryz.prog.wantsStandIn u)=true:=by kernel_rfl
    exact (show Tryz.prog.wantsStandIn t=false by simpa using List.all_eq_true.1 hall t hm)⟩)
  refactorFlat_goes
#print axioms refactorFlat_card
end Go.Proofs.YtmenpmbgennhoaaGreatDoor
