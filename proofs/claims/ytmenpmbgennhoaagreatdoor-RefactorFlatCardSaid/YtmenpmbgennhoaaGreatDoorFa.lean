/- One closed fact of the cards': the program's looks. One closed fact of the cards': the program's harness. No function of the program's starts a goroutine. RefactorFlat: one closed fact of its row's. RefactorFlat: one closed fact of its row's. RefactorFlat: one closed fact of its row's. RefactorFlat: one closed fact of its row's. RefactorFlat: one closed fact of its card's. -/
import Derived.Test.YtmenpmbgennhoaaGreatDoorRows
import Derived.SevenTiedAt
import Derived.JoinedOf
namespace Go.Proofs.YtmenpmbgennhoaaGreatDoor
set_option maxRecDepth 100000 in
theorem facts_looks:true=Tryz.pinned.checked.prog.looks []:=by kernel_rfl
end Go.Proofs.YtmenpmbgennhoaaGreatDoor

namespace Go.Proofs.YtmenpmbgennhoaaGreatDoor
set_option maxRecDepth 100000 in
theorem facts_main:Tryz.pinned.checked.prog.mainIs=some (true, "d224e9c2ebfe095e900c692166a53542341d1b60ccc4ca24eed520191dc4e934".toList):=by kernel_rfl
end Go.Proofs.YtmenpmbgennhoaaGreatDoor

namespace Go.Proofs.YtmenpmbgennhoaaGreatDoor
set_option maxRecDepth 100000 in
theorem none_goes:(Tryz.pinned.checked.prog).funcs.any Func.goes=false:=by kernel_rfl
theorem goes_none {P:Program} (h:P.funcs.any Func.goes=false) (f:FuncId):P.goes f=false:=by
 unfold Program.goes
 rw [h,Bool.and_false,Bool.or_false]
 rw [List.any_eq_false]
 intro g _
 cases hg:P.funcs[g]? with
 | none=>simp
 | some fn=>
  have:=Array.any_eq_false.1 h
  obtain ⟨hlt,he⟩:=Array.getElem?_eq_some_iff.1 hg
  have h2:=this g hlt
  rw [he] at h2
  simpa using h2
theorem goesBy_none {P:Program} {c:OpenClaim} (h:P.funcs.any Func.goes=false) (hs:c.start= .entering):false=c.goesBy P:=by
 have h2:∀ o:Option FuncId,o.any P.goes=false:=fun o=>by
  cases o with
  | none=>rfl
  | some f=>exact goes_none h f
 unfold OpenClaim.goesBy Program.goesAt Program.goesFrom
 rw [h2,hs]
 rfl
end Go.Proofs.YtmenpmbgennhoaaGreatDoor

namespace Go.Proofs.YtmenpmbgennhoaaGreatDoor
set_option maxRecDepth 100000 in
theorem refactorFlat_inPlace:(Rows.refactorFlatRow.inPlace==Program.inPlace Tryz.pinned.checked.prog 3)=true:=by kernel_rfl
end Go.Proofs.YtmenpmbgennhoaaGreatDoor

namespace Go.Proofs.YtmenpmbgennhoaaGreatDoor
set_option maxRecDepth 100000 in
theorem refactorFlat_unfollowed:(Rows.refactorFlatRow.unfollowed==Program.unfollowed Tryz.pinned.checked.prog 3)=true:=by kernel_rfl
end Go.Proofs.YtmenpmbgennhoaaGreatDoor

namespace Go.Proofs.YtmenpmbgennhoaaGreatDoor
set_option maxRecDepth 100000 in
theorem refactorFlat_recurses:(Rows.refactorFlatRow.recurses==Program.recurses Tryz.pinned.checked.prog 3)=true:=by kernel_rfl
end Go.Proofs.YtmenpmbgennhoaaGreatDoor

namespace Go.Proofs.YtmenpmbgennhoaaGreatDoor
set_option maxRecDepth 100000 in
theorem refactorFlat_named:(Rows.refactorFlatRow.named==Program.varsNamed Tryz.pinned.checked.prog 3)=true:=by kernel_rfl
end Go.Proofs.YtmenpmbgennhoaaGreatDoor

namespace Go.Proofs.YtmenpmbgennhoaaGreatDoor
set_option maxRecDepth 100000 in
theorem refactorFlat_wf:Rows.refactorFlatRow.wfByText (OpenSpec.ofChange Rows.refactorFlatSpec)=true:=by kernel_rfl
end Go.Proofs.YtmenpmbgennhoaaGreatDoor
