/- No function of the program's starts a goroutine. -/
import Derived.Test.YtniamhbcmcgonaaGreatDoorRows
import Derived.SevenTiedAt
namespace Go.Proofs.YtniamhbcmcgonaaGreatDoor
set_option maxRecDepth 100000 in
theorem none_goes:(Tryz.pinned.checked.prog).funcs.any Func.goes=false:=by kernel_rfl
theorem goes_none {P:Program} (h:P.funcs.any Func.goes=false) (f:FuncId):P.goes f=false:=by
 unfold Program.goes
 rw [h,Bool.and_false,Bool.or_false]
 rw [List.any_eq_false]
 intro g _
 cases hg:P.funcs[g]? with
 | none=>simp
 | some fn=>
  have:=Array.any_eq_false.1 h
  obtain ⟨hlt,he⟩:=Array.getElem?_eq_some_iff.1 hg
  have h2:=this g hlt
  rw [he] at h2
  simpa using h2
theorem goesBy_none {P:Program} {c:OpenClaim} (h:P.funcs.any Func.goes=false) (hs:c.start= .entering):false=c.goesBy P:=by
 have h2:∀ o:Option FuncId,o.any P.goes=false:=fun o=>by
  cases o with
  | none=>rfl
  | some f=>exact goes_none h f
 unfold OpenClaim.goesBy Program.goesAt Program.goesFrom
 rw [h2,hs]
 rfl
end Go.Proofs.YtniamhbcmcgonaaGreatDoor
