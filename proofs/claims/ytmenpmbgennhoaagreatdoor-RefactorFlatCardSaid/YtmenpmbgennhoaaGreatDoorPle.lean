/- A region that draws its order, by a plan whose values are found on the way. -/
import Derived.Test.YtmenpmbgennhoaaGreatDoorPln
namespace Go.Ev
variable {P:Program} {ops:Array Oper}
def PlanE (P:Program) (ops:Array Oper) (I:World→Prop):List Oper→Act→(Act→Prop)→Prop
 | [],a,K=>K a
 | o::l,a,K=>∃ v,StepOk P ops I o a v∧PlanE P ops I l (a.put o.dst v) K
theorem planE_plan {I:World→Prop} {K:Act→Prop}:∀ (l:List Oper) (a:Act),PlanE P ops I l a K→∃ vs,Plan P ops I l vs a K
 | [],_,h=>⟨[],h⟩
 | o::l,a,h=>by
  obtain ⟨v,h1,h2⟩:=h
  obtain ⟨vs,h3⟩:=planE_plan l _ h2
  exact ⟨v::vs,h1,h3⟩
theorem planE_cons {I:World→Prop} {K:Act→Prop} {o:Oper} {l:List Oper} {a:Act} (v:Value) (h1:StepOk P ops I o a v) (h2:PlanE P ops I l (a.put o.dst v) K):PlanE P ops I (o::l) a K:=⟨v,h1,h2⟩
theorem wp_region_planE {id:Nat} {a:Act} {w:World} {Q:Exit→Act→World→Prop} (I:World→Prop) (hm:P.follows .mixedOrders=true)
  (hok:orderOk ops.toList (masks ops.toList [])=true) (hs:noSelect ops.toList=true) (hI:I w.drew)
  (h:PlanE P ops I ops.toList a (fun a'=>∀ w',I w'→Q .normal a' w')):(Code.region id ops true).wp P Q a w:=by
 obtain ⟨vs,h'⟩:=planE_plan _ _ h
 exact wp_region_plan I vs hm hok hs hI h'
end Go.Ev
