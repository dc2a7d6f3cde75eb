/- What a law leaves behind: 'true' back, and each argument reads as it did, where below the heap's old size nothing has turned. -/
import Derived.Test.YtmenpmbgennhoaaGreatDoorRows
import Derived.ProofKit
import Derived.OpenShut
import Derived.LaidMore
import Derived.Lay
import Derived.SevenTiedAt
import Derived.Stop.Joined
import Derived.Carry
namespace Go.Proofs.YtmenpmbgennhoaaGreatDoor
open Go.ChangeShapes Go.WideShapes Go.ChangeAt Go.RowKit
theorem own:ownKnob Tryz.prog.godebug=none:=by kernel_rfl
theorem laidOut:laidOutB Tryz.prog=true:=by kernel_rfl
theorem trodAll_below {H:Type} {enc:TypeId × Value→H} {W W':World} (hb:Below W.heap.size W W') :
  ∀ {ts:List TypeId} {vs:List Value} {ds:List (DataW H)} {ps:List MemPlace},(∀ t ∈ ts,Tryz.prog.readableRec t=true∧t < Tryz.prog.types.size)→(∀ p ∈ ps,p.block < W.heap.size)→
  DataW.TrodAll enc Tryz.prog W 0 (fun _=>true) true ts vs ds ps→DataW.TrodAll enc Tryz.prog W' 0 (fun b=>decide (b < W.heap.size)) true ts vs ds ps
 | [],_,_,_,_,_,h=>by obtain ⟨rfl,rfl,rfl⟩:=trodAll_nil h; exact rfl
 | _::_,_,_,_,ht,hp,h=>by
  obtain ⟨v,vs1,d,ds1,a,b,rfl,rfl,rfl,h1,h2⟩:=trodAll_cons h
  have k:=ht _ (List.mem_cons_self ..)
  exact ⟨a,b,Below.trod laidOut k.1 k.2 h1 hb (fun x hx=>hp x (List.mem_append_left _ hx)),trodAll_below hb (fun t h=>ht t (List.mem_cons_of_mem _ h)) (fun x hx=>hp x (List.mem_append_right _ hx)) h2,rfl⟩
theorem law_post {H:Type} {enc:TypeId × Value→H} {s:ChangeSpec} {f:Func} {apart fresh handsOn:Bool} {W W':World} {args:Array Value} {ds gs:List (DataW H)} {before:List MemPlace}
  (hW:DataW.Whole enc Tryz.prog f.params.toList s.vars apart W args.toList ds gs before) (hb:Below W.heap.size W W') (hvars:s.vars=[]) (hres:f.resultTypes=#[4])
  (hts:∀ t ∈ f.params.toList,Tryz.prog.readableRec t=true∧t < Tryz.prog.types.size)
  (hfn:s.fn H (ds++gs)={ results:=[.lit (.bool true)],args:=ds }):s.post enc Tryz.prog f apart fresh handsOn false W args (.bool true) W':=by
 have hW':=hW
 obtain ⟨p,q,hA,hV,rfl,_,_⟩:=hW
 rw [hvars] at hV
 obtain ⟨rfl,rfl⟩:=trodVars_none hV
 have hlt:∀ x ∈ p,x.block < W.heap.size:=fun x hx=>hW'.lt x (List.mem_append_left _ hx)
 refine ⟨ds,[],p++[],[],p,[],hW',?_,?_,?_,hb.frame _,fun h=>by cases h⟩
 ·rw [hfn,hres]
  exact trodAll_mk1 (shut_bool (by kernel_rfl) _)
 ·rw [hfn]
  exact trodAll_below hb hts hlt hA
 ·rw [hfn,hvars]; exact (rfl:([]:List MemPlace)=[])
end Go.Proofs.YtmenpmbgennhoaaGreatDoor
