/- Maps whose keys are texts: read and written. syntax.proper: can a node be in a text? syntax.proper, whole; syntax.Proper. syntax.Proper. -/
import Derived.Test.YtmenpmbgennhoaaGreatDoorHlp
import Derived.MapKept
import Derived.ChangeMaps5
import Derived.Tactics
import Derived.Test.YtmenpmbgennhoaaGreatDoorSam
namespace Go.Proofs.YtmenpmbgennhoaaGreatDoor
open Go.RowKit
def isK (v:Value) (s:ByteArray):Bool:=match v with | .string t=>decide (t=s) | _=>false
theorem isK_iff (v:Value) (s:ByteArray):isK v s=true↔v= .string s:=by
 cases v <;> simp [isK]
def entAt:List MapEntry→ByteArray→Option Value
 | [],_=>none
 | e::l,s=>if isK e.key s=true then some e.val else entAt l s
def entIx:List MapEntry→ByteArray→Nat→Option (Nat × Value)
 | [],_,_=>none
 | e::l,s,i=>if isK e.key s=true then some (i,e.val) else entIx l s (i+1)
def StrKeys (l:List MapEntry):Prop:=∀ e ∈ l,∃ s,e.key= .string s
theorem beq_bytes (a b:ByteArray):(a==b)=decide (a=b):=by
 obtain ⟨a⟩:=a
 obtain ⟨b⟩:=b
 have:(ByteArray.mk a==ByteArray.mk b)=(a==b):=rfl
 rw [this]
 by_cases h:a=b
 ·subst h; simp
 ·simp [h]
instance:LawfulBEq ByteArray where
 eq_of_beq h:=by rw [beq_bytes] at h; exact of_decide_eq_true h
 rfl:=by intro a; rw [beq_bytes]; simp
theorem findNow_str (s:ByteArray):∀ (l:List MapEntry) (i:Nat),StrKeys l→Instr.findNow .string (.string s) l i=some (entIx l s i)
 | [],_,_=>rfl
 | e::l,i,h=>by
  obtain ⟨t,ht⟩:=h e (by simp)
  have ih:=findNow_str s l (i+1) (fun e' h'=>h e' (by simp [h']))
  unfold Instr.findNow entIx
  rw [ht]
  by_cases hs:s=t
  ·subst hs
   simp [Instr.sameNow,beq_bytes,isK]
  ·have:¬ t=s:=fun e=>hs e.symm
   simp [Instr.sameNow,beq_bytes,hs,this,ih,isK]
theorem entIx_val:∀ (l:List MapEntry) (s:ByteArray) (i:Nat),(entIx l s i).map (·.2)=entAt l s
 | [],_,_=>rfl
 | e::l,s,i=>by
  unfold entIx entAt
  split
  ·rfl
  ·exact entIx_val l s (i+1)
theorem entIx_at:∀ (l:List MapEntry) (s:ByteArray) (i j:Nat) (v:Value),entIx l s i=some (j,v)→∃ k,j=i+k∧(l[k]?).map (·.key)=some (.string s)
 | [],_,_,_,_,h=>by simp [entIx] at h
 | e::l,s,i,j,v,h=>by
  unfold entIx at h
  split at h
  ·simp at h
   rename_i hs
   exact ⟨0,by omega,by simp [(isK_iff _ _).1 hs]⟩
  ·obtain ⟨k,h1,h2⟩:=entIx_at l s (i+1) j v h
   exact ⟨k+1,by omega,by simpa using h2⟩
theorem entAt_push:∀ (l:List MapEntry) (s t:ByteArray) (v:Value) (c:Nat),entAt l s=none→entAt (l++[{ key:= .string s,val:=v,born:=c }]) t=if t=s then some v else entAt l t
 | [],s,t,v,c,_=>by
  by_cases h:t=s
  ·subst h; simp [entAt,isK]
  ·have:¬ s=t:=fun e=>h e.symm
   simp [entAt,h,this,isK]
 | e::l,s,t,v,c,h=>by
  unfold entAt at h
  split at h
  ·simp at h
  ·have ih:=entAt_push l s t v c h
   rw [List.cons_append,entAt,entAt]
   split
   ·rename_i h1 h2
    by_cases hts:t=s
    ·subst hts; exact absurd h2 h1
    ·simp [hts]
   ·exact ih
theorem entAt_mod:∀ (l:List MapEntry) (s t:ByteArray) (v:Value) (i j:Nat) (u:Value),StrKeys l→entIx l s i=some (j,u)→entAt (l.modify (j - i) (fun e=>{ e with key:= .string s,val:=v })) t=if t=s then some v else entAt l t
 | [],_,_,_,_,_,_,_,h=>by simp [entIx] at h
 | e::l,s,t,v,i,j,u,hk,h=>by
  unfold entIx at h
  split at h
  ·rename_i hs
   simp at h
   obtain ⟨rfl,_⟩:=h
   rw [Nat.sub_self]
   simp only [List.modify_zero_cons,entAt]
   by_cases hts:t=s
   ·subst hts; simp [isK]
   ·have h1:¬ s=t:=fun e=>hts e.symm
    have h2:isK e.key t=false:=by rw [(isK_iff _ _).1 hs]; simpa [isK] using h1
    have h3:isK (.string s) t=false:=by simpa [isK] using h1
    simp [hts,h2,h3]
  ·rename_i hs
   obtain ⟨k,h1,_⟩:=entIx_at l s (i+1) j u h
   have ih:=entAt_mod l s t v (i+1) j u (fun e' h'=>hk e' (by simp [h'])) h
   have e1:j - i=(j - (i+1))+1:=by omega
   rw [e1,List.modify_succ_cons,entAt,entAt]
   split
   ·rename_i h2
    by_cases hts:t=s
    ·subst hts; exact absurd h2 hs
    ·simp [hts]
   ·exact ih
theorem strKeys_mod (l:List MapEntry) (s:ByteArray) (v:Value) (j:Nat) (hk:StrKeys l):StrKeys (l.modify j (fun e=>{ e with key:= .string s,val:=v })):=by
 intro e he
 rw [List.mem_iff_getElem?] at he
 obtain ⟨i,hi⟩:=he
 rw [List.getElem?_modify] at hi
 cases h:l[i]? with
 | none=>rw [h] at hi; simp at hi
 | some x=>
  rw [h] at hi
  simp at hi
  by_cases hji:j=i
  ·rw [if_pos hji] at hi; subst hi; exact ⟨s,rfl⟩
  ·rw [if_neg hji] at hi; subst hi; exact hk _ (List.mem_of_getElem? h)
def MpS (w:World) (b:Nat) (f:ByteArray→Option Value):Prop:=∃ es clock,w.heap[b]?=some (.map es clock)∧StrKeys es.toList∧∀ s,entAt es.toList s=f s
def mput (f:ByteArray→Option Value) (s:ByteArray) (v:Value):ByteArray→Option Value:=fun t=>if t=s then some v else f t
theorem MpS.lt {w:World} {b:Nat} {f:ByteArray→Option Value} (h:MpS w b f):b < w.heap.size:=by
 obtain ⟨es,c,h,_⟩:=h
 exact (Array.getElem?_eq_some_iff.1 h).1
theorem MpS.keep {w w':World} {b:Nat} {f:ByteArray→Option Value} (h:MpS w b f) (hb:w'.heap[b]?=w.heap[b]?):MpS w' b f:=by
 obtain ⟨es,c,h1,h2⟩:=h
 exact ⟨es,c,hb.trans h1,h2⟩
theorem MpS.blw {w w':World} {b:Nat} {f:ByteArray→Option Value} (h:MpS w b f) (hb:Below w.heap.size w w'):MpS w' b f:=h.keep (hb.block b h.lt)
theorem MpS.made (w:World):MpS (w.alloc (.map #[] 0)) w.heap.size (fun _=>none):=⟨#[],0,heap_alloc_new w _,fun e h=>by simp at h,fun s=>rfl⟩
section
variable {P:Program} {w:World} {b:Nat} {f:ByteArray→Option Value} {t k e:TypeId}
theorem run_findKey_str (hk:P.underlying k=some .string) (l:List MapEntry) (hl:StrKeys l) (s:ByteArray):(Instr.findKey k (.string s) l).run P w= .ok (entIx l s 0) w:=by
 unfold Instr.findKey
 simp [run_underlying hk,findNow_str s l 0 hl,Result.andThen]
theorem MpS.look (h:MpS w b f) (ht:P.underlying t=some (.map k e)) (hk:P.underlying k=some .string) {z:Value} (hz:(zeroValue e).run P w= .ok z w) (s:ByteArray) (c:Bool) :
  (Instr.lookup t (.map (some b)) (.string s) c).run P w= .ok (if c then .tuple #[(f s).getD z,.bool (f s).isSome] else (f s).getD z) w:=by
 obtain ⟨es,cl,hb,hs,hf⟩:=h
 have h1:=run_findKey_str (P:=P) (w:=w) hk es.toList hs s
 have h2:=entIx_val es.toList s 0
 rw [hf s] at h2
 cases hx:entIx es.toList s 0 with
 | none=>
  rw [hx] at h1 h2
  rw [← h2]
  simp [Instr.lookup,run_underlying ht,MapKept.run_getObj_map hb,MapKept.run_checkKey hk (show MapKept.IsKey .string (.string s) from trivial),h1,hz,Result.andThen]
 | some x=>
  rw [hx] at h1 h2
  rw [← h2]
  simp [Instr.lookup,run_underlying ht,MapKept.run_getObj_map hb,MapKept.run_checkKey hk (show MapKept.IsKey .string (.string s) from trivial),h1,Result.andThen]
theorem MpS.put (h:MpS w b f) (ht:P.underlying t=some (.map k e)) (hk:P.underlying k=some .string) (s:ByteArray) (v:Value) :
  ∃ w',(Instr.mapUpdate t (.map (some b)) (.string s) v).run P w= .ok () w'∧MpS w' b (mput f s v)∧Onl b w w'∧w'.heap.size=w.heap.size:=by
 obtain ⟨es,cl,hb,hs,hf⟩:=h
 have h1:=run_findKey_str (P:=P) (w:=w) hk es.toList hs s
 have hon:∀ o,Onl b w (ChangeMaps.setBlock w b o):=fun o=>⟨rfl,rfl,rfl,by simp [ChangeMaps.setBlock],fun i _ hn=>ChangeMaps.heap_setBlock_other hb o (fun e=>hn (by rw [e]))⟩
 cases hx:entIx es.toList s 0 with
 | none=>
  rw [hx] at h1
  have hn:entAt es.toList s=none:=by rw [← entIx_val es.toList s 0,hx]; rfl
  refine ⟨ChangeMaps.setBlock w b (.map (es.push ⟨.string s,v,cl⟩) (cl+1)),?_,⟨_,_,ChangeMaps.heap_setBlock_same hb _,?_,?_⟩,hon _,by simp [ChangeMaps.setBlock]⟩
  ·simp [Instr.mapUpdate,run_underlying ht,MapKept.run_getObj_map hb,MapKept.run_checkKey hk (show MapKept.IsKey .string (.string s) from trivial),h1,MapKept.run_setObj_map _ hb,Result.andThen,ChangeMaps.setBlock]
  ·intro x hx
   simp only [Array.toList_push,List.mem_append,List.mem_singleton] at hx
   rcases hx with hx | rfl
   ·exact hs x hx
   ·exact ⟨s,rfl⟩
  ·intro t
   rw [Array.toList_push,entAt_push _ _ _ _ _ hn,hf t]
   rfl
 | some x=>
  obtain ⟨j,u⟩:=x
  rw [hx] at h1
  obtain ⟨j',hj,hkey⟩:=entIx_at _ _ _ _ _ hx
  rw [Nat.zero_add] at hj
  subst hj
  have hold:((es[j]?).map (·.key)).getD (.string s)= .string s:=by
   rw [← Array.getElem?_toList,hkey]; rfl
  have hstay:(Instr.keyThatStays (((es[j]?).map (·.key)).getD (.string s)) (.string s)).run P w= .ok (.string s) w:=by
   rw [hold]
   unfold Instr.keyThatStays
   have:Instr.sameBits 10000 (.string s) (.string s)=true:=by simp [Instr.sameBits,beq_bytes]
   rw [this]
   rfl
  refine ⟨ChangeMaps.setBlock w b (.map (es.modify j fun e=>{ e with key:= .string s,val:=v }) cl),?_,⟨_,_,ChangeMaps.heap_setBlock_same hb _,?_,?_⟩,hon _,by simp [ChangeMaps.setBlock]⟩
  ·unfold Instr.mapUpdate
   simp only [Sem.run_bind,run_underlying ht,MapKept.run_getObj_map hb,MapKept.run_checkKey hk (show MapKept.IsKey .string (.string s) from trivial),h1,Result.andThen_ok,hstay,MapKept.run_setObj_map _ hb,ChangeMaps.setBlock]
  ·rw [Array.toList_modify]
   exact strKeys_mod _ _ _ _ hs
  ·intro t
   rw [Array.toList_modify]
   have:=entAt_mod es.toList s t v 0 j u hs hx
   rw [Nat.sub_zero] at this
   rw [this,hf t]
   rfl
theorem wpList_put_str {ops:Array Oper} {rest:List Oper} {o:Oper} {a:Act} {Q:Exit→Act→World→Prop} (hg:o.guard=none) (m x v:Operand) (hop:o.op=Op.mapUpdate t m x v) (ht:P.underlying t=some (.map k e)) (hk:P.underlying k=some .string)
  (b:Nat) (f:ByteArray→Option Value) (hm:a.eval m= .map (some b)) (h:MpS w b f) (s:ByteArray) (hx:a.eval x= .string s) (u:Value) (hv:a.eval v=u)
  (hK:∀ w',MpS w' b (mput f s u)→Onl b w w'→w'.heap.size=w.heap.size→wpList P ops Q rest (a.put o.dst undef) w'):wpList P ops Q (o::rest) a w:=by
 refine wpList_plain hg fun K' hK'=> ?_
 obtain ⟨w',hrun,r1,r2,r3⟩:=h.put (P:=P) ht hk s u
 unfold Oper.wp
 simp [execOp,hop,hm,hx,hv,hrun,Result.andThen]
 exact hK' _ _ (hK w' r1 r2 r3)
end
end Go.Proofs.YtmenpmbgennhoaaGreatDoor

namespace Go.Proofs.YtmenpmbgennhoaaGreatDoor
open Go.RowKit
mutual
def properT:Tr→Bool
 | .mk k x ks=>
  if k=1 then goodN x && decide (ks.length=0)
  else if k=2 then decide (0 < x.size) && (decide (x.size≤16) && decide (ks.length=0))
  else kidsOk k ks.length && (decide (x.size=0) && properK ks)
def properK:List Tr→Bool
 | []=>true
 | a::l=>properT a && properK l
def kidsOk (k n:Nat):Bool:=
 if k=3 then decide (n≠1) else if k=4 then decide (1 < n) else if k=5∨k=6∨k=7 then decide (n=1) else false
end
theorem properK_at:∀ (ks:List Tr) (i:Nat) (a:Tr),ks[i]?=some a→properK (ks.drop i)=(properT a && properK (ks.drop (i+1)))
 | a0::l,0,a,h=>by simp at h; subst h; simp [properK]
 | a0::l,i+1,a,h=>by
  simp at h
  simpa using properK_at l i a h
 | [],_,_,h=>by simp at h
def PrC (w:World) (a:Tr) (s:Value):Prop:=∀ w',Below w.heap.size w w'→
 Calls Tryz.prog 78 #[nodeV a s] w' fun e w''=>e= .returned (.bool (!properT a))∧Below w'.heap.size w' w''
set_option maxRecDepth 100000 in
set_option maxHeartbeats 1600000 in
theorem idxn_any (S:Nat→Prop) (w:World) (ks:List Tr) (ss:List Value) (v:Value) (hl:ss.length=ks.length) (h1:SlAt S w v ks.length (nodesC ks ss))
  (hk:∀ (i:Nat) a s,ks[i]?=some a→ss[i]?=some s→PrC w a s)
  (hf:∀ (i:Nat) a s,ks[i]?=some a→ss[i]?=some s→∃ p c,s= .slice p a.kids.length c) (w':World) (hB:Below w.heap.size w w') :
  Calls Tryz.prog 93 #[v,.func (.func 78) #[] #[]] w' fun e w''=>(∃ z:Int,e= .returned (.int .i64 z)∧decide (0≤z)= !properK ks)∧Below w'.heap.size w' w'':=by
 obtain ⟨R,hR⟩:∃ R,properK ks=R:=⟨_,rfl⟩
 rw [hR]
 obtain ⟨p,c,rfl⟩:=h1.form
 have h1H:=Hid.mk h1
 have hkH:=Hid.mk hk
 have hBH:=Hid.mk hB
 have hfH:=Hid.mk hf
 have hRH:=Hid.mk hR
 clear h1 hk hB hf hR
 go_enter Tryz.func93,Tryz.ntmps93
 go_wp2_with (fail)
 go_loopw [8] (fun x wr=>∃ i:Nat,x= .int .i64 (i:Nat)∧i≤ks.length∧properK (ks.drop i)=R∧Below w'.heap.size w' wr) (fun x _=>ks.length - (intOf x).toNat)
 case atStart=>exact ⟨0,rfl,Nat.zero_le _,hRH.out,Below.refl _ _⟩
 case round=>
  obtain ⟨i,rfl,hi,hg,hBr⟩:=hrel
  have hBw:=hBH.out.trans (hBr.mono hBH.out.size)
  by_cases hlt:i < ks.length
  ·have hiI:(i:Int) < (ks.length:Int):=by omega
   obtain ⟨a,ha⟩:∃ a,ks[i]?=some a:=⟨_,List.getElem?_eq_getElem hlt⟩
   obtain ⟨s,hs⟩:∃ s,ss[i]?=some s:=⟨_,List.getElem?_eq_getElem (by omega)⟩
   obtain ⟨sp,sc,rfl⟩:=hfH.out i a s ha hs
   have hpr:=Hid.mk (hkH.out i a _ ha hs)
   rw [properK_at ks i a ha] at hg
   obtain ⟨g,o,c0,he,hgs,hml,hcs⟩:=h1H.out.cell ha hs
   cases he
   have hib:(i:Int) < 9223372036854775807:=by unfold maxLen at hml; omega
   clear hml
   have hcs:∀ j u,(nodeC a (.slice sp a.kids.length sc))[j]?=some u→wr.cell? ⟨g,o+i*3+j,none⟩=some u:=fun j u hu=>by
    rw [Nat.add_assoc,hBw.cell (by exact hgs)]; exact hcs j u hu
   have a0:=hcs 0 _ rfl
   have a1:=hcs 1 _ rfl
   have a2:=hcs 2 _ rfl
   simp only [Nat.add_zero] at a0
   have hgH:=Hid.mk hg
   have hBrH:=Hid.mk hBr
   have hBwH:=Hid.mk hBw
   clear hcs hg hBr hBw hgs ha hs
   go_wp2_with (fail)
   refine (hpr.out _ hBwH.out).mono ?_
   rintro e w5 ⟨rfl,hB5⟩
   have hB5:=Hid.mk (hBrH.out.trans (hB5.mono hBrH.out.size))
   cases hst:properT a with
   | true=>
    rw [hst,Bool.true_and] at hgH
    go_wp2_with (fail)
    exact ⟨⟨i+1,by simp,by omega,hgH.out,hB5.out⟩,by simp [intOf]; omega⟩
   | false=>
    rw [hst,Bool.false_and] at hgH
    have:=hgH.out
    subst this
    go_wp2_with (fail)
    go_ret
    exact ⟨⟨_,rfl,by simp⟩,hB5.out⟩
  ·have hiI:((i:Int) < (ks.length:Int))=False:=eq_false (by omega)
   have hd:ks.drop i=[]:=List.drop_eq_nil_of_le (by omega)
   rw [hd] at hg
   have hr:R=true:=by rw [← hg]; simp [properK]
   subst hr
   have hBrH:=Hid.mk hBr
   clear hBr hBw hg hd
   go_wp2_with (fail)
   go_ret
   exact ⟨⟨_,rfl,by simp⟩,hBrH.out⟩
set_option maxRecDepth 100000 in
set_option maxHeartbeats 1600000 in
theorem conn_any (S:Nat→Prop) (w:World) (ks:List Tr) (ss:List Value) (v:Value) (hl:ss.length=ks.length) (h1:SlAt S w v ks.length (nodesC ks ss))
  (hk:∀ (i:Nat) a s,ks[i]?=some a→ss[i]?=some s→PrC w a s)
  (hf:∀ (i:Nat) a s,ks[i]?=some a→ss[i]?=some s→∃ p c,s= .slice p a.kids.length c) (w':World) (hB:Below w.heap.size w w') :
  Calls Tryz.prog 72 #[v,.func (.func 78) #[] #[]] w' fun e w''=>e= .returned (.bool (!properK ks))∧Below w'.heap.size w' w'':=by
 have h:=Hid.mk (idxn_any S w ks ss v hl h1 hk hf w' hB)
 obtain ⟨p,c,rfl⟩:=h1.form
 clear h1 hk hf hB
 generalize properK ks=R at*
 go_enter Tryz.func72,Tryz.ntmps72
 go_wp2_with (fail)
 refine h.out.mono ?_
 rintro e w5 ⟨⟨z,rfl,hz⟩,hB5⟩
 have hB5:=Hid.mk hB5
 go_wp2_with (fail)
 go_ret
 exact ⟨by simp,hB5.out⟩
end Go.Proofs.YtmenpmbgennhoaaGreatDoor

namespace Go.Proofs.YtmenpmbgennhoaaGreatDoor
open Go.RowKit
theorem str_empty (x:ByteArray):(x.toList==[])=decide (x.size=0):=by
 rw [ByteArray.toList_eq]
 by_cases h:x.size=0
 ·rw [decide_eq_true h]
  have:x.data=#[]:=Array.eq_empty_of_size_eq_zero h
  simp [this]
 ·rw [decide_eq_false h]
  apply beq_eq_false_iff_ne.2
  intro e
  apply h
  have:=congrArg List.length e
  simpa using this
def PrN (w:World) (a:Tr) (s:Value):Prop:=∀ w',Below w.heap.size w w'→
 Calls Tryz.prog 47 #[nodeV a s] w' fun e w''=>e= .returned (.bool (properT a))∧Below w'.heap.size w' w''
set_option maxRecDepth 100000 in
theorem prc_of {w:World} {a:Tr} {s:Value} (hf:∃ p c,s= .slice p a.kids.length c) (h:PrN w a s):PrC w a s:=by
 intro w' hB
 obtain ⟨p,c,rfl⟩:=hf
 have h:=Hid.mk h
 have hB:=Hid.mk hB
 unfold nodeV at h ⊢
 go_enter Tryz.func78,Tryz.ntmps78
 go_wp2_with (fail)
 refine (h.out _ (hB.out.alloc hB.out.size _)).mono ?_
 rintro e w5 ⟨rfl,hB5⟩
 have hB5:=Hid.mk (((Below.refl _ w').alloc (Nat.le_refl _) _).trans (hB5.mono (by simp)))
 go_wp2_with (fail)
 go_ret
 exact ⟨rfl,hB5.out⟩
set_option maxRecDepth 100000 in
set_option maxHeartbeats 3200000 in
theorem proper_any (S:Nat→Prop) (w:World) {a:Tr} {s:Value} (h:TrAt S w a s):PrN w a s:=by
 induction h with
 | mk k x ks v ss hl h1 h2 ih=>
  intro w' hB
  obtain ⟨p,c,rfl⟩:=h1.form
  have hcon:=Hid.mk (fun w'' (hB'':Below w.heap.size w w'')=>conn_any S w ks ss _ hl h1 (fun i a s q1 q2=>prc_of (h2 i a s q1 q2).form (ih i a s q1 q2)) (fun i a s q1 q2=>(h2 i a s q1 q2).form) w'' hB'')
  have hBH:=Hid.mk hB
  clear ih h2 h1 hB
  unfold nodeV
  simp only [Tr.kind,Tr.text]
  rw [properT]
  have hxe:=str_empty x
  obtain ⟨n,hn⟩:∃ n,ks.length=n:=⟨_,rfl⟩
  simp only [hn] at hcon ⊢
  by_cases hk1:k=1
  ·subst hk1
   rw [if_pos rfl]
   have hgd:=Hid.mk (fun w=>good_any x w)
   generalize goodN x=q at*
   clear hxe hl
   cases q with
   | false=>
    go_enter Tryz.func47,Tryz.ntmps47
    go_wp2_with (go_at_call 18; refine (hgd.out _).mono ?_; rintro e w' ⟨rfl,hw'⟩; subst w')
    go_ret
    exact ⟨by simp,(Below.refl _ w').alloc (Nat.le_refl _) _⟩
   | true=>
    rw [Bool.true_and]
    by_cases hn0:n=0
    ·have hni:((n:Int)==0)=true:=by simp; omega
     rw [decide_eq_true hn0]
     clear hn0
     go_enter Tryz.func47,Tryz.ntmps47
     go_wp2_with (go_at_call 18; refine (hgd.out _).mono ?_; rintro e w' ⟨rfl,hw'⟩; subst w')
     go_ret
     exact ⟨rfl,(Below.refl _ w').alloc (Nat.le_refl _) _⟩
    ·have hni:((n:Int)==0)=false:=beq_ne (by omega)
     rw [decide_eq_false hn0]
     clear hn0
     go_enter Tryz.func47,Tryz.ntmps47
     go_wp2_with (go_at_call 18; refine (hgd.out _).mono ?_; rintro e w' ⟨rfl,hw'⟩; subst w')
     go_ret
     exact ⟨rfl,(Below.refl _ w').alloc (Nat.le_refl _) _⟩
  ·have k1:((k:Int)==1)=false:=beq_ne (by omega)
   rw [if_neg hk1]
   by_cases hk2:k=2
   ·subst hk2
    rw [if_pos rfl]
    have e1:decide (0 < x.size)= !decide (x.size=0):=by by_cases h:x.size=0 <;> simp [h] <;> omega
    rw [e1]
    rw [← hxe]
    cases hxe':(x.toList==[]) with
    | true=>
     clear hxe e1 hl hn
     go_enter Tryz.func47,Tryz.ntmps47
     go_wp2_with (fail)
     go_ret
     exact ⟨by simp,(Below.refl _ w').alloc (Nat.le_refl _) _⟩
    | false=>
     by_cases h16:x.size≤16
     ·have h16i:((x.size:Int)≤16):=by omega
      rw [decide_eq_true h16]
      by_cases hn0:n=0
      ·have hni:((n:Int)==0)=true:=by simp; omega
       rw [decide_eq_true hn0]
       clear hn0 hxe e1 hl hn h16
       go_enter Tryz.func47,Tryz.ntmps47
       go_wp2_with (fail)
       go_ret
       exact ⟨by simp,(Below.refl _ w').alloc (Nat.le_refl _) _⟩
      ·have hni:((n:Int)==0)=false:=beq_ne (by omega)
       rw [decide_eq_false hn0]
       clear hn0 hxe e1 hl hn h16
       go_enter Tryz.func47,Tryz.ntmps47
       go_wp2_with (fail)
       go_ret
       exact ⟨by simp,(Below.refl _ w').alloc (Nat.le_refl _) _⟩
     ·have h16i:((x.size:Int)≤16)=False:=eq_false (by omega)
      rw [decide_eq_false h16]
      clear hxe e1 hl hn h16
      go_enter Tryz.func47,Tryz.ntmps47
      go_wp2_with (fail)
      go_ret
      exact ⟨by simp,(Below.refl _ w').alloc (Nat.le_refl _) _⟩
   ·have k2:((k:Int)==2)=false:=beq_ne (by omega)
    rw [if_neg hk2]
    rw [← hxe]
    obtain ⟨q,hq⟩:∃ q,kidsOk k n=q:=⟨_,rfl⟩
    rw [hq]
    have hqH:=Hid.mk hq
    clear hq
    go_enter Tryz.func47,Tryz.ntmps47
    go_upto_block 1 with (fail)
    go_cut [3] (fun y wr=>y= .bool q∧wr=w'.alloc (.cells #[.int .i64 (k:Nat),.string x,.slice p n c] 57))
    case first=>
     clear hxe hl hn
     by_cases hk3:k=3
     ·subst hk3
      by_cases h:n=1
      ·have hni:((n:Int) !=1)=false:=by simp; omega
       have hH:=Hid.mk h
       clear h
       go_wp2_with (fail)
       have h:=hH.out
       go_meet
       exact ⟨by simp [← hqH.out,kidsOk, *],rfl⟩
      ·have hni:((n:Int) !=1)=true:=by simp; omega
       have hH:=Hid.mk h
       clear h
       go_wp2_with (fail)
       have h:=hH.out
       go_meet
       exact ⟨by simp [← hqH.out,kidsOk, *],rfl⟩
     ·have k3:((k:Int)==3)=false:=beq_ne (by omega)
      by_cases hk4:k=4
      ·subst hk4
       by_cases h:1 < n
       ·have hni:((1:Int) < n):=by omega
        have hH:=Hid.mk h
        clear h
        go_wp2_with (fail)
        have h:=hH.out
        go_meet
        exact ⟨by simp [← hqH.out,kidsOk, *],rfl⟩
       ·have hni:((1:Int) < n)=False:=eq_false (by omega)
        have hH:=Hid.mk h
        clear h
        go_wp2_with (fail)
        have h:=hH.out
        go_meet
        exact ⟨by simp [← hqH.out,kidsOk, *],rfl⟩
      ·have k4:((k:Int)==4)=false:=beq_ne (by omega)
       by_cases hk5:k=5∨k=6∨k=7
       ·by_cases h:n=1
        ·have hni:((n:Int)==1)=true:=by simp; omega
         have hH:=Hid.mk h
         clear h
         rcases hk5 with rfl | rfl | rfl
         all_goals
          go_wp2_with (fail)
          have h:=hH.out
          go_meet
          exact ⟨by simp [← hqH.out,kidsOk, *],rfl⟩
        ·have hni:((n:Int)==1)=false:=beq_ne (by omega)
         have hH:=Hid.mk h
         clear h
         rcases hk5 with rfl | rfl | rfl
         all_goals
          go_wp2_with (fail)
          have h:=hH.out
          go_meet
          exact ⟨by simp [← hqH.out,kidsOk, *],rfl⟩
       ·have k5:((k:Int)==5)=false:=beq_ne (by omega)
        have k6:((k:Int)==6)=false:=beq_ne (by omega)
        have k7:((k:Int)==7)=false:=beq_ne (by omega)
        go_wp2_with (fail)
        go_meet
        exact ⟨by simp [← hqH.out,kidsOk,hk3,hk4,hk5],rfl⟩
    case rest=>
     obtain ⟨rfl,rfl⟩:=hcut
     clear hxe
     clear hl hn hk1 hk2 k1 k2 hqH
     cases q with
     | false=>
      go_wp2_with (fail)
      go_ret
      exact ⟨by simp,(Below.refl _ w').alloc (Nat.le_refl _) _⟩
     | true=>
      cases hxe':(x.toList==[]) with
      | false=>
       go_wp2_with (fail)
       go_ret
       exact ⟨by simp [hxe'],(Below.refl _ w').alloc (Nat.le_refl _) _⟩
      | true=>
       go_wp2_with (fail)
       refine (hcon.out _ (hBH.out.alloc hBH.out.size _)).mono ?_
       rintro e w5 ⟨rfl,hB5⟩
       have hB5:=Hid.mk (((Below.refl _ w').alloc (Nat.le_refl _) _).trans (hB5.mono (by simp)))
       go_wp2_with (fail)
       go_ret
       exact ⟨by simp [hxe'],hB5.out⟩
end Go.Proofs.YtmenpmbgennhoaaGreatDoor

namespace Go.Proofs.YtmenpmbgennhoaaGreatDoor
open Go.RowKit
def properR (r:Rl):Bool:=goodN r.name && properT r.body
def properRs:List Rl→Bool
 | []=>true
 | a::l=>properR a && properRs l
def properG (g:Gr):Bool:=goodN g.start && (decide (0 < g.rules.length) && properRs g.rules)
theorem properRs_at:∀ (ks:List Rl) (i:Nat) (a:Rl),ks[i]?=some a→properRs (ks.drop i)=(properR a && properRs (ks.drop (i+1)))
 | a0::l,0,a,h=>by simp at h; subst h; simp [properRs]
 | a0::l,i+1,a,h=>by
  simp at h
  simpa using properRs_at l i a h
 | [],_,_,h=>by simp at h
def PrRC (w:World) (a:Rl) (s:Value):Prop:=∀ w',Below w.heap.size w w'→
 Calls Tryz.prog 46 #[ruleV a s] w' fun e w''=>e= .returned (.bool (!properR a))∧Below w'.heap.size w' w''
set_option maxRecDepth 100000 in
set_option maxHeartbeats 1600000 in
theorem idxr_any (S:Nat→Prop) (w:World) (ks:List Rl) (ss:List Value) (v:Value) (hl:ss.length=ks.length) (h1:SlAt S w v ks.length (rulesC ks ss))
  (hk:∀ (i:Nat) a s,ks[i]?=some a→ss[i]?=some s→PrRC w a s)
  (hf:∀ (i:Nat) a s,ks[i]?=some a→ss[i]?=some s→∃ p c,s= .slice p a.body.kids.length c) (w':World) (hB:Below w.heap.size w w') :
  Calls Tryz.prog 66 #[v,.func (.func 46) #[] #[]] w' fun e w''=>(∃ z:Int,e= .returned (.int .i64 z)∧decide (0≤z)= !properRs ks)∧Below w'.heap.size w' w'':=by
 obtain ⟨R,hR⟩:∃ R,properRs ks=R:=⟨_,rfl⟩
 rw [hR]
 obtain ⟨p,c,rfl⟩:=h1.form
 have h1H:=Hid.mk h1
 have hkH:=Hid.mk hk
 have hBH:=Hid.mk hB
 have hfH:=Hid.mk hf
 have hRH:=Hid.mk hR
 clear h1 hk hB hf hR
 go_enter Tryz.func66,Tryz.ntmps66
 go_wp2_with (fail)
 go_loopw [8] (fun x wr=>∃ i:Nat,x= .int .i64 (i:Nat)∧i≤ks.length∧properRs (ks.drop i)=R∧Below w'.heap.size w' wr) (fun x _=>ks.length - (intOf x).toNat)
 case atStart=>exact ⟨0,rfl,Nat.zero_le _,hRH.out,Below.refl _ _⟩
 case round=>
  obtain ⟨i,rfl,hi,hg,hBr⟩:=hrel
  have hBw:=hBH.out.trans (hBr.mono hBH.out.size)
  by_cases hlt:i < ks.length
  ·have hiI:(i:Int) < (ks.length:Int):=by omega
   obtain ⟨a,ha⟩:∃ a,ks[i]?=some a:=⟨_,List.getElem?_eq_getElem hlt⟩
   obtain ⟨s,hs⟩:∃ s,ss[i]?=some s:=⟨_,List.getElem?_eq_getElem (by omega)⟩
   obtain ⟨sp,sc,rfl⟩:=hfH.out i a s ha hs
   have hpr:=Hid.mk (hkH.out i a _ ha hs)
   rw [properRs_at ks i a ha] at hg
   obtain ⟨g,o,c0,he,hgs,hml,hcs⟩:=h1H.out.rcell ha hs
   cases he
   have hib:(i:Int) < 9223372036854775807:=by unfold maxLen at hml; omega
   clear hml
   have hcs:∀ j u,(ruleC a (.slice sp a.body.kids.length sc))[j]?=some u→wr.cell? ⟨g,o+i*4+j,none⟩=some u:=fun j u hu=>by
    rw [Nat.add_assoc,hBw.cell (by exact hgs)]; exact hcs j u hu
   have a0:=hcs 0 _ rfl
   have a1:=hcs 1 _ rfl
   have a2:=hcs 2 _ rfl
   have a3:=hcs 3 _ rfl
   simp only [Nat.add_zero] at a0
   have hgH:=Hid.mk hg
   have hBrH:=Hid.mk hBr
   have hBwH:=Hid.mk hBw
   clear hcs hg hBr hBw hgs ha hs
   go_wp2_with (fail)
   refine (hpr.out _ hBwH.out).mono ?_
   rintro e w5 ⟨rfl,hB5⟩
   have hB5:=Hid.mk (hBrH.out.trans (hB5.mono hBrH.out.size))
   cases hst:properR a with
   | true=>
    rw [hst,Bool.true_and] at hgH
    go_wp2_with (fail)
    exact ⟨⟨i+1,by simp,by omega,hgH.out,hB5.out⟩,by simp [intOf]; omega⟩
   | false=>
    rw [hst,Bool.false_and] at hgH
    have:=hgH.out
    subst this
    go_wp2_with (fail)
    go_ret
    exact ⟨⟨_,rfl,by simp⟩,hB5.out⟩
  ·have hiI:((i:Int) < (ks.length:Int))=False:=eq_false (by omega)
   have hd:ks.drop i=[]:=List.drop_eq_nil_of_le (by omega)
   rw [hd] at hg
   have hr:R=true:=by rw [← hg]; simp [properRs]
   subst hr
   have hBrH:=Hid.mk hBr
   clear hBr hBw hg hd
   go_wp2_with (fail)
   go_ret
   exact ⟨⟨_,rfl,by simp⟩,hBrH.out⟩
set_option maxRecDepth 100000 in
set_option maxHeartbeats 1600000 in
theorem conr_any (S:Nat→Prop) (w:World) (ks:List Rl) (ss:List Value) (v:Value) (hl:ss.length=ks.length) (h1:SlAt S w v ks.length (rulesC ks ss))
  (hk:∀ (i:Nat) a s,ks[i]?=some a→ss[i]?=some s→PrRC w a s)
  (hf:∀ (i:Nat) a s,ks[i]?=some a→ss[i]?=some s→∃ p c,s= .slice p a.body.kids.length c) (w':World) (hB:Below w.heap.size w w') :
  Calls Tryz.prog 45 #[v,.func (.func 46) #[] #[]] w' fun e w''=>e= .returned (.bool (!properRs ks))∧Below w'.heap.size w' w'':=by
 have h:=Hid.mk (idxr_any S w ks ss v hl h1 hk hf w' hB)
 obtain ⟨p,c,rfl⟩:=h1.form
 clear h1 hk hf hB
 generalize properRs ks=R at*
 go_enter Tryz.func45,Tryz.ntmps45
 go_wp2_with (fail)
 refine h.out.mono ?_
 rintro e w5 ⟨⟨z,rfl,hz⟩,hB5⟩
 have hB5:=Hid.mk hB5
 go_wp2_with (fail)
 go_ret
 exact ⟨by simp,hB5.out⟩
set_option maxRecDepth 100000 in
set_option maxHeartbeats 1600000 in
theorem prrc_of {S:Nat→Prop} {w:World} {a:Rl} {s:Value} (h:TrAt S w a.body s):PrRC w a s:=by
 intro w' hB
 obtain ⟨p,c,rfl⟩:=h.form
 have h:=Hid.mk (proper_any S w h)
 have hB:=Hid.mk hB
 unfold nodeV at h
 unfold ruleV properR
 have hgd:=Hid.mk (fun w=>good_any a.name w)
 generalize goodN a.name=q at*
 cases q with
 | false=>
  go_enter Tryz.func46,Tryz.ntmps46
  go_wp2_with (go_at_call 18; refine (hgd.out _).mono ?_; rintro e w' ⟨rfl,hw'⟩; subst w')
  go_ret
  exact ⟨by simp,(Below.refl _ w').alloc (Nat.le_refl _) _⟩
 | true=>
  go_enter Tryz.func46,Tryz.ntmps46
  go_wp2_with (go_at_call 18; refine (hgd.out _).mono ?_; rintro e w' ⟨rfl,hw'⟩; subst w')
  refine (h.out _ (hB.out.alloc hB.out.size _)).mono ?_
  rintro e w5 ⟨rfl,hB5⟩
  have hB5:=Hid.mk (((Below.refl _ w').alloc (Nat.le_refl _) _).trans (hB5.mono (by simp)))
  go_wp2_with (fail)
  go_ret
  exact ⟨by simp,hB5.out⟩
def gramV (g:Gr) (s:Value):Value:= .agg #[.string g.start,s]
set_option maxRecDepth 100000 in
set_option maxHeartbeats 1600000 in
theorem properG_any (S:Nat→Prop) (w:World) {g:Gr} {s:Value} (h:RsAt S w g.rules s) :
  Calls Tryz.prog 22 #[gramV g s] w fun e w'=>e= .returned (.bool (properG g))∧Below w.heap.size w w':=by
 obtain ⟨p,c,rfl⟩:=h.form
 obtain ⟨ss,hl,h1,h2⟩:=h
 have hs:=Hid.mk (fun w'' (hB'':Below w.heap.size w w'')=>conr_any S w g.rules ss _ hl h1 (fun i a s q1 q2=>prrc_of (h2 i a s q1 q2)) (fun i a s q1 q2=>(h2 i a s q1 q2).form) w'' hB'')
 unfold properG gramV
 clear h1 h2 hl
 have hgd:=Hid.mk (fun w=>good_any g.start w)
 generalize goodN g.start=q at*
 generalize properRs g.rules=r at*
 obtain ⟨n,hn⟩:∃ n,g.rules.length=n:=⟨_,rfl⟩
 simp only [hn] at hs ⊢
 cases q with
 | false=>
  go_enter Tryz.func22,Tryz.ntmps22
  go_wp2_with (go_at_call 18; refine (hgd.out _).mono ?_; rintro e w' ⟨rfl,hw'⟩; subst w')
  go_ret
  exact ⟨by simp,(Below.refl _ w).alloc (Nat.le_refl _) _⟩
 | true=>
  by_cases hp:0 < n
  ·have hpi:(0:Int) < (n:Int):=by omega
   rw [decide_eq_true hp]
   clear hp hn
   go_enter Tryz.func22,Tryz.ntmps22
   go_wp2_with (go_at_call 18; refine (hgd.out _).mono ?_; rintro e w' ⟨rfl,hw'⟩; subst w')
   refine (hs.out _ ((Below.refl _ w).alloc (Nat.le_refl _) _)).mono ?_
   rintro e w5 ⟨rfl,hB5⟩
   have hB5:=Hid.mk (((Below.refl _ w).alloc (Nat.le_refl _) _).trans (hB5.mono (by simp)))
   go_wp2_with (fail)
   go_ret
   exact ⟨by simp,hB5.out⟩
  ·have hpi:(0 < n)=False:=eq_false hp
   rw [decide_eq_false hp]
   clear hp hn
   go_enter Tryz.func22,Tryz.ntmps22
   go_wp2_with (go_at_call 18; refine (hgd.out _).mono ?_; rintro e w' ⟨rfl,hw'⟩; subst w')
   go_ret
   exact ⟨by simp,(Below.refl _ w).alloc (Nat.le_refl _) _⟩
end Go.Proofs.YtmenpmbgennhoaaGreatDoor
