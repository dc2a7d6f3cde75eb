/- syntax.Refs: the names that a node calls, in order. slices.Backward over rules, and symbols.firsts: the first rule of each name. -/
import Derived.Test.YtmenpmbgennhoaaGreatDoorMps
import Derived.Test.YtmenpmbgennhoaaGreatDoorPfs
import Derived.Test.YtmenpmbgennhoaaGreatDoorShl
import Derived.RangeFuncNested
import Derived.RangeFuncBound
import Derived.RangeFuncCalls
import Derived.RangeFuncLeaves
import Derived.Shelf.Abstract
import Derived.WalkKit
import Derived.OwnWalkIn
import Derived.TacticsInMore
import Derived.LoopNIn
import Derived.LoopIn
import Derived.Maps.OwnIn
namespace Go.Proofs.YtmenpmbgennhoaaGreatDoor
open Go.RowKit
mutual
def refsT:Tr→List ByteArray
 | .mk k x ks=>if k=1 then [x] else refsK ks
def refsK:List Tr→List ByteArray
 | []=>[]
 | a::l=>refsT a++refsK l
end
mutual
def nodesT:Tr→Nat
 | .mk _ _ ks=>1+nodesK ks
def nodesK:List Tr→Nat
 | []=>0
 | a::l=>nodesT a+nodesK l
end
mutual
theorem refs_le:∀ t:Tr,(refsT t).length≤nodesT t
 | .mk k x ks=>by
  have:=refsK_le ks
  rw [refsT,nodesT]
  split
  ·simp
  ·omega
theorem refsK_le:∀ l:List Tr,(refsK l).length≤nodesK l
 | []=>by simp [refsK,nodesK]
 | a::l=>by
  have h1:=refs_le a
  have h2:=refsK_le l
  rw [refsK,nodesK,List.length_append]
  omega
end
def StrsO (N:Nat) (w:World) (v:Value) (l:List ByteArray):Prop:=w.ownsRow N 9 1 v l.length (l.map Value.string)
theorem strRow:(Tryz.prog.info? 9).map (fun i=>(i.zero,i.size,i.bytes))=some (some (.string ⟨#[]⟩),1,16):=by kernel_rfl
theorem wp_build_str {o:Oper} {a:Act} {w:World} {K:Act→World→Prop} {Q:Exit→Act→World→Prop} (x:Operand) (ho:o.op= .buildSlice 31 1 #[(0,x)]) (s:ByteArray) (hx:a.eval x= .string s)
  (h:K (a.put o.dst (.slice (some ⟨w.heap.size,0,none⟩) 1 1)) (w.alloc (.cells #[.string s] 9))):o.wp Tryz.prog a w K Q:=by
 obtain ⟨i0,hi,hz0,hz1,hz2⟩:=info_parts strRow
 exact wp_build1 _ _ x ho _ hx _ i0 _ 1 Tryz.underlying31 hi hz0 hz1 (by decide) (by decide) (by
   have h:((Array.range (1*1)).map ((Value.string ⟨#[]⟩).cells[· % (Value.string ⟨#[]⟩).cells.size]!))=#[.string ⟨#[]⟩]:=by kernel_rfl
   rw [h]
   simp [Instr.fill,Value.cells]) h
theorem wp_append_str {o:Oper} {a:Act} {w:World} {K:Act→World→Prop} {Q:Exit→Act→World→Prop} (s x:Operand) (ho:o.op= .call { callee:= .builtin .append,args:=#[s,x],argTypes:=#[31,31] })
  (N:Nat) (v:Value) (l:List ByteArray) (hs:a.eval s=v) (hown:StrsO N w v l) (t:ByteArray) (g:Nat) (hx:a.eval x= .slice (some ⟨g,0,none⟩) 1 1)
  (hg:w.heap[g]?=some (.cells #[.string t] 9 (0,0))) (hl:l.length≤1000000000) (hN:N≤w.heap.size)
  (h:∀ g' c w',StrsO N w' (.slice (some ⟨g',0,none⟩) (l.length+1) c) (l++[t])→w.grownBy w' v.ownBlock→(v.ownBlock=some g'∨g'=w.heap.size)→K (a.put o.dst (.slice (some ⟨g',0,none⟩) (l.length+1) c)) w'):o.wp Tryz.prog a w K Q:=by
 obtain ⟨i0,hi,hz0,hz1,hz2⟩:=info_parts strRow
 refine wp_append_lies (P:=Tryz.prog) w s x _ ho N 9 i0 _ 1 16 Tryz.underlying31 hi hz0 hz1 hz2 rfl (by decide) v l.length _ hs hown ⟨g,0,none⟩ 1 1 [.string t] hx rfl (fun j u hj=> ?_) (fun u hu=>(by simp at hu; subst hu; rfl)) (by decide) (by simp [maxLen]; omega) (by omega) hN _ rfl (fun g' c w' h2 h3 h4 _=> ?_)
 ·have:w.cell? ⟨g,j,none⟩=(#[Value.string t]:Array Value)[j]?:=by simp [World.cell?,hg]
  rw [Addr.add_lit,Nat.zero_add,this]
  match j,hj with
  | 0,hj=>simpa using hj
 ·exact h g' c w' (by unfold StrsO; rw [List.map_append,List.length_append]; exact h2) h3 h4
def RfS (N C:Nat) (l:List ByteArray) (w:World):Prop:=∃ v,w.heap[C]?=some (.cells #[v] 31 (0,0))∧StrsO N w v l∧v.ownBlock≠some C∧N≤C
theorem RfS.blw {N C:Nat} {l:List ByteArray} {w w':World} (h:RfS N C l w) (hb:Below w.heap.size w w'):RfS N C l w':=by
 obtain ⟨v,h1,h2,h3,h4⟩:=h
 exact ⟨v,(hb.block C (Array.getElem?_eq_some_iff.1 h1).1).trans h1,ownsRow_sm h2 (fun g hg=>hb.block g (h2.lt g hg).2),h3,h4⟩
theorem RfS.le {N C:Nat} {l:List ByteArray} {w:World} (h:RfS N C l w):N < w.heap.size:=by
 obtain ⟨v,h1,h2,h3,h4⟩:=h
 have:=(Array.getElem?_eq_some_iff.1 h1).1
 omega
set_option maxRecDepth 100000 in
set_option maxHeartbeats 1600000 in
theorem clone_any (s:ByteArray) (hs:s.size≤65536) (w:World):Calls Tryz.prog 82 #[.string s] w fun e w'=>e= .returned (.string s)∧Below w.heap.size w w':=by
 have hc:=Hid.mk (fun w=>Tryz.stringslite_Clone s w (by omega))
 clear hs
 go_enter Tryz.func82,Tryz.ntmps82
 go_wp2_with (go_at_call 110; refine (hc.out _).mono ?_; rintro e w' ⟨rfl,hB⟩)
 go_ret
 exact ⟨rfl,hB⟩
set_option maxRecDepth 100000 in
set_option maxHeartbeats 1600000 in
theorem refs1_any (N C:Nat) (l:List ByteArray) (s:ByteArray) (hs:s.size≤65536) (hl:l.length≤1000000) (w:World) (h:RfS N C l w) :
  Calls Tryz.prog 81 #[.string s,.pointer (some ⟨C,0,none⟩)] w fun e w'=>e= .returned (.bool true)∧RfS N C (l++[s]) w'∧Below N w w':=by
 have hm:Tryz.prog.follows .mixedOrders=true:=rfl
 have hH:=Hid.mk h
 have hsH:=Hid.mk hs
 have hlH:=Hid.mk hl
 obtain ⟨v,h1,h2,h3,h4⟩:=h
 have c0:w.cell? ⟨C,0,none⟩=some v:=by simp [World.cell?,h1]
 obtain ⟨p,c,rfl⟩:=ownsRow_form h2
 have h1H:=Hid.mk h1
 have h2H:=Hid.mk h2
 have h3H:=Hid.mk h3
 have h4H:=Hid.mk h4
 clear hs hl h1 h2 h3 h4
 go_enter Tryz.func81,Tryz.ntmps81
 go_wp2_with (fail)
 refine Go.Ev.wp_region_pfe [2,3,4,5] 3 (fun u=>u.cell? ⟨C,0,none⟩=some (.slice p l.length c)) hm (by kernel_rfl) (by kernel_rfl) (by kernel_rfl) c0 ?_
 iterate 6
  first
  | refine Go.Ev.planF_skip (by rfl) ?_
  | (refine Go.Ev.planF_look (by rfl) _ (by rintro u K c4 hK; go_simp; exact hK _ rfl) ?_; simp only [Act.put,List.setIfInBounds_toArray,List.set_cons_succ,List.set_cons_zero])
 refine Go.Ev.planF_nil ?_
 refine Go.Ev.wpC_step rfl ?_
 rintro _ rfl K hK
 go_wp2_with (fail)
 go_at_call 82
 refine (clone_any s hsH.out _).mono ?_
 rintro e wz ⟨rfl,hBz⟩
 have hBw:Below w.heap.size w wz:=(blw_drewN _ w 1).trans hBz
 have hRz:=Hid.mk (hH.out.blw hBw)
 have e1:wz.cell? ⟨C,0,none⟩=some (.slice p l.length c):=by
  have:=(hBw.block C (Array.getElem?_eq_some_iff.1 h1H.out).1).trans h1H.out
  simp [World.cell?,this]
 have hz2:=Hid.mk (ownsRow_sm h2H.out (w':=wz) (fun g hg=>hBw.block g (h2H.out.lt g hg).2))
 have hz1:=Hid.mk ((hBw.block C (Array.getElem?_eq_some_iff.1 h1H.out).1).trans h1H.out)
 have hBwH:=Hid.mk (hBw.mono (Nat.le_of_lt hH.out.le))
 have hNz:N≤wz.heap.size:=Nat.le_trans (Nat.le_of_lt hH.out.le) hBw.size
 go_wp2_with (fail)
 refine hK _ _ (fun _=>e1) ?_
 clear hK K hBz hBw e1
 simp only [Act.put,List.setIfInBounds_toArray,List.set_cons_succ,List.set_cons_zero]
 refine Go.Ev.wpC_step rfl ?_
 rintro _ rfl K hK
 refine wp_build_str _ rfl s rfl ?_
 refine hK _ _ (fun _=> ?_) ?_
 ·have:(wz.alloc (.cells #[.string s] 9)).heap[C]?=_:=(Go.heap_alloc_old wz _ (Array.getElem?_eq_some_iff.1 hz1.out).1).trans hz1.out
  simp [World.cell?,this]
 clear hK K
 simp only [Act.put,List.setIfInBounds_toArray,List.set_cons_succ,List.set_cons_zero]
 refine Go.Ev.wpC_step rfl ?_
 rintro _ rfl K hK
 refine wp_append_str _ _ rfl N _ l rfl (ownsRow_sm hz2.out (fun g hg=>Go.heap_alloc_old wz _ (hz2.out.lt g hg).2)) s wz.heap.size rfl (heap_alloc_new wz _) (by have:=hlH.out; omega) (by simp; omega) ?_
 rintro g' c' w3 hown hgrow hat
 have hCz:=(Array.getElem?_eq_some_iff.1 hz1.out).1
 have h31:=(hgrow.block C (by simp; omega) (fun e=>h3H.out e.symm)).trans ((Go.heap_alloc_old wz _ hCz).trans hz1.out)
 have hgC:g'≠C:=by
  rcases hat with h | h
  ·intro e; subst e; exact h3H.out h
  ·simp at h; omega
 have hB3:Below N w w3:=(hBwH.out.alloc hNz _).grown hgrow (by simp; omega) (fun j hj=>(hz2.out.lt j hj).1)
 have hownH:=Hid.mk hown
 have hB3H:=Hid.mk hB3
 have h31H:=Hid.mk h31
 refine hK _ _ (fun _=>by simp [World.cell?,h31]) ?_
 clear hK K hown hgrow hat hB3
 simp only [Act.put,List.setIfInBounds_toArray,List.set_cons_succ,List.set_cons_zero]
 refine Go.Ev.wpC_step rfl ?_
 rintro _ rfl K hK
 have d0:w3.cell? ⟨C,0,none⟩=some (.slice p l.length c):=by simp [World.cell?,h31]
 have f0:w3.frozen? ⟨C,0,none⟩=false:=by simp [World.frozen?,h31]
 simp only [Act.put] at hK
 go_simp
 refine hK undef _ (fun h=>absurd h (by decide)) ?_
 clear hK K h31
 refine Go.Ev.wpC_end ?_
 rintro _ rfl
 go_wp2_with (fail)
 go_ret
 refine ⟨rfl,⟨_,(row_set h31H.out).trans (by simp),ownsRow_sm hownH.out (fun g hg=>Below.heap_setCell _ _ _ _ ?_),?_,h4H.out⟩,hB3H.out.setCell h4H.out _⟩
 ·simp [Value.ownBlock] at hg; subst hg; exact hgC
 ·simp [Value.ownBlock]; exact hgC
theorem SlAt.cellS {S:Nat→Prop} {w:World} {v:Value} {ks:List Tr} {ss:List Value} (h:SlAt S w v ks.length (nodesC ks ss)) {i:Nat} {t:Tr} {s:Value} (h1:ks[i]?=some t) (h2:ss[i]?=some s) :
  ∃ g o c,v= .slice (some ⟨g,o,none⟩) ks.length c∧S g∧g < w.heap.size∧ks.length≤maxLen∧∀ j u,(nodeC t s)[j]?=some u→w.cell? ⟨g,o+(i*3+j),none⟩=some u:=by
 obtain ⟨g,o,c,e,h3,h4,h5⟩:=h.cell h1 h2
 rcases h with ⟨p,c',e',h0⟩ | ⟨g',o',c',e',h6,_⟩
 ·have:=(List.getElem?_eq_some_iff.1 h1).1
  omega
 ·rw [e] at e'
  cases e'
  exact ⟨g,o,c,e,h6,h3,h4,h5⟩
def RefC (N:Nat) (t:Tr) (u:Value) (w0:World):Prop:=∀ (C:Nat) (l:List ByteArray) (w:World),Below N w0 w→RfS N C l w→l.length+nodesT t≤1000000→
 Calls Tryz.prog 80 #[u,.func (.func 81) #[] #[.pointer (some ⟨C,0,none⟩)]] w fun e w'=>e= .returned (.bool true)∧RfS N C (l++refsT t) w'∧Below N w w'
theorem refsK_at:∀ (ks:List Tr) (i:Nat) (a:Tr),ks[i]?=some a→refsK (ks.drop i)=refsT a++refsK (ks.drop (i+1))∧nodesK (ks.drop i)=nodesT a+nodesK (ks.drop (i+1))
 | a0::l,0,a,h=>by simp at h; subst h; simp [refsK,nodesK]
 | a0::l,i+1,a,h=>by
  simp at h
  simpa using refsK_at l i a h
 | [],_,_,h=>by simp at h
mutual
def shortT:Tr→Bool
 | .mk _ x ks=>decide (x.size≤65536) && shortK ks
def shortK:List Tr→Bool
 | []=>true
 | a::l=>shortT a && shortK l
end
theorem shortK_at:∀ (ks:List Tr) (i:Nat) (a:Tr),shortK ks=true→ks[i]?=some a→shortT a=true
 | a0::l,0,a,hs,h=>by simp at h; subst h; simp [shortK] at hs; exact hs.1
 | a0::l,i+1,a,hs,h=>by
  simp at h
  simp [shortK] at hs
  exact shortK_at l i a hs.2 h
 | [],_,_,_,h=>by simp at h
theorem RfS.base {N C:Nat} {l:List ByteArray} {w w':World} (h:RfS N C l w) (hb:Below w.heap.size w w'):RfS N C l w':=h.blw hb
set_option maxRecDepth 100000 in
set_option maxHeartbeats 1600000 in
theorem refs_any (N:Nat) (w0:World) (S:Nat→Prop) (hS:∀ g,S g→g < N) {t:Tr} {s:Value} (h:TrAt S w0 t s):shortT t=true→RefC N t (nodeV t s) w0:=by
 induction h with
 | mk k x ks v ss hl h1 h2 ih=>
  intro hsh C l w hB hR hn
  rw [shortT,Bool.and_eq_true] at hsh
  rw [nodesT] at hn
  have hx:=of_decide_eq_true hsh.1
  have ihH:=Hid.mk (fun i a s q1 q2=>ih i a s q1 q2 (shortK_at ks i a hsh.2 q1))
  have hfH:=Hid.mk (fun i a s q1 q2=>(h2 i a s q1 q2).form)
  obtain ⟨p,c,rfl⟩:=h1.form
  have h1H:=Hid.mk h1
  have hBH:=Hid.mk hB
  have hRH:=Hid.mk hR
  have hnH:=Hid.mk hn
  have hSH:=Hid.mk hS
  have hNw:N≤w.heap.size:=Nat.le_of_lt hR.le
  clear h1 hB hR hn hS ih h2 hsh
  unfold nodeV
  simp only [Tr.kind,Tr.text,Tr.kids]
  obtain ⟨L,hL⟩:∃ L,l++refsT (.mk k x ks)=L:=⟨_,rfl⟩
  rw [hL]
  rw [refsT] at hL
  by_cases hk1:k=1
  ·subst hk1
   rw [if_pos rfl] at hL
   subst hL
   have hc:=Hid.mk (fun w h=>refs1_any N C l x hx (by have:=hnH.out; omega) w h)
   clear hx
   go_enter Tryz.func80,Tryz.ntmps80
   go_wp2_with (fail)
   have hBa:Below w.heap.size w (w.alloc (.cells #[.int .i64 1,.string x,.slice p ks.length c] 57)):=(Below.refl _ w).alloc (Nat.le_refl _) _
   refine (hc.out _ (hRH.out.blw hBa)).mono ?_
   rintro e w5 ⟨rfl,hR5,hB5⟩
   have hR5:=Hid.mk hR5
   have hB5:=Hid.mk ((hBa.mono hNw).trans hB5)
   go_wp2_with (fail)
   go_ret
   exact ⟨rfl,hR5.out,hB5.out⟩
  ·have k1:((k:Int)==1)=false:=beq_ne (by omega)
   rw [if_neg hk1] at hL
   clear hk1 hx
   have hLH:=Hid.mk hL
   clear hL
   go_enter Tryz.func80,Tryz.ntmps80
   go_wp2_with (fail)
   have hBa:=Hid.mk ((Below.refl w.heap.size w).alloc (Nat.le_refl _) (.cells #[.int .i64 (k:Nat),.string x,.slice p ks.length c] 57))
   generalize w.alloc (.cells #[.int .i64 (k:Nat),.string x,.slice p ks.length c] 57)=wa at*
   go_loopw [17] (fun y wr=>∃ i:Nat,y= .int .i64 (i:Nat)∧i≤ks.length∧∃ l':List ByteArray,RfS N C l' wr∧l'++refsK (ks.drop i)=L∧l'.length+nodesK (ks.drop i)≤1000000∧Below N w wr) (fun y _=>ks.length - (intOf y).toNat)
   case atStart=>exact ⟨0,rfl,Nat.zero_le _,l,hRH.out.blw hBa.out,hLH.out,by have:=hnH.out; simp; omega,hBa.out.mono hNw⟩
   case round=>
    obtain ⟨i,rfl,hi,l',hRr,hLr,hnr,hBr⟩:=hrel
    have hNr:=Nat.le_of_lt hRr.le
    by_cases hlt:i < ks.length
    ·have hiI:(i:Int) < (ks.length:Int):=by omega
     obtain ⟨a,ha⟩:∃ a,ks[i]?=some a:=⟨_,List.getElem?_eq_getElem hlt⟩
     obtain ⟨s,hs⟩:∃ s,ss[i]?=some s:=⟨_,List.getElem?_eq_getElem (by omega)⟩
     obtain ⟨sp,sc,rfl⟩:=hfH.out i a s ha hs
     have hcall:=Hid.mk (ihH.out i a _ ha hs)
     obtain ⟨e1,e2⟩:=refsK_at ks i a ha
     rw [e1] at hLr
     rw [e2] at hnr
     obtain ⟨g,o,c0,he,hSg,hgs,hml,hcs⟩:=h1H.out.cellS ha hs
     cases he
     have hib:(i:Int) < 9223372036854775807:=by unfold maxLen at hml; omega
     have hBw:=hBH.out.trans hBr
     clear hml e1 e2
     have hgN:g < N:=hSH.out g hSg
     have hcs:∀ j u,(nodeC a (.slice sp a.kids.length sc))[j]?=some u→wr.cell? ⟨g,o+i*3+j,none⟩=some u:=fun j u hu=>by
      rw [Nat.add_assoc,hBw.cell (by exact hgN)]; exact hcs j u hu
     have a0:=hcs 0 _ rfl
     have a1:=hcs 1 _ rfl
     have a2:=hcs 2 _ rfl
     simp only [Nat.add_zero] at a0
     have hgr:g < wr.heap.size:=by omega
     have hgn:g≠wr.heap.size:=by omega
     have hRrH:=Hid.mk hRr
     have hLrH:=Hid.mk hLr
     have hnrH:=Hid.mk hnr
     have hBrH:=Hid.mk hBr
     have hBwH:=Hid.mk hBw
     clear hcs hRr hLr hnr hBr hBw hgs ha hs hgN hSg
     go_wp2_with (fail)
     have hBb:=Hid.mk ((Below.refl wr.heap.size wr).alloc (Nat.le_refl _) (.cells #[.int .i64 (a.kind:Nat),.string a.text,.slice sp a.kids.length sc] 57))
     refine (hcall.out C l' _ (hBwH.out.trans (hBb.out.mono hNr)) (hRrH.out.blw hBb.out) (by have:=hnrH.out; omega)).mono ?_
     rintro e w5 ⟨rfl,hR5,hB5⟩
     have hR5:=Hid.mk hR5
     have hB5:=Hid.mk (hBrH.out.trans ((hBb.out.mono hNr).trans hB5))
     go_wp2_with (fail)
     exact ⟨⟨i+1,by simp,by omega,_,hR5.out,by rw [List.append_assoc]; exact hLrH.out,by have:=hnrH.out; have:=refs_le a; simp; omega,hB5.out⟩,by simp [intOf]; omega⟩
    ·have hiI:((i:Int) < (ks.length:Int))=False:=eq_false (by omega)
     have hd:ks.drop i=[]:=List.drop_eq_nil_of_le (by omega)
     rw [hd,refsK,List.append_nil] at hLr
     subst hLr
     have hRrH:=Hid.mk hRr
     have hBrH:=Hid.mk hBr
     clear hRr hBr hd hnr
     go_wp2_with (fail)
     go_ret
     exact ⟨rfl,hRrH.out,hBrH.out⟩
set_option maxRecDepth 100000 in
set_option maxHeartbeats 1600000 in
theorem refsAll_any (w:World) (S:Nat→Prop) {t:Tr} {s:Value} (h:TrAt S w t s) (hsh:shortT t=true) (hn:nodesT t≤1000000) :
  Calls Tryz.prog 49 #[nodeV t s] w fun e w'=>∃ v,e= .returned v∧StrsO w.heap.size w' v (refsT t)∧Below w.heap.size w w':=by
 have hmf:∀ (fn:Fn) (first cap:Array Value) (w:World),(Instr.makeFunc fn first cap).run Tryz.prog w= .ok (.func fn first cap) w:=fun _ _ _ _=>rfl
 obtain ⟨p,c,rfl⟩:=h.form
 have hH:=Hid.mk (h.keep (S':=fun g=>g < w.heap.size) (Nat.le_refl _) fun g h1 h2=>⟨rfl,h2⟩)
 have hshH:=Hid.mk hsh
 have hnH:=Hid.mk hn
 clear h hsh hn
 unfold nodeV
 go_enter Tryz.func49,Tryz.ntmps49
 go_wp2_with (fail)
 generalize hwa:w.alloc (.cells #[.int .i64 (t.kind:Nat),.string t.text,.slice p t.kids.length c] 57)=wa
 have hsa:wa.heap.size=w.heap.size+1:=by subst hwa; simp
 have hBa:Below w.heap.size w wa:=by subst hwa; exact (Below.refl _ w).alloc (Nat.le_refl _) _
 have hRb:RfS w.heap.size (w.heap.size+1) [] (wa.alloc (.cells #[.slice none 0 0] 31)):=by
  rw [← hsa]
  exact ⟨_,heap_alloc_new wa _,⟨by simp,.inl ⟨rfl,rfl⟩⟩,by simp [Value.ownBlock],by omega⟩
 have hBb:Below w.heap.size w (wa.alloc (.cells #[.slice none 0 0] 31)):=hBa.alloc (by omega) _
 refine (refs_any w.heap.size w (fun g=>g < w.heap.size) (fun g h=>h) hH.out hshH.out (w.heap.size+1) [] _ hBb hRb (by have:=hnH.out; simpa using this)).mono ?_
 rintro e w5 ⟨rfl,hR5,hB5⟩
 have hB5:=Hid.mk (hBb.trans hB5)
 obtain ⟨v,q1,q2,q3,q4⟩:=hR5
 have q2:=Hid.mk q2
 have d0:w5.cell? ⟨w.heap.size+1,0,none⟩=some v:=by simp [World.cell?,q1]
 obtain ⟨p',c',rfl⟩:=ownsRow_form q2.out
 clear hwa hsa hBa hRb hBb q1 q3 q4
 go_wp2_with (fail)
 go_ret
 exact ⟨_,rfl,q2.out,hB5.out⟩
end Go.Proofs.YtmenpmbgennhoaaGreatDoor

namespace Go.Proofs.YtmenpmbgennhoaaGreatDoor
open Go.RowKit
attribute [local go_sem] Oper.semAt_some
structure KpB (M b:Nat) (W W':World):Prop where
 size:W.heap.size≤W'.heap.size
 blk:∀ i,i < M→i≠b→W'.heap[i]?=W.heap[i]?
theorem KpB.refl (M b:Nat) (W:World):KpB M b W W:=⟨Nat.le_refl _,fun _ _ _=>rfl⟩
theorem KpB.trans {M b:Nat} {A B C:World} (h:KpB M b A B) (k:KpB M b B C):KpB M b A C:=⟨Nat.le_trans h.size k.size,fun i h1 h2=>(k.blk i h1 h2).trans (h.blk i h1 h2)⟩
theorem KpB.cell {M b:Nat} {A B:World} (h:KpB M b A B) {p:Addr} (h1:p.block < M) (h2:p.block≠b):B.cell? p=A.cell? p:=by
 simp [World.cell?,h.blk _ h1 h2]
def rlAt (rs:List Rl) (i:Nat):Rl:=rs[i]?.getD ⟨⟨#[]⟩,.mk 0 ⟨#[]⟩ []⟩
def svAt (ss:List Value) (i:Nat):Value:=ss[i]?.getD (.slice none 0 0)
def cameN (n j:Nat):List Nat:=(List.range j).map (fun t=>n - 1 - t)
theorem cameN_succ (n j:Nat):cameN n (j+1)=cameN n j++[n - 1 - j]:=by simp [cameN,List.range_succ]
theorem cameN_len (n j:Nat):(cameN n j).length=j:=by simp [cameN]
set_option maxRecDepth 100000 in
set_option maxHeartbeats 2000000 in
theorem backward1_in (F:Fence) (n:Nat) (hf:F.fn 109) (hro:F.round=none) (hn:1≤n) (l Bs M b:Nat) (hBsM:Bs < M) (hBsb:Bs≠b) (S:Nat→Prop) (hSM:∀ g,S g→g < M∧g≠b)
  (rs:List Rl) (ss:List Value) (v:Value) (hl:ss.length=rs.length) (hfm:∀ i,∃ p c,svAt ss i= .slice p (rlAt rs i).body.kids.length c) (J Jx:List Nat→World→Prop)
  (hY:∀ pre x W,J pre W→pre.length < rs.length→YieldAt F (n - 1) Tryz.prog l #[.int .i64 (x:Nat),ruleV (rlAt rs x) (svAt ss x)] W fun e W'=>
   (e= .returned (.bool true)∧J (pre++[x]) W'∧KpB M b W W')∨(e= .returned (.bool false)∧Jx (pre++[x]) W'))
  (W:World) (hBs:W.cell? ⟨Bs,0,none⟩=some v) (hc:SlAt S W v rs.length (rulesC rs ss)) (h0:J [] W) :
  CallsIn F n Tryz.prog 109 #[.func (.yield l) #[] #[],.pointer (some ⟨Bs,0,none⟩)] W fun e W'=>(∃ v,e= .returned v)∧
   (J (cameN rs.length rs.length) W'∨∃ pre,Jx pre W'):=by
 obtain ⟨p,c,rfl⟩:=hc.form
 have hcH:=Hid.mk hc
 have hSH:=Hid.mk hSM
 have hlH:=Hid.mk hl
 have hfH:=Hid.mk hfm
 have hM:=Hid.mk hBsM
 have hb:=Hid.mk hBsb
 clear hc hSM hl hfm hBsM hBsb
 refine callsIn_of_wp Tryz.func109 rfl hf ?_ hro
 simp only [Tryz.ntmps109,List.size_toArray,List.length_cons,List.length_nil,Nat.reduceAdd,Nat.reduceSub,Array.replicate_succ,Array.replicate_zero,List.push_toArray,List.append_toArray,List.nil_append,List.cons_append]
 have hw0:IntKind.i64.wrap ((rs.length:Int) - 1)=(rs.length:Int) - 1:=by
  rcases hcH.out with ⟨_,_,_,h0⟩ | ⟨_,_,_,_,_,_,hm,_⟩
  ·rw [h0]; exact wi64 (by omega) (by omega)
  ·unfold maxLen at hm; exact wi64 (by omega) (by omega)
 gi_wp2
 gi_loopw [3] (fun i wr=>∃ (j:Nat) (z:Int),j≤rs.length∧i= .int .i64 z∧z=(rs.length:Int) - 1 - (j:Int)∧J (cameN rs.length j) wr∧KpB M b W wr)
  (fun i _=>(intOf i+1).toNat)
 case atStart=>exact ⟨0,_,Nat.zero_le _,rfl,by simp,h0,KpB.refl _ _ _⟩
 case round=>
  obtain ⟨j,z,hj,rfl,hz,hJ,hK⟩:=hrel
  by_cases hlt:j < rs.length
  ·obtain ⟨k,hk⟩:∃ k:Nat,k=rs.length - 1 - j:=⟨_,rfl⟩
   have hzk:z=(k:Int):=by omega
   subst hzk
   have hkl:k < rs.length:=by omega
   have ha:rs[k]?=some (rlAt rs k):=by unfold rlAt; rw [List.getElem?_eq_getElem hkl]; rfl
   have hs:ss[k]?=some (svAt ss k):=by unfold svAt; rw [List.getElem?_eq_getElem (by rw [hlH.out]; exact hkl)]; rfl
   obtain ⟨fn,tmps,assign,body,hy,hR⟩:=hY _ k wr hJ (by rw [cameN_len]; exact hlt)
   obtain ⟨sp,sc,hsv⟩:=hfH.out k
   unfold ruleV at hy
   rw [hsv] at hy hs
   obtain ⟨g,o,c0,he,hgs,hml,hcs⟩:=hcH.out.rcell ha hs
   have hSg:g < M∧g≠b:=by
    rcases hcH.out with ⟨_,_,_,h0⟩ | ⟨g',o',c',e',h6,_⟩
    ·omega
    ·cases he; cases e'; exact hSH.out _ h6
   cases he
   have hkI:(k:Int) < (rs.length:Int):=by omega
   have hw1:IntKind.i64.wrap ((k:Int) - 1)=(k:Int) - 1:=wi64 (by omega) (by unfold maxLen at hml; omega)
   have hcs:∀ j u,(ruleC (rlAt rs k) (.slice sp (rlAt rs k).body.kids.length sc))[j]?=some u→wr.cell? ⟨g,o+k*4+j,none⟩=some u:=fun j u hu=>by
    rw [Nat.add_assoc,hK.cell hSg.1 hSg.2]; exact hcs j u hu
   have a0:=hcs 0 _ rfl
   have a1:=hcs 1 _ rfl
   have a2:=hcs 2 _ rfl
   have a3:=hcs 3 _ rfl
   simp only [Nat.add_zero] at a0
   have hBr:wr.cell? ⟨Bs,0,none⟩=some (.slice (some ⟨g,o,none⟩) rs.length c):=(hK.cell hM.out hb.out).trans hBs
   have hKH:=Hid.mk hK
   have hzH:=Hid.mk hz
   have hjH:=Hid.mk (show j < rs.length from hlt)
   have hkH:=Hid.mk hk
   clear hcs hK hz hlt hk ha hs hgs hml hSg hJ hj hkl
   gi_wp2
   refine hR.mono ?_
   rintro e W3 (⟨rfl,hJ3,hk3⟩ | ⟨rfl,hJx3⟩)
   ·have hall:=Hid.mk (show _∧_ from ⟨hJ3,hk3⟩)
    clear hJ3 hk3
    gi_wp2
    go_roundw
    case rel=>exact ⟨j+1,_,by have:=hjH.out; omega,rfl,by have:=hkH.out; have:=hjH.out; omega,by rw [cameN_succ,← hkH.out]; exact hall.out.1,hKH.out.trans hall.out.2⟩
    case measure=>simp [intOf]
   ·have hall:=Hid.mk hJx3
    clear hJx3
    gi_wp2
    refine bodyPost_ret (results_none rfl _ _ _) rfl ?_
    exact ⟨⟨_,rfl⟩,.inr ⟨_,hall.out⟩⟩
  ·obtain rfl:j=rs.length:=by omega
   have hz1:z= -1:=by omega
   subst hz1
   clear hz hlt hj
   gi_wp2
   go_end0
   exact ⟨⟨_,rfl⟩,.inl hJ⟩
set_option maxRecDepth 100000 in
set_option maxHeartbeats 1000000 in
theorem backward_in (F:Fence) (n:Nat) (hf:F.fn 79) (hro:F.round=none) (a:Option Addr) (len cap:Nat) (w:World) :
  CallsIn F n Tryz.prog 79 #[.slice a len cap] w fun e w'=>e= .returned (.func (.func 109) #[] #[.pointer (some ⟨w.heap.size,0,none⟩)])∧w'=w.alloc (.cells #[.slice a len cap] 23):=by
 have hmf:∀ (fn:Fn) (first cap:Array Value) (w:World),(Instr.makeFunc fn first cap).run Tryz.prog w= .ok (.func fn first cap) w:=fun _ _ _ _=>rfl
 refine callsIn_of_wp Tryz.func79 rfl hf ?_ hro
 simp only [Tryz.ntmps79,List.size_toArray,List.length_cons,List.length_nil,Nat.reduceAdd,Nat.reduceSub,Array.replicate_succ,Array.replicate_zero,List.push_toArray,List.append_toArray,List.nil_append,List.cons_append]
 gi_wp2
 go_ret
 exact ⟨rfl,rfl⟩
def putN (rs:List Rl) (l:List Nat):ByteArray→Option Value:=l.foldl (fun f i=>mput f (rlAt rs i).name (.int .i64 (i:Nat))) (fun _=>none)
theorem putN_snoc (rs:List Rl) (l:List Nat) (i:Nat):putN rs (l++[i])=mput (putN rs l) (rlAt rs i).name (.int .i64 (i:Nat)):=by simp [putN]
def frst:List Rl→Nat→ByteArray→Option Nat
 | [],_,_=>none
 | r::l,i,s=>if s=r.name then some i else frst l (i+1) s
theorem frst_at (rs:List Rl) (k:Nat) (hk:k < rs.length) (s:ByteArray):frst (rs.drop k) k s=if s=(rlAt rs k).name then some k else frst (rs.drop (k+1)) (k+1) s:=by
 rw [List.drop_eq_getElem_cons hk,frst]
 have:rlAt rs k=rs[k]:=by unfold rlAt; rw [List.getElem?_eq_getElem hk]; rfl
 rw [this]
theorem putN_came (rs:List Rl):∀ j,j≤rs.length→putN rs (cameN rs.length j)=fun s=>(frst (rs.drop (rs.length - j)) (rs.length - j) s).map (fun i=>Value.int .i64 (i:Nat))
 | 0,_=>by
  funext s
  rw [Nat.sub_zero,List.drop_length]
  rfl
 | j+1,h=>by
  have ih:=putN_came rs j (by omega)
  rw [cameN_succ,putN_snoc,ih]
  funext s
  have e1:rs.length - 1 - j=rs.length - (j+1):=by omega
  have e2:rs.length - (j+1)+1=rs.length - j:=by omega
  rw [e1,frst_at rs (rs.length - (j+1)) (by omega) s,e2]
  unfold mput
  split
  ·rfl
  ·rfl
def firstV (rs:List Rl):ByteArray→Option Value:=fun s=>(frst rs 0 s).map (fun i=>Value.int .i64 (i:Nat))
theorem wpListIn_put_str {F:Fence} {nF:Nat} {P:Program} {w:World} {t k e:TypeId} {ops:Array Oper} {rest:List Oper} {o:Oper} {a:Act} {Q:Exit→Act→World→Prop} (hg:o.guard=none) (m x v:Operand) (hop:o.op=Op.mapUpdate t m x v) (ht:P.underlying t=some (.map k e)) (hk:P.underlying k=some .string)
  (b:Nat) (f:ByteArray→Option Value) (hm:a.eval m= .map (some b)) (h:MpS w b f) (s:ByteArray) (hx:a.eval x= .string s) (u:Value) (hv:a.eval v=u)
  (hK:∀ w',MpS w' b (mput f s u)→Onl b w w'→w'.heap.size=w.heap.size→wpListIn F nF P ops Q rest (a.put o.dst undef) w'):wpListIn F nF P ops Q (o::rest) a w:=by
 refine wpListIn_plain hg fun K' hK'=> ?_
 obtain ⟨w',hrun,r1,r2,r3⟩:=h.put (P:=P) ht hk s u
 unfold Oper.wpIn
 refine ⟨by simp [Oper.about,hop],?_⟩
 rw [Oper.semAt_plain F _ _ (by rw [hop]; intro c hc'; cases hc')]
 simp [execOp,hop,hm,hx,hv,hrun,Result.andThen]
 exact hK' _ _ (hK w' r1 r2 r3)
set_option maxRecDepth 100000 in
set_option maxHeartbeats 2000000 in
theorem firsts_in (S:Nat→Prop) (w:World) (g:Gr) (v:Value) (h:RsAt S w g.rules v) :
  CallsIn Fence.wide 4 Tryz.prog 48 #[gramV g v] w fun e w'=>∃ b,e= .returned (.map (some b))∧w.heap.size≤b∧MpS w' b (firstV g.rules)∧Below w.heap.size w w':=by
 have hmm:= @run_makeMap Tryz.prog
 obtain ⟨p,c,rfl⟩:=h.form
 obtain ⟨ss,hl,h1,h2⟩:=h
 have h1H:=Hid.mk h1
 have h2H:=Hid.mk h2
 have hlH:=Hid.mk hl
 clear h1 h2 hl
 unfold gramV
 obtain ⟨Z,hZ⟩:∃ Z,w.heap.size=Z:=⟨_,rfl⟩
 refine callsIn_of_wp_marks Tryz.func48 rfl trivial ?_ rfl
 simp only [Tryz.ntmps48,List.size_toArray,List.length_cons,List.length_nil,Nat.reduceAdd,Nat.reduceSub,Array.replicate_succ,Array.replicate_zero,List.push_toArray,List.append_toArray,List.nil_append,List.cons_append]
 gi_wp2_with (refine ⟨trivial,?_⟩; gi_at_call 79; refine (backward_in Fence.wide (4 - 1) trivial rfl _ _ _ _).mono ?_; rintro e w' ⟨rfl,rfl⟩)
 generalize hw1:w.alloc (.cells #[.string g.start,.slice p g.rules.length c] 25)=w1
 have hs1:w1.heap.size=Z+1:=by subst hw1; simp; omega
 have hB1:Below Z w w1:=by subst hw1; rw [← hZ]; exact (Below.refl _ w).alloc (Nat.le_refl _) _
 have hm2:=MpS.made w1
 rw [hs1] at hm2
 generalize hw2:w1.alloc (.map #[] 0)=w2 at hm2 ⊢
 have hs2:w2.heap.size=Z+2:=by subst hw2; simp; omega
 have hB2:Below Z w w2:=by subst hw2; exact hB1.alloc (by omega) _
 have hc3:=heap_alloc_new w2 (.cells #[.map (some (Z+1))] 67)
 rw [hs2] at hc3
 generalize hw3:w2.alloc (.cells #[.map (some (Z+1))] 67)=w3 at hc3 ⊢
 have hs3:w3.heap.size=Z+3:=by subst hw3; simp; omega
 have hB3:Below Z w w3:=by subst hw3; exact hB2.alloc (by omega) _
 have hm3:MpS w3 (Z+1) (fun _=>none):=by subst hw3; exact hm2.keep (Go.heap_alloc_old w2 _ (by omega))
 have hc4:=heap_alloc_new w3 (.cells #[.slice p g.rules.length c] 23)
 rw [hs3] at hc4
 simp only [show Z+1+1+1=Z+3 from rfl,show Z+1+1=Z+2 from rfl]
 have hc34:(w3.alloc (.cells #[.slice p g.rules.length c] 23)).heap[Z+2]?=some (.cells #[.map (some (Z+1))] 67 (0,0)):=(Go.heap_alloc_old w3 _ (by omega)).trans hc3
 have hm4:MpS (w3.alloc (.cells #[.slice p g.rules.length c] 23)) (Z+1) (fun _=>none):=hm3.keep (Go.heap_alloc_old w3 _ (by omega))
 have hB4:Below Z w (w3.alloc (.cells #[.slice p g.rules.length c] 23)):=hB3.alloc (by omega) _
 have hs4:(w3.alloc (.cells #[.slice p g.rules.length c] 23)).heap.size=Z+4:=by simp; omega
 generalize hw4:w3.alloc (.cells #[.slice p g.rules.length c] 23)=w4 at*
 clear hw1 hw2 hw3 hw4 hs1 hs2 hs3 hB1 hB2 hB3 hm2 hm3 hc3
 have hbox:w4.cell? ⟨Z+3,0,none⟩=some (.slice p g.rules.length c):=by simp [World.cell?,hc4]
 have hSl:SlAt (fun k=>k < Z) w4 (.slice p g.rules.length c) g.rules.length (rulesC g.rules ss):=h1H.out.keep (by omega) fun k _ h2=>⟨hB4.block k (by omega),by omega⟩
 have hfm:∀ i,∃ p c,svAt ss i= .slice p (rlAt g.rules i).body.kids.length c:=fun i=>by
  unfold svAt rlAt
  by_cases hi:i < g.rules.length
  ·rw [List.getElem?_eq_getElem hi,List.getElem?_eq_getElem (by rw [hlH.out]; exact hi)]
   exact (h2H.out i _ _ (List.getElem?_eq_getElem hi) (List.getElem?_eq_getElem (by rw [hlH.out]; exact hi))).form
  ·rw [show ss[i]?=none from List.getElem?_eq_none (by rw [hlH.out]; omega),show g.rules[i]?=none from List.getElem?_eq_none (by omega)]
   exact ⟨none,0,rfl⟩
 have hseq:SeqStopsK Fence.wide (4 - 1) Tryz.prog 109 #[.pointer (some ⟨Z+3,0,none⟩)] (fun x:Nat=>#[Value.int .i64 (x:Nat),ruleV (rlAt g.rules x) (svAt ss x)]) (KpB (Z+4) (Z+1)) (fun ys=>ys=cameN g.rules.length g.rules.length) (fun _=>True) g.rules.length w4:=fun l J Jx W hW _ _ hY h0=>by
  refine (backward1_in Fence.wide 3 trivial rfl (by omega) l (Z+3) (Z+4) (Z+1) (by omega) (by omega) (fun k=>k < Z) (fun k hk=>⟨by omega,by omega⟩) g.rules ss _ hlH.out hfm J Jx hY W ((hW.cell (by rw [hs4]; exact Nat.lt_succ_self _)).trans hbox) (hSl.keep hW.size fun k h1 h2=>⟨hW.block k h2,h1⟩) h0).mono ?_
  rintro e W' ⟨he,hj | ⟨pre,hj⟩⟩
  ·exact ⟨he,.inl ⟨_,rfl,hj⟩⟩
  ·exact ⟨he,.inr ⟨_,trivial,hj⟩⟩
 refine wpIn_rangeFunc_ownH rfl (by omega) (gf:=109) (lb:=#[.pointer (some ⟨Z+3,0,none⟩)]) rfl trivial (enters_of Tryz.func109 (by kernel_rfl) rfl) hseq KpB.trans (fun W l o o' hl _ _ _=>⟨by simp,fun i h1 _=>World.putObj_heap_other (by omega)⟩) (Below.refl _ _) (fun _=>rfl)
  (fun pre W=>W.heap[Z+2]?=some (.cells #[.map (some (Z+1))] 67 (0,0))∧MpS W (Z+1) (putN g.rules pre)∧Below Z w W∧Z+4≤W.heap.size) (fun _ _ _=>False)
  ?own (fun _ _ _ _ _ hs _ _=>hs) ⟨hc34,hm4,hB4,by omega⟩
  (fun x a' W=>∃ Bx,Z+4≤Bx∧W.heap[Bx]?=some (.cells (ruleC (rlAt g.rules x) (svAt ss x)).toArray 61 (0,0))∧a'={ tmps:=#[.agg #[.string g.start,.slice p g.rules.length c],.pointer (some ⟨Z,0,none⟩),.map none,.pointer (some ⟨Z+2,0,none⟩),.int .i64 (x:Nat),.pointer (some ⟨Bx,0,none⟩),.map (some (Z+1)),.pointer (some ⟨Z,1,none⟩),.slice p g.rules.length c,.func (.func 109) #[] #[.pointer (some ⟨Z+3,0,none⟩)],.int .i64 (x:Nat),ruleV (rlAt g.rules x) (svAt ss x),undef,undef,undef,undef,undef],defers:=[] }) ?ax ?assign ?body ?done ?stop
 case own=>
  rintro s A B row ⟨q1,q2,q3,q4⟩ hg hr
  have hr':∀ i,i < Z+4→some i≠row:=fun i hi e=>by have:=(hr i e.symm).1; omega
  exact ⟨(hg.block _ (by omega) (hr' _ (by omega))).trans q1,q2.keep (hg.block _ q2.lt (hr' _ (by omega))),q3.grown hg (by omega) (fun k e=>by have:=(hr k e).1; omega),Nat.le_trans q4 hg.size⟩
 case ax=>
  rintro x a' s A B row ⟨Bx,q1,q2,q3⟩ hg hr
  refine ⟨Bx,q1,(hg.block _ (Array.getElem?_eq_some_iff.1 q2).1 (fun e=> ?_)).trans q2,q3⟩
  obtain ⟨_,o,ho,hoc⟩:=hr Bx e.symm
  rw [q2] at ho
  cases ho
  cases hoc
 case assign=>
  rintro l pre x W K ⟨q1,q2,q3,q4⟩ hK
  obtain ⟨sp,sc,hsv⟩:=hfm x
  unfold ruleV
  rw [hsv] at hK ⊢
  have hBW:Below W.heap.size W (W.alloc (.cells (ruleC (rlAt g.rules x) (.slice sp (rlAt g.rules x).body.kids.length sc)).toArray 61)):=(Below.refl _ W).alloc (Nat.le_refl _) _
  have hfin:=hK { tmps:=#[.agg #[.string g.start,.slice p g.rules.length c],.pointer (some ⟨Z,0,none⟩),.map none,.pointer (some ⟨Z+2,0,none⟩),.int .i64 (x:Nat),.pointer (some ⟨W.heap.size,0,none⟩),.map (some (Z+1)),.pointer (some ⟨Z,1,none⟩),.slice p g.rules.length c,.func (.func 109) #[] #[.pointer (some ⟨Z+3,0,none⟩)],.int .i64 (x:Nat),ruleV (rlAt g.rules x) (.slice sp (rlAt g.rules x).body.kids.length sc),undef,undef,undef,undef,undef],defers:=[] } (W.alloc (.cells (ruleC (rlAt g.rules x) (.slice sp (rlAt g.rules x).body.kids.length sc)).toArray 61))
   ((KeepsOthers.alloc _ _).from _) ⟨by simp,fun i h1 _=>hBW.block i (by omega)⟩ ⟨(hBW.block _ (by omega)).trans q1,q2.blw hBW,q3.trans (hBW.mono (by omega)),by simp; omega⟩ ⟨W.heap.size,q4,heap_alloc_new W _,rfl⟩
  clear hK hBW
  unfold ruleC ruleV at hfin
  gi_wp2
  exact hfin
 case body=>
  rintro l pre x a' W hl - ⟨q1,q2,q3,q4⟩ ⟨Bx,hBx,hbx,rfl⟩ hlt
  obtain ⟨sp,sc,hsv⟩:=hfm x
  unfold ruleV
  rw [hsv] at hbx ⊢
  have b0:W.cell? ⟨Bx,0,none⟩=some (.string (rlAt g.rules x).name):=by simp [World.cell?,hbx,ruleC]
  have c0:W.cell? ⟨Z+2,0,none⟩=some (.map (some (Z+1))):=by simp [World.cell?,q1]
  gi_wp2_with (gi_at_mapUpdate; refine wpListIn_put_str rfl _ _ _ rfl Tryz.underlying67 Tryz.underlying9 (Z+1) _ rfl q2 _ rfl _ rfl ?_; intro w1 hm1 hon hsz1)
  refine ⟨⟨hon.size,fun k o hk ho hoc=>(hon.block k (Array.getElem?_eq_some_iff.1 ho).1 (fun e=>by cases e; omega)).trans ho⟩,⟨hon.size,fun i h1 h2=>hon.block i (by omega) (fun e=>h2 (by cases e; rfl))⟩,(hon.block _ (by omega) (fun e=>by injection e with e; omega)).trans q1,by rw [putN_snoc]; exact hm1,q3.trans (hon.blw (by omega) (by omega)),by omega⟩
 case done=>
  rintro D ys W hD rfl ⟨q1,q2,q3,q4⟩ hK
  have c0:W.cell? ⟨Z+2,0,none⟩=some (.map (some (Z+1))):=by simp [World.cell?,q1]
  gi_wp2
  refine ⟨by simp,.inl ⟨_,_,rfl,run_takeDeferred hK,?_⟩⟩
  refine ⟨_,results_tmp rfl _ _ _,Z+1,rfl,by omega,?_,?_⟩
  ·have e:=putN_came g.rules g.rules.length (Nat.le_refl _)
   rw [Nat.sub_self,List.drop_zero] at e
   have q2':MpS W (Z+1) (firstV g.rules):=by rw [e] at q2; exact q2
   exact q2'.keep (World.putObj_heap_other (by omega))
  ·rw [hZ]
   exact ⟨q3.os,q3.tape,q3.output,by simpa using q3.size,fun j hj=>(World.putObj_heap_other (by omega)).trans (q3.block j hj)⟩
 case stop=>
  rintro D c pre W _ _ h _
  exact h.elim
theorem firsts_any (S:Nat→Prop) (w:World) (g:Gr) (v:Value) (h:RsAt S w g.rules v) :
  Calls Tryz.prog 48 #[gramV g v] w fun e w'=>∃ b,e= .returned (.map (some b))∧w.heap.size≤b∧MpS w' b (firstV g.rules)∧Below w.heap.size w w':=
 callsIn_wide.1 (firsts_in S w g v h)
end Go.Proofs.YtmenpmbgennhoaaGreatDoor
