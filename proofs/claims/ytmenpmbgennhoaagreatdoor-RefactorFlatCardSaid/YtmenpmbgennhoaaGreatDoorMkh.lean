/- plain's maker: the productions of a thing. Printed by genpr.py. -/
import Derived.Test.YtmenpmbgennhoaaGreatDoorMke
namespace Go.Proofs.YtmenpmbgennhoaaGreatDoor
open Go.RowKit
set_option maxRecDepth 100000 in
set_option maxHeartbeats 6400000 in
theorem produce_any (Z M:Nat) (G:MkG) (V:MV) (st:Mk) (left:Nat) (rule:Bool) (t:Tr) (k:Nat) (w:World) (h:MkS Z M w.heap.size G V st w) (hp:MkP G st) (hE:PowB Z w) (hx:st.queue[left]?=some (t,k))
  (hone:rule=false→(t.kind=5∨t.kind=6∨t.kind=7)→t.kids.length=1) :
  Calls Tryz.prog 25 #[.pointer (some ⟨M,0,none⟩),.int .i64 (left:Nat),.bool rule] w fun e w'=>e= .returned (.tuple #[])∧∃ V',MkS Z M w'.heap.size G V' (produceF G.rs G.ts st left rule) w'∧Fr (MkA M V) w (MkA M V') w'∧MkP G (produceF G.rs G.ts st left rule):=by
 obtain ⟨R,hR⟩:∃ R,produceF G.rs G.ts st left rule=R:=⟨_,rfl⟩
 rw [hR]
 unfold produceF at hR
 rw [hx] at hR
 simp only at hR
 obtain ⟨gq,cq,s,hqv,hgq,ht,hcs⟩:=made_cells h hx
 obtain ⟨p,c,rfl⟩:=ht.form
 have c7:=h.c7
 rw [hqv] at c7
 have hlq:=(List.getElem?_eq_some_iff.1 hx).1
 have hql:=hp.ql
 have hnl:=hp.nl
 have hqI:(left:Int) < (st.queue.length:Int):=by omega
 have hlb:(left:Int) < 9223372036854775807:=by omega
 have q0:=hcs 0 _ rfl
 have q1:=hcs 1 _ rfl
 have q2:=hcs 2 _ rfl
 have q3:=hcs 3 _ rfl
 simp only [Nat.add_zero] at q0
 have hgn:gq≠w.heap.size:=by omega
 have hk:=Hid.mk (hp.qr (t,k) (List.mem_of_getElem? hx))
 obtain ⟨W,hW⟩:∃ W,w.heap.size=W:=⟨_,rfl⟩
 have hBw:=Hid.mk ((Below.refl w.heap.size w).alloc (Nat.le_refl _) (.cells #[.int .i64 (t.kind:Nat),.string t.text,.slice p t.kids.length c,.int .i64 (k:Nat)] 72))
 have hcw:=heap_alloc_new w (.cells #[.int .i64 (t.kind:Nat),.string t.text,.slice p t.kids.length c,.int .i64 (k:Nat)] 72)
 rw [hW] at hcw hgn
 have hSH:=Hid.mk h
 have hpH:=Hid.mk hp
 have hEH:=Hid.mk hE
 have htH:=Hid.mk ht
 have hRH:=Hid.mk hR
 have honeH:=Hid.mk hone
 have hgqW:gq < W:=by omega
 clear h hp hE hx ht hcs hlq hql hnl hR hone hgq hqv
 go_enter Tryz.func25,Tryz.ntmps25
 go_upto_region 1 with (fail)
 generalize hw1:w.alloc (.cells #[.int .i64 (t.kind:Nat),.string t.text,.slice p t.kids.length c,.int .i64 (k:Nat)] 72)=w1 at hcw hBw ⊢
 have z0:w1.cell? ⟨W,0,none⟩=some (.int .i64 (t.kind:Nat)):=by simp [World.cell?,hcw]
 have z1:w1.cell? ⟨W,1,none⟩=some (.string t.text):=by simp [World.cell?,hcw]
 have z2:w1.cell? ⟨W,2,none⟩=some (.slice p t.kids.length c):=by simp [World.cell?,hcw]
 have z3:w1.cell? ⟨W,3,none⟩=some (.int .i64 (k:Nat)):=by simp [World.cell?,hcw]
 have hs1:=Hid.mk (show w1.heap.size=W+1 by subst hw1; simp; omega)
 have hS1:=Hid.mk ((hSH.out.blw hBw.out).up hBw.out.size)
 have hF1:=Hid.mk (Fr.of (A:=MkA M V) hBw.out)
 have ht1:=Hid.mk (htH.out.keep (S':=fun k=>k < Z) hBw.out.size fun k h1 h2=>⟨hBw.out.block k h2,h1⟩)
 have hE1:=Hid.mk (hEH.out.blw (hBw.out.mono (Nat.le_of_lt hSH.out.zs)))
 have hW1:=Hid.mk hcw
 have hWZ:=Hid.mk (show Z≤W by have:=hSH.out.zs; omega)
 have hWA1:=Hid.mk (show ¬ MkA M V W from fun e=>by have:=hSH.out.lt e; omega)
 clear hw1 hcw q0 q1 q2 q3 hgn c7 hgqW hBw hqI hlb
 cases rule with
 | true=>
  have hRA:=hRH.out
  rw [if_pos (.inl rfl)] at hRA
  clear honeH
  have hRL:=Hid.mk hRA
  have hrw:=Hid.mk (rows_any (fun k=>k < Z) w1 ht1.out)
  unfold nodeV at hrw
  have hWq:=hW1
  have hWA:=hWA1
  have hPq0:=hpH
  go_wp2_with (fail)
  refine hrw.out.mono ?_
  rintro e w2 ⟨rv,rfl,hK2,hB2⟩
  obtain ⟨rp,rc,rfl⟩:=hK2.form
  obtain ⟨rws,hrws⟩:∃ rws,rowsT t=rws:=⟨_,rfl⟩
  rw [hrws] at hK2 hRL ⊢
  obtain ⟨NQ,hNQ0⟩:∃ NQ,w1.heap.size=NQ:=⟨_,rfl⟩
  have hKS:=Hid.mk (hK2.keep (S':=fun k=>k < Z∨NQ≤k) (T':=fun k=>k < Z) (Nat.le_refl _) (fun k h1 h2=>⟨rfl,h1.elim (fun e=> .inl e.1) (fun e=> .inr (by omega))⟩) (fun k h1 h2=>⟨rfl,h1.1⟩))
  have hNQ:=Hid.mk hNQ0
  obtain ⟨stq,hstq⟩:∃ stq,st=stq:=⟨_,rfl⟩
  have hSq:=hS1
  have hS2:=Hid.mk ((hS1.out.blw hB2).up hB2.size)
  have hPq:=hpH
  have hE2:=Hid.mk (hE1.out.blw (hB2.mono (Nat.le_of_lt hS1.out.zs)))
  have hFq:=Hid.mk (hF1.out.trans (Fr.of (A:=MkA M V) hB2))
  have hW2:=Hid.mk ((hB2.block W (Array.getElem?_eq_some_iff.1 hWq.out).1).trans hWq.out)
  have hW2l:=Hid.mk (Array.getElem?_eq_some_iff.1 hW2.out).1
  rw [hstq] at hSq hS2 hPq hRL
  obtain ⟨FIN,hFIN⟩:∃ FIN,eachF G.rs G.ts 0 left k stq rws=FIN:=⟨_,rfl⟩
  have hFIN:=Hid.mk hFIN
  clear hK2 hB2 hrws hstq hNQ0 hrw
  have hRFIN:=Hid.mk (hRL.out.symm.trans hFIN.out)
  clear z0 z1 z2 z3
  go_wp2_with (fail)
  go_loopw [36] (fun y wr=>∃ (i:Nat) (st':Mk) (V':MV),y= .int .i64 (i:Nat)∧i≤rws.length∧eachF G.rs G.ts 0 left k st' (rws.drop i)=FIN∧MkS Z M wr.heap.size G V' st' wr∧Fr (MkA M V) w2 (MkA M V') wr∧MkP G st') (fun y _=>rws.length - (intOf y).toNat)
  case atStart=>exact ⟨0,stq,V,rfl,Nat.zero_le _,hFIN.out,hS2.out,Fr.refl _ _,hPq.out⟩
  case round=>as_aux_lemma=>
   obtain ⟨i,st',V',rfl,hi,hl',hS,hF,hP⟩:=hrel
   by_cases hlt:i < rws.length
   ·have hiI:(i:Int) < (rws.length:Int):=by omega
    obtain ⟨a,ha⟩:∃ a,rws[i]?=some a:=⟨_,List.getElem?_eq_getElem hlt⟩
    obtain ⟨x,hx⟩:∃ x,rowF G.rs G.ts k st' (itemsT a) []=x:=⟨_,rfl⟩
    have hxl:x.2.length≤17:=by have:=rowF_le G.rs G.ts k (itemsT a) st' []; rw [hx] at this; simpa using this
    rw [eachF_at G.rs G.ts 0 left k st' rws i a ha x hx] at hl'
    rw [if_pos rfl] at hl'
    obtain ⟨g,o,c0,sv,he,hSg,hgs,hml,htr,hcs⟩:=hKS.out.cellS ha
    cases he
    obtain ⟨sp,sc,rfl⟩:=htr.form
    have hib:(i:Int) < 9223372036854775807:=by unfold maxLen at hml; omega
    have hkeep:∀ k,(k < Z∨NQ≤k)→k < w2.heap.size→wr.heap[k]?=w2.heap[k]?:=fun k h1 h2=>hF.blk k h2 (fun h3=>by
     rcases h1 with h1 | h1
     ·have:=hSq.out.ge h3; omega
     ·have:=hSq.out.lt h3; have:=hNQ.out; omega)
    have hcs:∀ j u,(nodeC a (.slice sp a.kids.length sc))[j]?=some u→wr.cell? ⟨g,o+i*3+j,none⟩=some u:=fun j u hu=>by
     have e1:=hkeep g hSg hgs
     have e2:=hcs j u hu
     rw [← Nat.add_assoc] at e2
     rw [← e2]
     simp [World.cell?,e1]
    have htr2:TrAt (fun k=>k < Z) wr a (.slice sp a.kids.length sc):=htr.keep hF.size fun k h1 h2=>⟨hkeep k (.inl h1) h2,h1⟩
    have a0:=hcs 0 _ rfl
    have a1:=hcs 1 _ rfl
    have a2:=hcs 2 _ rfl
    simp only [Nat.add_zero] at a0
    have hgr:g < wr.heap.size:=Nat.lt_of_lt_of_le hgs hF.size
    have hgn:g≠wr.heap.size:=by omega
    have hSSH:=Hid.mk hS
    have hFH:=Hid.mk hF
    have hPH:=Hid.mk hP
    have hlH:=Hid.mk hl'
    have hBb:=Hid.mk ((Below.refl wr.heap.size wr).alloc (Nat.le_refl _) (.cells #[.int .i64 (a.kind:Nat),.string a.text,.slice sp a.kids.length sc] 57))
    have hcb:=heap_alloc_new wr (.cells #[.int .i64 (a.kind:Nat),.string a.text,.slice sp a.kids.length sc] 57)
    obtain ⟨T,hT⟩:∃ T,wr.heap.size=T:=⟨_,rfl⟩
    rw [hT] at hcb hgn
    have htrH:=Hid.mk htr2
    have hWr:=Hid.mk ((hF.blk W hW2l.out hWA.out).trans hW2.out)
    have hxl:=Hid.mk hxl
    have hxH:=Hid.mk hx
    have hltH:=Hid.mk hlt
    clear hcs hS hF hP hl' htr htr2 hkeep hSg hgs hml hx hlt hi
    go_upto_region 10 with (fail)
    generalize hwb:wr.alloc (.cells #[.int .i64 (a.kind:Nat),.string a.text,.slice sp a.kids.length sc] 57)=wb at hcb hBb ⊢
    have hsb:wb.heap.size=T+1:=by subst hwb; simp; omega
    have t0:wb.cell? ⟨T,0,none⟩=some (.int .i64 (a.kind:Nat)):=by simp [World.cell?,hcb]
    have t1:wb.cell? ⟨T,1,none⟩=some (.string a.text):=by simp [World.cell?,hcb]
    have t2:wb.cell? ⟨T,2,none⟩=some (.slice sp a.kids.length sc):=by simp [World.cell?,hcb]
    have hWb:=(hBb.out.block W (Array.getElem?_eq_some_iff.1 hWr.out).1).trans hWr.out
    have x3:wb.cell? ⟨W,3,none⟩=some (.int .i64 (k:Nat)):=by simp [World.cell?,hWb]
    have hSbH:=Hid.mk (hSSH.out.blw hBb.out)
    have hFb:=Hid.mk (hFH.out.trans (Fr.of (A:=MkA M V') hBb.out))
    have hTH:=Hid.mk hT
    have hsbH:=Hid.mk hsb
    have htrb:=Hid.mk (htrH.out.keep (S':=fun k=>k < Z) hBb.out.size fun k h1 h2=>⟨hBb.out.block k h2,h1⟩)
    have hEb:PowB Z wb:=hE2.out.blw (hFb.out.blw (fun k e=>hSq.out.ge e) (Nat.le_of_lt hS2.out.zs))
    have hrow:=Hid.mk (mrow_any Z M wr.heap.size G V' st' a _ k wb hSbH.out hPH.out hEb htrb.out hk.out (by have:=hTH.out; have:=hsbH.out; omega))
    have hxe:rowF G.rs G.ts k st' (itemsT a) []=x:=hxH.out
    rw [hxe] at hrow
    unfold nodeV at hrow
    clear hwb hcb hT a0 a1 a2 hgn hgr hsb hWb hEb hxe
    go_wp2_with (fail)
    refine hrow.out.mono ?_
    rintro e w5 ⟨v5,V5,rfl,hO5,hS5,hF5,hP5,hn5⟩
    obtain ⟨p5,c5,rfl⟩:=ownsRow_form hO5
    have hP5:=Hid.mk hP5
    have hbs:Z≤wb.heap.size:=Nat.le_of_lt hSbH.out.zs
    have hF25:=hFb.out.trans hF5
    have hw2b:w2.heap.size≤wb.heap.size:=hFb.out.size
    have hwrb:wr.heap.size < wb.heap.size:=by have:=hTH.out; have:=hsbH.out; omega
    have hadd:=Hid.mk (add_any Z M w5.heap.size G V5 x.1 left x.2 _ w5 (hS5.up (Nat.le_trans (Nat.le_of_lt hwrb) hF5.size)) hP5.out (ints_of_own hO5 hbs (Nat.le_refl _) hn5))
    have hF25:=Hid.mk hF25
    clear hS5 hF5 hO5 hn5 t0 t1 t2 x3 hrow
    go_wp2_with (fail)
    refine hadd.out.mono ?_
    rintro e w6 ⟨rfl,V6,hS6,hF6⟩
    have hall:=Hid.mk (show _∧_ from ⟨hS6,hF6⟩)
    clear hS6 hF6 hadd
    go_wp2_with (fail)
    exact ⟨⟨i+1,_,V6,by simp,by have:=hltH.out; omega,hlH.out,hall.out.1.up hall.out.2.size,hF25.out.trans hall.out.2,hP5.out.add _ _⟩,by have:=hltH.out; simp [intOf]; omega⟩
   ·have hiI:((i:Int) < (rws.length:Int))=False:=eq_false (by omega)
    have hd:rws.drop i=[]:=List.drop_eq_nil_of_le (by omega)
    rw [hd,eachF] at hl'
    subst hl'
    have hall:=Hid.mk (show _∧_∧_ from ⟨hS,hF,hP⟩)
    clear hS hF hP hd
    go_wp2_with (fail)
    have hRe:=hRFIN.out
    subst hRe
    go_end0
    exact ⟨rfl,_,hall.out.1,hFq.out.trans hall.out.2.1,hall.out.2.2⟩
 | false=>
  have hRA:=hRH.out
  clear hRH
  by_cases h3:t.kind=3
  ·have k3:((t.kind:Int)==3)=true:=by simp; omega
   rw [if_pos (.inr (.inl h3))] at hRA
   clear h3
   clear honeH
   have hRL:=Hid.mk hRA
   have hrw:=Hid.mk (rows_any (fun k=>k < Z) w1 ht1.out)
   unfold nodeV at hrw
   have hWq:=hW1
   have hWA:=hWA1
   have hPq0:=hpH
   go_wp2_with (fail)
   refine hrw.out.mono ?_
   rintro e w2 ⟨rv,rfl,hK2,hB2⟩
   obtain ⟨rp,rc,rfl⟩:=hK2.form
   obtain ⟨rws,hrws⟩:∃ rws,rowsT t=rws:=⟨_,rfl⟩
   rw [hrws] at hK2 hRL ⊢
   obtain ⟨NQ,hNQ0⟩:∃ NQ,w1.heap.size=NQ:=⟨_,rfl⟩
   have hKS:=Hid.mk (hK2.keep (S':=fun k=>k < Z∨NQ≤k) (T':=fun k=>k < Z) (Nat.le_refl _) (fun k h1 h2=>⟨rfl,h1.elim (fun e=> .inl e.1) (fun e=> .inr (by omega))⟩) (fun k h1 h2=>⟨rfl,h1.1⟩))
   have hNQ:=Hid.mk hNQ0
   obtain ⟨stq,hstq⟩:∃ stq,st=stq:=⟨_,rfl⟩
   have hSq:=hS1
   have hS2:=Hid.mk ((hS1.out.blw hB2).up hB2.size)
   have hPq:=hpH
   have hE2:=Hid.mk (hE1.out.blw (hB2.mono (Nat.le_of_lt hS1.out.zs)))
   have hFq:=Hid.mk (hF1.out.trans (Fr.of (A:=MkA M V) hB2))
   have hW2:=Hid.mk ((hB2.block W (Array.getElem?_eq_some_iff.1 hWq.out).1).trans hWq.out)
   have hW2l:=Hid.mk (Array.getElem?_eq_some_iff.1 hW2.out).1
   rw [hstq] at hSq hS2 hPq hRL
   obtain ⟨FIN,hFIN⟩:∃ FIN,eachF G.rs G.ts 0 left k stq rws=FIN:=⟨_,rfl⟩
   have hFIN:=Hid.mk hFIN
   clear hK2 hB2 hrws hstq hNQ0 hrw
   have hRFIN:=Hid.mk (hRL.out.symm.trans hFIN.out)
   clear z0 z1 z2 z3
   go_wp2_with (fail)
   go_loopw [36] (fun y wr=>∃ (i:Nat) (st':Mk) (V':MV),y= .int .i64 (i:Nat)∧i≤rws.length∧eachF G.rs G.ts 0 left k st' (rws.drop i)=FIN∧MkS Z M wr.heap.size G V' st' wr∧Fr (MkA M V) w2 (MkA M V') wr∧MkP G st') (fun y _=>rws.length - (intOf y).toNat)
   case atStart=>exact ⟨0,stq,V,rfl,Nat.zero_le _,hFIN.out,hS2.out,Fr.refl _ _,hPq.out⟩
   case round=>as_aux_lemma=>
    obtain ⟨i,st',V',rfl,hi,hl',hS,hF,hP⟩:=hrel
    by_cases hlt:i < rws.length
    ·have hiI:(i:Int) < (rws.length:Int):=by omega
     obtain ⟨a,ha⟩:∃ a,rws[i]?=some a:=⟨_,List.getElem?_eq_getElem hlt⟩
     obtain ⟨x,hx⟩:∃ x,rowF G.rs G.ts k st' (itemsT a) []=x:=⟨_,rfl⟩
     have hxl:x.2.length≤17:=by have:=rowF_le G.rs G.ts k (itemsT a) st' []; rw [hx] at this; simpa using this
     rw [eachF_at G.rs G.ts 0 left k st' rws i a ha x hx] at hl'
     rw [if_pos rfl] at hl'
     obtain ⟨g,o,c0,sv,he,hSg,hgs,hml,htr,hcs⟩:=hKS.out.cellS ha
     cases he
     obtain ⟨sp,sc,rfl⟩:=htr.form
     have hib:(i:Int) < 9223372036854775807:=by unfold maxLen at hml; omega
     have hkeep:∀ k,(k < Z∨NQ≤k)→k < w2.heap.size→wr.heap[k]?=w2.heap[k]?:=fun k h1 h2=>hF.blk k h2 (fun h3=>by
      rcases h1 with h1 | h1
      ·have:=hSq.out.ge h3; omega
      ·have:=hSq.out.lt h3; have:=hNQ.out; omega)
     have hcs:∀ j u,(nodeC a (.slice sp a.kids.length sc))[j]?=some u→wr.cell? ⟨g,o+i*3+j,none⟩=some u:=fun j u hu=>by
      have e1:=hkeep g hSg hgs
      have e2:=hcs j u hu
      rw [← Nat.add_assoc] at e2
      rw [← e2]
      simp [World.cell?,e1]
     have htr2:TrAt (fun k=>k < Z) wr a (.slice sp a.kids.length sc):=htr.keep hF.size fun k h1 h2=>⟨hkeep k (.inl h1) h2,h1⟩
     have a0:=hcs 0 _ rfl
     have a1:=hcs 1 _ rfl
     have a2:=hcs 2 _ rfl
     simp only [Nat.add_zero] at a0
     have hgr:g < wr.heap.size:=Nat.lt_of_lt_of_le hgs hF.size
     have hgn:g≠wr.heap.size:=by omega
     have hSSH:=Hid.mk hS
     have hFH:=Hid.mk hF
     have hPH:=Hid.mk hP
     have hlH:=Hid.mk hl'
     have hBb:=Hid.mk ((Below.refl wr.heap.size wr).alloc (Nat.le_refl _) (.cells #[.int .i64 (a.kind:Nat),.string a.text,.slice sp a.kids.length sc] 57))
     have hcb:=heap_alloc_new wr (.cells #[.int .i64 (a.kind:Nat),.string a.text,.slice sp a.kids.length sc] 57)
     obtain ⟨T,hT⟩:∃ T,wr.heap.size=T:=⟨_,rfl⟩
     rw [hT] at hcb hgn
     have htrH:=Hid.mk htr2
     have hWr:=Hid.mk ((hF.blk W hW2l.out hWA.out).trans hW2.out)
     have hxl:=Hid.mk hxl
     have hxH:=Hid.mk hx
     have hltH:=Hid.mk hlt
     clear hcs hS hF hP hl' htr htr2 hkeep hSg hgs hml hx hlt hi
     go_upto_region 10 with (fail)
     generalize hwb:wr.alloc (.cells #[.int .i64 (a.kind:Nat),.string a.text,.slice sp a.kids.length sc] 57)=wb at hcb hBb ⊢
     have hsb:wb.heap.size=T+1:=by subst hwb; simp; omega
     have t0:wb.cell? ⟨T,0,none⟩=some (.int .i64 (a.kind:Nat)):=by simp [World.cell?,hcb]
     have t1:wb.cell? ⟨T,1,none⟩=some (.string a.text):=by simp [World.cell?,hcb]
     have t2:wb.cell? ⟨T,2,none⟩=some (.slice sp a.kids.length sc):=by simp [World.cell?,hcb]
     have hWb:=(hBb.out.block W (Array.getElem?_eq_some_iff.1 hWr.out).1).trans hWr.out
     have x3:wb.cell? ⟨W,3,none⟩=some (.int .i64 (k:Nat)):=by simp [World.cell?,hWb]
     have hSbH:=Hid.mk (hSSH.out.blw hBb.out)
     have hFb:=Hid.mk (hFH.out.trans (Fr.of (A:=MkA M V') hBb.out))
     have hTH:=Hid.mk hT
     have hsbH:=Hid.mk hsb
     have htrb:=Hid.mk (htrH.out.keep (S':=fun k=>k < Z) hBb.out.size fun k h1 h2=>⟨hBb.out.block k h2,h1⟩)
     have hEb:PowB Z wb:=hE2.out.blw (hFb.out.blw (fun k e=>hSq.out.ge e) (Nat.le_of_lt hS2.out.zs))
     have hrow:=Hid.mk (mrow_any Z M wr.heap.size G V' st' a _ k wb hSbH.out hPH.out hEb htrb.out hk.out (by have:=hTH.out; have:=hsbH.out; omega))
     have hxe:rowF G.rs G.ts k st' (itemsT a) []=x:=hxH.out
     rw [hxe] at hrow
     unfold nodeV at hrow
     clear hwb hcb hT a0 a1 a2 hgn hgr hsb hWb hEb hxe
     go_wp2_with (fail)
     refine hrow.out.mono ?_
     rintro e w5 ⟨v5,V5,rfl,hO5,hS5,hF5,hP5,hn5⟩
     obtain ⟨p5,c5,rfl⟩:=ownsRow_form hO5
     have hP5:=Hid.mk hP5
     have hbs:Z≤wb.heap.size:=Nat.le_of_lt hSbH.out.zs
     have hF25:=hFb.out.trans hF5
     have hw2b:w2.heap.size≤wb.heap.size:=hFb.out.size
     have hwrb:wr.heap.size < wb.heap.size:=by have:=hTH.out; have:=hsbH.out; omega
     have hadd:=Hid.mk (add_any Z M w5.heap.size G V5 x.1 left x.2 _ w5 (hS5.up (Nat.le_trans (Nat.le_of_lt hwrb) hF5.size)) hP5.out (ints_of_own hO5 hbs (Nat.le_refl _) hn5))
     have hF25:=Hid.mk hF25
     clear hS5 hF5 hO5 hn5 t0 t1 t2 x3 hrow
     go_wp2_with (fail)
     refine hadd.out.mono ?_
     rintro e w6 ⟨rfl,V6,hS6,hF6⟩
     have hall:=Hid.mk (show _∧_ from ⟨hS6,hF6⟩)
     clear hS6 hF6 hadd
     go_wp2_with (fail)
     exact ⟨⟨i+1,_,V6,by simp,by have:=hltH.out; omega,hlH.out,hall.out.1.up hall.out.2.size,hF25.out.trans hall.out.2,hP5.out.add _ _⟩,by have:=hltH.out; simp [intOf]; omega⟩
    ·have hiI:((i:Int) < (rws.length:Int))=False:=eq_false (by omega)
     have hd:rws.drop i=[]:=List.drop_eq_nil_of_le (by omega)
     rw [hd,eachF] at hl'
     subst hl'
     have hall:=Hid.mk (show _∧_∧_ from ⟨hS,hF,hP⟩)
     clear hS hF hP hd
     go_wp2_with (fail)
     have hRe:=hRFIN.out
     subst hRe
     go_end0
     exact ⟨rfl,_,hall.out.1,hFq.out.trans hall.out.2.1,hall.out.2.2⟩
  ·have k3:((t.kind:Int)==3)=false:=beq_ne (by omega)
   by_cases h4:t.kind=4
   ·have k4:((t.kind:Int)==4)=true:=by simp; omega
    rw [if_pos (.inr (.inr h4))] at hRA
    clear h3 h4
    clear honeH
    have hRL:=Hid.mk hRA
    have hrw:=Hid.mk (rows_any (fun k=>k < Z) w1 ht1.out)
    unfold nodeV at hrw
    have hWq:=hW1
    have hWA:=hWA1
    have hPq0:=hpH
    go_wp2_with (fail)
    refine hrw.out.mono ?_
    rintro e w2 ⟨rv,rfl,hK2,hB2⟩
    obtain ⟨rp,rc,rfl⟩:=hK2.form
    obtain ⟨rws,hrws⟩:∃ rws,rowsT t=rws:=⟨_,rfl⟩
    rw [hrws] at hK2 hRL ⊢
    obtain ⟨NQ,hNQ0⟩:∃ NQ,w1.heap.size=NQ:=⟨_,rfl⟩
    have hKS:=Hid.mk (hK2.keep (S':=fun k=>k < Z∨NQ≤k) (T':=fun k=>k < Z) (Nat.le_refl _) (fun k h1 h2=>⟨rfl,h1.elim (fun e=> .inl e.1) (fun e=> .inr (by omega))⟩) (fun k h1 h2=>⟨rfl,h1.1⟩))
    have hNQ:=Hid.mk hNQ0
    obtain ⟨stq,hstq⟩:∃ stq,st=stq:=⟨_,rfl⟩
    have hSq:=hS1
    have hS2:=Hid.mk ((hS1.out.blw hB2).up hB2.size)
    have hPq:=hpH
    have hE2:=Hid.mk (hE1.out.blw (hB2.mono (Nat.le_of_lt hS1.out.zs)))
    have hFq:=Hid.mk (hF1.out.trans (Fr.of (A:=MkA M V) hB2))
    have hW2:=Hid.mk ((hB2.block W (Array.getElem?_eq_some_iff.1 hWq.out).1).trans hWq.out)
    have hW2l:=Hid.mk (Array.getElem?_eq_some_iff.1 hW2.out).1
    rw [hstq] at hSq hS2 hPq hRL
    obtain ⟨FIN,hFIN⟩:∃ FIN,eachF G.rs G.ts 0 left k stq rws=FIN:=⟨_,rfl⟩
    have hFIN:=Hid.mk hFIN
    clear hK2 hB2 hrws hstq hNQ0 hrw
    have hRFIN:=Hid.mk (hRL.out.symm.trans hFIN.out)
    clear z0 z1 z2 z3
    go_wp2_with (fail)
    go_loopw [36] (fun y wr=>∃ (i:Nat) (st':Mk) (V':MV),y= .int .i64 (i:Nat)∧i≤rws.length∧eachF G.rs G.ts 0 left k st' (rws.drop i)=FIN∧MkS Z M wr.heap.size G V' st' wr∧Fr (MkA M V) w2 (MkA M V') wr∧MkP G st') (fun y _=>rws.length - (intOf y).toNat)
    case atStart=>exact ⟨0,stq,V,rfl,Nat.zero_le _,hFIN.out,hS2.out,Fr.refl _ _,hPq.out⟩
    case round=>as_aux_lemma=>
     obtain ⟨i,st',V',rfl,hi,hl',hS,hF,hP⟩:=hrel
     by_cases hlt:i < rws.length
     ·have hiI:(i:Int) < (rws.length:Int):=by omega
      obtain ⟨a,ha⟩:∃ a,rws[i]?=some a:=⟨_,List.getElem?_eq_getElem hlt⟩
      obtain ⟨x,hx⟩:∃ x,rowF G.rs G.ts k st' (itemsT a) []=x:=⟨_,rfl⟩
      have hxl:x.2.length≤17:=by have:=rowF_le G.rs G.ts k (itemsT a) st' []; rw [hx] at this; simpa using this
      rw [eachF_at G.rs G.ts 0 left k st' rws i a ha x hx] at hl'
      rw [if_pos rfl] at hl'
      obtain ⟨g,o,c0,sv,he,hSg,hgs,hml,htr,hcs⟩:=hKS.out.cellS ha
      cases he
      obtain ⟨sp,sc,rfl⟩:=htr.form
      have hib:(i:Int) < 9223372036854775807:=by unfold maxLen at hml; omega
      have hkeep:∀ k,(k < Z∨NQ≤k)→k < w2.heap.size→wr.heap[k]?=w2.heap[k]?:=fun k h1 h2=>hF.blk k h2 (fun h3=>by
       rcases h1 with h1 | h1
       ·have:=hSq.out.ge h3; omega
       ·have:=hSq.out.lt h3; have:=hNQ.out; omega)
      have hcs:∀ j u,(nodeC a (.slice sp a.kids.length sc))[j]?=some u→wr.cell? ⟨g,o+i*3+j,none⟩=some u:=fun j u hu=>by
       have e1:=hkeep g hSg hgs
       have e2:=hcs j u hu
       rw [← Nat.add_assoc] at e2
       rw [← e2]
       simp [World.cell?,e1]
      have htr2:TrAt (fun k=>k < Z) wr a (.slice sp a.kids.length sc):=htr.keep hF.size fun k h1 h2=>⟨hkeep k (.inl h1) h2,h1⟩
      have a0:=hcs 0 _ rfl
      have a1:=hcs 1 _ rfl
      have a2:=hcs 2 _ rfl
      simp only [Nat.add_zero] at a0
      have hgr:g < wr.heap.size:=Nat.lt_of_lt_of_le hgs hF.size
      have hgn:g≠wr.heap.size:=by omega
      have hSSH:=Hid.mk hS
      have hFH:=Hid.mk hF
      have hPH:=Hid.mk hP
      have hlH:=Hid.mk hl'
      have hBb:=Hid.mk ((Below.refl wr.heap.size wr).alloc (Nat.le_refl _) (.cells #[.int .i64 (a.kind:Nat),.string a.text,.slice sp a.kids.length sc] 57))
      have hcb:=heap_alloc_new wr (.cells #[.int .i64 (a.kind:Nat),.string a.text,.slice sp a.kids.length sc] 57)
      obtain ⟨T,hT⟩:∃ T,wr.heap.size=T:=⟨_,rfl⟩
      rw [hT] at hcb hgn
      have htrH:=Hid.mk htr2
      have hWr:=Hid.mk ((hF.blk W hW2l.out hWA.out).trans hW2.out)
      have hxl:=Hid.mk hxl
      have hxH:=Hid.mk hx
      have hltH:=Hid.mk hlt
      clear hcs hS hF hP hl' htr htr2 hkeep hSg hgs hml hx hlt hi
      go_upto_region 10 with (fail)
      generalize hwb:wr.alloc (.cells #[.int .i64 (a.kind:Nat),.string a.text,.slice sp a.kids.length sc] 57)=wb at hcb hBb ⊢
      have hsb:wb.heap.size=T+1:=by subst hwb; simp; omega
      have t0:wb.cell? ⟨T,0,none⟩=some (.int .i64 (a.kind:Nat)):=by simp [World.cell?,hcb]
      have t1:wb.cell? ⟨T,1,none⟩=some (.string a.text):=by simp [World.cell?,hcb]
      have t2:wb.cell? ⟨T,2,none⟩=some (.slice sp a.kids.length sc):=by simp [World.cell?,hcb]
      have hWb:=(hBb.out.block W (Array.getElem?_eq_some_iff.1 hWr.out).1).trans hWr.out
      have x3:wb.cell? ⟨W,3,none⟩=some (.int .i64 (k:Nat)):=by simp [World.cell?,hWb]
      have hSbH:=Hid.mk (hSSH.out.blw hBb.out)
      have hFb:=Hid.mk (hFH.out.trans (Fr.of (A:=MkA M V') hBb.out))
      have hTH:=Hid.mk hT
      have hsbH:=Hid.mk hsb
      have htrb:=Hid.mk (htrH.out.keep (S':=fun k=>k < Z) hBb.out.size fun k h1 h2=>⟨hBb.out.block k h2,h1⟩)
      have hEb:PowB Z wb:=hE2.out.blw (hFb.out.blw (fun k e=>hSq.out.ge e) (Nat.le_of_lt hS2.out.zs))
      have hrow:=Hid.mk (mrow_any Z M wr.heap.size G V' st' a _ k wb hSbH.out hPH.out hEb htrb.out hk.out (by have:=hTH.out; have:=hsbH.out; omega))
      have hxe:rowF G.rs G.ts k st' (itemsT a) []=x:=hxH.out
      rw [hxe] at hrow
      unfold nodeV at hrow
      clear hwb hcb hT a0 a1 a2 hgn hgr hsb hWb hEb hxe
      go_wp2_with (fail)
      refine hrow.out.mono ?_
      rintro e w5 ⟨v5,V5,rfl,hO5,hS5,hF5,hP5,hn5⟩
      obtain ⟨p5,c5,rfl⟩:=ownsRow_form hO5
      have hP5:=Hid.mk hP5
      have hbs:Z≤wb.heap.size:=Nat.le_of_lt hSbH.out.zs
      have hF25:=hFb.out.trans hF5
      have hw2b:w2.heap.size≤wb.heap.size:=hFb.out.size
      have hwrb:wr.heap.size < wb.heap.size:=by have:=hTH.out; have:=hsbH.out; omega
      have hadd:=Hid.mk (add_any Z M w5.heap.size G V5 x.1 left x.2 _ w5 (hS5.up (Nat.le_trans (Nat.le_of_lt hwrb) hF5.size)) hP5.out (ints_of_own hO5 hbs (Nat.le_refl _) hn5))
      have hF25:=Hid.mk hF25
      clear hS5 hF5 hO5 hn5 t0 t1 t2 x3 hrow
      go_wp2_with (fail)
      refine hadd.out.mono ?_
      rintro e w6 ⟨rfl,V6,hS6,hF6⟩
      have hall:=Hid.mk (show _∧_ from ⟨hS6,hF6⟩)
      clear hS6 hF6 hadd
      go_wp2_with (fail)
      exact ⟨⟨i+1,_,V6,by simp,by have:=hltH.out; omega,hlH.out,hall.out.1.up hall.out.2.size,hF25.out.trans hall.out.2,hP5.out.add _ _⟩,by have:=hltH.out; simp [intOf]; omega⟩
     ·have hiI:((i:Int) < (rws.length:Int))=False:=eq_false (by omega)
      have hd:rws.drop i=[]:=List.drop_eq_nil_of_le (by omega)
      rw [hd,eachF] at hl'
      subst hl'
      have hall:=Hid.mk (show _∧_∧_ from ⟨hS,hF,hP⟩)
      clear hS hF hP hd
      go_wp2_with (fail)
      have hRe:=hRFIN.out
      subst hRe
      go_end0
      exact ⟨rfl,_,hall.out.1,hFq.out.trans hall.out.2.1,hall.out.2.2⟩
   ·have k4:((t.kind:Int)==4)=false:=beq_ne (by omega)
    rw [if_neg (by simp [h3,h4])] at hRA
    by_cases h5:t.kind=5
    ·have k5:((t.kind:Int)==5)=true:=by simp; omega
     rw [if_pos h5] at hRA
     have hk1:=honeH.out rfl (by omega)
     clear honeH h3 h4 h5
     obtain ⟨kd,hkd⟩:∃ kd,t.kids[0]?=some kd:=⟨_,List.getElem?_eq_getElem (by omega)⟩
     have hkk:kid0 t=kd:=by unfold kid0; rw [hkd]; rfl
     rw [hkk] at hRA
     have hk0:0 < t.kids.length:=by omega
     have hkI:(0:Int) < (t.kids.length:Int):=by omega
     clear hk1
     obtain ⟨gk,ok,ck,sk,he,hSk,hgk,hmk,htk,hck⟩:=ht1.out.kidsIn.cellS hkd
     cases he
     obtain ⟨sp,sc,rfl⟩:=htk.form
     have b0:w1.cell? ⟨gk,ok,none⟩=some (.int .i64 (kd.kind:Nat)):=by have:=hck 0 _ rfl; simpa using this
     have b1:w1.cell? ⟨gk,ok+1,none⟩=some (.string kd.text):=by have:=hck 1 _ rfl; simpa using this
     have b2:w1.cell? ⟨gk,ok+2,none⟩=some (.slice sp kd.kids.length sc):=by have:=hck 2 _ rfl; simpa using this
     have hrw:=Hid.mk (rows_any (fun k=>k < Z) w1 htk)
     unfold nodeV at hrw
     clear hck hSk hgk hmk htk hkd
     have hRL:=Hid.mk hRA
     have hWq:=hW1
     have hWA:=hWA1
     go_wp2_with (fail)
     refine hrw.out.mono ?_
     rintro e w2 ⟨rv,rfl,hK2,hB2⟩
     obtain ⟨rp,rc,rfl⟩:=hK2.form
     obtain ⟨rws,hrws⟩:∃ rws,rowsT kd=rws:=⟨_,rfl⟩
     rw [hrws] at hK2 hRL ⊢
     obtain ⟨NQ,hNQ0⟩:∃ NQ,w1.heap.size=NQ:=⟨_,rfl⟩
     have hKS:=Hid.mk (hK2.keep (S':=fun k=>k < Z∨NQ≤k) (T':=fun k=>k < Z) (Nat.le_refl _) (fun k h1 h2=>⟨rfl,h1.elim (fun e=> .inl e.1) (fun e=> .inr (by omega))⟩) (fun k h1 h2=>⟨rfl,h1.1⟩))
     have hNQ:=Hid.mk hNQ0
     obtain ⟨stq,hstq⟩:∃ stq,st=stq:=⟨_,rfl⟩
     have hSq:=hS1
     have hS2:=Hid.mk ((hS1.out.blw hB2).up hB2.size)
     have hPq:=hpH
     have hE2:=Hid.mk (hE1.out.blw (hB2.mono (Nat.le_of_lt hS1.out.zs)))
     have hFq:=Hid.mk (hF1.out.trans (Fr.of (A:=MkA M V) hB2))
     have hW2:=Hid.mk ((hB2.block W (Array.getElem?_eq_some_iff.1 hWq.out).1).trans hWq.out)
     have hW2l:=Hid.mk (Array.getElem?_eq_some_iff.1 hW2.out).1
     rw [hstq] at hSq hS2 hPq hRL
     obtain ⟨FIN,hFIN⟩:∃ FIN,eachF G.rs G.ts 0 left k stq rws=FIN:=⟨_,rfl⟩
     have hFIN:=Hid.mk hFIN
     clear hK2 hB2 hrws hstq hNQ0 hrw
     rw [hFIN.out] at hRL
     clear z0 z1 z2 z3
     go_wp2_with (fail)
     go_loopw [58] (fun y wr=>∃ (i:Nat) (st':Mk) (V':MV),y= .int .i64 (i:Nat)∧i≤rws.length∧eachF G.rs G.ts 0 left k st' (rws.drop i)=FIN∧MkS Z M wr.heap.size G V' st' wr∧Fr (MkA M V) w2 (MkA M V') wr∧MkP G st') (fun y _=>rws.length - (intOf y).toNat)
     case atStart=>exact ⟨0,stq,V,rfl,Nat.zero_le _,hFIN.out,hS2.out,Fr.refl _ _,hPq.out⟩
     case round=>as_aux_lemma=>
      obtain ⟨i,st',V',rfl,hi,hl',hS,hF,hP⟩:=hrel
      by_cases hlt:i < rws.length
      ·have hiI:(i:Int) < (rws.length:Int):=by omega
       obtain ⟨a,ha⟩:∃ a,rws[i]?=some a:=⟨_,List.getElem?_eq_getElem hlt⟩
       obtain ⟨x,hx⟩:∃ x,rowF G.rs G.ts k st' (itemsT a) []=x:=⟨_,rfl⟩
       have hxl:x.2.length≤17:=by have:=rowF_le G.rs G.ts k (itemsT a) st' []; rw [hx] at this; simpa using this
       rw [eachF_at G.rs G.ts 0 left k st' rws i a ha x hx] at hl'
       rw [if_pos rfl] at hl'
       obtain ⟨g,o,c0,sv,he,hSg,hgs,hml,htr,hcs⟩:=hKS.out.cellS ha
       cases he
       obtain ⟨sp,sc,rfl⟩:=htr.form
       have hib:(i:Int) < 9223372036854775807:=by unfold maxLen at hml; omega
       have hkeep:∀ k,(k < Z∨NQ≤k)→k < w2.heap.size→wr.heap[k]?=w2.heap[k]?:=fun k h1 h2=>hF.blk k h2 (fun h3=>by
        rcases h1 with h1 | h1
        ·have:=hSq.out.ge h3; omega
        ·have:=hSq.out.lt h3; have:=hNQ.out; omega)
       have hcs:∀ j u,(nodeC a (.slice sp a.kids.length sc))[j]?=some u→wr.cell? ⟨g,o+i*3+j,none⟩=some u:=fun j u hu=>by
        have e1:=hkeep g hSg hgs
        have e2:=hcs j u hu
        rw [← Nat.add_assoc] at e2
        rw [← e2]
        simp [World.cell?,e1]
       have htr2:TrAt (fun k=>k < Z) wr a (.slice sp a.kids.length sc):=htr.keep hF.size fun k h1 h2=>⟨hkeep k (.inl h1) h2,h1⟩
       have a0:=hcs 0 _ rfl
       have a1:=hcs 1 _ rfl
       have a2:=hcs 2 _ rfl
       simp only [Nat.add_zero] at a0
       have hgr:g < wr.heap.size:=Nat.lt_of_lt_of_le hgs hF.size
       have hgn:g≠wr.heap.size:=by omega
       have hSSH:=Hid.mk hS
       have hFH:=Hid.mk hF
       have hPH:=Hid.mk hP
       have hlH:=Hid.mk hl'
       have hBb:=Hid.mk ((Below.refl wr.heap.size wr).alloc (Nat.le_refl _) (.cells #[.int .i64 (a.kind:Nat),.string a.text,.slice sp a.kids.length sc] 57))
       have hcb:=heap_alloc_new wr (.cells #[.int .i64 (a.kind:Nat),.string a.text,.slice sp a.kids.length sc] 57)
       obtain ⟨T,hT⟩:∃ T,wr.heap.size=T:=⟨_,rfl⟩
       rw [hT] at hcb hgn
       have htrH:=Hid.mk htr2
       have hWr:=Hid.mk ((hF.blk W hW2l.out hWA.out).trans hW2.out)
       have hxl:=Hid.mk hxl
       have hxH:=Hid.mk hx
       have hltH:=Hid.mk hlt
       clear hcs hS hF hP hl' htr htr2 hkeep hSg hgs hml hx hlt hi
       go_upto_region 16 with (fail)
       generalize hwb:wr.alloc (.cells #[.int .i64 (a.kind:Nat),.string a.text,.slice sp a.kids.length sc] 57)=wb at hcb hBb ⊢
       have hsb:wb.heap.size=T+1:=by subst hwb; simp; omega
       have t0:wb.cell? ⟨T,0,none⟩=some (.int .i64 (a.kind:Nat)):=by simp [World.cell?,hcb]
       have t1:wb.cell? ⟨T,1,none⟩=some (.string a.text):=by simp [World.cell?,hcb]
       have t2:wb.cell? ⟨T,2,none⟩=some (.slice sp a.kids.length sc):=by simp [World.cell?,hcb]
       have hWb:=(hBb.out.block W (Array.getElem?_eq_some_iff.1 hWr.out).1).trans hWr.out
       have x3:wb.cell? ⟨W,3,none⟩=some (.int .i64 (k:Nat)):=by simp [World.cell?,hWb]
       have hSbH:=Hid.mk (hSSH.out.blw hBb.out)
       have hFb:=Hid.mk (hFH.out.trans (Fr.of (A:=MkA M V') hBb.out))
       have hTH:=Hid.mk hT
       have hsbH:=Hid.mk hsb
       have htrb:=Hid.mk (htrH.out.keep (S':=fun k=>k < Z) hBb.out.size fun k h1 h2=>⟨hBb.out.block k h2,h1⟩)
       have hEb:PowB Z wb:=hE2.out.blw (hFb.out.blw (fun k e=>hSq.out.ge e) (Nat.le_of_lt hS2.out.zs))
       have hrow:=Hid.mk (mrow_any Z M wr.heap.size G V' st' a _ k wb hSbH.out hPH.out hEb htrb.out hk.out (by have:=hTH.out; have:=hsbH.out; omega))
       have hxe:rowF G.rs G.ts k st' (itemsT a) []=x:=hxH.out
       rw [hxe] at hrow
       unfold nodeV at hrow
       clear hwb hcb hT a0 a1 a2 hgn hgr hsb hWb hEb hxe
       go_wp2_with (fail)
       refine hrow.out.mono ?_
       rintro e w5 ⟨v5,V5,rfl,hO5,hS5,hF5,hP5,hn5⟩
       obtain ⟨p5,c5,rfl⟩:=ownsRow_form hO5
       have hP5:=Hid.mk hP5
       have hbs:Z≤wb.heap.size:=Nat.le_of_lt hSbH.out.zs
       have hF25:=hFb.out.trans hF5
       have hw2b:w2.heap.size≤wb.heap.size:=hFb.out.size
       have hwrb:wr.heap.size < wb.heap.size:=by have:=hTH.out; have:=hsbH.out; omega
       have hadd:=Hid.mk (add_any Z M w5.heap.size G V5 x.1 left x.2 _ w5 (hS5.up (Nat.le_trans (Nat.le_of_lt hwrb) hF5.size)) hP5.out (ints_of_own hO5 hbs (Nat.le_refl _) hn5))
       have hF25:=Hid.mk hF25
       clear hS5 hF5 hO5 hn5 t0 t1 t2 x3 hrow
       go_wp2_with (fail)
       refine hadd.out.mono ?_
       rintro e w6 ⟨rfl,V6,hS6,hF6⟩
       have hall:=Hid.mk (show _∧_ from ⟨hS6,hF6⟩)
       clear hS6 hF6 hadd
       go_wp2_with (fail)
       exact ⟨⟨i+1,_,V6,by simp,by have:=hltH.out; omega,hlH.out,hall.out.1.up hall.out.2.size,hF25.out.trans hall.out.2,hP5.out.add _ _⟩,by have:=hltH.out; simp [intOf]; omega⟩
      ·have hiI:((i:Int) < (rws.length:Int))=False:=eq_false (by omega)
       have hd:rws.drop i=[]:=List.drop_eq_nil_of_le (by omega)
       rw [hd,eachF] at hl'
       subst hl'
       have hall:=Hid.mk (show _∧_∧_ from ⟨hS,hF,hP⟩)
       clear hS hF hP hd
       go_wp2_with (fail)
       have hadd:=Hid.mk (add_any Z M wr.heap.size G V' st' left [] (.slice none 0 0) wr hall.out.1 hall.out.2.2 (.inl ⟨none,0,rfl,rfl⟩))
       refine hadd.out.mono ?_
       rintro e w6 ⟨rfl,V6,hS6,hF6⟩
       have hal6:=Hid.mk (show _∧_ from ⟨hS6.up hF6.size,hF6⟩)
       clear hS6 hF6 hadd
       go_wp2_with (fail)
       have hRe:=hRL.out
       subst hRe
       go_end0
       exact ⟨rfl,_,hal6.out.1,hFq.out.trans (hall.out.2.1.trans hal6.out.2),hall.out.2.2.add _ _⟩
    ·have k5:((t.kind:Int)==5)=false:=beq_ne (by omega)
     rw [if_neg h5] at hRA
     by_cases h6:t.kind=6
     ·have k6:((t.kind:Int)==6)=true:=by simp; omega
      rw [if_pos h6] at hRA
      have hk1:=honeH.out rfl (by omega)
      clear honeH h3 h4 h5 h6
      obtain ⟨kd,hkd⟩:∃ kd,t.kids[0]?=some kd:=⟨_,List.getElem?_eq_getElem (by omega)⟩
      have hkk:kid0 t=kd:=by unfold kid0; rw [hkd]; rfl
      rw [hkk] at hRA
      have hk0:0 < t.kids.length:=by omega
      have hkI:(0:Int) < (t.kids.length:Int):=by omega
      clear hk1
      have hadd:=Hid.mk (add_any Z M w1.heap.size G V st left [] (.slice none 0 0) w1 hS1.out hpH.out (.inl ⟨none,0,rfl,rfl⟩))
      go_wp2_with (fail)
      refine hadd.out.mono ?_
      rintro e wc ⟨rfl,Vc,hSc,hFc⟩
      have hWc:=hFc.blk W (Array.getElem?_eq_some_iff.1 hW1.out).1 hWA1.out
      have hWq:=Hid.mk (hWc.trans hW1.out)
      have z0:wc.cell? ⟨W,0,none⟩=some (.int .i64 (t.kind:Nat)):=by simp [World.cell?,hWq.out]
      have z1:wc.cell? ⟨W,1,none⟩=some (.string t.text):=by simp [World.cell?,hWq.out]
      have z2:wc.cell? ⟨W,2,none⟩=some (.slice p t.kids.length c):=by simp [World.cell?,hWq.out]
      have z3:wc.cell? ⟨W,3,none⟩=some (.int .i64 (k:Nat)):=by simp [World.cell?,hWq.out]
      have hWA:=Hid.mk (show ¬ MkA M Vc W from fun e=>(hFc.new W e).elim hWA1.out (fun e=>by have:=hs1.out; omega))
      have htc:=Hid.mk (ht1.out.keep (S':=fun k=>k < Z) hFc.size fun k h1 h2=>⟨hFc.blk k h2 (fun e=>by have:=hS1.out.ge e; omega),h1⟩)
      have hEc:=Hid.mk (hE1.out.blw (hFc.blw (fun k e=>hS1.out.ge e) (Nat.le_of_lt hS1.out.zs)))
      have hSc:=Hid.mk (hSc.up hFc.size)
      have hFc:=Hid.mk (hF1.out.trans hFc)
      have hPc:=Hid.mk (hpH.out.add left [])
      clear hadd hWc
      obtain ⟨gk,ok,ck,sk,he,hSk,hgk,hmk,htk,hck⟩:=htc.out.kidsIn.cellS hkd
      cases he
      obtain ⟨sp,sc,rfl⟩:=htk.form
      have b0:wc.cell? ⟨gk,ok,none⟩=some (.int .i64 (kd.kind:Nat)):=by have:=hck 0 _ rfl; simpa using this
      have b1:wc.cell? ⟨gk,ok+1,none⟩=some (.string kd.text):=by have:=hck 1 _ rfl; simpa using this
      have b2:wc.cell? ⟨gk,ok+2,none⟩=some (.slice sp kd.kids.length sc):=by have:=hck 2 _ rfl; simpa using this
      have hrw:=Hid.mk (rows_any (fun k=>k < Z) wc htk)
      unfold nodeV at hrw
      clear hck hSk hgk hmk htk hkd
      have hRL:=Hid.mk hRA
      go_wp2_with (fail)
      refine hrw.out.mono ?_
      rintro e w2 ⟨rv,rfl,hK2,hB2⟩
      obtain ⟨rp,rc,rfl⟩:=hK2.form
      obtain ⟨rws,hrws⟩:∃ rws,rowsT kd=rws:=⟨_,rfl⟩
      rw [hrws] at hK2 hRL ⊢
      obtain ⟨NQ,hNQ0⟩:∃ NQ,wc.heap.size=NQ:=⟨_,rfl⟩
      have hKS:=Hid.mk (hK2.keep (S':=fun k=>k < Z∨NQ≤k) (T':=fun k=>k < Z) (Nat.le_refl _) (fun k h1 h2=>⟨rfl,h1.elim (fun e=> .inl e.1) (fun e=> .inr (by omega))⟩) (fun k h1 h2=>⟨rfl,h1.1⟩))
      have hNQ:=Hid.mk hNQ0
      obtain ⟨stq,hstq⟩:∃ stq,addF st left []=stq:=⟨_,rfl⟩
      have hSq:=hSc
      have hS2:=Hid.mk ((hSc.out.blw hB2).up hB2.size)
      have hPq:=hPc
      have hE2:=Hid.mk (hEc.out.blw (hB2.mono (Nat.le_of_lt hSc.out.zs)))
      have hFq:=Hid.mk (hFc.out.trans (Fr.of (A:=MkA M Vc) hB2))
      have hW2:=Hid.mk ((hB2.block W (Array.getElem?_eq_some_iff.1 hWq.out).1).trans hWq.out)
      have hW2l:=Hid.mk (Array.getElem?_eq_some_iff.1 hW2.out).1
      rw [hstq] at hSq hS2 hPq hRL
      obtain ⟨FIN,hFIN⟩:∃ FIN,eachF G.rs G.ts 1 left k stq rws=FIN:=⟨_,rfl⟩
      have hFIN:=Hid.mk hFIN
      clear hK2 hB2 hrws hstq hNQ0 hrw
      have hRFIN:=Hid.mk (hRL.out.symm.trans hFIN.out)
      clear z0 z1 z2 z3
      go_wp2_with (fail)
      go_loopw [86] (fun y wr=>∃ (i:Nat) (st':Mk) (V':MV),y= .int .i64 (i:Nat)∧i≤rws.length∧eachF G.rs G.ts 1 left k st' (rws.drop i)=FIN∧MkS Z M wr.heap.size G V' st' wr∧Fr (MkA M Vc) w2 (MkA M V') wr∧MkP G st') (fun y _=>rws.length - (intOf y).toNat)
      case atStart=>exact ⟨0,stq,Vc,rfl,Nat.zero_le _,hFIN.out,hS2.out,Fr.refl _ _,hPq.out⟩
      case round=>as_aux_lemma=>
       obtain ⟨i,st',V',rfl,hi,hl',hS,hF,hP⟩:=hrel
       by_cases hlt:i < rws.length
       ·have hiI:(i:Int) < (rws.length:Int):=by omega
        obtain ⟨a,ha⟩:∃ a,rws[i]?=some a:=⟨_,List.getElem?_eq_getElem hlt⟩
        obtain ⟨x,hx⟩:∃ x,rowF G.rs G.ts k st' (itemsT a) []=x:=⟨_,rfl⟩
        have hxl:x.2.length≤17:=by have:=rowF_le G.rs G.ts k (itemsT a) st' []; rw [hx] at this; simpa using this
        rw [eachF_at G.rs G.ts 1 left k st' rws i a ha x hx] at hl'
        rw [if_neg (by decide),if_pos rfl] at hl'
        obtain ⟨g,o,c0,sv,he,hSg,hgs,hml,htr,hcs⟩:=hKS.out.cellS ha
        cases he
        obtain ⟨sp,sc,rfl⟩:=htr.form
        have hib:(i:Int) < 9223372036854775807:=by unfold maxLen at hml; omega
        have hkeep:∀ k,(k < Z∨NQ≤k)→k < w2.heap.size→wr.heap[k]?=w2.heap[k]?:=fun k h1 h2=>hF.blk k h2 (fun h3=>by
         rcases h1 with h1 | h1
         ·have:=hSq.out.ge h3; omega
         ·have:=hSq.out.lt h3; have:=hNQ.out; omega)
        have hcs:∀ j u,(nodeC a (.slice sp a.kids.length sc))[j]?=some u→wr.cell? ⟨g,o+i*3+j,none⟩=some u:=fun j u hu=>by
         have e1:=hkeep g hSg hgs
         have e2:=hcs j u hu
         rw [← Nat.add_assoc] at e2
         rw [← e2]
         simp [World.cell?,e1]
        have htr2:TrAt (fun k=>k < Z) wr a (.slice sp a.kids.length sc):=htr.keep hF.size fun k h1 h2=>⟨hkeep k (.inl h1) h2,h1⟩
        have a0:=hcs 0 _ rfl
        have a1:=hcs 1 _ rfl
        have a2:=hcs 2 _ rfl
        simp only [Nat.add_zero] at a0
        have hgr:g < wr.heap.size:=Nat.lt_of_lt_of_le hgs hF.size
        have hgn:g≠wr.heap.size:=by omega
        have hSSH:=Hid.mk hS
        have hFH:=Hid.mk hF
        have hPH:=Hid.mk hP
        have hlH:=Hid.mk hl'
        have hBb:=Hid.mk ((Below.refl wr.heap.size wr).alloc (Nat.le_refl _) (.cells #[.int .i64 (a.kind:Nat),.string a.text,.slice sp a.kids.length sc] 57))
        have hcb:=heap_alloc_new wr (.cells #[.int .i64 (a.kind:Nat),.string a.text,.slice sp a.kids.length sc] 57)
        obtain ⟨T,hT⟩:∃ T,wr.heap.size=T:=⟨_,rfl⟩
        rw [hT] at hcb hgn
        have htrH:=Hid.mk htr2
        have hWr:=Hid.mk ((hF.blk W hW2l.out hWA.out).trans hW2.out)
        have hxl:=Hid.mk hxl
        have hxH:=Hid.mk hx
        have hltH:=Hid.mk hlt
        clear hcs hS hF hP hl' htr htr2 hkeep hSg hgs hml hx hlt hi
        go_upto_region 24 with (fail)
        generalize hwb:wr.alloc (.cells #[.int .i64 (a.kind:Nat),.string a.text,.slice sp a.kids.length sc] 57)=wb at hcb hBb ⊢
        have hsb:wb.heap.size=T+1:=by subst hwb; simp; omega
        have t0:wb.cell? ⟨T,0,none⟩=some (.int .i64 (a.kind:Nat)):=by simp [World.cell?,hcb]
        have t1:wb.cell? ⟨T,1,none⟩=some (.string a.text):=by simp [World.cell?,hcb]
        have t2:wb.cell? ⟨T,2,none⟩=some (.slice sp a.kids.length sc):=by simp [World.cell?,hcb]
        have hWb:=(hBb.out.block W (Array.getElem?_eq_some_iff.1 hWr.out).1).trans hWr.out
        have x3:wb.cell? ⟨W,3,none⟩=some (.int .i64 (k:Nat)):=by simp [World.cell?,hWb]
        have hSbH:=Hid.mk (hSSH.out.blw hBb.out)
        have hFb:=Hid.mk (hFH.out.trans (Fr.of (A:=MkA M V') hBb.out))
        have hTH:=Hid.mk hT
        have hsbH:=Hid.mk hsb
        have htrb:=Hid.mk (htrH.out.keep (S':=fun k=>k < Z) hBb.out.size fun k h1 h2=>⟨hBb.out.block k h2,h1⟩)
        have hEb:PowB Z wb:=hE2.out.blw (hFb.out.blw (fun k e=>hSq.out.ge e) (Nat.le_of_lt hS2.out.zs))
        have hrow:=Hid.mk (mrow_any Z M wr.heap.size G V' st' a _ k wb hSbH.out hPH.out hEb htrb.out hk.out (by have:=hTH.out; have:=hsbH.out; omega))
        have hxe:rowF G.rs G.ts k st' (itemsT a) []=x:=hxH.out
        rw [hxe] at hrow
        unfold nodeV at hrow
        clear hwb hcb hT a0 a1 a2 hgn hgr hsb hWb hEb hxe
        go_wp2_with (fail)
        refine hrow.out.mono ?_
        rintro e w5 ⟨v5,V5,rfl,hO5,hS5,hF5,hP5,hn5⟩
        obtain ⟨p5,c5,rfl⟩:=ownsRow_form hO5
        have hP5:=Hid.mk hP5
        have hbs:Z≤wb.heap.size:=Nat.le_of_lt hSbH.out.zs
        have hF25:=hFb.out.trans hF5
        have hw2b:w2.heap.size≤wb.heap.size:=hFb.out.size
        have hwrb:wr.heap.size < wb.heap.size:=by have:=hTH.out; have:=hsbH.out; omega
        have hO5H:=Hid.mk hO5
        have hall:=Hid.mk (show _∧_∧_∧_ from ⟨hS5,hF5,hn5,hF25⟩)
        have hb5:wb.heap.size≤w5.heap.size:=hF5.size
        clear hS5 hF5 hO5 hn5 hF25 t0 t1 t2 x3 hrow
        go_wp2_with (first | (refine wpList_plain rfl fun _ hK=>wp_build_gen Tryz.underlying37 intRow (by decide) (by decide) [.int .i64 ((left:Nat):Int)] _ (fill1i _) _ rfl rfl (hK _ _ ?_)) | (at_builtin; refine wpList_app_gen Tryz.underlying37 intRow rfl (by decide) (by decide) rfl _ _ rfl wb.heap.size _ x.2.length _ [.int .i64 ((left:Nat):Int)] rfl (by intro u hu; simp at hu; subst hu; rfl) w5 rfl rfl hO5H.out rfl (by have:=hxl.out; omega) hb5 ?_; intro g' cc w8 hO8 hg8 hat))
        obtain ⟨hS5,hF5,hn5,hF25⟩:=hall.out
        have hO5:=hO5H.out
        have hF28:Fr (MkA M Vc) w2 (MkA M V5) w8:=hF25.tail ((Below.refl w2.heap.size w5).grown hg8 (Nat.le_trans hw2b (hb5)) (fun j hj=>Nat.le_trans hw2b ((hO5.lt j hj).1)))
        have hS8:MkS Z M wr.heap.size G V5 x.1 w8:=hS5.keep hg8.size fun k h1 h2=>hg8.block k h1 (fun e=>by
         rcases h2 with h2 | h2
         ·exact hn5 k e.symm h2
         ·have:=(hO5.lt k e.symm).1; omega)
        have hn8:∀ k,(Value.slice (some ⟨g',0,none⟩) (x.2.length+1) cc).ownBlock=some k→¬ MkA M V5 k:=fun k hk hA=>by
         have hk':g'=k:=by simpa [Value.ownBlock] using hk
         subst hk'
         rcases hat with h1 | h1
         ·exact hn5 _ h1 hA
         ·have:=hS5.lt hA; omega
        have hadd:=Hid.mk (add_any Z M w8.heap.size G V5 x.1 left (x.2++[((left:Nat):Int)]) _ w8 (hS8.up (Nat.le_trans (Nat.le_of_lt hwrb) (Nat.le_trans hb5 hg8.size))) hP5.out (ints_of_own (l:=x.2++[((left:Nat):Int)]) (by simpa using hO8) hbs (Nat.le_refl _) hn8))
        have hF28:=Hid.mk hF28
        clear hS5 hF5 hO5 hn5 hS8 hn8 hO8 hg8 hat hall
        refine hadd.out.mono ?_
        rintro e w6 ⟨rfl,V6,hS6,hF6⟩
        have hall:=Hid.mk (show _∧_ from ⟨hS6,hF6⟩)
        clear hS6 hF6 hadd
        go_wp2_with (fail)
        exact ⟨⟨i+1,_,V6,by simp,by have:=hltH.out; omega,hlH.out,hall.out.1.up hall.out.2.size,hF28.out.trans hall.out.2,hP5.out.add _ _⟩,by have:=hltH.out; simp [intOf]; omega⟩
       ·have hiI:((i:Int) < (rws.length:Int))=False:=eq_false (by omega)
        have hd:rws.drop i=[]:=List.drop_eq_nil_of_le (by omega)
        rw [hd,eachF] at hl'
        subst hl'
        have hall:=Hid.mk (show _∧_∧_ from ⟨hS,hF,hP⟩)
        clear hS hF hP hd
        go_wp2_with (fail)
        have hRe:=hRFIN.out
        subst hRe
        go_end0
        exact ⟨rfl,_,hall.out.1,hFq.out.trans hall.out.2.1,hall.out.2.2⟩
     ·have k6:((t.kind:Int)==6)=false:=beq_ne (by omega)
      rw [if_neg h6] at hRA
      by_cases h7:t.kind=7
      ·have k7:((t.kind:Int)==7)=true:=by simp; omega
       rw [if_pos h7] at hRA
       have hk1:=honeH.out rfl (by omega)
       clear honeH h3 h4 h5 h6 h7
       obtain ⟨kd,hkd⟩:∃ kd,t.kids[0]?=some kd:=⟨_,List.getElem?_eq_getElem (by omega)⟩
       have hkk:kid0 t=kd:=by unfold kid0; rw [hkd]; rfl
       rw [hkk] at hRA
       have hk0:0 < t.kids.length:=by omega
       have hkI:(0:Int) < (t.kids.length:Int):=by omega
       clear hk1
       obtain ⟨gk,ok,ck,sk,he,hSk,hgk,hmk,htk,hck⟩:=ht1.out.kidsIn.cellS hkd
       cases he
       obtain ⟨sp,sc,rfl⟩:=htk.form
       have b0:w1.cell? ⟨gk,ok,none⟩=some (.int .i64 (kd.kind:Nat)):=by have:=hck 0 _ rfl; simpa using this
       have b1:w1.cell? ⟨gk,ok+1,none⟩=some (.string kd.text):=by have:=hck 1 _ rfl; simpa using this
       have b2:w1.cell? ⟨gk,ok+2,none⟩=some (.slice sp kd.kids.length sc):=by have:=hck 2 _ rfl; simpa using this
       have hrw:=Hid.mk (rows_any (fun k=>k < Z) w1 htk)
       unfold nodeV at hrw
       clear hck hSk hgk hmk htk hkd
       have hRL:=Hid.mk hRA
       have hWq:=hW1
       have hWA:=hWA1
       go_wp2_with (fail)
       refine hrw.out.mono ?_
       rintro e w2 ⟨rv,rfl,hK2,hB2⟩
       obtain ⟨rp,rc,rfl⟩:=hK2.form
       obtain ⟨rws,hrws⟩:∃ rws,rowsT kd=rws:=⟨_,rfl⟩
       rw [hrws] at hK2 hRL ⊢
       obtain ⟨NQ,hNQ0⟩:∃ NQ,w1.heap.size=NQ:=⟨_,rfl⟩
       have hKS:=Hid.mk (hK2.keep (S':=fun k=>k < Z∨NQ≤k) (T':=fun k=>k < Z) (Nat.le_refl _) (fun k h1 h2=>⟨rfl,h1.elim (fun e=> .inl e.1) (fun e=> .inr (by omega))⟩) (fun k h1 h2=>⟨rfl,h1.1⟩))
       have hNQ:=Hid.mk hNQ0
       obtain ⟨stq,hstq⟩:∃ stq,st=stq:=⟨_,rfl⟩
       have hSq:=hS1
       have hS2:=Hid.mk ((hS1.out.blw hB2).up hB2.size)
       have hPq:=hpH
       have hE2:=Hid.mk (hE1.out.blw (hB2.mono (Nat.le_of_lt hS1.out.zs)))
       have hFq:=Hid.mk (hF1.out.trans (Fr.of (A:=MkA M V) hB2))
       have hW2:=Hid.mk ((hB2.block W (Array.getElem?_eq_some_iff.1 hWq.out).1).trans hWq.out)
       have hW2l:=Hid.mk (Array.getElem?_eq_some_iff.1 hW2.out).1
       rw [hstq] at hSq hS2 hPq hRL
       obtain ⟨FIN,hFIN⟩:∃ FIN,eachF G.rs G.ts 2 left k stq rws=FIN:=⟨_,rfl⟩
       have hFIN:=Hid.mk hFIN
       clear hK2 hB2 hrws hstq hNQ0 hrw
       have hRFIN:=Hid.mk (hRL.out.symm.trans hFIN.out)
       clear z0 z1 z2 z3
       go_wp2_with (fail)
       go_loopw [111] (fun y wr=>∃ (i:Nat) (st':Mk) (V':MV),y= .int .i64 (i:Nat)∧i≤rws.length∧eachF G.rs G.ts 2 left k st' (rws.drop i)=FIN∧MkS Z M wr.heap.size G V' st' wr∧Fr (MkA M V) w2 (MkA M V') wr∧MkP G st') (fun y _=>rws.length - (intOf y).toNat)
       case atStart=>exact ⟨0,stq,V,rfl,Nat.zero_le _,hFIN.out,hS2.out,Fr.refl _ _,hPq.out⟩
       case round=>as_aux_lemma=>
        obtain ⟨i,st',V',rfl,hi,hl',hS,hF,hP⟩:=hrel
        by_cases hlt:i < rws.length
        ·have hiI:(i:Int) < (rws.length:Int):=by omega
         obtain ⟨a,ha⟩:∃ a,rws[i]?=some a:=⟨_,List.getElem?_eq_getElem hlt⟩
         obtain ⟨x,hx⟩:∃ x,rowF G.rs G.ts k st' (itemsT a) []=x:=⟨_,rfl⟩
         have hxl:x.2.length≤17:=by have:=rowF_le G.rs G.ts k (itemsT a) st' []; rw [hx] at this; simpa using this
         rw [eachF_at G.rs G.ts 2 left k st' rws i a ha x hx] at hl'
         rw [if_neg (by decide),if_neg (by decide)] at hl'
         obtain ⟨g,o,c0,sv,he,hSg,hgs,hml,htr,hcs⟩:=hKS.out.cellS ha
         cases he
         obtain ⟨sp,sc,rfl⟩:=htr.form
         have hib:(i:Int) < 9223372036854775807:=by unfold maxLen at hml; omega
         have hkeep:∀ k,(k < Z∨NQ≤k)→k < w2.heap.size→wr.heap[k]?=w2.heap[k]?:=fun k h1 h2=>hF.blk k h2 (fun h3=>by
          rcases h1 with h1 | h1
          ·have:=hSq.out.ge h3; omega
          ·have:=hSq.out.lt h3; have:=hNQ.out; omega)
         have hcs:∀ j u,(nodeC a (.slice sp a.kids.length sc))[j]?=some u→wr.cell? ⟨g,o+i*3+j,none⟩=some u:=fun j u hu=>by
          have e1:=hkeep g hSg hgs
          have e2:=hcs j u hu
          rw [← Nat.add_assoc] at e2
          rw [← e2]
          simp [World.cell?,e1]
         have htr2:TrAt (fun k=>k < Z) wr a (.slice sp a.kids.length sc):=htr.keep hF.size fun k h1 h2=>⟨hkeep k (.inl h1) h2,h1⟩
         have a0:=hcs 0 _ rfl
         have a1:=hcs 1 _ rfl
         have a2:=hcs 2 _ rfl
         simp only [Nat.add_zero] at a0
         have hgr:g < wr.heap.size:=Nat.lt_of_lt_of_le hgs hF.size
         have hgn:g≠wr.heap.size:=by omega
         have hSSH:=Hid.mk hS
         have hFH:=Hid.mk hF
         have hPH:=Hid.mk hP
         have hlH:=Hid.mk hl'
         have hBb:=Hid.mk ((Below.refl wr.heap.size wr).alloc (Nat.le_refl _) (.cells #[.int .i64 (a.kind:Nat),.string a.text,.slice sp a.kids.length sc] 57))
         have hcb:=heap_alloc_new wr (.cells #[.int .i64 (a.kind:Nat),.string a.text,.slice sp a.kids.length sc] 57)
         obtain ⟨T,hT⟩:∃ T,wr.heap.size=T:=⟨_,rfl⟩
         rw [hT] at hcb hgn
         have htrH:=Hid.mk htr2
         have hWr:=Hid.mk ((hF.blk W hW2l.out hWA.out).trans hW2.out)
         have hxl:=Hid.mk hxl
         have hxH:=Hid.mk hx
         have hltH:=Hid.mk hlt
         clear hcs hS hF hP hl' htr htr2 hkeep hSg hgs hml hx hlt hi
         go_upto_region 30 with (fail)
         generalize hwb:wr.alloc (.cells #[.int .i64 (a.kind:Nat),.string a.text,.slice sp a.kids.length sc] 57)=wb at hcb hBb ⊢
         have hsb:wb.heap.size=T+1:=by subst hwb; simp; omega
         have t0:wb.cell? ⟨T,0,none⟩=some (.int .i64 (a.kind:Nat)):=by simp [World.cell?,hcb]
         have t1:wb.cell? ⟨T,1,none⟩=some (.string a.text):=by simp [World.cell?,hcb]
         have t2:wb.cell? ⟨T,2,none⟩=some (.slice sp a.kids.length sc):=by simp [World.cell?,hcb]
         have hWb:=(hBb.out.block W (Array.getElem?_eq_some_iff.1 hWr.out).1).trans hWr.out
         have x3:wb.cell? ⟨W,3,none⟩=some (.int .i64 (k:Nat)):=by simp [World.cell?,hWb]
         have hSbH:=Hid.mk (hSSH.out.blw hBb.out)
         have hFb:=Hid.mk (hFH.out.trans (Fr.of (A:=MkA M V') hBb.out))
         have hTH:=Hid.mk hT
         have hsbH:=Hid.mk hsb
         have htrb:=Hid.mk (htrH.out.keep (S':=fun k=>k < Z) hBb.out.size fun k h1 h2=>⟨hBb.out.block k h2,h1⟩)
         have hEb:PowB Z wb:=hE2.out.blw (hFb.out.blw (fun k e=>hSq.out.ge e) (Nat.le_of_lt hS2.out.zs))
         have hrow:=Hid.mk (mrow_any Z M wr.heap.size G V' st' a _ k wb hSbH.out hPH.out hEb htrb.out hk.out (by have:=hTH.out; have:=hsbH.out; omega))
         have hxe:rowF G.rs G.ts k st' (itemsT a) []=x:=hxH.out
         rw [hxe] at hrow
         unfold nodeV at hrow
         clear hwb hcb hT a0 a1 a2 hgn hgr hsb hWb hEb hxe
         go_wp2_with (fail)
         refine hrow.out.mono ?_
         rintro e w5 ⟨v5,V5,rfl,hO5,hS5,hF5,hP5,hn5⟩
         obtain ⟨p5,c5,rfl⟩:=ownsRow_form hO5
         have hP5:=Hid.mk hP5
         have hbs:Z≤wb.heap.size:=Nat.le_of_lt hSbH.out.zs
         have hF25:=hFb.out.trans hF5
         have hw2b:w2.heap.size≤wb.heap.size:=hFb.out.size
         have hwrb:wr.heap.size < wb.heap.size:=by have:=hTH.out; have:=hsbH.out; omega
         have hadd:=Hid.mk (add_any Z M w5.heap.size G V5 x.1 left x.2 _ w5 (hS5.up (Nat.le_trans (Nat.le_of_lt hwrb) hF5.size)) hP5.out (ints_of_own hO5 hbs (Nat.le_refl _) hn5))
         have hall5:=Hid.mk (show _∧_∧_ from ⟨hO5,hn5,hF25⟩)
         have hb5:wb.heap.size≤w5.heap.size:=hF5.size
         clear hS5 hF5 hO5 hn5 hF25 t0 t1 t2 x3 hrow
         go_wp2_with (fail)
         refine hadd.out.mono ?_
         rintro e w6 ⟨rfl,V6,hS6,hF6⟩
         obtain ⟨hO5,hn5,hF25⟩:=hall5.out
         have hO6:=ownsRow_sm hO5 (w':=w6) fun g e=>hF6.blk g (hO5.lt g e).2 (hn5 g e)
         have hcl:=Hid.mk (cloneI_any hO6 (by have:=hxl.out; omega))
         have hF26:=Hid.mk (hF25.trans hF6)
         have hS6H:=Hid.mk (hS6.up hF6.size)
         have hP6:=Hid.mk (hP5.out.add left x.2)
         have hw6:w5.heap.size≤w6.heap.size:=hF6.size
         clear hS6 hF6 hadd hO5 hn5 hF25 hall5 hO6
         go_wp2_with (fail)
         refine hcl.out.mono ?_
         rintro e w7 ⟨v7,rfl,hO7,hB7⟩
         obtain ⟨p7,c7,rfl⟩:=ownsRow_form hO7
         have hO7H:=Hid.mk hO7
         have hb7:w6.heap.size≤w7.heap.size:=hB7.size
         have hall:=Hid.mk (show _∧_ from ⟨hS6H.out.blw hB7,hF26.out.trans (Fr.of (A:=MkA M V6) hB7)⟩)
         clear hO7 hB7 hcl
         go_wp2_with (first | (refine wpList_plain rfl fun _ hK=>wp_build_gen Tryz.underlying37 intRow (by decide) (by decide) [.int .i64 ((left:Nat):Int)] _ (fill1i _) _ rfl rfl (hK _ _ ?_)) | (at_builtin; refine wpList_app_gen Tryz.underlying37 intRow rfl (by decide) (by decide) rfl _ _ rfl w6.heap.size _ x.2.length _ [.int .i64 ((left:Nat):Int)] rfl (by intro u hu; simp at hu; subst hu; rfl) w7 rfl rfl hO7H.out rfl (by have:=hxl.out; omega) hb7 ?_; intro g' cc w8 hO8 hg8 hat))
         obtain ⟨hS7,hF27⟩:=hall.out
         have hO7:=hO7H.out
         have hn7:∀ k,(Value.slice p7 x.2.length c7).ownBlock=some k→¬ MkA M V6 k:=fun k hk hA=>by
          have h1:=(hO7.lt k hk).1
          have h2:=hS6H.out.lt hA
          omega
         have hF28:Fr (MkA M V) w2 (MkA M V6) w8:=hF27.tail ((Below.refl w2.heap.size w7).grown hg8 (Nat.le_trans hw2b (Nat.le_trans hb5 (Nat.le_trans hw6 hb7))) (fun j hj=>Nat.le_trans hw2b (Nat.le_trans (Nat.le_trans hb5 hw6) (hO7.lt j hj).1)))
         have hS8:MkS Z M w6.heap.size G V6 (addF x.1 left x.2) w8:=hS7.keep hg8.size fun k h1 h2=>hg8.block k h1 (fun e=>by
          rcases h2 with h2 | h2
          ·exact hn7 k e.symm h2
          ·have:=(hO7.lt k e.symm).1; omega)
         have hn8:∀ k,(Value.slice (some ⟨g',0,none⟩) (x.2.length+1) cc).ownBlock=some k→¬ MkA M V6 k:=fun k hk hA=>by
          have hk':g'=k:=by simpa [Value.ownBlock] using hk
          subst hk'
          rcases hat with h1 | h1
          ·exact hn7 _ h1 hA
          ·have:=hS7.lt hA; omega
         have hadd:=Hid.mk (add_any Z M w8.heap.size G V6 (addF x.1 left x.2) left (x.2++[((left:Nat):Int)]) _ w8 (hS8.up (Nat.le_trans hb7 hg8.size)) hP6.out (ints_of_own (l:=x.2++[((left:Nat):Int)]) (by simpa using hO8) (Nat.le_trans hbs (Nat.le_trans hb5 hw6)) (Nat.le_refl _) hn8))
         have hF28:=Hid.mk hF28
         clear hS7 hF27 hO7 hn7 hS8 hn8 hO8 hg8 hat hall
         refine hadd.out.mono ?_
         rintro e w9 ⟨rfl,V9,hS9,hF9⟩
         have hall:=Hid.mk (show _∧_ from ⟨hS9,hF9⟩)
         clear hS9 hF9 hadd
         go_wp2_with (fail)
         exact ⟨⟨i+1,_,V9,by simp,by have:=hltH.out; omega,hlH.out,hall.out.1.up hall.out.2.size,hF28.out.trans hall.out.2,hP6.out.add _ _⟩,by have:=hltH.out; simp [intOf]; omega⟩
        ·have hiI:((i:Int) < (rws.length:Int))=False:=eq_false (by omega)
         have hd:rws.drop i=[]:=List.drop_eq_nil_of_le (by omega)
         rw [hd,eachF] at hl'
         subst hl'
         have hall:=Hid.mk (show _∧_∧_ from ⟨hS,hF,hP⟩)
         clear hS hF hP hd
         go_wp2_with (fail)
         have hRe:=hRFIN.out
         subst hRe
         go_end0
         exact ⟨rfl,_,hall.out.1,hFq.out.trans hall.out.2.1,hall.out.2.2⟩
      ·have k7:((t.kind:Int)==7)=false:=beq_ne (by omega)
       rw [if_neg h7] at hRA
       clear h3 h4 h5 h6 h7 honeH
       go_wp2_with (fail)
       subst hRA
       go_end0
       exact ⟨rfl,V,hS1.out,hF1.out,hpH.out⟩
end Go.Proofs.YtmenpmbgennhoaaGreatDoor
