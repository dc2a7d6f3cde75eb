/- symbols.Terminals: the terminals of a grammar, each once. symbols.Check: what is wrong with a grammar. symbols.Check, walked. -/
import Derived.Test.YtmenpmbgennhoaaGreatDoorRef
namespace Go.Proofs.YtmenpmbgennhoaaGreatDoor
open Go.RowKit
mutual
def termsT (l:List ByteArray):Tr→List ByteArray
 | .mk k x ks=>if k=2 then (if x ∈ l then l else l++[x]) else if k=1 then l else termsK l ks
def termsK (l:List ByteArray):List Tr→List ByteArray
 | []=>l
 | a::r=>termsK (termsT l a) r
end
mutual
theorem terms_le (l:List ByteArray):∀ t:Tr,(termsT l t).length≤l.length+nodesT t
 | .mk k x ks=>by
  have:=termsK_le l ks
  rw [termsT,nodesT]
  split
  ·split
   ·omega
   ·simp
  ·split
   ·omega
   ·omega
theorem termsK_le (l:List ByteArray):∀ r:List Tr,(termsK l r).length≤l.length+nodesK r
 | []=>by simp [termsK]
 | a::r=>by
  have h1:=terms_le l a
  have h2:=termsK_le (termsT l a) r
  rw [termsK,nodesK]
  omega
end
theorem termsK_at:∀ (l:List ByteArray) (ks:List Tr) (i:Nat) (a:Tr),ks[i]?=some a→termsK l (ks.take (i+1))=termsT (termsK l (ks.take i)) a
 | l,a0::r,0,a,h=>by simp at h; subst h; simp [termsK]
 | l,a0::r,i+1,a,h=>by
  simp at h
  have:=termsK_at (termsT l a0) r i a h
  simpa [termsK] using this
 | _,[],_,_,h=>by simp at h
def memF (l:List ByteArray):ByteArray→Option Value:=fun s=>if s ∈ l then some (.bool true) else none
theorem memF_put (l:List ByteArray) (x:ByteArray):mput (memF l) x (.bool true)=memF (l++[x]):=by
 funext s
 unfold mput memF
 by_cases h:s=x
 ·simp [h]
 ·by_cases h2:s ∈ l <;> simp [h,h2]
theorem memF_get (l:List ByteArray) (x:ByteArray):(memF l x).getD (.bool false)= .bool (decide (x ∈ l)):=by
 unfold memF
 by_cases h:x ∈ l <;> simp [h]
theorem StrsO.keep {N:Nat} {w w':World} {v:Value} {l:List ByteArray} (h:StrsO N w v l) (hk:∀ g,N≤g→g < w.heap.size→v.ownBlock=some g→w'.heap[g]?=w.heap[g]?):StrsO N w' v l:=
 ownsRow_sm h (fun g hg=>hk g (h.lt g hg).1 (h.lt g hg).2 hg)
theorem StrsO.nomap {N b:Nat} {w:World} {v:Value} {l:List ByteArray} {f:ByteArray→Option Value} (h:StrsO N w v l) (hm:MpS w b f):v.ownBlock≠some b:=by
 intro e
 rcases h.2 with ⟨rfl,_⟩ | ⟨g,cap,cur,rfl,_,hg,_⟩
 ·cases e
 ·cases e
  obtain ⟨es,c,hb,_⟩:=hm
  rw [hb] at hg
  cases hg
theorem StrsO.blw {N:Nat} {w w':World} {v:Value} {l:List ByteArray} (h:StrsO N w v l) (hb:Below w.heap.size w w'):StrsO N w' v l:=h.keep fun g _ h2 _=>hb.block g h2
theorem wpList_app_str {ops:Array Oper} {rest:List Oper} {o:Oper} {a:Act} {w:World} {Q:Exit→Act→World→Prop} (hgd:o.guard=none) (s x:Operand) (ho:o.op= .call { callee:= .builtin .append,args:=#[s,x],argTypes:=#[31,31] })
  (N:Nat) (v:Value) (l:List ByteArray) (t:ByteArray) (w1:World) (hw:w=w1.alloc (.cells #[.string t] 9)) (hs:a.eval s=v) (hown:StrsO N w1 v l) (hx:a.eval x= .slice (some ⟨w1.heap.size,0,none⟩) 1 1) (hl:l.length≤1000000000) (hN:N≤w1.heap.size)
  (h:∀ g' c w',StrsO N w' (.slice (some ⟨g',0,none⟩) (l.length+1) c) (l++[t])→w1.grownBy w' v.ownBlock→(v.ownBlock=some g'∨w1.heap.size≤g')→wpList Tryz.prog ops Q rest (a.put o.dst (.slice (some ⟨g',0,none⟩) (l.length+1) c)) w'):wpList Tryz.prog ops Q (o::rest) a w:=by
 subst hw
 refine wpList_plain hgd fun _ hK=> ?_
 refine wp_append_str s x ho N v l hs (hown.keep fun g _ h2 _=>Go.heap_alloc_old w1 _ h2) t w1.heap.size hx (heap_alloc_new w1 _) hl (by simp; omega) ?_
 intro g' c w' h1 h2 h3
 refine hK _ _ (h g' c w' h1 ((World.grownBy_alloc w1 _ v.ownBlock).trans h2) ?_)
 rcases h3 with h3 | h3
 ·exact .inl h3
 ·simp at h3; exact .inr (by omega)
theorem wpList_build_str {ops:Array Oper} {rest:List Oper} {o:Oper} {a:Act} {w:World} {Q:Exit→Act→World→Prop} (hgd:o.guard=none) (x:Operand) (ho:o.op= .buildSlice 31 1 #[(0,x)]) (s:ByteArray) (hx:a.eval x= .string s)
  (h:wpList Tryz.prog ops Q rest (a.put o.dst (.slice (some ⟨w.heap.size,0,none⟩) 1 1)) (w.alloc (.cells #[.string s] 9))):wpList Tryz.prog ops Q (o::rest) a w:=
 wpList_plain hgd fun _ hK=>wp_build_str x ho s hx (hK _ _ h)
def TerC (N b:Nat) (t:Tr) (u:Value) (w0:World):Prop:=∀ (l:List ByteArray) (v:Value) (w:World),Below N w0 w→MpS w b (memF l)→StrsO N w v l→N≤w.heap.size→l.length+nodesT t≤1000000→
 Calls Tryz.prog 50 #[u,.map (some b),v] w fun e w'=>∃ v',e= .returned v'∧StrsO N w' v' (termsT l t)∧MpS w' b (memF (termsT l t))∧Below N w w'
set_option maxRecDepth 100000 in
set_option maxHeartbeats 1600000 in
theorem ters_any (N b:Nat) (hNb:N≤b) (w0:World) (S:Nat→Prop) (hS:∀ g,S g→g < N) {t:Tr} {s:Value} (h:TrAt S w0 t s):TerC N b t (nodeV t s) w0:=by
 induction h with
 | mk k x ks v ss hl h1 h2 ih=>
  intro l v0 w hB hM hO hNw hn
  rw [nodesT] at hn
  have ihH:=Hid.mk ih
  have hfH:=Hid.mk (fun i a s q1 q2=>(h2 i a s q1 q2).form)
  obtain ⟨p,c,rfl⟩:=h1.form
  obtain ⟨p0,c0,rfl⟩:=ownsRow_form hO
  have hlk:=fun (w:World) (l:List ByteArray) (hM:MpS w b (memF l))=>hM.look (P:=Tryz.prog) Tryz.underlying99 Tryz.underlying9 (Tryz.zeroValue4 w) x false
  have h1H:=Hid.mk h1
  have hBH:=Hid.mk hB
  have hMH:=Hid.mk hM
  have hOH:=Hid.mk hO
  have hnH:=Hid.mk hn
  have hSH:=Hid.mk hS
  have hlkH:=Hid.mk hlk
  clear h1 hB hM hO hn hS ih h2 hlk
  unfold nodeV
  simp only [Tr.kind,Tr.text]
  obtain ⟨L,hL⟩:∃ L,termsT l (.mk k x ks)=L:=⟨_,rfl⟩
  rw [hL]
  rw [termsT] at hL
  have hBa:=Hid.mk ((Below.refl w.heap.size w).alloc (Nat.le_refl _) (.cells #[.int .i64 (k:Nat),.string x,.slice p ks.length c] 57))
  obtain ⟨wa,hwa⟩:∃ wa,w.alloc (.cells #[.int .i64 (k:Nat),.string x,.slice p ks.length c] 57)=wa:=⟨_,rfl⟩
  have hCa:=heap_alloc_new w (.cells #[.int .i64 (k:Nat),.string x,.slice p ks.length c] 57)
  rw [hwa] at hBa hCa
  have hMa:=hMH.out.blw hBa.out
  have hOa:=hOH.out.blw hBa.out
  have hlook:=hlkH.out wa l hMa
  rw [memF_get] at hlook
  simp only [Bool.false_eq_true,if_false] at hlook
  have n0:wa.cell? ⟨w.heap.size,0,none⟩=some (.int .i64 (k:Nat)):=by simp [World.cell?,hCa]
  have n1:wa.cell? ⟨w.heap.size,1,none⟩=some (.string x):=by simp [World.cell?,hCa]
  have n2:wa.cell? ⟨w.heap.size,2,none⟩=some (.slice p ks.length c):=by simp [World.cell?,hCa]
  have hCaH:=Hid.mk hCa
  have hMaH:=Hid.mk hMa
  have hOaH:=Hid.mk hOa
  clear hCa hMa hOa
  by_cases hk2:k=2
  ·rw [if_pos hk2] at hL
   have k2:((k:Int)==2)=true:=by simp; omega
   clear hk2
   by_cases hx:x ∈ l
   ·rw [if_pos hx] at hL
    subst hL
    rw [decide_eq_true hx] at hlook
    clear hx
    go_enter Tryz.func50,Tryz.ntmps50
    go_upto_region 1 with (fail)
    go_wp2_with (fail)
    go_ret
    exact ⟨_,rfl,hOaH.out,hMaH.out,hBa.out.mono hNw⟩
   ·rw [if_neg hx] at hL
    subst hL
    rw [decide_eq_false hx] at hlook
    clear hx
    go_enter Tryz.func50,Tryz.ntmps50
    go_upto_region 1 with (fail)
    go_upto_region 3 with (refine wpList_put_str rfl _ _ _ rfl Tryz.underlying99 Tryz.underlying9 b _ rfl hMaH.out x rfl (.bool true) rfl ?_; intro w1 hm1 hon hsz1)
    have hbw:b < w.heap.size:=hMH.out.lt
    have hC1:=(hon.block w.heap.size (Array.getElem?_eq_some_iff.1 hCaH.out).1 (fun e=>by injection e with e; omega)).trans hCaH.out
    have hO1:=Hid.mk (hOaH.out.keep (w':=w1) fun g h1 h2 h3=>hon.block g h2 (fun e=>hOaH.out.nomap hMaH.out (by rw [h3,e])))
    rw [memF_put] at hm1
    have hm1:=Hid.mk hm1
    have n0:w1.cell? ⟨w.heap.size,0,none⟩=some (.int .i64 (k:Nat)):=by simp [World.cell?,hC1]
    have n1:w1.cell? ⟨w.heap.size,1,none⟩=some (.string x):=by simp [World.cell?,hC1]
    have hN1:N≤w1.heap.size:=Nat.le_trans (Nat.le_trans hNw hBa.out.size) hon.size
    have hB1:=Hid.mk ((hBa.out.mono hNw).trans (hon.blw hNb (Nat.le_trans hNw hBa.out.size)))
    have hC1H:=Hid.mk hC1
    clear hon hsz1 hlook hC1
    go_upto_region 4 with (first | (refine wpList_build_str rfl _ rfl _ rfl ?_) | (at_builtin; refine wpList_app_str rfl _ _ rfl N _ l x w1 rfl rfl hO1.out rfl (by have:=hnH.out; omega) hN1 ?_))
    intro g' cc w2 hO2 hg2 hat
    have hC2:=(hg2.block w.heap.size (Array.getElem?_eq_some_iff.1 hC1H.out).1 (fun e=>by have:=(hOH.out.lt _ e.symm).2; omega)).trans hC1H.out
    have n0:w2.cell? ⟨w.heap.size,0,none⟩=some (.int .i64 (k:Nat)):=by simp [World.cell?,hC2]
    have hM2:=Hid.mk (hm1.out.keep (w':=w2) (hg2.block b hm1.out.lt (fun e=>hO1.out.nomap hm1.out e.symm)))
    have hB2:=Hid.mk (hB1.out.grown hg2 hN1 (fun j hj=>(hO1.out.lt j hj).1))
    have hO2:=Hid.mk hO2
    clear hg2 hat hC2
    go_wp2_with (fail)
    go_ret
    exact ⟨_,rfl,by simpa using hO2.out,hM2.out,hB2.out⟩
  ·have k2:((k:Int)==2)=false:=beq_ne (by omega)
   rw [if_neg hk2] at hL
   clear hk2
   by_cases hk1:k=1
   ·rw [if_pos hk1] at hL
    subst hL
    have k1:((k:Int)==1)=true:=by simp; omega
    clear hk1
    go_enter Tryz.func50,Tryz.ntmps50
    go_upto_region 1 with (fail)
    go_wp2_with (fail)
    go_ret
    exact ⟨_,rfl,hOaH.out,hMaH.out,hBa.out.mono hNw⟩
   ·rw [if_neg hk1] at hL
    have k1:((k:Int)==1)=false:=beq_ne (by omega)
    clear hk1
    go_enter Tryz.func50,Tryz.ntmps50
    go_upto_region 1 with (fail)
    clear hlook
    go_wp2_with (fail)
    have hLH:=Hid.mk hL
    clear hL
    go_loopw [2,39] (fun u y wr=>∃ (i:Nat) (l':List ByteArray),y= .int .i64 (i:Nat)∧i≤ks.length∧l'=termsK l (ks.take i)∧l'.length+nodesK (ks.drop i)≤1000000∧StrsO N wr u l'∧MpS wr b (memF l')∧Below N w wr∧N≤wr.heap.size) (fun _ y _=>ks.length - (intOf y).toNat)
    case atStart=>exact ⟨0,l,rfl,Nat.zero_le _,by simp [termsK],by have:=hnH.out; simp; omega,hOaH.out,hMaH.out,hBa.out.mono hNw,Nat.le_trans hNw hBa.out.size⟩
    case round=>
     obtain ⟨i,l',rfl,hi,hl',hnr,hOr,hMr,hBr,hNr⟩:=hrel
     obtain ⟨p1,c1,rfl⟩:=ownsRow_form hOr
     by_cases hlt:i < ks.length
     ·have hiI:(i:Int) < (ks.length:Int):=by omega
      obtain ⟨a,ha⟩:∃ a,ks[i]?=some a:=⟨_,List.getElem?_eq_getElem hlt⟩
      obtain ⟨s,hs⟩:∃ s,ss[i]?=some s:=⟨_,List.getElem?_eq_getElem (by omega)⟩
      obtain ⟨sp,sc,rfl⟩:=hfH.out i a s ha hs
      have hcall:=Hid.mk (ihH.out i a _ ha hs)
      have e2:=(refsK_at ks i a ha).2
      rw [e2] at hnr
      have e3:=termsK_at l ks i a ha
      rw [← hl'] at e3
      obtain ⟨g,o,c0,he,hSg,hgs,hml,hcs⟩:=h1H.out.cellS ha hs
      cases he
      have hib:(i:Int) < 9223372036854775807:=by unfold maxLen at hml; omega
      have hBw:=hBH.out.trans hBr
      have hgN:g < N:=hSH.out g hSg
      have hcs:∀ j u,(nodeC a (.slice sp a.kids.length sc))[j]?=some u→wr.cell? ⟨g,o+i*3+j,none⟩=some u:=fun j u hu=>by
       rw [Nat.add_assoc,hBw.cell (by exact hgN)]; exact hcs j u hu
      have a0:=hcs 0 _ rfl
      have a1:=hcs 1 _ rfl
      have a2:=hcs 2 _ rfl
      simp only [Nat.add_zero] at a0
      have hgr:g < wr.heap.size:=by omega
      have hgn:g≠wr.heap.size:=by omega
      have hOrH:=Hid.mk hOr
      have hMrH:=Hid.mk hMr
      have hnrH:=Hid.mk hnr
      have hBrH:=Hid.mk hBr
      have hBwH:=Hid.mk hBw
      have e3H:=Hid.mk e3
      clear hcs hOr hMr hnr hBr hBw hgs ha hs hgN hSg hml e2 e3 hl' n0 n1 n2
      go_wp2_with (fail)
      have hBb:=Hid.mk ((Below.refl wr.heap.size wr).alloc (Nat.le_refl _) (.cells #[.int .i64 (a.kind:Nat),.string a.text,.slice sp a.kids.length sc] 57))
      refine (hcall.out l' _ _ (hBwH.out.trans (hBb.out.mono hNr)) (hMrH.out.blw hBb.out) (hOrH.out.blw hBb.out) (Nat.le_trans hNr hBb.out.size) (by have:=hnrH.out; omega)).mono ?_
      rintro e w5 ⟨v5,rfl,hO5,hM5,hB5⟩
      obtain ⟨p5,c5,rfl⟩:=ownsRow_form hO5
      have hO5:=Hid.mk hO5
      have hM5:=Hid.mk hM5
      have hN5:N≤w5.heap.size:=Nat.le_trans (Nat.le_trans hNr hBb.out.size) hB5.size
      have hB5:=Hid.mk (hBrH.out.trans ((hBb.out.mono hNr).trans hB5))
      go_wp2_with (fail)
      exact ⟨⟨i+1,_,by simp,by omega,e3H.out.symm,by have:=hnrH.out; have:=terms_le l' a; omega,hO5.out,hM5.out,hB5.out,hN5⟩,by simp [intOf]; omega⟩
     ·have hiI:((i:Int) < (ks.length:Int))=False:=eq_false (by omega)
      have hd:ks.take i=ks:=List.take_of_length_le (by omega)
      rw [hd,hLH.out] at hl'
      subst hl'
      have hall:=Hid.mk (show _∧_∧_ from ⟨hOr,hMr,hBr⟩)
      clear hOr hMr hBr hnr hd n0 n1 n2
      go_wp2_with (fail)
      go_ret
      exact ⟨_,rfl,hall.out.1,hall.out.2.1,hall.out.2.2⟩
def termsRs (l:List ByteArray):List Rl→List ByteArray
 | []=>l
 | a::r=>termsRs (termsT l a.body) r
def nodesRs:List Rl→Nat
 | []=>0
 | a::r=>nodesT a.body+nodesRs r
theorem termsRs_at:∀ (l:List ByteArray) (ks:List Rl) (i:Nat) (a:Rl),ks[i]?=some a→termsRs l (ks.take (i+1))=termsT (termsRs l (ks.take i)) a.body
 | l,a0::r,0,a,h=>by simp at h; subst h; simp [termsRs]
 | l,a0::r,i+1,a,h=>by
  simp at h
  have:=termsRs_at (termsT l a0.body) r i a h
  simpa [termsRs] using this
 | _,[],_,_,h=>by simp at h
theorem nodesRs_at:∀ (ks:List Rl) (i:Nat) (a:Rl),ks[i]?=some a→nodesRs (ks.drop i)=nodesT a.body+nodesRs (ks.drop (i+1))
 | a0::l,0,a,h=>by simp at h; subst h; simp [nodesRs]
 | a0::l,i+1,a,h=>by
  simp at h
  simpa using nodesRs_at l i a h
 | [],_,_,h=>by simp at h
theorem SlAt.rcellS {S:Nat→Prop} {w:World} {v:Value} {ks:List Rl} {ss:List Value} (h:SlAt S w v ks.length (rulesC ks ss)) {i:Nat} {t:Rl} {s:Value} (h1:ks[i]?=some t) (h2:ss[i]?=some s) :
  ∃ g o c,v= .slice (some ⟨g,o,none⟩) ks.length c∧S g∧g < w.heap.size∧ks.length≤maxLen∧∀ j u,(ruleC t s)[j]?=some u→w.cell? ⟨g,o+(i*4+j),none⟩=some u:=by
 obtain ⟨g,o,c,e,h3,h4,h5⟩:=h.rcell h1 h2
 rcases h with ⟨p,c',e',h0⟩ | ⟨g',o',c',e',h6,_⟩
 ·have:=(List.getElem?_eq_some_iff.1 h1).1
  omega
 ·rw [e] at e'
  cases e'
  exact ⟨g,o,c,e,h6,h3,h4,h5⟩
set_option maxRecDepth 100000 in
set_option maxHeartbeats 1600000 in
theorem terminals_any (S:Nat→Prop) (w:World) {g:Gr} {s:Value} (h:RsAt S w g.rules s) (hn:nodesRs g.rules≤1000000) :
  Calls Tryz.prog 24 #[gramV g s] w fun e w'=>∃ v,e= .returned v∧StrsO w.heap.size w' v (termsRs [] g.rules)∧Below w.heap.size w w':=by
 have hmm:= @run_makeMap Tryz.prog
 obtain ⟨p,c,rfl⟩:=h.form
 obtain ⟨ss,hl,h1,h2⟩:=h
 have hsl:=Hid.mk (h1.keep (S':=fun k=>k < w.heap.size) (Nat.le_refl _) fun k _ h=>⟨rfl,h⟩)
 have htr:=Hid.mk (fun i r s q1 q2=>(h2 i r s q1 q2).keep (S':=fun k=>k < w.heap.size) (Nat.le_refl _) fun k _ h=>⟨rfl,h⟩)
 have hnH:=Hid.mk hn
 have hlH:=Hid.mk hl
 clear h1 h2 hn hl
 unfold gramV
 obtain ⟨Z,hZ⟩:∃ Z,w.heap.size=Z:=⟨_,rfl⟩
 have hB1:Below Z w (w.alloc (.cells #[.string g.start,.slice p g.rules.length c] 25)):=by rw [← hZ]; exact (Below.refl _ w).alloc (Nat.le_refl _) _
 have hs1:(w.alloc (.cells #[.string g.start,.slice p g.rules.length c] 25)).heap.size=Z+1:=by simp; omega
 have hc1:=heap_alloc_new w (.cells #[.string g.start,.slice p g.rules.length c] 25)
 rw [hZ] at hc1
 go_enter Tryz.func24,Tryz.ntmps24
 go_upto_region 1 with (fail)
 generalize w.alloc (.cells #[.string g.start,.slice p g.rules.length c] 25)=w1 at*
 have hm2:=MpS.made w1
 have hB2:Below Z w (w1.alloc (.map #[] 0)):=hB1.alloc (by omega) _
 have hs2:(w1.alloc (.map #[] 0)).heap.size=Z+2:=by simp; omega
 have hc2:=(Go.heap_alloc_old w1 (.map #[] 0) (show Z < w1.heap.size by omega)).trans hc1
 rw [hs1] at hm2
 go_upto_region 3 with (fail)
 generalize w1.alloc (.map #[] 0)=w2 at*
 have d1:w2.cell? ⟨Z,1,none⟩=some (.slice p g.rules.length c):=by simp [World.cell?,hc2]
 have hB2H:=Hid.mk hB2
 have hm2H:Hid (MpS w2 (Z+1) (memF [])):= .mk hm2
 have hs2H:=Hid.mk hs2
 have hZH:=Hid.mk hZ
 clear hB1 hs1 hc1 hm2 hB2 hs2 hc2 hZ
 go_wp2_with (fail)
 go_loopw [3,11] (fun u y wr=>∃ (i:Nat) (l':List ByteArray),y= .int .i64 (i:Nat)∧i≤g.rules.length∧l'=termsRs [] (g.rules.take i)∧l'.length+nodesRs (g.rules.drop i)≤1000000∧StrsO Z wr u l'∧MpS wr (Z+1) (memF l')∧Below Z w wr∧Z+2≤wr.heap.size) (fun _ y _=>g.rules.length - (intOf y).toNat)
 case atStart=>exact ⟨0,[],rfl,Nat.zero_le _,by simp [termsRs],by have:=hnH.out; simpa using this,⟨by simp,.inl ⟨rfl,rfl⟩⟩,hm2H.out,hB2H.out,by have:=hs2H.out; omega⟩
 case round=>
  obtain ⟨i,l',rfl,hi,hl',hnr,hOr,hMr,hBr,hNr⟩:=hrel
  obtain ⟨p1,c1,rfl⟩:=ownsRow_form hOr
  by_cases hlt:i < g.rules.length
  ·have hiI:(i:Int) < (g.rules.length:Int):=by omega
   obtain ⟨a,ha⟩:∃ a,g.rules[i]?=some a:=⟨_,List.getElem?_eq_getElem hlt⟩
   obtain ⟨s,hs⟩:∃ s,ss[i]?=some s:=⟨_,List.getElem?_eq_getElem (by rw [hlH.out]; exact hlt)⟩
   obtain ⟨sp,sc,rfl⟩:=(htr.out i a s ha hs).form
   have hcall:=Hid.mk (ters_any Z (Z+1) (Nat.le_succ Z) w (fun k=>k < w.heap.size) (fun k hk=>by have:=hZH.out; omega) (htr.out i a _ ha hs))
   have e2:=nodesRs_at g.rules i a ha
   rw [e2] at hnr
   have e3:=termsRs_at [] g.rules i a ha
   rw [← hl'] at e3
   obtain ⟨gb,o,c0,he,hSg,hgs,hml,hcs⟩:=hsl.out.rcellS ha hs
   cases he
   have hib:(i:Int) < 9223372036854775807:=by unfold maxLen at hml; omega
   have hgN:gb < Z:=by have:=hZH.out; omega
   have hcs:∀ j u,(ruleC a (.slice sp a.body.kids.length sc))[j]?=some u→wr.cell? ⟨gb,o+i*4+j,none⟩=some u:=fun j u hu=>by
    rw [Nat.add_assoc,hBr.cell (by exact hgN)]; exact hcs j u hu
   have a0:=hcs 0 _ rfl
   have a1:=hcs 1 _ rfl
   have a2:=hcs 2 _ rfl
   have a3:=hcs 3 _ rfl
   simp only [Nat.add_zero] at a0
   have hgr:gb < wr.heap.size:=by omega
   have hgn:gb≠wr.heap.size:=by omega
   have hOrH:=Hid.mk hOr
   have hMrH:=Hid.mk hMr
   have hnrH:=Hid.mk hnr
   have hBrH:=Hid.mk hBr
   have e3H:=Hid.mk e3
   clear hcs hOr hMr hnr hBr hgs ha hs hgN hSg hml e2 e3 hl' d1
   unfold nodeV at hcall
   go_wp2_with (fail)
   have hBb:=Hid.mk ((Below.refl wr.heap.size wr).alloc (Nat.le_refl _) (.cells #[.string a.name,.int .i64 (a.body.kind:Nat),.string a.body.text,.slice sp a.body.kids.length sc] 61))
   refine (hcall.out l' _ _ (hBrH.out.trans (hBb.out.mono (by omega))) (hMrH.out.blw hBb.out) (hOrH.out.blw hBb.out) (Nat.le_trans (by omega) hBb.out.size) (by have:=hnrH.out; omega)).mono ?_
   rintro e w5 ⟨v5,rfl,hO5,hM5,hB5⟩
   obtain ⟨p5,c5,rfl⟩:=ownsRow_form hO5
   have hO5:=Hid.mk hO5
   have hM5:=Hid.mk hM5
   have hN5:Z+2≤w5.heap.size:=Nat.le_trans (Nat.le_trans hNr hBb.out.size) hB5.size
   have hB5:=Hid.mk (hBrH.out.trans ((hBb.out.mono (by omega)).trans hB5))
   go_wp2_with (fail)
   exact ⟨⟨i+1,_,by simp,by omega,e3H.out.symm,by have:=hnrH.out; have:=terms_le l' a.body; omega,hO5.out,hM5.out,hB5.out,hN5⟩,by simp [intOf]; omega⟩
  ·have hiI:((i:Int) < (g.rules.length:Int))=False:=eq_false (by omega)
   have hd:g.rules.take i=g.rules:=List.take_of_length_le (by omega)
   rw [hd] at hl'
   subst hl'
   have hall:=Hid.mk (show _∧_ from ⟨hOr,hBr⟩)
   clear hOr hMr hBr hnr hd d1
   go_wp2_with (fail)
   go_ret
   have:=hZH.out
   subst this
   exact ⟨_,rfl,hall.out.1,hall.out.2⟩
end Go.Proofs.YtmenpmbgennhoaaGreatDoor

namespace Go.Proofs.YtmenpmbgennhoaaGreatDoor
open Go.RowKit
structure Pb where
 code:Int
 rule:Int
 name:ByteArray
def pbC (p:Pb):List Value:=[.int .i64 p.code,.int .i64 p.rule,.string p.name]
theorem pbC_len:∀ l:List Pb,(l.flatMap pbC).length=l.length*3
 | []=>rfl
 | p::l=>by
  have:=pbC_len l
  rw [List.flatMap_cons,List.length_append,this]
  simp [pbC]
  omega
def PbsO (N:Nat) (w:World) (v:Value) (l:List Pb):Prop:=w.ownsRow N 65 3 v l.length (l.flatMap pbC)
theorem PbsO.keep {N:Nat} {w w':World} {v:Value} {l:List Pb} (h:PbsO N w v l) (hk:∀ g,N≤g→g < w.heap.size→v.ownBlock=some g→w'.heap[g]?=w.heap[g]?):PbsO N w' v l:=
 ownsRow_sm h (fun g hg=>hk g (h.lt g hg).1 (h.lt g hg).2 hg)
theorem PbsO.blw {N:Nat} {w w':World} {v:Value} {l:List Pb} (h:PbsO N w v l) (hb:Below w.heap.size w w'):PbsO N w' v l:=h.keep fun g _ h2 _=>hb.block g h2
theorem ownsRow_nomap {N e n size b:Nat} {w:World} {v:Value} {xs:List Value} {f:ByteArray→Option Value} (h:w.ownsRow N e size v n xs) (hm:MpS w b f):v.ownBlock≠some b:=by
 intro e
 rcases h.2 with ⟨rfl,_⟩ | ⟨g,cap,cur,rfl,_,hg,_⟩
 ·cases e
 ·cases e
  obtain ⟨es,c,hb,_⟩:=hm
  rw [hb] at hg
  cases hg
theorem ownsRow_apart {N N' e e' n n' size size':Nat} {w:World} {v v':Value} {xs xs':List Value} (h:w.ownsRow N e size v n xs) (h':w.ownsRow N' e' size' v' n' xs') (hne:e≠e') {g:Nat} (hg:v.ownBlock=some g):v'.ownBlock≠some g:=by
 intro hg'
 rcases h.2 with ⟨rfl,_⟩ | ⟨g1,cap,cur,rfl,_,h1,_⟩
 ·cases hg
 ·rcases h'.2 with ⟨rfl,_⟩ | ⟨g2,cap',cur',rfl,_,h2,_⟩
  ·cases hg'
  ·cases hg
   cases hg'
   rw [h1] at h2
   cases h2
   exact hne rfl
theorem pbRow:(Tryz.prog.info? 65).map (fun i=>(i.zero,i.size,i.bytes))=some (some (.agg #[.int .i64 0,.int .i64 0,.string ⟨#[]⟩]),3,32):=by kernel_rfl
theorem fill3p (v1 v2 v3:Value):Instr.fill (fun i=>some (i*3,3)) ((Array.range (1*3)).map ((Value.agg #[.int .i64 0,.int .i64 0,.string ⟨#[]⟩]).cells[· % (Value.agg #[.int .i64 0,.int .i64 0,.string ⟨#[]⟩]).cells.size]!)) [(0,.agg #[v1,v2,v3])]=some #[v1,v2,v3]:=by
 have h:((Array.range (1*3)).map ((Value.agg #[.int .i64 0,.int .i64 0,.string ⟨#[]⟩]).cells[· % (Value.agg #[.int .i64 0,.int .i64 0,.string ⟨#[]⟩]).cells.size]!))=#[.int .i64 0,.int .i64 0,.string ⟨#[]⟩]:=by kernel_rfl
 rw [h]
 simp [Instr.fill,Value.cells]
theorem wpList_build_pb {ops:Array Oper} {rest:List Oper} {o:Oper} {a:Act} {w:World} {Q:Exit→Act→World→Prop} (hgd:o.guard=none) (x:Operand) (ho:o.op= .buildSlice 62 1 #[(0,x)]) (v1 v2 v3:Value) (hx:a.eval x= .agg #[v1,v2,v3])
  (h:wpList Tryz.prog ops Q rest (a.put o.dst (.slice (some ⟨w.heap.size,0,none⟩) 1 1)) (w.alloc (.cells #[v1,v2,v3] 65))):wpList Tryz.prog ops Q (o::rest) a w:=by
 refine wpList_plain hgd fun _ hK=> ?_
 obtain ⟨i0,hi,hz0,hz1,hz2⟩:=info_parts pbRow
 exact wp_build1 _ _ x ho _ hx _ i0 _ 3 Tryz.underlying62 hi hz0 hz1 (by decide) (by decide) (fill3p v1 v2 v3) (hK _ _ h)
theorem wpList_app_pb {ops:Array Oper} {rest:List Oper} {o:Oper} {a:Act} {w:World} {Q:Exit→Act→World→Prop} (hgd:o.guard=none) (s x:Operand) (ho:o.op= .call { callee:= .builtin .append,args:=#[s,x],argTypes:=#[62,62] })
  (N:Nat) (v:Value) (l:List Pb) (t:Pb) (w1:World) (hw:w=w1.alloc (.cells (pbC t).toArray 65)) (hs:a.eval s=v) (hown:PbsO N w1 v l) (hx:a.eval x= .slice (some ⟨w1.heap.size,0,none⟩) 1 1) (hl:l.length≤1000000000) (hN:N≤w1.heap.size)
  (h:∀ g' c w',PbsO N w' (.slice (some ⟨g',0,none⟩) (l.length+1) c) (l++[t])→w1.grownBy w' v.ownBlock→wpList Tryz.prog ops Q rest (a.put o.dst (.slice (some ⟨g',0,none⟩) (l.length+1) c)) w'):wpList Tryz.prog ops Q (o::rest) a w:=by
 subst hw
 obtain ⟨i0,hi,hz0,hz1,hz2⟩:=info_parts pbRow
 refine wpList_append_lies _ hgd s x 62 ho N 65 i0 _ 3 32 Tryz.underlying62 hi hz0 hz1 hz2 rfl (by decide) v l.length _ hs (hown.keep fun g _ h2 _=>Go.heap_alloc_old w1 _ h2) ⟨w1.heap.size,0,none⟩ 1 1 (pbC t) hx rfl (fun j u hj=> ?_) (fun u hu=> ?_) (by decide) (by unfold maxLen; omega) (by omega) (by simp; omega) _ rfl ?_
 ·have:(w1.alloc (.cells (pbC t).toArray 65)).cell? ⟨w1.heap.size,j,none⟩=(pbC t).toArray[j]?:=cell_of_row _ _ _ _ _ _ (heap_alloc_new w1 _)
  rw [Addr.add_lit,Nat.zero_add,this]
  simpa using hj
 ·simp only [pbC,List.mem_cons,List.not_mem_nil,or_false] at hu
  rcases hu with rfl | rfl | rfl <;> rfl
 ·intro g cap w' h1 h2 h3 _
  exact h g cap w' (by unfold PbsO; rw [List.flatMap_append,List.length_append]; simpa using h1) ((World.grownBy_alloc w1 _ v.ownBlock).trans h2)
def undefL (rs:List Rl) (i:Nat):List ByteArray→List ByteArray→List Pb→List Pb
 | [],_,out=>out
 | n::r,told,out=>if (frst rs 0 n).isNone=true∧n ∉ told then undefL rs i r (told++[n]) (out++[⟨10,(i:Int),n⟩]) else undefL rs i r told out
def dupL (rs:List Rl) (i:Nat) (r:Rl) (out:List Pb):List Pb:=if (frst rs 0 r.name).getD 0≠i then out++[⟨9,(i:Int),r.name⟩] else out
def chkL (rs:List Rl):List Rl→Nat→List Pb→List Pb
 | [],_,out=>out
 | r::l,i,out=>chkL rs l (i+1) (undefL rs i (refsT r.body) [] (dupL rs i r out))
def checkG (g:Gr):List Pb:=if (frst g.rules 0 g.start).isNone=true then chkL g.rules g.rules 0 []++[⟨19, -1,g.start⟩] else chkL g.rules g.rules 0 []
theorem undefL_le (rs:List Rl) (i:Nat):∀ (l told:List ByteArray) (out:List Pb),(undefL rs i l told out).length≤out.length+l.length
 | [],_,out=>by simp [undefL]
 | n::r,told,out=>by
  rw [undefL]
  split
  ·have:=undefL_le rs i r (told++[n]) (out++[⟨10,(i:Int),n⟩])
   simp at this ⊢
   omega
  ·have:=undefL_le rs i r told out
   simp at this ⊢
   omega
theorem chkL_at (rs ks:List Rl) (i:Nat) (a:Rl) (h:ks[i]?=some a) (out:List Pb) (j:Nat):chkL rs (ks.drop i) j out=chkL rs (ks.drop (i+1)) (j+1) (undefL rs j (refsT a.body) [] (dupL rs j a out)):=by
 have hlt:=(List.getElem?_eq_some_iff.1 h).1
 have ha:=(List.getElem?_eq_some_iff.1 h).2
 rw [List.drop_eq_getElem_cons hlt,chkL,ha]
theorem undefL_at (rs:List Rl) (i:Nat) (ns:List ByteArray) (j:Nat) (n:ByteArray) (h:ns[j]?=some n) (told:List ByteArray) (out:List Pb) :
  undefL rs i (ns.drop j) told out=if (frst rs 0 n).isNone=true∧n ∉ told then undefL rs i (ns.drop (j+1)) (told++[n]) (out++[⟨10,(i:Int),n⟩]) else undefL rs i (ns.drop (j+1)) told out:=by
 have hlt:=(List.getElem?_eq_some_iff.1 h).1
 have ha:=(List.getElem?_eq_some_iff.1 h).2
 rw [List.drop_eq_getElem_cons hlt,undefL,ha]
end Go.Proofs.YtmenpmbgennhoaaGreatDoor

namespace Go.Proofs.YtmenpmbgennhoaaGreatDoor
open Go.RowKit
theorem firstV_get (rs:List Rl) (s:ByteArray):(firstV rs s).getD (.int .i64 0)= .int .i64 ((frst rs 0 s).getD 0:Nat):=by
 unfold firstV
 cases frst rs 0 s <;> rfl
theorem firstV_has (rs:List Rl) (s:ByteArray):(firstV rs s).isSome= !(frst rs 0 s).isNone:=by
 unfold firstV
 cases frst rs 0 s <;> rfl
theorem StrsO.at {N:Nat} {w:World} {v:Value} {l:List ByteArray} (h:StrsO N w v l) {i:Nat} {s:ByteArray} (hs:l[i]?=some s):∃ g c,v= .slice (some ⟨g,0,none⟩) l.length c∧w.cell? ⟨g,i,none⟩=some (.string s)∧N≤g∧g < w.heap.size∧l.length≤maxLen:=by
 have hlt:=(List.getElem?_eq_some_iff.1 hs).1
 rcases h.2 with ⟨rfl,h0⟩ | ⟨g,cap,cur,rfl,hb,hg,hm1,hm2,_⟩
 ·omega
 ·refine ⟨g,cap,rfl,?_,hb,(Array.getElem?_eq_some_iff.1 hg).1,Nat.le_trans hm1 hm2⟩
  have:=h.cells (g:=g) rfl i (.string s) (by simp [hs])
  rw [Addr.add_lit,Nat.zero_add] at this
  exact this
set_option maxRecDepth 100000 in
set_option maxHeartbeats 3200000 in
theorem check_any (S:Nat→Prop) (w:World) {g:Gr} {s:Value} (h:RsAt S w g.rules s) (hn:g.rules.length+nodesRs g.rules≤1000000) (hsh:∀ (i:Nat) r,g.rules[i]?=some r→shortT r.body=true) :
  Calls Tryz.prog 23 #[gramV g s] w fun e w'=>∃ v,e= .returned v∧PbsO w.heap.size w' v (checkG g)∧Below w.heap.size w w':=by
 have hmm:= @run_makeMap Tryz.prog
 obtain ⟨R,hR⟩:∃ R,checkG g=R:=⟨_,rfl⟩
 rw [hR]
 unfold checkG at hR
 have hfst:=Hid.mk (fun (w':World) (hB:Below w.heap.size w w')=>firsts_any S w' g s (h.keep (S':=S) hB.size fun k h1 h2=>⟨hB.block k h2,h1⟩))
 obtain ⟨p,c,rfl⟩:=h.form
 obtain ⟨ss,hl,h1,h2⟩:=h
 have hsl:=Hid.mk (h1.keep (S':=fun k=>k < w.heap.size) (Nat.le_refl _) fun k _ h=>⟨rfl,h⟩)
 have htr:=Hid.mk (fun i r s q1 q2=>(h2 i r s q1 q2).keep (S':=fun k=>k < w.heap.size) (Nat.le_refl _) fun k _ h=>⟨rfl,h⟩)
 have hnH:=Hid.mk hn
 have hlH:=Hid.mk hl
 have hshH:=Hid.mk hsh
 have hRH:=Hid.mk hR
 clear h1 h2 hn hl hsh hR
 unfold gramV at hfst ⊢
 obtain ⟨Z,hZ⟩:∃ Z,w.heap.size=Z:=⟨_,rfl⟩
 have hB1:Below Z w (w.alloc (.cells #[.string g.start,.slice p g.rules.length c] 25)):=by rw [← hZ]; exact (Below.refl _ w).alloc (Nat.le_refl _) _
 have hs1:(w.alloc (.cells #[.string g.start,.slice p g.rules.length c] 25)).heap.size=Z+1:=by simp; omega
 have hc1:=heap_alloc_new w (.cells #[.string g.start,.slice p g.rules.length c] 25)
 rw [hZ] at hc1
 go_enter Tryz.func23,Tryz.ntmps23
 go_upto_region 1 with (fail)
 generalize w.alloc (.cells #[.string g.start,.slice p g.rules.length c] 25)=w1 at*
 have d0:w1.cell? ⟨Z,0,none⟩=some (.string g.start):=by simp [World.cell?,hc1]
 have d1:w1.cell? ⟨Z,1,none⟩=some (.slice p g.rules.length c):=by simp [World.cell?,hc1]
 go_wp2_with (fail)
 refine (hfst.out w1 (by rw [hZ]; exact hB1)).mono ?_
 rintro e w2 ⟨b1,rfl,hb1,hm1,hB12⟩
 have hc2:=(hB12.block Z (by omega)).trans hc1
 have d0:w2.cell? ⟨Z,0,none⟩=some (.string g.start):=by simp [World.cell?,hc2]
 have d1:w2.cell? ⟨Z,1,none⟩=some (.slice p g.rules.length c):=by simp [World.cell?,hc2]
 have hB2:=Hid.mk (hB1.trans (hB12.mono (by omega)))
 have hs2:=Hid.mk (show Z+1≤w2.heap.size by have:=hB12.size; omega)
 have hc2H:=Hid.mk hc2
 have hm1H:=Hid.mk hm1
 have hZH:=Hid.mk hZ
 have hbZ:=Hid.mk (show Z < b1 by omega)
 clear hB1 hs1 hc1 hB12 hc2 hm1 hZ hfst hb1
 go_wp2_with (fail)
 go_loopw [3,19] (fun u y wr=>∃ (i:Nat) (l:List Pb),y= .int .i64 (i:Nat)∧i≤g.rules.length∧chkL g.rules (g.rules.drop i) i l=chkL g.rules g.rules 0 []∧l.length+(g.rules.length - i)+nodesRs (g.rules.drop i)≤1000000∧PbsO (Z+1) wr u l∧MpS wr b1 (firstV g.rules)∧Below Z w wr∧Z+1≤wr.heap.size∧wr.heap[Z]?=some (.cells #[.string g.start,.slice p g.rules.length c] 25 (0,0))) (fun _ y _=>g.rules.length - (intOf y).toNat)
 case atStart=>exact ⟨0,[],rfl,Nat.zero_le _,rfl,by have:=hnH.out; simpa using this,⟨by simp,.inl ⟨rfl,rfl⟩⟩,hm1H.out,hB2.out,hs2.out,hc2H.out⟩
 case round=>
  clear d0 d1
  obtain ⟨i,l,rfl,hi,hl',hnr,hOr,hMr,hBr,hNr,hcr⟩:=hrel
  obtain ⟨p1,c1,rfl⟩:=ownsRow_form hOr
  by_cases hlt:i < g.rules.length
  ·have hiI:(i:Int) < (g.rules.length:Int):=by omega
   obtain ⟨a,ha⟩:∃ a,g.rules[i]?=some a:=⟨_,List.getElem?_eq_getElem hlt⟩
   obtain ⟨s,hs⟩:∃ s,ss[i]?=some s:=⟨_,List.getElem?_eq_getElem (by rw [hlH.out]; exact hlt)⟩
   obtain ⟨sp,sc,rfl⟩:=(htr.out i a s ha hs).form
   have htra:=Hid.mk (htr.out i a _ ha hs)
   have hsha:=Hid.mk (hshH.out i a ha)
   rw [nodesRs_at g.rules i a ha] at hnr
   rw [chkL_at g.rules g.rules i a ha] at hl'
   obtain ⟨gb,o,c0,he,hSg,hgs,hml,hcs⟩:=hsl.out.rcellS ha hs
   cases he
   have hib:(i:Int) < 9223372036854775807:=by unfold maxLen at hml; omega
   have hgN:gb < Z:=by have:=hZH.out; omega
   have hcs:∀ j u,(ruleC a (.slice sp a.body.kids.length sc))[j]?=some u→wr.cell? ⟨gb,o+i*4+j,none⟩=some u:=fun j u hu=>by
    rw [Nat.add_assoc,hBr.cell (by exact hgN)]; exact hcs j u hu
   have a0:=hcs 0 _ rfl
   have a1:=hcs 1 _ rfl
   have a2:=hcs 2 _ rfl
   have a3:=hcs 3 _ rfl
   simp only [Nat.add_zero] at a0
   have hgr:gb < wr.heap.size:=by omega
   have hgn:gb≠wr.heap.size:=by omega
   have hOrH:=Hid.mk hOr
   have hMrH:=Hid.mk hMr
   have hnrH:=Hid.mk hnr
   have hBrH:=Hid.mk hBr
   have hcrH:=Hid.mk hcr
   have hlH':=Hid.mk hl'
   clear hcs hOr hMr hnr hBr hgs ha hs hgN hSg hml hl' hcr
   obtain ⟨q,hq⟩:∃ q,decide ((frst g.rules 0 a.name).getD 0≠i)=q:=⟨_,rfl⟩
   have hBb:=Hid.mk ((Below.refl wr.heap.size wr).alloc (Nat.le_refl _) (.cells #[.string a.name,.int .i64 (a.body.kind:Nat),.string a.body.text,.slice sp a.body.kids.length sc] 61))
   have hcb:=heap_alloc_new wr (.cells #[.string a.name,.int .i64 (a.body.kind:Nat),.string a.body.text,.slice sp a.body.kids.length sc] 61)
   obtain ⟨T,hT⟩:∃ T,wr.heap.size=T:=⟨_,rfl⟩
   rw [hT] at hcb hgn
   go_upto_region 6 with (fail)
   generalize hwb:wr.alloc (.cells #[.string a.name,.int .i64 (a.body.kind:Nat),.string a.body.text,.slice sp a.body.kids.length sc] 61)=wb at hcb hBb ⊢
   have hsb:T+1≤wb.heap.size:=by subst hwb; simp; omega
   have hTH:=Hid.mk hT
   clear hwb hT
   have t0:wb.cell? ⟨T,0,none⟩=some (.string a.name):=by simp [World.cell?,hcb]
   have hlk1:=(hMrH.out.blw hBb.out).look (P:=Tryz.prog) Tryz.underlying67 Tryz.underlying9 (Tryz.zeroValue3 wb) a.name false
   rw [firstV_get] at hlk1
   simp only [Bool.false_eq_true,if_false] at hlk1
   generalize hfr:(frst g.rules 0 a.name).getD 0=fr at hlk1 hq
   have hqI:(((fr:Nat):Int) !=((i:Nat):Int))=q:=by
    rw [← hq]
    by_cases h:fr=i
    ·simp [h]
    ·have h':((fr:Nat):Int)≠((i:Nat):Int):=by omega
     simp [h,h']
   obtain ⟨l2,hl2⟩:∃ l2,dupL g.rules i a l=l2:=⟨_,rfl⟩
   rw [hl2] at hlH'
   have hd:l2=if q=true then l++[⟨9,(i:Int),a.name⟩] else l:=by
    rw [← hl2,← hq,← hfr]
    unfold dupL
    simp only [decide_eq_true_eq]
   have hcbH:=Hid.mk hcb
   have hdH:=Hid.mk hd
   have hOb:=Hid.mk (hOrH.out.blw hBb.out)
   have hMb:=Hid.mk (hMrH.out.blw hBb.out)
   have hBb':=Hid.mk (hBrH.out.trans (hBb.out.mono (by omega)))
   have hcb':=Hid.mk ((hBb.out.block Z (by have:=hTH.out; omega)).trans hcrH.out)
   have hsbH:=Hid.mk hsb
   have hl2H:=Hid.mk hl2
   have hoT:=Hid.mk (fun k (hk:(Value.slice p1 l.length c1).ownBlock=some k)=>(hOrH.out.lt k hk).2)
   clear hd hl2 hfr hcb hq hBb hMrH hOrH hcrH hBrH hsb
   go_upto_if 29 with (fail)
   go_cut [3] (fun u wc=>PbsO (Z+1) wc u l2∧MpS wc b1 (firstV g.rules)∧Below Z w wc∧wc.heap[Z]?=some (.cells #[.string g.start,.slice (some ⟨gb,o,none⟩) g.rules.length c] 25 (0,0))∧wc.heap[T]?=some (.cells #[.string a.name,.int .i64 (a.body.kind:Nat),.string a.body.text,.slice sp a.body.kids.length sc] 61 (0,0))∧T+1≤wc.heap.size)
   case first=>as_aux_lemma=>
    cases q with
    | false=>
     have hd:=hdH.out
     simp only [Bool.false_eq_true,if_false] at hd
     subst hd
     go_wp2_with (fail)
     go_meet
     exact ⟨hOb.out,hMb.out,hBb'.out,hcb'.out,hcbH.out,hsbH.out⟩
    | true=>
     have hd:=hdH.out
     simp only [if_true] at hd
     subst hd
     have hNb:Z+1≤wb.heap.size:=by have:=hsbH.out; have:=hTH.out; omega
     go_wp2_with (first | (refine wpList_build_pb rfl _ rfl _ _ _ rfl ?_) | (at_builtin; refine wpList_app_pb rfl _ _ rfl (Z+1) _ l ⟨9,(i:Int),a.name⟩ wb rfl rfl hOb.out rfl (by have:=hnrH.out; omega) hNb ?_; intro g' cc w2 hO2 hg2))
     go_meet
     exact ⟨by simpa using hO2,hMb.out.keep (hg2.block b1 hMb.out.lt (fun e=>ownsRow_nomap hOb.out hMb.out e.symm)),hBb'.out.grown hg2 (Nat.le_trans (Nat.le_succ Z) hNb) (fun j hj=>Nat.le_trans (Nat.le_succ Z) (hOb.out.lt j hj).1),(hg2.block Z hNb (fun e=>by have:=(hOb.out.lt Z e.symm).1; omega)).trans hcb'.out,(hg2.block T (by have:=hsbH.out; omega) (fun e=>by have:=hoT.out T e.symm; have:=hTH.out; omega)).trans hcbH.out,Nat.le_trans hsbH.out hg2.size⟩
   case rest=>as_aux_lemma=>
    obtain ⟨hO,hM,hB,hcZ,hcT,hsT⟩:=hcut
    obtain ⟨p2,c2,rfl⟩:=ownsRow_form hO
    have hm3:=MpS.made wc
    obtain ⟨V,hV⟩:∃ V,wc.heap.size=V:=⟨_,rfl⟩
    have hBc:Below V wc (wc.alloc (.map #[] 0)):=by rw [← hV]; exact (Below.refl _ wc).alloc (Nat.le_refl _) _
    have hs3:(wc.alloc (.map #[] 0)).heap.size=V+1:=by simp; omega
    rw [hV] at hm3
    go_upto_region 9 with (fail)
    generalize wc.alloc (.map #[] 0)=w3 at*
    rw [← hV] at hBc
    have hO3:=Hid.mk (hO.blw hBc)
    have hM3:=Hid.mk (hM.blw hBc)
    have hcZ3:=Hid.mk ((hBc.block Z (by have:=hTH.out; omega)).trans hcZ)
    have hcT3:=(hBc.block T (by omega)).trans hcT
    have hB3:=Hid.mk (hB.trans (hBc.mono (by have:=hTH.out; omega)))
    have t1:w3.cell? ⟨T,1,none⟩=some (.int .i64 (a.body.kind:Nat)):=by simp [World.cell?,hcT3]
    have t2:w3.cell? ⟨T,2,none⟩=some (.string a.body.text):=by simp [World.cell?,hcT3]
    have t3:w3.cell? ⟨T,3,none⟩=some (.slice sp a.body.kids.length sc):=by simp [World.cell?,hcT3]
    have hmV:=Hid.mk (show MpS w3 V (memF []) from hm3)
    have hVT:=Hid.mk (show T+1≤V by omega)
    have hs3H:=Hid.mk hs3
    have hbV:=Hid.mk (show b1 < V by have:=hM.lt; omega)
    clear hO hM hB hcZ hcT hsT hm3 hV hBc hs3 hcT3 hOb hMb hBb' hcb' hcbH hsbH hdH
    have hrf:=Hid.mk (refsAll_any w3 (fun k=>k < w.heap.size) (htra.out.keep (by have:=hB3.out.size; have:=hZH.out; have:=hTH.out; have:=hs3H.out; have:=hVT.out; omega) fun k h1 h2=>⟨hB3.out.block k (by have:=hZH.out; omega),h1⟩) hsha.out (by have:=hnrH.out; omega))
    unfold nodeV at hrf
    go_wp2_with (fail)
    refine hrf.out.mono ?_
    rintro e w4 ⟨v4,rfl,hN4,hB4⟩
    obtain ⟨p4,c4,rfl⟩:=ownsRow_form hN4
    have hO4:=Hid.mk (hO3.out.blw hB4)
    have hM4:=Hid.mk (hM3.out.blw hB4)
    have hmV4:=Hid.mk (hmV.out.blw hB4)
    have hcZ4:=Hid.mk ((hB4.block Z (by have:=hTH.out; have:=hs3H.out; have:=hVT.out; omega)).trans hcZ3.out)
    have hs4:=Hid.mk (show V+1≤w4.heap.size by have:=hB4.size; have:=hs3H.out; omega)
    have hB4:=Hid.mk (hB3.out.trans (hB4.mono (by have:=hTH.out; have:=hs3H.out; have:=hVT.out; omega)))
    have hN4:=Hid.mk hN4
    clear t1 t2 t3 hrf hO3 hM3 hmV hcZ3 hB3 htra hsha
    obtain ⟨ns,hns⟩:∃ ns,refsT a.body=ns:=⟨_,rfl⟩
    have hnl:ns.length≤nodesT a.body:=by rw [← hns]; exact refs_le a.body
    rw [hns] at hN4 hlH' ⊢
    obtain ⟨FIN,hFIN⟩:∃ FIN,undefL g.rules i ns [] l2=FIN:=⟨_,rfl⟩
    rw [hFIN] at hlH'
    have hFH:=Hid.mk hFIN
    have hl2n:l2.length+ns.length+(g.rules.length - (i+1))+nodesRs (g.rules.drop (i+1))≤1000000:=by
     have h1:=hnrH.out
     have h2:l2.length≤l.length+1:=by rw [← hl2H.out]; unfold dupL; split <;> simp
     omega
    have hl2nH:=Hid.mk hl2n
    clear hns hnl hFIN hl2n
    obtain ⟨m0,hm0⟩:∃ m0,w3.heap.size=m0:=⟨_,rfl⟩
    rw [hm0] at hN4
    clear hm0 hs3H hnrH
    go_wp2_with (fail)
    go_loopw [3,42] (fun u y wq=>∃ (j:Nat) (told:List ByteArray) (l3:List Pb),y= .int .i64 (j:Nat)∧j≤ns.length∧undefL g.rules i (ns.drop j) told l3=FIN∧l3.length+(ns.length - j)+(g.rules.length - (i+1))+nodesRs (g.rules.drop (i+1))≤1000000∧PbsO (Z+1) wq u l3∧MpS wq b1 (firstV g.rules)∧MpS wq V (memF told)∧StrsO m0 wq (.slice p4 ns.length c4) ns∧Below Z w wq∧V+1≤wq.heap.size∧wq.heap[Z]?=some (.cells #[.string g.start,.slice (some ⟨gb,o,none⟩) g.rules.length c] 25 (0,0))) (fun _ y _=>ns.length - (intOf y).toNat)
    case atStart=>exact ⟨0,[],l2,rfl,Nat.zero_le _,hFH.out,by have:=hl2nH.out; omega,hO4.out,hM4.out,hmV4.out,hN4.out,hB4.out,hs4.out,hcZ4.out⟩
    case round=>
     obtain ⟨j,told,l3,rfl,hj,hu,hn3,hO,hM,hmV,hN,hB,hV1,hcZ⟩:=hrel
     obtain ⟨p5,c5,rfl⟩:=ownsRow_form hO
     by_cases hjl:j < ns.length
     ·have hjI:(j:Int) < (ns.length:Int):=by omega
      obtain ⟨x,hx⟩:∃ x,ns[j]?=some x:=⟨_,List.getElem?_eq_getElem hjl⟩
      obtain ⟨gn,cn,he,hcx,hmg,hgs,hml⟩:=hN.at hx
      cases he
      have hjb:(j:Int) < 9223372036854775807:=by unfold maxLen at hml; omega
      rw [undefL_at g.rules i ns j x hx] at hu
      have hlk1:=hM.look (P:=Tryz.prog) Tryz.underlying67 Tryz.underlying9 (Tryz.zeroValue3 wr) x true
      rw [firstV_get,firstV_has] at hlk1
      have hlk2:=hmV.look (P:=Tryz.prog) Tryz.underlying99 Tryz.underlying9 (Tryz.zeroValue4 wr) x false
      rw [memF_get] at hlk2
      simp only [if_true,Bool.false_eq_true,if_false] at hlk1 hlk2
      generalize hfr:(frst g.rules 0 x).getD 0=fr at hlk1
      clear hfr
      have hall:=Hid.mk (show _∧_∧_∧_∧_∧_∧_ from ⟨hO,hM,hmV,hN,hB,hV1,hcZ⟩)
      have hn3H:=Hid.mk hn3
      have huH:=Hid.mk hu
      have hjH:=Hid.mk hj
      have hjlH:=Hid.mk hjl
      clear hO hM hmV hN hB hV1 hcZ hn3 hu hj hjl hmg hgs hml hx
      cases hq1:(frst g.rules 0 x).isNone with
      | false=>
       rw [hq1] at hlk1 huH
       simp only [Bool.not_false,Bool.false_eq_true,false_and,if_false] at hlk1 huH
       clear hq1
       go_wp2_with (fail)
       obtain ⟨hO,hM,hmV,hN,hB,hV1,hcZ⟩:=hall.out
       exact ⟨⟨j+1,told,l3,by simp,hjlH.out,huH.out,by have:=hn3H.out; have:=hjlH.out; omega,hO,hM,hmV,hN,hB,hV1,hcZ⟩,by have:=hjlH.out; simp [intOf]; omega⟩
      | true=>
       rw [hq1] at hlk1 huH
       clear hq1
       by_cases hx:x ∈ told
       ·rw [decide_eq_true hx] at hlk2
        simp only [Bool.not_true,true_and,hx,not_true_eq_false,if_false] at hlk1 huH
        clear hx
        go_wp2_with (fail)
        obtain ⟨hO,hM,hmV,hN,hB,hV1,hcZ⟩:=hall.out
        exact ⟨⟨j+1,told,l3,by simp,hjlH.out,huH.out,by have:=hn3H.out; have:=hjlH.out; omega,hO,hM,hmV,hN,hB,hV1,hcZ⟩,by have:=hjlH.out; simp [intOf]; omega⟩
       ·rw [decide_eq_false hx] at hlk2
        simp only [Bool.not_true,true_and,hx,not_false_eq_true,if_true] at hlk1 huH
        clear hx
        have hmV:=hall.out.2.2.1
        go_upto_region 15 with (refine wpList_put_str rfl _ _ _ rfl Tryz.underlying99 Tryz.underlying9 V _ rfl hmV x rfl (.bool true) rfl ?_; intro w6 hm6 hon hsz6)
        obtain ⟨hO,hM,hmV,hN,hB,hV1,hcZ⟩:=hall.out
        rw [memF_put] at hm6
        have hO6:=hO.keep (w':=w6) fun k h1 h2 h3=>hon.block k h2 (fun e=>ownsRow_nomap hO hmV (by rw [h3,e]))
        have hM6:=hM.keep (w':=w6) (hon.block b1 hM.lt (fun e=>by injection e with e; have:=hbV.out; omega))
        have hN6:=hN.keep (w':=w6) fun k h1 h2 h3=>hon.block k h2 (fun e=>ownsRow_nomap hN hmV (by rw [h3,e]))
        have hZV:Z+1≤V:=by have:=hVT.out; have:=hTH.out; omega
        have hB6:=hB.trans (hon.blw (N:=Z) (by omega) (by omega))
        have hcZ6:=(hon.block Z (by omega) (fun e=>by injection e with e; omega)).trans hcZ
        have hZ6:Z+1≤w6.heap.size:=by omega
        have hall6:=Hid.mk (show _∧_∧_∧_∧_∧_ from ⟨hM6,hm6,hN6,hB6,show V+1≤w6.heap.size by omega,hcZ6⟩)
        have hO6H:=Hid.mk hO6
        clear hO hM hmV hN hB hV1 hcZ hall hm6 hon hsz6 hO6 hM6 hN6 hB6 hcZ6 hlk1 hlk2 hcx
        go_upto_region 16 with (first | (refine wpList_build_pb rfl _ rfl _ _ _ rfl ?_) | (at_builtin; refine wpList_app_pb rfl _ _ rfl (Z+1) _ l3 ⟨10,(i:Int),x⟩ w6 rfl rfl hO6H.out rfl (by have:=hn3H.out; omega) hZ6 ?_; intro g' cc w7 hO7 hg7))
        obtain ⟨hM6,hm6,hN6,hB6,hV6,hcZ6⟩:=hall6.out
        have hO6:=hO6H.out
        have hM7:=hM6.keep (w':=w7) (hg7.block b1 hM6.lt (fun e=>ownsRow_nomap hO6 hM6 e.symm))
        have hm7:=hm6.keep (w':=w7) (hg7.block V hm6.lt (fun e=>ownsRow_nomap hO6 hm6 e.symm))
        have hN7:=hN6.keep (w':=w7) fun k h1 h2 h3=>hg7.block k h2 (fun e=>ownsRow_apart hN6 hO6 (by decide) h3 e.symm)
        have hB7:=hB6.grown hg7 (by omega) (fun k hk=>Nat.le_trans (Nat.le_succ Z) (hO6.lt k hk).1)
        have hcZ7:=(hg7.block Z (by omega) (fun e=>by have:=(hO6.lt Z e.symm).1; omega)).trans hcZ6
        have hall7:=Hid.mk (show _∧_∧_∧_∧_∧_∧_ from ⟨hO7,hM7,hm7,hN7,hB7,show V+1≤w7.heap.size from Nat.le_trans hV6 hg7.size,hcZ7⟩)
        clear hM6 hm6 hN6 hB6 hV6 hcZ6 hO6 hall6 hO6H hM7 hm7 hN7 hB7 hcZ7 hO7 hg7 hZ6 hZV
        go_wp2_with (fail)
        obtain ⟨hO,hM,hmV,hN,hB,hV1,hcZ⟩:=hall7.out
        exact ⟨⟨j+1,told++[x],l3++[⟨10,(i:Int),x⟩],by simp,hjlH.out,huH.out,by have:=hn3H.out; have:=hjlH.out; simp; omega,by simpa using hO,hM,hmV,hN,hB,hV1,hcZ⟩,by have:=hjlH.out; simp [intOf]; omega⟩
     ·have hjI:((j:Int) < (ns.length:Int))=False:=eq_false (by omega)
      have hd:ns.drop j=[]:=List.drop_eq_nil_of_le (by omega)
      rw [hd,undefL] at hu
      subst hu
      have hall:=Hid.mk (show _∧_∧_∧_∧_ from ⟨hO,hM,hB,hV1,hcZ⟩)
      have hn3H:=Hid.mk hn3
      clear hO hM hmV hN hB hV1 hcZ hn3 hd
      go_wp2_with (fail)
      obtain ⟨hO,hM,hB,hV1,hcZ⟩:=hall.out
      exact ⟨⟨i+1,l3,by simp,by omega,hlH'.out,by have:=hn3H.out; omega,hO,hM,hB,by have:=hVT.out; have:=hTH.out; omega,hcZ⟩,by simp [intOf]; omega⟩
  ·have hiI:((i:Int) < (g.rules.length:Int))=False:=eq_false (by omega)
   have hd:g.rules.drop i=[]:=List.drop_eq_nil_of_le (by omega)
   rw [hd,chkL] at hl'
   rw [← hl'] at hRH
   have d0:wr.cell? ⟨Z,0,none⟩=some (.string g.start):=by simp [World.cell?,hcr]
   have hlk1:=hMr.look (P:=Tryz.prog) Tryz.underlying67 Tryz.underlying9 (Tryz.zeroValue3 wr) g.start true
   rw [firstV_get,firstV_has] at hlk1
   simp only [if_true] at hlk1
   generalize hfr:(frst g.rules 0 g.start).getD 0=fr at hlk1
   clear hfr
   have hOrH:=Hid.mk hOr
   have hnrH:=Hid.mk hnr
   have hBrH:=Hid.mk hBr
   clear hcr hOr hMr hnr hBr hd hl'
   cases hq1:(frst g.rules 0 g.start).isNone with
   | false=>
    rw [hq1] at hlk1 hRH
    simp only [Bool.not_false,Bool.false_eq_true,if_false] at hlk1 hRH
    have:=hRH.out
    subst this
    clear hq1
    go_wp2_with (fail)
    go_ret
    have:=hZH.out
    subst this
    exact ⟨_,rfl,ownsRow_base' hOrH.out (Nat.le_succ _),hBrH.out⟩
   | true=>
    rw [hq1] at hlk1 hRH
    simp only [Bool.not_true,if_true] at hlk1 hRH
    have:=hRH.out
    subst this
    clear hq1
    go_upto_region 21 with (first | (refine wpList_build_pb rfl _ rfl _ _ _ rfl ?_) | (at_builtin; refine wpList_app_pb rfl _ _ rfl (Z+1) _ l ⟨19, -1,g.start⟩ wr rfl rfl hOrH.out rfl (by have:=hnrH.out; omega) hNr ?_; intro g' cc w7 hO7 hg7))
    have hB7:=Hid.mk (hBrH.out.grown hg7 (by omega) (fun k hk=>Nat.le_trans (Nat.le_succ Z) (hOrH.out.lt k hk).1))
    have hO7:=Hid.mk hO7
    clear hg7
    go_wp2_with (fail)
    go_ret
    have:=hZH.out
    subst this
    exact ⟨_,rfl,ownsRow_base' (by simpa [PbsO] using hO7.out) (Nat.le_succ _),hB7.out⟩
end Go.Proofs.YtmenpmbgennhoaaGreatDoor
