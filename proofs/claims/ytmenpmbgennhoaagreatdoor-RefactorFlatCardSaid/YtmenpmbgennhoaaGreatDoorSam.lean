/- syntax.SameNode: are two trees alike? syntax.SameNode, whole. Are two lists of rules alike? Printed out of Sam by substitution. syntax.Same: are two grammars alike? -/
import Derived.Test.YtmenpmbgennhoaaGreatDoorRul
namespace Go.Proofs.YtmenpmbgennhoaaGreatDoor
open Go.RowKit
mutual
def sameT:Tr→Tr→Bool
 | .mk k x ks,.mk k' x' ks'=>(decide (k=k') && (x.toList==x'.toList)) && (decide (ks.length=ks'.length) && sameK ks ks')
def sameK:List Tr→List Tr→Bool
 | a::l,b::l'=>sameT a b && sameK l l'
 | _,_=>true
end
theorem SlAt.cell {S:Nat→Prop} {w:World} {v:Value} {ks:List Tr} {ss:List Value} (h:SlAt S w v ks.length (nodesC ks ss)) {i:Nat} {t:Tr} {s:Value} (h1:ks[i]?=some t) (h2:ss[i]?=some s) :
  ∃ g o c,v= .slice (some ⟨g,o,none⟩) ks.length c∧g < w.heap.size∧ks.length≤maxLen∧∀ j u,(nodeC t s)[j]?=some u→w.cell? ⟨g,o+(i*3+j),none⟩=some u:=by
 rcases h with ⟨p,c,rfl,h0⟩ | ⟨g,o,c,rfl,h3,h4,h6,h5⟩
 ·have:=(List.getElem?_eq_some_iff.1 h1).1
  omega
 ·refine ⟨g,o,c,rfl,h4,h6,fun j u hu=>h5 _ u ?_⟩
  have hj:j < 3:=by
   have:=(List.getElem?_eq_some_iff.1 hu).1
   simpa [nodeC] using this
  rw [nodesC_get ks ss i t s h1 h2 j hj]
  exact hu
theorem sameK_at:∀ (ks ks':List Tr) (i:Nat) (a b:Tr),ks[i]?=some a→ks'[i]?=some b→sameK (ks.drop i) (ks'.drop i)=(sameT a b && sameK (ks.drop (i+1)) (ks'.drop (i+1)))
 | a0::l,b0::l',0,a,b,h1,h2=>by simp at h1 h2; subst h1 h2; simp [sameK]
 | a0::l,b0::l',i+1,a,b,h1,h2=>by
  simp at h1 h2
  have:=sameK_at l l' i a b h1 h2
  simpa using this
 | [],_,_,_,_,h1,_=>by simp at h1
 | _::_,[],_,_,_,_,h2=>by simp at h2
def SamC (w:World) (a:Tr) (s:Value) (b:Tr) (s':Value):Prop:=∀ w',Below w.heap.size w w'→
 Calls Tryz.prog 28 #[nodeV a s,nodeV b s'] w' fun e w''=>e= .returned (.bool (sameT a b))∧Below w'.heap.size w' w''
set_option maxRecDepth 100000 in
set_option maxHeartbeats 1600000 in
theorem eqn_any (S S':Nat→Prop) (w:World) (ks ks':List Tr) (ss ss':List Value) (v v':Value) (hl:ss.length=ks.length) (hl':ss'.length=ks'.length) (h1:SlAt S w v ks.length (nodesC ks ss)) (h1':SlAt S' w v' ks'.length (nodesC ks' ss'))
  (hk:∀ (i:Nat) a s b s',ks[i]?=some a→ss[i]?=some s→ks'[i]?=some b→ss'[i]?=some s'→SamC w a s b s')
  (hf:∀ (i:Nat) a s,ks[i]?=some a→ss[i]?=some s→∃ p c,s= .slice p a.kids.length c) (hf':∀ (i:Nat) a s,ks'[i]?=some a→ss'[i]?=some s→∃ p c,s= .slice p a.kids.length c) (w':World) (hB:Below w.heap.size w w') :
  Calls Tryz.prog 55 #[v,v',.func (.func 28) #[] #[]] w' fun e w''=>e= .returned (.bool (decide (ks.length=ks'.length) && sameK ks ks'))∧Below w'.heap.size w' w'':=by
 obtain ⟨R,hR⟩:∃ R,(decide (ks.length=ks'.length) && sameK ks ks')=R:=⟨_,rfl⟩
 rw [hR]
 obtain ⟨p,c,rfl⟩:=h1.form
 obtain ⟨p',c',rfl⟩:=h1'.form
 have h1H:=Hid.mk h1
 have h1H':=Hid.mk h1'
 have hkH:=Hid.mk hk
 have hBH:=Hid.mk hB
 have hfH:=Hid.mk hf
 have hfH':=Hid.mk hf'
 clear h1 h1' hk hB hf hf'
 by_cases hn:ks.length=ks'.length
 ·have hni:(((ks.length:Nat):Int) !=((ks'.length:Nat):Int))=false:=by simp; omega
  rw [decide_eq_true hn,Bool.true_and] at hR
  have hRH:=Hid.mk hR
  have hnH:=Hid.mk hn
  clear hR hn
  go_enter Tryz.func55,Tryz.ntmps55
  go_wp2_with (fail)
  go_loopw [17] (fun x wr=>∃ i:Nat,x= .int .i64 (i:Nat)∧i≤ks.length∧sameK (ks.drop i) (ks'.drop i)=R∧Below w'.heap.size w' wr) (fun x _=>ks.length - (intOf x).toNat)
  case atStart=>exact ⟨0,rfl,Nat.zero_le _,hRH.out,Below.refl _ _⟩
  case round=>
   obtain ⟨i,rfl,hi,hg,hBr⟩:=hrel
   have hBw:=hBH.out.trans (hBr.mono hBH.out.size)
   by_cases hlt:i < ks.length
   ·have hiI:(i:Int) < (ks.length:Int):=by omega
    have hiI':(i:Int) < (ks'.length:Int):=by have:=hnH.out; omega
    obtain ⟨a,ha⟩:∃ a,ks[i]?=some a:=⟨_,List.getElem?_eq_getElem hlt⟩
    obtain ⟨s,hs⟩:∃ s,ss[i]?=some s:=⟨_,List.getElem?_eq_getElem (by omega)⟩
    obtain ⟨b,hb⟩:∃ b,ks'[i]?=some b:=⟨_,List.getElem?_eq_getElem (by have:=hnH.out; omega)⟩
    obtain ⟨s',hs'⟩:∃ s',ss'[i]?=some s':=⟨_,List.getElem?_eq_getElem (by have:=hnH.out; omega)⟩
    obtain ⟨sp,sc,rfl⟩:=hfH.out i a s ha hs
    obtain ⟨sp',sc',rfl⟩:=hfH'.out i b s' hb hs'
    have hsam:=Hid.mk (hkH.out i a _ b _ ha hs hb hs')
    rw [sameK_at ks ks' i a b ha hb] at hg
    obtain ⟨g,o,c0,he,hgs,hml,hcs⟩:=h1H.out.cell ha hs
    obtain ⟨g',o',c0',he',hgs',_,hcs'⟩:=h1H'.out.cell hb hs'
    cases he
    cases he'
    have hib:(i:Int) < 9223372036854775807:=by unfold maxLen at hml; omega
    clear hml
    have hcs:∀ j u,(nodeC a (.slice sp a.kids.length sc))[j]?=some u→wr.cell? ⟨g,o+i*3+j,none⟩=some u:=fun j u hu=>by
     rw [Nat.add_assoc,hBw.cell (by exact hgs)]; exact hcs j u hu
    have hcs':∀ j u,(nodeC b (.slice sp' b.kids.length sc'))[j]?=some u→wr.cell? ⟨g',o'+i*3+j,none⟩=some u:=fun j u hu=>by
     rw [Nat.add_assoc,hBw.cell (by exact hgs')]; exact hcs' j u hu
    have a0:=hcs 0 _ rfl
    have a1:=hcs 1 _ rfl
    have a2:=hcs 2 _ rfl
    have b0:=hcs' 0 _ rfl
    have b1:=hcs' 1 _ rfl
    have b2:=hcs' 2 _ rfl
    simp only [Nat.add_zero] at a0 b0
    have hgr:g < wr.heap.size:=Nat.lt_of_lt_of_le hgs hBw.size
    have hgr':g' < wr.heap.size:=Nat.lt_of_lt_of_le hgs' hBw.size
    have hgn:g≠wr.heap.size:=by omega
    have hgn':g'≠wr.heap.size:=by omega
    have hgH:=Hid.mk hg
    have hBrH:=Hid.mk hBr
    have hBwH:=Hid.mk hBw
    clear hcs hcs' hg hBr hBw hgs hgs' ha hb hs hs'
    go_wp2_with (fail)
    refine (hsam.out _ ((hBwH.out.alloc hBwH.out.size _).alloc (by have:=hBwH.out.size; simp; omega) _)).mono ?_
    rintro e w5 ⟨rfl,hB5⟩
    have hB5:=Hid.mk (((hBrH.out.alloc hBrH.out.size _).alloc (by have:=hBrH.out.size; simp; omega) _).trans (hB5.mono (by have:=hBrH.out.size; simp; omega)))
    cases hst:sameT a b with
    | true=>
     rw [hst,Bool.true_and] at hgH
     go_wp2_with (fail)
     exact ⟨⟨i+1,by simp,by omega,hgH.out,hB5.out⟩,by simp [intOf]; omega⟩
    | false=>
     rw [hst,Bool.false_and] at hgH
     have:=hgH.out
     subst this
     go_wp2_with (fail)
     go_ret
     exact ⟨rfl,hB5.out⟩
   ·have hiI:((i:Int) < (ks.length:Int))=False:=eq_false (by omega)
    have hd:ks.drop i=[]:=List.drop_eq_nil_of_le (by omega)
    rw [hd] at hg
    have hr:R=true:=by rw [← hg]; simp [sameK]
    subst hr
    have hBrH:=Hid.mk hBr
    clear hBr hBw hg hd
    go_wp2_with (fail)
    go_ret
    exact ⟨rfl,hBrH.out⟩
 ·have hni:(((ks.length:Nat):Int)==((ks'.length:Nat):Int))=false:=beq_ne (by omega)
  rw [decide_eq_false hn,Bool.false_and] at hR
  subst hR
  clear hn
  go_enter Tryz.func55,Tryz.ntmps55
  go_wp2_with (fail)
  go_ret
  exact ⟨rfl,Below.refl _ _⟩
end Go.Proofs.YtmenpmbgennhoaaGreatDoor

namespace Go.Proofs.YtmenpmbgennhoaaGreatDoor
open Go.RowKit
set_option maxRecDepth 100000 in
set_option maxHeartbeats 1600000 in
theorem same_any (S S':Nat→Prop) (w:World) {a:Tr} {s:Value} (h:TrAt S w a s):∀ {b:Tr} {s':Value},TrAt S' w b s'→SamC w a s b s':=by
 induction h with
 | mk k x ks v ss hl h1 h2 ih=>
  intro b s' hb
  cases hb with
  | mk k' x' ks' v' ss' hl' h1' h2'=>
   intro w' hB
   obtain ⟨p,c,rfl⟩:=h1.form
   obtain ⟨p',c',rfl⟩:=h1'.form
   have heq:=Hid.mk (fun w'' (hB'':Below w.heap.size w w'')=>eqn_any S S' w ks ks' ss ss' _ _ hl hl' h1 h1' (fun i a s b s' q1 q2 q3 q4=>ih i a s q1 q2 (h2' i b s' q3 q4)) (fun i a s q1 q2=>(h2 i a s q1 q2).form) (fun i a s q1 q2=>(h2' i a s q1 q2).form) w'' hB'')
   have hBH:=Hid.mk hB
   clear ih h2 h2' h1 h1' hB
   unfold nodeV
   simp only [Tr.kind,Tr.text]
   rw [sameT]
   obtain ⟨q,hq⟩:∃ q,(decide (ks.length=ks'.length) && sameK ks ks')=q:=⟨_,rfl⟩
   rw [hq] at heq ⊢
   clear hq
   by_cases hk:k=k'
   ·by_cases hx:(x.toList==x'.toList)=true
    ·rw [decide_eq_true hk,hx]
     have hki:(((k:Nat):Int)==((k':Nat):Int))=true:=by simp; omega
     clear hk
     go_enter Tryz.func28,Tryz.ntmps28
     go_wp2_with (fail)
     refine (heq.out _ ((hBH.out.alloc hBH.out.size _).alloc (by have:=hBH.out.size; simp; omega) _)).mono ?_
     rintro e w5 ⟨rfl,hB5⟩
     have hB5:=Hid.mk ((((Below.refl _ w').alloc (Nat.le_refl _) _).alloc (by simp) _).trans (hB5.mono (by simp; omega)))
     go_wp2_with (fail)
     go_ret
     exact ⟨by simp,hB5.out⟩
    ·have hx:(x.toList==x'.toList)=false:=by simpa using hx
     rw [hx]
     have hki:(((k:Nat):Int)==((k':Nat):Int))=true:=by simp; omega
     clear hk
     go_enter Tryz.func28,Tryz.ntmps28
     go_wp2_with (fail)
     go_ret
     exact ⟨by simp,((Below.refl _ w').alloc (Nat.le_refl _) _).alloc (by simp) _⟩
   ·rw [decide_eq_false hk]
    have hki:(((k:Nat):Int)==((k':Nat):Int))=false:=beq_ne (by omega)
    clear hk
    go_enter Tryz.func28,Tryz.ntmps28
    go_wp2_with (fail)
    go_ret
    exact ⟨by simp,((Below.refl _ w').alloc (Nat.le_refl _) _).alloc (by simp) _⟩
end Go.Proofs.YtmenpmbgennhoaaGreatDoor

namespace Go.Proofs.YtmenpmbgennhoaaGreatDoor
open Go.RowKit
def sameR (a b:Rl):Bool:=(a.name.toList==b.name.toList) && sameT a.body b.body
def sameRs:List Rl→List Rl→Bool
 | a::l,b::l'=>sameR a b && sameRs l l'
 | _,_=>true
def ruleV (r:Rl) (s:Value):Value:= .agg #[.string r.name,.int .i64 (r.body.kind:Nat),.string r.body.text,s]
theorem SlAt.rcell {S:Nat→Prop} {w:World} {v:Value} {ks:List Rl} {ss:List Value} (h:SlAt S w v ks.length (rulesC ks ss)) {i:Nat} {t:Rl} {s:Value} (h1:ks[i]?=some t) (h2:ss[i]?=some s) :
  ∃ g o c,v= .slice (some ⟨g,o,none⟩) ks.length c∧g < w.heap.size∧ks.length≤maxLen∧∀ j u,(ruleC t s)[j]?=some u→w.cell? ⟨g,o+(i*4+j),none⟩=some u:=by
 rcases h with ⟨p,c,rfl,h0⟩ | ⟨g,o,c,rfl,h3,h4,h6,h5⟩
 ·have:=(List.getElem?_eq_some_iff.1 h1).1
  omega
 ·refine ⟨g,o,c,rfl,h4,h6,fun j u hu=>h5 _ u ?_⟩
  have hj:j < 4:=by
   have:=(List.getElem?_eq_some_iff.1 hu).1
   simpa [ruleC] using this
  rw [rulesC_get ks ss i t s h1 h2 j hj]
  exact hu
theorem sameRs_at:∀ (ks ks':List Rl) (i:Nat) (a b:Rl),ks[i]?=some a→ks'[i]?=some b→sameRs (ks.drop i) (ks'.drop i)=(sameR a b && sameRs (ks.drop (i+1)) (ks'.drop (i+1)))
 | a0::l,b0::l',0,a,b,h1,h2=>by simp at h1 h2; subst h1 h2; simp [sameRs]
 | a0::l,b0::l',i+1,a,b,h1,h2=>by
  simp at h1 h2
  have:=sameRs_at l l' i a b h1 h2
  simpa using this
 | [],_,_,_,_,h1,_=>by simp at h1
 | _::_,[],_,_,_,_,h2=>by simp at h2
def SarC (w:World) (a:Rl) (s:Value) (b:Rl) (s':Value):Prop:=∀ w',Below w.heap.size w w'→
 Calls Tryz.prog 27 #[ruleV a s,ruleV b s'] w' fun e w''=>e= .returned (.bool (sameR a b))∧Below w'.heap.size w' w''
set_option maxRecDepth 100000 in
set_option maxHeartbeats 1600000 in
theorem eqr_any (S S':Nat→Prop) (w:World) (ks ks':List Rl) (ss ss':List Value) (v v':Value) (hl:ss.length=ks.length) (hl':ss'.length=ks'.length) (h1:SlAt S w v ks.length (rulesC ks ss)) (h1':SlAt S' w v' ks'.length (rulesC ks' ss'))
  (hk:∀ (i:Nat) a s b s',ks[i]?=some a→ss[i]?=some s→ks'[i]?=some b→ss'[i]?=some s'→SarC w a s b s')
  (hf:∀ (i:Nat) a s,ks[i]?=some a→ss[i]?=some s→∃ p c,s= .slice p a.body.kids.length c) (hf':∀ (i:Nat) a s,ks'[i]?=some a→ss'[i]?=some s→∃ p c,s= .slice p a.body.kids.length c) (w':World) (hB:Below w.heap.size w w') :
  Calls Tryz.prog 26 #[v,v',.func (.func 27) #[] #[]] w' fun e w''=>e= .returned (.bool (decide (ks.length=ks'.length) && sameRs ks ks'))∧Below w'.heap.size w' w'':=by
 obtain ⟨R,hR⟩:∃ R,(decide (ks.length=ks'.length) && sameRs ks ks')=R:=⟨_,rfl⟩
 rw [hR]
 obtain ⟨p,c,rfl⟩:=h1.form
 obtain ⟨p',c',rfl⟩:=h1'.form
 have h1H:=Hid.mk h1
 have h1H':=Hid.mk h1'
 have hkH:=Hid.mk hk
 have hBH:=Hid.mk hB
 have hfH:=Hid.mk hf
 have hfH':=Hid.mk hf'
 clear h1 h1' hk hB hf hf'
 by_cases hn:ks.length=ks'.length
 ·have hni:(((ks.length:Nat):Int) !=((ks'.length:Nat):Int))=false:=by simp; omega
  rw [decide_eq_true hn,Bool.true_and] at hR
  have hRH:=Hid.mk hR
  have hnH:=Hid.mk hn
  clear hR hn
  go_enter Tryz.func26,Tryz.ntmps26
  go_wp2_with (fail)
  go_loopw [17] (fun x wr=>∃ i:Nat,x= .int .i64 (i:Nat)∧i≤ks.length∧sameRs (ks.drop i) (ks'.drop i)=R∧Below w'.heap.size w' wr) (fun x _=>ks.length - (intOf x).toNat)
  case atStart=>exact ⟨0,rfl,Nat.zero_le _,hRH.out,Below.refl _ _⟩
  case round=>
   obtain ⟨i,rfl,hi,hg,hBr⟩:=hrel
   have hBw:=hBH.out.trans (hBr.mono hBH.out.size)
   by_cases hlt:i < ks.length
   ·have hiI:(i:Int) < (ks.length:Int):=by omega
    have hiI':(i:Int) < (ks'.length:Int):=by have:=hnH.out; omega
    obtain ⟨a,ha⟩:∃ a,ks[i]?=some a:=⟨_,List.getElem?_eq_getElem hlt⟩
    obtain ⟨s,hs⟩:∃ s,ss[i]?=some s:=⟨_,List.getElem?_eq_getElem (by omega)⟩
    obtain ⟨b,hb⟩:∃ b,ks'[i]?=some b:=⟨_,List.getElem?_eq_getElem (by have:=hnH.out; omega)⟩
    obtain ⟨s',hs'⟩:∃ s',ss'[i]?=some s':=⟨_,List.getElem?_eq_getElem (by have:=hnH.out; omega)⟩
    obtain ⟨sp,sc,rfl⟩:=hfH.out i a s ha hs
    obtain ⟨sp',sc',rfl⟩:=hfH'.out i b s' hb hs'
    have hsam:=Hid.mk (hkH.out i a _ b _ ha hs hb hs')
    rw [sameRs_at ks ks' i a b ha hb] at hg
    obtain ⟨g,o,c0,he,hgs,hml,hcs⟩:=h1H.out.rcell ha hs
    obtain ⟨g',o',c0',he',hgs',_,hcs'⟩:=h1H'.out.rcell hb hs'
    cases he
    cases he'
    have hib:(i:Int) < 9223372036854775807:=by unfold maxLen at hml; omega
    clear hml
    have hcs:∀ j u,(ruleC a (.slice sp a.body.kids.length sc))[j]?=some u→wr.cell? ⟨g,o+i*4+j,none⟩=some u:=fun j u hu=>by
     rw [Nat.add_assoc,hBw.cell (by exact hgs)]; exact hcs j u hu
    have hcs':∀ j u,(ruleC b (.slice sp' b.body.kids.length sc'))[j]?=some u→wr.cell? ⟨g',o'+i*4+j,none⟩=some u:=fun j u hu=>by
     rw [Nat.add_assoc,hBw.cell (by exact hgs')]; exact hcs' j u hu
    have a0:=hcs 0 _ rfl
    have a1:=hcs 1 _ rfl
    have a2:=hcs 2 _ rfl
    have a3:=hcs 3 _ rfl
    have b0:=hcs' 0 _ rfl
    have b1:=hcs' 1 _ rfl
    have b2:=hcs' 2 _ rfl
    have b3:=hcs' 3 _ rfl
    simp only [Nat.add_zero] at a0 b0
    have hgr:g < wr.heap.size:=Nat.lt_of_lt_of_le hgs hBw.size
    have hgr':g' < wr.heap.size:=Nat.lt_of_lt_of_le hgs' hBw.size
    have hgn:g≠wr.heap.size:=by omega
    have hgn':g'≠wr.heap.size:=by omega
    have hgH:=Hid.mk hg
    have hBrH:=Hid.mk hBr
    have hBwH:=Hid.mk hBw
    clear hcs hcs' hg hBr hBw hgs hgs' ha hb hs hs'
    go_wp2_with (fail)
    refine (hsam.out _ ((hBwH.out.alloc hBwH.out.size _).alloc (by have:=hBwH.out.size; simp; omega) _)).mono ?_
    rintro e w5 ⟨rfl,hB5⟩
    have hB5:=Hid.mk (((hBrH.out.alloc hBrH.out.size _).alloc (by have:=hBrH.out.size; simp; omega) _).trans (hB5.mono (by have:=hBrH.out.size; simp; omega)))
    cases hst:sameR a b with
    | true=>
     rw [hst,Bool.true_and] at hgH
     go_wp2_with (fail)
     exact ⟨⟨i+1,by simp,by omega,hgH.out,hB5.out⟩,by simp [intOf]; omega⟩
    | false=>
     rw [hst,Bool.false_and] at hgH
     have:=hgH.out
     subst this
     go_wp2_with (fail)
     go_ret
     exact ⟨rfl,hB5.out⟩
   ·have hiI:((i:Int) < (ks.length:Int))=False:=eq_false (by omega)
    have hd:ks.drop i=[]:=List.drop_eq_nil_of_le (by omega)
    rw [hd] at hg
    have hr:R=true:=by rw [← hg]; simp [sameRs]
    subst hr
    have hBrH:=Hid.mk hBr
    clear hBr hBw hg hd
    go_wp2_with (fail)
    go_ret
    exact ⟨rfl,hBrH.out⟩
 ·have hni:(((ks.length:Nat):Int)==((ks'.length:Nat):Int))=false:=beq_ne (by omega)
  rw [decide_eq_false hn,Bool.false_and] at hR
  subst hR
  clear hn
  go_enter Tryz.func26,Tryz.ntmps26
  go_wp2_with (fail)
  go_ret
  exact ⟨rfl,Below.refl _ _⟩
end Go.Proofs.YtmenpmbgennhoaaGreatDoor

namespace Go.Proofs.YtmenpmbgennhoaaGreatDoor
open Go.RowKit
set_option maxRecDepth 100000 in
set_option maxHeartbeats 1600000 in
theorem sameRule_any (S S':Nat→Prop) (w:World) {a b:Rl} {s s':Value} (h:TrAt S w a.body s) (h':TrAt S' w b.body s'):SarC w a s b s':=by
 intro w' hB
 obtain ⟨p,c,rfl⟩:=h.form
 obtain ⟨p',c',rfl⟩:=h'.form
 have hs:=Hid.mk (fun w'' (hB'':Below w.heap.size w w'')=>same_any S S' w h h' w'' hB'')
 have hBH:=Hid.mk hB
 unfold nodeV at hs
 unfold ruleV sameR
 clear h h' hB
 by_cases hx:(a.name.toList==b.name.toList)=true
 ·rw [hx]
  go_enter Tryz.func27,Tryz.ntmps27
  go_wp2_with (fail)
  refine (hs.out _ ((hBH.out.alloc hBH.out.size _).alloc (by have:=hBH.out.size; simp; omega) _)).mono ?_
  rintro e w5 ⟨rfl,hB5⟩
  have hB5:=Hid.mk ((((Below.refl _ w').alloc (Nat.le_refl _) _).alloc (by simp) _).trans (hB5.mono (by simp; omega)))
  go_wp2_with (fail)
  go_ret
  exact ⟨by simp,hB5.out⟩
 ·have hx:(a.name.toList==b.name.toList)=false:=by simpa using hx
  rw [hx]
  go_enter Tryz.func27,Tryz.ntmps27
  go_wp2_with (fail)
  go_ret
  exact ⟨by simp,((Below.refl _ w').alloc (Nat.le_refl _) _).alloc (by simp) _⟩
def sameG (a b:Gr):Bool:=(a.start.toList==b.start.toList) && (decide (a.rules.length=b.rules.length) && sameRs a.rules b.rules)
set_option maxRecDepth 100000 in
set_option maxHeartbeats 1600000 in
theorem sameG_any (S S':Nat→Prop) (w:World) {a b:Gr} {s s':Value} (h:RsAt S w a.rules s) (h':RsAt S' w b.rules s') :
  Calls Tryz.prog 8 #[.agg #[.string a.start,s],.agg #[.string b.start,s']] w fun e w'=>e= .returned (.bool (sameG a b))∧Below w.heap.size w w':=by
 obtain ⟨p,c,rfl⟩:=h.form
 obtain ⟨p',c',rfl⟩:=h'.form
 obtain ⟨ss,hl,h1,h2⟩:=h
 obtain ⟨ss',hl',h1',h2'⟩:=h'
 have hs:=Hid.mk (fun w'' (hB'':Below w.heap.size w w'')=>eqr_any S S' w a.rules b.rules ss ss' _ _ hl hl' h1 h1' (fun i a s b s' q1 q2 q3 q4=>sameRule_any S S' w (h2 i a s q1 q2) (h2' i b s' q3 q4)) (fun i a s q1 q2=>(h2 i a s q1 q2).form) (fun i a s q1 q2=>(h2' i a s q1 q2).form) w'' hB'')
 unfold sameG
 clear h1 h1' h2 h2'
 obtain ⟨q,hq⟩:∃ q,(decide (a.rules.length=b.rules.length) && sameRs a.rules b.rules)=q:=⟨_,rfl⟩
 rw [hq] at hs ⊢
 clear hq
 by_cases hx:(a.start.toList==b.start.toList)=true
 ·rw [hx]
  go_enter Tryz.func8,Tryz.ntmps8
  go_wp2_with (fail)
  refine (hs.out _ (((Below.refl _ w).alloc (Nat.le_refl _) _).alloc (by simp) _)).mono ?_
  rintro e w5 ⟨rfl,hB5⟩
  have hB5:=Hid.mk ((((Below.refl _ w).alloc (Nat.le_refl _) _).alloc (by simp) _).trans (hB5.mono (by simp; omega)))
  go_wp2_with (fail)
  go_ret
  exact ⟨by simp,hB5.out⟩
 ·have hx:(a.start.toList==b.start.toList)=false:=by simpa using hx
  rw [hx]
  go_enter Tryz.func8,Tryz.ntmps8
  go_wp2_with (fail)
  go_ret
  exact ⟨by simp,((Below.refl _ w).alloc (Nat.le_refl _) _).alloc (by simp) _⟩
end Go.Proofs.YtmenpmbgennhoaaGreatDoor
