/- Rules of a grammar, in memory. Parsing: a grammar. What the reader's tokens are like. syntax.Parse: its deferred function; and it. syntax.Parse. lex.Good. -/
import Derived.Test.YtmenpmbgennhoaaGreatDoorPsd
import Derived.Recover
namespace Go.Proofs.YtmenpmbgennhoaaGreatDoor
open Go.RowKit
structure Rl where
 name:ByteArray
 body:Tr
structure Gr where
 start:ByteArray
 rules:List Rl
def ruleC (r:Rl) (s:Value):List Value:=[.string r.name,.int .i64 (r.body.kind:Nat),.string r.body.text,s]
def rulesC:List Rl→List Value→List Value
 | t::ts,s::ss=>ruleC t s++rulesC ts ss
 | _,_=>[]
theorem rulesC_len:∀ (ts:List Rl) (ss:List Value),ss.length=ts.length→(rulesC ts ss).length=ts.length*4
 | [],[],_=>rfl
 | t::ts,s::ss,h=>by
  have:=rulesC_len ts ss (by simpa using h)
  simp [rulesC,ruleC,this]
  omega
 | [],s::ss,h=>by simp at h
 | t::ts,[],h=>by simp at h
theorem rulesC_app:∀ (ts:List Rl) (ss:List Value) (t:Rl) (s:Value),ss.length=ts.length→rulesC (ts++[t]) (ss++[s])=rulesC ts ss++ruleC t s
 | [],[],t,s,_=>by simp [rulesC]
 | t0::ts,s0::ss,t,s,h=>by
  have:=rulesC_app ts ss t s (by simpa using h)
  simp [rulesC,this]
 | [],s0::ss,_,_,h=>by simp at h
 | t0::ts,[],_,_,h=>by simp at h
theorem rulesC_get:∀ (ts:List Rl) (ss:List Value) (i:Nat) (t:Rl) (s:Value),ts[i]?=some t→ss[i]?=some s→∀ j,j < 4→(rulesC ts ss)[i*4+j]?=(ruleC t s)[j]?
 | t0::ts,s0::ss,0,t,s,h1,h2,j,hj=>by
  simp at h1 h2
  subst h1 h2
  rw [rulesC,Nat.zero_mul,Nat.zero_add,List.getElem?_append_left (by simpa [ruleC] using hj)]
 | t0::ts,s0::ss,i+1,t,s,h1,h2,j,hj=>by
  simp at h1 h2
  have:=rulesC_get ts ss i t s h1 h2 j hj
  rw [rulesC,show (i+1)*4+j=4+(i*4+j) by omega,List.getElem?_append_right (by simp [ruleC])]
  simpa [ruleC] using this
 | [],_,_,_,_,h1,_,_,_=>by simp at h1
 | t0::ts,[],_,_,_,_,h2,_,_=>by simp at h2
def RsAt (S:Nat→Prop) (w:World) (rs:List Rl) (v:Value):Prop:=
 ∃ ss:List Value,ss.length=rs.length∧SlAt S w v rs.length (rulesC rs ss)∧∀ (i:Nat) (r:Rl) (s:Value),rs[i]?=some r→ss[i]?=some s→TrAt S w r.body s
theorem RsAt.keep {S S':Nat→Prop} {w w':World} {rs:List Rl} {v:Value} (h:RsAt S w rs v) (hs:w.heap.size≤w'.heap.size) (hk:∀ g,S g→g < w.heap.size→w'.heap[g]?=w.heap[g]?∧S' g):RsAt S' w' rs v:=by
 obtain ⟨ss,h1,h2,h3⟩:=h
 exact ⟨ss,h1,h2.keep hs hk,fun i r s h4 h5=>(h3 i r s h4 h5).keep hs hk⟩
theorem RsAt.form {S:Nat→Prop} {w:World} {rs:List Rl} {v:Value} (h:RsAt S w rs v):∃ p c,v= .slice p rs.length c:=by
 obtain ⟨ss,h1,h2,h3⟩:=h
 exact h2.form
structure RulesO (B:Nat) (w:World) (v:Value) (ks:List Rl) (ss:List Value):Prop where
 len:ss.length=ks.length
 own:w.ownsRow B 61 4 v ks.length (rulesC ks ss)
 kid:∀ (i:Nat) (t:Rl) (s:Value),ks[i]?=some t→ss[i]?=some s→TrAt (fun g=>B≤g∧v.ownBlock≠some g) w t.body s
theorem RulesO.nil (B:Nat) (w:World):RulesO B w (.slice none 0 0) [] []:=⟨rfl,⟨by simp [rulesC],.inl ⟨rfl,rfl⟩⟩,fun i t s h=>by simp at h⟩
theorem RulesO.keep {B:Nat} {w w':World} {v:Value} {ks:List Rl} {ss:List Value} (h:RulesO B w v ks ss) (hs:w.heap.size≤w'.heap.size) (hk:∀ g,B≤g→g < w.heap.size→w'.heap[g]?=w.heap[g]?):RulesO B w' v ks ss:=
 ⟨h.len,ownsRow_sm h.own (fun g hg=>hk g (h.own.lt g hg).1 (h.own.lt g hg).2),fun i t s h1 h2=>(h.kid i t s h1 h2).keep hs fun g h3 h4=>⟨hk g h3.1 h4,h3⟩⟩
theorem RulesO.done {B:Nat} {w:World} {v:Value} {ks:List Rl} {ss:List Value} (h:RulesO B w v ks ss):RsAt (fun g=>B≤g) w ks v:=by
 refine ⟨ss,h.len,?_,fun i t s h1 h2=>(h.kid i t s h1 h2).mono fun g h3 _=>h3.1⟩
 have ho:=h.own
 rcases ho.2 with ⟨h1,h2⟩ | ⟨g,cap,cur,rfl,hb,hg,hm1,hm2,_⟩
 ·exact .inl ⟨none,0,by rw [h2]; exact h1,h2⟩
 ·refine .inr ⟨g,0,cap,rfl,hb,(Array.getElem?_eq_some_iff.1 hg).1,Nat.le_trans hm1 hm2,fun j u hu=> ?_⟩
  have:=ho.cells (g:=g) rfl j u hu
  rw [Addr.add_lit] at this
  exact this
theorem RulesO.push {B:Nat} {w w':World} {v:Value} {ks:List Rl} {ss:List Value} {t:Rl} {s:Value} {o:Obj} {g cap:Nat} (h:RulesO B w v ks ss) (ht:TrAt (fun g=>B≤g∧v.ownBlock≠some g) w t.body s)
  (hown:w'.ownsRow B 61 4 (.slice (some ⟨g,0,none⟩) (ks.length+1) cap) (ks.length+1) (rulesC ks ss++ruleC t s)) (hg:(w.alloc o).grownBy w' v.ownBlock) (hat:v.ownBlock=some g∨g=(w.alloc o).heap.size) :
  RulesO B w' (.slice (some ⟨g,0,none⟩) (ks.length+1) cap) (ks++[t]) (ss++[s]):=by
 have hsz:w.heap.size≤w'.heap.size:=by have:=hg.size; simp at this; omega
 have hkeep:∀ g',(B≤g'∧v.ownBlock≠some g')→g' < w.heap.size→w'.heap[g']?=w.heap[g']?∧(B≤g'∧(Value.slice (some ⟨g,0,none⟩) (ks.length+1) cap).ownBlock≠some g'):=by
  intro g' h1 h2
  refine ⟨(hg.block g' (by simp; omega) (fun e=>h1.2 e.symm)).trans (Go.heap_alloc_old w o h2),h1.1,?_⟩
  simp only [Value.ownBlock,ne_eq,Option.some.injEq]
  intro e
  rcases hat with h3 | h3
  ·exact h1.2 (by rw [h3,e])
  ·simp at h3; omega
 refine ⟨by simp [h.len],by rw [rulesC_app _ _ _ _ h.len]; simpa using hown,fun i t' s' h1 h2=> ?_⟩
 by_cases hi:i < ks.length
 ·rw [List.getElem?_append_left hi] at h1
  rw [List.getElem?_append_left (by rw [h.len]; exact hi)] at h2
  exact (h.kid i t' s' h1 h2).keep hsz hkeep
 ·rw [List.getElem?_append_right (by omega)] at h1
  rw [List.getElem?_append_right (by rw [h.len]; omega)] at h2
  rw [h.len] at h2
  match hj:i - ks.length with
  | 0=>
   rw [hj] at h1 h2
   simp at h1 h2
   subst h1 h2
   exact ht.keep hsz hkeep
  | j+1=>rw [hj] at h1; simp at h1
theorem ruleInfo:(Tryz.prog.info? 61).map (·.size)=some 4:=by kernel_rfl
theorem gramInfo:(Tryz.prog.info? 25).map (·.size)=some 2:=by kernel_rfl
theorem ruleRow:(Tryz.prog.info? 61).map (fun i=>(i.zero,i.size,i.bytes))=some (some (.agg #[.string ⟨#[]⟩,.int .i64 0,.string ⟨#[]⟩,.slice none 0 0]),4,64):=by kernel_rfl
theorem fill4r (v1 v2 v3 v4:Value):Instr.fill (fun i=>some (i*4,4)) ((Array.range (1*4)).map ((Value.agg #[.string ⟨#[]⟩,.int .i64 0,.string ⟨#[]⟩,.slice none 0 0]).cells[· % (Value.agg #[.string ⟨#[]⟩,.int .i64 0,.string ⟨#[]⟩,.slice none 0 0]).cells.size]!)) [(0,.agg #[v1,v2,v3,v4])]=some #[v1,v2,v3,v4]:=by
 have h:((Array.range (1*4)).map ((Value.agg #[.string ⟨#[]⟩,.int .i64 0,.string ⟨#[]⟩,.slice none 0 0]).cells[· % (Value.agg #[.string ⟨#[]⟩,.int .i64 0,.string ⟨#[]⟩,.slice none 0 0]).cells.size]!))=#[.string ⟨#[]⟩,.int .i64 0,.string ⟨#[]⟩,.slice none 0 0]:=by kernel_rfl
 rw [h]
 simp [Instr.fill,Value.cells]
theorem wpList_build_rule {ops:Array Oper} {rest:List Oper} {o:Oper} {a:Act} {w:World} {Q:Exit→Act→World→Prop} (hgd:o.guard=none) (x:Operand) (ho:o.op= .buildSlice 23 1 #[(0,x)]) (v1 v2 v3 v4:Value) (hx:a.eval x= .agg #[v1,v2,v3,v4])
  (h:wpList Tryz.prog ops Q rest (a.put o.dst (.slice (some ⟨w.heap.size,0,none⟩) 1 1)) (w.alloc (.cells #[v1,v2,v3,v4] 61))):wpList Tryz.prog ops Q (o::rest) a w:=by
 refine wpList_plain hgd fun _ hK=> ?_
 obtain ⟨i0,hi,hz0,hz1,hz2⟩:=info_parts ruleRow
 exact wp_build1 _ _ x ho _ hx _ i0 _ 4 Tryz.underlying23 hi hz0 hz1 (by decide) (by decide) (fill4r v1 v2 v3 v4) (hK _ _ h)
theorem rule_one (t:Rl) {S:Nat→Prop} {w:World} {s:Value} (h:TrAt S w t.body s):∀ u ∈ ruleC t s,u.oneCell'=true:=by
 obtain ⟨p,c,rfl⟩:=h.form
 intro u hu
 simp only [ruleC,List.mem_cons,List.not_mem_nil,or_false] at hu
 rcases hu with rfl | rfl | rfl | rfl <;> rfl
theorem wpList_app_rule {ops:Array Oper} {rest:List Oper} {o:Oper} {a:Act} {w:World} {Q:Exit→Act→World→Prop} (hgd:o.guard=none) (s x:Operand) (ho:o.op= .call { callee:= .builtin .append,args:=#[s,x],argTypes:=#[23,23] })
  (B:Nat) (v:Value) (ks:List Rl) (ss:List Value) (t:Rl) (sv:Value) (w1:World) (hw:w=w1.alloc (.cells (ruleC t sv).toArray 61)) (hs:a.eval s=v) (h:RulesO B w1 v ks ss) (ht:TrAt (fun g=>B≤g∧v.ownBlock≠some g) w1 t.body sv)
  (hx:a.eval x= .slice (some ⟨w1.heap.size,0,none⟩) 1 1) (hB:B≤w1.heap.size) (hl:ks.length≤1000000)
  (hk:∀ g c w',RulesO B w' (.slice (some ⟨g,0,none⟩) (ks.length+1) c) (ks++[t]) (ss++[sv])→w1.grownBy w' v.ownBlock→wpList Tryz.prog ops Q rest (a.put o.dst (.slice (some ⟨g,0,none⟩) (ks.length+1) c)) w'):wpList Tryz.prog ops Q (o::rest) a w:=by
 subst hw
 obtain ⟨i0,hi,hz0,hz1,hz2⟩:=info_parts ruleRow
 refine wpList_append_lies _ hgd s x 23 ho B 61 i0 _ 4 64 Tryz.underlying23 hi hz0 hz1 hz2 rfl (by decide) v ks.length _ hs (h.own.alloc _) ⟨w1.heap.size,0,none⟩ 1 1 (ruleC t sv) hx rfl (fun j u hj=> ?_) (rule_one t ht) (by decide) (by unfold maxLen; omega) (by omega) (by simp; omega) _ rfl ?_
 ·have:(w1.alloc (.cells (ruleC t sv).toArray 61)).cell? ⟨w1.heap.size,j,none⟩=(ruleC t sv).toArray[j]?:=cell_of_row _ _ _ _ _ _ (heap_alloc_new w1 _)
  rw [Addr.add_lit,Nat.zero_add,this]
  simpa using hj
 ·intro g cap w' hown hg hat _
  exact hk g cap w' (h.push ht hown hg hat) ((World.grownBy_alloc w1 _ v.ownBlock).trans hg)
theorem RulesO.onl {B P:Nat} {w w':World} {v:Value} {ks:List Rl} {ss:List Value} (h:RulesO B w v ks ss) (ho:Onl P w w') (hP:P < B):RulesO B w' v ks ss:=
 h.keep ho.size fun g h1 h2=>World.grownBy.block ho g h2 (fun e=>by cases e; omega)
theorem RulesO.slice {B:Nat} {w:World} {v:Value} {ks:List Rl} {ss:List Value} (h:RulesO B w v ks ss):∃ p c,v= .slice p ks.length c:=ownsRow_form h.own
theorem RulesO.first {B:Nat} {w:World} {v:Value} {r:Rl} {rs:List Rl} {ss:List Value} (h:RulesO B w v (r::rs) ss):∃ g c,v= .slice (some ⟨g,0,none⟩) (rs.length+1) c∧w.cell? ⟨g,0,none⟩=some (.string r.name)∧B≤g:=by
 have hl:=h.len
 match ss,hl with
 | s::ss,_=>
  have ho:=h.own
  rcases ho.2 with ⟨_,h2⟩ | ⟨g,cap,cur,rfl,hb,hg,_⟩
  ·simp at h2
  ·refine ⟨g,cap,rfl,?_,hb⟩
   have:=ho.cells (g:=g) rfl 0 (.string r.name) (by simp [rulesC,ruleC])
   rw [Addr.add_lit,Nat.zero_add] at this
   exact this
end Go.Proofs.YtmenpmbgennhoaaGreatDoor

namespace Go.Proofs.YtmenpmbgennhoaaGreatDoor
open Go.RowKit
def ruleF (ts:List Tok) (F:Nat) (p:PS):PR Rl:=
 match nameF ts p with
 | .bad e=> .bad e
 | .ok nm p1=>
  match takeF ts p1 (str1 58) with
  | .bad e=> .bad e
  | .ok _ p2=>
   match altF ts F p2 with
   | .bad e=> .bad e
   | .ok b p3=>
    match takeF ts p3 (str1 59) with
    | .bad e=> .bad e
    | .ok _ p4=> .ok ⟨nm,b⟩ p4
def onF (ts:List Tok) (p:PS) (first:Bool):PR Bool:=
 if first=true then .ok true p else match peekF ts p with
 | .ok t _=> .ok (decide (t.kind≠4)) p
 | .bad e=> .bad e
def gramL (ts:List Tok) (F:Nat):Nat→PS→Bool→List Rl→PR (List Rl)
 | 0,_,_,_=> .bad ⟨0,0,0⟩
 | f+1,p,first,rs=>
  match onF ts p first with
  | .bad e=> .bad e
  | .ok false _=> .ok rs p
  | .ok true _=>
   match peekF ts p with
   | .bad e=> .bad e
   | .ok t _=>
    if t.kind=1∧rs.length=64 then .bad (fltAt ts p.at_ 6)
    else match ruleF ts F p with
     | .bad e=> .bad e
     | .ok r p1=>gramL ts F f p1 false (rs++[r])
def headF (ts:List Tok) (p:PS):PR ByteArray:=
 match signF ts p (str1 37) with
 | .bad e=> .bad e
 | .ok false _=> .ok ⟨#[]⟩ p
 | .ok true _=>
  match nameF ts ⟨p.at_+1,p.open_⟩ with
  | .bad e=> .bad e
  | .ok nm p1=>
   match takeF ts p1 (str1 59) with
   | .bad e=> .bad e
   | .ok _ p2=> .ok nm p2
def gramF (ts:List Tok) (p:PS):PR Gr:=
 match headF ts p with
 | .bad e=> .bad e
 | .ok st p1=>
  match gramL ts (6*ts.length+5) (ts.length+1) p1 true [] with
  | .bad e=> .bad e
  | .ok rs p2=> .ok ⟨if st.toList=[] then (match rs with | r::_=>r.name | []=>⟨#[]⟩) else st,rs⟩ p2
section
variable (P G:Nat) (ts:List Tok) (n:Nat) (v:Value)
structure GrE (Z:Nat) (w:World) (p:PS) (st:ByteArray) (rv:Value) (p':PS) (rs:List Rl) (ss:List Value) (wr:World):Prop where
 ps:PsS P G ts n v p' wr
 onl:Onl P w wr
 res:wr.heap[Z]?=some (.cells #[.string ⟨#[]⟩,.slice none 0 0] 25 (0,0))
 g:wr.heap[Z+1]?=some (.cells #[.string st,rv] 25 (0,0))
 rules:RulesO (Z+2) wr rv rs ss
 few:rs.length≤p'.at_
 le:p.at_≤p'.at_
 op:p'.open_=p.open_
theorem GrE.go {Z:Nat} {w:World} {p p' p2:PS} {st:ByteArray} {rv:Value} {rs:List Rl} {ss:List Value} {wr w2:World} (h:GrE P G ts n v Z w p st rv p' rs ss wr) (hP:P < Z) (ho:Onl P wr w2) (hs:PsS P G ts n v p2 w2) (hle:p'.at_≤p2.at_) (hop:p2.open_=p'.open_):GrE P G ts n v Z w p st rv p2 rs ss w2:=
 ⟨hs,h.onl.trans ho,ho.row h.res (by omega),ho.row h.g (by omega),h.rules.onl ho (by omega),Nat.le_trans h.few hle,Nat.le_trans h.le hle,hop.trans h.op⟩
end
theorem tok_f0 (a b c d:Value) (w:World):(Instr.field 112 (.agg #[a,b,c,d]) 0).run Tryz.prog w= .ok a w:=by kernel_rfl
theorem nameF_at {ts:List Tok} {p p1:PS} {nm:ByteArray} (h:nameF ts p= .ok nm p1):p1.at_=p.at_+1:=by
 unfold nameF at h
 split at h
 ·split at h
  ·cases h; rfl
  ·cases h
 ·cases h
def GrP (B:Nat) (g:Gr) (u:Value) (w:World):Prop:=∃ rv,u= .agg #[.string g.start,rv]∧RsAt (fun k=>B≤k) w g.rules rv
set_option maxRecDepth 100000 in
set_option maxHeartbeats 3200000 in
theorem grammar_any (P G:Nat) (ts:List Tok) (n:Nat) (v:Value) (p:PS) (w:World) (h:PsS P G ts n v p w) :
  Calls Tryz.prog 31 #[.pointer (some ⟨P,0,none⟩)] w fun e w'=>PP P G ts n v p w (GrP w.heap.size) (gramF ts p) e w':=by
 obtain ⟨R,hR⟩:∃ R,gramF ts p=R:=⟨_,rfl⟩
 rw [hR]
 unfold gramF at hR
 have hRH:=Hid.mk hR
 obtain ⟨Z,hZ⟩:∃ Z,w.heap.size=Z:=⟨_,rfl⟩
 have hPZ:P < Z:=by have:=h.clt; omega
 have hH:=Hid.mk h
 clear hR h
 go_enter Tryz.func31,Tryz.ntmps31
 have hZr:=heap_alloc_new w (.cells #[.string ⟨#[]⟩,.slice none 0 0] 25)
 have hB1:Below Z w (w.alloc (.cells #[.string ⟨#[]⟩,.slice none 0 0] 25)):=by rw [← hZ]; exact (Below.refl _ w).alloc (Nat.le_refl _) _
 have hsz1:(w.alloc (.cells #[.string ⟨#[]⟩,.slice none 0 0] 25)).heap.size=Z+1:=by simp; omega
 rw [hZ] at hZr
 go_upto_region 2 with (fail)
 generalize w.alloc (.cells #[.string ⟨#[]⟩,.slice none 0 0] 25)=w1 at*
 have hYr:=heap_alloc_new w1 (.cells #[.string ⟨#[]⟩,.slice none 0 0] 25)
 have hB2:Below (Z+1) w1 (w1.alloc (.cells #[.string ⟨#[]⟩,.slice none 0 0] 25)):=by rw [← hsz1]; exact (Below.refl _ w1).alloc (Nat.le_refl _) _
 rw [hsz1] at hYr
 generalize w1.alloc (.cells #[.string ⟨#[]⟩,.slice none 0 0] 25)=w2 at*
 have hE2:Hid (GrE P G ts n v Z w p ⟨#[]⟩ (.slice none 0 0) p [] [] w2):= .mk ⟨(hH.out.below (by rw [hZ]; exact hB1)).below (by rw [hsz1]; exact hB2),(Onl.of P (show Below w.heap.size w w1 by rw [hZ]; exact hB1)).trans (Onl.of P (show Below w1.heap.size w1 w2 by rw [hsz1]; exact hB2)),
  (hB2.block Z (by omega)).trans hZr,hYr,⟨rfl,⟨by simp [rulesC],.inl ⟨rfl,rfl⟩⟩,fun i t s h=>by simp at h⟩,Nat.zero_le _,Nat.le_refl _,rfl⟩
 clear hH hB1 hB2 hZr hYr hsz1
 have hsg:=Hid.mk (sign_any P G ts n v p w2 hE2.out.ps (str1 37))
 go_wp2_with (fail)
 refine hsg.out.mono ?_
 rintro e w3 ⟨hB3,hP3⟩
 clear hsg
 cases hs:signF ts p (str1 37) with
 | bad fe=>
  rw [hs] at hP3
  subst hP3
  unfold headF at hRH
  rw [hs] at hRH
  have:=hRH.out
  subst this
  exact ⟨rfl,hE2.out.onl.trans (Onl.of P hB3),rfl⟩
 | ok b pp=>
  obtain rfl:=signF_ok hs
  rw [hs] at hP3
  subst hP3
  have hE3:=Hid.mk (hE2.out.go P G ts n v hPZ (Onl.of P hB3) (hE2.out.ps.below hB3) (Nat.le_refl _) rfl)
  clear hB3 hE2
  go_upto_if 7 with (fail)
  go_cut [] (fun wr=>∃ st p1,headF ts pp= .ok st p1∧GrE P G ts n v Z w pp st (.slice none 0 0) p1 [] [] wr)
  case first=>as_aux_lemma=>
   unfold headF at hRH
   rw [hs] at hRH
   have hs0:=Hid.mk hs
   cases b with
   | false=>
    clear hs
    go_wp2_with (fail)
    go_meet
    exact ⟨_,_,by unfold headF; rw [hs0.out],hE3.out⟩
   | true=>
    simp only at hRH
    have hltn:=Hid.mk (hE3.out.ps.ok.lt hE3.out.ps.le (by rw [(signF_true hs).1]; decide))
    have hsmi:(pp.at_:Int) < 65537:=by have:=hE3.out.ps.le; have:=hE3.out.ps.ok.small; omega
    have c1:w3.cell? ⟨P,1,none⟩=some (.int .i64 (pp.at_:Nat)):=by simp [World.cell?,hE3.out.ps.cells,psCells]
    have f1:w3.frozen? ⟨P,1,none⟩=false:=by simp [World.frozen?,hE3.out.ps.cells]
    clear hs
    go_upto_region 4 with (fail)
    generalize hw7:World.setCell _ _ _=w7
    have hO67:Onl P w3 w7:=by
     subst hw7
     exact (Onl.refl P w3).setCell (p:=⟨P,1,none⟩) rfl _
    have hS7:PsS P G ts n v ⟨pp.at_+1,pp.open_⟩ w7:=by
     subst hw7
     exact hE3.out.ps.step hltn.out
    have hE7:=Hid.mk (hE3.out.go P G ts n v hPZ hO67 hS7 (Nat.le_succ _) rfl)
    clear hw7 hO67 hS7 c1 f1 hE3
    go_wp2_with (fail)
    refine (name_ps P G ts n v ⟨pp.at_+1,pp.open_⟩ w7 hE7.out.ps).mono ?_
    rintro e w8 ⟨hO8,hP8⟩
    cases hnm:nameF ts ⟨pp.at_+1,pp.open_⟩ with
    | bad fe=>
     rw [hnm] at hP8 hRH
     subst hP8
     have:=hRH.out
     subst this
     exact ⟨rfl,hE7.out.onl.trans hO8,rfl⟩
    | ok nm p1=>
     rw [hnm] at hP8 hRH
     obtain ⟨⟨u,rfl,rfl⟩,hS8,hle8,hop8⟩:=hP8
     simp only at hRH hle8 hop8
     have hE8:=Hid.mk (hE7.out.go P G ts n v hPZ hO8 hS8 hle8 hop8)
     have y0:w8.cell? ⟨Z+1,0,none⟩=some (.string ⟨#[]⟩):=by simp [World.cell?,hE8.out.g]
     have fy:w8.frozen? ⟨Z+1,0,none⟩=false:=by simp [World.frozen?,hE8.out.g]
     have hnm0:=Hid.mk hnm
     clear hO8 hS8 hE7 hnm
     go_upto_region 5 with (fail)
     generalize hw9:World.setCell _ _ _=w9
     have hE9:Hid (GrE P G ts n v Z w pp nm (.slice none 0 0) p1 [] [] w9):= .mk (by
      subst hw9
      have hk:∀ g,g≠Z+1→(w8.setCell ⟨Z+1,0,none⟩ (.string nm)).heap[g]?=w8.heap[g]?:=fun g hg=>Below.heap_setCell w8 _ _ g hg
      exact ⟨hE8.out.ps.grown (r:=some (Z+1)) ((Onl.refl (Z+1) w8).setCell rfl _) (fun k hk=>by cases hk; omega),hE8.out.onl.grown (row:=some (Z+1)) ((Onl.refl (Z+1) w8).setCell rfl _) (fun k hk=>by cases hk; omega),(hk Z (by omega)).trans hE8.out.res,
       (row_set hE8.out.g).trans (by simp),⟨rfl,⟨by simp [rulesC],.inl ⟨rfl,rfl⟩⟩,fun i t s h=>by simp at h⟩,Nat.zero_le _,hE8.out.le,hE8.out.op⟩)
     clear hw9 hE8 y0 fy
     go_wp2_with (fail)
     refine (take_any P G ts n v p1 w9 hE9.out.ps (str1 59)).mono ?_
     rintro e w10 ⟨hO10,hP10⟩
     cases htk:takeF ts p1 (str1 59) with
     | bad fe=>
      rw [htk] at hP10 hRH
      subst hP10
      have:=hRH.out
      subst this
      exact ⟨rfl,hE9.out.onl.trans hO10,rfl⟩
     | ok _ p2=>
      rw [htk] at hP10
      obtain ⟨⟨u,rfl,rfl⟩,hS10,hle10,hop10⟩:=hP10
      have hE10:=Hid.mk (hE9.out.go P G ts n v hPZ hO10 hS10 hle10 hop10)
      have htk0:=Hid.mk htk
      clear hO10 hS10 hE9 htk
      go_wp2_with (fail)
      go_meet
      exact ⟨_,_,by unfold headF; rw [hs0.out]; simp only; rw [hnm0.out]; simp only; rw [htk0.out],hE10.out⟩
  case rest=>as_aux_lemma=>
   obtain ⟨st,p1,hhd,hE⟩:=hcut
   rw [hhd] at hRH
   simp only at hRH
   obtain ⟨M,hM⟩:∃ M,gramL ts (6*ts.length+5) (ts.length+1) p1 true []=M:=⟨_,rfl⟩
   rw [hM] at hRH
   obtain ⟨F,hF⟩:∃ F,6*ts.length+5=F:=⟨_,rfl⟩
   rw [hF] at hM
   have hFn:6*n+5≤F:=by have:=hE.ps.ok.len; omega
   have hMH:=Hid.mk hM
   have hEH:=Hid.mk hE
   have hlen:=hE.ps.ok.len
   have hsmn:=Hid.mk hE.ps.ok.small
   clear hE hM hhd hs
   go_upto_block 0 with (fail)
   go_cut [] (fun wr=>∃ p' rs ss rv,GrE P G ts n v Z w pp st rv p' rs ss wr∧M= .ok rs p'∧rs≠[])
   case first=>as_aux_lemma=>
    go_wp2_with (fail)
    go_loopw [4] (fun y wr=>∃ f' p' rs ss rv first,y= .bool first∧GrE P G ts n v Z w pp st rv p' rs ss wr∧gramL ts F f' p' first rs=M∧n - p'.at_+2≤f'∧(first=false→rs≠[])) (fun _ wr=>n - patW P wr)
    case atStart=>exact ⟨_,p1,[],[],_,true,rfl,hEH.out,hMH.out,by omega,fun h=>by cases h⟩
    case round=>
     obtain ⟨f',p',rs,ss,rv,first,rfl,g1,hR,gfu,gne⟩:=hrel
     clear hEH hMH
     obtain ⟨f2,rfl⟩:∃ f2,f'=f2+1:=⟨f' - 1,by omega⟩
     have hat:=Hid.mk g1.ps.patW
     rw [gramL] at hR
     have g1H:=Hid.mk g1
     have gfuH:=Hid.mk gfu
     have gneH:=Hid.mk gne
     clear g1 gfu gne
     go_upto_region 7 with (fail)
     go_cut [26] (fun x wr=>∃ b,x= .bool b∧onF ts p' first= .ok b p'∧GrE P G ts n v Z w pp st rv p' rs ss wr)
     case first=>as_aux_lemma=>
      cases first with
      | true=>
       go_wp2_with (fail)
       go_meet
       exact ⟨true,rfl,rfl,g1H.out⟩
      | false=>
       have hpk:=peek_any P G ts n v p' wr g1H.out.ps
       cases hp:peekF ts p' with
       | bad fe=>
        rw [hp] at hpk
        have hon:onF ts p' false= .bad fe:=by unfold onF; simp only [Bool.false_eq_true,if_false]; rw [hp]
        rw [hon] at hR
        go_wp2_with (fail)
        refine hpk.mono ?_
        rintro e w6 ⟨hB6,rfl⟩
        have:=hRH.out
        rw [← hR] at this
        subst this
        exact ⟨rfl,g1H.out.onl.trans (Onl.of P hB6),rfl⟩
       | ok tk q=>
        obtain ⟨htk,rfl⟩:=peekF_ok hp
        rw [hp] at hpk
        have hon:Hid (onF ts q false= .ok (decide (tk.kind≠4)) q):= .mk (by unfold onF; simp only [Bool.false_eq_true,if_false]; rw [hp])
        clear hp htk hR
        obtain ⟨kk,kx,kl,kc⟩:=tk
        unfold tokV at hpk
        have hf0:=tok_f0
        by_cases h4:kk=4
        ·subst h4
         go_wp2_with (fail)
         refine hpk.mono ?_
         rintro e w6 ⟨hB6,rfl⟩
         have hE6:=Hid.mk (g1H.out.go P G ts n v hPZ (Onl.of P hB6) (g1H.out.ps.below hB6) (Nat.le_refl _) rfl)
         clear hB6
         go_wp2_with (fail)
         go_meet
         exact ⟨_,rfl,hon.out,hE6.out⟩
        ·have h4i:((kk:Int)==4)=false:=beq_ne (by omega)
         go_wp2_with (fail)
         refine hpk.mono ?_
         rintro e w6 ⟨hB6,rfl⟩
         have hE6:=Hid.mk (g1H.out.go P G ts n v hPZ (Onl.of P hB6) (g1H.out.ps.below hB6) (Nat.le_refl _) rfl)
         clear hB6
         go_wp2_with (fail)
         go_meet
         refine ⟨true,by congr 1; simp; omega,?_,hE6.out⟩
         rw [hon.out]
         simp [h4]
     case rest=>as_aux_lemma=>
      obtain ⟨b,rfl,hon,hEc⟩:=hcut
      rw [hon] at hR
      have hEcH:=Hid.mk hEc
      clear hEc
      cases b with
      | false=>
       simp only at hR
       go_wp2_with (fail)
       go_meet
       refine ⟨_,_,_,_,hEcH.out,hR.symm,gneH.out ?_⟩
       cases first with
       | false=>rfl
       | true=>unfold onF at hon; simp at hon
      | true=>
       simp only at hR
       clear g1H
       go_upto_region 9 with (fail)
       go_cut [36] (fun x wr=>∃ t q,peekF ts p'= .ok t q∧x= .bool (decide (t.kind=1∧rs.length=64))∧GrE P G ts n v Z w pp st rv p' rs ss wr)
       case first=>as_aux_lemma=>
        have hpk:=peek_any P G ts n v p' wc hEcH.out.ps
        cases hp:peekF ts p' with
        | bad fe=>
         rw [hp] at hpk hR
         go_wp2_with (fail)
         refine hpk.mono ?_
         rintro e w6 ⟨hB6,rfl⟩
         have:=hRH.out
         rw [← hR] at this
         subst this
         exact ⟨rfl,hEcH.out.onl.trans (Onl.of P hB6),rfl⟩
        | ok tk q=>
         have hpH:=Hid.mk hp
         rw [hp] at hpk
         clear hp hR hon
         obtain ⟨kk,kx,kl,kc⟩:=tk
         unfold tokV at hpk
         have hf0:=tok_f0
         by_cases h1:kk=1
         ·subst h1
          go_wp2_with (fail)
          refine hpk.mono ?_
          rintro e w6 ⟨hB6,rfl⟩
          have hE6:=Hid.mk (hEcH.out.go P G ts n v hPZ (Onl.of P hB6) (hEcH.out.ps.below hB6) (Nat.le_refl _) rfl)
          clear hB6
          have y1:w6.cell? ⟨Z+1,1,none⟩=some rv:=by simp [World.cell?,hE6.out.g]
          obtain ⟨rp,rc,hrv⟩:=hE6.out.rules.slice
          rw [hrv] at y1
          go_wp2_with (fail)
          go_meet
          exact ⟨_,_,hpH.out,by congr 1; rw [Bool.eq_iff_iff]; simp; try omega,hE6.out⟩
         ·have h1i:((kk:Int)==1)=false:=beq_ne (by omega)
          go_wp2_with (fail)
          refine hpk.mono ?_
          rintro e w6 ⟨hB6,rfl⟩
          have hE6:=Hid.mk (hEcH.out.go P G ts n v hPZ (Onl.of P hB6) (hEcH.out.ps.below hB6) (Nat.le_refl _) rfl)
          clear hB6
          go_wp2_with (fail)
          go_meet
          exact ⟨_,_,hpH.out,by congr 1; simp [h1],hE6.out⟩
       case rest=>as_aux_lemma=>
        obtain ⟨t,q,hp,rfl,hEd⟩:=hcut
        rw [hp] at hR
        simp only at hR
        have hEdH:=Hid.mk hEd
        clear hEd hEcH
        by_cases hbig:t.kind=1∧rs.length=64
        ·rw [if_pos hbig] at hR
         rw [decide_eq_true hbig]
         clear hbig
         go_wp2_with (fail)
         refine (pfail_any P G ts n v p' _ hEdH.out.ps 6).mono ?_
         rintro e w6 ⟨rfl,hB6⟩
         have:=hRH.out
         rw [← hR] at this
         subst this
         exact ⟨rfl,hEdH.out.onl.trans (Onl.of P hB6),rfl⟩
        ·rw [if_neg hbig] at hR
         rw [decide_eq_false hbig]
         clear hbig hp hon
         go_wp2_with (fail)
         refine (name_ps P G ts n v p' _ hEdH.out.ps).mono ?_
         rintro e w6 ⟨hO6,hP6⟩
         unfold ruleF at hR
         cases hnm:nameF ts p' with
         | bad fe=>
          rw [hnm] at hP6 hR
          subst hP6
          have:=hRH.out
          rw [← hR] at this
          subst this
          exact ⟨rfl,hEdH.out.onl.trans hO6,rfl⟩
         | ok nm p1=>
          rw [hnm] at hP6 hR
          obtain ⟨⟨u,rfl,rfl⟩,hS6,hle6,hop6⟩:=hP6
          simp only at hR
          have hE6:=hEdH.out.go P G ts n v hPZ hO6 hS6 hle6 hop6
          obtain ⟨Q,hQ⟩:∃ Q,w6.heap.size=Q:=⟨_,rfl⟩
          have hQr:=heap_alloc_new w6 (.cells #[.string nm,.int .i64 0,.string ⟨#[]⟩,.slice none 0 0] 61)
          rw [hQ] at hQr
          have hBQ:Below w6.heap.size w6 (w6.alloc (.cells #[.string nm,.int .i64 0,.string ⟨#[]⟩,.slice none 0 0] 61)):=(Below.refl _ w6).alloc (Nat.le_refl _) _
          have hYQ:Z+1 < Q:=by have:=(Array.getElem?_eq_some_iff.1 hE6.g).1; omega
          have hszQ:(w6.alloc (.cells #[.string nm,.int .i64 0,.string ⟨#[]⟩,.slice none 0 0] 61)).heap.size=Q+1:=by simp; omega
          have hEq:=Hid.mk (hE6.go P G ts n v hPZ (Onl.of P hBQ) (hE6.ps.below hBQ) (Nat.le_refl _) rfl)
          have hE6H:=Hid.mk hE6
          have hO67:=Hid.mk (Onl.of P hBQ)
          have hQr:=Hid.mk hQr
          have hle6H:=Hid.mk (nameF_at hnm)
          have hfew0:=Hid.mk hEdH.out.few
          clear hO6 hS6 hE6 hEdH hnm hBQ hle6
          go_upto_region 12 with (fail)
          generalize w6.alloc (.cells #[.string nm,.int .i64 0,.string ⟨#[]⟩,.slice none 0 0] 61)=w7 at*
          go_wp2_with (fail)
          refine (take_any P G ts n v p1 w7 hEq.out.ps (str1 58)).mono ?_
          rintro e w8 ⟨hO8,hP8⟩
          cases ht8:takeF ts p1 (str1 58) with
          | bad fe=>
           rw [ht8] at hP8 hR
           subst hP8
           have:=hRH.out
           rw [← hR] at this
           subst this
           exact ⟨rfl,hEq.out.onl.trans hO8,rfl⟩
          | ok _ p2=>
           rw [ht8] at hP8 hR
           obtain ⟨⟨u,rfl,rfl⟩,hS8,hle8,hop8⟩:=hP8
           simp only at hR
           have hE8:=Hid.mk (hEq.out.go P G ts n v hPZ hO8 hS8 hle8 hop8)
           have hQ8:=Hid.mk (hO8.row hQr.out (by omega))
           have hsz8:Q+1≤w8.heap.size:=by have:=hO8.size; omega
           have hle8H:=Hid.mk hle8
           have hO68:=Hid.mk (hO67.out.trans hO8)
           clear hO8 hS8 hEq hQr ht8 hle8 hszQ hO67
           go_wp2_with (fail)
           refine ((parser_all P G ts n v F).1 p2 w8 hE8.out.ps (by omega)).mono ?_
           rintro e w9 ⟨hO9,hP9⟩
           cases hal:altF ts F p2 with
           | bad fe=>
            rw [hal] at hP9 hR
            subst hP9
            have:=hRH.out
            rw [← hR] at this
            subst this
            exact ⟨rfl,hE8.out.onl.trans hO9,rfl⟩
           | ok bd p3=>
            rw [hal] at hP9 hR
            obtain ⟨⟨u,rfl,s,rfl,hTr⟩,hS9,hle9,hop9⟩:=hP9
            simp only at hR
            have hE9:=Hid.mk (hE8.out.go P G ts n v hPZ hO9 hS9 hle9 hop9)
            have hQ9:=hO9.row hQ8.out (by omega)
            have hle9H:=Hid.mk hle9
            have hO69:=Hid.mk (hO68.out.trans hO9)
            obtain ⟨sp,sc,rfl⟩:=hTr.form
            have q1:w9.cell? ⟨Q,1,none⟩=some (.int .i64 0):=by simp [World.cell?,hQ9]
            have q2:w9.cell? ⟨Q,2,none⟩=some (.string ⟨#[]⟩):=by simp [World.cell?,hQ9]
            have q3:w9.cell? ⟨Q,3,none⟩=some (.slice none 0 0):=by simp [World.cell?,hQ9]
            have fq:∀ i,w9.frozen? ⟨Q,i,none⟩=false:=fun i=>by simp [World.frozen?,hQ9]
            have hQ9:=Hid.mk hQ9
            have hTr:=Hid.mk (hTr.mono (S':=fun g=>Q+1≤g) fun g h1 _=>by omega)
            unfold nodeV
            clear hO9 hS9 hE8 hQ8 hal hle9 hO68
            go_upto_region 14 with (fail)
            generalize hw10:World.setCell _ _ _=w10
            have hQ10:Hid (w10.heap[Q]?=some (.cells #[.string nm,.int .i64 (bd.kind:Nat),.string bd.text,.slice sp bd.kids.length sc] 61 (0,0))):= .mk (by
             subst hw10
             exact (row_set (row_set (row_set hQ9.out))).trans (by simp))
            have hO9a:Onl Q w9 w10:=by
             subst hw10
             exact (((Onl.refl Q w9).setCell (p:=⟨Q,1,none⟩) rfl _).setCell (p:=⟨Q,2,none⟩) rfl _).setCell (p:=⟨Q,3,none⟩) rfl _
            have hO6a:=Hid.mk (hO69.out.grown hO9a (fun k hk=>by cases hk; omega))
            have hSa:=Hid.mk (hE9.out.ps.grown hO9a (fun k hk=>by cases hk; omega))
            have hTa:=Hid.mk (hTr.out.onl hO9a (Nat.lt_succ_self Q))
            have hEa:=Hid.mk (hE6H.out.go P G ts n v hPZ hO6a.out hSa.out (by have:=hle8H.out; have:=hle9H.out; omega) (by omega))
            have hsza:Q+1≤w10.heap.size:=by have:=hO9a.size; have:=(Array.getElem?_eq_some_iff.1 hQ9.out).1; omega
            clear hw10 hO9a hE9 hTr q1 q2 q3 fq hQ9
            go_wp2_with (fail)
            refine (take_any P G ts n v p3 w10 hSa.out (str1 59)).mono ?_
            rintro e w11 ⟨hO11,hP11⟩
            cases ht11:takeF ts p3 (str1 59) with
            | bad fe=>
             rw [ht11] at hP11 hR
             subst hP11
             have:=hRH.out
             rw [← hR] at this
             subst this
             exact ⟨rfl,hEa.out.onl.trans hO11,rfl⟩
            | ok _ p4=>
             rw [ht11] at hP11 hR
             obtain ⟨⟨u,rfl,rfl⟩,hS11,hle11,hop11⟩:=hP11
             simp only at hR
             have hEb:=hEa.out.go P G ts n v hPZ hO11 hS11 hle11 hop11
             have hQb:=Hid.mk (hO11.row hQ10.out (by omega))
             have hTb:=hTa.out.onl hO11 (by omega)
             have hX6:∀ g,rv.ownBlock=some g→Z+2≤g∧g < Q:=fun g hg=>(by rw [← hQ]; exact hE6H.out.rules.own.lt g hg)
             have hTb:=Hid.mk (hTb.mono (S':=fun g=>Z+2≤g∧rv.ownBlock≠some g) fun g h1 _=>⟨by omega,fun e=>(by have:=(hX6 g e).2; omega)⟩)
             have y1:w11.cell? ⟨Z+1,1,none⟩=some rv:=by simp [World.cell?,hEb.g]
             have hszb:Z+2≤w11.heap.size:=by have:=hO11.size; omega
             have hlenb:=Hid.mk (show rs.length≤1000000 by have:=hEb.few; have:=hEb.ps.le; have:=hsmn.out; omega)
             have hEbH:=Hid.mk hEb
             have hlt11:=Hid.mk hle11
             clear hO11 hS11 hEa hSa hTa hO6a hQ10 ht11 hEb hle11 hO69
             obtain ⟨rp,rc,rfl⟩:=hE6H.out.rules.slice
             go_wp2_with (first | (refine wpList_load_row rfl 61 _ rfl Q rfl 61 _ _ _ hQb.out Tryz.underlying61 rfl ruleInfo ?_) | (refine wpList_build_rule rfl _ rfl _ _ _ _ rfl ?_) | (at_builtin; refine wpList_app_rule rfl _ _ rfl (Z+2) _ rs ss ⟨nm,bd⟩ _ w11 rfl rfl hEbH.out.rules hTb.out rfl hszb hlenb.out ?_))
             intro g c w12 hR12 hgr
             have hP12:=hEbH.out.ps.grown hgr (fun k hk=>by have:=(hX6 k hk).1; omega)
             have hO12:=hEbH.out.onl.grown hgr (fun k hk=>by have:=(hX6 k hk).1; omega)
             have hZ12:=(hgr.block Z (by omega) (fun e=>by have:=(hX6 Z e.symm).1; omega)).trans hEbH.out.res
             have hY12:=(hgr.block (Z+1) (by omega) (fun e=>by have:=(hX6 (Z+1) e.symm).1; omega)).trans hEbH.out.g
             have y2:w12.cell? ⟨Z+1,1,none⟩=some (.slice rp rs.length rc):=by simp [World.cell?,hY12]
             have fy2:w12.frozen? ⟨Z+1,1,none⟩=false:=by simp [World.frozen?,hY12]
             have hall:=Hid.mk (show _∧_∧_∧_∧_ from ⟨hP12,hO12,hZ12,hY12,hR12⟩)
             clear hP12 hO12 hZ12 hY12 hR12 hgr y1
             go_upto_region 8 with (fail)
             generalize hw13:World.setCell _ _ _=w13
             have hO13:Onl (Z+1) w12 w13:=by
              subst hw13
              exact (Onl.refl (Z+1) w12).setCell (p:=⟨Z+1,1,none⟩) rfl _
             have hY13:w13.heap[Z+1]?=some (.cells #[.string st,.slice (some ⟨g,0,none⟩) (rs.length+1) c] 25 (0,0)):=by
              subst hw13
              exact (row_set hall.out.2.2.2.1).trans (by simp)
             have hE13:=Hid.mk (show GrE P G ts n v Z w pp st _ p4 (rs++[⟨nm,bd⟩]) (ss++[_]) w13 from ⟨hall.out.1.grown hO13 (fun k hk=>by cases hk; omega),hall.out.2.1.grown hO13 (fun k hk=>by cases hk; omega),hO13.row hall.out.2.2.1 (by omega),hY13,hall.out.2.2.2.2.onl hO13 (by omega),
              by have:=hle6H.out; have:=hle8H.out; have:=hle9H.out; have:=hlt11.out; have:=hfew0.out; simp; omega,hEbH.out.le,hEbH.out.op⟩)
             clear hO13 hY13 hw13 y2 fy2
             go_wp2_with (fail)
             refine ⟨⟨f2,p4,rs++[⟨nm,bd⟩],_,_,false,rfl,hE13.out,hR,?_,fun _=>by simp⟩,?_⟩
             ·have:=gfuH.out; have:=hE13.out.ps.le; have:=hle6H.out; have:=hle8H.out; have:=hle9H.out; have:=hlt11.out; omega
             ·rw [hE13.out.ps.patW,hat.out]; have:=hE13.out.ps.le; have:=hle6H.out; have:=hle8H.out; have:=hle9H.out; have:=hlt11.out; omega
   case rest=>as_aux_lemma=>
    obtain ⟨p',rs,ss,rv,hE,hMe,hne⟩:=hcut
    rw [hMe] at hRH
    simp only at hRH
    have hEH:=Hid.mk hE
    have hlb:=Hid.mk hne
    match rs,hne with
    | r::rs',_=>
     obtain ⟨rp,rc,rfl⟩:=hE.rules.slice
     have g0:wc.cell? ⟨Z+1,0,none⟩=some (.string st):=by simp [World.cell?,hE.g]
     have g1:wc.cell? ⟨Z+1,1,none⟩=some (.slice rp (r::rs').length rc):=by simp [World.cell?,hE.g]
     have fg:wc.frozen? ⟨Z+1,0,none⟩=false:=by simp [World.frozen?,hE.g]
     clear hne hlb
     by_cases hst:st.toList=[]
     ·have hsti:(st.toList==[])=true:=by rw [hst]; rfl
      rw [if_pos hst] at hRH
      obtain ⟨bg,bo,hbr,hbc⟩:=hE.rules.first
      cases hbr
      clear hE hst
      go_upto_region 18 with (fail)
      generalize hw2:World.setCell _ _ _=wd
      have hO2:Onl (Z+1) wc wd:=by
       subst hw2
       exact (Onl.refl (Z+1) wc).setCell (p:=⟨Z+1,0,none⟩) rfl _
      have hEf:Hid (GrE P G ts n v Z w pp r.name (.slice (some ⟨bg,0,none⟩) (r::rs').length rc) p' (r::rs') ss wd):= .mk ⟨hEH.out.ps.grown hO2 (fun k hk=>by cases hk; omega),hEH.out.onl.grown hO2 (fun k hk=>by cases hk; omega),hO2.row hEH.out.res (by omega),(by
       subst hw2
       exact (row_set hEH.out.g).trans (by simp)),hEH.out.rules.onl hO2 (by omega),hEH.out.few,hEH.out.le,hEH.out.op⟩
      clear hw2 hO2 hEH g0 g1 fg
      have hend:Hid ((wd.setRow Z #[.string r.name,.slice (some ⟨bg,0,none⟩) (r::rs').length rc]).heap[Z]?=some (.cells #[.string r.name,.slice (some ⟨bg,0,none⟩) (r::rs').length rc] 25 (0,0))):= .mk (setRow_heap _ _ _ _ _ _ hEf.out.res)
      go_wp2_with (first | (refine wpList_load_row rfl 25 _ rfl (Z+1) rfl 25 _ _ _ hEf.out.g Tryz.underlying25 rfl gramInfo ?_) | (refine wpList_store_row rfl 25 _ _ rfl Z #[.string r.name,.slice (some ⟨bg,0,none⟩) (r::rs').length rc] rfl rfl 25 _ hEf.out.res gramInfo rfl (by simp [Value.oneCell']) ?_))
      refine bodyPost_ret (results_cell_row rfl _ _ Z _ _ _ _ rfl hend.out Tryz.underlying25 rfl gramInfo) rfl ?_
      rw [← hRH.out]
      refine ⟨hEf.out.onl.setRow_new (by omega) _,⟨_,rfl,_,rfl,?_⟩,hEf.out.ps.setRow hPZ _,hEf.out.le,hEf.out.op⟩
      refine RsAt.keep hEf.out.rules.done (by simp) ?_
      intro k h1 _
      exact ⟨setRow_other _ _ _ _ (by omega),by omega⟩
     ·have hsti:(st.toList==[])=false:=beq_eq_false_iff_ne.2 hst
      rw [if_neg hst] at hRH
      clear hE hst
      have hend:Hid ((wc.setRow Z #[.string st,.slice rp (r::rs').length rc]).heap[Z]?=some (.cells #[.string st,.slice rp (r::rs').length rc] 25 (0,0))):= .mk (setRow_heap _ _ _ _ _ _ hEH.out.res)
      go_wp2_with (first | (refine wpList_load_row rfl 25 _ rfl (Z+1) rfl 25 _ _ _ hEH.out.g Tryz.underlying25 rfl gramInfo ?_) | (refine wpList_store_row rfl 25 _ _ rfl Z #[.string st,.slice rp (r::rs').length rc] rfl rfl 25 _ hEH.out.res gramInfo rfl (by simp [Value.oneCell']) ?_))
      refine bodyPost_ret (results_cell_row rfl _ _ Z _ _ _ _ rfl hend.out Tryz.underlying25 rfl gramInfo) rfl ?_
      rw [← hRH.out]
      refine ⟨hEH.out.onl.setRow_new (by omega) _,⟨_,rfl,_,rfl,?_⟩,hEH.out.ps.setRow hPZ _,hEH.out.le,hEH.out.op⟩
      refine RsAt.keep hEH.out.rules.done (by simp) ?_
      intro k h1 _
      exact ⟨setRow_other _ _ _ _ (by omega),by omega⟩
end Go.Proofs.YtmenpmbgennhoaaGreatDoor

namespace Go.Proofs.YtmenpmbgennhoaaGreatDoor
open Go.RowKit
theorem endedT_kind {st l cl x t st2} (h:endedT st l cl x= .ok t st2):t.kind=2:=by
 unfold endedT at h
 split at h
 ·cases h
 ·split at h
  ·cases h
  ·cases h; rfl
theorem endedT_code {st l cl x f} (h:endedT st l cl x= .bad f):f.code≠0:=by
 unfold endedT at h
 split at h
 ·cases h; simp
 ·split at h
  ·cases h; simp
  ·cases h
theorem litL_kind (s:ByteArray) (q l cl:Nat) (st:Sc) (out:List Int):(∀ t st2,litL s q l cl st out= .ok t st2→t.kind=2)∧∀ f,litL s q l cl st out= .bad f→f.code≠0:=by
 rw [litL.eq_def]
 split
 ·rename_i hlt
  split
  ·exact ⟨fun _ _ h=>endedT_kind h,fun _ h=>endedT_code h⟩
  ·split
   ·have h1:=(escS_at s (stepS s st)).1
    rw [stepS_at] at h1
    split
    ·exact litL_kind _ _ _ _ _ _
    ·exact ⟨fun _ _ h=>(by cases h),fun _ h=>by cases h; simp⟩
   ·split
    ·exact ⟨fun _ _ h=>(by cases h),fun _ h=>by cases h; simp⟩
    ·exact litL_kind _ _ _ _ _ _
 ·exact ⟨fun _ _ h=>(by cases h),fun _ h=>by cases h; simp⟩
termination_by s.size - st.at_
decreasing_by
 all_goals first
 | (rw [stepS_at]; omega)
 | (have:=(escS_at s (stepS s st)).1
    rw [stepS_at] at this
    omega)
theorem tokT_kind (s:ByteArray) (st:Sc):(∀ t st2,tokT s st= .ok t st2→t.kind≠4)∧∀ f,tokT s st= .bad f→f.code≠0:=by
 unfold tokT
 split
 ·unfold nameT
  split
  ·exact ⟨fun _ _ h=>(by cases h),fun _ h=>by cases h; simp⟩
  ·exact ⟨fun _ _ h=>(by cases h; simp),fun _ h=>by cases h⟩
 ·split
  ·unfold litT
   exact ⟨fun _ _ h=>(by rw [(litL_kind _ _ _ _ _ _).1 _ _ h]; decide),fun _ h=>(litL_kind _ _ _ _ _ _).2 _ h⟩
  ·split
   ·exact ⟨fun _ _ h=>(by cases h; simp),fun _ h=>by cases h⟩
   ·exact ⟨fun _ _ h=>(by cases h),fun _ h=>by cases h; simp⟩
theorem scanL_kind (s:ByteArray) (st:Sc) (ts:List Tok) (hts:∀ t ∈ ts,t.kind≠4) :
  (∀ us,scanL s st ts= .ok us→∃ vs t,us=vs++[t]∧(∀ u ∈ vs,u.kind≠4)∧t.kind=4)∧∀ f,scanL s st ts= .bad f→f.code≠0:=by
 by_cases hlt:st.at_ < s.size
 ·cases ht:tokT s st with
  | ok t st2=>
   rw [scanL_ok ts hlt ht]
   have h1:=tokT_at s st hlt ht
   have h2:=skipS_le s st2
   exact scanL_kind s (skipS s st2) (ts++[t]) (fun u hu=>by
    rcases List.mem_append.1 hu with hu | hu
    ·exact hts u hu
    ·simp at hu; subst hu; exact (tokT_kind s st).1 _ _ ht)
  | bad f=>
   rw [scanL_bad ts hlt ht]
   exact ⟨fun _ h=>(by cases h),fun _ h=>by cases h; exact (tokT_kind s st).2 _ ht⟩
 ·rw [scanL_end ts hlt]
  exact ⟨fun us h=>by cases h; exact ⟨ts,_,rfl,hts,rfl⟩,fun _ h=>by cases h⟩
termination_by s.size - st.at_
decreasing_by omega
theorem scanT_ok {s:ByteArray} {ts:List Tok} (h:scanT s= .ok ts) (hl:ts.length≤65537):TsOk ts (ts.length - 1):=by
 unfold scanT at h
 split at h
 ·cases h
 ·obtain ⟨vs,t,rfl,h1,h2⟩:=(scanL_kind s _ [] (fun t h=>by simp at h)).1 _ h
  have hn:(vs++[t]).length - 1=vs.length:=by simp
  rw [hn]
  refine ⟨by simp,?_,fun i hi=> ?_,by simp at hl; omega⟩
  ·unfold tokAt; simp [h2]
  ·unfold tokAt
   have:(vs++[t]).getD i ⟨4,⟨#[]⟩,0,0⟩=vs[i]:=by simp [List.getD,List.getElem?_append_left hi,List.getElem?_eq_getElem hi]
   rw [this]
   exact h1 _ (List.getElem_mem hi)
theorem scanT_bad {s:ByteArray} {f:Flt} (h:scanT s= .bad f):f.code≠0:=by
 unfold scanT at h
 split at h
 ·cases h; simp
 ·exact (scanL_kind s _ [] (fun t h=>by simp at h)).2 _ h
theorem tokCells_get:∀ (ts:List Tok) (i:Nat),i < ts.length→∀ j u,(tokCells (tokAt ts i))[j]?=some u→(ts.flatMap tokCells)[i*4+j]?=some u
 | [],i,h,_,_,_=>by simp at h
 | t::ts,0,_,j,u,h=>by
  have hj:j < 4:=by
   have:=(List.getElem?_eq_some_iff.1 h).1
   simpa [tokCells] using this
  simp only [tokAt,List.getD_cons_zero] at h
  rw [List.flatMap_cons,Nat.zero_mul,Nat.zero_add,List.getElem?_append_left (by simpa [tokCells] using hj)]
  exact h
 | t::ts,i+1,hi,j,u,h=>by
  have:=tokCells_get ts i (by simpa using hi) j u (by simpa [tokAt] using h)
  rw [List.flatMap_cons,show (i+1)*4+j=4+(i*4+j) by omega,List.getElem?_append_right (by simp [tokCells])]
  simpa [tokCells] using this
theorem psS_new {B P:Nat} {ts:List Tok} {v:Value} {w:World} (hok:TsOk ts (ts.length - 1)) (hown:w.ownsRow B 112 4 v ts.length (ts.flatMap tokCells)) (hP:w.heap.size=P) :
  ∃ G,PsS P G ts (ts.length - 1) v ⟨0,0⟩ (w.alloc (.cells (psCells v ⟨0,0⟩) 86))∧B≤G:=by
 have hlen:=hok.len
 rcases hown.2 with ⟨_,h0⟩ | ⟨g,cap,cur,rfl,hb,hg,_⟩
 ·omega
 ·have hgl:g < w.heap.size:=(Array.getElem?_eq_some_iff.1 hg).1
  refine ⟨g,⟨by rw [← hP]; exact heap_alloc_new w _,⟨cap,by rw [← hlen]⟩,fun i hi j u hj=> ?_,by omega,hok,Nat.zero_le _,Nat.zero_le _⟩,hb⟩
  have h1:=hown.cells (g:=g) rfl (i*4+j) u (tokCells_get ts i (by omega) j u hj)
  rw [Addr.add_lit,Nat.zero_add] at h1
  have h2:=Go.heap_alloc_old w (.cells (psCells (.slice (some ⟨g,0,none⟩) ts.length cap) ⟨0,0⟩) 86) hgl
  rw [← h1]
  simp only [World.cell?]
  rw [h2]
inductive ParR where
 | ok (g:Gr)
 | bad (f:Flt)
def parseT (s:ByteArray):ParR:=
 match scanT s with
 | .bad f=> .bad f
 | .ok ts=>
  match gramF ts ⟨0,0⟩ with
  | .ok g _=> .ok g
  | .bad f=> .bad f
def ParP (w:World) (r:ParR) (e:Ending) (w':World):Prop:=
 Below w.heap.size w w'∧match r with
 | .ok g=>∃ rv,e= .returned (.tuple #[.agg #[.string g.start,rv],fltV ⟨0,0,0⟩])∧RsAt (fun k=>w.heap.size≤k) w' g.rules rv
 | .bad f=>e= .returned (.tuple #[.agg #[.string ⟨#[]⟩,.slice none 0 0],fltV f])
end Go.Proofs.YtmenpmbgennhoaaGreatDoor

namespace Go.Proofs.YtmenpmbgennhoaaGreatDoor
open Go.RowKit
theorem assert_wrong (a b c:Value) (w:World):(Instr.typeAssert (.iface 82 (.agg #[a,b,c])) 20 82 true).run Tryz.prog w= .ok (.tuple #[.agg #[a,b,c],.bool true]) w:=by kernel_rfl
set_option maxRecDepth 100000 in
set_option maxHeartbeats 1600000 in
theorem catch_wrong (n m:Nat) (f:Flt) (ga gb fa fb fc:Value) (older:List PanicEntry) (w:World) (hn:w.heap[n]?=some (.cells #[ga,gb] 25 (0,0))) (hm:w.heap[m]?=some (.cells #[fa,fb,fc] 43 (0,0))) (hne:n≠m) :
  CallsD Tryz.prog 30 #[.pointer (some ⟨n,0,none⟩),.pointer (some ⟨m,0,none⟩)] (.panicking ({ v:=wrongV f,recovered:=false }::older)) w fun e u' w'=>
   e= .returned (.tuple #[])∧u'= .panicking ({ v:=wrongV f,recovered:=true }::older)∧w'.heap[n]?=some (.cells #[.string ⟨#[]⟩,.slice none 0 0] 25 (0,0))∧w'.heap[m]?=some (.cells #[.int .i64 (f.line:Nat),.int .i64 (f.col:Nat),.int .i64 (f.code:Nat)] 43 (0,0))∧Below (min n m) w w':=by
 obtain ⟨fl,fk,fd⟩:=f
 unfold wrongV
 refine callsD_of_wpS Tryz.func30 rfl fun c₀ cs hu=> ?_
 apply wpS_seq
 apply wpS_region
 simp [wpOpsS,go_sem,recoverD,hu,Tryz.ntmps30,Exit.thenS]
 have hta:=assert_wrong
 obtain ⟨T,hT⟩:∃ T,w.heap.size=T:=⟨_,rfl⟩
 have hn':n < T:=by have:=(Array.getElem?_eq_some_iff.1 hn).1; omega
 have hm':m < T:=by have:=(Array.getElem?_eq_some_iff.1 hm).1; omega
 refine wpS_of_wp ?_
 generalize hA:(#[Value.pointer (some ⟨n,0,none⟩),Value.pointer (some ⟨m,0,none⟩)]++_:Array Value)=A
 have hA':A=#[.pointer (some ⟨n,0,none⟩),.pointer (some ⟨m,0,none⟩),.iface 82 (.agg #[.int .i64 (fl:Nat),.int .i64 (fk:Nat),.int .i64 (fd:Nat)]),undef,undef,.iface 82 (.agg #[.int .i64 (fl:Nat),.int .i64 (fk:Nat),.int .i64 (fd:Nat)]),undef,undef,undef,undef,undef,undef,undef,undef,undef,undef,undef,undef,undef]:=by rw [← hA]; rfl
 clear hA
 subst hA'
 have hB1:Below T w (w.alloc (.cells #[.int .i64 (fl:Nat),.int .i64 (fk:Nat),.int .i64 (fd:Nat)] 82)):=by rw [← hT]; exact (Below.refl _ w).alloc (Nat.le_refl _) _
 have hT1:=heap_alloc_new w (.cells #[.int .i64 (fl:Nat),.int .i64 (fk:Nat),.int .i64 (fd:Nat)] 82)
 rw [hT] at hT1
 go_upto_region 5 with (fail)
 generalize w.alloc (.cells #[.int .i64 (fl:Nat),.int .i64 (fk:Nat),.int .i64 (fd:Nat)] 82)=wa at*
 have hna:=(hB1.block n hn').trans hn
 have hma:=(hB1.block m hm').trans hm
 have hnH:=Hid.mk hna
 have hmH:=Hid.mk hma
 have hBH:=Hid.mk hB1
 have k0:wa.cell? ⟨T,0,none⟩=some (.int .i64 (fl:Nat)):=by simp [World.cell?,hT1]
 have k1:wa.cell? ⟨T,1,none⟩=some (.int .i64 (fk:Nat)):=by simp [World.cell?,hT1]
 have k2:wa.cell? ⟨T,2,none⟩=some (.int .i64 (fd:Nat)):=by simp [World.cell?,hT1]
 have n0:wa.cell? ⟨n,0,none⟩=some ga:=by simp [World.cell?,hna]
 have n1:wa.cell? ⟨n,1,none⟩=some gb:=by simp [World.cell?,hna]
 have m0:wa.cell? ⟨m,0,none⟩=some fa:=by simp [World.cell?,hma]
 have m1:wa.cell? ⟨m,1,none⟩=some fb:=by simp [World.cell?,hma]
 have m2:wa.cell? ⟨m,2,none⟩=some fc:=by simp [World.cell?,hma]
 have fn:∀ i,wa.frozen? ⟨n,i,none⟩=false:=fun i=>by simp [World.frozen?,hna]
 have fm:∀ i,wa.frozen? ⟨m,i,none⟩=false:=fun i=>by simp [World.frozen?,hma]
 have e1:n≠T:=by omega
 have e2:m≠T:=by omega
 have e3:m≠n:=fun e=>hne e.symm
 clear hB1 hT1 hna hma hn hm hta
 go_wp2_with (fail)
 go_region
 go_wp2_with (fail)
 have ho:∀ (u:World) (a i b:Nat) (x:Value),b≠a→(u.setCell ⟨a,i,none⟩ x).heap[b]?=u.heap[b]?:=fun u a i b x h=>Below.heap_setCell u _ _ b h
 refine ⟨rfl,_,rfl,.tuple #[],results_none rfl _ _ _,rfl,rfl,?_,?_,?_⟩
 ·rw [heap_drew,ho _ _ _ _ _ hne,ho _ _ _ _ _ hne,ho _ _ _ _ _ hne]
  exact (row_set (row_set hnH.out)).trans (by simp)
 ·rw [heap_drew]
  refine (row_set (cs:=#[fa,fb,fc] |>.setIfInBounds 0 (.int .i64 (fl:Nat)) |>.setIfInBounds 1 (.int .i64 (fk:Nat))) (t:=43) (row_set (row_set ?_))).trans (by simp)
  rw [ho _ _ _ _ _ e3,ho _ _ _ _ _ e3]
  exact hmH.out
 ·exact (((((hBH.out.mono (show min n m≤T by omega)).setCell (p:=⟨n,0,none⟩) (by show min n m≤n; omega) _).setCell (p:=⟨n,1,none⟩) (by show min n m≤n; omega) _).setCell (p:=⟨m,0,none⟩) (by show min n m≤m; omega) _).setCell (p:=⟨m,1,none⟩) (by show min n m≤m; omega) _).setCell (p:=⟨m,2,none⟩) (by show min n m≤m; omega) _ |>.drew
set_option maxRecDepth 100000 in
set_option maxHeartbeats 1600000 in
theorem catch_none (n m:Nat) (w:World) :
  CallsD Tryz.prog 30 #[.pointer (some ⟨n,0,none⟩),.pointer (some ⟨m,0,none⟩)] .returning w fun e u' w'=>e= .returned (.tuple #[])∧u'= .returning∧w'=w:=by
 refine callsD_of_wpS Tryz.func30 rfl fun c₀ cs hu=> ?_
 apply wpS_seq
 apply wpS_region
 simp [wpOpsS,go_sem,recoverD,hu,Tryz.ntmps30,Exit.thenS]
 refine wpS_of_wp ?_
 generalize hA:(#[Value.pointer (some ⟨n,0,none⟩),Value.pointer (some ⟨m,0,none⟩)]++_:Array Value)=A
 have hA':A=#[.pointer (some ⟨n,0,none⟩),.pointer (some ⟨m,0,none⟩),.nilIface,undef,undef,.nilIface,undef,undef,undef,undef,undef,undef,undef,undef,undef,undef,undef,undef,undef]:=by rw [← hA]; rfl
 clear hA
 subst hA'
 go_wp2_with (fail)
 exact ⟨rfl,c₀.mode,rfl,.tuple #[],results_none rfl _ _ _,rfl,hu,rfl⟩
end Go.Proofs.YtmenpmbgennhoaaGreatDoor

namespace Go.Proofs.YtmenpmbgennhoaaGreatDoor
open Go.RowKit
theorem results_cell_cell {fn:Func} {p u:Tmp} {ta tb:TypeId} (h:fn.results=#[.cell p ta,.cell u tb]) (tmps:Array Value) (P:Program) (w:World) :
  (results fn tmps).run P w=
   ((asAddr (tmps.getD p undef)).run P w).andThen fun a w₁=>((loadVar ta a).run P w₁).andThen fun v w₂=>
     ((asAddr (tmps.getD u undef)).run P w₂).andThen fun b w₃=>((loadVar tb b).run P w₃).andThen fun v' w₄=> .ok (.tuple #[v,v']) w₄:=by
 simp only [results,h]
 simp [Sem.run_bind,Result.andThen]
theorem res_row22 {P:Program} {fn:Func} {p u:Tmp} {ta tb:TypeId} (h:fn.results=#[.cell p ta,.cell u tb]) (tmps:Array Value) (w:World) (g g':Nat) (t t':TypeId) (cs cs':Array Value) (fr fr':Nat × Nat) (d d':TypeDesc)
  (hp:tmps.getD p undef= .pointer (some ⟨g,0,none⟩)) (hg:w.heap[g]?=some (.cells cs t fr))
  (hu:P.underlying ta=some d) (hd:(match d with | .struct _ | .array _ _=>true | _=>false)=true) (hi:(P.info? ta).map (·.size)=some cs.size)
  (hp':tmps.getD u undef= .pointer (some ⟨g',0,none⟩)) (hg':w.heap[g']?=some (.cells cs' t' fr'))
  (hu':P.underlying tb=some d') (hd':(match d' with | .struct _ | .array _ _=>true | _=>false)=true) (hi':(P.info? tb).map (·.size)=some cs'.size) :
  (results fn tmps).run P w= .ok (.tuple #[.agg cs,.agg cs']) w:=by
 rw [results_cell_cell h,hp,hp']
 simp [asAddr,run_loadVar_row w g t ta cs fr d hg hu hd hi,run_loadVar_row w g' t' tb cs' fr' d' hg' hu' hd' hi']
set_option maxRecDepth 100000 in
set_option maxHeartbeats 3200000 in
theorem parse_any (s:ByteArray) (w:World):Calls Tryz.prog 9 #[.string s] w fun e w'=>ParP w (parseT s) e w':=by
 have hmf:∀ (fn:Fn) (first cap:Array Value) (w:World),(Instr.makeFunc fn first cap).run Tryz.prog w= .ok (.func fn first cap) w:=fun _ _ _ _=>rfl
 obtain ⟨R,hR⟩:∃ R,parseT s=R:=⟨_,rfl⟩
 rw [hR]
 unfold parseT at hR
 obtain ⟨F,hF⟩:∃ F,w.heap.size=F:=⟨_,rfl⟩
 have hB1:Below F w (w.alloc (.cells #[.string ⟨#[]⟩,.slice none 0 0] 25)):=by rw [← hF]; exact (Below.refl _ w).alloc (Nat.le_refl _) _
 have hF1:=heap_alloc_new w (.cells #[.string ⟨#[]⟩,.slice none 0 0] 25)
 have hsz1:(w.alloc (.cells #[.string ⟨#[]⟩,.slice none 0 0] 25)).heap.size=F+1:=by simp; omega
 rw [hF] at hF1
 go_enter_defers Tryz.func9,Tryz.ntmps9
 go_upto_region 1 with (fail)
 generalize w.alloc (.cells #[.string ⟨#[]⟩,.slice none 0 0] 25)=w1 at*
 have hB2:Below (F+1) w1 (w1.alloc (.cells #[.int .i64 0,.int .i64 0,.int .i64 0] 43)):=by rw [← hsz1]; exact (Below.refl _ w1).alloc (Nat.le_refl _) _
 have hF2:=heap_alloc_new w1 (.cells #[.int .i64 0,.int .i64 0,.int .i64 0] 43)
 rw [hsz1] at hF2
 have hsz2:(w1.alloc (.cells #[.int .i64 0,.int .i64 0,.int .i64 0] 43)).heap.size=F+2:=by simp; omega
 generalize w1.alloc (.cells #[.int .i64 0,.int .i64 0,.int .i64 0] 43)=w2 at*
 go_wp2_with (fail)
 refine (scan_any s w2).mono ?_
 rintro e w3 ⟨hB3,hP3⟩
 have hG3:=(hB3.block F (by omega)).trans ((hB2.block F (by omega)).trans hF1)
 have hM3:=(hB3.block (F+1) (by omega)).trans hF2
 have hBw:=hB1.trans ((hB2.mono (Nat.le_succ F)).trans (hB3.mono (show F≤w2.heap.size by omega)))
 have hsz3:F+2≤w3.heap.size:=by have:=hB3.size; omega
 have m0:w3.cell? ⟨F+1,0,none⟩=some (.int .i64 0):=by simp [World.cell?,hM3]
 have m1:w3.cell? ⟨F+1,1,none⟩=some (.int .i64 0):=by simp [World.cell?,hM3]
 have m2:w3.cell? ⟨F+1,2,none⟩=some (.int .i64 0):=by simp [World.cell?,hM3]
 have fm:∀ i,w3.frozen? ⟨F+1,i,none⟩=false:=fun i=>by simp [World.frozen?,hM3]
 have hGH:=Hid.mk hG3
 have hMH:=Hid.mk hM3
 have hBwH:=Hid.mk hBw
 clear hB1 hB2 hB3 hF1 hF2 hG3 hM3 hBw
 cases hs:scanT s with
 | bad f=>
  rw [hs] at hP3 hR
  subst hP3
  have hc:=scanT_bad hs
  obtain ⟨fl,fk,fd⟩:=f
  unfold fltV
  have hci:((fd:Int)==0)=false:=beq_ne (by simp at hc; omega)
  have n0:w3.cell? ⟨F,0,none⟩=some (.string ⟨#[]⟩):=by simp [World.cell?,hGH.out]
  have n1:w3.cell? ⟨F,1,none⟩=some (.slice none 0 0):=by simp [World.cell?,hGH.out]
  have fn:∀ i,w3.frozen? ⟨F,i,none⟩=false:=fun i=>by simp [World.frozen?,hGH.out]
  clear hs hc
  go_wp2_with (fail)
  go_region
  have ho:∀ (u:World) (a i b:Nat) (x:Value),b≠a→(u.setCell ⟨a,i,none⟩ x).heap[b]?=u.heap[b]?:=fun u a i b x h=>Below.heap_setCell u _ _ b h
  generalize hwd:World.drew _=wd
  have hGd:Hid (wd.heap[F]?=some (.cells #[.string ⟨#[]⟩,.slice none 0 0] 25 (0,0))):= .mk (by
   subst hwd
   rw [heap_drew,ho _ _ _ _ _ (by omega),ho _ _ _ _ _ (by omega),ho _ _ _ _ _ (by omega)]
   exact (row_set (row_set ((ho _ _ _ _ _ (by omega)).trans ((ho _ _ _ _ _ (by omega)).trans ((ho _ _ _ _ _ (by omega)).trans hGH.out))))).trans (by simp))
  have hMd:Hid (wd.heap[F+1]?=some (.cells #[.int .i64 (fl:Nat),.int .i64 (fk:Nat),.int .i64 (fd:Nat)] 43 (0,0))):= .mk (by
   subst hwd
   rw [heap_drew]
   exact (row_set (row_set (row_set ((ho _ _ _ _ _ (by omega)).trans ((ho _ _ _ _ _ (by omega)).trans (row_set (row_set (row_set hMH.out)))))))).trans (by simp))
  have hBd:Hid (Below F w wd):= .mk (by
   subst hwd
   exact ((((((((hBwH.out.setCell (p:=⟨F+1,0,none⟩) (Nat.le_succ F) _).setCell (p:=⟨F+1,1,none⟩) (Nat.le_succ F) _).setCell (p:=⟨F+1,2,none⟩) (Nat.le_succ F) _).setCell (p:=⟨F,0,none⟩) (Nat.le_refl F) _).setCell (p:=⟨F,1,none⟩) (Nat.le_refl F) _).setCell (p:=⟨F+1,0,none⟩) (Nat.le_succ F) _).setCell (p:=⟨F+1,1,none⟩) (Nat.le_succ F) _).setCell (p:=⟨F+1,2,none⟩) (Nat.le_succ F) _).drew)
  clear hwd ho
  go_wp2_with (fail)
  refine ⟨_,res_row22 rfl _ _ F (F+1) _ _ _ _ _ _ _ _ rfl hGd.out Tryz.underlying25 rfl gramInfo rfl hMd.out Tryz.underlying43 rfl fltInfo,?_⟩
  subst hR
  exact ⟨by rw [hF]; exact hBd.out,rfl⟩
 | ok ts=>
  rw [hs] at hP3 hR
  obtain ⟨v,rfl,hown,hlen⟩:=hP3
  obtain ⟨vp,vc,rfl⟩:=ownsRow_form hown
  have hok:=Hid.mk (scanT_ok hs hlen)
  have hown:=Hid.mk hown
  unfold fltV
  clear hs hlen
  go_upto_region 4 with (fail)
  generalize hw4:World.setCell _ _ _=w4
  have hO34:Onl (F+1) w3 w4:=by
   subst hw4
   exact (((Onl.refl (F+1) w3).setCell (p:=⟨F+1,0,none⟩) rfl _).setCell (p:=⟨F+1,1,none⟩) rfl _).setCell (p:=⟨F+1,2,none⟩) rfl _
  have hM4:w4.heap[F+1]?=some (.cells #[.int .i64 0,.int .i64 0,.int .i64 0] 43 (0,0)):=by
   subst hw4
   exact (row_set (row_set (row_set hMH.out))).trans (by simp)
  have hG4:=hO34.row hGH.out (by omega)
  have hown4:=ownsRow_sm hown.out (fun g hg=>World.grownBy.block hO34 g (hown.out.lt g hg).2 (fun e=>by cases e; have:=(hown.out.lt _ hg).1; omega))
  obtain ⟨P,hP⟩:∃ P,w4.heap.size=P:=⟨_,rfl⟩
  obtain ⟨G,hS5,hGg⟩:=psS_new hok.out hown4 hP
  have hB45:Below w4.heap.size w4 (w4.alloc (.cells (psCells (.slice vp ts.length vc) ⟨0,0⟩) 86)):=(Below.refl _ w4).alloc (Nat.le_refl _) _
  have hFP:F+2≤P:=by have:=hO34.size; omega
  have hB4:=hBwH.out.trans (hO34.blw (Nat.le_succ F) (by omega))
  have hG5:=Hid.mk ((hB45.block F (by omega)).trans hG4)
  have hM5:=Hid.mk ((hB45.block (F+1) (by omega)).trans hM4)
  have hB5:=Hid.mk (hB4.trans (hB45.mono (by omega)))
  have hS5:=Hid.mk hS5
  unfold psCells at hS5 hG5 hM5 hB5
  clear hO34 hw4 hM4 hG4 hown4 hB45 hB4 m0 m1 m2 fm hGH hMH hBwH
  go_wp2_with (fail)
  refine (grammar_any P G ts (ts.length - 1) _ ⟨0,0⟩ _ hS5.out).mono ?_
  rintro e w6 ⟨hO6,hP6⟩
  have hsz5:P+1≤(w4.alloc (.cells #[.slice vp ts.length vc,.int .i64 ((⟨0,0⟩:PS).at_:Nat),.int .i64 ((⟨0,0⟩:PS).open_:Nat)] 86)).heap.size:=by simp; omega
  have hG6:=Hid.mk (hO6.row hG5.out (by omega))
  have hM6:=Hid.mk (hO6.row hM5.out (by omega))
  have hB6:=Hid.mk (hB5.out.trans (hO6.blw (by omega) (Nat.le_trans (show F≤P+1 by omega) hsz5)))
  cases hgr:gramF ts ⟨0,0⟩ with
  | bad fe=>
   rw [hgr] at hP6 hR
   subst hP6
   simp only at hR
   subst hR
   unfold thrown
   refine leaves_cons (f:=30) (args:=#[.pointer (some ⟨F,0,none⟩),.pointer (some ⟨F+1,0,none⟩)]) (by simp) (by simp [go_sem]) ?_
   refine (catch_wrong F (F+1) fe _ _ _ _ _ [] _ hG6.out hM6.out (by omega)).mono ?_
   rintro e u' w'' ⟨rfl,rfl,h1,h2,hB⟩
   refine ⟨_,res_row22 rfl _ _ F (F+1) _ _ _ _ _ _ _ _ rfl h1 Tryz.underlying25 rfl gramInfo rfl h2 Tryz.underlying43 rfl fltInfo,?_⟩
   exact ⟨by rw [hF]; exact hB6.out.trans (hB.mono (by omega)),rfl⟩
  | ok g pe=>
   rw [hgr] at hP6 hR
   obtain ⟨⟨u,rfl,rv,rfl,hRs⟩,hS6,_,_⟩:=hP6
   simp only at hR
   obtain ⟨rp,rc,rfl⟩:=hRs.form
   have hRsH:=Hid.mk (hRs.keep (S':=fun k=>F+2≤k) (Nat.le_refl _) fun k h1 _=>⟨rfl,Nat.le_trans (show F+2≤P+1 by omega) (Nat.le_trans hsz5 h1)⟩)
   have hgG:w6.cell? ⟨F,0,none⟩=some (.string ⟨#[]⟩):=by simp [World.cell?,hG6.out]
   have hgG1:w6.cell? ⟨F,1,none⟩=some (.slice none 0 0):=by simp [World.cell?,hG6.out]
   have m0:w6.cell? ⟨F+1,0,none⟩=some (.int .i64 0):=by simp [World.cell?,hM6.out]
   have m1:w6.cell? ⟨F+1,1,none⟩=some (.int .i64 0):=by simp [World.cell?,hM6.out]
   have m2:w6.cell? ⟨F+1,2,none⟩=some (.int .i64 0):=by simp [World.cell?,hM6.out]
   have fg:∀ i,w6.frozen? ⟨F,i,none⟩=false:=fun i=>by simp [World.frozen?,hG6.out]
   have fm:∀ i,w6.frozen? ⟨F+1,i,none⟩=false:=fun i=>by simp [World.frozen?,hM6.out]
   clear hO6 hS6 hRs hgr
   go_wp2_with (fail)
   have ho:∀ (u:World) (a i b:Nat) (x:Value),b≠a→(u.setCell ⟨a,i,none⟩ x).heap[b]?=u.heap[b]?:=fun u a i b x h=>Below.heap_setCell u _ _ b h
   have hsz6:F+2≤w6.heap.size:=by have:=(Array.getElem?_eq_some_iff.1 hM6.out).1; omega
   generalize hwd:World.setCell _ _ _=wd
   have hGd:Hid (wd.heap[F]?=some (.cells #[.string g.start,.slice rp g.rules.length rc] 25 (0,0))):= .mk (by
    subst hwd
    rw [ho _ _ _ _ _ (by omega),ho _ _ _ _ _ (by omega),ho _ _ _ _ _ (by omega)]
    exact (row_set (row_set hG6.out)).trans (by simp))
   have hMd:Hid (wd.heap[F+1]?=some (.cells #[.int .i64 0,.int .i64 0,.int .i64 0] 43 (0,0))):= .mk (by
    subst hwd
    exact (row_set (row_set (row_set ((ho _ _ _ _ _ (by omega)).trans ((ho _ _ _ _ _ (by omega)).trans hM6.out))))).trans (by simp))
   have hBd:Hid (Below F w wd):= .mk (by
    subst hwd
    exact ((((hB6.out.setCell (p:=⟨F,0,none⟩) (Nat.le_refl F) _).setCell (p:=⟨F,1,none⟩) (Nat.le_refl F) _).setCell (p:=⟨F+1,0,none⟩) (Nat.le_succ F) _).setCell (p:=⟨F+1,1,none⟩) (Nat.le_succ F) _).setCell (p:=⟨F+1,2,none⟩) (Nat.le_succ F) _)
   have hRd:Hid (RsAt (fun k=>F≤k) wd g.rules (.slice rp g.rules.length rc)):= .mk (by
    subst hwd
    refine RsAt.keep hRsH.out (by simp) ?_
    intro k h1 _
    refine ⟨?_,by omega⟩
    rw [ho _ _ _ _ _ (by omega),ho _ _ _ _ _ (by omega),ho _ _ _ _ _ (by omega),ho _ _ _ _ _ (by omega),ho _ _ _ _ _ (by omega)])
   clear hwd ho
   refine leaves_cons (f:=30) (args:=#[.pointer (some ⟨F,0,none⟩),.pointer (some ⟨F+1,0,none⟩)]) (by simp) (by simp [go_sem]) ?_
   refine (catch_none F (F+1) wd).mono ?_
   rintro e u' w'' ⟨rfl,rfl,rfl⟩
   refine ⟨_,res_row22 rfl _ _ F (F+1) _ _ _ _ _ _ _ _ rfl hGd.out Tryz.underlying25 rfl gramInfo rfl hMd.out Tryz.underlying43 rfl fltInfo,?_⟩
   subst hR
   exact ⟨by rw [hF]; exact hBd.out,_,rfl,by rw [hF]; exact hRd.out⟩
end Go.Proofs.YtmenpmbgennhoaaGreatDoor

namespace Go.Proofs.YtmenpmbgennhoaaGreatDoor
open Go.RowKit
def goodL (s:ByteArray) (i:Nat):Bool:=if i < s.size then (nameN (by_ s i) && goodL s (i+1)) else true
termination_by s.size - i
def goodN (s:ByteArray):Bool:=decide (0 < s.size) && (decide (s.size≤32) && (letN (by_ s 0) && goodL s 0))
set_option maxRecDepth 100000 in
set_option maxHeartbeats 1600000 in
theorem good_any (s:ByteArray) (w:World):Calls Tryz.prog 18 #[.string s] w fun e w'=>e= .returned (.bool (goodN s))∧w'=w:=by
 obtain ⟨R,hR⟩:∃ R,goodN s=R:=⟨_,rfl⟩
 rw [hR]
 unfold goodN at hR
 by_cases h0:s.size=0
 ·have hx0:s=⟨#[]⟩:=by
   obtain ⟨d⟩:=s
   have:d=#[]:=Array.eq_empty_of_size_eq_zero h0
   rw [this]
  subst hx0
  have hr:R=false:=by rw [← hR]; rfl
  subst hr
  clear hR h0
  go_enter Tryz.func18,Tryz.ntmps18
  go_wp2_with (fail)
  go_ret
  exact ⟨rfl,rfl⟩
 ·have hne:(s.toList==[])=false:=by
   rw [ByteArray.toList_eq]
   apply beq_eq_false_iff_ne.2
   intro h
   apply h0
   have:=congrArg List.length h
   simpa using this
  rw [decide_eq_true (show 0 < s.size by omega)] at hR
  by_cases h32:s.size≤32
  ·have h32i:((32:Int) < (s.size:Int))=False:=eq_false (by omega)
   rw [decide_eq_true h32] at hR
   simp only [Bool.true_and] at hR
   have hb:=by_is s 0 (by omega)
   have hla:=Hid.mk (fun w=>let_any (by_ s 0) w)
   have hpos:((0:Int) < (s.size:Int)):=by omega
   cases hl:letN (by_ s 0) with
   | false=>
    rw [hl] at hR hla
    simp only [Bool.false_and] at hR
    subst hR
    clear hl
    generalize by_ s 0=b at*
    go_enter Tryz.func18,Tryz.ntmps18
    go_wp2_with (go_at_call 42; refine (hla.out _).mono ?_; rintro e w' ⟨rfl,hw'⟩; subst w')
    go_ret
    exact ⟨rfl,rfl⟩
   | true=>
    rw [hl] at hR hla
    simp only [Bool.true_and] at hR
    have hRH:=Hid.mk hR
    have h32H:=Hid.mk h32
    clear hl hR
    generalize by_ s 0=b at*
    go_enter Tryz.func18,Tryz.ntmps18
    go_wp2_with (go_at_call 42; refine (hla.out _).mono ?_; rintro e w' ⟨rfl,hw'⟩; subst w')
    go_loopw [19] (fun x wr=>∃ i:Nat,x= .int .i64 (i:Nat)∧i≤s.size∧goodL s i=R∧wr=w) (fun x _=>s.size - (intOf x).toNat)
    case atStart=>exact ⟨0,rfl,Nat.zero_le _,hRH.out,rfl⟩
    case round=>
     obtain ⟨i,rfl,hi,hg,rfl⟩:=hrel
     rw [goodL.eq_def] at hg
     by_cases hlt:i < s.size
     ·rw [if_pos hlt] at hg
      have hiI:(i:Int) < (s.size:Int):=by omega
      have hb2:=by_is s i hlt
      have hin:=Hid.mk (fun w=>inName_any (by_ s i) w)
      cases hn:nameN (by_ s i) with
      | false=>
       rw [hn] at hg hin
       simp only [Bool.false_and] at hg
       subst hg
       clear hn
       generalize by_ s i=b2 at*
       go_wp2_with (go_at_call 43; refine (hin.out _).mono ?_; rintro e w' ⟨rfl,hw'⟩; subst w')
       go_ret
       exact ⟨rfl,rfl⟩
      | true=>
       rw [hn] at hg hin
       simp only [Bool.true_and] at hg
       have hgH:=Hid.mk hg
       clear hn hg
       have hsmi:(i:Int) < 33:=by omega
       generalize by_ s i=b2 at*
       go_wp2_with (go_at_call 43; refine (hin.out _).mono ?_; rintro e w' ⟨rfl,hw'⟩; subst w')
       exact ⟨⟨i+1,by simp,by omega,hgH.out,by first | rfl | trivial⟩,by simp [intOf]; omega⟩
     ·rw [if_neg hlt] at hg
      subst hg
      have hiI:((i:Int) < (s.size:Int))=False:=eq_false (by omega)
      go_wp2_with (fail)
      go_ret
      exact ⟨rfl,rfl⟩
  ·have h32i:((32:Int) < (s.size:Int)):=by omega
   rw [decide_eq_false h32] at hR
   simp only [Bool.true_and,Bool.false_and] at hR
   subst hR
   clear h32 h0
   go_enter Tryz.func18,Tryz.ntmps18
   go_wp2_with (fail)
   go_ret
   exact ⟨rfl,rfl⟩
end Go.Proofs.YtmenpmbgennhoaaGreatDoor
