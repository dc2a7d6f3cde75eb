/- plain.Desugar: what it says; the maker's parts while it begins. -/
import Derived.Test.YtmenpmbgennhoaaGreatDoorMkh
namespace Go.Proofs.YtmenpmbgennhoaaGreatDoor
open Go.RowKit
section
variable {Z M L:Nat} {G:MkG} {V V':MV} {st st':Mk} {w w':World}
theorem MkS.setHead (h:MkS Z M L G V st w) (a b:Nat) (m:Bool) (hr:w'.heap[M]?=some (.cells (mkCells a b V st.count.length m) 70 (0,0))) (ho:Onl M w w'):MkS Z M L { G with start:=a,rl:=b } V { st with many:=m } w':=by
 obtain ⟨ss,p1,p2,p3⟩:=h.prods
 obtain ⟨qs,q1,q2,q3⟩:=h.queue
 have hM:=h.cells
 have hb:∀ k,k < w.heap.size→k≠M→w'.heap[k]?=w.heap[k]?:=fun k h1 h2=>ho.block k h1 (fun e=>h2 (by injection e))
 have ne:∀ {k:Nat} {e:Nat} {cur:Array Value},w.heap[k]?=some (.cells cur e (0,0))→e≠70→k≠M:=fun h1 h2 e=>by
  subst e; rw [hM] at h1; cases h1; exact h2 rfl
 have hz:=h.zm
 refine { h with cells:=hr,names:= ?_,terms:= ?_,prods:=⟨ss,p1,?_,fun i p s e1 e2=>(p3 i p s e1 e2).keep ho.size fun k r1 r2=>⟨hb k r2 (fun e=>r1.2.2 (.inl e)),r1⟩⟩,queue:=⟨qs,q1,?_,fun i x s e1 e2=>(q3 i x s e1 e2).keep ho.size fun k r1 r2=>⟨hb k r2 (by omega),r1⟩⟩,count:=(hb _ (h.lt (.inr (.inr (.inr (.inl rfl))))) (ne h.count (by decide))).trans h.count,mn:=h.mn.keep (hb _ h.mn.lt ?_),mt:=h.mt.keep (hb _ h.mt.lt ?_) }
 ·exact h.names.keep fun g _ h2 e=>hb g h2 (fun e'=>by subst e'; exact row_ne h.names e hM (by decide))
 ·exact h.terms.keep fun g _ h2 e=>hb g h2 (fun e'=>by subst e'; exact row_ne h.terms e hM (by decide))
 ·exact ownsRow_sm p2 fun g e=>hb g (p2.lt g e).2 (fun e'=>by subst e'; exact row_ne p2 e hM (by decide))
 ·exact ownsRow_sm q2 fun g e=>hb g (q2.lt g e).2 (fun e'=>by subst e'; exact row_ne q2 e hM (by decide))
 ·intro e; obtain ⟨es,c,hb',_⟩:=h.mn; rw [e,hM] at hb'; cases hb'
 ·intro e; obtain ⟨es,c,hb',_⟩:=h.mt; rw [e,hM] at hb'; cases hb'
theorem MkS.setTerms (h:MkS Z M L G V st w) (l:List ByteArray) (v:Value) (g':Nat) (hg':v.ownBlock=some g') (hv:StrsO Z w' v l) (hat:V.t.ownBlock=some g'∨w.heap.size≤g') (hs:w.heap.size≤w'.heap.size)
  (hb:∀ k,k < w.heap.size→k≠M→V.t.ownBlock≠some k→w'.heap[k]?=w.heap[k]?) (hr:w'.heap[M]?=some (.cells (mkCells G.start G.rl { V with t:=v } st.count.length st.many) 70 (0,0))) :
  MkS Z M L { G with ts:=l } { V with t:=v } st w'∧∀ k,MkA M { V with t:=v } k→MkA M V k∨w.heap.size≤k:=by
 obtain ⟨ss,p1,p2,p3⟩:=h.prods
 obtain ⟨qs,q1,q2,q3⟩:=h.queue
 have hn:=h.terms
 have hM:=h.cells
 have hz:=h.zm
 have hA:∀ k,MkA M { V with t:=v } k→MkA M V k∨w.heap.size≤k:=by
  intro k hk
  rcases hk with e | e | e | e | e | e | e | e
  ·exact .inl (.inl e)
  ·exact .inl (.inr (.inl e))
  ·exact .inl (.inr (.inr (.inl e)))
  ·exact .inl (.inr (.inr (.inr (.inl e))))
  ·exact .inl (.inr (.inr (.inr (.inr (.inl e)))))
  ·rw [hg'] at e
   injection e with e
   subst e
   rcases hat with h1 | h1
   ·exact .inl (.inr (.inr (.inr (.inr (.inr (.inl h1))))))
   ·exact .inr h1
  ·exact .inl (.inr (.inr (.inr (.inr (.inr (.inr (.inl e)))))))
  ·exact .inl (.inr (.inr (.inr (.inr (.inr (.inr (.inr e)))))))
 refine ⟨{ h with cells:=hr,terms:=hv,names:= ?_,prods:=⟨ss,p1,?_,fun i p s e1 e2=>(p3 i p s e1 e2).keep hs fun k r1 r2=>⟨hb k r2 (fun e=>r1.2.2 (.inl e)) (fun e=>r1.2.2 (.inr (.inr (.inr (.inr (.inr (.inl e))))))),r1.1,r1.2.1,fun e=>(hA k e).elim r1.2.2 (fun e=>by omega)⟩⟩,queue:=⟨qs,q1,?_,fun i x s e1 e2=>(q3 i x s e1 e2).keep hs fun k r1 r2=>⟨hb k r2 (by omega) (fun e=>by have:=(hn.lt k e).1; omega),r1⟩⟩,count:=(hb _ (h.lt (.inr (.inr (.inr (.inl rfl))))) (h.neM h.count (by decide)) (fun e=>row_ne hn e h.count (by decide))).trans h.count,mn:=h.mn.keep (hb _ h.mn.lt h.bnM (hn.nomap h.mn)),mt:=h.mt.keep (hb _ h.mt.lt h.btM (hn.nomap h.mt)),apart:= ?_ },hA⟩
 ·exact h.names.keep fun g _ h2 e=>hb g h2 (fun e'=>by subst e'; exact row_ne h.names e hM (by decide)) (fun e'=>h.apart g e e')
 ·exact ownsRow_sm p2 fun g e=>hb g (p2.lt g e).2 (fun e'=>by subst e'; exact row_ne p2 e hM (by decide)) (ownsRow_apart p2 hn (by decide) e)
 ·exact ownsRow_sm q2 fun g e=>hb g (q2.lt g e).2 (fun e'=>by subst e'; exact row_ne q2 e hM (by decide)) (ownsRow_apart q2 hn (by decide) e)
 ·intro k e e'
  rw [hg'] at e'
  injection e' with e'
  subst e'
  rcases hat with h1 | h1
  ·exact h.apart _ e h1
  ·have:=(h.names.lt _ e).2
   omega
theorem nmap_cells {b:Nat} {f:ByteArray→Option Value} {w:World} {k e:Nat} {cur:Array Value} (hm:MpS w b f) (h:w.heap[k]?=some (.cells cur e (0,0))):k≠b:=fun e'=>by
 subst e'
 obtain ⟨es,c,hb,_⟩:=hm
 rw [h] at hb
 cases hb
theorem MkS.setMapN (h:MkS Z M L G V st w) (n:Nat) (hm:MpS w' V.bn (natV (fwdN G.rs n))) (ho:Onl V.bn w w'):MkS Z M L { G with nk:=n } V st w':=by
 obtain ⟨ss,p1,p2,p3⟩:=h.prods
 obtain ⟨qs,q1,q2,q3⟩:=h.queue
 have hb:∀ k,k < w.heap.size→k≠V.bn→w'.heap[k]?=w.heap[k]?:=fun k h1 h2=>ho.block k h1 (fun e=>h2 (by injection e))
 have hz:=h.zn
 have far:∀ {N e n size:Nat} {u:Value} {xs:List Value},w.ownsRow N e size u n xs→w'.ownsRow N e size u n xs:=fun {N e n size u xs} hu=>ownsRow_sm hu fun g e'=>hb g (hu.lt g e').2 (fun e''=>by subst e''; exact ownsRow_nomap hu h.mn e')
 exact { h with cells:=(hb M (h.lt (.inl rfl)) (fun e=>h.bnM e.symm)).trans h.cells,names:=far h.names,terms:=far h.terms,prods:=⟨ss,p1,far p2,fun i p s e1 e2=>(p3 i p s e1 e2).keep ho.size fun k r1 r2=>⟨hb k r2 (fun e=>r1.2.2 (.inr (.inl e))),r1⟩⟩,queue:=⟨qs,q1,far q2,fun i x s e1 e2=>(q3 i x s e1 e2).keep ho.size fun k r1 r2=>⟨hb k r2 (by omega),r1⟩⟩,count:=(hb _ (h.lt (.inr (.inr (.inr (.inl rfl))))) (nmap_cells h.mn h.count)).trans h.count,mn:=hm,mt:=h.mt.keep (hb _ h.mt.lt (fun e=>h.maps e.symm)) }
theorem MkS.setMapT (h:MkS Z M L G V st w) (l:List ByteArray) (hm:MpS w' V.bt (natV (fwdT l l.length))) (ho:Onl V.bt w w'):MkS Z M L { G with tm:=l } V st w':=by
 obtain ⟨ss,p1,p2,p3⟩:=h.prods
 obtain ⟨qs,q1,q2,q3⟩:=h.queue
 have hb:∀ k,k < w.heap.size→k≠V.bt→w'.heap[k]?=w.heap[k]?:=fun k h1 h2=>ho.block k h1 (fun e=>h2 (by injection e))
 have hz:=h.zt
 have far:∀ {N e n size:Nat} {u:Value} {xs:List Value},w.ownsRow N e size u n xs→w'.ownsRow N e size u n xs:=fun {N e n size u xs} hu=>ownsRow_sm hu fun g e'=>hb g (hu.lt g e').2 (fun e''=>by subst e''; exact ownsRow_nomap hu h.mt e')
 exact { h with cells:=(hb M (h.lt (.inl rfl)) (fun e=>h.btM e.symm)).trans h.cells,names:=far h.names,terms:=far h.terms,prods:=⟨ss,p1,far p2,fun i p s e1 e2=>(p3 i p s e1 e2).keep ho.size fun k r1 r2=>⟨hb k r2 (fun e=>r1.2.2 (.inr (.inr (.inl e)))),r1⟩⟩,queue:=⟨qs,q1,far q2,fun i x s e1 e2=>(q3 i x s e1 e2).keep ho.size fun k r1 r2=>⟨hb k r2 (by omega),r1⟩⟩,count:=(hb _ (h.lt (.inr (.inr (.inr (.inl rfl))))) (nmap_cells h.mt h.count)).trans h.count,mt:=hm,mn:=h.mn.keep (hb _ h.mn.lt (fun e=>h.maps e)) }
end
theorem fwdN_put (rs:List Rl) (n:Nat):mput (natV (fwdN rs n)) (rlAt rs n).name (.int .i64 (n:Nat))=natV (fwdN rs (n+1)):=by
 funext s
 unfold mput natV
 rw [fwdN]
 split
 ·rfl
 ·rfl
theorem fwdT_app (l:List ByteArray) (x s:ByteArray):∀ k,k≤l.length→fwdT (l++[x]) k s=fwdT l k s
 | 0,_=>rfl
 | k+1,h=>by
  rw [fwdT,fwdT,fwdT_app l x s k (by omega),List.getElem?_append_left (by omega)]
theorem fwdT_put (l:List ByteArray) (x:ByteArray):mput (natV (fwdT l l.length)) x (.int .i64 (l.length:Nat))=natV (fwdT (l++[x]) (l++[x]).length):=by
 funext s
 unfold mput natV
 rw [show (l++[x]).length=l.length+1 by simp,fwdT,fwdT_app l x s l.length (Nat.le_refl _)]
 have:(l++[x])[l.length]?.getD ⟨#[]⟩=x:=by simp
 rw [this]
 split
 ·rfl
 ·rfl
structure Pl where
 start:Nat
 rules:Nat
 names:List ByteArray
 terms:List ByteArray
 prods:List Pd
def loopF (rs:List Rl) (ts:List ByteArray):Nat→Mk→Nat→Mk
 | 0,st,_=>st
 | f+1,st,i=>if i < st.queue.length∧st.many=false then loopF rs ts f (produceF rs ts st i (decide (i < rs.length))) (i+1) else st
def init0 (rs:List Rl) (i:Nat) (n:Nat):Mk:=⟨(List.range i).map (fun j=>(rlAt rs j).name),[],(List.range i).map (fun j=>((rlAt rs j).body,j)),List.replicate n 0,false⟩
noncomputable def fuel0:Nat:=Classical.choose (show ∃ n:Nat,n=1000001 from ⟨_,rfl⟩)
theorem fuel0_eq:fuel0=1000001:=Classical.choose_spec (show ∃ n:Nat,n=1000001 from ⟨_,rfl⟩)
noncomputable def desMk (g:Gr):Mk:=loopF g.rules (termsRs [] g.rules) fuel0 { init0 g.rules g.rules.length g.rules.length with many:=decide (256 < (termsRs [] g.rules).length) } 0
inductive DR where
 | bad (code:Int)
 | ok (p:Pl)
noncomputable def desG (g:Gr):DR:=
 if properG g=true then
  match checkG g with
  | p::_=> .bad p.code
  | []=>if (desMk g).many=true then .bad 12 else .ok ⟨(fwdN g.rules g.rules.length g.start).getD 0,g.rules.length,(desMk g).names,termsRs [] g.rules,(desMk g).prods⟩
 else .bad 1
def PlAt (N:Nat) (w:World) (p:Pl) (v:Value):Prop:=
 ∃ vn vt vp ss,v= .agg #[.int .i64 (p.start:Nat),.int .i64 (p.rules:Nat),vn,vt,vp]∧StrsO N w vn p.names∧StrsO N w vt p.terms∧ss.length=p.prods.length∧w.ownsRow N 39 2 vp p.prods.length (gridC prodC p.prods ss)∧∀ (i:Nat) x s,p.prods[i]?=some x→ss[i]?=some s→IntsAt (fun k=>N≤k) w s x.right
def zeroPl:Value:= .agg #[.int .i64 0,.int .i64 0,.slice none 0 0,.slice none 0 0,.slice none 0 0]
def DesP (w:World) (r:DR) (e:Ending) (w':World):Prop:=
 Below w.heap.size w w'∧match r with
 | .bad c=>e= .returned (.tuple #[zeroPl,.int .i64 c])
 | .ok p=>∃ v,e= .returned (.tuple #[v,.int .i64 0])∧PlAt w.heap.size w' p v
theorem plInfo:(Tryz.prog.info? 34).map (·.size)=some 5:=by kernel_rfl
theorem wp_put_str {P:Program} {w:World} {t k e:TypeId} {o:Oper} {a:Act} {K:Act→World→Prop} {Q:Exit→Act→World→Prop} (m x v:Operand) (hop:o.op=Op.mapUpdate t m x v) (ht:P.underlying t=some (.map k e)) (hk:P.underlying k=some .string)
  (b:Nat) (f:ByteArray→Option Value) (hm:a.eval m= .map (some b)) (h:MpS w b f) (s:ByteArray) (hx:a.eval x= .string s) (u:Value) (hv:a.eval v=u)
  (hK:∀ w',MpS w' b (mput f s u)→Onl b w w'→w'.heap.size=w.heap.size→K (a.put o.dst undef) w'):o.wp P a w K Q:=by
 obtain ⟨w',hrun,r1,r2,r3⟩:=h.put (P:=P) ht hk s u
 unfold Oper.wp
 simp [execOp,hop,hm,hx,hv,hrun,Result.andThen]
 exact hK w' r1 r2 r3
theorem termsRs_le:∀ (l:List ByteArray) (rs:List Rl),(termsRs l rs).length≤l.length+nodesRs rs
 | l,[]=>by simp [termsRs]
 | l,a::r=>by
  have h1:=terms_le l a.body
  have h2:=termsRs_le (termsT l a.body) r
  rw [termsRs,nodesRs]
  omega
theorem frozen_of_row {w:World} {b i t:Nat} {cs:Array Value} (h:w.heap[b]?=some (.cells cs t (0,0))):w.frozen? ⟨b,i,none⟩=false:=by
 simp [World.frozen?,h]
theorem init0_succ (rs:List Rl) (i n:Nat):init0 rs (i+1) n={ init0 rs i n with names:=(init0 rs i n).names++[(rlAt rs i).name],queue:=(init0 rs i n).queue++[((rlAt rs i).body,i)] }:=by
 simp [init0,List.range_succ]
theorem init0_names (rs:List Rl) (i n:Nat):(init0 rs i n).names.length=i:=by simp [init0]
theorem init0_queue (rs:List Rl) (i n:Nat):(init0 rs i n).queue.length=i:=by simp [init0]
theorem cntC_zero (n:Nat):cntC (List.replicate n 0)=(madeCells (Value.int .i64 0).cells (n*1)):=by
 apply Array.ext'
 simp only [cntC,madeCells,List.map_replicate,Nat.mul_one]
 apply List.ext_getElem?
 intro i
 by_cases h:i < n <;> simp [Value.cells,List.getElem?_replicate,Nat.mod_one,h]
theorem mk_init {Z N:Nat} (rs:List Rl) (w6:World) (hZ:Z≤N) (hm1:MpS w6 N (fun _=>none)) (hm2:MpS w6 (N+1) (fun _=>none)) (hc:w6.ownsRow Z 3 1 (.slice (some ⟨N+2,0,none⟩) rs.length rs.length) rs.length (madeCells (Value.int .i64 0).cells (rs.length*1)).toList) :
  MkS Z w6.heap.size Z ⟨rs,[],[],0,0,0⟩ ⟨.slice none 0 0,.slice none 0 0,.slice none 0 0,.slice none 0 0,N,N+1,N+2⟩ (init0 rs 0 rs.length) (w6.alloc (.cells (mkCells 0 0 ⟨.slice none 0 0,.slice none 0 0,.slice none 0 0,.slice none 0 0,N,N+1,N+2⟩ rs.length false) 70)):=by
 have hcnt:w6.heap[N+2]?=some (.cells (cntC (List.replicate rs.length 0)) 3 (0,0)):=by
  rcases hc.2 with ⟨h,_⟩ | ⟨g,cap,cur,h,_,hg,h1,h2,h3,h4⟩
  ·cases h
  ·injection h with e1 e2 e3
   injection e1 with e1
   injection e1 with e1
   subst e1
   subst e3
   rw [hg]
   have:cur=cntC (List.replicate rs.length 0):=by
    rw [cntC_zero]
    apply Array.ext'
    rw [← h4,List.take_of_length_le (by simp; omega)]
   rw [this]
 have hlt:=(Array.getElem?_eq_some_iff.1 hcnt).1
 have hb:Below w6.heap.size w6 (w6.alloc (.cells (mkCells 0 0 ⟨.slice none 0 0,.slice none 0 0,.slice none 0 0,.slice none 0 0,N,N+1,N+2⟩ rs.length false) 70)):=(Below.refl _ w6).alloc (Nat.le_refl _) _
 have e1:natV (fwdN rs 0)=fun _=>none:=rfl
 have e2:natV (fwdT [] ([]:List ByteArray).length)=fun _=>none:=rfl
 refine ⟨?_,⟨by simp [init0],.inl ⟨rfl,rfl⟩⟩,⟨by simp,.inl ⟨rfl,rfl⟩⟩,⟨[],rfl,⟨by simp [init0,gridC],.inl ⟨rfl,rfl⟩⟩,fun i p s h=>by simp [init0] at h⟩,⟨[],rfl,⟨by simp [init0,gridC],.inl ⟨rfl,rfl⟩⟩,fun i p s h=>by simp [init0] at h⟩,(hb.block _ hlt).trans hcnt,by rw [e1]; exact hm1.blw hb,by rw [e2]; exact hm2.blw hb,by omega,hZ,by show Z≤N+1; omega,by show Z≤N+2; omega,fun k h=>by simp [Value.ownBlock] at h,by show N≠N+1; omega,Nat.le_refl _⟩
 have:=heap_alloc_new w6 (.cells (mkCells 0 0 ⟨.slice none 0 0,.slice none 0 0,.slice none 0 0,.slice none 0 0,N,N+1,N+2⟩ rs.length false) 70)
 rw [this]
 simp [init0]
theorem proper_kid:∀ (ks:List Tr) (a:Tr),properK ks=true→a ∈ ks→properT a=true
 | [],_,_,h=>by simp at h
 | b::l,a,hp,h=>by
  rw [properK,Bool.and_eq_true] at hp
  rcases List.mem_cons.1 h with rfl | h
  ·exact hp.1
  ·exact proper_kid l a hp.2 h
theorem proper_kids (t:Tr) (h:properT t=true):∀ a ∈ t.kids,properT a=true:=by
 obtain ⟨k,x,ks⟩:=t
 intro a ha
 simp only [Tr.kids] at ha
 rw [properT] at h
 split at h
 ·simp at h
  rw [h.2] at ha
  simp at ha
 ·split at h
  ·simp at h
   rw [h.2.2] at ha
   simp at ha
  ·simp only [Bool.and_eq_true] at h
   exact proper_kid ks a h.2.2 ha
theorem proper_one (t:Tr) (h:properT t=true) (hk:t.kind=5∨t.kind=6∨t.kind=7):t.kids.length=1:=by
 obtain ⟨k,x,ks⟩:=t
 simp only [Tr.kind,Tr.kids] at hk ⊢
 rw [properT,if_neg (by omega),if_neg (by omega)] at h
 simp only [Bool.and_eq_true] at h
 have h1:=h.1
 unfold kidsOk at h1
 rw [if_neg (by omega),if_neg (by omega),if_pos hk] at h1
 exact of_decide_eq_true h1
theorem proper_rows (t:Tr) (h:properT t=true):∀ a ∈ rowsT t,properT a=true:=by
 unfold rowsT
 split
 ·exact proper_kids t h
 ·intro a ha; simp at ha; subst ha; exact h
theorem proper_items (t:Tr) (h:properT t=true):∀ a ∈ itemsT t,properT a=true:=by
 unfold itemsT
 split
 ·exact proper_kids t h
 ·intro a ha; simp at ha; subst ha; exact h
def QP (st:Mk):Prop:=∀ x ∈ st.queue,properT x.1=true
theorem QP.sym {st:Mk} (h:QP st) (rs:List Rl) (ts:List ByteArray) (t:Tr) (rule:Nat) (ht:properT t=true):QP (symF rs ts st t rule).1:=by
 unfold symF
 split
 ·exact h
 ·split
  ·exact h
  ·split
   ·exact h
   ·intro x hx
    simp only [List.mem_append,List.mem_cons,List.not_mem_nil,or_false] at hx
    rcases hx with hx | hx
    ·exact h x hx
    ·subst hx; exact ht
theorem QP.row (rs:List Rl) (ts:List ByteArray) (rule:Nat):∀ (l:List Tr) (st:Mk) (out:List Int),QP st→(∀ a ∈ l,properT a=true)→QP (rowF rs ts rule st l out).1
 | [],st,out,h,_=>by rw [rowF]; exact h
 | a::l,st,out,h,hl=>by
  rw [rowF]
  split
  ·exact h
  ·exact QP.row rs ts rule l _ _ (h.sym rs ts a rule (hl a (by simp))) (fun b hb=>hl b (by simp [hb]))
theorem QP.add {st:Mk} (h:QP st) (left:Nat) (right:List Int):QP (addF st left right):=by
 unfold addF
 split <;> exact h
theorem QP.each (rs:List Rl) (ts:List ByteArray) (mode left rule:Nat):∀ (l:List Tr) (st:Mk),QP st→(∀ a ∈ l,properT a=true)→QP (eachF rs ts mode left rule st l)
 | [],st,h,_=>by rw [eachF]; exact h
 | a::l,st,h,hl=>by
  rw [eachF]
  have h1:=QP.row rs ts rule (itemsT a) st [] h (proper_items a (hl a (by simp)))
  refine QP.each rs ts mode left rule l _ ?_ (fun b hb=>hl b (by simp [hb]))
  split
  ·exact h1.add _ _
  ·split
   ·exact h1.add _ _
   ·exact (h1.add _ _).add _ _
theorem kid0_proper (t:Tr) (h:properT t=true):properT (kid0 t)=true:=by
 unfold kid0
 cases hk:t.kids[0]? with
 | none=>exact h
 | some a=>exact proper_kids t h a (List.mem_of_getElem? hk)
theorem QP.produce {st:Mk} (h:QP st) (rs:List Rl) (ts:List ByteArray) (left:Nat) (rule:Bool):QP (produceF rs ts st left rule):=by
 unfold produceF
 split
 ·exact h
 ·rename_i t k he
  have ht:=h _ (List.mem_of_getElem? he)
  split
  ·exact QP.each rs ts 0 left k _ _ h (proper_rows t ht)
  ·split
   ·exact (QP.each rs ts 0 left k _ _ h (proper_rows _ (kid0_proper t ht))).add _ _
   ·split
    ·exact QP.each rs ts 1 left k _ _ (h.add _ _) (proper_rows _ (kid0_proper t ht))
    ·split
     ·exact QP.each rs ts 2 left k _ _ h (proper_rows _ (kid0_proper t ht))
     ·exact h
theorem properRs_mem:∀ (rs:List Rl) (r:Rl),properRs rs=true→r ∈ rs→goodN r.name=true∧properT r.body=true
 | [],_,_,h=>by simp at h
 | b::l,a,hp,h=>by
  rw [properRs,Bool.and_eq_true] at hp
  rcases List.mem_cons.1 h with rfl | h
  ·have:=hp.1
   rw [properR,Bool.and_eq_true] at this
   exact this
  ·exact properRs_mem l a hp.2 h
theorem QP.init {rs:List Rl} (h:properRs rs=true) (n:Nat) (m:Bool):QP { init0 rs rs.length n with many:=m }:=by
 intro x hx
 simp only [init0,List.mem_map,List.mem_range] at hx
 obtain ⟨j,hj,rfl⟩:=hx
 have:rlAt rs j=rs[j]:=by unfold rlAt; rw [List.getElem?_eq_getElem hj]; rfl
 rw [this]
 exact (properRs_mem rs _ h (List.getElem_mem hj)).2
theorem good_size (s:ByteArray) (h:goodN s=true):s.size≤32:=by
 unfold goodN at h
 simp only [Bool.and_eq_true] at h
 exact of_decide_eq_true h.2.1
theorem MkP.init {rs:List Rl} {ts:List ByteArray} (h:properRs rs=true) (hn:rs.length≤1000000) (ht:ts.length≤1000000) (s:Nat) (m:Bool):MkP ⟨rs,ts,ts,s,rs.length,rs.length⟩ { init0 rs rs.length rs.length with many:=m } where
 nm:=fun i r hr=>by
  have hlt:=(List.getElem?_eq_some_iff.1 hr).1
  have:rlAt rs i=r:=by unfold rlAt; rw [hr]; rfl
  simp [init0,List.getElem?_map,List.getElem?_range hlt,this]
 cl:=by simp [init0]
 cs:=fun c hc=>by simp [init0] at hc; omega
 ql:=by simp [init0]
 nl:=by simp [init0]; exact hn
 pl:=by simp [init0]
 qr:=fun x hx=>by
  simp only [init0,List.mem_map,List.mem_range] at hx
  obtain ⟨j,hj,rfl⟩:=hx
  exact hj
 rn:=fun i r hr=>Nat.le_trans (good_size _ (properRs_mem rs r h (List.mem_of_getElem? hr)).1) (by omega)
 tl:=ht
 rl:=hn
 nk:=rfl
 tm:=rfl
end Go.Proofs.YtmenpmbgennhoaaGreatDoor
