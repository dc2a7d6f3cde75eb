/- plain's maker in memory: rows of things that hold slices; frames; a generic append. plain's maker: what it makes, and the maker in memory. plain's maker: a name, a production, a thing to be made more. plain's rows and items of a node; a production is added. -/
import Derived.Test.YtmenpmbgennhoaaGreatDoorTer
namespace Go.Proofs.YtmenpmbgennhoaaGreatDoor
open Go.RowKit
def gridC {α:Type} (f:α→Value→List Value):List α→List Value→List Value
 | t::ts,s::ss=>f t s++gridC f ts ss
 | _,_=>[]
section
variable {α:Type} {f:α→Value→List Value} {n:Nat}
theorem grid_len (hf:∀ t s,(f t s).length=n):∀ (ts:List α) (ss:List Value),ss.length=ts.length→(gridC f ts ss).length=ts.length*n
 | [],[],_=>by simp [gridC]
 | t::ts,s::ss,h=>by
  have:=grid_len hf ts ss (by simpa using h)
  rw [gridC,List.length_append,this,hf,List.length_cons,Nat.succ_mul]
  omega
 | [],s::ss,h=>by simp at h
 | t::ts,[],h=>by simp at h
theorem grid_app:∀ (ts:List α) (ss:List Value) (t:α) (s:Value),ss.length=ts.length→gridC f (ts++[t]) (ss++[s])=gridC f ts ss++f t s
 | [],[],t,s,_=>by simp [gridC]
 | t0::ts,s0::ss,t,s,h=>by
  have:=grid_app ts ss t s (by simpa using h)
  simp [gridC,this]
 | [],s0::ss,_,_,h=>by simp at h
 | t0::ts,[],_,_,h=>by simp at h
theorem grid_get (hf:∀ t s,(f t s).length=n):∀ (ts:List α) (ss:List Value) (i:Nat) (t:α) (s:Value),ts[i]?=some t→ss[i]?=some s→∀ j,j < n→(gridC f ts ss)[i*n+j]?=(f t s)[j]?
 | t0::ts,s0::ss,0,t,s,h1,h2,j,hj=>by
  simp at h1 h2
  subst h1 h2
  rw [gridC,Nat.zero_mul,Nat.zero_add,List.getElem?_append_left (by rw [hf]; exact hj)]
 | t0::ts,s0::ss,i+1,t,s,h1,h2,j,hj=>by
  simp at h1 h2
  have:=grid_get hf ts ss i t s h1 h2 j hj
  rw [gridC,show (i+1)*n+j=n+(i*n+j) by rw [Nat.succ_mul]; omega,List.getElem?_append_right (by rw [hf]; omega),hf]
  rw [Nat.add_sub_cancel_left]
  exact this
 | [],_,_,_,_,h1,_,_,_=>by simp at h1
 | t0::ts,[],_,_,_,_,h2,_,_=>by simp at h2
end
structure Fr (A:Nat→Prop) (w:World) (A':Nat→Prop) (w':World):Prop where
 os:w'.os=w.os
 tape:w'.tape=w.tape
 output:w'.output=w.output
 size:w.heap.size≤w'.heap.size
 blk:∀ k,k < w.heap.size→¬ A k→w'.heap[k]?=w.heap[k]?
 new:∀ k,A' k→A k∨w.heap.size≤k
theorem Fr.refl (A:Nat→Prop) (w:World):Fr A w A w:=⟨rfl,rfl,rfl,Nat.le_refl _,fun _ _ _=>rfl,fun _ h=> .inl h⟩
theorem Fr.trans {A B C:Nat→Prop} {w w' w'':World} (h:Fr A w B w') (k:Fr B w' C w''):Fr A w C w'':=
 ⟨k.os.trans h.os,k.tape.trans h.tape,k.output.trans h.output,Nat.le_trans h.size k.size,
  fun i h1 h2=>(k.blk i (Nat.lt_of_lt_of_le h1 h.size) (fun e=>(h.new i e).elim h2 (fun e=>by omega))).trans (h.blk i h1 h2),
  fun i h1=>(k.new i h1).elim (h.new i) (fun e=> .inr (Nat.le_trans h.size e))⟩
theorem Fr.of {A:Nat→Prop} {w w':World} (h:Below w.heap.size w w'):Fr A w A w':=⟨h.os,h.tape,h.output,h.size,fun k h1 _=>h.block k h1,fun _ h=> .inl h⟩
theorem Fr.blw {A A':Nat→Prop} {w w':World} {Z:Nat} (h:Fr A w A' w') (hZ:∀ k,A k→Z≤k) (hs:Z≤w.heap.size):Below Z w w':=
 ⟨h.os,h.tape,h.output,h.size,fun k hk=>h.blk k (by omega) (fun e=>by have:=hZ k e; omega)⟩
theorem Fr.grown {A A':Nat→Prop} {w w':World} {r:Option Nat} (hg:w.grownBy w' r) (hr:∀ k,r=some k→A k) (hn:∀ k,A' k→A k∨w.heap.size≤k):Fr A w A' w':=
 ⟨hg.os,hg.tape,hg.output,hg.size,fun k h1 h2=>hg.block k h1 (fun e=>h2 (hr k e.symm)),hn⟩
theorem Fr.onl {A:Nat→Prop} {w w':World} {B:Nat} (h:Onl B w w') (hB:A B):Fr A w A w':=Fr.grown h (fun k e=>by cases e; exact hB) (fun _ h=> .inl h)
theorem Fr.to {A A':Nat→Prop} {w w':World} (h:Fr A w A w') (hn:∀ k,A' k→A k∨w.heap.size≤k):Fr A w A' w':=⟨h.os,h.tape,h.output,h.size,h.blk,hn⟩
theorem wp_app_gen {P:Program} {T e size bytes:Nat} {z:Value} (hu:P.underlying T=some (.slice e)) (hinfo:(P.info? e).map (fun i=>(i.zero,i.size,i.bytes))=some (some z,size,bytes)) (hzs:z.cells.size=size) (hpos:0 < size) (hby:bytes≤1000)
  {o:Oper} {a:Act} {w:World} {K:Act→World→Prop} {Q:Exit→Act→World→Prop} (s x:Operand) (ho:o.op= .call { callee:= .builtin .append,args:=#[s,x],argTypes:=#[T,T] })
  (N:Nat) (v:Value) (n:Nat) (xs news:List Value) (hlen:news.length=size) (h1:∀ u ∈ news,u.oneCell'=true) (hs:a.eval s=v) (hown:w.ownsRow N e size v n xs) (g:Nat) (hx:a.eval x= .slice (some ⟨g,0,none⟩) 1 1)
  (hg:w.heap[g]?=some (.cells news.toArray e (0,0))) (hn:n≤1000000000) (hN:N≤w.heap.size)
  (h:∀ g' c w',w'.ownsRow N e size (.slice (some ⟨g',0,none⟩) (n+1) c) (n+1) (xs++news)→w.grownBy w' v.ownBlock→(v.ownBlock=some g'∨g'=w.heap.size)→K (a.put o.dst (.slice (some ⟨g',0,none⟩) (n+1) c)) w'):o.wp P a w K Q:=by
 obtain ⟨i0,hi,hz0,hz1,hz2⟩:=info_parts hinfo
 refine wp_append_lies (P:=P) w s x _ ho N e i0 _ size bytes hu hi hz0 hz1 hz2 hzs hpos v n xs hs hown ⟨g,0,none⟩ 1 1 news hx (by omega) (fun j u hj=> ?_) h1 (by decide) (by simp [maxLen]; omega) ?_ hN _ rfl (fun g' c w' h2 h3 h4 _=>h g' c w' h2 h3 h4)
 ·have:w.cell? ⟨g,j,none⟩=news.toArray[j]?:=by simp [World.cell?,hg]
  rw [Addr.add_lit,Nat.zero_add,this]
  simpa using hj
 ·have:(n+1)*bytes≤1000000001*1000:=Nat.mul_le_mul (by omega) hby
  omega
theorem wpList_app_gen {P:Program} {T e size bytes:Nat} {z:Value} (hu:P.underlying T=some (.slice e)) (hinfo:(P.info? e).map (fun i=>(i.zero,i.size,i.bytes))=some (some z,size,bytes)) (hzs:z.cells.size=size) (hpos:0 < size) (hby:bytes≤1000)
  {ops:Array Oper} {rest:List Oper} {o:Oper} {a:Act} {w:World} {Q:Exit→Act→World→Prop} (hgd:o.guard=none) (s x:Operand) (ho:o.op= .call { callee:= .builtin .append,args:=#[s,x],argTypes:=#[T,T] })
  (N:Nat) (v:Value) (n:Nat) (xs news:List Value) (hlen:news.length=size) (h1:∀ u ∈ news,u.oneCell'=true) (w1:World) (hw:w=w1.alloc (.cells news.toArray e)) (hs:a.eval s=v) (hown:w1.ownsRow N e size v n xs) (hx:a.eval x= .slice (some ⟨w1.heap.size,0,none⟩) 1 1)
  (hn:n≤1000000000) (hN:N≤w1.heap.size)
  (h:∀ g' c w',w'.ownsRow N e size (.slice (some ⟨g',0,none⟩) (n+1) c) (n+1) (xs++news)→w1.grownBy w' v.ownBlock→(v.ownBlock=some g'∨w1.heap.size≤g')→wpList P ops Q rest (a.put o.dst (.slice (some ⟨g',0,none⟩) (n+1) c)) w'):wpList P ops Q (o::rest) a w:=by
 subst hw
 refine wpList_plain hgd fun _ hK=> ?_
 refine wp_app_gen hu hinfo hzs hpos hby s x ho N v n xs news hlen h1 hs (ownsRow_sm hown fun g hg=>Go.heap_alloc_old w1 _ (hown.lt g hg).2) w1.heap.size hx (heap_alloc_new w1 _) hn (by simp; omega) ?_
 intro g' c w' h2 h3 h4
 refine hK _ _ (h g' c w' h2 ((World.grownBy_alloc w1 _ v.ownBlock).trans h3) ?_)
 rcases h4 with h4 | h4
 ·exact .inl h4
 ·simp at h4; exact .inr (by omega)
theorem wp_build_gen {P:Program} {T e size bytes:Nat} {z:Value} (hu:P.underlying T=some (.slice e)) (hinfo:(P.info? e).map (fun i=>(i.zero,i.size,i.bytes))=some (some z,size,bytes)) (hpos:0 < size) (hsm:size≤100) (cs:List Value) (u:Value)
  (hf:Instr.fill (fun i=>some (i*size,size)) ((Array.range (1*size)).map (z.cells[· % z.cells.size]!)) [(0,u)]=some cs.toArray)
  {o:Oper} {a:Act} {w:World} {K:Act→World→Prop} {Q:Exit→Act→World→Prop} (x:Operand) (ho:o.op= .buildSlice T 1 #[(0,x)]) (hx:a.eval x=u)
  (h:K (a.put o.dst (.slice (some ⟨w.heap.size,0,none⟩) 1 1)) (w.alloc (.cells cs.toArray e))):o.wp P a w K Q:=by
 obtain ⟨i0,hi,hz0,hz1,hz2⟩:=info_parts hinfo
 exact wp_build1 _ _ x ho _ hx _ i0 _ size hu hi hz0 hz1 (by rw [Nat.one_mul]; omega) (by rw [Nat.one_mul]; omega) hf h
theorem prodRow:(Tryz.prog.info? 39).map (fun i=>(i.zero,i.size,i.bytes))=some (some (.agg #[.int .i64 0,.slice none 0 0]),2,32):=by kernel_rfl
theorem madeRow:(Tryz.prog.info? 72).map (fun i=>(i.zero,i.size,i.bytes))=some (some (.agg #[.int .i64 0,.string ⟨#[]⟩,.slice none 0 0,.int .i64 0]),4,56):=by kernel_rfl
theorem intRow:(Tryz.prog.info? 3).map (fun i=>(i.zero,i.size,i.bytes))=some (some (.int .i64 0),1,8):=by kernel_rfl
theorem fill2d (v1 v2:Value):Instr.fill (fun i=>some (i*2,2)) ((Array.range (1*2)).map ((Value.agg #[.int .i64 0,.slice none 0 0]).cells[· % (Value.agg #[.int .i64 0,.slice none 0 0]).cells.size]!)) [(0,.agg #[v1,v2])]=some [v1,v2].toArray:=by
 have h:((Array.range (1*2)).map ((Value.agg #[.int .i64 0,.slice none 0 0]).cells[· % (Value.agg #[.int .i64 0,.slice none 0 0]).cells.size]!))=#[.int .i64 0,.slice none 0 0]:=by kernel_rfl
 rw [h]
 simp [Instr.fill,Value.cells]
theorem fill4m (v1 v2 v3 v4:Value):Instr.fill (fun i=>some (i*4,4)) ((Array.range (1*4)).map ((Value.agg #[.int .i64 0,.string ⟨#[]⟩,.slice none 0 0,.int .i64 0]).cells[· % (Value.agg #[.int .i64 0,.string ⟨#[]⟩,.slice none 0 0,.int .i64 0]).cells.size]!)) [(0,.agg #[v1,v2,v3,v4])]=some [v1,v2,v3,v4].toArray:=by
 have h:((Array.range (1*4)).map ((Value.agg #[.int .i64 0,.string ⟨#[]⟩,.slice none 0 0,.int .i64 0]).cells[· % (Value.agg #[.int .i64 0,.string ⟨#[]⟩,.slice none 0 0,.int .i64 0]).cells.size]!))=#[.int .i64 0,.string ⟨#[]⟩,.slice none 0 0,.int .i64 0]:=by kernel_rfl
 rw [h]
 simp [Instr.fill,Value.cells]
theorem fill1i (v:Int):Instr.fill (fun i=>some (i*1,1)) ((Array.range (1*1)).map ((Value.int .i64 0).cells[· % (Value.int .i64 0).cells.size]!)) [(0,.int .i64 v)]=some [.int .i64 v].toArray:=by
 have h:((Array.range (1*1)).map ((Value.int .i64 0).cells[· % (Value.int .i64 0).cells.size]!))=#[.int .i64 0]:=by kernel_rfl
 rw [h]
 simp [Instr.fill,Value.cells]
end Go.Proofs.YtmenpmbgennhoaaGreatDoor

namespace Go.Proofs.YtmenpmbgennhoaaGreatDoor
open Go.RowKit
structure Pd where
 left:Nat
 right:List Int
structure Mk where
 names:List ByteArray
 prods:List Pd
 queue:List (Tr × Nat)
 count:List Nat
 many:Bool
def fwdN (rs:List Rl):Nat→ByteArray→Option Nat
 | 0,_=>none
 | k+1,s=>if s=(rlAt rs k).name then some k else fwdN rs k s
def fwdT (ts:List ByteArray):Nat→ByteArray→Option Nat
 | 0,_=>none
 | k+1,s=>if s=(ts[k]?.getD ⟨#[]⟩) then some k else fwdT ts k s
def natV (f:ByteArray→Option Nat):ByteArray→Option Value:=fun s=>(f s).map (fun i=>Value.int .i64 (i:Nat))
theorem natV_get (f:ByteArray→Option Nat) (s:ByteArray):(natV f s).getD (.int .i64 0)= .int .i64 ((f s).getD 0:Nat):=by
 unfold natV
 cases f s <;> rfl
def dotName (x:ByteArray) (c:Nat):ByteArray:=(x++⟨#[46]⟩)++⟨(Lib.itoa (c:Int)).toArray⟩
def symF (rs:List Rl) (ts:List ByteArray) (st:Mk) (t:Tr) (rule:Nat):Mk × Int:=
 if t.kind=1 then (st,((fwdN rs rs.length t.text).getD 0:Nat))
 else if t.kind=2 then (st, -1 - (((fwdT ts ts.length t.text).getD 0:Nat):Int))
 else if 256≤st.names.length then ({ st with many:=true },0)
 else ({ st with count:=st.count.set rule ((st.count[rule]?.getD 0)+1),names:=st.names++[dotName (rlAt rs rule).name ((st.count[rule]?.getD 0)+1)],queue:=st.queue++[(t,rule)] },(st.names.length:Int))
def rowF (rs:List Rl) (ts:List ByteArray) (rule:Nat):Mk→List Tr→List Int→Mk × List Int
 | st,[],out=>(st,out)
 | st,x::l,out=>if 16 < out.length∨st.many=true then ({ st with many:=true },out) else rowF rs ts rule (symF rs ts st x rule).1 l (out++[(symF rs ts st x rule).2])
def addF (st:Mk) (left:Nat) (right:List Int):Mk:=if 256≤st.prods.length∨16 < right.length then { st with many:=true } else { st with prods:=st.prods++[⟨left,right⟩] }
def rowsT (t:Tr):List Tr:=if t.kind=4 then t.kids else [t]
def itemsT (t:Tr):List Tr:=if t.kind=3 then t.kids else [t]
def eachF (rs:List Rl) (ts:List ByteArray) (mode left rule:Nat):Mk→List Tr→Mk
 | st,[]=>st
 | st,r::l=>
  let x:=rowF rs ts rule st (itemsT r) []
  eachF rs ts mode left rule (if mode=0 then addF x.1 left x.2 else if mode=1 then addF x.1 left (x.2++[(left:Int)]) else addF (addF x.1 left x.2) left (x.2++[(left:Int)])) l
def kid0 (t:Tr):Tr:=(t.kids[0]?).getD t
def produceF (rs:List Rl) (ts:List ByteArray) (st:Mk) (left:Nat) (rule:Bool):Mk:=
 match st.queue[left]? with
 | none=>st
 | some (t,k)=>
  if rule=true∨t.kind=3∨t.kind=4 then eachF rs ts 0 left k st (rowsT t)
  else if t.kind=5 then addF (eachF rs ts 0 left k st (rowsT (kid0 t))) left []
  else if t.kind=6 then eachF rs ts 1 left k (addF st left []) (rowsT (kid0 t))
  else if t.kind=7 then eachF rs ts 2 left k st (rowsT (kid0 t))
  else st
structure MV where
 n:Value
 t:Value
 p:Value
 q:Value
 bn:Nat
 bt:Nat
 bc:Nat
def MkA (M:Nat) (V:MV) (k:Nat):Prop:=k=M∨k=V.bn∨k=V.bt∨k=V.bc∨V.n.ownBlock=some k∨V.t.ownBlock=some k∨V.p.ownBlock=some k∨V.q.ownBlock=some k
def prodC (p:Pd) (s:Value):List Value:=[.int .i64 (p.left:Nat),s]
def madeC (x:Tr × Nat) (s:Value):List Value:=[.int .i64 (x.1.kind:Nat),.string x.1.text,s,.int .i64 (x.2:Nat)]
def IntsAt (S:Nat→Prop) (w:World) (v:Value) (l:List Int):Prop:=SlAt S w v l.length (l.map (Value.int .i64))
def cntC (l:List Nat):Array Value:=(l.map (fun c=>Value.int .i64 (c:Nat))).toArray
def mkCells (start rules:Nat) (V:MV) (n:Nat) (many:Bool):Array Value:=#[.int .i64 (start:Nat),.int .i64 (rules:Nat),V.n,V.t,V.p,.map (some V.bn),.map (some V.bt),V.q,.slice (some ⟨V.bc,0,none⟩) n n,.bool many]
structure MkG where
 rs:List Rl
 ts:List ByteArray
 tm:List ByteArray
 start:Nat
 rl:Nat
 nk:Nat
structure MkS (Z M L:Nat) (G:MkG) (V:MV) (st:Mk) (w:World):Prop where
 cells:w.heap[M]?=some (.cells (mkCells G.start G.rl V st.count.length st.many) 70 (0,0))
 names:StrsO Z w V.n st.names
 terms:StrsO Z w V.t G.ts
 prods:∃ ss:List Value,ss.length=st.prods.length∧w.ownsRow Z 39 2 V.p st.prods.length (gridC prodC st.prods ss)∧∀ (i:Nat) p s,st.prods[i]?=some p→ss[i]?=some s→IntsAt (fun k=>Z≤k∧k < L∧¬ MkA M V k) w s p.right
 queue:∃ ss:List Value,ss.length=st.queue.length∧w.ownsRow Z 72 4 V.q st.queue.length (gridC madeC st.queue ss)∧∀ (i:Nat) x s,st.queue[i]?=some x→ss[i]?=some s→TrAt (fun k=>k < Z) w x.1 s
 count:w.heap[V.bc]?=some (.cells (cntC st.count) 3 (0,0))
 mn:MpS w V.bn (natV (fwdN G.rs G.nk))
 mt:MpS w V.bt (natV (fwdT G.tm G.tm.length))
 zm:Z≤M
 zn:Z≤V.bn
 zt:Z≤V.bt
 zc:Z≤V.bc
 apart:∀ k,V.n.ownBlock=some k→V.t.ownBlock≠some k
 maps:V.bn≠V.bt
 zl:Z≤L
structure MkP (G:MkG) (st:Mk):Prop where
 nm:∀ (i:Nat) r,G.rs[i]?=some r→st.names[i]?=some r.name
 cl:st.count.length=G.rs.length
 cs:∀ c ∈ st.count,c≤st.names.length
 ql:st.queue.length=st.names.length
 nl:st.names.length≤1000000
 pl:st.prods.length≤256
 qr:∀ x ∈ st.queue,x.2 < G.rs.length
 rn:∀ (i:Nat) r,G.rs[i]?=some r→r.name.size≤65536
 tl:G.ts.length≤1000000
 rl:G.rs.length≤1000000
 nk:G.nk=G.rs.length
 tm:G.tm=G.ts
theorem row_ne {N e size n g t:Nat} {v:Value} {xs:List Value} {w:World} {cs:Array Value} (h:w.ownsRow N e size v n xs) (hg:v.ownBlock=some g) (hM:w.heap[g]?=some (.cells cs t (0,0))) (hne:e≠t):False:=by
 rcases h.2 with ⟨rfl,_⟩ | ⟨g1,cap,cur,rfl,_,h1,_⟩
 ·cases hg
 ·cases hg
  rw [h1] at hM
  cases hM
  exact hne rfl
section
variable {Z M L:Nat} {G:MkG} {V V':MV} {st st':Mk} {w w':World}
theorem MkS.ge (h:MkS Z M L G V st w) {k:Nat} (hk:MkA M V k):Z≤k:=by
 obtain ⟨ss,_,hp,_⟩:=h.prods
 obtain ⟨ss',_,hq,_⟩:=h.queue
 rcases hk with rfl | rfl | rfl | rfl | e | e | e | e
 ·exact h.zm
 ·exact h.zn
 ·exact h.zt
 ·exact h.zc
 ·exact (h.names.lt k e).1
 ·exact (h.terms.lt k e).1
 ·exact (hp.lt k e).1
 ·exact (hq.lt k e).1
theorem MkS.lt (h:MkS Z M L G V st w) {k:Nat} (hk:MkA M V k):k < w.heap.size:=by
 obtain ⟨ss,_,hp,_⟩:=h.prods
 obtain ⟨ss',_,hq,_⟩:=h.queue
 rcases hk with rfl | rfl | rfl | rfl | e | e | e | e
 ·exact (Array.getElem?_eq_some_iff.1 h.cells).1
 ·exact h.mn.lt
 ·exact h.mt.lt
 ·exact (Array.getElem?_eq_some_iff.1 h.count).1
 ·exact (h.names.lt k e).2
 ·exact (h.terms.lt k e).2
 ·exact (hp.lt k e).2
 ·exact (hq.lt k e).2
theorem MkS.zs (h:MkS Z M L G V st w):Z < w.heap.size:=Nat.lt_of_le_of_lt h.zm (h.lt (.inl rfl))
theorem MkS.keep (h:MkS Z M L G V st w) (hs:w.heap.size≤w'.heap.size) (hk:∀ k,k < w.heap.size→(MkA M V k∨k < L)→w'.heap[k]?=w.heap[k]?):MkS Z M L G V st w':=by
 have hA:∀ k,MkA M V k→w'.heap[k]?=w.heap[k]?:=fun k e=>hk k (h.lt e) (.inl e)
 obtain ⟨ss,p1,p2,p3⟩:=h.prods
 obtain ⟨qs,q1,q2,q3⟩:=h.queue
 have hzl:=h.zl
 refine { h with cells:=(hA _ (.inl rfl)).trans h.cells,names:= ?_,terms:= ?_,prods:=⟨ss,p1,?_,fun i p s e1 e2=>(p3 i p s e1 e2).keep hs fun k r1 r2=>⟨hk k r2 (.inr r1.2.1),r1⟩⟩,queue:=⟨qs,q1,?_,fun i x s e1 e2=>(q3 i x s e1 e2).keep hs fun k r1 r2=>⟨hk k r2 (.inr (Nat.lt_of_lt_of_le r1 hzl)),r1⟩⟩,count:=(hA _ (.inr (.inr (.inr (.inl rfl))))).trans h.count,mn:=h.mn.keep (hA _ (.inr (.inl rfl))),mt:=h.mt.keep (hA _ (.inr (.inr (.inl rfl)))) }
 ·exact h.names.keep fun g _ _ e=>hA g (.inr (.inr (.inr (.inr (.inl e)))))
 ·exact h.terms.keep fun g _ _ e=>hA g (.inr (.inr (.inr (.inr (.inr (.inl e))))))
 ·exact ownsRow_sm p2 fun g e=>hA g (.inr (.inr (.inr (.inr (.inr (.inr (.inl e)))))))
 ·exact ownsRow_sm q2 fun g e=>hA g (.inr (.inr (.inr (.inr (.inr (.inr (.inr e)))))))
theorem MkS.blw (h:MkS Z M L G V st w) (hb:Below w.heap.size w w'):MkS Z M L G V st w':=h.keep hb.size fun k h1 _=>hb.block k h1
theorem MkS.up {L':Nat} (h:MkS Z M L G V st w) (hL:L≤L'):MkS Z M L' G V st w:=by
 obtain ⟨ss,p1,p2,p3⟩:=h.prods
 exact { h with prods:=⟨ss,p1,p2,fun i p s e1 e2=>(p3 i p s e1 e2).keep (Nat.le_refl _) fun k r1 r2=>⟨rfl,r1.1,Nat.lt_of_lt_of_le r1.2.1 hL,r1.2.2⟩⟩,zl:=Nat.le_trans h.zl hL }
theorem MkS.setMany (h:MkS Z M L G V st w) (hr:w'.heap[M]?=some (.cells (mkCells G.start G.rl V st.count.length true) 70 (0,0))) (ho:Onl M w w'):MkS Z M L G V { st with many:=true } w':=by
 obtain ⟨ss,p1,p2,p3⟩:=h.prods
 obtain ⟨qs,q1,q2,q3⟩:=h.queue
 have hM:=h.cells
 have hb:∀ k,k < w.heap.size→k≠M→w'.heap[k]?=w.heap[k]?:=fun k h1 h2=>ho.block k h1 (fun e=>h2 (by injection e))
 have ne:∀ {k:Nat} {e:Nat} {cur:Array Value},w.heap[k]?=some (.cells cur e (0,0))→e≠70→k≠M:=fun h1 h2 e=>by
  subst e; rw [hM] at h1; cases h1; exact h2 rfl
 have hz:=h.zm
 refine { h with cells:=hr,names:= ?_,terms:= ?_,prods:=⟨ss,p1,?_,fun i p s e1 e2=>(p3 i p s e1 e2).keep ho.size fun k r1 r2=>⟨hb k r2 (fun e=>r1.2.2 (.inl e)),r1⟩⟩,queue:=⟨qs,q1,?_,fun i x s e1 e2=>(q3 i x s e1 e2).keep ho.size fun k r1 r2=>⟨hb k r2 (by omega),r1⟩⟩,count:=(hb _ (h.lt (.inr (.inr (.inr (.inl rfl))))) (ne h.count (by decide))).trans h.count,mn:=h.mn.keep (hb _ h.mn.lt ?_),mt:=h.mt.keep (hb _ h.mt.lt ?_) }
 ·exact h.names.keep fun g _ h2 e=>hb g h2 (fun e'=>by subst e'; exact row_ne h.names e hM (by decide))
 ·exact h.terms.keep fun g _ h2 e=>hb g h2 (fun e'=>by subst e'; exact row_ne h.terms e hM (by decide))
 ·exact ownsRow_sm p2 fun g e=>hb g (p2.lt g e).2 (fun e'=>by subst e'; exact row_ne p2 e hM (by decide))
 ·exact ownsRow_sm q2 fun g e=>hb g (q2.lt g e).2 (fun e'=>by subst e'; exact row_ne q2 e hM (by decide))
 ·intro e; obtain ⟨es,c,hb',_⟩:=h.mn; rw [e,hM] at hb'; cases hb'
 ·intro e; obtain ⟨es,c,hb',_⟩:=h.mt; rw [e,hM] at hb'; cases hb'
end
end Go.Proofs.YtmenpmbgennhoaaGreatDoor

namespace Go.Proofs.YtmenpmbgennhoaaGreatDoor
open Go.RowKit
section
variable {Z M L:Nat} {G:MkG} {V V':MV} {st st':Mk} {w w':World}
theorem MkS.neM (h:MkS Z M L G V st w) {k e:Nat} {cur:Array Value} (h1:w.heap[k]?=some (.cells cur e (0,0))) (h2:e≠70):k≠M:=fun e'=>by
 subst e'
 rw [h.cells] at h1
 cases h1
 exact h2 rfl
theorem MkS.bnM (h:MkS Z M L G V st w):V.bn≠M:=fun e=>by
 obtain ⟨es,c,hb',_⟩:=h.mn
 rw [e,h.cells] at hb'
 cases hb'
theorem MkS.btM (h:MkS Z M L G V st w):V.bt≠M:=fun e=>by
 obtain ⟨es,c,hb',_⟩:=h.mt
 rw [e,h.cells] at hb'
 cases hb'
theorem MkS.setCount (h:MkS Z M L G V st w) (cs:List Nat) (hl:cs.length=st.count.length) (hr:w'.heap[V.bc]?=some (.cells (cntC cs) 3 (0,0))) (ho:Onl V.bc w w'):MkS Z M L G V { st with count:=cs } w':=by
 obtain ⟨ss,p1,p2,p3⟩:=h.prods
 obtain ⟨qs,q1,q2,q3⟩:=h.queue
 have hC:=h.count
 have hb:∀ k,k < w.heap.size→k≠V.bc→w'.heap[k]?=w.heap[k]?:=fun k h1 h2=>ho.block k h1 (fun e=>h2 (by injection e))
 have hz:=h.zc
 refine { h with cells:= ?_,names:= ?_,terms:= ?_,prods:=⟨ss,p1,?_,fun i p s e1 e2=>(p3 i p s e1 e2).keep ho.size fun k r1 r2=>⟨hb k r2 (fun e=>r1.2.2 (.inr (.inr (.inr (.inl e))))),r1⟩⟩,queue:=⟨qs,q1,?_,fun i x s e1 e2=>(q3 i x s e1 e2).keep ho.size fun k r1 r2=>⟨hb k r2 (by omega),r1⟩⟩,count:=hr,mn:=h.mn.keep (hb _ h.mn.lt ?_),mt:=h.mt.keep (hb _ h.mt.lt ?_) }
 ·rw [hl]
  exact (hb M (h.lt (.inl rfl)) (fun e=>h.neM hC (by decide) e.symm)).trans h.cells
 ·exact h.names.keep fun g _ h2 e=>hb g h2 (fun e'=>by subst e'; exact row_ne h.names e hC (by decide))
 ·exact h.terms.keep fun g _ h2 e=>hb g h2 (fun e'=>by subst e'; exact row_ne h.terms e hC (by decide))
 ·exact ownsRow_sm p2 fun g e=>hb g (p2.lt g e).2 (fun e'=>by subst e'; exact row_ne p2 e hC (by decide))
 ·exact ownsRow_sm q2 fun g e=>hb g (q2.lt g e).2 (fun e'=>by subst e'; exact row_ne q2 e hC (by decide))
 ·intro e; obtain ⟨es,c,hb',_⟩:=h.mn; rw [e,hC] at hb'; cases hb'
 ·intro e; obtain ⟨es,c,hb',_⟩:=h.mt; rw [e,hC] at hb'; cases hb'
theorem MkS.setNames (h:MkS Z M L G V st w) (l:List ByteArray) (v:Value) (g':Nat) (hg':v.ownBlock=some g') (hv:StrsO Z w' v l) (hat:V.n.ownBlock=some g'∨w.heap.size≤g') (hs:w.heap.size≤w'.heap.size)
  (hb:∀ k,k < w.heap.size→k≠M→V.n.ownBlock≠some k→w'.heap[k]?=w.heap[k]?) (hr:w'.heap[M]?=some (.cells (mkCells G.start G.rl { V with n:=v } st.count.length st.many) 70 (0,0))) :
  MkS Z M L G { V with n:=v } { st with names:=l } w'∧∀ k,MkA M { V with n:=v } k→MkA M V k∨w.heap.size≤k:=by
 obtain ⟨ss,p1,p2,p3⟩:=h.prods
 obtain ⟨qs,q1,q2,q3⟩:=h.queue
 have hn:=h.names
 have hM:=h.cells
 have hz:=h.zm
 have hA:∀ k,MkA M { V with n:=v } k→MkA M V k∨w.heap.size≤k:=by
  intro k hk
  rcases hk with e | e | e | e | e | e | e | e
  ·exact .inl (.inl e)
  ·exact .inl (.inr (.inl e))
  ·exact .inl (.inr (.inr (.inl e)))
  ·exact .inl (.inr (.inr (.inr (.inl e))))
  ·rw [hg'] at e
   injection e with e
   subst e
   rcases hat with h1 | h1
   ·exact .inl (.inr (.inr (.inr (.inr (.inl h1)))))
   ·exact .inr h1
  ·exact .inl (.inr (.inr (.inr (.inr (.inr (.inl e))))))
  ·exact .inl (.inr (.inr (.inr (.inr (.inr (.inr (.inl e)))))))
  ·exact .inl (.inr (.inr (.inr (.inr (.inr (.inr (.inr e)))))))
 refine ⟨{ h with cells:=hr,names:=hv,terms:= ?_,prods:=⟨ss,p1,?_,fun i p s e1 e2=>(p3 i p s e1 e2).keep hs fun k r1 r2=>⟨hb k r2 (fun e=>r1.2.2 (.inl e)) (fun e=>r1.2.2 (.inr (.inr (.inr (.inr (.inl e)))))),r1.1,r1.2.1,fun e=>(hA k e).elim r1.2.2 (fun e=>by omega)⟩⟩,queue:=⟨qs,q1,?_,fun i x s e1 e2=>(q3 i x s e1 e2).keep hs fun k r1 r2=>⟨hb k r2 (by omega) (fun e=>by have:=(hn.lt k e).1; omega),r1⟩⟩,count:=(hb _ (h.lt (.inr (.inr (.inr (.inl rfl))))) (h.neM h.count (by decide)) (fun e=>row_ne hn e h.count (by decide))).trans h.count,mn:=h.mn.keep (hb _ h.mn.lt h.bnM (hn.nomap h.mn)),mt:=h.mt.keep (hb _ h.mt.lt h.btM (hn.nomap h.mt)),apart:= ?_ },hA⟩
 ·exact h.terms.keep fun g _ h2 e=>hb g h2 (fun e'=>by subst e'; exact row_ne h.terms e hM (by decide)) (fun e'=>h.apart g e' e)
 ·exact ownsRow_sm p2 fun g e=>hb g (p2.lt g e).2 (fun e'=>by subst e'; exact row_ne p2 e hM (by decide)) (ownsRow_apart p2 hn (by decide) e)
 ·exact ownsRow_sm q2 fun g e=>hb g (q2.lt g e).2 (fun e'=>by subst e'; exact row_ne q2 e hM (by decide)) (ownsRow_apart q2 hn (by decide) e)
 ·intro k e e'
  rw [hg'] at e
  injection e with e
  subst e
  rcases hat with h1 | h1
  ·exact h.apart _ h1 e'
  ·have:=(h.terms.lt _ e').2
   omega
theorem MkS.addProd (h:MkS Z M L G V st w) (p:Pd) (s v:Value) (ss:List Value) (g':Nat) (hg':v.ownBlock=some g') (hl:ss.length=st.prods.length) (hold:∀ (i:Nat) p s,st.prods[i]?=some p→ss[i]?=some s→IntsAt (fun k=>Z≤k∧k < L∧¬ MkA M V k) w s p.right)
  (hpo:∀ g,V.p.ownBlock=some g→∃ cur,w.heap[g]?=some (.cells cur 39 (0,0)))
  (hp:IntsAt (fun k=>Z≤k∧k < L∧¬ MkA M V k) w s p.right)
  (hv:w'.ownsRow Z 39 2 v (st.prods.length+1) (gridC prodC st.prods ss++prodC p s)) (hat:V.p.ownBlock=some g'∨w.heap.size≤g') (hs:w.heap.size≤w'.heap.size) (hge:∀ g,V.p.ownBlock=some g→Z≤g)
  (hb:∀ k,k < w.heap.size→k≠M→V.p.ownBlock≠some k→w'.heap[k]?=w.heap[k]?) (hr:w'.heap[M]?=some (.cells (mkCells G.start G.rl { V with p:=v } st.count.length st.many) 70 (0,0))) :
  MkS Z M L G { V with p:=v } { st with prods:=st.prods++[p] } w'∧∀ k,MkA M { V with p:=v } k→MkA M V k∨w.heap.size≤k:=by
 obtain ⟨qs,q1,q2,q3⟩:=h.queue
 have hM:=h.cells
 have hz:=h.zm
 have hA:∀ k,MkA M { V with p:=v } k→MkA M V k∨w.heap.size≤k:=by
  intro k hk
  rcases hk with e | e | e | e | e | e | e | e
  ·exact .inl (.inl e)
  ·exact .inl (.inr (.inl e))
  ·exact .inl (.inr (.inr (.inl e)))
  ·exact .inl (.inr (.inr (.inr (.inl e))))
  ·exact .inl (.inr (.inr (.inr (.inr (.inl e)))))
  ·exact .inl (.inr (.inr (.inr (.inr (.inr (.inl e))))))
  ·rw [hg'] at e
   injection e with e
   subst e
   rcases hat with h1 | h1
   ·exact .inl (.inr (.inr (.inr (.inr (.inr (.inr (.inl h1)))))))
   ·exact .inr h1
  ·exact .inl (.inr (.inr (.inr (.inr (.inr (.inr (.inr e)))))))
 have far:∀ {k e:Nat} {cur:Array Value},w.heap[k]?=some (.cells cur e (0,0))→e≠39→V.p.ownBlock≠some k:=fun h1 h2 e=>by
  obtain ⟨cur',h3⟩:=hpo _ e
  rw [h3] at h1
  cases h1
  exact h2 rfl
 have farm:∀ {b:Nat} {f:ByteArray→Option Value},MpS w b f→V.p.ownBlock≠some b:=fun h1 e=>by
  obtain ⟨cur',h3⟩:=hpo _ e
  obtain ⟨es,c,hb',_⟩:=h1
  rw [h3] at hb'
  cases hb'
 have rowfar:∀ {N e n size:Nat} {u:Value} {xs:List Value},w.ownsRow N e size u n xs→e≠39→e≠70→w'.ownsRow N e size u n xs:=fun {N e n size u xs} hu h1 h2=>ownsRow_sm hu fun g e'=>hb g (hu.lt g e').2 (fun e''=>by subst e''; exact row_ne hu e' hM h2) (fun e''=>by
  obtain ⟨cur',h3⟩:=hpo _ e''
  exact row_ne hu e' h3 h1)
 have keepR:∀ {s:Value} {r:List Int},IntsAt (fun k=>Z≤k∧k < L∧¬ MkA M V k) w s r→IntsAt (fun k=>Z≤k∧k < L∧¬ MkA M { V with p:=v } k) w' s r:=fun h1=>h1.keep hs fun k r1 r2=>
  ⟨hb k r2 (fun e=>r1.2.2 (.inl e)) (fun e=>r1.2.2 (.inr (.inr (.inr (.inr (.inr (.inr (.inl e)))))))),r1.1,r1.2.1,fun e=>(hA k e).elim r1.2.2 (fun e=>by omega)⟩
 refine ⟨{ h with cells:=hr,names:=rowfar h.names (by decide) (by decide),terms:=rowfar h.terms (by decide) (by decide),prods:=⟨ss++[s],by simp [hl],by rw [grid_app _ _ _ _ hl,List.length_append]; exact hv,fun i p' s' e1 e2=> ?_⟩,queue:=⟨qs,q1,rowfar q2 (by decide) (by decide),fun i x s e1 e2=>(q3 i x s e1 e2).keep hs fun k r1 r2=>⟨hb k r2 (by omega) (fun e=>by have:=hge k e; omega),r1⟩⟩,count:=(hb _ (h.lt (.inr (.inr (.inr (.inl rfl))))) (h.neM h.count (by decide)) (far h.count (by decide))).trans h.count,mn:=h.mn.keep (hb _ h.mn.lt h.bnM (farm h.mn)),mt:=h.mt.keep (hb _ h.mt.lt h.btM (farm h.mt)) },hA⟩
 by_cases hi:i < st.prods.length
 ·rw [List.getElem?_append_left hi] at e1
  rw [List.getElem?_append_left (by rw [hl]; exact hi)] at e2
  exact keepR (hold i p' s' e1 e2)
 ·rw [List.getElem?_append_right (by omega)] at e1
  rw [List.getElem?_append_right (by rw [hl]; omega)] at e2
  rw [hl] at e2
  match hj:i - st.prods.length with
  | 0=>
   rw [hj] at e1 e2
   simp at e1 e2
   subst e1 e2
   exact keepR hp
  | j+1=>rw [hj] at e1; simp at e1
theorem MkS.addQueue (h:MkS Z M L G V st w) (x:Tr × Nat) (s v:Value) (ss:List Value) (g':Nat) (hg':v.ownBlock=some g') (hl:ss.length=st.queue.length) (hold:∀ (i:Nat) x s,st.queue[i]?=some x→ss[i]?=some s→TrAt (fun k=>k < Z) w x.1 s)
  (hpo:∀ g,V.q.ownBlock=some g→∃ cur,w.heap[g]?=some (.cells cur 72 (0,0)))
  (hp:TrAt (fun k=>k < Z) w x.1 s)
  (hv:w'.ownsRow Z 72 4 v (st.queue.length+1) (gridC madeC st.queue ss++madeC x s)) (hat:V.q.ownBlock=some g'∨w.heap.size≤g') (hs:w.heap.size≤w'.heap.size) (hge:∀ g,V.q.ownBlock=some g→Z≤g)
  (hb:∀ k,k < w.heap.size→k≠M→V.q.ownBlock≠some k→w'.heap[k]?=w.heap[k]?) (hr:w'.heap[M]?=some (.cells (mkCells G.start G.rl { V with q:=v } st.count.length st.many) 70 (0,0))) :
  MkS Z M L G { V with q:=v } { st with queue:=st.queue++[x] } w'∧∀ k,MkA M { V with q:=v } k→MkA M V k∨w.heap.size≤k:=by
 obtain ⟨ps,p1,p2,p3⟩:=h.prods
 have hM:=h.cells
 have hz:=h.zm
 have hA:∀ k,MkA M { V with q:=v } k→MkA M V k∨w.heap.size≤k:=by
  intro k hk
  rcases hk with e | e | e | e | e | e | e | e
  ·exact .inl (.inl e)
  ·exact .inl (.inr (.inl e))
  ·exact .inl (.inr (.inr (.inl e)))
  ·exact .inl (.inr (.inr (.inr (.inl e))))
  ·exact .inl (.inr (.inr (.inr (.inr (.inl e)))))
  ·exact .inl (.inr (.inr (.inr (.inr (.inr (.inl e))))))
  ·exact .inl (.inr (.inr (.inr (.inr (.inr (.inr (.inl e)))))))
  ·rw [hg'] at e
   injection e with e
   subst e
   rcases hat with h1 | h1
   ·exact .inl (.inr (.inr (.inr (.inr (.inr (.inr (.inr h1)))))))
   ·exact .inr h1
 have far:∀ {k e:Nat} {cur:Array Value},w.heap[k]?=some (.cells cur e (0,0))→e≠72→V.q.ownBlock≠some k:=fun h1 h2 e=>by
  obtain ⟨cur',h3⟩:=hpo _ e
  rw [h3] at h1
  cases h1
  exact h2 rfl
 have farm:∀ {b:Nat} {f:ByteArray→Option Value},MpS w b f→V.q.ownBlock≠some b:=fun h1 e=>by
  obtain ⟨cur',h3⟩:=hpo _ e
  obtain ⟨es,c,hb',_⟩:=h1
  rw [h3] at hb'
  cases hb'
 have rowfar:∀ {N e n size:Nat} {u:Value} {xs:List Value},w.ownsRow N e size u n xs→e≠72→e≠70→w'.ownsRow N e size u n xs:=fun {N e n size u xs} hu h1 h2=>ownsRow_sm hu fun g e'=>hb g (hu.lt g e').2 (fun e''=>by subst e''; exact row_ne hu e' hM h2) (fun e''=>by
  obtain ⟨cur',h3⟩:=hpo _ e''
  exact row_ne hu e' h3 h1)
 have keepT:∀ {s:Value} {r:Tr},TrAt (fun k=>k < Z) w r s→TrAt (fun k=>k < Z) w' r s:=fun h1=>h1.keep hs fun k r1 r2=>⟨hb k r2 (by omega) (fun e=>by have:=hge k e; omega),r1⟩
 refine ⟨{ h with cells:=hr,names:=rowfar h.names (by decide) (by decide),terms:=rowfar h.terms (by decide) (by decide),queue:=⟨ss++[s],by simp [hl],by rw [grid_app _ _ _ _ hl,List.length_append]; exact hv,fun i x' s' e1 e2=> ?_⟩,prods:=⟨ps,p1,rowfar p2 (by decide) (by decide),fun i p s e1 e2=>(p3 i p s e1 e2).keep hs fun k r1 r2=>⟨hb k r2 (fun e=>r1.2.2 (.inl e)) (fun e=>r1.2.2 (.inr (.inr (.inr (.inr (.inr (.inr (.inr e)))))))),r1.1,r1.2.1,fun e=>(hA k e).elim r1.2.2 (fun e=>by omega)⟩⟩,count:=(hb _ (h.lt (.inr (.inr (.inr (.inl rfl))))) (h.neM h.count (by decide)) (far h.count (by decide))).trans h.count,mn:=h.mn.keep (hb _ h.mn.lt h.bnM (farm h.mn)),mt:=h.mt.keep (hb _ h.mt.lt h.btM (farm h.mt)) },hA⟩
 by_cases hi:i < st.queue.length
 ·rw [List.getElem?_append_left hi] at e1
  rw [List.getElem?_append_left (by rw [hl]; exact hi)] at e2
  exact keepT (hold i x' s' e1 e2)
 ·rw [List.getElem?_append_right (by omega)] at e1
  rw [List.getElem?_append_right (by rw [hl]; omega)] at e2
  rw [hl] at e2
  match hj:i - st.queue.length with
  | 0=>
   rw [hj] at e1 e2
   simp at e1 e2
   subst e1 e2
   exact keepT hp
  | j+1=>rw [hj] at e1; simp at e1
end
end Go.Proofs.YtmenpmbgennhoaaGreatDoor

namespace Go.Proofs.YtmenpmbgennhoaaGreatDoor
open Go.RowKit
def KidsIn (S S':Nat→Prop) (w:World) (ts:List Tr) (v:Value):Prop:=∃ ss:List Value,ss.length=ts.length∧SlAt S w v ts.length (nodesC ts ss)∧∀ (i:Nat) t s,ts[i]?=some t→ss[i]?=some s→TrAt S' w t s
theorem TrAt.kidsIn {S:Nat→Prop} {w:World} {t:Tr} {s:Value} (h:TrAt S w t s):KidsIn S S w t.kids s:=by
 cases h with
 | mk k x ks v ss hl h1 h2=>exact ⟨ss,hl,h1,h2⟩
theorem KidsIn.keep {S S' T T':Nat→Prop} {w w':World} {ts:List Tr} {v:Value} (h:KidsIn S T w ts v) (hs:w.heap.size≤w'.heap.size) (hk:∀ g,S g→g < w.heap.size→w'.heap[g]?=w.heap[g]?∧S' g) (hk':∀ g,T g→g < w.heap.size→w'.heap[g]?=w.heap[g]?∧T' g):KidsIn S' T' w' ts v:=by
 obtain ⟨ss,h1,h2,h3⟩:=h
 exact ⟨ss,h1,h2.keep hs hk,fun i t s e1 e2=>(h3 i t s e1 e2).keep hs hk'⟩
theorem KidsIn.form {S T:Nat→Prop} {w:World} {ts:List Tr} {v:Value} (h:KidsIn S T w ts v):∃ p c,v= .slice p ts.length c:=by
 obtain ⟨ss,h1,h2,h3⟩:=h
 exact h2.form
theorem KidsIn.one {S T:Nat→Prop} {w:World} {t:Tr} {s:Value} (h:TrAt T w t s) {g:Nat} (hg:S g) (hw:w.heap[g]?=some (.cells (nodeC t s).toArray 57 (0,0))):KidsIn S T w [t] (.slice (some ⟨g,0,none⟩) 1 1):=by
 refine ⟨[s],rfl,.inr ⟨g,0,1,rfl,hg,(Array.getElem?_eq_some_iff.1 hw).1,by simp [maxLen],fun j u hu=> ?_⟩,fun i t' s' e1 e2=> ?_⟩
 ·rw [Nat.zero_add]
  have:w.cell? ⟨g,j,none⟩=(nodeC t s).toArray[j]?:=by simp [World.cell?,hw]
  rw [this]
  simpa [nodesC] using hu
 ·match i,e1,e2 with
  | 0,e1,e2=>simp at e1 e2; subst e1 e2; exact h
set_option maxRecDepth 100000 in
set_option maxHeartbeats 1600000 in
theorem rows_any (S:Nat→Prop) (w:World) {t:Tr} {s:Value} (h:TrAt S w t s) :
  Calls Tryz.prog 51 #[nodeV t s] w fun e w'=>∃ v,e= .returned v∧KidsIn (fun k=>(S k∧k < w.heap.size)∨w.heap.size≤k) (fun k=>S k∧k < w.heap.size) w' (rowsT t) v∧Below w.heap.size w w':=by
 obtain ⟨p,c,rfl⟩:=h.form
 unfold nodeV rowsT
 obtain ⟨Z,hZ⟩:∃ Z,w.heap.size=Z:=⟨_,rfl⟩
 have hB1:Below Z w (w.alloc (.cells #[.int .i64 (t.kind:Nat),.string t.text,.slice p t.kids.length c] 57)):=by rw [← hZ]; exact (Below.refl _ w).alloc (Nat.le_refl _) _
 have hs1:(w.alloc (.cells #[.int .i64 (t.kind:Nat),.string t.text,.slice p t.kids.length c] 57)).heap.size=Z+1:=by simp; omega
 have hc1:=heap_alloc_new w (.cells #[.int .i64 (t.kind:Nat),.string t.text,.slice p t.kids.length c] 57)
 rw [hZ] at hc1
 have hH:=Hid.mk h
 clear h
 by_cases hk:t.kind=4
 ·rw [if_pos hk]
  have k4:((t.kind:Int)==4)=true:=by simp; omega
  clear hk
  go_enter Tryz.func51,Tryz.ntmps51
  go_upto_region 1 with (fail)
  generalize w.alloc (.cells #[.int .i64 (t.kind:Nat),.string t.text,.slice p t.kids.length c] 57)=w1 at*
  have d0:w1.cell? ⟨Z,0,none⟩=some (.int .i64 (t.kind:Nat)):=by simp [World.cell?,hc1]
  have d2:w1.cell? ⟨Z,2,none⟩=some (.slice p t.kids.length c):=by simp [World.cell?,hc1]
  have hBH:=Hid.mk hB1
  have hZH:=Hid.mk hZ
  clear hB1 hc1 hs1 hZ
  go_wp2_with (fail)
  go_ret
  have hB:=hBH.out
  have hz:=hZH.out
  subst hz
  exact ⟨_,rfl,hH.out.kidsIn.keep hB.size (fun g h1 h2=>⟨hB.block g h2,.inl ⟨h1,h2⟩⟩) (fun g h1 h2=>⟨hB.block g h2,h1,h2⟩),hB⟩
 ·rw [if_neg hk]
  have k4:((t.kind:Int)==4)=false:=beq_ne (by omega)
  clear hk
  go_enter Tryz.func51,Tryz.ntmps51
  go_upto_region 1 with (fail)
  generalize w.alloc (.cells #[.int .i64 (t.kind:Nat),.string t.text,.slice p t.kids.length c] 57)=w1 at*
  have d0:w1.cell? ⟨Z,0,none⟩=some (.int .i64 (t.kind:Nat)):=by simp [World.cell?,hc1]
  have d1:w1.cell? ⟨Z,1,none⟩=some (.string t.text):=by simp [World.cell?,hc1]
  have d2:w1.cell? ⟨Z,2,none⟩=some (.slice p t.kids.length c):=by simp [World.cell?,hc1]
  have hc2:=Hid.mk (heap_alloc_new w1 (.cells (nodeC t (.slice p t.kids.length c)).toArray 57))
  have hB2:=Hid.mk (hB1.alloc (by omega) (.cells (nodeC t (.slice p t.kids.length c)).toArray 57))
  have hs1H:=Hid.mk hs1
  have hZH:=Hid.mk hZ
  clear hB1 hc1 hs1 hZ
  go_wp2_with (refine wpList_build_node rfl _ rfl _ _ _ rfl ?_)
  go_ret
  have hB:=hB2.out
  have hz:=hZH.out
  subst hz
  exact ⟨_,rfl,KidsIn.one (hH.out.keep hB.size fun g h1 h2=>⟨hB.block g h2,h1,h2⟩) (.inr (by have:=hs1H.out; omega)) hc2.out,hB⟩
set_option maxRecDepth 100000 in
set_option maxHeartbeats 1600000 in
theorem items_any (S:Nat→Prop) (w:World) {t:Tr} {s:Value} (h:TrAt S w t s) :
  Calls Tryz.prog 83 #[nodeV t s] w fun e w'=>∃ v,e= .returned v∧KidsIn (fun k=>(S k∧k < w.heap.size)∨w.heap.size≤k) (fun k=>S k∧k < w.heap.size) w' (itemsT t) v∧Below w.heap.size w w':=by
 obtain ⟨p,c,rfl⟩:=h.form
 unfold nodeV itemsT
 obtain ⟨Z,hZ⟩:∃ Z,w.heap.size=Z:=⟨_,rfl⟩
 have hB1:Below Z w (w.alloc (.cells #[.int .i64 (t.kind:Nat),.string t.text,.slice p t.kids.length c] 57)):=by rw [← hZ]; exact (Below.refl _ w).alloc (Nat.le_refl _) _
 have hs1:(w.alloc (.cells #[.int .i64 (t.kind:Nat),.string t.text,.slice p t.kids.length c] 57)).heap.size=Z+1:=by simp; omega
 have hc1:=heap_alloc_new w (.cells #[.int .i64 (t.kind:Nat),.string t.text,.slice p t.kids.length c] 57)
 rw [hZ] at hc1
 have hH:=Hid.mk h
 clear h
 by_cases hk:t.kind=3
 ·rw [if_pos hk]
  have k4:((t.kind:Int)==3)=true:=by simp; omega
  clear hk
  go_enter Tryz.func83,Tryz.ntmps83
  go_upto_region 1 with (fail)
  generalize w.alloc (.cells #[.int .i64 (t.kind:Nat),.string t.text,.slice p t.kids.length c] 57)=w1 at*
  have d0:w1.cell? ⟨Z,0,none⟩=some (.int .i64 (t.kind:Nat)):=by simp [World.cell?,hc1]
  have d2:w1.cell? ⟨Z,2,none⟩=some (.slice p t.kids.length c):=by simp [World.cell?,hc1]
  have hBH:=Hid.mk hB1
  have hZH:=Hid.mk hZ
  clear hB1 hc1 hs1 hZ
  go_wp2_with (fail)
  go_ret
  have hB:=hBH.out
  have hz:=hZH.out
  subst hz
  exact ⟨_,rfl,hH.out.kidsIn.keep hB.size (fun g h1 h2=>⟨hB.block g h2,.inl ⟨h1,h2⟩⟩) (fun g h1 h2=>⟨hB.block g h2,h1,h2⟩),hB⟩
 ·rw [if_neg hk]
  have k4:((t.kind:Int)==3)=false:=beq_ne (by omega)
  clear hk
  go_enter Tryz.func83,Tryz.ntmps83
  go_upto_region 1 with (fail)
  generalize w.alloc (.cells #[.int .i64 (t.kind:Nat),.string t.text,.slice p t.kids.length c] 57)=w1 at*
  have d0:w1.cell? ⟨Z,0,none⟩=some (.int .i64 (t.kind:Nat)):=by simp [World.cell?,hc1]
  have d1:w1.cell? ⟨Z,1,none⟩=some (.string t.text):=by simp [World.cell?,hc1]
  have d2:w1.cell? ⟨Z,2,none⟩=some (.slice p t.kids.length c):=by simp [World.cell?,hc1]
  have hc2:=Hid.mk (heap_alloc_new w1 (.cells (nodeC t (.slice p t.kids.length c)).toArray 57))
  have hB2:=Hid.mk (hB1.alloc (by omega) (.cells (nodeC t (.slice p t.kids.length c)).toArray 57))
  have hs1H:=Hid.mk hs1
  have hZH:=Hid.mk hZ
  clear hB1 hc1 hs1 hZ
  go_wp2_with (refine wpList_build_node rfl _ rfl _ _ _ rfl ?_)
  go_ret
  have hB:=hB2.out
  have hz:=hZH.out
  subst hz
  exact ⟨_,rfl,KidsIn.one (hH.out.keep hB.size fun g h1 h2=>⟨hB.block g h2,h1,h2⟩) (.inr (by have:=hs1H.out; omega)) hc2.out,hB⟩
theorem ownsRow_cells {N e n size:Nat} {w:World} {v:Value} {xs:List Value} (h:w.ownsRow N e size v n xs):∀ g,v.ownBlock=some g→∃ cur,w.heap[g]?=some (.cells cur e (0,0)):=by
 intro g hg
 rcases h.2 with ⟨rfl,_⟩ | ⟨g1,cap,cur,rfl,_,h1,_⟩
 ·cases hg
 ·cases hg
  exact ⟨cur,h1⟩
section
variable {Z M L:Nat} {G:MkG} {V V':MV} {st st':Mk} {w w':World}
theorem MkS.c2 (h:MkS Z M L G V st w):w.cell? ⟨M,2,none⟩=some V.n:=by simp [World.cell?,h.cells,mkCells]
theorem MkS.c4 (h:MkS Z M L G V st w):w.cell? ⟨M,4,none⟩=some V.p:=by simp [World.cell?,h.cells,mkCells]
theorem MkS.c5 (h:MkS Z M L G V st w):w.cell? ⟨M,5,none⟩=some (.map (some V.bn)):=by simp [World.cell?,h.cells,mkCells]
theorem MkS.c6 (h:MkS Z M L G V st w):w.cell? ⟨M,6,none⟩=some (.map (some V.bt)):=by simp [World.cell?,h.cells,mkCells]
theorem MkS.c7 (h:MkS Z M L G V st w):w.cell? ⟨M,7,none⟩=some V.q:=by simp [World.cell?,h.cells,mkCells]
theorem MkS.c8 (h:MkS Z M L G V st w):w.cell? ⟨M,8,none⟩=some (.slice (some ⟨V.bc,0,none⟩) st.count.length st.count.length):=by simp [World.cell?,h.cells,mkCells]
theorem MkS.c9 (h:MkS Z M L G V st w):w.cell? ⟨M,9,none⟩=some (.bool st.many):=by simp [World.cell?,h.cells,mkCells]
theorem MkS.fz (h:MkS Z M L G V st w) (i:Nat):w.frozen? ⟨M,i,none⟩=false:=by simp [World.frozen?,h.cells]
end
def MkQ (Z M:Nat) (L:World→Nat) (G:MkG) (V:MV) (st:Mk) (w w':World):Prop:=∃ V',MkS Z M (L w') G V' st w'∧Fr (MkA M V) w (MkA M V') w'
set_option maxRecDepth 100000 in
set_option maxHeartbeats 1600000 in
theorem add_any (Z M L:Nat) (G:MkG) (V:MV) (st:Mk) (left:Nat) (right:List Int) (v:Value) (w:World) (h:MkS Z M L G V st w) (hp:MkP G st) (hr:IntsAt (fun k=>Z≤k∧k < L∧¬ MkA M V k) w v right) :
  Calls Tryz.prog 52 #[.pointer (some ⟨M,0,none⟩),.int .i64 (left:Nat),v] w fun e w'=>e= .returned (.tuple #[])∧MkQ Z M (fun _=>L) G V (addF st left right) w w':=by
 obtain ⟨pr,cr,rfl⟩:=hr.form
 obtain ⟨ps,p1,p2,p3⟩:=h.prods
 obtain ⟨pp,cp,hpv⟩:=ownsRow_form p2
 have hpl:=hp.pl
 have c4:=h.c4
 have f4:=h.fz 4
 have f9:=h.fz 9
 have c9:=h.c9
 rw [hpv] at c4
 have hH:=Hid.mk h
 have hrH:=Hid.mk hr
 have p2H:=Hid.mk p2
 have p3H:=Hid.mk p3
 have hpvH:=Hid.mk hpv
 have p1H:=Hid.mk p1
 clear h hp hr p2 p3 hpv p1
 obtain ⟨R,hR⟩:∃ R,addF st left right=R:=⟨_,rfl⟩
 rw [hR]
 unfold addF at hR
 have hmanyQ:∀ st2,st2={ st with many:=true }→MkQ Z M (fun _=>L) G V st2 w (w.setCell ⟨M,9,none⟩ (.bool true)):=fun st2 e=>by
  subst e
  refine ⟨V,hH.out.setMany ?_ ((Onl.refl M w).setCell rfl _),Fr.onl ((Onl.refl M w).setCell rfl _) (.inl rfl)⟩
  exact (row_set hH.out.cells).trans (by simp [mkCells])
 have hmanyH:=Hid.mk hmanyQ
 clear hmanyQ
 by_cases h256:256≤st.prods.length
 ·rw [if_pos (.inl h256)] at hR
  have hi:(256:Int)≤(st.prods.length:Int):=by omega
  clear h256 hpl
  go_enter Tryz.func52,Tryz.ntmps52
  go_wp2_with (fail)
  refine bodyPost_ret (results_none rfl _ _ _) rfl ?_
  exact ⟨rfl,hmanyH.out _ hR.symm⟩
 ·have hi:((256:Int)≤(st.prods.length:Int))=False:=eq_false (by omega)
  by_cases h16:16 < right.length
  ·rw [if_pos (.inr h16)] at hR
   have hi2:(16:Int) < (right.length:Int):=by omega
   clear h256 hpl h16
   go_enter Tryz.func52,Tryz.ntmps52
   go_wp2_with (fail)
   refine bodyPost_ret (results_none rfl _ _ _) rfl ?_
   exact ⟨rfl,hmanyH.out _ hR.symm⟩
  ·rw [if_neg (by omega)] at hR
   have hi2:((16:Int) < (right.length:Int))=False:=eq_false (by omega)
   have hplH:=Hid.mk hpl
   clear h256 hpl h16
   subst hR
   have hZw:Z≤w.heap.size:=Nat.le_of_lt hH.out.zs
   go_enter Tryz.func52,Tryz.ntmps52
   go_wp2_with (first | (refine wpList_plain rfl fun _ hK=>wp_build_gen Tryz.underlying32 prodRow (by decide) (by decide) [.int .i64 (left:Nat),.slice pr right.length cr] _ (fill2d _ _) _ rfl rfl (hK _ _ ?_)) | (at_builtin; refine wpList_app_gen Tryz.underlying32 prodRow rfl (by decide) (by decide) rfl _ _ rfl Z V.p st.prods.length _ (prodC ⟨left,right⟩ (.slice pr right.length cr)) rfl (by intro u hu; simp [prodC] at hu; rcases hu with rfl | rfl <;> rfl) w rfl hpvH.out.symm p2H.out rfl (by have:=hplH.out; omega) hZw ?_; intro g' cc w2 hv2 hg2 hat; have hM2:=(hg2.block M (hH.out.lt (.inl rfl)) (fun e=>row_ne p2H.out e.symm hH.out.cells (by decide))).trans hH.out.cells; have d4:w2.cell? ⟨M,4,none⟩=some (.slice pp st.prods.length cp):=by { rw [← hpvH.out]; simp [World.cell?,hM2,mkCells] }; have e4:w2.frozen? ⟨M,4,none⟩=false:=by simp [World.frozen?,hM2]))
   have hMg:M≠g':=fun e=>by subst e; exact row_ne hv2 rfl hM2 (by decide)
   have hadd:=hH.out.addProd (w':=w2.setCell ⟨M,4,none⟩ (.slice (some ⟨g',0,none⟩) (st.prods.length+1) cc)) ⟨left,right⟩ (.slice pr right.length cr) (.slice (some ⟨g',0,none⟩) (st.prods.length+1) cc) ps g' rfl p1H.out p3H.out (ownsRow_cells p2H.out) hrH.out
    (ownsRow_sm hv2 fun g e=>Below.heap_setCell _ _ _ _ (fun e'=>hMg (by simp [Value.ownBlock] at e; simp at e'; omega))) hat (by simpa using hg2.size) (fun g e=>(p2H.out.lt g e).1)
    (fun k h1 h2 h3=>(Below.heap_setCell _ _ _ _ (fun e=>h2 (by simpa using e))).trans (hg2.block k h1 (fun e=>h3 e.symm))) ((row_set hM2).trans (by simp [mkCells]))
   have hadd:=Hid.mk hadd
   have hfr:Fr (MkA M V) w (MkA M { V with p:= .slice (some ⟨g',0,none⟩) (st.prods.length+1) cc }) (w2.setCell ⟨M,4,none⟩ (.slice (some ⟨g',0,none⟩) (st.prods.length+1) cc)):=by
    refine (Fr.grown hg2 (fun k e=> .inr (.inr (.inr (.inr (.inr (.inr (.inl e))))))) hadd.out.2).trans (Fr.onl ((Onl.refl M _).setCell rfl _) (.inl rfl))
   have hfr:=Hid.mk hfr
   go_wp2_with (fail)
   go_end0
   exact ⟨rfl,_,hadd.out.1,hfr.out⟩
end Go.Proofs.YtmenpmbgennhoaaGreatDoor
