/- An evaluator of Go code over a small memory: its values, its memory, its quiet operations, and what these are in the model. -/
import Derived.Orders
import Derived.Tactics
import Derived.Laws.CopyRow
namespace Go.Ev
inductive T (α:Type) where
 | nil:T α
 | node (v:Option α) (l r:T α):T α
def T.get {α:Type}:T α→Nat→Option α
 | .nil,_=>none
 | .node v l r,i=>
  match i with
  | 0=>v
  | j+1=>bif Nat.beq (j % 2) 0 then l.get (j / 2) else r.get (j / 2)
def T.put {α:Type}:Nat→T α→Nat→Option α→T α
 | 0,t,_,_=>t
 | n+1,.nil,i,x=>
  match i with
  | 0=> .node x .nil .nil
  | j+1=>bif Nat.beq (j % 2) 0 then .node none (T.put n .nil (j / 2) x) .nil else .node none .nil (T.put n .nil (j / 2) x)
 | n+1,.node v l r,i,x=>
  match i with
  | 0=> .node x l r
  | j+1=>bif Nat.beq (j % 2) 0 then .node v (T.put n l (j / 2) x) r else .node v l (T.put n r (j / 2) x)
def T.set {α:Type} (t:T α) (i:Nat) (v:α):T α:=T.put (i+1) t i (some v)
theorem T.get_nil {α:Type} (i:Nat):(T.nil:T α).get i=none:=by cases i <;> rfl
theorem T.get_put {α:Type}:∀ (n:Nat) (t:T α) (i:Nat) (x:Option α) (j:Nat),i < n→(T.put n t i x).get j=if j=i then x else t.get j
 | 0,_,_,_,_,h=>absurd h (Nat.not_lt_zero _)
 | n+1,.nil,0,x,0,_=>by simp [T.put,T.get]
 | n+1,.nil,0,x,j+1,_=>by
  simp only [T.put,T.get]; cases Nat.beq (j % 2) 0 <;> simp
 | n+1,.nil,i+1,x,0,_=>by
  simp only [T.put]; cases Nat.beq (i % 2) 0 <;> simp [T.get]
 | n+1,.nil,i+1,x,j+1,h=>by
  have ih:=T.get_put n .nil (i / 2) x (j / 2) (by omega)
  by_cases hij:j=i
  ·subst hij
   simp only [T.put]; cases hb:Nat.beq (j % 2) 0 <;> simp [T.get,hb,ih]
  ·have hne:¬ j+1=i+1:=by omega
   simp only [T.put]
   cases hb:Nat.beq (i % 2) 0 <;> cases hc:Nat.beq (j % 2) 0 <;> simp [T.get,hc,ih,hij]
   ·intro h2
    have h3:=Nat.ne_of_beq_eq_false hb
    have h4:=Nat.ne_of_beq_eq_false hc
    omega
   ·intro h2
    have h3:=Nat.eq_of_beq_eq_true hb
    have h4:=Nat.eq_of_beq_eq_true hc
    omega
 | n+1,.node v l r,0,x,0,_=>by simp [T.put,T.get]
 | n+1,.node v l r,0,x,j+1,_=>by simp [T.put,T.get]
 | n+1,.node v l r,i+1,x,0,_=>by
  simp only [T.put]; cases Nat.beq (i % 2) 0 <;> simp [T.get]
 | n+1,.node v l r,i+1,x,j+1,h=>by
  have ihl:=T.get_put n l (i / 2) x (j / 2) (by omega)
  have ihr:=T.get_put n r (i / 2) x (j / 2) (by omega)
  by_cases hij:j=i
  ·subst hij
   simp only [T.put]; cases hb:Nat.beq (j % 2) 0 <;> simp [T.get,hb,ihl,ihr]
  ·simp only [T.put]
   cases hb:Nat.beq (i % 2) 0 <;> cases hc:Nat.beq (j % 2) 0 <;> simp [T.get,hc,ihl,ihr,hij]
   ·intro h2
    have h3:=Nat.ne_of_beq_eq_false hb
    have h4:=Nat.ne_of_beq_eq_false hc
    omega
   ·intro h2
    have h3:=Nat.eq_of_beq_eq_true hb
    have h4:=Nat.eq_of_beq_eq_true hc
    omega
theorem T.get_set {α:Type} (t:T α) (i:Nat) (v:α) (j:Nat):(t.set i v).get j=if j=i then some v else t.get j:=
 T.get_put _ _ _ _ _ (Nat.lt_succ_self i)
def T.lay {α:Type}:T α→Nat→List α→T α
 | t,_,[]=>t
 | t,i,v::l=>T.lay (t.set i v) (i+1) l
theorem T.get_lay {α:Type}:∀ (l:List α) (t:T α) (i j:Nat),(T.lay t i l).get j=if i≤j∧j < i+l.length then l[j - i]? else t.get j
 | [],t,i,j=>by simp [T.lay]; omega
 | v::l,t,i,j=>by
  rw [T.lay,T.get_lay l,T.get_set]
  rw [List.length_cons]
  by_cases h:j=i
  ·subst h; rw [if_neg (by omega),if_pos rfl,if_pos (by omega)]; simp
  ·by_cases h2:i≤j∧j < i+(l.length+1)
   ·rw [if_pos (by omega),if_pos h2]
    have:j - i=(j - (i+1))+1:=by omega
    rw [this]; simp
   ·rw [if_neg (by omega),if_neg h2,if_neg h]
def fnOk:Fn→Bool
 | .yield _=>false
 | _=>true
mutual
def flat:Value→Bool
 | .bool _ | .int _ _ | .float _ _ | .complex _ _ _ | .string _ | .nilFunc | .nilIface=>true
 | .pointer none | .slice none _ _ | .map none | .chan none=>true
 | .pointer (some _) | .slice (some _) _ _ | .map (some _) | .chan (some _)=>false
 | .func n f c=>fnOk n && (flatA f && flatA c)
 | .iface _ v=>flat v
 | .agg cs=>flatA cs
 | .tuple cs=>flatA cs
def flatA:Array Value→Bool
 | ⟨l⟩=>flatL l
def flatL:List Value→Bool
 | []=>true
 | v::l=>flat v && flatL l
end
theorem flatL_all:∀ (l:List Value),flatL l=true→∀ (i:Nat) (v:Value),l[i]?=some v→flat v=true
 | [],_,i,v,h=>by simp at h
 | x::l,hf,i,v,h=>by
  simp only [flatL,Bool.and_eq_true] at hf
  cases i with
  | zero=>simp at h; subst h; exact hf.1
  | succ i=>exact flatL_all l hf.2 i v (by simpa using h)
theorem flatA_all {a:Array Value} (hf:flatA a=true) {i:Nat} {v:Value} (h:a[i]?=some v):flat v=true:=by
 cases a with
 | mk l=>exact flatL_all l (by simpa [flatA] using hf) i v (by simpa using h)
structure Loc where
 block:Nat
 shift:Nat
 total:Nat
deriving Inhabited
abbrev Phi:=Nat→Loc
def openCap:Nat:=18446744073709551616
def openOf (k e:Nat):Nat:=openCap*(k+1)+e
def openK (c:Nat):Nat:=Nat.sub (Nat.div c openCap) 1
def openE (c:Nat):Nat:=Nat.mod c openCap
theorem openOf_ge (k e:Nat):openCap≤openOf k e:=by
 unfold openOf
 have:openCap*1≤openCap*(k+1):=Nat.mul_le_mul_left _ (by omega)
 omega
theorem openOf_eq {c:Nat} (h:openCap≤c):openOf (openK c) (openE c)=c:=by
 have h1:1≤c / openCap:=(Nat.le_div_iff_mul_le (by decide)).2 (by omega)
 unfold openOf openK openE
 show openCap*(c / openCap - 1+1)+c % openCap=c
 rw [Nat.sub_add_cancel h1]; exact Nat.div_add_mod _ _
theorem openE_lt (c:Nat):openE c < openCap:=Nat.mod_lt _ (by decide)
theorem openK_of {k e:Nat} (h:e < openCap):openK (openOf k e)=k:=by
 unfold openOf openK
 show (openCap*(k+1)+e) / openCap - 1=k
 rw [Nat.mul_add_div (by decide),Nat.div_eq_of_lt h]; omega
theorem openE_of {k e:Nat} (h:e < openCap):openE (openOf k e)=e:=by
 unfold openOf openE
 show (openCap*(k+1)+e) % openCap=e
 rw [Nat.mul_add_mod,Nat.mod_eq_of_lt h]
def Phi.at (φ:Phi) (b o:Nat):Addr:=⟨(φ b).block,(φ b).shift+o,none⟩
inductive VRel (G N:Nat) (φ:Phi):Value→Value→Prop
 | flat {v:Value}:flat v=true→VRel G N φ v v
 | glob {b o:Nat}:b < G→VRel G N φ (.pointer (some ⟨b,o,none⟩)) (.pointer (some ⟨b,o,none⟩))
 | ptr {b o:Nat}:G≤b→b < N→VRel G N φ (.pointer (some ⟨b,o,none⟩)) (.pointer (some (φ.at b o)))
 | slice {b o len cap:Nat}:G≤b→b < N→cap < openCap→VRel G N φ (.slice (some ⟨b,o,none⟩) len cap) (.slice (some (φ.at b o)) len cap)
 | grown {b o len cap e k:Nat}:G≤b→b < N→len≤cap→k≤cap→e < openCap→(φ b).shift+o+cap*e≤(φ b).total→
   VRel G N φ (.slice (some ⟨b,o,none⟩) len (openOf k e)) (.slice (some (φ.at b o)) len cap)
 | ended {b o e:Nat} {a:Addr}:G≤b→b < N→e < openCap→VRel G N φ (.slice (some ⟨b,o,none⟩) 0 (openOf 0 e)) (.slice (some a) 0 0)
 | yield {l:Nat}:G≤l→l < N→VRel G N φ (.func (.yield l) #[] #[]) (.func (.yield (φ l).block) #[] #[])
 | map {r:Nat}:G≤r→r < N→VRel G N φ (.map (some r)) (.map (some (φ r).block))
 | long {k:Nat} {s:ByteArray}:s.size=k / 2→(k % 2=1→∀ i,i < s.size→s.data[i]?=some 0)→VRel G N φ (.chan (some k)) (.string s)
 | func {fn:Fn} {f c f' c':Array Value}:fnOk fn=true→f.size=f'.size→c.size=c'.size→
   (∀ (i:Nat) (v v':Value),f[i]?=some v→f'[i]?=some v'→VRel G N φ v v')→
   (∀ (i:Nat) (v v':Value),c[i]?=some v→c'[i]?=some v'→VRel G N φ v v')→VRel G N φ (.func fn f c) (.func fn f' c')
 | iface {t:TypeId} {v v':Value}:VRel G N φ v v'→VRel G N φ (.iface t v) (.iface t v')
 | agg {l l':Array Value}:l.size=l'.size→
   (∀ (i:Nat) (v v':Value),l[i]?=some v→l'[i]?=some v'→VRel G N φ v v')→VRel G N φ (.agg l) (.agg l')
 | tuple {l l':Array Value}:l.size=l'.size→
   (∀ (i:Nat) (v v':Value),l[i]?=some v→l'[i]?=some v'→VRel G N φ v v')→VRel G N φ (.tuple l) (.tuple l')
def ARel (G N:Nat) (φ:Phi) (l l':Array Value):Prop:=
 l.size=l'.size∧∀ (i:Nat) (v v':Value),l[i]?=some v→l'[i]?=some v'→VRel G N φ v v'
theorem VRel.mono {G N N':Nat} {φ φ':Phi} (hN:N≤N') (h:∀ id,id < N→φ' id=φ id) {v v':Value} (hv:VRel G N φ v v'):VRel G N' φ' v v':=by
 have hat:∀ b o,b < N→φ'.at b o=φ.at b o:=fun b o hb=>by simp [Phi.at,h b hb]
 induction hv with
 | flat hf=>exact .flat hf
 | glob hb=>exact .glob hb
 | ptr hg hb=>rw [← hat _ _ hb]; exact .ptr hg (Nat.lt_of_lt_of_le hb hN)
 | slice hg hb hc=>rw [← hat _ _ hb]; exact .slice hg (Nat.lt_of_lt_of_le hb hN) hc
 | grown hg hb hl hk he ht=>rw [← hat _ _ hb]; exact .grown hg (Nat.lt_of_lt_of_le hb hN) hl hk he (by rw [h _ hb]; exact ht)
 | ended hg hb he=>exact .ended hg (Nat.lt_of_lt_of_le hb hN) he
 | yield hg hb=>rw [← h _ hb]; exact .yield hg (Nat.lt_of_lt_of_le hb hN)
 | map hg hb=>rw [← h _ hb]; exact .map hg (Nat.lt_of_lt_of_le hb hN)
 | long a b=>exact .long a b
 | func h0 h1 h2 _ _ ih1 ih2=>exact .func h0 h1 h2 ih1 ih2
 | iface _ ih=>exact .iface ih
 | agg h1 _ ih=>exact .agg h1 ih
 | tuple h1 _ ih=>exact .tuple h1 ih
theorem ARel.mono {G N N':Nat} {φ φ':Phi} (hN:N≤N') (h:∀ id,id < N→φ' id=φ id) {l l':Array Value} (hl:ARel G N φ l l'):ARel G N' φ' l l':=
 ⟨hl.1,fun i v v' h1 h2=>(hl.2 i v v' h1 h2).mono hN h⟩
theorem ARel.get {G N:Nat} {φ:Phi} {l l':Array Value} (h:ARel G N φ l l') {i:Nat} {v:Value} (hv:l[i]?=some v):∃ v',l'[i]?=some v'∧VRel G N φ v v':=by
 have hi:i < l.size:=(Array.getElem?_eq_some_iff.1 hv).1
 have hi':i < l'.size:=h.1▸hi
 exact ⟨l'[i],Array.getElem?_eq_getElem hi',h.2 i v _ hv (Array.getElem?_eq_getElem hi')⟩
theorem VRel.flat_eq {G N:Nat} {φ:Phi} {v v':Value} (hv:VRel G N φ v v'):Go.Ev.flat v=true→v'=v:=by
 have arr:∀ {l l':Array Value},l.size=l'.size→(∀ (i:Nat) (v v':Value),l[i]?=some v→l'[i]?=some v'→Go.Ev.flat v=true→v'=v)→
   flatA l=true→l'=l:=by
  intro l l' hs ih hf
  apply Array.ext_getElem?
  intro i
  by_cases hi:i < l.size
  ·have h1:=Array.getElem?_eq_getElem hi
   have h2:=Array.getElem?_eq_getElem (hs▸hi:i < l'.size)
   rw [h1,h2,ih i _ _ h1 h2 (flatA_all hf h1)]
  ·rw [Array.getElem?_eq_none (by omega),Array.getElem?_eq_none (by omega)]
 induction hv with
 | flat _=>exact fun _=>rfl
 | glob hb=>simp [Go.Ev.flat]
 | ptr=>simp [Go.Ev.flat]
 | slice=>simp [Go.Ev.flat]
 | grown=>simp [Go.Ev.flat]
 | ended=>simp [Go.Ev.flat]
 | map=>simp [Go.Ev.flat]
 | long=>simp [Go.Ev.flat]
 | yield=>simp [Go.Ev.flat,fnOk]
 | func h0 h1 h2 _ _ ih1 ih2=>
  intro hf
  simp only [Go.Ev.flat,Bool.and_eq_true] at hf
  rw [arr h1 ih1 hf.2.1,arr h2 ih2 hf.2.2]
 | iface _ ih=>intro hf; simp only [Go.Ev.flat] at hf; rw [ih hf]
 | agg h1 _ ih=>intro hf; simp only [Go.Ev.flat] at hf; rw [arr h1 ih hf]
 | tuple h1 _ ih=>intro hf; simp only [Go.Ev.flat] at hf; rw [arr h1 ih hf]
theorem VRel.cells {G N:Nat} {φ:Phi} {v v':Value} (hv:VRel G N φ v v'):ARel G N φ v.cells v'.cells:=by
 have one:∀ {u u':Value},VRel G N φ u u'→ARel G N φ #[u] #[u']:=fun hu=>⟨rfl,fun i a a' h1 h2=>by
  cases i with
  | zero=>simp at h1 h2; subst h1; subst h2; exact hu
  | succ i=>simp at h1⟩
 cases hv with
 | flat hf=>
  refine ⟨rfl,fun i a a' h1 h2=> ?_⟩
  rw [h1] at h2; cases h2
  refine .flat ?_
  cases v with
  | agg cs=>exact flatA_all (by simpa [Go.Ev.flat,Value.cells] using hf) h1
  | _=>cases i with
   | zero=>simp [Value.cells] at h1; subst h1; exact hf
   | succ i=>simp [Value.cells] at h1
 | glob hb=>exact one (.glob hb)
 | ptr a b=>exact one (.ptr a b)
 | slice a b c=>exact one (.slice a b c)
 | grown a b c d e f=>exact one (.grown a b c d e f)
 | ended a b c=>exact one (.ended a b c)
 | yield a b=>exact one (.yield a b)
 | map a b=>exact one (.map a b)
 | long a b=>exact one (.long a b)
 | func z a b c d=>exact one (.func z a b c d)
 | iface a=>exact one (.iface a)
 | agg a b=>exact ⟨a,b⟩
 | tuple a b=>exact one (.tuple a b)
end Go.Ev
namespace Go.Ev
inductive AObj where
 | cells (c:T Value) (n:Nat) (elem:TypeId)
 | grown (c:T Value) (n:Nat) (elem:TypeId) (root:Nat)
 | map (es:List MapEntry) (clock:Nat)
 | iter (s:ByteArray) (pos:Nat)
 | walk (m since:Nat) (seen:List Nat) (last:Nat)
 | loop (tm:T Value) (nt:Nat) (ps:List Tmp) (assign body:Code) (state:LoopState) (pending:Option Code)
 | marks
 | spent
structure Fam where
 tip:Nat
 low:Nat
structure St where
 heap:T AObj
 fams:T Fam
 next:Nat
abbrev Glob:=Nat→Nat→Option Value
def CellsRel (G N:Nat) (φ:Phi) (t:T Value) (n:Nat) (c:Array Value) (shift:Nat):Prop:=
 ∀ i,i < n→∃ v v',t.get i=some v∧c[shift+i]?=some v'∧VRel G N φ v v'
def EntryRel (G N:Nat) (φ:Phi) (e e':MapEntry):Prop:=VRel G N φ e.key e'.key∧VRel G N φ e.val e'.val∧e'.born=e.born
def ObjRel (G:Nat) (φ:Phi) (st:St) (w:World) (id:Nat):AObj→Prop
 | .cells c n elem=>(φ id).shift=0∧∃ a,w.heap[(φ id).block]?=some (.cells a elem (0,0))∧a.size=n∧CellsRel G st.next φ c n a 0
 | .grown c n elem root=>
  ∃ a fz f,w.heap[(φ id).block]?=some (.cells a elem fz)∧(f.low≤id→fz.1=0∧fz.2=0∨a.size≤fz.1)∧a.size=(φ id).total∧(φ id).shift+n≤a.size∧st.fams.get root=some f∧
   id≤f.tip∧root≤id∧(f.low≤id→CellsRel G st.next φ c n a (φ id).shift)
 | .map es clock=>∃ a,w.heap[(φ id).block]?=some (.map a clock)∧a.size=es.length∧∀ (i:Nat) (e e':MapEntry),es[i]?=some e→a[i]?=some e'→EntryRel G st.next φ e e'
 | .iter s pos=>(φ id).shift=0∧w.heap[(φ id).block]?=some (.stringIter s pos)
 | .walk m since seen last=>(φ id).shift=0∧(G≤m∧m < st.next)∧w.heap[(φ id).block]?=some (.mapIter (some (φ m).block) since seen.toArray last)
 | .loop tm nt ps assign body state pending=>(φ id).shift=0∧∃ r,w.heap[(φ id).block]?=some (.loop r)∧r.state=state∧r.pending=pending∧r.params=⟨ps⟩∧r.assign=assign∧r.body=body∧
   r.tmps.size=nt∧∀ t,VRel G st.next φ ((tm.get t).getD undef) (r.tmps.getD t undef)
 | .marks=>(φ id).shift=0∧w.heap[(φ id).block]?=some (.deferred (some []))
 | .spent=>True
def AObj.root? : AObj→Option Nat
 | .grown _ _ _ r=>some r
 | _=>none
def AObj.known:AObj→Nat
 | .grown _ n _ _=>n
 | _=>0
structure R (G N0:Nat) (g:Glob) (φ:Phi) (st:St) (w:World):Prop where
 base:G≤st.next
 room:N0≤w.heap.size
 obj:∀ id o,st.heap.get id=some o→G≤id∧id < st.next∧N0≤(φ id).block∧(φ id).block < w.heap.size∧ObjRel G φ st w id o
 sep:∀ i j oi oj,st.heap.get i=some oi→st.heap.get j=some oj→(φ i).block=(φ j).block→i=j∨∃ r,oi.root?=some r∧oj.root?=some r
 tip:∀ i j oi oj r f,st.heap.get i=some oi→oi.root?=some r→st.heap.get j=some oj→oj.root?=some r→st.fams.get r=some f→j=f.tip→
  (φ i).block=(φ j).block→(φ i).shift+oi.known≤(φ j).shift+oj.known
 glob:∀ b o v,g b o=some v→b < N0∧b < G∧w.cell? ⟨b,o,none⟩=some v∧flat v=true
structure Tr (φ:Phi) (st:St) (w:World) (φ':Phi) (st':St) (w':World):Prop where
 next:st.next≤st'.next
 ext:∀ id,id < st.next→φ' id=φ id
 dom:∀ id o',id < st.next→st'.heap.get id=some o'→∃ o,st.heap.get id=some o
 new:∀ id o',st.next≤id→st'.heap.get id=some o'→w.heap.size≤(φ' id).block∨∃ j o,st.heap.get j=some o∧(φ' id).block=(φ j).block
 fr:∀ b,b < w.heap.size→(∀ id o,st.heap.get id=some o→(φ id).block≠b)→w'.heap[b]?=w.heap[b]?
 size:w.heap.size≤w'.heap.size
 os:w'.os=w.os
 tape:w'.tape=w.tape
 output:w'.output=w.output
theorem Tr.refl (φ:Phi) (st:St) (w:World):Tr φ st w φ st w:=
 ⟨Nat.le_refl _,fun _ _=>rfl,fun _ o _ h=>⟨o,h⟩,fun id o _ h=> .inr ⟨id,o,h,rfl⟩,fun _ _ _=>rfl,Nat.le_refl _,rfl,rfl,rfl⟩
theorem Tr.trans {φ φ₁ φ₂:Phi} {st st₁ st₂:St} {w w₁ w₂:World} (h:Tr φ st w φ₁ st₁ w₁) (k:Tr φ₁ st₁ w₁ φ₂ st₂ w₂):Tr φ st w φ₂ st₂ w₂ where
 next:=Nat.le_trans h.next k.next
 ext:=fun id hi=>(k.ext id (Nat.lt_of_lt_of_le hi h.next)).trans (h.ext id hi)
 dom:=fun id o hi ho=>by
  obtain ⟨o₁,h₁⟩:=k.dom id o (Nat.lt_of_lt_of_le hi h.next) ho
  exact h.dom id o₁ hi h₁
 new:=fun id o hi ho=>by
  have key:∀ j o₁,st₁.heap.get j=some o₁→w.heap.size≤(φ₁ j).block∨∃ i o,st.heap.get i=some o∧(φ₁ j).block=(φ i).block:=by
   intro j o₁ hj
   by_cases hlt:j < st.next
   ·obtain ⟨o',h'⟩:=h.dom j o₁ hlt hj
    exact .inr ⟨j,o',h',by rw [h.ext j hlt]⟩
   ·exact h.new j o₁ (by omega) hj
  by_cases hlt:id < st₁.next
  ·obtain ⟨o₁,h₁⟩:=k.dom id o hlt ho
   rw [k.ext id hlt]
   exact key id o₁ h₁
  ·rcases k.new id o (by omega) ho with h₂ | ⟨j,o₁,hj,he⟩
   ·exact .inl (Nat.le_trans h.size h₂)
   ·rw [he]; exact key j o₁ hj
 fr:=fun b hb hi=>by
  rw [k.fr b (Nat.lt_of_lt_of_le hb h.size) fun id o ho=> ?_,h.fr b hb hi]
  by_cases hlt:id < st.next
  ·obtain ⟨o',h'⟩:=h.dom id o hlt ho
   rw [h.ext id hlt]; exact hi id o' h'
  ·rcases h.new id o (by omega) ho with h₂ | ⟨j,o₁,hj,he⟩
   ·omega
   ·rw [he]; exact hi j o₁ hj
 size:=Nat.le_trans h.size k.size
 os:=k.os.trans h.os
 tape:=k.tape.trans h.tape
 output:=k.output.trans h.output
theorem Tr.drew (φ:Phi) (st:St) (w:World) (n:Nat):Tr φ st w φ st { w with drawn:=n }:=
 ⟨Nat.le_refl _,fun _ _=>rfl,fun _ o _ h=>⟨o,h⟩,fun id o _ h=> .inr ⟨id,o,h,rfl⟩,fun _ _ _=>rfl,Nat.le_refl _,rfl,rfl,rfl⟩
theorem ObjRel.congr {G:Nat} {φ φ':Phi} {st st':St} {w w':World} {id:Nat} {o:AObj} (hφ:φ' id=φ id) (hext:∀ i,i < st.next→φ' i=φ i) (hn:st.next≤st'.next)
  (hw:w'.heap[(φ id).block]?=w.heap[(φ id).block]?) (hf:∀ r,o.root?=some r→∀ f,st.fams.get r=some f→∃ f',st'.fams.get r=some f'∧f'.low=f.low∧f.tip≤f'.tip) (h:ObjRel G φ st w id o):ObjRel G φ' st' w' id o:=by
 have hc:∀ {t n a s},CellsRel G st.next φ t n a s→CellsRel G st'.next φ' t n a s:=fun h i hi=>by
  obtain ⟨v,v',h1,h2,h3⟩:=h i hi
  exact ⟨v,v',h1,h2,h3.mono hn hext⟩
 cases o with
 | cells c n elem=>
  obtain ⟨hs,a,ha,hsz,hcs⟩:=h
  exact ⟨by rw [hφ]; exact hs,a,by rw [hφ,hw]; exact ha,hsz,hc hcs⟩
 | grown c n elem root=>
  obtain ⟨a,fz,f,ha,hfz,hsz,hle,hfam,htip,hro,hcs⟩:=h
  obtain ⟨f',hfam',hlow,htp⟩:=hf root rfl f hfam
  exact ⟨a,fz,f',by rw [hφ,hw]; exact ha,fun h=>hfz (hlow▸h),by rw [hφ]; exact hsz,by rw [hφ]; exact hle,hfam',Nat.le_trans htip htp,hro,fun hl=>by rw [hφ]; exact hc (hcs (hlow▸hl))⟩
 | map es clock=>
  obtain ⟨a,ha,hsz,he⟩:=h
  refine ⟨a,by rw [hφ,hw]; exact ha,hsz,fun i e e' h1 h2=> ?_⟩
  obtain ⟨k1,k2,k3⟩:=he i e e' h1 h2
  exact ⟨k1.mono hn hext,k2.mono hn hext,k3⟩
 | iter s pos=>exact ⟨by rw [hφ]; exact h.1,by rw [hφ,hw]; exact h.2⟩
 | walk m since seen last=>exact ⟨by rw [hφ]; exact h.1,⟨h.2.1.1,Nat.lt_of_lt_of_le h.2.1.2 hn⟩,by rw [hφ,hw,hext m h.2.1.2]; exact h.2.2⟩
 | loop tm nt ps assign body state pending=>
  obtain ⟨h0,r,h1,h2,h3,h4,h5,h6,h7,h8⟩:=h
  exact ⟨by rw [hφ]; exact h0,r,by rw [hφ,hw]; exact h1,h2,h3,h4,h5,h6,h7,fun t=>(h8 t).mono hn hext⟩
 | marks=>exact ⟨by rw [hφ]; exact h.1,by rw [hφ,hw]; exact h.2⟩
 | spent=>trivial
theorem R.drew {G N0:Nat} {g:Glob} {φ:Phi} {st:St} {w:World} (h:R G N0 g φ st w) (n:Nat):R G N0 g φ st { w with drawn:=n }:=
 ⟨h.base,h.room,fun id o ho=>by
  obtain ⟨a,b,c,d,e⟩:=h.obj id o ho
  exact ⟨a,b,c,d,e.congr rfl (fun _ _=>rfl) (Nat.le_refl _) rfl fun _ _ f hf=>⟨f,hf,rfl,Nat.le_refl _⟩⟩,h.sep,h.tip,h.glob⟩
theorem R.root_lt {G N0:Nat} {g:Glob} {φ:Phi} {st:St} {w:World} (h:R G N0 g φ st w) {id:Nat} {o:AObj} {r:Nat} (ho:st.heap.get id=some o) (hr:o.root?=some r):r < st.next:=by
 obtain ⟨_,h2,_,_,h5⟩:=h.obj id o ho
 cases o with
 | grown c n e r'=>
  simp [AObj.root?] at hr; subst hr
  obtain ⟨_,_,_,_,_,_,_,_,_,h6,_⟩:=h5
  omega
 | cells=>simp [AObj.root?] at hr
 | map=>simp [AObj.root?] at hr
 | iter=>simp [AObj.root?] at hr
 | walk=>simp [AObj.root?] at hr
 | loop=>simp [AObj.root?] at hr
 | marks=>simp [AObj.root?] at hr
 | spent=>simp [AObj.root?] at hr
end Go.Ev
namespace Go.Ev
def peek {α:Type} (P:Program):Sem α→Option α
 | .pure a=>some a
 | .program k=>peek P (k P)
 | .mark _ k=>peek P k
 | _=>none
theorem peek_run {α:Type} {P:Program}:∀ {s:Sem α} {a:α},peek P s=some a→∀ w,s.run P w= .ok a w:=by
 intro s
 induction s with
 | pure a=>intro b h w; simp [peek] at h; subst h; rfl
 | program k ih=>intro b h w; exact ih P (by simpa [peek] using h) w
 | mark m k ih=>intro b h w; exact ih (by simpa [peek] using h) w
 | _=>intro b h; simp [peek] at h
def evalFlat (P:Program) (ρ:Operand→Value) (o:Oper):Option Value:=
 match o.op with
 | .select .. => none
 | op=>
  if op.operands.toList.all (fun x=>flat (ρ x)) then
   match peek P (execOp ρ o) with
   | some (.value v)=>if flat v then some v else none
   | _=>none
  else none
def OpRel (G N:Nat) (φ:Phi) (o:Oper) (ρ ρ':Operand→Value):Prop:=∀ x ∈ o.op.operands,VRel G N φ (ρ x) (ρ' x)
theorem evalFlat_sound {P:Program} {G N:Nat} {φ:Phi} {ρ ρ':Operand→Value} {o:Oper} {v:Value} (h:evalFlat P ρ o=some v) (hr:OpRel G N φ o ρ ρ') :
  VRel G N φ v v∧∀ w,(execOp ρ' o).run P w= .ok (.value v) w:=by
 have main:∀ (_:∀ cs b,o.op≠ .select cs b),(if o.op.operands.toList.all (fun x=>flat (ρ x)) then
   match peek P (execOp ρ o) with
   | some (.value v)=>if flat v then some v else none
   | _=>none
  else none)=some v→VRel G N φ v v∧∀ w,(execOp ρ' o).run P w= .ok (.value v) w:=by
  intro hs h
  split at h
  ·rename_i hall
   split at h
   ·rename_i u hp
    split at h
    ·rename_i hf
     cases h
     have he:execOp ρ' o=execOp ρ o:=execOp_congr o hs fun x hx=>
      (hr x hx).flat_eq (List.all_eq_true.1 hall x (by simpa using hx))
     exact ⟨.flat hf,fun w=>by rw [he]; exact peek_run hp w⟩
    ·cases h
   ·cases h
  ·cases h
 unfold evalFlat at h
 split at h
 ·cases h
 ·rename_i op hns
  exact main (fun cs b hc=>hns cs b hc) h
def lim:IntKind→Nat
 | .i8=>128 | .i16=>32768 | .i32=>2147483648 | .i64=>9223372036854775808
 | .u8=>256 | .u16=>65536 | .u32=>4294967296 | .u64=>18446744073709551616
def uns:IntKind→Bool
 | .u8 | .u16 | .u32 | .u64=>true
 | _=>false
def kindEq:IntKind→IntKind→Bool
 | .i8,.i8 | .i16,.i16 | .i32,.i32 | .i64,.i64 | .u8,.u8 | .u16,.u16 | .u32,.u32 | .u64,.u64=>true
 | _,_=>false
def wrapNat (k:IntKind) (z:Nat):Option Value:=
 bif Nat.blt z (lim k) then some (.int k (.ofNat z)) else bif uns k then some (.int k (.ofNat (Nat.mod z (lim k)))) else none
def subNat (k:IntKind) (x y:Nat):Option Value:=
 bif Nat.ble y x then some (.int k (.ofNat (Nat.sub x y))) else bif uns k then wrapNat k (Nat.sub (Nat.add x (lim k)) y) else
 bif Nat.ble (Nat.sub y x) (lim k) then some (.int k (.negSucc (Nat.sub (Nat.sub y x) 1))) else none
def fastNat (op:BinOp) (k:IntKind) (x y:Nat):Option Value:=
 match op with
 | .add=>wrapNat k (Nat.add x y)
 | .sub=>subNat k x y
 | .mul=>wrapNat k (Nat.mul x y)
 | .eql=>some (.bool (Nat.beq x y))
 | .neq=>some (.bool (!Nat.beq x y))
 | .lss=>some (.bool (Nat.blt x y))
 | .leq=>some (.bool (Nat.ble x y))
 | .gtr=>some (.bool (Nat.blt y x))
 | .geq=>some (.bool (Nat.ble y x))
 | .quo=>bif Nat.beq y 0 then none else wrapNat k (Nat.div x y)
 | .rem=>bif Nat.beq y 0 then none else some (.int k (.ofNat (Nat.mod x y)))
 | .and=>some (.int k (.ofNat (Nat.land x y)))
 | .or=>some (.int k (.ofNat (Nat.lor x y)))
 | .xor=>some (.int k (.ofNat (Nat.xor x y)))
 | _=>none
def fastShift (op:BinOp) (k:IntKind) (x y:Nat):Option Value:=
 match op with
 | .shl=>bif Nat.blt y 64 then wrapNat k (Nat.mul x (Nat.pow 2 y)) else none
 | .shr=>bif Nat.blt y 64 then some (.int k (.ofNat (Nat.div x (Nat.pow 2 y)))) else none
 | _=>none
def evalFast (P:Program) (ρ:Operand→Value) (op:Op):Option Value:=
 match op with
 | .binOp op _ a b _=>match ρ a,ρ b with
  | .int k (.ofNat x),.int k' (.ofNat y)=>match op with
   | .shl | .shr=>bif Nat.blt x (lim k) then fastShift op k x y else none
   | _=>bif kindEq k k' && (Nat.blt x (lim k) && Nat.blt y (lim k)) then fastNat op k x y else none
  | _,_=>none
 | .convert s d a=>match ρ a with
  | .int _ (.ofNat x)=>match P.underlying d with
   | some (.int k)=>match P.underlying s with
    | some _=>wrapNat k x
    | none=>none
   | _=>none
  | _=>none
 | _=>none
def sizeAt (P:Program) (t:TypeId):Option Nat:=(P.info? t).map (·.size)
def aggAt (P:Program) (t:TypeId):Option Bool:=
 match P.underlying t with
 | some (.struct _) | some (.array _ _)=>some true
 | some _=>some false
 | none=>none
def partAt (P:Program) (t:TypeId) (cs:Array Value) (off:Nat):Option Value:=
 match aggAt P t with
 | some true=>match sizeAt P t with
  | some n=>some (.agg (cs.extract off (off+n)))
  | none=>none
 | some false=>cs[off]?
 | none=>none
def evalField (P:Program) (t:TypeId) (x:Value) (f:Nat):Option Value:=
 match x with
 | .agg cs=>match P.underlying t with
  | some (.struct fs)=>match fs[f]? with
   | some fd=>partAt P fd.type cs fd.offset
   | none=>none
  | _=>none
 | _=>none
def evalFieldAddr (P:Program) (t:TypeId) (x:Value) (f:Nat):Option Value:=
 match x with
 | .pointer (some ⟨b,o,none⟩)=>match P.underlying t with
  | some (.struct fs)=>match fs[f]? with
   | some fd=>match sizeAt P fd.type with
    | some 0=>none
    | some (_+1)=>some (.pointer (some ⟨b,o+fd.offset,none⟩))
    | none=>none
   | none=>none
  | _=>none
 | _=>none
def evalIndexAddr (P:Program) (t:TypeId) (x ix:Value):Option Value:=
 match ix with
 | .int _ i=>match P.underlying t with
  | some (.array len elem)=>match x with
   | .pointer (some ⟨b,o,none⟩)=>if 0≤i∧i < len then match sizeAt P elem with
     | some n=>some (.pointer (some ⟨b,o+i.toNat*n,none⟩))
     | none=>none
    else none
   | _=>none
  | some (.slice elem)=>match x with
   | .slice (some ⟨b,o,none⟩) len _=>if 0≤i∧i < len then match sizeAt P elem with
     | some n=>some (.pointer (some ⟨b,o+i.toNat*n,none⟩))
     | none=>none
    else none
   | _=>none
  | _=>none
 | _=>none
def evalIndex (P:Program) (t:TypeId) (x ix:Value):Option Value:=
 match ix with
 | .int _ i=>match P.underlying t with
  | some (.array len elem)=>match x with
   | .agg cs=>if 0≤i∧i < len then match sizeAt P elem with
     | some n=>partAt P elem cs (i.toNat*n)
     | none=>none
    else none
   | _=>none
  | some .string=>match x with
   | .chan (some k)=>match i with
    | .ofNat j=>bif Nat.beq (Nat.mod k 2) 1 && Nat.blt j (Nat.div k 2) then some (.int .u8 0) else none
    | _=>none
   | _=>none
  | _=>none
 | _=>none
def evalExtract (x:Value) (i:Nat):Option Value:=
 match x with
 | .tuple vs=>vs[i]?
 | _=>none
def evalIface (P:Program) (t:TypeId) (x:Value):Option Value:=
 match P.underlying t with
 | some (.interface _)=>none
 | some _=>some (.iface t x)
 | none=>none
def evalNilCheck (x:Value):Option Value:=
 match x with
 | .pointer (some a)=>some (.pointer (some a))
 | .func (.func f) a b=>some (.func (.func f) a b)
 | .iface t v=>some (.iface t v)
 | _=>none
def evalPick (c a b:Value):Option Value:=
 match c with
 | .bool t=>some (bif t then a else b)
 | _=>none
def evalLen (P:Program) (t:TypeId) (x:Value):Option Value:=
 match x with
 | .slice _ n _=>match P.underlying t with
  | some (.slice _)=>some (.int .i64 n)
  | _=>none
 | .chan (some k)=>match P.underlying t with
  | some .string=>some (.int .i64 (Int.ofNat (Nat.div k 2)))
  | _=>none
 | _=>none
def evalCap (P:Program) (t:TypeId) (x:Value):Option Value:=
 match x with
 | .slice _ _ n=>match P.underlying t with
  | some (.slice _)=>if n < openCap then some (.int .i64 n) else none
  | _=>none
 | _=>none
def bound (x:Option Value) (dflt most:Nat):Option Nat:=
 match x with
 | none=>if dflt≤most then some dflt else none
 | some (.int _ i)=>if 0≤i∧i≤(most:Int) then some i.toNat else none
 | some _=>none
def maxHigh (hi mx:Option Value):Bool:= !mx.isSome || hi.isSome
def evalReslice (P:Program) (t:TypeId) (x:Value) (lo hi mx:Option Value):Option Value:=
 match x with
 | .slice (some ⟨b,o,none⟩) len cap=>match P.underlying t with
  | some (.slice elem)=>match sizeAt P elem with
   | some size=>
    if cap < openCap∧maxHigh hi mx=true then
     match bound mx cap cap with
     | some m=>match bound hi len m with
      | some h=>match bound lo 0 h with
       | some l=>some (.slice (some ⟨b,if m=l then o else o+l*size,none⟩) (h - l) (m - l))
       | none=>none
      | none=>none
     | none=>none
    else if openCap≤cap∧openE cap=size then
     match mx with
     | none=>match bound hi len (bif Nat.ble (openK cap) len then len else openK cap) with
      | some h=>match bound lo 0 h with
       | some l=>some (.slice (some ⟨b,o+l*size,none⟩) (h - l) (openOf (Nat.sub (openK cap) l) size))
       | none=>none
      | none=>none
     | some _=>if len=0∨maxHigh hi mx=false∨openCap≤len then none else match bound mx len len with
      | some m=>match bound hi len m with
       | some h=>match bound lo 0 h with
        | some l=>some (.slice (some ⟨b,if m=l then o else o+l*size,none⟩) (h - l) (m - l))
        | none=>none
       | none=>none
      | none=>none
    else none
   | none=>none
  | _=>none
 | _=>none
def evalSliceArray (P:Program) (G:Nat) (t:TypeId) (x:Value) (lo hi mx:Option Value):Option Value:=
 match x with
 | .pointer (some ⟨b,o,none⟩)=>match P.underlying t with
  | some (.array n elem)=>match sizeAt P elem with
   | some size=>
    if G≤b∧n < openCap∧maxHigh hi mx=true then
     match bound mx n n with
     | some m=>match bound hi n m with
      | some h=>match bound lo 0 h with
       | some l=>some (.slice (some ⟨b,if m=l then o else o+l*size,none⟩) (h - l) (m - l))
       | none=>none
      | none=>none
     | none=>none
    else none
   | none=>none
  | _=>none
 | _=>none
def nilEq (d:TypeDesc) (x y:Value):Option Bool:=
 match d,x,y with
 | .pointer _,.pointer (some _),.pointer none | .pointer _,.pointer none,.pointer (some _)=>some false
 | .slice _,.slice (some _) _ _,.slice none _ _ | .slice _,.slice none _ _,.slice (some _) _ _=>some false
 | .map _ _,.map (some _),.map none | .map _ _,.map none,.map (some _)=>some false
 | .func _ _ _,.func _ _ _,.nilFunc | .func _ _ _,.nilFunc,.func _ _ _=>some false
 | .interface _,.iface _ _,.nilIface | .interface _,.nilIface,.iface _ _=>some false
 | _,_,_=>none
def evalEq (P:Program) (op:BinOp) (t:TypeId) (x y:Value):Option Value:=
 match P.underlying t with
 | some d=>match nilEq d x y with
  | some r=>match op with
   | .eql=>some (.bool r)
   | .neq=>some (.bool !r)
   | _=>none
  | none=>none
 | none=>none
def evalPtrEq (P:Program) (op:BinOp) (t:TypeId) (x y:Value):Option Value:=
 match P.underlying t with
 | some (.pointer elem)=>match x,y with
  | .pointer (some ⟨b,o,none⟩),.pointer (some ⟨b',o',none⟩)=>bif Nat.beq b b' && Nat.beq o o' then match sizeAt P elem with
    | some (_+1)=>match op with
     | .eql=>some (.bool true)
     | .neq=>some (.bool false)
     | _=>none
    | _=>none
   else none
  | _,_=>none
 | _=>none
def evalSliceData (x:Value):Option Value:=
 match x with
 | .slice none _ _=>some (.pointer none)
 | .slice (some ⟨b,o,none⟩) _ c=>bif (bif Nat.blt c openCap then Nat.blt 0 c else Nat.blt 0 (openK c)) then some (.pointer (some ⟨b,o,none⟩)) else none
 | _=>none
def evalFill (place:Nat→Option (Nat × Nat)) (cells:Array Value) (l:List (Nat × Value)):Option (Array Value):=Instr.fill place cells l
def evalBuild (P:Program) (t:TypeId) (parts:List (Nat × Value)):Option Value:=
 match (P.info? t).bind (·.zero) with
 | some z=>if flat z then match P.underlying t with
  | some (.struct fs)=>match fs.toList.mapM (fun f=>(sizeAt P f.type).map fun n=>(f.offset,n)) with
   | some places=>match Instr.fill (fun i=>places[i]?) z.cells parts with
    | some cs=>some (.agg cs)
    | none=>none
   | none=>none
  | some (.array _ elem)=>match sizeAt P elem with
   | some size=>match Instr.fill (fun i=>some (i*size,size)) z.cells parts with
    | some cs=>some (.agg cs)
    | none=>none
   | none=>none
  | _=>none
  else none
 | none=>none
def packOk (ok:Bool) (v:Value) (b:Bool):Value:=if ok then .tuple #[v,.bool b] else v
def evalAssert (P:Program) (asserted:TypeId) (x:Value) (ok:Bool):Option Value:=
 match P.underlying asserted with
 | some (.interface _)=>none
 | some _=>match x with
  | .iface t v=>if t=asserted then some (packOk ok v true) else none
  | _=>none
 | none=>none
def evalPure (P:Program) (G:Nat) (ρ:Operand→Value) (o:Oper):Option Value:=
 match o.op with
 | .move x | .assign x=>some (ρ x)
 | .pick c a b=>evalPick (ρ c) (ρ a) (ρ b)
 | .nilCheck x=>evalNilCheck (ρ x)
 | .fieldAddr t x f=>evalFieldAddr P t (ρ x) f
 | .field t x f=>evalField P t (ρ x) f
 | .indexAddr t x ix=>evalIndexAddr P t (ρ x) (ρ ix)
 | .index t x ix=>evalIndex P t (ρ x) (ρ ix)
 | .extract x i=>evalExtract (ρ x) i
 | .typeAssert x _ a ok=>evalAssert P a (ρ x) ok
 | .makeInterface t x=>evalIface P t (ρ x)
 | .makeFunc (.func f) first cap=>some (.func (.func f) (first.map ρ) (cap.map ρ))
 | .build t parts=>evalBuild P t (parts.toList.map fun p=>(p.1,ρ p.2))
 | .slice t x lo hi mx=>match evalReslice P t (ρ x) (lo.map ρ) (hi.map ρ) (mx.map ρ) with
  | some v=>some v
  | none=>evalSliceArray P G t (ρ x) (lo.map ρ) (hi.map ρ) (mx.map ρ)
 | .binOp op t x y _=>match evalEq P op t (ρ x) (ρ y) with
  | some v=>some v
  | none=>evalPtrEq P op t (ρ x) (ρ y)
 | .call ⟨.builtin .unsafeSliceData,⟨[x]⟩,_⟩=>evalSliceData (ρ x)
 | .call ⟨.builtin .len,⟨[x]⟩,⟨[t]⟩⟩=>evalLen P t (ρ x)
 | .call ⟨.builtin .cap,⟨[x]⟩,⟨[t]⟩⟩=>evalCap P t (ρ x)
 | _=>none
end Go.Ev
namespace Go.Ev
variable {P:Program} {G N:Nat} {φ:Phi}
theorem run_sizeAt {t:TypeId} {n:Nat} (h:sizeAt P t=some n) (w:World):(sizeOf t).run P w= .ok n w:=by
 unfold sizeAt at h
 cases hq:P.info? t with
 | none=>simp [hq] at h
 | some i=>simp [hq] at h; subst h; simp [sizeOf,typeInfo,hq]
theorem run_aggAt {t:TypeId} {b:Bool} (h:aggAt P t=some b) (w:World):(isAgg t).run P w= .ok b w:=by
 unfold aggAt at h
 unfold isAgg
 cases hu:P.underlying t with
 | none=>simp [hu] at h
 | some d=>
  simp only [hu] at h
  cases d <;> simp at h <;> subst h <;> simp [run_underlying hu]
theorem ARel.extract {l l':Array Value} (h:ARel G N φ l l') (a b:Nat):ARel G N φ (l.extract a b) (l'.extract a b):=by
 refine ⟨by simp [h.1],fun i v v' h1 h2=> ?_⟩
 rw [Array.getElem?_extract] at h1 h2
 split at h1
 ·rename_i hlt
  rw [if_pos (by rw [← h.1]; exact hlt)] at h2
  exact h.2 _ _ _ h1 h2
 ·cases h1
theorem partAt_sound {t:TypeId} {cs cs':Array Value} {off:Nat} {v:Value} (h:partAt P t cs off=some v) (hr:ARel G N φ cs cs') :
  ∃ v',VRel G N φ v v'∧∀ w,(part t cs' off).run P w= .ok v' w:=by
 unfold partAt at h
 split at h
 ·rename_i ha
  split at h
  ·rename_i n hs
   cases h
   have hx:=hr.extract off (off+n)
   exact ⟨_,.agg hx.1 hx.2,fun w=>by simp [part,run_aggAt ha,run_sizeAt hs]⟩
  ·cases h
 ·rename_i ha
  obtain ⟨v',h1,h2⟩:=hr.get h
  exact ⟨v',h2,fun w=>by simp [part,run_aggAt ha,h1]⟩
 ·cases h
theorem VRel.agg_inv {cs:Array Value} {v':Value} (h:VRel G N φ (.agg cs) v'):∃ cs',v'= .agg cs'∧ARel G N φ cs cs':=by
 have hc:=h.cells
 cases h with
 | flat hf=>exact ⟨cs,rfl,hc⟩
 | agg a b=>exact ⟨_,rfl,a,b⟩
theorem VRel.tuple_inv {cs:Array Value} {v':Value} (h:VRel G N φ (.tuple cs) v'):∃ cs',v'= .tuple cs'∧ARel G N φ cs cs':=by
 cases h with
 | flat hf=>exact ⟨cs,rfl,rfl,fun i v v' h1 h2=>by rw [h1] at h2; cases h2; exact .flat (flatA_all (by simpa [Go.Ev.flat] using hf) h1)⟩
 | tuple a b=>exact ⟨_,rfl,a,b⟩
theorem VRel.int_inv {k:IntKind} {n:Int} {v':Value} (h:VRel G N φ (.int k n) v'):v'= .int k n:=by cases h; rfl
theorem VRel.bool_inv {b:Bool} {v':Value} (h:VRel G N φ (.bool b) v'):v'= .bool b:=by cases h; rfl
theorem VRel.string_inv {s:ByteArray} {v':Value} (h:VRel G N φ (.string s) v'):v'= .string s:=by cases h; rfl
theorem VRel.long_inv {k:Nat} {v':Value} (h:VRel G N φ (.chan (some k)) v'):∃ s,v'= .string s∧s.size=k / 2∧(k % 2=1→∀ i,i < s.size→s.data[i]?=some 0):=by
 cases h with
 | flat hf=>simp [Go.Ev.flat] at hf
 | long a b=>exact ⟨_,rfl,a,b⟩
def Phi.conc (φ:Phi) (G b o:Nat):Addr:=if b < G then ⟨b,o,none⟩ else φ.at b o
theorem VRel.ptr_inv {a:Addr} {v':Value} (h:VRel G N φ (.pointer (some a)) v'):a.spot=none∧(a.block < G∨a.block < N)∧v'= .pointer (some (φ.conc G a.block a.off)):=by
 cases h with
 | flat hf=>simp [Go.Ev.flat] at hf
 | glob hb=>exact ⟨rfl,.inl hb,by simp [Phi.conc,hb]⟩
 | ptr hg hb=>exact ⟨rfl,.inr hb,by simp [Phi.conc,Nat.not_lt.2 hg]⟩
theorem VRel.mk_ptr {b o:Nat} (h:b < G∨b < N):VRel G N φ (.pointer (some ⟨b,o,none⟩)) (.pointer (some (φ.conc G b o))):=by
 unfold Phi.conc
 by_cases hb:b < G
 ·rw [if_pos hb]; exact .glob hb
 ·rw [if_neg hb]; exact .ptr (by omega) (by omega)
theorem Phi.conc_add (φ:Phi) (G b o n:Nat):(φ.conc G b o).add n=φ.conc G b (o+n):=by
 unfold Phi.conc Phi.at Addr.add
 by_cases hb:b < G <;> by_cases hn:n=0 <;> simp [hb,hn,Nat.add_assoc]
theorem Phi.conc_spot (φ:Phi) (G b o:Nat):(φ.conc G b o).spot=none:=by
 unfold Phi.conc Phi.at; split <;> rfl
def Yields (P:Program) (G N:Nat) (φ:Phi) (v:Value) (s:Sem Value):Prop:=∃ v',VRel G N φ v v'∧∀ w,s.run P w= .ok v' w
theorem evalField_sound {t:TypeId} {x x' v:Value} {f:Nat} (h:evalField P t x f=some v) (hx:VRel G N φ x x'):Yields P G N φ v (Instr.field t x' f):=by
 unfold evalField at h
 split at h
 ·rename_i cs
  split at h
  ·rename_i fs hu
   split at h
   ·rename_i fd hf
    obtain ⟨cs',rfl,hr⟩:=hx.agg_inv
    obtain ⟨v',h1,h2⟩:=partAt_sound h hr
    exact ⟨v',h1,fun w=>by simp [Instr.field,run_underlying hu,hf,asAgg,h2]⟩
   ·cases h
  ·cases h
 ·cases h
theorem evalIndex_sound {t:TypeId} {x x' ix ix' v:Value} (h:evalIndex P t x ix=some v) (hx:VRel G N φ x x') (hi:VRel G N φ ix ix'):Yields P G N φ v (Instr.index t x' ix'):=by
 unfold evalIndex at h
 split at h
 ·rename_i k i
  cases hi.int_inv
  split at h
  ·rename_i len elem hu
   split at h
   ·rename_i cs
    split at h
    ·rename_i hlt
     split at h
     ·rename_i n hs
      obtain ⟨cs',rfl,hr⟩:=hx.agg_inv
      obtain ⟨v',h1,h2⟩:=partAt_sound h hr
      exact ⟨v',h1,fun w=>by simp [Instr.index,run_underlying hu,asIntOf,hlt,run_sizeAt hs,h2]⟩
     ·cases h
    ·cases h
   ·cases h
  ·rename_i hu
   split at h
   case h_2=>cases h
   rename_i kk
   split at h
   case h_2=>cases h
   rename_i j
   cases hb:(Nat.beq (Nat.mod kk 2) 1 && Nat.blt j (Nat.div kk 2)) with
   | false=>rw [hb] at h; cases h
   | true=>
    rw [hb] at h
    cases h
    rw [Bool.and_eq_true] at hb
    obtain ⟨s,rfl,h1,h2⟩:=hx.long_inv
    have hm:kk % 2=1:=Nat.eq_of_beq_eq_true hb.1
    have hj:j < kk / 2:=(by simpa [Nat.blt_eq] using hb.2:j < Nat.div kk 2)
    have hz:=h2 hm j (by rw [h1]; exact hj)
    have hjs:j < s.size:=by rw [h1]; exact hj
    have hz':s[j]?=some 0:=by
     obtain ⟨_,hv⟩:=Array.getElem?_eq_some_iff.1 hz
     rw [getElem?_pos s j hjs]
     exact congrArg some hv
    refine ⟨.int .u8 0,.flat rfl,fun w=> ?_⟩
    simp [Instr.index,run_underlying hu,asIntOf,hz']
  ·cases h
 ·cases h
theorem evalExtract_sound {x x' v:Value} {i:Nat} (h:evalExtract x i=some v) (hx:VRel G N φ x x'):Yields P G N φ v (Instr.extract x' i):=by
 unfold evalExtract at h
 split at h
 ·obtain ⟨cs',rfl,hr⟩:=hx.tuple_inv
  obtain ⟨v',h1,h2⟩:=hr.get h
  exact ⟨v',h2,fun w=>by simp [Instr.extract,h1]⟩
 ·cases h
theorem evalIface_sound {t:TypeId} {x x' v:Value} (h:evalIface P t x=some v) (hx:VRel G N φ x x'):Yields P G N φ v (Instr.makeInterface t x'):=by
 unfold evalIface at h
 split at h
 ·cases h
 ·rename_i d hn hu
  cases h
  refine ⟨_,.iface hx,fun w=> ?_⟩
  cases d <;> first | (simp [Instr.makeInterface,run_underlying hu]; done) | exact (hn _ rfl).elim
 ·cases h
theorem evalPick_sound {c c' a a' b b' v:Value} (h:evalPick c a b=some v) (hc:VRel G N φ c c') (ha:VRel G N φ a a') (hb:VRel G N φ b b') :
  Yields P G N φ v (do pure (if ← asBool c' then a' else b')):=by
 unfold evalPick at h
 split at h
 ·rename_i t
  cases hc.bool_inv
  cases h
  cases t
  ·exact ⟨b',hb,fun w=>by simp [asBool]⟩
  ·exact ⟨a',ha,fun w=>by simp [asBool]⟩
 ·cases h
theorem evalFieldAddr_sound {t:TypeId} {x x' v:Value} {f:Nat} (h:evalFieldAddr P t x f=some v) (hx:VRel G N φ x x'):Yields P G N φ v (Instr.fieldAt t x' f):=by
 unfold evalFieldAddr at h
 split at h
 ·rename_i b o
  obtain ⟨_,hb,rfl⟩:=hx.ptr_inv
  split at h
  ·rename_i fs hu
   split at h
   ·rename_i fd hf
    split at h
    ·cases h
    ·rename_i n hs
     cases h
     exact ⟨_,VRel.mk_ptr hb,fun w=>by simp [Instr.fieldAt,run_underlying hu,hf,Instr.sureAddr,fieldPlace,run_sizeAt hs,Phi.conc_add]⟩
    ·cases h
   ·cases h
  ·cases h
 ·cases h
theorem VRel.slice_inv {b o len cap:Nat} {v':Value} (h:VRel G N φ (.slice (some ⟨b,o,none⟩) len cap) v') :
  G≤b∧b < N∧∃ a' cap',v'= .slice (some a') len cap'∧
   (cap < openCap∧cap'=cap∧a'=φ.at b o∨
    (openCap≤cap∧len≤cap'∧openK cap≤cap'∧(φ b).shift+o+cap'*openE cap≤(φ b).total∧a'=φ.at b o)∨
    (openCap≤cap∧openK cap=0∧len=0∧cap'=0)):=by
 cases h with
 | flat hf=>simp [Go.Ev.flat] at hf
 | slice hg hb hc=>exact ⟨hg,hb,_,_,rfl,.inl ⟨hc,rfl,rfl⟩⟩
 | grown hg hb hl hk he ht=>exact ⟨hg,hb,_,_,rfl,.inr (.inl ⟨openOf_ge _ _,hl,by rw [openK_of he]; exact hk,by rw [openE_of he]; exact ht,rfl⟩)⟩
 | ended hg hb he=>exact ⟨hg,hb,_,_,rfl,.inr (.inr ⟨openOf_ge _ _,openK_of he,rfl,rfl⟩)⟩
theorem Phi.at_conc {φ:Phi} {G b o:Nat} (h:G≤b):φ.at b o=φ.conc G b o:=by simp [Phi.conc,Nat.not_lt.2 h]
theorem evalIndexAddr_sound {t:TypeId} {x x' ix ix' v:Value} (h:evalIndexAddr P t x ix=some v) (hx:VRel G N φ x x') (hi:VRel G N φ ix ix'):Yields P G N φ v (Instr.indexAt t x' ix'):=by
 unfold evalIndexAddr at h
 split at h
 ·rename_i k i
  cases hi.int_inv
  split at h
  ·rename_i len elem hu
   split at h
   ·rename_i b o
    obtain ⟨_,hb,rfl⟩:=hx.ptr_inv
    split at h
    ·rename_i hlt
     split at h
     ·rename_i n hs
      cases h
      exact ⟨_,VRel.mk_ptr hb,fun w=>by simp [Instr.indexAt,asIntOf,run_underlying hu,Instr.sureAddr,hlt,run_sizeAt hs,Phi.conc_add]⟩
     ·cases h
    ·cases h
   ·cases h
  ·rename_i elem hu
   split at h
   ·rename_i b o len cap
    obtain ⟨hg,hb,a',cap',rfl,hcase⟩:=hx.slice_inv
    split at h
    ·rename_i hlt
     split at h
     ·rename_i n hs
      cases h
      have ha:a'=φ.at b o:=by
       rcases hcase with ⟨_,_,h⟩ | ⟨_,_,_,_,h⟩ | ⟨_,_,h,_⟩
       ·exact h
       ·exact h
       ·omega
      subst ha
      refine ⟨_,VRel.mk_ptr (.inr hb),fun w=> ?_⟩
      rw [Phi.at_conc hg]
      simp [Instr.indexAt,asIntOf,run_underlying hu,hlt,run_sizeAt hs,Phi.conc_add]
     ·cases h
    ·cases h
   ·cases h
  ·cases h
 ·cases h
theorem evalLen_sound {t ty:TypeId} {x x' v:Value} (h:evalLen P t x=some v) (hx:VRel G N φ x x'):Yields P G N φ v (Builtin.len_ #[t] ty #[x']):=by
 unfold evalLen at h
 split at h
 ·rename_i a n c
  split at h
  ·rename_i e hu
   cases h
   refine ⟨_,.flat rfl,fun w=> ?_⟩
   obtain ⟨a',c',rfl⟩:∃ a' c',x'= .slice a' n c':=by cases hx <;> exact ⟨_,_,rfl⟩
   simp [Builtin.len_,run_underlying hu,goInt]
  ·cases h
 ·rename_i k
  split at h
  ·rename_i hu
   cases h
   obtain ⟨s,rfl,h1,_⟩:=hx.long_inv
   refine ⟨_,.flat rfl,fun w=> ?_⟩
   simp [Builtin.len_,run_underlying hu,goInt,h1]
   rfl
  ·cases h
 ·cases h
theorem evalCap_sound {t ty:TypeId} {x x' v:Value} (h:evalCap P t x=some v) (hx:VRel G N φ x x'):Yields P G N φ v (Builtin.cap_ #[t] ty #[x']):=by
 unfold evalCap at h
 split at h
 ·rename_i a n c
  split at h
  ·rename_i e hu
   split at h
   ·rename_i hc
    cases h
    refine ⟨_,.flat rfl,fun w=> ?_⟩
    obtain ⟨a',rfl⟩:∃ a',x'= .slice a' n c:=by
     cases hx <;> first | exact ⟨_,rfl⟩ | (exact absurd hc (Nat.not_lt.2 (openOf_ge _ _)))
    simp [Builtin.cap_,run_underlying hu,goInt]
   ·cases h
  ·cases h
 ·cases h
theorem bound_none {d m r:Nat} (h:bound none d m=some r):r=d∧d≤m:=by
 unfold bound at h; simp at h; exact ⟨h.2.symm,h.1⟩
theorem bound_some {x:Value} {d m r:Nat} (h:bound (some x) d m=some r):∃ k i,x= .int k i∧0≤i∧i≤(m:Int)∧r=i.toNat:=by
 unfold bound at h
 split at h
 ·rename_i h'; cases h'
 ·rename_i k i h'
  cases h'
  split at h
  ·rename_i hb; cases h; exact ⟨k,i,rfl,hb.1,hb.2,rfl⟩
  ·cases h
 ·cases h
theorem sliceBound_run {x x':Value} {d m m' r:Nat} (h:bound (some x) d m=some r) (hx:VRel G N φ x x') (hm:m≤m') (code:BoundsCode) (w:World) :
  (Instr.sliceBound x' m' code).run P w= .ok r w:=by
 obtain ⟨k,i,rfl,h0,h1,rfl⟩:=bound_some h
 cases hx.int_inv
 simp [Instr.sliceBound,asIntOf,h0,(by omega:i≤(m':Int))]
def ORel (G N:Nat) (φ:Phi):Option Value→Option Value→Prop
 | none,none=>True
 | some x,some x'=>VRel G N φ x x'
 | _,_=>False
theorem ORel.some_inv {x:Value} {y:Option Value} (h:ORel G N φ (some x) y):∃ x',y=some x'∧VRel G N φ x x':=by
 cases y with
 | none=>exact h.elim
 | some x'=>exact ⟨x',rfl,h⟩
theorem ORel.none_inv {y:Option Value} (h:ORel G N φ none y):y=none:=by
 cases y with
 | none=>rfl
 | some x'=>exact h.elim
theorem sliceBounds_run2 {lo hi lo' hi':Option Value} {isSlice:Bool} {len mB cap h l:Nat} (hh:bound hi len mB=some h) (hl:bound lo 0 h=some l)
  (rh:ORel G N φ hi hi') (rl:ORel G N φ lo lo') (hc:mB≤cap) (w:World) :
  (Instr.sliceBounds isSlice len cap lo' hi' none).run P w= .ok (l,h,cap) w:=by
 cases hi with
 | none=>
  obtain rfl:=rh.none_inv
  obtain ⟨rfl,_⟩:=bound_none hh
  cases lo with
  | none=>
   obtain rfl:=rl.none_inv
   obtain ⟨rfl,_⟩:=bound_none hl
   simp [Instr.sliceBounds]
  | some x=>
   obtain ⟨x',rfl,rx⟩:=rl.some_inv
   have h3:=sliceBound_run (P:=P) hl rx (Nat.le_refl _) .sliceB w
   simp [Instr.sliceBounds,h3]
 | some y=>
  obtain ⟨y',rfl,ry⟩:=rh.some_inv
  have h2:=sliceBound_run (P:=P) hh ry hc (if isSlice then .sliceAcap else .sliceAlen) w
  cases lo with
  | none=>
   obtain rfl:=rl.none_inv
   obtain ⟨rfl,_⟩:=bound_none hl
   simp [Instr.sliceBounds,h2]
  | some x=>
   obtain ⟨x',rfl,rx⟩:=rl.some_inv
   have h3:=sliceBound_run (P:=P) hl rx (Nat.le_refl _) .sliceB w
   simp [Instr.sliceBounds,h2,h3]
theorem sliceBounds_run3 {z z':Value} {lo lo':Option Value} {y y':Value} {isSlice:Bool} {d len mB cap m h l:Nat} (hm:bound (some z) d mB=some m) (hh:bound (some y) len m=some h) (hl:bound lo 0 h=some l)
  (rz:VRel G N φ z z') (ry:VRel G N φ y y') (rl:ORel G N φ lo lo') (hc:mB≤cap) (w:World) :
  (Instr.sliceBounds isSlice len cap lo' (some y') (some z')).run P w= .ok (l,h,m) w:=by
 have h1:=sliceBound_run (P:=P) hm rz hc (if isSlice then .slice3Acap else .slice3Alen) w
 have h2:=sliceBound_run (P:=P) hh ry (Nat.le_refl _) .slice3B w
 cases lo with
 | none=>
  obtain rfl:=rl.none_inv
  obtain ⟨rfl,_⟩:=bound_none hl
  simp [Instr.sliceBounds,h1,h2]
 | some x=>
  obtain ⟨x',rfl,rx⟩:=rl.some_inv
  have h3:=sliceBound_run (P:=P) hl rx (Nat.le_refl _) .slice3C w
  simp [Instr.sliceBounds,h1,h2,h3]
theorem bound_le {x:Option Value} {d m r:Nat} (h:bound x d m=some r):r≤m:=by
 cases x with
 | none=>obtain ⟨rfl,h⟩:=bound_none h; exact h
 | some x=>obtain ⟨k,i,rfl,h0,h1,rfl⟩:=bound_some h; omega
theorem sliceBounds_closed {lo hi mx lo' hi' mx':Option Value} {isSlice:Bool} {len cap m h l:Nat} (hm:bound mx cap cap=some m) (hh:bound hi len m=some h) (hl:bound lo 0 h=some l)
  (rm:ORel G N φ mx mx') (rh:ORel G N φ hi hi') (rl:ORel G N φ lo lo') (hn:mx.isSome=true→hi.isSome=true) (w:World) :
  (Instr.sliceBounds isSlice len cap lo' hi' mx').run P w= .ok (l,h,m) w:=by
 cases mx with
 | none=>
  obtain rfl:=rm.none_inv
  obtain ⟨rfl,_⟩:=bound_none hm
  exact sliceBounds_run2 hh hl rh rl (Nat.le_refl _) w
 | some z=>
  obtain ⟨z',rfl,rz⟩:=rm.some_inv
  cases hi with
  | none=>simp at hn
  | some y=>
   obtain ⟨y',rfl,ry⟩:=rh.some_inv
   exact sliceBounds_run3 hm hh hl rz ry rl (Nat.le_refl _) w
theorem maxHigh_spec {hi mx:Option Value} (h:maxHigh hi mx=true):mx.isSome=true→hi.isSome=true:=by
 intro hs; simpa [maxHigh,hs] using h
theorem Phi.at_if (φ:Phi) (b o k:Nat) (c:Prop) [Decidable c]:(if c then φ.at b o else (φ.at b o).add k)=φ.at b (if c then o else o+k):=by
 split
 ·rfl
 ·unfold Phi.at Addr.add; split <;> simp_all [Nat.add_assoc]
theorem Phi.conc_if (φ:Phi) (G b o k:Nat) (c:Prop) [Decidable c]:(if c then φ.conc G b o else (φ.conc G b o).add k)=φ.conc G b (if c then o else o+k):=by
 split
 ·rfl
 ·rw [Phi.conc_add]
theorem evalReslice_sound {t:TypeId} {x x' v:Value} {lo hi mx lo' hi' mx':Option Value} (h:evalReslice P t x lo hi mx=some v) (hx:VRel G N φ x x')
  (rl:ORel G N φ lo lo') (rh:ORel G N φ hi hi') (rm:ORel G N φ mx mx'):Yields P G N φ v (Instr.sliceAt t x' lo' hi' mx'):=by
 unfold evalReslice at h
 split at h
 ·rename_i b o len cap
  obtain ⟨hg,hb,a',cap',rfl,hcase⟩:=hx.slice_inv
  split at h
  ·rename_i elem hu
   split at h
   ·rename_i size hs
    split at h
    ·rename_i hc
     split at h
     ·rename_i m hm
      split at h
      ·rename_i hgh hh
       split at h
       ·rename_i l hl
        cases h
        have hcase':cap'=cap∧a'=φ.at b o:=by
         rcases hcase with ⟨_,h1,h2⟩ | ⟨h1,_⟩ | ⟨h1,_⟩
         ·exact ⟨h1,h2⟩
         ·omega
         ·omega
        obtain ⟨rfl,rfl⟩:=hcase'
        have hlem:=bound_le hm
        refine ⟨_,.slice hg hb (by omega),fun w=> ?_⟩
        have hr:=sliceBounds_closed (P:=P) (isSlice:=true) hm hh hl rm rh rl (maxHigh_spec hc.2) w
        simp only [Instr.sliceAt,Sem.run_bind,run_underlying hu,Result.andThen_ok,Instr.slice,hr,run_sizeAt hs,Sem.run_pure,Option.map_some]
        rw [← Phi.at_if]
        by_cases hml:m=l <;> simp [hml]
       ·cases h
      ·cases h
     ·cases h
    ·split at h
     ·rename_i hnc hc
      split at h
      ·obtain rfl:=rm.none_inv
       split at h
       ·rename_i hgh hh
        split at h
        ·rename_i l hl
         cases h
         have hle:=bound_le hh
         have hle2:=bound_le hl
         obtain ⟨hc1,hc2⟩:=hc
         have hlc:len≤cap':=by
          rcases hcase with ⟨h1,_,_⟩ | ⟨_,h2,_⟩ | ⟨_,_,h2,h3⟩
          ·omega
          ·exact h2
          ·omega
         have hkc:openK cap≤cap':=by
          rcases hcase with ⟨h1,_,_⟩ | ⟨_,_,h2,_⟩ | ⟨_,h2,_,h3⟩
          ·omega
          ·exact h2
          ·omega
         have hM:(bif Nat.ble (openK cap) len then len else openK cap)≤cap':=by
          cases Nat.ble (openK cap) len
          ·exact hkc
          ·exact hlc
         have hr:=fun w=>sliceBounds_run2 (P:=P) (isSlice:=true) hh hl rh rl hM w
         have hrun:∀ w,(Instr.sliceAt t (.slice (some a') len cap') lo' hi' none).run P w= .ok (.slice (some (if cap'=l then a' else a'.add (l*size))) (hgh - l) (cap' - l)) w:=fun w=>by
          simp only [Instr.sliceAt,Sem.run_bind,run_underlying hu,Result.andThen_ok,Instr.slice,hr w,run_sizeAt hs,Sem.run_pure,Option.map_some]
          by_cases hml:cap'=l <;> simp [hml]
         refine ⟨_,?_,hrun⟩
         have hsz:size < openCap:=hc2▸openE_lt cap
         by_cases hml:cap'=l
         ·have h0:hgh - l=0:=by omega
          have hk0:Nat.sub (openK cap) l=0:=by show openK cap - l=0; omega
          rw [if_pos hml,h0,hml,Nat.sub_self,hk0]
          exact .ended hg hb hsz
         ·rw [if_neg hml]
          rcases hcase with ⟨h1,_,_⟩ | ⟨he,h2,h2',h3,rfl⟩ | ⟨_,_,h2,h3⟩
          ·omega
          ·rw [hc2] at h3
           have ha:(φ.at b o).add (l*size)=φ.at b (o+l*size):=by
            have:=Phi.at_if φ b o (l*size) False; simpa using this
           rw [ha]
           refine .grown hg hb (by omega) (by show openK cap - l≤cap' - l; omega) hsz ?_
           have:cap'*size=l*size+(cap' - l)*size:=by rw [← Nat.add_mul]; congr 1; omega
           omega
          ·omega
        ·cases h
       ·cases h
      ·rename_i z
       obtain ⟨z',rfl,rz⟩:=rm.some_inv
       split at h
       ·cases h
       ·rename_i hok
        split at h
        ·rename_i m hm
         split at h
         ·rename_i hgh hh
          split at h
          ·rename_i l hl
           cases h
           have hle:=bound_le hm
           have hcase':len≤cap'∧a'=φ.at b o:=by
            rename_i hoc
            rcases hcase with ⟨h1,_,_⟩ | ⟨_,h2,_,_,h4⟩ | ⟨_,_,h2,h3⟩
            ·omega
            ·exact ⟨h2,h4⟩
            ·exact absurd (Or.inl h2) hok
           obtain ⟨hlc,rfl⟩:=hcase'
           cases hi with
           | none=>exact absurd (Or.inr (Or.inl (by simp [maxHigh]))) hok
           | some y=>
            obtain ⟨y',rfl,ry⟩:=rh.some_inv
            have hr:=fun w=>sliceBounds_run3 (P:=P) (isSlice:=true) hm hh hl rz ry rl hlc w
            by_cases hlen:len < openCap
            ·refine ⟨_,.slice hg hb (by omega),fun w=> ?_⟩
             simp only [Instr.sliceAt,Sem.run_bind,run_underlying hu,Result.andThen_ok,Instr.slice,hr w,run_sizeAt hs,Sem.run_pure,Option.map_some]
             rw [← Phi.at_if]
             by_cases hml:m=l <;> simp [hml]
            ·exact absurd (Or.inr (Or.inr (by omega))) hok
          ·cases h
         ·cases h
        ·cases h
     ·cases h
   ·cases h
  ·cases h
 ·cases h
theorem evalSliceArray_sound {t:TypeId} {x x' v:Value} {lo hi mx lo' hi' mx':Option Value} (h:evalSliceArray P G t x lo hi mx=some v) (hx:VRel G N φ x x')
  (rl:ORel G N φ lo lo') (rh:ORel G N φ hi hi') (rm:ORel G N φ mx mx'):Yields P G N φ v (Instr.sliceAt t x' lo' hi' mx'):=by
 unfold evalSliceArray at h
 split at h
 ·rename_i b o
  obtain ⟨_,hb,rfl⟩:=hx.ptr_inv
  split at h
  ·rename_i n elem hu
   split at h
   ·rename_i size hs
    split at h
    ·rename_i hc
     split at h
     ·rename_i m hm
      split at h
      ·rename_i hgh hh
       split at h
       ·rename_i l hl
        cases h
        have hlem:=bound_le hm
        have hbN:b < N:=by rcases hb with hb | hb <;> simp only at hb <;> omega
        refine ⟨_,.slice hc.1 hbN (by omega),fun w=> ?_⟩
        have hr:=sliceBounds_closed (P:=P) (isSlice:=false) hm hh hl rm rh rl (maxHigh_spec hc.2.2) w
        simp only [Instr.sliceAt,Sem.run_bind,run_underlying hu,Result.andThen_ok,Instr.sureAddr,Sem.run_pure,hr,run_sizeAt hs]
        rw [← Phi.at_if,← Phi.at_conc hc.1]
       ·cases h
      ·cases h
     ·cases h
    ·cases h
   ·cases h
  ·cases h
 ·cases h
theorem evalNilCheck_sound {x x' v:Value} (h:evalNilCheck x=some v) (hx:VRel G N φ x x') (o:Oper) (y:Operand) (ρ':Operand→Value) (ho:o.op= .nilCheck y) (hy:ρ' y=x') :
  ∃ v',VRel G N φ v v'∧∀ w,(execOp ρ' o).run P w= .ok (.value v') w:=by
 unfold evalNilCheck at h
 split at h
 ·cases h
  obtain ⟨h1,h2,rfl⟩:=hx.ptr_inv
  exact ⟨_,hx,fun w=>by simp [execOp,ho,hy]⟩
 ·cases h
  refine ⟨_,hx,fun w=> ?_⟩
  cases hx <;> simp [execOp,ho,hy]
 ·cases h
  refine ⟨_,hx,fun w=> ?_⟩
  cases hx <;> simp [execOp,ho,hy]
 ·cases h
theorem nilEq_sound {d:TypeDesc} {x x' y y':Value} {r:Bool} {t:TypeId} (h:nilEq d x y=some r) (hu:P.underlying t=some d) (hx:VRel G N φ x x') (hy:VRel G N φ y y') (w:World) :
  (Op.equal t x' y').run P w= .ok r w:=by
 have e:Op.equal t x' y'=Op.equalIn (9999+1) t x' y':=rfl
 rw [e,Op.equalIn]
 simp only [Sem.run_bind,run_underlying hu,Result.andThen_ok]
 unfold nilEq at h
 split at h <;> cases h
 all_goals (cases hx <;> cases hy <;> simp_all [Go.Ev.flat])
theorem evalEq_sound {op:BinOp} {t:TypeId} {x x' y y' v:Value} {a b:Operand} (h:evalEq P op t x y=some v) (hx:VRel G N φ x x') (hy:VRel G N φ y y') :
  Yields P G N φ v (do eqGuard op t a b x' y'; binOp op t x' y'):=by
 unfold evalEq at h
 split at h
 ·rename_i d hu
  split at h
  ·rename_i r hr
   have he:=fun w=>nilEq_sound (P:=P) hr hu hx hy w
   have hg:∀ w,(eqGuard op t a b x' y').run P w= .ok () w:=fun w=>by
    unfold nilEq at hr
    split at hr <;> cases hr <;> cases hx <;> cases hy <;> (unfold eqGuard; cases op <;> simp_all [Go.Ev.flat])
   have hb:∀ w,(binOp .eql t x' y').run P w= .ok (.bool r) w∧(binOp .neq t x' y').run P w= .ok (.bool !r) w:=fun w=>by
    have:=he w
    unfold nilEq at hr
    split at hr <;> cases hr <;> cases hx <;> cases hy <;> simp_all [Go.Ev.flat,binOp]
   split at h
   ·cases h; exact ⟨_,.flat rfl,fun w=>by simp [hg w,(hb w).1]⟩
   ·cases h; exact ⟨_,.flat rfl,fun w=>by simp [hg w,(hb w).2]⟩
   ·cases h
  ·cases h
 ·cases h
theorem evalPtrEq_sound {op:BinOp} {t:TypeId} {x x' y y' v:Value} {a b:Operand} (h:evalPtrEq P op t x y=some v) (hx:VRel G N φ x x') (hy:VRel G N φ y y') :
  Yields P G N φ v (do eqGuard op t a b x' y'; binOp op t x' y'):=by
 unfold evalPtrEq at h
 split at h
 case h_2=>cases h
 rename_i elem hu
 split at h
 case h_2=>cases h
 rename_i b1 o1 b2 o2
 cases hb:(Nat.beq b1 b2 && Nat.beq o1 o2) with
 | false=>rw [hb] at h; cases h
 | true=>
  rw [hb] at h
  simp only [cond_true] at h
  rw [Bool.and_eq_true] at hb
  obtain rfl:=Nat.eq_of_beq_eq_true hb.1
  obtain rfl:=Nat.eq_of_beq_eq_true hb.2
  split at h
  case h_2=>cases h
  rename_i n hs
  obtain ⟨_,_,rfl⟩:=hx.ptr_inv
  obtain ⟨_,_,rfl⟩:=hy.ptr_inv
  have hsz:=fun w=>run_sizeAt (P:=P) hs w
  have he:∀ w,(Op.equal t (.pointer (some (φ.conc G b1 o1))) (.pointer (some (φ.conc G b1 o1)))).run P w= .ok true w:=fun w=>by
   have e:Op.equal t (.pointer (some (φ.conc G b1 o1))) (.pointer (some (φ.conc G b1 o1)))=Op.equalIn (9999+1) t (.pointer (some (φ.conc G b1 o1))) (.pointer (some (φ.conc G b1 o1))):=rfl
   rw [e,Op.equalIn]
   simp [run_underlying hu,hsz,sameAddr]
  split at h
  ·cases h; exact ⟨_,.flat rfl,fun w=>by simp [eqGuard,binOp,he w]⟩
  ·cases h; exact ⟨_,.flat rfl,fun w=>by simp [eqGuard,binOp,he w]⟩
  ·cases h
theorem evalSliceData_sound {ts:Array TypeId} {ty:TypeId} {x x' v:Value} (h:evalSliceData x=some v) (hx:VRel G N φ x x'):Yields P G N φ v (Builtin.unsafeSliceData_ ts ty #[x']):=by
 unfold evalSliceData at h
 split at h
 ·cases h
  obtain rfl:=hx.flat_eq rfl
  exact ⟨_,.flat rfl,fun w=>rfl⟩
 ·rename_i b o len c
  obtain ⟨hg,hb,a',cap',rfl,hcase⟩:=hx.slice_inv
  have key:(bif Nat.blt c openCap then Nat.blt 0 c else Nat.blt 0 (openK c))=true→v= .pointer (some ⟨b,o,none⟩)→Yields P G N φ v (Builtin.unsafeSliceData_ ts ty #[.slice (some a') len cap']):=by
   intro hc hv
   subst hv
   have h0:a'=φ.at b o∧∃ k,cap'=k+1:=by
    cases hlt:Nat.blt c openCap with
    | true=>
     rw [hlt] at hc
     simp only [cond_true,Nat.blt_eq] at hc hlt
     rcases hcase with ⟨_,h1,h2⟩ | ⟨h1,_⟩ | ⟨h1,_⟩
     ·exact ⟨h2,cap' - 1,by omega⟩
     ·omega
     ·omega
    | false=>
     rw [hlt] at hc
     simp only [cond_false,Nat.blt_eq] at hc
     rcases hcase with ⟨h1,_⟩ | ⟨_,_,h1,_,h2⟩ | ⟨_,h1,_⟩
     ·have:Nat.blt c openCap=true:=by rw [Nat.blt_eq]; exact h1
      rw [this] at hlt; cases hlt
     ·exact ⟨h2,cap' - 1,by omega⟩
     ·omega
   obtain ⟨rfl,k,rfl⟩:=h0
   refine ⟨_,VRel.mk_ptr (.inr hb),fun w=> ?_⟩
   rw [Phi.at_conc hg]
   rfl
  cases hc:(bif Nat.blt c openCap then Nat.blt 0 c else Nat.blt 0 (openK c)) with
  | true=>rw [hc] at h; cases h; exact key hc rfl
  | false=>rw [hc] at h; cases h
 ·cases h
end Go.Ev
namespace Go.Ev
variable {P:Program} {G N:Nat} {φ:Phi}
def PartsRel (G N:Nat) (φ:Phi):List (Nat × Value)→List (Nat × Value)→Prop
 | [],[]=>True
 | (i,v)::l,(j,u)::m=>i=j∧VRel G N φ v u∧PartsRel G N φ l m
 | _,_=>False
theorem ARel.set {l l':Array Value} (h:ARel G N φ l l') {v v':Value} (hv:VRel G N φ v v') (i:Nat):ARel G N φ (l.setIfInBounds i v) (l'.setIfInBounds i v'):=by
 refine ⟨by simp [h.1],fun j u u' h1 h2=> ?_⟩
 rw [Array.getElem?_setIfInBounds] at h1 h2
 by_cases hij:i=j
 ·subst hij
  rw [if_pos rfl] at h1 h2
  by_cases hlt:i < l.size
  ·rw [if_pos hlt] at h1
   rw [if_pos (h.1▸hlt)] at h2
   cases h1; cases h2; exact hv
  ·rw [if_neg hlt] at h1; cases h1
 ·rw [if_neg hij] at h1 h2
  exact h.2 _ _ _ h1 h2
theorem ARel.refl_flat {l:Array Value} (h:flatA l=true):ARel G N φ l l:=
 ⟨rfl,fun i v v' h1 h2=>by rw [h1] at h2; cases h2; exact .flat (flatA_all h h1)⟩
theorem fold_rel (off:Nat):∀ (xs ys:List Value) (j:Nat) (cs cs':Array Value),ARel G N φ cs cs'→xs.length=ys.length→
  (∀ (i:Nat) (v v':Value),xs[i]?=some v→ys[i]?=some v'→VRel G N φ v v')→
  ARel G N φ ((xs.zipIdx j).foldl (fun cs p=>cs.setIfInBounds (off+p.2) p.1) cs) ((ys.zipIdx j).foldl (fun cs p=>cs.setIfInBounds (off+p.2) p.1) cs')
 | [],[],_,_,_,h,_,_=>by simpa using h
 | [],_::_,_,_,_,_,hl,_=>by simp at hl
 | _::_,[],_,_,_,_,hl,_=>by simp at hl
 | x::xs,y::ys,j,cs,cs',h,hl,hv=>by
  simp only [List.zipIdx_cons,List.foldl_cons]
  exact fold_rel off xs ys (j+1) _ _ (h.set (hv 0 x y rfl rfl) _) (by simpa using hl) fun i v v' h1 h2=>hv (i+1) v v' h1 h2
theorem fill_rel (place:Nat→Option (Nat × Nat)):∀ (l l':List (Nat × Value)) (cs cs' out:Array Value),PartsRel G N φ l l'→ARel G N φ cs cs'→
  Instr.fill place cs l=some out→∃ out',Instr.fill place cs' l'=some out'∧ARel G N φ out out'
 | [],[],cs,cs',out,_,h,hf=>by simp [Instr.fill] at hf; subst hf; exact ⟨cs',rfl,h⟩
 | (i,v)::l,(j,u)::m,cs,cs',out,hp,h,hf=>by
  obtain ⟨rfl,hv,hrest⟩:=hp
  simp only [Instr.fill] at hf ⊢
  cases hpl:place i with
  | none=>simp [hpl] at hf
  | some os=>
   obtain ⟨off,size⟩:=os
   simp only [hpl] at hf ⊢
   have hc:=hv.cells
   by_cases hcond:v.cells.size≠size∨off+v.cells.size > cs.size
   ·simp [hcond] at hf
   ·have hcond':¬ (u.cells.size≠size∨off+u.cells.size > cs'.size):=by rw [← hc.1,← h.1]; exact hcond
    simp only [Bool.or_eq_true,decide_eq_true_eq,hcond,hcond',if_false] at hf ⊢
    refine fill_rel place l m _ _ out hrest ?_ hf
    have:=fold_rel (G:=G) (N:=N) (φ:=φ) off v.cells.toList u.cells.toList 0 cs cs' h (by simp [hc.1]) fun i a a' h1 h2=>hc.2 i a a' (by simpa using h1) (by simpa using h2)
    rw [← Array.foldl_toList,← Array.foldl_toList]
    simpa [Array.toList_zipIdx] using this
 | [],_::_,_,_,_,hp,_,_=>hp.elim
 | _::_,[],_,_,_,hp,_,_=>hp.elim
theorem flat_cells {z:Value} (h:flat z=true):flatA z.cells=true:=by
 cases z <;> simp [Value.cells,flatA,flatL,Go.Ev.flat] at h ⊢ <;> first | exact h | skip
 all_goals simp_all [Go.Ev.flat,flatA]
theorem mapM_places {fs:List Field}:∀ {places:List (Nat × Nat)},fs.mapM (fun f=>(sizeAt P f.type).map fun n=>(f.offset,n))=some places→
  ∀ w,(fs.mapM fun f=>(do pure (f.offset,← sizeOf f.type):Sem (Nat × Nat))).run P w= .ok places w:=by
 induction fs with
 | nil=>intro places h w; simp at h; subst h; simp
 | cons f fs ih=>
  intro places h w
  simp only [List.mapM_cons,Option.bind_eq_bind,Option.bind_eq_some_iff,Option.map_eq_some_iff,Option.pure_def] at h
  obtain ⟨p,⟨n,hn,rfl⟩,ps,hps,h3⟩:=h
  cases h3
  rw [List.mapM_cons]
  simp only [Sem.run_bind,run_sizeAt hn,Result.andThen_ok,Sem.run_pure,ih hps]
theorem run_zero {t:TypeId} {z:Value} (h:(P.info? t).bind (·.zero)=some z) (w:World):(zeroValue t).run P w= .ok z w:=by
 cases hq:P.info? t with
 | none=>simp [hq] at h
 | some i=>simp [hq] at h; simp [zeroValue,typeInfo,hq,h]
theorem partsRel_of {ρ ρ':Operand→Value}:∀ (l:List (Nat × Operand)),(∀ x ∈ l.map (·.2),VRel G N φ (ρ x) (ρ' x))→
  PartsRel G N φ (l.map fun p=>(p.1,ρ p.2)) (l.map fun p=>(p.1,ρ' p.2))
 | [],_=>trivial
 | (i,x)::l,h=>⟨rfl,h x (by simp),partsRel_of l fun y hy=>h y (by simp at hy ⊢; exact .inr hy)⟩
theorem evalBuild_sound {t:TypeId} {l l':List (Nat × Value)} {v:Value} (h:evalBuild P t l=some v) (hl:PartsRel G N φ l l') :
  Yields P G N φ v (Instr.build t l'.toArray):=by
 unfold evalBuild at h
 split at h
 ·rename_i z hz
  split at h
  ·rename_i hf
   have hzr:ARel G N φ z.cells z.cells:=ARel.refl_flat (flat_cells hf)
   split at h
   ·rename_i fs hu
    split at h
    ·rename_i places hp
     split at h
     ·rename_i cs hfill
      cases h
      obtain ⟨out',h1,h2⟩:=fill_rel _ l l' _ _ _ hl hzr hfill
      refine ⟨_,.agg h2.1 h2.2,fun w=> ?_⟩
      have h3:=mapM_places hp w
      simp only [Instr.build,Sem.run_bind,run_zero hz,run_underlying hu,Result.andThen_ok,Array.mapM_eq_mapM_toList,Sem.run_map,h3]
      have h4:(fun x:Nat=>places.toArray[x]?)=fun x:Nat=>places[x]?:=by funext x; simp
      rw [h4]
      simp [h1]
     ·cases h
    ·cases h
   ·rename_i n elem hu
    split at h
    ·rename_i size hs
     split at h
     ·rename_i cs hfill
      cases h
      obtain ⟨out',h1,h2⟩:=fill_rel _ l l' _ _ _ hl hzr hfill
      exact ⟨_,.agg h2.1 h2.2,fun w=>by simp [Instr.build,run_zero hz,run_underlying hu,run_sizeAt hs,h1]⟩
     ·cases h
    ·cases h
   ·cases h
  ·cases h
 ·cases h
theorem ARel.map {ρ ρ':Operand→Value} {l:Array Operand} (h:∀ x ∈ l,VRel G N φ (ρ x) (ρ' x)):ARel G N φ (l.map ρ) (l.map ρ'):=by
 refine ⟨by simp,fun i v v' h1 h2=> ?_⟩
 simp only [Array.getElem?_map,Option.map_eq_some_iff] at h1 h2
 obtain ⟨x,hx,rfl⟩:=h1
 obtain ⟨y,hy,rfl⟩:=h2
 rw [hx] at hy; cases hy
 exact h x (Array.mem_of_getElem? hx)
theorem ORel.map {ρ ρ':Operand→Value} {x:Option Operand} (h:∀ y ∈ x.toArray,VRel G N φ (ρ y) (ρ' y)):ORel G N φ (x.map ρ) (x.map ρ'):=by
 cases x with
 | none=>trivial
 | some y=>exact h y (by simp)
theorem VRel.iface_inv {t:TypeId} {v v':Value} (h:VRel G N φ (.iface t v) v'):∃ u,v'= .iface t u∧VRel G N φ v u:=by
 cases h with
 | flat hf=>exact ⟨v,rfl,.flat hf⟩
 | iface h=>exact ⟨_,rfl,h⟩
theorem packOk_rel {ok b:Bool} {v v':Value} (h:VRel G N φ v v'):VRel G N φ (packOk ok v b) (packOk ok v' b):=by
 unfold packOk
 cases ok with
 | false=>exact h
 | true=>
  refine .tuple rfl fun i x x' h1 h2=> ?_
  match i,h1,h2 with
  | 0,h1,h2=>simp at h1 h2; subst h1; subst h2; exact h
  | 1,h1,h2=>simp at h1 h2; subst h1; subst h2; exact .flat rfl
  | i+2,h1,h2=>simp at h1
theorem evalAssert_sound {xt a:TypeId} {x x' v:Value} {ok:Bool} (h:evalAssert P a x ok=some v) (hx:VRel G N φ x x'):Yields P G N φ v (Instr.typeAssert x' xt a ok):=by
 unfold evalAssert at h
 split at h
 ·cases h
 ·rename_i d hni hd
  split at h
  ·rename_i t u
   split at h
   ·rename_i hta
    cases h
    obtain ⟨u',rfl,hu⟩:=hx.iface_inv
    refine ⟨packOk ok u' true,packOk_rel hu,fun w=> ?_⟩
    unfold Instr.typeAssert
    simp only [Sem.run_bind,run_underlying hd,Result.andThen_ok]
    cases d with
    | interface ms=>exact (hni ms rfl).elim
    | _=>simp only [hta,if_true]; cases ok <;> rfl
   ·cases h
  ·cases h
 ·cases h
theorem evalPure_sound {ρ ρ':Operand→Value} {o:Oper} {v:Value} (h:evalPure P G ρ o=some v) (hr:OpRel G N φ o ρ ρ') :
  ∃ v',VRel G N φ v v'∧∀ w,(execOp ρ' o).run P w= .ok (.value v') w:=by
 have lift:∀ {s:Sem Value},Yields P G N φ v s→execOp ρ' o=(do pure (.value (← s)))→∃ v',VRel G N φ v v'∧∀ w,(execOp ρ' o).run P w= .ok (.value v') w:=
  fun ⟨v',h1,h2⟩ he=>⟨v',h1,fun w=>by rw [he]; simp [h2 w]⟩
 unfold OpRel at hr
 obtain ⟨dst,op,type,pos,after,guard⟩:=o
 unfold evalPure at h
 simp only at h hr
 split at h
 ·cases h; exact ⟨_,hr _ (by simp [Op.operands]),fun w=>rfl⟩
 ·cases h; exact ⟨_,hr _ (by simp [Op.operands]),fun w=>rfl⟩
 ·rename_i c a b
  refine lift (evalPick_sound h (hr c (by simp [Op.operands])) (hr a (by simp [Op.operands])) (hr b (by simp [Op.operands]))) ?_
  simp [execOp]
 ·rename_i x
  exact evalNilCheck_sound h (hr x (by simp [Op.operands])) _ x ρ' rfl rfl
 ·rename_i t x f
  exact lift (evalFieldAddr_sound h (hr x (by simp [Op.operands]))) rfl
 ·rename_i t x f
  exact lift (evalField_sound h (hr x (by simp [Op.operands]))) rfl
 ·rename_i t x ix
  exact lift (evalIndexAddr_sound h (hr x (by simp [Op.operands])) (hr ix (by simp [Op.operands]))) rfl
 ·rename_i t x ix
  exact lift (evalIndex_sound h (hr x (by simp [Op.operands])) (hr ix (by simp [Op.operands]))) rfl
 ·rename_i x i
  exact lift (evalExtract_sound h (hr x (by simp [Op.operands]))) rfl
 ·rename_i x xt a ok
  exact lift (evalAssert_sound (xt:=xt) h (hr x (by simp [Op.operands]))) rfl
 ·rename_i t x
  exact lift (evalIface_sound h (hr x (by simp [Op.operands]))) rfl
 ·rename_i f first cap
  cases h
  have h1:ARel G N φ (first.map ρ) (first.map ρ'):=ARel.map fun x hx=>hr x (by simp [Op.operands,hx])
  have h2:ARel G N φ (cap.map ρ) (cap.map ρ'):=ARel.map fun x hx=>hr x (by simp [Op.operands,hx])
  exact ⟨_,.func rfl h1.1 h2.1 h1.2 h2.2,fun w=>rfl⟩
 ·rename_i t parts
  have hp:=partsRel_of (G:=G) (N:=N) (φ:=φ) (ρ:=ρ) (ρ':=ρ') parts.toList fun x hx=>hr x (by simpa [Op.operands] using hx)
  refine lift (evalBuild_sound h hp) ?_
  have e:(parts.map fun (i,x)=>(i,ρ' x))=(List.map (fun p=>(p.1,ρ' p.2)) parts.toList).toArray:=by
   apply Array.ext'; simp
  simp only [execOp]
  rw [e]
 ·rename_i t x lo hi mx
  have hx:=hr x (by simp [Op.operands])
  have h1:=ORel.map (G:=G) (N:=N) (φ:=φ) (x:=lo) (ρ:=ρ) (ρ':=ρ') fun y hy=>hr y (by simp [Op.operands]; simp at hy; simp [hy])
  have h2:=ORel.map (G:=G) (N:=N) (φ:=φ) (x:=hi) (ρ:=ρ) (ρ':=ρ') fun y hy=>hr y (by simp [Op.operands]; simp at hy; simp [hy])
  have h3:=ORel.map (G:=G) (N:=N) (φ:=φ) (x:=mx) (ρ:=ρ) (ρ':=ρ') fun y hy=>hr y (by simp [Op.operands]; simp at hy; simp [hy])
  split at h
  ·rename_i u hu
   cases h
   exact lift (evalReslice_sound hu hx h1 h2 h3) rfl
  ·exact lift (evalSliceArray_sound h hx h1 h2 h3) rfl
 ·rename_i op t x y yt
  split at h
  ·rename_i u hu
   cases h
   exact lift (evalEq_sound (a:=x) (b:=y) hu (hr x (by simp [Op.operands])) (hr y (by simp [Op.operands]))) rfl
  ·exact lift (evalPtrEq_sound (a:=x) (b:=y) h (hr x (by simp [Op.operands])) (hr y (by simp [Op.operands]))) rfl
 ·rename_i x ts
  exact lift (evalSliceData_sound (ts:=ts) (ty:=type) h (hr x (by simp [Op.operands,Call.operands]))) (by simp [execOp,resolve,invoke,builtin])
 ·rename_i x t
  exact lift (evalLen_sound (ty:=type) h (hr x (by simp [Op.operands,Call.operands]))) (by simp [execOp,resolve,invoke,builtin])
 ·rename_i x t
  exact lift (evalCap_sound (ty:=type) h (hr x (by simp [Op.operands,Call.operands]))) (by simp [execOp,resolve,invoke,builtin])
 ·cases h
end Go.Ev
namespace Go.Ev
variable {P:Program} {G N0:Nat} {g:Glob} {φ:Phi} {st st':St} {w:World}
def ld (G:Nat) (g:Glob) (st:St) (b o:Nat):Option Value:=
 bif Nat.blt b G then g b o else
 match st.heap.get b with
 | some (.cells c n _)=>bif Nat.blt o n then c.get o else none
 | some (.grown c n _ r)=>match st.fams.get r with
  | some f=>bif Nat.ble f.low b && Nat.blt o n then c.get o else none
  | none=>none
 | _=>none
theorem blt_true {a b:Nat} (h:Nat.blt a b=true):a < b:=by simpa [Nat.blt_eq] using h
theorem blt_false {a b:Nat} (h:Nat.blt a b=false):¬ a < b:=fun hlt=>by
 have:Nat.blt a b=true:=by simpa [Nat.blt_eq] using hlt
 rw [h] at this; cases this
theorem cell_of_block {w:World} {b o:Nat} {a:Array Value} {e:TypeId} {fz:Nat × Nat} (h:w.heap[b]?=some (.cells a e fz)):w.cell? ⟨b,o,none⟩=a[o]?:=by
 simp [World.cell?,h]
theorem ld_sound (hR:R G N0 g φ st w) {b o:Nat} {v:Value} (h:ld G g st b o=some v):∃ v',w.cell? (φ.conc G b o)=some v'∧VRel G st.next φ v v':=by
 unfold ld at h
 cases hb:Nat.blt b G with
 | true=>
  rw [hb] at h
  have h':g b o=some v:=h
  obtain ⟨_,hbG,hc,hf⟩:=hR.glob b o v h'
  exact ⟨v,by rw [Phi.conc,if_pos (blt_true hb)]; exact hc,.flat hf⟩
 | false=>
  rw [hb] at h
  simp only [cond_false] at h
  have hnb:=blt_false hb
  have hat:φ.conc G b o=φ.at b o:=by rw [Phi.conc,if_neg hnb]
  rw [hat]
  split at h
  ·rename_i c n e hget
   obtain ⟨_,_,_,_,hsh,a,ha,hsz,hcs⟩:=hR.obj b _ hget
   cases ho:Nat.blt o n with
   | true=>
    rw [ho] at h
    simp only [cond_true] at h
    obtain ⟨u,u',h1,h2,h3⟩:=hcs o (blt_true ho)
    rw [h] at h1; cases h1
    refine ⟨u',?_,h3⟩
    rw [Phi.at,cell_of_block ha,hsh]; exact h2
   | false=>rw [ho] at h; cases h
  ·rename_i c n e r hget
   obtain ⟨_,_,_,_,a,fz,f,ha,hfz,hsz,hle,hfam,htip,hro,hcs⟩:=hR.obj b _ hget
   rw [hfam] at h
   simp only at h
   cases ho:(Nat.ble f.low b && Nat.blt o n) with
   | true=>
    rw [ho] at h
    simp only [cond_true] at h
    simp only [Bool.and_eq_true] at ho
    obtain ⟨u,u',h1,h2,h3⟩:=hcs (Nat.le_of_ble_eq_true ho.1) o (blt_true ho.2)
    rw [h] at h1; cases h1
    refine ⟨u',?_,h3⟩
    rw [Phi.at,cell_of_block ha]; exact h2
   | false=>rw [ho] at h; cases h
  ·cases h
def ldN (G:Nat) (g:Glob) (st:St):Nat→Nat→Nat→Option (List Value)
 | 0,_,_=>some []
 | n+1,b,o=>match ld G g st b o with
  | some v=>match ldN G g st n b (o+1) with
   | some l=>some (v::l)
   | none=>none
  | none=>none
def LRel (G N:Nat) (φ:Phi):List Value→List Value→Prop
 | [],[]=>True
 | v::l,u::m=>VRel G N φ v u∧LRel G N φ l m
 | _,_=>False
theorem LRel.get {N:Nat}:∀ {l m:List Value},LRel G N φ l m→l.length=m.length∧∀ (i:Nat) (v u:Value),l[i]?=some v→m[i]?=some u→VRel G N φ v u
 | [],[],_=>⟨rfl,fun i v u h=>by simp at h⟩
 | v::l,u::m,h=>by
  obtain ⟨h1,h2⟩:=h
  obtain ⟨h3,h4⟩:=LRel.get h2
  refine ⟨by simp [h3],fun i x y hx hy=> ?_⟩
  cases i with
  | zero=>simp at hx hy; subst hx; subst hy; exact h1
  | succ i=>exact h4 i x y (by simpa using hx) (by simpa using hy)
 | [],_::_,h=>h.elim
 | _::_,[],h=>h.elim
theorem LRel.arr {N:Nat} {l m:List Value} (h:LRel G N φ l m):ARel G N φ ⟨l⟩ ⟨m⟩:=
 ⟨by simpa using h.get.1,fun i v u h1 h2=>h.get.2 i v u (by simpa using h1) (by simpa using h2)⟩
theorem LRel.of_arr {N:Nat}:∀ {l m:List Value},ARel G N φ ⟨l⟩ ⟨m⟩→LRel G N φ l m
 | [],[],_=>trivial
 | v::l,u::m,h=>⟨h.2 0 v u rfl rfl,LRel.of_arr ⟨by have:=h.1; simpa using this,fun i x y hx hy=>h.2 (i+1) x y (by simpa using hx) (by simpa using hy)⟩⟩
 | [],_::_,h=>by have:=h.1; simp at this
 | _::_,[],h=>by have:=h.1; simp at this
theorem LRel.mono {N N':Nat} {φ':Phi} (hN:N≤N') (h:∀ id,id < N→φ' id=φ id):∀ {l m:List Value},LRel G N φ l m→LRel G N' φ' l m
 | [],[],_=>trivial
 | _::_,_::_,hl=>⟨hl.1.mono hN h,LRel.mono hN h hl.2⟩
 | [],_::_,hl=>hl.elim
 | _::_,[],hl=>hl.elim
theorem ldN_sound (hR:R G N0 g φ st w):∀ (n b o:Nat) {l:List Value},ldN G g st n b o=some l→
  ∃ m,LRel G st.next φ l m∧m.length=n∧∀ (j:Nat) (v:Value),m[j]?=some v→w.cell? ((φ.conc G b o).add j)=some v
 | 0,b,o,l,h=>by
  simp [ldN] at h; subst h
  exact ⟨[],trivial,rfl,fun j v hj=>by simp at hj⟩
 | n+1,b,o,l,h=>by
  unfold ldN at h
  split at h
  ·rename_i v hv
   split at h
   ·rename_i l' hl
    cases h
    obtain ⟨v',h1,h2⟩:=ld_sound hR hv
    obtain ⟨m,h3,h4,h5⟩:=ldN_sound hR n b (o+1) hl
    refine ⟨v'::m,⟨h2,h3⟩,by simp [h4],fun j u hj=> ?_⟩
    cases j with
    | zero=>
     have:u=v':=by simpa using hj.symm
     subst this
     rw [Phi.conc_add]; exact h1
    | succ j=>
     have:=h5 j u (by simpa using hj)
     rw [Phi.conc_add] at this ⊢
     rwa [show o+(j+1)=o+1+j by omega]
   ·cases h
  ·cases h
def ldVar (P:Program) (G:Nat) (g:Glob) (st:St) (t:TypeId) (b o:Nat):Option Value:=
 match aggAt P t with
 | some true=>match sizeAt P t with
  | some n=>match ldN G g st n b o with
   | some l=>some (.agg ⟨l⟩)
   | none=>none
  | none=>none
 | some false=>ld G g st b o
 | none=>none
theorem ldVar_sound (hR:R G N0 g φ st w) {t:TypeId} {b o:Nat} {v:Value} (h:ldVar P G g st t b o=some v) :
  ∃ v',(loadVar t (φ.conc G b o)).run P w= .ok v' w∧VRel G st.next φ v v':=by
 unfold ldVar at h
 split at h
 ·rename_i ha
  split at h
  ·rename_i n hs
   split at h
   ·rename_i l hl
    cases h
    obtain ⟨m,h1,rfl,h3⟩:=ldN_sound hR _ _ _ hl
    have h4:=run_loadCells_list (P:=P) w _ m h3
    refine ⟨.agg m.toArray,by simp [loadVar,run_aggAt ha,run_sizeAt hs,h4],?_⟩
    exact .agg h1.arr.1 h1.arr.2
   ·cases h
  ·cases h
 ·rename_i ha
  obtain ⟨v',h1,h2⟩:=ld_sound hR h
  exact ⟨v',by simp [loadVar,run_aggAt ha,h1],h2⟩
 ·cases h
def evalLoad (P:Program) (G:Nat) (g:Glob) (st:St) (t:TypeId) (x:Value):Option Value:=
 match x with
 | .pointer (some ⟨b,o,none⟩)=>ldVar P G g st t b o
 | _=>none
theorem evalLoad_sound (hR:R G N0 g φ st w) {t:TypeId} {x x' v:Value} (h:evalLoad P G g st t x=some v) (hx:VRel G st.next φ x x') :
  ∃ v',(Instr.loadAt t x').run P w= .ok v' w∧VRel G st.next φ v v':=by
 unfold evalLoad at h
 split at h
 ·obtain ⟨_,_,rfl⟩:=hx.ptr_inv
  obtain ⟨v',h1,h2⟩:=ldVar_sound hR h
  exact ⟨v',by simp [Instr.loadAt,Instr.sureAddr,h1],h2⟩
 ·cases h
def oneB:Value→Bool
 | .agg _ | .tuple _=>false
 | _=>true
theorem VRel.one {N:Nat} {v v':Value} (h:VRel G N φ v v') (h1:oneB v=true):v'.oneCell'=true:=by
 cases h <;> simp [oneB,Value.oneCell'] at h1 ⊢
 rename_i hf
 cases v <;> simp at h1 ⊢
def stv (G:Nat) (st:St) (b o:Nat) (v:Value):Option St:=
 bif Nat.blt b G || !oneB v then none else
 match st.heap.get b with
 | some (.cells c n e)=>bif Nat.blt o n then some { st with heap:=st.heap.set b (.cells (c.set o v) n e) } else none
 | some (.grown c n e r)=>match st.fams.get r with
  | some f=>bif Nat.beq f.tip b && Nat.blt o n && Nat.ble f.low b then some { st with heap:=st.heap.set b (.grown (c.set o v) n e r),fams:=st.fams.set r ⟨f.tip,b⟩ } else none
  | none=>none
 | _=>none
theorem heap_setCell {w:World} {b o:Nat} {a:Array Value} {e:TypeId} {fz:Nat × Nat} {v:Value} (h:w.heap[b]?=some (.cells a e fz)) (k:Nat) :
  (w.setCell ⟨b,o,none⟩ v).heap[k]?=if k=b then some (.cells (a.setIfInBounds o v) e fz) else w.heap[k]?:=by
 simp only [World.setCell,Array.getElem?_modify]
 by_cases hk:b=k
 ·subst hk; simp [h]
 ·rw [if_neg hk,if_neg (fun h=>hk h.symm)]
theorem CellsRel.set {N:Nat} {c:T Value} {n o shift:Nat} {a:Array Value} {v v':Value} (h:CellsRel G N φ c n a shift) (hv:VRel G N φ v v') (ho:o < n) (hle:shift+n≤a.size) :
  CellsRel G N φ (c.set o v) n (a.setIfInBounds (shift+o) v') shift:=by
 intro i hi
 rw [T.get_set,Array.getElem?_setIfInBounds]
 by_cases hio:i=o
 ·subst hio
  exact ⟨v,v',by simp,by rw [if_pos rfl,if_pos (by omega)],hv⟩
 ·rw [if_neg hio,if_neg (by omega)]
  exact h i hi
theorem cell_congr {w w':World} {b o:Nat} (h:w'.heap[b]?=w.heap[b]?):w'.cell? ⟨b,o,none⟩=w.cell? ⟨b,o,none⟩:=by
 simp [World.cell?,h]
theorem R.upd (hR:R G N0 g φ st w) {b:Nat} {o o':AObj} {fams':T Fam} {w':World} (hget:st.heap.get b=some o) (hroot:o'.root?=o.root?) (hknown:o'.known=o.known)
  (hheap:∀ k,k≠(φ b).block→w'.heap[k]?=w.heap[k]?) (hsize:w'.heap.size=w.heap.size) (hos:w'.os=w.os) (htape:w'.tape=w.tape) (hout:w'.output=w.output)
  (hfam:∀ r,o.root?≠some r→fams'.get r=st.fams.get r) (htips:∀ r f',fams'.get r=some f'→∃ f,st.fams.get r=some f∧f.tip=f'.tip)
  (hobj:ObjRel G φ ⟨st.heap.set b o',fams',st.next⟩ w' b o')
  (hoth:∀ id oi r,o.root?=some r→st.heap.get id=some oi→oi.root?=some r→id≠b→ObjRel G φ ⟨st.heap.set b o',fams',st.next⟩ w' id oi) :
  R G N0 g φ ⟨st.heap.set b o',fams',st.next⟩ w'∧Tr φ st w φ ⟨st.heap.set b o',fams',st.next⟩ w':=by
 have hb:=hR.obj b o hget
 have look:∀ id oi,(st.heap.set b o').get id=some oi→∃ oo,st.heap.get id=some oo∧oi.root?=oo.root?∧oi.known=oo.known∧(id≠b→oi=oo)∧(id=b→oi=o'):=by
  intro id oi h
  rw [T.get_set] at h
  by_cases hid:id=b
  ·subst hid
   rw [if_pos rfl] at h; cases h
   exact ⟨o,hget,hroot,hknown,fun h=>absurd rfl h,fun _=>rfl⟩
  ·rw [if_neg hid] at h
   exact ⟨oi,h,rfl,rfl,fun _=>rfl,fun h=>absurd h hid⟩
 refine ⟨⟨hR.base,by rw [hsize]; exact hR.room,fun id oi h=> ?_,fun i j oi oj hi hj hbl=> ?_,fun i j oi oj r f hi hri hj hrj hf hjt hbl=> ?_,fun b' o v hv=> ?_⟩,?_⟩
 ·obtain ⟨oo,h1,h2,h3,h4,h5⟩:=look id oi h
  obtain ⟨k1,k2,k3,k4,k5⟩:=hR.obj id oo h1
  refine ⟨k1,k2,k3,by rw [hsize]; exact k4,?_⟩
  by_cases hid:id=b
  ·subst hid; rw [h5 rfl]; exact hobj
  ·have hoi:=h4 hid
   rw [hoi]
   by_cases hsame:∃ r,o.root?=some r∧oo.root?=some r
   ·obtain ⟨r,hr1,hr2⟩:=hsame
    exact hoth id oo r hr1 h1 hr2 hid
   ·refine ObjRel.congr (st:=st) (w:=w) rfl (fun _ _=>rfl) (Nat.le_refl _) ?_ (fun r hr=> ?_) k5
    ·apply hheap
     intro he
     rcases hR.sep id b oo o h1 hget he with h | ⟨r,hr1,hr2⟩
     ·exact hid h
     ·exact hsame ⟨r,hr2,hr1⟩
    ·exact fun f hf=>⟨f,by rw [hfam r fun hro=>hsame ⟨r,hro,hr⟩]; exact hf,rfl,Nat.le_refl _⟩
 ·obtain ⟨o1,h1,h2,_⟩:=look i oi hi
  obtain ⟨o2,k1,k2,_⟩:=look j oj hj
  rcases hR.sep i j o1 o2 h1 k1 hbl with h | ⟨r,hr1,hr2⟩
  ·exact .inl h
  ·exact .inr ⟨r,by rw [h2]; exact hr1,by rw [k2]; exact hr2⟩
 ·obtain ⟨o1,h1,h2,h3,_⟩:=look i oi hi
  obtain ⟨o2,k1,k2,k3,_⟩:=look j oj hj
  obtain ⟨f0,hf0,ht⟩:=htips r f hf
  rw [h3,k3]
  exact hR.tip i j o1 o2 r f0 h1 (by rw [← h2]; exact hri) k1 (by rw [← k2]; exact hrj) hf0 (by rw [ht]; exact hjt) hbl
 ·obtain ⟨h1,h2,h3,h4⟩:=hR.glob b' o v hv
  exact ⟨h1,h2,by rw [cell_congr (hheap b' (by have:=hb.2.2.1; omega))]; exact h3,h4⟩
 ·refine ⟨Nat.le_refl _,fun _ _=>rfl,fun id oi _ h=> ?_,fun id oi _ h=> ?_,fun k _ hk=>hheap k fun he=>hk b o hget he.symm,by rw [hsize]; exact Nat.le_refl _,hos,htape,hout⟩
  ·obtain ⟨oo,h1,_⟩:=look id oi h; exact ⟨oo,h1⟩
  ·obtain ⟨oo,h1,_⟩:=look id oi h; exact .inr ⟨id,oo,h1,rfl⟩
theorem stv_sound (hR:R G N0 g φ st w) {b o:Nat} {v v':Value} (h:stv G st b o v=some st') (hv:VRel G st.next φ v v') :
  (∃ u,w.cell? (φ.conc G b o)=some u)∧w.frozen? (φ.conc G b o)=false∧v'.oneCell'=true∧
  R G N0 g φ st' (w.setCell (φ.conc G b o) v')∧Tr φ st w φ st' (w.setCell (φ.conc G b o) v')∧st'.next=st.next:=by
 unfold stv at h
 cases hb:(Nat.blt b G || !oneB v) with
 | true=>rw [hb] at h; cases h
 | false=>
  rw [hb] at h
  simp only [cond_false] at h
  simp only [Bool.or_eq_false_iff,Bool.not_eq_false'] at hb
  obtain ⟨hbG,hone⟩:=hb
  have hat:φ.conc G b o=⟨(φ b).block,(φ b).shift+o,none⟩:=by rw [Phi.conc,if_neg (blt_false hbG)]; rfl
  rw [hat]
  split at h
  ·rename_i c n e hget
   obtain ⟨k1,k2,k3,k4,hsh,a,ha,hsz,hcs⟩:=hR.obj b _ hget
   cases ho:Nat.blt o n with
   | false=>rw [ho] at h; cases h
   | true=>
    rw [ho] at h
    simp only [cond_true] at h
    cases h
    have ho':=blt_true ho
    have hset:=heap_setCell (o:=(φ b).shift+o) (v:=v') ha
    refine ⟨⟨a[o]'(by omega),?_⟩,?_,hv.one hone,?_⟩
    ·rw [cell_of_block ha,hsh]; simp
    ·simp [World.frozen?,ha]
    ·have hobj:ObjRel G φ ⟨st.heap.set b (.cells (c.set o v) n e),st.fams,st.next⟩ (w.setCell ⟨(φ b).block,(φ b).shift+o,none⟩ v') b (.cells (c.set o v) n e):=by
      refine ⟨hsh,a.setIfInBounds ((φ b).shift+o) v',by rw [hset,if_pos rfl],by simpa using hsz,?_⟩
      have:=hcs.set hv ho' (by omega:0+n≤a.size)
      rw [hsh]; exact this
     have:=hR.upd (o':= .cells (c.set o v) n e) (fams':=st.fams) (w':=w.setCell ⟨(φ b).block,(φ b).shift+o,none⟩ v') hget rfl rfl
      (fun k hk=>by rw [hset,if_neg hk]) (by simp [World.setCell]) rfl rfl rfl (fun _ _=>rfl) (fun r f' hf=>⟨f',hf,rfl⟩) hobj (fun id oi r hr=>by simp [AObj.root?] at hr)
     exact ⟨this.1,this.2,rfl⟩
  ·rename_i c n e r hget
   obtain ⟨k1,k2,k3,k4,a,fz,f,ha,hfz,hsz,hle,hfam,htip,hro,hcs⟩:=hR.obj b _ hget
   rw [hfam] at h
   simp only at h
   cases ho:(Nat.beq f.tip b && Nat.blt o n && Nat.ble f.low b) with
   | false=>rw [ho] at h; cases h
   | true=>
    rw [ho] at h
    simp only [cond_true] at h
    cases h
    simp only [Bool.and_eq_true] at ho
    obtain ⟨⟨htb,ho'⟩,hlow⟩:=ho
    have htb:=Nat.eq_of_beq_eq_true htb
    have ho':=blt_true ho'
    have hlow:=Nat.le_of_ble_eq_true hlow
    have hset:=heap_setCell (o:=(φ b).shift+o) (v:=v') ha
    refine ⟨⟨a[(φ b).shift+o]'(by omega),?_⟩,?_,hv.one hone,?_⟩
    ·rw [cell_of_block ha]; simp
    ·simp only [World.frozen?,ha]
     rcases hfz hlow with ⟨h1,h2⟩ | h1
     ·simp [h2]
     ·simp; omega
    ·have hfs:∀ r',(st.fams.set r ⟨f.tip,b⟩).get r'=if r'=r then some ⟨f.tip,b⟩ else st.fams.get r':=fun r'=>T.get_set _ _ _ _
     have hobj:ObjRel G φ ⟨st.heap.set b (.grown (c.set o v) n e r),st.fams.set r ⟨f.tip,b⟩,st.next⟩ (w.setCell ⟨(φ b).block,(φ b).shift+o,none⟩ v') b (.grown (c.set o v) n e r):=by
      refine ⟨a.setIfInBounds ((φ b).shift+o) v',fz,⟨f.tip,b⟩,by rw [hset,if_pos rfl],fun _=>by simpa using hfz hlow,by simpa using hsz,by simpa using hle,by rw [hfs,if_pos rfl],by simp [htb],hro,fun _=> ?_⟩
      exact (hcs hlow).set hv ho' hle
     have:=hR.upd (o':= .grown (c.set o v) n e r) (fams':=st.fams.set r ⟨f.tip,b⟩) (w':=w.setCell ⟨(φ b).block,(φ b).shift+o,none⟩ v') hget rfl rfl
      (fun k hk=>by rw [hset,if_neg hk]) (by simp [World.setCell]) rfl rfl rfl
      (fun r' hr'=>by rw [hfs,if_neg (fun h=>hr' (by rw [h]; rfl))])
      (fun r' f' hf'=>by
       rw [hfs] at hf'
       by_cases hrr:r'=r
       ·subst hrr; rw [if_pos rfl] at hf'; cases hf'; exact ⟨f,hfam,rfl⟩
       ·rw [if_neg hrr] at hf'; exact ⟨f',hf',rfl⟩)
      hobj
      (fun id oi r' hr' hid hroot hne=>by
       cases hr'
       cases oi with
       | grown ci ni ei ri=>
        cases hroot
        obtain ⟨j1,j2,j3,j4,a2,fz2,f2,ha2,hfz2,hsz2,hle2,hfam2,htip2,hro2,_⟩:=hR.obj id _ hid
        rw [hfam] at hfam2; cases hfam2
        have hlt:id < b:=by omega
        by_cases hbl:(φ id).block=(φ b).block
        ·rw [hbl] at ha2
         rw [ha] at ha2; cases ha2
         exact ⟨a.setIfInBounds ((φ b).shift+o) v',fz,⟨f.tip,b⟩,by rw [hset,if_pos hbl],fun hl=>by (simp only at hl; omega),by simpa using hsz2,by simpa using hle2,by rw [hfs,if_pos rfl],htip2,hro2,fun hl=>by simp only at hl; omega⟩
        ·exact ⟨a2,fz2,⟨f.tip,b⟩,by rw [hset,if_neg hbl]; exact ha2,fun hl=>by (simp only at hl; omega),hsz2,hle2,by rw [hfs,if_pos rfl],htip2,hro2,fun hl=>by simp only at hl; omega⟩
       | cells=>simp [AObj.root?] at hroot
       | map=>simp [AObj.root?] at hroot
       | iter=>simp [AObj.root?] at hroot
       | walk=>simp [AObj.root?] at hroot
       | loop=>simp [AObj.root?] at hroot
       | marks=>simp [AObj.root?] at hroot
       | spent=>simp [AObj.root?] at hroot)
     exact ⟨this.1,this.2,rfl⟩
  ·cases h
end Go.Ev
namespace Go.Ev
variable {P:Program} {G N0:Nat} {g:Glob} {φ:Phi} {st st':St} {w:World}
def stN (G:Nat):St→Nat→Nat→List Value→Option St
 | st,_,_,[]=>some st
 | st,b,o,v::l=>match stv G st b o v with
  | some st₁=>stN G st₁ b (o+1) l
  | none=>none
theorem stN_sound (P:Program) {b:Nat}:∀ (l m:List Value) (o i:Nat) (st st':St) (w:World),R G N0 g φ st w→stN G st b (o+i) l=some st'→LRel G st.next φ l m→
  ∃ w',(storeCells (φ.conc G b o) m i).run P w= .ok () w'∧R G N0 g φ st' w'∧Tr φ st w φ st' w'∧st'.next=st.next
 | [],[],o,i,st,st',w,hR,h,_=>by
  simp [stN] at h; subst h
  exact ⟨w,rfl,hR,Tr.refl _ _ _,rfl⟩
 | v::l,u::m,o,i,st,st',w,hR,h,hl=>by
  unfold stN at h
  split at h
  ·rename_i st₁ h₁
   obtain ⟨⟨x,hx⟩,hfz,hone,hR₁,hT₁,hn₁⟩:=stv_sound hR h₁ hl.1
   obtain ⟨w',h2,h3,h4,h5⟩:=stN_sound P l m o (i+1) st₁ st' _ hR₁ (by rw [← Nat.add_assoc]; exact h) (by rw [hn₁]; exact hl.2)
   refine ⟨w',?_,h3,hT₁.trans h4,h5.trans hn₁⟩
   simp only [storeCells,Sem.run_bind,Phi.conc_add,run_store P w _ u _ hone,hx,hfz,Bool.false_eq_true,if_false,Result.andThen_ok]
   exact h2
  ·cases h
 | [],_::_,_,_,_,_,_,_,_,hl=>hl.elim
 | _::_,[],_,_,_,_,_,_,_,hl=>hl.elim
def evalStore (P:Program) (G:Nat) (st:St) (t:TypeId) (x v:Value):Option St:=
 match x with
 | .pointer (some ⟨b,o,none⟩)=>match sizeAt P t with
  | some n=>if v.cells.size=n then stN G st b o v.cells.toList else none
  | none=>none
 | _=>none
theorem evalStore_sound (hR:R G N0 g φ st w) {t:TypeId} {x x' v v':Value} (h:evalStore P G st t x v=some st') (hx:VRel G st.next φ x x') (hv:VRel G st.next φ v v') :
  ∃ w',(Instr.storeAt t x' v').run P w= .ok () w'∧R G N0 g φ st' w'∧Tr φ st w φ st' w'∧st'.next=st.next:=by
 unfold evalStore at h
 split at h
 ·rename_i b o
  obtain ⟨_,_,rfl⟩:=hx.ptr_inv
  split at h
  ·rename_i n hs
   split at h
   ·rename_i hsz
    have hc:=hv.cells
    obtain ⟨w',h1,h2,h3,h4⟩:=stN_sound P v.cells.toList v'.cells.toList o 0 st st' w hR h (LRel.of_arr (by simpa using hc))
    refine ⟨w',?_,h2,h3,h4⟩
    have:v'.cells.size=n:=by rw [← hc.1,hsz]
    simp [Instr.storeAt,Instr.sureAddr,storeVar,run_sizeAt hs,this,h1]
   ·cases h
  ·cases h
 ·cases h
def Phi.upd (φ:Phi) (id:Nat) (l:Loc):Phi:=fun i=>if i=id then l else φ i
theorem Phi.upd_at (φ:Phi) (id:Nat) (l:Loc):φ.upd id l id=l:=by simp [Phi.upd]
theorem Phi.upd_ne (φ:Phi) {id i:Nat} (l:Loc) (h:i≠id):φ.upd id l i=φ i:=by simp [Phi.upd,h]
theorem heap_alloc {w:World} {o:Obj} (k:Nat):(w.alloc o).heap[k]?=if k=w.heap.size then some o else w.heap[k]?:=by
 show (w.heap.push o)[k]?=_
 rw [Array.getElem?_push]
theorem alloc_size {w:World} {o:Obj}:(w.alloc o).heap.size=w.heap.size+1:=by
 show (w.heap.push o).size=_
 simp
theorem R.new (hR:R G N0 g φ st w) {o:AObj} {ob:Obj} {l:Loc} {fams':T Fam} (hl:l.block=w.heap.size)
  (hfam:∀ r f,r < st.next→st.fams.get r=some f→∃ f',fams'.get r=some f'∧f'.low=f.low∧f.tip≤f'.tip)
  (hfam2:∀ r f',fams'.get r=some f'→f'.tip < st.next→st.fams.get r=some f')
  (hobj:∀ φ':Phi,φ' st.next=l→(∀ i,i < st.next→φ' i=φ i)→ObjRel G φ' ⟨st.heap.set st.next o,fams',st.next+1⟩ (w.alloc ob) st.next o) :
  R G N0 g (φ.upd st.next l) ⟨st.heap.set st.next o,fams',st.next+1⟩ (w.alloc ob)∧Tr φ st w (φ.upd st.next l) ⟨st.heap.set st.next o,fams',st.next+1⟩ (w.alloc ob):=by
 have hext:∀ i,i < st.next→φ.upd st.next l i=φ i:=fun i hi=>Phi.upd_ne _ _ (by omega)
 have look:∀ id oi,(st.heap.set st.next o).get id=some oi→(id=st.next∧oi=o)∨(id < st.next∧st.heap.get id=some oi):=by
  intro id oi h
  rw [T.get_set] at h
  by_cases hid:id=st.next
  ·rw [if_pos hid] at h; cases h; exact .inl ⟨hid,rfl⟩
  ·rw [if_neg hid] at h; exact .inr ⟨(hR.obj id oi h).2.1,h⟩
 have hbs:∀ k,k < w.heap.size→(w.alloc ob).heap[k]?=w.heap[k]?:=fun k hk=>by rw [heap_alloc,if_neg (by omega)]
 refine ⟨⟨Nat.le_succ_of_le hR.base,by rw [alloc_size]; exact Nat.le_succ_of_le hR.room,fun id oi h=> ?_,fun i j oi oj hi hj hbl=> ?_,fun i j oi oj r f hi hri hj hrj hf hjt hbl=> ?_,fun b o v hv=> ?_⟩,?_⟩
 ·rcases look id oi h with ⟨rfl,rfl⟩ | ⟨hlt,h1⟩
  ·refine ⟨hR.base,Nat.lt_succ_self _,by rw [Phi.upd_at,hl]; exact hR.room,by rw [Phi.upd_at,hl,alloc_size]; exact Nat.lt_succ_self _,?_⟩
   exact hobj _ (Phi.upd_at _ _ _) hext
  ·obtain ⟨k1,k2,k3,k4,k5⟩:=hR.obj id oi h1
   refine ⟨k1,by simp only; omega,by rw [hext id hlt]; exact k3,by rw [hext id hlt,alloc_size]; omega,?_⟩
   exact ObjRel.congr (st:=st) (w:=w) (hext id hlt) hext (Nat.le_succ _) (hbs _ k4) (fun r hr f hf=>hfam r f (hR.root_lt h1 hr) hf) k5
 ·rcases look i oi hi with ⟨rfl,rfl⟩ | ⟨hi1,hi2⟩ <;> rcases look j oj hj with ⟨rfl,rfl⟩ | ⟨hj1,hj2⟩
  ·exact .inl rfl
  ·rw [Phi.upd_at,hext j hj1,hl] at hbl
   have:=(hR.obj j oj hj2).2.2.2.1; omega
  ·rw [Phi.upd_at,hext i hi1,hl] at hbl
   have:=(hR.obj i oi hi2).2.2.2.1; omega
  ·rw [hext i hi1,hext j hj1] at hbl
   exact hR.sep i j oi oj hi2 hj2 hbl
 ·rcases look i oi hi with ⟨rfl,rfl⟩ | ⟨hi1,hi2⟩ <;> rcases look j oj hj with ⟨rfl,rfl⟩ | ⟨hj1,hj2⟩
  ·exact Nat.le_refl _
  ·rw [Phi.upd_at,hext j hj1,hl] at hbl
   have:=(hR.obj j oj hj2).2.2.2.1; omega
  ·rw [Phi.upd_at,hext i hi1,hl] at hbl
   have:=(hR.obj i oi hi2).2.2.2.1; omega
  ·rw [hext i hi1,hext j hj1] at hbl ⊢
   exact hR.tip i j oi oj r f hi2 hri hj2 hrj (hfam2 r f hf (by omega)) hjt hbl
 ·obtain ⟨h1,h2,h3,h4⟩:=hR.glob b o v hv
  exact ⟨h1,h2,by rw [cell_congr (hbs b (by have:=hR.room; omega))]; exact h3,h4⟩
 ·refine ⟨Nat.le_succ _,hext,fun id oi hid h=> ?_,fun id oi hid h=> ?_,fun k hk _=>hbs k hk,by rw [alloc_size]; exact Nat.le_succ _,rfl,rfl,rfl⟩
  ·rcases look id oi h with ⟨rfl,rfl⟩ | ⟨_,h1⟩
   ·omega
   ·exact ⟨oi,h1⟩
  ·rcases look id oi h with ⟨rfl,rfl⟩ | ⟨h1,_⟩
   ·exact .inl (by rw [Phi.upd_at,hl]; exact Nat.le_refl _)
   ·omega
end Go.Ev
namespace Go.Ev
variable {P:Program} {G N0:Nat} {g:Glob} {φ:Phi} {st st':St} {w:World}
theorem LRel.cells {N:Nat} {l m:List Value} (h:LRel G N φ l m):CellsRel G N φ (T.lay .nil 0 l) l.length ⟨m⟩ 0:=by
 intro i hi
 obtain ⟨h1,h2⟩:=h.get
 have hm:i < m.length:=h1▸hi
 refine ⟨l[i],m[i],?_,by simp,h2 i _ _ (by simp) (by simp)⟩
 rw [T.get_lay,if_pos (by omega)]
 simp
def St.newCells (st:St) (l:List Value) (e:TypeId):St:=⟨st.heap.set st.next (.cells (T.lay .nil 0 l) l.length e),st.fams,st.next+1⟩
theorem R.newCells (hR:R G N0 g φ st w) {l m:List Value} {e:TypeId} (hl:LRel G st.next φ l m) :
  ∃ φ',R G N0 g φ' (st.newCells l e) (w.alloc (.cells ⟨m⟩ e (0,0)))∧Tr φ st w φ' (st.newCells l e) (w.alloc (.cells ⟨m⟩ e (0,0)))∧
   ∀ o,φ'.conc G st.next o=⟨w.heap.size,o,none⟩:=by
 have:=hR.new (o:= .cells (T.lay .nil 0 l) l.length e) (ob:= .cells ⟨m⟩ e (0,0)) (l:=⟨w.heap.size,0,l.length⟩) (fams':=st.fams) rfl (fun _ f _ hf=>⟨f,hf,rfl,Nat.le_refl _⟩) (fun _ _ hf _=>hf)
  (fun φ' h1 h2=>⟨by rw [h1],⟨m⟩,by rw [h1,heap_alloc,if_pos rfl],by simpa using hl.get.1.symm,LRel.cells (hl.mono (Nat.le_succ _) h2)⟩)
 exact ⟨_,this.1,this.2,fun o=>by rw [Phi.conc,if_neg (by have:=hR.base; omega),Phi.at,Phi.upd_at]; simp⟩
def reps (z:List Value):Nat→List Value
 | 0=>[]
 | c+1=>z++reps z c
theorem reps_length (z:List Value):∀ c,(reps z c).length=c*z.length
 | 0=>by simp [reps]
 | c+1=>by simp [reps,reps_length z c,Nat.add_mul,Nat.add_comm]
theorem reps_get (z:List Value):∀ (c i:Nat),i < c*z.length→(reps z c)[i]?=z[i % z.length]?
 | 0,i,h=>by simp at h
 | c+1,i,h=>by
  rw [reps,List.getElem?_append]
  by_cases hi:i < z.length
  ·rw [if_pos hi,Nat.mod_eq_of_lt hi]
  ·rw [if_neg hi,reps_get z c (i - z.length) (by rw [Nat.add_mul] at h; omega)]
   congr 1
   conv=>rhs; rw [show i=(i - z.length)+z.length by omega,Nat.add_mod_right]
theorem reps_range (z:Array Value) (c:Nat):(Array.range (c*z.size)).map (fun i=>z[i % z.size]!)=(reps z.toList c).toArray:=by
 apply Array.ext_getElem?
 intro i
 by_cases hi:i < c*z.size
 ·have hz:0 < z.size:=by
   rcases Nat.eq_zero_or_pos z.size with h | h
   ·rw [h] at hi; simp at hi
   ·exact h
  have hm:i % z.size < z.size:=Nat.mod_lt _ hz
  have:=reps_get z.toList c i (by simpa using hi)
  simp [hi,this,hm]
 ·have h2:(reps z.toList c).length≤i:=by rw [reps_length]; simpa using hi
  rw [Array.getElem?_eq_none (by simpa using Nat.le_of_not_lt hi),Array.getElem?_eq_none (by simpa using h2)]
theorem reps_flat {z:List Value} (h:flatL z=true):∀ c,flatL (reps z c)=true
 | 0=>rfl
 | c+1=>by
  have app:∀ (a b:List Value),flatL a=true→flatL b=true→flatL (a++b)=true:=by
   intro a; induction a with
   | nil=>exact fun _ _ h=>h
   | cons x a ih=>intro b h1 h2; simp only [flatL,List.cons_append,Bool.and_eq_true] at h1 ⊢; exact ⟨h1.1,ih b h1.2 h2⟩
  exact app _ _ h (reps_flat h c)
theorem flatA_eq (a:Array Value):flatA a=flatL a.toList:=by cases a; rfl
theorem LRel.refl_flat {N:Nat}:∀ {l:List Value},flatL l=true→LRel G N φ l l
 | [],_=>trivial
 | v::l,h=>by simp only [flatL,Bool.and_eq_true] at h; exact ⟨.flat h.1,LRel.refl_flat h.2⟩
inductive Handle where
 | ptr
 | slice (len cap:Nat)
def Handle.value (h:Handle) (a:Addr):Value:=
 match h with
 | .ptr=> .pointer (some a)
 | .slice l c=> .slice (some a) l c
def Handle.ok:Handle→Bool
 | .ptr=>true
 | .slice _ c=>Nat.blt c openCap
def zeroAt (P:Program) (t:TypeId):Option Value:=(P.info? t).bind (·.zero)
def evalAlloc (P:Program) (ρ:Operand→Value) (op:Op):Option (List Value × TypeId × Handle):=
 match op with
 | .alloc t=>match zeroAt P t with
  | some z=>if flat z then some (z.cells.toList,t,.ptr) else none
  | none=>none
 | .box t x=>some ((ρ x).cells.toList,t,.ptr)
 | .buildSlice t len parts=>match P.underlying t with
  | some (.slice elem)=>match sizeAt P elem,zeroAt P elem with
   | some size,some z=>
    if len*size≤16777216∧z.cells.size=size∧flat z then
     match Instr.fill (fun i=>some (i*size,size)) ⟨reps z.cells.toList len⟩ (parts.toList.map fun p=>(p.1,ρ p.2)) with
     | some cs=>some (cs.toList,elem,.slice len len)
     | none=>none
    else none
   | _,_=>none
  | _=>none
 | .makeSlice t l c=>match P.underlying t,ρ l,ρ c with
  | some (.slice elem),.int _ (.ofNat n),.int _ (.ofNat m)=>match P.info? elem with
   | some i=>match i.zero with
    | some z=>if i.bytes*m≤281474976710656∧n≤m∧m < 9223372036854775808∧z.cells.size=i.size∧flat z then some (reps z.cells.toList m,elem,.slice n m) else none
    | none=>none
   | none=>none
  | _,_,_=>none
 | _=>none
theorem wrap_i64 {n:Nat} (h:n < 9223372036854775808):IntKind.i64.wrap (Int.ofNat n)=(n:Int):=by
 have h1:(n:Int) % 18446744073709551616=(n:Int):=by omega
 simp [IntKind.wrap,IntKind.bits,IntKind.signed,h1]
 omega
theorem evalAlloc_sound {N:Nat} {ρ ρ':Operand→Value} {o:Oper} {l:List Value} {e:TypeId} {k:Handle} (h:evalAlloc P ρ o.op=some (l,e,k)) (hr:OpRel G N φ o ρ ρ') :
  ∃ m,LRel G N φ l m∧∀ w,(execOp ρ' o).run P w= .ok (.value (k.value ⟨w.heap.size,0,none⟩)) (w.alloc (.cells ⟨m⟩ e (0,0))):=by
 obtain ⟨dst,op,type,pos,after,guard⟩:=o
 unfold OpRel at hr
 simp only at h hr
 unfold evalAlloc at h
 split at h
 ·rename_i t
  split at h
  ·rename_i z hz
   split at h
   ·rename_i hf
    cases h
    refine ⟨z.cells.toList,LRel.refl_flat (by have:=flat_cells hf; rwa [flatA_eq] at this),fun w=> ?_⟩
    simp [execOp,Instr.alloc,run_zero hz,newVar,newRow,Handle.value]
   ·cases h
  ·cases h
 ·rename_i t x
  cases h
  have hx:=(hr x (by simp [Op.operands])).cells
  refine ⟨(ρ' x).cells.toList,LRel.of_arr (by simpa using hx),fun w=> ?_⟩
  simp [execOp,Instr.box,newVar,newRow,Handle.value]
 ·rename_i t len parts
  split at h
  ·rename_i elem hu
   split at h
   ·rename_i size z hs hz
    split at h
    ·rename_i hc
     obtain ⟨hc1,hc2,hc3⟩:=hc
     split at h
     ·rename_i cs hfill
      cases h
      have hfz:flatL z.cells.toList=true:=by have:=flat_cells hc3; rwa [flatA_eq] at this
      have hzr:ARel G N φ (⟨reps z.cells.toList len⟩:Array Value) ⟨reps z.cells.toList len⟩:=(LRel.refl_flat (reps_flat hfz len)).arr
      have hp:=partsRel_of (G:=G) (N:=N) (φ:=φ) (ρ:=ρ) (ρ':=ρ') parts.toList fun x hx=>hr x (by simpa [Op.operands] using hx)
      obtain ⟨out',h1,h2⟩:=fill_rel _ _ _ _ _ _ hp hzr hfill
      refine ⟨out'.toList,LRel.of_arr (by simpa using h2),fun w=> ?_⟩
      have e2:(Array.range (len*size)).map (fun i=>z.cells[i % z.cells.size]!)=⟨reps z.cells.toList len⟩:=by rw [← hc2]; exact reps_range z.cells len
      by_cases h0:len*size=0
      ·have e3:(⟨reps z.cells.toList len⟩:Array Value)=#[]:=by
        have:(reps z.cells.toList len).length=0:=by rw [reps_length]; simpa [hc2] using h0
        rw [List.eq_nil_of_length_eq_zero this]
       rw [e3] at h1
       have e5:Array.range 0=#[]:=rfl
       simp [execOp,Instr.buildSlice,run_underlying hu,run_sizeAt hs,h0,e5,h1,newRow,Handle.value]
      ·simp [execOp,Instr.buildSlice,run_underlying hu,run_sizeAt hs,hc1,h0,run_zero hz,e2,h1,newRow,Handle.value]
     ·cases h
    ·cases h
   ·cases h
  ·cases h
 ·rename_i t l c
  split at h
  ·rename_i elem k1 n k2 m hu hl hcv
   split at h
   ·rename_i i hi
    split at h
    ·rename_i z hz
     split at h
     ·rename_i hc
      obtain ⟨hb,hnm,hm,hsz,hf⟩:=hc
      cases h
      have hfz:flatL z.cells.toList=true:=by have:=flat_cells hf; rwa [flatA_eq] at this
      refine ⟨reps z.cells.toList m,LRel.refl_flat (reps_flat hfz m),fun w=> ?_⟩
      have e1:ρ' l= .int k1 (Int.ofNat n):=by have:=hr l (by simp [Op.operands]); rw [hl] at this; exact this.int_inv
      have e2:ρ' c= .int k2 (Int.ofNat m):=by have:=hr c (by simp [Op.operands]); rw [hcv] at this; exact this.int_inv
      have w1:=wrap_i64 (by omega:n < 9223372036854775808)
      have w2:=wrap_i64 hm
      have hz':∀ w,(zeroValue e).run P w= .ok z w:=run_zero (by rw [hi]; exact hz)
      have hs':∀ w,(sizeOf e).run P w= .ok i.size w:=run_sizeAt (by rw [sizeAt,hi]; rfl)
      have hti:∀ w,(typeInfo e).run P w= .ok i w:=fun w=>by unfold typeInfo; simp only [Sem.run_bind]; show Result.andThen (.ok P w) _=_; simp only [Result.andThen_ok,hi,Sem.run_pure]
      have hb':¬ ((i.bytes:Int)*(m:Int) > 2 ^ 48):=by
       rw [← Int.natCast_mul]
       generalize i.bytes*m=q at hb ⊢
       omega
      have hroom:∀ n w,(askRoom n).run P w= .ok () w:=fun n w=>by unfold askRoom; split <;> rfl
      have e3:(Array.range (m*i.size)).map (fun j=>z.cells[j % z.cells.size]!)=⟨reps z.cells.toList m⟩:=by rw [← hsz]; exact reps_range z.cells m
      have hcond:((decide ((m:Int) < 0) || decide ((i.bytes:Int)*(m:Int) > 2 ^ 48)) || decide ((n:Int) < 0) || decide ((n:Int) > (m:Int)))=false:=by
       simp only [Bool.or_eq_false_iff,decide_eq_false_iff_not]; omega
      simp only [execOp,Instr.makeSlice,e1,e2,Sem.run_bind,run_underlying hu,Result.andThen_ok,asInt,asIntOf,Sem.run_pure,hti,w1,w2,hcond,Bool.false_eq_true,if_false,hroom,Int.toNat_natCast,hs']
      by_cases h0:m*i.size=0
      ·have e5:Array.range 0=#[]:=rfl
       have e6:(reps z.cells.toList m)=[]:=List.eq_nil_of_length_eq_zero (by rw [reps_length]; simpa [hsz] using h0)
       simp [h0,e5,e6,newRow,Handle.value]
      ·simp [h0,hz',e3,newRow,Handle.value]
     ·cases h
    ·cases h
   ·cases h
  ·cases h
 ·cases h
end Go.Ev
