/- A region that draws its order: the operations that only look may be taken first, in the order of the text; those that change memory, one behind the other, after them. -/
import Derived.Test.YtmenpmbgennhoaaGreatDoorPln
namespace Go.Ev
variable {P:Program} {ops:Array Oper}
def frb (ops:Array Oper) (sel:Nat→Bool) (val:Nat→Value) (a0:Act):Nat→Act
 | 0=>a0
 | i+1=>match ops[i]? with
  | some o=>if sel i=true then (frb ops sel val a0 i).put o.dst (val i) else frb ops sel val a0 i
  | none=>frb ops sel val a0 i
theorem frb_size {sel:Nat→Bool} {val:Nat→Value} {a0:Act}:∀ i,(frb ops sel val a0 i).tmps.size=a0.tmps.size
 | 0=>rfl
 | i+1=>by
  unfold frb
  split
  ·split
   ·rw [put_size]; exact frb_size i
   ·exact frb_size i
  ·exact frb_size i
theorem frb_defers {sel:Nat→Bool} {val:Nat→Value} {a0:Act}:∀ i,(frb ops sel val a0 i).defers=a0.defers
 | 0=>rfl
 | i+1=>by
  unfold frb
  split
  ·split
   ·rw [put_defers]; exact frb_defers i
   ·exact frb_defers i
  ·exact frb_defers i
theorem frb_keep {sel:Nat→Bool} {val:Nat→Value} {a0:Act} {t:Nat}:∀ i,(∀ j oj,j < i→sel j=true→ops[j]?=some oj→oj.dst≠some t)→(frb ops sel val a0 i).tmps[t]?=a0.tmps[t]?
 | 0,_=>rfl
 | i+1,h=>by
  unfold frb
  split
  ·rename_i o ho
   split
   ·rename_i hs
    rw [put_get_ne _ _ (h i o (by omega) hs ho)]
    exact frb_keep i fun j oj hj=>h j oj (by omega)
   ·exact frb_keep i fun j oj hj=>h j oj (by omega)
  ·exact frb_keep i fun j oj hj=>h j oj (by omega)
theorem frb_wrote {sel:Nat→Bool} {val:Nat→Value} {a0:Act} {t j:Nat} {oj:Oper} (hj:ops[j]?=some oj) (hsel:sel j=true) (hd:oj.dst=some t) (ht:t < a0.tmps.size)
  (hu:∀ q oq,q≠j→ops[q]?=some oq→oq.dst≠some t):∀ i,j < i→(frb ops sel val a0 i).tmps[t]?=some (val j)
 | 0,h=>by omega
 | i+1,h=>by
  unfold frb
  by_cases hji:j=i
  ·subst hji
   rw [hj]
   simp only [hsel,if_true]
   rw [hd,put_get_eq _ _ (by rw [frb_size]; exact ht)]
  ·split
   ·rename_i o ho
    split
    ·rw [put_get_ne _ _ (hu i o (fun h=>hji h.symm) ho)]
     exact frb_wrote hj hsel hd ht hu i (by omega)
    ·exact frb_wrote hj hsel hd ht hu i (by omega)
   ·exact frb_wrote hj hsel hd ht hu i (by omega)
theorem step_move {i:Nat} {o:Oper} (ho:ops[i]?=some o) (hs:noSelect ops.toList=true) {a b:Act} {w:World} (hsz:b.tmps.size=a.tmps.size) (hslot:∀ t,t ∈ namesOf ops.toList o→b.tmps[t]?=a.tmps[t]?)
  {S:Value→World→Prop} {K:Act→World→Prop} (hK:∀ v w',S v w'→K (b.put o.dst v) w')
  (h:if Region.wanted o (yielded ops a.tmps)=true then o.wp P a w (fun a' w'=>∃ v,a'=a.put o.dst v∧S v w') (fun _ _ _=>False) else ∃ v,a.put o.dst undef=a.put o.dst v∧S v w) :
  if Region.wanted o (yielded ops b.tmps)=true then o.wp P b w K (fun _ _ _=>False) else K (b.put o.dst undef) w:=by
 have hwant:Region.wanted o (yielded ops b.tmps)=Region.wanted o (yielded ops a.tmps):=by
  unfold Region.wanted
  cases hg:o.guard with
  | none=>rfl
  | some jw=>
   obtain ⟨j,want⟩:=jw
   simp only [yielded]
   cases hd:(ops[j]?).bind (·.dst) with
   | none=>rfl
   | some d=>
    simp only [Option.bind_some]
    rw [hslot d (by
     simp only [namesOf,hg,List.mem_append]
     right
     have:(ops.toList[j]?).bind (·.dst)=some d:=by simpa using hd
     rw [this]; simp)]
 have hexec:execOp b.eval o=execOp a.eval o:=by
  refine execOp_congr o (fun cs x hsel=> ?_) fun x hx=> ?_
  ·have:=List.all_eq_true.1 hs o (by simpa using Array.mem_of_getElem? ho)
   rw [hsel] at this; cases this
  ·cases x with
   | tmp t=>
    have:=hslot t (by
     simp only [namesOf,List.mem_append]
     left; right
     exact List.mem_filterMap.2 ⟨.tmp t,by simpa using hx,rfl⟩)
    show b.tmps.getD t undef=a.tmps.getD t undef
    rw [Array.getD_eq_getD_getElem?,Array.getD_eq_getD_getElem?,this]
   | const v=>rfl
   | global b=>rfl
   | func f=>rfl
 rw [hwant]
 by_cases hw:Region.wanted o (yielded ops a.tmps)=true
 ·rw [if_pos hw] at h ⊢
  unfold Oper.wp at h ⊢
  rw [hexec]
  exact upon_move2 hsz hK h
 ·rw [if_neg hw] at h ⊢
  exact upon_move2 (P:=P) (r:= .ok .skip w) (o:=o) (Q:=fun _ _ _=>False) (S:=S) hsz hK h
def anc (ops:List Oper) (i j:Nat):Bool:=((masks ops []).getD i 0).testBit j
def chainB (B:List Nat):List Nat→Bool
 | []=>true
 | [_]=>true
 | a::b::l=>Nat.blt a b && ((B.getD b 0).testBit a && chainB B (b::l))
def hasB (x:Nat):List Nat→Bool
 | []=>false
 | y::l=>Nat.beq x y || hasB x l
def freshB (ops:List Oper) (i:Nat) (o:Oper):Bool:=
 (namesOf ops o).all fun t=>allIdx (fun j oj=>Nat.blt j i || Nat.beq j i || (match oj.dst with | some d=> !Nat.beq d t | none=>true)) 0 ops
def pfB (ops:List Oper) (es:List Nat) (T:Nat):Bool:=
 let B:=masks ops []
 chainB B es && (es.all (fun i=>match ops[i]? with | some o=>(match o.guard with | none=>true | some _=>false) && freshB ops i o | none=>false) &&
 allIdx (fun i o=>hasB i es || ((match es[T]? with | some e=>(B.getD e 0).testBit i | none=>true) && (namesOf ops o).all fun t=>es.all fun e=>Nat.ble i e || match ops[e]? with | some oe=>(match oe.dst with | some d=> !Nat.beq d t | none=>true) | none=>true)) 0 ops)
theorem hasB_iff {x:Nat}:∀ {l:List Nat},hasB x l=true↔x ∈ l
 | []=>by simp [hasB]
 | y::l=>by
  simp only [hasB,Bool.or_eq_true,List.mem_cons,hasB_iff (l:=l)]
  constructor
  ·rintro (h | h)
   ·exact .inl (Nat.eq_of_beq_eq_true h)
   ·exact .inr h
  ·rintro (h | h)
   ·subst h; exact .inl (Nat.beq_refl x)
   ·exact .inr h
theorem chainB_spec {B:List Nat}:∀ {es:List Nat},chainB B es=true→∀ k,k+1 < es.length→es.getD k 0 < es.getD (k+1) 0∧(B.getD (es.getD (k+1) 0) 0).testBit (es.getD k 0)=true
 | [],_,k,hk=>by simp at hk
 | [_],_,k,hk=>by simp at hk
 | a::b::l,h,k,hk=>by
  simp only [chainB,Bool.and_eq_true] at h
  cases k with
  | zero=>exact ⟨Nat.le_of_ble_eq_true h.1,h.2.1⟩
  | succ k=>exact chainB_spec h.2.2 k (by simpa using hk)
theorem chain_lt {B es:List Nat} (h:chainB B es=true):∀ d k,k+d+1 < es.length→es.getD k 0 < es.getD (k+d+1) 0
 | 0,k,hk=>(chainB_spec h k hk).1
 | d+1,k,hk=>Nat.lt_trans (chain_lt h d k (by omega)) (chainB_spec h (k+d+1) hk).1
theorem chain_inj {B es:List Nat} (h:chainB B es=true) {j k:Nat} (hj:j < es.length) (hk:k < es.length) (he:es.getD j 0=es.getD k 0):j=k:=by
 rcases Nat.lt_trichotomy j k with hlt | heq | hgt
 ·have:=chain_lt h (k - j - 1) j (by omega)
  rw [show j+(k - j - 1)+1=k by omega] at this; omega
 ·exact heq
 ·have:=chain_lt h (j - k - 1) k (by omega)
  rw [show k+(j - k - 1)+1=j by omega] at this; omega
def StepF (P:Program) (ops:Array Oper) (F:World→Prop) (R:World→World→Prop) (o:Oper) (a:Act) (v:Value):Prop:=
 ∀ (w:World) (K:Act→World→Prop),F w→(∀ w',R w w'→K (a.put o.dst v) w')→if Region.wanted o (yielded ops a.tmps)=true then o.wp P a w K (fun _ _ _=>False) else K (a.put o.dst undef) w
def PlanF (P:Program) (ops:Array Oper) (es:List Nat) (F:World→Prop) (R:World→World→Prop):List Oper→Nat→Act→(Act→Prop)→Prop
 | [],_,a,k=>k a
 | o::l,i,a,k=>if hasB i es=true then PlanF P ops es F R l (i+1) a k else ∃ v,StepF P ops F R o a v∧PlanF P ops es F R l (i+1) (a.put o.dst v) k
def WpC (P:Program) (F:World→Prop) (R:World→World→Prop) (T:Nat) (q:Act→World→Prop):Nat→List Oper→Act→World→Prop
 | _,[],a,w=>∀ w',R w w'→q a w'
 | t,o::l,a,w=>∀ w',R w w'→o.wp P a w' (fun a' w''=>∃ v,a'=a.put o.dst v∧(t < T→F w'')∧WpC P F R T q (t+1) l a' w'') (fun _ _ _=>False)
def effs (ops:List Oper) (es:List Nat):List Oper:=es.map fun i=>ops.getD i default
theorem wpC_R {F:World→Prop} {R:World→World→Prop} {T:Nat} {q:Act→World→Prop} (hRt:∀ (a b c:World),R a b→R b c→R a c) (t:Nat) (l:List Oper) (a:Act) (w w':World) (h:WpC P F R T q t l a w) (hR:R w w'):WpC P F R T q t l a w':=by
 cases l with
 | nil=>exact fun w'' h2=>h w'' (hRt _ _ _ hR h2)
 | cons o l=>exact fun w'' h2=>h w'' (hRt _ _ _ hR h2)
theorem planF_all {es:List Nat} {F:World→Prop} {R:World→World→Prop} {k:Act→Prop} {a0:Act} {val0:Nat→Value}:∀ (l:List Oper) (i:Nat),ops.toList.drop i=l→i≤ops.size→
  PlanF P ops es F R l i (frb ops (fun j=> !hasB j es) val0 a0 i) k→
  ∃ val:Nat→Value,(∀ j,j < i→val j=val0 j)∧(∀ j o,i≤j→ops[j]?=some o→hasB j es=false→StepF P ops F R o (frb ops (fun j=> !hasB j es) val a0 j) (val j))∧k (frb ops (fun j=> !hasB j es) val a0 ops.size)
 | [],i,hl,hi,h=>by
  have hk2:i=ops.size:=by
   have:=List.drop_eq_nil_iff.1 hl
   simp at this; omega
  subst hk2
  exact ⟨val0,fun _ _=>rfl,fun j o hj ho=>by have:=(Array.getElem?_eq_some_iff.1 ho).1; omega,h⟩
 | o::l,i,hl,hi,h=>by
  have hk2:i < ops.size:=by
   rcases Nat.lt_or_ge i ops.size with h' | h'
   ·exact h'
   ·rw [List.drop_eq_nil_of_le (by simpa using h')] at hl; cases hl
  have ho:ops[i]?=some o:=by
   have:(ops.toList.drop i)[0]?=some o:=by rw [hl]; rfl
   rw [List.getElem?_drop] at this
   simpa using this
  have htl:ops.toList.drop (i+1)=l:=by rw [← List.tail_drop,hl]; rfl
  unfold PlanF at h
  by_cases hb:hasB i es=true
  ·rw [if_pos hb] at h
   have he:frb ops (fun j=> !hasB j es) val0 a0 (i+1)=frb ops (fun j=> !hasB j es) val0 a0 i:=by
    rw [frb]; simp [ho,hb]
   obtain ⟨val,h1,h2,h3⟩:=planF_all l (i+1) htl hk2 (by rw [he]; exact h)
   refine ⟨val,fun j hj=>h1 j (by omega),fun j oj hj hoj hbj=> ?_,h3⟩
   by_cases hji:j=i
   ·subst hji; rw [hb] at hbj; cases hbj
   ·exact h2 j oj (by omega) hoj hbj
  ·rw [if_neg hb] at h
   have hb':hasB i es=false:=by simpa using hb
   obtain ⟨v,hv,h⟩:=h
   have hcong:∀ (f g:Nat→Value) n,(∀ j,j < n→f j=g j)→frb ops (fun j=> !hasB j es) f a0 n=frb ops (fun j=> !hasB j es) g a0 n:=by
    intro f g n
    induction n with
    | zero=>intro _; rfl
    | succ n ih=>
     intro hfg
     unfold frb
     rw [ih fun j hj=>hfg j (by omega),hfg n (by omega)]
   obtain ⟨val1,hval1⟩:∃ val1,val1=upd val0 i v:=⟨_,rfl⟩
   have hlow:∀ j,j < i→val1 j=val0 j:=fun j hj=>by rw [hval1,upd_other _ _ (by omega)]
   have he:frb ops (fun j=> !hasB j es) val1 a0 (i+1)=(frb ops (fun j=> !hasB j es) val0 a0 i).put o.dst v:=by
    rw [frb]
    simp only [ho,hb',Bool.not_false,if_true]
    rw [hcong val1 val0 i hlow,hval1,upd_same]
   obtain ⟨val,h1,h2,h3⟩:=planF_all l (i+1) htl hk2 (by rw [he]; exact h)
   refine ⟨val,fun j hj=>(h1 j (by omega)).trans (hlow j hj),fun j oj hj hoj hbj=> ?_,h3⟩
   by_cases hji:j=i
   ·subst hji
    rw [ho] at hoj; cases hoj
    rw [hcong val val0 j fun q hq=>(h1 q (by omega)).trans (hlow q hq),h1 j (by omega),hval1,upd_same]
    exact hv
   ·exact h2 j oj (by omega) hoj hbj
theorem edge_lt (hok:orderOk ops.toList (masks ops.toList [])=true) {q:Nat} {oq:Oper} (hoq:ops[q]?=some oq) {e:Edge} (he:e ∈ oq.after) (hb:Region.binds .any e=true):e.on < ops.size:=by
 have hq:q < ops.size:=(Array.getElem?_eq_some_iff.1 hoq).1
 have:=allIdx_spec _ _ hok q oq (by simpa using hoq)
 simp only [Bool.and_eq_true,Nat.zero_add] at this
 have h4:=List.all_eq_true.1 this.1 e (by simpa using he)
 rw [hb] at h4
 simp only [Bool.not_true,Bool.false_or] at h4
 have:=Nat.le_of_ble_eq_true h4
 omega
theorem closed_D (hok:orderOk ops.toList (masks ops.toList [])=true) {D:Nat→Bool} (hcl:∀ (j:Nat) (oj:Oper),ops[j]?=some oj→D j=true→∀ ed ∈ oj.after,Region.binds .any ed=true→D ed.on=true)
  {i:Nat} {o:Oper} (ho:ops[i]?=some o) (hdep:∀ ed ∈ o.after,Region.binds .any ed=true→D ed.on=true) {j:Nat} (hj:anc ops.toList i j=true):D j=true:=by
 have hl:∀ q,q < ops.size→((Array.range ops.size).map fun j=>D j).getD q false=D q:=fun q hq=>by simp [Array.getD_eq_getD_getElem?,hq]
 have hi:i < ops.size:=(Array.getElem?_eq_some_iff.1 ho).1
 have hj2:j < ops.size:=by
  have:=mask_lt hok i i j (Nat.le_refl _) hj
  omega
 rw [← hl j hj2]
 refine closed_mask (ops:=ops) hok (listed:=(Array.range ops.size).map fun j=>D j) (fun q oq hoq hlq e he hb=> ?_) i i o j (Nat.le_refl _) ho (fun e he hb=> ?_) hj
 ·rw [hl q (Array.getElem?_eq_some_iff.1 hoq).1] at hlq
  rw [hl _ (edge_lt hok hoq he hb)]
  exact hcl q oq hoq hlq e he hb
 ·rw [hl _ (edge_lt hok ho he hb)]
  exact hdep e he hb
theorem wp_region_pf {id:Nat} {a:Act} {w:World} {Q:Exit→Act→World→Prop} (es:List Nat) (T:Nat) (F:World→Prop) (R:World→World→Prop) (hm:P.follows .mixedOrders=true)
  (hok:orderOk ops.toList (masks ops.toList [])=true) (hs:noSelect ops.toList=true) (hpf:pfB ops.toList es T=true)
  (hRr:∀ w,R w w) (hRt:∀ (a b c:World),R a b→R b c→R a c) (hFR:∀ (w w':World),F w→R w w'→F w') (hF:F w.drew)
  (h:PlanF P ops es F R ops.toList 0 a (fun a'=>WpC P F R T (fun a' w'=>Q .normal a' w') 0 (effs ops.toList es) a' w.drew)):(Code.region id ops true).wp P Q a w:=by
 obtain ⟨vals,_,hpure,hend⟩:=planF_all (a0:=a) (val0:=fun _=>undef) ops.toList 0 (by simp) (Nat.zero_le _) h
 unfold pfB at hpf
 simp only [Bool.and_eq_true] at hpf
 obtain ⟨hchain,heff,hpu⟩:=hpf
 have heff':∀ k,k < es.length→∃ o,ops[es.getD k 0]?=some o∧o.guard=none∧∀ t,t ∈ namesOf ops.toList o→∀ j oj,ops[j]?=some oj→es.getD k 0 < j→oj.dst≠some t:=by
  intro k hk
  have hmem:es.getD k 0 ∈ es:=by rw [List.getD,List.getElem?_eq_getElem hk]; exact List.getElem_mem _
  have h1:=List.all_eq_true.1 heff _ hmem
  cases ho:ops.toList[es.getD k 0]? with
  | none=>rw [ho] at h1; cases h1
  | some o=>
   rw [ho] at h1
   simp only [Bool.and_eq_true] at h1
   obtain ⟨hg,hf⟩:=h1
   have hg':o.guard=none:=by
    cases hgg:o.guard with
    | none=>rfl
    | some x=>rw [hgg] at hg; cases hg
   refine ⟨o,by simpa using ho,hg',fun t ht j oj hoj hlt hd=> ?_⟩
   have h2:=List.all_eq_true.1 hf t ht
   have h3:=allIdx_spec _ _ h2 j oj (by simpa using hoj)
   simp only [Nat.zero_add,hd,Bool.or_eq_true] at h3
   rcases h3 with (h3 | h3) | h3
   ·have:=Nat.le_of_ble_eq_true h3; omega
   ·have:=Nat.eq_of_beq_eq_true h3; omega
   ·rw [Nat.beq_refl] at h3; cases h3
 have hpu':∀ i o,ops[i]?=some o→hasB i es=false→(∀ e,es[T]?=some e→anc ops.toList e i=true)∧∀ t,t ∈ namesOf ops.toList o→∀ k oe,k < es.length→es.getD k 0 < i→ops[es.getD k 0]?=some oe→oe.dst≠some t:=by
  intro i o ho hb
  have h1:=allIdx_spec _ _ hpu i o (by simpa using ho)
  simp only [Nat.zero_add,hb,Bool.false_or,Bool.and_eq_true] at h1
  obtain ⟨h2,h3⟩:=h1
  refine ⟨fun e he=> ?_,fun t ht k oe hk hki hoe hd=> ?_⟩
  ·rw [he] at h2; exact h2
  ·have h4:=List.all_eq_true.1 h3 t ht
   have hmem:es.getD k 0 ∈ es:=by rw [List.getD,List.getElem?_eq_getElem hk]; exact List.getElem_mem _
   have h5:=List.all_eq_true.1 h4 _ hmem
   have hoe':ops.toList[es.getD k 0]?=some oe:=by simpa using hoe
   simp only [hoe',hd,Bool.or_eq_true] at h5
   rcases h5 with h5 | h5
   ·have:=Nat.le_of_ble_eq_true h5; omega
   ·rw [Nat.beq_refl] at h5; cases h5
 have hidx:∀ i,hasB i es=true→∃ k,k < es.length∧es.getD k 0=i:=by
  intro i hb
  obtain ⟨k,hk,he⟩:=List.getElem_of_mem (hasB_iff.1 hb)
  exact ⟨k,hk,by rw [List.getD,List.getElem?_eq_getElem hk]; exact he⟩
 have hisB:∀ k,k < es.length→hasB (es.getD k 0) es=true:=by
  intro k hk
  refine hasB_iff.2 ?_
  rw [List.getD,List.getElem?_eq_getElem hk]; exact List.getElem_mem _
 obtain ⟨sel,hsel⟩:∃ sel:Nat→Nat→Bool,sel=fun t j=> !hasB j es || hasB j (es.take t):=⟨_,rfl⟩
 obtain ⟨mix,hmix⟩:∃ mix:(Nat→Value)→Nat→Value,mix=fun vs j=>if hasB j es=true then vs j else vals j:=⟨_,rfl⟩
 have mixE:∀ (vs:Nat→Value) k,k < es.length→mix vs (es.getD k 0)=vs (es.getD k 0):=fun vs k hk=>by
  rw [hmix]; exact if_pos (hisB k hk)
 have mixP:∀ (vs:Nat→Value) j,hasB j es=false→mix vs j=vals j:=fun vs j hb=>by
  rw [hmix]; exact if_neg (by rw [hb]; simp)
 have selP:∀ t j,hasB j es=false→sel t j=true:=fun t j hb=>by rw [hsel]; simp [hb]
 have selE:∀ t k,k < es.length→(sel t (es.getD k 0)=true↔k < t):=by
  intro t k hk
  rw [hsel]
  simp only [hisB k hk,Bool.not_true,Bool.false_or]
  rw [hasB_iff]
  constructor
  ·intro hm
   obtain ⟨j,hj,he⟩:=List.getElem_of_mem hm
   have hj':j < es.length:=by have:=List.length_take_le t es; simp at hj; omega
   have hjt:j < t:=by simp at hj; omega
   have:es.getD j 0=es.getD k 0:=by
    rw [← he,List.getElem_take,List.getD,List.getElem?_eq_getElem hj']; rfl
   have:=chain_inj hchain hj' hk this
   omega
  ·intro hlt
   rw [List.mem_iff_getElem]
   exact ⟨k,by simp; omega,by rw [List.getElem_take,List.getD,List.getElem?_eq_getElem hk]; rfl⟩
 have uniq:∀ {j:Nat} {oj:Oper} {d:Tmp},ops[j]?=some oj→oj.dst=some d→∀ q oq,q≠j→ops[q]?=some oq→oq.dst≠some d:=fun hoj hd q oq hne hoq=>order_dst hok hoq hoj hne hd
 refine wp_region_any hm ?_
 refine draw_inv (a0:=a) (S:=fun D vs w'=>∃ t,t≤es.length∧(∀ k,k < es.length→D (es.getD k 0)=decide (k < t))∧(∀ i,D i=true→hasB i es=false→vs i=vals i)∧
   WpC P F R T (fun a' w'=>Q .normal a' w') t ((effs ops.toList es).drop t) (frb ops (sel t) (mix vs) a ops.size) w'∧(t≤T→F w')) hok hs ?_ ?_ ops.size _ (fun _=>undef) a _ ?_ ?_ ?_
 ·
  intro i o ho D vs w1 K hS hd hdep hcl hK
  obtain ⟨t,ht,hDt,hvals,hrem,hFt⟩:=hS
  have hdone:∀ j,anc ops.toList i j=true→D j=true:=fun j hj=>closed_D hok hcl ho hdep hj
  have writer:∀ s j oj,s ∈ namesOf ops.toList o→ops[j]?=some oj→oj.dst=some s→j < i→anc ops.toList i j=true:=by
   intro s j oj hs' hoj hds hlt
   obtain ⟨hb | hb,_⟩:=order_pair hok ho hoj (by omega) hds hs'
   ·exact hb
   ·have:=mask_lt hok j j i (Nat.le_refl _) hb; omega
  have hsize:(frs ops vs a i).tmps.size=a.tmps.size:=frs_size vs a i
  cases hbi:hasB i es with
  | false=>
   obtain ⟨hT,hnm⟩:=hpu' i o ho hbi
   have hFw:F w1:=by
    refine hFt ?_
    rcases Nat.lt_or_ge T t with hlt | hge
    ·exfalso
     have hTl:T < es.length:=by omega
     have h1:es[T]?=some (es.getD T 0):=by rw [List.getD,List.getElem?_eq_getElem hTl]; rfl
     have h2:=hT _ h1
     obtain ⟨oe,hoe,_⟩:=heff' T hTl
     have h3:D (es.getD T 0)=true:=by rw [hDt T hTl]; simp [hlt]
     have h4:D i=true:=closed_D hok hcl hoe (fun e he hb=>hcl _ oe hoe h3 e he hb) h2
     rw [hd] at h4; cases h4
    ·exact hge
   refine step_move (S:=fun v w'=>v=vals i∧R w1 w') ho hs (a:=frb ops (fun j=> !hasB j es) vals a i) (by rw [hsize,frb_size]) (fun s hsn=> ?_) (fun v w' hv=> ?_) ?_
   ·by_cases hsz:a.tmps.size≤s
    ·rw [Array.getElem?_eq_none (by rw [hsize]; exact hsz),Array.getElem?_eq_none (by rw [frb_size]; exact hsz)]
    ·by_cases hw:∃ (j:Nat) (oj:Oper),j < i∧ops[j]?=some oj∧oj.dst=some s
     ·obtain ⟨j,oj,hlt,hoj,hds⟩:=hw
      have hbj:hasB j es=false:=by
       cases hbj:hasB j es with
       | false=>rfl
       | true=>
        obtain ⟨k,hk,rfl⟩:=hidx j hbj
        exact absurd hds (hnm s hsn k oj hk hlt hoj)
      have hDj:=hdone j (writer s j oj hsn hoj hds hlt)
      rw [frs_wrote vs a hoj hds (by omega) (uniq hoj hds) i hlt,frb_wrote hoj (by simp [hbj]) hds (by omega) (uniq hoj hds) i hlt,hvals j hDj hbj]
     ·rw [frs_keep vs a i (fun j oj hlt hoj hds=>hw ⟨j,oj,hlt,hoj,hds⟩),frb_keep i (fun j oj hlt _ hoj hds=>hw ⟨j,oj,hlt,hoj,hds⟩)]
   ·obtain ⟨rfl,hR⟩:=hv
    refine hK _ w' ⟨t,ht,fun k hk=> ?_,fun j hj hbj=> ?_,?_,fun h=>hFR _ _ (hFt h) hR⟩
    ·rw [upd_other _ _ (fun e=>by rw [← e,hisB k hk] at hbi; cases hbi)]; exact hDt k hk
    ·by_cases hji:j=i
     ·subst hji; rw [upd_same]
     ·rw [upd_other _ _ hji] at hj ⊢; exact hvals j hj hbj
    ·have he:mix (upd vs i (vals i))=mix vs:=by
      rw [hmix]
      funext j
      by_cases hji:j=i
      ·subst hji; simp [hbi]
      ·simp [upd_other _ _ hji]
     rw [he]; exact wpC_R hRt _ _ _ _ _ hrem hR
   ·have hst:=hpure i o (Nat.zero_le _) ho hbi w1 (fun a' w'=>∃ v,a'=(frb ops (fun j=> !hasB j es) vals a i).put o.dst v∧v=vals i∧R w1 w') hFw (fun w' hR=>⟨_,rfl,rfl,hR⟩)
    exact hst
  | true=>
   obtain ⟨k,hk,rfl⟩:=hidx i hbi
   obtain ⟨o',ho',hg,hfresh⟩:=heff' k hk
   rw [ho] at ho'; cases ho'
   have hkt:k=t:=by
    have h1:t≤k:=by
     rcases Nat.lt_or_ge k t with h' | h'
     ·rw [hDt k hk] at hd; simp at hd; omega
     ·exact h'
    rcases Nat.eq_zero_or_pos k with h0 | h0
    ·omega
    ·have h2:=(chainB_spec hchain (k - 1) (by omega)).2
     rw [show k - 1+1=k by omega] at h2
     have h3:=hdone _ h2
     rw [hDt (k - 1) (by omega)] at h3
     have:=of_decide_eq_true h3
     omega
   subst hkt
   have hdrop:(effs ops.toList es).drop k=o::(effs ops.toList es).drop (k+1):=by
    have hl:k < (effs ops.toList es).length:=by simp [effs]; exact hk
    rw [List.drop_eq_getElem_cons hl]
    congr 1
    simp only [effs,List.getElem_map]
    have:es[k]=es.getD k 0:=by rw [List.getD,List.getElem?_eq_getElem hk]; rfl
    rw [this,List.getD]
    have:ops.toList[es.getD k 0]?=some o:=by simpa using ho
    rw [this]; rfl
   rw [hdrop] at hrem
   have hr:=hrem w1 (hRr w1)
   have hdist:∀ q,q < k→es.getD q 0≠es.getD k 0:=fun q hq e=>by have:=chain_inj hchain (by omega) hk e; omega
   have hput:∀ v,(frb ops (sel k) (mix vs) a ops.size).put o.dst v=frb ops (sel (k+1)) (mix (upd vs (es.getD k 0) v)) a ops.size:=by
    intro v
    refine act_ext (by rw [put_defers,frb_defers,frb_defers]) fun s=> ?_
    by_cases hsz:a.tmps.size≤s
    ·rw [Array.getElem?_eq_none (by rw [put_size,frb_size]; exact hsz),Array.getElem?_eq_none (by rw [frb_size]; exact hsz)]
    ·have hss:s < a.tmps.size:=Nat.lt_of_not_le hsz
     by_cases hds:o.dst=some s
     ·rw [hds,put_get_eq _ _ (by rw [frb_size]; exact hss),frb_wrote ho ((selE (k+1) k hk).2 (by omega)) hds hss (uniq ho hds) ops.size (Array.getElem?_eq_some_iff.1 ho).1]
      rw [mixE _ k hk,upd_same]
     ·rw [put_get_ne _ _ hds]
      by_cases hw:∃ (j:Nat) (oj:Oper),ops[j]?=some oj∧oj.dst=some s
      ·obtain ⟨j,oj,hoj,hdj⟩:=hw
       have hjk:j≠es.getD k 0:=fun e=>by subst e; rw [ho] at hoj; cases hoj; exact hds hdj
       have hsj:sel (k+1) j=sel k j:=by
        cases hbj:hasB j es with
        | false=>rw [selP _ _ hbj,selP _ _ hbj]
        | true=>
         obtain ⟨q,hq,rfl⟩:=hidx j hbj
         have hqk:q≠k:=fun e=>hjk (by rw [e])
         have h1:=selE (k+1) q hq
         have h2:=selE k q hq
         by_cases hqlt:q < k
         ·rw [h1.2 (by omega),h2.2 hqlt]
         ·have h3:sel (k+1) (es.getD q 0)=false:=by
           cases h:sel (k+1) (es.getD q 0) with
           | false=>rfl
           | true=>have:=h1.1 h; omega
          have h4:sel k (es.getD q 0)=false:=by
           cases h:sel k (es.getD q 0) with
           | false=>rfl
           | true=>have:=h2.1 h; omega
          rw [h3,h4]
       have hmj:mix (upd vs (es.getD k 0) v) j=mix vs j:=by rw [hmix]; show (if _ then _ else _)=(if _ then _ else _); rw [upd_other _ _ hjk]
       have hjs:j < ops.size:=(Array.getElem?_eq_some_iff.1 hoj).1
       cases hselj:sel k j with
       | true=>rw [frb_wrote hoj hselj hdj hss (uniq hoj hdj) ops.size hjs,frb_wrote hoj (hsj.trans hselj) hdj hss (uniq hoj hdj) ops.size hjs,hmj]
       | false=>
        rw [frb_keep ops.size,frb_keep ops.size]
        ·intro q oq _ hq hoq hdq
         have:q=j:=Classical.byContradiction fun hne=>uniq hoj hdj q oq hne hoq hdq
         subst this; rw [hsj,hselj] at hq; cases hq
        ·intro q oq _ hq hoq hdq
         have:q=j:=Classical.byContradiction fun hne=>uniq hoj hdj q oq hne hoq hdq
         subst this; rw [hselj] at hq; cases hq
      ·rw [frb_keep ops.size fun j oj _ _ hoj hdj=>hw ⟨j,oj,hoj,hdj⟩,frb_keep ops.size fun j oj _ _ hoj hdj=>hw ⟨j,oj,hoj,hdj⟩]
   refine step_move (S:=fun v w'=>(k < T→F w')∧WpC P F R T (fun a' w'=>Q .normal a' w') (k+1) ((effs ops.toList es).drop (k+1)) ((frb ops (sel k) (mix vs) a ops.size).put o.dst v) w') ho hs (a:=frb ops (sel k) (mix vs) a ops.size) (by rw [hsize,frb_size]) (fun s hsn=> ?_) (fun v w' hv=> ?_) ?_
   ·by_cases hsz:a.tmps.size≤s
    ·rw [Array.getElem?_eq_none (by rw [hsize]; exact hsz),Array.getElem?_eq_none (by rw [frb_size]; exact hsz)]
    ·have hss:s < a.tmps.size:=Nat.lt_of_not_le hsz
     by_cases hw:∃ (j:Nat) (oj:Oper),ops[j]?=some oj∧oj.dst=some s
     ·obtain ⟨j,oj,hoj,hdj⟩:=hw
      have hjs:j < ops.size:=(Array.getElem?_eq_some_iff.1 hoj).1
      rcases Nat.lt_trichotomy j (es.getD k 0) with hlt | heq | hgt
      ·have hDj:=hdone j (writer s j oj hsn hoj hdj hlt)
       rw [frs_wrote vs a hoj hdj hss (uniq hoj hdj) _ hlt]
       cases hbj:hasB j es with
       | false=>
        rw [frb_wrote hoj (selP _ _ hbj) hdj hss (uniq hoj hdj) ops.size hjs,mixP _ j hbj,hvals j hDj hbj]
       | true=>
        obtain ⟨q,hq,rfl⟩:=hidx j hbj
        have hqk:q < k:=by
         have:=hDt q hq
         rw [hDj] at this
         exact of_decide_eq_true this.symm
        rw [frb_wrote hoj ((selE k q hq).2 hqk) hdj hss (uniq hoj hdj) ops.size hjs,mixE _ q hq]
      ·subst heq
       rw [frs_keep vs a _ (fun q oq hlt hoq hdq=>uniq hoj hdj q oq (by omega) hoq hdq),frb_keep ops.size]
       intro q oq _ hq hoq hdq
       have:q=es.getD k 0:=Classical.byContradiction fun hne=>uniq hoj hdj q oq hne hoq hdq
       subst this
       have:=(selE k k hk).1 hq
       omega
      ·exact absurd hdj (hfresh s hsn j oj hoj hgt)
     ·rw [frs_keep vs a _ (fun j oj _ hoj hdj=>hw ⟨j,oj,hoj,hdj⟩),frb_keep ops.size fun j oj _ _ hoj hdj=>hw ⟨j,oj,hoj,hdj⟩]
   ·refine hK _ w' ⟨k+1,hk,fun q hq=> ?_,fun j hj hbj=> ?_,by rw [← hput v]; exact hv.2,fun h=>hv.1 (by omega)⟩
    ·by_cases hqk:q=k
     ·subst hqk; rw [upd_same]; simp
     ·rw [upd_other _ _ (fun e=>hqk (chain_inj hchain hq hk e)),hDt q hq]
      simp; omega
    ·rw [upd_other _ _ (fun e=>by rw [e,hbi] at hbj; cases hbj)] at hj ⊢
     exact hvals j hj hbj
   ·have hw:Region.wanted o (yielded ops (frb ops (sel k) (mix vs) a ops.size).tmps)=true:=by simp [Region.wanted,hg]
    rw [if_pos hw]
    exact Oper.wp_mono (fun a' w' ⟨v,he,h1,h2⟩=>⟨v,he,h1,by rw [← he]; exact h2⟩) hr
 ·
  intro D vs w1 hS hall
  obtain ⟨t,ht,hDt,hvals,hrem,_⟩:=hS
  have htl:t=es.length:=by
   rcases Nat.lt_or_ge t es.length with hlt | hge
   ·exfalso
    obtain ⟨o,ho,_⟩:=heff' t hlt
    have h1:=hDt t hlt
    rw [hall _ (Array.getElem?_eq_some_iff.1 ho).1] at h1
    have:=of_decide_eq_true h1.symm
    omega
   ·omega
  subst htl
  have hnil:(effs ops.toList es).drop es.length=[]:=List.drop_eq_nil_of_le (by simp [effs])
  rw [hnil] at hrem
  have hq:=hrem w1 (hRr w1)
  have he:frb ops (sel es.length) (mix vs) a ops.size=frs ops vs a ops.size:=by
   refine act_ext (by rw [frb_defers,frs_defers]) fun s=> ?_
   by_cases hsz:a.tmps.size≤s
   ·rw [Array.getElem?_eq_none (by rw [frb_size]; exact hsz),Array.getElem?_eq_none (by rw [frs_size]; exact hsz)]
   ·by_cases hw:∃ (j:Nat) (oj:Oper),ops[j]?=some oj∧oj.dst=some s
    ·obtain ⟨j,oj,hoj,hdj⟩:=hw
     have hjs:j < ops.size:=(Array.getElem?_eq_some_iff.1 hoj).1
     rw [frs_wrote vs a hoj hdj (by omega) (uniq hoj hdj) ops.size hjs]
     cases hbj:hasB j es with
     | false=>
      rw [frb_wrote hoj (selP _ _ hbj) hdj (by omega) (uniq hoj hdj) ops.size hjs,mixP _ j hbj,hvals j (hall j hjs) hbj]
     | true=>
      obtain ⟨q,hq,rfl⟩:=hidx j hbj
      rw [frb_wrote hoj ((selE _ q hq).2 hq) hdj (by omega) (uniq hoj hdj) ops.size hjs,mixE _ q hq]
    ·rw [frs_keep vs a _ (fun j oj _ hoj hdj=>hw ⟨j,oj,hoj,hdj⟩),frb_keep ops.size fun j oj _ _ hoj hdj=>hw ⟨j,oj,hoj,hdj⟩]
  rw [he] at hq
  exact hq
 ·refine ⟨by simp,?_,rfl,rfl,fun _ _=>rfl,?_⟩
  ·intro j oj hoj hl
   rw [rep_false] at hl; cases hl
  ·intro t j oj hoj hd hl
   rw [rep_false] at hl; cases hl
 ·refine ⟨0,Nat.zero_le _,fun k hk=>by simp only [rep_false]; simp,fun i hi=>(by simp only [rep_false] at hi; cases hi),?_,fun _=>hF⟩
  have he:frb ops (sel 0) (mix fun _=>undef) a ops.size=frb ops (fun j=> !hasB j es) vals a ops.size:=by
   have hcong:∀ n,frb ops (sel 0) (mix fun _=>undef) a n=frb ops (fun j=> !hasB j es) vals a n:=by
    intro n
    induction n with
    | zero=>rfl
    | succ n ih=>
     unfold frb
     rw [ih]
     have h1:sel 0 n= !hasB n es:=by rw [hsel]; simp [hasB]
     rw [h1]
     cases hb:hasB n es with
     | true=>simp
     | false=>rw [hmix]; simp [hb]
   exact hcong _
  rw [he]
  exact hend
 ·unfold unl
  exact Nat.le_trans (List.length_filter_le _ _) (by simp)
section
variable {es:List Nat} {F:World→Prop} {R:World→World→Prop} {T:Nat} {k:Act→Prop} {q:Act→World→Prop} {l:List Oper} {o:Oper} {i t:Nat} {a:Act} {w:World}
theorem planF_nil (h:k a):PlanF P ops es F R [] i a k:=h
theorem planF_look (hb:hasB i es=false) (v:Value) (h1:StepF P ops F R o a v) (h2:PlanF P ops es F R l (i+1) (a.put o.dst v) k):PlanF P ops es F R (o::l) i a k:=by
 unfold PlanF
 rw [if_neg (by rw [hb]; simp)]
 exact ⟨v,h1,h2⟩
theorem planF_skip (hb:hasB i es=true) (h2:PlanF P ops es F R l (i+1) a k):PlanF P ops es F R (o::l) i a k:=by
 unfold PlanF
 rw [if_pos hb]; exact h2
theorem wpC_eff {ol:List Oper} (ho:ol[i]?=some o) (h:∀ w',R w w'→o.wp P a w' (fun a' w''=>∃ v,a'=a.put o.dst v∧(t < T→F w'')∧WpC P F R T q (t+1) (effs ol es) a' w'') (fun _ _ _=>False)):WpC P F R T q t (effs ol (i::es)) a w:=by
 show WpC P F R T q t (ol.getD i default::effs ol es) a w
 rw [List.getD,ho]
 exact h
theorem wpC_step {ol:List Oper} (ho:ol[i]?=some o) (h:∀ w',R w w'→∀ K:Act→World→Prop,(∀ v w'',(t < T→F w'')→WpC P F R T q (t+1) (effs ol es) (a.put o.dst v) w''→K (a.put o.dst v) w'')→o.wp P a w' K (fun _ _ _=>False)):WpC P F R T q t (effs ol (i::es)) a w:=
 wpC_eff ho fun w' hR=>h w' hR _ fun v _ hF hW=>⟨v,rfl,hF,hW⟩
theorem wpC_end {ol:List Oper} (h:∀ w',R w w'→q a w'):WpC P F R T q t (effs ol []) a w:=h
end
theorem wp_region_pfe {id:Nat} {a:Act} {w:World} {Q:Exit→Act→World→Prop} (es:List Nat) (T:Nat) (F:World→Prop) (hm:P.follows .mixedOrders=true)
  (hok:orderOk ops.toList (masks ops.toList [])=true) (hs:noSelect ops.toList=true) (hpf:pfB ops.toList es T=true) (hF:F w.drew)
  (h:PlanF P ops es F Eq ops.toList 0 a (fun a'=>WpC P F Eq T (fun a' w'=>Q .normal a' w') 0 (effs ops.toList es) a' w.drew)):(Code.region id ops true).wp P Q a w:=
 wp_region_pf es T F Eq hm hok hs hpf (fun _=>rfl) (fun _ _ _ h1 h2=>h1.trans h2) (fun _ _ h e=>e▸h) hF h
end Go.Ev
