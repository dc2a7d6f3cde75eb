/- A region that draws its order, walked once in the order of its text: where each operation comes to the same value in whatever world of an invariant, every order ends alike. A region that draws its order, walked once, an operation at a time: what holds of what has been done, its values and the world is kept by each operation, whenever it comes. -/
import Derived.Test.YtmenpmbgennhoaaGreatDoorEvC
namespace Go.Ev
variable {P:Program} {ops:Array Oper}
def frs (ops:Array Oper) (val:Nat→Value) (a0:Act):Nat→Act
 | 0=>a0
 | i+1=>match ops[i]? with
  | some o=>(frs ops val a0 i).put o.dst (val i)
  | none=>frs ops val a0 i
def noSelect (ops:List Oper):Bool:=ops.all fun o=>match o.op with | .select _ _=>false | _=>true
theorem put_size (a:Act) (d:Option Tmp) (v:Value):(a.put d v).tmps.size=a.tmps.size:=by cases d <;> simp [Act.put]
theorem put_get_ne (a:Act) {d:Option Tmp} (v:Value) {t:Nat} (h:d≠some t):(a.put d v).tmps[t]?=a.tmps[t]?:=by
 cases d with
 | none=>rfl
 | some d=>simp only [Act.put,Array.getElem?_setIfInBounds]; rw [if_neg (fun e=>h (by rw [e]))]
theorem put_get_eq (a:Act) (v:Value) {t:Nat} (h:t < a.tmps.size):(a.put (some t) v).tmps[t]?=some v:=by
 simp [Act.put,h]
theorem put_get_out (a:Act) (d:Option Tmp) (v:Value) {t:Nat} (h:a.tmps.size≤t):(a.put d v).tmps[t]?=none:=by
 rw [Array.getElem?_eq_none]; rw [put_size]; exact h
theorem put_defers (a:Act) (d:Option Tmp) (v:Value):(a.put d v).defers=a.defers:=by cases d <;> rfl
theorem rep_false (n j:Nat):(Array.replicate n false).getD j false=false:=by
 rw [Array.getD_eq_getD_getElem?,Array.getElem?_replicate]
 split <;> rfl
theorem act_ext {a b:Act} (h1:a.defers=b.defers) (h2:∀ t:Nat,a.tmps[t]?=b.tmps[t]?):a=b:=by
 obtain ⟨ta,da⟩:=a
 obtain ⟨tb,db⟩:=b
 have:ta=tb:=Array.ext_getElem? h2
 simp at h1
 subst this; subst h1; rfl
def StepOk (P:Program) (ops:Array Oper) (I:World→Prop) (o:Oper) (a:Act) (v:Value):Prop:=
 ∀ (w:World) (K:Act→World→Prop),I w→(∀ w',I w'→K (a.put o.dst v) w')→
  if Region.wanted o (yielded ops a.tmps)=true then o.wp P a w K (fun _ _ _=>False) else K (a.put o.dst undef) w
section
variable (hok:orderOk ops.toList (masks ops.toList [])=true) (val:Nat→Value) (a0:Act)
theorem frs_size:∀ i,(frs ops val a0 i).tmps.size=a0.tmps.size
 | 0=>rfl
 | i+1=>by
  unfold frs
  split
  ·rw [put_size]; exact frs_size i
  ·exact frs_size i
theorem frs_defers:∀ i,(frs ops val a0 i).defers=a0.defers
 | 0=>rfl
 | i+1=>by
  unfold frs
  split
  ·rw [put_defers]; exact frs_defers i
  ·exact frs_defers i
theorem frs_keep {t:Nat}:∀ i,(∀ j oj,j < i→ops[j]?=some oj→oj.dst≠some t)→(frs ops val a0 i).tmps[t]?=a0.tmps[t]?
 | 0,_=>rfl
 | i+1,h=>by
  unfold frs
  split
  ·rename_i o ho
   rw [put_get_ne _ _ (h i o (by omega) ho)]
   exact frs_keep i fun j oj hj=>h j oj (by omega)
  ·exact frs_keep i fun j oj hj=>h j oj (by omega)
theorem frs_wrote {t j:Nat} {oj:Oper} (hj:ops[j]?=some oj) (hd:oj.dst=some t) (ht:t < a0.tmps.size)
  (hu:∀ q oq,q≠j→ops[q]?=some oq→oq.dst≠some t):∀ i,j < i→(frs ops val a0 i).tmps[t]?=some (val j)
 | 0,h=>by omega
 | i+1,h=>by
  unfold frs
  by_cases hji:j=i
  ·subst hji
   rw [hj]
   simp only
   rw [hd,put_get_eq _ _ (by rw [frs_size]; exact ht)]
  ·split
   ·rename_i o ho
    rw [put_get_ne _ _ (hu i o (fun h=>hji h.symm) ho)]
    exact frs_wrote hj hd ht hu i (by omega)
   ·exact frs_wrote hj hd ht hu i (by omega)
structure J (ops:Array Oper) (val:Nat→Value) (a0:Act) (listed:Array Bool) (a:Act):Prop where
 size:listed.size=ops.size
 closed:Closed ops listed
 defers:a.defers=a0.defers
 nt:a.tmps.size=a0.tmps.size
 keep:∀ t,(∀ j oj,ops[j]?=some oj→oj.dst=some t→listed.getD j false=false)→a.tmps[t]?=a0.tmps[t]?
 wrote:∀ t j oj,ops[j]?=some oj→oj.dst=some t→listed.getD j false=true→t < a0.tmps.size→a.tmps[t]?=some (val j)
include hok
theorem J.operand {listed:Array Bool} {a:Act} (hJ:J ops val a0 listed a) {i:Nat} {o:Oper} (ho:ops[i]?=some o)
  (hf:listed.getD i false=false) (hall:∀ ed ∈ o.after,Region.binds .any ed=true→listed.getD ed.on false=true) {t:Tmp} (ht:t ∈ namesOf ops.toList o) :
  a.tmps[t]?=(frs ops val a0 i).tmps[t]?:=by
 by_cases hts':a0.tmps.size≤t
 ·rw [Array.getElem?_eq_none (by rw [hJ.nt]; exact hts'),Array.getElem?_eq_none (by rw [frs_size]; exact hts')]
 have hts:t < a0.tmps.size:=Nat.lt_of_not_le hts'
 have orig:(∀ (j:Nat) (oj:Oper),ops[j]?=some oj→oj.dst=some t→listed.getD j false=false)→(∀ (j:Nat) (oj:Oper),j < i→ops[j]?=some oj→oj.dst≠some t)→
   a.tmps[t]?=(frs ops val a0 i).tmps[t]?:=by
  intro h1 h2
  rw [frs_keep val a0 i h2]
  exact hJ.keep t h1
 by_cases hw:∃ (j:Nat) (oj:Oper),ops[j]?=some oj∧oj.dst=some t
 ·obtain ⟨j,oj,hoj,hd⟩:=hw
  have huniq:∀ (q:Nat) (oq:Oper),q≠j→ops[q]?=some oq→oq.dst≠some t:=fun q oq hne hoq=>order_dst hok hoq hoj hne hd
  by_cases hji:j=i
  ·subst hji
   refine orig (fun q oq hoq hdq=> ?_) (fun q oq hlt hoq=>huniq q oq (by omega) hoq)
   by_cases hq:q=j
   ·subst hq; exact hf
   ·exact absurd hdq (huniq q oq hq hoq)
  ·obtain ⟨hb,_⟩:=order_pair hok ho hoj (fun h=>hji h.symm) hd ht
   rcases hb with hb | hb
   ·have hlt:=mask_lt hok i i j (Nat.le_refl _) hb
    have hlj:=closed_mask hok hJ.closed i i o j (Nat.le_refl _) ho hall hb
    rw [frs_wrote val a0 hoj hd hts huniq i hlt]
    exact hJ.wrote t j oj hoj hd hlj hts
   ·have hlt:=mask_lt hok j j i (Nat.le_refl _) hb
    refine orig (fun q oq hoq hdq=> ?_) (fun q oq hq hoq=>huniq q oq (by omega) hoq)
    by_cases hq:q=j
    ·subst hq
     cases hl:listed.getD q false with
     | false=>rfl
     | true=>
      have:=closed_mask hok hJ.closed q q oq i (Nat.le_refl _) hoq (hJ.closed q oq hoq hl) hb
      rw [hf] at this; cases this
    ·exact absurd hdq (huniq q oq hq hoq)
 ·refine orig (fun q oq hoq hdq=>absurd ⟨q,oq,hoq,hdq⟩ hw) (fun q oq _ hoq hdq=>hw ⟨q,oq,hoq,hdq⟩)
theorem J.done {listed:Array Bool} {a:Act} (hJ:J ops val a0 listed a) {i:Nat} {o:Oper} (ho:ops[i]?=some o)
  (hall:∀ ed ∈ o.after,Region.binds .any ed=true→listed.getD ed.on false=true):J ops val a0 (listed.setIfInBounds i true) (a.put o.dst (val i)):=by
 have hi:i < listed.size:=by rw [hJ.size]; exact (Array.getElem?_eq_some_iff.1 ho).1
 have hset:=set_getD (listed:=listed) hi
 refine ⟨by simp [hJ.size],?_,by rw [put_defers,hJ.defers],by rw [put_size,hJ.nt],?_,?_⟩
 ·intro j oj hoj hl ed hed hb
  rw [hset] at hl ⊢
  by_cases hji:j=i
  ·subst hji
   rw [ho] at hoj; cases hoj
   have:=hall ed hed hb
   split
   ·rfl
   ·exact this
  ·rw [if_neg hji] at hl
   have:=hJ.closed j oj hoj hl ed hed hb
   split
   ·rfl
   ·exact this
 ·intro t ht
  have hne:o.dst≠some t:=by
   intro hd
   have:=ht i o ho hd
   rw [hset,if_pos rfl] at this; cases this
  rw [put_get_ne _ _ hne]
  refine hJ.keep t fun j oj hoj hd=> ?_
  have:=ht j oj hoj hd
  rw [hset] at this
  split at this
  ·cases this
  ·exact this
 ·intro t j oj hoj hd hl hts
  rw [hset] at hl
  by_cases hji:j=i
  ·subst hji
   rw [ho] at hoj; cases hoj
   rw [hd,put_get_eq _ _ (by rw [hJ.nt]; exact hts)]
  ·rw [if_neg hji] at hl
   rw [put_get_ne _ _ (order_dst hok ho hoj (fun h=>hji h.symm) hd)]
   exact hJ.wrote t j oj hoj hd hl hts
theorem J.final {listed:Array Bool} {a:Act} (hJ:J ops val a0 listed a) (hall:∀ i,i < ops.size→listed.getD i false=true):a=frs ops val a0 ops.size:=by
 refine act_ext (by rw [hJ.defers,frs_defers]) fun t=> ?_
 by_cases hts':a0.tmps.size≤t
 ·rw [Array.getElem?_eq_none (by rw [hJ.nt]; exact hts'),Array.getElem?_eq_none (by rw [frs_size]; exact hts')]
 have hts:t < a0.tmps.size:=Nat.lt_of_not_le hts'
 by_cases hw:∃ (j:Nat) (oj:Oper),ops[j]?=some oj∧oj.dst=some t
 ·obtain ⟨j,oj,hoj,hd⟩:=hw
  have hj:j < ops.size:=(Array.getElem?_eq_some_iff.1 hoj).1
  rw [frs_wrote val a0 hoj hd hts (fun q oq hne hoq=>order_dst hok hoq hoj hne hd) ops.size hj]
  exact hJ.wrote t j oj hoj hd (hall j hj) hts
 ·rw [frs_keep val a0 ops.size fun j oj _ hoj hd=>hw ⟨j,oj,hoj,hd⟩]
  exact hJ.keep t fun j oj hoj hd=>absurd ⟨j,oj,hoj,hd⟩ hw
omit hok in
theorem upon_move {o:Oper} {a b:Act} {v:Value} {I:World→Prop} {K:Act→World→Prop} {Q:Exit→Act→World→Prop} {r:Result Next} (hsz:b.tmps.size=a.tmps.size)
  (hK:∀ w',I w'→K (b.put o.dst v) w') (h:o.upon P a (fun a' w'=>a'=a.put o.dst v∧I w') (fun _ _ _=>False) r):o.upon P b K Q r:=by
 have back:∀ u w',(a.put o.dst u=a.put o.dst v∧I w')→K (b.put o.dst u) w':=by
  rintro u w' ⟨he,hi⟩
  have:b.put o.dst u=b.put o.dst v:=by
   cases hd:o.dst with
   | none=>rfl
   | some d=>
    rw [hd] at he
    rcases Nat.lt_or_ge d a.tmps.size with hlt | hge
    ·have h1:=put_get_eq a u hlt
     rw [he,put_get_eq a v hlt] at h1
     cases h1; rfl
    ·refine act_ext (by rw [put_defers,put_defers]) fun t=> ?_
     by_cases ht:d=t
     ·subst ht
      rw [put_get_out _ _ _ (by omega),put_get_out _ _ _ (by omega)]
     ·rw [put_get_ne _ _ (fun e=>ht (Option.some.inj e)),put_get_ne _ _ (fun e=>ht (Option.some.inj e))]
  rw [this]; exact hK w' hi
 cases r with
 | ok n w'=>
  cases n <;> simp only [Oper.upon] at h ⊢
  case value u=>exact back u w' h
  case skip=>exact back undef w' h
  case defer d=>
   exfalso
   have:=congrArg Act.defers h.1
   rw [put_defers,put_defers] at this
   have:=congrArg List.length this
   simp at this
  case enter f args=>
   exact Calls.mono h fun e w'' he=>by
    cases e with
    | returned v=>exact back _ _ he
    | panicked c=>exact False.elim he
    | outgrown=>obtain ⟨_,_,h⟩:=he; exact False.elim h
  case row row args=>exact Rows.mono h fun u w'' he=>back u w'' he
 | halt x w'=>cases x <;> simp only [Oper.upon] at h ⊢
theorem draw_plan {Q:Exit→Act→World→Prop} {I:World→Prop} (hs:noSelect ops.toList=true)
  (hstep:∀ i o,ops[i]?=some o→StepOk P ops I o (frs ops val a0 i) (val i)) (hQ:∀ w',I w'→Q .normal (frs ops val a0 ops.size) w') :
  ∀ (fuel:Nat) (listed:Array Bool) (a:Act) (w:World),J ops val a0 listed a→I w→unl ops listed≤fuel→wpAny P .any ops Q fuel listed a w:=by
 have fin:∀ (listed:Array Bool) (a:Act) (w:World),J ops val a0 listed a→I w→(∀ i,i < ops.size→listed.getD i false=true)→Q .normal a w:=by
  intro listed a w hJ hI hall
  rw [J.final hok val a0 hJ hall]
  exact hQ w hI
 intro fuel
 induction fuel with
 | zero=>
  intro listed a w hJ hI hu
  have hall:∀ i,i < ops.size→listed.getD i false=true:=fun i hi=>unl_zero (by omega) hi
  refine ⟨?_,fin listed a w hJ hI hall⟩
  cases hr:Region.ready .any ops listed with
  | nil=>rfl
  | cons i l=>
   exfalso
   have hm:i ∈ Region.ready .any ops listed:=by rw [hr]; simp
   obtain ⟨h1,o,ho,_⟩:=mem_ready.1 hm
   have h2:=getD_false_of h1
   rw [hall i (Array.getElem?_eq_some_iff.1 ho).1] at h2
   cases h2.1
 | succ fuel ih=>
  intro listed a w hJ hI hu
  refine ⟨fun hr=>fin listed a w hJ hI (fun i hi=>all_done hok hJ.size hr i i (Nat.le_refl _) hi),fun i hm=> ?_⟩
  obtain ⟨h1,o,ho,hall⟩:=mem_ready.1 hm
  obtain ⟨hf,hi⟩:=getD_false_of h1
  have hi':i < ops.size:=by rw [← hJ.size]; exact hi
  have hnext:unl ops (listed.setIfInBounds i true)≤fuel:=by have:=unl_set hJ.size hi' hf; omega
  have hslot:∀ t,t ∈ namesOf ops.toList o→a.tmps[t]?=(frs ops val a0 i).tmps[t]?:=fun t ht=>J.operand hok val a0 hJ ho hf hall ht
  have hwant:Region.wanted o (yielded ops a.tmps)=Region.wanted o (yielded ops (frs ops val a0 i).tmps):=by
   unfold Region.wanted
   cases hg:o.guard with
   | none=>rfl
   | some jw=>
    obtain ⟨j,want⟩:=jw
    simp only [yielded]
    cases hd:(ops[j]?).bind (·.dst) with
    | none=>rfl
    | some d=>
     simp only [Option.bind_some]
     rw [hslot d (by
      simp only [namesOf,hg,List.mem_append]
      right
      have:(ops.toList[j]?).bind (·.dst)=some d:=by simpa using hd
      rw [this]; simp)]
  have hexec:execOp a.eval o=execOp (frs ops val a0 i).eval o:=by
   refine execOp_congr o (fun cs b hsel=> ?_) fun x hx=> ?_
   ·have:=List.all_eq_true.1 hs o (by simpa using Array.mem_of_getElem? ho)
    rw [hsel] at this; cases this
   ·cases x with
    | tmp t=>
     have:=hslot t (by
      simp only [namesOf,List.mem_append]
      left; right
      exact List.mem_filterMap.2 ⟨.tmp t,by simpa using hx,rfl⟩)
     show a.tmps.getD t undef=(frs ops val a0 i).tmps.getD t undef
     rw [Array.getD_eq_getD_getElem?,Array.getD_eq_getD_getElem?,this]
    | const v=>rfl
    | global b=>rfl
    | func f=>rfl
  have next:∀ w',I w'→wpAny P .any ops Q fuel (listed.setIfInBounds i true) (a.put o.dst (val i)) w':=fun w' hI'=>ih _ _ w' (J.done hok val a0 hJ ho hall) hI' hnext
  have hst:=hstep i o ho w (fun a' w'=>a'=(frs ops val a0 i).put o.dst (val i)∧I w') hI (fun w' hI'=>⟨rfl,hI'⟩)
  have hsz:a.tmps.size=(frs ops val a0 i).tmps.size:=by rw [hJ.nt,frs_size]
  unfold wpOp
  simp only [ho]
  rw [hwant]
  by_cases hw:Region.wanted o (yielded ops (frs ops val a0 i).tmps)=true
  ·rw [if_pos hw] at hst ⊢
   left
   unfold Oper.wp at hst ⊢
   rw [hexec]
   exact upon_move hsz next hst
  ·rw [if_neg hw] at hst ⊢
   have h2:=upon_move (P:=P) (r:= .ok .skip w) (o:=o) (Q:=Q) hsz next hst
   exact h2
def Plan (P:Program) (ops:Array Oper) (I:World→Prop):List Oper→List Value→Act→(Act→Prop)→Prop
 | [],_,a,K=>K a
 | o::l,vs,a,K=>StepOk P ops I o a (vs.headD undef)∧Plan P ops I l vs.tail (a.put o.dst (vs.headD undef)) K
omit hok in
theorem plan_all {I:World→Prop} {K:Act→Prop} {all:List Value} (hval:∀ i,val i=all.getD i undef):∀ (l:List Oper) (k:Nat) (vs:List Value),ops.toList.drop k=l→all.drop k=vs→k≤ops.size→
  Plan P ops I l vs (frs ops val a0 k) K→(∀ i o,k≤i→ops[i]?=some o→StepOk P ops I o (frs ops val a0 i) (val i))∧K (frs ops val a0 ops.size)
 | [],k,vs,hl,hv,hk,h=>by
  have hk2:k=ops.size:=by
   have:=List.drop_eq_nil_iff.1 hl
   simp at this; omega
  subst hk2
  exact ⟨fun i o hi ho=>by have:=(Array.getElem?_eq_some_iff.1 ho).1; omega,h⟩
 | o::l,k,vs,hl,hv,hk,h=>by
  have hk2:k < ops.size:=by
   rcases Nat.lt_or_ge k ops.size with h' | h'
   ·exact h'
   ·rw [List.drop_eq_nil_of_le (by simpa using h')] at hl; cases hl
  have ho:ops[k]?=some o:=by
   have:(ops.toList.drop k)[0]?=some o:=by rw [hl]; rfl
   rw [List.getElem?_drop] at this
   simpa using this
  have hvk:vs.headD undef=val k:=by
   rw [hval,← hv]
   cases hx:all.drop k with
   | nil=>
    have:=List.drop_eq_nil_iff.1 hx
    simp [List.getD_eq_getElem?_getD,List.getElem?_eq_none this]
   | cons x r=>
    have:(all.drop k)[0]?=some x:=by rw [hx]; rfl
    rw [List.getElem?_drop] at this
    simp [List.getD_eq_getElem?_getD] at this ⊢
    rw [this]; rfl
  obtain ⟨h1,h2⟩:=h
  rw [hvk] at h1 h2
  have hfr:frs ops val a0 (k+1)=(frs ops val a0 k).put o.dst (val k):=by
   show (match ops[k]? with | some o=>(frs ops val a0 k).put o.dst (val k) | none=>frs ops val a0 k)=_
   rw [ho]
  obtain ⟨g1,g2⟩:=plan_all hval l (k+1) vs.tail (by rw [← List.tail_drop,hl]; rfl) (by rw [← List.tail_drop,hv]) hk2 (by rw [hfr]; exact h2)
  exact ⟨fun i oi hi hoi=>by
   by_cases hik:i=k
   ·subst hik
    rw [ho] at hoi; cases hoi
    exact h1
   ·exact g1 i oi (by omega) hoi,g2⟩
end
theorem wp_region_plan {id:Nat} {a:Act} {w:World} {Q:Exit→Act→World→Prop} (I:World→Prop) (vs:List Value) (hm:P.follows .mixedOrders=true)
  (hok:orderOk ops.toList (masks ops.toList [])=true) (hs:noSelect ops.toList=true) (hI:I w.drew)
  (h:Plan P ops I ops.toList vs a (fun a'=>∀ w',I w'→Q .normal a' w')):(Code.region id ops true).wp P Q a w:=by
 obtain ⟨h1,h2⟩:=plan_all (P:=P) (val:=fun i=>vs.getD i undef) a (fun _=>rfl) ops.toList 0 vs (by simp) (by simp) (Nat.zero_le _) h
 refine wp_region_any hm ?_
 refine draw_plan hok (fun i=>vs.getD i undef) a hs (fun i o ho=>h1 i o (Nat.zero_le _) ho) h2 ops.size _ a _ ?_ hI ?_
 ·refine ⟨by simp,?_,rfl,rfl,fun _ _=>rfl,?_⟩
  ·intro j oj hoj hl
   rw [rep_false] at hl; cases hl
  ·intro t j oj hoj hd hl
   rw [rep_false] at hl; cases hl
 ·unfold unl
  exact Nat.le_trans (List.length_filter_le _ _) (by simp)
end Go.Ev

namespace Go.Ev
variable {P:Program} {ops:Array Oper}
def upd {α:Type} (f:Nat→α) (i:Nat) (x:α):Nat→α:=fun j=>if j=i then x else f j
theorem upd_same {α:Type} (f:Nat→α) (i:Nat) (x:α):upd f i x i=x:=by simp [upd]
theorem upd_other {α:Type} (f:Nat→α) {i j:Nat} (x:α) (h:j≠i):upd f i x j=f j:=by simp [upd,h]
def InvStep (P:Program) (ops:Array Oper) (S:(Nat→Bool)→(Nat→Value)→World→Prop) (i:Nat) (o:Oper) (fr:(Nat→Value)→Act):Prop:=
 ∀ (d:Nat→Bool) (vs:Nat→Value) (w:World) (K:Act→World→Prop),S d vs w→d i=false→(∀ ed ∈ o.after,Region.binds .any ed=true→d ed.on=true)→
  (∀ (j:Nat) (oj:Oper),ops[j]?=some oj→d j=true→∀ ed ∈ oj.after,Region.binds .any ed=true→d ed.on=true)→
  (∀ v w',S (upd d i true) (upd vs i v) w'→K ((fr vs).put o.dst v) w')→
  if Region.wanted o (yielded ops (fr vs).tmps)=true then o.wp P (fr vs) w K (fun _ _ _=>False) else K ((fr vs).put o.dst undef) w
theorem closedB {d:Nat→Bool} (hcl:∀ (j:Nat) (oj:Oper),ops[j]?=some oj→d j=true→∀ ed ∈ oj.after,Region.binds .any ed=true→d ed.on=true) (j k:Nat)
  (h:((ops[j]?).any fun oj=>oj.after.any fun ed=>Region.binds .any ed && Nat.beq ed.on k)=true) (hj:d j=true):d k=true:=by
 cases ho:ops[j]? with
 | none=>rw [ho] at h; cases h
 | some oj=>
  rw [ho] at h
  simp only [Option.any_some,Array.any_eq_true,Bool.and_eq_true] at h
  obtain ⟨i,hi,h1,h2⟩:=h
  have:=hcl j oj ho hj _ (Array.getElem_mem hi) h1
  rwa [Nat.eq_of_beq_eq_true h2] at this
theorem closedF {d:Nat→Bool} (hcl:∀ (j:Nat) (oj:Oper),ops[j]?=some oj→d j=true→∀ ed ∈ oj.after,Region.binds .any ed=true→d ed.on=true) (j k:Nat)
  (h:((ops[j]?).any fun oj=>oj.after.any fun ed=>Region.binds .any ed && Nat.beq ed.on k)=true) (hk:d k=false):d j=false:=by
 cases hj:d j with
 | false=>rfl
 | true=>rw [closedB hcl j k h hj] at hk; cases hk
theorem depB {d:Nat→Bool} {o:Oper} (h:∀ ed ∈ o.after,Region.binds .any ed=true→d ed.on=true) (k:Nat) (hk:(o.after.any fun ed=>Region.binds .any ed && Nat.beq ed.on k)=true):d k=true:=by
 simp only [Array.any_eq_true,Bool.and_eq_true] at hk
 obtain ⟨i,hi,h1,h2⟩:=hk
 have:=h _ (Array.getElem_mem hi) h1
 rwa [Nat.eq_of_beq_eq_true h2] at this
def InvPlan (P:Program) (ops:Array Oper) (S:(Nat→Bool)→(Nat→Value)→World→Prop):List Oper→Nat→((Nat→Value)→Act)→((Nat→Value)→Act→Prop)→Prop
 | [],_,fr,F=>∀ vs,F vs (fr vs)
 | o::l,i,fr,F=>InvStep P ops S i o fr∧InvPlan P ops S l (i+1) (fun vs=>(fr vs).put o.dst (vs i)) F
theorem upon_move2 {o:Oper} {a b:Act} {S:Value→World→Prop} {K:Act→World→Prop} {Q:Exit→Act→World→Prop} {r:Result Next} (hsz:b.tmps.size=a.tmps.size)
  (hK:∀ v w',S v w'→K (b.put o.dst v) w') (h:o.upon P a (fun a' w'=>∃ v,a'=a.put o.dst v∧S v w') (fun _ _ _=>False) r):o.upon P b K Q r:=by
 have back:∀ u w',(∃ v,a.put o.dst u=a.put o.dst v∧S v w')→K (b.put o.dst u) w':=by
  rintro u w' ⟨v,he,hi⟩
  have:b.put o.dst u=b.put o.dst v:=by
   cases hd:o.dst with
   | none=>rfl
   | some d=>
    rw [hd] at he
    rcases Nat.lt_or_ge d a.tmps.size with hlt | hge
    ·have h1:=put_get_eq a u hlt
     rw [he,put_get_eq a v hlt] at h1
     cases h1; rfl
    ·refine act_ext (by rw [put_defers,put_defers]) fun t=> ?_
     by_cases ht:d=t
     ·subst ht
      rw [put_get_out _ _ _ (by omega),put_get_out _ _ _ (by omega)]
     ·rw [put_get_ne _ _ (fun e=>ht (Option.some.inj e)),put_get_ne _ _ (fun e=>ht (Option.some.inj e))]
  rw [this]; exact hK v w' hi
 cases r with
 | ok n w'=>
  cases n <;> simp only [Oper.upon] at h ⊢
  case value u=>exact back u w' h
  case skip=>exact back undef w' h
  case defer d=>
   exfalso
   obtain ⟨v,h1,_⟩:=h
   have:=congrArg Act.defers h1
   rw [put_defers,put_defers] at this
   have:=congrArg List.length this
   simp at this
  case enter f args=>
   exact Calls.mono h fun e w'' he=>by
    cases e with
    | returned v=>exact back _ _ he
    | panicked c=>exact False.elim he
    | outgrown=>obtain ⟨_,_,h⟩:=he; exact False.elim h
  case row row args=>exact Rows.mono h fun u w'' he=>back u w'' he
 | halt x w'=>cases x <;> simp only [Oper.upon] at h ⊢
theorem J.upd {vs:Nat→Value} {a0:Act} {listed:Array Bool} {a:Act} (hJ:J ops vs a0 listed a) {i:Nat} (hi:listed.getD i false=false) (v:Value):J ops (upd vs i v) a0 listed a:=by
 refine ⟨hJ.size,hJ.closed,hJ.defers,hJ.nt,hJ.keep,fun t j oj hoj hd hl ht=> ?_⟩
 rw [upd_other _ _ (fun e=>by subst e; rw [hi] at hl; cases hl)]
 exact hJ.wrote t j oj hoj hd hl ht
theorem frs_upd {vs:Nat→Value} {a0:Act} {i:Nat} {v:Value}:∀ k,k≤i→frs ops (upd vs i v) a0 k=frs ops vs a0 k
 | 0,_=>rfl
 | k+1,h=>by
  unfold frs
  rw [frs_upd k (by omega),upd_other _ _ (by omega)]
theorem draw_inv {a0:Act} {Q:Exit→Act→World→Prop} {S:(Nat→Bool)→(Nat→Value)→World→Prop} (hok:orderOk ops.toList (masks ops.toList [])=true) (hs:noSelect ops.toList=true)
  (hstep:∀ i o,ops[i]?=some o→InvStep P ops S i o (fun vs=>frs ops vs a0 i)) (hQ:∀ d vs w',S d vs w'→(∀ i,i < ops.size→d i=true)→Q .normal (frs ops vs a0 ops.size) w') :
  ∀ (fuel:Nat) (listed:Array Bool) (vs:Nat→Value) (a:Act) (w:World),J ops vs a0 listed a→S (fun j=>listed.getD j false) vs w→unl ops listed≤fuel→wpAny P .any ops Q fuel listed a w:=by
 have fin:∀ (listed:Array Bool) (vs:Nat→Value) (a:Act) (w:World),J ops vs a0 listed a→S (fun j=>listed.getD j false) vs w→(∀ i,i < ops.size→listed.getD i false=true)→Q .normal a w:=by
  intro listed vs a w hJ hI hall
  rw [J.final hok vs a0 hJ hall]
  exact hQ _ vs w hI hall
 intro fuel
 induction fuel with
 | zero=>
  intro listed vs a w hJ hI hu
  have hall:∀ i,i < ops.size→listed.getD i false=true:=fun i hi=>unl_zero (by omega) hi
  refine ⟨?_,fin listed vs a w hJ hI hall⟩
  cases hr:Region.ready .any ops listed with
  | nil=>rfl
  | cons i l=>
   exfalso
   have hm:i ∈ Region.ready .any ops listed:=by rw [hr]; simp
   obtain ⟨h1,o,ho,_⟩:=mem_ready.1 hm
   have h2:=getD_false_of h1
   rw [hall i (Array.getElem?_eq_some_iff.1 ho).1] at h2
   cases h2.1
 | succ fuel ih=>
  intro listed vs a w hJ hI hu
  refine ⟨fun hr=>fin listed vs a w hJ hI (fun i hi=>all_done hok hJ.size hr i i (Nat.le_refl _) hi),fun i hm=> ?_⟩
  obtain ⟨h1,o,ho,hall⟩:=mem_ready.1 hm
  obtain ⟨hf,hi⟩:=getD_false_of h1
  have hi':i < ops.size:=by rw [← hJ.size]; exact hi
  have hnext:unl ops (listed.setIfInBounds i true)≤fuel:=by have:=unl_set hJ.size hi' hf; omega
  have hslot:∀ t,t ∈ namesOf ops.toList o→a.tmps[t]?=(frs ops vs a0 i).tmps[t]?:=fun t ht=>J.operand hok vs a0 hJ ho hf hall ht
  have hwant:Region.wanted o (yielded ops a.tmps)=Region.wanted o (yielded ops (frs ops vs a0 i).tmps):=by
   unfold Region.wanted
   cases hg:o.guard with
   | none=>rfl
   | some jw=>
    obtain ⟨j,want⟩:=jw
    simp only [yielded]
    cases hd:(ops[j]?).bind (·.dst) with
    | none=>rfl
    | some d=>
     simp only [Option.bind_some]
     rw [hslot d (by
      simp only [namesOf,hg,List.mem_append]
      right
      have:(ops.toList[j]?).bind (·.dst)=some d:=by simpa using hd
      rw [this]; simp)]
  have hexec:execOp a.eval o=execOp (frs ops vs a0 i).eval o:=by
   refine execOp_congr o (fun cs b hsel=> ?_) fun x hx=> ?_
   ·have:=List.all_eq_true.1 hs o (by simpa using Array.mem_of_getElem? ho)
    rw [hsel] at this; cases this
   ·cases x with
    | tmp t=>
     have:=hslot t (by
      simp only [namesOf,List.mem_append]
      left; right
      exact List.mem_filterMap.2 ⟨.tmp t,by simpa using hx,rfl⟩)
     show a.tmps.getD t undef=(frs ops vs a0 i).tmps.getD t undef
     rw [Array.getD_eq_getD_getElem?,Array.getD_eq_getD_getElem?,this]
    | const v=>rfl
    | global b=>rfl
    | func f=>rfl
  have hd:(fun j=>(listed.setIfInBounds i true).getD j false)=upd (fun j=>listed.getD j false) i true:=by
   funext j
   rw [set_getD hi j]
   rfl
  have next:∀ v w',S (upd (fun j=>listed.getD j false) i true) (upd vs i v) w'→wpAny P .any ops Q fuel (listed.setIfInBounds i true) (a.put o.dst v) w':=fun v w' hI'=>by
   have hJ':=J.done hok (upd vs i v) a0 (hJ.upd hf v) ho hall
   rw [upd_same] at hJ'
   refine ih _ _ _ w' hJ' ?_ hnext
   rw [hd]; exact hI'
  have hst:=hstep i o ho _ vs w (fun a' w'=>∃ v,a'=(frs ops vs a0 i).put o.dst v∧S (upd (fun j=>listed.getD j false) i true) (upd vs i v) w') hI hf hall hJ.closed (fun v w' hI'=>⟨v,rfl,hI'⟩)
  have hsz:a.tmps.size=(frs ops vs a0 i).tmps.size:=by rw [hJ.nt,frs_size]
  unfold wpOp
  simp only [ho]
  rw [hwant]
  by_cases hw:Region.wanted o (yielded ops (frs ops vs a0 i).tmps)=true
  ·rw [if_pos hw] at hst ⊢
   left
   unfold Oper.wp at hst ⊢
   rw [hexec]
   exact upon_move2 (S:=fun v w'=>S (upd (fun j=>listed.getD j false) i true) (upd vs i v) w') hsz next hst
  ·rw [if_neg hw] at hst ⊢
   have h2:=upon_move2 (P:=P) (r:= .ok .skip w) (o:=o) (Q:=Q) (S:=fun v w'=>S (upd (fun j=>listed.getD j false) i true) (upd vs i v) w') hsz next hst
   exact h2
theorem invPlan_all {S:(Nat→Bool)→(Nat→Value)→World→Prop} {F:(Nat→Value)→Act→Prop} {a0:Act}:∀ (l:List Oper) (k:Nat) (fr:(Nat→Value)→Act),ops.toList.drop k=l→k≤ops.size→(∀ vs,fr vs=frs ops vs a0 k)→
  InvPlan P ops S l k fr F→(∀ i o,k≤i→ops[i]?=some o→InvStep P ops S i o (fun vs=>frs ops vs a0 i))∧∀ vs,F vs (frs ops vs a0 ops.size)
 | [],k,fr,hl,hk,hfr,h=>by
  have hk2:k=ops.size:=by
   have:=List.drop_eq_nil_iff.1 hl
   simp at this; omega
  subst hk2
  exact ⟨fun i o hi ho=>by have:=(Array.getElem?_eq_some_iff.1 ho).1; omega,fun vs=>by rw [← hfr]; exact h vs⟩
 | o::l,k,fr,hl,hk,hfr,h=>by
  have hk2:k < ops.size:=by
   rcases Nat.lt_or_ge k ops.size with h' | h'
   ·exact h'
   ·rw [List.drop_eq_nil_of_le (by simpa using h')] at hl; cases hl
  have ho:ops[k]?=some o:=by
   have:(ops.toList.drop k)[0]?=some o:=by rw [hl]; rfl
   rw [List.getElem?_drop] at this
   simpa using this
  obtain ⟨h1,h2⟩:=h
  have hfr2:∀ vs,(fr vs).put o.dst (vs k)=frs ops vs a0 (k+1):=fun vs=>by
   rw [hfr]
   show _=(match ops[k]? with | some o=>(frs ops vs a0 k).put o.dst (vs k) | none=>frs ops vs a0 k)
   rw [ho]
  obtain ⟨g1,g2⟩:=invPlan_all l (k+1) _ (by rw [← List.tail_drop,hl]; rfl) hk2 hfr2 h2
  have hfe:fr=fun vs=>frs ops vs a0 k:=funext hfr
  rw [hfe] at h1
  exact ⟨fun i oi hi hoi=>by
   by_cases hik:i=k
   ·subst hik
    rw [ho] at hoi; cases hoi
    exact h1
   ·exact g1 i oi (by omega) hoi,g2⟩
theorem wp_region_inv {id:Nat} {a:Act} {w:World} {Q:Exit→Act→World→Prop} (S:(Nat→Bool)→(Nat→Value)→World→Prop) (hm:P.follows .mixedOrders=true)
  (hok:orderOk ops.toList (masks ops.toList [])=true) (hs:noSelect ops.toList=true) (h0:S (fun _=>false) (fun _=>undef) w.drew)
  (h:InvPlan P ops S ops.toList 0 (fun _=>a) (fun vs a'=>∀ d w',S d vs w'→(∀ i,i < ops.size→d i=true)→Q .normal a' w')):(Code.region id ops true).wp P Q a w:=by
 obtain ⟨h1,h2⟩:=invPlan_all (a0:=a) ops.toList 0 _ (by simp) (Nat.zero_le _) (fun _=>rfl) h
 refine wp_region_any hm ?_
 refine draw_inv (a0:=a) hok hs (fun i o ho=>h1 i o (Nat.zero_le _) ho) (fun d vs w'=>h2 vs d w') ops.size _ (fun _=>undef) a _ ?_ ?_ ?_
 ·refine ⟨by simp,?_,rfl,rfl,fun _ _=>rfl,?_⟩
  ·intro j oj hoj hl
   rw [rep_false] at hl; cases hl
  ·intro t j oj hoj hd hl
   rw [rep_false] at hl; cases hl
 ·have:(fun j=>(Array.replicate ops.size false).getD j false)=fun _=>false:=funext fun j=>rep_false _ _
  rw [this]; exact h0
 ·unfold unl
  exact Nat.le_trans (List.length_filter_le _ _) (by simp)
end Go.Ev
