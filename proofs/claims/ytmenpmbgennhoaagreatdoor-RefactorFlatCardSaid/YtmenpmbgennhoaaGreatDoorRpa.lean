/- Plain facts on what is made plain: all that a plain grammar keeps to. Plain law: a flattened grammar, made plain, is what the plain grammar was; flattened once more it is itself. Plain law: Flatten of what Flatten made. Plain law: what RefactorFlat says. Plain facts: how long the text of a proper grammar is; flattened grammars are small. Plain facts: a grammar that was read is small. -/
import Derived.Test.YtmenpmbgennhoaaGreatDoorFit
namespace Go.Proofs.YtmenpmbgennhoaaGreatDoor
open Go.RowKit
mutual
def litsT (ts:List ByteArray):Tr→Prop
 | .mk k x ks=>if k=2 then x ∈ ts else if k=1 then True else litsK ts ks
def litsK (ts:List ByteArray):List Tr→Prop
 | []=>True
 | a::l=>litsT ts a∧litsK ts l
end
theorem litsK_mem {ts:List ByteArray}:∀ (l:List Tr) (a:Tr),litsK ts l→a ∈ l→litsT ts a
 | [],_,_,h=>by simp at h
 | b::l,a,hl,h=>by
  rw [litsK] at hl
  rcases List.mem_cons.1 h with rfl | h
  ·exact hl.1
  ·exact litsK_mem l a hl.2 h
mutual
theorem litsT_sub {ts us:List ByteArray} (h:∀ x ∈ ts,x ∈ us):∀ t:Tr,litsT ts t→litsT us t
 | .mk k x ks,hl=>by
  rw [litsT] at hl ⊢
  split
  ·rename_i hk; rw [if_pos hk] at hl; exact h x hl
  ·rename_i hk
   rw [if_neg hk] at hl
   split
   ·trivial
   ·rename_i hk1; rw [if_neg hk1] at hl; exact litsK_sub h ks hl
theorem litsK_sub {ts us:List ByteArray} (h:∀ x ∈ ts,x ∈ us):∀ l:List Tr,litsK ts l→litsK us l
 | [],_=>by rw [litsK]; trivial
 | a::l,hl=>by
  rw [litsK] at hl ⊢
  exact ⟨litsT_sub h a hl.1,litsK_sub h l hl.2⟩
end
mutual
theorem termsT_sub:∀ (l:List ByteArray) (t:Tr) (x:ByteArray),x ∈ l→x ∈ termsT l t
 | l,.mk k y ks,x,h=>by
  rw [termsT]
  split
  ·split
   ·exact h
   ·exact List.mem_append_left _ h
  ·split
   ·exact h
   ·exact termsK_sub l ks x h
theorem termsK_sub:∀ (l:List ByteArray) (ks:List Tr) (x:ByteArray),x ∈ l→x ∈ termsK l ks
 | l,[],x,h=>by rw [termsK]; exact h
 | l,a::r,x,h=>by rw [termsK]; exact termsK_sub _ r x (termsT_sub l a x h)
end
mutual
theorem terms_lits:∀ (l:List ByteArray) (t:Tr),litsT (termsT l t) t
 | l,.mk k y ks=>by
  rw [litsT]
  split
  ·rename_i hk
   rw [termsT,if_pos hk]
   split
   ·assumption
   ·simp
  ·rename_i hk
   split
   ·trivial
   ·rename_i hk1
    rw [termsT,if_neg hk,if_neg hk1]
    exact termsK_lits l ks
theorem termsK_lits:∀ (l:List ByteArray) (ks:List Tr),litsK (termsK l ks) ks
 | l,[]=>by rw [litsK]; trivial
 | l,a::r=>by
  rw [litsK,termsK]
  exact ⟨litsT_sub (fun x h=>termsK_sub _ r x h) a (terms_lits l a),termsK_lits _ r⟩
end
theorem termsRs_sub:∀ (l:List ByteArray) (rs:List Rl) (x:ByteArray),x ∈ l→x ∈ termsRs l rs
 | l,[],x,h=>by rw [termsRs]; exact h
 | l,a::r,x,h=>by rw [termsRs]; exact termsRs_sub _ r x (termsT_sub l a.body x h)
theorem termsRs_lits:∀ (l:List ByteArray) (rs:List Rl) (a:Rl),a ∈ rs→litsT (termsRs l rs) a.body
 | l,[],a,h=>by simp at h
 | l,b::r,a,h=>by
  rw [termsRs]
  rcases List.mem_cons.1 h with rfl | h
  ·exact litsT_sub (fun x h=>termsRs_sub _ r x h) _ (terms_lits l _)
  ·exact termsRs_lits _ r a h
theorem lits_kids {ts:List ByteArray} (t:Tr) (h:litsT ts t) (h1:t.kind≠1) (h2:t.kind≠2):∀ a ∈ t.kids,litsT ts a:=by
 obtain ⟨k,x,ks⟩:=t
 simp only [Tr.kind] at h1 h2
 rw [litsT,if_neg h2,if_neg h1] at h
 exact fun a ha=>litsK_mem ks a h ha
theorem lits_rows {ts:List ByteArray} (t:Tr) (h:litsT ts t):∀ a ∈ rowsT t,litsT ts a:=by
 unfold rowsT
 split
 ·exact lits_kids t h (by omega) (by omega)
 ·intro a ha; simp at ha; subst ha; exact h
theorem lits_items {ts:List ByteArray} (t:Tr) (h:litsT ts t):∀ a ∈ itemsT t,litsT ts a:=by
 unfold itemsT
 split
 ·exact lits_kids t h (by omega) (by omega)
 ·intro a ha; simp at ha; subst ha; exact h
theorem lits_kid0 {ts:List ByteArray} (t:Tr) (h:litsT ts t) (h1:t.kind≠1) (h2:t.kind≠2):litsT ts (kid0 t):=by
 unfold kid0
 cases hk:t.kids[0]? with
 | none=>exact h
 | some a=>exact lits_kids t h h1 h2 a (List.mem_of_getElem? hk)
theorem fwdN_spec (rs:List Rl):∀ (k:Nat) (s:ByteArray) (j:Nat),fwdN rs k s=some j→j < k∧(rlAt rs j).name=s
 | 0,s,j,h=>by simp [fwdN] at h
 | k+1,s,j,h=>by
  rw [fwdN] at h
  split at h
  ·rename_i hs; cases h; exact ⟨by omega,hs.symm⟩
  ·have:=fwdN_spec rs k s j h; exact ⟨by omega,this.2⟩
theorem fwdN_has (rs:List Rl):∀ (k:Nat) (s:ByteArray) (j:Nat),j < k→(rlAt rs j).name=s→∃ i,fwdN rs k s=some i
 | 0,s,j,h,_=>by omega
 | k+1,s,j,h,hs=>by
  rw [fwdN]
  split
  ·exact ⟨k,rfl⟩
  ·rename_i hne
   exact fwdN_has rs k s j (by
    rcases Nat.lt_or_ge j k with h1 | h1
    ·exact h1
    ·have:j=k:=by omega
     subst this
     exact absurd hs.symm hne) hs
theorem fwdT_spec (ts:List ByteArray):∀ (k:Nat) (s:ByteArray) (j:Nat),fwdT ts k s=some j→j < k∧ts[j]?.getD ⟨#[]⟩=s
 | 0,s,j,h=>by simp [fwdT] at h
 | k+1,s,j,h=>by
  rw [fwdT] at h
  split at h
  ·rename_i hs; cases h; exact ⟨by omega,hs.symm⟩
  ·have:=fwdT_spec ts k s j h; exact ⟨by omega,this.2⟩
theorem fwdT_has (ts:List ByteArray):∀ (k:Nat) (s:ByteArray) (j:Nat),j < k→ts[j]?.getD ⟨#[]⟩=s→∃ i,fwdT ts k s=some i
 | 0,s,j,h,_=>by omega
 | k+1,s,j,h,hs=>by
  rw [fwdT]
  split
  ·exact ⟨k,rfl⟩
  ·rename_i hne
   exact fwdT_has ts k s j (by
    rcases Nat.lt_or_ge j k with h1 | h1
    ·exact h1
    ·have:j=k:=by omega
     subst this
     exact absurd hs.symm hne) hs
theorem fwdT_mem {ts:List ByteArray} {s:ByteArray} (h:s ∈ ts):∃ i,fwdT ts ts.length s=some i∧i < ts.length∧ts[i]?.getD ⟨#[]⟩=s:=by
 obtain ⟨j,hj,rfl⟩:=List.mem_iff_getElem.1 h
 obtain ⟨i,hi⟩:=fwdT_has ts ts.length ts[j] j hj (by rw [List.getElem?_eq_getElem hj]; rfl)
 have:=fwdT_spec ts _ _ _ hi
 exact ⟨i,hi,this⟩
def SymsOk (ts:List ByteArray) (n:Nat) (l:List Int):Prop:=∀ s ∈ l, -(ts.length:Int)≤s∧s < n
theorem SymsOk.up {ts:List ByteArray} {n m:Nat} {l:List Int} (h:SymsOk ts n l) (hnm:n≤m):SymsOk ts m l:=fun s hs=>⟨(h s hs).1,by have:=(h s hs).2; omega⟩
theorem SymsOk.app {ts:List ByteArray} {n:Nat} {l l':List Int} (h:SymsOk ts n l) (h':SymsOk ts n l'):SymsOk ts n (l++l'):=fun s hs=>(List.mem_append.1 hs).elim (h s) (h' s)
structure Iv (rs:List Rl) (ts:List ByteArray) (b:Nat) (st:Mk):Prop where
 n1:rs.length≤st.names.length
 n2:st.names.length≤256∨st.names.length≤rs.length
 ql:st.queue.length=st.names.length
 pl:st.prods.length≤256
 rr:∀ x ∈ st.prods,x.right.length≤16∧SymsOk ts st.names.length x.right
 lf:∀ x ∈ st.prods,x.left≤b
 lt:∀ x ∈ st.prods,x.left < st.names.length
 so:st.prods.Pairwise (fun x y=>x.left≤y.left)
 ns:∀ s ∈ st.names,s.size≤200
 qs:∀ x ∈ st.queue,litsT ts x.1
 qk:∀ x ∈ st.queue,x.2 < rs.length
 cs:∀ c ∈ st.count,c≤st.names.length
section
variable {rs:List Rl} {ts:List ByteArray} {b:Nat} {st:Mk}
theorem Iv.mk_many (h:Iv rs ts b st) (m:Bool):Iv rs ts b { st with many:=m }:=⟨h.n1,h.n2,h.ql,h.pl,h.rr,h.lf,h.lt,h.so,h.ns,h.qs,h.qk,h.cs⟩
theorem Iv.up (h:Iv rs ts b st):Iv rs ts (b+1) st:={ h with lf:=fun x hx=>Nat.le_succ_of_le (h.lf x hx) }
theorem rlAt_mem {rs:List Rl} {i:Nat} (h:i < rs.length):rlAt rs i ∈ rs:=by
 unfold rlAt
 rw [List.getElem?_eq_getElem h]
 exact List.getElem_mem h
theorem Iv.sym (h:Iv rs ts b st) (hrs:properRs rs=true) (hr:rs.length≤256) (t:Tr) (rule:Nat) (hk:rule < rs.length) (ht:litsT ts t) :
  Iv rs ts b (symF rs ts st t rule).1∧SymsOk ts (symF rs ts st t rule).1.names.length [(symF rs ts st t rule).2]∧st.names.length≤(symF rs ts st t rule).1.names.length:=by
 have hn1:=h.n1
 unfold symF
 split
 ·refine ⟨h,fun s hs=> ?_,Nat.le_refl _⟩
  simp at hs
  subst hs
  have:(fwdN rs rs.length t.text).getD 0 < rs.length:=by
   cases hf:fwdN rs rs.length t.text with
   | none=>simp; omega
   | some j=>exact (fwdN_spec rs _ _ _ hf).1
  simp only
  omega
 ·split
  ·rename_i h1 h2
   refine ⟨h,fun s hs=> ?_,Nat.le_refl _⟩
   simp at hs
   subst hs
   have hm:t.text ∈ ts:=by
    obtain ⟨k,x,ks⟩:=t
    simp only [Tr.kind] at h2
    rw [litsT,if_pos h2] at ht
    exact ht
   obtain ⟨i,hi,hlt,_⟩:=fwdT_mem hm
   rw [hi]
   simp only [Option.getD_some]
   omega
  ·split
   ·refine ⟨h.mk_many true,fun s hs=> ?_,Nat.le_refl _⟩
    simp at hs
    subst hs
    simp only
    omega
   ·rename_i h1 h2 h3
    have hc:(st.count[rule]?.getD 0)≤st.names.length:=by
     cases hcr:st.count[rule]? with
     | none=>simp
     | some c=>exact h.cs c (List.mem_of_getElem? hcr)
    have hname:(dotName (rlAt rs rule).name ((st.count[rule]?.getD 0)+1)).size≤200:=by
     have h5:=good_size _ (properRs_mem rs _ hrs (rlAt_mem hk)).1
     have h6:=itoa_len ((st.count[rule]?.getD 0)+1) (by omega)
     unfold dotName
     rw [ByteArray.size_append,ByteArray.size_append]
     have h7:(⟨(Lib.itoa (((st.count[rule]?.getD 0)+1:Nat):Int)).toArray⟩:ByteArray).size≤100:=h6
     have h8:(⟨#[46]⟩:ByteArray).size=1:=rfl
     omega
    refine ⟨⟨by simp; omega,.inl (by simp; omega),by simp [h.ql],h.pl,fun x hx=>⟨(h.rr x hx).1,(h.rr x hx).2.up (by simp)⟩,h.lf,fun x hx=>by have:=h.lt x hx; simp; omega,h.so,fun s hs=> ?_,fun x hx=> ?_,fun x hx=> ?_,fun c hcm=> ?_⟩,fun s hs=> ?_,by simp⟩
    ·rcases List.mem_append.1 hs with hs | hs
     ·exact h.ns s hs
     ·simp at hs; subst hs; exact hname
    ·rcases List.mem_append.1 hx with hx | hx
     ·exact h.qs x hx
     ·simp at hx; subst hx; exact ht
    ·rcases List.mem_append.1 hx with hx | hx
     ·exact h.qk x hx
     ·simp at hx; subst hx; exact hk
    ·simp only [List.length_append,List.length_cons,List.length_nil]
     rcases List.mem_or_eq_of_mem_set hcm with hcm | hcm
     ·have:=h.cs c hcm; omega
     ·omega
    ·simp at hs
     subst hs
     simp
     omega
theorem Iv.row (hrs:properRs rs=true) (hr:rs.length≤256) (rule:Nat) (hk:rule < rs.length):∀ (l:List Tr) (st:Mk) (out:List Int),Iv rs ts b st→(∀ a ∈ l,litsT ts a)→SymsOk ts st.names.length out→
  Iv rs ts b (rowF rs ts rule st l out).1∧SymsOk ts (rowF rs ts rule st l out).1.names.length (rowF rs ts rule st l out).2∧st.names.length≤(rowF rs ts rule st l out).1.names.length
 | [],st,out,h,_,ho=>by rw [rowF]; exact ⟨h,ho,Nat.le_refl _⟩
 | a::l,st,out,h,hl,ho=>by
  rw [rowF]
  split
  ·exact ⟨h.mk_many true,ho,Nat.le_refl _⟩
  ·obtain ⟨h1,h2,h3⟩:=h.sym hrs hr a rule hk (hl a (by simp))
   obtain ⟨h4,h5,h6⟩:=Iv.row hrs hr rule hk l _ (out++[(symF rs ts st a rule).2]) h1 (fun b hb=>hl b (by simp [hb])) ((ho.up h3).app h2)
   exact ⟨h4,h5,Nat.le_trans h3 h6⟩
theorem Iv.add (h:Iv rs ts b st) (hb:b < st.names.length) (right:List Int) (hs:SymsOk ts st.names.length right):Iv rs ts b (addF st b right)∧(addF st b right).names=st.names:=by
 unfold addF
 split
 ·exact ⟨h.mk_many true,rfl⟩
 ·rename_i hn
  refine ⟨{ h with pl:=by simp; omega,rr:=fun x hx=> ?_,lf:=fun x hx=> ?_,lt:=fun x hx=> ?_,so:= ?_ },rfl⟩
  ·rcases List.mem_append.1 hx with hx | hx
   ·exact h.rr x hx
   ·simp at hx; subst hx; exact ⟨by simp; omega,hs⟩
  ·rcases List.mem_append.1 hx with hx | hx
   ·exact h.lf x hx
   ·simp at hx; subst hx; exact Nat.le_refl _
  ·rcases List.mem_append.1 hx with hx | hx
   ·exact h.lt x hx
   ·simp at hx; subst hx; exact hb
  ·refine List.pairwise_append.2 ⟨h.so,by simp,fun x hx y hy=> ?_⟩
   simp at hy
   subst hy
   exact h.lf x hx
theorem Iv.each (hrs:properRs rs=true) (hr:rs.length≤256) (mode rule:Nat) (hk:rule < rs.length):∀ (l:List Tr) (st:Mk),Iv rs ts b st→b < st.names.length→(∀ a ∈ l,litsT ts a)→Iv rs ts b (eachF rs ts mode b rule st l)∧st.names.length≤(eachF rs ts mode b rule st l).names.length
 | [],st,h,_,_=>by rw [eachF]; exact ⟨h,Nat.le_refl _⟩
 | a::l,st,h,hb,hl=>by
  rw [eachF]
  obtain ⟨h1,h2,h3⟩:=Iv.row (b:=b) hrs hr rule hk (itemsT a) st [] h (lits_items a (hl a (by simp))) (fun s hs=>by simp at hs)
  have hb1:b < (rowF rs ts rule st (itemsT a) []).1.names.length:=by omega
  have hsb:SymsOk ts (rowF rs ts rule st (itemsT a) []).1.names.length [(b:Int)]:=fun s hs=>by
   simp at hs
   subst hs
   omega
  have hx:∃ st2,(if mode=0 then addF (rowF rs ts rule st (itemsT a) []).1 b (rowF rs ts rule st (itemsT a) []).2 else if mode=1 then addF (rowF rs ts rule st (itemsT a) []).1 b ((rowF rs ts rule st (itemsT a) []).2++[(b:Int)]) else addF (addF (rowF rs ts rule st (itemsT a) []).1 b (rowF rs ts rule st (itemsT a) []).2) b ((rowF rs ts rule st (itemsT a) []).2++[(b:Int)]))=st2∧Iv rs ts b st2∧st2.names=(rowF rs ts rule st (itemsT a) []).1.names:=by
   refine ⟨_,rfl,?_⟩
   split
   ·exact h1.add hb1 _ h2
   ·split
    ·exact h1.add hb1 _ (h2.app hsb)
    ·obtain ⟨h4,h5⟩:=h1.add hb1 _ h2
     obtain ⟨h6,h7⟩:=h4.add (by rw [h5]; exact hb1) ((rowF rs ts rule st (itemsT a) []).2++[(b:Int)]) (by rw [h5]; exact h2.app hsb)
     exact ⟨h6,h7.trans h5⟩
  obtain ⟨st2,he,h4,h5⟩:=hx
  simp only [he]
  obtain ⟨h6,h7⟩:=Iv.each hrs hr mode rule hk l st2 h4 (by rw [h5]; exact hb1) (fun c hc=>hl c (by simp [hc]))
  exact ⟨h6,by rw [h5] at h7; omega⟩
theorem Iv.produce (h:Iv rs ts b st) (hrs:properRs rs=true) (hr:rs.length≤256) (hb:b < st.names.length) (rule:Bool):Iv rs ts b (produceF rs ts st b rule)∧st.names.length≤(produceF rs ts st b rule).names.length:=by
 unfold produceF
 split
 ·exact ⟨h,Nat.le_refl _⟩
 ·rename_i t k he
  have hm:=List.mem_of_getElem? he
  have hl:=h.qs _ hm
  have hk:=h.qk _ hm
  split
  ·exact Iv.each hrs hr 0 k hk _ st h hb (lits_rows t hl)
  ·split
   ·rename_i h5
    obtain ⟨h1,h2⟩:=Iv.each hrs hr 0 k hk _ st h hb (lits_rows _ (lits_kid0 t hl (by omega) (by omega)))
    obtain ⟨h3,h4⟩:=h1.add (by omega) [] (fun s hs=>by simp at hs)
    exact ⟨h3,by rw [h4]; exact h2⟩
   ·split
    ·rename_i h6
     obtain ⟨h3,h4⟩:=h.add hb [] (fun s hs=>by simp at hs)
     obtain ⟨h1,h2⟩:=Iv.each hrs hr 1 k hk _ (addF st b []) h3 (by rw [h4]; exact hb) (lits_rows _ (lits_kid0 t hl (by omega) (by omega)))
     exact ⟨h1,by rw [h4] at h2; exact h2⟩
    ·split
     ·exact Iv.each hrs hr 2 k hk _ st h hb (lits_rows _ (lits_kid0 t hl (by omega) (by omega)))
     ·exact ⟨h,Nat.le_refl _⟩
theorem Iv.loop (hrs:properRs rs=true) (hr:rs.length≤256):∀ (f:Nat) (st:Mk) (i:Nat),Iv rs ts i st→∃ b,Iv rs ts b (loopF rs ts f st i)
 | 0,st,i,h=>by rw [loopF]; exact ⟨i,h⟩
 | f+1,st,i,h=>by
  rw [loopF]
  split
  ·rename_i hc
   exact Iv.loop hrs hr f _ (i+1) (h.produce hrs hr (by have:=h.ql; omega) _).1.up
  ·exact ⟨i,h⟩
end
theorem Iv.init {rs:List Rl} {ts:List ByteArray} (hrs:properRs rs=true) (hts:∀ r ∈ rs,litsT ts r.body) (m:Bool):Iv rs ts 0 { init0 rs rs.length rs.length with many:=m } where
 n1:=by simp [init0]
 n2:= .inr (by simp [init0])
 ql:=by simp [init0]
 pl:=by simp [init0]
 rr:=fun x hx=>by simp [init0] at hx
 lf:=fun x hx=>by simp [init0] at hx
 lt:=fun x hx=>by simp [init0] at hx
 so:=by simp [init0]
 ns:=fun s hs=>by
  simp only [init0,List.mem_map,List.mem_range] at hs
  obtain ⟨j,hj,rfl⟩:=hs
  have:=good_size _ (properRs_mem rs _ hrs (rlAt_mem hj)).1
  omega
 qs:=fun x hx=>by
  simp only [init0,List.mem_map,List.mem_range] at hx
  obtain ⟨j,hj,rfl⟩:=hx
  exact hts _ (rlAt_mem hj)
 qk:=fun x hx=>by
  simp only [init0,List.mem_map,List.mem_range] at hx
  obtain ⟨j,hj,rfl⟩:=hx
  exact hj
 cs:=fun c hc=>by simp [init0] at hc; omega
theorem desG_ok {g:Gr} {p:Pl} (h:desG g= .ok p):properG g=true∧checkG g=[]∧(desMk g).many=false∧p=⟨(fwdN g.rules g.rules.length g.start).getD 0,g.rules.length,(desMk g).names,termsRs [] g.rules,(desMk g).prods⟩:=by
 unfold desG at h
 split at h
 ·rename_i hp
  split at h
  ·cases h
  ·rename_i hc
   split at h
   ·cases h
   ·rename_i hm
    cases h
    exact ⟨hp,hc,by simpa using hm,rfl⟩
 ·cases h
theorem desG_iv {g:Gr} {p:Pl} (h:desG g= .ok p) (hr:g.rules.length≤256):∃ b,Iv g.rules (termsRs [] g.rules) b (desMk g):=by
 obtain ⟨hp,_⟩:=desG_ok h
 unfold properG at hp
 simp only [Bool.and_eq_true,decide_eq_true_eq] at hp
 exact Iv.loop hp.2.2 hr _ _ 0 (Iv.init hp.2.2 (fun r hr=>termsRs_lits [] g.rules r hr) _)
theorem plOk_of {g:Gr} {p:Pl} (hr:g.rules.length≤256) (h:desG g= .ok p):PlOk p:=by
 obtain ⟨b,hi⟩:=desG_iv h hr
 obtain ⟨hp,_,_,rfl⟩:=desG_ok h
 unfold properG at hp
 simp only [Bool.and_eq_true,decide_eq_true_eq] at hp
 exact ⟨hp.2.1,hi.n1,(show (desMk g).names.length≤1000 from by rcases hi.n2 with h1 | h1 <;> omega),fun s hs=>Nat.le_trans (hi.ns s hs) (by omega),hi.pl,fun x hx=>⟨(hi.rr x hx).1,(hi.rr x hx).2⟩⟩
end Go.Proofs.YtmenpmbgennhoaaGreatDoor

namespace Go.Proofs.YtmenpmbgennhoaaGreatDoor
open Go.RowKit
def leafT (t:Tr):Prop:=(t.kind=1∨t.kind=2)∧t.kids=[]
def symOf (rs:List Rl) (ts:List ByteArray) (t:Tr):Int:=if t.kind=1 then ((fwdN rs rs.length t.text).getD 0:Nat) else -1 - (((fwdT ts ts.length t.text).getD 0:Nat):Int)
theorem sym_leaf (rs:List Rl) (ts:List ByteArray) (st:Mk) (t:Tr) (k:Nat) (h:leafT t):symF rs ts st t k=(st,symOf rs ts t):=by
 unfold symF symOf
 rcases h.1 with h1 | h1
 ·rw [if_pos h1,if_pos h1]
 ·rw [if_neg (by omega),if_pos h1,if_neg (by omega)]
theorem row_leafs (rs:List Rl) (ts:List ByteArray) (k:Nat):∀ (l:List Tr) (st:Mk) (out:List Int),(∀ a ∈ l,leafT a)→(rowF rs ts k st l out).1.many=false→rowF rs ts k st l out=(st,out++l.map (symOf rs ts))
 | [],st,out,_,_=>by rw [rowF]; simp
 | a::l,st,out,hl,hm=>by
  rw [rowF] at hm ⊢
  split at hm
  ·cases hm
  ·rename_i hc
   rw [if_neg hc]
   rw [sym_leaf rs ts st a k (hl a (by simp))] at hm ⊢
   have:=row_leafs rs ts k l st (out++[symOf rs ts a]) (fun b hb=>hl b (by simp [hb])) hm
   simp only at hm ⊢
   rw [this]
   simp
theorem row_many (rs:List Rl) (ts:List ByteArray) (k:Nat):∀ (l:List Tr) (st:Mk) (out:List Int),(∀ a ∈ l,leafT a)→(rowF rs ts k st l out).1.many=false→l≠[]→st.many=false
 | [],st,out,_,_,h=>absurd rfl h
 | a::l,st,out,hl,hm,_=>by
  rw [rowF] at hm
  split at hm
  ·cases hm
  ·rename_i hc
   cases hq:st.many with
   | false=>rfl
   | true=>exact absurd (.inr hq) hc
theorem add_many {st:Mk} {left:Nat} {right:List Int} (h:(addF st left right).many=false):st.many=false∧addF st left right={ st with prods:=st.prods++[⟨left,right⟩] }:=by
 unfold addF at h ⊢
 split at h
 ·cases h
 ·rename_i hc
  rw [if_neg hc]
  exact ⟨h,rfl⟩
theorem row_mono (rs:List Rl) (ts:List ByteArray) (k:Nat):∀ (l:List Tr) (st:Mk) (out:List Int),(∀ a ∈ l,leafT a)→st.many=true→(rowF rs ts k st l out).1.many=true
 | [],st,out,_,h=>by rw [rowF]; exact h
 | a::l,st,out,_,h=>by rw [rowF,if_pos (.inr h)]
theorem add_mono {st:Mk} {left:Nat} {right:List Int} (h:st.many=true):(addF st left right).many=true:=by
 unfold addF
 split
 ·rfl
 ·exact h
def flatRow (r:Tr):Prop:=∀ a ∈ itemsT r,leafT a
theorem each_mono (rs:List Rl) (ts:List ByteArray) (i k:Nat):∀ (l:List Tr) (st:Mk),(∀ a ∈ l,flatRow a)→st.many=true→(eachF rs ts 0 i k st l).many=true
 | [],st,_,h=>by rw [eachF]; exact h
 | a::l,st,hl,h=>by
  rw [eachF]
  refine each_mono rs ts i k l _ (fun b hb=>hl b (by simp [hb])) ?_
  rw [if_pos rfl]
  exact add_mono (row_mono rs ts k _ _ _ (hl a (by simp)) h)
def prodOf (rs:List Rl) (ts:List ByteArray) (i:Nat) (r:Tr):Pd:=⟨i,(itemsT r).map (symOf rs ts)⟩
theorem each_flat (rs:List Rl) (ts:List ByteArray) (i k:Nat):∀ (l:List Tr) (st:Mk),(∀ a ∈ l,flatRow a)→(eachF rs ts 0 i k st l).many=false→eachF rs ts 0 i k st l={ st with prods:=st.prods++l.map (prodOf rs ts i) }
 | [],st,_,_=>by rw [eachF]; simp
 | a::l,st,hl,hm=>by
  rw [eachF] at hm ⊢
  simp only [if_pos] at hm ⊢
  have h1:(addF (rowF rs ts k st (itemsT a) []).1 i (rowF rs ts k st (itemsT a) []).2).many=false:=by
   cases hq:(addF (rowF rs ts k st (itemsT a) []).1 i (rowF rs ts k st (itemsT a) []).2).many with
   | false=>rfl
   | true=>rw [each_mono rs ts i k l _ (fun b hb=>hl b (by simp [hb])) hq] at hm; cases hm
  have h2:=add_many h1
  have h3:=row_leafs rs ts k (itemsT a) st [] (hl a (by simp)) h2.1
  have h4:addF (rowF rs ts k st (itemsT a) []).1 i (rowF rs ts k st (itemsT a) []).2={ st with prods:=st.prods++[prodOf rs ts i a] }:=by
   rw [h2.2,h3]
   simp [prodOf]
  rw [h4] at hm ⊢
  rw [each_flat rs ts i k l _ (fun b hb=>hl b (by simp [hb])) hm]
  simp
def prodsOf (rs:List Rl) (ts:List ByteArray) (i n:Nat):List Pd:=(List.range' i n).flatMap (fun j=>(rowsT (rlAt rs j).body).map (prodOf rs ts j))
theorem prodsOf_succ (rs:List Rl) (ts:List ByteArray) (i n:Nat):prodsOf rs ts i (n+1)=(rowsT (rlAt rs i).body).map (prodOf rs ts i)++prodsOf rs ts (i+1) n:=by
 unfold prodsOf
 rw [List.range'_succ,List.flatMap_cons]
def flatBody (t:Tr):Prop:=∀ r ∈ rowsT t,flatRow r
theorem loop_mono (rs:List Rl) (ts:List ByteArray) (f:Nat) (st:Mk) (i:Nat) (h:st.many=true):(loopF rs ts f st i).many=true:=by
 cases f with
 | zero=>rw [loopF]; exact h
 | succ f=>rw [loopF,if_neg (by simp [h])]; exact h
theorem loop_flat (rs:List Rl) (ts:List ByteArray) (hfl:∀ r ∈ rs,flatBody r.body):∀ (n f:Nat) (st:Mk) (i:Nat),i+n=rs.length→n < f→st.queue=(List.range rs.length).map (fun j=>((rlAt rs j).body,j))→(loopF rs ts f st i).many=false→
  loopF rs ts f st i={ st with prods:=st.prods++prodsOf rs ts i n }
 | 0,f,st,i,hi,hf,hq,hm=>by
  obtain ⟨f,rfl⟩:∃ f',f=f'+1:=⟨f - 1,by omega⟩
  rw [loopF,if_neg (by rw [hq]; simp; omega)]
  simp [prodsOf]
 | n+1,f,st,i,hi,hf,hq,hm=>by
  obtain ⟨f,rfl⟩:∃ f',f=f'+1:=⟨f - 1,by omega⟩
  have hlt:i < rs.length:=by omega
  have hlq:i < st.queue.length:=by rw [hq]; simp; omega
  rw [loopF] at hm ⊢
  split at hm
  ·rename_i hc
   rw [if_pos hc]
   have hqi:st.queue[i]?=some ((rlAt rs i).body,i):=by rw [hq]; simp [hlt]
   have hpr:produceF rs ts st i (decide (i < rs.length))=eachF rs ts 0 i i st (rowsT (rlAt rs i).body):=by
    unfold produceF
    rw [hqi]
    simp [hlt]
   rw [hpr] at hm ⊢
   have h1:(eachF rs ts 0 i i st (rowsT (rlAt rs i).body)).many=false:=by
    cases hq2:(eachF rs ts 0 i i st (rowsT (rlAt rs i).body)).many with
    | false=>rfl
    | true=>rw [loop_mono rs ts f _ _ hq2] at hm; cases hm
   have h2:=each_flat rs ts i i (rowsT (rlAt rs i).body) st (hfl _ (rlAt_mem hlt)) h1
   rw [h2] at hm ⊢
   rw [loop_flat rs ts hfl n f { st with prods:=st.prods++(rowsT (rlAt rs i).body).map (prodOf rs ts i) } (i+1) (by omega) (by omega) hq hm,prodsOf_succ]
   simp
  ·rename_i hc
   have:st.many=true:=by
    cases hq2:st.many with
    | true=>rfl
    | false=>exact absurd ⟨hlq,hq2⟩ hc
   rw [this] at hm
   cases hm
theorem desMk_flat {g:Gr} (hfl:∀ r ∈ g.rules,flatBody r.body) (hr:g.rules.length≤1000) (hm:(desMk g).many=false) :
  (desMk g).prods=prodsOf g.rules (termsRs [] g.rules) 0 g.rules.length∧(desMk g).names=g.rules.map (·.name):=by
 unfold desMk at hm ⊢
 have:=loop_flat g.rules (termsRs [] g.rules) hfl g.rules.length fuel0 { init0 g.rules g.rules.length g.rules.length with many:=decide (256 < (termsRs [] g.rules).length) } 0 (by omega) (by rw [fuel0_eq]; omega) rfl hm
 rw [this]
 refine ⟨by simp [init0],?_⟩
 simp only [init0]
 apply List.ext_getElem?
 intro i
 by_cases h:i < g.rules.length
 ·simp [h,rlAt]
 ·simp [h]
end Go.Proofs.YtmenpmbgennhoaaGreatDoor

namespace Go.Proofs.YtmenpmbgennhoaaGreatDoor
open Go.RowKit
theorem rows_wrap (l:List Tr) (h:∀ a ∈ l,a.kind≠4):rowsT (wrapT 4 l)=l:=by
 by_cases h1:l.length=1
 ·obtain ⟨t,rfl⟩:=List.length_eq_one_iff.1 h1
  show rowsT t=[t]
  unfold rowsT
  rw [if_neg (h t (by simp))]
 ·rw [wrapT_else 4 l h1]
  rfl
theorem items_wrap (l:List Tr) (h:∀ a ∈ l,a.kind≠3):itemsT (wrapT 3 l)=l:=by
 by_cases h1:l.length=1
 ·obtain ⟨t,rfl⟩:=List.length_eq_one_iff.1 h1
  show itemsT t=[t]
  unfold itemsT
  rw [if_neg (h t (by simp))]
 ·rw [wrapT_else 3 l h1]
  rfl
theorem item_leaf (names terms:List ByteArray) (s:Int):leafT (itemT names terms s):=by
 unfold itemT
 split
 ·exact ⟨.inl rfl,rfl⟩
 ·exact ⟨.inr rfl,rfl⟩
theorem flat_items (names terms:List ByteArray) (right:List Int):itemsT (flatT names terms right)=right.map (itemT names terms):=by
 unfold flatT
 refine items_wrap _ fun a ha=> ?_
 obtain ⟨s,_,rfl⟩:=List.mem_map.1 ha
 have:=(item_leaf names terms s).1
 omega
theorem flat_kind (names terms:List ByteArray) (right:List Int):(flatT names terms right).kind≠4:=by
 unfold flatT
 by_cases h1:(right.map (itemT names terms)).length=1
 ·obtain ⟨t,ht⟩:=List.length_eq_one_iff.1 h1
  rw [ht]
  show t.kind≠4
  have hm:t ∈ right.map (itemT names terms):=by rw [ht]; simp
  obtain ⟨s,_,rfl⟩:=List.mem_map.1 hm
  have:=(item_leaf names terms s).1
  omega
 ·rw [wrapT_else 3 _ h1]
  show (3:Nat)≠4
  decide
theorem rows_of (names terms:List ByteArray) (prods:List Pd) (i:Nat):rowsT (wrapT 4 (rowsOf names terms prods i))=rowsOf names terms prods i:=by
 refine rows_wrap _ fun a ha=> ?_
 unfold rowsOf at ha
 obtain ⟨x,_,rfl⟩:=List.mem_map.1 ha
 exact flat_kind _ _ _
theorem flatRules_body (names terms:List ByteArray) (prods:List Pd):∀ r ∈ flatRules names terms prods,flatBody r.body:=by
 intro r hr
 unfold flatRules at hr
 obtain ⟨i,_,rfl⟩:=List.mem_map.1 hr
 intro a ha
 rw [show (flatRule names terms prods i).body=wrapT 4 (rowsOf names terms prods i) from rfl,rows_of] at ha
 unfold rowsOf at ha
 obtain ⟨x,_,rfl⟩:=List.mem_map.1 ha
 intro b hb
 rw [flat_items] at hb
 obtain ⟨s,_,rfl⟩:=List.mem_map.1 hb
 exact item_leaf _ _ _
theorem sorted_first (i:Nat):∀ l:List Pd,l.Pairwise (fun x y=>x.left≤y.left)→(∀ x ∈ l,i≤x.left)→l.filter (fun x=>decide (x.left=i))++l.filter (fun x=>decide (x.left≠i))=l
 | [],_,_=>rfl
 | a::t,hp,hi=>by
  obtain ⟨h1,h2⟩:=List.pairwise_cons.1 hp
  by_cases ha:a.left=i
  ·have ih:=sorted_first i t h2 (fun x hx=>hi x (by simp [hx]))
   rw [List.filter_cons_of_pos (by simp [ha]),List.filter_cons_of_neg (by simp [ha]),List.cons_append,ih]
  ·have hgt:i < a.left:=by have:=hi a (by simp); omega
   have hz:(a::t).filter (fun x=>decide (x.left=i))=[]:=by
    rw [List.filter_eq_nil_iff]
    intro x hx
    rcases List.mem_cons.1 hx with rfl | hx
    ·simp [ha]
    ·have:=h1 x hx
     simp
     omega
   have hw:(a::t).filter (fun x=>decide (x.left≠i))=a::t:=by
    rw [List.filter_eq_self]
    intro x hx
    rcases List.mem_cons.1 hx with rfl | hx
    ·simp [ha]
    ·have:=h1 x hx
     simp
     omega
   rw [hz,hw,List.nil_append]
theorem sorted_flat:∀ (n i:Nat) (l:List Pd),l.Pairwise (fun x y=>x.left≤y.left)→(∀ x ∈ l,i≤x.left∧x.left < i+n)→(List.range' i n).flatMap (fun j=>l.filter (fun x=>decide (x.left=j)))=l
 | 0,i,l,_,h=>by
  match l,h with
  | [],_=>rfl
  | a::t,h=>have:=h a (by simp); omega
 | n+1,i,l,hp,h=>by
  rw [List.range'_succ,List.flatMap_cons]
  have h1:=sorted_first i l hp (fun x hx=>(h x hx).1)
  have h2:=sorted_flat n (i+1) (l.filter (fun x=>decide (x.left≠i))) (hp.filter _) (fun x hx=>by
   obtain ⟨hx1,hx2⟩:=List.mem_filter.1 hx
   have:=h x hx1
   simp at hx2
   omega)
  have h3:(List.range' (i+1) n).flatMap (fun j=>l.filter (fun x=>decide (x.left=j)))=(List.range' (i+1) n).flatMap (fun j=>(l.filter (fun x=>decide (x.left≠i))).filter (fun x=>decide (x.left=j))):=by
   rw [List.flatMap_def,List.flatMap_def]
   congr 1
   refine List.map_congr_left fun j hj=> ?_
   rw [List.filter_filter]
   refine List.filter_congr fun x _=> ?_
   have:=(List.mem_range'_1.1 hj).1
   by_cases hx:x.left=j
   ·simp [hx]; omega
   ·simp [hx]
  rw [h3,h2,h1]
theorem rlAt_flat (names terms:List ByteArray) (prods:List Pd) {i:Nat} (h:i < names.length):rlAt (flatRules names terms prods) i=flatRule names terms prods i:=by
 unfold rlAt
 rw [flatRules_at _ _ _ _ h]
 rfl
def anew (rs:List Rl) (ts names terms:List ByteArray) (x:Pd):Pd:=⟨x.left,(x.right.map (itemT names terms)).map (symOf rs ts)⟩
theorem prods_flat (ts names terms:List ByteArray) (prods:List Pd) (hs:prods.Pairwise (fun x y=>x.left≤y.left)) (hl:∀ x ∈ prods,x.left < names.length) :
  prodsOf (flatRules names terms prods) ts 0 (flatRules names terms prods).length=prods.map (anew (flatRules names terms prods) ts names terms):=by
 unfold prodsOf
 rw [flatRules_len]
 have h1:=sorted_flat names.length 0 prods hs (fun x hx=>⟨Nat.zero_le _,by have:=hl x hx; omega⟩)
 have h2:=congrArg (List.map (anew (flatRules names terms prods) ts names terms)) h1
 rw [← h2,List.map_flatMap,List.flatMap_def,List.flatMap_def]
 congr 1
 refine List.map_congr_left fun j hj=> ?_
 have hj2:=(List.mem_range'_1.1 hj).2
 rw [rlAt_flat names terms prods (by omega),show (flatRule names terms prods j).body=wrapT 4 (rowsOf names terms prods j) from rfl,rows_of]
 unfold rowsOf
 rw [List.map_map]
 refine List.map_congr_left fun x hx=> ?_
 have hxj:x.left=j:=by simpa using (List.mem_filter.1 hx).2
 simp only [Function.comp,prodOf,anew,flat_items,hxj]
theorem names_flat (names terms:List ByteArray) (prods:List Pd):(flatRules names terms prods).map (·.name)=names:=by
 unfold flatRules
 rw [List.map_map]
 apply List.ext_getElem?
 intro i
 by_cases h:i < names.length
 ·simp [h,flatRule,List.getD_eq_getElem?_getD]
 ·simp [h]
theorem symOf_ref (rs:List Rl) (ts:List ByteArray) (x:ByteArray) (ks:List Tr):symOf rs ts (.mk 1 x ks)=(((fwdN rs rs.length x).getD 0:Nat):Int):=if_pos rfl
theorem symOf_lit (rs:List Rl) (ts:List ByteArray) (x:ByteArray) (ks:List Tr):symOf rs ts (.mk 2 x ks)= -1 - (((fwdT ts ts.length x).getD 0:Nat):Int):=if_neg (show ¬ (2:Nat)=1 by decide)
theorem item_back (names terms:List ByteArray) (prods:List Pd) (x:Pd) (hx:x ∈ prods) (hl:x.left < names.length) (s:Int) (hs:s ∈ x.right) (hsr:s < names.length) :
  itemT names (termsRs [] (flatRules names terms prods)) (symOf (flatRules names terms prods) (termsRs [] (flatRules names terms prods)) (itemT names terms s))=itemT names terms s:=by
 by_cases h0:0≤s
 ·have he:itemT names terms s= .mk 1 (names.getD s.toNat ⟨#[]⟩) []:=by unfold itemT; rw [if_pos h0]
  rw [he]
  have hsl:s.toNat < names.length:=by omega
  obtain ⟨i,hi⟩:=fwdN_has (flatRules names terms prods) (flatRules names terms prods).length (names.getD s.toNat ⟨#[]⟩) s.toNat (by rw [flatRules_len]; exact hsl) (by rw [rlAt_flat _ _ _ hsl]; rfl)
  obtain ⟨h1,h2⟩:=fwdN_spec _ _ _ _ hi
  rw [flatRules_len] at h1
  rw [rlAt_flat _ _ _ h1] at h2
  have hsy:symOf (flatRules names terms prods) (termsRs [] (flatRules names terms prods)) (.mk 1 (names.getD s.toNat ⟨#[]⟩) [])=(i:Int):=by
   rw [symOf_ref,hi]
   rfl
  rw [hsy]
  unfold itemT
  rw [if_pos (by omega),Int.toNat_natCast]
  rw [show names.getD i ⟨#[]⟩=names.getD s.toNat ⟨#[]⟩ from h2]
 ·have he:itemT names terms s= .mk 2 (terms.getD (-1 - s).toNat ⟨#[]⟩) []:=by unfold itemT; rw [if_neg h0]
  have hb:=termsRs_lits [] (flatRules names terms prods) (flatRule names terms prods x.left) (List.mem_of_getElem? (flatRules_at names terms prods _ hl))
  have hrow:flatT names terms x.right ∈ rowsT (flatRule names terms prods x.left).body:=by
   rw [show (flatRule names terms prods x.left).body=wrapT 4 (rowsOf names terms prods x.left) from rfl,rows_of]
   unfold rowsOf
   exact List.mem_map.2 ⟨x,List.mem_filter.2 ⟨hx,by simp⟩,rfl⟩
  have hr:=lits_rows _ hb _ hrow
  have hit:=lits_items _ hr (itemT names terms s) (by rw [flat_items]; exact List.mem_map.2 ⟨s,hs,rfl⟩)
  rw [he] at hit ⊢
  rw [litsT,if_pos rfl] at hit
  obtain ⟨i,hi,hlt,hg⟩:=fwdT_mem hit
  have hsy:symOf (flatRules names terms prods) (termsRs [] (flatRules names terms prods)) (.mk 2 (terms.getD (-1 - s).toNat ⟨#[]⟩) [])= -1 - (i:Int):=by
   rw [symOf_lit,hi]
   rfl
  rw [hsy]
  unfold itemT
  rw [if_neg (by omega),show (-1 - (-1 - (i:Int))).toNat=i by omega,List.getD_eq_getElem?_getD,hg]
theorem flatRules_back (names terms:List ByteArray) (prods:List Pd) (hl:∀ x ∈ prods,x.left < names.length) (hsr:∀ x ∈ prods,∀ s ∈ x.right,s < names.length) :
  flatRules names (termsRs [] (flatRules names terms prods)) (prods.map (anew (flatRules names terms prods) (termsRs [] (flatRules names terms prods)) names terms))=flatRules names terms prods:=by
 conv=>lhs; unfold flatRules
 conv=>rhs; unfold flatRules
 refine List.map_congr_left fun i _=> ?_
 unfold flatRule
 congr 2
 unfold rowsOf
 rw [List.filter_map,List.map_map]
 refine List.map_congr_left fun x hx=> ?_
 have hxm:=(List.mem_filter.1 hx).1
 simp only [Function.comp,anew]
 unfold flatT
 congr 1
 rw [List.map_map,List.map_map]
 refine List.map_congr_left fun s hs=> ?_
 exact item_back names terms prods x hxm (hl x hxm) s hs (hsr x hxm s hs)
end Go.Proofs.YtmenpmbgennhoaaGreatDoor

namespace Go.Proofs.YtmenpmbgennhoaaGreatDoor
open Go.RowKit
mutual
theorem sameT_refl:∀ t:Tr,sameT t t=true
 | .mk k x ks=>by
  have:=sameK_refl ks
  rw [sameT]
  simp [this]
theorem sameK_refl:∀ l:List Tr,sameK l l=true
 | []=>by rw [sameK.eq_def]
 | a::l=>by
  rw [sameK,sameT_refl a,sameK_refl l]
  rfl
end
theorem sameRs_refl:∀ l:List Rl,sameRs l l=true
 | []=>by rw [sameRs.eq_def]
 | a::l=>by
  rw [sameRs,sameRs_refl l,sameR,sameT_refl]
  simp
theorem sameG_refl (g:Gr):sameG g g=true:=by
 unfold sameG
 rw [sameRs_refl]
 simp
theorem mayG_zero {g:Gr} (h1:properG g=true) (h2:checkG g=[]):mayG g=0:=by
 unfold mayG
 rw [if_pos h1,h2]
theorem flattenG_ok {g h:Gr} (hf:flattenG g= .ok h):∃ p names,desG g= .ok p∧moreL (p.names.drop p.rules) (p.names.take p.rules)=some names∧h=⟨g.start,flatRules names p.terms p.prods⟩∧fitsG h=true:=by
 unfold flattenG at hf
 split at hf
 ·split at hf
  ·cases hf
  ·rename_i p hp
   split at hf
   ·cases hf
   ·rename_i names hn
    split at hf
    ·rename_i hfi
     cases hf
     exact ⟨p,names,hp,hn,rfl,hfi⟩
    ·cases hf
 ·cases hf
theorem fits_des {h:Gr} (hf:fitsG h=true):properG h=true∧∃ q,desG h= .ok q:=by
 unfold fitsG at hf
 simp only [Bool.and_eq_true] at hf
 refine ⟨hf.1,?_⟩
 have:=hf.2.2.2
 split at this
 ·cases this
 ·rename_i q hq
  exact ⟨q,hq⟩
theorem flat_law {g h:Gr} (hr:g.rules.length≤256) (hf:flattenG g= .ok h):∃ p q,desG g= .ok p∧desG h= .ok q∧h.rules.length=p.names.length∧q.names.length=p.names.length∧q.prods.length=p.prods.length∧
  (∀ (i:Nat) x y,p.prods[i]?=some x→q.prods[i]?=some y→x.left=y.left∧x.right.length=y.right.length)∧flattenG h= .ok h:=by
 obtain ⟨p,names,hp,hn,rfl,hfi⟩:=flattenG_ok hf
 obtain ⟨hph,q,hq⟩:=fits_des hfi
 obtain ⟨b,hi⟩:=desG_iv hp hr
 have hpk:=plOk_of hr hp
 obtain ⟨hpp,hpc,hpm,hpe⟩:=desG_ok hp
 have hnl:names.length=p.names.length:=by
  have:=moreL_len _ _ _ hn
  have:=hpk.rl
  simp at*
  omega
 have hprods:p.prods=(desMk g).prods:=by rw [hpe]
 have hpnames:p.names=(desMk g).names:=by rw [hpe]
 have hso:p.prods.Pairwise (fun x y=>x.left≤y.left):=by rw [hprods]; exact hi.so
 have hlt:∀ x ∈ p.prods,x.left < names.length:=fun x hx=>by rw [hnl,hpnames]; rw [hprods] at hx; exact hi.lt x hx
 have hsr:∀ x ∈ p.prods,∀ s ∈ x.right,s < (names.length:Int):=fun x hx s hs=>by rw [hnl]; exact ((hpk.rr x hx).2 s hs).2
 have hn256:names.length≤1000:=by have:=hpk.nl; omega
 obtain ⟨hqp,hqc,hqm,hqe⟩:=desG_ok hq
 obtain ⟨h1,h2⟩:=desMk_flat (g:=⟨g.start,flatRules names p.terms p.prods⟩) (flatRules_body _ _ _) (by show (flatRules names p.terms p.prods).length≤1000; rw [flatRules_len]; exact hn256) hqm
 simp only at h1 h2
 rw [prods_flat _ _ _ _ hso hlt] at h1
 rw [names_flat] at h2
 have hqprods:q.prods=p.prods.map (anew (flatRules names p.terms p.prods) (termsRs [] (flatRules names p.terms p.prods)) names p.terms):=by rw [hqe]; exact h1
 have hqnames:q.names=names:=by rw [hqe]; exact h2
 have hqterms:q.terms=termsRs [] (flatRules names p.terms p.prods):=by rw [hqe]
 have hqrules:q.rules=names.length:=by rw [hqe]; show (flatRules names p.terms p.prods).length=_; rw [flatRules_len]
 refine ⟨p,q,hp,hq,by show (flatRules names p.terms p.prods).length=_; rw [flatRules_len]; exact hnl,by rw [hqnames]; exact hnl,by rw [hqprods,List.length_map],fun i x y hx hy=> ?_,?_⟩
 ·rw [hqprods,List.getElem?_map,hx] at hy
  simp at hy
  subst hy
  exact ⟨rfl,by simp [anew]⟩
 ·unfold flattenG
  rw [if_pos (mayG_zero hqp hqc),hq]
  simp only
  have hd:q.names.drop q.rules=[]:=by rw [hqnames,hqrules]; exact List.drop_eq_nil_of_le (Nat.le_refl _)
  have ht:q.names.take q.rules=names:=by rw [hqnames,hqrules]; exact List.take_of_length_le (Nat.le_refl _)
  rw [hd,ht,moreL]
  simp only
  rw [hqterms,hqprods,flatRules_back names p.terms p.prods hlt hsr,if_pos hfi]
structure GOk (g:Gr):Prop where
 few:g.rules.length≤256
 nodes:g.rules.length+nodesRs g.rules≤1000000
 short:∀ (i:Nat) r,g.rules[i]?=some r→shortT r.body=true
theorem nodesRs_app:∀ (l l':List Rl),nodesRs (l++l')=nodesRs l+nodesRs l'
 | [],l'=>by simp [nodesRs]
 | a::l,l'=>by
  rw [List.cons_append,nodesRs,nodesRs,nodesRs_app l l']
  omega
theorem nodesK_leafs:∀ l:List Tr,(∀ a ∈ l,leafT a)→nodesK l=l.length
 | [],_=>by simp [nodesK]
 | a::l,h=>by
  have ha:=(h a (by simp)).2
  have:nodesT a=1:=by
   obtain ⟨k,x,ks⟩:=a
   simp only [Tr.kids] at ha
   subst ha
   rw [nodesT,nodesK]
  rw [nodesK,this,nodesK_leafs l (fun b hb=>h b (by simp [hb])),List.length_cons]
  omega
theorem nodes_wrap (k:Nat) (l:List Tr):nodesT (wrapT k l)≤1+nodesK l:=by
 by_cases h1:l.length=1
 ·obtain ⟨t,rfl⟩:=List.length_eq_one_iff.1 h1
  show nodesT t≤_
  rw [nodesK,nodesK]
  omega
 ·rw [wrapT_else k l h1,nodesT]
  omega
theorem flat_nodes (names terms:List ByteArray) (right:List Int) (h:right.length≤16):nodesT (flatT names terms right)≤17:=by
 have h1:=nodes_wrap 3 (right.map (itemT names terms))
 rw [nodesK_leafs _ (fun a ha=>by obtain ⟨s,_,rfl⟩:=List.mem_map.1 ha; exact item_leaf _ _ _),List.length_map] at h1
 unfold flatT
 omega
theorem nodesK_rows (names terms:List ByteArray):∀ l:List Pd,(∀ x ∈ l,x.right.length≤16)→nodesK (l.map (fun x=>flatT names terms x.right))≤17*l.length
 | [],_=>by simp [nodesK]
 | a::l,h=>by
  have h1:=flat_nodes names terms a.right (h a (by simp))
  have h2:=nodesK_rows names terms l (fun x hx=>h x (by simp [hx]))
  rw [List.map_cons,nodesK,List.length_cons]
  omega
theorem filter_lt_succ (l:List Pd) (n:Nat):(l.filter (fun x=>decide (x.left < n+1))).length=(l.filter (fun x=>decide (x.left < n))).length+(l.filter (fun x=>decide (x.left=n))).length:=by
 induction l with
 | nil=>rfl
 | cons a l ih=>
  by_cases h1:a.left < n
  ·rw [List.filter_cons_of_pos (by simp; omega),List.filter_cons_of_pos (by simp [h1]),List.filter_cons_of_neg (by simp; omega)]
   simp only [List.length_cons]
   omega
  ·by_cases h2:a.left=n
   ·rw [List.filter_cons_of_pos (by simp; omega),List.filter_cons_of_neg (by simp [h1]),List.filter_cons_of_pos (by simp [h2])]
    simp only [List.length_cons]
    omega
   ·rw [List.filter_cons_of_neg (by simp; omega),List.filter_cons_of_neg (by simp [h1]),List.filter_cons_of_neg (by simp [h2])]
    exact ih
theorem nodes_flat (names terms:List ByteArray) (prods:List Pd) (h:∀ x ∈ prods,x.right.length≤16):∀ n,nodesRs ((List.range n).map (flatRule names terms prods))≤n+17*(prods.filter (fun x=>decide (x.left < n))).length
 | 0=>by simp [nodesRs]
 | n+1=>by
  have ih:=nodes_flat names terms prods h n
  rw [List.range_succ,List.map_append,nodesRs_app,filter_lt_succ]
  have h1:nodesRs [flatRule names terms prods n]≤1+17*(prods.filter (fun x=>decide (x.left=n))).length:=by
   rw [nodesRs,nodesRs]
   have h2:=nodes_wrap 4 (rowsOf names terms prods n)
   have h3:=nodesK_rows names terms (prods.filter (fun x=>decide (x.left=n))) (fun x hx=>h x (List.mem_filter.1 hx).1)
   have h4:(flatRule names terms prods n).body=wrapT 4 (rowsOf names terms prods n):=rfl
   rw [h4]
   unfold rowsOf at h2 ⊢
   omega
  rw [List.map_cons,List.map_nil]
  omega
end Go.Proofs.YtmenpmbgennhoaaGreatDoor

namespace Go.Proofs.YtmenpmbgennhoaaGreatDoor
open Go.RowKit
theorem item_len (i:WrI):(itemO i).length≤i.put.length+2:=by
 unfold itemO arO
 split <;> simp
theorem rowO_len (i:WrI):(rowO i).length≤i.put.length+2:=by
 unfold rowO arO
 split <;> simp
theorem atom_len (i:WrI) (n:Nat) (h1:i.put.length≤n) (h2:i.head.length≤n):(atomO i).length≤n+2:=by
 unfold atomO arO
 split
 ·omega
 ·split
  ·simp; omega
  ·split
   ·simp; omega
   ·simp; omega
theorem again_len (i:WrI) (o m c:Int) (n:Nat) (h1:i.put.length≤n) (h2:i.head.length≤n):(againO i o m c).length≤n+3:=by
 have:=atom_len i n h1 h2
 unfold againO arO
 split
 ·simp; omega
 ·simp; omega
theorem strOf_len (l:List Int):(bytesOf (strOfNums l)).length=l.length:=by
 rw [bytesOf_length]
 unfold strOfNums
 simp [ByteArray.size]
theorem quote_len (x:ByteArray) (h:x.size≤16):(bytesOf (quoteT x)).length≤66:=by
 unfold quoteT
 rw [strOf_len,List.length_append,List.length_singleton]
 have:=qPre_le x (quoteC x) x.size
 omega
mutual
theorem put_len:∀ t:Tr,properT t=true→(putT t).length+10≤80*nodesT t
 | .mk k x ks,hp=>by
  rw [putT,nodesT]
  rw [properT] at hp
  unfold putO
  split at hp
  ·rename_i hk
   rw [if_pos hk,bytesOf_length]
   simp only [Bool.and_eq_true] at hp
   have:=good_size _ hp.1
   omega
  ·rename_i hk
   rw [if_neg hk]
   split at hp
   ·rename_i hk2
    rw [if_pos hk2]
    simp only [Bool.and_eq_true,decide_eq_true_eq] at hp
    have:=quote_len x hp.2.1
    omega
   ·rename_i hk2
    rw [if_neg hk2]
    simp only [Bool.and_eq_true,decide_eq_true_eq] at hp
    have hi:=sepI_len 32 ks 0 hp.2.2
    have hr:=sepR_len 124 ks 0 hp.2.2
    split
    ·omega
    ·split
     ·omega
     ·have hf:=first_len ks hp.2.2
      cases hks:infoK ks with
      | nil=>simp; omega
      | cons i l=>
       rw [hks] at hf
       obtain ⟨h1,h2⟩:=hf
       have a1:=again_len i 91 63 93 _ h1 h2
       have a2:=again_len i 123 42 125 _ h1 h2
       have a3:=atom_len i _ h1 h2
       simp only
       split
       ·omega
       ·split
        ·omega
        ·split
         ·simp; omega
         ·simp; omega
theorem first_len:∀ l:List Tr,properK l=true→match infoK l with | []=>True | i::_=>i.put.length≤80*nodesK l∧i.head.length≤80*nodesK l
 | [],_=>by rw [infoK]; trivial
 | a::l,hp=>by
  rw [properK,Bool.and_eq_true] at hp
  rw [infoK,nodesK]
  have h1:=put_len a hp.1
  have h2:=head_len a hp.1
  refine ⟨?_,?_⟩
  ·simp only; omega
  ·simp only; omega
theorem head_len:∀ t:Tr,properT t=true→(headT t).length≤80*nodesT t
 | .mk k x ks,hp=>by
  rw [headT,nodesT]
  have hks:properK ks=true:=by
   rw [properT] at hp
   split at hp
   ·simp at hp
    rw [hp.2]
    rfl
   ·split at hp
    ·simp at hp
     rw [hp.2.2]
     rfl
    ·simp only [Bool.and_eq_true] at hp
     exact hp.2.2
  have:=headK_len ks hks
  omega
theorem headK_len:∀ l:List Tr,properK l=true→(headK l).length≤80*nodesK l
 | [],_=>by simp [headK]
 | a::l,hp=>by
  rw [properK,Bool.and_eq_true] at hp
  rw [headK,nodesK]
  have:=put_len a hp.1
  omega
theorem sepI_len (c:Int):∀ (l:List Tr) (i:Nat),properK l=true→(sepF c i ((infoK l).map itemO)).length≤80*nodesK l
 | [],i,_=>by simp [infoK,sepF]
 | a::l,i,hp=>by
  rw [properK,Bool.and_eq_true] at hp
  rw [infoK,List.map_cons,sepF,nodesK]
  have h1:=put_len a hp.1
  have h2:=sepI_len c l (i+1) hp.2
  have h3:=item_len ⟨a.kind,putT a,headT a⟩
  simp only at h3
  simp only [List.length_append]
  have h4:(if 0 < i then [c] else []).length≤1:=by split <;> simp
  omega
theorem sepR_len (c:Int):∀ (l:List Tr) (i:Nat),properK l=true→(sepF c i ((infoK l).map rowO)).length≤80*nodesK l
 | [],i,_=>by simp [infoK,sepF]
 | a::l,i,hp=>by
  rw [properK,Bool.and_eq_true] at hp
  rw [infoK,List.map_cons,sepF,nodesK]
  have h1:=put_len a hp.1
  have h2:=sepR_len c l (i+1) hp.2
  have h3:=rowO_len ⟨a.kind,putT a,headT a⟩
  simp only at h3
  simp only [List.length_append]
  have h4:(if 0 < i then [c] else []).length≤1:=by split <;> simp
  omega
end
theorem textRs_len:∀ rs:List Rl,properRs rs=true→(textRs rs).length≤80*nodesRs rs+40*rs.length
 | [],_=>by simp [textRs]
 | r::l,hp=>by
  rw [properRs,Bool.and_eq_true] at hp
  have hp1:=hp.1
  rw [properR,Bool.and_eq_true] at hp1
  have h1:=put_len r.body hp1.2
  have h2:=textRs_len l hp.2
  have h3:=good_size _ hp1.1
  rw [textRs,nodesRs,textR]
  simp only [List.length_append,bytesOf_length,ByteArray.size_append,List.length_cons]
  have h4:(⟨#[58,32]⟩:ByteArray).size=2:=rfl
  have h5:(⟨#[59,10]⟩:ByteArray).size=2:=rfl
  omega
theorem text_len {g:Gr} (hp:properG g=true) (hn:g.rules.length+nodesRs g.rules≤1000000):(textT g).length≤1000000000:=by
 unfold properG at hp
 simp only [Bool.and_eq_true,decide_eq_true_eq] at hp
 have h1:=textRs_len g.rules hp.2.2
 have h2:=good_size _ hp.1
 unfold textT
 rw [List.length_append]
 have h3:(if g.start.toList==(rlAt g.rules 0).name.toList then [] else bytesOf (⟨#[37]⟩++g.start++⟨#[59,10]⟩)).length≤100:=by
  split
  ·simp
  ·rw [bytesOf_length,ByteArray.size_append,ByteArray.size_append]
   have h4:(⟨#[37]⟩:ByteArray).size=1:=rfl
   have h5:(⟨#[59,10]⟩:ByteArray).size=2:=rfl
   omega
 omega
theorem SmallG.of {g:Gr} (h:GOk g):SmallG g:=⟨h.nodes,h.short,fun hp=>text_len hp h.nodes⟩
mutual
theorem terms_short:∀ (l:List ByteArray) (t:Tr),properT t=true→(∀ x ∈ l,x.size≤16)→∀ x ∈ termsT l t,x.size≤16
 | l,.mk k y ks,hp,hl=>by
  rw [properT] at hp
  rw [termsT]
  split
  ·rename_i hk
   split at hp
   ·omega
   ·simp only [Bool.and_eq_true,decide_eq_true_eq,hk,if_true] at hp
    split
    ·exact hl
    ·intro x hx
     rcases List.mem_append.1 hx with hx | hx
     ·exact hl x hx
     ·simp at hx
      subst hx
      exact hp.2.1
  ·rename_i hk
   split
   ·exact hl
   ·rename_i hk1
    rw [if_neg hk1,if_neg hk] at hp
    simp only [Bool.and_eq_true] at hp
    exact termsK_short l ks hp.2.2 hl
theorem termsK_short:∀ (l:List ByteArray) (ks:List Tr),properK ks=true→(∀ x ∈ l,x.size≤16)→∀ x ∈ termsK l ks,x.size≤16
 | l,[],_,hl=>by rw [termsK]; exact hl
 | l,a::r,hp,hl=>by
  rw [properK,Bool.and_eq_true] at hp
  rw [termsK]
  exact termsK_short _ r hp.2 (terms_short l a hp.1 hl)
end
theorem termsRs_short:∀ (l:List ByteArray) (rs:List Rl),properRs rs=true→(∀ x ∈ l,x.size≤16)→∀ x ∈ termsRs l rs,x.size≤16
 | l,[],_,hl=>by rw [termsRs]; exact hl
 | l,a::r,hp,hl=>by
  rw [properRs,Bool.and_eq_true] at hp
  have hp1:=hp.1
  rw [properR,Bool.and_eq_true] at hp1
  rw [termsRs]
  exact termsRs_short _ r hp.2 (terms_short l a.body hp1.2 hl)
theorem moreL_short:∀ (l names ms:List ByteArray),moreL l names=some ms→(∀ s ∈ names,s.size≤200)→∀ s ∈ ms,s.size≤200
 | [],names,ms,h,hn=>by rw [moreL] at h; cases h; exact hn
 | s::r,names,ms,h,hn=>by
  rw [moreL] at h
  split at h
  ·rename_i hg
   refine moreL_short r _ ms h fun x hx=> ?_
   rcases List.mem_append.1 hx with hx | hx
   ·exact hn x hx
   ·simp at hx
    subst hx
    have:=good_size _ hg
    omega
  ·cases h
theorem getD_short {l:List ByteArray} {n:Nat} (h:∀ s ∈ l,s.size≤n) (i:Nat):(l.getD i ⟨#[]⟩).size≤n:=by
 rw [List.getD_eq_getElem?_getD]
 cases hi:l[i]? with
 | none=>exact Nat.zero_le _
 | some x=>exact h x (List.mem_of_getElem? hi)
theorem short_of {t:Tr} (h:t.kids=[]) (hx:t.text.size≤65536):shortT t=true:=by
 obtain ⟨k,x,ks⟩:=t
 simp only [Tr.kids,Tr.text] at h hx
 subst h
 rw [shortT,shortK]
 simpa using hx
theorem shortK_of:∀ l:List Tr,(∀ a ∈ l,shortT a=true)→shortK l=true
 | [],_=>by rw [shortK]
 | a::l,h=>by rw [shortK,h a (by simp),shortK_of l (fun b hb=>h b (by simp [hb]))]; rfl
theorem short_wrap (k:Nat) (l:List Tr) (h:∀ a ∈ l,shortT a=true):shortT (wrapT k l)=true:=by
 by_cases h1:l.length=1
 ·obtain ⟨t,rfl⟩:=List.length_eq_one_iff.1 h1
  exact h t (by simp)
 ·rw [wrapT_else k l h1,shortT,shortK_of l h]
  rfl
theorem short_flat (names terms:List ByteArray) (hn:∀ s ∈ names,s.size≤200) (ht:∀ s ∈ terms,s.size≤16) (right:List Int):shortT (flatT names terms right)=true:=by
 unfold flatT
 refine short_wrap 3 _ fun a ha=> ?_
 obtain ⟨s,_,rfl⟩:=List.mem_map.1 ha
 refine short_of (item_leaf names terms s).2 ?_
 unfold itemT
 split
 ·have:=getD_short hn s.toNat
  simp only [Tr.text]
  omega
 ·have:=getD_short ht (-1 - s).toNat
  simp only [Tr.text]
  omega
theorem gok_flat {g:Gr} {p:Pl} {names:List ByteArray} (hr:g.rules.length≤256) (hp:desG g= .ok p) (hn:moreL (p.names.drop p.rules) (p.names.take p.rules)=some names):GOk ⟨g.start,flatRules names p.terms p.prods⟩:=by
 obtain ⟨b,hi⟩:=desG_iv hp hr
 have hpk:=plOk_of hr hp
 obtain ⟨hpp,_,_,hpe⟩:=desG_ok hp
 unfold properG at hpp
 simp only [Bool.and_eq_true,decide_eq_true_eq] at hpp
 have hnl:names.length=p.names.length:=by
  have:=moreL_len _ _ _ hn
  have:=hpk.rl
  simp at*
  omega
 have hn256:names.length≤256:=by
  have h1:=hi.n2
  have h2:p.names=(desMk g).names:=by rw [hpe]
  rw [hnl,h2]
  rcases h1 with h1 | h1 <;> omega
 have hns:∀ s ∈ names,s.size≤200:=moreL_short _ _ _ hn (fun s hs=>by
  have h2:p.names=(desMk g).names:=by rw [hpe]
  rw [h2] at hs
  exact hi.ns s (List.mem_of_mem_take hs))
 have hts:∀ s ∈ p.terms,s.size≤16:=by
  have h2:p.terms=termsRs [] g.rules:=by rw [hpe]
  rw [h2]
  exact termsRs_short [] g.rules hpp.2.2 (by simp)
 refine ⟨by show (flatRules _ _ _).length≤256; rw [flatRules_len]; exact hn256,?_,fun i r h=> ?_⟩
 ·show (flatRules names p.terms p.prods).length+nodesRs (flatRules names p.terms p.prods)≤1000000
  rw [flatRules_len]
  have h1:=nodes_flat names p.terms p.prods (fun x hx=>(hpk.rr x hx).1) names.length
  have h2:=List.length_filter_le (fun x:Pd=>decide (x.left < names.length)) p.prods
  have h3:=hpk.pl
  unfold flatRules
  omega
 ·have hm:=List.mem_of_getElem? h
  unfold flatRules at hm
  obtain ⟨j,_,rfl⟩:=List.mem_map.1 hm
  refine short_wrap 4 _ fun a ha=> ?_
  unfold rowsOf at ha
  obtain ⟨x,_,rfl⟩:=List.mem_map.1 ha
  exact short_flat names p.terms hns hts x.right
theorem flattenG_gok {g h:Gr} (hr:g.rules.length≤256) (hf:flattenG g= .ok h):GOk h:=by
 obtain ⟨p,names,hp,hn,rfl,_⟩:=flattenG_ok hf
 exact gok_flat hr hp hn
end Go.Proofs.YtmenpmbgennhoaaGreatDoor

namespace Go.Proofs.YtmenpmbgennhoaaGreatDoor
open Go.RowKit
theorem litL_text (s:ByteArray) (q l cl:Nat) (st:Sc) (out:List Int):∀ t st2,litL s q l cl st out= .ok t st2→t.text.size≤65536:=by
 rw [litL.eq_def]
 split
 ·rename_i hlt
  split
  ·intro t st2 h
   unfold endedT at h
   split at h
   ·cases h
   ·split at h
    ·cases h
    ·cases h
     simp only
     omega
  ·split
   ·have h1:=(escS_at s (stepS s st)).1
    rw [stepS_at] at h1
    split
    ·exact litL_text _ _ _ _ _ _
    ·exact fun _ _ h=>(by cases h)
   ·split
    ·exact fun _ _ h=>(by cases h)
    ·exact litL_text _ _ _ _ _ _
 ·exact fun _ _ h=>(by cases h)
termination_by s.size - st.at_
decreasing_by
 all_goals first
 | (rw [stepS_at]; omega)
 | (have:=(escS_at s (stepS s st)).1
    rw [stepS_at] at this
    omega)
theorem extract_le (s:ByteArray) (a b:Nat):(s.extract a b).size≤s.size:=by
 rw [ByteArray.size_extract]
 omega
theorem tokT_text (s:ByteArray) (st:Sc) (hs:s.size≤65536) (t:Tok) (st2:Sc) (h:tokT s st= .ok t st2):t.text.size≤65536:=by
 unfold tokT at h
 split at h
 ·unfold nameT at h
  split at h
  ·cases h
  ·cases h
   exact Nat.le_trans (extract_le _ _ _) hs
 ·split at h
  ·unfold litT at h
   exact litL_text _ _ _ _ _ _ _ _ h
  ·split at h
   ·cases h
    exact Nat.le_trans (extract_le _ _ _) hs
   ·cases h
theorem scanL_text (s:ByteArray) (hs:s.size≤65536) (st:Sc) (ts:List Tok) (hts:∀ t ∈ ts,t.text.size≤65536):∀ us,scanL s st ts= .ok us→∀ u ∈ us,u.text.size≤65536:=by
 by_cases hlt:st.at_ < s.size
 ·cases ht:tokT s st with
  | ok t st2=>
   rw [scanL_ok ts hlt ht]
   have h1:=tokT_at s st hlt ht
   have h2:=skipS_le s st2
   exact scanL_text s hs (skipS s st2) (ts++[t]) (fun u hu=>by
    rcases List.mem_append.1 hu with hu | hu
    ·exact hts u hu
    ·simp at hu; subst hu; exact tokT_text s st hs _ _ ht)
  | bad f=>
   rw [scanL_bad ts hlt ht]
   exact fun _ h=>(by cases h)
 ·rw [scanL_end ts hlt]
  intro us h u hu
  cases h
  rcases List.mem_append.1 hu with hu | hu
  ·exact hts u hu
  ·simp at hu; subst hu; exact Nat.zero_le _
termination_by s.size - st.at_
decreasing_by omega
theorem scanT_text {s:ByteArray} {us:List Tok} (h:scanT s= .ok us):∀ u ∈ us,u.text.size≤65536:=by
 unfold scanT at h
 split at h
 ·cases h
 ·exact scanL_text s (by omega) _ [] (by simp) us h
section
variable {ts:List Tok}
theorem peek_lt {p q:PS} {t:Tok} (h:peekF ts p= .ok t q) (hk:t.kind≠4):p.at_ < 4096:=by
 unfold peekF at h
 split at h
 ·cases h
 ·rename_i hc
  cases h
  rcases Nat.lt_or_ge p.at_ 4096 with h1 | h1
  ·exact h1
  ·exact absurd ⟨h1,hk⟩ hc
theorem sign_lt {p q:PS} {s:ByteArray} (h:signF ts p s= .ok true q):p.at_ < 4096:=by
 have hk:=(signF_true h).1
 unfold signF at h
 cases hp:peekF ts p with
 | bad f=>rw [hp] at h; cases h
 | ok t q'=>
  obtain ⟨rfl,_⟩:=peekF_ok hp
  exact peek_lt hp (by rw [hk]; decide)
theorem take_lt {p q:PS} {s:ByteArray} (h:takeF ts p s= .ok () q):p.at_ < 4096∧q.at_=p.at_+1:=by
 unfold takeF at h
 cases hs:signF ts p s with
 | bad f=>rw [hs] at h; cases h
 | ok b q'=>
  rw [hs] at h
  simp only at h
  split at h
  ·rename_i hb
   subst hb
   cases h
   exact ⟨sign_lt hs,rfl⟩
  ·cases h
theorem name_lt {p q:PS} {x:ByteArray} (h:nameF ts p= .ok x q):p.at_ < 4096∧q.at_=p.at_+1∧(tokAt ts p.at_).kind=1:=by
 unfold nameF at h
 cases hp:peekF ts p with
 | bad f=>rw [hp] at h; cases h
 | ok t q'=>
  rw [hp] at h
  simp only at h
  split at h
  ·rename_i hk
   cases h
   refine ⟨peek_lt hp (by omega),rfl,?_⟩
   obtain ⟨rfl,_⟩:=peekF_ok hp
   exact hk
  ·cases h
theorem suf_lt {p q:PS} {k:Nat} (h:sufF ts p= .ok k q):(k=0∧q=p)∨(k≠0∧p.at_ < 4096∧q.at_=p.at_+1):=by
 unfold sufF at h
 split at h
 ·cases h
 ·rename_i q1 hs
  cases h
  exact .inr ⟨by decide,sign_lt hs,rfl⟩
 ·split at h
  ·cases h
  ·rename_i q1 hs
   cases h
   exact .inr ⟨by decide,sign_lt hs,rfl⟩
  ·split at h
   ·cases h
   ·rename_i q1 hs
    cases h
    exact .inr ⟨by decide,sign_lt hs,rfl⟩
   ·cases h
    exact .inl ⟨rfl,rfl⟩
theorem short_leaf {k:Nat} {x:ByteArray} (h:x.size≤65536):shortT (.mk k x [])=true:=short_of rfl h
theorem short_one {k:Nat} {t:Tr} (h:shortT t=true):shortT (.mk k ⟨#[]⟩ [t])=true:=by
 rw [shortT,shortK,shortK,h]
 rfl
theorem nodes_one (k:Nat) (x:ByteArray) (t:Tr):nodesT (.mk k x [t])=1+nodesT t:=by
 rw [nodesT,nodesK,nodesK]
 omega
theorem nodesK_snoc:∀ (l:List Tr) (t:Tr),nodesK (l++[t])=nodesK l+nodesT t
 | [],t=>by simp [nodesK]
 | a::l,t=>by
  rw [List.cons_append,nodesK,nodesK,nodesK_snoc l t]
  omega
def AltB (ts:List Tok) (f:Nat):Prop:=∀ p t p1,altF ts f p= .ok t p1→p.at_≤4096→p.at_≤p1.at_∧p1.at_≤4096∧nodesT t≤3*(p1.at_ - p.at_)+2∧shortT t=true
def AltLB (ts:List Tok) (f:Nat):Prop:=∀ p rows t p1,altL ts f p rows= .ok t p1→p.at_≤4096→(∀ r ∈ rows,shortT r=true)→p.at_≤p1.at_∧p1.at_≤4096∧nodesT t≤nodesK rows+3*(p1.at_ - p.at_)+1∧shortT t=true
def RowLB (ts:List Tok) (f:Nat):Prop:=∀ p items t p1,rowL ts f p items= .ok t p1→p.at_≤4096→(∀ r ∈ items,shortT r=true)→p.at_≤p1.at_∧p1.at_≤4096∧nodesT t≤nodesK items+3*(p1.at_ - p.at_)+1∧shortT t=true
def AtomB (ts:List Tok) (f:Nat):Prop:=∀ p o p1,atomF ts f p= .ok o p1→p.at_≤4096→match o with
 | none=>p1=p
 | some t=>p.at_ < p1.at_∧p1.at_≤4096∧nodesT t+1≤3*(p1.at_ - p.at_)∧shortT t=true
def ArB (ts:List Tok) (f:Nat):Prop:=∀ p en t p1,arF ts f p en= .ok t p1→p.at_ < 4096→p.at_ < p1.at_∧p1.at_≤4096∧nodesT t+4≤3*(p1.at_ - p.at_)∧shortT t=true
theorem tok_text (hts:∀ u ∈ ts,u.text.size≤65536) (i:Nat):(tokAt ts i).text.size≤65536:=by
 unfold tokAt
 rw [List.getD_eq_getElem?_getD]
 cases h:ts[i]? with
 | none=>exact Nat.zero_le _
 | some u=>exact hts u (List.mem_of_getElem? h)
theorem parse_small (hts:∀ u ∈ ts,u.text.size≤65536):∀ f,AltB ts f∧AltLB ts f∧RowLB ts f∧AtomB ts f∧ArB ts f
 | 0=>by
  refine ⟨?_,?_,?_,?_,?_⟩
  ·intro p t p1 h; rw [altF] at h; cases h
  ·intro p rows t p1 h; rw [altL] at h; cases h
  ·intro p items t p1 h; rw [rowL] at h; cases h
  ·intro p o p1 h; rw [atomF] at h; cases h
  ·intro p en t p1 h; rw [arF] at h; cases h
 | f+1=>by
  obtain ⟨ihA,ihAL,ihR,ihT,ihAr⟩:=parse_small hts f
  refine ⟨?_,?_,?_,?_,?_⟩
  ·intro p t p1 h hp
   rw [altF] at h
   cases hr:rowL ts f p [] with
   | bad e=>rw [hr] at h; cases h
   | ok r p2=>
    rw [hr] at h
    obtain ⟨a1,a2,a3,a4⟩:=ihR p [] r p2 hr hp (by simp)
    obtain ⟨b1,b2,b3,b4⟩:=ihAL p2 [r] t p1 h a2 (by simpa using a4)
    rw [nodesK] at a3
    rw [nodesK,nodesK] at b3
    exact ⟨by omega,b2,by omega,b4⟩
  ·intro p rows t p1 h hp hrows
   rw [altL] at h
   cases hs:signF ts p (str1 124) with
   | bad e=>rw [hs] at h; cases h
   | ok b q=>
    rw [hs] at h
    cases b with
    | false=>
     cases h
     have:=nodes_wrap 4 rows
     exact ⟨Nat.le_refl _,hp,by omega,short_wrap 4 rows hrows⟩
    | true=>
     simp only at h
     have hlt:=sign_lt hs
     cases hr:rowL ts f ⟨p.at_+1,p.open_⟩ [] with
     | bad e=>rw [hr] at h; cases h
     | ok r p2=>
      rw [hr] at h
      obtain ⟨a1,a2,a3,a4⟩:=ihR _ [] r p2 hr (show p.at_+1≤4096 by omega) (by simp)
      obtain ⟨b1,b2,b3,b4⟩:=ihAL p2 (rows++[r]) t p1 h a2 (fun x hx=>by
       rcases List.mem_append.1 hx with hx | hx
       ·exact hrows x hx
       ·simp at hx; subst hx; exact a4)
      rw [nodesK] at a3
      rw [nodesK_snoc] at b3
      simp only at a1 a3
      exact ⟨by omega,b2,by omega,b4⟩
  ·intro p items t p1 h hp hitems
   rw [rowL] at h
   cases ha:atomF ts f p with
   | bad e=>rw [ha] at h; cases h
   | ok o p2=>
    rw [ha] at h
    have hat:=ihT p o p2 ha hp
    cases o with
    | none=>
     simp only at h hat
     cases h
     subst hat
     have:=nodes_wrap 3 items
     exact ⟨Nat.le_refl _,hp,by omega,short_wrap 3 items hitems⟩
    | some u=>
     simp only at h hat
     obtain ⟨a1,a2,a3,a4⟩:=hat
     cases hs:sufF ts p2 with
     | bad e=>rw [hs] at h; cases h
     | ok k p3=>
      rw [hs] at h
      simp only at h
      have hsf:=suf_lt hs
      have hsh:shortT (if k=0 then u else .mk k ⟨#[]⟩ [u])=true:=by
       split
       ·exact a4
       ·exact short_one a4
      have hnd:nodesT (if k=0 then u else .mk k ⟨#[]⟩ [u])≤3*(p3.at_ - p.at_)∧p.at_ < p3.at_∧p3.at_≤4096:=by
       rcases hsf with ⟨rfl,rfl⟩ | ⟨hk,hl,he⟩
       ·rw [if_pos rfl]; omega
       ·rw [if_neg hk,nodes_one]; omega
      obtain ⟨b1,b2,b3,b4⟩:=ihR p3 _ t p1 h hnd.2.2 (fun x hx=>by
       rcases List.mem_append.1 hx with hx | hx
       ·exact hitems x hx
       ·simp at hx; subst hx; exact hsh)
      rw [nodesK_snoc] at b3
      exact ⟨by omega,b2,by omega,b4⟩
  ·intro p o p1 h hp
   rw [atomF] at h
   cases hk:peekF ts p with
   | bad e=>rw [hk] at h; cases h
   | ok t q=>
    rw [hk] at h
    simp only at h
    have htt:t.text.size≤65536:=by
     obtain ⟨rfl,_⟩:=peekF_ok hk
     exact tok_text hts _
    split at h
    ·rename_i h1
     have:=peek_lt hk (by omega)
     cases h
     refine ⟨by simp,by simp; omega,?_,short_leaf htt⟩
     rw [nodesT,nodesK]
     simp only
     omega
    ·split at h
     ·rename_i h1 h2
      have:=peek_lt hk (by omega)
      cases h
      refine ⟨by simp,by simp; omega,?_,short_leaf htt⟩
      rw [nodesT,nodesK]
      simp only
      omega
     ·split at h
      ·cases h
       rfl
      ·rename_i h1 h2 h3
       have hlt:=peek_lt hk (by omega)
       split at h
       ·cases ha:arF ts f p (str1 41) with
        | bad e=>rw [ha] at h; cases h
        | ok u p2=>
         rw [ha] at h
         cases h
         obtain ⟨a1,a2,a3,a4⟩:=ihAr p _ _ _ ha hlt
         exact ⟨a1,a2,by omega,a4⟩
       ·split at h
        ·cases ha:arF ts f p (str1 93) with
         | bad e=>rw [ha] at h; cases h
         | ok u p2=>
          rw [ha] at h
          cases h
          obtain ⟨a1,a2,a3,a4⟩:=ihAr p _ _ _ ha hlt
          exact ⟨a1,a2,by rw [nodes_one]; omega,short_one a4⟩
        ·split at h
         ·cases ha:arF ts f p (str1 125) with
          | bad e=>rw [ha] at h; cases h
          | ok u p2=>
           rw [ha] at h
           cases h
           obtain ⟨a1,a2,a3,a4⟩:=ihAr p _ _ _ ha hlt
           exact ⟨a1,a2,by rw [nodes_one]; omega,short_one a4⟩
         ·cases h
          rfl
  ·intro p en t p1 h hp
   rw [arF] at h
   split at h
   ·cases h
   ·cases ha:altF ts f ⟨p.at_+1,p.open_+1⟩ with
    | bad e=>rw [ha] at h; cases h
    | ok u p2=>
     rw [ha] at h
     simp only at h
     cases ht:takeF ts p2 en with
     | bad e=>rw [ht] at h; cases h
     | ok x p3=>
      rw [ht] at h
      cases h
      obtain ⟨a1,a2,a3,a4⟩:=ihA _ _ _ ha (show p.at_+1≤4096 by omega)
      obtain ⟨b1,b2⟩:=take_lt ht
      simp only at a1 a3 ⊢
      exact ⟨by omega,by omega,by omega,a4⟩
theorem rule_small (hts:∀ u ∈ ts,u.text.size≤65536) {F:Nat} {p p1:PS} {r:Rl} (h:ruleF ts F p= .ok r p1) (hp:p.at_≤4096):(tokAt ts p.at_).kind=1∧p1.at_≤4096∧nodesT r.body≤12290∧shortT r.body=true:=by
 unfold ruleF at h
 cases hn:nameF ts p with
 | bad e=>rw [hn] at h; cases h
 | ok nm p2=>
  rw [hn] at h
  simp only at h
  obtain ⟨a1,a2,a3⟩:=name_lt hn
  cases ht:takeF ts p2 (str1 58) with
  | bad e=>rw [ht] at h; cases h
  | ok x p3=>
   rw [ht] at h
   simp only at h
   obtain ⟨b1,b2⟩:=take_lt ht
   cases ha:altF ts F p3 with
   | bad e=>rw [ha] at h; cases h
   | ok b p4=>
    rw [ha] at h
    simp only at h
    obtain ⟨c1,c2,c3,c4⟩:=(parse_small hts F).1 p3 b p4 ha (by omega)
    cases ht2:takeF ts p4 (str1 59) with
    | bad e=>rw [ht2] at h; cases h
    | ok y p5=>
     rw [ht2] at h
     cases h
     obtain ⟨d1,d2⟩:=take_lt ht2
     exact ⟨a3,by omega,by simp only; omega,c4⟩
def RsB (rs:List Rl):Prop:=rs.length≤64∧∀ r ∈ rs,nodesT r.body≤12290∧shortT r.body=true
theorem gramL_small (hts:∀ u ∈ ts,u.text.size≤65536) (F:Nat):∀ (f:Nat) (p:PS) (first:Bool) (rs qs:List Rl) (p1:PS),gramL ts F f p first rs= .ok qs p1→p.at_≤4096→RsB rs→RsB qs
 | 0,p,first,rs,qs,p1,h,_,_=>by rw [gramL] at h; cases h
 | f+1,p,first,rs,qs,p1,h,hp,hrs=>by
  rw [gramL] at h
  cases ho:onF ts p first with
  | bad e=>rw [ho] at h; cases h
  | ok b q=>
   rw [ho] at h
   cases b with
   | false=>cases h; exact hrs
   | true=>
    simp only at h
    cases hk:peekF ts p with
    | bad e=>rw [hk] at h; cases h
    | ok t q2=>
     rw [hk] at h
     simp only at h
     split at h
     ·cases h
     ·rename_i hc
      cases hr:ruleF ts F p with
      | bad e=>rw [hr] at h; cases h
      | ok r p2=>
       rw [hr] at h
       simp only at h
       obtain ⟨a1,a2,a3,a4⟩:=rule_small hts hr hp
       have h64:rs.length≠64:=fun e=>hc ⟨by obtain ⟨rfl,_⟩:=peekF_ok hk; exact a1,e⟩
       refine gramL_small hts F f p2 false _ qs p1 h a2 ⟨?_,fun x hx=> ?_⟩
       ·have:=hrs.1
        rw [List.length_append,List.length_singleton]
        omega
       ·rcases List.mem_append.1 hx with hx | hx
        ·exact hrs.2 x hx
        ·simp at hx; subst hx; exact ⟨a3,a4⟩
theorem nodesRs_le:∀ (rs:List Rl),(∀ r ∈ rs,nodesT r.body≤12290∧shortT r.body=true)→nodesRs rs≤12290*rs.length
 | [],_=>by simp [nodesRs]
 | a::l,h=>by
  have h1:=(h a (by simp)).1
  have h2:=nodesRs_le l (fun r hr=>h r (by simp [hr]))
  rw [nodesRs,List.length_cons]
  omega
end
theorem gok_of {rs:List Rl} (st:ByteArray) (h:RsB rs):GOk ⟨st,rs⟩:=by
 have h1:=nodesRs_le rs h.2
 have h2:=h.1
 refine ⟨by show rs.length≤256; omega,by show rs.length+nodesRs rs≤1000000; omega,fun i r hr=>(h.2 r (List.mem_of_getElem? hr)).2⟩
theorem gok_parse (s:ByteArray):GOk (parH (parseT s)):=by
 have hz:GOk ⟨⟨#[]⟩,[]⟩:=gok_of ⟨#[]⟩ ⟨Nat.zero_le _,fun r hr=>by simp at hr⟩
 unfold parseT
 cases hs:scanT s with
 | bad f=>exact hz
 | ok ts=>
  simp only
  have hts:=scanT_text hs
  cases hg:gramF ts ⟨0,0⟩ with
  | bad f=>exact hz
  | ok g p=>
   simp only [parH]
   unfold gramF at hg
   cases hh:headF ts ⟨0,0⟩ with
   | bad e=>rw [hh] at hg; cases hg
   | ok st p1=>
    rw [hh] at hg
    simp only at hg
    have hp1:p1.at_≤4096:=by
     unfold headF at hh
     split at hh
     ·cases hh
     ·cases hh; exact Nat.zero_le _
     ·split at hh
      ·cases hh
      ·rename_i nm p2 hn
       split at hh
       ·cases hh
       ·rename_i x p3 ht
        cases hh
        have:=take_lt ht
        omega
    split at hg
    ·cases hg
    ·rename_i rs p2 hgl
     cases hg
     exact gok_of _ (gramL_small hts _ _ _ _ _ _ _ hgl hp1 ⟨Nat.zero_le _,fun r hr=>by simp at hr⟩)
end Go.Proofs.YtmenpmbgennhoaaGreatDoor
