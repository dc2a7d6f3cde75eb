/- Numbers, texts, lists as bytes: plain laws. Numbers of bytes, the program's and the reference's: what 'Get' and the reference's 'Put' return. What is known of memory that functions write. -/
import Derived.Laws.Bits64b
import Derived.Laws.Wrap64
import Derived.WalkKit
import Derived.OwnWalk
import Derived.WalkLawsBesides
import Derived.WalkSpells
import Derived.LoopTactic
import Derived.Outline
import Derived.Laws.BytesString
import Derived.Laws.Cells
import Derived.Test.YtniamhbcmcgonaaGreatDoorExt
import Derived.ChangeSlices
import Derived.Laws.Rows
import Derived.Laws.AppendOwn
import Derived.Lib.Walk
namespace Go.Proofs.YtniamhbcmcgonaaGreatDoor
open Go.RowKit
def beN (l:List UInt8):Nat:=l.foldl (fun a b=>256*a+b.toNat) 0
theorem foldl_be (l:List UInt8):∀ (a:Nat),l.foldl (fun a b=>256*a+b.toNat) a=a*256 ^ l.length+beN l:=by
 induction l with
 | nil=>intro a; simp [beN]
 | cons b l ih=>
  intro a
  have h1:=ih (256*a+b.toNat)
  have h2:=ih b.toNat
  have h3:beN (b::l)=b.toNat*256 ^ l.length+beN l:=by
   show l.foldl _ (256*0+b.toNat)=_
   rw [Nat.mul_zero,Nat.zero_add]; exact h2
  rw [List.foldl_cons,h1,h3,List.length_cons,Nat.pow_succ,Nat.add_mul,← Nat.add_assoc]
  congr 2
  rw [Nat.mul_comm 256 a,Nat.mul_assoc,Nat.mul_comm 256]
theorem beN_cons (b:UInt8) (l:List UInt8):beN (b::l)=b.toNat*256 ^ l.length+beN l:=by
 show l.foldl _ (256*0+b.toNat)=_
 rw [Nat.mul_zero,Nat.zero_add]; exact foldl_be l _
theorem beN_snoc (l:List UInt8) (b:UInt8):beN (l++[b])=256*beN l+b.toNat:=by simp [beN]
theorem beN_lt:∀ (l:List UInt8),beN l < 256 ^ l.length
 | []=>by simp [beN]
 | b::l=>by
  rw [beN_cons,List.length_cons,Nat.pow_succ]
  have h1:=beN_lt l
  have h2:=b.toNat_lt
  have h3:(b.toNat+1)*256 ^ l.length≤256*256 ^ l.length:=Nat.mul_le_mul_right _ (by omega)
  rw [Nat.add_mul] at h3
  rw [Nat.mul_comm _ 256]
  omega
theorem beN_inj:∀ (l m:List UInt8),l.length=m.length→beN l=beN m→l=m
 | [],[],_,_=>rfl
 | b::l,c::m,hl,h=>by
  simp only [List.length_cons,Nat.add_right_cancel_iff] at hl
  rw [beN_cons,beN_cons,hl] at h
  have h1:=beN_lt l
  have h2:=beN_lt m
  rw [hl] at h1
  have hp:0 < 256 ^ m.length:=Nat.pow_pos (by omega)
  have e1:b.toNat=c.toNat:=by
   have k1:(b.toNat*256 ^ m.length+beN l) / 256 ^ m.length=b.toNat:=by rw [Nat.mul_comm,Nat.mul_add_div hp,Nat.div_eq_of_lt h1]; omega
   have k2:(c.toNat*256 ^ m.length+beN m) / 256 ^ m.length=c.toNat:=by rw [Nat.mul_comm,Nat.mul_add_div hp,Nat.div_eq_of_lt h2]; omega
   rw [← k1,← k2,h]
  have e2:beN l=beN m:=by rw [e1] at h; omega
  rw [UInt8.toNat_inj.1 e1,beN_inj l m hl e2]
 | [],_::_,hl,_=>by simp at hl
 | _::_,[],hl,_=>by simp at hl
def beL:Nat→Nat→List UInt8
 | 0,_=>[]
 | k+1,n=>UInt8.ofNat (n / 256 ^ k)::beL k n
theorem beL_length:∀ k n,(beL k n).length=k
 | 0,_=>rfl
 | k+1,n=>by simp [beL,beL_length k n]
theorem beN_beL:∀ k n,beN (beL k n)=n % 256 ^ k
 | 0,n=>by simp [beL,beN,Nat.mod_one]
 | k+1,n=>by
  rw [beL,beN_cons,beL_length,beN_beL k n,Nat.pow_succ,Nat.mod_mul]
  have h:(UInt8.ofNat (n / 256 ^ k)).toNat=n / 256 ^ k % 256:=by simp
  rw [h,Nat.mul_comm,Nat.add_comm]
theorem beL_eq_iff {n:Nat} {l:List UInt8} (hn:n < 18446744073709551616) (hl:l.length=8):beL 8 n=l↔n=beN l:=by
 constructor
 ·intro h
  have:=beN_beL 8 n
  rw [h,Nat.mod_eq_of_lt (by simpa using hn)] at this
  exact this.symm
 ·intro h
  refine beN_inj _ _ (by rw [beL_length,hl]) ?_
  rw [beN_beL,Nat.mod_eq_of_lt (by simpa using hn),h]
theorem beN_lt8 {l:List UInt8} (hl:l.length≤8):beN l < 18446744073709551616:=by
 have h1:=beN_lt l
 have h2:(256:Nat) ^ l.length≤256 ^ 8:=Nat.pow_le_pow_right (by omega) hl
 have h3:(256:Nat) ^ 8=18446744073709551616:=by decide
 omega
theorem shl_or {a b:Nat} (ha:a < 72057594037927936) (hb:b < 256):bits .or .u64 (IntKind.u64.wrap ((a:Int)*256)) (IntKind.u64.wrap (b:Int))=((256*a+b:Nat):Int):=by
 have h1:IntKind.u64.wrap ((a:Int)*256)=((a*256:Nat):Int):=by simp [IntKind.wrap,IntKind.bits,IntKind.signed]; omega
 have h2:IntKind.u64.wrap (b:Int)=(b:Int):=by simp [IntKind.wrap,IntKind.bits,IntKind.signed]; omega
 have h4:a*256 ||| b=256*a+b:=by
  have h3:a*256=a <<< 8:=by rw [Nat.shiftLeft_eq]
  have h5:a <<< 8+b=a <<< 8 ||| b:=Nat.shiftLeft_add_eq_or_of_lt (by omega:b < 2 ^ 8) a
  rw [h3,← h5,← h3,Nat.mul_comm]
 rw [h1,h2,bits_or_u64_nat _ _ (by omega) (by omega),h4]
theorem take_snoc (s:ByteArray) (k:Nat) (h:k < s.size):s.data.toList.take (k+1)=s.data.toList.take k++[s[k]]:=by
 rw [List.take_succ_eq_append_getElem (by simpa using h)]; rfl
def digs (n:Nat):List UInt8:=if h:n=0 then [] else digs (n / 256)++[UInt8.ofNat (n % 256)]
termination_by n
decreasing_by omega
theorem digs_zero:digs 0=[]:=by rw [digs]; simp
theorem digs_pos {n:Nat} (h:n≠0):digs n=digs (n / 256)++[UInt8.ofNat (n % 256)]:=by rw [digs,dif_neg h]
theorem beN_digs (n:Nat):beN (digs n)=n:=by
 induction n using Nat.strongRecOn with
 | ind n ih=>
  by_cases h:n=0
  ·subst h; rw [digs_zero]; rfl
  ·rw [digs_pos h,beN_snoc,ih (n / 256) (by omega)]
   have:(UInt8.ofNat (n % 256)).toNat=n % 256:=by simp
   omega
theorem digs_head (n:Nat):(digs n).head?≠some 0:=by
 induction n using Nat.strongRecOn with
 | ind n ih=>
  by_cases h:n=0
  ·subst h; rw [digs_zero]; simp
  ·rw [digs_pos h]
   by_cases h':n / 256=0
   ·rw [h',digs_zero]
    simp only [List.nil_append,List.head?_cons,ne_eq,Option.some.injEq]
    intro he
    have:=congrArg UInt8.toNat he
    simp at this
    omega
   ·rw [List.head?_append]
    cases hd:digs (n / 256) with
    | nil=>
     have:=beN_digs (n / 256)
     rw [hd] at this
     exact absurd this.symm h'
    | cons b l=>
     have:=ih (n / 256) (by omega)
     rw [hd] at this
     exact this
theorem beN_zero:∀ (l:List UInt8),beN l=0→l.head?≠some 0→l=[]
 | [],_,_=>rfl
 | b::l,h,hh=>by
  rw [beN_cons] at h
  have hp:0 < 256 ^ l.length:=Nat.pow_pos (by omega)
  exfalso
  apply hh
  have hb:b.toNat=0:=by
   rcases Nat.eq_zero_or_pos b.toNat with h0 | h0
   ·exact h0
   ·have:=Nat.mul_pos h0 hp; omega
  have:b=0:=UInt8.toNat_inj.1 (by rw [hb]; rfl)
  rw [this]; rfl
theorem digs_beN (l:List UInt8) (h:l.head?≠some 0):digs (beN l)=l:=by
 have key:∀ (n:Nat) (l:List UInt8),l.length=n→l.head?≠some 0→digs (beN l)=l:=by
  intro n
  induction n with
  | zero=>intro l hl _; rw [List.eq_nil_of_length_eq_zero hl]; exact digs_zero
  | succ n ih=>
   intro l hl hh
   have hne:l≠[]:=by intro h0; rw [h0] at hl; simp at hl
   have hsp:=(List.dropLast_concat_getLast hne).symm
   have hd:l.dropLast.head?≠some 0:=by
    intro h0
    apply hh
    rw [hsp,List.head?_append,h0]; rfl
   have hb:=beN_snoc l.dropLast (l.getLast hne)
   rw [← hsp] at hb
   have hx:=(l.getLast hne).toNat_lt
   have hn0:beN l≠0:=by
    intro h0
    exact hne (beN_zero l h0 hh)
   rw [digs_pos hn0,show beN l / 256=beN l.dropLast by omega,show beN l % 256=(l.getLast hne).toNat by omega,ih l.dropLast (by simp [hl]) hd]
   rw [show UInt8.ofNat (l.getLast hne).toNat=l.getLast hne by simp]
   exact hsp.symm
 exact key _ l rfl h
theorem digs_length:∀ (k n:Nat),n < 256 ^ k→(digs n).length≤k
 | 0,n,h=>by
  have:n=0:=by simpa using h
  subst this; rw [digs_zero]; simp
 | k+1,n,h=>by
  by_cases h0:n=0
  ·subst h0; rw [digs_zero]; simp
  ·rw [digs_pos h0,List.length_append]
   have:=digs_length k (n / 256) (by rw [Nat.pow_succ] at h; exact Nat.div_lt_of_lt_mul (by rw [Nat.mul_comm]; exact h))
   simp; omega
def putN (n:Nat):List UInt8:=UInt8.ofNat (digs n).length::digs n
def getN:List UInt8→Int × Nat × Nat
 | []=>(0,0,3)
 | c::t=>
  if 7 < c.toNat % 128∨c.toNat=128 then (0,0,2)
  else if t.length < c.toNat % 128 then (0,0,3)
  else if 9007199254740992 < beN (t.take (c.toNat % 128))∨(t.take (c.toNat % 128)).head?=some 0 then (0,0,2)
  else (if 128≤c.toNat then -(beN (t.take (c.toNat % 128)):Int) else (beN (t.take (c.toNat % 128)):Int),c.toNat % 128+1,0)
theorem digs_len7 {n:Nat} (h:n≤9007199254740992):(digs n).length≤7:=digs_length 7 n (by
 have:(256:Nat) ^ 7=72057594037927936:=by decide
 omega)
theorem getN_cons (c:UInt8) (t:List UInt8):getN (c::t)=if 7 < c.toNat % 128∨c.toNat=128 then (0,0,2)
  else if t.length < c.toNat % 128 then (0,0,3)
  else if 9007199254740992 < beN (t.take (c.toNat % 128))∨(t.take (c.toNat % 128)).head?=some 0 then (0,0,2)
  else (if 128≤c.toNat then -(beN (t.take (c.toNat % 128)):Int) else (beN (t.take (c.toNat % 128)):Int),c.toNat % 128+1,0):=rfl
theorem get_put {n:Nat} (h:n≤9007199254740992) (r:List UInt8):getN (putN n++r)=((n:Int),(putN n).length,0):=by
 have h7:=digs_len7 h
 have hc:(UInt8.ofNat (digs n).length).toNat=(digs n).length:=by simp; omega
 have htk:(digs n++r).take (digs n).length=digs n:=by simp
 unfold putN
 rw [List.cons_append,getN_cons]
 rw [hc,Nat.mod_eq_of_lt (show (digs n).length < 128 by omega),htk,beN_digs,if_neg (by omega),if_neg (by simp),if_neg (by
  intro hh
  rcases hh with hh | hh
  ·omega
  ·exact digs_head n hh),if_neg (by omega)]
 rfl
theorem put_get {s:List UInt8} {n:Int} {k:Nat} (h:getN s=(n,k,0)) (hn:0≤n):s=putN n.toNat++s.drop k∧n≤9007199254740992:=by
 match s with
 | []=>simp [getN] at h
 | c::t=>
  rw [getN_cons] at h
  split at h
  ·simp at h
  ·rename_i h1
   split at h
   ·simp at h
   ·rename_i h2
    split at h
    ·simp at h
    ·rename_i h3
     have hc:=c.toNat_lt
     simp only [Prod.mk.injEq,and_true] at h
     obtain ⟨e1,e2⟩:=h
     have hlen:(t.take (c.toNat % 128)).length=c.toNat % 128:=by rw [List.length_take]; omega
     have hhd:(t.take (c.toNat % 128)).head?≠some 0:=fun hh=>h3 (.inr hh)
     have hlow:c.toNat < 128:=by
      rcases Nat.lt_or_ge c.toNat 128 with hlt | hge
      ·exact hlt
      ·rw [if_pos hge] at e1
       have hz:beN (t.take (c.toNat % 128))=0:=by omega
       have:=beN_zero _ hz hhd
       rw [this] at hlen
       simp at hlen
       omega
     rw [if_neg (by omega)] at e1
     have hm:c.toNat % 128=c.toNat:=Nat.mod_eq_of_lt hlow
     rw [hm] at e1 e2 hlen hhd h3
     have hN:n.toNat=beN (t.take c.toNat):=by omega
     refine ⟨?_,by omega⟩
     rw [hN]
     unfold putN
     rw [digs_beN _ hhd,hlen,← e2,List.drop_succ_cons,List.cons_append,List.take_append_drop]
     congr 1
     simp
abbrev Inp:=List UInt8 × Nat
def failS (st:Inp) (e:Nat):Inp:=if st.2=0 then (st.1,e) else st
def intS (st:Inp):Int × Inp:=if st.2=0 then (if (getN st.1).2.2=0 then ((getN st.1).1,(st.1.drop (getN st.1).2.1,0)) else (0,(st.1,(getN st.1).2.2))) else (0,st)
def boolS (st:Inp):Bool × Inp:=
 if st.2=0 then match st.1 with
  | []=>(false,(st.1,3))
  | c::t=>if 1 < c.toNat then (false,(st.1,2)) else (decide (c.toNat=1),(t,0))
 else (false,st)
def sizedS (most:Nat) (n:Int) (st:Inp):Nat × Inp:=
 if n < 0 then (0,failS st 2) else if (most:Int) < n∨65536 < n then (0,failS st 6) else if st.2=0 then (n.toNat,st) else (0,st)
def sizeS (most:Nat) (st:Inp):Nat × Inp:=sizedS most (intS st).1 (intS st).2
def textS (st:Inp):List UInt8 × Inp:=
 if (sizeS 65536 st).2.2=0 then
  if (sizeS 65536 st).2.1.length < (sizeS 65536 st).1 then ([],((sizeS 65536 st).2.1,3))
  else ((sizeS 65536 st).2.1.take (sizeS 65536 st).1,((sizeS 65536 st).2.1.drop (sizeS 65536 st).1,0))
 else ([],(sizeS 65536 st).2)
def textsGo:Nat→List (List UInt8)→Inp→List (List UInt8) × Inp
 | 0,acc,st=>(acc,st)
 | n+1,acc,st=>if (textS st).2.2=0 then textsGo n (acc++[(textS st).1]) (textS st).2 else ([],(textS st).2)
def textsS (most:Nat) (st:Inp):List (List UInt8) × Inp:=textsGo (sizeS most st).1 [] (sizeS most st).2
def listGo:Nat→List (List (List UInt8))→Inp→List (List (List UInt8)) × Inp
 | 0,acc,st=>(acc,st)
 | n+1,acc,st=>if st.2=0 then listGo n (acc++[(textsS 64 st).1]) (textsS 64 st).2 else (acc,st)
def listS (st:Inp):Option (List (List (List UInt8))) × Inp:=
 if (intS st).1 < 0∨64 < (intS st).1 then (none,(intS st).2) else (some (listGo (intS st).1.toNat [] (intS st).2).1,(listGo (intS st).1.toNat [] (intS st).2).2)
def textP (s:List UInt8):List UInt8:=putN s.length++s
def textsP (l:List (List UInt8)):List UInt8:=putN l.length++l.flatMap textP
def listP (l:List (List (List UInt8))):List UInt8:=putN l.length++l.flatMap textsP
theorem int_put {n:Nat} (h:n≤9007199254740992) (r:List UInt8):intS (putN n++r,0)=((n:Int),(r,0)):=by
 unfold intS
 simp only [get_put h]
 simp
theorem size_put {n most:Nat} (h:n≤most) (h':n≤65536) (r:List UInt8):sizeS most (putN n++r,0)=(n,(r,0)):=by
 unfold sizeS sizedS
 rw [int_put (by omega)]
 simp only
 rw [if_neg (by omega),if_neg (by omega)]
 simp
theorem text_put {s:List UInt8} (h:s.length≤65536) (r:List UInt8):textS (textP s++r,0)=(s,(r,0)):=by
 unfold textS textP
 rw [List.append_assoc,size_put h h]
 simp
theorem textsGo_put:∀ (l:List (List UInt8)) (acc:List (List UInt8)) (r:List UInt8),(∀ s ∈ l,s.length≤65536)→textsGo l.length acc (l.flatMap textP++r,0)=(acc++l,(r,0))
 | [],acc,r,_=>by simp [textsGo]
 | s::l,acc,r,h=>by
  rw [List.length_cons,textsGo,List.flatMap_cons,List.append_assoc,text_put (h s (by simp)),if_pos rfl]
  rw [textsGo_put l _ r (fun s hs=>h s (by simp [hs]))]
  simp
theorem texts_put {l:List (List UInt8)} {most:Nat} (hl:l.length≤most) (hm:most≤65536) (h:∀ s ∈ l,s.length≤65536) (r:List UInt8):textsS most (textsP l++r,0)=(l,(r,0)):=by
 unfold textsS textsP
 rw [List.append_assoc,size_put hl (by omega)]
 simp only
 rw [textsGo_put l [] r h]
 simp
theorem listGo_put:∀ (l:List (List (List UInt8))) (acc:List (List (List UInt8))) (r:List UInt8),(∀ t ∈ l,t.length≤64∧∀ s ∈ t,s.length≤65536)→listGo l.length acc (l.flatMap textsP++r,0)=(acc++l,(r,0))
 | [],acc,r,_=>by simp [listGo]
 | t::l,acc,r,h=>by
  rw [List.length_cons,listGo,if_pos rfl,List.flatMap_cons,List.append_assoc,texts_put (h t (by simp)).1 (by omega) (h t (by simp)).2]
  rw [listGo_put l _ r (fun s hs=>h s (by simp [hs]))]
  simp
theorem list_put {l:List (List (List UInt8))} (hl:l.length≤64) (h:∀ t ∈ l,t.length≤64∧∀ s ∈ t,s.length≤65536) (r:List UInt8):listS (listP l++r,0)=(some l,(r,0)):=by
 unfold listS listP
 rw [List.append_assoc,int_put (by omega)]
 simp only
 rw [if_neg (by omega),Int.toNat_natCast,listGo_put l [] r h]
 simp
theorem int_err {st:Inp} (h:(intS st).2.2=0):st.2=0∧(getN st.1).2.2=0∧(intS st).1=(getN st.1).1∧(intS st).2.1=st.1.drop (getN st.1).2.1:=by
 unfold intS at h ⊢
 split at h
 ·rename_i h0
  split at h
  ·rename_i h1
   rw [if_pos h0,if_pos h1]
   exact ⟨h0,h1,rfl,rfl⟩
  ·rename_i h1; exact absurd h h1
 ·rename_i h0; exact absurd h h0
theorem put_int {st:Inp} (h:(intS st).2.2=0) (hn:0≤(intS st).1):st=(putN (intS st).1.toNat++(intS st).2.1,0)∧(intS st).1≤9007199254740992:=by
 obtain ⟨h0,h1,h2,h3⟩:=int_err h
 rw [h2] at hn ⊢
 rw [h3]
 have:=put_get (s:=st.1) (n:=(getN st.1).1) (k:=(getN st.1).2.1) (by rw [← h1]) hn
 refine ⟨?_,this.2⟩
 rw [← this.1,← h0]
theorem size_err {most:Nat} {st:Inp} (h:(sizeS most st).2.2=0):(intS st).2.2=0∧0≤(intS st).1∧(intS st).1≤most∧(intS st).1≤65536∧(sizeS most st)=((intS st).1.toNat,(intS st).2):=by
 unfold sizeS sizedS at h ⊢
 split at h
 ·rename_i hc
  simp only [failS] at h
  split at h
  ·simp at h
  ·rename_i h0; exact absurd h h0
 ·rename_i hc
  split at h
  ·rename_i hc2
   simp only [failS] at h
   split at h
   ·simp at h
   ·rename_i h0; exact absurd h h0
  ·rename_i hc2
   rw [if_neg hc,if_neg hc2]
   split at h
   ·rename_i h0
    rw [if_pos h0]
    exact ⟨h0,by omega,by omega,by omega,rfl⟩
   ·rename_i h0; exact absurd h h0
theorem put_size {most:Nat} {st:Inp} (h:(sizeS most st).2.2=0):st=(putN (sizeS most st).1++(sizeS most st).2.1,0)∧(sizeS most st).1≤most∧(sizeS most st).1≤65536:=by
 obtain ⟨h1,h2,h3,h4,h5⟩:=size_err h
 rw [h5]
 exact ⟨(put_int h1 h2).1,by show (intS st).1.toNat≤most; omega,by show (intS st).1.toNat≤65536; omega⟩
theorem put_text {st:Inp} (h:(textS st).2.2=0):st=(textP (textS st).1++(textS st).2.1,0)∧(textS st).1.length≤65536:=by
 unfold textS at h ⊢
 split at h
 ·rename_i h0
  split at h
  ·simp at h
  ·rename_i h1
   rw [if_pos h0,if_neg h1]
   obtain ⟨h2,h3,h4⟩:=put_size h0
   have hl:((sizeS 65536 st).2.1.take (sizeS 65536 st).1).length=(sizeS 65536 st).1:=by rw [List.length_take]; omega
   refine ⟨?_,by show ((sizeS 65536 st).2.1.take (sizeS 65536 st).1).length≤65536; omega⟩
   simp only [textP]
   rw [hl,List.append_assoc,List.take_append_drop]
   exact h2
 ·rename_i h0; exact absurd h h0
theorem put_textsGo:∀ (n:Nat) (acc:List (List UInt8)) (st:Inp),st.2=0→(textsGo n acc st).2.2=0→
  ∃ l:List (List UInt8),(textsGo n acc st).1=acc++l∧l.length=n∧st=(l.flatMap textP++(textsGo n acc st).2.1,0)
 | 0,acc,st,h0,h=>⟨[],by simp [textsGo],rfl,by simp only [textsGo,List.flatMap_nil,List.nil_append]; rw [← h0]⟩
 | n+1,acc,st,h0,h=>by
  unfold textsGo at h ⊢
  split at h
  ·rename_i h1
   rw [if_pos h1]
   obtain ⟨l,e1,e2,e3⟩:=put_textsGo n (acc++[(textS st).1]) (textS st).2 h1 h
   refine ⟨(textS st).1::l,by rw [e1]; simp,by simp [e2],?_⟩
   have:=(put_text h1).1
   rw [List.flatMap_cons,List.append_assoc]
   have e4:(textS st).2.1=l.flatMap textP++(textsGo n (acc++[(textS st).1]) (textS st).2).2.1:=congrArg Prod.fst e3
   rw [← e4]
   exact this
  ·rename_i h1; exact absurd h h1
theorem put_texts {most:Nat} {st:Inp} (h:(textsS most st).2.2=0):st=(textsP (textsS most st).1++(textsS most st).2.1,0)∧(textsS most st).1.length≤most:=by
 unfold textsS at h ⊢
 have hs:(sizeS most st).2.2=0:=by
  rcases Nat.eq_zero_or_pos (sizeS most st).2.2 with h0 | h0
  ·exact h0
  ·exfalso
   have hz:(sizeS most st).1=0:=by
    unfold sizeS sizedS at h0 ⊢
    split
    ·rfl
    ·split
     ·rfl
     ·split
      ·rename_i a b c
       rw [if_neg a,if_neg b,if_pos c] at h0
       simp only at h0
       rw [c] at h0
       exact absurd h0 (Nat.lt_irrefl 0)
      ·rfl
   rw [hz] at h
   exact absurd h (Nat.pos_iff_ne_zero.1 h0)
 obtain ⟨l,e1,e2,e3⟩:=put_textsGo _ [] _ hs h
 obtain ⟨h2,h3,h4⟩:=put_size hs
 rw [e1]
 simp only [List.nil_append]
 refine ⟨?_,by rw [e2]; exact h3⟩
 unfold textsP
 rw [e2,List.append_assoc]
 have e4:(sizeS most st).2.1=l.flatMap textP++(textsGo (sizeS most st).1 [] (sizeS most st).2).2.1:=congrArg Prod.fst e3
 rw [← e4]
 exact h2
theorem put_listGo:∀ (n:Nat) (acc:List (List (List UInt8))) (st:Inp),st.2=0→(listGo n acc st).2.2=0→
  ∃ l:List (List (List UInt8)),(listGo n acc st).1=acc++l∧l.length=n∧(∀ t ∈ l,t.length≤64)∧st=(l.flatMap textsP++(listGo n acc st).2.1,0)
 | 0,acc,st,h0,h=>⟨[],by simp [listGo],rfl,by simp,by simp only [listGo,List.flatMap_nil,List.nil_append]; rw [← h0]⟩
 | n+1,acc,st,h0,h=>by
  unfold listGo at h ⊢
  rw [if_pos h0] at h ⊢
  have h1:(textsS 64 st).2.2=0:=by
   rcases Nat.eq_zero_or_pos (textsS 64 st).2.2 with hz | hz
   ·exact hz
   ·exfalso
    have:listGo n (acc++[(textsS 64 st).1]) (textsS 64 st).2=(acc++[(textsS 64 st).1],(textsS 64 st).2):=by
     cases n with
     | zero=>rfl
     | succ n=>rw [listGo,if_neg (by omega)]
    rw [this] at h
    exact absurd h (Nat.pos_iff_ne_zero.1 hz)
  obtain ⟨l,e1,e2,e3,e4⟩:=put_listGo n (acc++[(textsS 64 st).1]) (textsS 64 st).2 h1 h
  obtain ⟨k1,k2⟩:=put_texts h1
  refine ⟨(textsS 64 st).1::l,by rw [e1]; simp,by simp [e2],?_,?_⟩
  ·intro t ht
   rcases List.mem_cons.1 ht with rfl | ht
   ·exact k2
   ·exact e3 t ht
  ·rw [List.flatMap_cons,List.append_assoc]
   have e5:(textsS 64 st).2.1=l.flatMap textsP++(listGo n (acc++[(textsS 64 st).1]) (textsS 64 st).2).2.1:=congrArg Prod.fst e4
   rw [← e5]
   exact k1
theorem put_list {st:Inp} {l:List (List (List UInt8))} (hl:(listS st).1=some l) (h:(listS st).2.2=0):st=(listP l++(listS st).2.1,0)∧l.length≤64∧∀ t ∈ l,t.length≤64:=by
 unfold listS at hl h ⊢
 split at hl
 ·cases hl
 ·rename_i hc
  rw [if_neg hc] at h ⊢
  simp only [Option.some.injEq] at hl h ⊢
  have hi:(intS st).2.2=0:=by
   rcases Nat.eq_zero_or_pos (intS st).2.2 with hz | hz
   ·exact hz
   ·exfalso
    have:listGo (intS st).1.toNat [] (intS st).2=([],(intS st).2):=by
     cases (intS st).1.toNat with
     | zero=>rfl
     | succ n=>rw [listGo,if_neg (by omega)]
    rw [this] at h
    exact absurd h (Nat.pos_iff_ne_zero.1 hz)
  obtain ⟨m,e1,e2,e3,e4⟩:=put_listGo _ [] _ hi h
  obtain ⟨k1,k2⟩:=put_int hi (by omega)
  rw [hl] at e1
  simp only [List.nil_append] at e1
  subst e1
  refine ⟨?_,by omega,e3⟩
  unfold listP
  rw [e2,List.append_assoc]
  have e5:(intS st).2.1=l.flatMap textsP++(listGo (intS st).1.toNat [] (intS st).2).2.1:=congrArg Prod.fst e4
  rw [← e5]
  exact k1
theorem put_bool {st:Inp} (h:(boolS st).2.2=0):st=((if (boolS st).1=true then 1 else 0)::(boolS st).2.1,0):=by
 obtain ⟨l,e⟩:=st
 unfold boolS at h ⊢
 simp only at h ⊢
 split at h
 ·rename_i h0
  subst h0
  cases l with
  | nil=>simp at h
  | cons c t=>
   simp only [if_true] at h ⊢
   split at h
   ·simp at h
   ·rename_i h1
    rw [if_neg h1]
    simp only [decide_eq_true_eq]
    have hc:c=if c.toNat=1 then 1 else 0:=by
     apply UInt8.toNat_inj.1
     split
     ·rename_i h2; rw [h2]; rfl
     ·rename_i h2
      have:c.toNat=0:=by omega
      rw [this]; rfl
    rw [← hc]
 ·rename_i h0; exact absurd h h0
theorem bool_put (b:Bool) (r:List UInt8):boolS ((if b=true then 1 else 0)::r,0)=(b,(r,0)):=by
 cases b <;> simp [boolS]
end Go.Proofs.YtniamhbcmcgonaaGreatDoor
namespace Go.Proofs.YtniamhbcmcgonaaGreatDoor
open Go.RowKit
def bs (l:List UInt8):ByteArray:=⟨⟨l⟩⟩
theorem bs_self (s:ByteArray):bs s.data.toList=s:=rfl
theorem bs_size (l:List UInt8):(bs l).size=l.length:=rfl
theorem bs_get (s:List UInt8) (k:Nat) (h:k < (bs s).size):(bs s)[k]=s.getD k 0:=by
 have hk:k < s.length:=h
 rw [List.getD,List.getElem?_eq_getElem hk]
 rfl
theorem bs_empty (s:List UInt8):(bs s).toList.isEmpty=s.isEmpty:=by rw [ByteArray.toList_eq]; rfl
theorem len_size (s:ByteArray):s.data.toList.length=s.size:=by rw [Array.length_toList]; rfl
theorem shl_or_i {a b:Nat} (ha:a < 281474976710656) (hb:b < 256):bits .or .i64 ((a:Int)*256) (b:Int)=((256*a+b:Nat):Int):=by
 have h1:((a:Int)*256)=((a*256:Nat):Int):=by omega
 have h4:a*256 ||| b=256*a+b:=by
  have h3:a*256=a <<< 8:=by rw [Nat.shiftLeft_eq]
  have h5:a <<< 8+b=a <<< 8 ||| b:=Nat.shiftLeft_add_eq_or_of_lt (by omega:b < 2 ^ 8) a
  rw [h3,← h5,← h3,Nat.mul_comm]
 have h5:(BitVec.ofInt 64 ((a*256:Nat):Int) ||| BitVec.ofInt 64 (b:Int)).toNat=a*256 ||| b:=by
  rw [BitVec.toNat_or,BitVec.toNat_ofInt,BitVec.toNat_ofInt]
  congr 1
  ·omega
  ·omega
 rw [h1]
 show IntKind.i64.wrap ((BitVec.ofInt 64 ((a*256:Nat):Int) ||| BitVec.ofInt 64 (b:Int)).toNat:Nat)=_
 rw [h5,h4,IntKind.wrap_i64]
 omega
theorem byte_low (c:UInt8):bits .andNot .u8 (c.toNat:Int) 128=((c.toNat % 128:Nat):Int):=by
 have key:∀ n:Fin 256,bits .andNot .u8 (n.val:Int) 128=((n.val % 128:Nat):Int):=by decide +kernel
 exact key ⟨c.toNat,c.toNat_lt⟩
theorem byte_high (c:UInt8):bits .and .u8 (c.toNat:Int) 128=if 128≤c.toNat then 128 else 0:=by
 have key:∀ n:Fin 256,bits .and .u8 (n.val:Int) 128=if 128≤n.val then 128 else 0:=by decide +kernel
 exact key ⟨c.toNat,c.toNat_lt⟩
theorem part_snoc (s:ByteArray) (i:Nat) (h1:1≤i) (h:i < s.size):(s.data.toList.take (i+1)).drop 1=(s.data.toList.take i).drop 1++[s[i]]:=by
 have hl:=len_size s
 rw [take_snoc s i h,List.drop_append_of_le_length (by rw [List.length_take]; omega)]
theorem part_lt (s:ByteArray) (i:Nat) (h:i≤8):beN ((s.data.toList.take i).drop 1) < 72057594037927936:=by
 have h1:=beN_lt ((s.data.toList.take i).drop 1)
 have h2:(256:Nat) ^ ((s.data.toList.take i).drop 1).length≤256 ^ 7:=Nat.pow_le_pow_right (by omega) (by rw [List.length_drop,List.length_take]; omega)
 have h3:(256:Nat) ^ 7=72057594037927936:=by decide
 omega
theorem part_lt6 (s:ByteArray) (i:Nat) (h:i≤7):beN ((s.data.toList.take i).drop 1) < 281474976710656:=by
 have h1:=beN_lt ((s.data.toList.take i).drop 1)
 have h2:(256:Nat) ^ ((s.data.toList.take i).drop 1).length≤256 ^ 6:=Nat.pow_le_pow_right (by omega) (by rw [List.length_drop,List.length_take]; omega)
 have h3:(256:Nat) ^ 6=281474976710656:=by decide
 omega
theorem wrap64_nat {n:Nat} (h:n < 9223372036854775808):wrap64 (n:Int)=n:=by unfold wrap64; omega
theorem front_cons {s:ByteArray} {c:UInt8} {t:List UInt8} (hs:s.data.toList=c::t):s.size=t.length+1∧(∀ h:0 < s.size,s[0]'h=c)∧(∀ (d:UInt8) (r:List UInt8),t=d::r→∀ h:1 < s.size,s[1]'h=d):=by
 have hl:=len_size s
 have key:∀ (i:Nat) (x:UInt8),s.data.toList[i]?=some x→∀ h:i < s.size,s[i]'h=x:=fun i x hx h=>by
  rw [List.getElem?_eq_getElem (by rw [hl]; exact h)] at hx
  exact Option.some.inj hx
 refine ⟨by rw [← hl,hs]; rfl,key 0 c (by rw [hs]; rfl),fun d r ht=>key 1 d (by rw [hs,ht]; rfl)⟩
set_option maxRecDepth 100000 in
set_option maxHeartbeats 3200000 in
theorem oget_any (s:ByteArray) (hbig:s.size < 4611686018427387904) (w:World):Calls Tryz.prog 66 #[.string s] w fun e w'=>
  e= .returned (.tuple #[.int .i64 (getN s.data.toList).1,.int .i64 ((getN s.data.toList).2.1:Nat),.int .i64 ((getN s.data.toList).2.2:Nat)])∧Below w.heap.size w w':=by
 have hl:=len_size s
 cases hs:s.data.toList with
 | nil=>
  have hne:s.toList.isEmpty=true:=by rw [ByteArray.toList_eq,hs]; rfl
  clear hs hl hbig
  go_enter Tryz.func66,Tryz.ntmps66
  go_wp2
  go_ret3
  exact ⟨rfl,Below.refl _ _⟩
 | cons c t=>
  have hne:s.toList.isEmpty=false:=by rw [ByteArray.toList_eq,hs]; rfl
  obtain ⟨hsz,hz0,hz1⟩:=front_cons hs
  have h0:0 < s.size:=by omega
  have hb1:=byte_low c
  have hb2:=byte_high c
  have hcl:=c.toNat_lt
  have hz0':s[0]=c:=hz0 h0
  clear hz0
  obtain ⟨k,hk⟩:∃ k:Nat,k=c.toNat % 128:=⟨_,rfl⟩
  obtain ⟨b,hb⟩:∃ b:Bool,b=decide (128≤c.toNat):=⟨_,rfl⟩
  have hnz:(bits .and .u8 (c.toNat:Int) 128 !=0)=b:=by
   rw [hb2,hb]
   by_cases h:128≤c.toNat <;> simp [h]
  have hbk:c.toNat=128↔b=true∧k=0:=by rw [hb,hk,decide_eq_true_eq]; omega
  have hgn:Hid (getN (c::t)=if 7 < k∨(b=true∧k=0) then (0,0,2) else if t.length < k then (0,0,3) else if 9007199254740992 < beN (t.take k)∨(t.take k).head?=some 0 then (0,0,2) else (if b=true then -(beN (t.take k):Int) else (beN (t.take k):Int),k+1,0)):=by
   unfold Hid
   rw [getN_cons,← hk,hb]
   simp only [decide_eq_true_eq]
   have e:(7 < k∨c.toNat=128)↔(7 < k∨(128≤c.toNat∧k=0)):=by rw [hbk,hb,decide_eq_true_eq]
   simp only [e]
  rw [← hk] at hb1
  have hwk:wrap64 (k:Int)=(k:Int):=wrap64_nat (by omega)
  clear hk hb hb2 hbk hcl
  by_cases hA:7 < k
  ·
   have hr:Hid (getN (c::t)=(0,0,2)):=by unfold Hid; rw [hgn.out,if_pos (.inl hA)]
   have hAi:(7:Int) < (k:Int):=by omega
   clear hs hl hz1 hsz hbig hA
   go_enter Tryz.func66,Tryz.ntmps66
   go_wp2
   go_region
   go_wp2
   all_goals go_ret3
   all_goals exact ⟨by first | (rw [hr.out]; done) | (rw [hr.out]; rfl),(Below.refl _ w).drew⟩
  have hk7:¬ ((7:Int) < (k:Int)):=by omega
  have hk7n:k≤7:=by omega
  by_cases hBx:b=true∧k=0
  ·
   have hr:Hid (getN (c::t)=(0,0,2)):=by unfold Hid; rw [hgn.out,if_pos (.inr hBx)]
   obtain ⟨rfl,rfl⟩:=hBx
   clear hs hl hz1 hsz hbig hA
   go_enter Tryz.func66,Tryz.ntmps66
   go_wp2
   go_region
   go_wp2
   all_goals go_ret3
   all_goals exact ⟨by first | (rw [hr.out]; done) | (rw [hr.out]; rfl),(Below.refl _ w).drew⟩
  have hgn2:Hid (getN (c::t)=if t.length < k then (0,0,3) else if 9007199254740992 < beN (t.take k)∨(t.take k).head?=some 0 then (0,0,2) else (if b=true then -(beN (t.take k):Int) else (beN (t.take k):Int),k+1,0)):=by
   unfold Hid; rw [hgn.out,if_neg (by intro h; rcases h with h | h; exact hA h; exact hBx h)]
  have hk0:b=true→((k:Int)==0)=false:=fun h=>by
   have:k≠0:=fun h'=>hBx ⟨h,h'⟩
   simp; omega
  clear hA hgn
  by_cases hC:t.length < k
  ·
   have hr:Hid (getN (c::t)=(0,0,3)):=by unfold Hid; rw [hgn2.out,if_pos hC]
   have hle:(s.size:Int)≤(k:Int):=by omega
   clear hs hl hz1 hsz hbig hC hBx
   cases b
   all_goals
    first | have hk0':=hk0 rfl | skip
    clear hk0
    go_enter Tryz.func66,Tryz.ntmps66
    go_wp2
    go_region
    go_wp2
    all_goals go_ret3
    all_goals exact ⟨by first | (rw [hr.out]; done) | (rw [hr.out]; rfl),(Below.refl _ w).drew⟩
  have hkl:¬ ((s.size:Int)≤(k:Int)):=by omega
  have hbuf:Hid (∀ j,j≤k+1→(s.data.toList.take j).drop 1=t.take (j - 1)):=by
   intro j hj
   rw [hs]
   cases j with
   | zero=>simp
   | succ j=>simp
  have hkb:k+1≤s.size:=by omega
  have hr:Hid (getN (c::t)=if 9007199254740992 < beN (t.take k)∨(t.take k).head?=some 0 then (0,0,2) else (if b=true then -(beN (t.take k):Int) else (beN (t.take k):Int),k+1,0)):=by
   unfold Hid; rw [hgn2.out,if_neg hC]
  have hmlt:Hid (beN (t.take k) < 72057594037927936):=by
   have:=part_lt s (k+1) (by omega)
   rw [hbuf.out (k+1) (Nat.le_refl _)] at this
   exact this
  have hd:k=0∧b=false∨1≤k∧∃ d:UInt8,(t.take k).head?=some d∧∃ h:1 < s.size,s[1]'h=d:=by
   rcases Nat.eq_zero_or_pos k with h | h
   ·left
    refine ⟨h,?_⟩
    cases b with
    | false=>rfl
    | true=>exact absurd ⟨rfl,h⟩ hBx
   ·right
    refine ⟨h,?_⟩
    cases ht:t with
    | nil=>rw [ht] at hC; simp at hC; omega
    | cons d r=>
     refine ⟨d,?_,by omega,hz1 d r ht _⟩
     obtain ⟨k',rfl⟩:∃ k',k=k'+1:=⟨k - 1,by omega⟩
     simp
  clear hl hgn2 hz1 hC hBx hs hsz
  rcases hd with ⟨hk00,rfl⟩ | ⟨h1k,d,hd1,hs1,hd2⟩
  ·have hkp:¬ ((0:Int) < (k:Int)):=by omega
   have hd0:Hid ((t.take k).head?=none):=by unfold Hid; rw [hk00]; rfl
   clear hk0 hk00
   go_enter Tryz.func66,Tryz.ntmps66
   go_wp2
   go_region
   go_wp2
   go_loop [7,8] (fun n i=>∃ j:Nat,1≤j∧j≤k+1∧i= .int .i64 j∧n= .int .i64 (beN ((s.data.toList.take j).drop 1))) (fun _ i=>k+1 - (intOf i).toNat)
   case atStart=>exact ⟨1,Nat.le_refl _,by omega,rfl,by rw [hbuf.out 1 (by omega)]; rfl⟩
   case round=>
    obtain ⟨j,hj1,hj,rfl,rfl⟩:=hrel
    by_cases hlt:j≤k
    ·have hjs:j < s.size:=by omega
     have hji:(j:Int)≤(k:Int):=by omega
     have hround:Hid (bits .or .i64 ((beN ((s.data.toList.take j).drop 1):Nat)*256) (s[j].toNat:Int)=((beN ((s.data.toList.take (j+1)).drop 1):Nat):Int)):=by
      unfold Hid
      rw [shl_or_i (part_lt6 s j (by omega)) s[j].toNat_lt,part_snoc s j hj1 hjs,beN_snoc]
     have hwb:wrap64 (s[j].toNat:Int)=(s[j].toNat:Int):=wrap64_nat (by have:=s[j].toNat_lt; omega)
     have hlt6:=part_lt6 s j (by omega)
     generalize beN ((s.data.toList.take j).drop 1)=n at*
     go_wp2
     go_round
     case rel=>exact ⟨j+1,by omega,by omega,by go_num,by first | (rw [hround.out]; done) | (rw [hround.out]; rfl)⟩
     case measure=>simp [intOf]; omega
    ·have hji:¬ ((j:Int)≤(k:Int)):=by omega
     have hjk:j=k+1:=by omega
     have hm:Hid (beN ((s.data.toList.take j).drop 1)=beN (t.take k)):=by unfold Hid; rw [hbuf.out j (by omega),hjk,Nat.add_sub_cancel]
     rw [hm.out]
     clear hm hbuf
     generalize beN (t.take k)=m at*
     have hmlt':m < 72057594037927936:=hmlt.out
     by_cases hbig2:9007199254740992 < m
     ·have hbi:(9007199254740992:Int) < (m:Int):=by omega
      have hr1:Hid (getN (c::t)=(0,0,2)):=by unfold Hid; rw [hr.out,if_pos (.inl hbig2)]
      clear hbig2 hmlt hr
      go_wp2
      go_ret3
      exact ⟨by first | (rw [hr1.out]; done) | (rw [hr1.out]; rfl),(Below.refl _ w).drew⟩
     ·have hbi:¬ ((9007199254740992:Int) < (m:Int)):=by omega
      have hr1:Hid (getN (c::t)=((m:Int),k+1,0)):=by unfold Hid; rw [hr.out,hd0.out,if_neg (by simp; omega)]; rfl
      clear hmlt hr hbig2
      go_wp2
      go_ret3
      exact ⟨by first | (rw [hr1.out]; done) | (rw [hr1.out]; rfl),(Below.refl _ w).drew⟩
  ·have hkp:(0:Int) < (k:Int):=by omega
   have hkz:((k:Int)==0)=false:=by simp; omega
   clear hk0
   cases b with
   | false=>
    go_enter Tryz.func66,Tryz.ntmps66
    go_wp2
    go_region
    go_wp2
    go_loop [7,8] (fun n i=>∃ j:Nat,1≤j∧j≤k+1∧i= .int .i64 j∧n= .int .i64 (beN ((s.data.toList.take j).drop 1))) (fun _ i=>k+1 - (intOf i).toNat)
    case atStart=>exact ⟨1,Nat.le_refl _,by omega,rfl,by rw [hbuf.out 1 (by omega)]; rfl⟩
    case round=>
     obtain ⟨j,hj1,hj,rfl,rfl⟩:=hrel
     by_cases hlt:j≤k
     ·have hjs:j < s.size:=by omega
      have hji:(j:Int)≤(k:Int):=by omega
      have hround:Hid (bits .or .i64 ((beN ((s.data.toList.take j).drop 1):Nat)*256) (s[j].toNat:Int)=((beN ((s.data.toList.take (j+1)).drop 1):Nat):Int)):=by
       unfold Hid
       rw [shl_or_i (part_lt6 s j (by omega)) s[j].toNat_lt,part_snoc s j hj1 hjs,beN_snoc]
      have hwb:wrap64 (s[j].toNat:Int)=(s[j].toNat:Int):=wrap64_nat (by have:=s[j].toNat_lt; omega)
      have hlt6:=part_lt6 s j (by omega)
      generalize beN ((s.data.toList.take j).drop 1)=n at*
      go_wp2
      go_round
      case rel=>exact ⟨j+1,by omega,by omega,by go_num,by first | (rw [hround.out]; done) | (rw [hround.out]; rfl)⟩
      case measure=>simp [intOf]; omega
     ·have hji:¬ ((j:Int)≤(k:Int)):=by omega
      have hjk:j=k+1:=by omega
      have hm:Hid (beN ((s.data.toList.take j).drop 1)=beN (t.take k)):=by unfold Hid; rw [hbuf.out j (by omega),hjk,Nat.add_sub_cancel]
      rw [hm.out]
      clear hm hbuf
      generalize beN (t.take k)=m at*
      have hmlt':m < 72057594037927936:=hmlt.out
      by_cases hbig2:9007199254740992 < m
      ·have hbi:(9007199254740992:Int) < (m:Int):=by omega
       have hr1:Hid (getN (c::t)=(0,0,2)):=by unfold Hid; rw [hr.out,if_pos (.inl hbig2)]
       clear hbig2 hmlt hr
       go_wp2
       go_ret3
       exact ⟨by first | (rw [hr1.out]; done) | (rw [hr1.out]; rfl),(Below.refl _ w).drew⟩
      ·have hbi:¬ ((9007199254740992:Int) < (m:Int)):=by omega
       by_cases hdz:d=0
       ·have hr1:Hid (getN (c::t)=(0,0,2)):=by unfold Hid; rw [hr.out,hd1,hdz,if_pos (.inr rfl)]
        subst hdz
        clear hmlt hr hbig2 hd1
        go_wp2
        go_ret3
        exact ⟨by first | (rw [hr1.out]; done) | (rw [hr1.out]; rfl),(Below.refl _ w).drew⟩
       ·have hdn:((d.toNat:Int)==0)=false:=by
         have:d.toNat≠0:=fun h=>hdz (UInt8.toNat_inj.1 h)
         simp; omega
        have hr1:Hid (getN (c::t)=(if false=true then -(m:Int) else (m:Int),k+1,0)):=by
         unfold Hid; rw [hr.out,hd1,if_neg (by intro h; rcases h with h | h; exact hbig2 h; exact hdz (by simpa using h))]; try simp
        clear hmlt hr hbig2 hd1 hdz
        go_wp2
        go_ret3
        exact ⟨by first | (rw [hr1.out]; done) | (rw [hr1.out]; rfl),(Below.refl _ w).drew⟩
   | true=>
    go_enter Tryz.func66,Tryz.ntmps66
    go_wp2
    go_region
    go_wp2
    go_loop [7,8] (fun n i=>∃ j:Nat,1≤j∧j≤k+1∧i= .int .i64 j∧n= .int .i64 (beN ((s.data.toList.take j).drop 1))) (fun _ i=>k+1 - (intOf i).toNat)
    case atStart=>exact ⟨1,Nat.le_refl _,by omega,rfl,by rw [hbuf.out 1 (by omega)]; rfl⟩
    case round=>
     obtain ⟨j,hj1,hj,rfl,rfl⟩:=hrel
     by_cases hlt:j≤k
     ·have hjs:j < s.size:=by omega
      have hji:(j:Int)≤(k:Int):=by omega
      have hround:Hid (bits .or .i64 ((beN ((s.data.toList.take j).drop 1):Nat)*256) (s[j].toNat:Int)=((beN ((s.data.toList.take (j+1)).drop 1):Nat):Int)):=by
       unfold Hid
       rw [shl_or_i (part_lt6 s j (by omega)) s[j].toNat_lt,part_snoc s j hj1 hjs,beN_snoc]
      have hwb:wrap64 (s[j].toNat:Int)=(s[j].toNat:Int):=wrap64_nat (by have:=s[j].toNat_lt; omega)
      have hlt6:=part_lt6 s j (by omega)
      generalize beN ((s.data.toList.take j).drop 1)=n at*
      go_wp2
      go_round
      case rel=>exact ⟨j+1,by omega,by omega,by go_num,by first | (rw [hround.out]; done) | (rw [hround.out]; rfl)⟩
      case measure=>simp [intOf]; omega
     ·have hji:¬ ((j:Int)≤(k:Int)):=by omega
      have hjk:j=k+1:=by omega
      have hm:Hid (beN ((s.data.toList.take j).drop 1)=beN (t.take k)):=by unfold Hid; rw [hbuf.out j (by omega),hjk,Nat.add_sub_cancel]
      rw [hm.out]
      clear hm hbuf
      generalize beN (t.take k)=m at*
      have hmlt':m < 72057594037927936:=hmlt.out
      by_cases hbig2:9007199254740992 < m
      ·have hbi:(9007199254740992:Int) < (m:Int):=by omega
       have hr1:Hid (getN (c::t)=(0,0,2)):=by unfold Hid; rw [hr.out,if_pos (.inl hbig2)]
       clear hbig2 hmlt hr
       go_wp2
       go_ret3
       exact ⟨by first | (rw [hr1.out]; done) | (rw [hr1.out]; rfl),(Below.refl _ w).drew⟩
      ·have hbi:¬ ((9007199254740992:Int) < (m:Int)):=by omega
       by_cases hdz:d=0
       ·have hr1:Hid (getN (c::t)=(0,0,2)):=by unfold Hid; rw [hr.out,hd1,hdz,if_pos (.inr rfl)]
        subst hdz
        clear hmlt hr hbig2 hd1
        go_wp2
        go_ret3
        exact ⟨by first | (rw [hr1.out]; done) | (rw [hr1.out]; rfl),(Below.refl _ w).drew⟩
       ·have hdn:((d.toNat:Int)==0)=false:=by
         have:d.toNat≠0:=fun h=>hdz (UInt8.toNat_inj.1 h)
         simp; omega
        have hr1:Hid (getN (c::t)=(if true=true then -(m:Int) else (m:Int),k+1,0)):=by
         unfold Hid; rw [hr.out,hd1,if_neg (by intro h; rcases h with h | h; exact hbig2 h; exact hdz (by simpa using h))]; try simp
        clear hmlt hr hbig2 hd1 hdz
        go_wp2
        go_ret3
        exact ⟨by first | (rw [hr1.out]; done) | (rw [hr1.out]; rfl),(Below.refl _ w).drew⟩
end Go.Proofs.YtniamhbcmcgonaaGreatDoor
namespace Go.Proofs.YtniamhbcmcgonaaGreatDoor
open Go.RowKit
abbrev Str:=List UInt8
def Onl (B:Nat) (w w':World):Prop:=w.grownBy w' (some B)
theorem Onl.refl (B:Nat) (w:World):Onl B w w:=⟨rfl,rfl,rfl,Nat.le_refl _,fun _ _ _=>rfl⟩
theorem Onl.size {B:Nat} {w w':World} (h:Onl B w w'):w.heap.size≤w'.heap.size:=World.grownBy.size h
theorem Onl.trans {B:Nat} {a b c:World} (h:Onl B a b) (k:Onl B b c):Onl B a c:=
 ⟨(World.grownBy.os k).trans (World.grownBy.os h),(World.grownBy.tape k).trans (World.grownBy.tape h),(World.grownBy.output k).trans (World.grownBy.output h),Nat.le_trans h.size k.size,
  fun i hi hn=>(World.grownBy.block k i (Nat.lt_of_lt_of_le hi h.size) hn).trans (World.grownBy.block h i hi hn)⟩
theorem Onl.of {w w':World} (B:Nat) (h:Below w.heap.size w w'):Onl B w w':=⟨h.os,h.tape,h.output,h.size,fun i hi _=>h.block i hi⟩
theorem Onl.setCell {B:Nat} {a w:World} (h:Onl B a w) {p:Addr} (hp:B=p.block) (u:Value):Onl B a (w.setCell p u):=
 h.trans ⟨rfl,rfl,rfl,Nat.le_of_eq (by simp),fun i _ hn=>Below.heap_setCell w p u i (fun e=>hn (by rw [hp,e]))⟩
theorem Onl.alloc {B:Nat} {a w:World} (h:Onl B a w) (o:Obj):Onl B a (w.alloc o):=h.trans (World.grownBy_alloc w o (some B))
theorem Onl.drew {B:Nat} {a w:World} (h:Onl B a w):Onl B a w.drew:=h.trans ⟨rfl,rfl,rfl,Nat.le_refl _,fun _ _ _=>rfl⟩
theorem Onl.grown {B:Nat} {a w w':World} {row:Option Nat} (h:Onl B a w) (hg:w.grownBy w' row) (hr:∀ k,row=some k→a.heap.size≤k):Onl B a w':=
 ⟨hg.os.trans (World.grownBy.os h),hg.tape.trans (World.grownBy.tape h),hg.output.trans (World.grownBy.output h),Nat.le_trans h.size hg.size,
  fun i hi hn=>(hg.block i (Nat.lt_of_lt_of_le hi h.size) (fun e=>by have:=hr i e.symm; omega)).trans (World.grownBy.block h i hi hn)⟩
theorem Onl.below {B N:Nat} {w w':World} (h:Onl B w w') (hB:N≤B) (hN:N≤w.heap.size):Below N w w':=
 ⟨World.grownBy.os h,World.grownBy.tape h,World.grownBy.output h,h.size,fun i hi=>World.grownBy.block h i (by omega) (fun e=>by cases e; omega)⟩
theorem own_base {w:World} {N N':Nat} {e:TypeId} {size n:Nat} {v:Value} {xs:List Value} (h:w.ownsRow N e size v n xs) (hN:N'≤N):w.ownsRow N' e size v n xs:=by
 obtain ⟨h1,h2⟩:=h
 refine ⟨h1,?_⟩
 rcases h2 with h2 | ⟨g,cap,cur,rfl,hg,hh,k⟩
 ·exact .inl h2
 ·exact .inr ⟨g,cap,cur,rfl,Nat.le_trans hN hg,hh,k⟩
theorem own_onl {w w':World} {N B:Nat} {e:TypeId} {size n:Nat} {v:Value} {xs:List Value} (h:w.ownsRow N e size v n xs) (ho:Onl B w w') (hB:B < N):w'.ownsRow N e size v n xs:=by
 refine h.kept ho ?_
 cases hv:v.ownBlock with
 | none=>exact .inl rfl
 | some g=>
  have:=(h.lt g hv).1
  exact .inr (fun e=>by cases e; omega)
theorem own_grown {w w':World} {N:Nat} {e:TypeId} {size n:Nat} {v:Value} {xs:List Value} {u:Value} (h:w.ownsRow N e size v n xs) (hg:w.grownBy w' u.ownBlock) (hne:∀ g,v.ownBlock=some g→u.ownBlock≠some g):w'.ownsRow N e size v n xs:=by
 refine h.kept hg ?_
 cases hv:v.ownBlock with
 | none=>exact .inl rfl
 | some g=>exact .inr (fun e=>hne g hv e.symm)
theorem own_apart {w:World} {B B':Nat} {e e':TypeId} {z z' n n':Nat} {v v':Value} {xs xs':List Value} (h:w.ownsRow B e z v n xs) (h':w.ownsRow B' e' z' v' n' xs') (hne:e≠e'):∀ g,v.ownBlock=some g→v'.ownBlock≠some g:=by
 intro g hg hg'
 rcases h.2 with ⟨rfl,_⟩ | ⟨g1,_,_,rfl,_,hh,_⟩
 ·cases hg
 rcases h'.2 with ⟨rfl,_⟩ | ⟨g2,_,_,rfl,_,hh',_⟩
 ·cases hg'
 cases hg; cases hg'
 rw [hh] at hh'
 cases hh'
 exact hne rfl
end Go.Proofs.YtniamhbcmcgonaaGreatDoor
