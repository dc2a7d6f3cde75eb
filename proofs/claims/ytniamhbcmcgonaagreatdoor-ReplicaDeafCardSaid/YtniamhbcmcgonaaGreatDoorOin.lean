/- Readers of bytes, the program's: what each step returns, and what is left. The library's functions on numbers and slices, laid at this program: each field a fact of the program's own (printed by the shelf's plain tool). octets.Put of any number that may be written. The writer within the fields: what lies in it behind each of its functions. -/
import Derived.Test.YtniamhbcmcgonaaGreatDoorObs
import Derived.Laws.Rows
import Derived.Lib.Walk
import Derived.Shelf.Small.Bits
import Derived.Shelf.Strconv.Itoa0
import Derived.Shelf.Slices.Clone
import Derived.Test.YtniamhbcmcgonaaGreatDoorProg
import Derived.Lib.AppendStr
import Derived.Laws.BytesArg
import Derived.OwnWalk
namespace Go.Proofs.YtniamhbcmcgonaaGreatDoor
open Go.RowKit
theorem getN_le {s:Str} (h:(getN s).2.2=0):(getN s).2.1≤s.length:=by
 cases s with
 | nil=>simp [getN] at h
 | cons c t=>
  rw [getN_cons] at h ⊢
  split at h
  ·simp at h
  ·split at h
   ·simp at h
   ·split at h
    ·simp at h
    ·rename_i h1 h2 h3
     rw [if_neg h1,if_neg h2,if_neg h3]
     simp only [List.length_cons]
     omega
theorem intS_len (st:Inp):(intS st).2.1.length≤st.1.length:=by
 unfold intS
 split
 ·split
  ·simp
  ·exact Nat.le_refl _
 ·exact Nat.le_refl _
theorem failS_fst (st:Inp) (e:Nat):(failS st e).1=st.1:=by unfold failS; split <;> rfl
theorem sizeS_len (most:Nat) (st:Inp):(sizeS most st).2.1.length≤st.1.length:=by
 have h:=intS_len st
 unfold sizeS sizedS
 split
 ·rw [failS_fst]; exact h
 ·split
  ·rw [failS_fst]; exact h
  ·split <;> exact h
theorem textS_len (st:Inp):(textS st).2.1.length≤st.1.length:=by
 have h:=sizeS_len 65536 st
 unfold textS
 split
 ·split
  ·exact h
  ·simp only [List.length_drop]; omega
 ·exact h
theorem textsGo_len:∀ (n:Nat) (acc:List Str) (st:Inp),(textsGo n acc st).2.1.length≤st.1.length
 | 0,acc,st=>Nat.le_refl _
 | n+1,acc,st=>by
  unfold textsGo
  split
  ·exact Nat.le_trans (textsGo_len n _ _) (textS_len st)
  ·exact textS_len st
theorem textsS_len (most:Nat) (st:Inp):(textsS most st).2.1.length≤st.1.length:=Nat.le_trans (textsGo_len _ _ _) (sizeS_len most st)
theorem listGo_len:∀ (n:Nat) (acc:List (List Str)) (st:Inp),(listGo n acc st).2.1.length≤st.1.length
 | 0,acc,st=>Nat.le_refl _
 | n+1,acc,st=>by
  unfold listGo
  split
  ·exact Nat.le_trans (listGo_len n _ _) (textsS_len 64 st)
  ·exact Nat.le_refl _
theorem listS_len (st:Inp):(listS st).2.1.length≤st.1.length:=by
 unfold listS
 split
 ·exact intS_len st
 ·exact Nat.le_trans (listGo_len _ _ _) (intS_len st)
theorem boolS_len (st:Inp):(boolS st).2.1.length≤st.1.length:=by
 obtain ⟨l,e⟩:=st
 unfold boolS
 simp only
 split
 ·cases l with
  | nil=>exact Nat.le_refl _
  | cons c t=>simp only; split <;> simp
 ·exact Nat.le_refl _
def InS (t:TypeId) (B:Nat) (st:Inp) (w:World):Prop:=w.heap[B]?=some (.cells #[.string (bs st.1),.int .i64 (st.2:Nat)] t (0,0))
theorem InS.lt {t B:Nat} {st:Inp} {w:World} (h:InS t B st w):B < w.heap.size:=(Array.getElem?_eq_some_iff.1 h).1
theorem InS.c0 {t B:Nat} {st:Inp} {w:World} (h:InS t B st w):w.cell? ⟨B,0,none⟩=some (.string (bs st.1)):=by rw [cell_of_row _ _ _ _ _ _ h]; rfl
theorem InS.c1 {t B:Nat} {st:Inp} {w:World} (h:InS t B st w):w.cell? ⟨B,1,none⟩=some (.int .i64 (st.2:Nat)):=by rw [cell_of_row _ _ _ _ _ _ h]; rfl
theorem InS.f0 {t B:Nat} {st:Inp} {w:World} (h:InS t B st w):w.frozen? ⟨B,0,none⟩=false:=frozen_of_row w B 0 _ _ h
theorem InS.f1 {t B:Nat} {st:Inp} {w:World} (h:InS t B st w):w.frozen? ⟨B,1,none⟩=false:=frozen_of_row w B 1 _ _ h
theorem InS.below {t B:Nat} {st:Inp} {w w':World} (h:InS t B st w) (hb:Below w.heap.size w w'):InS t B st w':=(hb.block B h.lt).trans h
theorem InS.onl {t B:Nat} {st:Inp} {w w':World} (h:InS t B st w) {row:Option Nat} (hg:w.grownBy w' row) (hr:some B≠row):InS t B st w':=(hg.block B h.lt hr).trans h
theorem InS.alloc {t B:Nat} {st:Inp} {w:World} (h:InS t B st w) (o:Obj):InS t B st (w.alloc o):=h.below ((Below.refl _ w).alloc (Nat.le_refl _) o)
theorem InS.set0 {t B:Nat} {st:Inp} {r:Str} {w:World} (h:InS t B st w):InS t B (r,st.2) (w.setCell ⟨B,0,none⟩ (.string (bs r))):=by
 unfold InS at h ⊢
 rw [heap_setCell_same w B 0 _ _ _ h]
 rfl
theorem InS.set1 {t B:Nat} {st:Inp} {e:Nat} {w:World} (h:InS t B st w):InS t B (st.1,e) (w.setCell ⟨B,1,none⟩ (.int .i64 (e:Nat))):=by
 unfold InS at h ⊢
 rw [heap_setCell_same w B 1 _ _ _ h]
 rfl
theorem bs_drop (r:Str) (k:Nat):(bs r).extract k r.length=bs (r.drop k):=by
 unfold bs
 apply ByteArray.ext
 simp [ByteArray.data_extract]
 exact List.take_of_length_le (by simp)
theorem bs_take (r:Str) (k:Nat):(bs r).extract 0 k=bs (r.take k):=by
 unfold bs
 apply ByteArray.ext
 simp [ByteArray.data_extract]
theorem eq0_nat (e:Nat):((e:Int)==0)=decide (e=0):=by
 by_cases h:e=0
 ·subst h; rfl
 ·rw [decide_eq_false h]; simp; omega
theorem ne0_nat (e:Nat):((e:Int) !=0)= !decide (e=0):=by unfold bne; rw [eq0_nat]
set_option maxRecDepth 100000 in
set_option maxHeartbeats 1600000 in
theorem iready_any (B:Nat) (st:Inp) (w:World) (hI:InS 120 B st w):Calls Tryz.prog 85 #[.pointer (some ⟨B,0,none⟩)] w fun e w'=>e= .returned (.bool (decide (st.2=0)))∧w'=w:=by
 have c1:=hI.c1
 have he:=eq0_nat st.2
 clear hI
 obtain ⟨r,e⟩:=st
 simp only at c1 he
 go_enter Tryz.func85,Tryz.ntmps85
 go_wp2
 go_ret
 exact ⟨rfl,rfl⟩
set_option maxRecDepth 100000 in
set_option maxHeartbeats 1600000 in
theorem ierr_any (B:Nat) (st:Inp) (w:World) (hI:InS 120 B st w):Calls Tryz.prog 30 #[.pointer (some ⟨B,0,none⟩)] w fun e w'=>e= .returned (.int .i64 (st.2:Nat))∧w'=w:=by
 have c1:=hI.c1
 go_enter Tryz.func30,Tryz.ntmps30
 go_wp2
 go_ret
 exact ⟨rfl,rfl⟩
set_option maxRecDepth 100000 in
set_option maxHeartbeats 1600000 in
theorem ifail_any (B:Nat) (st:Inp) (k:Nat) (w:World) (hI:InS 120 B st w):Calls Tryz.prog 86 #[.pointer (some ⟨B,0,none⟩),.int .i64 (k:Nat)] w fun e w'=>e= .returned (.tuple #[])∧InS 120 B (failS st k) w'∧Onl B w w':=by
 have c1:=hI.c1
 have f1:=hI.f1
 have hIH:Hid (InS 120 B st w):=hI
 clear hI
 obtain ⟨r,e⟩:=st
 simp only at c1
 by_cases h0:e=0
 ·have hres:Hid (failS (r,e) k=(r,k)):=by unfold Hid failS; rw [if_pos h0]
  have he:((e:Int)==0)=true:=by rw [eq0_nat]; simp [h0]
  clear h0
  go_enter Tryz.func86,Tryz.ntmps86
  go_wp2
  go_end0
  exact ⟨rfl,by rw [hres.out]; exact hIH.out.set1,(Onl.refl B w).setCell rfl _⟩
 ·have hres:Hid (failS (r,e) k=(r,e)):=by unfold Hid failS; rw [if_neg h0]
  have he:((e:Int)==0)=false:=by rw [eq0_nat]; simp [h0]
  clear h0
  go_enter Tryz.func86,Tryz.ntmps86
  go_wp2
  go_end0
  exact ⟨rfl,by rw [hres.out]; exact hIH.out,Onl.refl B w⟩
set_option maxRecDepth 100000 in
set_option maxHeartbeats 3200000 in
theorem iint_any (B:Nat) (st:Inp) (hr:st.1.length≤1000000) (w:World) (hI:InS 120 B st w) :
  Calls Tryz.prog 58 #[.pointer (some ⟨B,0,none⟩)] w fun e w'=>e= .returned (.int .i64 (intS st).1)∧InS 120 B (intS st).2 w'∧Onl B w w':=by
 have hIH:Hid (InS 120 B st w):=hI
 have hlt:=hI.lt
 clear hI
 obtain ⟨r,e⟩:=st
 by_cases h0:e=0
 ·subst h0
  have hrd:Hid (Calls Tryz.prog 85 #[.pointer (some ⟨B,0,none⟩)] w fun e w'=>e= .returned (.bool true)∧w'=w):=iready_any B (r,0) w hIH.out
  have hget:Hid (∀ w,Calls Tryz.prog 66 #[.string (bs r)] w fun e w'=>e= .returned (.tuple #[.int .i64 (getN r).1,.int .i64 ((getN r).2.1:Nat),.int .i64 ((getN r).2.2:Nat)])∧Below w.heap.size w w'):=fun w=>oget_any (bs r) (by rw [bs_size]; simp only at hr; omega) w
  have hsz:(bs r).size=r.length:=bs_size r
  have hres:Hid (intS (r,0)=if (getN r).2.2=0 then ((getN r).1,(r.drop (getN r).2.1,0)) else (0,(r,(getN r).2.2))):=by unfold Hid intS; rw [if_pos rfl]
  have hkle:Hid ((getN r).2.2=0→(getN r).2.1≤r.length):=getN_le
  clear hr
  generalize getN r=g at*
  obtain ⟨n,k,f⟩:=g
  simp only at hget hres hkle
  by_cases hf:f=0
  ·have hk:k≤r.length:=hkle.out hf
   have hext:Hid ((bs r).extract k r.length=bs (r.drop k)):=bs_drop r k
   have hfe:((f:Int) !=0)=false:=by rw [ne0_nat]; simp [hf]
   rw [if_pos hf] at hres
   clear hf hkle
   go_enter Tryz.func58,Tryz.ntmps58
   go_wp2_with (fail)
   go_at_call 85
   refine hrd.out.mono ?_
   rintro e w' ⟨rfl,rfl⟩
   have c0:=hIH.out.c0
   simp only at c0
   go_wp2_with (fail)
   go_at_call 66
   refine (hget.out _).mono ?_
   rintro e w1 ⟨rfl,hB1⟩
   have hI1:Hid (InS 120 B (r,0) w1):=hIH.out.below hB1
   have d0:=hI1.out.c0
   have e0:=hI1.out.f0
   simp only at d0
   clear c0
   go_wp2_with (fail)
   go_ret
   rw [hext.out]
   exact ⟨by first | (rw [hres.out]; done) | (rw [hres.out]; rfl),by rw [hres.out]; exact hI1.out.set0,(Onl.of B hB1).setCell rfl _⟩
  ·have hfe:((f:Int) !=0)=true:=by rw [ne0_nat]; simp [hf]
   rw [if_neg hf] at hres
   clear hf hkle
   go_enter Tryz.func58,Tryz.ntmps58
   go_wp2_with (fail)
   go_at_call 85
   refine hrd.out.mono ?_
   rintro e w' ⟨rfl,rfl⟩
   have c0:=hIH.out.c0
   simp only at c0
   go_wp2_with (fail)
   go_at_call 66
   refine (hget.out _).mono ?_
   rintro e w1 ⟨rfl,hB1⟩
   have hI1:Hid (InS 120 B (r,0) w1):=hIH.out.below hB1
   clear c0
   go_wp2_with (fail)
   go_at_call 86
   refine (ifail_any B (r,0) f w1 hI1.out).mono ?_
   rintro e w2 ⟨rfl,hI2,hB2⟩
   go_wp2_with (fail)
   go_ret
   exact ⟨by first | (rw [hres.out]; done) | (rw [hres.out]; rfl),by rw [hres.out]; exact hI2,(Onl.of B hB1).trans hB2⟩
 ·have hrd:Hid (Calls Tryz.prog 85 #[.pointer (some ⟨B,0,none⟩)] w fun e w'=>e= .returned (.bool false)∧w'=w):=by
   have:=iready_any B (r,e) w hIH.out
   unfold Hid
   simpa [h0] using this
  have hres:Hid (intS (r,e)=(0,(r,e))):=by unfold Hid intS; rw [if_neg h0]
  clear h0 hr
  go_enter Tryz.func58,Tryz.ntmps58
  go_wp2_with (fail)
  go_at_call 85
  refine hrd.out.mono ?_
  rintro e' w' ⟨rfl,rfl⟩
  go_wp2_with (fail)
  go_ret
  exact ⟨by first | (rw [hres.out]; done) | (rw [hres.out]; rfl),by rw [hres.out]; exact hIH.out,Onl.refl B _⟩
set_option maxRecDepth 100000 in
set_option maxHeartbeats 3200000 in
theorem isize_any (B most:Nat) (hm:most≤65536) (st:Inp) (hr:st.1.length≤1000000) (w:World) (hI:InS 120 B st w) :
  Calls Tryz.prog 108 #[.pointer (some ⟨B,0,none⟩),.int .i64 (most:Nat)] w fun e w'=>e= .returned (.int .i64 ((sizeS most st).1:Nat))∧InS 120 B (sizeS most st).2 w'∧Onl B w w':=by
 have hint:Hid (Calls Tryz.prog 58 #[.pointer (some ⟨B,0,none⟩)] w fun e w'=>e= .returned (.int .i64 (intS st).1)∧InS 120 B (intS st).2 w'∧Onl B w w'):=iint_any B st hr w hI
 have hres:Hid (sizeS most st=sizedS most (intS st).1 (intS st).2):=rfl
 clear hI hr
 generalize intS st=g at*
 obtain ⟨n,s1⟩:=g
 simp only at hint hres
 by_cases hn:n < 0
 ·have h2:Hid (sizeS most st=(0,failS s1 2)):=by unfold Hid; rw [hres.out]; unfold sizedS; rw [if_pos hn]
  have hf2:Hid ((failS s1 2).2≠0):=by unfold Hid failS; split <;> simp_all
  clear hres hm
  go_enter Tryz.func108,Tryz.ntmps108
  go_wp2_with (fail)
  go_at_call 58
  refine hint.out.mono ?_
  rintro e w1 ⟨rfl,hI1,hB1⟩
  have hI1H:Hid (InS 120 B s1 w1):=hI1
  clear hI1
  go_wp2_with (fail)
  go_at_call 86
  refine (ifail_any B s1 2 w1 hI1H.out).mono ?_
  rintro e w2 ⟨rfl,hI2,hB2⟩
  have hI2H:Hid (InS 120 B (failS s1 2) w2):=hI2
  clear hI2
  go_wp2_with (fail)
  go_at_call 85
  have hrd:=iready_any B (failS s1 2) w2 hI2H.out
  rw [decide_eq_false hf2.out] at hrd
  refine hrd.mono ?_
  rintro e w3 ⟨rfl,rfl⟩
  go_wp2_with (fail)
  go_ret
  exact ⟨by first | (rw [h2.out]; done) | (rw [h2.out]; rfl),by rw [h2.out]; exact hI2H.out,hB1.trans hB2⟩
 ·by_cases hbig:(most:Int) < n∨65536 < n
  ·have h2:Hid (sizeS most st=(0,failS s1 6)):=by unfold Hid; rw [hres.out]; unfold sizedS; rw [if_neg hn,if_pos hbig]
   have hf2:Hid ((failS s1 6).2≠0):=by unfold Hid failS; split <;> simp_all
   have hb1:(most:Int) < n:=by omega
   clear hres hm hbig
   go_enter Tryz.func108,Tryz.ntmps108
   go_wp2_with (fail)
   go_at_call 58
   refine hint.out.mono ?_
   rintro e w1 ⟨rfl,hI1,hB1⟩
   have hI1H:Hid (InS 120 B s1 w1):=hI1
   clear hI1
   go_wp2_with (fail)
   go_at_call 86
   refine (ifail_any B s1 6 w1 hI1H.out).mono ?_
   rintro e w2 ⟨rfl,hI2,hB2⟩
   have hI2H:Hid (InS 120 B (failS s1 6) w2):=hI2
   clear hI2
   go_wp2_with (fail)
   go_at_call 85
   have hrd:=iready_any B (failS s1 6) w2 hI2H.out
   rw [decide_eq_false hf2.out] at hrd
   refine hrd.mono ?_
   rintro e w3 ⟨rfl,rfl⟩
   go_wp2_with (fail)
   go_ret
   exact ⟨by first | (rw [h2.out]; done) | (rw [h2.out]; rfl),by rw [h2.out]; exact hI2H.out,hB1.trans hB2⟩
  ·have hb1:¬ ((most:Int) < n):=fun h=>hbig (.inl h)
   have hb2:¬ (65536 < n):=fun h=>hbig (.inr h)
   obtain ⟨m,rfl⟩:∃ m:Nat,n=(m:Int):=⟨n.toNat,by omega⟩
   have h2:Hid (sizeS most st=if s1.2=0 then (m,s1) else (0,s1)):=by unfold Hid; rw [hres.out]; unfold sizedS; rw [if_neg hn,if_neg hbig]; simp
   clear hres hm hbig
   by_cases h0:s1.2=0
   ·rw [if_pos h0] at h2
    have hz:Hid (decide (s1.2=0)=true):=decide_eq_true h0
    clear h0
    go_enter Tryz.func108,Tryz.ntmps108
    go_wp2_with (fail)
    go_at_call 58
    refine hint.out.mono ?_
    rintro e w1 ⟨rfl,hI1,hB1⟩
    have hI1H:Hid (InS 120 B s1 w1):=hI1
    clear hI1
    go_wp2_with (fail)
    go_at_call 85
    have hrd:=iready_any B s1 w1 hI1H.out
    rw [hz.out] at hrd
    refine hrd.mono ?_
    rintro e w3 ⟨rfl,rfl⟩
    go_wp2_with (fail)
    go_ret
    exact ⟨by first | (rw [h2.out]; done) | (rw [h2.out]; rfl),by rw [h2.out]; exact hI1H.out,hB1⟩
   ·rw [if_neg h0] at h2
    have hz:Hid (decide (s1.2=0)=false):=decide_eq_false h0
    clear h0
    go_enter Tryz.func108,Tryz.ntmps108
    go_wp2_with (fail)
    go_at_call 58
    refine hint.out.mono ?_
    rintro e w1 ⟨rfl,hI1,hB1⟩
    have hI1H:Hid (InS 120 B s1 w1):=hI1
    clear hI1
    go_wp2_with (fail)
    go_at_call 85
    have hrd:=iready_any B s1 w1 hI1H.out
    rw [hz.out] at hrd
    refine hrd.mono ?_
    rintro e w3 ⟨rfl,rfl⟩
    go_wp2_with (fail)
    go_ret
    exact ⟨by first | (rw [h2.out]; done) | (rw [h2.out]; rfl),by rw [h2.out]; exact hI1H.out,hB1⟩
set_option maxRecDepth 100000 in
set_option maxHeartbeats 3200000 in
theorem itext_any (B:Nat) (st:Inp) (hr:st.1.length≤1000000) (w:World) (hI:InS 120 B st w) :
  Calls Tryz.prog 88 #[.pointer (some ⟨B,0,none⟩)] w fun e w'=>e= .returned (.string (bs (textS st).1))∧InS 120 B (textS st).2 w'∧Onl B w w':=by
 have hsize:Hid (Calls Tryz.prog 108 #[.pointer (some ⟨B,0,none⟩),.int .i64 65536] w fun e w'=>e= .returned (.int .i64 ((sizeS 65536 st).1:Nat))∧InS 120 B (sizeS 65536 st).2 w'∧Onl B w w'):=isize_any B 65536 (Nat.le_refl _) st hr w hI
 have hIH:Hid (InS 120 B st w):=hI
 clear hI hr
 by_cases h0:st.2=0
 ·have hrd:Hid (Calls Tryz.prog 85 #[.pointer (some ⟨B,0,none⟩)] w fun e w'=>e= .returned (.bool true)∧w'=w):=by
   have:=iready_any B st w hIH.out
   rwa [decide_eq_true h0] at this
  have hres:Hid (textS st=if (sizeS 65536 st).2.2=0 then (if (sizeS 65536 st).2.1.length < (sizeS 65536 st).1 then ([],((sizeS 65536 st).2.1,3)) else ((sizeS 65536 st).2.1.take (sizeS 65536 st).1,((sizeS 65536 st).2.1.drop (sizeS 65536 st).1,0))) else ([],(sizeS 65536 st).2)):=rfl
  clear h0
  generalize sizeS 65536 st=g at*
  obtain ⟨m,r1,e1⟩:=g
  simp only at hsize hres
  by_cases h1:e1=0
  ·subst h1
   rw [if_pos rfl] at hres
   have hsz:(bs r1).size=r1.length:=bs_size r1
   by_cases h2:r1.length < m
   ·rw [if_pos h2] at hres
    have hlt:(r1.length:Int) < (m:Int):=by omega
    clear h2
    go_enter Tryz.func88,Tryz.ntmps88
    go_wp2_with (fail)
    go_at_call 85
    refine hrd.out.mono ?_
    rintro e w' ⟨rfl,rfl⟩
    go_wp2_with (fail)
    go_at_call 108
    refine hsize.out.mono ?_
    rintro e w1 ⟨rfl,hI1,hB1⟩
    have hI1H:Hid (InS 120 B (r1,0) w1):=hI1
    clear hI1
    go_wp2_with (fail)
    go_at_call 85
    refine (iready_any B (r1,0) w1 hI1H.out).mono ?_
    rintro e w' ⟨rfl,rfl⟩
    have c0:=hI1H.out.c0
    simp only at c0
    go_wp2_with (fail)
    go_at_call 86
    refine (ifail_any B (r1,0) 3 _ hI1H.out).mono ?_
    rintro e w2 ⟨rfl,hI2,hB2⟩
    go_wp2_with (fail)
    go_ret
    exact ⟨by first | (rw [hres.out]; done) | (rw [hres.out]; rfl),by rw [hres.out]; exact hI2,hB1.trans hB2⟩
   ·rw [if_neg h2] at hres
    have hlt:¬ ((r1.length:Int) < (m:Int)):=by omega
    have hm:m≤r1.length:=by omega
    have hx0:Hid ((bs r1).extract 0 m=bs (r1.take m)):=bs_take r1 m
    have hx1:Hid ((bs r1).extract m r1.length=bs (r1.drop m)):=bs_drop r1 m
    clear h2
    go_enter Tryz.func88,Tryz.ntmps88
    go_wp2_with (fail)
    go_at_call 85
    refine hrd.out.mono ?_
    rintro e w' ⟨rfl,rfl⟩
    go_wp2_with (fail)
    go_at_call 108
    refine hsize.out.mono ?_
    rintro e w1 ⟨rfl,hI1,hB1⟩
    have hI1H:Hid (InS 120 B (r1,0) w1):=hI1
    clear hI1
    go_wp2_with (fail)
    go_at_call 85
    refine (iready_any B (r1,0) w1 hI1H.out).mono ?_
    rintro e w' ⟨rfl,rfl⟩
    have c0:=hI1H.out.c0
    have f0:=hI1H.out.f0
    simp only at c0
    go_wp2_with (fail)
    go_ret
    rw [hx0.out,hx1.out]
    exact ⟨by first | (rw [hres.out]; done) | (rw [hres.out]; rfl),by rw [hres.out]; exact hI1H.out.set0,hB1.setCell rfl _⟩
  ·rw [if_neg h1] at hres
   have hz:Hid (decide (e1=0)=false):=decide_eq_false h1
   clear h1
   go_enter Tryz.func88,Tryz.ntmps88
   go_wp2_with (fail)
   go_at_call 85
   refine hrd.out.mono ?_
   rintro e w' ⟨rfl,rfl⟩
   go_wp2_with (fail)
   go_at_call 108
   refine hsize.out.mono ?_
   rintro e w1 ⟨rfl,hI1,hB1⟩
   have hI1H:Hid (InS 120 B (r1,e1) w1):=hI1
   clear hI1
   go_wp2_with (fail)
   go_at_call 85
   have hrd1:=iready_any B (r1,e1) w1 hI1H.out
   rw [hz.out] at hrd1
   refine hrd1.mono ?_
   rintro e w' ⟨rfl,rfl⟩
   go_wp2_with (fail)
   go_ret
   exact ⟨by first | (rw [hres.out]; done) | (rw [hres.out]; rfl),by rw [hres.out]; exact hI1H.out,hB1⟩
 ·have hrd:Hid (Calls Tryz.prog 85 #[.pointer (some ⟨B,0,none⟩)] w fun e w'=>e= .returned (.bool false)∧w'=w):=by
   have:=iready_any B st w hIH.out
   rwa [decide_eq_false h0] at this
  have hres:Hid (textS st=([],st)):=by
   have h1:intS st=(0,st):=by unfold intS; rw [if_neg h0]
   have h2:sizeS 65536 st=(0,st):=by unfold sizeS sizedS; rw [h1]; simp [h0]
   unfold Hid textS
   rw [h2,if_neg h0]
  clear h0 hsize
  go_enter Tryz.func88,Tryz.ntmps88
  go_wp2_with (fail)
  go_at_call 85
  refine hrd.out.mono ?_
  rintro e w' ⟨rfl,rfl⟩
  go_wp2_with (fail)
  go_at_call 85
  refine hrd.out.mono ?_
  rintro e w' ⟨rfl,rfl⟩
  go_wp2_with (fail)
  go_ret
  exact ⟨by first | (rw [hres.out]; done) | (rw [hres.out]; rfl),by rw [hres.out]; exact hIH.out,Onl.refl B _⟩
set_option maxRecDepth 100000 in
set_option maxHeartbeats 3200000 in
theorem ibool_any (B:Nat) (st:Inp) (w:World) (hI:InS 120 B st w) :
  Calls Tryz.prog 90 #[.pointer (some ⟨B,0,none⟩)] w fun e w'=>e= .returned (.bool (boolS st).1)∧InS 120 B (boolS st).2 w'∧Onl B w w':=by
 have hIH:Hid (InS 120 B st w):=hI
 have c0:=hI.c0
 have f0:=hI.f0
 have hrd:=iready_any B st w hI
 clear hI
 obtain ⟨r,e⟩:=st
 simp only at c0 hrd
 by_cases h0:e=0
 ·subst h0
  have hrdH:Hid (Calls Tryz.prog 85 #[.pointer (some ⟨B,0,none⟩)] w fun e w'=>e= .returned (.bool true)∧w'=w):=hrd
  clear hrd
  cases r with
  | nil=>
   have hres:Hid (boolS (([]:Str),0)=(false,([],3))):=rfl
   have hne:(bs []).toList.isEmpty=true:=by rw [bs_empty]; rfl
   go_enter Tryz.func90,Tryz.ntmps90
   go_wp2_with (fail)
   go_at_call 85
   refine hrdH.out.mono ?_
   rintro e w' ⟨rfl,rfl⟩
   go_wp2_with (fail)
   go_at_call 86
   refine (ifail_any B ([],0) 3 _ hIH.out).mono ?_
   rintro e w2 ⟨rfl,hI2,hO2⟩
   go_wp2_with (fail)
   go_ret
   exact ⟨by first | (rw [hres.out]; done) | (rw [hres.out]; rfl),by rw [hres.out]; exact hI2,hO2⟩
  | cons c t=>
   have hne:(bs (c::t)).toList.isEmpty=false:=by rw [bs_empty]; rfl
   have hsz:(bs (c::t)).size=t.length+1:=rfl
   have h00:0 < (bs (c::t)).size:=by omega
   have hz0:(bs (c::t))[0]=c:=rfl
   have hx1:Hid ((bs (c::t)).extract 1 (t.length+1)=bs t):=bs_drop (c::t) 1
   by_cases h1:1 < c.toNat
   ·have hres:Hid (boolS (c::t,0)=(false,(c::t,2))):=by unfold Hid boolS; simp [h1]
    have h1i:(1:Int) < (c.toNat:Int):=by omega
    clear h1
    go_enter Tryz.func90,Tryz.ntmps90
    go_wp2_with (fail)
    go_at_call 85
    refine hrdH.out.mono ?_
    rintro e w' ⟨rfl,rfl⟩
    go_wp2_with (fail)
    go_at_call 86
    refine (ifail_any B (c::t,0) 2 _ hIH.out).mono ?_
    rintro e w2 ⟨rfl,hI2,hO2⟩
    go_wp2_with (fail)
    go_ret
    exact ⟨by first | (rw [hres.out]; done) | (rw [hres.out]; rfl),by rw [hres.out]; exact hI2,hO2⟩
   ·have hres:Hid (boolS (c::t,0)=(decide ((c.toNat:Int)=1),(t,0))):=by
     unfold Hid boolS
     simp only [if_true]
     rw [if_neg h1]
     congr 1
     rw [decide_eq_decide]; omega
    have h1i:¬ ((1:Int) < (c.toNat:Int)):=by omega
    clear h1
    go_enter Tryz.func90,Tryz.ntmps90
    go_wp2_with (fail)
    go_at_call 85
    refine hrdH.out.mono ?_
    rintro e w' ⟨rfl,rfl⟩
    go_wp2_with (fail)
    go_ret
    rw [hx1.out]
    exact ⟨by first | (rw [hres.out]; done) | (rw [hres.out]; rfl),by rw [hres.out]; exact hIH.out.set0,(Onl.refl B _).setCell rfl _⟩
 ·have hrdH:Hid (Calls Tryz.prog 85 #[.pointer (some ⟨B,0,none⟩)] w fun e w'=>e= .returned (.bool false)∧w'=w):=by
   rwa [decide_eq_false h0] at hrd
  have hres:Hid (boolS (r,e)=(false,(r,e))):=by unfold Hid boolS; simp [h0]
  clear h0 hrd
  go_enter Tryz.func90,Tryz.ntmps90
  go_wp2_with (fail)
  go_at_call 85
  refine hrdH.out.mono ?_
  rintro e' w' ⟨rfl,rfl⟩
  go_wp2_with (fail)
  go_ret
  exact ⟨by first | (rw [hres.out]; done) | (rw [hres.out]; rfl),by rw [hres.out]; exact hIH.out,Onl.refl B _⟩
def endE (st:Inp):Nat:=if st.2≠0 then st.2 else if st.1≠[] then 4 else 0
set_option maxRecDepth 100000 in
set_option maxHeartbeats 1600000 in
theorem iend_any (B:Nat) (st:Inp) (w:World) (hI:InS 120 B st w) :
  Calls Tryz.prog 31 #[.pointer (some ⟨B,0,none⟩)] w fun e w'=>e= .returned (.int .i64 (endE st:Nat))∧w'=w:=by
 have herr:Hid (Calls Tryz.prog 30 #[.pointer (some ⟨B,0,none⟩)] w fun e w'=>e= .returned (.int .i64 (st.2:Nat))∧w'=w):=ierr_any B st w hI
 have c0:=hI.c0
 clear hI
 obtain ⟨r,e⟩:=st
 simp only at c0 herr
 by_cases h0:e=0
 ·subst h0
  cases r with
  | nil=>
   have hif:Hid (endE (([]:Str),0)=0):=rfl
   have hne:(bs []).toList.isEmpty=true:=by rw [bs_empty]; rfl
   generalize endE (([]:Str),0)=q at*
   go_enter Tryz.func31,Tryz.ntmps31
   go_wp2_with (fail)
   go_at_call 30
   refine herr.out.mono ?_
   rintro e w' ⟨rfl,rfl⟩
   go_wp2_with (fail)
   go_ret
   exact ⟨by rw [hif.out]; rfl,rfl⟩
  | cons c t=>
   have hif:Hid (endE ((c::t:Str),0)=4):=rfl
   have hne:(bs (c::t)).toList.isEmpty=false:=by rw [bs_empty]; rfl
   generalize endE ((c::t:Str),0)=q at*
   go_enter Tryz.func31,Tryz.ntmps31
   go_wp2_with (fail)
   go_at_call 30
   refine herr.out.mono ?_
   rintro e w' ⟨rfl,rfl⟩
   go_wp2_with (fail)
   go_ret
   exact ⟨by rw [hif.out]; rfl,rfl⟩
 ·have he2:((e:Int) !=0)=true:=by rw [ne0_nat]; simp [h0]
  have hif:Hid (endE (r,e)=e):=if_pos h0
  generalize endE (r,e)=q at*
  clear h0
  go_enter Tryz.func31,Tryz.ntmps31
  go_wp2_with (fail)
  go_at_call 30
  refine herr.out.mono ?_
  rintro e' w' ⟨rfl,rfl⟩
  go_wp2_with (fail)
  go_ret
  exact ⟨by rw [hif.out]; rfl,rfl⟩
end Go.Proofs.YtniamhbcmcgonaaGreatDoor
namespace Go.Proofs.YtniamhbcmcgonaaGreatDoor
open Go.Shelf
def Tryz.lays125_ren:Go.Shelf.Ren:=⟨fun | 125=>92 | 128=>109 | 129=>110 | n=>n,fun | 46=>147 | 3=>3 | 51=>148 | 53=>175 | 4=>4 | 5=>5 | 9=>9 | n=>n,fun | n=>n⟩
theorem Tryz.lays125:Go.Proofs.Lays.n125 Tryz.prog Tryz.lays125_ren:={
 mixed:=by kernel_rfl
 f125:=Tryz.func92.trans (congrArg some (by kernel_rfl))
 f128:=Tryz.func109.trans (congrArg some (by kernel_rfl))
 f129:=Tryz.func110.trans (congrArg some (by kernel_rfl))
 t3:=Tryz.underlying3
 a3:=Tryz.isAgg3
 z3:=Tryz.sizeOf3
 v3:=Tryz.zeroValue3
 t4:=Tryz.underlying4
 a4:=Tryz.isAgg4
 z4:=Tryz.sizeOf4
 v4:=Tryz.zeroValue4
 t5:=Tryz.underlying5
 a5:=Tryz.isAgg5
 z5:=Tryz.sizeOf5
 v5:=Tryz.zeroValue5
 t9:=Tryz.underlying9
 a9:=Tryz.isAgg9
 z9:=Tryz.sizeOf9
 v9:=Tryz.zeroValue9
 t46:=Tryz.underlying147
 a46:=Tryz.isAgg147
 z46:=Tryz.sizeOf147
 v46:=Tryz.zeroValue147
 t51:=Tryz.underlying148
 a51:=Tryz.isAgg148
 z51:=Tryz.sizeOf148
 v51:=Tryz.zeroValue148
 t53:=Tryz.underlying175
 a53:=Tryz.isAgg175
 z53:=Tryz.sizeOf175
 v53:=Tryz.zeroValue175 }
theorem Tryz.bits_Len (x:Int) (w:World) (h0:0≤x) (h1:x≤18446744073709551615) :
  Calls Tryz.prog 92 #[.int .u64 x] w fun e w'=>e= .returned (.int .i64 (Lib.bitLen x.toNat))∧w'=w:=Any.bits_Len Tryz.lays125 x w h0 h1
def Tryz.laysNm215_ren:Go.Shelf.Ren:=⟨fun | 15=>21 | n=>n,fun | 22=>32 | 3=>3 | 4=>4 | n=>n,fun | n=>n⟩
theorem Tryz.laysNm215:Go.Proofs.Lays2.n15 Tryz.prog Tryz.laysNm215_ren:={
 mixed:=by kernel_rfl
 f15:=Tryz.func21.trans (congrArg some (by kernel_rfl))
 t3:=Tryz.underlying3
 a3:=Tryz.isAgg3
 z3:=Tryz.sizeOf3
 v3:=Tryz.zeroValue3
 t4:=Tryz.underlying4
 a4:=Tryz.isAgg4
 z4:=Tryz.sizeOf4
 v4:=Tryz.zeroValue4
 t22:=Tryz.underlying32
 a22:=Tryz.isAgg32
 z22:=Tryz.sizeOf32
 v22:=Tryz.zeroValue32
 i3:=by kernel_rfl }
open Go.RowKit Go.Lib in
theorem Tryz.slices_Clone_int (b off n c:Nat) (zs:List Int) (w:World) (hz:n≤zs.length) (hbig:n*8≤140737488355328) (hc:∀ j,j < zs.length→w.cell? ⟨b,off+j,none⟩=some (.int .i64 (zs.getD j 0))) :
  Calls Tryz.prog 21 #[.slice (some ⟨b,off,none⟩) n c] w fun e w'=>∃ v',e= .returned v'∧w'.ownsRow w.heap.size 3 1 v' n ((zs.take n).map (Value.int .i64))∧v'≠ .slice none 0 0∧Below w.heap.size w w':=Any.slices_Clone_int Tryz.laysNm215 b off n c zs w hz hbig hc
open Go.RowKit Go.Lib in
theorem Tryz.slices_Clone_int_nil (n c:Nat) (w:World) :
  Calls Tryz.prog 21 #[.slice none n c] w fun e w'=>e= .returned (.slice none 0 0)∧w'=w:=Any.slices_Clone_int_nil Tryz.laysNm215 n c w
end Go.Proofs.YtniamhbcmcgonaaGreatDoor
namespace Go.Proofs.YtniamhbcmcgonaaGreatDoor
open Go.RowKit
inductive Hid (p:Prop):Prop where | mk (h:p):Hid p
theorem Hid.out {p:Prop}:Hid p→p | .mk h=>h
theorem outInfo:(Tryz.prog.info? 5).map (fun i=>(i.zero,i.size,i.bytes))=some (some (.int .u8 0),1,1):=by kernel_rfl
def byteVals (l:Str):List Value:=l.map fun b=> .int .u8 b.toNat
theorem byteVals_len (l:Str):(byteVals l).length=l.length:=by unfold byteVals; simp
theorem byteVals_app (a b:Str):byteVals (a++b)=byteVals a++byteVals b:=by unfold byteVals; simp
theorem bl0:Lib.bitLen 0=0:=by decide
theorem bl_digs:∀ n:Nat,n < 2 ^ 64→(Lib.bitLen n+7) / 8=(digs n).length:=by
 intro n
 induction n using Nat.strongRecOn with
 | ind n ih=>
  intro hn
  by_cases h0:n=0
  ·subst h0; rw [bl0,digs_zero]; rfl
  ·rw [digs_pos h0,List.length_append]
   by_cases h1:n < 256
   ·have hb:=Lib.bitLen_le n 8 (by omega) (by omega)
    have hh:=Lib.bitLen_half n h0 hn
    rw [show n / 256=0 by omega,digs_zero]
    simp; omega
   ·have:=ih (n / 256) (by omega) (by omega)
    rw [Lib.bitLen_shift8 n (by omega) (by omega),← this]
    simp; omega
theorem digs_at:∀ (n j:Nat),j < (digs n).length→(digs n)[j]?=some (UInt8.ofNat (n / 256 ^ ((digs n).length - 1 - j))):=by
 intro n
 induction n using Nat.strongRecOn with
 | ind n ih=>
  intro j hj
  by_cases h0:n=0
  ·subst h0; rw [digs_zero] at hj; cases hj
  ·rw [digs_pos h0] at hj ⊢
   simp only [List.length_append,List.length_cons,List.length_nil] at hj ⊢
   by_cases h1:j < (digs (n / 256)).length
   ·rw [List.getElem?_append_left h1,ih (n / 256) (by omega) j h1]
    congr 2
    rw [Nat.div_div_eq_div_mul,← Nat.pow_succ']
    congr 2; omega
   ·have:j=(digs (n / 256)).length:=by omega
    subst this
    rw [List.getElem?_append_right (Nat.le_refl _)]
    have e:∀ m:Nat,UInt8.ofNat (m % 256)=UInt8.ofNat m:=fun m=>UInt8.toNat_inj.1 (by simp)
    simp [e]
structure Ob (N:Nat) (w0:World) (v:Value) (l:Str) (wr:World):Prop where
 own:wr.ownsRow N 5 1 v l.length (byteVals l)
 blw:Below N w0 wr
 ns:N≤wr.heap.size
theorem Ob.app {N:Nat} {w0 wr w1:World} {v v':Value} {l xs:Str} {o:Obj} (h:Ob N w0 v l wr)
  (hown:w1.ownsRow N 5 1 v' (l.length+xs.length) (byteVals l++byteVals xs)) (hg:(wr.alloc o).grownBy w1 v.ownBlock):Ob N w0 v' (l++xs) w1:=by
 refine ⟨by rw [List.length_append,byteVals_app]; exact hown,((h.blw.alloc h.ns o)).grown hg (by simp; have:=h.ns; omega) (fun j hj=>(h.own.lt j hj).1),?_⟩
 have:=World.grownBy.size hg
 simp at this
 have:=h.ns
 omega
theorem Ob.app0 {N:Nat} {w0 wr w1:World} {v v':Value} {l xs:Str} (h:Ob N w0 v l wr)
  (hown:w1.ownsRow N 5 1 v' (l.length+xs.length) (byteVals l++byteVals xs)) (hg:wr.grownBy w1 v.ownBlock):Ob N w0 v' (l++xs) w1:=by
 refine ⟨by rw [List.length_append,byteVals_app]; exact hown,h.blw.grown hg h.ns (fun j hj=>(h.own.lt j hj).1),?_⟩
 have:=World.grownBy.size hg
 have:=h.ns
 omega
theorem conv_any {N:Nat} {w0 w:World} {v:Value} {l:Str} (h:Ob N w0 v l w):(convert 66 9 v).run Tryz.prog w= .ok (.string (bs l)) w:=by
 have hown:=h.own
 rcases hown.2 with ⟨he,h0⟩ | ⟨g,cap,cur,he,_,hg,hn,hm,hs,ht⟩
 ·subst he
  have:l=[]:=List.eq_nil_of_length_eq_zero h0
  subst this
  simp only [convert,Sem.run_bind,run_underlying Tryz.underlying66,run_underlying Tryz.underlying9,run_underlying Tryz.underlying5,Result.andThen_ok]
  rfl
 ·subst he
  have:=run_convert_bytes_arg (P:=Tryz.prog) w 66 5 Tryz.underlying66 Tryz.underlying5 g 0 l.length cap (l.map fun b=>(b.toNat:Int)) (by simp) (fun i hi=>by
   have hc:=hown.cells (g:=g) rfl i (.int .u8 (l.getD i 0).toNat) (by unfold byteVals; rw [List.getElem?_map,List.getD,List.getElem?_eq_getElem (by omega)]; rfl)
   rw [Addr.add_lit] at hc
   rw [hc,List.getD,List.getD,List.getElem?_map,List.getElem?_eq_getElem (by omega)]
   rfl) 9 Tryz.underlying9
  rw [this]
  refine congrArg (fun s=>Result.ok (Value.string s) w) ?_
  unfold strOfNums bs
  rw [List.map_map]
  refine congrArg (fun l:List UInt8=>(⟨⟨l⟩⟩:ByteArray)) ?_
  have e:((fun n:Int=>UInt8.ofNat n.toNat) ∘ fun b:UInt8=>(b.toNat:Int))=id:=by
   funext b
   simp
  rw [e,List.map_id]
theorem or0 {k:Nat} (h:k≤7):bits .or .u8 0 (k:Int)=(k:Int):=by
 rcases (by omega:k=0∨k=1∨k=2∨k=3∨k=4∨k=5∨k=6∨k=7) with rfl | rfl | rfl | rfl | rfl | rfl | rfl | rfl <;> rfl
def pre (n j:Nat):Str:=UInt8.ofNat (digs n).length::(digs n).take j
theorem pre_len (n j:Nat) (h:j≤(digs n).length):(pre n j).length=1+j:=by unfold pre; simp; omega
theorem pre_all (n:Nat):pre n (digs n).length=putN n:=by unfold pre putN; rw [List.take_length]
theorem pre_succ (n j:Nat) (h:j < (digs n).length):pre n (j+1)=pre n j++[UInt8.ofNat (n / 256 ^ ((digs n).length - 1 - j))]:=by
 unfold pre
 rw [List.take_add_one,digs_at n j h]; rfl
theorem wu8 (n:Nat):IntKind.u8.wrap (n:Int)=((UInt8.ofNat n).toNat:Int):=by
 simp [IntKind.wrap,IntKind.signed,IntKind.bits]
set_option maxRecDepth 100000 in
set_option maxHeartbeats 1600000 in
theorem oput_any (n:Nat) (hn:n≤9007199254740992) (w:World):Calls Tryz.prog 64 #[.int .i64 (n:Nat)] w fun e w'=>e= .returned (.string (bs (putN n)))∧Below w.heap.size w w':=by
 obtain ⟨i0,hi,hz0,hz1,hz2⟩:=info_parts outInfo
 have hk7:=digs_len7 hn
 obtain ⟨k,hk⟩:∃ k,(digs n).length=k:=⟨_,rfl⟩
 have hbl:=bl_digs n (by omega)
 have m0:=fun w=>(Tryz.bits_Len (n:Int) w (by omega) (by omega)).mono fun _ _ h=>(⟨h.1,h.2.symm⟩:_∧w=_)
 rw [Int.toNat_natCast] at m0
 have hb64:=Lib.bitLen_le n 54 (by omega) (by omega)
 obtain ⟨b,hb⟩:∃ b,Lib.bitLen n=b:=⟨_,rfl⟩
 rw [hb] at hbl m0 hb64
 rw [hk] at hbl hk7
 have hkb:((b:Int)+7) / 8=(k:Int):=by omega
 have hbi:(b:Int)≤54:=by omega
 have hki:(k:Int)≤7:=by omega
 have hni:(n:Int)≤9007199254740992:=by omega
 have hlt1:((n:Int) < -9007199254740992)=False:=eq_false (by omega)
 have hlt2:((9007199254740992:Int) < (n:Int))=False:=eq_false (by omega)
 have hlt3:((n:Int) < 0)=False:=eq_false (by omega)
 have m0H:=Hid.mk m0
 have hkH:=Hid.mk hk
 clear m0 hbl hb hk
 go_enter Tryz.func64,Tryz.ntmps64
 go_wp2_with (first | (go_at_call 92; refine (m0H.out _).mono ?_; rintro e w' ⟨rfl,rfl⟩) | (refine wpList_make_own _ rfl _ _ _ rfl w.heap.size 5 i0 (.int .u8 0) 1 Tryz.underlying66 hi hz0 hz1 .i64 .i64 ((k:Int)+1) (k+1) rfl rfl ?c0 ?c1 ?c2 (Nat.le_refl _) ?_))
 case c0=>push_cast; rfl
 case c1=>rw [hz2]; omega
 case c2=>unfold maxLen; omega
 intro w1 hown hg
 have hE:Ob w.heap.size w (.slice (some ⟨w.heap.size,0,none⟩) 0 (k+1)) [] w1:=⟨hown,(Below.refl _ w).grown hg (Nat.le_refl _) (fun j hj=>(by cases hj)),World.grownBy.size hg⟩
 have hE:=Hid.mk hE
 have hor:=or0 hk7
 have hw8:IntKind.u8.wrap (k:Int)=(k:Int):=by simp [IntKind.wrap,IntKind.signed,IntKind.bits]; omega
 clear hown hg
 go_wp2_with (at_builtin; refine wpList_append_own _ rfl _ _ 66 rfl w.heap.size 5 i0 (.int .u8 0) 1 1 Tryz.underlying66 hi hz0 hz1 hz2 rfl (by decide) _ _ _ rfl (hE.out.own.alloc _) ⟨w1.heap.size,0,none⟩ 1 1 [.int .u8 (k:Nat)] rfl rfl ?c1 ?c2 ?c3 ?c4 ?c5 ?_)
 case c1=>
  intro j u hj
  match j,hj with
   | 0,hj=>simp at hj; subst hj; simp [Addr.add]
 case c2=>intro u hu; simp at hu; subst hu; rfl
 case c3=>simp [maxLen]
 case c4=>simp
 case c5=>have:=hE.out.ns; simp; omega
 intro v' w2 hown' hgrow _
 have hE1:Hid (Ob w.heap.size w v' (pre n 0) w2):= .mk (by
  have h0:=hE.out.app (xs:=[UInt8.ofNat k]) (by
   have e:byteVals [UInt8.ofNat k]=[.int .u8 (k:Nat)]:=by
    unfold byteVals
    simp
    omega
   rw [e]; exact hown') hgrow
  have e:pre n 0=[]++[UInt8.ofNat k]:=by unfold pre; rw [hkH.out]; rfl
  rw [e]; exact h0)
 clear hown' hgrow hE hor hw8
 go_wp2_with (fail)
 go_loopw [5,6] (fun x y wr=>∃ j:Nat,j≤k∧y= .int .i64 ((k:Int) - 1 - (j:Nat))∧Ob w.heap.size w x (pre n j) wr) (fun _ y _=>(intOf y+1).toNat)
 case atStart=>exact ⟨0,by omega,congrArg _ (by omega),hE1.out⟩
 case round=>
  clear hE1
  obtain ⟨j,hj,rfl,hE⟩:=hrel
  have hQ:=Hid.mk hE
  by_cases hlt:j < k
  ·have hge:(0≤(k:Int) - 1 - (j:Int))=True:=eq_true (by omega)
   obtain ⟨q,hq⟩:∃ q:Nat,(k:Int) - 1 - (j:Int)=(q:Int):=⟨k - 1 - j,by omega⟩
   rw [hq] at hge ⊢
   have hq7:(q:Int)≤6:=by omega
   go_wp2_with (at_builtin; refine wpList_append_own _ rfl _ _ 66 rfl w.heap.size 5 i0 (.int .u8 0) 1 1 Tryz.underlying66 hi hz0 hz1 hz2 rfl (by decide) _ _ _ rfl (hQ.out.own.alloc _) ⟨wr.heap.size,0,none⟩ 1 1 [.int .u8 ((n:Int) / 2 ^ (8*q) % 256)] rfl rfl ?c1 ?c2 ?c3 ?c4 ?c5 ?_)
   case c1=>
    intro j u hj
    match j,hj with
     | 0,hj=>simp at hj; subst hj; simp [Addr.add]
   case c2=>intro u hu; simp at hu; subst hu; rfl
   case c3=>rw [pre_len n j (by rw [hkH.out]; exact hj)]; unfold maxLen; omega
   case c4=>rw [pre_len n j (by rw [hkH.out]; exact hj)]; omega
   case c5=>have:=hQ.out.ns; simp; omega
   intro v2 w3 hown' hgrow _
   have hE3:Hid (Ob w.heap.size w v2 (pre n (j+1)) w3):= .mk (by
    rw [pre_succ n j (by rw [hkH.out]; exact hlt),hkH.out]
    refine hQ.out.app (xs:=[UInt8.ofNat (n / 256 ^ (k - 1 - j))]) ?_ hgrow
    have hqj:q=k - 1 - j:=by omega
    have e:byteVals [UInt8.ofNat (n / 256 ^ (k - 1 - j))]=[.int .u8 ((n:Int) / 2 ^ (8*q) % 256)]:=by
     unfold byteVals
     rw [← hqj,show (256:Nat)=2 ^ 8 by rfl,← Nat.pow_mul]
     simp
    rw [e]; exact hown')
   clear hown' hgrow
   go_wp2_with (fail)
   exact ⟨⟨j+1,by omega,congrArg _ (by omega),hE3.out⟩,by simp [intOf]⟩
  ·obtain rfl:j=k:=by omega
   have hge:(0≤(j:Int) - 1 - (j:Int))=False:=eq_false (by omega)
   have hcv:(convert 66 9 u5).run Tryz.prog wr= .ok (.string (bs (putN n))) wr:=by
    have e:=pre_all n
    rw [hkH.out] at e
    rw [← e]
    exact conv_any hQ.out
   go_wp2_with (fail)
   go_ret
   exact ⟨rfl,hQ.out.blw⟩
end Go.Proofs.YtniamhbcmcgonaaGreatDoor
namespace Go.Proofs.YtniamhbcmcgonaaGreatDoor
open Go.RowKit
structure Kp (F N:Nat) (w w':World):Prop where
 os:w'.os=w.os
 tape:w'.tape=w.tape
 output:w'.output=w.output
 size:w.heap.size≤w'.heap.size
 block:∀ i,i < N→i≠F→w'.heap[i]?=w.heap[i]?
section
variable {F N:Nat} {w w1 w2:World}
theorem Kp.refl (F N:Nat) (w:World):Kp F N w w:=⟨rfl,rfl,rfl,Nat.le_refl _,fun _ _ _=>rfl⟩
theorem Kp.trans (h:Kp F N w w1) (k:Kp F N w1 w2):Kp F N w w2:=
 ⟨k.os.trans h.os,k.tape.trans h.tape,k.output.trans h.output,Nat.le_trans h.size k.size,fun i hi hn=>(k.block i hi hn).trans (h.block i hi hn)⟩
theorem Kp.of (h:Below N w w1):Kp F N w w1:=⟨h.os,h.tape,h.output,h.size,fun i hi _=>h.block i hi⟩
theorem Kp.mono {N':Nat} (h:Kp F N w w1) (hN:N'≤N):Kp F N' w w1:=⟨h.os,h.tape,h.output,h.size,fun i hi=>h.block i (by omega)⟩
theorem Kp.setCell (h:Kp F N w w1) (p:Addr) (hp:F=p.block) (u:Value):Kp F N w (w1.setCell p u):=
 ⟨h.os,h.tape,h.output,by simpa [World.setCell] using h.size,fun i hi hn=>by rw [Below.heap_setCell _ _ _ _ (fun e=>hn (by rw [hp]; first | exact e | exact e.symm))]; exact h.block i hi hn⟩
theorem Kp.grown {row:Option Nat} (h:Kp F N w w1) (hg:w1.grownBy w2 row) (hs:N≤w1.heap.size) (hr:∀ k,row=some k→N≤k):Kp F N w w2:=
 ⟨(World.grownBy.os hg).trans h.os,(World.grownBy.tape hg).trans h.tape,(World.grownBy.output hg).trans h.output,Nat.le_trans h.size (World.grownBy.size hg),
  fun i hi hn=>(World.grownBy.block hg i (by omega) (fun e=>(by have:=hr i e.symm; omega))).trans (h.block i hi hn)⟩
end
theorem out_slice {w:World} {base:Nat} {e:TypeId} {size n:Nat} {v:Value} {xs:List Value} (h:w.ownsRow base e size v n xs):∃ a c,v= .slice a n c:=by
 rcases h.2 with ⟨rfl,rfl⟩ | ⟨g,cap,cur,rfl,_⟩
 ·exact ⟨_,_,rfl⟩
 ·exact ⟨_,_,rfl⟩
theorem out_same {w w':World} {base:Nat} {e:TypeId} {size n:Nat} {v:Value} {xs:List Value} (h:w.ownsRow base e size v n xs) (hk:∀ g,v.ownBlock=some g→w'.heap[g]?=w.heap[g]?):w'.ownsRow base e size v n xs:=by
 obtain ⟨h1,h2⟩:=h
 refine ⟨h1,?_⟩
 rcases h2 with h2 | ⟨g,cap,cur,rfl,hg',hh,k⟩
 ·exact .inl h2
 ·exact .inr ⟨g,cap,cur,rfl,hg',(hk g rfl).trans hh,k⟩
def WrAt (N F:Nat) (l:Str) (w:World):Prop:=
 F < N∧N≤w.heap.size∧∃ v:Value,w.heap[F]?=some (.cells #[v,.bool false,.pointer none,.bool false] 71 (0,0))∧w.ownsRow N 5 1 v l.length (byteVals l)
theorem WrAt.below {N F:Nat} {l:Str} {w w':World} (h:WrAt N F l w) (hb:Below w.heap.size w w'):WrAt N F l w':=by
 obtain ⟨h1,h0,v,h2,h3⟩:=h
 exact ⟨h1,Nat.le_trans h0 hb.size,v,(hb.block F (by omega)).trans h2,out_same h3 fun g hg=>hb.block g (h3.lt g hg).2⟩
set_option maxRecDepth 100000 in
set_option maxHeartbeats 1600000 in
theorem put_any (N B:Nat) (l s:Str) (w:World) (hO:WrAt N B l w) (hL:l.length+s.length≤4000000) :
  Calls Tryz.prog 84 #[.pointer (some ⟨B,0,none⟩),.string (bs s),.bool true] w fun e w'=>e= .returned (.tuple #[])∧WrAt N B (l++s) w'∧Kp B N w w':=by
 obtain ⟨hNB,hNw,v,hB,hown⟩:=hO
 obtain ⟨i0,hi,hz0,hz1,hz2⟩:=info_parts outInfo
 obtain ⟨av,cv,rfl⟩:=out_slice hown
 have hsep:∀ g,(Value.slice av l.length cv).ownBlock=some g→B≠g:=fun g hg=>by have:=(hown.lt g hg).1; omega
 have hbsz:(bs s).size=s.length:=bs_size s
 have c0:w.cell? ⟨B,0,none⟩=some (.slice av l.length cv):=by rw [cell_of_row _ _ _ _ _ _ hB]; rfl
 have c1:w.cell? ⟨B,1,none⟩=some (.bool false):=by rw [cell_of_row _ _ _ _ _ _ hB]; rfl
 go_enter Tryz.func84,Tryz.ntmps84
 go_wp2_with (first
  | (at_builtin; refine Lib.wpList_append_own_string _ rfl _ _ 66 9 rfl N 5 i0 Tryz.underlying66 Tryz.underlying9 hi hz0 hz1 hz2 _ _ _ rfl hown (bs s) rfl ?c3 ?c4 ?c5 ?_)
  | go_in)
 case c3=>unfold maxLen; rw [hbsz]; omega
 case c4=>rw [hbsz]; omega
 case c5=>exact hNw
 intro v' w1 hown' hgrow _
 have hB1:w1.heap[B]?=some (.cells #[.slice av l.length cv,.bool false,.pointer none,.bool false] 71 (0,0)):=(hgrow.block B (Array.getElem?_eq_some_iff.1 hB).1 (fun e=>hsep B e.symm rfl)).trans hB
 obtain ⟨av',cv',rfl⟩:=out_slice hown'
 have d0:w1.cell? ⟨B,0,none⟩=some (.slice av l.length cv):=by rw [cell_of_row _ _ _ _ _ _ hB1]; rfl
 have d1:w1.cell? ⟨B,1,none⟩=some (.bool false):=by rw [cell_of_row _ _ _ _ _ _ hB1]; rfl
 have f0:=frozen_of_row w1 B 0 _ _ hB1
 have f1:=frozen_of_row w1 B 1 _ _ hB1
 have hB2:Kp B N w w1:=(Kp.refl B N w).grown hgrow hNw (fun j hj=>(hown.lt j hj).1)
 have hN1:N≤w1.heap.size:=Nat.le_trans hNw (World.grownBy.size hgrow)
 have hsep':∀ g,(Value.slice av' (l.length+(bs s).size) cv').ownBlock=some g→B≠g:=fun g hg=>by have:=(hown'.lt g hg).1; omega
 clear hgrow hown hB hsep c0 c1
 go_wp2
 go_end0
 refine ⟨rfl,⟨hNB,by simpa [World.setCell] using hN1,.slice av' (l.length+(bs s).size) cv',?_,?_⟩,(hB2.setCell _ rfl _).setCell _ rfl _⟩
 ·rw [heap_setCell_same _ B 1 _ _ _ (heap_setCell_same w1 B 0 _ _ _ hB1)]
  rfl
 ·have e:byteVals (l++s)=byteVals l++Lib.strCells (bs s):=by unfold byteVals; rw [List.map_append]; rfl
  rw [e,List.length_append]
  refine out_same hown' fun g hg=> ?_
  have hne:=hsep' g hg
  rw [Below.heap_setCell _ _ _ _ (fun h=>hne h.symm),Below.heap_setCell _ _ _ _ (fun h=>hne h.symm)]
theorem bs_ne {l:Str} (h:l≠[]):(bs l).toList.isEmpty=false:=by
 rw [ByteArray.toList_eq]
 cases l with
 | nil=>exact absurd rfl h
 | cons=>rfl
theorem putN_ne (n:Nat):putN n≠[]:=by unfold putN; simp
theorem putN_le {n:Nat} (h:n≤9007199254740992):(putN n).length≤8:=by
 unfold putN
 have:=digs_len7 (n:=n) h
 simp; omega
set_option maxRecDepth 100000 in
set_option maxHeartbeats 1600000 in
theorem oint_any (N B n:Nat) (l:Str) (hn:n≤9007199254740992) (w:World) (hO:WrAt N B l w) (hL:l.length≤3000000) :
  Calls Tryz.prog 57 #[.pointer (some ⟨B,0,none⟩),.int .i64 (n:Nat)] w fun e w'=>e= .returned (.tuple #[])∧WrAt N B (l++putN n) w'∧Kp B N w w':=by
 have hpH:=Hid.mk fun w=>oput_any n hn w
 have hOH:=Hid.mk hO
 have hNw:=hO.2.1
 have hne:=bs_ne (putN_ne n)
 have hlen:=Hid.mk (show l.length+(putN n).length≤4000000 by have:=putN_le hn; omega)
 clear hO hn hL
 generalize putN n=s at*
 go_enter Tryz.func57,Tryz.ntmps57
 go_wp2_with (fail)
 go_at_call 64
 refine (hpH.out _).mono ?_
 rintro e w1 ⟨rfl,hB1⟩
 go_wp2_with (fail)
 go_at_call 84
 refine (put_any N B l s w1 (hOH.out.below hB1) hlen.out).mono ?_
 rintro e w2 ⟨rfl,h2,hB2⟩
 go_wp2_with (fail)
 go_end0
 exact ⟨rfl,h2,(Kp.of (hB1.mono hNw)).trans hB2⟩
set_option maxRecDepth 100000 in
set_option maxHeartbeats 1600000 in
theorem otext_any (N B:Nat) (l t:Str) (ht:t.length≤65536) (w:World) (hO:WrAt N B l w) (hL:l.length≤3000000) :
  Calls Tryz.prog 87 #[.pointer (some ⟨B,0,none⟩),.string (bs t)] w fun e w'=>e= .returned (.tuple #[])∧WrAt N B (l++textP t) w'∧Kp B N w w':=by
 have hpH:=Hid.mk fun w=>oput_any t.length (by omega) w
 have hOH:=Hid.mk hO
 have hNw:=hO.2.1
 have hsz:(bs t).size=t.length:=bs_size t
 have hle:(65536 < (t.length:Int))=False:=eq_false (by omega)
 have hlen:=Hid.mk (show l.length+(putN t.length).length+t.length≤4000000 by have:=putN_le (n:=t.length) (by omega); omega)
 have hres:=Hid.mk (show l++textP t=(l++putN t.length)++t by unfold textP; rw [List.append_assoc])
 have htH:=Hid.mk ht
 clear hO ht hL
 generalize putN t.length=s at*
 go_enter Tryz.func87,Tryz.ntmps87
 go_wp2_with (fail)
 go_at_call 64
 refine (hpH.out _).mono ?_
 rintro e w1 ⟨rfl,hB1⟩
 go_wp2_with (fail)
 go_at_call 84
 refine (put_any N B l s w1 (hOH.out.below hB1) (by have:=hlen.out; omega)).mono ?_
 rintro e w2 ⟨rfl,h2,hB2⟩
 go_wp2_with (fail)
 go_at_call 84
 refine (put_any N B (l++s) t w2 h2 (by have:=hlen.out; rw [List.length_append]; omega)).mono ?_
 rintro e w3 ⟨rfl,h3,hB3⟩
 go_wp2_with (fail)
 go_end0
 exact ⟨rfl,by rw [hres.out]; exact h3,((Kp.of (hB1.mono hNw)).trans hB2).trans hB3⟩
set_option maxRecDepth 100000 in
set_option maxHeartbeats 3200000 in
theorem obool_any (N B:Nat) (l:Str) (b:Bool) (w:World) (hO:WrAt N B l w) (hL:l.length≤3000000) :
  Calls Tryz.prog 89 #[.pointer (some ⟨B,0,none⟩),.bool b] w fun e w'=>e= .returned (.tuple #[])∧WrAt N B (l++[if b=true then 1 else 0]) w'∧Kp B N w w':=by
 have h1:=Hid.mk (show Calls Tryz.prog 84 #[.pointer (some ⟨B,0,none⟩),.string ⟨#[1]⟩,.bool true] w (fun e w'=>e= .returned (.tuple #[])∧WrAt N B (l++[1]) w'∧Kp B N w w') from put_any N B l [1] w hO (by simp; omega))
 have h0:=Hid.mk (show Calls Tryz.prog 84 #[.pointer (some ⟨B,0,none⟩),.string ⟨#[0]⟩,.bool true] w (fun e w'=>e= .returned (.tuple #[])∧WrAt N B (l++[0]) w'∧Kp B N w w') from put_any N B l [0] w hO (by simp; omega))
 clear hO hL
 cases b
 ·go_enter Tryz.func89,Tryz.ntmps89
  go_wp2_with (fail)
  go_at_call 84
  refine h0.out.mono ?_
  rintro e w2 ⟨rfl,h2,hB2⟩
  go_wp2_with (fail)
  go_end0
  exact ⟨rfl,h2,hB2⟩
 ·go_enter Tryz.func89,Tryz.ntmps89
  go_wp2_with (fail)
  go_at_call 84
  refine h1.out.mono ?_
  rintro e w2 ⟨rfl,h2,hB2⟩
  go_wp2_with (fail)
  go_end0
  exact ⟨rfl,h2,hB2⟩
set_option maxRecDepth 100000 in
set_option maxHeartbeats 1600000 in
theorem obytes_any (N B:Nat) (l:Str) (w:World) (hO:WrAt N B l w):Calls Tryz.prog 25 #[.pointer (some ⟨B,0,none⟩)] w fun e w'=>e= .returned (.tuple #[.string (bs l),.bool true])∧w'=w:=by
 obtain ⟨hNB,hNw,v,hB,hown⟩:=hO
 have hconv:=conv_any (N:=N) (w0:=w) (w:=w) (v:=v) (l:=l) ⟨hown,Below.refl _ _,hNw⟩
 obtain ⟨av,cv,rfl⟩:=out_slice hown
 have c0:w.cell? ⟨B,0,none⟩=some (.slice av l.length cv):=by rw [cell_of_row _ _ _ _ _ _ hB]; rfl
 have c1:w.cell? ⟨B,1,none⟩=some (.bool false):=by rw [cell_of_row _ _ _ _ _ _ hB]; rfl
 clear hown hB
 go_enter Tryz.func25,Tryz.ntmps25
 go_wp2
 go_ret2
 exact ⟨rfl,rfl⟩
end Go.Proofs.YtniamhbcmcgonaaGreatDoor
