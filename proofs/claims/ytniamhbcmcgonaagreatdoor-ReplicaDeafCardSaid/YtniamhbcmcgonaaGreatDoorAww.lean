/- All of a message written. Printed by genaw.py. All of a message read. Printed by genar.py. -/
import Derived.Test.YtniamhbcmcgonaaGreatDoorVww
import Derived.Deep.CutRange
import Derived.Deep.DeepCutAuto
import Derived.Deep.CutBlock
import Derived.Test.YtniamhbcmcgonaaGreatDoorFrw
namespace Go.Proofs.YtniamhbcmcgonaaGreatDoor
open Go.RowKit Go.Ev
set_option maxRecDepth 100000 in
set_option maxHeartbeats 3200000 in
theorem tail_any (m:Ms) (vk ve:Value) (w:World):Calls Tryz.prog 62 #[.agg (msC m vk ve)] w fun e w'=>e= .returned (.bool (tailB m))∧Below w.heap.size w w':=by
 have hB:=Hid.mk (show ∀ o,Below w.heap.size w (w.alloc o) from fun o=>(Below.refl _ w).alloc (Nat.le_refl _) o)
 by_cases h7:m.kind=7
 ·have hr:Hid (tailB m=true):= .mk (by simp [tailB,h7])
  rw [show msC m vk ve=(msC m vk ve).setIfInBounds 0 (.int .i64 7) by unfold msC; rw [h7]; rfl]
  unfold msC
  go_enter Tryz.func62,Tryz.ntmps62
  go_wp2_with (fail)
  go_ret
  exact ⟨by rw [hr.out]; rfl,hB.out _⟩
 by_cases h8:m.kind=8
 ·have hr:Hid (tailB m=true):= .mk (by simp [tailB,h8])
  rw [show msC m vk ve=(msC m vk ve).setIfInBounds 0 (.int .i64 8) by unfold msC; rw [h8]; rfl]
  unfold msC
  go_enter Tryz.func62,Tryz.ntmps62
  go_wp2_with (fail)
  go_ret
  exact ⟨by rw [hr.out]; rfl,hB.out _⟩
 by_cases h12:m.kind=12
 ·have hr:Hid (tailB m=true):= .mk (by simp [tailB,h12])
  rw [show msC m vk ve=(msC m vk ve).setIfInBounds 0 (.int .i64 12) by unfold msC; rw [h12]; rfl]
  unfold msC
  go_enter Tryz.func62,Tryz.ntmps62
  go_wp2_with (fail)
  go_ret
  exact ⟨by rw [hr.out]; rfl,hB.out _⟩
 have e7:(m.kind==7)=false:=by simp [h7]
 have e8:(m.kind==8)=false:=by simp [h8]
 have e12:(m.kind==12)=false:=by simp [h12]
 by_cases h10:m.kind=10
 ·have hr:Hid (tailB m=m.full):= .mk (by simp [tailB,h10])
  rw [show msC m vk ve=(msC m vk ve).setIfInBounds 0 (.int .i64 10) by unfold msC; rw [h10]; rfl]
  unfold msC
  clear h7 h8 h12 h10 e7 e8 e12
  go_enter Tryz.func62,Tryz.ntmps62
  go_wp2_with (fail)
  go_ret
  exact ⟨by rw [hr.out]; rfl,hB.out _⟩
 ·have hr:Hid (tailB m=false):= .mk (by simp [tailB,h7,h8,h12,h10])
  have e10:(m.kind==10)=false:=by simp [h10]
  clear h7 h8 h12 h10
  unfold msC
  go_enter Tryz.func62,Tryz.ntmps62
  go_wp2_with (fail)
  go_ret
  exact ⟨by rw [hr.out]; rfl,hB.out _⟩
theorem msInfo:(Tryz.prog.info? 35).map (·.size)=some 16:=by kernel_rfl
def hdP (m:Ms):Str:=if m.kind=1 then [] else (numP m.from_++numP m.born)++m.kn.flatMap numP
def bodyP (m:Ms):Str:=
 if m.kind=1 then (numP m.client++numP m.number)++textP m.text else if m.kind=4 then ((numP m.view++numP m.client)++numP m.number)++textP m.text
 else if m.kind=9 then numP m.nonce else if m.kind=10 then ((numP m.view++numP m.nonce)++[bitB m.full])++(if m.full=true then numP m.op++numP m.commit else []) else viewsP m
def tailP (m:Ms):Str:=if tailB m=true then (numP m.base++textP m.state)++entsP m.ents else []
def allP (m:Ms):Str:=(hdP m++bodyP m)++tailP m
theorem hd_take (kn:List Int) (k:Nat) (h:k < kn.length):(kn.take (k+1)).flatMap numP=(kn.take k).flatMap numP++numP (kn.getD k 0):=by
 rw [List.take_add_one,List.getElem?_eq_getElem h,List.flatMap_append,List.getD,List.getElem?_eq_getElem h]
 simp
theorem kn_le (kn:List Int) (h:∀ z ∈ kn,goodN z):(kn.flatMap numP).length≤8*kn.length:=by
 induction kn with
 | nil=>simp
 | cons z kn ih=>
  have h1:=numP_le (h z (List.mem_cons_self ..))
  have h2:=ih fun y hy=>h y (List.mem_cons_of_mem _ hy)
  simp only [List.flatMap_cons,List.length_append,List.length_cons]; omega
theorem kn_pre (kn:List Int) (k:Nat):((kn.take k).flatMap numP).length≤(kn.flatMap numP).length:=by
 have h:=congrArg List.length (congrArg (List.flatMap numP) (List.take_append_drop k kn))
 rw [List.flatMap_append,List.length_append] at h
 omega
theorem EntsAt.kp {F N:Nat} {w w':World} {a:Option Addr} {es:List Ent} (h:EntsAt F N w a es) (hk:Kp F N w w'):EntsAt F N w' a es:=fun j hj=>by
 obtain ⟨X,xo,h1,h2,h3,h4⟩:=h j hj
 exact ⟨X,xo,h1,h2,h3,fun i hi=>(hk.cell h2 h3).trans (h4 i hi)⟩
def KnAt (F N:Nat) (w:World) (vk:Value) (kn:List Int):Prop:=∃ K ko kc,vk= .slice (some ⟨K,ko,none⟩) kn.length kc∧K < N∧K≠F∧∀ j,j < kn.length→w.cell? ⟨K,ko+j,none⟩=some (.int .i64 (kn.getD j 0))
theorem views_le (m:Ms) (h:MsOk m):(viewsP m).length≤65700:=by
 obtain ⟨a1,a2,a3,a4,a5,a6,a7,a8,a9,a10,a11,a12⟩:=h.lens
 have he:(if m.kind=2 then entP (m.ents.getD 0 Ent.none) else []).length≤65600:=by
  split
  ·by_cases h0:m.ents.length=0
   ·rw [List.eq_nil_of_length_eq_zero h0]; unfold entP numP textP Ent.none; simp [List.getD,putN,digs_zero]
   ·exact entP_le (h.ents _ (getD_mem _ 0 _ (by omega)))
  ·simp
 unfold viewsP
 simp only [List.length_append]
 have h1:(if m.kind=7 then numP m.last else []).length≤8:=by split <;> first | omega | simp
 have h2:(if m.kind=6 then [] else numP m.op).length≤8:=by split <;> first | omega | simp
 have h3:(if m.kind=2∨m.kind=5∨m.kind=7∨m.kind=8∨m.kind=12 then numP m.commit else []).length≤8:=by split <;> first | omega | simp
 omega
set_option maxRecDepth 100000 in
set_option maxHeartbeats 12800000 in
theorem all_w (N F M:Nat) (l:Str) (m:Ms) (hg:MsOk m) (vk:Value) (a:Option Addr) (cap:Nat) (w:World) (hO:WrAt N F l w) (hL:l.length≤1000) (hM:M < N) (hMF:M≠F)
  (hRow:w.heap[M]?=some (.cells (msC m vk (.slice a m.ents.length cap)) 35 (0,0))) (hA:EntsAt F N w a m.ents) (h2k:m.kind=2→m.ents.length=1)
  (h1:1≤m.kind) (h12:m.kind≤12) (hkn:m.kind≠1→m.kn.length=3∧KnAt F N w vk m.kn) :
  Calls Tryz.prog 24 #[.pointer (some ⟨M,0,none⟩),.pointer (some ⟨F,0,none⟩)] w fun e w'=>e= .returned (.tuple #[])∧WrAt N F (l++allP m) w'∧Kp F N w w':=by
 have hlen:=Hid.mk hg.lens
 have hW:=Hid.mk hO
 have hK:=Hid.mk (Kp.refl F N w)
 have hc:∀ i,w.cell? ⟨M,i,none⟩=(msC m vk (.slice a m.ents.length cap))[i]?:=fun i=>cell_of_row _ _ _ _ _ _ hRow
 have hRowH:=Hid.mk hRow
 have hcH:=Hid.mk hc
 have hgH:=Hid.mk hg
 have hAH:=Hid.mk hA
 have h2H:=Hid.mk h2k
 have hknH:=Hid.mk hkn
 have ck0:=Hid.mk (show w.cell? ⟨M,0,none⟩=some (.int .i64 m.kind) from hc 0)
 have hfn:w.heap.size=w.heap.size:=rfl
 clear hO hc hg hA h2k hkn hRow
 have hc:=hcH
 have hg:=hgH
 clear hcH hgH
 have ck:=ck0.out
 go_enter Tryz.func24,Tryz.ntmps24
 go_upto_if 9 with fail
 go_cut [4] (fun _ wr=>WrAt N F (l++hdP m) wr∧Kp F N w wr)
 case first=>as_aux_lemma=>
  by_cases hk1:m.kind=1
  ·have e1:(m.kind !=1)=false:=by simp [hk1]
   go_wp2_with (fail)
   go_meet
   have e:hdP m=[]:=by unfold hdP; rw [if_pos hk1]
   rw [e,List.append_nil]
   exact ⟨hW.out,hK.out⟩
  ·have e1:(m.kind !=1)=true:=by simp [hk1]
   obtain ⟨h3,K,ko,kc,rfl,hKN,hKF,hkc⟩:=hknH.out hk1
   rw [h3] at hc
   have hkcH:=Hid.mk hkc
   clear hkc
   go_wp2_with (fail)
   go_at_call 23
   refine (num_wi N F M 1 _ m.from_ hg.out.from_ w hW.out (by obtain ⟨a1,a2,a3,a4,a5,a6,a7,a8,a9,a10,a11,a12⟩:=hlen.out; (try simp only [List.length_append]); (try simp only [List.length_cons,List.length_nil]); omega) ((hK.out.cell hM hMF).trans (hc.out 1))).mono ?_
   rintro e w1 ⟨rfl,h2,h3⟩
   have hW':=Hid.mk h2
   have hK':=Hid.mk (hK.out.trans h3)
   clear h2 h3 hW hK ck
   have hW:=hW'
   have hK:=hK'
   clear hW' hK'
   have ck:=(hK.out.cell hM hMF).trans ck0.out
   go_wp2_with (fail)
   go_at_call 23
   refine (num_wi N F M 2 _ m.born hg.out.born w1 hW.out (by obtain ⟨a1,a2,a3,a4,a5,a6,a7,a8,a9,a10,a11,a12⟩:=hlen.out; (try simp only [List.length_append]); (try simp only [List.length_cons,List.length_nil]); omega) ((hK.out.cell hM hMF).trans (hc.out 2))).mono ?_
   rintro e w2 ⟨rfl,h2,h3⟩
   have hW':=Hid.mk h2
   have hK':=Hid.mk (hK.out.trans h3)
   clear h2 h3 hW hK ck
   have hW:=hW'
   have hK:=hK'
   clear hW' hK'
   have ck:=(hK.out.cell hM hMF).trans ck0.out
   have cv:w2.cell? ⟨M,3,none⟩=some (.slice (some ⟨K,ko,none⟩) 3 kc):=(hK.out.cell hM hMF).trans (hc.out 3)
   obtain ⟨wa,hwa⟩:∃ wa,wa=w2:=⟨w2,rfl⟩
   have hkl:=kn_le m.kn hg.out.kn
   go_wp2_with (fail)
   go_loopw [4,25] (fun _ y wr=>∃ k:Nat,k≤3∧y= .int .i64 (k:Nat)∧WrAt N F ((l++numP m.from_++numP m.born)++(m.kn.take k).flatMap numP) wr∧Kp F N w wr) (fun _ y _=>3 - (intOf y).toNat)
   case atStart=>exact ⟨0,Nat.zero_le _,rfl,by simpa using hW.out,hK.out⟩
   case round=>
    clear hW hK cv ck
    obtain ⟨k,hk,rfl,hW,hK⟩:=hrel
    have hWH:=Hid.mk hW
    have hKH:=Hid.mk hK
    clear hW hK
    by_cases hlt:k < 3
    ·have hki:(k:Int) < 3:=by omega
     have cv:wr.cell? ⟨M,3,none⟩=some (.slice (some ⟨K,ko,none⟩) 3 kc):=(hKH.out.cell hM hMF).trans (hc.out 3)
     have hone:=Hid.mk (num_wi N F K (ko+k) _ (m.kn.getD k 0) (hg.out.kn _ (getD_mem _ _ _ (by omega))) wr hWH.out (by obtain ⟨a1,a2,a3,a4,a5,a6,a7,a8,a9,a10,a11,a12⟩:=hlen.out; have:=kn_pre m.kn k; simp only [List.length_append]; omega) ((hKH.out.cell hKN hKF).trans (hkcH.out k (by omega))))
     have htk:=Hid.mk (hd_take m.kn k (by omega))
     go_wp2_with (fail)
     go_at_call 23
     refine hone.out.mono ?_
     rintro e w3 ⟨rfl,h2,h3⟩
     have h2H:Hid (WrAt N F ((l++numP m.from_++numP m.born)++(m.kn.take (k+1)).flatMap numP) w3):= .mk (by rw [htk.out,← List.append_assoc]; exact h2)
     have h3H:=Hid.mk (hKH.out.trans h3)
     clear h2 h3
     go_wp2_with (fail)
     first
      | exact ⟨⟨k+1,by omega,congrArg _ (by omega),h2H.out,h3H.out⟩,by simp [intOf]; omega⟩
      | (refine ⟨?_,by simp [intOf]; omega⟩; (repeat apply Exists.intro); exact ⟨⟨k+1,by omega,congrArg _ (by omega),h2H.out,h3H.out⟩,rfl⟩)
    ·obtain rfl:k=3:=by omega
     go_wp2_with (fail)
     go_meet
     have e:l++hdP m=(l++numP m.from_++numP m.born)++(m.kn.take 3).flatMap numP:=by
      unfold hdP
      rw [if_neg hk1,← h3,List.take_length]; simp
     rw [e]
     exact ⟨hWH.out,hKH.out⟩
 case rest=>as_aux_lemma=>
  obtain ⟨hWc,hKc⟩:=hcut
  clear hW hK ck
  have hW:=Hid.mk hWc
  have hK:=Hid.mk hKc
  clear hWc hKc
  have hhd:(hdP m).length≤40:=by
   unfold hdP
   split
   ·simp
   ·rename_i hk1
    obtain ⟨a1,a2,a3,a4,a5,a6,a7,a8,a9,a10,a11,a12⟩:=hlen.out
    have:=kn_le m.kn hg.out.kn
    have:=(hknH.out hk1).1
    simp only [List.length_append]; omega
  obtain ⟨L0,hL0⟩:∃ L0,l++hdP m=L0:=⟨_,rfl⟩
  have hl0:L0.length≤1040:=by rw [← hL0]; simp; omega
  rw [hL0] at hW
  have hL0H:=Hid.mk hL0
  clear hL0 hhd hknH
  have hk:m.kind=1∨m.kind=2∨m.kind=3∨m.kind=4∨m.kind=5∨m.kind=6∨m.kind=7∨m.kind=8∨m.kind=9∨m.kind=10∨m.kind=11∨m.kind=12:=by omega
  clear h1 h12 ck0
  rcases hk with hk | hk | hk | hk | hk | hk | hk | hk | hk | hk | hk | hk
  ·as_aux_lemma=>
    have ck0:=Hid.mk (show w.cell? ⟨M,0,none⟩=some (.int .i64 1) from (hc.out 0).trans (by rw [← hk]; rfl))
    have ck:=(hK.out.cell hM hMF).trans ck0.out
    go_wp2_with (fail)
    go_at_call 23
    refine (num_wi N F M 8 _ m.client hg.out.client wc hW.out (by obtain ⟨a1,a2,a3,a4,a5,a6,a7,a8,a9,a10,a11,a12⟩:=hlen.out; (try simp only [List.length_append]); (try simp only [List.length_cons,List.length_nil]); omega) ((hK.out.cell hM hMF).trans (hc.out 8))).mono ?_
    rintro e v1 ⟨rfl,h2,h3⟩
    have hW':=Hid.mk h2
    have hK':=Hid.mk (hK.out.trans h3)
    clear h2 h3 hW hK ck
    have hW:=hW'
    have hK:=hK'
    clear hW' hK'
    have ck:=(hK.out.cell hM hMF).trans ck0.out
    go_wp2_with (fail)
    go_at_call 23
    refine (num_wi N F M 9 _ m.number hg.out.number v1 hW.out (by obtain ⟨a1,a2,a3,a4,a5,a6,a7,a8,a9,a10,a11,a12⟩:=hlen.out; (try simp only [List.length_append]); (try simp only [List.length_cons,List.length_nil]); omega) ((hK.out.cell hM hMF).trans (hc.out 9))).mono ?_
    rintro e v2 ⟨rfl,h2,h3⟩
    have hW':=Hid.mk h2
    have hK':=Hid.mk (hK.out.trans h3)
    clear h2 h3 hW hK ck
    have hW:=hW'
    have hK:=hK'
    clear hW' hK'
    have ck:=(hK.out.cell hM hMF).trans ck0.out
    go_wp2_with (fail)
    go_at_call 59
    refine (text_w N F M 11 _ m.text v2 hW.out (by obtain ⟨a1,a2,a3,a4,a5,a6,a7,a8,a9,a10,a11,a12⟩:=hlen.out; (try simp only [List.length_append]); (try simp only [List.length_cons,List.length_nil]); omega) hg.out.text ((hK.out.cell hM hMF).trans (hc.out 11))).mono ?_
    rintro e v3 ⟨rfl,h2,h3⟩
    have hW':=Hid.mk h2
    have hK':=Hid.mk (hK.out.trans h3)
    clear h2 h3 hW hK ck
    have hW:=hW'
    have hK:=hK'
    clear hW' hK'
    have ck:=(hK.out.cell hM hMF).trans ck0.out
    have htb:tailB m=false:=by simp [tailB,hk]
    clear ck
    have ht:=tail_any m vk (.slice a m.ents.length cap) v3
    rw [htb] at ht
    have htH:=Hid.mk ht
    clear ht
    have hrow:=Hid.mk ((hK.out.block M hM hMF).trans hRowH.out)
    go_wp2_with (refine wpList_load_row rfl 35 _ rfl M rfl _ _ _ _ hrow.out Tryz.underlying35 rfl (msInfo.trans rfl) ?_)
    go_at_call 62
    refine htH.out.mono ?_
    rintro e v4 ⟨rfl,hB⟩
    have hW':=Hid.mk (hW.out.below hB)
    have hK':=Hid.mk (hK.out.trans (Kp.of (hB.mono hW.out.2.1)))
    clear hB hW hK htH hrow
    have hW:=hW'
    have hK:=hK'
    clear hW' hK'
    have ck:=(hK.out.cell hM hMF).trans ck0.out
    go_wp2_with (fail)
    go_end0
    refine ⟨rfl,?_,hK.out⟩
    have h:=hW.out
    skip
    rw [← hL0H.out] at h
    have e:bodyP m=bodyP m:=rfl
    have e2:l++allP m=_:=rfl
    revert h
    unfold allP bodyP tailP
    rw [htb]
    skip
    simp [hk]
  ·as_aux_lemma=>
    have ck0:=Hid.mk (show w.cell? ⟨M,0,none⟩=some (.int .i64 2) from (hc.out 0).trans (by rw [← hk]; rfl))
    have ck:=(hK.out.cell hM hMF).trans ck0.out
    go_wp2_with (fail)
    go_at_call 61
    refine (views_w N F M L0 m hg.out vk a cap wc hW.out (by omega) hM hMF (fun i=>(hK.out.cell hM hMF).trans (hc.out i)) (hAH.out.kp hK.out) h2H.out (by omega)).mono ?_
    rintro e v1 ⟨rfl,h2,h3⟩
    have hW':=Hid.mk h2
    have hK':=Hid.mk (hK.out.trans h3)
    clear h2 h3 hW hK ck
    have hW:=hW'
    have hK:=hK'
    clear hW' hK'
    have ck:=(hK.out.cell hM hMF).trans ck0.out
    obtain ⟨L1,hL1⟩:∃ L1,L0++viewsP m=L1:=⟨_,rfl⟩
    have hl1:L1.length≤70000:=by
     rw [← hL1]
     have:=views_le m hg.out
     simp only [List.length_append]; omega
    rw [hL1] at hW
    have htb:tailB m=false:=by simp [tailB,hk]
    clear ck
    have ht:=tail_any m vk (.slice a m.ents.length cap) v1
    rw [htb] at ht
    have htH:=Hid.mk ht
    clear ht
    have hrow:=Hid.mk ((hK.out.block M hM hMF).trans hRowH.out)
    go_wp2_with (refine wpList_load_row rfl 35 _ rfl M rfl _ _ _ _ hrow.out Tryz.underlying35 rfl (msInfo.trans rfl) ?_)
    go_at_call 62
    refine htH.out.mono ?_
    rintro e v2 ⟨rfl,hB⟩
    have hW':=Hid.mk (hW.out.below hB)
    have hK':=Hid.mk (hK.out.trans (Kp.of (hB.mono hW.out.2.1)))
    clear hB hW hK htH hrow
    have hW:=hW'
    have hK:=hK'
    clear hW' hK'
    have ck:=(hK.out.cell hM hMF).trans ck0.out
    go_wp2_with (fail)
    go_end0
    refine ⟨rfl,?_,hK.out⟩
    have h:=hW.out
    rw [← hL1] at h
    rw [← hL0H.out] at h
    have e:bodyP m=bodyP m:=rfl
    have e2:l++allP m=_:=rfl
    revert h
    unfold allP bodyP tailP
    rw [htb]
    skip
    simp [hk]
  ·as_aux_lemma=>
    have ck0:=Hid.mk (show w.cell? ⟨M,0,none⟩=some (.int .i64 3) from (hc.out 0).trans (by rw [← hk]; rfl))
    have ck:=(hK.out.cell hM hMF).trans ck0.out
    go_wp2_with (fail)
    go_at_call 61
    refine (views_w N F M L0 m hg.out vk a cap wc hW.out (by omega) hM hMF (fun i=>(hK.out.cell hM hMF).trans (hc.out i)) (hAH.out.kp hK.out) h2H.out (by omega)).mono ?_
    rintro e v1 ⟨rfl,h2,h3⟩
    have hW':=Hid.mk h2
    have hK':=Hid.mk (hK.out.trans h3)
    clear h2 h3 hW hK ck
    have hW:=hW'
    have hK:=hK'
    clear hW' hK'
    have ck:=(hK.out.cell hM hMF).trans ck0.out
    obtain ⟨L1,hL1⟩:∃ L1,L0++viewsP m=L1:=⟨_,rfl⟩
    have hl1:L1.length≤70000:=by
     rw [← hL1]
     have:=views_le m hg.out
     simp only [List.length_append]; omega
    rw [hL1] at hW
    have htb:tailB m=false:=by simp [tailB,hk]
    clear ck
    have ht:=tail_any m vk (.slice a m.ents.length cap) v1
    rw [htb] at ht
    have htH:=Hid.mk ht
    clear ht
    have hrow:=Hid.mk ((hK.out.block M hM hMF).trans hRowH.out)
    go_wp2_with (refine wpList_load_row rfl 35 _ rfl M rfl _ _ _ _ hrow.out Tryz.underlying35 rfl (msInfo.trans rfl) ?_)
    go_at_call 62
    refine htH.out.mono ?_
    rintro e v2 ⟨rfl,hB⟩
    have hW':=Hid.mk (hW.out.below hB)
    have hK':=Hid.mk (hK.out.trans (Kp.of (hB.mono hW.out.2.1)))
    clear hB hW hK htH hrow
    have hW:=hW'
    have hK:=hK'
    clear hW' hK'
    have ck:=(hK.out.cell hM hMF).trans ck0.out
    go_wp2_with (fail)
    go_end0
    refine ⟨rfl,?_,hK.out⟩
    have h:=hW.out
    rw [← hL1] at h
    rw [← hL0H.out] at h
    have e:bodyP m=bodyP m:=rfl
    have e2:l++allP m=_:=rfl
    revert h
    unfold allP bodyP tailP
    rw [htb]
    skip
    simp [hk]
  ·as_aux_lemma=>
    have ck0:=Hid.mk (show w.cell? ⟨M,0,none⟩=some (.int .i64 4) from (hc.out 0).trans (by rw [← hk]; rfl))
    have ck:=(hK.out.cell hM hMF).trans ck0.out
    go_wp2_with (fail)
    go_at_call 23
    refine (num_wi N F M 4 _ m.view hg.out.view wc hW.out (by obtain ⟨a1,a2,a3,a4,a5,a6,a7,a8,a9,a10,a11,a12⟩:=hlen.out; (try simp only [List.length_append]); (try simp only [List.length_cons,List.length_nil]); omega) ((hK.out.cell hM hMF).trans (hc.out 4))).mono ?_
    rintro e v1 ⟨rfl,h2,h3⟩
    have hW':=Hid.mk h2
    have hK':=Hid.mk (hK.out.trans h3)
    clear h2 h3 hW hK ck
    have hW:=hW'
    have hK:=hK'
    clear hW' hK'
    have ck:=(hK.out.cell hM hMF).trans ck0.out
    go_wp2_with (fail)
    go_at_call 23
    refine (num_wi N F M 8 _ m.client hg.out.client v1 hW.out (by obtain ⟨a1,a2,a3,a4,a5,a6,a7,a8,a9,a10,a11,a12⟩:=hlen.out; (try simp only [List.length_append]); (try simp only [List.length_cons,List.length_nil]); omega) ((hK.out.cell hM hMF).trans (hc.out 8))).mono ?_
    rintro e v2 ⟨rfl,h2,h3⟩
    have hW':=Hid.mk h2
    have hK':=Hid.mk (hK.out.trans h3)
    clear h2 h3 hW hK ck
    have hW:=hW'
    have hK:=hK'
    clear hW' hK'
    have ck:=(hK.out.cell hM hMF).trans ck0.out
    go_wp2_with (fail)
    go_at_call 23
    refine (num_wi N F M 9 _ m.number hg.out.number v2 hW.out (by obtain ⟨a1,a2,a3,a4,a5,a6,a7,a8,a9,a10,a11,a12⟩:=hlen.out; (try simp only [List.length_append]); (try simp only [List.length_cons,List.length_nil]); omega) ((hK.out.cell hM hMF).trans (hc.out 9))).mono ?_
    rintro e v3 ⟨rfl,h2,h3⟩
    have hW':=Hid.mk h2
    have hK':=Hid.mk (hK.out.trans h3)
    clear h2 h3 hW hK ck
    have hW:=hW'
    have hK:=hK'
    clear hW' hK'
    have ck:=(hK.out.cell hM hMF).trans ck0.out
    go_wp2_with (fail)
    go_at_call 59
    refine (text_w N F M 11 _ m.text v3 hW.out (by obtain ⟨a1,a2,a3,a4,a5,a6,a7,a8,a9,a10,a11,a12⟩:=hlen.out; (try simp only [List.length_append]); (try simp only [List.length_cons,List.length_nil]); omega) hg.out.text ((hK.out.cell hM hMF).trans (hc.out 11))).mono ?_
    rintro e v4 ⟨rfl,h2,h3⟩
    have hW':=Hid.mk h2
    have hK':=Hid.mk (hK.out.trans h3)
    clear h2 h3 hW hK ck
    have hW:=hW'
    have hK:=hK'
    clear hW' hK'
    have ck:=(hK.out.cell hM hMF).trans ck0.out
    have htb:tailB m=false:=by simp [tailB,hk]
    clear ck
    have ht:=tail_any m vk (.slice a m.ents.length cap) v4
    rw [htb] at ht
    have htH:=Hid.mk ht
    clear ht
    have hrow:=Hid.mk ((hK.out.block M hM hMF).trans hRowH.out)
    go_wp2_with (refine wpList_load_row rfl 35 _ rfl M rfl _ _ _ _ hrow.out Tryz.underlying35 rfl (msInfo.trans rfl) ?_)
    go_at_call 62
    refine htH.out.mono ?_
    rintro e v5 ⟨rfl,hB⟩
    have hW':=Hid.mk (hW.out.below hB)
    have hK':=Hid.mk (hK.out.trans (Kp.of (hB.mono hW.out.2.1)))
    clear hB hW hK htH hrow
    have hW:=hW'
    have hK:=hK'
    clear hW' hK'
    have ck:=(hK.out.cell hM hMF).trans ck0.out
    go_wp2_with (fail)
    go_end0
    refine ⟨rfl,?_,hK.out⟩
    have h:=hW.out
    skip
    rw [← hL0H.out] at h
    have e:bodyP m=bodyP m:=rfl
    have e2:l++allP m=_:=rfl
    revert h
    unfold allP bodyP tailP
    rw [htb]
    skip
    simp [hk]
  ·as_aux_lemma=>
    have ck0:=Hid.mk (show w.cell? ⟨M,0,none⟩=some (.int .i64 5) from (hc.out 0).trans (by rw [← hk]; rfl))
    have ck:=(hK.out.cell hM hMF).trans ck0.out
    go_wp2_with (fail)
    go_at_call 61
    refine (views_w N F M L0 m hg.out vk a cap wc hW.out (by omega) hM hMF (fun i=>(hK.out.cell hM hMF).trans (hc.out i)) (hAH.out.kp hK.out) h2H.out (by omega)).mono ?_
    rintro e v1 ⟨rfl,h2,h3⟩
    have hW':=Hid.mk h2
    have hK':=Hid.mk (hK.out.trans h3)
    clear h2 h3 hW hK ck
    have hW:=hW'
    have hK:=hK'
    clear hW' hK'
    have ck:=(hK.out.cell hM hMF).trans ck0.out
    obtain ⟨L1,hL1⟩:∃ L1,L0++viewsP m=L1:=⟨_,rfl⟩
    have hl1:L1.length≤70000:=by
     rw [← hL1]
     have:=views_le m hg.out
     simp only [List.length_append]; omega
    rw [hL1] at hW
    have htb:tailB m=false:=by simp [tailB,hk]
    clear ck
    have ht:=tail_any m vk (.slice a m.ents.length cap) v1
    rw [htb] at ht
    have htH:=Hid.mk ht
    clear ht
    have hrow:=Hid.mk ((hK.out.block M hM hMF).trans hRowH.out)
    go_wp2_with (refine wpList_load_row rfl 35 _ rfl M rfl _ _ _ _ hrow.out Tryz.underlying35 rfl (msInfo.trans rfl) ?_)
    go_at_call 62
    refine htH.out.mono ?_
    rintro e v2 ⟨rfl,hB⟩
    have hW':=Hid.mk (hW.out.below hB)
    have hK':=Hid.mk (hK.out.trans (Kp.of (hB.mono hW.out.2.1)))
    clear hB hW hK htH hrow
    have hW:=hW'
    have hK:=hK'
    clear hW' hK'
    have ck:=(hK.out.cell hM hMF).trans ck0.out
    go_wp2_with (fail)
    go_end0
    refine ⟨rfl,?_,hK.out⟩
    have h:=hW.out
    rw [← hL1] at h
    rw [← hL0H.out] at h
    have e:bodyP m=bodyP m:=rfl
    have e2:l++allP m=_:=rfl
    revert h
    unfold allP bodyP tailP
    rw [htb]
    skip
    simp [hk]
  ·as_aux_lemma=>
    have ck0:=Hid.mk (show w.cell? ⟨M,0,none⟩=some (.int .i64 6) from (hc.out 0).trans (by rw [← hk]; rfl))
    have ck:=(hK.out.cell hM hMF).trans ck0.out
    go_wp2_with (fail)
    go_at_call 61
    refine (views_w N F M L0 m hg.out vk a cap wc hW.out (by omega) hM hMF (fun i=>(hK.out.cell hM hMF).trans (hc.out i)) (hAH.out.kp hK.out) h2H.out (by omega)).mono ?_
    rintro e v1 ⟨rfl,h2,h3⟩
    have hW':=Hid.mk h2
    have hK':=Hid.mk (hK.out.trans h3)
    clear h2 h3 hW hK ck
    have hW:=hW'
    have hK:=hK'
    clear hW' hK'
    have ck:=(hK.out.cell hM hMF).trans ck0.out
    obtain ⟨L1,hL1⟩:∃ L1,L0++viewsP m=L1:=⟨_,rfl⟩
    have hl1:L1.length≤70000:=by
     rw [← hL1]
     have:=views_le m hg.out
     simp only [List.length_append]; omega
    rw [hL1] at hW
    have htb:tailB m=false:=by simp [tailB,hk]
    clear ck
    have ht:=tail_any m vk (.slice a m.ents.length cap) v1
    rw [htb] at ht
    have htH:=Hid.mk ht
    clear ht
    have hrow:=Hid.mk ((hK.out.block M hM hMF).trans hRowH.out)
    go_wp2_with (refine wpList_load_row rfl 35 _ rfl M rfl _ _ _ _ hrow.out Tryz.underlying35 rfl (msInfo.trans rfl) ?_)
    go_at_call 62
    refine htH.out.mono ?_
    rintro e v2 ⟨rfl,hB⟩
    have hW':=Hid.mk (hW.out.below hB)
    have hK':=Hid.mk (hK.out.trans (Kp.of (hB.mono hW.out.2.1)))
    clear hB hW hK htH hrow
    have hW:=hW'
    have hK:=hK'
    clear hW' hK'
    have ck:=(hK.out.cell hM hMF).trans ck0.out
    go_wp2_with (fail)
    go_end0
    refine ⟨rfl,?_,hK.out⟩
    have h:=hW.out
    rw [← hL1] at h
    rw [← hL0H.out] at h
    have e:bodyP m=bodyP m:=rfl
    have e2:l++allP m=_:=rfl
    revert h
    unfold allP bodyP tailP
    rw [htb]
    skip
    simp [hk]
  ·as_aux_lemma=>
    have ck0:=Hid.mk (show w.cell? ⟨M,0,none⟩=some (.int .i64 7) from (hc.out 0).trans (by rw [← hk]; rfl))
    have ck:=(hK.out.cell hM hMF).trans ck0.out
    go_wp2_with (fail)
    go_at_call 61
    refine (views_w N F M L0 m hg.out vk a cap wc hW.out (by omega) hM hMF (fun i=>(hK.out.cell hM hMF).trans (hc.out i)) (hAH.out.kp hK.out) h2H.out (by omega)).mono ?_
    rintro e v1 ⟨rfl,h2,h3⟩
    have hW':=Hid.mk h2
    have hK':=Hid.mk (hK.out.trans h3)
    clear h2 h3 hW hK ck
    have hW:=hW'
    have hK:=hK'
    clear hW' hK'
    have ck:=(hK.out.cell hM hMF).trans ck0.out
    obtain ⟨L1,hL1⟩:∃ L1,L0++viewsP m=L1:=⟨_,rfl⟩
    have hl1:L1.length≤70000:=by
     rw [← hL1]
     have:=views_le m hg.out
     simp only [List.length_append]; omega
    rw [hL1] at hW
    have htb:tailB m=true:=by simp [tailB,hk]
    clear ck
    have ht:=tail_any m vk (.slice a m.ents.length cap) v1
    rw [htb] at ht
    have htH:=Hid.mk ht
    clear ht
    have hrow:=Hid.mk ((hK.out.block M hM hMF).trans hRowH.out)
    go_wp2_with (refine wpList_load_row rfl 35 _ rfl M rfl _ _ _ _ hrow.out Tryz.underlying35 rfl (msInfo.trans rfl) ?_)
    go_at_call 62
    refine htH.out.mono ?_
    rintro e v2 ⟨rfl,hB⟩
    have hW':=Hid.mk (hW.out.below hB)
    have hK':=Hid.mk (hK.out.trans (Kp.of (hB.mono hW.out.2.1)))
    clear hB hW hK htH hrow
    have hW:=hW'
    have hK:=hK'
    clear hW' hK'
    have ck:=(hK.out.cell hM hMF).trans ck0.out
    go_wp2_with (fail)
    go_at_call 23
    refine (num_wi N F M 13 _ m.base hg.out.base v2 hW.out (by obtain ⟨a1,a2,a3,a4,a5,a6,a7,a8,a9,a10,a11,a12⟩:=hlen.out; (try simp only [List.length_append]); (try simp only [List.length_cons,List.length_nil]); omega) ((hK.out.cell hM hMF).trans (hc.out 13))).mono ?_
    rintro e v3 ⟨rfl,h2,h3⟩
    have hW':=Hid.mk h2
    have hK':=Hid.mk (hK.out.trans h3)
    clear h2 h3 hW hK ck
    have hW:=hW'
    have hK:=hK'
    clear hW' hK'
    have ck:=(hK.out.cell hM hMF).trans ck0.out
    go_wp2_with (fail)
    go_at_call 59
    refine (text_w N F M 14 _ m.state v3 hW.out (by obtain ⟨a1,a2,a3,a4,a5,a6,a7,a8,a9,a10,a11,a12⟩:=hlen.out; (try simp only [List.length_append]); (try simp only [List.length_cons,List.length_nil]); omega) hg.out.state ((hK.out.cell hM hMF).trans (hc.out 14))).mono ?_
    rintro e v4 ⟨rfl,h2,h3⟩
    have hW':=Hid.mk h2
    have hK':=Hid.mk (hK.out.trans h3)
    clear h2 h3 hW hK ck
    have hW:=hW'
    have hK:=hK'
    clear hW' hK'
    have ck:=(hK.out.cell hM hMF).trans ck0.out
    go_wp2_with (fail)
    go_at_call 63
    refine (ents_w N F M 15 _ a cap m.ents hg.out.ents hg.out.e64 hg.out.eT v4 hW.out (by obtain ⟨a1,a2,a3,a4,a5,a6,a7,a8,a9,a10,a11,a12⟩:=hlen.out; (try simp only [List.length_append]); (try simp only [List.length_cons,List.length_nil]); omega) hM hMF ((hK.out.cell hM hMF).trans (hc.out 15)) (hAH.out.kp hK.out)).mono ?_
    rintro e v5 ⟨rfl,h2,h3⟩
    have hW':=Hid.mk h2
    have hK':=Hid.mk (hK.out.trans h3)
    clear h2 h3 hW hK ck
    have hW:=hW'
    have hK:=hK'
    clear hW' hK'
    go_wp2_with (fail)
    go_end0
    refine ⟨rfl,?_,hK.out⟩
    have h:=hW.out
    rw [← hL1] at h
    rw [← hL0H.out] at h
    have e:bodyP m=bodyP m:=rfl
    have e2:l++allP m=_:=rfl
    revert h
    unfold allP bodyP tailP
    rw [htb]
    skip
    simp [hk]
  ·as_aux_lemma=>
    have ck0:=Hid.mk (show w.cell? ⟨M,0,none⟩=some (.int .i64 8) from (hc.out 0).trans (by rw [← hk]; rfl))
    have ck:=(hK.out.cell hM hMF).trans ck0.out
    go_wp2_with (fail)
    go_at_call 61
    refine (views_w N F M L0 m hg.out vk a cap wc hW.out (by omega) hM hMF (fun i=>(hK.out.cell hM hMF).trans (hc.out i)) (hAH.out.kp hK.out) h2H.out (by omega)).mono ?_
    rintro e v1 ⟨rfl,h2,h3⟩
    have hW':=Hid.mk h2
    have hK':=Hid.mk (hK.out.trans h3)
    clear h2 h3 hW hK ck
    have hW:=hW'
    have hK:=hK'
    clear hW' hK'
    have ck:=(hK.out.cell hM hMF).trans ck0.out
    obtain ⟨L1,hL1⟩:∃ L1,L0++viewsP m=L1:=⟨_,rfl⟩
    have hl1:L1.length≤70000:=by
     rw [← hL1]
     have:=views_le m hg.out
     simp only [List.length_append]; omega
    rw [hL1] at hW
    have htb:tailB m=true:=by simp [tailB,hk]
    clear ck
    have ht:=tail_any m vk (.slice a m.ents.length cap) v1
    rw [htb] at ht
    have htH:=Hid.mk ht
    clear ht
    have hrow:=Hid.mk ((hK.out.block M hM hMF).trans hRowH.out)
    go_wp2_with (refine wpList_load_row rfl 35 _ rfl M rfl _ _ _ _ hrow.out Tryz.underlying35 rfl (msInfo.trans rfl) ?_)
    go_at_call 62
    refine htH.out.mono ?_
    rintro e v2 ⟨rfl,hB⟩
    have hW':=Hid.mk (hW.out.below hB)
    have hK':=Hid.mk (hK.out.trans (Kp.of (hB.mono hW.out.2.1)))
    clear hB hW hK htH hrow
    have hW:=hW'
    have hK:=hK'
    clear hW' hK'
    have ck:=(hK.out.cell hM hMF).trans ck0.out
    go_wp2_with (fail)
    go_at_call 23
    refine (num_wi N F M 13 _ m.base hg.out.base v2 hW.out (by obtain ⟨a1,a2,a3,a4,a5,a6,a7,a8,a9,a10,a11,a12⟩:=hlen.out; (try simp only [List.length_append]); (try simp only [List.length_cons,List.length_nil]); omega) ((hK.out.cell hM hMF).trans (hc.out 13))).mono ?_
    rintro e v3 ⟨rfl,h2,h3⟩
    have hW':=Hid.mk h2
    have hK':=Hid.mk (hK.out.trans h3)
    clear h2 h3 hW hK ck
    have hW:=hW'
    have hK:=hK'
    clear hW' hK'
    have ck:=(hK.out.cell hM hMF).trans ck0.out
    go_wp2_with (fail)
    go_at_call 59
    refine (text_w N F M 14 _ m.state v3 hW.out (by obtain ⟨a1,a2,a3,a4,a5,a6,a7,a8,a9,a10,a11,a12⟩:=hlen.out; (try simp only [List.length_append]); (try simp only [List.length_cons,List.length_nil]); omega) hg.out.state ((hK.out.cell hM hMF).trans (hc.out 14))).mono ?_
    rintro e v4 ⟨rfl,h2,h3⟩
    have hW':=Hid.mk h2
    have hK':=Hid.mk (hK.out.trans h3)
    clear h2 h3 hW hK ck
    have hW:=hW'
    have hK:=hK'
    clear hW' hK'
    have ck:=(hK.out.cell hM hMF).trans ck0.out
    go_wp2_with (fail)
    go_at_call 63
    refine (ents_w N F M 15 _ a cap m.ents hg.out.ents hg.out.e64 hg.out.eT v4 hW.out (by obtain ⟨a1,a2,a3,a4,a5,a6,a7,a8,a9,a10,a11,a12⟩:=hlen.out; (try simp only [List.length_append]); (try simp only [List.length_cons,List.length_nil]); omega) hM hMF ((hK.out.cell hM hMF).trans (hc.out 15)) (hAH.out.kp hK.out)).mono ?_
    rintro e v5 ⟨rfl,h2,h3⟩
    have hW':=Hid.mk h2
    have hK':=Hid.mk (hK.out.trans h3)
    clear h2 h3 hW hK ck
    have hW:=hW'
    have hK:=hK'
    clear hW' hK'
    go_wp2_with (fail)
    go_end0
    refine ⟨rfl,?_,hK.out⟩
    have h:=hW.out
    rw [← hL1] at h
    rw [← hL0H.out] at h
    have e:bodyP m=bodyP m:=rfl
    have e2:l++allP m=_:=rfl
    revert h
    unfold allP bodyP tailP
    rw [htb]
    skip
    simp [hk]
  ·as_aux_lemma=>
    have ck0:=Hid.mk (show w.cell? ⟨M,0,none⟩=some (.int .i64 9) from (hc.out 0).trans (by rw [← hk]; rfl))
    have ck:=(hK.out.cell hM hMF).trans ck0.out
    go_wp2_with (fail)
    go_at_call 23
    refine (num_wi N F M 10 _ m.nonce hg.out.nonce wc hW.out (by obtain ⟨a1,a2,a3,a4,a5,a6,a7,a8,a9,a10,a11,a12⟩:=hlen.out; (try simp only [List.length_append]); (try simp only [List.length_cons,List.length_nil]); omega) ((hK.out.cell hM hMF).trans (hc.out 10))).mono ?_
    rintro e v1 ⟨rfl,h2,h3⟩
    have hW':=Hid.mk h2
    have hK':=Hid.mk (hK.out.trans h3)
    clear h2 h3 hW hK ck
    have hW:=hW'
    have hK:=hK'
    clear hW' hK'
    have ck:=(hK.out.cell hM hMF).trans ck0.out
    have htb:tailB m=false:=by simp [tailB,hk]
    clear ck
    have ht:=tail_any m vk (.slice a m.ents.length cap) v1
    rw [htb] at ht
    have htH:=Hid.mk ht
    clear ht
    have hrow:=Hid.mk ((hK.out.block M hM hMF).trans hRowH.out)
    go_wp2_with (refine wpList_load_row rfl 35 _ rfl M rfl _ _ _ _ hrow.out Tryz.underlying35 rfl (msInfo.trans rfl) ?_)
    go_at_call 62
    refine htH.out.mono ?_
    rintro e v2 ⟨rfl,hB⟩
    have hW':=Hid.mk (hW.out.below hB)
    have hK':=Hid.mk (hK.out.trans (Kp.of (hB.mono hW.out.2.1)))
    clear hB hW hK htH hrow
    have hW:=hW'
    have hK:=hK'
    clear hW' hK'
    have ck:=(hK.out.cell hM hMF).trans ck0.out
    go_wp2_with (fail)
    go_end0
    refine ⟨rfl,?_,hK.out⟩
    have h:=hW.out
    skip
    rw [← hL0H.out] at h
    have e:bodyP m=bodyP m:=rfl
    have e2:l++allP m=_:=rfl
    revert h
    unfold allP bodyP tailP
    rw [htb]
    skip
    simp [hk]
  ·cases hf:m.full with
   | true=>as_aux_lemma=>
     have ck0:=Hid.mk (show w.cell? ⟨M,0,none⟩=some (.int .i64 10) from (hc.out 0).trans (by rw [← hk]; rfl))
     have ck:=(hK.out.cell hM hMF).trans ck0.out
     go_wp2_with (fail)
     go_at_call 23
     refine (num_wi N F M 4 _ m.view hg.out.view wc hW.out (by obtain ⟨a1,a2,a3,a4,a5,a6,a7,a8,a9,a10,a11,a12⟩:=hlen.out; (try simp only [List.length_append]); (try simp only [List.length_cons,List.length_nil]); omega) ((hK.out.cell hM hMF).trans (hc.out 4))).mono ?_
     rintro e v1 ⟨rfl,h2,h3⟩
     have hW':=Hid.mk h2
     have hK':=Hid.mk (hK.out.trans h3)
     clear h2 h3 hW hK ck
     have hW:=hW'
     have hK:=hK'
     clear hW' hK'
     have ck:=(hK.out.cell hM hMF).trans ck0.out
     go_wp2_with (fail)
     go_at_call 23
     refine (num_wi N F M 10 _ m.nonce hg.out.nonce v1 hW.out (by obtain ⟨a1,a2,a3,a4,a5,a6,a7,a8,a9,a10,a11,a12⟩:=hlen.out; (try simp only [List.length_append]); (try simp only [List.length_cons,List.length_nil]); omega) ((hK.out.cell hM hMF).trans (hc.out 10))).mono ?_
     rintro e v2 ⟨rfl,h2,h3⟩
     have hW':=Hid.mk h2
     have hK':=Hid.mk (hK.out.trans h3)
     clear h2 h3 hW hK ck
     have hW:=hW'
     have hK:=hK'
     clear hW' hK'
     have ck:=(hK.out.cell hM hMF).trans ck0.out
     go_wp2_with (fail)
     go_at_call 60
     refine (flag_w N F M 12 _ m.full v2 hW.out (by obtain ⟨a1,a2,a3,a4,a5,a6,a7,a8,a9,a10,a11,a12⟩:=hlen.out; (try simp only [List.length_append]); (try simp only [List.length_cons,List.length_nil]); omega) ((hK.out.cell hM hMF).trans (hc.out 12))).mono ?_
     rintro e v3 ⟨rfl,h2,h3⟩
     have hW':=Hid.mk h2
     have hK':=Hid.mk (hK.out.trans h3)
     clear h2 h3 hW hK ck
     have hW:=hW'
     have hK:=hK'
     clear hW' hK'
     have ck:=(hK.out.cell hM hMF).trans ck0.out
     have cf:v3.cell? ⟨M,12,none⟩=some (.bool true):=((hK.out.cell hM hMF).trans (hc.out 12)).trans (by rw [← hf]; rfl)
     go_wp2_with (fail)
     go_at_call 23
     refine (num_wi N F M 6 _ m.op hg.out.op v3 hW.out (by obtain ⟨a1,a2,a3,a4,a5,a6,a7,a8,a9,a10,a11,a12⟩:=hlen.out; (try simp only [List.length_append]); (try simp only [List.length_cons,List.length_nil]); omega) ((hK.out.cell hM hMF).trans (hc.out 6))).mono ?_
     rintro e v4 ⟨rfl,h2,h3⟩
     have hW':=Hid.mk h2
     have hK':=Hid.mk (hK.out.trans h3)
     clear h2 h3 hW hK ck cf
     have hW:=hW'
     have hK:=hK'
     clear hW' hK'
     have ck:=(hK.out.cell hM hMF).trans ck0.out
     go_wp2_with (fail)
     go_at_call 23
     refine (num_wi N F M 7 _ m.commit hg.out.commit v4 hW.out (by obtain ⟨a1,a2,a3,a4,a5,a6,a7,a8,a9,a10,a11,a12⟩:=hlen.out; (try simp only [List.length_append]); (try simp only [List.length_cons,List.length_nil]); omega) ((hK.out.cell hM hMF).trans (hc.out 7))).mono ?_
     rintro e v5 ⟨rfl,h2,h3⟩
     have hW':=Hid.mk h2
     have hK':=Hid.mk (hK.out.trans h3)
     clear h2 h3 hW hK ck
     have hW:=hW'
     have hK:=hK'
     clear hW' hK'
     have ck:=(hK.out.cell hM hMF).trans ck0.out
     have htb:tailB m=true:=by simp [tailB,hk,hf]
     clear ck
     have ht:=tail_any m vk (.slice a m.ents.length cap) v5
     rw [htb] at ht
     have htH:=Hid.mk ht
     clear ht
     have hrow:=Hid.mk ((hK.out.block M hM hMF).trans hRowH.out)
     go_wp2_with (refine wpList_load_row rfl 35 _ rfl M rfl _ _ _ _ hrow.out Tryz.underlying35 rfl (msInfo.trans rfl) ?_)
     go_at_call 62
     refine htH.out.mono ?_
     rintro e v6 ⟨rfl,hB⟩
     have hW':=Hid.mk (hW.out.below hB)
     have hK':=Hid.mk (hK.out.trans (Kp.of (hB.mono hW.out.2.1)))
     clear hB hW hK htH hrow
     have hW:=hW'
     have hK:=hK'
     clear hW' hK'
     have ck:=(hK.out.cell hM hMF).trans ck0.out
     go_wp2_with (fail)
     go_at_call 23
     refine (num_wi N F M 13 _ m.base hg.out.base v6 hW.out (by obtain ⟨a1,a2,a3,a4,a5,a6,a7,a8,a9,a10,a11,a12⟩:=hlen.out; (try simp only [List.length_append]); (try simp only [List.length_cons,List.length_nil]); omega) ((hK.out.cell hM hMF).trans (hc.out 13))).mono ?_
     rintro e v7 ⟨rfl,h2,h3⟩
     have hW':=Hid.mk h2
     have hK':=Hid.mk (hK.out.trans h3)
     clear h2 h3 hW hK ck
     have hW:=hW'
     have hK:=hK'
     clear hW' hK'
     have ck:=(hK.out.cell hM hMF).trans ck0.out
     go_wp2_with (fail)
     go_at_call 59
     refine (text_w N F M 14 _ m.state v7 hW.out (by obtain ⟨a1,a2,a3,a4,a5,a6,a7,a8,a9,a10,a11,a12⟩:=hlen.out; (try simp only [List.length_append]); (try simp only [List.length_cons,List.length_nil]); omega) hg.out.state ((hK.out.cell hM hMF).trans (hc.out 14))).mono ?_
     rintro e v8 ⟨rfl,h2,h3⟩
     have hW':=Hid.mk h2
     have hK':=Hid.mk (hK.out.trans h3)
     clear h2 h3 hW hK ck
     have hW:=hW'
     have hK:=hK'
     clear hW' hK'
     have ck:=(hK.out.cell hM hMF).trans ck0.out
     go_wp2_with (fail)
     go_at_call 63
     refine (ents_w N F M 15 _ a cap m.ents hg.out.ents hg.out.e64 hg.out.eT v8 hW.out (by obtain ⟨a1,a2,a3,a4,a5,a6,a7,a8,a9,a10,a11,a12⟩:=hlen.out; (try simp only [List.length_append]); (try simp only [List.length_cons,List.length_nil]); omega) hM hMF ((hK.out.cell hM hMF).trans (hc.out 15)) (hAH.out.kp hK.out)).mono ?_
     rintro e v9 ⟨rfl,h2,h3⟩
     have hW':=Hid.mk h2
     have hK':=Hid.mk (hK.out.trans h3)
     clear h2 h3 hW hK ck
     have hW:=hW'
     have hK:=hK'
     clear hW' hK'
     go_wp2_with (fail)
     go_end0
     refine ⟨rfl,?_,hK.out⟩
     have h:=hW.out
     skip
     rw [← hL0H.out] at h
     have e:bodyP m=bodyP m:=rfl
     have e2:l++allP m=_:=rfl
     revert h
     unfold allP bodyP tailP
     rw [htb]
     rw [hf]
     simp [hk]
   | false=>as_aux_lemma=>
     have ck0:=Hid.mk (show w.cell? ⟨M,0,none⟩=some (.int .i64 10) from (hc.out 0).trans (by rw [← hk]; rfl))
     have ck:=(hK.out.cell hM hMF).trans ck0.out
     go_wp2_with (fail)
     go_at_call 23
     refine (num_wi N F M 4 _ m.view hg.out.view wc hW.out (by obtain ⟨a1,a2,a3,a4,a5,a6,a7,a8,a9,a10,a11,a12⟩:=hlen.out; (try simp only [List.length_append]); (try simp only [List.length_cons,List.length_nil]); omega) ((hK.out.cell hM hMF).trans (hc.out 4))).mono ?_
     rintro e v1 ⟨rfl,h2,h3⟩
     have hW':=Hid.mk h2
     have hK':=Hid.mk (hK.out.trans h3)
     clear h2 h3 hW hK ck
     have hW:=hW'
     have hK:=hK'
     clear hW' hK'
     have ck:=(hK.out.cell hM hMF).trans ck0.out
     go_wp2_with (fail)
     go_at_call 23
     refine (num_wi N F M 10 _ m.nonce hg.out.nonce v1 hW.out (by obtain ⟨a1,a2,a3,a4,a5,a6,a7,a8,a9,a10,a11,a12⟩:=hlen.out; (try simp only [List.length_append]); (try simp only [List.length_cons,List.length_nil]); omega) ((hK.out.cell hM hMF).trans (hc.out 10))).mono ?_
     rintro e v2 ⟨rfl,h2,h3⟩
     have hW':=Hid.mk h2
     have hK':=Hid.mk (hK.out.trans h3)
     clear h2 h3 hW hK ck
     have hW:=hW'
     have hK:=hK'
     clear hW' hK'
     have ck:=(hK.out.cell hM hMF).trans ck0.out
     go_wp2_with (fail)
     go_at_call 60
     refine (flag_w N F M 12 _ m.full v2 hW.out (by obtain ⟨a1,a2,a3,a4,a5,a6,a7,a8,a9,a10,a11,a12⟩:=hlen.out; (try simp only [List.length_append]); (try simp only [List.length_cons,List.length_nil]); omega) ((hK.out.cell hM hMF).trans (hc.out 12))).mono ?_
     rintro e v3 ⟨rfl,h2,h3⟩
     have hW':=Hid.mk h2
     have hK':=Hid.mk (hK.out.trans h3)
     clear h2 h3 hW hK ck
     have hW:=hW'
     have hK:=hK'
     clear hW' hK'
     have ck:=(hK.out.cell hM hMF).trans ck0.out
     have cf:v3.cell? ⟨M,12,none⟩=some (.bool false):=((hK.out.cell hM hMF).trans (hc.out 12)).trans (by rw [← hf]; rfl)
     have htb:tailB m=false:=by simp [tailB,hk,hf]
     clear ck
     have ht:=tail_any m vk (.slice a m.ents.length cap) v3
     rw [htb] at ht
     have htH:=Hid.mk ht
     clear ht
     have hrow:=Hid.mk ((hK.out.block M hM hMF).trans hRowH.out)
     go_wp2_with (refine wpList_load_row rfl 35 _ rfl M rfl _ _ _ _ hrow.out Tryz.underlying35 rfl (msInfo.trans rfl) ?_)
     go_at_call 62
     refine htH.out.mono ?_
     rintro e v4 ⟨rfl,hB⟩
     have hW':=Hid.mk (hW.out.below hB)
     have hK':=Hid.mk (hK.out.trans (Kp.of (hB.mono hW.out.2.1)))
     clear hB hW hK htH hrow
     have hW:=hW'
     have hK:=hK'
     clear hW' hK'
     have ck:=(hK.out.cell hM hMF).trans ck0.out
     go_wp2_with (fail)
     go_end0
     refine ⟨rfl,?_,hK.out⟩
     have h:=hW.out
     skip
     rw [← hL0H.out] at h
     have e:bodyP m=bodyP m:=rfl
     have e2:l++allP m=_:=rfl
     revert h
     unfold allP bodyP tailP
     rw [htb]
     rw [hf]
     simp [hk]
  ·as_aux_lemma=>
    have ck0:=Hid.mk (show w.cell? ⟨M,0,none⟩=some (.int .i64 11) from (hc.out 0).trans (by rw [← hk]; rfl))
    have ck:=(hK.out.cell hM hMF).trans ck0.out
    go_wp2_with (fail)
    go_at_call 61
    refine (views_w N F M L0 m hg.out vk a cap wc hW.out (by omega) hM hMF (fun i=>(hK.out.cell hM hMF).trans (hc.out i)) (hAH.out.kp hK.out) h2H.out (by omega)).mono ?_
    rintro e v1 ⟨rfl,h2,h3⟩
    have hW':=Hid.mk h2
    have hK':=Hid.mk (hK.out.trans h3)
    clear h2 h3 hW hK ck
    have hW:=hW'
    have hK:=hK'
    clear hW' hK'
    have ck:=(hK.out.cell hM hMF).trans ck0.out
    obtain ⟨L1,hL1⟩:∃ L1,L0++viewsP m=L1:=⟨_,rfl⟩
    have hl1:L1.length≤70000:=by
     rw [← hL1]
     have:=views_le m hg.out
     simp only [List.length_append]; omega
    rw [hL1] at hW
    have htb:tailB m=false:=by simp [tailB,hk]
    clear ck
    have ht:=tail_any m vk (.slice a m.ents.length cap) v1
    rw [htb] at ht
    have htH:=Hid.mk ht
    clear ht
    have hrow:=Hid.mk ((hK.out.block M hM hMF).trans hRowH.out)
    go_wp2_with (refine wpList_load_row rfl 35 _ rfl M rfl _ _ _ _ hrow.out Tryz.underlying35 rfl (msInfo.trans rfl) ?_)
    go_at_call 62
    refine htH.out.mono ?_
    rintro e v2 ⟨rfl,hB⟩
    have hW':=Hid.mk (hW.out.below hB)
    have hK':=Hid.mk (hK.out.trans (Kp.of (hB.mono hW.out.2.1)))
    clear hB hW hK htH hrow
    have hW:=hW'
    have hK:=hK'
    clear hW' hK'
    have ck:=(hK.out.cell hM hMF).trans ck0.out
    go_wp2_with (fail)
    go_end0
    refine ⟨rfl,?_,hK.out⟩
    have h:=hW.out
    rw [← hL1] at h
    rw [← hL0H.out] at h
    have e:bodyP m=bodyP m:=rfl
    have e2:l++allP m=_:=rfl
    revert h
    unfold allP bodyP tailP
    rw [htb]
    skip
    simp [hk]
  ·as_aux_lemma=>
    have ck0:=Hid.mk (show w.cell? ⟨M,0,none⟩=some (.int .i64 12) from (hc.out 0).trans (by rw [← hk]; rfl))
    have ck:=(hK.out.cell hM hMF).trans ck0.out
    go_wp2_with (fail)
    go_at_call 61
    refine (views_w N F M L0 m hg.out vk a cap wc hW.out (by omega) hM hMF (fun i=>(hK.out.cell hM hMF).trans (hc.out i)) (hAH.out.kp hK.out) h2H.out (by omega)).mono ?_
    rintro e v1 ⟨rfl,h2,h3⟩
    have hW':=Hid.mk h2
    have hK':=Hid.mk (hK.out.trans h3)
    clear h2 h3 hW hK ck
    have hW:=hW'
    have hK:=hK'
    clear hW' hK'
    have ck:=(hK.out.cell hM hMF).trans ck0.out
    obtain ⟨L1,hL1⟩:∃ L1,L0++viewsP m=L1:=⟨_,rfl⟩
    have hl1:L1.length≤70000:=by
     rw [← hL1]
     have:=views_le m hg.out
     simp only [List.length_append]; omega
    rw [hL1] at hW
    have htb:tailB m=true:=by simp [tailB,hk]
    clear ck
    have ht:=tail_any m vk (.slice a m.ents.length cap) v1
    rw [htb] at ht
    have htH:=Hid.mk ht
    clear ht
    have hrow:=Hid.mk ((hK.out.block M hM hMF).trans hRowH.out)
    go_wp2_with (refine wpList_load_row rfl 35 _ rfl M rfl _ _ _ _ hrow.out Tryz.underlying35 rfl (msInfo.trans rfl) ?_)
    go_at_call 62
    refine htH.out.mono ?_
    rintro e v2 ⟨rfl,hB⟩
    have hW':=Hid.mk (hW.out.below hB)
    have hK':=Hid.mk (hK.out.trans (Kp.of (hB.mono hW.out.2.1)))
    clear hB hW hK htH hrow
    have hW:=hW'
    have hK:=hK'
    clear hW' hK'
    have ck:=(hK.out.cell hM hMF).trans ck0.out
    go_wp2_with (fail)
    go_at_call 23
    refine (num_wi N F M 13 _ m.base hg.out.base v2 hW.out (by obtain ⟨a1,a2,a3,a4,a5,a6,a7,a8,a9,a10,a11,a12⟩:=hlen.out; (try simp only [List.length_append]); (try simp only [List.length_cons,List.length_nil]); omega) ((hK.out.cell hM hMF).trans (hc.out 13))).mono ?_
    rintro e v3 ⟨rfl,h2,h3⟩
    have hW':=Hid.mk h2
    have hK':=Hid.mk (hK.out.trans h3)
    clear h2 h3 hW hK ck
    have hW:=hW'
    have hK:=hK'
    clear hW' hK'
    have ck:=(hK.out.cell hM hMF).trans ck0.out
    go_wp2_with (fail)
    go_at_call 59
    refine (text_w N F M 14 _ m.state v3 hW.out (by obtain ⟨a1,a2,a3,a4,a5,a6,a7,a8,a9,a10,a11,a12⟩:=hlen.out; (try simp only [List.length_append]); (try simp only [List.length_cons,List.length_nil]); omega) hg.out.state ((hK.out.cell hM hMF).trans (hc.out 14))).mono ?_
    rintro e v4 ⟨rfl,h2,h3⟩
    have hW':=Hid.mk h2
    have hK':=Hid.mk (hK.out.trans h3)
    clear h2 h3 hW hK ck
    have hW:=hW'
    have hK:=hK'
    clear hW' hK'
    have ck:=(hK.out.cell hM hMF).trans ck0.out
    go_wp2_with (fail)
    go_at_call 63
    refine (ents_w N F M 15 _ a cap m.ents hg.out.ents hg.out.e64 hg.out.eT v4 hW.out (by obtain ⟨a1,a2,a3,a4,a5,a6,a7,a8,a9,a10,a11,a12⟩:=hlen.out; (try simp only [List.length_append]); (try simp only [List.length_cons,List.length_nil]); omega) hM hMF ((hK.out.cell hM hMF).trans (hc.out 15)) (hAH.out.kp hK.out)).mono ?_
    rintro e v5 ⟨rfl,h2,h3⟩
    have hW':=Hid.mk h2
    have hK':=Hid.mk (hK.out.trans h3)
    clear h2 h3 hW hK ck
    have hW:=hW'
    have hK:=hK'
    clear hW' hK'
    go_wp2_with (fail)
    go_end0
    refine ⟨rfl,?_,hK.out⟩
    have h:=hW.out
    rw [← hL1] at h
    rw [← hL0H.out] at h
    have e:bodyP m=bodyP m:=rfl
    have e2:l++allP m=_:=rfl
    revert h
    unfold allP bodyP tailP
    rw [htb]
    skip
    simp [hk]
end Go.Proofs.YtniamhbcmcgonaaGreatDoor
namespace Go.Proofs.YtniamhbcmcgonaaGreatDoor
open Go.RowKit Go.Ev
theorem rd_numK {R I M K:Nat} {vk ve:Value} {w0 w:World} {p:Rs} (h:RdW R I M K vk ve w0 p w) {cs:Array Value} {t:TypeId} (hK:w.heap[K]?=some (.cells cs t (0,0))) (hKI:K≠I) (hKM:K≠M) (off:Nat) (g:Ms→Int→Ms) (ho:off < 16) (hg:∀ z,(msC p.1 vk ve).setIfInBounds off (.int .i64 z)=msC (g p.1 z) vk ve) :
  Calls Tryz.prog 23 #[.pointer (some ⟨R,0,none⟩),.pointer (some ⟨M,off,none⟩)] w fun e w'=>e= .returned (.tuple #[])∧RdW R I M K vk ve w0 (stN g p) w'∧w'.heap[K]?=some (.cells cs t (0,0)):=by
 refine (num_rx R I M off false p.2 _ _ w h.rd h.inp h.len h.row ho h.mi).mono ?_
 rintro e w' ⟨he,h1,h2,h3⟩
 rw [hg] at h2
 exact ⟨he,⟨h.rd.kx h3 (fun e=>e.elim h.ri (fun e=>h.mr e.symm)),h1,h2,h.kx.trans (h3.mono fun i _ e=>e.elim .inl fun e=> .inr (.inl e)),Nat.le_trans (stN_len g p) h.len,h.mi,h.mr,h.ri⟩,(h3.block K (Array.getElem?_eq_some_iff.1 hK).1 (fun e=>e.elim hKI hKM)).trans hK⟩
def knS:Nat→Inp→List Int × Inp
 | 0,st=>([],st)
 | n+1,st=>((knS n st).1++[(intS (knS n st).2).1],(intS (knS n st).2).2)
theorem knS_len (st:Inp):∀ n,(knS n st).2.1.length≤st.1.length
 | 0=>Nat.le_refl _
 | n+1=>Nat.le_trans (intS_len _) (knS_len st n)
theorem knS_size (st:Inp):∀ n,(knS n st).1.length=n
 | 0=>rfl
 | n+1=>by simp [knS,knS_size st n]
def hdS (p:Rs):Rs:=if p.1.kind=1 then p else ({ (stN g_born (stN g_from_ p)).1 with kn:=(knS 3 (stN g_born (stN g_from_ p)).2).1 },(knS 3 (stN g_born (stN g_from_ p)).2).2)
def bodyS (p:Rs):Rs:=
 if p.1.kind=1 then stT g_text (stN g_number (stN g_client p)) else if p.1.kind=4 then stT g_text (stN g_number (stN g_client (stN g_view p)))
 else if p.1.kind=9 then stN g_nonce p else if p.1.kind=10 then (if (stF g_full (stN g_nonce (stN g_view p))).1.full=true then stN g_commit (stN g_op (stF g_full (stN g_nonce (stN g_view p)))) else stF g_full (stN g_nonce (stN g_view p)))
 else viewsS p
def tailS (p:Rs):Ms × Bool × Inp:=
 if tailB p.1=true then ({ (stT g_state (stN g_base p)).1 with ents:=(entsS (stT g_state (stN g_base p)).2).1 },(entsS (stT g_state (stN g_base p)).2).2.1,(entsS (stT g_state (stN g_base p)).2).2.2)
 else (p.1,false,p.2)
def allS (p:Rs):Ms × Bool × Inp:=tailS (bodyS (hdS p))
theorem hdS_kind (p:Rs):(hdS p).1.kind=p.1.kind:=by unfold hdS; split <;> rfl
theorem hdS_ents (p:Rs):(hdS p).1.ents=p.1.ents:=by unfold hdS; split <;> rfl
theorem viewsS_keep (p:Rs):(viewsS p).1.kind=p.1.kind∧(viewsS p).1.kn=p.1.kn:=by
 unfold viewsS viewsS0
 (repeat' split) <;> exact ⟨rfl,rfl⟩
theorem RdW.below {R I M K:Nat} {vk ve:Value} {w0 w w':World} {p:Rs} (h:RdW R I M K vk ve w0 p w) (hb:Below w.heap.size w w'):RdW R I M K vk ve w0 p w':=
 ⟨h.rd.kx (Kx.of (S:=fun _=>False) hb) id,h.inp.below hb,(hb.block M (Array.getElem?_eq_some_iff.1 h.row).1).trans h.row,h.kx.trans (Kx.of hb),h.len,h.mi,h.mr,h.ri⟩
set_option maxRecDepth 100000 in
set_option maxHeartbeats 12800000 in
theorem all_r (R I M K:Nat) (vk:Value) (w:World) (p:Rs) (hR:RdF R I false w) (hI:InS 120 I p.2 w) (hl:p.2.1.length≤1000000) (hM:w.heap[M]?=some (.cells (msC p.1 vk (.slice none 0 0)) 35 (0,0)))
  (mi:M≠I) (mr:M≠R) (ri:R≠I) (he:p.1.ents=[]) (h1:1≤p.1.kind) (h12:p.1.kind≤12)
  (hkn:p.1.kind≠1→p.1.kn.length=3∧vk= .slice (some ⟨K,0,none⟩) 3 3∧w.heap[K]?=some (.cells (intRow p.1.kn) 3 (0,0))∧K≠I∧K≠M∧K≠R) :
  Calls Tryz.prog 24 #[.pointer (some ⟨M,0,none⟩),.pointer (some ⟨R,0,none⟩)] w fun e w'=>e= .returned (.tuple #[])∧InS 120 I (allS p).2.2 w'∧RdF R I (allS p).2.1 w'∧
   (∃ ve,w'.heap[M]?=some (.cells (msC (allS p).1 vk ve) 35 (0,0))∧w'.ownsRow w.heap.size 75 3 ve (allS p).1.ents.length ((allS p).1.ents.flatMap entC))∧
   (p.1.kind≠1→w'.heap[K]?=some (.cells (intRow (allS p).1.kn) 3 (0,0)))∧Kx (fun i=>i=I∨i=M∨i=K∨i=R) w w':=by
 have hMw:M < w.heap.size:=(Array.getElem?_eq_some_iff.1 hM).1
 have hRw:R < w.heap.size:=(Array.getElem?_eq_some_iff.1 hR).1
 have hIw:I < w.heap.size:=hI.lt
 have hH:=Hid.mk (show RdW R I M K vk (.slice none 0 0) w p w from ⟨hR,hI,hM,Kx.refl _ _,hl,mi,mr,ri⟩)
 have hknH:=Hid.mk hkn
 have heH:=Hid.mk he
 clear hR hI hM hkn he hl
 go_enter Tryz.func24,Tryz.ntmps24
 have ck:w.cell? ⟨M,0,none⟩=some (.int .i64 p.1.kind):=hH.out.ck 0
 go_upto_if 9 with fail
 go_cut [4] (fun _ wr=>RdW R I M K vk (.slice none 0 0) w (hdS p) wr∧(p.1.kind≠1→wr.heap[K]?=some (.cells (intRow (hdS p).1.kn) 3 (0,0))))
 case first=>as_aux_lemma=>
  by_cases hk1:p.1.kind=1
  ·have e1:(p.1.kind !=1)=false:=by simp [hk1]
   go_wp2_with (fail)
   go_meet
   have e:hdS p=p:=by unfold hdS; rw [if_pos hk1]
   rw [e]
   exact ⟨hH.out,fun h=>absurd hk1 h⟩
  ·have e1:(p.1.kind !=1)=true:=by simp [hk1]
   obtain ⟨h3,rfl,hK,hKI,hKM,hKR⟩:=hknH.out hk1
   have hKw:K < w.heap.size:=(Array.getElem?_eq_some_iff.1 hK).1
   have hKH:=Hid.mk hK
   have hk:p.1.kind=p.1.kind:=rfl
   clear hK
   have hKk:=hKH
   go_wp2_with (fail)
   go_at_call 23
   refine (rd_numK hH.out hKk.out hKI hKM 1 g_from_ (by decide) (fun z=>rfl)).mono ?_
   rintro e w1 ⟨rfl,h2,hq⟩
   have hH':=Hid.mk h2
   have hKk':=Hid.mk hq
   clear h2 hH ck hq hKk
   have hH:=hH'
   have hKk:=hKk'
   clear hH' hKk'
   have ck:w1.cell? ⟨M,0,none⟩=some (.int .i64 p.1.kind):=(hH.out.ck 0).trans rfl
   go_wp2_with (fail)
   go_at_call 23
   refine (rd_numK hH.out hKk.out hKI hKM 2 g_born (by decide) (fun z=>rfl)).mono ?_
   rintro e w2 ⟨rfl,h2,hq⟩
   have hH':=Hid.mk h2
   have hKk':=Hid.mk hq
   clear h2 hH ck hq hKk
   have hH:=hH'
   have hKk:=hKk'
   clear hH' hKk'
   have ck:w2.cell? ⟨M,0,none⟩=some (.int .i64 p.1.kind):=(hH.out.ck 0).trans rfl
   obtain ⟨q,hq⟩:∃ q,stN g_born (stN g_from_ p)=q:=⟨_,rfl⟩
   have hqk:q.1.kn=p.1.kn:=by rw [← hq]; rfl
   rw [hq] at hH
   have hqH:=Hid.mk hq
   clear hq
   have hlq:=fun n=>knS_len q.2 n
   have cv:w2.cell? ⟨M,3,none⟩=some (.slice (some ⟨K,0,none⟩) 3 3):=(hH.out.ck 3).trans rfl
   obtain ⟨wa,hwa⟩:∃ wa,wa=w2:=⟨w2,rfl⟩
   go_wp2_with (fail)
   go_loopw [4,25] (fun _ y wr=>∃ k:Nat,k≤3∧y= .int .i64 (k:Nat)∧RdW R I M K (.slice (some ⟨K,0,none⟩) 3 3) (.slice none 0 0) w (q.1,(knS k q.2).2) wr∧wr.heap[K]?=some (.cells (intRow ((knS k q.2).1++p.1.kn.drop k)) 3 (0,0))) (fun _ y _=>3 - (intOf y).toNat)
   case atStart=>exact ⟨0,Nat.zero_le _,rfl,hH.out,hKk.out⟩
   case round=>
    clear hH hKk cv ck
    obtain ⟨k,hkk,rfl,hH,hKk⟩:=hrel
    have hH:=Hid.mk hH
    have hKk:=Hid.mk hKk
    have hsz:=knS_size q.2 k
    by_cases hlt:k < 3
    ·have hki:(k:Int) < 3:=by omega
     have cv:wr.cell? ⟨M,3,none⟩=some (.slice (some ⟨K,0,none⟩) 3 3):=(hH.out.ck 3).trans rfl
     have hone:=Hid.mk (num_rx R I K k false (knS k q.2).2 _ _ wr hH.out.rd hH.out.inp hH.out.len hKk.out (by simp [intRow,hsz]; omega) hKI)
     go_wp2_with (fail)
     go_at_call 23
     refine hone.out.mono ?_
     rintro e w3 ⟨rfl,a1,a2,a3⟩
     have hn:Hid (RdW R I M K (.slice (some ⟨K,0,none⟩) 3 3) (.slice none 0 0) w (q.1,(knS (k+1) q.2).2) w3∧w3.heap[K]?=some (.cells (intRow ((knS (k+1) q.2).1++p.1.kn.drop (k+1))) 3 (0,0))):= .mk (by
      have hh:=hH.out
      refine ⟨⟨hh.rd.kx a3 (fun e=>e.elim hh.ri (fun e=>hKR e.symm)),a1,(a3.block M (Array.getElem?_eq_some_iff.1 hh.row).1 (fun e=>e.elim hh.mi (fun e=>hKM e.symm))).trans hh.row,hh.kx.trans (a3.mono fun i _ e=>e.elim .inl fun e=> .inr (.inr e)),Nat.le_trans (intS_len _) hh.len,hh.mi,hh.mr,hh.ri⟩,?_⟩
      rw [a2]
      congr 2
      unfold intRow
      have e2:p.1.kn.drop k=p.1.kn[k]'(by omega)::p.1.kn.drop (k+1):=List.drop_eq_getElem_cons (by omega)
      rw [e2]
      simp only [knS,List.setIfInBounds_toArray]
      congr 1
      simp [hsz]
      rw [List.drop_eq_getElem_cons (by simp; omega)]
      simp)
     clear a1 a2 a3
     go_wp2_with (fail)
     first
      | exact ⟨⟨k+1,by omega,congrArg _ (by omega),hn.out.1,hn.out.2⟩,by simp [intOf]; omega⟩
      | (refine ⟨?_,by simp [intOf]; omega⟩; (repeat apply Exists.intro); exact ⟨⟨k+1,by omega,congrArg _ (by omega),hn.out.1,hn.out.2⟩,rfl⟩)
    ·obtain rfl:k=3:=by omega
     go_wp2_with (fail)
     go_meet
     have e:hdS p=({ q.1 with kn:=(knS 3 q.2).1 },(knS 3 q.2).2):=by
      unfold hdS
      rw [if_neg hk1,hqH.out]
     have hh:=hH.out
     rw [e]
     refine ⟨⟨hh.rd,hh.inp,hh.row,hh.kx,hh.len,hh.mi,hh.mr,hh.ri⟩,fun _=> ?_⟩
     have:=hKk.out
     rw [show p.1.kn.drop 3=[] from List.drop_eq_nil_of_le (by omega),List.append_nil] at this
     exact this
 case rest=>as_aux_lemma=>
  obtain ⟨hRd,hKd⟩:=hcut
  have hq1:=hdS_kind p
  have hq2:=hdS_ents p
  obtain ⟨q,hq⟩:∃ q,hdS p=q:=⟨_,rfl⟩
  rw [hq] at hRd hKd hq1 hq2
  have hall:Hid (allS p=tailS (bodyS q)):= .mk (by unfold allS; rw [hq])
  have hqe:q.1.ents=[]:=hq2.trans heH.out
  have hqeH:=Hid.mk hqe
  have hKdH:=Hid.mk hKd
  have hRdH:=Hid.mk hRd
  have hwc:w.heap.size≤wc.heap.size:=hRd.kx.size
  have hHc:=Hid.mk (show RdW R I M M vk (.slice none 0 0) wc q wc from ⟨hRd.rd,hRd.inp,hRd.row,Kx.refl _ _,hRd.len,hRd.mi,hRd.mr,hRd.ri⟩)
  clear hH ck
  have hH:=hHc
  clear hHc hRd hKd hq heH hqe hq2
  have hfinish:=Hid.mk (show ∀ (w':World) (x:Ms × Bool × Inp),x.1.kn=q.1.kn→InS 120 I x.2.2 w'→RdF R I x.2.1 w'→(∃ ve,w'.heap[M]?=some (.cells (msC x.1 vk ve) 35 (0,0))∧w'.ownsRow wc.heap.size 75 3 ve x.1.ents.length (x.1.ents.flatMap entC))→Kx (fun i=>i=I∨i=M∨i=R) wc w'→
    InS 120 I x.2.2 w'∧RdF R I x.2.1 w'∧(∃ ve,w'.heap[M]?=some (.cells (msC x.1 vk ve) 35 (0,0))∧w'.ownsRow w.heap.size 75 3 ve x.1.ents.length (x.1.ents.flatMap entC))∧
    (p.1.kind≠1→w'.heap[K]?=some (.cells (intRow x.1.kn) 3 (0,0)))∧Kx (fun i=>i=I∨i=M∨i=K∨i=R) w w' from by
   intro w' x hx b1 b2 b3 b4
   obtain ⟨ve,b3,b5⟩:=b3
   refine ⟨b1,b2,⟨ve,b3,own_base b5 hwc⟩,fun h=> ?_,?_⟩
   ·obtain ⟨_,_,_,k1,k2,k3⟩:=hknH.out h
    rw [hx,← hKdH.out h]
    exact b4.block K (Array.getElem?_eq_some_iff.1 (hKdH.out h)).1 (fun e=>e.elim k1 fun e=>e.elim k2 k3)
   ·exact (hRdH.out.kx.mono fun i _ e=>e.elim .inl fun e=>e.elim (fun e=> .inr (.inl e)) fun e=> .inr (.inr (.inl e))).trans (b4.mono fun i _ e=>e.elim .inl fun e=>e.elim (fun e=> .inr (.inl e)) fun e=> .inr (.inr (.inr e))))
  have hMc:M < wc.heap.size:=by omega
  have hRc:R < wc.heap.size:=by omega
  have hIc:I < wc.heap.size:=by omega
  have hk:q.1.kind=1∨q.1.kind=2∨q.1.kind=3∨q.1.kind=4∨q.1.kind=5∨q.1.kind=6∨q.1.kind=7∨q.1.kind=8∨q.1.kind=9∨q.1.kind=10∨q.1.kind=11∨q.1.kind=12:=by omega
  clear h1 h12 hknH hKdH hRdH hq1
  rcases hk with hk | hk | hk | hk | hk | hk | hk | hk | hk | hk | hk | hk
  ·as_aux_lemma=>
    have ck:wc.cell? ⟨M,0,none⟩=some (.int .i64 1):=(hH.out.ck 0).trans (by rw [← hk]; rfl)
    go_wp2_with (fail)
    go_at_call 23
    refine (rd_num hH.out 8 g_client (by decide) (fun z=>rfl)).mono ?_
    rintro e v1 ⟨rfl,h2⟩
    have hH':=Hid.mk h2
    clear h2 hH ck
    have hH:=hH'
    clear hH'
    have ck:v1.cell? ⟨M,0,none⟩=some (.int .i64 1):=(hH.out.ck 0).trans (by rw [← hk]; rfl)
    go_wp2_with (fail)
    go_at_call 23
    refine (rd_num hH.out 9 g_number (by decide) (fun z=>rfl)).mono ?_
    rintro e v2 ⟨rfl,h2⟩
    have hH':=Hid.mk h2
    clear h2 hH ck
    have hH:=hH'
    clear hH'
    have ck:v2.cell? ⟨M,0,none⟩=some (.int .i64 1):=(hH.out.ck 0).trans (by rw [← hk]; rfl)
    go_wp2_with (fail)
    go_at_call 59
    refine (rd_text hH.out 11 g_text (by decide) (fun z=>rfl)).mono ?_
    rintro e v3 ⟨rfl,h2⟩
    have hH':=Hid.mk h2
    clear h2 hH ck
    have hH:=hH'
    clear hH'
    have ck:v3.cell? ⟨M,0,none⟩=some (.int .i64 1):=(hH.out.ck 0).trans (by rw [← hk]; rfl)
    have hbody:=Hid.mk (show bodyS q=(stT g_text (stN g_number (stN g_client q))) by unfold bodyS; simp [hk])
    have hkn2:=Hid.mk (show ((stT g_text (stN g_number (stN g_client q))):Rs).1.kn=q.1.kn from rfl)
    have hvk:((stT g_text (stN g_number (stN g_client q))):Rs).1.kind=1:=hk
    obtain ⟨s,hs⟩:∃ s,(stT g_text (stN g_number (stN g_client q)))=s:=⟨_,rfl⟩
    rw [hs] at hH hbody hkn2 hvk
    have hown:=Hid.mk (show v3.ownsRow wc.heap.size 75 3 (.slice none 0 0) s.1.ents.length (s.1.ents.flatMap entC) by
     have e:s.1.ents=[]:=by rw [← hs]; exact hqeH.out
     rw [e]; exact World.ownsRow_nil _ _ _ _)
    clear hs
    have htb:tailB s.1=false:=by simp [tailB,hvk]
    have ht:=tail_any s.1 vk (.slice none 0 0) v3
    rw [htb] at ht
    have htH:=Hid.mk ht
    clear ht ck
    have hrow:=Hid.mk hH.out.row
    go_wp2_with (refine wpList_load_row rfl 35 _ rfl M rfl _ _ _ _ hrow.out Tryz.underlying35 rfl (msInfo.trans rfl) ?_)
    go_at_call 62
    refine htH.out.mono ?_
    rintro e v4 ⟨rfl,hB⟩
    have hH':=Hid.mk (hH.out.below hB)
    have hown':=Hid.mk (out_same hown.out fun g hg=>hB.block g (hown.out.lt g hg).2)
    clear hB hH htH hrow hown
    have hH:=hH'
    have hown:=hown'
    clear hH' hown'
    go_wp2_with (fail)
    go_end0
    refine ⟨rfl,?_⟩
    have e:allS p=(s.1,false,s.2):=by
     rw [hall.out,hbody.out]
     unfold tailS
     rw [if_neg (by rw [htb]; simp)]
    rw [e]
    exact hfinish.out _ (s.1,false,s.2) hkn2.out hH.out.inp hH.out.rd ⟨_,hH.out.row,hown.out⟩ (hH.out.kx.mono fun i _ e=>e.elim .inl fun e=> .inr (.inl (e.elim id id)))
  ·as_aux_lemma=>
    have ck:wc.cell? ⟨M,0,none⟩=some (.int .i64 2):=(hH.out.ck 0).trans (by rw [← hk]; rfl)
    go_wp2_with (fail)
    go_at_call 61
    refine (views_r R I M M vk wc wc q hH.out hqeH.out (Nat.le_refl _) hMc hRc hIc (by omega)).mono ?_
    rintro e v1 ⟨rfl,ve,h2,h3,h4⟩
    have hvk:(viewsS q).1.kind=2:=(viewsS_keep q).1.trans hk
    have hown:=Hid.mk h3
    have hnil:=Hid.mk h4
    have hH':=Hid.mk h2
    clear h2 h3 h4 hH ck
    have hH:=hH'
    clear hH'
    have hbody:=Hid.mk (show bodyS q=viewsS q by unfold bodyS; simp [hk])
    have hkn2:=Hid.mk (viewsS_keep q).2
    obtain ⟨s,hs⟩:∃ s,viewsS q=s:=⟨_,rfl⟩
    rw [hs] at hH hown hbody hkn2 hvk
    clear hs
    have ck:v1.cell? ⟨M,0,none⟩=some (.int .i64 2):=(hH.out.ck 0).trans (by rw [← hvk]; rfl)
    have htb:tailB s.1=false:=by simp [tailB,hvk]
    have ht:=tail_any s.1 vk ve v1
    rw [htb] at ht
    have htH:=Hid.mk ht
    clear ht ck
    have hrow:=Hid.mk hH.out.row
    go_wp2_with (refine wpList_load_row rfl 35 _ rfl M rfl _ _ _ _ hrow.out Tryz.underlying35 rfl (msInfo.trans rfl) ?_)
    go_at_call 62
    refine htH.out.mono ?_
    rintro e v2 ⟨rfl,hB⟩
    have hH':=Hid.mk (hH.out.below hB)
    have hown':=Hid.mk (out_same hown.out fun g hg=>hB.block g (hown.out.lt g hg).2)
    clear hB hH htH hrow hown
    have hH:=hH'
    have hown:=hown'
    clear hH' hown'
    go_wp2_with (fail)
    go_end0
    refine ⟨rfl,?_⟩
    have e:allS p=(s.1,false,s.2):=by
     rw [hall.out,hbody.out]
     unfold tailS
     rw [if_neg (by rw [htb]; simp)]
    rw [e]
    exact hfinish.out _ (s.1,false,s.2) hkn2.out hH.out.inp hH.out.rd ⟨_,hH.out.row,hown.out⟩ (hH.out.kx.mono fun i _ e=>e.elim .inl fun e=> .inr (.inl (e.elim id id)))
  ·as_aux_lemma=>
    have ck:wc.cell? ⟨M,0,none⟩=some (.int .i64 3):=(hH.out.ck 0).trans (by rw [← hk]; rfl)
    go_wp2_with (fail)
    go_at_call 61
    refine (views_r R I M M vk wc wc q hH.out hqeH.out (Nat.le_refl _) hMc hRc hIc (by omega)).mono ?_
    rintro e v1 ⟨rfl,ve,h2,h3,h4⟩
    have hvk:(viewsS q).1.kind=3:=(viewsS_keep q).1.trans hk
    have hown:=Hid.mk h3
    have hnil:=Hid.mk h4
    have hH':=Hid.mk h2
    clear h2 h3 h4 hH ck
    have hH:=hH'
    clear hH'
    have hbody:=Hid.mk (show bodyS q=viewsS q by unfold bodyS; simp [hk])
    have hkn2:=Hid.mk (viewsS_keep q).2
    obtain ⟨s,hs⟩:∃ s,viewsS q=s:=⟨_,rfl⟩
    rw [hs] at hH hown hbody hkn2 hvk
    clear hs
    obtain rfl:=hnil.out (by omega)
    have ck:v1.cell? ⟨M,0,none⟩=some (.int .i64 3):=(hH.out.ck 0).trans (by rw [← hvk]; rfl)
    have htb:tailB s.1=false:=by simp [tailB,hvk]
    have ht:=tail_any s.1 vk (.slice none 0 0) v1
    rw [htb] at ht
    have htH:=Hid.mk ht
    clear ht ck
    have hrow:=Hid.mk hH.out.row
    go_wp2_with (refine wpList_load_row rfl 35 _ rfl M rfl _ _ _ _ hrow.out Tryz.underlying35 rfl (msInfo.trans rfl) ?_)
    go_at_call 62
    refine htH.out.mono ?_
    rintro e v2 ⟨rfl,hB⟩
    have hH':=Hid.mk (hH.out.below hB)
    have hown':=Hid.mk (out_same hown.out fun g hg=>hB.block g (hown.out.lt g hg).2)
    clear hB hH htH hrow hown
    have hH:=hH'
    have hown:=hown'
    clear hH' hown'
    go_wp2_with (fail)
    go_end0
    refine ⟨rfl,?_⟩
    have e:allS p=(s.1,false,s.2):=by
     rw [hall.out,hbody.out]
     unfold tailS
     rw [if_neg (by rw [htb]; simp)]
    rw [e]
    exact hfinish.out _ (s.1,false,s.2) hkn2.out hH.out.inp hH.out.rd ⟨_,hH.out.row,hown.out⟩ (hH.out.kx.mono fun i _ e=>e.elim .inl fun e=> .inr (.inl (e.elim id id)))
  ·as_aux_lemma=>
    have ck:wc.cell? ⟨M,0,none⟩=some (.int .i64 4):=(hH.out.ck 0).trans (by rw [← hk]; rfl)
    go_wp2_with (fail)
    go_at_call 23
    refine (rd_num hH.out 4 g_view (by decide) (fun z=>rfl)).mono ?_
    rintro e v1 ⟨rfl,h2⟩
    have hH':=Hid.mk h2
    clear h2 hH ck
    have hH:=hH'
    clear hH'
    have ck:v1.cell? ⟨M,0,none⟩=some (.int .i64 4):=(hH.out.ck 0).trans (by rw [← hk]; rfl)
    go_wp2_with (fail)
    go_at_call 23
    refine (rd_num hH.out 8 g_client (by decide) (fun z=>rfl)).mono ?_
    rintro e v2 ⟨rfl,h2⟩
    have hH':=Hid.mk h2
    clear h2 hH ck
    have hH:=hH'
    clear hH'
    have ck:v2.cell? ⟨M,0,none⟩=some (.int .i64 4):=(hH.out.ck 0).trans (by rw [← hk]; rfl)
    go_wp2_with (fail)
    go_at_call 23
    refine (rd_num hH.out 9 g_number (by decide) (fun z=>rfl)).mono ?_
    rintro e v3 ⟨rfl,h2⟩
    have hH':=Hid.mk h2
    clear h2 hH ck
    have hH:=hH'
    clear hH'
    have ck:v3.cell? ⟨M,0,none⟩=some (.int .i64 4):=(hH.out.ck 0).trans (by rw [← hk]; rfl)
    go_wp2_with (fail)
    go_at_call 59
    refine (rd_text hH.out 11 g_text (by decide) (fun z=>rfl)).mono ?_
    rintro e v4 ⟨rfl,h2⟩
    have hH':=Hid.mk h2
    clear h2 hH ck
    have hH:=hH'
    clear hH'
    have ck:v4.cell? ⟨M,0,none⟩=some (.int .i64 4):=(hH.out.ck 0).trans (by rw [← hk]; rfl)
    have hbody:=Hid.mk (show bodyS q=(stT g_text (stN g_number (stN g_client (stN g_view q)))) by unfold bodyS; simp [hk])
    have hkn2:=Hid.mk (show ((stT g_text (stN g_number (stN g_client (stN g_view q)))):Rs).1.kn=q.1.kn from rfl)
    have hvk:((stT g_text (stN g_number (stN g_client (stN g_view q)))):Rs).1.kind=4:=hk
    obtain ⟨s,hs⟩:∃ s,(stT g_text (stN g_number (stN g_client (stN g_view q))))=s:=⟨_,rfl⟩
    rw [hs] at hH hbody hkn2 hvk
    have hown:=Hid.mk (show v4.ownsRow wc.heap.size 75 3 (.slice none 0 0) s.1.ents.length (s.1.ents.flatMap entC) by
     have e:s.1.ents=[]:=by rw [← hs]; exact hqeH.out
     rw [e]; exact World.ownsRow_nil _ _ _ _)
    clear hs
    have htb:tailB s.1=false:=by simp [tailB,hvk]
    have ht:=tail_any s.1 vk (.slice none 0 0) v4
    rw [htb] at ht
    have htH:=Hid.mk ht
    clear ht ck
    have hrow:=Hid.mk hH.out.row
    go_wp2_with (refine wpList_load_row rfl 35 _ rfl M rfl _ _ _ _ hrow.out Tryz.underlying35 rfl (msInfo.trans rfl) ?_)
    go_at_call 62
    refine htH.out.mono ?_
    rintro e v5 ⟨rfl,hB⟩
    have hH':=Hid.mk (hH.out.below hB)
    have hown':=Hid.mk (out_same hown.out fun g hg=>hB.block g (hown.out.lt g hg).2)
    clear hB hH htH hrow hown
    have hH:=hH'
    have hown:=hown'
    clear hH' hown'
    go_wp2_with (fail)
    go_end0
    refine ⟨rfl,?_⟩
    have e:allS p=(s.1,false,s.2):=by
     rw [hall.out,hbody.out]
     unfold tailS
     rw [if_neg (by rw [htb]; simp)]
    rw [e]
    exact hfinish.out _ (s.1,false,s.2) hkn2.out hH.out.inp hH.out.rd ⟨_,hH.out.row,hown.out⟩ (hH.out.kx.mono fun i _ e=>e.elim .inl fun e=> .inr (.inl (e.elim id id)))
  ·as_aux_lemma=>
    have ck:wc.cell? ⟨M,0,none⟩=some (.int .i64 5):=(hH.out.ck 0).trans (by rw [← hk]; rfl)
    go_wp2_with (fail)
    go_at_call 61
    refine (views_r R I M M vk wc wc q hH.out hqeH.out (Nat.le_refl _) hMc hRc hIc (by omega)).mono ?_
    rintro e v1 ⟨rfl,ve,h2,h3,h4⟩
    have hvk:(viewsS q).1.kind=5:=(viewsS_keep q).1.trans hk
    have hown:=Hid.mk h3
    have hnil:=Hid.mk h4
    have hH':=Hid.mk h2
    clear h2 h3 h4 hH ck
    have hH:=hH'
    clear hH'
    have hbody:=Hid.mk (show bodyS q=viewsS q by unfold bodyS; simp [hk])
    have hkn2:=Hid.mk (viewsS_keep q).2
    obtain ⟨s,hs⟩:∃ s,viewsS q=s:=⟨_,rfl⟩
    rw [hs] at hH hown hbody hkn2 hvk
    clear hs
    obtain rfl:=hnil.out (by omega)
    have ck:v1.cell? ⟨M,0,none⟩=some (.int .i64 5):=(hH.out.ck 0).trans (by rw [← hvk]; rfl)
    have htb:tailB s.1=false:=by simp [tailB,hvk]
    have ht:=tail_any s.1 vk (.slice none 0 0) v1
    rw [htb] at ht
    have htH:=Hid.mk ht
    clear ht ck
    have hrow:=Hid.mk hH.out.row
    go_wp2_with (refine wpList_load_row rfl 35 _ rfl M rfl _ _ _ _ hrow.out Tryz.underlying35 rfl (msInfo.trans rfl) ?_)
    go_at_call 62
    refine htH.out.mono ?_
    rintro e v2 ⟨rfl,hB⟩
    have hH':=Hid.mk (hH.out.below hB)
    have hown':=Hid.mk (out_same hown.out fun g hg=>hB.block g (hown.out.lt g hg).2)
    clear hB hH htH hrow hown
    have hH:=hH'
    have hown:=hown'
    clear hH' hown'
    go_wp2_with (fail)
    go_end0
    refine ⟨rfl,?_⟩
    have e:allS p=(s.1,false,s.2):=by
     rw [hall.out,hbody.out]
     unfold tailS
     rw [if_neg (by rw [htb]; simp)]
    rw [e]
    exact hfinish.out _ (s.1,false,s.2) hkn2.out hH.out.inp hH.out.rd ⟨_,hH.out.row,hown.out⟩ (hH.out.kx.mono fun i _ e=>e.elim .inl fun e=> .inr (.inl (e.elim id id)))
  ·as_aux_lemma=>
    have ck:wc.cell? ⟨M,0,none⟩=some (.int .i64 6):=(hH.out.ck 0).trans (by rw [← hk]; rfl)
    go_wp2_with (fail)
    go_at_call 61
    refine (views_r R I M M vk wc wc q hH.out hqeH.out (Nat.le_refl _) hMc hRc hIc (by omega)).mono ?_
    rintro e v1 ⟨rfl,ve,h2,h3,h4⟩
    have hvk:(viewsS q).1.kind=6:=(viewsS_keep q).1.trans hk
    have hown:=Hid.mk h3
    have hnil:=Hid.mk h4
    have hH':=Hid.mk h2
    clear h2 h3 h4 hH ck
    have hH:=hH'
    clear hH'
    have hbody:=Hid.mk (show bodyS q=viewsS q by unfold bodyS; simp [hk])
    have hkn2:=Hid.mk (viewsS_keep q).2
    obtain ⟨s,hs⟩:∃ s,viewsS q=s:=⟨_,rfl⟩
    rw [hs] at hH hown hbody hkn2 hvk
    clear hs
    obtain rfl:=hnil.out (by omega)
    have ck:v1.cell? ⟨M,0,none⟩=some (.int .i64 6):=(hH.out.ck 0).trans (by rw [← hvk]; rfl)
    have htb:tailB s.1=false:=by simp [tailB,hvk]
    have ht:=tail_any s.1 vk (.slice none 0 0) v1
    rw [htb] at ht
    have htH:=Hid.mk ht
    clear ht ck
    have hrow:=Hid.mk hH.out.row
    go_wp2_with (refine wpList_load_row rfl 35 _ rfl M rfl _ _ _ _ hrow.out Tryz.underlying35 rfl (msInfo.trans rfl) ?_)
    go_at_call 62
    refine htH.out.mono ?_
    rintro e v2 ⟨rfl,hB⟩
    have hH':=Hid.mk (hH.out.below hB)
    have hown':=Hid.mk (out_same hown.out fun g hg=>hB.block g (hown.out.lt g hg).2)
    clear hB hH htH hrow hown
    have hH:=hH'
    have hown:=hown'
    clear hH' hown'
    go_wp2_with (fail)
    go_end0
    refine ⟨rfl,?_⟩
    have e:allS p=(s.1,false,s.2):=by
     rw [hall.out,hbody.out]
     unfold tailS
     rw [if_neg (by rw [htb]; simp)]
    rw [e]
    exact hfinish.out _ (s.1,false,s.2) hkn2.out hH.out.inp hH.out.rd ⟨_,hH.out.row,hown.out⟩ (hH.out.kx.mono fun i _ e=>e.elim .inl fun e=> .inr (.inl (e.elim id id)))
  ·as_aux_lemma=>
    have ck:wc.cell? ⟨M,0,none⟩=some (.int .i64 7):=(hH.out.ck 0).trans (by rw [← hk]; rfl)
    go_wp2_with (fail)
    go_at_call 61
    refine (views_r R I M M vk wc wc q hH.out hqeH.out (Nat.le_refl _) hMc hRc hIc (by omega)).mono ?_
    rintro e v1 ⟨rfl,ve,h2,h3,h4⟩
    have hvk:(viewsS q).1.kind=7:=(viewsS_keep q).1.trans hk
    have hown:=Hid.mk h3
    have hnil:=Hid.mk h4
    have hH':=Hid.mk h2
    clear h2 h3 h4 hH ck
    have hH:=hH'
    clear hH'
    have hbody:=Hid.mk (show bodyS q=viewsS q by unfold bodyS; simp [hk])
    have hkn2:=Hid.mk (viewsS_keep q).2
    obtain ⟨s,hs⟩:∃ s,viewsS q=s:=⟨_,rfl⟩
    rw [hs] at hH hown hbody hkn2 hvk
    clear hs
    obtain rfl:=hnil.out (by omega)
    have ck:v1.cell? ⟨M,0,none⟩=some (.int .i64 7):=(hH.out.ck 0).trans (by rw [← hvk]; rfl)
    have htb:tailB s.1=true:=by simp [tailB,hvk]
    have ht:=tail_any s.1 vk (.slice none 0 0) v1
    rw [htb] at ht
    have htH:=Hid.mk ht
    clear ht ck
    have hrow:=Hid.mk hH.out.row
    go_wp2_with (refine wpList_load_row rfl 35 _ rfl M rfl _ _ _ _ hrow.out Tryz.underlying35 rfl (msInfo.trans rfl) ?_)
    go_at_call 62
    refine htH.out.mono ?_
    rintro e v2 ⟨rfl,hB⟩
    have hH':=Hid.mk (hH.out.below hB)
    have hown':=Hid.mk (out_same hown.out fun g hg=>hB.block g (hown.out.lt g hg).2)
    clear hB hH htH hrow hown
    have hH:=hH'
    have hown:=hown'
    clear hH' hown'
    have ck:v2.cell? ⟨M,0,none⟩=some (.int .i64 7):=(hH.out.ck 0).trans (by rw [← hvk]; rfl)
    go_wp2_with (fail)
    go_at_call 23
    refine (rd_num hH.out 13 g_base (by decide) (fun z=>rfl)).mono ?_
    rintro e v3 ⟨rfl,h2⟩
    have hH':=Hid.mk h2
    clear h2 hH ck
    have hH:=hH'
    clear hH'
    have ck:v3.cell? ⟨M,0,none⟩=some (.int .i64 7):=(hH.out.ck 0).trans (by rw [← hvk]; rfl)
    go_wp2_with (fail)
    go_at_call 59
    refine (rd_text hH.out 14 g_state (by decide) (fun z=>rfl)).mono ?_
    rintro e v4 ⟨rfl,h2⟩
    have hH':=Hid.mk h2
    clear h2 hH ck
    have hH:=hH'
    clear hH'
    have ck:v4.cell? ⟨M,0,none⟩=some (.int .i64 7):=(hH.out.ck 0).trans (by rw [← hvk]; rfl)
    have hsents:Hid (s.1.ents=[]∨True):= .mk (.inr trivial)
    go_wp2_with (fail)
    go_at_call 63
    refine (ents_r R I M 15 _ _ _ v4 hH.out.rd hH.out.inp hH.out.len hH.out.row rfl hH.out.mi hH.out.mr hH.out.ri).mono ?_
    rintro e v5 ⟨rfl,b1,b2,⟨v,b3,b4⟩,b5⟩
    have hfin:=Hid.mk (hfinish.out v5 (tailS s) (by rw [← hkn2.out]; unfold tailS; rw [if_pos htb]; rfl) (by unfold tailS; rw [if_pos htb]; exact b1) (by unfold tailS; rw [if_pos htb]; exact b2) ⟨v,by unfold tailS; rw [if_pos htb]; exact b3,by unfold tailS; rw [if_pos htb]; exact own_base b4 hH.out.kx.size⟩ ((hH.out.kx.mono fun i _ e=>e.elim .inl fun e=> .inr (.inl (e.elim id id))).trans b5))
    clear b1 b2 b3 b4 b5
    go_wp2_with (fail)
    go_end0
    refine ⟨rfl,?_⟩
    have e:allS p=tailS s:=by rw [hall.out,hbody.out]
    rw [e]
    exact hfin.out
  ·as_aux_lemma=>
    have ck:wc.cell? ⟨M,0,none⟩=some (.int .i64 8):=(hH.out.ck 0).trans (by rw [← hk]; rfl)
    go_wp2_with (fail)
    go_at_call 61
    refine (views_r R I M M vk wc wc q hH.out hqeH.out (Nat.le_refl _) hMc hRc hIc (by omega)).mono ?_
    rintro e v1 ⟨rfl,ve,h2,h3,h4⟩
    have hvk:(viewsS q).1.kind=8:=(viewsS_keep q).1.trans hk
    have hown:=Hid.mk h3
    have hnil:=Hid.mk h4
    have hH':=Hid.mk h2
    clear h2 h3 h4 hH ck
    have hH:=hH'
    clear hH'
    have hbody:=Hid.mk (show bodyS q=viewsS q by unfold bodyS; simp [hk])
    have hkn2:=Hid.mk (viewsS_keep q).2
    obtain ⟨s,hs⟩:∃ s,viewsS q=s:=⟨_,rfl⟩
    rw [hs] at hH hown hbody hkn2 hvk
    clear hs
    obtain rfl:=hnil.out (by omega)
    have ck:v1.cell? ⟨M,0,none⟩=some (.int .i64 8):=(hH.out.ck 0).trans (by rw [← hvk]; rfl)
    have htb:tailB s.1=true:=by simp [tailB,hvk]
    have ht:=tail_any s.1 vk (.slice none 0 0) v1
    rw [htb] at ht
    have htH:=Hid.mk ht
    clear ht ck
    have hrow:=Hid.mk hH.out.row
    go_wp2_with (refine wpList_load_row rfl 35 _ rfl M rfl _ _ _ _ hrow.out Tryz.underlying35 rfl (msInfo.trans rfl) ?_)
    go_at_call 62
    refine htH.out.mono ?_
    rintro e v2 ⟨rfl,hB⟩
    have hH':=Hid.mk (hH.out.below hB)
    have hown':=Hid.mk (out_same hown.out fun g hg=>hB.block g (hown.out.lt g hg).2)
    clear hB hH htH hrow hown
    have hH:=hH'
    have hown:=hown'
    clear hH' hown'
    have ck:v2.cell? ⟨M,0,none⟩=some (.int .i64 8):=(hH.out.ck 0).trans (by rw [← hvk]; rfl)
    go_wp2_with (fail)
    go_at_call 23
    refine (rd_num hH.out 13 g_base (by decide) (fun z=>rfl)).mono ?_
    rintro e v3 ⟨rfl,h2⟩
    have hH':=Hid.mk h2
    clear h2 hH ck
    have hH:=hH'
    clear hH'
    have ck:v3.cell? ⟨M,0,none⟩=some (.int .i64 8):=(hH.out.ck 0).trans (by rw [← hvk]; rfl)
    go_wp2_with (fail)
    go_at_call 59
    refine (rd_text hH.out 14 g_state (by decide) (fun z=>rfl)).mono ?_
    rintro e v4 ⟨rfl,h2⟩
    have hH':=Hid.mk h2
    clear h2 hH ck
    have hH:=hH'
    clear hH'
    have ck:v4.cell? ⟨M,0,none⟩=some (.int .i64 8):=(hH.out.ck 0).trans (by rw [← hvk]; rfl)
    have hsents:Hid (s.1.ents=[]∨True):= .mk (.inr trivial)
    go_wp2_with (fail)
    go_at_call 63
    refine (ents_r R I M 15 _ _ _ v4 hH.out.rd hH.out.inp hH.out.len hH.out.row rfl hH.out.mi hH.out.mr hH.out.ri).mono ?_
    rintro e v5 ⟨rfl,b1,b2,⟨v,b3,b4⟩,b5⟩
    have hfin:=Hid.mk (hfinish.out v5 (tailS s) (by rw [← hkn2.out]; unfold tailS; rw [if_pos htb]; rfl) (by unfold tailS; rw [if_pos htb]; exact b1) (by unfold tailS; rw [if_pos htb]; exact b2) ⟨v,by unfold tailS; rw [if_pos htb]; exact b3,by unfold tailS; rw [if_pos htb]; exact own_base b4 hH.out.kx.size⟩ ((hH.out.kx.mono fun i _ e=>e.elim .inl fun e=> .inr (.inl (e.elim id id))).trans b5))
    clear b1 b2 b3 b4 b5
    go_wp2_with (fail)
    go_end0
    refine ⟨rfl,?_⟩
    have e:allS p=tailS s:=by rw [hall.out,hbody.out]
    rw [e]
    exact hfin.out
  ·as_aux_lemma=>
    have ck:wc.cell? ⟨M,0,none⟩=some (.int .i64 9):=(hH.out.ck 0).trans (by rw [← hk]; rfl)
    go_wp2_with (fail)
    go_at_call 23
    refine (rd_num hH.out 10 g_nonce (by decide) (fun z=>rfl)).mono ?_
    rintro e v1 ⟨rfl,h2⟩
    have hH':=Hid.mk h2
    clear h2 hH ck
    have hH:=hH'
    clear hH'
    have ck:v1.cell? ⟨M,0,none⟩=some (.int .i64 9):=(hH.out.ck 0).trans (by rw [← hk]; rfl)
    have hbody:=Hid.mk (show bodyS q=(stN g_nonce q) by unfold bodyS; simp [hk])
    have hkn2:=Hid.mk (show ((stN g_nonce q):Rs).1.kn=q.1.kn from rfl)
    have hvk:((stN g_nonce q):Rs).1.kind=9:=hk
    obtain ⟨s,hs⟩:∃ s,(stN g_nonce q)=s:=⟨_,rfl⟩
    rw [hs] at hH hbody hkn2 hvk
    have hown:=Hid.mk (show v1.ownsRow wc.heap.size 75 3 (.slice none 0 0) s.1.ents.length (s.1.ents.flatMap entC) by
     have e:s.1.ents=[]:=by rw [← hs]; exact hqeH.out
     rw [e]; exact World.ownsRow_nil _ _ _ _)
    clear hs
    have htb:tailB s.1=false:=by simp [tailB,hvk]
    have ht:=tail_any s.1 vk (.slice none 0 0) v1
    rw [htb] at ht
    have htH:=Hid.mk ht
    clear ht ck
    have hrow:=Hid.mk hH.out.row
    go_wp2_with (refine wpList_load_row rfl 35 _ rfl M rfl _ _ _ _ hrow.out Tryz.underlying35 rfl (msInfo.trans rfl) ?_)
    go_at_call 62
    refine htH.out.mono ?_
    rintro e v2 ⟨rfl,hB⟩
    have hH':=Hid.mk (hH.out.below hB)
    have hown':=Hid.mk (out_same hown.out fun g hg=>hB.block g (hown.out.lt g hg).2)
    clear hB hH htH hrow hown
    have hH:=hH'
    have hown:=hown'
    clear hH' hown'
    go_wp2_with (fail)
    go_end0
    refine ⟨rfl,?_⟩
    have e:allS p=(s.1,false,s.2):=by
     rw [hall.out,hbody.out]
     unfold tailS
     rw [if_neg (by rw [htb]; simp)]
    rw [e]
    exact hfinish.out _ (s.1,false,s.2) hkn2.out hH.out.inp hH.out.rd ⟨_,hH.out.row,hown.out⟩ (hH.out.kx.mono fun i _ e=>e.elim .inl fun e=> .inr (.inl (e.elim id id)))
  ·cases hf:(stF g_full (stN g_nonce (stN g_view q))).1.full with
   | true=>as_aux_lemma=>
     have ck:wc.cell? ⟨M,0,none⟩=some (.int .i64 10):=(hH.out.ck 0).trans (by rw [← hk]; rfl)
     go_wp2_with (fail)
     go_at_call 23
     refine (rd_num hH.out 4 g_view (by decide) (fun z=>rfl)).mono ?_
     rintro e v1 ⟨rfl,h2⟩
     have hH':=Hid.mk h2
     clear h2 hH ck
     have hH:=hH'
     clear hH'
     have ck:v1.cell? ⟨M,0,none⟩=some (.int .i64 10):=(hH.out.ck 0).trans (by rw [← hk]; rfl)
     go_wp2_with (fail)
     go_at_call 23
     refine (rd_num hH.out 10 g_nonce (by decide) (fun z=>rfl)).mono ?_
     rintro e v2 ⟨rfl,h2⟩
     have hH':=Hid.mk h2
     clear h2 hH ck
     have hH:=hH'
     clear hH'
     have ck:v2.cell? ⟨M,0,none⟩=some (.int .i64 10):=(hH.out.ck 0).trans (by rw [← hk]; rfl)
     go_wp2_with (fail)
     go_at_call 60
     refine (rd_flag hH.out 12 g_full (by decide) (fun z=>rfl)).mono ?_
     rintro e v3 ⟨rfl,h2⟩
     have hH':=Hid.mk h2
     clear h2 hH ck
     have hH:=hH'
     clear hH'
     have ck:v3.cell? ⟨M,0,none⟩=some (.int .i64 10):=(hH.out.ck 0).trans (by rw [← hk]; rfl)
     have cf:v3.cell? ⟨M,12,none⟩=some (.bool true):=(hH.out.ck 12).trans (by rw [← hf]; rfl)
     go_wp2_with (fail)
     go_at_call 23
     refine (rd_num hH.out 6 g_op (by decide) (fun z=>rfl)).mono ?_
     rintro e v4 ⟨rfl,h2⟩
     have hH':=Hid.mk h2
     clear h2 hH ck
     have hH:=hH'
     clear hH'
     have ck:v4.cell? ⟨M,0,none⟩=some (.int .i64 10):=(hH.out.ck 0).trans (by rw [← hk]; rfl)
     go_wp2_with (fail)
     go_at_call 23
     refine (rd_num hH.out 7 g_commit (by decide) (fun z=>rfl)).mono ?_
     rintro e v5 ⟨rfl,h2⟩
     have hH':=Hid.mk h2
     clear h2 hH ck
     have hH:=hH'
     clear hH'
     have ck:v5.cell? ⟨M,0,none⟩=some (.int .i64 10):=(hH.out.ck 0).trans (by rw [← hk]; rfl)
     have hbody:=Hid.mk (show bodyS q=(stN g_commit (stN g_op (stF g_full (stN g_nonce (stN g_view q))))) by unfold bodyS; simp [hk,hf])
     have hkn2:=Hid.mk (show ((stN g_commit (stN g_op (stF g_full (stN g_nonce (stN g_view q))))):Rs).1.kn=q.1.kn from rfl)
     have hvk:((stN g_commit (stN g_op (stF g_full (stN g_nonce (stN g_view q))))):Rs).1.kind=10:=hk
     have hvf:((stN g_commit (stN g_op (stF g_full (stN g_nonce (stN g_view q))))):Rs).1.full=true:=hf
     obtain ⟨s,hs⟩:∃ s,(stN g_commit (stN g_op (stF g_full (stN g_nonce (stN g_view q)))))=s:=⟨_,rfl⟩
     rw [hs] at hH hbody hkn2 hvk hvf
     have hown:=Hid.mk (show v5.ownsRow wc.heap.size 75 3 (.slice none 0 0) s.1.ents.length (s.1.ents.flatMap entC) by
      have e:s.1.ents=[]:=by rw [← hs]; exact hqeH.out
      rw [e]; exact World.ownsRow_nil _ _ _ _)
     clear hs
     have htb:tailB s.1=true:=by simp [tailB,hvk,hvf]
     have ht:=tail_any s.1 vk (.slice none 0 0) v5
     rw [htb] at ht
     have htH:=Hid.mk ht
     clear ht ck
     have hrow:=Hid.mk hH.out.row
     go_wp2_with (refine wpList_load_row rfl 35 _ rfl M rfl _ _ _ _ hrow.out Tryz.underlying35 rfl (msInfo.trans rfl) ?_)
     go_at_call 62
     refine htH.out.mono ?_
     rintro e v6 ⟨rfl,hB⟩
     have hH':=Hid.mk (hH.out.below hB)
     have hown':=Hid.mk (out_same hown.out fun g hg=>hB.block g (hown.out.lt g hg).2)
     clear hB hH htH hrow hown
     have hH:=hH'
     have hown:=hown'
     clear hH' hown'
     have ck:v6.cell? ⟨M,0,none⟩=some (.int .i64 10):=(hH.out.ck 0).trans (by rw [← hvk]; rfl)
     go_wp2_with (fail)
     go_at_call 23
     refine (rd_num hH.out 13 g_base (by decide) (fun z=>rfl)).mono ?_
     rintro e v7 ⟨rfl,h2⟩
     have hH':=Hid.mk h2
     clear h2 hH ck
     have hH:=hH'
     clear hH'
     have ck:v7.cell? ⟨M,0,none⟩=some (.int .i64 10):=(hH.out.ck 0).trans (by rw [← hvk]; rfl)
     go_wp2_with (fail)
     go_at_call 59
     refine (rd_text hH.out 14 g_state (by decide) (fun z=>rfl)).mono ?_
     rintro e v8 ⟨rfl,h2⟩
     have hH':=Hid.mk h2
     clear h2 hH ck
     have hH:=hH'
     clear hH'
     have ck:v8.cell? ⟨M,0,none⟩=some (.int .i64 10):=(hH.out.ck 0).trans (by rw [← hvk]; rfl)
     have hsents:Hid (s.1.ents=[]∨True):= .mk (.inr trivial)
     go_wp2_with (fail)
     go_at_call 63
     refine (ents_r R I M 15 _ _ _ v8 hH.out.rd hH.out.inp hH.out.len hH.out.row rfl hH.out.mi hH.out.mr hH.out.ri).mono ?_
     rintro e v9 ⟨rfl,b1,b2,⟨v,b3,b4⟩,b5⟩
     have hfin:=Hid.mk (hfinish.out v9 (tailS s) (by rw [← hkn2.out]; unfold tailS; rw [if_pos htb]; rfl) (by unfold tailS; rw [if_pos htb]; exact b1) (by unfold tailS; rw [if_pos htb]; exact b2) ⟨v,by unfold tailS; rw [if_pos htb]; exact b3,by unfold tailS; rw [if_pos htb]; exact own_base b4 hH.out.kx.size⟩ ((hH.out.kx.mono fun i _ e=>e.elim .inl fun e=> .inr (.inl (e.elim id id))).trans b5))
     clear b1 b2 b3 b4 b5
     go_wp2_with (fail)
     go_end0
     refine ⟨rfl,?_⟩
     have e:allS p=tailS s:=by rw [hall.out,hbody.out]
     rw [e]
     exact hfin.out
   | false=>as_aux_lemma=>
     have ck:wc.cell? ⟨M,0,none⟩=some (.int .i64 10):=(hH.out.ck 0).trans (by rw [← hk]; rfl)
     go_wp2_with (fail)
     go_at_call 23
     refine (rd_num hH.out 4 g_view (by decide) (fun z=>rfl)).mono ?_
     rintro e v1 ⟨rfl,h2⟩
     have hH':=Hid.mk h2
     clear h2 hH ck
     have hH:=hH'
     clear hH'
     have ck:v1.cell? ⟨M,0,none⟩=some (.int .i64 10):=(hH.out.ck 0).trans (by rw [← hk]; rfl)
     go_wp2_with (fail)
     go_at_call 23
     refine (rd_num hH.out 10 g_nonce (by decide) (fun z=>rfl)).mono ?_
     rintro e v2 ⟨rfl,h2⟩
     have hH':=Hid.mk h2
     clear h2 hH ck
     have hH:=hH'
     clear hH'
     have ck:v2.cell? ⟨M,0,none⟩=some (.int .i64 10):=(hH.out.ck 0).trans (by rw [← hk]; rfl)
     go_wp2_with (fail)
     go_at_call 60
     refine (rd_flag hH.out 12 g_full (by decide) (fun z=>rfl)).mono ?_
     rintro e v3 ⟨rfl,h2⟩
     have hH':=Hid.mk h2
     clear h2 hH ck
     have hH:=hH'
     clear hH'
     have ck:v3.cell? ⟨M,0,none⟩=some (.int .i64 10):=(hH.out.ck 0).trans (by rw [← hk]; rfl)
     have cf:v3.cell? ⟨M,12,none⟩=some (.bool false):=(hH.out.ck 12).trans (by rw [← hf]; rfl)
     have hbody:=Hid.mk (show bodyS q=(stF g_full (stN g_nonce (stN g_view q))) by unfold bodyS; simp [hk,hf])
     have hkn2:=Hid.mk (show ((stF g_full (stN g_nonce (stN g_view q))):Rs).1.kn=q.1.kn from rfl)
     have hvk:((stF g_full (stN g_nonce (stN g_view q))):Rs).1.kind=10:=hk
     have hvf:((stF g_full (stN g_nonce (stN g_view q))):Rs).1.full=false:=hf
     obtain ⟨s,hs⟩:∃ s,(stF g_full (stN g_nonce (stN g_view q)))=s:=⟨_,rfl⟩
     rw [hs] at hH hbody hkn2 hvk hvf
     have hown:=Hid.mk (show v3.ownsRow wc.heap.size 75 3 (.slice none 0 0) s.1.ents.length (s.1.ents.flatMap entC) by
      have e:s.1.ents=[]:=by rw [← hs]; exact hqeH.out
      rw [e]; exact World.ownsRow_nil _ _ _ _)
     clear hs
     have htb:tailB s.1=false:=by simp [tailB,hvk,hvf]
     have ht:=tail_any s.1 vk (.slice none 0 0) v3
     rw [htb] at ht
     have htH:=Hid.mk ht
     clear ht ck
     have hrow:=Hid.mk hH.out.row
     go_wp2_with (refine wpList_load_row rfl 35 _ rfl M rfl _ _ _ _ hrow.out Tryz.underlying35 rfl (msInfo.trans rfl) ?_)
     go_at_call 62
     refine htH.out.mono ?_
     rintro e v4 ⟨rfl,hB⟩
     have hH':=Hid.mk (hH.out.below hB)
     have hown':=Hid.mk (out_same hown.out fun g hg=>hB.block g (hown.out.lt g hg).2)
     clear hB hH htH hrow hown
     have hH:=hH'
     have hown:=hown'
     clear hH' hown'
     go_wp2_with (fail)
     go_end0
     refine ⟨rfl,?_⟩
     have e:allS p=(s.1,false,s.2):=by
      rw [hall.out,hbody.out]
      unfold tailS
      rw [if_neg (by rw [htb]; simp)]
     rw [e]
     exact hfinish.out _ (s.1,false,s.2) hkn2.out hH.out.inp hH.out.rd ⟨_,hH.out.row,hown.out⟩ (hH.out.kx.mono fun i _ e=>e.elim .inl fun e=> .inr (.inl (e.elim id id)))
  ·as_aux_lemma=>
    have ck:wc.cell? ⟨M,0,none⟩=some (.int .i64 11):=(hH.out.ck 0).trans (by rw [← hk]; rfl)
    go_wp2_with (fail)
    go_at_call 61
    refine (views_r R I M M vk wc wc q hH.out hqeH.out (Nat.le_refl _) hMc hRc hIc (by omega)).mono ?_
    rintro e v1 ⟨rfl,ve,h2,h3,h4⟩
    have hvk:(viewsS q).1.kind=11:=(viewsS_keep q).1.trans hk
    have hown:=Hid.mk h3
    have hnil:=Hid.mk h4
    have hH':=Hid.mk h2
    clear h2 h3 h4 hH ck
    have hH:=hH'
    clear hH'
    have hbody:=Hid.mk (show bodyS q=viewsS q by unfold bodyS; simp [hk])
    have hkn2:=Hid.mk (viewsS_keep q).2
    obtain ⟨s,hs⟩:∃ s,viewsS q=s:=⟨_,rfl⟩
    rw [hs] at hH hown hbody hkn2 hvk
    clear hs
    obtain rfl:=hnil.out (by omega)
    have ck:v1.cell? ⟨M,0,none⟩=some (.int .i64 11):=(hH.out.ck 0).trans (by rw [← hvk]; rfl)
    have htb:tailB s.1=false:=by simp [tailB,hvk]
    have ht:=tail_any s.1 vk (.slice none 0 0) v1
    rw [htb] at ht
    have htH:=Hid.mk ht
    clear ht ck
    have hrow:=Hid.mk hH.out.row
    go_wp2_with (refine wpList_load_row rfl 35 _ rfl M rfl _ _ _ _ hrow.out Tryz.underlying35 rfl (msInfo.trans rfl) ?_)
    go_at_call 62
    refine htH.out.mono ?_
    rintro e v2 ⟨rfl,hB⟩
    have hH':=Hid.mk (hH.out.below hB)
    have hown':=Hid.mk (out_same hown.out fun g hg=>hB.block g (hown.out.lt g hg).2)
    clear hB hH htH hrow hown
    have hH:=hH'
    have hown:=hown'
    clear hH' hown'
    go_wp2_with (fail)
    go_end0
    refine ⟨rfl,?_⟩
    have e:allS p=(s.1,false,s.2):=by
     rw [hall.out,hbody.out]
     unfold tailS
     rw [if_neg (by rw [htb]; simp)]
    rw [e]
    exact hfinish.out _ (s.1,false,s.2) hkn2.out hH.out.inp hH.out.rd ⟨_,hH.out.row,hown.out⟩ (hH.out.kx.mono fun i _ e=>e.elim .inl fun e=> .inr (.inl (e.elim id id)))
  ·as_aux_lemma=>
    have ck:wc.cell? ⟨M,0,none⟩=some (.int .i64 12):=(hH.out.ck 0).trans (by rw [← hk]; rfl)
    go_wp2_with (fail)
    go_at_call 61
    refine (views_r R I M M vk wc wc q hH.out hqeH.out (Nat.le_refl _) hMc hRc hIc (by omega)).mono ?_
    rintro e v1 ⟨rfl,ve,h2,h3,h4⟩
    have hvk:(viewsS q).1.kind=12:=(viewsS_keep q).1.trans hk
    have hown:=Hid.mk h3
    have hnil:=Hid.mk h4
    have hH':=Hid.mk h2
    clear h2 h3 h4 hH ck
    have hH:=hH'
    clear hH'
    have hbody:=Hid.mk (show bodyS q=viewsS q by unfold bodyS; simp [hk])
    have hkn2:=Hid.mk (viewsS_keep q).2
    obtain ⟨s,hs⟩:∃ s,viewsS q=s:=⟨_,rfl⟩
    rw [hs] at hH hown hbody hkn2 hvk
    clear hs
    obtain rfl:=hnil.out (by omega)
    have ck:v1.cell? ⟨M,0,none⟩=some (.int .i64 12):=(hH.out.ck 0).trans (by rw [← hvk]; rfl)
    have htb:tailB s.1=true:=by simp [tailB,hvk]
    have ht:=tail_any s.1 vk (.slice none 0 0) v1
    rw [htb] at ht
    have htH:=Hid.mk ht
    clear ht ck
    have hrow:=Hid.mk hH.out.row
    go_wp2_with (refine wpList_load_row rfl 35 _ rfl M rfl _ _ _ _ hrow.out Tryz.underlying35 rfl (msInfo.trans rfl) ?_)
    go_at_call 62
    refine htH.out.mono ?_
    rintro e v2 ⟨rfl,hB⟩
    have hH':=Hid.mk (hH.out.below hB)
    have hown':=Hid.mk (out_same hown.out fun g hg=>hB.block g (hown.out.lt g hg).2)
    clear hB hH htH hrow hown
    have hH:=hH'
    have hown:=hown'
    clear hH' hown'
    have ck:v2.cell? ⟨M,0,none⟩=some (.int .i64 12):=(hH.out.ck 0).trans (by rw [← hvk]; rfl)
    go_wp2_with (fail)
    go_at_call 23
    refine (rd_num hH.out 13 g_base (by decide) (fun z=>rfl)).mono ?_
    rintro e v3 ⟨rfl,h2⟩
    have hH':=Hid.mk h2
    clear h2 hH ck
    have hH:=hH'
    clear hH'
    have ck:v3.cell? ⟨M,0,none⟩=some (.int .i64 12):=(hH.out.ck 0).trans (by rw [← hvk]; rfl)
    go_wp2_with (fail)
    go_at_call 59
    refine (rd_text hH.out 14 g_state (by decide) (fun z=>rfl)).mono ?_
    rintro e v4 ⟨rfl,h2⟩
    have hH':=Hid.mk h2
    clear h2 hH ck
    have hH:=hH'
    clear hH'
    have ck:v4.cell? ⟨M,0,none⟩=some (.int .i64 12):=(hH.out.ck 0).trans (by rw [← hvk]; rfl)
    have hsents:Hid (s.1.ents=[]∨True):= .mk (.inr trivial)
    go_wp2_with (fail)
    go_at_call 63
    refine (ents_r R I M 15 _ _ _ v4 hH.out.rd hH.out.inp hH.out.len hH.out.row rfl hH.out.mi hH.out.mr hH.out.ri).mono ?_
    rintro e v5 ⟨rfl,b1,b2,⟨v,b3,b4⟩,b5⟩
    have hfin:=Hid.mk (hfinish.out v5 (tailS s) (by rw [← hkn2.out]; unfold tailS; rw [if_pos htb]; rfl) (by unfold tailS; rw [if_pos htb]; exact b1) (by unfold tailS; rw [if_pos htb]; exact b2) ⟨v,by unfold tailS; rw [if_pos htb]; exact b3,by unfold tailS; rw [if_pos htb]; exact own_base b4 hH.out.kx.size⟩ ((hH.out.kx.mono fun i _ e=>e.elim .inl fun e=> .inr (.inl (e.elim id id))).trans b5))
    clear b1 b2 b3 b4 b5
    go_wp2_with (fail)
    go_end0
    refine ⟨rfl,?_⟩
    have e:allS p=tailS s:=by rw [hall.out,hbody.out]
    rw [e]
    exact hfin.out
end Go.Proofs.YtniamhbcmcgonaaGreatDoor
