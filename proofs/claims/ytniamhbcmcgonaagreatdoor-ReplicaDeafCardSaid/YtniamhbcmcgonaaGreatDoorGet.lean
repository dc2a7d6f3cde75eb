/- message.Get. What was put is got: the messages of the law. -/
import Derived.Laws.ResultCell
import Derived.Test.YtniamhbcmcgonaaGreatDoorFrm
namespace Go.Proofs.YtniamhbcmcgonaaGreatDoor
open Go.RowKit Go.Ev
def msK (k:Int):Ms:={ kind:=k,from_:=0,born:=0,kn:=if k=1 then [] else [0,0,0],view:=0,last:=0,op:=0,commit:=0,client:=0,number:=0,nonce:=0,text:=[],full:=false,base:=0,state:=[],ents:=[] }
def msZ:Ms:={ kind:=0,from_:=0,born:=0,kn:=[],view:=0,last:=0,op:=0,commit:=0,client:=0,number:=0,nonce:=0,text:=[],full:=false,base:=0,state:=[],ents:=[] }
def rdK (b:Str):Int × Inp:=intS (b,0)
def rdA (b:Str):Ms × Bool × Inp:=allS (msK (rdK b).1,(rdK b).2)
noncomputable def getB (b:Str):Ms × Nat:=
 if (rdK b).2.2≠0 then (msZ,(rdK b).2.2) else if ¬ (1≤(rdK b).1∧(rdK b).1≤12) then (msZ,7)
 else if (rdA b).2.2.2≠0 then (msZ,(rdA b).2.2.2) else if ((rdA b).2.1 || !goodB (rdA b).1)=true then (msZ,2)
 else if endE (rdA b).2.2≠0 then (msZ,endE (rdA b).2.2) else ((rdA b).1,0)
theorem getB_eq (b:Str):getB b=
 if (rdK b).2.2≠0 then (msZ,(rdK b).2.2) else if ¬ (1≤(rdK b).1∧(rdK b).1≤12) then (msZ,7)
 else if (rdA b).2.2.2≠0 then (msZ,(rdA b).2.2.2) else if ((rdA b).2.1 || !goodB (rdA b).1)=true then (msZ,2)
 else if endE (rdA b).2.2≠0 then (msZ,endE (rdA b).2.2) else ((rdA b).1,0):=rfl
noncomputable def getM (s:Str):Ms × Nat:=if (openS s).2≠0 then (msZ,(openS s).2) else getB (openS s).1
def nilS:Value:= .slice none 0 0
theorem results_ct_row {P:Program} {fn:Func} {p u:Tmp} {ty:TypeId} (h:fn.results=#[.cell p ty,.tmp u]) (tmps:Array Value) (w:World) (g:Nat) (t:TypeId) (cs:Array Value) (fr:Nat × Nat) (d:TypeDesc)
  (hp:tmps.getD p undef= .pointer (some ⟨g,0,none⟩)) (hg:w.heap[g]?=some (.cells cs t fr))
  (hu:P.underlying ty=some d) (hd:(match d with | .struct _ | .array _ _=>true | _=>false)=true) (hi:(P.info? ty).map (·.size)=some cs.size) :
  (results fn tmps).run P w= .ok (.tuple #[.agg cs,tmps.getD u undef]) w:=by
 rw [results_cell_tmp h,hp]
 simp [asAddr,run_loadVar_row w g t ty cs fr d hg hu hd hi,Result.andThen]
theorem setRow_other (w:World) (g:Nat) (cs:Array Value) (i:Nat) (h:i≠g):(w.setRow g cs).heap[i]?=w.heap[i]?:=by
 unfold World.setRow
 simp [Array.getElem?_modify,Ne.symm h]
theorem setRow_low {N:Nat} {w0 w:World} (h:Below N w0 w) (g:Nat) (cs:Array Value) (hg:N≤g):Below N w0 (w.setRow g cs):=
 ⟨h.os,h.tape,h.output,by simpa [World.setRow] using h.size,fun i hi=>(setRow_other _ _ _ _ (by omega)).trans (h.block i hi)⟩
theorem IntsV.same {w w':World} {v:Value} {l:List Int} (h:IntsV w v l) (hk:∀ g,v.ownBlock=some g→w'.heap[g]?=w.heap[g]?) (hs:w.heap.size≤w'.heap.size):IntsV w' v l:=by
 rcases h with h | ⟨K,ko,cap,rfl,hK,hc⟩
 ·exact .inl h
 ·exact .inr ⟨K,ko,cap,rfl,Nat.lt_of_lt_of_le hK hs,fun j hj=>by
   rw [← hc j hj]
   have:=hk K rfl
   simp only [World.cell?,this]⟩
theorem openS_le (s:Str):(openS s).1.length≤s.length:=by
 unfold openS
 (repeat' split) <;> simp
 omega
theorem tailS_kf (p:Rs):(tailS p).1.kind=p.1.kind∧(tailS p).1.from_=p.1.from_:=by unfold tailS; split <;> exact ⟨rfl,rfl⟩
theorem bodyS_kf (p:Rs):(bodyS p).1.kind=p.1.kind∧(bodyS p).1.from_=p.1.from_:=by
 unfold bodyS viewsS viewsS0
 (repeat' split) <;> exact ⟨rfl,rfl⟩
theorem allS_kind (p:Rs):(allS p).1.kind=p.1.kind:=by unfold allS; rw [(tailS_kf _).1,(bodyS_kf _).1,hdS_kind]
theorem allS_from1 {p:Rs} (h:p.1.kind=1):(allS p).1.from_=p.1.from_:=by
 unfold allS
 rw [(tailS_kf _).2,(bodyS_kf _).2]
 unfold hdS
 rw [if_pos h]
theorem one_msC (m:Ms) (a a':Option Addr) (n c n' c':Nat):(msC m (.slice a n c) (.slice a' n' c')).all (·.oneCell')=true:=by
 unfold msC
 simp [Value.oneCell']
theorem one_msZ:(msC msZ nilS nilS).all (·.oneCell')=true:=one_msC msZ none none 0 0 0 0
def GetP (s:Str) (N0:Nat) (w0:World):Ending→World→Prop:=fun e w'=>∃ vk a cap,e= .returned (.tuple #[.agg (msC (getM s).1 vk (.slice a (getM s).1.ents.length cap)),.int .i64 ((getM s).2:Nat)])∧
 IntsV w' vk (getM s).1.kn∧w'.ownsRow N0 75 3 (.slice a (getM s).1.ents.length cap) (getM s).1.ents.length ((getM s).1.ents.flatMap entC)∧Below N0 w0 w'
theorem get_out {s:Str} {N0:Nat} {w0 w:World} (hres:∃ cs,w.heap[N0]?=some (.cells cs 35 (0,0))) (hB:Below N0 w0 w) (e:Nat) (h:getM s=(msZ,e)) (tmps:Array Value)
  (h4:tmps.getD 4 undef= .pointer (some ⟨N0,0,none⟩)) (h5:tmps.getD 5 undef= .int .i64 (e:Nat)) :
  bodyPost Tryz.prog Tryz.f9 (GetP s N0 w0) .ret ⟨tmps,[]⟩ (w.setRow N0 (msC msZ nilS nilS)):=by
 obtain ⟨cs,hres⟩:=hres
 have hr:=setRow_heap w N0 cs (msC msZ nilS nilS) 35 _ hres
 refine bodyPost_ret (results_ct_row rfl _ _ N0 _ _ _ _ h4 hr Tryz.underlying35 rfl (msInfo.trans rfl)) rfl ⟨nilS,none,0,?_,?_,?_,?_⟩
 ·rw [h,h5]; rfl
 ·rw [h]; exact .inl ⟨rfl,rfl⟩
 ·rw [h]; exact World.ownsRow_nil _ _ _ _
 ·exact setRow_low hB _ _ (Nat.le_refl _)
set_option maxRecDepth 100000 in
set_option maxHeartbeats 12800000 in
theorem mget_any (s:Str) (hs:s.length≤1000000) (w:World) (hh:HalvesAt w):Calls Tryz.prog 9 #[.string (bs s),.int .i64 3] w (GetP s w.heap.size w):=by
 obtain ⟨N0,hN0⟩:∃ n,w.heap.size=n:=⟨_,rfl⟩
 have hN0H:=Hid.mk hN0
 have hhH:=Hid.mk hh
 have hsH:=Hid.mk hs
 rw [hN0]
 clear hN0 hh hs
 go_enter Tryz.func9,Tryz.ntmps9
 go_upto_region 0 with fail
 go_cut [4] (fun x wr=>x= .pointer (some ⟨N0,0,none⟩)∧wr.heap[N0]?=some (.cells (msC msZ nilS nilS) 35 (0,0))∧Below N0 w wr)
 case first=>as_aux_lemma=>
  go_wp2_with (fail)
  go_meet
  rw [← hN0H.out]
  exact ⟨rfl,heap_alloc_new _ _,(Below.refl _ w).alloc (Nat.le_refl _) _⟩
 case rest=>
  obtain ⟨rfl,hS,hB⟩:=hcut
  rename World=>w1
  have hS1:=Hid.mk hS
  have hB1:=Hid.mk hB
  clear hS hB
  have hw1:=Hid.mk (Array.getElem?_eq_some_iff.1 hS1.out).1
  have ham:=Hid.mk (amount_any w1)
  have hop:=Hid.mk (open_any s (by have:=hsH.out; omega) w1 (hhH.out.below (by rw [hN0H.out]; exact hB1.out)))
  go_upto_region 3 with (go_at_call 27; refine ham.out.mono ?_; rintro e wz ⟨rfl,rfl⟩)
  go_cut [6,7] (fun x y wr=>x= .string (bs (openS s).1)∧y= .int .i64 ((openS s).2:Nat)∧Below w1.heap.size w1 wr)
  case first=>as_aux_lemma=>
   go_wp2_with (first | (go_at_call 28; refine hop.out.mono ?_; rintro e wz ⟨rfl,hBz⟩; replace hBz:=Hid.mk hBz))
   go_meet
   exact ⟨rfl,rfl,hBz.out⟩
  case rest=>
   clear ham hop
   obtain ⟨rfl,rfl,hB⟩:=hcut
   rename World=>w2
   have hS2:=Hid.mk ((hB.block N0 hw1.out).trans hS1.out)
   have hB2:=Hid.mk (hB1.out.trans (hB.mono (Nat.le_of_lt hw1.out)))
   have hw2:=Hid.mk (show N0 < w2.heap.size from Nat.lt_of_lt_of_le hw1.out hB.size)
   clear hB hS1 hB1 hw1
   have hgm:=Hid.mk (show getM s=if (openS s).2≠0 then (msZ,(openS s).2) else getB (openS s).1 from rfl)
   have hbl:=Hid.mk (openS_le s)
   by_cases h1:(openS s).2=0
   rotate_left
   ·as_aux_lemma=>
     have e1:((((openS s).2:Nat):Int) !=0)=true:=by simp; omega
     have hg:=Hid.mk (show getM s=(msZ,(openS s).2) by rw [hgm.out,if_pos h1])
     clear h1
     go_wp2_with (first | (refine wpList_store_row rfl 35 _ _ rfl N0 (msC msZ nilS nilS) rfl rfl 35 _ hS2.out (msInfo.trans rfl) rfl one_msZ ?_))
     refine get_out ⟨_,hS2.out⟩ hB2.out _ hg.out _ ?_ ?_ <;> rfl
   have hgm2:=Hid.mk (show getM s=getB (openS s).1 by rw [hgm.out,if_neg (fun h=>h h1)])
   rw [h1]
   clear h1 hgm
   generalize (openS s).1=b at*
   have hbH:=Hid.mk (show b.length≤1000000 from Nat.le_trans hbl.out hsH.out)
   clear hbl
   have hgb:=Hid.mk (getB_eq b)
   obtain ⟨I,hI⟩:∃ I,w2.heap.size=I:=⟨_,rfl⟩
   have hIH:=Hid.mk hI
   have hNI:=Hid.mk (show N0 < I by rw [← hI]; exact hw2.out)
   have hio:=Hid.mk (iopen_any b w2)
   rw [hI] at hio
   clear hI hw2
   go_upto_region 6 with fail
   go_cut [8] (fun y wr=>y= .pointer (some ⟨I+1,0,none⟩)∧InS 120 I (b,0) wr∧RdF (I+1) I false wr∧wr.heap[N0]?=some (.cells (msC msZ nilS nilS) 35 (0,0))∧Below N0 w wr∧wr.heap.size=I+2)
   case first=>as_aux_lemma=>
    go_wp2_with (first | (go_at_call 29; refine hio.out.mono ?_; rintro e wz ⟨rfl,hI,hBo,hsz⟩; replace hI:=Hid.mk hI; replace hBo:=Hid.mk hBo; replace hsz:=Hid.mk hsz))
    go_meet
    have hb:∀ o,Below wz.heap.size wz (wz.alloc o):=fun o=>(Below.refl _ wz).alloc (Nat.le_refl _) o
    have hs2:w2.heap.size≤wz.heap.size:=hBo.out.size
    rw [hIH.out] at hs2
    refine ⟨by rw [hsz.out],hI.out.below (hb _),by unfold RdF; rw [← hsz.out]; exact heap_alloc_new _ _,((hb _).block N0 (by have:=hNI.out; omega)).trans ((hBo.out.block N0 hNI.out).trans hS2.out),hB2.out.trans ((hBo.out.mono (Nat.le_of_lt hNI.out)).trans ((hb _).mono (by have:=hNI.out; omega))),by simp [hsz.out]⟩
   case rest=>
    clear hio hIH hS2 hB2
    obtain ⟨rfl,hI,hR,hS,hB,hsz⟩:=hcut
    rename World=>w3
    have hI3:=Hid.mk hI
    have hR3:=Hid.mk hR
    have hS3:=Hid.mk hS
    have hB3:=Hid.mk hB
    have hz3:=Hid.mk hsz
    clear hI hR hS hB hsz
    go_upto_region 7 with fail
    go_cut [9] (fun y wr=>y= .pointer (some ⟨I+2,0,none⟩)∧InS 120 I (b,0) wr∧RdF (I+1) I false wr∧wr.heap[I+2]?=some (.cells (msC msZ nilS nilS) 35 (0,0))∧wr.heap[N0]?=some (.cells (msC msZ nilS nilS) 35 (0,0))∧Below N0 w wr∧wr.heap.size=I+3)
    case first=>as_aux_lemma=>
     go_wp2_with (fail)
     go_meet
     have hb:∀ o,Below w3.heap.size w3 (w3.alloc o):=fun o=>(Below.refl _ w3).alloc (Nat.le_refl _) o
     refine ⟨by rw [hz3.out],hI3.out.below (hb _),((hb _).block _ (by have:=hz3.out; omega)).trans hR3.out,by rw [← hz3.out]; exact heap_alloc_new _ _,((hb _).block N0 (by have:=hNI.out; have:=hz3.out; omega)).trans hS3.out,hB3.out.trans ((hb _).mono (by have:=hNI.out; have:=hz3.out; omega)),by simp [hz3.out]⟩
    case rest=>
     clear hI3 hR3 hS3 hB3 hz3
     obtain ⟨rfl,hI,hR,hM,hS,hB,hsz⟩:=hcut
     rename World=>w4
     have hR4:=Hid.mk hR
     have hS4:=Hid.mk hS
     have hB4:=Hid.mk hB
     have hz4:=Hid.mk hsz
     have hnum:=Hid.mk (num_rx (I+1) I (I+2) 0 false (b,0) _ _ w4 hR hI hbH.out hM (by decide) (by omega))
     clear hI hR hM hS hB hsz
     go_upto_region 8 with fail
     go_cut [32] (fun _ wr=>InS 120 I (rdK b).2 wr∧RdF (I+1) I false wr∧wr.heap[I+2]?=some (.cells (msC { msZ with kind:=(rdK b).1 } nilS nilS) 35 (0,0))∧wr.heap[N0]?=some (.cells (msC msZ nilS nilS) 35 (0,0))∧Below N0 w wr∧I+3≤wr.heap.size)
     case first=>as_aux_lemma=>
      go_wp2_with (first | (go_at_call 23; refine hnum.out.mono ?_; rintro e wz ⟨rfl,hI,hM,hKx⟩; replace hI:=Hid.mk hI; replace hM:=Hid.mk hM; replace hKx:=Hid.mk hKx))
      go_meet
      have hn:=hNI.out
      have hz:=hz4.out
      exact ⟨hI.out,(hKx.out.block (I+1) (by omega) (by omega)).trans hR4.out,hM.out,(hKx.out.block N0 (by omega) (by omega)).trans hS4.out,hB4.out.trans (hKx.out.low (by omega) (fun i hi=>by omega)),by have:=hKx.out.size; omega⟩
     case rest=>
      clear hnum hR4 hS4 hB4 hz4
      obtain ⟨hI,hR,hM,hS,hB,hsz⟩:=hcut
      rename World=>w5
      have hbK:(rdK b).2.1.length≤1000000:=Nat.le_trans (intS_len (b,0)) hbH.out
      have hbKH:=Hid.mk hbK
      have hra:=Hid.mk (show rdA b=allS (msK (rdK b).1,(rdK b).2) from rfl)
      generalize rdA b=q at*
      generalize rdK b=kk at*
      obtain ⟨k,st⟩:=kk
      simp only at hI hM hgb hbKH hra
      have hI5:=Hid.mk hI
      have hR5:=Hid.mk hR
      have hM5:=Hid.mk hM
      have hS5:=Hid.mk hS
      have hB5:=Hid.mk hB
      have hz5:=Hid.mk hsz
      have herr:=Hid.mk (ierr_any I st w5 hI)
      have c2:w5.cell? ⟨I+1,2,none⟩=some (.pointer (some ⟨I,0,none⟩)):=(cell_of_row _ _ _ _ _ _ hR).trans rfl
      have d0:w5.cell? ⟨I+2,0,none⟩=some (.int .i64 k):=(cell_of_row _ _ _ _ _ _ hM).trans rfl
      clear hI hR hM hS hB hsz hbK hbH
      go_upto_region 9 with fail
      go_cut [10] (fun y wr=>y= .int .i64 (st.2:Nat)∧wr=w5)
      case first=>as_aux_lemma=>
       go_wp2_with (first | (go_at_call 30; refine herr.out.mono ?_; rintro e wz ⟨rfl,rfl⟩))
       go_meet
       exact ⟨rfl,rfl⟩
      case rest=>
       obtain ⟨rfl,hwr⟩:=hcut
       rename World=>w6
       subst hwr
       clear herr c2
       by_cases h1:st.2=0
       rotate_left
       ·as_aux_lemma=>
         have e1:(((st.2:Nat):Int) !=0)=true:=by simp; omega
         have hg:=Hid.mk (show getM s=(msZ,st.2) by rw [hgm2.out,hgb.out,if_pos h1])
         clear h1
         go_wp2_with (first | (refine wpList_store_row rfl 35 _ _ rfl N0 (msC msZ nilS nilS) rfl rfl 35 _ hS5.out (msInfo.trans rfl) rfl one_msZ ?_))
         refine get_out ⟨_,hS5.out⟩ hB5.out _ hg.out _ ?_ ?_ <;> rfl
       have hgb2:=Hid.mk (hgb.out.trans (if_neg (fun h=>h h1)))
       rw [h1]
       clear h1 hgb
       by_cases hk:1≤k∧k≤12
       rotate_left
       ·as_aux_lemma=>
         have hg:=Hid.mk (show getM s=(msZ,7) by rw [hgm2.out,hgb2.out,if_pos hk])
         by_cases hk1:1≤k
         ·have e1:(k < 1)=False:=eq_false (by omega)
          have e2:(12 < k)=True:=eq_true (by omega)
          clear hk hk1
          go_wp2_with (first | (refine wpList_store_row rfl 35 _ _ rfl N0 (msC msZ nilS nilS) rfl rfl 35 _ hS5.out (msInfo.trans rfl) rfl one_msZ ?_))
          refine get_out ⟨_,hS5.out⟩ hB5.out _ hg.out _ ?_ ?_ <;> rfl
         ·have e1:(k < 1)=True:=eq_true (by omega)
          clear hk hk1
          go_wp2_with (first | (refine wpList_store_row rfl 35 _ _ rfl N0 (msC msZ nilS nilS) rfl rfl 35 _ hS5.out (msInfo.trans rfl) rfl one_msZ ?_))
          refine get_out ⟨_,hS5.out⟩ hB5.out _ hg.out _ ?_ ?_ <;> rfl
       have hgb3:=Hid.mk (hgb2.out.trans (if_neg (fun h=>h hk)))
       have hk1:=Hid.mk hk.1
       have hk12:=Hid.mk hk.2
       have e1:(k < 1)=False:=eq_false (by omega)
       have e2:(12 < k)=False:=eq_false (by omega)
       clear hgb2 hk
       go_upto_if 53 with fail
       go_cut [8] (fun y wr=>y= .pointer (some ⟨I+1,0,none⟩)∧∃ K vk,wr.heap[I+2]?=some (.cells (msC (msK k) vk nilS) 35 (0,0))∧(k≠1→vk= .slice (some ⟨K,0,none⟩) 3 3∧wr.heap[K]?=some (.cells (intRow [0,0,0]) 3 (0,0)))∧(k=1→vk=nilS)∧I+3≤K∧
        InS 120 I st wr∧RdF (I+1) I false wr∧wr.heap[N0]?=some (.cells (msC msZ nilS nilS) 35 (0,0))∧Below N0 w wr∧I+3≤wr.heap.size)
       case first=>as_aux_lemma=>
        by_cases hk1:k=1
        ·have e3:(k !=1)=false:=by simp [hk1]
         have hkH:=Hid.mk hk1
         clear hk1
         go_wp2_with (fail)
         go_meet
         refine ⟨rfl,I+3,nilS,?_,fun h=>absurd hkH.out h,fun _=>rfl,Nat.le_refl _,hI5.out,hR5.out,hS5.out,hB5.out,hz5.out⟩
         rw [hM5.out]
         unfold msK
         rw [if_pos hkH.out]
         rfl
        ·have e3:(k !=1)=true:=by simp [hk1]
         have hkH:=Hid.mk hk1
         have hmk:=make_zeros 3 (.inr rfl) w6
         obtain ⟨wz,hwz⟩:∃ wz,w6.alloc (.cells (intRow (List.replicate 3 0)) 3)=wz:=⟨_,rfl⟩
         rw [hwz] at hmk
         have hKz:=Hid.mk (show wz.heap[w6.heap.size]?=some (.cells (intRow [0,0,0]) 3 (0,0)) from hwz▸heap_alloc_new w6 _)
         have hBz:=Hid.mk (show Below w6.heap.size w6 wz from hwz▸(Below.refl _ w6).alloc (Nat.le_refl _) _)
         have hMz:=Hid.mk ((hBz.out.block (I+2) (by have:=hz5.out; omega)).trans hM5.out)
         have d3z:wz.cell? ⟨I+2,3,none⟩=some nilS:=(cell_of_row _ _ _ _ _ _ hMz.out).trans rfl
         have f3z:=frozen_of_row _ _ 3 _ _ hMz.out
         have hmkH:=Hid.mk hmk
         clear hwz hk1 hmk
         go_wp2_with (at_make; refine wpList_make_run rfl _ _ 32 rfl _ _ rfl rfl _ _ hmkH.out ?_)
         go_meet
         have hb:∀ j,j≠I+2→(wz.setCell ⟨I+2,3,none⟩ (.slice (some ⟨w6.heap.size,0,none⟩) 3 3)).heap[j]?=wz.heap[j]?:=fun j hj=>Below.heap_setCell _ _ _ _ (by simpa using hj)
         have hz:=hz5.out
         have hn:=hNI.out
         refine ⟨rfl,w6.heap.size,.slice (some ⟨w6.heap.size,0,none⟩) 3 3,?_,fun _=>⟨rfl,(hb _ (by omega)).trans hKz.out⟩,fun h=>absurd h hkH.out,hz,?_,?_,?_,?_,?_⟩
         ·rw [heap_setCell_same _ _ _ _ _ _ hMz.out]
          unfold msK
          rw [if_neg hkH.out]
          rfl
         ·exact (hb _ (by omega)).trans ((hBz.out.block _ (by omega)).trans hI5.out)
         ·exact (hb _ (by omega)).trans ((hBz.out.block _ (by omega)).trans hR5.out)
         ·exact (hb _ (by omega)).trans ((hBz.out.block _ (by omega)).trans hS5.out)
         ·have h9:=hB5.out.trans (hBz.out.mono (by omega))
          exact ⟨h9.os,h9.tape,h9.output,by simpa [World.setCell] using h9.size,fun i hi=>(hb i (by omega)).trans (h9.block i hi)⟩
         ·have:=hBz.out.size; simp [World.setCell]; omega
       case rest=>
        clear hI5 hR5 hM5 hS5 hB5 hz5 d0 e1 e2
        obtain ⟨rfl,K,vk,hM,hkn,hk0,hK,hI,hR,hS,hB,hsz⟩:=hcut
        rename World=>w7
        have hal:=Hid.mk (all_r (I+1) I (I+2) K vk w7 (msK k,st) hR hI hbKH.out hM (by omega) (by omega) (by omega) rfl hk1.out hk12.out
         (fun h=>by
          have h':k≠1:=h
          refine ⟨by unfold msK; rw [if_neg h']; rfl,(hkn h').1,?_,by omega,by omega,by omega⟩
          rw [(hkn h').2]
          unfold msK; rw [if_neg h']))
        have hvk:=Hid.mk (show ∃ ka nk kc,vk= .slice ka nk kc by
         by_cases h:k=1
         ·rw [hk0 h]; exact ⟨_,_,_,rfl⟩
         ·rw [(hkn h).1]; exact ⟨_,_,_,rfl⟩)
        have hkn7:=Hid.mk hkn
        have hk07:=Hid.mk hk0
        have hK7:=Hid.mk hK
        have hS7:=Hid.mk hS
        have hB7:=Hid.mk hB
        have hz7:=Hid.mk hsz
        have hlen:q.1.kn.length=if k=1 then 0 else 3:=by
         rw [hra.out]
         by_cases h:k=1
         ·rw [if_pos h,allS_kn1 (p:=(msK k,st)) h]; unfold msK; rw [if_pos h]; rfl
         ·rw [if_neg h,allS_kn3 (p:=(msK k,st)) h]
        have hlenH:=Hid.mk hlen
        have hents:=Hid.mk (show q.1.ents.length≤1000 by rw [hra.out]; have:=allS_ents (p:=(msK k,st)) rfl; omega)
        have hfr1:=Hid.mk (show q.1.kind=1→goodN q.1.from_ by
         intro h
         rw [hra.out] at h ⊢
         rw [allS_kind] at h
         rw [allS_from1 (p:=(msK k,st)) h]
         exact ⟨Int.le_refl _,by show (0:Int)≤_; decide⟩)
        rw [← hra.out] at hal
        clear hM hkn hk0 hK hI hR hS hB hsz hlen
        go_upto_region 16 with fail
        go_cut [58] (fun _ wr=>InS 120 I q.2.2 wr∧RdF (I+1) I q.2.1 wr∧(∃ a cap,wr.heap[I+2]?=some (.cells (msC q.1 vk (.slice a q.1.ents.length cap)) 35 (0,0))∧wr.ownsRow (N0+1) 75 3 (.slice a q.1.ents.length cap) q.1.ents.length (q.1.ents.flatMap entC))∧
         IntsV wr vk q.1.kn∧(∀ g,vk.ownBlock=some g→g≠N0)∧wr.heap[N0]?=some (.cells (msC msZ nilS nilS) 35 (0,0))∧Below N0 w wr)
        case first=>as_aux_lemma=>
         go_wp2_with (first | (go_at_call 24; refine hal.out.mono ?_; rintro e wz ⟨rfl,hI,hR,⟨ve,hM,hown⟩,hKr,hkx⟩; replace hI:=Hid.mk hI; replace hR:=Hid.mk hR; replace hM:=Hid.mk hM; replace hown:=Hid.mk hown; replace hKr:=Hid.mk hKr; replace hkx:=Hid.mk hkx))
         go_meet
         have hn:=hNI.out
         have hz:=hz7.out
         have hKl:=hK7.out
         have hown':=hown.out
         obtain ⟨ua,uc,rfl⟩:=out_slice hown'
         refine ⟨hI.out,hR.out,⟨ua,uc,hM.out,own_mono hown' (by omega)⟩,?_,?_,(hkx.out.block N0 (by omega) (by omega)).trans hS7.out,hB7.out.trans (hkx.out.low (by omega) (fun i hi=>by omega))⟩
         by_cases h:k=1
         ·rw [hk07.out h]
          have h0:=hlenH.out
          rw [if_pos h] at h0
          exact .inl ⟨List.eq_nil_of_length_eq_zero h0,rfl⟩
         ·rw [(hkn7.out h).1]
          have h0:=hlenH.out
          rw [if_neg h] at h0
          have:=IntsV.row (cap:=3) (hKr.out h)
          rw [h0] at this
          exact this
         intro g hg
         by_cases h:k=1
         ·rw [hk07.out h] at hg; cases hg
         ·rw [(hkn7.out h).1] at hg
          have:K=g:=by simpa [Value.ownBlock] using hg
          omega
        case rest=>
         clear hal hkn7 hk07 hK7 hS7 hB7 hz7
         obtain ⟨hI,hR,⟨ua,uc,hM,hown⟩,hiv,hne,hS,hB⟩:=hcut
         rename World=>w8
         have hI8:=Hid.mk hI
         have hR8:=Hid.mk hR
         have hM8:=Hid.mk hM
         have ho8:=Hid.mk hown
         have hv8:=Hid.mk hiv
         have hne8:=Hid.mk hne
         have hS8:=Hid.mk hS
         have hB8:=Hid.mk hB
         have herr:=Hid.mk (ierr_any I q.2.2 w8 hI)
         have c2:w8.cell? ⟨I+1,2,none⟩=some (.pointer (some ⟨I,0,none⟩)):=(cell_of_row _ _ _ _ _ _ hR).trans rfl
         have c3:w8.cell? ⟨I+1,3,none⟩=some (.bool q.2.1):=(cell_of_row _ _ _ _ _ _ hR).trans rfl
         clear hI hR hM hown hiv hne hS hB hra hbKH
         go_upto_region 17 with fail
         go_cut [11] (fun y wr=>y= .int .i64 (q.2.2.2:Nat)∧wr=w8)
         case first=>as_aux_lemma=>
          go_wp2_with (first | (go_at_call 30; refine herr.out.mono ?_; rintro e wz ⟨rfl,rfl⟩))
          go_meet
          exact ⟨rfl,rfl⟩
         case rest=>
          obtain ⟨rfl,hwr⟩:=hcut
          rename World=>w9
          subst hwr
          clear herr
          by_cases h1:q.2.2.2=0
          rotate_left
          ·as_aux_lemma=>
            have e1:(((q.2.2.2:Nat):Int) !=0)=true:=by simp; omega
            have hg:=Hid.mk (show getM s=(msZ,q.2.2.2) by rw [hgm2.out,hgb3.out,if_pos h1])
            clear h1
            go_wp2_with (first | (refine wpList_store_row rfl 35 _ _ rfl N0 (msC msZ nilS nilS) rfl rfl 35 _ hS8.out (msInfo.trans rfl) rfl one_msZ ?_))
            refine get_out ⟨_,hS8.out⟩ hB8.out _ hg.out _ ?_ ?_ <;> rfl
          have hgb4:=Hid.mk (hgb3.out.trans (if_neg (fun h=>h h1)))
          rw [h1]
          clear h1 hgb3
          have hMu:=hM8.out
          unfold msC at hMu
          have hMuH:=Hid.mk hMu
          have hgood:=good_any q.1 vk ua uc (N0+1) hfr1.out (by rw [hlenH.out]; split <;> omega) hents.out w9 hv8.out ho8.out
          unfold msC at hgood
          have hgoodH:=Hid.mk hgood
          clear hMu hgood
          go_upto_region 20 with fail
          go_cut [77] (fun y wr=>y= .bool (q.2.1 || !goodB q.1)∧Below w9.heap.size w9 wr)
          case first=>as_aux_lemma=>
           cases hmany:q.2.1 with
           | true=>
            rw [hmany] at c3
            have hmH:=Hid.mk hmany
            clear hmany
            go_wp2_with (fail)
            go_meet
            exact ⟨by rw [hmH.out]; rfl,Below.refl _ _⟩
           | false=>
            rw [hmany] at c3
            have hmH:=Hid.mk hmany
            clear hmany
            go_wp2_with (first | (refine wpList_load_rowG rfl 35 _ rfl (I+2) rfl _ _ _ _ hMuH.out Tryz.underlying35 rfl (msInfo.trans rfl) ?_) | (go_at_call 20; refine hgoodH.out.mono ?_; rintro e wz ⟨rfl,hBz⟩; replace hBz:=Hid.mk hBz))
            go_meet
            exact ⟨by rw [hmH.out]; rfl,hBz.out⟩
          case rest=>
           obtain ⟨rfl,hB⟩:=hcut
           rename World=>wa
           have hn0:N0≤w9.heap.size:=Nat.le_of_lt (Array.getElem?_eq_some_iff.1 hS8.out).1
           have hIa:=Hid.mk (hI8.out.below hB)
           have hRa:=Hid.mk ((hB.block _ (Array.getElem?_eq_some_iff.1 hR8.out).1).trans hR8.out)
           have hMa:=Hid.mk ((hB.block _ (Array.getElem?_eq_some_iff.1 hM8.out).1).trans hM8.out)
           have hSa:=Hid.mk ((hB.block _ (Array.getElem?_eq_some_iff.1 hS8.out).1).trans hS8.out)
           have hva:=Hid.mk (hv8.out.below hB)
           have hoa:=Hid.mk (out_same ho8.out fun g hg=>hB.block g (ho8.out.lt g hg).2)
           have hBa:=Hid.mk (hB8.out.trans (hB.mono hn0))
           clear hgoodH hMuH hI8 hR8 hM8 hS8 hv8 ho8 hB8 hB hn0 c2 c3
           cases hmg:(q.2.1 || !goodB q.1) with
           | true=>
            as_aux_lemma=>
             have hg:=Hid.mk (show getM s=(msZ,2) by rw [hgm2.out,hgb4.out,if_pos hmg])
             clear hmg
             go_wp2_with (first | (refine wpList_store_row rfl 35 _ _ rfl N0 (msC msZ nilS nilS) rfl rfl 35 _ hSa.out (msInfo.trans rfl) rfl one_msZ ?_))
             refine get_out ⟨_,hSa.out⟩ hBa.out _ hg.out _ ?_ ?_ <;> rfl
           | false=>
            have hgb5:=Hid.mk (hgb4.out.trans (if_neg (by rw [hmg]; decide)))
            clear hmg hgb4
            have hend:=Hid.mk (iend_any I q.2.2 wa hIa.out)
            have c2:wa.cell? ⟨I+1,2,none⟩=some (.pointer (some ⟨I,0,none⟩)):=(cell_of_row _ _ _ _ _ _ hRa.out).trans rfl
            go_upto_region 22 with fail
            go_cut [12] (fun y wr=>y= .int .i64 (endE q.2.2:Nat)∧wr=wa)
            case first=>as_aux_lemma=>
             go_wp2_with (first | (go_at_call 31; refine hend.out.mono ?_; rintro e wz ⟨rfl,rfl⟩))
             go_meet
             exact ⟨rfl,rfl⟩
            case rest=>
             obtain ⟨rfl,hwr⟩:=hcut
             rename World=>wb
             subst hwr
             clear hend c2
             by_cases h1:endE q.2.2=0
             rotate_left
             ·as_aux_lemma=>
               have e1:(((endE q.2.2:Nat):Int) !=0)=true:=by simp; omega
               have hg:=Hid.mk (show getM s=(msZ,endE q.2.2) by rw [hgm2.out,hgb5.out,if_pos h1])
               clear h1
               go_wp2_with (first | (refine wpList_store_row rfl 35 _ _ rfl N0 (msC msZ nilS nilS) rfl rfl 35 _ hSa.out (msInfo.trans rfl) rfl one_msZ ?_))
               refine get_out ⟨_,hSa.out⟩ hBa.out _ hg.out _ ?_ ?_ <;> rfl
             have hg:=Hid.mk (show getM s=(q.1,0) by rw [hgm2.out,hgb5.out,if_neg (fun h=>h h1)])
             rw [h1]
             clear h1 hgb5
             have hMu:=hMa.out
             unfold msC at hMu
             have hMuH:=Hid.mk hMu
             obtain ⟨ka,nk,kc,rfl⟩:=hvk.out
             clear hMu hvk
             go_wp2_with (first | (refine wpList_load_row rfl 35 _ rfl (I+2) rfl _ _ _ _ hMuH.out Tryz.underlying35 rfl (msInfo.trans rfl) ?_) | (refine wpList_store_row rfl 35 _ _ rfl N0 (msC q.1 (.slice ka nk kc) (.slice ua q.1.ents.length uc)) rfl rfl 35 _ hSa.out (msInfo.trans rfl) rfl (one_msC _ _ _ _ _ _ _) ?_))
             have hr:=setRow_heap wb N0 _ (msC q.1 (.slice ka nk kc) (.slice ua q.1.ents.length uc)) 35 _ hSa.out
             refine bodyPost_ret (results_ct_row rfl _ _ N0 _ _ _ _ rfl hr Tryz.underlying35 rfl (msInfo.trans rfl)) rfl ⟨.slice ka nk kc,ua,uc,?_,?_,?_,?_⟩
             ·rw [hg.out]; rfl
             ·rw [hg.out]; exact hva.out.same (fun g hg=>setRow_other _ _ _ _ (hne8.out g hg)) (by simp [World.setRow])
             ·rw [hg.out]; exact own_mono (out_same hoa.out fun g hg=>setRow_other _ _ _ _ (by have:=(hoa.out.lt g hg).1; omega)) (Nat.le_succ _)
             ·exact setRow_low hBa.out _ _ (Nat.le_refl _)
end Go.Proofs.YtniamhbcmcgonaaGreatDoor
namespace Go.Proofs.YtniamhbcmcgonaaGreatDoor
open Go.RowKit Go.Ev
theorem intS_num {z:Int} (h:goodN z) (r:Str):intS (numP z++r,0)=(z,(r,0)):=by
 unfold intS numP
 have hz:z.toNat≤9007199254740992:=by unfold goodN at h; omega
 rw [if_pos rfl]
 simp only [get_put hz,if_true,List.drop_left]
 rw [Int.toNat_of_nonneg h.1]
theorem intS_last {z:Int} (h:goodN z):intS (numP z,0)=(z,([],0)):=by
 have:=intS_num h []
 rwa [List.append_nil] at this
theorem open_wrap {b:Str} (h:b.length≤1048576):openS (wrapP b)=(b,0):=by
 have hg:getN (wrapP b)=(((b.length:Nat):Int),(putN b.length).length,0):=by
  unfold wrapP
  rw [List.append_assoc]
  exact get_put (by omega) _
 have hl:(wrapP b).length=(putN b.length).length+b.length+4:=by
  unfold wrapP
  rw [List.length_append,List.length_append]
  rfl
 unfold openS
 rw [hg]
 simp only [Int.toNat_natCast]
 rw [if_neg (by simp),if_neg (by omega),if_neg (by omega),hl,if_neg (by omega),if_neg (by omega)]
 have hp:(putN b.length++b).length=(putN b.length).length+b.length:=List.length_append
 have ht:(wrapP b).take ((putN b.length).length+b.length)=putN b.length++b:=by
  unfold wrapP
  rw [← hp,List.take_left]
 have hd:(wrapP b).drop ((putN b.length).length+b.length)=sealP (putN b.length++b):=by
  unfold wrapP
  rw [← hp,List.drop_left]
 rw [ht,hd,if_neg (fun h=>h rfl),List.drop_left]
def mv (k f n a b c v:Int):Ms:={ kind:=k,from_:=f,born:=n,kn:=[a,b,c],view:=v,last:=0,op:=0,commit:=0,client:=0,number:=0,nonce:=0,text:=[],full:=false,base:=0,state:=[],ents:=[] }
theorem good0:goodN 0:=⟨by decide,by decide⟩
theorem xOf_mv {k:Int} (hk:k=3∨k=6) (f n a b c v:Int):xOf (mv k f n a b c v)=msK k:=by
 unfold xOf mv msK
 rcases hk with rfl | rfl <;> rfl
theorem all_mv {k f n a b c v:Int} (hk:k=3∨k=6) (hf:goodN f) (hn:goodN n) (ha:goodN a) (hb:goodN b) (hc:goodN c) (hv:goodN v):allS (msK k,(allP (mv k f n a b c v),0))=(mv k f n a b c v,false,([],0)):=by
 rcases hk with rfl | rfl
 ·have e:allP (mv 3 f n a b c v)=numP f++(numP n++(numP a++(numP b++(numP c++(numP v++(numP 0++[])))))):=by
   unfold allP hdP bodyP tailP viewsP mv
   simp [tailB]
  rw [e]
  unfold allS tailS bodyS hdS viewsS viewsS0 stN g_from_ g_born
  simp [msK,knS,intS_num,hf,hn,ha,hb,hc,hv,tailB,stN,g_view,g_op,mv,intS_last good0]
 ·have e:allP (mv 6 f n a b c v)=numP f++(numP n++(numP a++(numP b++(numP c++(numP v++[]))))):=by
   unfold allP hdP bodyP tailP viewsP mv
   simp [tailB]
  rw [e]
  unfold allS tailS bodyS hdS viewsS viewsS0 stN g_from_ g_born
  simp [msK,knS,intS_num,hf,hn,ha,hb,hc,tailB,stN,g_view,g_op,mv,intS_last hv]
theorem good_mv {k f n a b c v:Int} (hk:k=3∨k=6) (hf:0≤f∧f < 3) (hn:goodN n) (ha:goodN a) (hb:goodN b) (hc:goodN c) (hv:goodN v):goodB (mv k f n a b c v)=true:=by
 have hu:usedB (mv k f n a b c v)=true:=by
  unfold usedB
  rw [xOf_mv hk,all_mv hk ⟨hf.1,by omega⟩ hn ha hb hc hv]
  simp [endE,sameB_self]
 have hz:goodZ (mv k f n a b c v)=true:=by
  unfold goodN at hn ha hb hc hv
  unfold goodZ nums mv numB
  simp [hn,ha,hb,hc,hv]
 have h1:goodK (mv k f n a b c v)=true:=by rcases hk with rfl | rfl <;> rfl
 have h2:goodF (mv k f n a b c v)=true:=by
  unfold goodF mv
  rcases hk with rfl | rfl <;> simp [hf]
 have h3:goodL (mv k f n a b c v)=true:=by rfl
 have h4:fitsB (mv k f n a b c v)=true:=by rcases hk with rfl | rfl <;> rfl
 unfold goodB
 rw [h1,h2,hz,h3,h4,hu]
 rfl
theorem body_le {m:Ms} (h:goodB m=true) (hfr:m.kind=1→goodN m.from_):(bodyM m).length≤1048576:=by
 obtain ⟨q1,q2,q3,q4,q5,q6⟩:=good_parts h
 obtain ⟨hok,hT,h1,h12,hkn3,hkn0⟩:=good_ok q1 q2 q3 q4 hfr
 unfold bodyM
 rw [List.length_append]
 have:=numP_le (z:=m.kind) ⟨by omega,by omega⟩
 omega
theorem get_mv {k f n a b c v:Int} (hk:k=3∨k=6) (hf:0≤f∧f < 3) (hn:goodN n) (ha:goodN a) (hb:goodN b) (hc:goodN c) (hv:goodN v):getM (putP (mv k f n a b c v))=(mv k f n a b c v,0):=by
 have hg:=good_mv hk hf hn ha hb hc hv
 have hl:=body_le hg (fun h=>by rcases hk with rfl | rfl <;> cases h)
 have hall:=all_mv hk ⟨hf.1,by omega⟩ hn ha hb hc hv
 have hK:rdK (bodyM (mv k f n a b c v))=(k,(allP (mv k f n a b c v),0)):=by
  unfold rdK bodyM
  exact intS_num (z:=k) ⟨by omega,by omega⟩ _
 have hA:rdA (bodyM (mv k f n a b c v))=(mv k f n a b c v,false,([],0)):=by
  unfold rdA
  rw [hK]; exact hall
 unfold getM putP
 rw [if_pos hg,open_wrap hl,if_neg (by simp),getB_eq,hK,hA,hg]
 rw [if_neg (by simp),if_neg (by simp only; omega),if_neg (by simp),if_neg (by simp),if_neg (by simp [endE])]
theorem put_le {m:Ms} (hfr:m.kind=1→goodN m.from_):(putP m).length≤1048600:=by
 unfold putP
 split
 ·rename_i h
  have hl:=body_le h hfr
  unfold wrapP
  rw [List.length_append,List.length_append]
  have:=putN_le (n:=(bodyM m).length) (by omega)
  have e:(sealP (putN (bodyM m).length++bodyM m)).length=4:=rfl
  omega
 ·simp
end Go.Proofs.YtniamhbcmcgonaaGreatDoor
