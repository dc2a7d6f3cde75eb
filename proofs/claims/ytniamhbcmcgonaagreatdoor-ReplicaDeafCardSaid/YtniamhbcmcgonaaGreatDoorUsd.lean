/- Message.used. message.Good. message.Good, walked. -/
import Derived.Test.YtniamhbcmcgonaaGreatDoorCat
import Derived.Test.YtniamhbcmcgonaaGreatDoorSam
import Derived.Test.YtniamhbcmcgonaaGreatDoorFit
import Derived.Test.YtniamhbcmcgonaaGreatDoorAww
import Derived.Laws.Tables
import Derived.Great.BuildSlice
namespace Go.Proofs.YtniamhbcmcgonaaGreatDoor
open Go.RowKit Go.Ev
def xOf (m:Ms):Ms:={ kind:=m.kind,from_:=0,born:=0,kn:=List.replicate m.kn.length 0,view:=0,last:=0,op:=0,commit:=0,client:=0,number:=0,nonce:=0,text:=[],full:=m.full && decide (m.kind=10),base:=0,state:=[],ents:=[] }
noncomputable def usedB (m:Ms):Bool:= !(allS (xOf m,(allP m,0))).2.1 && (decide (endE (allS (xOf m,(allP m,0))).2.2=0) && sameB (allS (xOf m,(allP m,0))).1 m)
theorem Kp.low {F N N0:Nat} {w w':World} (h:Kp F N w w') (hF:N0≤F) (hN:N0≤N):Below N0 w w':=⟨h.os,h.tape,h.output,h.size,fun i hi=>h.block i (by omega) (by omega)⟩
theorem Kx.low {S:Nat→Prop} {N0:Nat} {w w':World} (h:Kx S w w') (hw:N0≤w.heap.size) (hS:∀ i,i < N0→¬ S i):Below N0 w w':=⟨h.os,h.tape,h.output,h.size,fun i hi=>h.block i (by omega) (hS i hi)⟩
theorem alloc2_new (w:World) (a b:Obj):((w.alloc a).alloc b).heap[w.heap.size+1]?=some b:=(congrArg (fun n=>((w.alloc a).alloc b).heap[n]?) (show w.heap.size+1=(w.alloc a).heap.size by simp)).trans (heap_alloc_new (w.alloc a) b)
theorem alloc2_old (w:World) (a b:Obj):((w.alloc a).alloc b).heap[w.heap.size]?=some a:=(heap_alloc_old _ _ (by simp)).trans (heap_alloc_new w a)
theorem wpList_make_run {P:Program} {ops:Array Oper} {rest:List Oper} {o:Oper} {a:Act} {w:World} {Q:Exit→Act→World→Prop} (hgd:o.guard=none) (x y:Operand) (t:TypeId)
  (ho:o.op=Op.makeSlice t x y) (v1 v2:Value) (h1:a.eval x=v1) (h2:a.eval y=v2) (v:Value) (w':World)
  (hr:(Instr.makeSlice t v1 v2).run P w= .ok v w') (h:wpList P ops Q rest (a.put o.dst v) w'):wpList P ops Q (o::rest) a w:=by
 refine wpList_plain hgd fun K hK=> ?_
 unfold Oper.wp
 simp [execOp,ho,h1,h2,hr,Result.andThen]
 exact hK _ _ h
theorem wpList_load_rowG {P:Program} {ops:Array Oper} {rest:List Oper} {o:Oper} {a:Act} {w:World} {Q:Exit→Act→World→Prop} (hw:Region.wanted o (yielded ops a.tmps)=true) (ty:TypeId) (x:Operand) (ho:o.op= .load ty x)
  (g:Nat) (hx:a.eval x= .pointer (some ⟨g,0,none⟩)) (t:TypeId) (cs:Array Value) (fr:Nat × Nat) (d:TypeDesc) (hg:w.heap[g]?=some (.cells cs t fr))
  (hu:P.underlying ty=some d) (hd:(match d with | .struct _ | .array _ _=>true | _=>false)=true) (hi:(P.info? ty).map (·.size)=some cs.size)
  (h:wpList P ops Q rest (a.put o.dst (.agg cs)) w):wpList P ops Q (o::rest) a w:=
 wpList_step fun K hK=>by rw [if_pos hw]; exact wp_load_row ty x ho g hx t cs fr d hg hu hd hi (hK _ _ h)
theorem mz (n:Nat):madeCells (Value.int .i64 0).cells (n*1)=intRow (List.replicate n 0):=by
 apply Array.ext
 ·simp [madeCells,intRow]
 ·intro i h1 h2
  simp [madeCells,intRow,Value.cells,Nat.mod_one]
theorem make_zeros (n:Nat) (hn:n=0∨n=3) (w:World):(Instr.makeSlice 32 (.int .i64 (n:Nat)) (.int .i64 (n:Nat))).run Tryz.prog w= .ok (.slice (some ⟨w.heap.size,0,none⟩) n n) (w.alloc (.cells (intRow (List.replicate n 0)) 3)):=by
 obtain ⟨i0,hi,hz0,hz1,hz2⟩:=info_parts intInfo
 have h:=run_make (P:=Tryz.prog) w 32 3 i0 (.int .i64 0) Tryz.underlying32 hi hz0 .i64 .i64 (n:Int) (n:Int) (by omega) (Int.le_refl _) (by rw [hz2]; rcases hn with rfl | rfl <;> decide) (by omega)
 rw [hz1,Int.toNat_natCast] at h
 rw [h,mz]
theorem tailS_kn (p:Rs):(tailS p).1.kn=p.1.kn:=by unfold tailS; split <;> rfl
theorem bodyS_kn (p:Rs):(bodyS p).1.kn=p.1.kn:=by
 unfold bodyS
 (repeat' split) <;> first | rfl | exact (viewsS_keep p).2
theorem allS_kn (p:Rs):(allS p).1.kn=(hdS p).1.kn:=by unfold allS; rw [tailS_kn,bodyS_kn]
theorem allS_kn1 {p:Rs} (h:p.1.kind=1):(allS p).1.kn=p.1.kn:=by rw [allS_kn]; unfold hdS; rw [if_pos h]
theorem allS_kn3 {p:Rs} (h:p.1.kind≠1):(allS p).1.kn.length=3:=by rw [allS_kn]; unfold hdS; rw [if_neg h]; exact knS_size _ 3
theorem entsGo_len:∀ (n:Nat) (acc:List Ent) (st:Inp),(entsGo n acc st).1.length≤acc.length+n
 | 0,acc,st=>Nat.le_refl _
 | n+1,acc,st=>by
  unfold entsGo
  split
  ·have:=entsGo_len n (acc++[(oneS st).1]) (oneS st).2
   rw [List.length_append] at this
   simp at this; omega
  ·show acc.length≤_; omega
theorem entsS_len (st:Inp):(entsS st).1.length≤64:=by
 unfold entsS
 split
 ·simp
 ·rename_i h
  have:=entsGo_len (intS st).1.toNat [] (intS st).2
  simp at this
  simp only
  omega
theorem viewsS0_ents (p:Rs):(viewsS0 p).1.ents=p.1.ents:=by
 unfold viewsS0
 (repeat' split) <;> rfl
theorem allS_ents {p:Rs} (h:p.1.ents=[]):(allS p).1.ents.length≤64:=by
 have hh:(hdS p).1.ents=[]:=by rw [hdS_ents]; exact h
 have hb:(bodyS (hdS p)).1.ents.length≤64:=by
  generalize hdS p=q at hh ⊢
  unfold bodyS
  (repeat' split) <;> first | (show q.1.ents.length≤64; rw [hh]; simp) | skip
  unfold viewsS
  split
  ·simp
  ·rw [viewsS0_ents,hh]; simp
 unfold allS tailS
 split
 ·exact entsS_len _
 ·exact hb
theorem EntsAt.own {w:World} {B F:Nat} {ua:Option Addr} {uc:Nat} {es:List Ent} (h:w.ownsRow B 75 3 (.slice ua es.length uc) es.length (es.flatMap entC)) (hF:F < B):EntsAt F w.heap.size w ua es:=fun j hj=>by
 rcases h.2 with ⟨hn,h0⟩ | ⟨g,cap',cur,hv,_⟩
 ·omega
 ·injection hv with h1 h2 h3
  have hg:(Value.slice ua es.length uc).ownBlock=some g:=by rw [h1]; rfl
  have hlt:=h.lt g hg
  exact ⟨g,0,h1,hlt.2,by omega,fun i hi=>by rw [Nat.zero_add]; exact ents_cell h hg j i hj hi⟩
theorem KnAt.own {w:World} {B F:Nat} {va:Option Addr} {vc:Nat} {l:List Int} (h:w.ownsRow B 3 1 (.slice va l.length vc) l.length (l.map fun z=>Value.int .i64 z)) (hF:F < B) (h3:l.length=3):KnAt F w.heap.size w (.slice va l.length vc) l:=by
 rcases h.2 with ⟨hn,h0⟩ | ⟨g,cap',cur,hv,_⟩
 ·omega
 ·injection hv with h1 h2 h4
  subst h1
  have hlt:=h.lt g rfl
  refine ⟨g,0,vc,rfl,hlt.2,by omega,fun j hj=> ?_⟩
  have hc:=h.cells (g:=g) rfl j (.int .i64 (l.getD j 0)) (by simp [List.getD,hj])
  rw [Addr.add_lit,Nat.zero_add] at hc
  rw [Nat.zero_add]
  exact hc
set_option maxRecDepth 100000 in
set_option maxHeartbeats 12800000 in
theorem used_any (m:Ms) (vk:Value) (a:Option Addr) (cap B:Nat) (hg:MsOk m) (h1:1≤m.kind) (h12:m.kind≤12) (h2k:m.kind=2→m.ents.length=1) (hkn:m.kind≠1→m.kn.length=3) (hk1:m.kind=1→m.kn=[])
  (hT:(allP m).length≤1000000) (w:World) (hk:IntsV w vk m.kn) (he:w.ownsRow B 75 3 (.slice a m.ents.length cap) m.ents.length (m.ents.flatMap entC)) :
  Calls Tryz.prog 56 #[.agg (msC m vk (.slice a m.ents.length cap)),.int .i64 3] w fun e w'=>e= .returned (.bool (usedB m))∧Below w.heap.size w w':=by
 have hm:Tryz.prog.follows .mixedOrders=true:=by kernel_rfl
 obtain ⟨ka,kc,rfl⟩:∃ a c,vk= .slice a m.kn.length c:=by
  obtain ⟨a,c,h,_⟩:=hk.at
  exact ⟨a,c,h⟩
 obtain ⟨N0,hN0⟩:∃ n,w.heap.size=n:=⟨_,rfl⟩
 have hgH:=Hid.mk hg
 have h1H:=Hid.mk h1
 have h12H:=Hid.mk h12
 have h2kH:=Hid.mk h2k
 have hknH:=Hid.mk hkn
 have hk1H:=Hid.mk hk1
 have hTH:=Hid.mk hT
 have hkH:=Hid.mk hk
 have heH:=Hid.mk he
 have hN0H:=Hid.mk hN0
 clear hg h1 h12 h2k hkn hk1 hT hk he hN0
 unfold msC
 go_enter Tryz.func56,Tryz.ntmps56
 go_upto_region 1 with fail
 go_cut [0,2,5] (fun _ x y wr=>x= .pointer (some ⟨w.heap.size,0,none⟩)∧y= .pointer (some ⟨w.heap.size+1,0,none⟩)∧wr.heap[w.heap.size]?=some (.cells (msC m (.slice ka m.kn.length kc) (.slice a m.ents.length cap)) 35 (0,0))
  ∧ wr.heap[w.heap.size+1]?=some (.cells (msC (xOf m) (.slice ka m.kn.length kc) (.slice none 0 0)) 35 (0,0))∧Below w.heap.size w wr)
 case first=>as_aux_lemma=>
  obtain ⟨b,hb⟩:∃ b,(m.kind==10)=b:=⟨_,rfl⟩
  have hbd:=Hid.mk (show decide (m.kind=10)=b from by rw [← int_eqB]; exact hb)
  cases hf:m.full
  all_goals
   have hfH:=Hid.mk hf
   clear hf
   go_wp2_with (fail)
   go_meet
   refine ⟨rfl,rfl,(alloc2_old _ _ _).trans ?_,(alloc2_new _ _ _).trans ?_,((Below.refl _ w).alloc (Nat.le_refl _) _).alloc (by simp) _⟩
   ·unfold msC; rw [hfH.out]
   ·unfold msC xOf; rw [hfH.out,hbd.out]; rfl
 case rest=>
  obtain ⟨rfl,rfl,hS,hX,hB⟩:=hcut
  rename World=>w1
  have hNs:N0+2≤w1.heap.size:=by have:=(Array.getElem?_eq_some_iff.1 hX).1; have:=hN0H.out; omega
  rw [hN0H.out] at hS hX hB ⊢
  have hNsH:=Hid.mk hNs
  have hSH:=Hid.mk hS
  have hXH:=Hid.mk hX
  have hBH:=Hid.mk hB
  clear hS hX hB hNs
  have d0:w1.cell? ⟨N0,0,none⟩=some (.int .i64 m.kind):=(cell_of_row _ _ _ _ _ _ hSH.out).trans rfl
  go_upto_if 25 with fail
  go_cut [5] (fun y wr=>y= .pointer (some ⟨N0+1,0,none⟩)∧wr.heap[N0]?=some (.cells (msC m (.slice ka m.kn.length kc) (.slice a m.ents.length cap)) 35 (0,0))
   ∧ (∃ xa xc,wr.heap[N0+1]?=some (.cells (msC (xOf m) (.slice xa m.kn.length xc) (.slice none 0 0)) 35 (0,0)))∧Below N0 w wr∧N0+2≤wr.heap.size)
  case first=>as_aux_lemma=>
   by_cases hk:m.kind=1
   ·have e1:(m.kind==1)=true:=by simp [hk]
    have hkH:=Hid.mk hk
    have d3:w1.cell? ⟨N0+1,3,none⟩=some (.slice ka m.kn.length kc):=(cell_of_row _ _ _ _ _ _ hXH.out).trans rfl
    have f3:=frozen_of_row _ _ 3 _ _ hXH.out
    clear hk
    go_wp2_with (fail)
    go_meet
    refine ⟨rfl,(Below.heap_setCell _ _ _ _ (by simp)).trans hSH.out,⟨none,0,?_⟩,⟨hBH.out.os,hBH.out.tape,hBH.out.output,by simpa [World.setCell] using hBH.out.size,fun i hi=>(Below.heap_setCell _ _ _ _ (by simp; omega)).trans (hBH.out.block i hi)⟩,by simpa [World.setCell] using hNsH.out⟩
    rw [heap_setCell_same _ _ _ _ _ _ hXH.out,hk1H.out hkH.out]
    rfl
   ·have e1:(m.kind==1)=false:=by simp [hk]
    clear hk
    go_wp2_with (fail)
    go_meet
    exact ⟨rfl,hSH.out,⟨ka,kc,hXH.out⟩,hBH.out,hNsH.out⟩
  case rest=>
   clear hSH hXH hBH hNsH d0
   obtain ⟨rfl,hS,⟨xa,xc,hX⟩,hB,hNs⟩:=hcut
   rename World=>w2
   have hNsH:=Hid.mk hNs
   have hSH:=Hid.mk hS
   have hXH:=Hid.mk hX
   have hBH:=Hid.mk hB
   clear hS hX hB hNs
   go_upto_region 5 with fail
   go_cut [6,7] (fun x y wr=>x= .pointer (some ⟨w2.heap.size,0,none⟩)∧y= .pointer (some ⟨w2.heap.size+1,0,none⟩)∧wr.heap[w2.heap.size]?=some (.cells #[.slice none 0 0,.bool false,.pointer none,.bool false] 71 (0,0))
    ∧ wr.heap[w2.heap.size+1]?=some (.cells (msC m (.slice ka m.kn.length kc) (.slice a m.ents.length cap)) 35 (0,0))∧Below w2.heap.size w2 wr)
   case first=>as_aux_lemma=>
    have hSu:=hSH.out
    unfold msC at hSu
    have hSuH:=Hid.mk hSu
    have hlt:N0 < w2.heap.size:=by have:=hNsH.out; omega
    clear hSu
    go_wp2_with (refine wpList_load_row rfl 35 _ rfl N0 rfl _ _ _ _ ((heap_alloc_old _ _ hlt).trans hSuH.out) Tryz.underlying35 rfl (msInfo.trans rfl) ?_)
    go_meet
    exact ⟨rfl,rfl,alloc2_old _ _ _,alloc2_new _ _ _,((Below.refl _ w2).alloc (Nat.le_refl _) _).alloc (by simp) _⟩
   case rest=>
    obtain ⟨rfl,rfl,hF,hC,hB⟩:=hcut
    rename World=>w3
    have hC3:=Hid.mk (Array.getElem?_eq_some_iff.1 hC).1
    have hFr:=Hid.mk hF
    have hCr:=Hid.mk hC
    have hB3:=Hid.mk hB
    have hN3:=Hid.mk (show N0 < w3.heap.size by have:=hNsH.out; have:=hC3.out; omega)
    have hB03:=Hid.mk (hBH.out.trans (hB.mono (by have:=hNsH.out; omega)))
    have hS3:=Hid.mk ((hB.block N0 (by have:=hNsH.out; omega)).trans hSH.out)
    clear hF hC hB
    have d3:w3.drew.cell? ⟨N0,3,none⟩=some (.slice ka m.kn.length kc):=(cell_of_row w3 _ _ _ _ _ hS3.out).trans rfl
    have d15:w3.drew.cell? ⟨N0,15,none⟩=some (.slice a m.ents.length cap):=(cell_of_row w3 _ _ _ _ _ hS3.out).trans rfl
    have hdr:=Hid.mk (show Below w3.heap.size w3 w3.drew from ⟨rfl,rfl,rfl,Nat.le_refl _,fun _ _=>rfl⟩)
    have hkd:=Hid.mk (show IntsV w3.drew (.slice ka m.kn.length kc) m.kn from (hkH.out.below (by rw [hN0H.out]; exact hB03.out)).below hdr.out)
    have he3:=Hid.mk (show w3.ownsRow B 75 3 (.slice a m.ents.length cap) m.ents.length (m.ents.flatMap entC) from out_same heH.out fun g hg=>hB03.out.block g (by have:=(heH.out.lt g hg).2; have:=hN0H.out; omega))
    have hgk:=Hid.mk (show m.kn.length≤3 by
     by_cases h:m.kind=1
     ·rw [hk1H.out h]; simp
     ·rw [hknH.out h]; omega)
    go_upto_region 6 with fail
    go_cut [7] (fun y wr=>y= .pointer (some ⟨w2.heap.size+1,0,none⟩)∧∃ va vc ua uc,wr.heap[w2.heap.size]?=some (.cells #[.slice none 0 0,.bool false,.pointer none,.bool false] 71 (0,0))
     ∧ wr.heap[w2.heap.size+1]?=some (.cells (msC m (.slice va m.kn.length vc) (.slice ua m.ents.length uc)) 35 (0,0))
     ∧ wr.ownsRow (w2.heap.size+2) 3 1 (.slice va m.kn.length vc) m.kn.length (m.kn.map fun z=>Value.int .i64 z)∧wr.ownsRow (w2.heap.size+2) 75 3 (.slice ua m.ents.length uc) m.ents.length (m.ents.flatMap entC)∧Below w2.heap.size w2 wr)
    case first=>as_aux_lemma=>
     have hS0:=E4.start w3.drew (fun i=>match i with | 0=> .pointer (some ⟨N0,3,none⟩) | 1=> .slice ka m.kn.length kc | 3=> .pointer (some ⟨N0,15,none⟩) | 4=> .slice a m.ents.length cap | 6=> .pointer (some ⟨w2.heap.size+1,3,none⟩) | 8=> .pointer (some ⟨w2.heap.size+1,15,none⟩) | _=>undef)
      (P1i w3.heap.size w3 m.kn) (P2i w3.heap.size w3 m.kn m.ents) (fun v u w'=>∃ wp,P2i w3.heap.size w3 m.kn m.ents v u wp∧w'=wp.setCell ⟨w2.heap.size+1,3,none⟩ v)
      (fun w'=>∃ va vc ua uc wp,P2i w3.heap.size w3 m.kn m.ents (.slice va m.kn.length vc) (.slice ua m.ents.length uc) wp∧w'=(wp.setCell ⟨w2.heap.size+1,3,none⟩ (.slice va m.kn.length vc)).setCell ⟨w2.heap.size+1,15,none⟩ (.slice ua m.ents.length uc))
     go_wp2_with (fail)
     refine Go.Ev.wp_region_inv _ hm (by kernel_rfl) (by kernel_rfl) hS0 ?_
     refine ⟨fun D vs wq K hQ hd hdep hcl hK=> ?_,?_⟩
     ·go_simp
      exact hK _ _ (hQ.pure (by decide) rfl)
     simp only [Act.put,List.setIfInBounds_toArray,List.set_cons_succ,List.set_cons_zero,Nat.reduceAdd]
     refine ⟨fun D vs wq K hQ hd hdep hcl hK=> ?_,?_⟩
     ·have e0:=hQ.vals 0 (depB hdep 0 (by kernel_rfl)) (by decide) (by decide)
      simp only at e0
      simp only [e0] at hK ⊢
      obtain rfl:=hQ.p0 (closedF hcl 2 1 (by kernel_rfl) hd)
      go_simp
      exact hK _ _ (hQ.pure (by decide) rfl)
     simp only [Act.put,List.setIfInBounds_toArray,List.set_cons_succ,List.set_cons_zero,Nat.reduceAdd]
     refine ⟨fun D vs wq K hQ hd hdep hcl hK=> ?_,?_⟩
     ·have e1:=hQ.vals 1 (depB hdep 1 (by kernel_rfl)) (by decide) (by decide)
      simp only at e1
      simp only [e1] at hK ⊢
      obtain rfl:=hQ.p0 hd
      have h5:=closedF hcl 5 2 (by kernel_rfl) hd
      have h7:=closedF hcl 7 2 (by kernel_rfl) hd
      have h9:=closedF hcl 9 2 (by kernel_rfl) hd
      go_wp2_with (fail)
      go_at_call 21
      refine (iclone_any _ _ (by have:=hgk.out; omega) w3.drew hkd.out).mono ?_
      rintro e wz ⟨va,vc,rfl,hown,hBz⟩
      go_wp2_with (fail)
      exact hQ.s1 h5 h7 h9 ⟨⟨va,vc,rfl⟩,hown,hdr.out.trans hBz,hBz.size⟩
     simp only [Act.put,List.setIfInBounds_toArray,List.set_cons_succ,List.set_cons_zero,Nat.reduceAdd]
     refine ⟨fun D vs wq K hQ hd hdep hcl hK=> ?_,?_⟩
     ·go_simp
      exact hK _ _ (hQ.pure (by decide) rfl)
     simp only [Act.put,List.setIfInBounds_toArray,List.set_cons_succ,List.set_cons_zero,Nat.reduceAdd]
     refine ⟨fun D vs wq K hQ hd hdep hcl hK=> ?_,?_⟩
     ·have e3:=hQ.vals 3 (depB hdep 3 (by kernel_rfl)) (by decide) (by decide)
      simp only at e3
      simp only [e3] at hK ⊢
      have h5:=closedF hcl 5 4 (by kernel_rfl) hd
      have dq:wq.cell? ⟨N0,15,none⟩=some (.slice a m.ents.length cap):=by
       cases h2:D 2 with
       | false=>rw [hQ.p0 h2]; exact d15
       | true=>exact ((hQ.p1 h2 h5).2.2.1.cell (by exact hN3.out)).trans d15
      go_simp
      exact hK _ _ (hQ.pure (by decide) rfl)
     simp only [Act.put,List.setIfInBounds_toArray,List.set_cons_succ,List.set_cons_zero,Nat.reduceAdd]
     refine ⟨fun D vs wq K hQ hd hdep hcl hK=> ?_,?_⟩
     ·have e4:=hQ.vals 4 (depB hdep 4 (by kernel_rfl)) (by decide) (by decide)
      simp only at e4
      have d2:=depB hdep 2 (by kernel_rfl)
      simp only [e4] at hK ⊢
      have h7:=closedF hcl 7 5 (by kernel_rfl) hd
      have h9:=closedF hcl 9 5 (by kernel_rfl) hd
      have hP:=hQ.p1 d2 hd
      have heq:=out_same he3.out fun g hg=>hP.2.2.1.block g (he3.out.lt g hg).2
      go_wp2_with (fail)
      go_at_call 22
      refine (eclone_any B _ m.ents hgH.out.e64 wq heq).mono ?_
      rintro e wz ⟨u,rfl,hown,hBz⟩
      obtain ⟨ua,uc,rfl⟩:=out_slice hown
      go_wp2_with (fail)
      exact hQ.s2 d2 h7 h9 ⟨hP.below hBz,⟨ua,uc,rfl⟩,own_mono hown hP.2.2.2⟩
     simp only [Act.put,List.setIfInBounds_toArray,List.set_cons_succ,List.set_cons_zero,Nat.reduceAdd]
     refine ⟨fun D vs wq K hQ hd hdep hcl hK=> ?_,?_⟩
     ·go_simp
      exact hK _ _ (hQ.pure (by decide) rfl)
     simp only [Act.put,List.setIfInBounds_toArray,List.set_cons_succ,List.set_cons_zero,Nat.reduceAdd]
     refine ⟨fun D vs wq K hQ hd hdep hcl hK=> ?_,?_⟩
     ·have e6:=hQ.vals 6 (depB hdep 6 (by kernel_rfl)) (by decide) (by decide)
      simp only at e6
      have d2:=depB hdep 2 (by kernel_rfl)
      have d5:=depB hdep 5 (by kernel_rfl)
      have h9:=closedF hcl 9 7 (by kernel_rfl) hd
      have hP:=hQ.p2 d5 hd
      obtain ⟨va,vc,hv⟩:=hP.1.1
      simp only [e6,hv] at hK ⊢
      have hC:=(hP.1.2.2.1.block _ hC3.out).trans hCr.out
      have dC:wq.cell? ⟨w2.heap.size+1,3,none⟩=some (.slice ka m.kn.length kc):=(cell_of_row _ _ _ _ _ _ hC).trans rfl
      have fC:=frozen_of_row _ _ 3 _ _ hC
      clear hC
      go_simp
      exact hK _ _ (hQ.s3 d2 d5 h9 rfl ⟨wq,hP,by rw [hv]⟩)
     simp only [Act.put,List.setIfInBounds_toArray,List.set_cons_succ,List.set_cons_zero,Nat.reduceAdd]
     refine ⟨fun D vs wq K hQ hd hdep hcl hK=> ?_,?_⟩
     ·go_simp
      exact hK _ _ (hQ.pure (by decide) rfl)
     simp only [Act.put,List.setIfInBounds_toArray,List.set_cons_succ,List.set_cons_zero,Nat.reduceAdd]
     refine ⟨fun D vs wq K hQ hd hdep hcl hK=> ?_,?_⟩
     ·have e8:=hQ.vals 8 (depB hdep 8 (by kernel_rfl)) (by decide) (by decide)
      simp only at e8
      have d2:=depB hdep 2 (by kernel_rfl)
      have d5:=depB hdep 5 (by kernel_rfl)
      have d7:=depB hdep 7 (by kernel_rfl)
      obtain ⟨wp,hP,hwq⟩:=hQ.p3 d7 hd
      obtain ⟨va,vc,hv⟩:=hP.1.1
      obtain ⟨ua,uc,hu⟩:=hP.2.1
      simp only [e8,hu,hv] at hK ⊢
      have hC:=(hP.1.2.2.1.block _ hC3.out).trans hCr.out
      have dC:wp.cell? ⟨w2.heap.size+1,15,none⟩=some (.slice a m.ents.length cap):=(cell_of_row _ _ _ _ _ _ hC).trans rfl
      have fC:=frozen_of_row _ _ 15 _ _ hC
      clear hC
      go_simp
      refine hK undef _ ?_
      exact hQ.s4 d2 d5 d7 rfl ⟨va,vc,ua,uc,wp,by rw [hv,hu] at hP; exact hP,rfl⟩
     simp only [Act.put,List.setIfInBounds_toArray,List.set_cons_succ,List.set_cons_zero,Nat.reduceAdd]
     intro vs D w6 hS6 hall
     obtain ⟨va,vc,ua,uc,wp,hP,rfl⟩:=hS6.p4 (hall 9 (by decide))
     clear hS6 hall
     go_wp2_with (fail)
     go_meet
     have hC:=(hP.1.2.2.1.block _ hC3.out).trans hCr.out
     have hb:∀ k,k≠w2.heap.size+1→((wp.setCell ⟨w2.heap.size+1,3,none⟩ (.slice va m.kn.length vc)).setCell ⟨w2.heap.size+1,15,none⟩ (.slice ua m.ents.length uc)).heap[k]?=wp.heap[k]?:=fun k hk=>(Below.heap_setCell _ _ _ _ (by simpa using hk)).trans (Below.heap_setCell _ _ _ _ (by simpa using hk))
     refine ⟨rfl,va,vc,ua,uc,?_,?_,?_,?_,?_⟩
     ·exact (hb _ (by omega)).trans ((hP.1.2.2.1.block _ (by have:=hC3.out; omega)).trans hFr.out)
     ·rw [heap_setCell_same _ _ _ _ _ _ (heap_setCell_same _ _ _ _ _ _ hC)]; rfl
     ·exact own_mono (out_same hP.1.2.1 fun g hg=>hb g (by have:=(hP.1.2.1.lt g hg).1; have:=hC3.out; omega)) (by have:=hC3.out; omega)
     ·exact own_mono (out_same hP.2.2 fun g hg=>hb g (by have:=(hP.2.2.lt g hg).1; have:=hC3.out; omega)) (by have:=hC3.out; omega)
     ·exact hB3.out.trans ⟨hP.1.2.2.1.os,hP.1.2.2.1.tape,hP.1.2.2.1.output,by simpa [World.setCell] using hP.1.2.2.1.size,fun i hi=>(hb i (by omega)).trans (hP.1.2.2.1.block i (by have:=hC3.out; omega))⟩
    case rest=>
     clear d3 d15 hkd he3 hgk hFr hCr hB3 hN3 hB03 hS3 hdr
     obtain ⟨rfl,va,vc,ua,uc,hF,hC,hki,hei,hB⟩:=hcut
     rename World=>w6
     obtain ⟨F,hFe⟩:∃ F,w2.heap.size=F:=⟨_,rfl⟩
     have hS6:=Hid.mk ((hB.block N0 (by have:=hNsH.out; omega)).trans hSH.out)
     have hX6:=Hid.mk ((hB.block (N0+1) (by have:=hNsH.out; omega)).trans hXH.out)
     have hB6:=Hid.mk (hBH.out.trans (hB.mono (by have:=hNsH.out; omega)))
     have hNF:=Hid.mk (show N0+2≤F by have:=hNsH.out; omega)
     rw [hFe] at hF hC hki hei ⊢
     have hF6:=Hid.mk (show F+1 < w6.heap.size from (Array.getElem?_eq_some_iff.1 hC).1)
     have hall:=Hid.mk (all_w w6.heap.size F (F+1) [] m hgH.out (.slice va m.kn.length vc) ua uc w6 ⟨by have:=hF6.out; omega,Nat.le_refl _,_,hF,World.ownsRow_nil _ _ _ _⟩ (by simp) hF6.out (by omega) hC
      (EntsAt.own hei (by omega)) h2kH.out h1H.out h12H.out (fun h=>⟨hknH.out h,KnAt.own hki (by omega) (hknH.out h)⟩))
     clear hF hC hki hei hB hFe hSH hXH hBH hNsH
     go_wp2_with (fail)
     go_at_call 24
     refine hall.out.mono ?_
     rintro e w7 ⟨rfl,hWr,hKp⟩
     rw [List.nil_append] at hWr
     have hS7:=Hid.mk ((hKp.block N0 (by have:=hNF.out; have:=hF6.out; omega) (by have:=hNF.out; omega)).trans hS6.out)
     have hX7:=Hid.mk ((hKp.block (N0+1) (by have:=hNF.out; have:=hF6.out; omega) (by have:=hNF.out; omega)).trans hX6.out)
     have hB7:=Hid.mk (hB6.out.trans (hKp.low (by have:=hNF.out; omega) (by have:=hNF.out; have:=hF6.out; omega)))
     have hz7:=Hid.mk (show N0+2 < w7.heap.size by have:=hNF.out; have:=hF6.out; have:=hKp.size; omega)
     have hby:=Hid.mk (obytes_any _ F (allP m) w7 hWr)
     clear hall hWr hKp hS6 hX6 hB6 hNF hF6
     go_wp2_with (fail)
     go_at_call 25
     refine hby.out.mono ?_
     rintro e w8 ⟨rfl,rfl⟩
     clear hby
     have d3:w8.cell? ⟨N0+1,3,none⟩=some (.slice xa m.kn.length xc):=(cell_of_row _ _ _ _ _ _ hX7.out).trans rfl
     have f3:=frozen_of_row _ _ 3 _ _ hX7.out
     go_upto_region 9 with fail
     go_cut [5] (fun y wr=>y= .pointer (some ⟨N0+1,0,none⟩)∧∃ K,w8.heap.size≤K∧wr.heap[N0]?=some (.cells (msC m (.slice ka m.kn.length kc) (.slice a m.ents.length cap)) 35 (0,0))
      ∧ wr.heap[N0+1]?=some (.cells (msC (xOf m) (.slice (some ⟨K,0,none⟩) m.kn.length m.kn.length) (.slice none 0 0)) 35 (0,0))
      ∧ wr.heap[K]?=some (.cells (intRow (xOf m).kn) 3 (0,0))∧Below N0 w wr)
     case first=>as_aux_lemma=>
      have hn:m.kn.length=0∨m.kn.length=3:=by
       by_cases h:m.kind=1
       ·rw [hk1H.out h]; exact .inl rfl
       ·exact .inr (hknH.out h)
      have hmk:=make_zeros m.kn.length hn w8
      obtain ⟨wz,hwz⟩:∃ wz,w8.alloc (.cells (intRow (List.replicate m.kn.length 0)) 3)=wz:=⟨_,rfl⟩
      rw [hwz] at hmk
      have hK:=Hid.mk (show wz.heap[w8.heap.size]?=some (.cells (intRow (xOf m).kn) 3 (0,0)) from hwz▸heap_alloc_new w8 _)
      have hBz:=Hid.mk (show Below w8.heap.size w8 wz from hwz▸(Below.refl _ w8).alloc (Nat.le_refl _) _)
      have hXz:=Hid.mk ((hBz.out.block (N0+1) (by have:=hz7.out; omega)).trans hX7.out)
      have hz:=hz7.out
      have d3z:wz.cell? ⟨N0+1,3,none⟩=some (.slice xa m.kn.length xc):=(cell_of_row _ _ _ _ _ _ hXz.out).trans rfl
      have f3z:=frozen_of_row _ _ 3 _ _ hXz.out
      clear hwz hn
      go_wp2_with (at_make; refine wpList_make_run rfl _ _ 32 rfl _ _ rfl rfl _ _ hmk ?_)
      go_meet
      have hb:∀ k,k≠N0+1→(wz.setCell ⟨N0+1,3,none⟩ (.slice (some ⟨w8.heap.size,0,none⟩) m.kn.length m.kn.length)).heap[k]?=wz.heap[k]?:=fun k hk=>Below.heap_setCell _ _ _ _ (by simpa using hk)
      refine ⟨rfl,w8.heap.size,Nat.le_refl _,?_,?_,?_,?_⟩
      ·exact (hb _ (by omega)).trans ((hBz.out.block N0 (by omega)).trans hS7.out)
      ·rw [heap_setCell_same _ _ _ _ _ _ hXz.out]; rfl
      ·exact (hb _ (by omega)).trans hK.out
      ·exact hB7.out.trans ⟨hBz.out.os,hBz.out.tape,hBz.out.output,by simpa [World.setCell] using hBz.out.size,fun i hi=>(hb i (by have:=hN0H.out; omega)).trans (hBz.out.block i (by have:=hN0H.out; omega))⟩
     case rest=>
      clear d3 f3 hS7 hX7 hB7
      obtain ⟨rfl,K,hKz,hS,hX,hKr,hB⟩:=hcut
      rename World=>w9
      have hKx:=Hid.mk (Array.getElem?_eq_some_iff.1 hKr).1
      have hS9:=Hid.mk hS
      have hX9:=Hid.mk hX
      have hK9:=Hid.mk hKr
      have hB9:=Hid.mk hB
      have hKz9:=Hid.mk hKz
      clear hS hX hKr hB hKz
      go_wp2_with (fail)
      go_at_call 29
      refine (iopen_any (allP m) w9).mono ?_
      rintro e w10 ⟨rfl,hI,hBo,hsz⟩
      have hI10:=Hid.mk hI
      have hB10:=Hid.mk hBo
      have hsz10:=Hid.mk hsz
      clear hI hBo hsz
      have hX10:=Hid.mk ((hB10.out.block _ (show N0+1 < w9.heap.size from (Array.getElem?_eq_some_iff.1 hX9.out).1)).trans hX9.out)
      have hS10:=Hid.mk ((hB10.out.block _ (show N0 < w9.heap.size from (Array.getElem?_eq_some_iff.1 hS9.out).1)).trans hS9.out)
      have hK10:=Hid.mk ((hB10.out.block _ hKx.out).trans hK9.out)
      have h99:=Hid.mk (show N0+2 < w9.heap.size by have:=hz7.out; have:=hKz9.out; have:=hKx.out; omega)
      have hBB:=Hid.mk (hB9.out.trans (hB10.out.mono (show N0≤w9.heap.size by have:=h99.out; omega)))
      have hKX:=Hid.mk (show N0+1 < K by have:=hz7.out; have:=hKz9.out; omega)
      clear hS9 hX9 hK9 hB9 hKz9 hz7 hB10
      go_upto_region 11 with fail
      obtain ⟨wy,hwy⟩:∃ wy,w10.alloc (.cells #[.slice none 0 0,.bool false,.pointer (some ⟨w9.heap.size,0,none⟩),.bool false] 71)=wy:=⟨_,rfl⟩
      rw [hwy]
      have hRy:RdF w10.heap.size w9.heap.size false wy:=hwy▸heap_alloc_new w10 _
      have hBy:Below w10.heap.size w10 wy:=hwy▸(Below.refl _ w10).alloc (Nat.le_refl _) _
      have hIy:InS 120 w9.heap.size (allP m,0) wy:=hI10.out.below hBy
      have hXy:=(hBy.block (N0+1) (by have:=h99.out; have:=hsz10.out; omega)).trans hX10.out
      have hSy:=Hid.mk ((hBy.block N0 (by have:=h99.out; have:=hsz10.out; omega)).trans hS10.out)
      have hKy:=(hBy.block K (by have:=hKx.out; have:=hsz10.out; omega)).trans hK10.out
      have hB0y:=Hid.mk (hBB.out.trans (hBy.mono (by have:=h99.out; have:=hsz10.out; omega)))
      have hNy:=Hid.mk (show w10.heap.size < wy.heap.size from (Array.getElem?_eq_some_iff.1 hRy).1)
      clear hwy hBB
      obtain ⟨p,hp⟩:∃ p,p=(xOf m,(allP m,0)):=⟨_,rfl⟩
      have hpk:p.1.kind=m.kind:=by rw [hp]; rfl
      have hpn:p.1.kn.length=m.kn.length:=by rw [hp]; unfold xOf; simp
      have hpe:p.1.ents=[]:=by rw [hp]; rfl
      have hal:=Hid.mk (all_r w10.heap.size w9.heap.size (N0+1) K (.slice (some ⟨K,0,none⟩) m.kn.length m.kn.length) wy p hRy (by rw [hp]; exact hIy) (by rw [hp]; exact hTH.out) (by rw [hp]; exact hXy)
       (by have:=h99.out; omega) (by have:=h99.out; have:=hsz10.out; omega) (by have:=hsz10.out; omega) hpe (by rw [hpk]; exact h1H.out) (by rw [hpk]; exact h12H.out)
       (fun h=>⟨by rw [hpn]; exact hknH.out (by rw [← hpk]; exact h),by rw [hknH.out (by rw [← hpk]; exact h)],by rw [hp]; exact hKy,by have:=hKx.out; omega,by have:=hKX.out; omega,by have:=hKx.out; have:=hsz10.out; omega⟩))
      clear hRy hBy hIy hXy hKy hX10 hS10 hK10 hI10
      have hpkH:=Hid.mk hpk
      have hpnH:=Hid.mk hpn
      have hpeH:=Hid.mk hpe
      have hpH:=Hid.mk hp
      clear hpk hpn hpe hp
      go_wp2_with (fail)
      go_at_call 24
      refine hal.out.mono ?_
      rintro e w12 ⟨rfl,hI,hR,⟨ve,hX,hown⟩,hKr,hkx⟩
      have hlen:(allS p).1.kn.length=m.kn.length:=by
       by_cases h:p.1.kind=1
       ·rw [allS_kn1 h,hpnH.out]
       ·rw [allS_kn3 h,hknH.out (by rw [← hpkH.out]; exact h)]
      have hiv:=Hid.mk (show IntsV w12 (.slice (some ⟨K,0,none⟩) m.kn.length m.kn.length) (allS p).1.kn by
       by_cases h:p.1.kind=1
       ·have h0:(allS p).1.kn=[]:=List.eq_nil_of_length_eq_zero (by rw [hlen,hk1H.out (by rw [← hpkH.out]; exact h)]; rfl)
        rw [h0,show m.kn.length=([]:List Int).length by rw [← h0,hlen]]
        exact .inr ⟨K,0,_,rfl,by have:=hkx.size; have:=hKx.out; have:=hsz10.out; have:=hNy.out; omega,fun j hj=>by simp at hj⟩
       ·rw [← hlen]; exact IntsV.row (hKr h))
      have hS12:=Hid.mk ((hkx.block N0 (Array.getElem?_eq_some_iff.1 hSy.out).1 (by have:=h99.out; have:=hKX.out; have:=hsz10.out; omega)).trans hSy.out)
      have hB12:=Hid.mk (hB0y.out.trans (hkx.low (by have:=h99.out; have:=hNy.out; have:=hsz10.out; omega) (fun i hi=>by have:=h99.out; have:=hKX.out; have:=hsz10.out; omega)))
      have hX12:=Hid.mk hX
      have hev:=Hid.mk (EntsV.of hown)
      have hkm:=Hid.mk (hkH.out.below (by rw [hN0H.out]; exact hB12.out))
      have hem:=Hid.mk ((EntsV.of heH.out).below (by rw [hN0H.out]; exact hB12.out))
      have hI12:=Hid.mk hI
      have cR2:w12.cell? ⟨w10.heap.size,2,none⟩=some (.pointer (some ⟨w9.heap.size,0,none⟩)):=(cell_of_row _ _ _ _ _ _ hR).trans rfl
      have cR3:w12.cell? ⟨w10.heap.size,3,none⟩=some (.bool (allS p).2.1):=(cell_of_row _ _ _ _ _ _ hR).trans rfl
      have hub:=Hid.mk (show usedB m=(!(allS p).2.1 && (decide (endE (allS p).2.2=0) && sameB (allS p).1 m)) by rw [hpH.out]; rfl)
      have l1:=Hid.mk (show (allS p).1.kn.length≤1000 by
       by_cases h:p.1.kind=1
       ·rw [hlen,hk1H.out (by rw [← hpkH.out]; exact h)]; simp
       ·rw [allS_kn3 h]; omega)
      have l2:=Hid.mk (show m.kn.length≤1000 by rw [← hlen]; exact l1.out)
      have l3:=Hid.mk (show (allS p).1.ents.length≤1000 by have:=allS_ents hpeH.out; omega)
      have l4:=Hid.mk (show m.ents.length≤1000 by have:=hgH.out.e64; omega)
      have hlt:=Hid.mk (show N0≤w12.heap.size by have:=(Array.getElem?_eq_some_iff.1 hS12.out).1; omega)
      clear hal hKx hkx hI hR hX hown hKr hlen hSy hB0y hNy h99 hKX hsz10 hpkH hpnH hpeH hpH
      generalize allS p=q at*
      cases hmany:q.2.1 with
      | true=>
       rw [hmany] at cR3
       have hres:=Hid.mk (show usedB m=false by rw [hub.out,hmany]; rfl)
       clear hmany
       go_wp2_with (fail)
       go_ret
       exact ⟨by rw [hres.out]; rfl,by rw [hN0H.out]; exact hB12.out⟩
      | false=>
       rw [hmany] at cR3
       have hen:=Hid.mk (iend_any w9.heap.size q.2.2 w12 hI12.out)
       by_cases h0:endE q.2.2=0
       ·rw [h0] at hen
        have hres:=Hid.mk (show usedB m=sameB q.1 m by rw [hub.out,hmany,h0]; simp)
        clear hmany h0
        go_wp2_with (first | (go_at_call 31; refine hen.out.mono ?_; rintro e wz ⟨rfl,rfl⟩) | (refine wpList_load_rowG rfl 35 _ rfl (N0+1) rfl _ _ _ _ hX12.out Tryz.underlying35 rfl (msInfo.trans rfl) ?_) | (refine wpList_load_rowG rfl 35 _ rfl N0 rfl _ _ _ _ hS12.out Tryz.underlying35 rfl (msInfo.trans rfl) ?_))
        go_at_call 83
        refine (same_any q.1 m _ _ _ _ _ hiv.out hkm.out hev.out hem.out l1.out l2.out l3.out l4.out).mono ?_
        rintro e wz ⟨rfl,hBz⟩
        have hBzH:=Hid.mk hBz
        clear hBz
        go_wp2_with (fail)
        go_ret
        exact ⟨by rw [hres.out]; rfl,by rw [hN0H.out]; exact hB12.out.trans (hBzH.out.mono hlt.out)⟩
       ·have hres:=Hid.mk (show usedB m=false by rw [hub.out,hmany]; simp [h0])
        have he0:(((endE q.2.2:Nat):Int)==0)=false:=by rw [eq0_nat]; simp [h0]
        clear hmany h0
        go_wp2_with (first | (go_at_call 31; refine hen.out.mono ?_; rintro e wz ⟨rfl,rfl⟩))
        go_ret
        exact ⟨by rw [hres.out]; rfl,by rw [hN0H.out]; exact hB12.out⟩
end Go.Proofs.YtniamhbcmcgonaaGreatDoor
namespace Go.Proofs.YtniamhbcmcgonaaGreatDoor
open Go.RowKit Go.Ev
def nums (m:Ms):List Int:=[m.born,m.view,m.last,m.op,m.commit,m.client,m.number,m.nonce,m.base]
def goodK (m:Ms):Bool:=decide (1≤m.kind) && decide (m.kind≤12)
def goodF (m:Ms):Bool:=if m.kind=1 then decide (m.kn.length=0) else decide (m.kn.length=3) && (decide (0≤m.from_) && decide (m.from_ < 3))
def goodZ (m:Ms):Bool:=(m.kn++nums m).all numB
def goodL (m:Ms):Bool:=decide (m.text.length≤8192) && (decide (m.state.length≤65536) && (decide (m.ents.length≤64) && m.ents.all entB))
noncomputable def goodB (m:Ms):Bool:=goodK m && (goodF m && (goodZ m && (goodL m && (fitsB m && usedB m))))
theorem ents_le (es:List Ent) (h:∀ x ∈ es,EntOk x∧x.text.length≤8192):(es.flatMap entP).length≤es.length*8220:=by
 induction es with
 | nil=>simp
 | cons x es ih=>
  have h1:=ih fun y hy=>h y (List.mem_cons_of_mem _ hy)
  obtain ⟨h2,h3⟩:=h x (List.mem_cons_self ..)
  have a1:=numP_le h2.c
  have a2:=numP_le h2.n
  have a3:=putN_le (n:=x.text.length) (by omega)
  have hx:(entP x).length≤8220:=by
   unfold entP textP
   simp only [List.length_append]
   omega
  simp only [List.flatMap_cons,List.length_append,List.length_cons]
  omega
theorem good_ok {m:Ms} (hK:goodK m=true) (hF:goodF m=true) (hZ:goodZ m=true) (hL:goodL m=true) (hfr:m.kind=1→goodN m.from_) :
  MsOk m∧(allP m).length≤1000000∧1≤m.kind∧m.kind≤12∧(m.kind≠1→m.kn.length=3)∧(m.kind=1→m.kn=[]):=by
 unfold goodK at hK
 unfold goodZ nums at hZ
 unfold goodL at hL
 simp only [Bool.and_eq_true,decide_eq_true_eq] at hK hL
 simp only [List.all_append,List.all_cons,List.all_nil,Bool.and_eq_true,Bool.and_true] at hZ
 obtain ⟨z0,z1,z2,z3,z4,z5,z6,z7,z8,z9⟩:=hZ
 obtain ⟨t1,t2,t3,t4⟩:=hL
 have hents:∀ x ∈ m.ents,EntOk x∧x.text.length≤8192:=fun x hx=>by
  have h:=List.all_eq_true.1 t4 x hx
  refine ⟨entB_ok h,?_⟩
  unfold entB at h
  simp only [Bool.and_eq_true,decide_eq_true_eq] at h
  exact h.2.2.2.2
 have hel:=ents_le m.ents hents
 have hT:(m.ents.flatMap entP).length≤600000:=by omega
 have hfrom:goodN m.from_:=by
  by_cases h:m.kind=1
  ·exact hfr h
  ·unfold goodF at hF
   rw [if_neg h] at hF
   simp only [Bool.and_eq_true,decide_eq_true_eq] at hF
   unfold goodN; omega
 have hkn:m.kind≠1→m.kn.length=3:=fun h=>by
  unfold goodF at hF
  rw [if_neg h] at hF
  simp only [Bool.and_eq_true,decide_eq_true_eq] at hF
  exact hF.1
 have hk1:m.kind=1→m.kn=[]:=fun h=>by
  unfold goodF at hF
  rw [if_pos h] at hF
  exact List.eq_nil_of_length_eq_zero (by simpa using hF)
 have hok:MsOk m:=⟨hfrom,numB_good z1,fun z hz=>numB_good (List.all_eq_true.1 z0 z hz),numB_good z2,numB_good z3,numB_good z4,numB_good z5,numB_good z6,numB_good z7,numB_good z8,by omega,numB_good z9,t2,fun x hx=>(hents x hx).1,t3,by omega⟩
 refine ⟨hok,?_,hK.1,hK.2,hkn,hk1⟩
 obtain ⟨a1,a2,a3,a4,a5,a6,a7,a8,a9,a10,a11,a12⟩:=hok.lens
 have hv:=views_le m hok
 have hkl:(m.kn.flatMap numP).length≤24:=by
  have:=kn_le m.kn hok.kn
  by_cases h:m.kind=1
  ·rw [hk1 h]; simp
  ·have:=hkn h; omega
 have b1:(hdP m).length≤100:=by unfold hdP; split <;> (try simp only [List.length_append,List.length_nil]) <;> omega
 have b2:(bodyP m).length≤65800:=by
  unfold bodyP
  (repeat' split) <;> (try simp only [List.length_append,List.length_cons,List.length_nil]) <;> omega
 have b3:(tailP m).length≤700000:=by
  unfold tailP
  split
  ·unfold entsP
   have:(numP m.ents.length).length≤8:=numP_le ⟨by omega,by omega⟩
   simp only [List.length_append]
   omega
  ·simp
 unfold allP
 simp only [List.length_append]
 omega
theorem h2k_of {m:Ms} (h:fitsB m=true) (h2:m.kind=2):m.ents.length=1:=by
 unfold fitsB at h
 rw [if_neg (by omega),if_pos h2] at h
 simp only [Bool.and_eq_true,decide_eq_true_eq] at h
 exact h.1
end Go.Proofs.YtniamhbcmcgonaaGreatDoor
namespace Go.Proofs.YtniamhbcmcgonaaGreatDoor
open Go.RowKit Go.Ev
theorem islInfo:(Tryz.prog.info? 32).map (fun i=>(i.zero,i.size,i.bytes))=some (some (.slice none 0 0),1,24):=by kernel_rfl
set_option maxRecDepth 100000 in
set_option maxHeartbeats 12800000 in
theorem good_any (m:Ms) (vk:Value) (a:Option Addr) (cap B:Nat) (hfr:m.kind=1→goodN m.from_) (hkl:m.kn.length≤50) (h9:m.ents.length≤1000) (w:World) (hk:IntsV w vk m.kn)
  (he:w.ownsRow B 75 3 (.slice a m.ents.length cap) m.ents.length (m.ents.flatMap entC)) :
  Calls Tryz.prog 20 #[.agg (msC m vk (.slice a m.ents.length cap)),.int .i64 3] w fun e w'=>e= .returned (.bool (goodB m))∧Below w.heap.size w w':=by
 obtain ⟨ka,kc,rfl⟩:∃ a c,vk= .slice a m.kn.length c:=by
  obtain ⟨a,c,h,_⟩:=hk.at
  exact ⟨a,c,h⟩
 obtain ⟨N0,hN0⟩:∃ n,w.heap.size=n:=⟨_,rfl⟩
 have hfrH:=Hid.mk hfr
 have hkH:=Hid.mk hk
 have heH:=Hid.mk he
 have hN0H:=Hid.mk hN0
 have hklH:=Hid.mk hkl
 have h9H:=Hid.mk h9
 clear hfr hk he hN0 hkl h9
 unfold msC
 go_enter Tryz.func20,Tryz.ntmps20
 go_upto_region 0 with fail
 go_cut [0,2] (fun _ x wr=>x= .pointer (some ⟨w.heap.size,0,none⟩)∧wr.heap[w.heap.size]?=some (.cells (msC m (.slice ka m.kn.length kc) (.slice a m.ents.length cap)) 35 (0,0))∧Below w.heap.size w wr)
 case first=>as_aux_lemma=>
  go_wp2_with (fail)
  go_meet
  exact ⟨rfl,heap_alloc_new _ _,(Below.refl _ w).alloc (Nat.le_refl _) _⟩
 case rest=>
  obtain ⟨rfl,hS,hB⟩:=hcut
  rename World=>w1
  have hSH:=Hid.mk hS
  have hBH:=Hid.mk hB
  clear hS hB
  rw [hN0H.out] at hSH hBH ⊢
  have hw1:=Hid.mk (Array.getElem?_eq_some_iff.1 hSH.out).1
  have ham:=Hid.mk (amount_any w1)
  have d0:w1.cell? ⟨N0,0,none⟩=some (.int .i64 m.kind):=(cell_of_row _ _ _ _ _ _ hSH.out).trans rfl
  have d1:w1.cell? ⟨N0,1,none⟩=some (.int .i64 m.from_):=(cell_of_row _ _ _ _ _ _ hSH.out).trans rfl
  have d3:w1.cell? ⟨N0,3,none⟩=some (.slice ka m.kn.length kc):=(cell_of_row _ _ _ _ _ _ hSH.out).trans rfl
  by_cases hK1:1≤m.kind
  rotate_left
  ·as_aux_lemma=>
    have hres:=Hid.mk (show goodB m=false by unfold goodB goodK; simp [hK1])
    have e1:(m.kind < 1)=True:=eq_true (by omega)
    clear hK1
    go_wp2_with (go_at_call 27; refine ham.out.mono ?_; rintro e wz ⟨rfl,rfl⟩)
    go_ret
    exact ⟨by rw [hres.out]; rfl,by rw [hN0H.out]; exact hBH.out⟩
  by_cases hK2:m.kind≤12
  rotate_left
  ·as_aux_lemma=>
    have hres:=Hid.mk (show goodB m=false by unfold goodB goodK; simp [hK2])
    have e1:(m.kind < 1)=False:=eq_false (by omega)
    have e2:(12 < m.kind)=True:=eq_true (by omega)
    clear hK1 hK2
    go_wp2_with (go_at_call 27; refine ham.out.mono ?_; rintro e wz ⟨rfl,rfl⟩)
    go_ret
    exact ⟨by rw [hres.out]; rfl,by rw [hN0H.out]; exact hBH.out⟩
  have e1:(m.kind < 1)=False:=eq_false (by omega)
  have e2:(12 < m.kind)=False:=eq_false (by omega)
  have hKK:=Hid.mk (show goodK m=true by unfold goodK; simp [hK1,hK2])
  clear hK1 hK2
  go_upto_region 3 with (go_at_call 27; refine ham.out.mono ?_; rintro e wz ⟨rfl,rfl⟩)
  go_cut [51] (fun y wr=>wr=w1∧y= .bool (!goodF m))
  case first=>as_aux_lemma=>
   by_cases hk1:m.kind=1
   ·have q1:(m.kind==1)=true:=by simp [hk1]
    have q2:(m.kind !=1)=false:=by simp [hk1]
    by_cases h0:m.kn.length=0
    ·have hF:goodF m=true:=by unfold goodF; rw [if_pos hk1]; simp [h0]
     have q3:((0:Int) < (m.kn.length:Nat))=False:=eq_false (by omega)
     have q4:(0 < m.kn.length)=False:=eq_false (by omega)
     have hres:=Hid.mk hF
     clear hF h0 hk1
     go_wp2_with (fail)
     go_meet
     exact ⟨rfl,by rw [hres.out]; rfl⟩
    ·have hF:goodF m=false:=by unfold goodF; rw [if_pos hk1]; exact decide_eq_false h0
     have q3:((0:Int) < (m.kn.length:Nat))=True:=eq_true (by omega)
     have q4:(0 < m.kn.length)=True:=eq_true (by omega)
     have hres:=Hid.mk hF
     clear hF h0 hk1
     go_wp2_with (fail)
     go_meet
     exact ⟨rfl,by rw [hres.out]; rfl⟩
   ·have q1:(m.kind==1)=false:=by simp [hk1]
    have q2:(m.kind !=1)=true:=by simp [hk1]
    by_cases h3:m.kn.length=3
    ·have q3:(((m.kn.length:Nat):Int) !=3)=false:=by rw [h3]; rfl
     by_cases h0:0≤m.from_
     ·have q4:(m.from_ < 0)=False:=eq_false (by omega)
      by_cases h2:m.from_ < 3
      ·have hF:goodF m=true:=by unfold goodF; rw [if_neg hk1]; simp [h3,h0,h2]
       have q5:(3≤m.from_)=False:=eq_false (by omega)
       have hres:=Hid.mk hF
       clear hF h0 h2 h3 hk1
       go_wp2_with (fail)
       go_meet
       exact ⟨rfl,by rw [hres.out]; rfl⟩
      ·have hF:goodF m=false:=by unfold goodF; rw [if_neg hk1]; simp [h3,h0,h2]
       have q5:(3≤m.from_)=True:=eq_true (by omega)
       have hres:=Hid.mk hF
       clear hF h0 h2 h3 hk1
       go_wp2_with (fail)
       go_meet
       exact ⟨rfl,by rw [hres.out]; rfl⟩
     ·have hF:goodF m=false:=by unfold goodF; rw [if_neg hk1]; simp [h0]
      have q4:(m.from_ < 0)=True:=eq_true (by omega)
      have hres:=Hid.mk hF
      clear hF h0 h3 hk1
      go_wp2_with (fail)
      go_meet
      exact ⟨rfl,by rw [hres.out]; rfl⟩
    ·have hF:goodF m=false:=by unfold goodF; rw [if_neg hk1]; simp [h3]
     have q3:(((m.kn.length:Nat):Int) !=3)=true:=by simp; omega
     have hres:=Hid.mk hF
     clear hF h3 hk1
     go_wp2_with (fail)
     go_meet
     exact ⟨rfl,by rw [hres.out]; rfl⟩
  case rest=>
   obtain ⟨hwr,rfl⟩:=hcut
   rename World=>w2
   subst hwr
   clear ham e1 e2 d0 d1
   cases hF:goodF m with
   | false=>
    have hres:=Hid.mk (show goodB m=false by unfold goodB; rw [hF]; simp)
    clear hF
    go_wp2_with (fail)
    go_ret
    exact ⟨by rw [hres.out]; rfl,by rw [hN0H.out]; exact hBH.out⟩
   | true=>
    have hFF:=Hid.mk hF
    clear hF
    have d2:w2.cell? ⟨N0,2,none⟩=some (.int .i64 m.born):=(cell_of_row _ _ _ _ _ _ hSH.out).trans rfl
    have d4:w2.cell? ⟨N0,4,none⟩=some (.int .i64 m.view):=(cell_of_row _ _ _ _ _ _ hSH.out).trans rfl
    have d5:w2.cell? ⟨N0,5,none⟩=some (.int .i64 m.last):=(cell_of_row _ _ _ _ _ _ hSH.out).trans rfl
    have d6:w2.cell? ⟨N0,6,none⟩=some (.int .i64 m.op):=(cell_of_row _ _ _ _ _ _ hSH.out).trans rfl
    have d7:w2.cell? ⟨N0,7,none⟩=some (.int .i64 m.commit):=(cell_of_row _ _ _ _ _ _ hSH.out).trans rfl
    have d8:w2.cell? ⟨N0,8,none⟩=some (.int .i64 m.client):=(cell_of_row _ _ _ _ _ _ hSH.out).trans rfl
    have d9:w2.cell? ⟨N0,9,none⟩=some (.int .i64 m.number):=(cell_of_row _ _ _ _ _ _ hSH.out).trans rfl
    have d10:w2.cell? ⟨N0,10,none⟩=some (.int .i64 m.nonce):=(cell_of_row _ _ _ _ _ _ hSH.out).trans rfl
    have d13:w2.cell? ⟨N0,13,none⟩=some (.int .i64 m.base):=(cell_of_row _ _ _ _ _ _ hSH.out).trans rfl
    obtain ⟨i0,hi,hz0,hz1,hz2⟩:=info_parts intInfo
    obtain ⟨i1,hi1,hy0,hy1,hy2⟩:=info_parts islInfo
    go_upto_region 5 with fail
    go_cut [74,75,76] (fun v x y wr=>x= .int .i64 ((m.kn.length+9:Nat):Int)∧y= .int .i64 0∧IntsV wr v (m.kn++nums m)∧Below N0 w wr∧Below w2.heap.size w2 wr)
    case first=>as_aux_lemma=>
     go_wp2_with (first | (refine wpList_buildSlice rfl 32 3 9 _ rfl (intRow (nums m)) i0 (.int .i64 0) Tryz.underlying32 hi hz0 ?a1 ?a2 ?a3 ?_) | (refine wpList_buildSlice rfl 135 32 2 _ rfl #[.slice ka m.kn.length kc,.slice (some ⟨w2.heap.size,0,none⟩) 9 9] i1 (.slice none 0 0) Tryz.underlying135 hi1 hy0 ?b1 ?b2 ?b3 ?_))
     case a1=>rw [hz1]; decide
     case a2=>rw [hz1]; decide
     case a3=>rfl
     case b1=>rw [hy1]; decide
     case b2=>rw [hy1]; decide
     have hBX:Below w2.heap.size w2 ((w2.alloc (Obj.cells (intRow (nums m)) 3)).alloc (Obj.cells #[.slice ka m.kn.length kc,.slice (some ⟨w2.heap.size,0,none⟩) 9 9] 32)):=((Below.refl _ w2).alloc (Nat.le_refl _) _).alloc (by simp) _
     have hPX:=alloc2_new w2 (Obj.cells (intRow (nums m)) 3) (Obj.cells #[.slice ka m.kn.length kc,.slice (some ⟨w2.heap.size,0,none⟩) 9 9] 32)
     have hLX:=alloc2_old w2 (Obj.cells (intRow (nums m)) 3) (Obj.cells #[.slice ka m.kn.length kc,.slice (some ⟨w2.heap.size,0,none⟩) 9 9] 32)
     generalize (w2.alloc (Obj.cells (intRow (nums m)) 3)).alloc (Obj.cells #[.slice ka m.kn.length kc,.slice (some ⟨w2.heap.size,0,none⟩) 9 9] 32)=wX at*
     have hkX:IntsV wX (.slice ka m.kn.length kc) m.kn:=(hkH.out.below (by rw [hN0H.out]; exact hBH.out)).below hBX
     have hlX:IntsV wX (.slice (some ⟨w2.heap.size,0,none⟩) 9 9) (nums m):=IntsV.row (l:=nums m) (cap:=9) hLX
     have hlen:=hklH.out
     have hnl:(nums m).length=9:=rfl
     refine (concat_any _ _ m.kn (nums m) _ _ wX hPX hkX hlX (by rw [hnl]; omega) (by rw [hnl]; omega)).mono ?_
     rintro e wY ⟨v',rfl,hown,hBY⟩
     obtain ⟨ua,uc,rfl⟩:=out_slice hown
     have hiv:IntsV wY (.slice ua (m.kn.length+(nums m).length) uc) (m.kn++nums m):=IntsV.own (by rw [List.length_append]; exact hown)
     have hBX2:=hBX.trans (hBY.mono hBX.size)
     have hlt:N0≤w2.heap.size:=Nat.le_of_lt hw1.out
     have hB0:Below N0 w wY:=hBH.out.trans (hBX2.mono hlt)
     have hX1:=Hid.mk hiv
     have hX2:=Hid.mk hBX2
     have hX3:=Hid.mk hB0
     clear hPX hLX hkX hlX hown hBX hBY hiv hBX2 hB0 hlen hlt
     rw [hnl] at hX1 ⊢
     go_wp2_with (fail)
     go_meet
     exact ⟨rfl,rfl,hX1.out,hX3.out,hX2.out⟩
    case rest=>
     obtain ⟨rfl,rfl,hV,hB,hB2⟩:=hcut
     rename World=>w3
     have hS3:=(hB2.block N0 hw1.out).trans hSH.out
     have hw3:N0≤w3.heap.size:=by have:=hw1.out; have:=hB2.size; omega
     have heW:=(EntsV.of heH.out).below (w':=w3) (by rw [hN0H.out]; exact hB)
     obtain ⟨K,ko,kcap,rfl,hKl,hKc⟩:∃ K ko cap,_=Value.slice (some ⟨K,ko,none⟩) (m.kn++nums m).length cap∧K < w3.heap.size∧∀ j,j < (m.kn++nums m).length→w3.cell? ⟨K,ko+j,none⟩=some (.int .i64 ((m.kn++nums m).getD j 0)):=by
      rcases hV with ⟨h,_⟩ | h
      ·exact absurd (congrArg List.length h) (by rw [List.length_append]; simp [nums])
      ·exact h
     have hS3H:=Hid.mk hS3
     have hw3H:=Hid.mk hw3
     have heWH:=Hid.mk heW
     have hB3H:=Hid.mk hB
     have hKcH:=Hid.mk hKc
     have hll:(m.kn++nums m).length=m.kn.length+9:=by rw [List.length_append]; rfl
     have hlen:=hklH.out
     clear hV hB hB2 hS3 hw3 heW hKl hKc d2 d4 d5 d6 d7 d8 d9 d10 d13 d3 hSH hBH hw1
     have hzz:=Hid.mk (show goodZ m=(m.kn++nums m).all numB from rfl)
     obtain ⟨L,hL⟩:∃ L,m.kn++nums m=L:=⟨_,rfl⟩
     obtain ⟨n,hn⟩:∃ n,m.kn.length+9=n:=⟨_,rfl⟩
     rw [hL] at hKcH hzz hll
     rw [hn] at hll
     rw [hL,hn,hll]
     have hn60:n≤60:=by omega
     clear hL hn hlen
     go_wp2_with (fail)
     go_loopw [6,76] (fun _ y wr=>wr=w3∧∃ k:Nat,k≤n∧y= .int .i64 (k:Nat)∧(L.take k).all numB=true) (fun _ y _=>n - (intOf y).toNat)
     case atStart=>exact ⟨rfl,0,by omega,rfl,rfl⟩
     case round=>
      obtain ⟨hwr,k,hk,rfl,hall⟩:=hrel
      subst hwr
      have hallH:=Hid.mk hall
      clear hall
      by_cases hkn:k < n
      ·have e1:((k:Int) < (n:Int))=True:=eq_true (by omega)
       have hc:=hKcH.out k (by omega)
       have hnum:=Hid.mk (number_any (L.getD k 0) wr)
       obtain ⟨z,hz⟩:∃ z,L.getD k 0=z:=⟨_,rfl⟩
       have hzH:=Hid.mk hz
       rw [hz] at hc hnum
       clear hz
       cases hzb:numB z with
       | false=>
        rw [hzb] at hnum
        have hres:=Hid.mk (show goodB m=false by
         have:goodZ m=false:=by
          rw [hzz.out]
          have hm:z ∈ L:=by
           rw [← hzH.out,List.getD,List.getElem?_eq_getElem (by omega)]
           exact List.getElem_mem _
          cases h:L.all numB with
          | false=>rfl
          | true=>rw [List.all_eq_true.1 h z hm] at hzb; cases hzb
         unfold goodB; rw [this]; simp)
        clear hzb
        go_wp2_with (first | (go_at_call 51; refine hnum.out.mono ?_; rintro e wz ⟨rfl,rfl⟩))
        go_ret
        exact ⟨by rw [hres.out]; rfl,by rw [hN0H.out]; exact hB3H.out⟩
       | true=>
        rw [hzb] at hnum
        have hnx:=Hid.mk (show (L.take (k+1)).all numB=true by
         rw [List.take_add_one,List.all_append,hallH.out,List.getElem?_eq_getElem (by omega)]
         have:L[k]'(by omega)=z:=by rw [← hzH.out,List.getD,List.getElem?_eq_getElem (by omega)]; rfl
         simp [this,hzb])
        clear hzb
        go_wp2_with (first | (go_at_call 51; refine hnum.out.mono ?_; rintro e wz ⟨rfl,rfl⟩))
        exact ⟨⟨trivial,k+1,by omega,by go_num,hnx.out⟩,by simp [intOf]; omega⟩
      ·have e1:((k:Int) < (n:Int))=False:=eq_false (by omega)
       have hZ:=Hid.mk (show goodZ m=true by
        have:=hallH.out
        rw [List.take_of_length_le (by omega)] at this
        rw [hzz.out]; exact this)
       clear hallH hKcH hzz hll hk hkn
       have d11:wr.cell? ⟨N0,11,none⟩=some (.string (bs m.text)):=(cell_of_row _ _ _ _ _ _ hS3H.out).trans rfl
       have d14:wr.cell? ⟨N0,14,none⟩=some (.string (bs m.state)):=(cell_of_row _ _ _ _ _ _ hS3H.out).trans rfl
       have d15:wr.cell? ⟨N0,15,none⟩=some (.slice a m.ents.length cap):=(cell_of_row _ _ _ _ _ _ hS3H.out).trans rfl
       go_upto_region 11 with fail
       go_cut [104] (fun y wx=>y= .bool (!goodL m)∧Below wr.heap.size wr wx)
       case first=>as_aux_lemma=>
        by_cases t1:m.text.length≤8192
        rotate_left
        ·have hres:=Hid.mk (show goodL m=false by unfold goodL; simp [t1])
         have q1:((8192:Int) < ((bs m.text).size:Nat))=True:=eq_true (by rw [bs_size]; omega)
         clear t1
         go_wp2_with (fail)
         go_meet
         exact ⟨by rw [hres.out]; rfl,Below.refl _ _⟩
        have q1:((8192:Int) < ((bs m.text).size:Nat))=False:=eq_false (by rw [bs_size]; omega)
        by_cases t2:m.state.length≤65536
        rotate_left
        ·have hres:=Hid.mk (show goodL m=false by unfold goodL; simp [t2])
         have q2:((65536:Int) < ((bs m.state).size:Nat))=True:=eq_true (by rw [bs_size]; omega)
         clear t1 t2
         go_wp2_with (fail)
         go_meet
         exact ⟨by rw [hres.out]; rfl,Below.refl _ _⟩
        have q2:((65536:Int) < ((bs m.state).size:Nat))=False:=eq_false (by rw [bs_size]; omega)
        by_cases t3:m.ents.length≤64
        rotate_left
        ·have hres:=Hid.mk (show goodL m=false by unfold goodL; simp [t3])
         have q3:((64:Int) < (m.ents.length:Nat))=True:=eq_true (by omega)
         clear t1 t2 t3
         go_wp2_with (fail)
         go_meet
         exact ⟨by rw [hres.out]; rfl,Below.refl _ _⟩
        have q3:((64:Int) < (m.ents.length:Nat))=False:=eq_false (by omega)
        have hres:=Hid.mk (show goodL m=m.ents.all entB by unfold goodL; simp [t1,t2,t3])
        have hcont:=Hid.mk (econt_any _ m.ents h9H.out wr heWH.out)
        clear t1 t2 t3
        go_wp2_with (go_at_call 52; refine hcont.out.mono ?_; rintro e wz ⟨rfl,hBz⟩; replace hBz:=Hid.mk hBz)
        go_meet
        exact ⟨by rw [hres.out],hBz.out⟩
       case rest=>
        obtain ⟨rfl,hB⟩:=hcut
        rename World=>w4
        have hS4:=Hid.mk ((hB.block N0 (Array.getElem?_eq_some_iff.1 hS3H.out).1).trans hS3H.out)
        have hB4:=Hid.mk (hB3H.out.trans (hB.mono hw3H.out))
        clear hB d11 d14 d15
        cases hLb:goodL m with
        | false=>
         have hres:=Hid.mk (show goodB m=false by unfold goodB; rw [hLb]; simp)
         clear hLb
         go_wp2_with (fail)
         go_ret
         exact ⟨by rw [hres.out]; rfl,by rw [hN0H.out]; exact hB4.out⟩
        | true=>
         obtain ⟨hok,hT,h1,h12,hkn3,hkn0⟩:=good_ok hKK.out hFF.out hZ.out hLb hfrH.out
         have hres:=Hid.mk (show goodB m=(fitsB m && usedB m) by unfold goodB; rw [hKK.out,hFF.out,hZ.out,hLb]; simp)
         have hok':=Hid.mk hok
         have hT':=Hid.mk hT
         have h1':=Hid.mk h1
         have h12':=Hid.mk h12
         have hkn3':=Hid.mk hkn3
         have hkn0':=Hid.mk hkn0
         clear hLb hok hT h1 h12 hkn3 hkn0
         have hSu:=hS4.out
         unfold msC at hSu
         have hfits:=Hid.mk (fits_any m (.slice ka m.kn.length kc) a cap h1'.out h12'.out ⟨hok'.out.op.1,hok'.out.op.2⟩ ⟨hok'.out.base.1,hok'.out.base.2⟩ w4)
         have hSuH:=Hid.mk hSu
         clear hSu
         cases hfb:fitsB m with
         | false=>
          rw [hfb] at hfits
          have hres2:=Hid.mk (show goodB m=false by rw [hres.out,hfb]; rfl)
          clear hfb
          go_wp2_with (first | (refine wpList_load_row rfl 35 _ rfl N0 rfl _ _ _ _ hSuH.out Tryz.underlying35 rfl (msInfo.trans rfl) ?_) | (go_at_call 55; refine hfits.out.mono ?_; rintro e wz ⟨rfl,hBz⟩; replace hBz:=Hid.mk hBz))
          go_ret
          exact ⟨by rw [hres2.out]; rfl,by rw [hN0H.out]; exact hB4.out.trans (hBz.out.mono (Nat.le_of_lt (Array.getElem?_eq_some_iff.1 hS4.out).1))⟩
         | true=>
          rw [hfb] at hfits
          have h2k:=Hid.mk (fun h=>h2k_of (m:=m) hfb h)
          have hres2:=Hid.mk (show goodB m=usedB m by rw [hres.out,hfb]; rfl)
          clear hfb
          have hlt4:=Hid.mk (Array.getElem?_eq_some_iff.1 hS4.out).1
          go_wp2_with (first | (refine wpList_load_row rfl 35 _ rfl N0 rfl _ _ _ _ hSuH.out Tryz.underlying35 rfl (msInfo.trans rfl) ?_) | (go_at_call 55; refine hfits.out.mono ?_; rintro e wz ⟨rfl,hBz⟩; replace hBz:=Hid.mk hBz) | (refine wpList_load_rowG rfl 35 _ rfl N0 rfl _ _ _ _ ((hBz.out.block N0 hlt4.out).trans hSuH.out) Tryz.underlying35 rfl (msInfo.trans rfl) ?_))
          go_at_call 56
          have hBw:Below N0 w wz:=hB4.out.trans (hBz.out.mono (Nat.le_of_lt hlt4.out))
          have hkz:IntsV wz (.slice ka m.kn.length kc) m.kn:=hkH.out.below (by rw [hN0H.out]; exact hBw)
          have hez:=out_same heH.out (w':=wz) fun g hg=>hBw.block g (by rw [← hN0H.out]; exact (heH.out.lt g hg).2)
          refine (used_any m _ a cap B hok'.out h1'.out h12'.out h2k.out hkn3'.out hkn0'.out hT'.out wz hkz hez).mono ?_
          rintro e wy ⟨rfl,hBy⟩
          have hBf:=Hid.mk (show Below N0 w wy from hBw.trans (hBy.mono (Nat.le_trans (by rw [← hN0H.out]; exact Nat.le_refl _) (Nat.le_trans (Nat.le_of_eq hN0H.out) (Nat.le_trans (Nat.le_of_lt hlt4.out) hBz.out.size)))))
          clear hBy hkz hez hBw
          go_wp2_with (fail)
          go_ret
          exact ⟨by rw [hres2.out]; rfl,by rw [hN0H.out]; exact hBf.out⟩
end Go.Proofs.YtniamhbcmcgonaaGreatDoor
