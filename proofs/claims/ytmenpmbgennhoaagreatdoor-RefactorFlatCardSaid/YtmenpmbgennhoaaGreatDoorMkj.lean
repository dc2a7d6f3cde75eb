/- plain.Desugar, walked. -/
import Derived.Test.YtmenpmbgennhoaaGreatDoorMki
namespace Go.Proofs.YtmenpmbgennhoaaGreatDoor
open Go.RowKit
set_option maxRecDepth 100000 in
set_option maxHeartbeats 6400000 in
theorem desugar_any (S:Nat→Prop) (w:World) {g:Gr} {s:Value} (h:RsAt S w g.rules s) (hn:g.rules.length+nodesRs g.rules≤1000000) (hsh:∀ (i:Nat) r,g.rules[i]?=some r→shortT r.body=true) (hE:PowB w.heap.size w) :
  Calls Tryz.prog 7 #[gramV g s] w (DesP w (desG g)):=by
 have hm:Tryz.prog.follows .mixedOrders=true:=rfl
 have hmm:= @run_makeMap Tryz.prog
 obtain ⟨R,hR⟩:∃ R,desG g=R:=⟨_,rfl⟩
 rw [hR]
 unfold desG at hR
 have hpro:=Hid.mk (fun (w':World) (hB:Below w.heap.size w w')=>properG_any S w' (h.keep (S':=S) hB.size fun k h1 h2=>⟨hB.block k h2,h1⟩))
 have hchk:=Hid.mk (fun (w':World) (hB:Below w.heap.size w w')=>check_any S w' (h.keep (S':=S) hB.size fun k h1 h2=>⟨hB.block k h2,h1⟩) hn hsh)
 have hter:=Hid.mk (fun (w':World) (hB:Below w.heap.size w w')=>terminals_any S w' (h.keep (S':=S) hB.size fun k h1 h2=>⟨hB.block k h2,h1⟩) (by omega))
 have hform:=h.form
 obtain ⟨p,c,rfl⟩:=hform
 have hH:=Hid.mk h
 have hRH:=Hid.mk hR
 have hEH:=Hid.mk hE
 have hnH:=Hid.mk hn
 have hshH:=Hid.mk hsh
 clear h hR hE hn hsh
 unfold gramV at hpro hchk hter ⊢
 obtain ⟨Z,hZ⟩:∃ Z,w.heap.size=Z:=⟨_,rfl⟩
 have hB1:Below Z w (w.alloc (.cells #[.string g.start,.slice p g.rules.length c] 25)):=by rw [← hZ]; exact (Below.refl _ w).alloc (Nat.le_refl _) _
 have hs1:(w.alloc (.cells #[.string g.start,.slice p g.rules.length c] 25)).heap.size=Z+1:=by simp; omega
 have hc1:=heap_alloc_new w (.cells #[.string g.start,.slice p g.rules.length c] 25)
 rw [hZ] at hc1
 go_enter Tryz.func7,Tryz.ntmps7
 go_upto_region 1 with (fail)
 have hB2:Below Z w ((w.alloc (.cells #[.string g.start,.slice p g.rules.length c] 25)).alloc (.cells #[.int .i64 0,.int .i64 0,.slice none 0 0,.slice none 0 0,.slice none 0 0] 34)):=hB1.alloc (by omega) _
 have hg2:=(Go.heap_alloc_old (w.alloc (.cells #[.string g.start,.slice p g.rules.length c] 25)) (.cells #[.int .i64 0,.int .i64 0,.slice none 0 0,.slice none 0 0,.slice none 0 0] 34) (show Z < _ by omega)).trans hc1
 have hr2:=heap_alloc_new (w.alloc (.cells #[.string g.start,.slice p g.rules.length c] 25)) (.cells #[.int .i64 0,.int .i64 0,.slice none 0 0,.slice none 0 0,.slice none 0 0] 34)
 rw [hs1] at hr2
 have hs2:((w.alloc (.cells #[.string g.start,.slice p g.rules.length c] 25)).alloc (.cells #[.int .i64 0,.int .i64 0,.slice none 0 0,.slice none 0 0,.slice none 0 0] 34)).heap.size=Z+2:=by simp; omega
 generalize (w.alloc (.cells #[.string g.start,.slice p g.rules.length c] 25)).alloc (.cells #[.int .i64 0,.int .i64 0,.slice none 0 0,.slice none 0 0,.slice none 0 0] 34)=w2 at hB2 hg2 hr2 hs2 ⊢
 have d0:w2.cell? ⟨Z,0,none⟩=some (.string g.start):=by simp [World.cell?,hg2]
 have d1:w2.cell? ⟨Z,1,none⟩=some (.slice p g.rules.length c):=by simp [World.cell?,hg2]
 have hp2:=hpro.out w2 (by rw [hZ]; exact hB2)
 clear hB1 hs1 hc1 hpro
 have hZH:=Hid.mk hZ
 clear hZ
 go_wp2_with (fail)
 refine hp2.mono ?_
 rintro e w3 ⟨rfl,hB23⟩
 have hg3:=(hB23.block Z (by omega)).trans hg2
 have hr3:=(hB23.block (Z+1) (by omega)).trans hr2
 have hB3:=hB2.trans (hB23.mono (by omega))
 have hs3:Z+2≤w3.heap.size:=by have:=hB23.size; omega
 clear hp2 hB2 hg2 hr2 hs2 hB23 d0 d1
 have e0:w3.cell? ⟨Z,0,none⟩=some (.string g.start):=by simp [World.cell?,hg3]
 have e1:w3.cell? ⟨Z,1,none⟩=some (.slice p g.rules.length c):=by simp [World.cell?,hg3]
 cases hq:properG g with
 | false=>
  have hR:=hRH.out
  rw [hq,if_neg (by decide)] at hR
  subst hR
  have hB3H:=Hid.mk hB3
  have hr3H:=Hid.mk hr3
  clear hq hB3 hr3 hg3 e0 e1
  go_wp2_with (refine wpList_store_row rfl 34 _ _ rfl (Z+1) #[.int .i64 0,.int .i64 0,.slice none 0 0,.slice none 0 0,.slice none 0 0] rfl rfl 34 _ hr3H.out plInfo rfl (by simp [Value.oneCell']) ?_)
  have hrow:=setRow_heap w3 (Z+1) _ #[.int .i64 0,.int .i64 0,.slice none 0 0,.slice none 0 0,.slice none 0 0] _ _ hr3H.out
  have hBr:=setRow_low hB3H.out (Z+1) #[.int .i64 0,.int .i64 0,.slice none 0 0,.slice none 0 0,.slice none 0 0] (Nat.le_succ Z)
  refine bodyPost_ret (results_ct_row rfl _ _ (Z+1) _ _ _ _ rfl hrow Tryz.underlying34 rfl plInfo) rfl ?_
  exact ⟨by rw [hZH.out]; exact hBr,rfl⟩
 | true=>
  have hR:=hRH.out
  rw [hq,if_pos rfl] at hR
  have hRH:=Hid.mk hR
  have hc3:=hchk.out w3 (by rw [hZH.out]; exact hB3)
  have hprs:=Hid.mk (show properRs g.rules=true by unfold properG at hq; simp only [Bool.and_eq_true] at hq; exact hq.2.2)
  clear hq hR hchk
  go_wp2_with (fail)
  refine hc3.mono ?_
  rintro e w4 ⟨v4,rfl,hO4,hB34⟩
  have hg4:=(hB34.block Z (by omega)).trans hg3
  have hr4:=(hB34.block (Z+1) (by omega)).trans hr3
  have hB4:=hB3.trans (hB34.mono (by omega))
  have hs4:Z+2≤w4.heap.size:=by have:=hB34.size; omega
  obtain ⟨p4,c4,rfl⟩:=ownsRow_form hO4
  clear hc3 hB3 hg3 hr3 hB34 e0 e1
  have e0:w4.cell? ⟨Z,0,none⟩=some (.string g.start):=by simp [World.cell?,hg4]
  have e1:w4.cell? ⟨Z,1,none⟩=some (.slice p g.rules.length c):=by simp [World.cell?,hg4]
  have hB4H:=Hid.mk hB4
  have hr4H:=Hid.mk hr4
  have hg4H:=Hid.mk hg4
  have hO4H:=Hid.mk hO4
  clear hB4 hr4 hg4 hO4
  cases hl:checkG g with
  | cons pb rest=>
   have hR:=hRH.out
   rw [hl] at hR hO4H
   simp only at hR
   subst hR
   have hcell:∃ gp,p4=some ⟨gp,0,none⟩∧w4.cell? ⟨gp,0,none⟩=some (.int .i64 pb.code)∧gp < w4.heap.size∧w3.heap.size≤gp:=by
    have ho:=hO4H.out
    rcases ho.2 with ⟨_,h0⟩ | ⟨g1,cap,cur,he,hb,hg,_⟩
    ·simp at h0
    ·injection he with e1 e2 e3
     subst e1
     refine ⟨g1,rfl,?_,(Array.getElem?_eq_some_iff.1 hg).1,hb⟩
     have:=ho.cells (g:=g1) rfl 0 (.int .i64 pb.code) (by simp [pbC])
     rw [Addr.add_lit] at this
     exact this
   obtain ⟨gp,rfl,hpc,hgp,hgp3⟩:=hcell
   have hlI:(0:Int) < ((pb::rest).length:Int):=by simp
   have hlN:0 < (pb::rest).length:=by simp
   generalize (pb::rest).length=nl at*
   clear hl hO4H e0 e1
   go_wp2_with (fail)
   refine Go.Ev.wp_region_pfe [5] 1 (fun u=>u.cell? ⟨gp,0,none⟩=some (.int .i64 pb.code)) hm (by kernel_rfl) (by kernel_rfl) (by kernel_rfl) hpc ?_
   iterate 7
    first
    | refine Go.Ev.planF_skip (by rfl) ?_
    | (refine Go.Ev.planF_look (by rfl) _ (by rintro u K f1 hK; go_simp; exact hK _ rfl) ?_; simp only [Act.put,List.setIfInBounds_toArray,List.set_cons_succ,List.set_cons_zero])
   refine Go.Ev.planF_nil ?_
   refine Go.Ev.wpC_step rfl ?_
   rintro _ rfl K hK
   refine wp_store_row 34 _ _ rfl (Z+1) #[.int .i64 0,.int .i64 0,.slice none 0 0,.slice none 0 0,.slice none 0 0] rfl rfl 34 _ hr4H.out plInfo rfl (by simp [Value.oneCell']) ?_
   have hrow:=setRow_heap w4.drew (Z+1) _ #[.int .i64 0,.int .i64 0,.slice none 0 0,.slice none 0 0,.slice none 0 0] _ _ hr4H.out
   have hBr:=setRow_low (hB4H.out.trans (blw_drewN _ w4 1)) (Z+1) #[.int .i64 0,.int .i64 0,.slice none 0 0,.slice none 0 0,.slice none 0 0] (Nat.le_succ Z)
   have hall:=Hid.mk (show _∧_ from ⟨hrow,hBr⟩)
   refine hK undef _ (fun _=> ?_) ?_
   ·have:(w4.drew.setRow (Z+1) #[.int .i64 0,.int .i64 0,.slice none 0 0,.slice none 0 0,.slice none 0 0]).heap[gp]?=w4.heap[gp]?:=setRow_other _ _ _ _ (by omega)
    rw [← hpc]
    exact World.cell?_of_block (a:=⟨gp,0,none⟩) this
   clear hK K hrow hBr
   refine Go.Ev.wpC_end ?_
   rintro _ rfl
   go_wp2_with (fail)
   refine bodyPost_ret (results_ct_row rfl _ _ (Z+1) _ _ _ _ rfl hall.out.1 Tryz.underlying34 rfl plInfo) rfl ?_
   exact ⟨by rw [hZH.out]; exact hall.out.2,rfl⟩
  | nil=>
   have hR:=hRH.out
   rw [hl] at hR hO4H
   simp only at hR
   have hRH:=Hid.mk hR
   have h0:(([]:List Pb).length:Int)=0:=rfl
   clear hl hO4H hR
   have hrl:g.rules.length≤1000000:=by have:=hnH.out; omega
   obtain ⟨N4,hN4⟩:∃ N4,w4.heap.size=N4:=⟨_,rfl⟩
   have hZN:Z+2≤N4:=by omega
   have hm1:=MpS.made w4
   have hm2:=MpS.made (w4.alloc (.map #[] 0))
   have hs5:(w4.alloc (.map #[] 0)).heap.size=N4+1:=by simp; omega
   have hs6:((w4.alloc (.map #[] 0)).alloc (.map #[] 0)).heap.size=N4+2:=by simp; omega
   rw [hN4] at hm1
   rw [hs5] at hm2
   have hm1:=hm1.keep (Go.heap_alloc_old (w4.alloc (.map #[] 0)) (.map #[] 0) (by rw [hs5]; omega))
   have hB46:Below w4.heap.size w4 ((w4.alloc (.map #[] 0)).alloc (.map #[] 0)):=((Below.refl _ w4).alloc (Nat.le_refl _) _).alloc (by simp) _
   have e1:((w4.alloc (.map #[] 0)).alloc (.map #[] 0)).cell? ⟨Z,1,none⟩=some (.slice p g.rules.length c):=(hB46.cell (by exact (Array.getElem?_eq_some_iff.1 hg4H.out).1)).trans e1
   obtain ⟨i0,hi0,hz0,hz1,hz2⟩:=info_parts intRow
   clear hs3
   go_upto_region 7 with (at_make; refine wpList_make_full _ rfl _ _ 37 rfl N4 3 i0 (.int .i64 0) 1 Tryz.underlying37 hi0 hz0 hz1 .i64 .i64 _ _ g.rules.length rfl rfl rfl rfl (by rw [hz2]; omega) (by unfold maxLen; omega) (by rw [hs6]; omega) ?_; intro w6 hown6 hg6)
   have hB6:Below w4.heap.size w4 w6:=hB46.grown hg6 (by rw [hs6]; omega) (fun k e=>by cases e)
   have hM0:=mk_init (Z:=N4) (N:=N4) g.rules w6 (Nat.le_refl _) (hm1.keep (hg6.block _ (by rw [hs6]; omega) (by simp))) (hm2.keep (hg6.block _ (by rw [hs6]; omega) (by simp))) (by rw [hs6] at hown6; exact hown6)
   have hB7:Below w4.heap.size w4 (w6.alloc (.cells (mkCells 0 0 ⟨.slice none 0 0,.slice none 0 0,.slice none 0 0,.slice none 0 0,N4,N4+1,N4+2⟩ g.rules.length false) 70)):=hB6.alloc hB6.size _
   obtain ⟨M,hMe⟩:∃ M,w6.heap.size=M:=⟨_,rfl⟩
   obtain ⟨V0,hV0⟩:∃ V0:MV,(⟨.slice none 0 0,.slice none 0 0,.slice none 0 0,.slice none 0 0,N4,N4+1,N4+2⟩:MV)=V0:=⟨_,rfl⟩
   have hMN:N4≤M:=by have:=hB6.size; omega
   have hA0:∀ k,MkA M V0 k→N4≤k:=by
    intro k hk
    subst hV0
    rcases hk with e | e | e | e | e | e | e | e
    ·omega
    ·have e:k=N4:=e; omega
    ·have e:k=N4+1:=e; omega
    ·have e:k=N4+2:=e; omega
    ·cases e
    ·cases e
    ·cases e
    ·cases e
   simp only [mkCells] at hM0 hB7
   rw [hV0] at hM0
   rw [hMe] at hM0
   rw [hMe]
   generalize w6.alloc (.cells #[.int .i64 ((0:Nat):Int),.int .i64 ((0:Nat):Int),.slice none 0 0,.slice none 0 0,.slice none 0 0,.map (some N4),.map (some (N4+1)),.slice none 0 0,.slice (some ⟨N4+2,0,none⟩) g.rules.length g.rules.length,.bool false] 70)=w7 at hM0 hB7 ⊢
   have hM0H:=Hid.mk hM0
   have hB7H:=Hid.mk hB7
   have hg7:=Hid.mk ((hB7.block Z (Array.getElem?_eq_some_iff.1 hg4H.out).1).trans hg4H.out)
   have hr7:=Hid.mk ((hB7.block (Z+1) (Array.getElem?_eq_some_iff.1 hr4H.out).1).trans hr4H.out)
   have hBw7:=Hid.mk (hB4H.out.trans (hB7.mono (by omega)))
   have hA0H:=Hid.mk hA0
   have f1:w7.cell? ⟨Z,1,none⟩=some (.slice p g.rules.length c):=by simp [World.cell?,hg7.out]
   have hZNH:=Hid.mk hZN
   clear hM0 hB7 hA0 hB6 hown6 hg6 hm1 hm2 hB46 hs5 hs6 e1 e0 hN4 hMe hV0 hZN hi0 hz0 hz1 hz2 h0 hg4H hr4H hB4H
   go_upto_block 0 with (fail)
   go_cut [] (fun wc=>∃ V':MV,MkS N4 M N4 ⟨g.rules,[],[],0,0,g.rules.length⟩ V' (init0 g.rules g.rules.length g.rules.length) wc∧Fr (MkA M V0) w7 (MkA M V') wc)
   case first=>as_aux_lemma=>
    obtain ⟨ss,hsl,hS0,htr⟩:=hH.out
    have hS7:=Hid.mk (hS0.keep (S':=fun k=>k < N4) hBw7.out.size fun k _ h2=>⟨hBw7.out.block k (by have:=hZH.out; omega),by have:=hZH.out; have:=hZNH.out; omega⟩)
    have htr7:=Hid.mk (fun i r s e1 e2=>(htr i r s e1 e2).keep (S':=fun k=>k < N4) hBw7.out.size fun k _ h2=>⟨hBw7.out.block k (by have:=hZH.out; omega),by have:=hZH.out; have:=hZNH.out; omega⟩)
    have hslH:=Hid.mk hsl
    clear hS0 htr hsl
    go_wp2_with (fail)
    go_loopw [36] (fun y wr=>∃ (i:Nat) (V':MV),y= .int .i64 (i:Nat)∧i≤g.rules.length∧MkS N4 M N4 ⟨g.rules,[],[],0,0,i⟩ V' (init0 g.rules i g.rules.length) wr∧Fr (MkA M V0) w7 (MkA M V') wr) (fun y _=>g.rules.length - (intOf y).toNat)
    case atStart=>exact ⟨0,V0,rfl,Nat.zero_le _,hM0H.out,Fr.refl _ _⟩
    case round=>
     obtain ⟨i,V',rfl,hi,hS,hF⟩:=hrel
     by_cases hlt:i < g.rules.length
     ·have hiI:(i:Int) < (g.rules.length:Int):=by omega
      obtain ⟨a,ha⟩:∃ a,g.rules[i]?=some a:=⟨_,List.getElem?_eq_getElem hlt⟩
      have hra:rlAt g.rules i=a:=by unfold rlAt; rw [ha]; rfl
      obtain ⟨s,hs⟩:∃ s,ss[i]?=some s:=⟨_,List.getElem?_eq_getElem (by rw [hslH.out]; exact hlt)⟩
      obtain ⟨sp,sc,rfl⟩:=(htr7.out i a s ha hs).form
      obtain ⟨gb,o,c0,he,hSg,hgs,hml,hcs⟩:=hS7.out.rcellS ha hs
      cases he
      have hkeep:∀ k,k < N4→k < w7.heap.size→wr.heap[k]?=w7.heap[k]?:=fun k h1 h2=>hF.blk k h2 (fun h3=>by have:=hA0H.out k h3; omega)
      have hcs:∀ j u,(ruleC a (.slice sp a.body.kids.length sc))[j]?=some u→wr.cell? ⟨gb,o+i*4+j,none⟩=some u:=fun j u hu=>by
       have e1:=hkeep gb hSg hgs
       have e2:=hcs j u hu
       rw [← Nat.add_assoc] at e2
       rw [← e2]
       simp [World.cell?,e1]
      have a0:=hcs 0 _ rfl
      have a1:=hcs 1 _ rfl
      have a2:=hcs 2 _ rfl
      have a3:=hcs 3 _ rfl
      simp only [Nat.add_zero] at a0
      have hib:(i:Int) < 9223372036854775807:=by omega
      have hgr:gb < wr.heap.size:=by have:=hF.size; omega
      have hgn:gb≠wr.heap.size:=by omega
      have hBb:=Hid.mk ((Below.refl wr.heap.size wr).alloc (Nat.le_refl _) (.cells #[.string a.name,.int .i64 (a.body.kind:Nat),.string a.body.text,.slice sp a.body.kids.length sc] 61))
      have hcb:=heap_alloc_new wr (.cells #[.string a.name,.int .i64 (a.body.kind:Nat),.string a.body.text,.slice sp a.body.kids.length sc] 61)
      obtain ⟨T,hT⟩:∃ T,wr.heap.size=T:=⟨_,rfl⟩
      rw [hT] at hcb hgn
      have hSSH:=Hid.mk hS
      have hFH:=Hid.mk hF
      have hkeepH:=Hid.mk hkeep
      have htrH:=Hid.mk (htr7.out i a _ ha hs)
      have hltH:=Hid.mk hlt
      clear hcs hS hF hkeep ha hs hSg hgs hml hlt
      go_upto_region 10 with (fail)
      generalize hwb:wr.alloc (.cells #[.string a.name,.int .i64 (a.body.kind:Nat),.string a.body.text,.slice sp a.body.kids.length sc] 61)=wb at hcb hBb ⊢
      have hsb:wb.heap.size=T+1:=by subst hwb; simp; omega
      have hSb:=hSSH.out.blw hBb.out
      have hFb:=Hid.mk (hFH.out.trans (Fr.of (A:=MkA M V') hBb.out))
      have c5:=hSb.c5
      have t0:wb.cell? ⟨T,0,none⟩=some (.string a.name):=by simp [World.cell?,hcb]
      have hTA:=Hid.mk (show ¬ MkA M V' T from fun e=>by have:=hSSH.out.lt e; omega)
      have hSbH:=Hid.mk hSb
      have hcbH:=Hid.mk hcb
      have hsbH:=Hid.mk hsb
      clear hwb hT a0 a1 a2 a3 hgn hgr hcb hSb hsb
      go_wp2_with (fail)
      refine Go.Ev.wp_region_pfe [7] 0 (fun u=>u.cell? ⟨M,5,none⟩=some (.map (some V'.bn))∧u.cell? ⟨T,0,none⟩=some (.string a.name)) hm (by kernel_rfl) (by kernel_rfl) (by kernel_rfl) ⟨c5,t0⟩ ?_
      iterate 8
       first
       | refine Go.Ev.planF_skip (by rfl) ?_
       | (refine Go.Ev.planF_look (by rfl) _ (by rintro u K ⟨f1,f2⟩ hK; go_simp; exact hK _ rfl) ?_; simp only [Act.put,List.setIfInBounds_toArray,List.set_cons_succ,List.set_cons_zero])
      refine Go.Ev.planF_nil ?_
      refine Go.Ev.wpC_step rfl ?_
      rintro _ rfl K hK
      refine wp_put_str _ _ _ rfl Tryz.underlying67 Tryz.underlying9 V'.bn _ rfl (hSbH.out.drw.mn) a.name rfl (.int .i64 (i:Nat)) rfl ?_
      intro w8 hm8 hon hsz8
      have hS8:=hSbH.out.drw.setMapN (w':=w8) (i+1) (by rw [← fwdN_put,hra]; exact hm8) hon
      have hF8:=hFb.out.trans ((Fr.of (A:=MkA M V') (blw_drewN _ wb 1)).trans (Fr.onl (A:=MkA M V') hon (.inr (.inl rfl))))
      have hT8:=(hon.block T (Array.getElem?_eq_some_iff.1 hcbH.out).1 (fun e=>hTA.out (by injection e with e; rw [e]; exact .inr (.inl rfl)))).trans hcbH.out
      have hall:=Hid.mk (show _∧_∧_ from ⟨hS8,hF8,hT8⟩)
      refine hK undef _ (fun h=>absurd h (by decide)) ?_
      clear hK K hS8 hF8 hT8 hm8 hon hsz8 c5 t0
      refine Go.Ev.wpC_end ?_
      rintro _ rfl
      have hS8:=hall.out.1
      obtain ⟨np,nc,hnv⟩:=ownsRow_form hS8.names
      have c2:=hS8.c2
      rw [hnv] at c2
      have t0:w8.cell? ⟨T,0,none⟩=some (.string a.name):=by simp [World.cell?,hall.out.2.2]
      have hnl:(init0 g.rules i g.rules.length).names.length=i:=init0_names _ _ _
      rw [hnl] at hnv c2
      have hnvH:=Hid.mk hnv
      have hnlH:=Hid.mk hnl
      clear hS8 hnv hnl
      go_wp2_with (fail)
      refine Go.Ev.wp_region_pfe [8,9,13] 2 (fun u=>u.cell? ⟨M,2,none⟩=some (.slice np i nc)∧u.cell? ⟨T,0,none⟩=some (.string a.name)) hm (by kernel_rfl) (by kernel_rfl) (by kernel_rfl) ⟨c2,t0⟩ ?_
      iterate 14
       first
       | refine Go.Ev.planF_skip (by rfl) ?_
       | (refine Go.Ev.planF_look (by rfl) _ (by rintro u K ⟨f1,f2⟩ hK; go_simp; exact hK _ rfl) ?_; simp only [Act.put,List.setIfInBounds_toArray,List.set_cons_succ,List.set_cons_zero])
      refine Go.Ev.planF_nil ?_
      refine Go.Ev.wpC_step rfl ?_
      rintro _ rfl K hK
      refine wp_build_str _ rfl a.name rfl ?_
      have hS9:=Hid.mk (hall.out.1.drw.blw ((Below.refl w8.drew.heap.size w8.drew).alloc (Nat.le_refl _) (.cells #[.string a.name] 9)))
      have hT9:=Hid.mk ((Go.heap_alloc_old w8.drew (.cells #[.string a.name] 9) (Array.getElem?_eq_some_iff.1 hall.out.2.2).1).trans hall.out.2.2)
      have e2:=hS9.out.c2
      rw [hnvH.out] at e2
      refine hK _ _ (fun _=>⟨e2,by simp [World.cell?,hT9.out]⟩) ?_
      clear hK K
      simp only [Act.put,List.setIfInBounds_toArray,List.set_cons_succ,List.set_cons_zero]
      refine Go.Ev.wpC_step rfl ?_
      rintro _ rfl K hK
      refine wp_append_str _ _ rfl N4 V'.n (init0 g.rules i g.rules.length).names hnvH.out.symm hS9.out.names a.name w8.drew.heap.size rfl (heap_alloc_new w8.drew _) (by have:=hnlH.out; omega) (Nat.le_of_lt hS9.out.zs) ?_
      rintro g9 c9 w9 hown hgrow hat
      have hM9:=(hgrow.block M (hS9.out.lt (.inl rfl)) (fun e=>row_ne hS9.out.names e.symm hS9.out.cells (by decide))).trans hS9.out.cells
      have hT10:=(hgrow.block T (Array.getElem?_eq_some_iff.1 hT9.out).1 (fun e=>row_ne hS9.out.names e.symm hT9.out (by decide))).trans hT9.out
      have m2:w9.cell? ⟨M,2,none⟩=some (.slice np i nc):=by rw [← hnvH.out]; simp [World.cell?,hM9,mkCells]
      have fm2:w9.frozen? ⟨M,2,none⟩=false:=by simp [World.frozen?,hM9]
      refine hK _ _ (fun _=>⟨m2,by simp [World.cell?,hT10]⟩) ?_
      have hMg:M≠g9:=fun e=>by subst e; exact row_ne hown rfl hM9 (by decide)
      have hB9:Below w8.heap.size w8 (w8.drew.alloc (.cells #[.string a.name] 9)):=(blw_drewN _ w8 1).trans ((Below.refl w8.drew.heap.size w8.drew).alloc (Nat.le_refl _) _)
      have hadd:=hS9.out.setNames (w':=w9.setCell ⟨M,2,none⟩ (.slice (some ⟨g9,0,none⟩) ((init0 g.rules i g.rules.length).names.length+1) c9)) ((init0 g.rules i g.rules.length).names++[a.name]) (.slice (some ⟨g9,0,none⟩) ((init0 g.rules i g.rules.length).names.length+1) c9) g9 rfl
       (ownsRow_sm hown fun g e=>Below.heap_setCell _ _ _ _ (fun e'=>hMg (by simp [Value.ownBlock] at e; simp at e'; omega)))
       (hat.elim .inl (fun e=> .inr (Nat.le_of_eq e.symm))) (by simpa using hgrow.size)
       (fun k h1 h2 h3=>(Below.heap_setCell _ _ _ _ (fun e=>h2 (by simpa using e))).trans (hgrow.block k h1 (fun e=>h3 e.symm))) ((row_set hM9).trans (by simp [mkCells]))
      have hfr:=(hall.out.2.1.trans (Fr.of (A:=MkA M V') hB9)).trans ((Fr.grown hgrow (fun k e=> .inr (.inr (.inr (.inr (.inl e))))) hadd.2).trans (Fr.onl ((Onl.refl M _).setCell (p:=⟨M,2,none⟩) rfl (.slice (some ⟨g9,0,none⟩) ((init0 g.rules i g.rules.length).names.length+1) c9)) (.inl rfl)))
      have hTM:T≠M:=fun e=>hTA.out (.inl e)
      have hT11:=(Below.heap_setCell w9 ⟨M,2,none⟩ (.slice (some ⟨g9,0,none⟩) ((init0 g.rules i g.rules.length).names.length+1) c9) T (fun e=>hTM (by simpa using e))).trans hT10
      have hall9:=Hid.mk (show _∧_∧_ from ⟨hadd.1,hfr,hT11⟩)
      clear hK K hown hgrow hat hadd hfr hM9 hMg hB9 hT10 hT11 e2 hS9 hT9 hall
      simp only [Act.put,List.setIfInBounds_toArray,List.set_cons_succ,List.set_cons_zero]
      refine Go.Ev.wpC_step rfl ?_
      rintro _ rfl K hK
      simp only [Act.put] at hK
      rw [hnlH.out] at hK hall9 ⊢
      go_simp
      refine hK undef _ (fun h=>absurd h (by decide)) ?_
      clear hK K m2 fm2 c2 t0 hnvH
      refine Go.Ev.wpC_end ?_
      rintro _ rfl
      generalize w9.setCell ⟨M,2,none⟩ (.slice (some ⟨g9,0,none⟩) (i+1) c9)=w10 at hall9 ⊢
      obtain ⟨V4,hV4⟩:∃ V4:MV,{ V' with n:= .slice (some ⟨g9,0,none⟩) (i+1) c9 }=V4:=⟨_,rfl⟩
      rw [hV4] at hall9
      clear hV4
      obtain ⟨hS4,hF4,hT4⟩:=hall9.out
      obtain ⟨qs,q1,q2,q3⟩:=hS4.queue
      obtain ⟨qp,qc,hqv⟩:=ownsRow_form q2
      have e7:=hS4.c7
      rw [hqv] at e7
      have y1:w10.cell? ⟨T,1,none⟩=some (.int .i64 (a.body.kind:Nat)):=by simp [World.cell?,hT4]
      have y2:w10.cell? ⟨T,2,none⟩=some (.string a.body.text):=by simp [World.cell?,hT4]
      have y3:w10.cell? ⟨T,3,none⟩=some (.slice sp a.body.kids.length sc):=by simp [World.cell?,hT4]
      have hql:(init0 g.rules i g.rules.length).queue.length=i:=init0_queue _ _ _
      simp only at hqv e7 q1 q2 q3
      rw [hql] at hqv e7
      have q1H:=Hid.mk q1
      have q2H:=Hid.mk q2
      have q3H:=Hid.mk q3
      have hqvH:=Hid.mk hqv
      have hqlH:=Hid.mk hql
      clear hS4 hF4 hT4 q1 q2 q3 hqv hql
      go_wp2_with (fail)
      refine Go.Ev.wp_region_pfe [9,10,13] 2 (fun u=>u.cell? ⟨M,7,none⟩=some (.slice qp i qc)∧u.cell? ⟨T,1,none⟩=some (.int .i64 (a.body.kind:Nat))∧u.cell? ⟨T,2,none⟩=some (.string a.body.text)∧u.cell? ⟨T,3,none⟩=some (.slice sp a.body.kids.length sc)) hm (by kernel_rfl) (by kernel_rfl) (by kernel_rfl) ⟨e7,y1,y2,y3⟩ ?_
      iterate 14
       first
       | refine Go.Ev.planF_skip (by rfl) ?_
       | (refine Go.Ev.planF_look (by rfl) _ (by rintro u K ⟨f1,f2,f3,f4⟩ hK; go_simp; exact hK _ rfl) ?_; simp only [Act.put,List.setIfInBounds_toArray,List.set_cons_succ,List.set_cons_zero])
      refine Go.Ev.planF_nil ?_
      refine Go.Ev.wpC_step rfl ?_
      rintro _ rfl K hK
      have hS5:=Hid.mk (hall9.out.1.drw.blw ((Below.refl w10.drew.heap.size w10.drew).alloc (Nat.le_refl _) (.cells (madeC (a.body,i) (.slice sp a.body.kids.length sc)).toArray 72)))
      have hW5:=Hid.mk ((Go.heap_alloc_old w10.drew (.cells (madeC (a.body,i) (.slice sp a.body.kids.length sc)).toArray 72) (Array.getElem?_eq_some_iff.1 hall9.out.2.2).1).trans hall9.out.2.2)
      have e5:=hS5.out.c7
      rw [hqvH.out] at e5
      refine wp_build_gen Tryz.underlying68 madeRow (by decide) (by decide) (madeC (a.body,i) (.slice sp a.body.kids.length sc)) _ (fill4m _ _ _ _) _ rfl rfl ?_
      refine hK _ _ (fun _=>⟨e5,by simp [World.cell?,hW5.out],by simp [World.cell?,hW5.out],by simp [World.cell?,hW5.out]⟩) ?_
      clear hK K
      simp only [Act.put,List.setIfInBounds_toArray,List.set_cons_succ,List.set_cons_zero]
      refine Go.Ev.wpC_step rfl ?_
      rintro _ rfl K hK
      have q2z:=ownsRow_sm q2H.out (w':=w10.drew.alloc (.cells (madeC (a.body,i) (.slice sp a.body.kids.length sc)).toArray 72)) (fun g e=>Go.heap_alloc_old w10.drew _ (q2H.out.lt g e).2)
      refine wp_app_gen Tryz.underlying68 madeRow rfl (by decide) (by decide) _ _ rfl N4 V4.q (init0 g.rules i g.rules.length).queue.length _ (madeC (a.body,i) (.slice sp a.body.kids.length sc)) rfl (by intro u hu; simp [madeC] at hu; rcases hu with rfl | rfl | rfl | rfl <;> rfl) hqvH.out.symm q2z w10.drew.heap.size rfl (heap_alloc_new w10.drew _) (by have:=hqlH.out; omega) (Nat.le_of_lt hS5.out.zs) ?_
      intro g5 c5 w5 hown hgrow hat
      have hM5:=(hgrow.block M (hS5.out.lt (.inl rfl)) (fun e=>row_ne q2z e.symm hS5.out.cells (by decide))).trans hS5.out.cells
      have hW6:=(hgrow.block T (Array.getElem?_eq_some_iff.1 hW5.out).1 (fun e=>row_ne q2z e.symm hW5.out (by decide))).trans hW5.out
      have m7:w5.cell? ⟨M,7,none⟩=some (.slice qp i qc):=by rw [← hqvH.out]; simp [World.cell?,hM5,mkCells]
      have fm7:w5.frozen? ⟨M,7,none⟩=false:=by simp [World.frozen?,hM5]
      refine hK _ _ (fun _=>⟨m7,by simp [World.cell?,hW6],by simp [World.cell?,hW6],by simp [World.cell?,hW6]⟩) ?_
      have hMg:M≠g5:=fun e=>by subst e; exact row_ne hown rfl hM5 (by decide)
      have hB5:Below w10.heap.size w10 (w10.drew.alloc (.cells (madeC (a.body,i) (.slice sp a.body.kids.length sc)).toArray 72)):=(blw_drewN _ w10 1).trans ((Below.refl w10.drew.heap.size w10.drew).alloc (Nat.le_refl _) _)
      have htz:TrAt (fun k=>k < N4) w10 a.body (.slice sp a.body.kids.length sc):=htrH.out.keep hall9.out.2.1.size fun k h1 h2=>⟨hall9.out.2.1.blk k h2 (fun e=>by have:=hA0H.out k e; have:=hZNH.out; omega),h1⟩
      have hadd:=hS5.out.addQueue (w':=w5.setCell ⟨M,7,none⟩ (.slice (some ⟨g5,0,none⟩) ((init0 g.rules i g.rules.length).queue.length+1) c5)) (a.body,i) (.slice sp a.body.kids.length sc) (.slice (some ⟨g5,0,none⟩) ((init0 g.rules i g.rules.length).queue.length+1) c5) qs g5 rfl q1H.out
       (fun i x s e1 e2=>(q3H.out i x s e1 e2).keep hB5.size fun k h1 h2=>⟨hB5.block k h2,h1⟩) (ownsRow_cells q2z) (htz.keep hB5.size fun k h1 h2=>⟨hB5.block k h2,h1⟩)
       (ownsRow_sm hown fun g e=>Below.heap_setCell _ _ _ _ (fun e'=>hMg (by simp [Value.ownBlock] at e; simp at e'; omega)))
       (hat.elim .inl (fun e=> .inr (Nat.le_of_eq e.symm))) (by simpa using hgrow.size) (fun g e=>(q2z.lt g e).1)
       (fun k h1 h2 h3=>(Below.heap_setCell _ _ _ _ (fun e=>h2 (by simpa using e))).trans (hgrow.block k h1 (fun e=>h3 e.symm))) ((row_set hM5).trans (by simp [mkCells]))
      have hfr:=(hall9.out.2.1.trans (Fr.of hB5)).trans ((Fr.grown hgrow (fun k e=> .inr (.inr (.inr (.inr (.inr (.inr (.inr e))))))) hadd.2).trans (Fr.onl ((Onl.refl M _).setCell (p:=⟨M,7,none⟩) rfl (.slice (some ⟨g5,0,none⟩) ((init0 g.rules i g.rules.length).queue.length+1) c5)) (.inl rfl)))
      have hfin:=Hid.mk (show _∧_ from ⟨hadd.1,hfr⟩)
      clear hK K hown hgrow hat hadd hfr hM5 hW6 hMg hB5 htz e5 q2z
      simp only [Act.put,List.setIfInBounds_toArray,List.set_cons_succ,List.set_cons_zero]
      refine Go.Ev.wpC_step rfl ?_
      rintro _ rfl K hK
      simp only [Act.put] at hK
      rw [hqlH.out] at hK hfin ⊢
      go_simp
      refine hK undef _ (fun h=>absurd h (by decide)) ?_
      clear hK K m7 fm7 e7 y1 y2 y3
      refine Go.Ev.wpC_end ?_
      rintro _ rfl
      generalize w5.setCell ⟨M,7,none⟩ (.slice (some ⟨g5,0,none⟩) (i+1) c5)=w6 at hfin ⊢
      have hsucc:=init0_succ g.rules i g.rules.length
      rw [hra] at hsucc
      have hfinS:MkS N4 M N4 ⟨g.rules,[],[],0,0,i+1⟩ { V4 with q:= .slice (some ⟨g5,0,none⟩) (i+1) c5 } (init0 g.rules (i+1) g.rules.length) w6:=by
       rw [hsucc]; exact hfin.out.1
      have hfin2:=Hid.mk (show _∧_ from ⟨hfinS,hfin.out.2⟩)
      clear hfinS hsucc hfin
      go_wp2_with (fail)
      exact ⟨⟨i+1,_,by simp,hltH.out,hfin2.out.1,hfin2.out.2⟩,by have:=hltH.out; simp [intOf]; omega⟩
     ·have hiI:((i:Int) < (g.rules.length:Int))=False:=eq_false (by omega)
      obtain rfl:i=g.rules.length:=by omega
      have hall:=Hid.mk (show _∧_ from ⟨hS,hF⟩)
      clear hS hF
      go_wp2_with (fail)
      go_meet
      exact ⟨V',hall.out.1,hall.out.2⟩
   case rest=>as_aux_lemma=>
    obtain ⟨V1,hS,hF⟩:=hcut
    have hkeep:∀ k,k < N4→k < w7.heap.size→wc.heap[k]?=w7.heap[k]?:=fun k h1 h2=>hF.blk k h2 (fun h3=>by have:=hA0H.out k h3; omega)
    have hgc:=(hkeep Z (by have:=hZNH.out; omega) (Array.getElem?_eq_some_iff.1 hg7.out).1).trans hg7.out
    have hrc:=(hkeep (Z+1) (by have:=hZNH.out; omega) (Array.getElem?_eq_some_iff.1 hr7.out).1).trans hr7.out
    have hBc:Below Z w wc:=hBw7.out.trans (hF.blw (fun k e=>by have:=hA0H.out k e; have:=hZNH.out; omega) (by have:=(Array.getElem?_eq_some_iff.1 hg7.out).1; omega))
    have e0:wc.cell? ⟨Z,0,none⟩=some (.string g.start):=by simp [World.cell?,hgc]
    have e1:wc.cell? ⟨Z,1,none⟩=some (.slice p g.rules.length c):=by simp [World.cell?,hgc]
    have ht:=hter.out wc (by rw [hZH.out]; exact hBc)
    have hSH:=Hid.mk hS
    have hFH:=Hid.mk hF
    have hgcH:=Hid.mk hgc
    have hrcH:=Hid.mk hrc
    have hBcH:=Hid.mk hBc
    clear hS hF hkeep hgc hrc hBc f1 hter
    go_wp2_with (fail)
    refine ht.mono ?_
    rintro e w8 ⟨v8,rfl,hT8,hB8⟩
    obtain ⟨ts,hts⟩:∃ ts,termsRs [] g.rules=ts:=⟨_,rfl⟩
    have htl:ts.length≤1000000:=by
     have h1:=termsRs_le [] g.rules
     rw [hts] at h1
     have h2:=hnH.out
     simp at h1
     omega
    rw [hts] at hT8
    obtain ⟨tp,tc,rfl⟩:=ownsRow_form hT8
    have hS8:=Hid.mk (hSH.out.blw hB8)
    have hF8:=Hid.mk (hFH.out.trans (Fr.of (A:=MkA M V1) hB8))
    have hg8:=Hid.mk ((hB8.block Z (Array.getElem?_eq_some_iff.1 hgcH.out).1).trans hgcH.out)
    have hr8:=Hid.mk ((hB8.block (Z+1) (Array.getElem?_eq_some_iff.1 hrcH.out).1).trans hrcH.out)
    have hA1:=Hid.mk (fun k (e:MkA M V1 k)=>hSH.out.lt e)
    have hA1':=Hid.mk (show ∀ k,MkA M V1 k→N4≤k from fun k e=>(hFH.out.new k e).elim (hA0H.out k) (fun e=>by have h1:=(Array.getElem?_eq_some_iff.1 hr7.out).1; have h2:=hM0H.out.lt (k:=M) (.inl rfl); omega))
    have hBw8:=Hid.mk (hBcH.out.trans (hB8.mono (by have:=(Array.getElem?_eq_some_iff.1 hgcH.out).1; omega)))
    have hT8H:=Hid.mk hT8
    have htsH:=Hid.mk hts
    obtain ⟨NC,hNC⟩:∃ NC,wc.heap.size=NC:=⟨_,rfl⟩
    rw [hNC] at hT8H hA1
    have hNC8:=Hid.mk (show NC≤w8.heap.size by have:=hB8.size; omega)
    clear hT8 hts hSH hFH hgcH hrcH hBcH hNC e0 e1 hB8 ht
    go_upto_block 2 with (fail)
    go_cut [] (fun wd=>∃ V':MV,MkS N4 M N4 ⟨g.rules,ts,ts,0,0,g.rules.length⟩ V' (init0 g.rules g.rules.length g.rules.length) wd∧Fr (MkA M V1) w8 (MkA M V') wd)
    case first=>as_aux_lemma=>
     go_wp2_with (fail)
     go_loopw [78] (fun y wr=>∃ (i:Nat) (V':MV),y= .int .i64 (i:Nat)∧i≤ts.length∧MkS N4 M N4 ⟨g.rules,ts.take i,ts.take i,0,0,g.rules.length⟩ V' (init0 g.rules g.rules.length g.rules.length) wr∧Fr (MkA M V1) w8 (MkA M V') wr) (fun y _=>ts.length - (intOf y).toNat)
     case atStart=>exact ⟨0,V1,rfl,Nat.zero_le _,by simpa using hS8.out,Fr.refl _ _⟩
     case round=>
      obtain ⟨i,V',rfl,hi,hS,hF⟩:=hrel
      by_cases hlt:i < ts.length
      ·have hiI:(i:Int) < (ts.length:Int):=by omega
       have hib:(i:Int) < 9223372036854775807:=by omega
       obtain ⟨x,hx⟩:∃ x,ts[i]?=some x:=⟨_,List.getElem?_eq_getElem hlt⟩
       obtain ⟨gt,ct,he,hcx,hgN,hgs,_⟩:=hT8H.out.at hx
       cases he
       have hcx:wr.cell? ⟨gt,i,none⟩=some (.string x):=by
        have:=hF.blk gt hgs (fun e=>by have:=hA1.out gt e; omega)
        rw [← hcx]
        exact World.cell?_of_block (a:=⟨gt,i,none⟩) this
       have htk:ts.take (i+1)=ts.take i++[x]:=by rw [List.take_add_one,hx]; rfl
       have htkl:(ts.take i).length=i:=by simp; omega
       have c6:=hS.c6
       have hSSH:=Hid.mk hS
       have hFH:=Hid.mk hF
       have hltH:=Hid.mk hlt
       have htkH:=Hid.mk htk
       have htklH:=Hid.mk htkl
       clear hS hF hlt htk htkl hx hgs hgN
       go_upto_region 18 with (refine wpList_put_str rfl _ _ _ rfl Tryz.underlying67 Tryz.underlying9 V'.bt _ rfl hSSH.out.mt x rfl (.int .i64 (i:Nat)) rfl ?_; intro w9 hm9 hon hsz9)
       have hS9:=hSSH.out.setMapT (w':=w9) (ts.take i++[x]) (by rw [← fwdT_put,htklH.out]; simpa [htklH.out] using hm9) hon
       have hF9:=Hid.mk (hFH.out.trans (Fr.onl (A:=MkA M V') hon (.inr (.inr (.inl rfl)))))
       have hS9H:=Hid.mk hS9
       obtain ⟨np,nc,hnv⟩:=ownsRow_form hS9.terms
       have c3:w9.cell? ⟨M,3,none⟩=some V'.t:=by simp [World.cell?,hS9.cells,mkCells]
       rw [hnv] at c3
       simp only [htklH.out] at hnv c3
       have hnvH:=Hid.mk hnv
       have hZ9:N4≤w9.heap.size:=Nat.le_of_lt hS9.zs
       clear hS9 hm9 hon hsz9 hnv c6 hcx
       go_wp2_with (first | (refine wpList_build_str rfl _ rfl _ rfl ?_) | (at_builtin; refine wpList_app_str rfl _ _ rfl N4 V'.t (ts.take i) x w9 rfl hnvH.out.symm hS9H.out.terms rfl (by have:=htklH.out; omega) hZ9 ?_; intro g' cc w10 hv10 hg10 hat; have hM10:=(hg10.block M (hS9H.out.lt (.inl rfl)) (fun e=>row_ne hS9H.out.terms e.symm hS9H.out.cells (by decide))).trans hS9H.out.cells; have d3:w10.cell? ⟨M,3,none⟩=some (.slice np i nc):=by { rw [← hnvH.out]; simp [World.cell?,hM10,mkCells] }; have f3:w10.frozen? ⟨M,3,none⟩=false:=by simp [World.frozen?,hM10]))
       rw [htklH.out] at hv10
       have hMg:M≠g':=fun e=>by subst e; exact row_ne hv10 rfl hM10 (by decide)
       have hadd:=hS9H.out.setTerms (w':=w10.setCell ⟨M,3,none⟩ (.slice (some ⟨g',0,none⟩) (i+1) cc)) (ts.take i++[x]) (.slice (some ⟨g',0,none⟩) (i+1) cc) g' rfl
        (ownsRow_sm hv10 fun g e=>Below.heap_setCell _ _ _ _ (fun e'=>hMg (by simp [Value.ownBlock] at e; simp at e'; omega))) hat (by simpa using hg10.size)
        (fun k h1 h2 h3=>(Below.heap_setCell _ _ _ _ (fun e=>h2 (by simpa using e))).trans (hg10.block k h1 (fun e=>h3 e.symm))) ((row_set hM10).trans (by simp [mkCells]))
       have hfr:=(hF9.out.trans (Fr.grown hg10 (fun k e=> .inr (.inr (.inr (.inr (.inr (.inl e)))))) hadd.2)).trans (Fr.onl ((Onl.refl M _).setCell (p:=⟨M,3,none⟩) rfl (.slice (some ⟨g',0,none⟩) (i+1) cc)) (.inl rfl))
       exact ⟨⟨i+1,_,by simp,hltH.out,by rw [htkH.out]; exact hadd.1,hfr⟩,by have:=hltH.out; simp [intOf]; omega⟩
      ·have hiI:((i:Int) < (ts.length:Int))=False:=eq_false (by omega)
       have hd:ts.take i=ts:=List.take_of_length_le (by omega)
       rw [hd] at hS
       have hall:=Hid.mk (show _∧_ from ⟨hS,hF⟩)
       clear hS hF hd
       go_wp2_with (fail)
       go_meet
       exact ⟨V',hall.out.1,hall.out.2⟩
    case rest=>as_aux_lemma=>
     obtain ⟨V2,hS,hF⟩:=hcut
     have hkeep:∀ k,k < N4→k < w8.heap.size→wc.heap[k]?=w8.heap[k]?:=fun k h1 h2=>hF.blk k h2 (fun h3=>by have:=hA1'.out k h3; omega)
     have hgc:=(hkeep Z (by have:=hZNH.out; omega) (Array.getElem?_eq_some_iff.1 hg8.out).1).trans hg8.out
     have hrc:=Hid.mk ((hkeep (Z+1) (by have:=hZNH.out; omega) (Array.getElem?_eq_some_iff.1 hr8.out).1).trans hr8.out)
     have hBc:=Hid.mk (hBw8.out.trans (hF.blw (fun k e=>by have:=hA1'.out k e; have:=hZNH.out; omega) (by have:=(Array.getElem?_eq_some_iff.1 hg8.out).1; omega)))
     have e0:wc.cell? ⟨Z,0,none⟩=some (.string g.start):=by simp [World.cell?,hgc]
     have e1:wc.cell? ⟨Z,1,none⟩=some (.slice p g.rules.length c):=by simp [World.cell?,hgc]
     have hA2:=Hid.mk (show ∀ k,MkA M V2 k→N4≤k from fun k e=>(hF.new k e).elim (hA1'.out k) (fun e=>by have h1:=(Array.getElem?_eq_some_iff.1 hr8.out).1; have h2:=hS8.out.lt (k:=M) (.inl rfl); have h3:=hA1'.out M (.inl rfl); omega))
     have hgcH:=Hid.mk hgc
     have c5:=hS.c5
     have m0:wc.cell? ⟨M,0,none⟩=some (.int .i64 ((0:Nat):Int)):=by simp [World.cell?,hS.cells,mkCells]
     have m1:wc.cell? ⟨M,1,none⟩=some (.int .i64 ((0:Nat):Int)):=by simp [World.cell?,hS.cells,mkCells]
     have hZM:Z≠M:=fun e=>by have:=hA2.out M (.inl rfl); have:=hZNH.out; omega
     have hSH:=Hid.mk hS
     clear hS hF hkeep hgc hA1 hA1' hS8 hF8 hg8 hr8 hBw8
     obtain ⟨st0,hst0⟩:∃ st0,(fwdN g.rules g.rules.length g.start).getD 0=st0:=⟨_,rfl⟩
     have hst0H:=Hid.mk hst0
     go_wp2_with (fail)
     refine Go.Ev.wp_region_pfe [15,19] 1 (fun u=>u.cell? ⟨M,5,none⟩=some (.map (some V2.bn))∧u.cell? ⟨Z,0,none⟩=some (.string g.start)∧u.cell? ⟨Z,1,none⟩=some (.slice p g.rules.length c)∧MpS u V2.bn (natV (fwdN g.rules g.rules.length))) hm (by kernel_rfl) (by kernel_rfl) (by kernel_rfl) ⟨c5,e0,e1,hSH.out.mn⟩ ?_
     iterate 20
      first
      | refine Go.Ev.planF_skip (by rfl) ?_
      | (refine Go.Ev.planF_look (by rfl) _ (by
        rintro u K ⟨f1,f2,f3,f4⟩ hK
        have hlk:=f4.look (P:=Tryz.prog) Tryz.underlying67 Tryz.underlying9 (Tryz.zeroValue3 u) g.start false
        rw [natV_get,hst0] at hlk
        simp only [Bool.false_eq_true,if_false] at hlk
        go_simp
        exact hK _ rfl) ?_; simp only [Act.put,List.setIfInBounds_toArray,List.set_cons_succ,List.set_cons_zero])
     refine Go.Ev.planF_nil ?_
     refine Go.Ev.wpC_step rfl ?_
     rintro _ rfl K hK
     have hM0':(wc.drew.setCell ⟨M,0,none⟩ (.int .i64 (st0:Nat))).heap[M]?=some (.cells (mkCells st0 0 V2 g.rules.length false) 70 (0,0)):=(row_set hSH.out.cells).trans (by simp [mkCells,init0])
     have hZ0':(wc.drew.setCell ⟨M,0,none⟩ (.int .i64 (st0:Nat))).heap[Z]?=_:=(Below.heap_setCell wc.drew ⟨M,0,none⟩ (.int .i64 (st0:Nat)) Z hZM).trans hgcH.out
     have hm0':MpS (wc.drew.setCell ⟨M,0,none⟩ (.int .i64 (st0:Nat))) V2.bn (natV (fwdN g.rules g.rules.length)):=hSH.out.mn.keep (Below.heap_setCell wc.drew ⟨M,0,none⟩ (.int .i64 (st0:Nat)) V2.bn hSH.out.bnM)
     have fz0:∀ i,wc.drew.frozen? ⟨M,i,none⟩=false:=fun i=>hSH.out.fz i
     have hf0:=fz0 0
     have m0':wc.drew.cell? ⟨M,0,none⟩=some (.int .i64 ((0:Nat):Int)):=m0
     go_simp
     refine hK undef _ (fun _=>⟨(cell_of_row _ _ _ _ _ _ hM0').trans rfl,(cell_of_row _ _ _ _ _ _ hZ0').trans rfl,(cell_of_row _ _ _ _ _ _ hZ0').trans rfl,hm0'⟩) ?_
     clear hK K
     simp only [Act.put]
     refine Go.Ev.wpC_step rfl ?_
     rintro _ rfl K hK
     simp only [Act.put] at hK
     have hon:Onl M wc ((wc.setCell ⟨M,0,none⟩ (.int .i64 (st0:Nat))).setCell ⟨M,1,none⟩ (.int .i64 (g.rules.length:Nat))).drew:=(((Onl.refl M wc).setCell rfl _).setCell rfl _).drew
     have hM1':(((wc.setCell ⟨M,0,none⟩ (.int .i64 (st0:Nat))).setCell ⟨M,1,none⟩ (.int .i64 (g.rules.length:Nat))).drew).heap[M]?=some (.cells (mkCells st0 g.rules.length V2 g.rules.length false) 70 (0,0)):=(row_set (row_set hSH.out.cells)).trans (by simp [mkCells,init0])
     have fw1:=hSH.out.fz 1
     clear hM0' hZ0' hm0' fz0 hf0 m0'
     go_simp
     refine hK undef _ (fun h=>absurd h (by decide)) ?_
     clear hK K
     refine Go.Ev.wpC_end ?_
     rintro _ rfl
     have hS3:=hSH.out.setHead st0 g.rules.length false (by simpa [init0] using hM1') hon
     have hF3:=Fr.onl (A:=MkA M V2) hon (.inl rfl)
     generalize ((wc.setCell ⟨M,0,none⟩ (.int .i64 (st0:Nat))).setCell ⟨M,1,none⟩ (.int .i64 (g.rules.length:Nat))).drew=w9 at hS3 hF3 ⊢
     have hS3H:=Hid.mk hS3
     have hF3H:=Hid.mk hF3
     obtain ⟨tq,tqc,htv⟩:=ownsRow_form hS3.terms
     have c3:w9.cell? ⟨M,3,none⟩=some V2.t:=by simp [World.cell?,hS3.cells,mkCells]
     rw [htv] at c3
     simp only at c3
     have c9:=hS3.c9
     have f9:=hS3.fz 9
     obtain ⟨q,hq⟩:∃ q,decide (256 < ts.length)=q:=⟨_,rfl⟩
     have hqI:decide ((256:Int) < (ts.length:Int))=q:=by
      rw [← hq]
      by_cases h:256 < ts.length
      ·rw [decide_eq_true h]; exact decide_eq_true (by omega)
      ·rw [decide_eq_false h]; exact decide_eq_false (by omega)
     have hqH:=Hid.mk hq
     clear hM1' fw1 hon m0 m1 c5 e0 e1 hS3 hF3 htv hq
     go_upto_region 22 with (fail)
     have hon4:Onl M w9 (w9.setCell ⟨M,9,none⟩ (.bool q)):=(Onl.refl M w9).setCell rfl _
     have hS4:=hS3H.out.setHead st0 g.rules.length q ((row_set hS3H.out.cells).trans (by simp [mkCells])) hon4
     have hF4:=hF3H.out.trans (Fr.onl (A:=MkA M V2) hon4 (.inl rfl))
     generalize w9.setCell ⟨M,9,none⟩ (.bool q)=w10 at hon4 hS4 hF4 ⊢
     have hP4:=Hid.mk (MkP.init (ts:=ts) hprs.out (by have:=hnH.out; omega) htl st0 q)
     have hQ4:=Hid.mk (QP.init hprs.out g.rules.length q)
     have hS4H:=Hid.mk (hS4.up (Nat.le_of_lt hS4.zs))
     have hg10:=(hF4.blk Z (Array.getElem?_eq_some_iff.1 hgcH.out).1 (fun e=>by have:=hA2.out Z e; have:=hZNH.out; omega)).trans hgcH.out
     have hr10:=Hid.mk ((hF4.blk (Z+1) (Array.getElem?_eq_some_iff.1 hrc.out).1 (fun e=>by have:=hA2.out _ e; have:=hZNH.out; omega)).trans hrc.out)
     have hB10:=Hid.mk (hBc.out.trans (hF4.blw (fun k e=>by have:=hA2.out k e; have:=hZNH.out; omega) (by have:=(Array.getElem?_eq_some_iff.1 hgcH.out).1; omega)))
     have hg10H:=Hid.mk hg10
     have hE10:=Hid.mk (show PowB N4 w10 from fun w' hb=>hEH.out w' (by rw [hZH.out]; exact hB10.out.trans (hb.mono (by have:=hZNH.out; omega))))
     clear hon4 hS4 hF4 hg10 c3 c9 f9 hqI hS3H hF3H hgcH hrc hBc hSH
     obtain ⟨FIN,hFIN⟩:∃ FIN,loopF g.rules ts fuel0 { init0 g.rules g.rules.length g.rules.length with many:=q } 0=FIN:=⟨_,rfl⟩
     have hFH:=Hid.mk hFIN
     clear hFIN
     go_upto_block 4 with (fail)
     go_cut [] (fun wd=>∃ V':MV,MkS N4 M wd.heap.size ⟨g.rules,ts,ts,st0,g.rules.length,g.rules.length⟩ V' FIN wd∧Fr (MkA M V2) w10 (MkA M V') wd)
     case first=>as_aux_lemma=>
      go_wp2_with (fail)
      go_loopw [10] (fun y wr=>∃ (i f:Nat) (st':Mk) (V':MV),y= .int .i64 (i:Nat)∧MkS N4 M wr.heap.size ⟨g.rules,ts,ts,st0,g.rules.length,g.rules.length⟩ V' st' wr∧Fr (MkA M V2) w10 (MkA M V') wr∧MkP ⟨g.rules,ts,ts,st0,g.rules.length,g.rules.length⟩ st'∧QP st'∧loopF g.rules ts f st' i=FIN∧1000001≤i+f) (fun y _=>1000001 - (intOf y).toNat)
      case atStart=>exact ⟨0,fuel0,_,V2,rfl,hS4H.out,Fr.refl _ _,hP4.out,hQ4.out,hFH.out,by rw [fuel0_eq]; omega⟩
      case round=>
       obtain ⟨i,f,st',V',rfl,hS,hF,hP,hQ,hlf,hif⟩:=hrel
       obtain ⟨qs,q1,q2,q3⟩:=hS.queue
       obtain ⟨qp,qc,hqv⟩:=ownsRow_form q2
       have c7:=hS.c7
       rw [hqv] at c7
       have c9:=hS.c9
       have hgr:=(hF.blk Z (Array.getElem?_eq_some_iff.1 hg10H.out).1 (fun e=>by have:=hA2.out Z e; have:=hZNH.out; omega)).trans hg10H.out
       have z1:wr.cell? ⟨Z,1,none⟩=some (.slice p g.rules.length c):=by simp [World.cell?,hgr]
       have hEr:PowB N4 wr:=hE10.out.blw (hF.blw hA2.out (Nat.le_of_lt hS4H.out.zs))
       have hql:=hP.ql
       have hnl:=hP.nl
       have hstop:¬ (i < st'.queue.length∧st'.many=false)→MkS N4 M wr.heap.size ⟨g.rules,ts,ts,st0,g.rules.length,g.rules.length⟩ V' FIN wr:=fun hc=>by
        have:loopF g.rules ts f st' i=st':=by
         cases f with
         | zero=>rfl
         | succ f=>rw [loopF,if_neg hc]
        rw [← hlf,this]
        exact hS
       have hstopH:=Hid.mk hstop
       by_cases hlt:i < st'.queue.length
       ·have hiI:(i:Int) < (st'.queue.length:Int):=by omega
        cases hmn:st'.many with
        | true=>
         rw [hmn] at c9
         have hfin:=Hid.mk (show _∧_ from ⟨hstop (by simp [hmn]),hF⟩)
         clear hS hF hP hQ hlf hif q1 q2 q3 hqv hgr hEr hstop hlt hmn hql hnl
         go_wp2_with (fail)
         go_meet
         exact ⟨V',hfin.out.1,hfin.out.2⟩
        | false=>
         rw [hmn] at c9
         obtain ⟨⟨t,k⟩,hx⟩:∃ x,st'.queue[i]?=some x:=⟨_,List.getElem?_eq_getElem hlt⟩
         have hi6:i≤1000000:=by omega
         obtain ⟨f,rfl⟩:∃ f',f=f'+1:=⟨f - 1,by omega⟩
         rw [loopF,if_pos ⟨hlt,hmn⟩] at hlf
         obtain ⟨b,hb⟩:∃ b,decide (i < g.rules.length)=b:=⟨_,rfl⟩
         rw [hb] at hlf
         have hbI:decide ((i:Int) < (g.rules.length:Int))=b:=by
          rw [← hb]
          by_cases h:i < g.rules.length
          ·rw [decide_eq_true h]; exact decide_eq_true (by omega)
          ·rw [decide_eq_false h]; exact decide_eq_false (by omega)
         have hpr:=Hid.mk (produce_any N4 M ⟨g.rules,ts,ts,st0,g.rules.length,g.rules.length⟩ V' st' i b t k wr hS hP hEr hx (fun _ h=>proper_one t (hQ _ (List.mem_of_getElem? hx)) h))
         have hQ':=Hid.mk (hQ.produce g.rules ts i b)
         have hFH:=Hid.mk hF
         have hlfH:=Hid.mk hlf
         have hifH:=Hid.mk hif
         have hi6H:=Hid.mk hi6
         have hwi:IntKind.i64.wrap ((i:Int)+1)=(i:Int)+1:=wi64 (by omega) (by omega)
         clear hS hF hP hQ hlf hif q1 q2 q3 hqv hgr hEr hstop hstopH hlt hmn hx hi6 hql hnl hbI
         go_wp2_with (fail)
         refine hpr.out.mono ?_
         rintro e w11 ⟨rfl,V5,hS5,hF5,hP5⟩
         have hall:=Hid.mk (show _∧_∧_ from ⟨hS5,hF5,hP5⟩)
         clear hS5 hF5 hP5 hpr c7 c9 z1
         go_wp2_with (fail)
         exact ⟨⟨i+1,f,_,V5,by simp,hall.out.1,hFH.out.trans hall.out.2.1,hall.out.2.2,hQ'.out,hlfH.out,by have:=hifH.out; omega⟩,by have:=hi6H.out; simp [intOf]; omega⟩
       ·have hiI:((i:Int) < (st'.queue.length:Int))=False:=eq_false (by omega)
        have hfin:=Hid.mk (show _∧_ from ⟨hstop (fun h=>hlt h.1),hF⟩)
        clear hS hF hP hQ hlf hif q1 q2 q3 hqv hgr hEr hstop hlt hql hnl
        go_wp2_with (fail)
        go_meet
        exact ⟨V',hfin.out.1,hfin.out.2⟩
     case rest=>as_aux_lemma=>
      obtain ⟨V5,hS,hF⟩:=hcut
      have hrz:=(hF.blk (Z+1) (Array.getElem?_eq_some_iff.1 hr10.out).1 (fun e=>by have:=hA2.out _ e; have:=hZNH.out; omega)).trans hr10.out
      have hBz:=hB10.out.trans (hF.blw (fun k e=>by have:=hA2.out k e; have:=hZNH.out; omega) (by have:=(Array.getElem?_eq_some_iff.1 hr10.out).1; omega))
      have c9:=hS.c9
      have hdm:desMk g=FIN:=by
       unfold desMk
       rw [htsH.out,hqH.out]
       exact hFH.out
      have hR:=hRH.out
      rw [hdm,htsH.out,hst0H.out] at hR
      have hSH:=Hid.mk hS
      have hrzH:=Hid.mk hrz
      have hBzH:=Hid.mk hBz
      clear hF hrz hBz hA2 hg10H hr10 hB10 hE10 hP4 hQ4 hS4H hS
      cases hmn:FIN.many with
      | true=>
       rw [hmn] at c9 hR
       rw [if_pos rfl] at hR
       subst hR
       clear hmn
       go_wp2_with (refine wpList_store_row rfl 34 _ _ rfl (Z+1) #[.int .i64 0,.int .i64 0,.slice none 0 0,.slice none 0 0,.slice none 0 0] rfl rfl 34 _ hrzH.out plInfo rfl (by simp [Value.oneCell']) ?_)
       have hrow:=setRow_heap wc (Z+1) _ #[.int .i64 0,.int .i64 0,.slice none 0 0,.slice none 0 0,.slice none 0 0] _ _ hrzH.out
       have hBr:=setRow_low hBzH.out (Z+1) #[.int .i64 0,.int .i64 0,.slice none 0 0,.slice none 0 0,.slice none 0 0] (Nat.le_succ Z)
       refine bodyPost_ret (results_ct_row rfl _ _ (Z+1) _ _ _ _ rfl hrow Tryz.underlying34 rfl plInfo) rfl ?_
       exact ⟨by rw [hZH.out]; exact hBr,rfl⟩
      | false=>
       rw [hmn] at c9 hR
       rw [if_neg (by decide)] at hR
       subst hR
       clear hmn
       have hS:=hSH.out
       obtain ⟨n1,n2,hn1⟩:=ownsRow_form hS.names
       obtain ⟨t1,t2,ht1⟩:=ownsRow_form hS.terms
       obtain ⟨ps,p1,p2,p3⟩:=hS.prods
       obtain ⟨r1,r2,hr1⟩:=ownsRow_form p2
       have hN1:StrsO N4 wc (.slice n1 FIN.names.length n2) FIN.names:=by rw [← hn1]; exact hS.names
       have hT1:StrsO N4 wc (.slice t1 ts.length t2) ts:=by rw [← ht1]; exact hS.terms
       have hP1:wc.ownsRow N4 39 2 (.slice r1 FIN.prods.length r2) FIN.prods.length (gridC prodC FIN.prods ps):=by rw [← hr1]; exact p2
       have m0:wc.cell? ⟨M,0,none⟩=some (.int .i64 (st0:Nat)):=by simp [World.cell?,hS.cells,mkCells]
       have m1:wc.cell? ⟨M,1,none⟩=some (.int .i64 (g.rules.length:Nat)):=by simp [World.cell?,hS.cells,mkCells]
       have m2:wc.cell? ⟨M,2,none⟩=some (.slice n1 FIN.names.length n2):=by rw [← hn1]; exact hS.c2
       have m3:wc.cell? ⟨M,3,none⟩=some (.slice t1 ts.length t2):=by rw [← ht1]; simp [World.cell?,hS.cells,mkCells]
       have m4:wc.cell? ⟨M,4,none⟩=some (.slice r1 FIN.prods.length r2):=by rw [← hr1]; exact hS.c4
       have hpl:PlAt Z (wc.setRow (Z+1) #[.int .i64 (st0:Nat),.int .i64 (g.rules.length:Nat),.slice n1 FIN.names.length n2,.slice t1 ts.length t2,.slice r1 FIN.prods.length r2]) ⟨st0,g.rules.length,FIN.names,ts,FIN.prods⟩ (.agg #[.int .i64 (st0:Nat),.int .i64 (g.rules.length:Nat),.slice n1 FIN.names.length n2,.slice t1 ts.length t2,.slice r1 FIN.prods.length r2]):=by
        have hz:=hZNH.out
        have hfar:∀ k,N4≤k→(wc.setRow (Z+1) #[.int .i64 (st0:Nat),.int .i64 (g.rules.length:Nat),.slice n1 FIN.names.length n2,.slice t1 ts.length t2,.slice r1 FIN.prods.length r2]).heap[k]?=wc.heap[k]?:=fun k hk=>setRow_other _ _ _ _ (by omega)
        refine ⟨_,_,_,ps,rfl,?_,?_,p1,?_,fun i x s e1 e2=>(p3 i x s e1 e2).keep (by simp) fun k r1 r2=>⟨hfar k r1.1,by omega⟩⟩
        ·exact ownsRow_base' (hN1.keep fun k r1 _ _=>hfar k r1) (by omega)
        ·exact ownsRow_base' (hT1.keep fun k r1 _ _=>hfar k r1) (by omega)
        ·exact ownsRow_base' (ownsRow_sm hP1 fun k e=>hfar k (hP1.lt k e).1) (by omega)
       have hrow:=Hid.mk (setRow_heap wc (Z+1) _ #[.int .i64 (st0:Nat),.int .i64 (g.rules.length:Nat),.slice n1 FIN.names.length n2,.slice t1 ts.length t2,.slice r1 FIN.prods.length r2] _ _ hrzH.out)
       have hBr:=Hid.mk (setRow_low hBzH.out (Z+1) #[.int .i64 (st0:Nat),.int .i64 (g.rules.length:Nat),.slice n1 FIN.names.length n2,.slice t1 ts.length t2,.slice r1 FIN.prods.length r2] (Nat.le_succ Z))
       have hplH:=Hid.mk hpl
       clear hpl p1 p2 p3 hn1 ht1 hr1 hS hN1 hT1 hP1
       go_wp2_with (refine wpList_store_row rfl 34 _ _ rfl (Z+1) #[.int .i64 (st0:Nat),.int .i64 (g.rules.length:Nat),.slice n1 FIN.names.length n2,.slice t1 ts.length t2,.slice r1 FIN.prods.length r2] rfl rfl 34 _ hrzH.out plInfo rfl (by simp [Value.oneCell']) ?_)
       refine bodyPost_ret (results_ct_row rfl _ _ (Z+1) _ _ _ _ rfl hrow.out Tryz.underlying34 rfl plInfo) rfl ?_
       exact ⟨by rw [hZH.out]; exact hBr.out,_,rfl,by rw [hZH.out]; exact hplH.out⟩
end Go.Proofs.YtmenpmbgennhoaaGreatDoor
