/- RefactorFlat: the law's walk. RefactorFlat, where the listed tables lie as the text lays them. -/
import Derived.Test.YtmenpmbgennhoaaGreatDoorRfd
import Derived.Test.YtmenpmbgennhoaaGreatDoorRpa
import Derived.Test.YtmenpmbgennhoaaGreatDoorSpk
import Derived.Shelf.Vars
namespace Go.Proofs.YtmenpmbgennhoaaGreatDoor
open Go.RowKit
def ReadP (w:World) (e:Ending) (w':World):Prop:=Below w.heap.size w w'∧∃ gr rv b,e= .returned (.tuple #[gramV gr rv,.bool b])∧RsAt (fun k=>w.heap.size≤k) w' gr.rules rv∧GOk gr
set_option maxRecDepth 100000 in
set_option maxHeartbeats 3200000 in
theorem read_any (s:ByteArray) (w:World):Calls Tryz.prog 5 #[.string s] w (ReadP w):=by
 have hm:Tryz.prog.follows .mixedOrders=true:=rfl
 obtain ⟨Z,hZ⟩:∃ Z,w.heap.size=Z:=⟨_,rfl⟩
 have hZr:=heap_alloc_new w (.cells #[.string ⟨#[]⟩,.slice none 0 0] 25)
 rw [hZ] at hZr
 have hB0:Below Z w (w.alloc (.cells #[.string ⟨#[]⟩,.slice none 0 0] 25)):=by rw [← hZ]; exact (Below.refl _ w).alloc (Nat.le_refl _) _
 have hs0:(w.alloc (.cells #[.string ⟨#[]⟩,.slice none 0 0] 25)).heap.size=Z+1:=by simp; omega
 replace hZr:=Hid.mk hZr
 replace hB0:=Hid.mk hB0
 replace hs0:=Hid.mk hs0
 by_cases hl:800 < s.size
 ·have hlI:(800:Int) < (s.size:Int):=by omega
  have hend:=Hid.mk (setRow_heap _ Z _ #[.string ⟨#[]⟩,.slice none 0 0] _ _ hZr.out)
  have hbl:=Hid.mk (setRow_low hB0.out Z #[.string ⟨#[]⟩,.slice none 0 0] (Nat.le_refl _))
  replace hZ:=Hid.mk hZ
  have hZ2:=hZ.out
  subst hZ2
  go_enter Tryz.func5,Tryz.ntmps5
  go_wp2_with (first | (refine wpList_store_row rfl 25 _ _ rfl w.heap.size #[.string ⟨#[]⟩,.slice none 0 0] rfl rfl 25 _ hZr.out grInfo rfl (by simp [Value.oneCell']) ?_))
  refine bodyPost_ret (results_ct_row rfl _ _ w.heap.size _ _ _ _ rfl hend.out Tryz.underlying25 rfl grInfo) rfl ?_
  exact ⟨hbl.out,⟨⟨#[]⟩,[]⟩,_,false,rfl,RsAt.none _ _,gok_of ⟨#[]⟩ ⟨Nat.zero_le _,fun r hr=>by simp at hr⟩⟩
 ·have hlI:¬ ((800:Int) < (s.size:Int)):=by omega
  replace hZ:=Hid.mk hZ
  have hZ2:=hZ.out
  subst hZ2
  go_enter Tryz.func5,Tryz.ntmps5
  go_wp2_with (fail)
  refine (parse2_any s _).mono ?_
  rintro e w2 ⟨hB2,rv,rfl,hrv⟩
  have hr2:=(hB2.block w.heap.size (by rw [hs0.out]; omega)).trans hZr.out
  have hB2w:=hB0.out.trans (hB2.mono (by rw [hs0.out]; omega))
  rw [hs0.out] at hrv
  have hgk:=Hid.mk (gok_parse s)
  generalize parseT s=pr at*
  obtain ⟨q,c2,rfl⟩:=hrv.form
  generalize parC pr=fl at*
  generalize parH pr=g2 at*
  unfold fltV
  have hB4:Below w2.heap.size w2 ((w2.alloc (.cells #[.string g2.start,.slice q g2.rules.length c2] 25)).alloc (.cells #[.int .i64 (fl.line:Nat),.int .i64 (fl.col:Nat),.int .i64 (fl.code:Nat)] 43)):=((Below.refl _ w2).alloc (Nat.le_refl _) _).alloc (by simp) _
  have hg4:=(Go.heap_alloc_old (w2.alloc (.cells #[.string g2.start,.slice q g2.rules.length c2] 25)) (.cells #[.int .i64 (fl.line:Nat),.int .i64 (fl.col:Nat),.int .i64 (fl.code:Nat)] 43) (show w2.heap.size < _ by simp)).trans (heap_alloc_new w2 _)
  have hf4:=heap_alloc_new (w2.alloc (.cells #[.string g2.start,.slice q g2.rules.length c2] 25)) (.cells #[.int .i64 (fl.line:Nat),.int .i64 (fl.col:Nat),.int .i64 (fl.code:Nat)] 43)
  rw [show (w2.alloc (.cells #[.string g2.start,.slice q g2.rules.length c2] 25)).heap.size=w2.heap.size+1 by simp] at hf4
  have hlt2:=(Array.getElem?_eq_some_iff.1 hr2).1
  have hr4:=(hB4.block w.heap.size hlt2).trans hr2
  have hrv4:=Hid.mk (hrv.blw hB4)
  have hB4w:=Hid.mk (hB2w.trans (hB4.mono (by omega)))
  replace hr4:=Hid.mk hr4
  replace hlt2:=Hid.mk hlt2
  clear hr2 hB2w hB2 hrv hB4
  go_upto_region 4 with (fail)
  generalize (w2.alloc (.cells #[.string g2.start,.slice q g2.rules.length c2] 25)).alloc (.cells #[.int .i64 (fl.line:Nat),.int .i64 (fl.col:Nat),.int .i64 (fl.code:Nat)] 43)=w4 at*
  have e0:w4.cell? ⟨w2.heap.size,0,none⟩=some (.string g2.start):=by simp [World.cell?,hg4]
  have e1:w4.cell? ⟨w2.heap.size,1,none⟩=some (.slice q g2.rules.length c2):=by simp [World.cell?,hg4]
  have e2:w4.cell? ⟨w2.heap.size+1,2,none⟩=some (.int .i64 (fl.code:Nat)):=by simp [World.cell?,hf4]
  clear hg4 hf4
  refine Go.Ev.wp_region_pfe [4] 1 (fun u=>u.cell? ⟨w2.heap.size,0,none⟩=some (.string g2.start)∧u.cell? ⟨w2.heap.size,1,none⟩=some (.slice q g2.rules.length c2)∧u.cell? ⟨w2.heap.size+1,2,none⟩=some (.int .i64 (fl.code:Nat))) hm (by kernel_rfl) (by kernel_rfl) (by kernel_rfl) ⟨e0,e1,e2⟩ ?_
  iterate 6
   first
   | refine Go.Ev.planF_skip (by rfl) ?_
   | (refine Go.Ev.planF_look (by rfl) _ (by rintro u K ⟨f1,f2,f3⟩ hK; go_simp; exact hK _ rfl) ?_; simp only [Act.put,List.setIfInBounds_toArray,List.set_cons_succ,List.set_cons_zero])
  refine Go.Ev.planF_nil ?_
  refine Go.Ev.wpC_step rfl ?_
  rintro _ rfl K hK
  refine wp_store_row 25 _ _ rfl w.heap.size #[.string g2.start,.slice q g2.rules.length c2] rfl rfl 25 _ hr4.out grInfo rfl (by simp [Value.oneCell']) ?_
  have hend:=Hid.mk (setRow_heap w4.drew w.heap.size _ #[.string g2.start,.slice q g2.rules.length c2] _ _ hr4.out)
  have hbl:=Hid.mk (setRow_low (hB4w.out.trans (blw_drewN _ w4 1)) w.heap.size #[.string g2.start,.slice q g2.rules.length c2] (Nat.le_refl _))
  have kq:∀ (k o:Nat),k≠w.heap.size→(w4.drew.setRow w.heap.size #[.string g2.start,.slice q g2.rules.length c2]).cell? ⟨k,o,none⟩=w4.cell? ⟨k,o,none⟩:=fun k o hk=>World.cell?_of_block (a:=⟨k,o,none⟩) (show _=w4.heap[k]? from setRow_other _ _ _ _ hk)
  have hl2:=hlt2.out
  refine hK undef _ (fun _=>⟨(kq _ 0 (by omega)).trans e0,(kq _ 1 (by omega)).trans e1,(kq _ 2 (by omega)).trans e2⟩) ?_
  clear hK K kq hl2
  refine Go.Ev.wpC_end ?_
  rintro _ rfl
  go_wp2_with (fail)
  refine bodyPost_ret (results_ct_row rfl _ _ w.heap.size _ _ _ _ rfl hend.out Tryz.underlying25 rfl grInfo) rfl ?_
  refine ⟨hbl.out,g2,_,_,rfl,?_,hgk.out⟩
  refine hrv4.out.keep (by simp) fun k h1 h2=>⟨setRow_other _ _ _ _ (by omega),by omega⟩
theorem flattenG_bad {g:Gr} {c:Int} (h:flattenG g= .bad c):c≠0:=by
 unfold flattenG at h
 split at h
 ·split at h
  ·cases h; decide
  ·split at h
   ·cases h; decide
   ·split at h
    ·cases h
    ·cases h; decide
 ·rename_i hm
  cases h
  exact hm
set_option maxRecDepth 100000 in
set_option maxHeartbeats 6400000 in
theorem rflat_any (s:ByteArray) (w:World) (hsp:Calls Tryz.prog 4 #[] w fun e w'=>e= .returned (.bool true)∧Below w.heap.size w w') (hE:PowB w.heap.size w)
  (hM:∀ w',Below w.heap.size w w'→∃ m:Int,w'.cell? ⟨0,0,none⟩=some (.int .i64 m)) :
  Calls Tryz.prog 3 #[.string s] w fun e w'=>e= .returned (.bool true)∧Below w.heap.size w w':=by
 have hm:Tryz.prog.follows .mixedOrders=true:=rfl
 have hEk:=Hid.mk (fun (w':World) (hB:Below w.heap.size w w')=>(fun w'' h2=>hE w'' (hB.trans (h2.mono hB.size)):PowB w'.heap.size w'))
 have hMk:=Hid.mk (fun (w':World) (hB:Below w.heap.size w w') (w'':World) (h2:Below w'.heap.size w' w'')=>hM w'' (hB.trans (h2.mono hB.size)))
 have hfl:=Hid.mk (fun (S:Nat→Prop) (w':World) (hB:Below w.heap.size w w') (gr:Gr) (v:Value) (h:RsAt S w' gr.rules v) (hg:GOk gr)=>flatten_any S w' (g:=gr) h hg.nodes hg.short (hEk.out w' hB) (hMk.out w' hB) (fun p hp=>plOk_of hg.few hp) (fun p names hp hn=>SmallG.of (gok_flat hg.few hp hn)))
 have hde:=Hid.mk (fun (S:Nat→Prop) (w':World) (hB:Below w.heap.size w w') (gr:Gr) (v:Value) (h:RsAt S w' gr.rules v) (hg:GOk gr)=>desugar_any S w' (g:=gr) h hg.nodes hg.short (hEk.out w' hB))
 replace hsp:=Hid.mk hsp
 clear hE hM hEk hMk
 go_enter Tryz.func3,Tryz.ntmps3
 go_wp2_with (fail)
 refine hsp.out.mono ?_
 rintro e w1 ⟨rfl,hB1⟩
 replace hB1:=Hid.mk hB1
 clear hsp
 go_wp2_with (fail)
 refine (read_any s w1).mono ?_
 rintro e w2 ⟨hB2,gr,rv,b,rfl,hR2,hgk⟩
 obtain ⟨rp,rc,rfl⟩:=hR2.form
 unfold gramV
 have hB12:=Hid.mk (hB1.out.trans (hB2.mono hB1.out.size))
 replace hR2:=Hid.mk hR2
 replace hgk:=Hid.mk hgk
 clear hB2 hB1
 have ha3:=heap_alloc_new w2 (.cells #[.string gr.start,.slice rp gr.rules.length rc] 25)
 have hb3:Below w2.heap.size w2 (w2.alloc (.cells #[.string gr.start,.slice rp gr.rules.length rc] 25)):=(Below.refl _ w2).alloc (Nat.le_refl _) _
 have hs3:w2.heap.size < (w2.alloc (.cells #[.string gr.start,.slice rp gr.rules.length rc] 25)).heap.size:=by simp
 go_upto_region 4 with (fail)
 generalize w2.alloc (.cells #[.string gr.start,.slice rp gr.rules.length rc] 25)=w3 at*
 have hR3:=Hid.mk (hR2.out.blw hb3)
 have hB3:=Hid.mk (hB12.out.trans (hb3.mono hB12.out.size))
 have d0:w3.cell? ⟨w2.heap.size,0,none⟩=some (.string gr.start):=by simp [World.cell?,ha3]
 have d1:w3.cell? ⟨w2.heap.size,1,none⟩=some (.slice rp gr.rules.length rc):=by simp [World.cell?,ha3]
 replace ha3:=Hid.mk ha3
 replace hs3:=Hid.mk hs3
 clear hb3 hR2
 cases b with
 | false=>
  go_wp2_with (fail)
  go_ret
  exact ⟨rfl,hB3.out⟩
 | true=>
  go_upto_region 6 with (fail)
  go_wp2_with (fail)
  refine (hfl.out _ w3 hB3.out gr _ hR3.out hgk.out).mono ?_
  rintro e w4 hP4
  cases hfg:flattenG gr with
  | bad c=>
   rw [hfg] at hP4
   obtain ⟨hB4,rfl⟩:=hP4
   have hcb:=beq_ne (flattenG_bad hfg)
   have hB4:=Hid.mk (hB3.out.trans (hB4.mono hB3.out.size))
   unfold zeroG
   clear hfg d0 d1
   go_wp2_with (fail)
   go_ret
   exact ⟨rfl,hB4.out.alloc hB4.out.size _⟩
  | ok h=>
   rw [hfg] at hP4
   obtain ⟨hB4,hv,rfl,hR4⟩:=hP4
   have hrok:=hgk.out.few
   obtain ⟨p,q,hp,hq,hl1,hl2,hl3,hl4,hfh⟩:=flat_law hrok hfg
   have hgh:=Hid.mk (flattenG_gok hrok hfg)
   obtain ⟨hvp,hvc,rfl⟩:=hR4.form
   unfold gramV
   have hd4:=(hB4.block _ hs3.out).trans ha3.out
   have hlt4:=Nat.lt_of_lt_of_le hs3.out hB4.size
   have hRg4:=hR3.out.blw hB4
   have hB4w:=hB3.out.trans (hB4.mono hB3.out.size)
   have ha5:=heap_alloc_new w4 (.cells #[.string h.start,.slice hvp h.rules.length hvc] 25)
   have hb5:Below w4.heap.size w4 (w4.alloc (.cells #[.string h.start,.slice hvp h.rules.length hvc] 25)):=(Below.refl _ w4).alloc (Nat.le_refl _) _
   have hs5:w4.heap.size < (w4.alloc (.cells #[.string h.start,.slice hvp h.rules.length hvc] 25)).heap.size:=by simp
   clear d0 d1 hrok
   replace hp:=Hid.mk hp
   replace hq:=Hid.mk hq
   replace hfh:=Hid.mk hfh
   replace hl1:=Hid.mk hl1
   replace hl2:=Hid.mk hl2
   replace hl3:=Hid.mk hl3
   replace hl4:=Hid.mk hl4
   replace hfg:=Hid.mk hfg
   go_upto_region 7 with (fail)
   generalize w4.alloc (.cells #[.string h.start,.slice hvp h.rules.length hvc] 25)=w5 at*
   have hd5:=(hb5.block _ hlt4).trans hd4
   have hRg5:=Hid.mk (hRg4.blw hb5)
   have hRh5:=Hid.mk (hR4.blw hb5)
   have hB5:=Hid.mk (hB4w.trans (hb5.mono hB4w.size))
   have d0:w5.cell? ⟨w2.heap.size,0,none⟩=some (.string gr.start):=by simp [World.cell?,hd5]
   have d1:w5.cell? ⟨w2.heap.size,1,none⟩=some (.slice rp gr.rules.length rc):=by simp [World.cell?,hd5]
   have hlt5:=Hid.mk (Nat.lt_of_lt_of_le hlt4 hb5.size)
   replace hd5:=Hid.mk hd5
   replace ha5:=Hid.mk ha5
   replace hs5:=Hid.mk hs5
   clear hb5 hR4 hRg4 hB4w hd4 hlt4 hB4 hR3 ha3
   go_wp2_with (fail)
   refine (hde.out _ w5 hB5.out gr _ hRg5.out hgk.out).mono ?_
   rintro e w6 hP6
   rw [hp.out] at hP6
   obtain ⟨hB6,vp,rfl,v1,v2,v3,pss,rfl,hn6,ht6,hpl6,hp6,hpi6⟩:=hP6
   obtain ⟨p1,p2,rfl⟩:=ownsRow_form hn6
   obtain ⟨p3,p4,rfl⟩:=ownsRow_form ht6
   obtain ⟨p5,p6,rfl⟩:=ownsRow_form hp6
   have hd6:=(hB6.block _ hlt5.out).trans hd5.out
   have hh6:=(hB6.block _ hs5.out).trans ha5.out
   have hRh6:=hRh5.out.blw hB6
   have hB6w:=hB5.out.trans (hB6.mono hB5.out.size)
   have hle6:w5.heap.size≤w6.heap.size:=hB6.size
   have ha7:=heap_alloc_new w6 (.cells #[.int .i64 (p.start:Nat),.int .i64 (p.rules:Nat),.slice p1 p.names.length p2,.slice p3 p.terms.length p4,.slice p5 p.prods.length p6] 34)
   have hb7:Below w6.heap.size w6 (w6.alloc (.cells #[.int .i64 (p.start:Nat),.int .i64 (p.rules:Nat),.slice p1 p.names.length p2,.slice p3 p.terms.length p4,.slice p5 p.prods.length p6] 34)):=(Below.refl _ w6).alloc (Nat.le_refl _) _
   have hs7:w6.heap.size < (w6.alloc (.cells #[.int .i64 (p.start:Nat),.int .i64 (p.rules:Nat),.slice p1 p.names.length p2,.slice p3 p.terms.length p4,.slice p5 p.prods.length p6] 34)).heap.size:=by simp
   clear d0 d1 hRg5 hRh5
   replace hp6:=Hid.mk hp6
   replace hpl6:=Hid.mk hpl6
   go_upto_region 10 with (fail)
   generalize w6.alloc (.cells #[.int .i64 (p.start:Nat),.int .i64 (p.rules:Nat),.slice p1 p.names.length p2,.slice p3 p.terms.length p4,.slice p5 p.prods.length p6] 34)=w7 at*
   have hlt6:=Nat.lt_of_lt_of_le hs5.out hle6
   have hh7:=(hb7.block _ hlt6).trans hh6
   have hRh7:=Hid.mk (hRh6.blw hb7)
   have hB7:=Hid.mk (hB6w.trans (hb7.mono hB6w.size))
   have hp7:=Hid.mk (ownsRow_sm hp6.out (fun k e=>hb7.block k (hp6.out.lt k e).2))
   have d0:w7.cell? ⟨w4.heap.size,0,none⟩=some (.string h.start):=by simp [World.cell?,hh7]
   have d1:w7.cell? ⟨w4.heap.size,1,none⟩=some (.slice hvp h.rules.length hvc):=by simp [World.cell?,hh7]
   have hlt7:=Hid.mk (Nat.lt_of_lt_of_le hlt6 hb7.size)
   replace hh7:=Hid.mk hh7
   replace ha7:=Hid.mk ha7
   replace hs7:=Hid.mk hs7
   have hpf:=Hid.mk (fun i x s h1 h2=>(hpi6 i x s h1 h2).form)
   clear hb7 hRh6 hB6w hd6 hlt6 hB6 hh6 hle6 hn6 ht6 hpi6
   go_wp2_with (fail)
   refine (hde.out _ w7 hB7.out h _ hRh7.out hgh.out).mono ?_
   rintro e w8 hP8
   rw [hq.out] at hP8
   obtain ⟨hB8,vq,rfl,v1,v2,v3,qss,rfl,hn8,ht8,hql8,hq8,hqi8⟩:=hP8
   obtain ⟨q1,q2,rfl⟩:=ownsRow_form hn8
   obtain ⟨q3,q4,rfl⟩:=ownsRow_form ht8
   obtain ⟨q5,q6,rfl⟩:=ownsRow_form hq8
   have hh8:=(hB8.block _ hlt7.out).trans hh7.out
   have hp8:=ownsRow_sm hp7.out (fun k e=>hB8.block k (hp7.out.lt k e).2)
   have hP8:=(hB8.block _ hs7.out).trans ha7.out
   have hRh8:=hRh7.out.blw hB8
   have hB8w:=hB7.out.trans (hB8.mono hB7.out.size)
   have hle8:w7.heap.size≤w8.heap.size:=hB8.size
   have ha9:=heap_alloc_new w8 (.cells #[.int .i64 (q.start:Nat),.int .i64 (q.rules:Nat),.slice q1 q.names.length q2,.slice q3 q.terms.length q4,.slice q5 q.prods.length q6] 34)
   have hb9:Below w8.heap.size w8 (w8.alloc (.cells #[.int .i64 (q.start:Nat),.int .i64 (q.rules:Nat),.slice q1 q.names.length q2,.slice q3 q.terms.length q4,.slice q5 q.prods.length q6] 34)):=(Below.refl _ w8).alloc (Nat.le_refl _) _
   clear d0 d1 hRh7 hp7
   replace hq8:=Hid.mk hq8
   replace hql8:=Hid.mk hql8
   go_upto_region 11 with (fail)
   generalize w8.alloc (.cells #[.int .i64 (q.start:Nat),.int .i64 (q.rules:Nat),.slice q1 q.names.length q2,.slice q3 q.terms.length q4,.slice q5 q.prods.length q6] 34)=w9 at*
   have hlt8:=Nat.lt_of_lt_of_le hlt7.out hle8
   have hh9:=(hb9.block _ hlt8).trans hh8
   have hP9:=(hb9.block _ (Nat.lt_of_lt_of_le hs7.out hle8)).trans hP8
   have hRh9:=Hid.mk (hRh8.blw hb9)
   have hB9:=Hid.mk (hB8w.trans (hb9.mono hB8w.size))
   have hp9:=Hid.mk (ownsRow_sm hp8 (fun k e=>hb9.block k (hp8.lt k e).2))
   have hq9:=Hid.mk (ownsRow_sm hq8.out (fun k e=>hb9.block k (hq8.out.lt k e).2))
   have d0:w9.cell? ⟨w4.heap.size,0,none⟩=some (.string h.start):=by simp [World.cell?,hh9]
   have d1:w9.cell? ⟨w4.heap.size,1,none⟩=some (.slice hvp p.names.length hvc):=by simp [World.cell?,hh9,hl1.out]
   have f2:w9.cell? ⟨w6.heap.size,2,none⟩=some (.slice p1 p.names.length p2):=by simp [World.cell?,hP9]
   have f4:w9.cell? ⟨w6.heap.size,4,none⟩=some (.slice p5 p.prods.length p6):=by simp [World.cell?,hP9]
   have g2:w9.cell? ⟨w8.heap.size,2,none⟩=some (.slice q1 p.names.length q2):=by simp [World.cell?,ha9,hl2.out]
   have g4:w9.cell? ⟨w8.heap.size,4,none⟩=some (.slice q5 p.prods.length q6):=by simp [World.cell?,ha9,hl3.out]
   have hqf:=Hid.mk (fun i x s h1 h2=>(hqi8 i x s h1 h2).form)
   have hb69:=Hid.mk (show w6.heap.size < w9.heap.size from (Array.getElem?_eq_some_iff.1 hP9).1)
   have hb89:=Hid.mk (show w8.heap.size < w9.heap.size from (Array.getElem?_eq_some_iff.1 ha9).1)
   have hb49:=Hid.mk (show w4.heap.size < w9.heap.size from (Array.getElem?_eq_some_iff.1 hh9).1)
   clear hb9 hRh8 hB8w hlt8 hB8 hh8 hle8 hn8 ht8 hqi8 hh9 hP9 hP8 hp8 ha9
   go_upto_block 0 with (fail)
   replace f4:=Hid.mk f4
   replace g4:=Hid.mk g4
   replace d0:=Hid.mk d0
   replace d1:=Hid.mk d1
   clear f2 g2
   go_cut [] (fun wr=>Below w9.heap.size w9 wr)
   case first=>as_aux_lemma=>
    go_wp2_with (fail)
    go_loopw [11] (fun y wr=>∃ i:Nat,y= .int .i64 (i:Nat)∧i≤p.prods.length∧Below w9.heap.size w9 wr) (fun y _=>p.prods.length - (intOf y).toNat)
    case atStart=>exact ⟨0,rfl,Nat.zero_le _,Below.refl _ _⟩
    case round=>
     obtain ⟨i,rfl,hi,hBr⟩:=hrel
     have c4:wr.cell? ⟨w6.heap.size,4,none⟩=some (.slice p5 p.prods.length p6):=(hBr.cell (by exact hb69.out)).trans f4.out
     have e4:wr.cell? ⟨w8.heap.size,4,none⟩=some (.slice q5 p.prods.length q6):=(hBr.cell (by exact hb89.out)).trans g4.out
     by_cases hlt:i < p.prods.length
     ·have hiI:(i:Int) < (p.prods.length:Int):=by omega
      obtain ⟨x,hx⟩:∃ x,p.prods[i]?=some x:=⟨_,List.getElem?_eq_getElem hlt⟩
      obtain ⟨y,hy⟩:∃ y,q.prods[i]?=some y:=⟨_,List.getElem?_eq_getElem (by rw [hl3.out]; exact hlt)⟩
      obtain ⟨sx,hsx⟩:∃ x,pss[i]?=some x:=⟨_,List.getElem?_eq_getElem (by rw [hpl6.out]; exact hlt)⟩
      obtain ⟨sy,hsy⟩:∃ x,qss[i]?=some x:=⟨_,List.getElem?_eq_getElem (by rw [hql8.out,hl3.out]; exact hlt)⟩
      obtain ⟨hxy1,hxy2⟩:=hl4.out i x y hx hy
      obtain ⟨xp,xc,rfl⟩:=hpf.out i x sx hx hsx
      obtain ⟨yp,yc,rfl⟩:=hqf.out i y sy hy hsy
      have cells:∀ {N n c:Nat} {pp:Option Addr} {l:List Pd} {ss:List Value} {z:Pd} {sz:Value},w9.ownsRow N 39 2 (.slice pp n c) n (gridC prodC l ss)→0 < n→l[i]?=some z→ss[i]?=some sz→
        ∃ gp,pp=some ⟨gp,0,none⟩∧∀ k u,(prodC z sz)[k]?=some u→wr.cell? ⟨gp,i*2+k,none⟩=some u:=fun {N n c pp l ss z sz} ho hn hz hsz=>by
       rcases ho.2 with ⟨_,h0⟩ | ⟨g1,cap,cur,he,hb,hg,h1,h2,h3,h4⟩
       ·omega
       ·injection he with e1 e2 e3
        refine ⟨g1,e1,fun k u hu=> ?_⟩
        have hk2:k < 2:=by have:=(List.getElem?_eq_some_iff.1 hu).1; simpa [prodC] using this
        have:=ho.cells (g:=g1) (by rw [e1]; rfl) (i*2+k) u (by rw [grid_get (f:=prodC) (n:=2) (fun _ _=>rfl) _ _ _ _ _ hz hsz k hk2]; exact hu)
        rw [Addr.add_lit,Nat.zero_add] at this
        rw [hBr.cell (by exact (Array.getElem?_eq_some_iff.1 hg).1)]
        exact this
      obtain ⟨gp,rfl,hcp⟩:=cells hp9.out (by omega) hx hsx
      have hq9':=hq9.out
      rw [hl3.out] at hq9'
      obtain ⟨gq,rfl,hcq⟩:=cells hq9' (by omega) hy hsy
      have p0:=hcp 0 _ rfl
      have p1':=hcp 1 _ rfl
      have q0:=hcq 0 _ rfl
      have q1':=hcq 1 _ rfl
      simp only [Nat.add_zero] at p0 q0
      rw [← hxy1] at q0
      rw [← hxy2] at q1'
      have hwi:=Hid.mk (show wrap64 ((i:Int)+1)=(i:Int)+1 by have:=(plOk_of hgk.out.few hp.out).pl; unfold wrap64; omega)
      replace hBr:=Hid.mk hBr
      clear cells hcp hcq hq9' hx hy hsx hsy hxy1 hxy2
      go_wp2_with (fail)
      refine Go.Ev.wp_region_pfe [] 0 (fun u=>u.cell? ⟨w6.heap.size,4,none⟩=some (.slice (some ⟨gp,0,none⟩) p.prods.length p6)∧u.cell? ⟨w8.heap.size,4,none⟩=some (.slice (some ⟨gq,0,none⟩) p.prods.length q6)∧u.cell? ⟨gp,i*2,none⟩=some (.int .i64 (x.left:Nat))∧u.cell? ⟨gq,i*2,none⟩=some (.int .i64 (x.left:Nat))∧u.cell? ⟨gp,i*2+1,none⟩=some (.slice xp x.right.length xc)∧u.cell? ⟨gq,i*2+1,none⟩=some (.slice yp x.right.length yc)) hm (by kernel_rfl) (by kernel_rfl) (by kernel_rfl) ⟨c4,e4,p0,q0,p1',q1'⟩ ?_
      iterate 30
       (refine Go.Ev.planF_look (by rfl) _ (by rintro u K ⟨f1,f2,f3,f4,f5,f6⟩ hK; go_simp; exact hK _ rfl) ?_; simp only [Act.put,List.setIfInBounds_toArray,List.set_cons_succ,List.set_cons_zero])
      refine Go.Ev.planF_nil ?_
      refine Go.Ev.wpC_end ?_
      rintro _ rfl
      have hB10:=Hid.mk (hBr.out.trans (blw_drewN _ wr 1))
      replace hlt:=Hid.mk hlt
      clear c4 e4 p0 q0 p1' q1'
      go_wp2_with (fail)
      refine ⟨⟨i+1,congrArg (Value.int .i64) hwi.out,hlt.out,hB10.out⟩,?ms⟩
      case ms=>
       have:=hlt.out
       rw [hwi.out]
       simp only [intOf]
       clear hiI
       omega
     ·have hei:i=p.prods.length:=by omega
      subst hei
      have hlI:((p.prods.length:Int) < (p.prods.length:Int))=False:=eq_false (by omega)
      replace hBr:=Hid.mk hBr
      go_wp2_with (fail)
      go_meet
      exact hBr.out
   case rest=>as_aux_lemma=>
    replace hcut:=Hid.mk hcut
    have d0':=(hcut.out.cell (p:=⟨w4.heap.size,0,none⟩) hb49.out).trans d0.out
    have d1':=(hcut.out.cell (p:=⟨w4.heap.size,1,none⟩) hb49.out).trans d1.out
    rw [← hl1.out] at d1'
    have hBc:=Hid.mk (hB9.out.trans (hcut.out.mono hB9.out.size))
    have hRc:=Hid.mk (hRh9.out.blw hcut.out)
    go_wp2_with (fail)
    refine (hfl.out _ _ hBc.out h _ hRc.out hgh.out).mono ?_
    rintro e wd hPd
    rw [hfh.out] at hPd
    obtain ⟨hBd,av,rfl,hRd⟩:=hPd
    obtain ⟨ap,ac,rfl⟩:=hRd.form
    unfold gramV
    have hltc:=Nat.lt_of_lt_of_le hb49.out hcut.out.size
    have z0:=(hBd.cell (p:=⟨w4.heap.size,0,none⟩) hltc).trans d0'
    have z1:=(hBd.cell (p:=⟨w4.heap.size,1,none⟩) hltc).trans d1'
    have hRe:=hRc.out.blw hBd
    have hBdw:=hBc.out.trans (hBd.mono hBc.out.size)
    have hbe:Below wd.heap.size wd (wd.alloc (.cells #[.string h.start,.slice ap h.rules.length ac] 25)):=(Below.refl _ wd).alloc (Nat.le_refl _) _
    have ha:=heap_alloc_new wd (.cells #[.string h.start,.slice ap h.rules.length ac] 25)
    have hltd:=Nat.lt_of_lt_of_le hltc hBd.size
    clear d0' d1'
    go_upto_region 19 with (fail)
    generalize wd.alloc (.cells #[.string h.start,.slice ap h.rules.length ac] 25)=we at*
    have y0:we.cell? ⟨wd.heap.size,0,none⟩=some (.string h.start):=by simp [World.cell?,ha]
    have y1:we.cell? ⟨wd.heap.size,1,none⟩=some (.slice ap h.rules.length ac):=by simp [World.cell?,ha]
    have x0:=(hbe.cell (p:=⟨w4.heap.size,0,none⟩) hltd).trans z0
    have x1:=(hbe.cell (p:=⟨w4.heap.size,1,none⟩) hltd).trans z1
    have hsame:=Hid.mk (sameG_any _ _ we (a:=h) (b:=h) (hRd.blw hbe) (hRe.blw hbe))
    have hBe:=Hid.mk (hBdw.trans (hbe.mono hBdw.size))
    clear z0 z1 hRe hbe ha hltd hltc hBd hRd hBdw
    go_wp2_with (fail)
    refine hsame.out.mono ?_
    rintro e wf ⟨rfl,hBf⟩
    rw [sameG_refl]
    have hBf:=Hid.mk (hBe.out.trans (hBf.mono hBe.out.size))
    go_wp2_with (fail)
    go_ret
    exact ⟨rfl,hBf.out⟩
end Go.Proofs.YtmenpmbgennhoaaGreatDoor

namespace Go.Proofs.YtmenpmbgennhoaaGreatDoor
open Go.Ev Go.RowKit Go.Lib
set_option maxRecDepth 100000 in
theorem cellsU_rows:cellsAs Tryz.prog 5 180 Rows.laid_internal_strconv_uint64pow10=some (Lib.pow10Tab.map fun z=>Value.int .u64 z):=by kernel_rfl
theorem u10_at {w:World} (h:laidMet Tryz.prog laidAll w):TabIs Tryz.prog w "internal/strconv.uint64pow10" .u64 Lib.pow10Tab:=by
 obtain ⟨g',t',cs,fuel,p,h1,h2,h3,h4⟩:=Lib.laidMet.reads h (n:= "internal/strconv.uint64pow10") (d:=Rows.laid_internal_strconv_uint64pow10) (by simp [laidAll])
 obtain rfl:=Option.some.inj ((show Tryz.prog.globalNamed "internal/strconv.uint64pow10" = some 1 by kernel_rfl).symm.trans h1)
 obtain rfl:=Option.some.inj ((show (Tryz.prog.globals[1]?).map (·.type)=some 180 by kernel_rfl).symm.trans h2)
 have h5:=cells_of_trod 5 fuel _ cs.toList _ _ h4 cellsU_rows
 unfold TabIs
 rw [h3,← h5]
theorem flats_any (s:ByteArray) (w:World) (hL:laidMet Tryz.prog laidAll w) (hsh:w.ShapedOpen Tryz.prog) :
  Calls Tryz.prog 3 #[.string s] w fun e w'=>e= .returned (.bool true)∧Below w.heap.size w w':=by
 obtain ⟨m,hm⟩:=Go.Proofs.cell_of_shapedOpen_int (zero:=#[.int .i64 0]) (t:=3) (g:=0) hsh (of_decide_eq_true (by kernel_rfl)) (by kernel_rfl) rfl (by kernel_rfl) (by kernel_rfl) Tryz.underlying3
 exact rflat_any s w (speaks_any hL) (tabBelow_of_tabIs (u10_at hL)) fun w' hB=>⟨m,(hB.cell (p:=⟨0,0,none⟩) (block_of_cell hm)).trans hm⟩
#print axioms flats_any
end Go.Proofs.YtmenpmbgennhoaaGreatDoor
