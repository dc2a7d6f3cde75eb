/- What a replica hears: of the first message nothing. Receive of what has no effect, and of the first message. Printed by genri.py. Receive of the first message. Printed by genrj.py. send. Printed by genrk.py. others; counting; the log's own word. The log's own word. Printed by genrm.py. The change to a view begins. Printed by genrn.py. A replica's own word for the next view. Printed by genro.py. A vote received. Printed by genrq.py. -/
import Derived.Test.YtniamhbcmcgonaaGreatDoorRpe
import Derived.Deep.AppendLies
import Derived.Laws.Tables
namespace Go.Proofs.YtniamhbcmcgonaaGreatDoor
open Go.RowKit Go.Ev
section
variable {B R KB A V M N:Nat} {st vw k2:Int} {mach:Value} {moved:Bool} {vt ms:Array Value} {out:Value} {w:World}
set_option maxRecDepth 100000 in
set_option maxHeartbeats 6400000 in
theorem ack_new (h:Rep B R KB A V M N 1 0 k2 mach moved vt ms out w) (k:Int) (vk ve:Value):Calls Tryz.prog 44 #[.pointer (some ⟨R,0,none⟩),.agg (msC (mv 3 0 0 0 0 k 0) vk ve)] w fun e w'=>
  e= .returned (.tuple #[])∧Below w.heap.size w w':=by
 have hm:Tryz.prog.follows .mixedOrders=true:=by kernel_rfl
 have hH:=Hid.mk h
 clear h
 unfold msC mv
 simp only
 go_enter Tryz.func44,Tryz.ntmps44
 go_upto_region 0 with fail
 go_cut [1,3] (fun _ y wr=>y= .pointer (some ⟨w.heap.size,0,none⟩)∧Below w.heap.size w wr)
 case first=>as_aux_lemma=>
  go_wp2_with (fail)
  go_meet
  exact ⟨rfl,(Below.refl _ w).alloc (Nat.le_refl _) _⟩
 case rest=>
  obtain ⟨rfl,hB⟩:=hcut
  rename World=>w1
  have hR1:=Hid.mk (hH.out.below hB)
  have hB1:=Hid.mk hB
  clear hB
  go_wp2_with (fail)
  refine Go.Ev.wp_region_planE (fun v=>Below w1.heap.size w1 v) hm (by kernel_rfl) (by kernel_rfl) (Below.refl _ w1).drew ?_
  refine Go.Ev.planE_cons _ (by rintro v K hv hK; replace hv:=Hid.mk hv; go_simp; exact hK _ hv.out) ?_
  simp only [Act.put,List.setIfInBounds_toArray,List.set_cons_succ,List.set_cons_zero]
  refine Go.Ev.planE_cons (.bool false) (by
   rintro v K hv hK
   have hvH:=Hid.mk hv
   have hl:=leads0 (hR1.out.below hv)
   clear hv
   go_simp
   go_at_call 36
   refine hl.mono ?_
   rintro e wz ⟨rfl,hBz,_⟩
   exact hK _ (hvH.out.trans (hBz.mono hvH.out.size))) ?_
  simp only [Act.put,List.setIfInBounds_toArray,List.set_cons_succ,List.set_cons_zero]
  iterate 20
   refine Go.Ev.planE_cons _ (by rintro v K hv hK; replace hv:=Hid.mk hv; go_simp; exact hK _ hv.out) ?_
   simp only [Act.put,List.setIfInBounds_toArray,List.set_cons_succ,List.set_cons_zero]
  rintro w2 hv
  replace hv:=Hid.mk hv
  go_wp2_with (fail)
  refine bodyPost_ret (results_none rfl _ _ _) rfl ⟨rfl,hB1.out.trans (hv.out.mono hB1.out.size)⟩
set_option maxRecDepth 100000 in
set_option maxHeartbeats 6400000 in
theorem hear_new (h:Rep B R KB A V M N 1 0 k2 mach moved vt ms out w) (k:Int) (ka:Option Addr) (na kc:Nat) (ea:Option Addr) (ne ec:Nat):Calls Tryz.prog 18 #[.pointer (some ⟨R,0,none⟩),.agg (msC (mv 3 0 0 0 0 k 0) (.slice ka na kc) (.slice ea ne ec))] w fun e w'=>
  e= .returned (.tuple #[])∧Below w.heap.size w w':=by
 have hH:=Hid.mk h
 clear h
 unfold msC mv
 simp only
 go_enter Tryz.func18,Tryz.ntmps18
 go_upto_region 0 with fail
 go_cut [1,3] (fun _ y wr=>y= .pointer (some ⟨w.heap.size,0,none⟩)∧wr.heap[w.heap.size]?=some (.cells (msC (mv 3 0 0 0 0 k 0) (.slice ka na kc) (.slice ea ne ec)) 35 (0,0))∧Below w.heap.size w wr)
 case first=>as_aux_lemma=>
  go_wp2_with (fail)
  go_meet
  exact ⟨rfl,heap_alloc_new _ _,(Below.refl _ w).alloc (Nat.le_refl _) _⟩
 case rest=>
  obtain ⟨rfl,hS,hB⟩:=hcut
  rename World=>w1
  have hR1:=Hid.mk (hH.out.below hB)
  have hB1:=Hid.mk hB
  have c2:=hR1.out.cs.c2
  have d0:w1.cell? ⟨w.heap.size,0,none⟩=some (.int .i64 3):=(cell_of_row _ _ _ _ _ _ hS).trans rfl
  have hak:=ack_new hR1.out k (.slice ka na kc) (.slice ea ne ec)
  unfold msC mv at hak hS
  simp only at hak hS
  have hSH:=Hid.mk hS
  have hakH:=Hid.mk hak
  clear hS hB hak
  go_wp2_with (first | (refine wpList_load_row rfl 35 _ rfl w.heap.size rfl _ _ _ _ hSH.out Tryz.underlying35 rfl (msInfo.trans rfl) ?_) | (go_at_call 44; refine hakH.out.mono ?_; rintro e wz ⟨rfl,hBz⟩; replace hBz:=Hid.mk hBz))
  go_end0
  exact ⟨rfl,hB1.out.trans (hBz.out.mono hB1.out.size)⟩
end
end Go.Proofs.YtniamhbcmcgonaaGreatDoor
namespace Go.Proofs.YtniamhbcmcgonaaGreatDoor
open Go.RowKit Go.Ev
section
variable {B R KB A V M N:Nat} {st vw k2:Int} {mach:Value} {moved:Bool} {vt ms:Array Value} {w:World}
set_option maxRecDepth 100000 in
set_option maxHeartbeats 6400000 in
theorem receive_err (h:Rep B R KB A V M N st vw k2 mach moved vt ms nilO w) (hh:HalvesAt w) (f:Str) (hf:f.length≤1000000) (hg:(getM f).2≠0):Calls Tryz.prog 7 #[.pointer (some ⟨R,0,none⟩),.string (bs f)] w fun e w'=>e= .returned nilO∧Below w.heap.size w w':=by
 have hm:Tryz.prog.follows .mixedOrders=true:=by kernel_rfl
 have hH:=Hid.mk h
 have hget:=Hid.mk (mget_any f hf w hh)
 have hgm:=Hid.mk hg
 have c11:=h.cs.c11
 clear h hh hf hg
 go_enter Tryz.func7,Tryz.ntmps7
 go_upto_region 3 with fail
 go_cut [6] (fun y wr=>(∃ e:Nat,y= .int .i64 (e:Nat)∧e≠0)∧Below w.heap.size w wr)
 case first=>as_aux_lemma=>
  go_wp2_with (fail)
  go_at_call 9
  refine hget.out.mono ?_
  rintro e wz ⟨vk,a,cap,rfl,hiv,hown,hB⟩
  obtain ⟨ka,kn,kc,rfl⟩:∃ a n c,vk= .slice a n c:=by
   obtain ⟨a,c,h,_⟩:=hiv.at
   exact ⟨a,_,c,h⟩
  have hBH:=Hid.mk hB
  have hcl:=Hid.mk (heap_alloc_new wz (.cells (msC msZ nilS nilS) 35))
  clear hiv hown hB hget
  obtain ⟨m,hme⟩:∃ m,(getM f).1=m:=⟨_,rfl⟩
  obtain ⟨en,hen⟩:∃ en,(getM f).2=en:=⟨_,rfl⟩
  rw [hme,hen]
  rw [hen] at hgm
  clear hme hen
  unfold msC
  go_wp2_with (first | (refine wpList_store_row rfl 35 _ _ rfl wz.heap.size (msC m (.slice ka kn kc) (.slice a m.ents.length cap)) rfl rfl 35 _ hcl.out (msInfo.trans rfl) rfl (one_msC _ _ _ _ _ _ _) ?_))
  go_meet
  have hBa:Below wz.heap.size wz ((wz.alloc (.cells (msC msZ nilS nilS) 35)).setRow wz.heap.size (msC m (.slice ka kn kc) (.slice a m.ents.length cap))):=setRow_low ((Below.refl _ wz).alloc (Nat.le_refl _) _) _ _ (Nat.le_refl _)
  exact ⟨⟨en,rfl,hgm.out⟩,hBH.out.trans (hBa.mono hBH.out.size)⟩
 case rest=>
  clear hget c11 hH hgm
  obtain ⟨⟨en,rfl,h0⟩,hB⟩:=hcut
  rename World=>w2
  have e1:(((en:Nat):Int) !=0)=true:=by simp; omega
  have hBH:=Hid.mk hB
  clear h0 hB
  go_wp2_with (fail)
  go_ret
  exact ⟨rfl,hBH.out⟩
set_option maxRecDepth 100000 in
set_option maxHeartbeats 6400000 in
theorem receive_own (h:Rep B R KB A V M N st vw k2 mach moved vt ms nilO w) (hh:HalvesAt w) (f:Str) (hf:f.length≤1000000) (v:Int) (hg:getM f=(mv 6 1 0 0 0 0 v,0)):Calls Tryz.prog 7 #[.pointer (some ⟨R,0,none⟩),.string (bs f)] w fun e w'=>e= .returned nilO∧Rep B R KB A V M N st vw k2 mach moved vt ms nilO w'∧Kx (fun i=>i=R) w w':=by
 have hm:Tryz.prog.follows .mixedOrders=true:=by kernel_rfl
 have hH:=Hid.mk h
 have hget:=Hid.mk (mget_any f hf w hh)
 have hgm:=Hid.mk hg
 have c11:=h.cs.c11
 clear h hh hf hg
 go_enter Tryz.func7,Tryz.ntmps7
 go_upto_region 3 with fail
 go_cut [5,6] (fun x y wr=>y= .int .i64 0∧∃ S ka kc ea ec,x= .pointer (some ⟨S,0,none⟩)∧w.heap.size≤S∧wr.heap[S]?=some (.cells (msC (mv 6 1 0 0 0 0 v) (.slice ka 3 kc) (.slice ea 0 ec)) 35 (0,0))∧IntsV wr (.slice ka 3 kc) [0,0,0]∧Below w.heap.size w wr)
 case first=>as_aux_lemma=>
  go_wp2_with (fail)
  go_at_call 9
  refine hget.out.mono ?_
  rintro e wz ⟨vk,a,cap,he,hiv,hown,hB⟩
  rw [hgm.out] at he hiv hown
  obtain ⟨ka,kc,rfl⟩:∃ a c,vk= .slice a 3 c:=by
   obtain ⟨a,c,h,_⟩:=hiv.at
   exact ⟨a,c,h⟩
  subst he
  have hivH:=Hid.mk hiv
  have hBH:=Hid.mk hB
  have hcl:=Hid.mk (heap_alloc_new wz (.cells (msC msZ nilS nilS) 35))
  clear hiv hown hB hget
  unfold msC mv
  simp only
  go_wp2_with (first | (refine wpList_store_row rfl 35 _ _ rfl wz.heap.size (msC (mv 6 1 0 0 0 0 v) (.slice ka 3 kc) (.slice a 0 cap)) rfl rfl 35 _ hcl.out (msInfo.trans rfl) rfl (one_msC _ _ _ _ _ _ _) ?_))
  go_meet
  have hr:=setRow_heap (wz.alloc (.cells (msC msZ nilS nilS) 35)) wz.heap.size _ (msC (mv 6 1 0 0 0 0 v) (.slice ka 3 kc) (.slice a 0 cap)) 35 _ hcl.out
  have hBa:Below wz.heap.size wz ((wz.alloc (.cells (msC msZ nilS nilS) 35)).setRow wz.heap.size (msC (mv 6 1 0 0 0 0 v) (.slice ka 3 kc) (.slice a 0 cap))):=setRow_low ((Below.refl _ wz).alloc (Nat.le_refl _) _) _ _ (Nat.le_refl _)
  exact ⟨rfl,wz.heap.size,ka,kc,a,cap,rfl,hBH.out.size,hr,hivH.out.below hBa,hBH.out.trans (hBa.mono hBH.out.size)⟩
 case rest=>
  clear hget c11
  obtain ⟨rfl,S,ka,kc,ea,ec,rfl,hSl,hS,hiv,hB⟩:=hcut
  rename World=>w2
  have hR2:=Hid.mk (hH.out.below hB)
  have hB2:=Hid.mk hB
  have hv2:=Hid.mk hiv
  have hSz:=Hid.mk (Array.getElem?_eq_some_iff.1 hS).1
  have hSlH:=Hid.mk hSl
  have hS2:=Hid.mk hS
  have d0:w2.cell? ⟨S,0,none⟩=some (.int .i64 6):=(cell_of_row _ _ _ _ _ _ hS).trans rfl
  have d1:w2.drew.cell? ⟨S,1,none⟩=some (.int .i64 1):=(cell_of_row w2 _ _ _ _ _ hS).trans rfl
  have c0:w2.drew.cell? ⟨R,0,none⟩=some (.int .i64 1):=hR2.out.cs.c0
  clear hSl hS hiv hB
  go_wp2_with (fail)
  refine Go.Ev.wp_region_planE (fun v=>v=w2.drew) hm (by kernel_rfl) (by kernel_rfl) rfl ?_
  iterate 13
   refine Go.Ev.planE_cons _ (by rintro v K rfl hK; go_simp; exact hK _ rfl) ?_
   simp only [Act.put,List.setIfInBounds_toArray,List.set_cons_succ,List.set_cons_zero]
  rintro w3 rfl
  have hR3:=hR2.out.below (Below.refl _ w2).drew
  have hB3:=Hid.mk (show Below w.heap.size w w2.drew from hB2.out.drew)
  clear d0 d1 c0
  have hfl:=Hid.mk (flush_any hR3)
  clear hR3
  go_wp2_with (first | (go_at_call 19; refine hfl.out.mono ?_; rintro e wz ⟨rfl,hRz,hkz⟩; replace hRz:=Hid.mk hRz; replace hkz:=Hid.mk hkz))
  go_ret
  exact ⟨rfl,hRz.out,(Kx.of hB3.out).trans hkz.out⟩
set_option maxRecDepth 100000 in
set_option maxHeartbeats 6400000 in
theorem receive_old (h:Rep B R KB A V M N st vw k2 mach moved vt ms nilO w) (hh:HalvesAt w) (f:Str) (hf:f.length≤1000000) (n v:Int) (hn:n < k2) (hg:getM f=(mv 6 2 n 0 0 0 v,0)):Calls Tryz.prog 7 #[.pointer (some ⟨R,0,none⟩),.string (bs f)] w fun e w'=>e= .returned nilO∧Rep B R KB A V M N st vw k2 mach moved vt ms nilO w'∧Kx (fun i=>i=R) w w':=by
 have hm:Tryz.prog.follows .mixedOrders=true:=by kernel_rfl
 have hH:=Hid.mk h
 have hget:=Hid.mk (mget_any f hf w hh)
 have hgm:=Hid.mk hg
 have c11:=h.cs.c11
 clear h hh hf hg
 go_enter Tryz.func7,Tryz.ntmps7
 go_upto_region 3 with fail
 go_cut [5,6] (fun x y wr=>y= .int .i64 0∧∃ S ka kc ea ec,x= .pointer (some ⟨S,0,none⟩)∧w.heap.size≤S∧wr.heap[S]?=some (.cells (msC (mv 6 2 n 0 0 0 v) (.slice ka 3 kc) (.slice ea 0 ec)) 35 (0,0))∧IntsV wr (.slice ka 3 kc) [0,0,0]∧Below w.heap.size w wr)
 case first=>as_aux_lemma=>
  go_wp2_with (fail)
  go_at_call 9
  refine hget.out.mono ?_
  rintro e wz ⟨vk,a,cap,he,hiv,hown,hB⟩
  rw [hgm.out] at he hiv hown
  obtain ⟨ka,kc,rfl⟩:∃ a c,vk= .slice a 3 c:=by
   obtain ⟨a,c,h,_⟩:=hiv.at
   exact ⟨a,c,h⟩
  subst he
  have hivH:=Hid.mk hiv
  have hBH:=Hid.mk hB
  have hcl:=Hid.mk (heap_alloc_new wz (.cells (msC msZ nilS nilS) 35))
  clear hiv hown hB hget
  unfold msC mv
  simp only
  go_wp2_with (first | (refine wpList_store_row rfl 35 _ _ rfl wz.heap.size (msC (mv 6 2 n 0 0 0 v) (.slice ka 3 kc) (.slice a 0 cap)) rfl rfl 35 _ hcl.out (msInfo.trans rfl) rfl (one_msC _ _ _ _ _ _ _) ?_))
  go_meet
  have hr:=setRow_heap (wz.alloc (.cells (msC msZ nilS nilS) 35)) wz.heap.size _ (msC (mv 6 2 n 0 0 0 v) (.slice ka 3 kc) (.slice a 0 cap)) 35 _ hcl.out
  have hBa:Below wz.heap.size wz ((wz.alloc (.cells (msC msZ nilS nilS) 35)).setRow wz.heap.size (msC (mv 6 2 n 0 0 0 v) (.slice ka 3 kc) (.slice a 0 cap))):=setRow_low ((Below.refl _ wz).alloc (Nat.le_refl _) _) _ _ (Nat.le_refl _)
  exact ⟨rfl,wz.heap.size,ka,kc,a,cap,rfl,hBH.out.size,hr,hivH.out.below hBa,hBH.out.trans (hBa.mono hBH.out.size)⟩
 case rest=>
  clear hget c11
  obtain ⟨rfl,S,ka,kc,ea,ec,rfl,hSl,hS,hiv,hB⟩:=hcut
  rename World=>w2
  have hR2:=Hid.mk (hH.out.below hB)
  have hB2:=Hid.mk hB
  have hv2:=Hid.mk hiv
  have hSz:=Hid.mk (Array.getElem?_eq_some_iff.1 hS).1
  have hSlH:=Hid.mk hSl
  have hS2:=Hid.mk hS
  have d0:w2.cell? ⟨S,0,none⟩=some (.int .i64 6):=(cell_of_row _ _ _ _ _ _ hS).trans rfl
  have hSu:=hS
  unfold msC mv at hSu
  simp only at hSu
  replace hSu:=Hid.mk hSu
  clear hSl hS hiv hB
  go_wp2_with (fail)
  refine Go.Ev.wp_region_planE (fun v=>Rep B R KB A V M N st vw k2 mach moved vt ms nilO v∧Below w2.heap.size w2 v) hm (by kernel_rfl) (by kernel_rfl) ⟨hR2.out.below (Below.refl _ w2).drew,(Below.refl _ w2).drew⟩ ?_
  refine Go.Ev.planE_cons _ (by rintro v K hv hK; replace hv:=Hid.mk hv; go_simp; exact hK _ hv.out) ?_
  simp only [Act.put,List.setIfInBounds_toArray,List.set_cons_succ,List.set_cons_zero]
  refine Go.Ev.planE_cons _ (by rintro v K hv hK; replace hv:=Hid.mk hv; have d1:v.cell? ⟨S,1,none⟩=some (.int .i64 2):=(hv.out.2.cell hSz.out).trans ((cell_of_row _ _ 1 _ _ _ hS2.out).trans rfl); go_simp; exact hK _ hv.out) ?_
  simp only [Act.put,List.setIfInBounds_toArray,List.set_cons_succ,List.set_cons_zero]
  refine Go.Ev.planE_cons _ (by rintro v K hv hK; replace hv:=Hid.mk hv; go_simp; exact hK _ hv.out) ?_
  simp only [Act.put,List.setIfInBounds_toArray,List.set_cons_succ,List.set_cons_zero]
  refine Go.Ev.planE_cons _ (by rintro v K hv hK; replace hv:=Hid.mk hv; go_simp; exact hK _ hv.out) ?_
  simp only [Act.put,List.setIfInBounds_toArray,List.set_cons_succ,List.set_cons_zero]
  refine Go.Ev.planE_cons _ (by rintro v K hv hK; replace hv:=Hid.mk hv; go_simp; exact hK _ hv.out) ?_
  simp only [Act.put,List.setIfInBounds_toArray,List.set_cons_succ,List.set_cons_zero]
  refine Go.Ev.planE_cons _ (by rintro v K hv hK; replace hv:=Hid.mk hv; have c0:=hv.out.1.cs.c0; go_simp; exact hK _ hv.out) ?_
  simp only [Act.put,List.setIfInBounds_toArray,List.set_cons_succ,List.set_cons_zero]
  refine Go.Ev.planE_cons _ (by rintro v K hv hK; replace hv:=Hid.mk hv; go_simp; exact hK _ hv.out) ?_
  simp only [Act.put,List.setIfInBounds_toArray,List.set_cons_succ,List.set_cons_zero]
  refine Go.Ev.planE_cons _ (by rintro v K hv hK; replace hv:=Hid.mk hv; go_simp; exact hK _ hv.out) ?_
  simp only [Act.put,List.setIfInBounds_toArray,List.set_cons_succ,List.set_cons_zero]
  refine Go.Ev.planE_cons _ (by rintro v K hv hK; replace hv:=Hid.mk hv; go_simp; exact hK _ hv.out) ?_
  simp only [Act.put,List.setIfInBounds_toArray,List.set_cons_succ,List.set_cons_zero]
  refine Go.Ev.planE_cons _ (by rintro v K hv hK; replace hv:=Hid.mk hv; refine ite_of rfl ?_; refine wp_load_row 35 _ rfl S rfl _ _ _ _ ((hv.out.2.block S hSz.out).trans hSu.out) Tryz.underlying35 rfl (msInfo.trans rfl) ?_; exact hK _ hv.out) ?_
  simp only [Act.put,List.setIfInBounds_toArray,List.set_cons_succ,List.set_cons_zero]
  refine Go.Ev.planE_cons (.bool false) (by
   rintro u K hv hK
   have hvH:=Hid.mk hv
   have hl:=learn_old hv.1 n v hn (.slice ka 3 kc) (.slice ea 0 ec)
   unfold msC mv at hl
   simp only at hl
   have hlH:=Hid.mk hl
   clear hv hl
   go_simp
   go_at_call 17
   refine hlH.out.mono ?_
   rintro e wz ⟨rfl,hBz⟩
   exact hK _ ⟨hvH.out.1.below hBz,hvH.out.2.trans (hBz.mono hvH.out.2.size)⟩) ?_
  simp only [Act.put,List.setIfInBounds_toArray,List.set_cons_succ,List.set_cons_zero]
  refine Go.Ev.planE_cons _ (by rintro v K hv hK; replace hv:=Hid.mk hv; go_simp; exact hK _ hv.out) ?_
  simp only [Act.put,List.setIfInBounds_toArray,List.set_cons_succ,List.set_cons_zero]
  refine Go.Ev.planE_cons _ (by rintro v K hv hK; replace hv:=Hid.mk hv; go_simp; exact hK _ hv.out) ?_
  simp only [Act.put,List.setIfInBounds_toArray,List.set_cons_succ,List.set_cons_zero]
  rintro w3 hv
  have hR3:=hv.1
  have hB3:=Hid.mk (show Below w.heap.size w w3 from hB2.out.trans (hv.2.mono hB2.out.size))
  clear d0 hv
  have hfl:=Hid.mk (flush_any hR3)
  clear hR3
  go_wp2_with (first | (go_at_call 19; refine hfl.out.mono ?_; rintro e wz ⟨rfl,hRz,hkz⟩; replace hRz:=Hid.mk hRz; replace hkz:=Hid.mk hkz))
  go_ret
  exact ⟨rfl,hRz.out,(Kx.of hB3.out).trans hkz.out⟩
end
end Go.Proofs.YtniamhbcmcgonaaGreatDoor
namespace Go.Proofs.YtniamhbcmcgonaaGreatDoor
open Go.RowKit Go.Ev
theorem Kx.weak {S T:Nat→Prop} {w w':World} (h:Kx S w w') (ht:∀ i,S i→T i):Kx T w w':=⟨h.os,h.tape,h.output,h.size,fun i hi hn=>h.block i hi (fun hs=>hn (ht i hs))⟩
section
variable {B R KB A V M N:Nat} {st vw k2:Int} {mach:Value} {moved:Bool} {vt ms:Array Value} {w:World}
set_option maxRecDepth 100000 in
set_option maxHeartbeats 6400000 in
theorem receive_new (h:Rep B R KB A V M N 1 0 0 mach moved fls3 nil3 nilO w) (hh:HalvesAt w) (f:Str) (hf:f.length≤1000000) (k:Int) (hk1:1≤k) (hg:getM f=(mv 3 0 0 0 0 k 0,0)):Calls Tryz.prog 7 #[.pointer (some ⟨R,0,none⟩),.string (bs f)] w fun e w'=>e= .returned nilO∧Rep B R KB A V M N 1 0 k mach moved fls3 nil3 nilO w'∧Kx (fun i=>i=R∨SS KB A V M N i) w w':=by
 have hm:Tryz.prog.follows .mixedOrders=true:=by kernel_rfl
 have hH:=Hid.mk h
 have hget:=Hid.mk (mget_any f hf w hh)
 have hgm:=Hid.mk hg
 have c11:=h.cs.c11
 clear h hh hf hg
 go_enter Tryz.func7,Tryz.ntmps7
 go_upto_region 3 with fail
 go_cut [5,6] (fun x y wr=>y= .int .i64 0∧∃ S ka kc ea ec,x= .pointer (some ⟨S,0,none⟩)∧w.heap.size≤S∧wr.heap[S]?=some (.cells (msC (mv 3 0 0 0 0 k 0) (.slice ka 3 kc) (.slice ea 0 ec)) 35 (0,0))∧IntsV wr (.slice ka 3 kc) [0,0,k]∧Below w.heap.size w wr)
 case first=>as_aux_lemma=>
  go_wp2_with (fail)
  go_at_call 9
  refine hget.out.mono ?_
  rintro e wz ⟨vk,a,cap,he,hiv,hown,hB⟩
  rw [hgm.out] at he hiv hown
  obtain ⟨ka,kc,rfl⟩:∃ a c,vk= .slice a 3 c:=by
   obtain ⟨a,c,h,_⟩:=hiv.at
   exact ⟨a,c,h⟩
  subst he
  have hivH:=Hid.mk hiv
  have hBH:=Hid.mk hB
  have hcl:=Hid.mk (heap_alloc_new wz (.cells (msC msZ nilS nilS) 35))
  clear hiv hown hB hget
  unfold msC mv
  simp only
  go_wp2_with (first | (refine wpList_store_row rfl 35 _ _ rfl wz.heap.size (msC (mv 3 0 0 0 0 k 0) (.slice ka 3 kc) (.slice a 0 cap)) rfl rfl 35 _ hcl.out (msInfo.trans rfl) rfl (one_msC _ _ _ _ _ _ _) ?_))
  go_meet
  have hr:=setRow_heap (wz.alloc (.cells (msC msZ nilS nilS) 35)) wz.heap.size _ (msC (mv 3 0 0 0 0 k 0) (.slice ka 3 kc) (.slice a 0 cap)) 35 _ hcl.out
  have hBa:Below wz.heap.size wz ((wz.alloc (.cells (msC msZ nilS nilS) 35)).setRow wz.heap.size (msC (mv 3 0 0 0 0 k 0) (.slice ka 3 kc) (.slice a 0 cap))):=setRow_low ((Below.refl _ wz).alloc (Nat.le_refl _) _) _ _ (Nat.le_refl _)
  exact ⟨rfl,wz.heap.size,ka,kc,a,cap,rfl,hBH.out.size,hr,hivH.out.below hBa,hBH.out.trans (hBa.mono hBH.out.size)⟩
 case rest=>
  clear hget c11
  obtain ⟨rfl,S,ka,kc,ea,ec,rfl,hSl,hS,hiv,hB⟩:=hcut
  rename World=>w2
  have hR2:=Hid.mk (hH.out.below hB)
  have hB2:=Hid.mk hB
  have hv2:=Hid.mk hiv
  have hSz:=Hid.mk (Array.getElem?_eq_some_iff.1 hS).1
  have hSlH:=Hid.mk hSl
  have hS2:=Hid.mk hS
  have d0:w2.cell? ⟨S,0,none⟩=some (.int .i64 3):=(cell_of_row _ _ _ _ _ _ hS).trans rfl
  have hSu:=hS
  unfold msC mv at hSu
  simp only at hSu
  replace hSu:=Hid.mk hSu
  clear hSl hS hiv hB
  go_upto_region 8 with fail
  go_cut [29] (fun y wr=>y= .bool true∧Rep B R KB A V M N 1 0 k mach moved fls3 nil3 nilO wr∧Kx (SS KB A V M N) w2 wr)
  case first=>as_aux_lemma=>
   obtain ⟨Pp,hPp⟩:∃ P:List Value→World→Prop,P=fun l v=>match l with | []=>Rep B R KB A V M N 1 0 0 mach moved fls3 nil3 nilO v∧Below w2.heap.size w2 v | x::_=>x= .bool true∧Rep B R KB A V M N 1 0 k mach moved fls3 nil3 nilO v∧Kx (SS KB A V M N) w2 v:=⟨_,rfl⟩
   have hP0:∀ v,Pp [] v↔Rep B R KB A V M N 1 0 0 mach moved fls3 nil3 nilO v∧Below w2.heap.size w2 v:=fun v=>by rw [hPp]
   have hP1:∀ x v,Pp [x] v↔x= .bool true∧Rep B R KB A V M N 1 0 k mach moved fls3 nil3 nilO v∧Kx (SS KB A V M N) w2 v:=fun x v=>by rw [hPp]
   clear hPp
   have hS0:=EC.start [10] (fun i=>match i with | 0=> .pointer (some ⟨S,1,none⟩) | 1=> .int .i64 0 | 4=> .pointer (some ⟨R,0,none⟩) | 5=> .int .i64 1 | 6=> .bool true | 7=> .bool true | 9=> .agg (msC (mv 3 0 0 0 0 k 0) (.slice ka 3 kc) (.slice ea 0 ec)) | 11=> .bool true | 12=> .bool true | _=> .pointer (some ⟨R,0,none⟩)) (P:=Pp) (W:=w2.drew) ((hP0 _).mpr ⟨hR2.out.below (Below.refl _ w2).drew,(Below.refl _ w2).drew⟩)
   go_wp2_with (fail)
   refine Go.Ev.wp_region_inv _ hm (by kernel_rfl) (by kernel_rfl) hS0 ?_
   refine ⟨fun D vs wq K hQ hd hdep hcl hK=> ?_,?_⟩
   ·go_simp
    exact hK _ _ (hQ.pure (by decide) rfl)
   simp only [Act.put,List.setIfInBounds_toArray,List.set_cons_succ,List.set_cons_zero,Nat.reduceAdd]
   refine ⟨fun D vs wq K hQ hd hdep hcl hK=> ?_,?_⟩
   ·have e0:=hQ.vals 0 (depB hdep 0 (by kernel_rfl)) (by decide)
    simp only at e0
    have hq:=(hP0 _).mp (hQ.at 0 (by decide) (.inl rfl) (.inr (closedF hcl 10 7 (by kernel_rfl) (closedF hcl 7 6 (by kernel_rfl) (closedF hcl 6 1 (by kernel_rfl) hd)))))
    have d1:wq.cell? ⟨S,1,none⟩=some (.int .i64 0):=(hq.2.cell hSz.out).trans ((cell_of_row _ _ 1 _ _ _ hS2.out).trans rfl)
    clear hq
    simp only [e0] at hK ⊢
    go_simp
    exact hK _ _ (hQ.pure (by decide) rfl)
   simp only [Act.put,List.setIfInBounds_toArray,List.set_cons_succ,List.set_cons_zero,Nat.reduceAdd]
   refine ⟨fun D vs wq K hQ hd hdep hcl hK=> ?_,?_⟩
   ·go_simp
    exact hK _ _ (hQ.pure (by decide) rfl)
   simp only [Act.put,List.setIfInBounds_toArray,List.set_cons_succ,List.set_cons_zero,Nat.reduceAdd]
   refine ⟨fun D vs wq K hQ hd hdep hcl hK=> ?_,?_⟩
   ·have e2:=hQ.vals 2 (depB hdep 2 (by kernel_rfl)) (by decide)
    simp only at e2
    simp only [e2] at hK ⊢
    go_simp
    exact hK _ _ (hQ.pure (by decide) rfl)
   simp only [Act.put,List.setIfInBounds_toArray,List.set_cons_succ,List.set_cons_zero,Nat.reduceAdd]
   refine ⟨fun D vs wq K hQ hd hdep hcl hK=> ?_,?_⟩
   ·have e3:=hQ.vals 3 (depB hdep 3 (by kernel_rfl)) (by decide)
    simp only at e3
    simp only [e3] at hK ⊢
    go_simp
    exact hK _ _ (hQ.pure (by decide) rfl)
   simp only [Act.put,List.setIfInBounds_toArray,List.set_cons_succ,List.set_cons_zero,Nat.reduceAdd]
   refine ⟨fun D vs wq K hQ hd hdep hcl hK=> ?_,?_⟩
   ·have e4:=hQ.vals 4 (depB hdep 4 (by kernel_rfl)) (by decide)
    simp only at e4
    have hq:=(hP0 _).mp (hQ.at 0 (by decide) (.inl rfl) (.inr (closedF hcl 10 7 (by kernel_rfl) (closedF hcl 7 6 (by kernel_rfl) (closedF hcl 6 5 (by kernel_rfl) hd)))))
    have c0:=hq.1.cs.c0
    clear hq
    simp only [e4] at hK ⊢
    go_simp
    exact hK _ _ (hQ.pure (by decide) rfl)
   simp only [Act.put,List.setIfInBounds_toArray,List.set_cons_succ,List.set_cons_zero,Nat.reduceAdd]
   refine ⟨fun D vs wq K hQ hd hdep hcl hK=> ?_,?_⟩
   ·have e1:=hQ.vals 1 (depB hdep 1 (by kernel_rfl)) (by decide)
    simp only at e1
    have e5:=hQ.vals 5 (depB hdep 5 (by kernel_rfl)) (by decide)
    simp only at e5
    simp only [e1,e5] at hK ⊢
    go_simp
    exact hK _ _ (hQ.pure (by decide) rfl)
   simp only [Act.put,List.setIfInBounds_toArray,List.set_cons_succ,List.set_cons_zero,Nat.reduceAdd]
   refine ⟨fun D vs wq K hQ hd hdep hcl hK=> ?_,?_⟩
   ·have e6:=hQ.vals 6 (depB hdep 6 (by kernel_rfl)) (by decide)
    simp only at e6
    simp only [e6] at hK ⊢
    go_simp
    exact hK _ _ (hQ.pure (by decide) rfl)
   simp only [Act.put,List.setIfInBounds_toArray,List.set_cons_succ,List.set_cons_zero,Nat.reduceAdd]
   refine ⟨fun D vs wq K hQ hd hdep hcl hK=> ?_,?_⟩
   ·have e7:=hQ.vals 7 (depB hdep 7 (by kernel_rfl)) (by decide)
    simp only at e7
    simp only [e7] at hK ⊢
    go_simp
    exact hK _ _ (hQ.pure (by decide) rfl)
   simp only [Act.put,List.setIfInBounds_toArray,List.set_cons_succ,List.set_cons_zero,Nat.reduceAdd]
   refine ⟨fun D vs wq K hQ hd hdep hcl hK=> ?_,?_⟩
   ·have e7:=hQ.vals 7 (depB hdep 7 (by kernel_rfl)) (by decide)
    simp only at e7
    have hq:=(hP0 _).mp (hQ.at 0 (by decide) (.inl rfl) (.inr (closedF hcl 10 9 (by kernel_rfl) hd)))
    have hSq:=Hid.mk ((hq.2.block S hSz.out).trans hSu.out)
    clear hq
    simp only [e7] at hK ⊢
    refine ite_of rfl ?_
    refine wp_load_row 35 _ rfl S rfl _ _ _ _ hSq.out Tryz.underlying35 rfl (msInfo.trans rfl) ?_
    exact hK _ _ (hQ.pure (by decide) rfl)
   simp only [Act.put,List.setIfInBounds_toArray,List.set_cons_succ,List.set_cons_zero,Nat.reduceAdd]
   refine ⟨fun D vs wq K hQ hd hdep hcl hK=> ?_,?_⟩
   ·have e7:=hQ.vals 7 (depB hdep 7 (by kernel_rfl)) (by decide)
    simp only at e7
    have e8:=hQ.vals 8 (depB hdep 8 (by kernel_rfl)) (by decide)
    simp only at e8
    have e9:=hQ.vals 9 (depB hdep 9 (by kernel_rfl)) (by decide)
    simp only at e9
    have hq:=(hP0 _).mp (hQ.at 0 (by decide) (.inl rfl) (.inr hd))
    have hiq:IntsV wq (.slice ka 3 kc) [0,0,k]:=hv2.out.below hq.2
    have hl:=learn_new hq.1 k hk1 (.slice ka 3 kc) (.slice ea 0 ec) hiq
    unfold msC mv at hl
    simp only at hl
    have hlH:=Hid.mk hl
    have hqH:=Hid.mk hq
    clear hl hq hiq
    simp only [e7,e8,e9] at hK ⊢
    go_simp
    go_at_call 17
    refine hlH.out.mono ?_
    rintro e wz ⟨rfl,hRz,hkz⟩
    have hs:=hqH.out.2.size
    refine hK _ _ (hQ.eff 0 (by decide) (by decide) (.inl rfl) hd ((hP1 _ _).mpr ⟨rfl,hRz,?_⟩))
    exact (Kx.of (S:=SS KB A V M N) hqH.out.2).trans ⟨hkz.os,hkz.tape,hkz.output,hkz.size,fun i hi hn=>hkz.block i hi hn⟩
   simp only [Act.put,List.setIfInBounds_toArray,List.set_cons_succ,List.set_cons_zero,Nat.reduceAdd]
   refine ⟨fun D vs wq K hQ hd hdep hcl hK=> ?_,?_⟩
   ·have e7:=hQ.vals 7 (depB hdep 7 (by kernel_rfl)) (by decide)
    simp only at e7
    have hq:=(hP1 _ _).mp (hQ.at 1 (by decide) (.inr (depB hdep 10 (by kernel_rfl))) (.inl rfl))
    have e10:vs 10= .bool true:=hq.1
    simp only [e10] at hK ⊢
    clear hq
    simp only [e7] at hK ⊢
    go_simp
    exact hK _ _ (hQ.pure (by decide) rfl)
   simp only [Act.put,List.setIfInBounds_toArray,List.set_cons_succ,List.set_cons_zero,Nat.reduceAdd]
   refine ⟨fun D vs wq K hQ hd hdep hcl hK=> ?_,?_⟩
   ·have e11:=hQ.vals 11 (depB hdep 11 (by kernel_rfl)) (by decide)
    simp only at e11
    simp only [e11] at hK ⊢
    go_simp
    exact hK _ _ (hQ.pure (by decide) rfl)
   simp only [Act.put,List.setIfInBounds_toArray,List.set_cons_succ,List.set_cons_zero,Nat.reduceAdd]
   intro vs D w6 hS6 hall
   have hp:=(hP1 _ _).mp (hS6.done (fun t ht=>hall _ (by have h2:t < 1:=ht; obtain rfl:t=0:=(by omega); decide)))
   have e12:=hS6.vals 12 (hall 12 (by decide)) (by decide)
   simp only at e12
   simp only [e12]
   have hpH:=Hid.mk hp
   clear hS6 hall hS0 hP0 hP1 hp e12
   go_wp2_with (fail)
   go_meet
   exact ⟨rfl,hpH.out.2⟩
  case rest=>
   obtain ⟨rfl,hR,hK⟩:=hcut
   rename World=>w3
   have hRH:=Hid.mk hR
   have hKH:=Hid.mk hK
   have hold:=hH.out
   have hS3:=Hid.mk ((hK.block S hSz.out (by
    have q:=hSlH.out
    obtain ⟨ns,hn,_⟩:=hold.n
    have a1:=(Array.getElem?_eq_some_iff.1 hold.kn).1
    have a2:=(Array.getElem?_eq_some_iff.1 hold.a).1
    have a3:=(Array.getElem?_eq_some_iff.1 hold.v).1
    have a4:=(Array.getElem?_eq_some_iff.1 hold.m).1
    have a5:=(Array.getElem?_eq_some_iff.1 hn).1
    unfold SS; omega)).trans hSu.out)
   have hBw:=Hid.mk (show Kx (SS KB A V M N) w w3 from (Kx.of hB2.out).trans hK)
   have hhe:=hear_new hR k ka 3 kc ea 0 ec
   unfold msC mv at hhe
   simp only at hhe
   have hheH:=Hid.mk hhe
   clear hR hK hhe d0 hold
   go_wp2_with (first | (refine wpList_load_row rfl 35 _ rfl S rfl _ _ _ _ hS3.out Tryz.underlying35 rfl (msInfo.trans rfl) ?_) | (go_at_call 18; refine hheH.out.mono ?_; rintro e w4 ⟨rfl,hB4⟩; replace hB4:=Hid.mk hB4) | (go_at_call 19; refine (flush_any (hRH.out.below hB4.out)).mono ?_; rintro e wz ⟨rfl,hRz,hkz⟩; replace hRz:=Hid.mk hRz; replace hkz:=Hid.mk hkz))
   go_ret
   exact ⟨rfl,hRz.out,(((hBw.out.trans (Kx.of hB4.out)).weak fun i h=> .inr h)).trans (hkz.out.weak fun i h=> .inl h)⟩
end
end Go.Proofs.YtniamhbcmcgonaaGreatDoor
namespace Go.Proofs.YtniamhbcmcgonaaGreatDoor
open Go.RowKit Go.Ev
theorem HalvesAt.low {N:Nat} {w w':World} (h:HalvesAt w) (hb:Below N w w') (hN:0 < N):HalvesAt w':=⟨Nat.lt_of_lt_of_le h.1 hb.size,fun i hi=>by
 have:=hb.block 0 hN
 rw [← h.2 i hi]
 simp only [World.cell?,show 0=0 from rfl,this]⟩
theorem cell_set_ne (w:World) (p q:Addr) (x:Value) (h:q.block≠p.block):(w.setCell p x).cell? q=w.cell? q:=by
 have:=Below.heap_setCell w p x q.block h
 obtain ⟨b,o,c⟩:=q
 simp only at this
 cases c <;> simp only [World.cell?,this]
def sent (m:Ms) (k2:Int):Ms:={ m with from_:=1,born:=0,kn:=[0,0,k2] }
def OW (w1:World) (k2:Int) (x:Value) (v:World):Prop:=v.ownsRow w1.heap.size 3 1 x 3 ([0,0,k2].map fun z=>Value.int .i64 z)∧Below w1.heap.size w1 v
theorem outInfo2:∃ i z,RowInfo 29 88 2 24 i z:=rowInfo_of (by kernel_rfl)
theorem own_below {w w':World} {N:Nat} {e:TypeId} {size n:Nat} {v:Value} {xs:List Value} (h:w.ownsRow N e size v n xs) (hb:Below w.heap.size w w'):w'.ownsRow N e size v n xs:=out_same h fun g hg=>hb.block g (h.lt g hg).2
theorem own_ty {w:World} {N:Nat} {e:TypeId} {size n:Nat} {v:Value} {xs:List Value} (h:w.ownsRow N e size v n xs) {g:Nat} (hg:v.ownBlock=some g):∃ cs,w.heap[g]?=some (.cells cs e (0,0)):=by
 rcases h.2 with ⟨rfl,_⟩ | ⟨g1,_,_,rfl,_,hh,_⟩
 ·cases hg
 ·cases hg; exact ⟨_,hh⟩
theorem grown_kx {w0 wp w':World} {v:Value} (hb:Below w0.heap.size w0 wp) (hg:wp.grownBy w' v.ownBlock):Kx (fun i=>v.ownBlock=some i) w0 w':=
 ⟨hg.os.trans hb.os,hg.tape.trans hb.tape,hg.output.trans hb.output,Nat.le_trans hb.size hg.size,fun i hi hn=>(hg.block i (Nat.lt_of_lt_of_le hi hb.size) (fun e=>hn e.symm)).trans (hb.block i hi)⟩
section
variable {B R KB A V M N:Nat} {st vw k2:Int} {mach:Value} {moved:Bool} {vt ms:Array Value} {out:Value} {w:World}
theorem Rep.grown (h:Rep B R KB A V M N st vw k2 mach moved vt ms out w) {w':World} {v:Value} (hg:w.grownBy w' v.ownBlock) (hv:∀ g,v.ownBlock=some g→∃ cs,w.heap[g]?=some (.cells cs 88 (0,0))):Rep B R KB A V M N st vw k2 mach moved vt ms out w':=by
 have hk:∀ {k:Nat} {cs:Array Value} {t:TypeId},t≠88→w.heap[k]?=some (.cells cs t (0,0))→w'.heap[k]?=some (.cells cs t (0,0)):=fun {k cs t} ht h=>by
  refine (hg.block k (Array.getElem?_eq_some_iff.1 h).1 (fun e=> ?_)).trans h
  obtain ⟨cs',hc⟩:=hv k e.symm
  rw [h] at hc; cases hc; exact ht rfl
 obtain ⟨ns,hn,hs⟩:=h.n
 exact ⟨hk (by decide) h.row,hk (by decide) h.kn,hk (by decide) h.a,hk (by decide) h.v,hk (by decide) h.m,⟨ns,hk (by decide) hn,hs⟩,h.ka,h.rl,h.kl,h.al,h.vl,h.ml,h.nl⟩
theorem Rep.set_out (h:Rep B R KB A V M N st vw k2 mach moved vt ms out w) (x:Value):Rep B R KB A V M N st vw k2 mach moved vt ms x (w.setCell ⟨R,19,none⟩ x):=by
 obtain ⟨o1,o2,o3,o4,o5,o6⟩:=h.other h.row
 have hb:∀ j,j≠R→(w.setCell ⟨R,19,none⟩ x).heap[j]?=w.heap[j]?:=fun j hj=>Below.heap_setCell _ _ _ _ (by simpa using hj)
 obtain ⟨ns,hn,hs⟩:=h.n
 refine ⟨?_,(hb _ (o6 (by decide))).trans h.kn,(hb _ (o5 (by decide))).trans h.a,(hb _ (o2 (by decide))).trans h.v,(hb _ (o3 (by decide))).trans h.m,⟨ns,(hb _ (o4 (by decide))).trans hn,hs⟩,h.ka,h.rl,h.kl,h.al,h.vl,h.ml,h.nl⟩
 rw [heap_setCell_same _ _ _ _ _ _ h.row]; rfl
set_option maxRecDepth 100000 in
set_option maxHeartbeats 12800000 in
theorem send_any (h:Rep B R KB A V M N st vw k2 mach moved vt ms out w) (hh:HalvesAt w) (n:Nat) (hn9:n≤1000) (xs:List Value) (C:Nat) (hC:C≤w.heap.size) (ho:w.ownsRow C 88 2 out n xs) (tgt:Int) (m:Ms) (hkn:m.kn=[]) (hen:m.ents=[]) (hk1:m.kind≠1) (hB0:0 < B) :
  Calls Tryz.prog 38 #[.pointer (some ⟨R,0,none⟩),.int .i64 tgt,.agg (msC m (.slice none 0 0) (.slice none 0 0))] w fun e w'=>e= .returned (.tuple #[])∧
   ∃ out' xs',Rep B R KB A V M N st vw k2 mach moved vt ms out' w'∧w'.ownsRow C 88 2 out' (n+1) xs'∧Kx (fun i=>i=R∨out.ownBlock=some i) w w':=by
 have hm:Tryz.prog.follows .mixedOrders=true:=by kernel_rfl
 have hH:=Hid.mk h
 have hhH:=Hid.mk hh
 have hoH:=Hid.mk ho
 have hn9:=Hid.mk hn9
 have hknH:=Hid.mk hkn
 have henH:=Hid.mk hen
 have hk1H:=Hid.mk hk1
 have hBpos:=Hid.mk hB0
 have hCH:=Hid.mk hC
 clear hC
 clear h hh ho hkn hen hk1 hB0
 unfold msC
 go_enter Tryz.func38,Tryz.ntmps38
 go_upto_region 0 with fail
 go_cut [2,5] (fun _ y wr=>y= .pointer (some ⟨w.heap.size,0,none⟩)∧wr.heap[w.heap.size]?=some (.cells (msC m (.slice none 0 0) (.slice none 0 0)) 35 (0,0))∧Below w.heap.size w wr)
 case first=>as_aux_lemma=>
  go_wp2_with (fail)
  go_meet
  exact ⟨rfl,heap_alloc_new _ _,(Below.refl _ w).alloc (Nat.le_refl _) _⟩
 case rest=>
  obtain ⟨rfl,hS,hB⟩:=hcut
  rename World=>w1
  obtain ⟨S,hSe⟩:∃ S,w.heap.size=S:=⟨_,rfl⟩
  have hR1:=Hid.mk (hH.out.below hB)
  have ho1:=Hid.mk (own_below hoH.out hB)
  have hh1:=Hid.mk (hhH.out.below hB)
  have hRS:=Hid.mk (show R≠S by have:=hH.out.lt; omega)
  have hBS:=Hid.mk (show B≤S by have:=hH.out.lt; have:=hH.out.rl; omega)
  rw [hSe] at hS hB ⊢
  have hS1:=Hid.mk hS
  have hB1:=Hid.mk hB
  have hSz:=Hid.mk (Array.getElem?_eq_some_iff.1 hS).1
  have hSeH:=Hid.mk hSe
  clear hS hB hSe
  go_upto_region 1 with fail
  go_cut [18] (fun _ wr=>Rep B R KB A V M N st vw k2 mach moved vt ms out wr∧(∃ ka kc,wr.heap[S]?=some (.cells (msC (sent m k2) (.slice ka 3 kc) (.slice none 0 0)) 35 (0,0))∧IntsV wr (.slice ka 3 kc) [0,0,k2])∧wr.ownsRow C 88 2 out n xs∧Below S w1 wr∧S < wr.heap.size)
  case first=>as_aux_lemma=>
   obtain ⟨Pp,hPp⟩:∃ P:List Value→World→Prop,P=fun l v=>match l with
    | []=>v=w1.drew
    | [x]=>∃ a c,x= .slice a 3 c∧OW w1 k2 x v
    | [x,_]=>∃ a c,x= .slice a 3 c∧∃ wp,OW w1 k2 x wp∧v=wp.setCell ⟨S,1,none⟩ (.int .i64 1)
    | [x,_,_]=>∃ a c,x= .slice a 3 c∧∃ wp,OW w1 k2 x wp∧v=(wp.setCell ⟨S,1,none⟩ (.int .i64 1)).setCell ⟨S,2,none⟩ (.int .i64 0)
    | x::_=>∃ a c,x= .slice a 3 c∧∃ wp,OW w1 k2 x wp∧v=((wp.setCell ⟨S,1,none⟩ (.int .i64 1)).setCell ⟨S,2,none⟩ (.int .i64 0)).setCell ⟨S,3,none⟩ x:=⟨_,rfl⟩
   have hP0:∀ v,Pp [] v↔v=w1.drew:=fun v=>by rw [hPp]
   have hP1:∀ x v,Pp [x] v↔∃ a c,x= .slice a 3 c∧OW w1 k2 x v:=fun x v=>by rw [hPp]
   have hP2:∀ x y v,Pp [x,y] v↔∃ a c,x= .slice a 3 c∧∃ wp,OW w1 k2 x wp∧v=wp.setCell ⟨S,1,none⟩ (.int .i64 1):=fun x y v=>by rw [hPp]
   have hP3:∀ x y z v,Pp [x,y,z] v↔∃ a c,x= .slice a 3 c∧∃ wp,OW w1 k2 x wp∧v=(wp.setCell ⟨S,1,none⟩ (.int .i64 1)).setCell ⟨S,2,none⟩ (.int .i64 0):=fun x y z v=>by rw [hPp]
   have hP4:∀ x y z u v,Pp [x,y,z,u] v↔∃ a c,x= .slice a 3 c∧∃ wp,OW w1 k2 x wp∧v=((wp.setCell ⟨S,1,none⟩ (.int .i64 1)).setCell ⟨S,2,none⟩ (.int .i64 0)).setCell ⟨S,3,none⟩ x:=fun x y z u v=>by rw [hPp]
   have hPB:∀ j (vs:Nat→Value) v,j≤1→Pp (([12,14,16,18].take j).map vs) v→Below w1.heap.size w1 v:=fun j vs v hj hp=>by
    rcases (by omega:j=0∨j=1) with rfl | rfl
    ·rw [(hP0 v).mp hp]; exact (Below.refl _ w1).drew
    ·obtain ⟨_,_,_,h⟩:=(hP1 _ v).mp hp; exact h.2
   have hPC:∀ j (vs:Nat→Value) v,j≤2→Pp (([12,14,16,18].take j).map vs) v→v.cell? ⟨R,10,none⟩=some (.int .i64 0):=fun j vs v hj hp=>by
    rcases (by omega:j≤1∨j=2) with h | rfl
    ·exact (hR1.out.below (hPB j vs v h hp)).cs.c10
    ·obtain ⟨a,c,_,wp,hp,hq⟩:=(hP2 _ _ v).mp hp
     rw [hq,cell_set_ne _ _ _ _ hRS.out]
     exact (hR1.out.below hp.2).cs.c10
   clear hPp
   have hS0:=EC.start [12,14,16,18] (fun i=>match i with | 2=> .pointer (some ⟨R,0,none⟩) | 3=> .int .i64 1 | 6=> .pointer (some ⟨R,10,none⟩) | 7=> .int .i64 0 | 10=> .pointer (some ⟨R,11,none⟩) | 11=> .slice (some ⟨KB,0,none⟩) 3 3 | 13=> .pointer (some ⟨S,1,none⟩) | 15=> .pointer (some ⟨S,2,none⟩) | 17=> .pointer (some ⟨S,3,none⟩) | _=> .pointer (some ⟨R,0,none⟩)) (P:=Pp) (W:=w1.drew) ((hP0 _).mpr rfl)
   have hPH:=Hid.mk (And.intro hP0 (And.intro hP1 (And.intro hP2 (And.intro hP3 (And.intro hP4 (And.intro hPB hPC))))))
   clear hP0 hP1 hP2 hP3 hP4 hPB hPC
   go_wp2_with (fail)
   refine Go.Ev.wp_region_inv _ hm (by kernel_rfl) (by kernel_rfl) hS0 ?_
   refine ⟨fun D vs wq K hQ hd hdep hcl hK=> ?_,?_⟩
   ·go_simp
    exact hK _ _ (hQ.pure (by decide) rfl)
   simp only [Act.put,List.setIfInBounds_toArray,List.set_cons_succ,List.set_cons_zero,Nat.reduceAdd]
   refine ⟨fun D vs wq K hQ hd hdep hcl hK=> ?_,?_⟩
   ·have e0:=hQ.vals 0 (depB hdep 0 (by kernel_rfl)) (by decide)
    simp only at e0
    simp only [e0] at hK ⊢
    go_simp
    exact hK _ _ (hQ.pure (by decide) rfl)
   simp only [Act.put,List.setIfInBounds_toArray,List.set_cons_succ,List.set_cons_zero,Nat.reduceAdd]
   refine ⟨fun D vs wq K hQ hd hdep hcl hK=> ?_,?_⟩
   ·have e1:=hQ.vals 1 (depB hdep 1 (by kernel_rfl)) (by decide)
    simp only at e1
    simp only [e1] at hK ⊢
    go_simp
    exact hK _ _ (hQ.pure (by decide) rfl)
   simp only [Act.put,List.setIfInBounds_toArray,List.set_cons_succ,List.set_cons_zero,Nat.reduceAdd]
   refine ⟨fun D vs wq K hQ hd hdep hcl hK=> ?_,?_⟩
   ·have e2:=hQ.vals 2 (depB hdep 2 (by kernel_rfl)) (by decide)
    simp only at e2
    obtain ⟨j,hj,hp⟩:=hQ.upto 1 (closedF hcl 14 3 (by kernel_rfl) hd) (by decide)
    have hbq:=hPH.out.2.2.2.2.2.1 _ _ _ hj hp
    have c0:=(hR1.out.below hbq).cs.c0
    clear hbq hp
    simp only [e2] at hK ⊢
    go_simp
    exact hK _ _ (hQ.pure (by decide) rfl)
   simp only [Act.put,List.setIfInBounds_toArray,List.set_cons_succ,List.set_cons_zero,Nat.reduceAdd]
   refine ⟨fun D vs wq K hQ hd hdep hcl hK=> ?_,?_⟩
   ·go_simp
    exact hK _ _ (hQ.pure (by decide) rfl)
   simp only [Act.put,List.setIfInBounds_toArray,List.set_cons_succ,List.set_cons_zero,Nat.reduceAdd]
   refine ⟨fun D vs wq K hQ hd hdep hcl hK=> ?_,?_⟩
   ·have e4:=hQ.vals 4 (depB hdep 4 (by kernel_rfl)) (by decide)
    simp only at e4
    simp only [e4] at hK ⊢
    go_simp
    exact hK _ _ (hQ.pure (by decide) rfl)
   simp only [Act.put,List.setIfInBounds_toArray,List.set_cons_succ,List.set_cons_zero,Nat.reduceAdd]
   refine ⟨fun D vs wq K hQ hd hdep hcl hK=> ?_,?_⟩
   ·have e5:=hQ.vals 5 (depB hdep 5 (by kernel_rfl)) (by decide)
    simp only at e5
    simp only [e5] at hK ⊢
    go_simp
    exact hK _ _ (hQ.pure (by decide) rfl)
   simp only [Act.put,List.setIfInBounds_toArray,List.set_cons_succ,List.set_cons_zero,Nat.reduceAdd]
   refine ⟨fun D vs wq K hQ hd hdep hcl hK=> ?_,?_⟩
   ·have e6:=hQ.vals 6 (depB hdep 6 (by kernel_rfl)) (by decide)
    simp only at e6
    obtain ⟨j,hj,hp⟩:=hQ.upto 2 (closedF hcl 16 7 (by kernel_rfl) hd) (by decide)
    have c10:=hPH.out.2.2.2.2.2.2 _ _ _ hj hp
    clear hp
    simp only [e6] at hK ⊢
    go_simp
    exact hK _ _ (hQ.pure (by decide) rfl)
   simp only [Act.put,List.setIfInBounds_toArray,List.set_cons_succ,List.set_cons_zero,Nat.reduceAdd]
   refine ⟨fun D vs wq K hQ hd hdep hcl hK=> ?_,?_⟩
   ·go_simp
    exact hK _ _ (hQ.pure (by decide) rfl)
   simp only [Act.put,List.setIfInBounds_toArray,List.set_cons_succ,List.set_cons_zero,Nat.reduceAdd]
   refine ⟨fun D vs wq K hQ hd hdep hcl hK=> ?_,?_⟩
   ·have e8:=hQ.vals 8 (depB hdep 8 (by kernel_rfl)) (by decide)
    simp only at e8
    simp only [e8] at hK ⊢
    go_simp
    exact hK _ _ (hQ.pure (by decide) rfl)
   simp only [Act.put,List.setIfInBounds_toArray,List.set_cons_succ,List.set_cons_zero,Nat.reduceAdd]
   refine ⟨fun D vs wq K hQ hd hdep hcl hK=> ?_,?_⟩
   ·have e9:=hQ.vals 9 (depB hdep 9 (by kernel_rfl)) (by decide)
    simp only at e9
    simp only [e9] at hK ⊢
    go_simp
    exact hK _ _ (hQ.pure (by decide) rfl)
   simp only [Act.put,List.setIfInBounds_toArray,List.set_cons_succ,List.set_cons_zero,Nat.reduceAdd]
   refine ⟨fun D vs wq K hQ hd hdep hcl hK=> ?_,?_⟩
   ·have e10:=hQ.vals 10 (depB hdep 10 (by kernel_rfl)) (by decide)
    simp only at e10
    have hq:=(hPH.out.1 _).mp (hQ.at 0 (by decide) (.inl rfl) (.inr (closedF hcl 12 11 (by kernel_rfl) hd)))
    have c11:wq.cell? ⟨R,11,none⟩=some (.slice (some ⟨KB,0,none⟩) 3 3):=by rw [hq]; exact hR1.out.cs.c11
    clear hq
    simp only [e10] at hK ⊢
    go_simp
    exact hK _ _ (hQ.pure (by decide) rfl)
   simp only [Act.put,List.setIfInBounds_toArray,List.set_cons_succ,List.set_cons_zero,Nat.reduceAdd]
   refine ⟨fun D vs wq K hQ hd hdep hcl hK=> ?_,?_⟩
   ·have e11:=hQ.vals 11 (depB hdep 11 (by kernel_rfl)) (by decide)
    simp only at e11
    have hq:=(hPH.out.1 _).mp (hQ.at 0 (by decide) (.inl rfl) (.inr hd))
    have hiq:IntsV wq (.slice (some ⟨KB,0,none⟩) 3 3) [0,0,k2]:=by rw [hq]; exact IntsV.row (l:=[0,0,k2]) (cap:=3) hR1.out.kn
    have hbq:=Hid.mk (show Below w1.heap.size w1 wq by rw [hq]; exact (Below.refl _ w1).drew)
    have hcq:=Hid.mk (iclone_any _ _ (by simp) wq hiq)
    clear hq hiq
    simp only [e11] at hK ⊢
    go_wp2_with (fail)
    go_at_call 21
    refine hcq.out.mono ?_
    rintro e wz ⟨a,c,rfl,hown,hBz⟩
    have hownH:=Hid.mk hown
    have hBzH:=Hid.mk hBz
    clear hown hBz
    go_wp2_with (fail)
    exact hQ.eff 0 (by decide) (by decide) (.inl rfl) hd ((hPH.out.2.1 _ _).mpr ⟨a,c,rfl,own_mono hownH.out hbq.out.size,hbq.out.trans (hBzH.out.mono hbq.out.size)⟩)
   simp only [Act.put,List.setIfInBounds_toArray,List.set_cons_succ,List.set_cons_zero,Nat.reduceAdd]
   refine ⟨fun D vs wq K hQ hd hdep hcl hK=> ?_,?_⟩
   ·go_simp
    exact hK _ _ (hQ.pure (by decide) rfl)
   simp only [Act.put,List.setIfInBounds_toArray,List.set_cons_succ,List.set_cons_zero,Nat.reduceAdd]
   refine ⟨fun D vs wq K hQ hd hdep hcl hK=> ?_,?_⟩
   ·have e13:=hQ.vals 13 (depB hdep 13 (by kernel_rfl)) (by decide)
    simp only at e13
    have e3:=hQ.vals 3 (depB hdep 3 (by kernel_rfl)) (by decide)
    simp only at e3
    obtain ⟨a,c,hx,hp⟩:=(hPH.out.2.1 _ _).mp (hQ.at 1 (by decide) (.inr (depB hdep 12 (by kernel_rfl))) (.inr hd))
    have d12:=depB hdep 12 (by kernel_rfl)
    have hSq:=(hp.2.block S hSz.out).trans hS1.out
    have cc:wq.cell? ⟨S,1,none⟩=some (.int .i64 m.from_):=(cell_of_row _ _ _ _ _ _ hSq).trans rfl
    have ff:=frozen_of_row _ _ 1 _ _ hSq
    have hpH:=Hid.mk hp
    have hxH:=Hid.mk hx
    clear hp hx hSq
    simp only [e13,e3] at hK ⊢
    go_simp
    refine hK undef _ ?_
    exact hQ.eff 1 (by decide) (by decide) (.inr d12) hd ((hPH.out.2.2.1 _ _ _).mpr ⟨a,c,hxH.out,wq,hpH.out,rfl⟩)
   simp only [Act.put,List.setIfInBounds_toArray,List.set_cons_succ,List.set_cons_zero,Nat.reduceAdd]
   refine ⟨fun D vs wq K hQ hd hdep hcl hK=> ?_,?_⟩
   ·go_simp
    exact hK _ _ (hQ.pure (by decide) rfl)
   simp only [Act.put,List.setIfInBounds_toArray,List.set_cons_succ,List.set_cons_zero,Nat.reduceAdd]
   refine ⟨fun D vs wq K hQ hd hdep hcl hK=> ?_,?_⟩
   ·have e15:=hQ.vals 15 (depB hdep 15 (by kernel_rfl)) (by decide)
    simp only at e15
    have e7:=hQ.vals 7 (depB hdep 7 (by kernel_rfl)) (by decide)
    simp only at e7
    obtain ⟨a,c,hx,wp,hp,hq⟩:=(hPH.out.2.2.1 _ _ _).mp (hQ.at 2 (by decide) (.inr (depB hdep 14 (by kernel_rfl))) (.inr hd))
    have d14:=depB hdep 14 (by kernel_rfl)
    have hSp:=(hp.2.block S hSz.out).trans hS1.out
    have hSq:wq.heap[S]?=some (.cells ((msC m (.slice none 0 0) (.slice none 0 0)).setIfInBounds 1 (.int .i64 1)) 35 (0,0)):=by rw [hq]; exact heap_setCell_same _ _ _ _ _ _ hSp
    have cc:wq.cell? ⟨S,2,none⟩=some (.int .i64 m.born):=(cell_of_row _ _ _ _ _ _ hSq).trans rfl
    have ff:=frozen_of_row _ _ 2 _ _ hSq
    have hpH:=Hid.mk hp
    have hxH:=Hid.mk hx
    have hqH:=Hid.mk hq
    clear hp hx hSq hSp hq
    simp only [e15,e7] at hK ⊢
    go_simp
    refine hK undef _ ?_
    exact hQ.eff 2 (by decide) (by decide) (.inr d14) hd ((hPH.out.2.2.2.1 _ _ _ _).mpr ⟨a,c,hxH.out,wp,hpH.out,by rw [hqH.out]⟩)
   simp only [Act.put,List.setIfInBounds_toArray,List.set_cons_succ,List.set_cons_zero,Nat.reduceAdd]
   refine ⟨fun D vs wq K hQ hd hdep hcl hK=> ?_,?_⟩
   ·go_simp
    exact hK _ _ (hQ.pure (by decide) rfl)
   simp only [Act.put,List.setIfInBounds_toArray,List.set_cons_succ,List.set_cons_zero,Nat.reduceAdd]
   refine ⟨fun D vs wq K hQ hd hdep hcl hK=> ?_,?_⟩
   ·have e17:=hQ.vals 17 (depB hdep 17 (by kernel_rfl)) (by decide)
    simp only at e17
    obtain ⟨a,c,hx,wp,hp,hq⟩:=(hPH.out.2.2.2.1 _ _ _ _).mp (hQ.at 3 (by decide) (.inr (depB hdep 16 (by kernel_rfl))) (.inr hd))
    have d16:=depB hdep 16 (by kernel_rfl)
    have hSp:=(hp.2.block S hSz.out).trans hS1.out
    have hSq:wq.heap[S]?=some (.cells (((msC m (.slice none 0 0) (.slice none 0 0)).setIfInBounds 1 (.int .i64 1)).setIfInBounds 2 (.int .i64 0)) 35 (0,0)):=by rw [hq]; exact heap_setCell_same _ _ _ _ _ _ (heap_setCell_same _ _ _ _ _ _ hSp)
    have cc:wq.cell? ⟨S,3,none⟩=some (.slice none 0 0):=(cell_of_row _ _ _ _ _ _ hSq).trans rfl
    have ff:=frozen_of_row _ _ 3 _ _ hSq
    have e12:vs 12= .slice a 3 c:=hx
    simp only [e12] at hK ⊢
    have hpH:=Hid.mk hp
    have hxH:=Hid.mk hx
    have hqH:=Hid.mk hq
    clear hp hx hSq hSp hq
    simp only [e17] at hK ⊢
    go_simp
    refine hK undef _ ?_
    exact hQ.eff 3 (by decide) (by decide) (.inr d16) hd ((hPH.out.2.2.2.2.1 _ _ _ _ _).mpr ⟨a,c,hxH.out,wp,hpH.out,by rw [hqH.out]; exact congrArg (fun x=>World.setCell _ _ x) hxH.out.symm⟩)
   simp only [Act.put,List.setIfInBounds_toArray,List.set_cons_succ,List.set_cons_zero,Nat.reduceAdd]
   intro vs D w6 hS6 hall
   obtain ⟨a,c,hx,wp,hp,hq⟩:=(hPH.out.2.2.2.2.1 _ _ _ _ _).mp (hS6.done (fun t ht=>hall _ (by have h2:t < 4:=ht; rcases (by omega:t=0∨t=1∨t=2∨t=3) with rfl | rfl | rfl | rfl <;> decide)))
   have hX:=Hid.mk (And.intro hx (And.intro hp hq))
   clear hS6 hall hS0 hPH hx hp hq
   go_wp2_with (fail)
   go_meet
   obtain ⟨hx,hp,hq⟩:=hX.out
   have hSp:=(hp.2.block S hSz.out).trans hS1.out
   have hb:∀ j,j≠S→w6.heap[j]?=wp.heap[j]?:=fun j hj=>by
    rw [hq]
    exact (Below.heap_setCell _ _ _ _ (by simpa using hj)).trans ((Below.heap_setCell _ _ _ _ (by simpa using hj)).trans (Below.heap_setCell _ _ _ _ (by simpa using hj)))
   have hrow:w6.heap[S]?=some (.cells (msC (sent m k2) (.slice a 3 c) (.slice none 0 0)) 35 (0,0)):=by
    rw [hq,heap_setCell_same _ _ _ _ _ _ (heap_setCell_same _ _ _ _ _ _ (heap_setCell_same _ _ _ _ _ _ hSp)),hx]
    rfl
   have hsz:w6.heap.size=wp.heap.size:=by rw [hq]; simp [World.setCell]
   have hRp:=hR1.out.below hp.2
   obtain ⟨o1,o2,o3,o4,o5,o6⟩:=hRp.other hSp
   obtain ⟨ns,hn,hs⟩:=hRp.n
   have hop:=own_below ho1.out hp.2
   refine ⟨⟨(hb _ (o1 (by decide))).trans hRp.row,(hb _ (o6 (by decide))).trans hRp.kn,(hb _ (o5 (by decide))).trans hRp.a,(hb _ (o2 (by decide))).trans hRp.v,(hb _ (o3 (by decide))).trans hRp.m,⟨ns,(hb _ (o4 (by decide))).trans hn,hs⟩,hRp.ka,hRp.rl,hRp.kl,hRp.al,hRp.vl,hRp.ml,hRp.nl⟩,⟨a,c,hrow,?_⟩,?_,?_,?_⟩
   ·have hi:=IntsV.own (l:=[0,0,k2]) (by rw [hx] at hp; exact hp.1)
    exact hi.same (fun g hg=>hb g (by
     have h1:=hp.1
     rw [hx] at h1
     have:=(h1.lt g hg).1
     have:=hSz.out
     omega)) (by omega)
   ·exact out_same hop fun g hg=>hb g (fun e=>by
     obtain ⟨cs,hc⟩:=own_ty hop hg
     rw [e,hSp] at hc; cases hc)
   ·exact ⟨by rw [hq]; exact hp.2.os,by rw [hq]; exact hp.2.tape,by rw [hq]; exact hp.2.output,by have:=hp.2.size; omega,fun i hi=>(hb i (by omega)).trans (hp.2.block i (by have:=hSz.out; omega))⟩
   ·have:=hp.2.size; have:=hSz.out; omega
  case rest=>
   clear hR1 ho1 hS1
   obtain ⟨hR,⟨ka,kc,hS,hiv⟩,ho,hB,hsz⟩:=hcut
   rename World=>w5
   obtain ⟨m5,hm5⟩:∃ m5,sent m k2=m5:=⟨_,rfl⟩
   have hSz5:=Hid.mk hsz
   have hR5:=Hid.mk hR
   have ho5:=Hid.mk ho
   have hBl:=Hid.mk (show B≤w5.heap.size by have:=hBS.out; omega)
   have hBB:=Hid.mk (show Below B w w5 from (hB1.out.mono hBS.out).trans (hB.mono hBS.out))
   have hCl:=Hid.mk (show C≤w5.heap.size by have:=hCH.out; have:=hSeH.out; have:=hSz5.out; omega)
   have hBk:=Hid.mk (show Kx (fun i=>i=R∨out.ownBlock=some i) w w5 from Kx.of (by rw [hSeH.out]; exact hB1.out.trans hB))
   have hput:=Hid.mk (show ∀ v,Below w5.heap.size w5 v→Calls Tryz.prog 8 #[.agg (msC m5 (.slice ka 3 kc) (.slice none 0 0)),.int .i64 3] v fun e w'=>e= .returned (.string (bs (putP m5)))∧Below v.heap.size v w' from fun v hb=>by
    have he:(sent m k2).ents=[]:=henH.out
    have h0:HalvesAt v:=(hh1.out.low ((hB.mono hBS.out).trans (hb.mono hBl.out)) hBpos.out)
    have hpt:=mput_any (sent m k2) (.slice ka 3 kc) none 0 B (fun h=>absurd h hk1H.out) (by show 3≤50; omega) (by rw [he]; simp) v h0 (hiv.below hb) (by rw [he]; exact World.ownsRow_nil _ _ _ _)
    rw [he] at hpt
    rw [← hm5]
    exact hpt)
   rw [hm5] at hS
   have hS5:=Hid.mk hS
   obtain ⟨i0,z0,hInf⟩:=outInfo2
   clear hR ho hS hiv hB hsz hm5
   go_upto_region 2 with fail
   obtain ⟨Pp,hPp⟩:∃ P:List Value→World→Prop,P=fun l v=>match l with
    | []=>v=w5.drew
    | [x]=>x= .string (bs (putP m5))∧Below w5.heap.size w5 v
    | [_,y]=>∃ g,y= .slice (some ⟨g,0,none⟩) 1 1∧w5.heap.size≤g∧v.heap[g]?=some (.cells #[.int .i64 tgt,.string (bs (putP m5))] 88 (0,0))∧Below w5.heap.size w5 v
    | [_,_,z]=>∃ xs2,v.ownsRow C 88 2 z (n+1) xs2∧∃ wp,Below w5.heap.size w5 wp∧wp.grownBy v out.ownBlock
    | _::_::z::_=>∃ xs2 oa oc,z= .slice oa (n+1) oc∧∃ wq,Rep B R KB A V M N st vw k2 mach moved vt ms out wq∧wq.ownsRow C 88 2 (.slice oa (n+1) oc) (n+1) xs2∧Kx (fun i=>out.ownBlock=some i) w5 wq∧v=wq.setCell ⟨R,19,none⟩ (.slice oa (n+1) oc):=⟨_,rfl⟩
   have hP0:∀ v,Pp [] v↔v=w5.drew:=fun v=>by rw [hPp]
   have hP1:∀ x v,Pp [x] v↔x= .string (bs (putP m5))∧Below w5.heap.size w5 v:=fun x v=>by rw [hPp]
   have hP2:∀ x y v,Pp [x,y] v↔∃ g,y= .slice (some ⟨g,0,none⟩) 1 1∧w5.heap.size≤g∧v.heap[g]?=some (.cells #[.int .i64 tgt,.string (bs (putP m5))] 88 (0,0))∧Below w5.heap.size w5 v:=fun x y v=>by rw [hPp]
   have hP3:∀ x y z v,Pp [x,y,z] v↔∃ xs2,v.ownsRow C 88 2 z (n+1) xs2∧∃ wp,Below w5.heap.size w5 wp∧wp.grownBy v out.ownBlock:=fun x y z v=>by rw [hPp]
   have hP4:∀ x y z u v,Pp [x,y,z,u] v↔∃ xs2 oa oc,z= .slice oa (n+1) oc∧∃ wq,Rep B R KB A V M N st vw k2 mach moved vt ms out wq∧wq.ownsRow C 88 2 (.slice oa (n+1) oc) (n+1) xs2∧Kx (fun i=>out.ownBlock=some i) w5 wq∧v=wq.setCell ⟨R,19,none⟩ (.slice oa (n+1) oc):=fun x y z u v=>by rw [hPp]
   have hPB:∀ j (vs:Nat→Value) v,j≤2→Pp (([12,14,15,18].take j).map vs) v→Below w5.heap.size w5 v:=fun j vs v hj hp=>by
    rcases (by omega:j=0∨j=1∨j=2) with rfl | rfl | rfl
    ·rw [(hP0 v).mp hp]; exact (Below.refl _ w5).drew
    ·exact ((hP1 _ v).mp hp).2
    ·obtain ⟨_,_,_,_,h⟩:=(hP2 _ _ v).mp hp; exact h
   clear hPp
   have hS0:=EC.start [12,14,15,18] (fun i=>match i with | 3=> .pointer (some ⟨R,19,none⟩) | 4=>out | 5=> .int .i64 tgt | 6=> .agg (msC m5 (.slice ka 3 kc) (.slice none 0 0)) | 9=> .pointer (some ⟨R,11,none⟩) | 10=> .slice (some ⟨KB,0,none⟩) 3 3 | 11=> .int .i64 3 | 13=> .agg #[.int .i64 tgt,.string (bs (putP m5))] | 17=> .pointer (some ⟨R,19,none⟩) | _=> .pointer (some ⟨R,0,none⟩)) (P:=Pp) (W:=w5.drew) ((hP0 _).mpr rfl)
   have hPH:=Hid.mk (And.intro hP0 (And.intro hP1 (And.intro hP2 (And.intro hP3 (And.intro hP4 hPB)))))
   clear hP0 hP1 hP2 hP3 hP4 hPB
   go_wp2_with (fail)
   refine Go.Ev.wp_region_inv _ hm (by kernel_rfl) (by kernel_rfl) hS0 ?_
   refine ⟨fun D vs wq K hQ hd hdep hcl hK=> ?_,?_⟩
   ·go_simp
    exact hK _ _ (hQ.pure (by decide) rfl)
   simp only [Act.put,List.setIfInBounds_toArray,List.set_cons_succ,List.set_cons_zero,Nat.reduceAdd]
   refine ⟨fun D vs wq K hQ hd hdep hcl hK=> ?_,?_⟩
   ·go_simp
    exact hK _ _ (hQ.pure (by decide) rfl)
   simp only [Act.put,List.setIfInBounds_toArray,List.set_cons_succ,List.set_cons_zero,Nat.reduceAdd]
   refine ⟨fun D vs wq K hQ hd hdep hcl hK=> ?_,?_⟩
   ·have e1:=hQ.vals 1 (depB hdep 1 (by kernel_rfl)) (by decide)
    simp only at e1
    simp only [e1] at hK ⊢
    go_simp
    exact hK _ _ (hQ.pure (by decide) rfl)
   simp only [Act.put,List.setIfInBounds_toArray,List.set_cons_succ,List.set_cons_zero,Nat.reduceAdd]
   refine ⟨fun D vs wq K hQ hd hdep hcl hK=> ?_,?_⟩
   ·have e2:=hQ.vals 2 (depB hdep 2 (by kernel_rfl)) (by decide)
    simp only at e2
    simp only [e2] at hK ⊢
    go_simp
    exact hK _ _ (hQ.pure (by decide) rfl)
   simp only [Act.put,List.setIfInBounds_toArray,List.set_cons_succ,List.set_cons_zero,Nat.reduceAdd]
   refine ⟨fun D vs wq K hQ hd hdep hcl hK=> ?_,?_⟩
   ·have e3:=hQ.vals 3 (depB hdep 3 (by kernel_rfl)) (by decide)
    simp only at e3
    obtain ⟨j,hj,hp⟩:=hQ.upto 2 (closedF hcl 15 4 (by kernel_rfl) hd) (by decide)
    have hbq:=hPH.out.2.2.2.2.2 _ _ _ hj hp
    have c19:=(hR5.out.below hbq).cs.c19
    clear hbq hp
    simp only [e3] at hK ⊢
    go_simp
    exact hK _ _ (hQ.pure (by decide) rfl)
   simp only [Act.put,List.setIfInBounds_toArray,List.set_cons_succ,List.set_cons_zero,Nat.reduceAdd]
   refine ⟨fun D vs wq K hQ hd hdep hcl hK=> ?_,?_⟩
   ·go_simp
    exact hK _ _ (hQ.pure (by decide) rfl)
   simp only [Act.put,List.setIfInBounds_toArray,List.set_cons_succ,List.set_cons_zero,Nat.reduceAdd]
   refine ⟨fun D vs wq K hQ hd hdep hcl hK=> ?_,?_⟩
   ·have hq:=(hPH.out.1 _).mp (hQ.at 0 (by decide) (.inl rfl) (.inr (closedF hcl 12 6 (by kernel_rfl) hd)))
    have hSq:=Hid.mk (show wq.heap[S]?=some (.cells (msC m5 (.slice ka 3 kc) (.slice none 0 0)) 35 (0,0)) by rw [hq]; exact hS5.out)
    clear hq
    refine ite_of rfl ?_
    refine wp_load_row 35 _ rfl S rfl _ _ _ _ hSq.out Tryz.underlying35 rfl (msInfo.trans rfl) ?_
    exact hK _ _ (hQ.pure (by decide) rfl)
   simp only [Act.put,List.setIfInBounds_toArray,List.set_cons_succ,List.set_cons_zero,Nat.reduceAdd]
   refine ⟨fun D vs wq K hQ hd hdep hcl hK=> ?_,?_⟩
   ·go_simp
    exact hK _ _ (hQ.pure (by decide) rfl)
   simp only [Act.put,List.setIfInBounds_toArray,List.set_cons_succ,List.set_cons_zero,Nat.reduceAdd]
   refine ⟨fun D vs wq K hQ hd hdep hcl hK=> ?_,?_⟩
   ·have e7:=hQ.vals 7 (depB hdep 7 (by kernel_rfl)) (by decide)
    simp only at e7
    simp only [e7] at hK ⊢
    go_simp
    exact hK _ _ (hQ.pure (by decide) rfl)
   simp only [Act.put,List.setIfInBounds_toArray,List.set_cons_succ,List.set_cons_zero,Nat.reduceAdd]
   refine ⟨fun D vs wq K hQ hd hdep hcl hK=> ?_,?_⟩
   ·have e8:=hQ.vals 8 (depB hdep 8 (by kernel_rfl)) (by decide)
    simp only at e8
    simp only [e8] at hK ⊢
    go_simp
    exact hK _ _ (hQ.pure (by decide) rfl)
   simp only [Act.put,List.setIfInBounds_toArray,List.set_cons_succ,List.set_cons_zero,Nat.reduceAdd]
   refine ⟨fun D vs wq K hQ hd hdep hcl hK=> ?_,?_⟩
   ·have e9:=hQ.vals 9 (depB hdep 9 (by kernel_rfl)) (by decide)
    simp only at e9
    have hq:=(hPH.out.1 _).mp (hQ.at 0 (by decide) (.inl rfl) (.inr (closedF hcl 12 11 (by kernel_rfl) (closedF hcl 11 10 (by kernel_rfl) hd))))
    have c11:wq.cell? ⟨R,11,none⟩=some (.slice (some ⟨KB,0,none⟩) 3 3):=by rw [hq]; exact hR5.out.cs.c11
    clear hq
    simp only [e9] at hK ⊢
    go_simp
    exact hK _ _ (hQ.pure (by decide) rfl)
   simp only [Act.put,List.setIfInBounds_toArray,List.set_cons_succ,List.set_cons_zero,Nat.reduceAdd]
   refine ⟨fun D vs wq K hQ hd hdep hcl hK=> ?_,?_⟩
   ·have e10:=hQ.vals 10 (depB hdep 10 (by kernel_rfl)) (by decide)
    simp only at e10
    simp only [e10] at hK ⊢
    go_simp
    exact hK _ _ (hQ.pure (by decide) rfl)
   simp only [Act.put,List.setIfInBounds_toArray,List.set_cons_succ,List.set_cons_zero,Nat.reduceAdd]
   refine ⟨fun D vs wq K hQ hd hdep hcl hK=> ?_,?_⟩
   ·have e6:=hQ.vals 6 (depB hdep 6 (by kernel_rfl)) (by decide)
    simp only at e6
    have e11:=hQ.vals 11 (depB hdep 11 (by kernel_rfl)) (by decide)
    simp only at e11
    have hq:=(hPH.out.1 _).mp (hQ.at 0 (by decide) (.inl rfl) (.inr hd))
    have hpt:=hput.out wq (by rw [hq]; exact (Below.refl _ w5).drew)
    have hptH:=Hid.mk hpt
    have hqH:=Hid.mk hq
    clear hq hpt
    simp only [e6,e11] at hK ⊢
    go_simp
    go_at_call 8
    refine hptH.out.mono ?_
    rintro e wz ⟨rfl,hBz⟩
    refine hK _ _ (hQ.eff 0 (by decide) (by decide) (.inl rfl) hd ((hPH.out.2.1 _ _).mpr ⟨rfl,?_⟩))
    rw [hqH.out] at hBz
    exact (Below.refl _ w5).drew.trans hBz
   simp only [Act.put,List.setIfInBounds_toArray,List.set_cons_succ,List.set_cons_zero,Nat.reduceAdd]
   refine ⟨fun D vs wq K hQ hd hdep hcl hK=> ?_,?_⟩
   ·have e5:=hQ.vals 5 (depB hdep 5 (by kernel_rfl)) (by decide)
    simp only at e5
    obtain ⟨hx,hp⟩:=(hPH.out.2.1 _ _).mp (hQ.at 1 (by decide) (.inr (depB hdep 12 (by kernel_rfl))) (.inr (closedF hcl 14 13 (by kernel_rfl) hd)))
    have e12:vs 12= .string (bs (putP m5)):=hx
    simp only [e12] at hK ⊢
    clear hx hp
    simp only [e5] at hK ⊢
    go_simp
    exact hK _ _ (hQ.pure (by decide) rfl)
   simp only [Act.put,List.setIfInBounds_toArray,List.set_cons_succ,List.set_cons_zero,Nat.reduceAdd]
   refine ⟨fun D vs wq K hQ hd hdep hcl hK=> ?_,?_⟩
   ·have e13:=hQ.vals 13 (depB hdep 13 (by kernel_rfl)) (by decide)
    simp only at e13
    have d12:=closedB hcl 13 12 (by kernel_rfl) (depB hdep 13 (by kernel_rfl))
    obtain ⟨hx,hp⟩:=(hPH.out.2.1 _ _).mp (hQ.at 1 (by decide) (.inr d12) (.inr hd))
    have hxH:=Hid.mk hx
    have hpH:=Hid.mk hp
    clear hx hp
    simp only [e13] at hK ⊢
    go_simp
    refine hK _ _ (hQ.eff 1 (by decide) (by decide) (.inr d12) hd ((hPH.out.2.2.1 _ _ _).mpr ⟨wq.heap.size,rfl,hpH.out.size,heap_alloc_new _ _,hpH.out.trans ((Below.refl _ wq).alloc (Nat.le_refl _) _ |>.mono hpH.out.size)⟩))
   simp only [Act.put,List.setIfInBounds_toArray,List.set_cons_succ,List.set_cons_zero,Nat.reduceAdd]
   refine ⟨fun D vs wq K hQ hd hdep hcl hK=> ?_,?_⟩
   ·have e4:=hQ.vals 4 (depB hdep 4 (by kernel_rfl)) (by decide)
    simp only at e4
    have d14:=depB hdep 14 (by kernel_rfl)
    obtain ⟨g,hg,hgl,hgr,hgb⟩:=(hPH.out.2.2.1 _ _ _).mp (hQ.at 2 (by decide) (.inr d14) (.inr hd))
    have e14:vs 14= .slice (some ⟨g,0,none⟩) 1 1:=hg
    have hoq:=own_below ho5.out hgb
    have hgrH:=Hid.mk hgr
    have hgbH:=Hid.mk hgb
    have hoqH:=Hid.mk hoq
    clear hg hgl hgr hgb hoq
    refine step_append_lies _ ?ga (.tmp 26) (.tmp 36) 29 ?gb C 88 i0 z0 2 24 hInf.sl hInf.info hInf.zero hInf.hsz hInf.hby hInf.hcl (by decide) out n xs ?gc hoqH.out ⟨g,0,none⟩ 1 1 [.int .i64 tgt,.string (bs (putP m5))] ?gd rfl ?_ ?_ (by decide) ?_ ?_ (Nat.le_trans hCl.out hgbH.out.size) wq.heap.size rfl ?_
    case ga=>rfl
    case gb=>rfl
    case gc=>exact e4
    case gd=>exact e14
    ·intro j u hu
     rw [Addr.add_lit,Nat.zero_add,cell_of_row _ _ _ _ _ _ hgrH.out]
     match j,hu with
     | 0,hu=>exact hu
     | 1,hu=>exact hu
     | j+2,hu=>cases hu
    ·intro u hu; simp at hu; rcases hu with rfl | rfl <;> rfl
    ·have:=hn9.out; unfold maxLen; omega
    ·have:=hn9.out; omega
    intro g2 cap2 wz hO2 hgr2 hgb2 hlt2
    refine hK _ _ (hQ.eff 2 (by decide) (by decide) (.inr d14) hd ((hPH.out.2.2.2.1 _ _ _ _).mpr ⟨_,hO2,wq,hgbH.out,hgr2⟩))
   simp only [Act.put,List.setIfInBounds_toArray,List.set_cons_succ,List.set_cons_zero,Nat.reduceAdd]
   refine ⟨fun D vs wq K hQ hd hdep hcl hK=> ?_,?_⟩
   ·have e0:=hQ.vals 0 (depB hdep 0 (by kernel_rfl)) (by decide)
    simp only at e0
    simp only [e0] at hK ⊢
    go_simp
    exact hK _ _ (hQ.pure (by decide) rfl)
   simp only [Act.put,List.setIfInBounds_toArray,List.set_cons_succ,List.set_cons_zero,Nat.reduceAdd]
   refine ⟨fun D vs wq K hQ hd hdep hcl hK=> ?_,?_⟩
   ·have e16:=hQ.vals 16 (depB hdep 16 (by kernel_rfl)) (by decide)
    simp only at e16
    simp only [e16] at hK ⊢
    go_simp
    exact hK _ _ (hQ.pure (by decide) rfl)
   simp only [Act.put,List.setIfInBounds_toArray,List.set_cons_succ,List.set_cons_zero,Nat.reduceAdd]
   refine ⟨fun D vs wq K hQ hd hdep hcl hK=> ?_,?_⟩
   ·have e17:=hQ.vals 17 (depB hdep 17 (by kernel_rfl)) (by decide)
    simp only at e17
    have d15:=depB hdep 15 (by kernel_rfl)
    obtain ⟨xs2,hO2,wp,hbp,hgr2⟩:=(hPH.out.2.2.2.1 _ _ _ _).mp (hQ.at 3 (by decide) (.inr d15) (.inr hd))
    obtain ⟨oa,oc,e15⟩:=out_slice hO2
    simp only [e15] at hK ⊢
    have hRp:=hR5.out.below hbp
    have hRq:=hRp.grown hgr2 (by intro g hg; exact own_ty (own_below ho5.out hbp) hg)
    have c19:=hRq.cs.c19
    have f19:=frozen_of_row _ _ 19 _ _ hRq.row
    rw [e15] at hO2
    have hRqH:=Hid.mk hRq
    have hO2H:=Hid.mk hO2
    have hbpH:=Hid.mk hbp
    have hgr2H:=Hid.mk hgr2
    have e15H:=Hid.mk e15
    clear hO2 hbp hgr2 hRp hRq e15
    simp only [e17] at hK ⊢
    go_simp
    refine hK undef _ ?_
    exact hQ.eff 3 (by decide) (by decide) (.inr d15) hd ((hPH.out.2.2.2.2.1 _ _ _ _ _).mpr ⟨xs2,oa,oc,e15H.out,wq,hRqH.out,hO2H.out,grown_kx hbpH.out hgr2H.out,by rfl⟩)
   simp only [Act.put,List.setIfInBounds_toArray,List.set_cons_succ,List.set_cons_zero,Nat.reduceAdd]
   intro vs D w6 hS6 hall
   obtain ⟨xs2,oa,oc,hz,wq,hRq,hoq,hbq,hq⟩:=(hPH.out.2.2.2.2.1 _ _ _ _ _).mp (hS6.done (fun t ht=>hall _ (by have h2:t < 4:=ht; rcases (by omega:t=0∨t=1∨t=2∨t=3) with rfl | rfl | rfl | rfl <;> decide)))
   have hX:=Hid.mk (And.intro hRq (And.intro hoq (And.intro hbq hq)))
   clear hS6 hall hS0 hPH hz hRq hoq hbq hq
   go_wp2_with (fail)
   go_end0
   obtain ⟨hRq,hoq,hbq,hq⟩:=hX.out
   subst hq
   refine ⟨rfl,.slice oa (n+1) oc,hRq.set_out _,⟨xs2,?_⟩,((hBk.out.trans (hbq.weak fun i h=> .inr h)).set ⟨R,19,none⟩ _ (.inl rfl))⟩
   exact out_same hoq fun g hg=>Below.heap_setCell _ _ _ _ (fun e=>by
    obtain ⟨cs,hc⟩:=own_ty hoq hg
    have e':g=R:=e
    rw [e',hRq.row] at hc; cases hc)
end
end Go.Proofs.YtniamhbcmcgonaaGreatDoor
namespace Go.Proofs.YtniamhbcmcgonaaGreatDoor
open Go.RowKit Go.Ev
section
variable {B R KB A V M N:Nat} {st vw k2:Int} {mach:Value} {moved:Bool} {vt ms:Array Value} {out:Value} {w:World}
set_option maxRecDepth 100000 in
set_option maxHeartbeats 12800000 in
theorem others_any (h:Rep B R KB A V M N st vw k2 mach moved vt ms nilO w) (hh:HalvesAt w) (hB0:0 < B) (m:Ms) (hkn:m.kn=[]) (hen:m.ents=[]) (hk1:m.kind≠1) :
  Calls Tryz.prog 41 #[.pointer (some ⟨R,0,none⟩),.agg (msC m (.slice none 0 0) (.slice none 0 0))] w fun e w'=>e= .returned (.tuple #[])∧
   ∃ out' xs',Rep B R KB A V M N st vw k2 mach moved vt ms out' w'∧w'.ownsRow B 88 2 out' 2 xs'∧Kx (fun i=>i=R) w w':=by
 have hH:=Hid.mk h
 have hhH:=Hid.mk hh
 have hknH:=Hid.mk hkn
 have henH:=Hid.mk hen
 have hk1H:=Hid.mk hk1
 have hBpos:=Hid.mk hB0
 clear h hh hkn hen hk1 hB0
 unfold msC
 go_enter Tryz.func41,Tryz.ntmps41
 go_upto_region 0 with fail
 go_cut [1,3] (fun _ y wr=>y= .pointer (some ⟨w.heap.size,0,none⟩)∧wr.heap[w.heap.size]?=some (.cells (msC m (.slice none 0 0) (.slice none 0 0)) 35 (0,0))∧Below w.heap.size w wr)
 case first=>as_aux_lemma=>
  go_wp2_with (fail)
  go_meet
  exact ⟨rfl,heap_alloc_new _ _,(Below.refl _ w).alloc (Nat.le_refl _) _⟩
 case rest=>
  obtain ⟨rfl,hS,hB⟩:=hcut
  rename World=>w1
  obtain ⟨S,hSe⟩:∃ S,w.heap.size=S:=⟨_,rfl⟩
  have hR1:=Hid.mk (hH.out.below hB)
  have hBS:=Hid.mk (show B≤S by have:=hH.out.lt; have:=hH.out.rl; omega)
  have hB1:=Hid.mk (show Kx (fun i=>i=R) w w1 from Kx.of hB)
  have hSeH:=Hid.mk hSe
  rw [hSe] at hS ⊢
  have hS1:=Hid.mk hS
  have c11:=hR1.out.cs.c11
  clear hS hB hSe
  go_wp2_with (fail)
  go_loopw [4,10] (fun _ y wr=>∃ i:Nat,i≤3∧y= .int .i64 (i:Nat)∧∃ out' xs',Rep B R KB A V M N st vw k2 mach moved vt ms out' wr∧wr.ownsRow S 88 2 out' (if i=0 then 0 else if i=3 then 2 else 1) xs'∧Kx (fun i=>i=R) w wr∧wr.heap[S]?=some (.cells (msC m (.slice none 0 0) (.slice none 0 0)) 35 (0,0))) (fun _ y _=>3 - (intOf y).toNat)
  case atStart=>exact ⟨0,by omega,rfl,nilO,[],hR1.out,World.ownsRow_nil _ _ _ _,hB1.out,hS1.out⟩
  case round=>
   obtain ⟨i,hi,rfl,out',xs',hR,ho,hBw,hS⟩:=hrel
   have c0:=hR.cs.c0
   have hRH:=Hid.mk hR
   have hoH:=Hid.mk ho
   have hBH:=Hid.mk hBw
   have hSH:=Hid.mk hS
   have hSu:=hS
   unfold msC at hSu
   have hSuH:=Hid.mk hSu
   clear hR ho hBw hS hSu c11
   have hn1:R≠S:=(hRH.out.other hSH.out).1 (by decide)
   have hn2:∀ g,out'.ownBlock=some g→g≠S:=fun g hg e=>by
    obtain ⟨cs,hc⟩:=own_ty hoH.out hg
    rw [e,hSH.out] at hc; cases hc
   have hnS:=Hid.mk (And.intro hn1 hn2)
   clear hn1 hn2
   have hSl:=Hid.mk (show S≤wr.heap.size from Nat.le_of_lt (Array.getElem?_eq_some_iff.1 hSH.out).1)
   have hhr:=Hid.mk (show HalvesAt wr from hhH.out.low (hBH.out.low (N0:=B) (by rw [hSeH.out]; exact hBS.out) (fun i hi hs=>by have:=hRH.out.rl; omega)) hBpos.out)
   have hfin:=Hid.mk (show ∀ (w':World),Kx (fun i=>i=R∨out'.ownBlock=some i) wr w'→Kx (fun i=>i=R) w w'∧w'.heap[S]?=some (.cells (msC m (.slice none 0 0) (.slice none 0 0)) 35 (0,0)) from fun w' hk=>⟨⟨hk.os.trans hBH.out.os,hk.tape.trans hBH.out.tape,hk.output.trans hBH.out.output,Nat.le_trans hBH.out.size hk.size,fun i hi hn=>(hk.block i (Nat.lt_of_lt_of_le hi hBH.out.size) (fun hs=>by
    rcases hs with hs | hs
    ·exact hn hs
    ·have:=(hoH.out.lt i hs).1; have:=hSeH.out; omega)).trans (hBH.out.block i hi hn)⟩,(hk.block S (Array.getElem?_eq_some_iff.1 hSH.out).1 (fun hs=>by
     rcases hs with hs | hs
     ·exact hnS.out.1 hs.symm
     ·exact hnS.out.2 _ hs rfl)).trans hSH.out⟩)
   rcases (by omega:i=0∨i=1∨i=2∨i=3) with rfl | rfl | rfl | rfl
   ·have hsd:=Hid.mk (send_any hRH.out hhr.out 0 (by decide) xs' S hSl.out hoH.out 0 m hknH.out henH.out hk1H.out hBpos.out)
    unfold msC at hsd
    go_wp2_with (first | (refine wpList_load_row rfl 35 _ rfl S rfl _ _ _ _ hSuH.out Tryz.underlying35 rfl (msInfo.trans rfl) ?_) | (go_at_call 38; refine hsd.out.mono ?_; rintro e wz ⟨rfl,hX⟩; replace hX:=Hid.mk hX))
    obtain ⟨o2,x2,hR2,ho2,hk⟩:=hX.out
    obtain ⟨f1,f2⟩:=hfin.out _ hk
    exact ⟨⟨1,by omega,rfl,o2,x2,hR2,ho2,f1,f2⟩,by simp [intOf]⟩
   ·go_wp2_with (fail)
    exact ⟨⟨2,by omega,rfl,out',xs',hRH.out,hoH.out,hBH.out,hSH.out⟩,by simp [intOf]⟩
   ·have hsd:=Hid.mk (send_any hRH.out hhr.out 1 (by decide) xs' S hSl.out hoH.out 2 m hknH.out henH.out hk1H.out hBpos.out)
    unfold msC at hsd
    go_wp2_with (first | (refine wpList_load_row rfl 35 _ rfl S rfl _ _ _ _ hSuH.out Tryz.underlying35 rfl (msInfo.trans rfl) ?_) | (go_at_call 38; refine hsd.out.mono ?_; rintro e wz ⟨rfl,hX⟩; replace hX:=Hid.mk hX))
    obtain ⟨o2,x2,hR2,ho2,hk⟩:=hX.out
    obtain ⟨f1,f2⟩:=hfin.out _ hk
    exact ⟨⟨3,by omega,rfl,o2,x2,hR2,ho2,f1,f2⟩,by simp [intOf]⟩
   ·go_wp2_with (fail)
    go_end0
    exact ⟨rfl,out',hRH.out,⟨xs',own_mono hoH.out hBS.out⟩,hBH.out⟩
set_option maxRecDepth 100000 in
set_option maxHeartbeats 3200000 in
theorem holds_b (b:Bool) (w:World):Calls Tryz.prog 104 #[.bool b] w fun e w'=>e= .returned (.bool b)∧w=w':=by
 go_enter Tryz.func104,Tryz.ntmps104
 go_wp2_with (fail)
 go_ret
 exact ⟨rfl,rfl⟩
set_option maxRecDepth 100000 in
set_option maxHeartbeats 3200000 in
theorem count_b (V:Nat) (w:World) (h:w.heap[V]?=some (.cells #[.bool false,.bool true,.bool true] 4 (0,0))):Calls Tryz.prog 103 #[.slice (some ⟨V,0,none⟩) 3 3,.func (.func 104) #[] #[]] w fun e w'=>e= .returned (.int .i64 2)∧w'=w:=by
 have v0:w.cell? ⟨V,0,none⟩=some (.bool false):=(cell_of_row _ _ _ _ _ _ h).trans rfl
 have v1:w.cell? ⟨V,1,none⟩=some (.bool true):=(cell_of_row _ _ _ _ _ _ h).trans rfl
 have v2:w.cell? ⟨V,2,none⟩=some (.bool true):=(cell_of_row _ _ _ _ _ _ h).trans rfl
 clear h
 go_enter Tryz.func103,Tryz.ntmps103
 go_wp2_with (fail)
 go_loopw [5,7,10] (fun x _ y wr=>wr=w∧∃ i:Nat,i≤3∧y= .int .i64 (i:Nat)∧x= .int .i64 ((if i≤1 then 0 else i - 1:Nat):Int)) (fun _ _ y _=>3 - (intOf y).toNat)
 case atStart=>exact ⟨rfl,0,by omega,rfl,rfl⟩
 case round=>
  obtain ⟨hwr,i,hi,rfl,rfl⟩:=hrel
  subst hwr
  have hb:=Hid.mk (fun b=>holds_b b wr)
  rcases (by omega:i=0∨i=1∨i=2∨i=3) with rfl | rfl | rfl | rfl
  ·go_wp2_with (go_at_call 104; refine (hb.out _).mono ?_; rintro e wz ⟨rfl,rfl⟩)
   exact ⟨⟨trivial,1,by omega,rfl,rfl⟩,by simp [intOf]⟩
  ·go_wp2_with (go_at_call 104; refine (hb.out _).mono ?_; rintro e wz ⟨rfl,rfl⟩)
   exact ⟨⟨trivial,2,by omega,rfl,rfl⟩,by simp [intOf]⟩
  ·go_wp2_with (go_at_call 104; refine (hb.out _).mono ?_; rintro e wz ⟨rfl,rfl⟩)
   exact ⟨⟨trivial,3,by omega,rfl,rfl⟩,by simp [intOf]⟩
  ·go_wp2_with (fail)
   go_ret
   exact ⟨rfl,rfl⟩
set_option maxRecDepth 100000 in
set_option maxHeartbeats 3200000 in
theorem holds_m (p:Option Addr) (w:World):Calls Tryz.prog 105 #[.pointer p] w fun e w'=>e= .returned (.bool (decide (p≠none)))∧w=w':=by
 cases p with
 | none=>
  go_enter Tryz.func105,Tryz.ntmps105
  go_wp2_with (fail)
  go_ret
  exact ⟨rfl,rfl⟩
 | some a=>
  go_enter Tryz.func105,Tryz.ntmps105
  go_wp2_with (fail)
  go_ret
  exact ⟨rfl,rfl⟩
set_option maxRecDepth 100000 in
set_option maxHeartbeats 3200000 in
theorem count_m (V:Nat) (a:Addr) (w:World) (h:w.heap[V]?=some (.cells #[.pointer none,.pointer (some a),.pointer none] 103 (0,0))):Calls Tryz.prog 69 #[.slice (some ⟨V,0,none⟩) 3 3,.func (.func 105) #[] #[]] w fun e w'=>e= .returned (.int .i64 1)∧w'=w:=by
 have v0:w.cell? ⟨V,0,none⟩=some (.pointer none):=(cell_of_row _ _ _ _ _ _ h).trans rfl
 have v1:w.cell? ⟨V,1,none⟩=some (.pointer (some a)):=(cell_of_row _ _ _ _ _ _ h).trans rfl
 have v2:w.cell? ⟨V,2,none⟩=some (.pointer none):=(cell_of_row _ _ _ _ _ _ h).trans rfl
 clear h
 go_enter Tryz.func69,Tryz.ntmps69
 go_wp2_with (fail)
 go_loopw [5,7,10] (fun x _ y wr=>wr=w∧∃ i:Nat,i≤3∧y= .int .i64 (i:Nat)∧x= .int .i64 ((if i≤1 then 0 else 1:Nat):Int)) (fun _ _ y _=>3 - (intOf y).toNat)
 case atStart=>exact ⟨rfl,0,by omega,rfl,rfl⟩
 case round=>
  obtain ⟨hwr,i,hi,rfl,rfl⟩:=hrel
  subst hwr
  have hb:=Hid.mk (fun b=>holds_m b wr)
  rcases (by omega:i=0∨i=1∨i=2∨i=3) with rfl | rfl | rfl | rfl
  ·go_wp2_with (go_at_call 105; refine (hb.out _).mono ?_; rintro e wz ⟨rfl,rfl⟩)
   exact ⟨⟨trivial,1,by omega,rfl,rfl⟩,by simp [intOf]⟩
  ·go_wp2_with (go_at_call 105; refine (hb.out _).mono ?_; rintro e wz ⟨rfl,rfl⟩)
   exact ⟨⟨trivial,2,by omega,rfl,rfl⟩,by simp [intOf]⟩
  ·go_wp2_with (go_at_call 105; refine (hb.out _).mono ?_; rintro e wz ⟨rfl,rfl⟩)
   exact ⟨⟨trivial,3,by omega,rfl,rfl⟩,by simp [intOf]⟩
  ·go_wp2_with (fail)
   go_ret
   exact ⟨rfl,rfl⟩
end
end Go.Proofs.YtniamhbcmcgonaaGreatDoor
namespace Go.Proofs.YtniamhbcmcgonaaGreatDoor
open Go.RowKit Go.Ev
def mT (k v:Int):Ms:={ kind:=k,from_:=0,born:=0,kn:=[],view:=v,last:=0,op:=0,commit:=0,client:=0,number:=0,nonce:=0,text:=[],full:=false,base:=0,state:=[],ents:=[] }
theorem wp_build_is {P:Program} {o:Oper} {a:Act} {w:World} {K:Act→World→Prop} {Q:Exit→Act→World→Prop} (t:TypeId) (parts:Array (Nat × Operand)) (ho:o.op= .build t parts) (cells:Array Value)
  (hc:P.built t (parts.toList.map fun (i,x)=>(i,a.eval x))=some cells) (h:K (a.put o.dst (.agg cells)) w):o.wp P a w K Q:=by
 have hc':P.built t (parts.map fun (i,x)=>(i,a.eval x)).toList=some cells:=by rw [Array.toList_map]; exact hc
 refine wp_build t parts ho (by rw [hc']; rfl) ?_
 rw [hc']; exact h
theorem built_mT (vw:Int):Tryz.prog.built 35 [(0,.int .i64 7),(4,.int .i64 vw),(6,.int .i64 0),(7,.int .i64 0),(13,.int .i64 0),(14,.string (bs [])),(15,.slice none 0 0)]=some (msC (mT 7 vw) (.slice none 0 0) (.slice none 0 0)):=by kernel_rfl
section
variable {B R KB A V M N:Nat} {st vw k2:Int} {mach:Value} {moved:Bool} {vt ms:Array Value} {out:Value} {w:World}
set_option maxRecDepth 100000 in
set_option maxHeartbeats 6400000 in
theorem tail_own (h:Rep B R KB A V M N st vw k2 mach moved vt ms out w):Calls Tryz.prog 49 #[.pointer (some ⟨R,0,none⟩),.int .i64 7] w fun e w'=>e= .returned (.agg (msC (mT 7 vw) (.slice none 0 0) (.slice none 0 0)))∧Below w.heap.size w w':=by
 have hm:Tryz.prog.follows .mixedOrders=true:=by kernel_rfl
 have hH:=Hid.mk h
 clear h
 go_enter Tryz.func49,Tryz.ntmps49
 go_upto_region 0 with fail
 go_cut [4] (fun y wr=>y= .pointer (some ⟨w.heap.size,0,none⟩)∧wr.heap[w.heap.size]?=some (.cells (msC msZ nilS nilS) 35 (0,0))∧Below w.heap.size w wr)
 case first=>as_aux_lemma=>
  go_wp2_with (fail)
  go_meet
  exact ⟨rfl,heap_alloc_new _ _,(Below.refl _ w).alloc (Nat.le_refl _) _⟩
 case rest=>
  obtain ⟨rfl,hS,hB⟩:=hcut
  rename World=>w1
  obtain ⟨S,hSe⟩:∃ S,w.heap.size=S:=⟨_,rfl⟩
  have hR1:=Hid.mk (hH.out.below hB)
  rw [hSe] at hS hB ⊢
  have hSH:=Hid.mk hS
  have hBH:=Hid.mk hB
  have hSl:=Hid.mk (Array.getElem?_eq_some_iff.1 hS).1
  have hSeH:=Hid.mk hSe
  clear hS hB hSe hH
  go_upto_region 1 with fail
  go_cut [34] (fun _ wr=>wr.heap[S]?=some (.cells (msC (mT 7 vw) (.slice none 0 0) (.slice none 0 0)) 35 (0,0))∧Below S w wr)
  case first=>as_aux_lemma=>
   obtain ⟨Pp,hPp⟩:∃ P:List Value→World→Prop,P=fun l v=>match l with | []=>Below w1.heap.size w1 v | [x]=>x= .int .i64 0∧Below w1.heap.size w1 v | _=>v.heap[S]?=some (.cells (msC (mT 7 vw) (.slice none 0 0) (.slice none 0 0)) 35 (0,0))∧Below S w v:=⟨_,rfl⟩
   have hP0:∀ v,Pp [] v=Below w1.heap.size w1 v:=fun v=>by rw [hPp]
   have hP1:∀ x v,Pp [x] v=(x= .int .i64 0∧Below w1.heap.size w1 v):=fun x v=>by rw [hPp]
   have hP2:∀ x y v,Pp [x,y] v=(v.heap[S]?=some (.cells (msC (mT 7 vw) (.slice none 0 0) (.slice none 0 0)) 35 (0,0))∧Below S w v):=fun x y v=>by rw [hPp]
   have hPB:∀ j (vs:Nat→Value) v,j≤1→Pp (([9,30].take j).map vs) v→Below w1.heap.size w1 v:=fun j vs v hj hp=>by
    rcases (by omega:j=0∨j=1) with rfl | rfl
    ·exact (hP0 v).mp hp
    ·exact ((hP1 _ v).mp hp).2
   clear hPp
   have hS0:=EC.start [9,30] (fun i=>match i with | 0=> .int .i64 7 | 3=> .pointer (some ⟨R,3,none⟩) | 4=> .int .i64 vw | 7=> .pointer (some ⟨R,5,none⟩) | 8=> .agg #[.int .i64 0,.string (bs []),.slice none 0 0] | 12=> .pointer (some ⟨R,8,none⟩) | 13=> .int .i64 0 | 16=> .pointer (some ⟨R,5,none⟩) | 17=> .pointer (some ⟨R,5,none⟩) | 18=> .int .i64 0 | 21=> .pointer (some ⟨R,5,none⟩) | 22=> .pointer (some ⟨R,6,none⟩) | 23=> .string (bs []) | 26=> .pointer (some ⟨R,5,none⟩) | 27=> .pointer (some ⟨R,7,none⟩) | 28=> .slice none 0 0 | 29=> .agg (msC (mT 7 vw) (.slice none 0 0) (.slice none 0 0)) | 30=>undef | _=> .pointer (some ⟨R,0,none⟩)) (P:=Pp) (W:=w1.drew) ((hP0 _).mpr (Below.refl _ w1).drew)
   have hPH:=Hid.mk (And.intro hP0 (And.intro hP1 (And.intro hP2 hPB)))
   clear hP0 hP1 hP2 hPB
   go_wp2_with (fail)
   refine Go.Ev.wp_region_inv _ hm (by kernel_rfl) (by kernel_rfl) hS0 ?_
   refine ⟨fun D vs wq K hQ hd hdep hcl hK=> ?_,?_⟩
   ·go_simp
    exact hK _ _ (hQ.pure (by decide) rfl)
   simp only [Act.put,List.setIfInBounds_toArray,List.set_cons_succ,List.set_cons_zero,Nat.reduceAdd]
   refine ⟨fun D vs wq K hQ hd hdep hcl hK=> ?_,?_⟩
   ·go_simp
    exact hK _ _ (hQ.pure (by decide) rfl)
   simp only [Act.put,List.setIfInBounds_toArray,List.set_cons_succ,List.set_cons_zero,Nat.reduceAdd]
   refine ⟨fun D vs wq K hQ hd hdep hcl hK=> ?_,?_⟩
   ·have e1:=hQ.vals 1 (depB hdep 1 (by kernel_rfl)) (by decide)
    simp only at e1
    simp only [e1] at hK ⊢
    go_simp
    exact hK _ _ (hQ.pure (by decide) rfl)
   simp only [Act.put,List.setIfInBounds_toArray,List.set_cons_succ,List.set_cons_zero,Nat.reduceAdd]
   refine ⟨fun D vs wq K hQ hd hdep hcl hK=> ?_,?_⟩
   ·have e2:=hQ.vals 2 (depB hdep 2 (by kernel_rfl)) (by decide)
    simp only at e2
    simp only [e2] at hK ⊢
    go_simp
    exact hK _ _ (hQ.pure (by decide) rfl)
   simp only [Act.put,List.setIfInBounds_toArray,List.set_cons_succ,List.set_cons_zero,Nat.reduceAdd]
   refine ⟨fun D vs wq K hQ hd hdep hcl hK=> ?_,?_⟩
   ·have e3:=hQ.vals 3 (depB hdep 3 (by kernel_rfl)) (by decide)
    simp only at e3
    obtain ⟨j,hj,hp⟩:=hQ.upto 1 (closedF hcl 30 4 (by kernel_rfl) hd) (by decide)
    have hbq:=hPH.out.2.2.2 _ _ _ hj hp
    have hC:=(hR1.out.below hbq).cs
    have c3:=hC.c3
    clear hbq hC hp
    simp only [e3] at hK ⊢
    go_simp
    exact hK _ _ (hQ.pure (by decide) rfl)
   simp only [Act.put,List.setIfInBounds_toArray,List.set_cons_succ,List.set_cons_zero,Nat.reduceAdd]
   refine ⟨fun D vs wq K hQ hd hdep hcl hK=> ?_,?_⟩
   ·go_simp
    exact hK _ _ (hQ.pure (by decide) rfl)
   simp only [Act.put,List.setIfInBounds_toArray,List.set_cons_succ,List.set_cons_zero,Nat.reduceAdd]
   refine ⟨fun D vs wq K hQ hd hdep hcl hK=> ?_,?_⟩
   ·have e5:=hQ.vals 5 (depB hdep 5 (by kernel_rfl)) (by decide)
    simp only at e5
    simp only [e5] at hK ⊢
    go_simp
    exact hK _ _ (hQ.pure (by decide) rfl)
   simp only [Act.put,List.setIfInBounds_toArray,List.set_cons_succ,List.set_cons_zero,Nat.reduceAdd]
   refine ⟨fun D vs wq K hQ hd hdep hcl hK=> ?_,?_⟩
   ·have e6:=hQ.vals 6 (depB hdep 6 (by kernel_rfl)) (by decide)
    simp only at e6
    simp only [e6] at hK ⊢
    go_simp
    exact hK _ _ (hQ.pure (by decide) rfl)
   simp only [Act.put,List.setIfInBounds_toArray,List.set_cons_succ,List.set_cons_zero,Nat.reduceAdd]
   refine ⟨fun D vs wq K hQ hd hdep hcl hK=> ?_,?_⟩
   ·have e7:=hQ.vals 7 (depB hdep 7 (by kernel_rfl)) (by decide)
    simp only at e7
    obtain ⟨j,hj,hp⟩:=hQ.upto 1 (closedF hcl 30 8 (by kernel_rfl) hd) (by decide)
    have hbq:=hPH.out.2.2.2 _ _ _ hj hp
    have hC:=(hR1.out.below hbq).cs
    have c5:=hC.c5
    have c6:=hC.c6
    have c7:=hC.c7
    clear hbq hC hp
    simp only [e7] at hK ⊢
    go_simp
    exact hK _ _ (hQ.pure (by decide) rfl)
   simp only [Act.put,List.setIfInBounds_toArray,List.set_cons_succ,List.set_cons_zero,Nat.reduceAdd]
   refine ⟨fun D vs wq K hQ hd hdep hcl hK=> ?_,?_⟩
   ·have e8:=hQ.vals 8 (depB hdep 8 (by kernel_rfl)) (by decide)
    simp only at e8
    have h30:=closedF hcl 30 9 (by kernel_rfl) hd
    have hp:=(hPH.out.1 _).mp (hQ.at 0 (by decide) (.inl rfl) (.inr hd))
    have hpH:=Hid.mk hp
    clear hp
    simp only [e8] at hK ⊢
    go_wp2_with (fail)
    go_at_call 15
    refine (op0 wq).mono ?_
    rintro e wz ⟨rfl,hBz⟩
    have hBzH:=Hid.mk hBz
    clear hBz
    go_wp2_with (fail)
    exact hQ.eff 0 (by decide) (by decide) (.inl rfl) hd ((hPH.out.2.1 _ _).mpr ⟨rfl,hpH.out.trans (hBzH.out.mono hpH.out.size)⟩)
   simp only [Act.put,List.setIfInBounds_toArray,List.set_cons_succ,List.set_cons_zero,Nat.reduceAdd]
   refine ⟨fun D vs wq K hQ hd hdep hcl hK=> ?_,?_⟩
   ·go_simp
    exact hK _ _ (hQ.pure (by decide) rfl)
   simp only [Act.put,List.setIfInBounds_toArray,List.set_cons_succ,List.set_cons_zero,Nat.reduceAdd]
   refine ⟨fun D vs wq K hQ hd hdep hcl hK=> ?_,?_⟩
   ·have e10:=hQ.vals 10 (depB hdep 10 (by kernel_rfl)) (by decide)
    simp only at e10
    simp only [e10] at hK ⊢
    go_simp
    exact hK _ _ (hQ.pure (by decide) rfl)
   simp only [Act.put,List.setIfInBounds_toArray,List.set_cons_succ,List.set_cons_zero,Nat.reduceAdd]
   refine ⟨fun D vs wq K hQ hd hdep hcl hK=> ?_,?_⟩
   ·have e11:=hQ.vals 11 (depB hdep 11 (by kernel_rfl)) (by decide)
    simp only at e11
    simp only [e11] at hK ⊢
    go_simp
    exact hK _ _ (hQ.pure (by decide) rfl)
   simp only [Act.put,List.setIfInBounds_toArray,List.set_cons_succ,List.set_cons_zero,Nat.reduceAdd]
   refine ⟨fun D vs wq K hQ hd hdep hcl hK=> ?_,?_⟩
   ·have e12:=hQ.vals 12 (depB hdep 12 (by kernel_rfl)) (by decide)
    simp only at e12
    obtain ⟨j,hj,hp⟩:=hQ.upto 1 (closedF hcl 30 13 (by kernel_rfl) hd) (by decide)
    have hbq:=hPH.out.2.2.2 _ _ _ hj hp
    have hC:=(hR1.out.below hbq).cs
    have c8:=hC.c8
    clear hbq hC hp
    simp only [e12] at hK ⊢
    go_simp
    exact hK _ _ (hQ.pure (by decide) rfl)
   simp only [Act.put,List.setIfInBounds_toArray,List.set_cons_succ,List.set_cons_zero,Nat.reduceAdd]
   refine ⟨fun D vs wq K hQ hd hdep hcl hK=> ?_,?_⟩
   ·go_simp
    exact hK _ _ (hQ.pure (by decide) rfl)
   simp only [Act.put,List.setIfInBounds_toArray,List.set_cons_succ,List.set_cons_zero,Nat.reduceAdd]
   refine ⟨fun D vs wq K hQ hd hdep hcl hK=> ?_,?_⟩
   ·have e14:=hQ.vals 14 (depB hdep 14 (by kernel_rfl)) (by decide)
    simp only at e14
    simp only [e14] at hK ⊢
    go_simp
    exact hK _ _ (hQ.pure (by decide) rfl)
   simp only [Act.put,List.setIfInBounds_toArray,List.set_cons_succ,List.set_cons_zero,Nat.reduceAdd]
   refine ⟨fun D vs wq K hQ hd hdep hcl hK=> ?_,?_⟩
   ·have e15:=hQ.vals 15 (depB hdep 15 (by kernel_rfl)) (by decide)
    simp only at e15
    simp only [e15] at hK ⊢
    go_simp
    exact hK _ _ (hQ.pure (by decide) rfl)
   simp only [Act.put,List.setIfInBounds_toArray,List.set_cons_succ,List.set_cons_zero,Nat.reduceAdd]
   refine ⟨fun D vs wq K hQ hd hdep hcl hK=> ?_,?_⟩
   ·have e16:=hQ.vals 16 (depB hdep 16 (by kernel_rfl)) (by decide)
    simp only at e16
    simp only [e16] at hK ⊢
    go_simp
    exact hK _ _ (hQ.pure (by decide) rfl)
   simp only [Act.put,List.setIfInBounds_toArray,List.set_cons_succ,List.set_cons_zero,Nat.reduceAdd]
   refine ⟨fun D vs wq K hQ hd hdep hcl hK=> ?_,?_⟩
   ·have e17:=hQ.vals 17 (depB hdep 17 (by kernel_rfl)) (by decide)
    simp only at e17
    obtain ⟨j,hj,hp⟩:=hQ.upto 1 (closedF hcl 30 18 (by kernel_rfl) hd) (by decide)
    have hbq:=hPH.out.2.2.2 _ _ _ hj hp
    have hC:=(hR1.out.below hbq).cs
    have c5:=hC.c5
    clear hbq hC hp
    simp only [e17] at hK ⊢
    go_simp
    exact hK _ _ (hQ.pure (by decide) rfl)
   simp only [Act.put,List.setIfInBounds_toArray,List.set_cons_succ,List.set_cons_zero,Nat.reduceAdd]
   refine ⟨fun D vs wq K hQ hd hdep hcl hK=> ?_,?_⟩
   ·go_simp
    exact hK _ _ (hQ.pure (by decide) rfl)
   simp only [Act.put,List.setIfInBounds_toArray,List.set_cons_succ,List.set_cons_zero,Nat.reduceAdd]
   refine ⟨fun D vs wq K hQ hd hdep hcl hK=> ?_,?_⟩
   ·have e19:=hQ.vals 19 (depB hdep 19 (by kernel_rfl)) (by decide)
    simp only at e19
    simp only [e19] at hK ⊢
    go_simp
    exact hK _ _ (hQ.pure (by decide) rfl)
   simp only [Act.put,List.setIfInBounds_toArray,List.set_cons_succ,List.set_cons_zero,Nat.reduceAdd]
   refine ⟨fun D vs wq K hQ hd hdep hcl hK=> ?_,?_⟩
   ·have e20:=hQ.vals 20 (depB hdep 20 (by kernel_rfl)) (by decide)
    simp only at e20
    simp only [e20] at hK ⊢
    go_simp
    exact hK _ _ (hQ.pure (by decide) rfl)
   simp only [Act.put,List.setIfInBounds_toArray,List.set_cons_succ,List.set_cons_zero,Nat.reduceAdd]
   refine ⟨fun D vs wq K hQ hd hdep hcl hK=> ?_,?_⟩
   ·have e21:=hQ.vals 21 (depB hdep 21 (by kernel_rfl)) (by decide)
    simp only at e21
    simp only [e21] at hK ⊢
    go_simp
    exact hK _ _ (hQ.pure (by decide) rfl)
   simp only [Act.put,List.setIfInBounds_toArray,List.set_cons_succ,List.set_cons_zero,Nat.reduceAdd]
   refine ⟨fun D vs wq K hQ hd hdep hcl hK=> ?_,?_⟩
   ·have e22:=hQ.vals 22 (depB hdep 22 (by kernel_rfl)) (by decide)
    simp only at e22
    obtain ⟨j,hj,hp⟩:=hQ.upto 1 (closedF hcl 30 23 (by kernel_rfl) hd) (by decide)
    have hbq:=hPH.out.2.2.2 _ _ _ hj hp
    have hC:=(hR1.out.below hbq).cs
    have c6:=hC.c6
    clear hbq hC hp
    simp only [e22] at hK ⊢
    go_simp
    exact hK _ _ (hQ.pure (by decide) rfl)
   simp only [Act.put,List.setIfInBounds_toArray,List.set_cons_succ,List.set_cons_zero,Nat.reduceAdd]
   refine ⟨fun D vs wq K hQ hd hdep hcl hK=> ?_,?_⟩
   ·go_simp
    exact hK _ _ (hQ.pure (by decide) rfl)
   simp only [Act.put,List.setIfInBounds_toArray,List.set_cons_succ,List.set_cons_zero,Nat.reduceAdd]
   refine ⟨fun D vs wq K hQ hd hdep hcl hK=> ?_,?_⟩
   ·have e24:=hQ.vals 24 (depB hdep 24 (by kernel_rfl)) (by decide)
    simp only at e24
    simp only [e24] at hK ⊢
    go_simp
    exact hK _ _ (hQ.pure (by decide) rfl)
   simp only [Act.put,List.setIfInBounds_toArray,List.set_cons_succ,List.set_cons_zero,Nat.reduceAdd]
   refine ⟨fun D vs wq K hQ hd hdep hcl hK=> ?_,?_⟩
   ·have e25:=hQ.vals 25 (depB hdep 25 (by kernel_rfl)) (by decide)
    simp only at e25
    simp only [e25] at hK ⊢
    go_simp
    exact hK _ _ (hQ.pure (by decide) rfl)
   simp only [Act.put,List.setIfInBounds_toArray,List.set_cons_succ,List.set_cons_zero,Nat.reduceAdd]
   refine ⟨fun D vs wq K hQ hd hdep hcl hK=> ?_,?_⟩
   ·have e26:=hQ.vals 26 (depB hdep 26 (by kernel_rfl)) (by decide)
    simp only at e26
    simp only [e26] at hK ⊢
    go_simp
    exact hK _ _ (hQ.pure (by decide) rfl)
   simp only [Act.put,List.setIfInBounds_toArray,List.set_cons_succ,List.set_cons_zero,Nat.reduceAdd]
   refine ⟨fun D vs wq K hQ hd hdep hcl hK=> ?_,?_⟩
   ·have e27:=hQ.vals 27 (depB hdep 27 (by kernel_rfl)) (by decide)
    simp only at e27
    obtain ⟨j,hj,hp⟩:=hQ.upto 1 (closedF hcl 30 28 (by kernel_rfl) hd) (by decide)
    have hbq:=hPH.out.2.2.2 _ _ _ hj hp
    have hC:=(hR1.out.below hbq).cs
    have c7:=hC.c7
    clear hbq hC hp
    simp only [e27] at hK ⊢
    go_simp
    exact hK _ _ (hQ.pure (by decide) rfl)
   simp only [Act.put,List.setIfInBounds_toArray,List.set_cons_succ,List.set_cons_zero,Nat.reduceAdd]
   refine ⟨fun D vs wq K hQ hd hdep hcl hK=> ?_,?_⟩
   ·have e0:=hQ.vals 0 (depB hdep 0 (by kernel_rfl)) (by decide)
    simp only at e0
    have e4:=hQ.vals 4 (depB hdep 4 (by kernel_rfl)) (by decide)
    simp only at e4
    have e13:=hQ.vals 13 (depB hdep 13 (by kernel_rfl)) (by decide)
    simp only at e13
    have e18:=hQ.vals 18 (depB hdep 18 (by kernel_rfl)) (by decide)
    simp only at e18
    have e23:=hQ.vals 23 (depB hdep 23 (by kernel_rfl)) (by decide)
    simp only at e23
    have e28:=hQ.vals 28 (depB hdep 28 (by kernel_rfl)) (by decide)
    simp only at e28
    have h30:=closedF hcl 30 29 (by kernel_rfl) hd
    have hp:=(hPH.out.2.1 _ _).mp (hQ.at 1 (by decide) (.inr (depB hdep 9 (by kernel_rfl))) (.inr h30))
    have e9:vs 9= .int .i64 0:=hp.1
    simp only [e9] at hK ⊢
    clear hp
    simp only [e0,e4,e13,e18,e23,e28] at hK ⊢
    refine ite_of rfl ?_
    refine wp_build_is 35 _ rfl (msC (mT 7 vw) (.slice none 0 0) (.slice none 0 0)) (built_mT vw) ?_
    exact hK _ _ (hQ.pure (by decide) rfl)
   simp only [Act.put,List.setIfInBounds_toArray,List.set_cons_succ,List.set_cons_zero,Nat.reduceAdd]
   refine ⟨fun D vs wq K hQ hd hdep hcl hK=> ?_,?_⟩
   ·have e29:=hQ.vals 29 (depB hdep 29 (by kernel_rfl)) (by decide)
    simp only at e29
    have hp:=(hPH.out.2.1 _ _).mp (hQ.at 1 (by decide) (.inr (depB hdep 9 (by kernel_rfl))) (.inr hd))
    have d9:=depB hdep 9 (by kernel_rfl)
    have hSq:=(hp.2.block S hSl.out).trans hSH.out
    have hBq:=hBH.out.trans (hp.2.mono (Nat.le_of_lt hSl.out))
    simp only [e29] at hK ⊢
    refine ite_of rfl ?_
    refine wp_store_row 35 _ _ rfl S (msC (mT 7 vw) (.slice none 0 0) (.slice none 0 0)) rfl rfl 35 _ hSq (msInfo.trans rfl) rfl (one_msC _ _ _ _ _ _ _) ?_
    refine hK undef _ ?_
    exact hQ.eff 1 (by decide) (by decide) (.inr d9) hd ((hPH.out.2.2.1 _ _ _).mpr ⟨setRow_heap _ _ _ _ _ _ hSq,setRow_low hBq _ _ (Nat.le_refl _)⟩)
   simp only [Act.put,List.setIfInBounds_toArray,List.set_cons_succ,List.set_cons_zero,Nat.reduceAdd]
   intro vs D w6 hS6 hall
   have hp:=(hPH.out.2.2.1 _ _ _).mp (hS6.done (fun t ht=>hall _ (by have h2:t < 2:=ht; rcases (by omega:t=0∨t=1) with rfl | rfl <;> decide)))
   have hpH:=Hid.mk hp
   clear hp hS6 hall hS0
   go_wp2_with (fail)
   go_meet
   exact hpH.out
  case rest=>
   obtain ⟨hS,hB⟩:=hcut
   rename World=>w2
   go_wp2_with (fail)
   exact bodyPost_ret (results_cell_row rfl _ _ S _ _ _ _ rfl hS Tryz.underlying35 rfl (msInfo.trans rfl)) rfl ⟨rfl,by rw [hSeH.out]; exact hB⟩
set_option maxRecDepth 100000 in
set_option maxHeartbeats 6400000 in
theorem own_any (h:Rep B R KB A V M N st vw k2 mach moved vt ms out w):Calls Tryz.prog 79 #[.pointer (some ⟨R,0,none⟩)] w fun e w'=>e= .returned (.agg (msC (mT 7 vw) (.slice none 0 0) (.slice none 0 0)))∧Below w.heap.size w w':=by
 have hH:=Hid.mk h
 clear h
 go_enter Tryz.func79,Tryz.ntmps79
 go_upto_region 0 with fail
 go_cut [2] (fun y wr=>y= .pointer (some ⟨w.heap.size,0,none⟩)∧wr.heap[w.heap.size]?=some (.cells (msC msZ nilS nilS) 35 (0,0))∧Below w.heap.size w wr)
 case first=>as_aux_lemma=>
  go_wp2_with (fail)
  go_meet
  exact ⟨rfl,heap_alloc_new _ _,(Below.refl _ w).alloc (Nat.le_refl _) _⟩
 case rest=>
  obtain ⟨rfl,hS,hB⟩:=hcut
  rename World=>w1
  obtain ⟨S,hSe⟩:∃ S,w.heap.size=S:=⟨_,rfl⟩
  have hR1:=Hid.mk (hH.out.below hB)
  rw [hSe] at hS hB ⊢
  have hSH:=Hid.mk hS
  have hBH:=Hid.mk hB
  have hSl:=Hid.mk (Array.getElem?_eq_some_iff.1 hS).1
  have hSeH:=Hid.mk hSe
  clear hS hB hSe hH
  go_upto_region 1 with fail
  go_cut [3] (fun y wr=>∃ T,y= .pointer (some ⟨T,0,none⟩)∧wr.heap[T]?=some (.cells (msC (mT 7 vw) (.slice none 0 0) (.slice none 0 0)) 35 (0,0))∧S < T∧Rep B R KB A V M N st vw k2 mach moved vt ms out wr∧wr.heap[S]?=some (.cells (msC msZ nilS nilS) 35 (0,0))∧Below S w wr)
  case first=>as_aux_lemma=>
   go_wp2_with (fail)
   go_at_call 49
   refine (tail_own hR1.out).mono ?_
   rintro e wz ⟨rfl,hBz⟩
   have hBzH:=Hid.mk hBz
   have hcl:=Hid.mk (heap_alloc_new wz (.cells (msC msZ nilS nilS) 35))
   clear hBz
   unfold msC mT
   simp only
   go_wp2_with (first | (refine wpList_store_row rfl 35 _ _ rfl wz.heap.size (msC (mT 7 vw) (.slice none 0 0) (.slice none 0 0)) rfl rfl 35 _ hcl.out (msInfo.trans rfl) rfl (one_msC _ _ _ _ _ _ _) ?_))
   go_meet
   have hr:=setRow_heap (wz.alloc (.cells (msC msZ nilS nilS) 35)) wz.heap.size _ (msC (mT 7 vw) (.slice none 0 0) (.slice none 0 0)) 35 _ hcl.out
   have hBa:Below wz.heap.size wz ((wz.alloc (.cells (msC msZ nilS nilS) 35)).setRow wz.heap.size (msC (mT 7 vw) (.slice none 0 0) (.slice none 0 0))):=setRow_low ((Below.refl _ wz).alloc (Nat.le_refl _) _) _ _ (Nat.le_refl _)
   have hs:=hSl.out
   have hz:=hBzH.out.size
   exact ⟨wz.heap.size,rfl,hr,by omega,(hR1.out.below hBzH.out).below hBa,(hBa.block S (by omega)).trans ((hBzH.out.block S hs).trans hSH.out),hBH.out.trans ((hBzH.out.mono (by omega)).trans (hBa.mono (by omega)))⟩
  case rest=>
   clear hR1 hSH hBH
   obtain ⟨T,rfl,hT,hST,hR,hS,hB⟩:=hcut
   rename World=>w2
   have c4:=hR.cs.c4
   have c5:w2.cell? ⟨T,5,none⟩=some (.int .i64 0):=(cell_of_row _ _ _ _ _ _ hT).trans rfl
   have f5:=frozen_of_row _ _ 5 _ _ hT
   have hTH:=Hid.mk hT
   have hSH:=Hid.mk hS
   have hBH:=Hid.mk hB
   have hSTH:=Hid.mk hST
   have h2:∀ j,j≠T→(w2.setCell ⟨T,5,none⟩ (.int .i64 0)).heap[j]?=w2.heap[j]?:=fun j hj=>Below.heap_setCell _ _ _ _ (by simpa using hj)
   have hT2:=Hid.mk (show (w2.setCell ⟨T,5,none⟩ (.int .i64 0)).heap[T]?=some (.cells (msC (mT 7 vw) (.slice none 0 0) (.slice none 0 0)) 35 (0,0)) by rw [heap_setCell_same _ _ _ _ _ _ hT]; rfl)
   have hS2:=Hid.mk ((h2 S (by omega)).trans hS)
   have hB2:=Hid.mk (setCell_low hB ⟨T,5,none⟩ (.int .i64 0) (Nat.le_of_lt hST))
   clear hT hS hB hST hR h2
   have hTu:=hT2.out
   unfold msC mT at hTu
   simp only at hTu
   replace hTu:=Hid.mk hTu
   go_wp2_with (first | (refine wpList_load_row rfl 35 _ rfl T rfl _ _ _ _ hTu.out Tryz.underlying35 rfl (msInfo.trans rfl) ?_) | (refine wpList_store_row rfl 35 _ _ rfl S (msC (mT 7 vw) (.slice none 0 0) (.slice none 0 0)) rfl rfl 35 _ hS2.out (msInfo.trans rfl) rfl (one_msC _ _ _ _ _ _ _) ?_))
   have hr:=setRow_heap _ S _ (msC (mT 7 vw) (.slice none 0 0) (.slice none 0 0)) 35 _ hS2.out
   exact bodyPost_ret (results_cell_row rfl _ _ S _ _ _ _ rfl hr Tryz.underlying35 rfl (msInfo.trans rfl)) rfl ⟨rfl,by rw [hSeH.out]; exact setRow_low hB2.out _ _ (Nat.le_refl _)⟩
end
end Go.Proofs.YtniamhbcmcgonaaGreatDoor
namespace Go.Proofs.YtniamhbcmcgonaaGreatDoor
open Go.RowKit Go.Ev
section
variable {B R KB A V M N:Nat} {st vw k2:Int} {mach:Value} {moved:Bool} {vt ms:Array Value} {out:Value} {w:World}
theorem Rep.set_v (h:Rep B R KB A V M N st vw k2 mach moved vt ms out w) (i:Nat) (x:Value):Rep B R KB A V M N st vw k2 mach moved (vt.setIfInBounds i x) ms out (w.setCell ⟨V,i,none⟩ x):=by
 obtain ⟨o1,o2,o3,o4,o5,o6⟩:=h.other h.v
 have hb:∀ j,j≠V→(w.setCell ⟨V,i,none⟩ x).heap[j]?=w.heap[j]?:=fun j hj=>Below.heap_setCell _ _ _ _ (by simpa using hj)
 obtain ⟨ns,hn,hs⟩:=h.n
 exact ⟨(hb _ (o1 (by decide))).trans h.row,(hb _ (o6 (by decide))).trans h.kn,(hb _ (o5 (by decide))).trans h.a,heap_setCell_same _ _ _ _ _ _ h.v,(hb _ (o3 (by decide))).trans h.m,⟨ns,(hb _ (o4 (by decide))).trans hn,hs⟩,h.ka,h.rl,h.kl,h.al,h.vl,h.ml,h.nl⟩
theorem Rep.set_m (h:Rep B R KB A V M N st vw k2 mach moved vt ms out w) (i:Nat) (x:Value) (hs3:ms.size=3):Rep B R KB A V M N st vw k2 mach moved vt (ms.setIfInBounds i x) out (w.setCell ⟨M,i,none⟩ x):=by
 obtain ⟨o1,o2,o3,o4,o5,o6⟩:=h.other h.m
 have hb:∀ j,j≠M→(w.setCell ⟨M,i,none⟩ x).heap[j]?=w.heap[j]?:=fun j hj=>Below.heap_setCell _ _ _ _ (by simpa using hj)
 have hm:(w.setCell ⟨M,i,none⟩ x).heap[M]?=some (.cells (ms.setIfInBounds i x) 103 (0,0)):=heap_setCell_same _ _ _ _ _ _ h.m
 obtain ⟨ns,hn,hs⟩:=h.n
 refine ⟨(hb _ (o1 (by decide))).trans h.row,(hb _ (o6 (by decide))).trans h.kn,(hb _ (o5 (by decide))).trans h.a,(hb _ (o2 (by decide))).trans h.v,hm,?_,h.ka,h.rl,h.kl,h.al,h.vl,h.ml,h.nl⟩
 by_cases e:N=M
 ·exact ⟨_,by rw [e]; exact hm,by simpa using hs3⟩
 ·exact ⟨ns,(hb _ e).trans hn,hs⟩
theorem Rep.set_moved (h:Rep B R KB A V M N st vw k2 mach moved vt ms out w) (b:Bool):Rep B R KB A V M N st vw k2 mach b vt ms out (w.setCell ⟨R,16,none⟩ (.bool b)):=by
 obtain ⟨o1,o2,o3,o4,o5,o6⟩:=h.other h.row
 have hb:∀ j,j≠R→(w.setCell ⟨R,16,none⟩ (.bool b)).heap[j]?=w.heap[j]?:=fun j hj=>Below.heap_setCell _ _ _ _ (by simpa using hj)
 obtain ⟨ns,hn,hs⟩:=h.n
 refine ⟨?_,(hb _ (o6 (by decide))).trans h.kn,(hb _ (o5 (by decide))).trans h.a,(hb _ (o2 (by decide))).trans h.v,(hb _ (o3 (by decide))).trans h.m,⟨ns,(hb _ (o4 (by decide))).trans hn,hs⟩,h.ka,h.rl,h.kl,h.al,h.vl,h.ml,h.nl⟩
 rw [heap_setCell_same _ _ _ _ _ _ h.row]; rfl
set_option maxRecDepth 100000 in
set_option maxHeartbeats 12800000 in
theorem begin_any (h:Rep B R KB A V M N st vw k2 mach moved vt ms nilO w) (hh:HalvesAt w) (hB0:0 < B) (v1:Int) :
  Calls Tryz.prog 77 #[.pointer (some ⟨R,0,none⟩),.int .i64 v1] w fun e w'=>e= .returned (.tuple #[])∧
   ∃ A' V' M' N' out' xs',Rep B R KB A' V' M' N' 2 v1 k2 mach false #[.bool false,.bool true,.bool false] nil3 out' w'∧w'.ownsRow B 88 2 out' 2 xs'∧Kx (fun i=>i=R) w w':=by
 have hm:Tryz.prog.follows .mixedOrders=true:=by kernel_rfl
 have c2:=h.cs.c2
 have c3:=h.cs.c3
 have f2:=frozen_of_row _ _ 2 _ _ h.row
 have f3:=frozen_of_row _ _ 3 _ _ h.row
 have hrow:((w.setCell ⟨R,2,none⟩ (.int .i64 2)).setCell ⟨R,3,none⟩ (.int .i64 v1)).heap[R]?=some (.cells (rowX 2 v1 mach KB (.int .i64 0) (slb A) (slb V) (slb M) (.bool moved) (slb N) nilO) 60 (0,0)):=by
  rw [heap_setCell_same _ _ _ _ _ _ (heap_setCell_same _ _ _ _ _ _ h.row)]; rfl
 have hfg:=Hid.mk (forget_any R KB 2 v1 mach (.int .i64 0) (slb A) (slb V) (slb M) (.bool moved) (slb N) nilO _ hrow)
 have hH:=Hid.mk h
 have hhH:=Hid.mk hh
 have hBpos:=Hid.mk hB0
 clear h hh hB0 hrow
 go_enter Tryz.func77,Tryz.ntmps77
 go_upto_region 1 with fail
 go_cut [12] (fun _ wr=>∃ A' V' M' N',Rep B R KB A' V' M' N' 2 v1 k2 mach false fls3 nil3 nilO wr∧Kx (fun i=>i=R) w wr∧w.heap.size≤V')
 case first=>as_aux_lemma=>
  go_wp2_with (fail)
  go_at_call 35
  refine hfg.out.mono ?_
  rintro e w3 ⟨rfl,A2,V2,M2,N2,hF,hrw,hkx⟩
  have hFH:=Hid.mk hF
  have hrwH:=Hid.mk hrw
  have hkxH:=Hid.mk hkx
  clear hF hrw hkx hfg
  go_wp2_with (fail)
  go_meet
  have h:=hH.out
  have hF:=hFH.out
  have hb:∀ j,j≠R→((w.setCell ⟨R,2,none⟩ (.int .i64 2)).setCell ⟨R,3,none⟩ (.int .i64 v1)).heap[j]?=w.heap[j]?:=fun j hj=>(Below.heap_setCell _ _ _ _ (by simpa using hj)).trans (Below.heap_setCell _ _ _ _ (by simpa using hj))
  have hsz:((w.setCell ⟨R,2,none⟩ (.int .i64 2)).setCell ⟨R,3,none⟩ (.int .i64 v1)).heap.size=w.heap.size:=by simp [World.setCell]
  have hkl:=(Array.getElem?_eq_some_iff.1 h.kn).1
  have hRl:=h.lt
  have hrl:=h.rl
  have hKR:KB≠R:=fun e=>(h.other h.kn).1 (by decide) e.symm
  have b1:=hF.al; have b2:=hF.vl; have b3:=hF.ml; have b4:=hF.nl
  rw [hsz] at b1 b2 b3 b4
  refine ⟨A2,V2,M2,N2,⟨hrwH.out,(hkxH.out.block KB (by rw [hsz]; exact hkl) hKR).trans ((hb KB hKR).trans h.kn),hF.a,hF.v,hF.m,⟨_,hF.n,rfl⟩,by omega,hrl,h.kl,by omega,by omega,by omega,by omega⟩,?_,b2⟩
  exact (⟨rfl,rfl,rfl,by rw [hsz]; exact Nat.le_refl _,fun i _ hn=>hb i hn⟩:Kx (fun i=>i=R) w ((w.setCell ⟨R,2,none⟩ (.int .i64 2)).setCell ⟨R,3,none⟩ (.int .i64 v1))).trans hkxH.out
 case rest=>
  clear hfg c2 c3 f2 f3
  obtain ⟨A2,V2,M2,N2,hR,hkx,hv2⟩:=hcut
  have hV2:=Hid.mk hv2
  clear hv2
  rename World=>w3
  have hR3:=Hid.mk hR
  have hk3:=Hid.mk hkx
  clear hR hkx
  go_upto_region 2 with fail
  go_cut [21] (fun _ wr=>wr=w3.drew.setCell ⟨V2,1,none⟩ (.bool true))
  case first=>as_aux_lemma=>
   obtain ⟨Pp,hPp⟩:∃ P:List Value→World→Prop,P=fun l v=>match l with | []=>v=w3.drew | _=>v=w3.drew.setCell ⟨V2,1,none⟩ (.bool true):=⟨_,rfl⟩
   have hP0:∀ v,Pp [] v↔v=w3.drew:=fun v=>by rw [hPp]
   have hP1:∀ x v,Pp [x] v↔v=w3.drew.setCell ⟨V2,1,none⟩ (.bool true):=fun x v=>by rw [hPp]
   clear hPp
   have hS0:=EC.start [9] (fun i=>match i with | 2=> .pointer (some ⟨R,14,none⟩) | 3=> .slice (some ⟨V2,0,none⟩) 3 3 | 6=> .pointer (some ⟨R,0,none⟩) | 7=> .int .i64 1 | 8=> .pointer (some ⟨V2,1,none⟩) | _=> .pointer (some ⟨R,0,none⟩)) (P:=Pp) (W:=w3.drew) ((hP0 _).mpr rfl)
   go_wp2_with (fail)
   refine Go.Ev.wp_region_inv _ hm (by kernel_rfl) (by kernel_rfl) hS0 ?_
   refine ⟨fun D vs wq K hQ hd hdep hcl hK=> ?_,?_⟩
   ·go_simp
    exact hK _ _ (hQ.pure (by decide) rfl)
   simp only [Act.put,List.setIfInBounds_toArray,List.set_cons_succ,List.set_cons_zero,Nat.reduceAdd]
   refine ⟨fun D vs wq K hQ hd hdep hcl hK=> ?_,?_⟩
   ·have e0:=hQ.vals 0 (depB hdep 0 (by kernel_rfl)) (by decide)
    simp only at e0
    simp only [e0] at hK ⊢
    go_simp
    exact hK _ _ (hQ.pure (by decide) rfl)
   simp only [Act.put,List.setIfInBounds_toArray,List.set_cons_succ,List.set_cons_zero,Nat.reduceAdd]
   refine ⟨fun D vs wq K hQ hd hdep hcl hK=> ?_,?_⟩
   ·have e1:=hQ.vals 1 (depB hdep 1 (by kernel_rfl)) (by decide)
    simp only at e1
    simp only [e1] at hK ⊢
    go_simp
    exact hK _ _ (hQ.pure (by decide) rfl)
   simp only [Act.put,List.setIfInBounds_toArray,List.set_cons_succ,List.set_cons_zero,Nat.reduceAdd]
   refine ⟨fun D vs wq K hQ hd hdep hcl hK=> ?_,?_⟩
   ·have e2:=hQ.vals 2 (depB hdep 2 (by kernel_rfl)) (by decide)
    simp only at e2
    have hq:=(hP0 _).mp (hQ.at 0 (by decide) (.inl rfl) (.inr (closedF hcl 9 3 (by kernel_rfl) hd)))
    have c14:wq.cell? ⟨R,14,none⟩=some (.slice (some ⟨V2,0,none⟩) 3 3):=by rw [hq]; exact hR3.out.cs.c14
    clear hq
    simp only [e2] at hK ⊢
    go_simp
    exact hK _ _ (hQ.pure (by decide) rfl)
   simp only [Act.put,List.setIfInBounds_toArray,List.set_cons_succ,List.set_cons_zero,Nat.reduceAdd]
   refine ⟨fun D vs wq K hQ hd hdep hcl hK=> ?_,?_⟩
   ·go_simp
    exact hK _ _ (hQ.pure (by decide) rfl)
   simp only [Act.put,List.setIfInBounds_toArray,List.set_cons_succ,List.set_cons_zero,Nat.reduceAdd]
   refine ⟨fun D vs wq K hQ hd hdep hcl hK=> ?_,?_⟩
   ·have e4:=hQ.vals 4 (depB hdep 4 (by kernel_rfl)) (by decide)
    simp only at e4
    simp only [e4] at hK ⊢
    go_simp
    exact hK _ _ (hQ.pure (by decide) rfl)
   simp only [Act.put,List.setIfInBounds_toArray,List.set_cons_succ,List.set_cons_zero,Nat.reduceAdd]
   refine ⟨fun D vs wq K hQ hd hdep hcl hK=> ?_,?_⟩
   ·have e5:=hQ.vals 5 (depB hdep 5 (by kernel_rfl)) (by decide)
    simp only at e5
    simp only [e5] at hK ⊢
    go_simp
    exact hK _ _ (hQ.pure (by decide) rfl)
   simp only [Act.put,List.setIfInBounds_toArray,List.set_cons_succ,List.set_cons_zero,Nat.reduceAdd]
   refine ⟨fun D vs wq K hQ hd hdep hcl hK=> ?_,?_⟩
   ·have e6:=hQ.vals 6 (depB hdep 6 (by kernel_rfl)) (by decide)
    simp only at e6
    have hq:=(hP0 _).mp (hQ.at 0 (by decide) (.inl rfl) (.inr (closedF hcl 9 7 (by kernel_rfl) hd)))
    have c0:wq.cell? ⟨R,0,none⟩=some (.int .i64 1):=by rw [hq]; exact hR3.out.cs.c0
    clear hq
    simp only [e6] at hK ⊢
    go_simp
    exact hK _ _ (hQ.pure (by decide) rfl)
   simp only [Act.put,List.setIfInBounds_toArray,List.set_cons_succ,List.set_cons_zero,Nat.reduceAdd]
   refine ⟨fun D vs wq K hQ hd hdep hcl hK=> ?_,?_⟩
   ·have e3:=hQ.vals 3 (depB hdep 3 (by kernel_rfl)) (by decide)
    simp only at e3
    have e7:=hQ.vals 7 (depB hdep 7 (by kernel_rfl)) (by decide)
    simp only at e7
    simp only [e3,e7] at hK ⊢
    go_simp
    exact hK _ _ (hQ.pure (by decide) rfl)
   simp only [Act.put,List.setIfInBounds_toArray,List.set_cons_succ,List.set_cons_zero,Nat.reduceAdd]
   refine ⟨fun D vs wq K hQ hd hdep hcl hK=> ?_,?_⟩
   ·have e8:=hQ.vals 8 (depB hdep 8 (by kernel_rfl)) (by decide)
    simp only at e8
    have hq:=(hP0 _).mp (hQ.at 0 (by decide) (.inl rfl) (.inr hd))
    have cv:wq.cell? ⟨V2,1,none⟩=some (.bool false):=by rw [hq]; exact (cell_of_row w3 _ _ _ _ _ hR3.out.v).trans rfl
    have fv:wq.frozen? ⟨V2,1,none⟩=false:=by rw [hq]; exact frozen_of_row w3 _ 1 _ _ hR3.out.v
    have hqH:=Hid.mk hq
    clear hq
    simp only [e8] at hK ⊢
    go_simp
    refine hK undef _ ?_
    exact hQ.eff 0 (by decide) (by decide) (.inl rfl) hd ((hP1 _ _).mpr (by rw [hqH.out]))
   simp only [Act.put,List.setIfInBounds_toArray,List.set_cons_succ,List.set_cons_zero,Nat.reduceAdd]
   intro vs D w6 hS6 hall
   have hp:=(hP1 _ _).mp (hS6.done (fun t ht=>hall _ (by have h2:t < 1:=ht; obtain rfl:t=0:=(by omega); decide)))
   subst hp
   clear hS6 hall hS0 hP0 hP1
   go_wp2_with (fail)
   go_meet
   exact rfl
  case rest=>
   have hwr:=hcut
   rename World=>w4
   have hR4:Rep B R KB A2 V2 M2 N2 2 v1 k2 mach false #[.bool false,.bool true,.bool false] nil3 nilO w4:=by
    rw [hwr]; exact (hR3.out.below (Below.refl _ w3).drew).set_v 1 (.bool true)
   have hwB:w.heap.size≤V2:=hV2.out
   have hk4:Kx (fun i=>i=R) w w4:=by
    have hk:=hk3.out
    have hb:∀ j,j≠V2→w4.heap[j]?=w3.heap[j]?:=fun j hj=>by rw [hwr]; exact Below.heap_setCell _ _ _ _ (by simpa using hj)
    exact ⟨by rw [hwr]; exact hk.os,by rw [hwr]; exact hk.tape,by rw [hwr]; exact hk.output,by rw [hwr]; simpa [World.setCell] using hk.size,fun i hi hn=>(hb i (by omega)).trans (hk.block i hi hn)⟩
   have hlow:Below B w w4:=hk4.low (Nat.le_trans hH.out.rl (Nat.le_of_lt hH.out.lt)) (fun i hi hs=>by have:=hH.out.rl; omega)
   have hot:=Hid.mk (others_any hR4 (hhH.out.low hlow hBpos.out) hBpos.out (mT 6 v1) rfl rfl (by show (6:Int)≠1; decide))
   have hk4H:=Hid.mk hk4
   clear hwr hcut hR4 hk4 hlow hwB
   unfold msC mT at hot
   simp only at hot
   go_wp2_with (first | (go_at_call 41; refine hot.out.mono ?_; rintro e wz ⟨rfl,hX⟩; replace hX:=Hid.mk hX))
   go_end0
   obtain ⟨o2,x2,hR5,ho5,hB5⟩:=hX.out
   exact ⟨rfl,A2,V2,M2,N2,o2,x2,hR5,ho5,hk4H.out.trans hB5⟩
end
end Go.Proofs.YtniamhbcmcgonaaGreatDoor
namespace Go.Proofs.YtniamhbcmcgonaaGreatDoor
open Go.RowKit Go.Ev
section
variable {B R KB A V M N:Nat} {st vw k2:Int} {mach:Value} {moved:Bool} {vt ms:Array Value} {out:Value} {w:World}
set_option maxRecDepth 100000 in
set_option maxHeartbeats 6400000 in
theorem decide_not (a:Addr) (h:Rep B R KB A V M N st vw k2 mach moved vt #[.pointer none,.pointer (some a),.pointer none] out w):Calls Tryz.prog 80 #[.pointer (some ⟨R,0,none⟩)] w fun e w'=>
  e= .returned (.tuple #[])∧Below w.heap.size w w':=by
 have hm:Tryz.prog.follows .mixedOrders=true:=by kernel_rfl
 have hH:=Hid.mk h
 clear h
 go_enter Tryz.func80,Tryz.ntmps80
 go_wp2_with (fail)
 refine Go.Ev.wp_region_planE (fun v=>Rep B R KB A V M N st vw k2 mach moved vt #[.pointer none,.pointer (some a),.pointer none] out v∧Below w.heap.size w v) hm (by kernel_rfl) (by kernel_rfl) ⟨hH.out.below (Below.refl _ w).drew,(Below.refl _ w).drew⟩ ?_
 refine Go.Ev.planE_cons _ (by rintro v K hv hK; replace hv:=Hid.mk hv; go_simp; exact hK _ hv.out) ?_
 simp only [Act.put,List.setIfInBounds_toArray,List.set_cons_succ,List.set_cons_zero]
 refine Go.Ev.planE_cons _ (by rintro v K hv hK; replace hv:=Hid.mk hv; go_simp; exact hK _ hv.out) ?_
 simp only [Act.put,List.setIfInBounds_toArray,List.set_cons_succ,List.set_cons_zero]
 refine Go.Ev.planE_cons _ (by rintro v K hv hK; replace hv:=Hid.mk hv; go_simp; exact hK _ hv.out) ?_
 simp only [Act.put,List.setIfInBounds_toArray,List.set_cons_succ,List.set_cons_zero]
 refine Go.Ev.planE_cons _ (by rintro v K hv hK; replace hv:=Hid.mk hv; have c15:=hv.out.1.cs.c15; go_simp; exact hK _ hv.out) ?_
 simp only [Act.put,List.setIfInBounds_toArray,List.set_cons_succ,List.set_cons_zero]
 refine Go.Ev.planE_cons (.int .i64 1) (by
  rintro v K hv hK
  have hvH:=Hid.mk hv
  have hc:=Hid.mk (count_m M a v hv.1.m)
  clear hv
  go_simp
  go_at_call 69
  refine hc.out.mono ?_
  rintro e wz ⟨rfl,rfl⟩
  exact hK _ hvH.out
  ) ?_
 simp only [Act.put,List.setIfInBounds_toArray,List.set_cons_succ,List.set_cons_zero]
 refine Go.Ev.planE_cons _ (by rintro v K hv hK; replace hv:=Hid.mk hv; go_simp; exact hK _ hv.out) ?_
 simp only [Act.put,List.setIfInBounds_toArray,List.set_cons_succ,List.set_cons_zero]
 refine Go.Ev.planE_cons _ (by rintro v K hv hK; replace hv:=Hid.mk hv; go_simp; exact hK _ hv.out) ?_
 simp only [Act.put,List.setIfInBounds_toArray,List.set_cons_succ,List.set_cons_zero]
 refine Go.Ev.planE_cons _ (by rintro v K hv hK; replace hv:=Hid.mk hv; go_simp; exact hK _ hv.out) ?_
 simp only [Act.put,List.setIfInBounds_toArray,List.set_cons_succ,List.set_cons_zero]
 refine Go.Ev.planE_cons _ (by rintro v K hv hK; replace hv:=Hid.mk hv; have c1:=hv.out.1.cs.c1; go_simp; exact hK _ hv.out) ?_
 simp only [Act.put,List.setIfInBounds_toArray,List.set_cons_succ,List.set_cons_zero]
 refine Go.Ev.planE_cons _ (by rintro v K hv hK; replace hv:=Hid.mk hv; go_simp; exact hK _ hv.out) ?_
 simp only [Act.put,List.setIfInBounds_toArray,List.set_cons_succ,List.set_cons_zero]
 rintro w2 hv
 replace hv:=Hid.mk hv
 go_wp2_with (fail)
 exact bodyPost_ret (results_none rfl _ _ _) rfl ⟨rfl,hv.out.2⟩
def vt2:Array Value:=#[.bool false,.bool true,.bool true]
def WordP (B R KB A V M N:Nat) (vn:Nat) (k2:Int) (mach:Value) (w0:World) (w':World):Prop:=∃ ms' out' n xs',Rep B R KB A V M N 2 (vn:Nat) k2 mach true vt2 ms' out' w'∧w'.ownsRow B 88 2 out' n xs'∧2≤n∧Below B w0 w'
def SentP (B R KB A V M N:Nat) (vn:Nat) (k2:Int) (mach:Value) (out:Value) (w0:World) (w':World):Prop:=∃ out' xs',Rep B R KB A V M N 2 (vn:Nat) k2 mach true vt2 nil3 out' w'∧w'.ownsRow B 88 2 out' 3 xs'∧Kx (fun i=>i=R∨out.ownBlock=some i) w0 w'
structure WFin (B R KB A V M N:Nat) (vn:Nat) (k2:Int) (mach:Value) (w0 w:World) (T:Nat) (out:Value) (xs:List Value):Prop where
 r:Rep B R KB A V M N 2 (vn:Nat) k2 mach true vt2 nil3 out w
 t:w.heap[T]?=some (.cells (msC (mT 7 (vn:Nat)) (.slice none 0 0) (.slice none 0 0)) 35 (0,0))
 o:w.ownsRow B 88 2 out 2 xs
 b:Below B w0 w
 h:HalvesAt w
 p:0 < B
set_option maxRecDepth 100000 in
set_option maxHeartbeats 12800000 in
theorem word_any (vn:Nat) (h:Rep B R KB A V M N 2 (vn:Nat) k2 mach false vt2 nil3 out w) (hh:HalvesAt w) (hB0:0 < B) (xs:List Value) (ho:w.ownsRow B 88 2 out 2 xs) :
  Calls Tryz.prog 78 #[.pointer (some ⟨R,0,none⟩)] w fun e w'=>e= .returned (.tuple #[])∧WordP B R KB A V M N vn k2 mach w w':=by
 have hm:Tryz.prog.follows .mixedOrders=true:=by kernel_rfl
 have hH:=Hid.mk h
 have hhH:=Hid.mk hh
 have hoH:=Hid.mk ho
 have hBpos:=Hid.mk hB0
 clear h hh ho hB0
 go_enter Tryz.func78,Tryz.ntmps78
 go_upto_region 0 with fail
 go_cut [18] (fun y wr=>y= .bool false∧Rep B R KB A V M N 2 (vn:Nat) k2 mach false vt2 nil3 out wr∧Below w.heap.size w wr)
 case first=>as_aux_lemma=>
  go_wp2_with (fail)
  refine Go.Ev.wp_region_planE (fun v=>Rep B R KB A V M N 2 (vn:Nat) k2 mach false vt2 nil3 out v∧Below w.heap.size w v) hm (by kernel_rfl) (by kernel_rfl) ⟨hH.out.below (Below.refl _ w).drew,(Below.refl _ w).drew⟩ ?_
  refine Go.Ev.planE_cons _ (by rintro v K hv hK; replace hv:=Hid.mk hv; go_simp; exact hK _ hv.out) ?_
  simp only [Act.put,List.setIfInBounds_toArray,List.set_cons_succ,List.set_cons_zero]
  refine Go.Ev.planE_cons _ (by rintro v K hv hK; replace hv:=Hid.mk hv; go_simp; exact hK _ hv.out) ?_
  simp only [Act.put,List.setIfInBounds_toArray,List.set_cons_succ,List.set_cons_zero]
  refine Go.Ev.planE_cons _ (by rintro v K hv hK; replace hv:=Hid.mk hv; go_simp; exact hK _ hv.out) ?_
  simp only [Act.put,List.setIfInBounds_toArray,List.set_cons_succ,List.set_cons_zero]
  refine Go.Ev.planE_cons _ (by rintro v K hv hK; replace hv:=Hid.mk hv; have c16:=hv.out.1.cs.c16; go_simp; exact hK _ hv.out) ?_
  simp only [Act.put,List.setIfInBounds_toArray,List.set_cons_succ,List.set_cons_zero]
  refine Go.Ev.planE_cons _ (by rintro v K hv hK; replace hv:=Hid.mk hv; go_simp; exact hK _ hv.out) ?_
  simp only [Act.put,List.setIfInBounds_toArray,List.set_cons_succ,List.set_cons_zero]
  refine Go.Ev.planE_cons _ (by rintro v K hv hK; replace hv:=Hid.mk hv; go_simp; exact hK _ hv.out) ?_
  simp only [Act.put,List.setIfInBounds_toArray,List.set_cons_succ,List.set_cons_zero]
  refine Go.Ev.planE_cons _ (by rintro v K hv hK; replace hv:=Hid.mk hv; go_simp; exact hK _ hv.out) ?_
  simp only [Act.put,List.setIfInBounds_toArray,List.set_cons_succ,List.set_cons_zero]
  refine Go.Ev.planE_cons _ (by rintro v K hv hK; replace hv:=Hid.mk hv; go_simp; exact hK _ hv.out) ?_
  simp only [Act.put,List.setIfInBounds_toArray,List.set_cons_succ,List.set_cons_zero]
  refine Go.Ev.planE_cons _ (by rintro v K hv hK; replace hv:=Hid.mk hv; have c14:=hv.out.1.cs.c14; go_simp; exact hK _ hv.out) ?_
  simp only [Act.put,List.setIfInBounds_toArray,List.set_cons_succ,List.set_cons_zero]
  refine Go.Ev.planE_cons (.int .i64 2) (by
   rintro v K hv hK
   have hvH:=Hid.mk hv
   have hc:=Hid.mk (count_b V v hv.1.v)
   clear hv
   go_simp
   go_at_call 103
   refine hc.out.mono ?_
   rintro e wz ⟨rfl,rfl⟩
   exact hK _ hvH.out
   ) ?_
  simp only [Act.put,List.setIfInBounds_toArray,List.set_cons_succ,List.set_cons_zero]
  refine Go.Ev.planE_cons _ (by rintro v K hv hK; replace hv:=Hid.mk hv; go_simp; exact hK _ hv.out) ?_
  simp only [Act.put,List.setIfInBounds_toArray,List.set_cons_succ,List.set_cons_zero]
  refine Go.Ev.planE_cons _ (by rintro v K hv hK; replace hv:=Hid.mk hv; go_simp; exact hK _ hv.out) ?_
  simp only [Act.put,List.setIfInBounds_toArray,List.set_cons_succ,List.set_cons_zero]
  refine Go.Ev.planE_cons _ (by rintro v K hv hK; replace hv:=Hid.mk hv; go_simp; exact hK _ hv.out) ?_
  simp only [Act.put,List.setIfInBounds_toArray,List.set_cons_succ,List.set_cons_zero]
  refine Go.Ev.planE_cons _ (by rintro v K hv hK; replace hv:=Hid.mk hv; have c1:=hv.out.1.cs.c1; go_simp; exact hK _ hv.out) ?_
  simp only [Act.put,List.setIfInBounds_toArray,List.set_cons_succ,List.set_cons_zero]
  refine Go.Ev.planE_cons _ (by rintro v K hv hK; replace hv:=Hid.mk hv; go_simp; exact hK _ hv.out) ?_
  simp only [Act.put,List.setIfInBounds_toArray,List.set_cons_succ,List.set_cons_zero]
  refine Go.Ev.planE_cons _ (by rintro v K hv hK; replace hv:=Hid.mk hv; go_simp; exact hK _ hv.out) ?_
  simp only [Act.put,List.setIfInBounds_toArray,List.set_cons_succ,List.set_cons_zero]
  rintro w2 hv
  replace hv:=Hid.mk hv
  go_wp2_with (fail)
  go_meet
  exact ⟨rfl,hv.out⟩
 case rest=>
  obtain ⟨rfl,hR,hB⟩:=hcut
  rename World=>w1
  have hR1:=Hid.mk hR
  have hB1:=Hid.mk hB
  have ho1:=Hid.mk (own_below hoH.out hB)
  have c16:=hR.cs.c16
  have f16:=frozen_of_row _ _ 16 _ _ hR.row
  clear hR hB
  go_upto_region 2 with fail
  have hR2:=Hid.mk (hR1.out.set_moved true)
  have hB2:=Hid.mk (setCell_low (hB1.out.mono (Nat.le_trans hH.out.rl (Nat.le_of_lt hH.out.lt))) ⟨R,16,none⟩ (.bool true) hR1.out.rl)
  have ho2:=Hid.mk (show (w1.setCell ⟨R,16,none⟩ (.bool true)).ownsRow B 88 2 out 2 xs from out_same ho1.out fun g hg=>Below.heap_setCell _ _ _ _ (fun e=>by
   obtain ⟨cs,hc⟩:=own_ty ho1.out hg
   exact (hR1.out.other hc).1 (by decide) e.symm))
  generalize w1.setCell ⟨R,16,none⟩ (.bool true)=w2 at*
  clear hR1 hB1 ho1 c16 f16
  go_cut [2] (fun y wr=>∃ T,y= .pointer (some ⟨T,0,none⟩)∧wr.heap[T]?=some (.cells (msC (mT 7 (vn:Nat)) (.slice none 0 0) (.slice none 0 0)) 35 (0,0))∧Rep B R KB A V M N 2 (vn:Nat) k2 mach true vt2 nil3 out wr∧Below B w wr∧wr.ownsRow B 88 2 out 2 xs)
  case first=>as_aux_lemma=>
   go_wp2_with (fail)
   go_at_call 79
   refine (own_any hR2.out).mono ?_
   rintro e wz ⟨rfl,hBz⟩
   have hBzH:=Hid.mk hBz
   have hcl:=Hid.mk (heap_alloc_new wz (.cells (msC msZ nilS nilS) 35))
   clear hBz
   unfold msC mT
   simp only
   go_wp2_with (first | (refine wpList_store_row rfl 35 _ _ rfl wz.heap.size (msC (mT 7 (vn:Nat)) (.slice none 0 0) (.slice none 0 0)) rfl rfl 35 _ hcl.out (msInfo.trans rfl) rfl (one_msC _ _ _ _ _ _ _) ?_))
   go_meet
   have hr:=setRow_heap (wz.alloc (.cells (msC msZ nilS nilS) 35)) wz.heap.size _ (msC (mT 7 (vn:Nat)) (.slice none 0 0) (.slice none 0 0)) 35 _ hcl.out
   have hBa:Below wz.heap.size wz ((wz.alloc (.cells (msC msZ nilS nilS) 35)).setRow wz.heap.size (msC (mT 7 (vn:Nat)) (.slice none 0 0) (.slice none 0 0))):=setRow_low ((Below.refl _ wz).alloc (Nat.le_refl _) _) _ _ (Nat.le_refl _)
   have hall:Below w2.heap.size w2 ((wz.alloc (.cells (msC msZ nilS nilS) 35)).setRow wz.heap.size (msC (mT 7 (vn:Nat)) (.slice none 0 0) (.slice none 0 0))):=hBzH.out.trans (hBa.mono hBzH.out.size)
   exact ⟨wz.heap.size,rfl,hr,hR2.out.below hall,hB2.out.trans (hall.mono (Nat.le_trans hR2.out.rl (Nat.le_of_lt hR2.out.lt))),own_below ho2.out hall⟩
  case rest=>
   clear hR2 hB2 ho2
   obtain ⟨T,rfl,hT,hR,hB,ho⟩:=hcut
   rename World=>w3
   have hR3:=Hid.mk hR
   have hT3:=Hid.mk hT
   have hB3:=Hid.mk hB
   have ho3:=Hid.mk ho
   clear hT hR hB ho
   go_upto_region 3 with fail
   go_cut [34] (fun y wr=>y= .bool (((vn % 3:Nat):Int) !=1)∧Rep B R KB A V M N 2 (vn:Nat) k2 mach true vt2 nil3 out wr∧Below w3.heap.size w3 wr)
   case first=>as_aux_lemma=>
    go_wp2_with (fail)
    refine Go.Ev.wp_region_planE (fun v=>Rep B R KB A V M N 2 (vn:Nat) k2 mach true vt2 nil3 out v∧Below w3.heap.size w3 v) hm (by kernel_rfl) (by kernel_rfl) ⟨hR3.out.below (Below.refl _ w3).drew,(Below.refl _ w3).drew⟩ ?_
    refine Go.Ev.planE_cons _ (by rintro v K hv hK; replace hv:=Hid.mk hv; go_simp; exact hK _ hv.out) ?_
    simp only [Act.put,List.setIfInBounds_toArray,List.set_cons_succ,List.set_cons_zero]
    refine Go.Ev.planE_cons _ (by rintro v K hv hK; replace hv:=Hid.mk hv; go_simp; exact hK _ hv.out) ?_
    simp only [Act.put,List.setIfInBounds_toArray,List.set_cons_succ,List.set_cons_zero]
    refine Go.Ev.planE_cons _ (by rintro v K hv hK; replace hv:=Hid.mk hv; go_simp; exact hK _ hv.out) ?_
    simp only [Act.put,List.setIfInBounds_toArray,List.set_cons_succ,List.set_cons_zero]
    refine Go.Ev.planE_cons _ (by rintro v K hv hK; replace hv:=Hid.mk hv; go_simp; exact hK _ hv.out) ?_
    simp only [Act.put,List.setIfInBounds_toArray,List.set_cons_succ,List.set_cons_zero]
    refine Go.Ev.planE_cons _ (by rintro v K hv hK; replace hv:=Hid.mk hv; have c3:=hv.out.1.cs.c3; go_simp; exact hK _ hv.out) ?_
    simp only [Act.put,List.setIfInBounds_toArray,List.set_cons_succ,List.set_cons_zero]
    refine Go.Ev.planE_cons (.int .i64 ((vn % 3:Nat):Int)) (by
     rintro v K hv hK
     have hvH:=Hid.mk hv
     have hc:=Hid.mk (primary_any R KB vn v hv.1.cs.c11)
     clear hv
     go_simp
     go_at_call 68
     refine hc.out.mono ?_
     rintro e wz ⟨rfl,rfl⟩
     exact hK _ hvH.out
     ) ?_
    simp only [Act.put,List.setIfInBounds_toArray,List.set_cons_succ,List.set_cons_zero]
    refine Go.Ev.planE_cons _ (by rintro v K hv hK; replace hv:=Hid.mk hv; go_simp; exact hK _ hv.out) ?_
    simp only [Act.put,List.setIfInBounds_toArray,List.set_cons_succ,List.set_cons_zero]
    refine Go.Ev.planE_cons _ (by rintro v K hv hK; replace hv:=Hid.mk hv; go_simp; exact hK _ hv.out) ?_
    simp only [Act.put,List.setIfInBounds_toArray,List.set_cons_succ,List.set_cons_zero]
    refine Go.Ev.planE_cons _ (by rintro v K hv hK; replace hv:=Hid.mk hv; go_simp; exact hK _ hv.out) ?_
    simp only [Act.put,List.setIfInBounds_toArray,List.set_cons_succ,List.set_cons_zero]
    refine Go.Ev.planE_cons _ (by rintro v K hv hK; replace hv:=Hid.mk hv; have c0:=hv.out.1.cs.c0; go_simp; exact hK _ hv.out) ?_
    simp only [Act.put,List.setIfInBounds_toArray,List.set_cons_succ,List.set_cons_zero]
    refine Go.Ev.planE_cons _ (by rintro v K hv hK; replace hv:=Hid.mk hv; go_simp; exact hK _ hv.out) ?_
    simp only [Act.put,List.setIfInBounds_toArray,List.set_cons_succ,List.set_cons_zero]
    rintro w4 hv
    replace hv:=Hid.mk hv
    go_wp2_with (fail)
    go_meet
    exact ⟨rfl,hv.out⟩
   case rest=>
    obtain ⟨rfl,hR,hB⟩:=hcut
    rename World=>w4
    have hT4:=(hB.block T (Array.getElem?_eq_some_iff.1 hT3.out).1).trans hT3.out
    have ho4:=own_below ho3.out hB
    have hB4:=hB3.out.trans (hB.mono (Nat.le_trans hR3.out.rl (Nat.le_of_lt hR3.out.lt)))
    clear hR3 hT3 hB3 ho3 hB
    have hfin:WFin B R KB A V M N vn k2 mach w w4 T out xs:=⟨hR,hT4,ho4,hB4,hhH.out.low hB4 hBpos.out,hBpos.out⟩
    clear hR hT4 ho4 hB4
    by_cases hv1:vn % 3=1
    ·as_aux_lemma=>
      have e1:(((vn % 3:Nat):Int) !=1)=false:=by rw [hv1]; rfl
      rw [e1]
      clear e1 hv1
      have hR4:=Hid.mk hfin.r
      have hfinH:=Hid.mk hfin
      clear hfin
      go_upto_region 5 with fail
      go_cut [52] (fun _ wr=>wr=w4.drew.setCell ⟨M,1,none⟩ (.pointer (some ⟨T,0,none⟩)))
      case first=>as_aux_lemma=>
       obtain ⟨Pp,hPp⟩:∃ P:List Value→World→Prop,P=fun l v=>match l with | []=>v=w4.drew | _=>v=w4.drew.setCell ⟨M,1,none⟩ (.pointer (some ⟨T,0,none⟩)):=⟨_,rfl⟩
       have hP0:∀ v,Pp [] v↔v=w4.drew:=fun v=>by rw [hPp]
       have hP1:∀ x v,Pp [x] v↔v=w4.drew.setCell ⟨M,1,none⟩ (.pointer (some ⟨T,0,none⟩)):=fun x v=>by rw [hPp]
       clear hPp
       have hS0:=EC.start [9] (fun i=>match i with | 2=> .pointer (some ⟨R,15,none⟩) | 3=> .slice (some ⟨M,0,none⟩) 3 3 | 6=> .pointer (some ⟨R,0,none⟩) | 7=> .int .i64 1 | 8=> .pointer (some ⟨M,1,none⟩) | _=> .pointer (some ⟨R,0,none⟩)) (P:=Pp) (W:=w4.drew) ((hP0 _).mpr rfl)
       go_wp2_with (fail)
       refine Go.Ev.wp_region_inv _ hm (by kernel_rfl) (by kernel_rfl) hS0 ?_
       refine ⟨fun D vs wq K hQ hd hdep hcl hK=> ?_,?_⟩
       ·go_simp
        exact hK _ _ (hQ.pure (by decide) rfl)
       simp only [Act.put,List.setIfInBounds_toArray,List.set_cons_succ,List.set_cons_zero,Nat.reduceAdd]
       refine ⟨fun D vs wq K hQ hd hdep hcl hK=> ?_,?_⟩
       ·have e0:=hQ.vals 0 (depB hdep 0 (by kernel_rfl)) (by decide)
        simp only at e0
        simp only [e0] at hK ⊢
        go_simp
        exact hK _ _ (hQ.pure (by decide) rfl)
       simp only [Act.put,List.setIfInBounds_toArray,List.set_cons_succ,List.set_cons_zero,Nat.reduceAdd]
       refine ⟨fun D vs wq K hQ hd hdep hcl hK=> ?_,?_⟩
       ·have e1:=hQ.vals 1 (depB hdep 1 (by kernel_rfl)) (by decide)
        simp only at e1
        simp only [e1] at hK ⊢
        go_simp
        exact hK _ _ (hQ.pure (by decide) rfl)
       simp only [Act.put,List.setIfInBounds_toArray,List.set_cons_succ,List.set_cons_zero,Nat.reduceAdd]
       refine ⟨fun D vs wq K hQ hd hdep hcl hK=> ?_,?_⟩
       ·have e2:=hQ.vals 2 (depB hdep 2 (by kernel_rfl)) (by decide)
        simp only at e2
        have hq:=(hP0 _).mp (hQ.at 0 (by decide) (.inl rfl) (.inr (closedF hcl 9 3 (by kernel_rfl) hd)))
        have c15:wq.cell? ⟨R,15,none⟩=some (.slice (some ⟨M,0,none⟩) 3 3):=by rw [hq]; exact hR4.out.cs.c15
        clear hq
        simp only [e2] at hK ⊢
        go_simp
        exact hK _ _ (hQ.pure (by decide) rfl)
       simp only [Act.put,List.setIfInBounds_toArray,List.set_cons_succ,List.set_cons_zero,Nat.reduceAdd]
       refine ⟨fun D vs wq K hQ hd hdep hcl hK=> ?_,?_⟩
       ·go_simp
        exact hK _ _ (hQ.pure (by decide) rfl)
       simp only [Act.put,List.setIfInBounds_toArray,List.set_cons_succ,List.set_cons_zero,Nat.reduceAdd]
       refine ⟨fun D vs wq K hQ hd hdep hcl hK=> ?_,?_⟩
       ·have e4:=hQ.vals 4 (depB hdep 4 (by kernel_rfl)) (by decide)
        simp only at e4
        simp only [e4] at hK ⊢
        go_simp
        exact hK _ _ (hQ.pure (by decide) rfl)
       simp only [Act.put,List.setIfInBounds_toArray,List.set_cons_succ,List.set_cons_zero,Nat.reduceAdd]
       refine ⟨fun D vs wq K hQ hd hdep hcl hK=> ?_,?_⟩
       ·have e5:=hQ.vals 5 (depB hdep 5 (by kernel_rfl)) (by decide)
        simp only at e5
        simp only [e5] at hK ⊢
        go_simp
        exact hK _ _ (hQ.pure (by decide) rfl)
       simp only [Act.put,List.setIfInBounds_toArray,List.set_cons_succ,List.set_cons_zero,Nat.reduceAdd]
       refine ⟨fun D vs wq K hQ hd hdep hcl hK=> ?_,?_⟩
       ·have e6:=hQ.vals 6 (depB hdep 6 (by kernel_rfl)) (by decide)
        simp only at e6
        have hq:=(hP0 _).mp (hQ.at 0 (by decide) (.inl rfl) (.inr (closedF hcl 9 7 (by kernel_rfl) hd)))
        have c0:wq.cell? ⟨R,0,none⟩=some (.int .i64 1):=by rw [hq]; exact hR4.out.cs.c0
        clear hq
        simp only [e6] at hK ⊢
        go_simp
        exact hK _ _ (hQ.pure (by decide) rfl)
       simp only [Act.put,List.setIfInBounds_toArray,List.set_cons_succ,List.set_cons_zero,Nat.reduceAdd]
       refine ⟨fun D vs wq K hQ hd hdep hcl hK=> ?_,?_⟩
       ·have e3:=hQ.vals 3 (depB hdep 3 (by kernel_rfl)) (by decide)
        simp only at e3
        have e7:=hQ.vals 7 (depB hdep 7 (by kernel_rfl)) (by decide)
        simp only at e7
        simp only [e3,e7] at hK ⊢
        go_simp
        exact hK _ _ (hQ.pure (by decide) rfl)
       simp only [Act.put,List.setIfInBounds_toArray,List.set_cons_succ,List.set_cons_zero,Nat.reduceAdd]
       refine ⟨fun D vs wq K hQ hd hdep hcl hK=> ?_,?_⟩
       ·have e8:=hQ.vals 8 (depB hdep 8 (by kernel_rfl)) (by decide)
        simp only at e8
        have hq:=(hP0 _).mp (hQ.at 0 (by decide) (.inl rfl) (.inr hd))
        have cv:wq.cell? ⟨M,1,none⟩=some (.pointer none):=by rw [hq]; exact (cell_of_row w4 _ _ _ _ _ hR4.out.m).trans rfl
        have fv:wq.frozen? ⟨M,1,none⟩=false:=by rw [hq]; exact frozen_of_row w4 _ 1 _ _ hR4.out.m
        have hqH:=Hid.mk hq
        clear hq
        simp only [e8] at hK ⊢
        go_simp
        refine hK undef _ ?_
        exact hQ.eff 0 (by decide) (by decide) (.inl rfl) hd ((hP1 _ _).mpr (by rw [hqH.out]))
       simp only [Act.put,List.setIfInBounds_toArray,List.set_cons_succ,List.set_cons_zero,Nat.reduceAdd]
       intro vs D w6 hS6 hall
       have hp:=(hP1 _ _).mp (hS6.done (fun t ht=>hall _ (by have h2:t < 1:=ht; obtain rfl:t=0:=(by omega); decide)))
       subst hp
       clear hS6 hall hS0 hP0 hP1
       go_wp2_with (fail)
       go_meet
       exact rfl
      case rest=>
       have hwr:=hcut
       rename World=>w5
       have hR5:Rep B R KB A V M N 2 (vn:Nat) k2 mach true vt2 #[.pointer none,.pointer (some ⟨T,0,none⟩),.pointer none] out w5:=by
        rw [hwr]; exact (hR4.out.below (Below.refl _ w4).drew).set_m 1 (.pointer (some ⟨T,0,none⟩)) rfl
       have hb:∀ j,j≠M→w5.heap[j]?=w4.heap[j]?:=fun j hj=>by rw [hwr]; exact Below.heap_setCell _ _ _ _ (by simpa using hj)
       have ho5:w5.ownsRow B 88 2 out 2 xs:=out_same hfinH.out.o fun g hg=>hb g (fun e=>by
        obtain ⟨cs,hc⟩:=own_ty hfinH.out.o hg
        exact (hR4.out.other hc).2.2.1 (by decide) e.symm)
       have hB5:Below B w w5:=by rw [hwr]; exact setCell_low hfinH.out.b.drew ⟨M,1,none⟩ _ hR4.out.ml
       have hde:=Hid.mk (decide_not ⟨T,0,none⟩ hR5)
       have hX:=Hid.mk (And.intro hR5 (And.intro ho5 hB5))
       clear hwr hcut hR5 hb ho5 hB5
       go_wp2_with (first | (go_at_call 80; refine hde.out.mono ?_; rintro e wz ⟨rfl,hBz⟩; replace hBz:=Hid.mk hBz))
       go_end0
       obtain ⟨hR5,ho5,hB5⟩:=hX.out
       exact ⟨rfl,_,out,2,xs,hR5.below hBz.out,own_below ho5 hBz.out,Nat.le_refl _,hB5.trans (hBz.out.mono (Nat.le_trans hR5.rl (Nat.le_of_lt hR5.lt)))⟩
    ·as_aux_lemma=>
      have e1:(((vn % 3:Nat):Int) !=1)=true:=by simp; omega
      rw [e1]
      clear e1 hv1
      have hR4:=Hid.mk hfin.r
      have hT4:=Hid.mk hfin.t
      have hsd:=Hid.mk (send_any (hfin.r.below (Below.refl _ w4).drew) (hfin.h.below (Below.refl _ w4).drew) 2 (by decide) xs B (Nat.le_trans hfin.r.rl (Nat.le_of_lt hfin.r.lt)) (own_below hfin.o (Below.refl _ w4).drew) ((vn % 3:Nat):Int) (mT 7 (vn:Nat)) rfl rfl (by show (7:Int)≠1; decide) hfin.p)
      have hfinH:=Hid.mk hfin
      clear hfin
      go_upto_region 4 with fail
      obtain ⟨Pp,hPp⟩:∃ P:List Value→World→Prop,P=fun l v=>match l with | []=>v=w4.drew | _=>SentP B R KB A V M N vn k2 mach out w4.drew v:=⟨_,rfl⟩
      have hP0:∀ v,Pp [] v↔v=w4.drew:=fun v=>by rw [hPp]
      have hP1:∀ x v,Pp [x] v↔SentP B R KB A V M N vn k2 mach out w4.drew v:=fun x v=>by rw [hPp]
      clear hPp
      have hS0:=EC.start [8] (fun i=>match i with | 4=> .pointer (some ⟨R,3,none⟩) | 5=> .int .i64 (vn:Nat) | 6=> .int .i64 ((vn % 3:Nat):Int) | 7=> .agg (msC (mT 7 (vn:Nat)) (.slice none 0 0) (.slice none 0 0)) | _=> .pointer (some ⟨R,0,none⟩)) (P:=Pp) (W:=w4.drew) ((hP0 _).mpr rfl)
      go_wp2_with (fail)
      refine Go.Ev.wp_region_inv _ hm (by kernel_rfl) (by kernel_rfl) hS0 ?_
      refine ⟨fun D vs wq K hQ hd hdep hcl hK=> ?_,?_⟩
      ·go_simp
       exact hK _ _ (hQ.pure (by decide) rfl)
      simp only [Act.put,List.setIfInBounds_toArray,List.set_cons_succ,List.set_cons_zero,Nat.reduceAdd]
      refine ⟨fun D vs wq K hQ hd hdep hcl hK=> ?_,?_⟩
      ·go_simp
       exact hK _ _ (hQ.pure (by decide) rfl)
      simp only [Act.put,List.setIfInBounds_toArray,List.set_cons_succ,List.set_cons_zero,Nat.reduceAdd]
      refine ⟨fun D vs wq K hQ hd hdep hcl hK=> ?_,?_⟩
      ·go_simp
       exact hK _ _ (hQ.pure (by decide) rfl)
      simp only [Act.put,List.setIfInBounds_toArray,List.set_cons_succ,List.set_cons_zero,Nat.reduceAdd]
      refine ⟨fun D vs wq K hQ hd hdep hcl hK=> ?_,?_⟩
      ·have e2:=hQ.vals 2 (depB hdep 2 (by kernel_rfl)) (by decide)
       simp only at e2
       simp only [e2] at hK ⊢
       go_simp
       exact hK _ _ (hQ.pure (by decide) rfl)
      simp only [Act.put,List.setIfInBounds_toArray,List.set_cons_succ,List.set_cons_zero,Nat.reduceAdd]
      refine ⟨fun D vs wq K hQ hd hdep hcl hK=> ?_,?_⟩
      ·have e3:=hQ.vals 3 (depB hdep 3 (by kernel_rfl)) (by decide)
       simp only at e3
       simp only [e3] at hK ⊢
       go_simp
       exact hK _ _ (hQ.pure (by decide) rfl)
      simp only [Act.put,List.setIfInBounds_toArray,List.set_cons_succ,List.set_cons_zero,Nat.reduceAdd]
      refine ⟨fun D vs wq K hQ hd hdep hcl hK=> ?_,?_⟩
      ·have e4:=hQ.vals 4 (depB hdep 4 (by kernel_rfl)) (by decide)
       simp only at e4
       have hq:=(hP0 _).mp (hQ.at 0 (by decide) (.inl rfl) (.inr (closedF hcl 8 6 (by kernel_rfl) (closedF hcl 6 5 (by kernel_rfl) hd))))
       have c3:wq.cell? ⟨R,3,none⟩=some (.int .i64 (vn:Nat)):=by rw [hq]; exact hR4.out.cs.c3
       clear hq
       simp only [e4] at hK ⊢
       go_simp
       exact hK _ _ (hQ.pure (by decide) rfl)
      simp only [Act.put,List.setIfInBounds_toArray,List.set_cons_succ,List.set_cons_zero,Nat.reduceAdd]
      refine ⟨fun D vs wq K hQ hd hdep hcl hK=> ?_,?_⟩
      ·have e1:=hQ.vals 1 (depB hdep 1 (by kernel_rfl)) (by decide)
       simp only at e1
       have e5:=hQ.vals 5 (depB hdep 5 (by kernel_rfl)) (by decide)
       simp only at e5
       have hq:=(hP0 _).mp (hQ.at 0 (by decide) (.inl rfl) (.inr (closedF hcl 8 6 (by kernel_rfl) hd)))
       have hc:=Hid.mk (primary_any R KB vn wq (by rw [hq]; exact hR4.out.cs.c11))
       have hqH:=Hid.mk hq
       clear hq
       simp only [e1,e5] at hK ⊢
       go_simp
       go_at_call 68
       refine hc.out.mono ?_
       rintro e wz ⟨rfl,rfl⟩
       exact hK _ _ (hQ.pure (by decide) rfl)
      simp only [Act.put,List.setIfInBounds_toArray,List.set_cons_succ,List.set_cons_zero,Nat.reduceAdd]
      refine ⟨fun D vs wq K hQ hd hdep hcl hK=> ?_,?_⟩
      ·have hq:=(hP0 _).mp (hQ.at 0 (by decide) (.inl rfl) (.inr (closedF hcl 8 7 (by kernel_rfl) hd)))
       have hTq:=Hid.mk (show wq.heap[T]?=some (.cells (msC (mT 7 (vn:Nat)) (.slice none 0 0) (.slice none 0 0)) 35 (0,0)) by rw [hq]; exact hT4.out)
       clear hq
       refine ite_of rfl ?_
       refine wp_load_row 35 _ rfl T rfl _ _ _ _ hTq.out Tryz.underlying35 rfl (msInfo.trans rfl) ?_
       exact hK _ _ (hQ.pure (by decide) rfl)
      simp only [Act.put,List.setIfInBounds_toArray,List.set_cons_succ,List.set_cons_zero,Nat.reduceAdd]
      refine ⟨fun D vs wq K hQ hd hdep hcl hK=> ?_,?_⟩
      ·have e0:=hQ.vals 0 (depB hdep 0 (by kernel_rfl)) (by decide)
       simp only at e0
       have e6:=hQ.vals 6 (depB hdep 6 (by kernel_rfl)) (by decide)
       simp only at e6
       have e7:=hQ.vals 7 (depB hdep 7 (by kernel_rfl)) (by decide)
       simp only at e7
       have hq:=(hP0 _).mp (hQ.at 0 (by decide) (.inl rfl) (.inr hd))
       have hsq:=Hid.mk (by rw [hq]; exact hsd.out:Calls Tryz.prog 38 #[.pointer (some ⟨R,0,none⟩),.int .i64 ((vn % 3:Nat):Int),.agg (msC (mT 7 (vn:Nat)) (.slice none 0 0) (.slice none 0 0))] wq fun e w'=>e= .returned (.tuple #[])∧SentP B R KB A V M N vn k2 mach out w4.drew w')
       clear hq
       simp only [e0,e6,e7] at hK ⊢
       go_simp
       go_at_call 38
       refine hsq.out.mono ?_
       rintro e wz ⟨rfl,hX⟩
       exact hK _ _ (hQ.eff 0 (by decide) (by decide) (.inl rfl) hd ((hP1 _ _).mpr hX))
      simp only [Act.put,List.setIfInBounds_toArray,List.set_cons_succ,List.set_cons_zero,Nat.reduceAdd]
      intro vs D w6 hS6 hall
      have hp:=(hP1 _ _).mp (hS6.done (fun t ht=>hall _ (by have h2:t < 1:=ht; obtain rfl:t=0:=(by omega); decide)))
      have hpH:=Hid.mk hp
      clear hS6 hall hS0 hP0 hP1 hp
      go_wp2_with (fail)
      obtain ⟨o2,x2,hR6,ho6,hk6⟩:=hpH.out
      refine bodyPost_ret (results_none rfl _ _ _) rfl ⟨rfl,nil3,o2,3,x2,hR6,ho6,by decide,hfinH.out.b.drew.trans (hk6.low (Nat.le_trans hR4.out.rl (Nat.le_of_lt hR4.out.lt)) (fun i hi hs=> ?_))⟩
      rcases hs with hs | hs
      ·have:=hR4.out.rl; omega
      ·have:=(hfinH.out.o.lt i hs).1; omega
end
end Go.Proofs.YtniamhbcmcgonaaGreatDoor
namespace Go.Proofs.YtniamhbcmcgonaaGreatDoor
open Go.RowKit Go.Ev
def VoteP (B R KB:Nat) (vn:Nat) (k2:Int) (mach:Value) (w0:World) (w':World):Prop:=∃ A V M N ms' out' n xs',Rep B R KB A V M N 2 (vn:Nat) k2 mach true vt2 ms' out' w'∧w'.ownsRow B 88 2 out' n xs'∧2≤n∧Below B w0 w'
section
variable {B R KB A V M N:Nat} {st k2:Int} {mach:Value} {moved:Bool} {vt ms:Array Value} {out:Value} {w:World}
set_option maxRecDepth 100000 in
set_option maxHeartbeats 12800000 in
theorem vote_any (h:Rep B R KB A V M N st 0 k2 mach moved vt ms nilO w) (hh:HalvesAt w) (hB0:0 < B) (vn:Nat) (hvn:1≤vn) (ka:Option Addr) (na kc:Nat) (ea:Option Addr) (ne ec:Nat) :
  Calls Tryz.prog 45 #[.pointer (some ⟨R,0,none⟩),.agg (msC (mv 6 2 k2 0 0 0 (vn:Nat)) (.slice ka na kc) (.slice ea ne ec))] w fun e w'=>e= .returned (.tuple #[])∧VoteP B R KB vn k2 mach w w':=by
 have hm:Tryz.prog.follows .mixedOrders=true:=by kernel_rfl
 have hH:=Hid.mk h
 have hhH:=Hid.mk hh
 have hBpos:=Hid.mk hB0
 clear h hh hB0
 unfold msC mv
 simp only
 go_enter Tryz.func45,Tryz.ntmps45
 go_upto_region 0 with fail
 go_cut [1,3] (fun _ y wr=>y= .pointer (some ⟨w.heap.size,0,none⟩)∧wr.heap[w.heap.size]?=some (.cells (msC (mv 6 2 k2 0 0 0 (vn:Nat)) (.slice ka na kc) (.slice ea ne ec)) 35 (0,0))∧Below w.heap.size w wr)
 case first=>as_aux_lemma=>
  go_wp2_with (fail)
  go_meet
  exact ⟨rfl,heap_alloc_new _ _,(Below.refl _ w).alloc (Nat.le_refl _) _⟩
 case rest=>
  obtain ⟨rfl,hS,hB⟩:=hcut
  rename World=>w1
  obtain ⟨S,hSe⟩:∃ S,w.heap.size=S:=⟨_,rfl⟩
  have hR1:=Hid.mk (hH.out.below hB)
  have hBS:=Hid.mk (show B≤S by have:=hH.out.lt; have:=hH.out.rl; omega)
  have hB1:=Hid.mk (show Below B w w1 from hB.mono (by rw [hSe]; exact hBS.out))
  rw [hSe] at hS ⊢
  have hS1:=Hid.mk hS
  clear hS hB hSe
  go_upto_region 1 with fail
  go_cut [10] (fun y wr=>y= .bool true∧wr=w1.drew)
  case first=>as_aux_lemma=>
   have d4:w1.drew.cell? ⟨S,4,none⟩=some (.int .i64 (vn:Nat)):=(cell_of_row w1 _ _ _ _ _ hS1.out).trans rfl
   have c3:w1.drew.cell? ⟨R,3,none⟩=some (.int .i64 0):=hR1.out.cs.c3
   have e1:(0 < (vn:Int))=True:=eq_true (by omega)
   have e2:(0 < vn)=True:=eq_true (by omega)
   go_wp2_with (fail)
   refine Go.Ev.wp_region_planE (fun v=>v=w1.drew) hm (by kernel_rfl) (by kernel_rfl) rfl ?_
   iterate 7
    refine Go.Ev.planE_cons _ (by rintro v K rfl hK; go_simp; exact hK _ rfl) ?_
    simp only [Act.put,List.setIfInBounds_toArray,List.set_cons_succ,List.set_cons_zero]
   rintro w2 rfl
   go_wp2_with (fail)
   go_meet
   exact ⟨rfl,rfl⟩
  case rest=>
   obtain ⟨rfl,hwr⟩:=hcut
   rename World=>w2
   have hd:=(Below.refl w1.heap.size w1).drew
   have hR2:Rep B R KB A V M N st 0 k2 mach moved vt ms nilO w2:=by rw [hwr]; exact hR1.out.below hd
   have hB2:Below B w w2:=by rw [hwr]; exact hB1.out.drew
   have hS2:w2.heap[S]?=some (.cells (msC (mv 6 2 k2 0 0 0 (vn:Nat)) (.slice ka na kc) (.slice ea ne ec)) 35 (0,0)):=by rw [hwr]; exact hS1.out
   have d4:w2.cell? ⟨S,4,none⟩=some (.int .i64 (vn:Nat)):=(cell_of_row _ _ _ _ _ _ hS2).trans rfl
   have hbg:=Hid.mk (begin_any hR2 (hhH.out.low hB2 hBpos.out) hBpos.out (vn:Nat))
   have hX:=Hid.mk (And.intro hR2 (And.intro hB2 hS2))
   clear hR1 hB1 hS1 hwr hd hR2 hB2 hS2
   go_upto_region 3 with (go_at_call 77; refine hbg.out.mono ?_; rintro e w4 ⟨rfl,hY⟩; replace hY:=Hid.mk hY)
   obtain ⟨A2,V2,M2,N2,o2,x2,hR4',ho4',hk4⟩:=hY.out
   obtain ⟨hR2,hB2,hS2⟩:=hX.out
   rename World=>w4
   have hS4':=(hk4.block S (Array.getElem?_eq_some_iff.1 hS2).1 (fun e=>(hR2.other hS2).1 (by decide) e.symm)).trans hS2
   have hB4':Below B w w4:=hB2.trans (hk4.low (Nat.le_trans hR2.rl (Nat.le_of_lt hR2.lt)) (fun i hi hs=>by have:=hR2.rl; omega))
   have hR4:=Hid.mk hR4'
   have ho4:=Hid.mk ho4'
   have hS4:=Hid.mk hS4'
   have hB4:=Hid.mk hB4'
   clear hX hY hbg hR4' ho4' hk4 hS4' hB4' hR2 hB2 hS2 d4
   go_cut [28] (fun y wr=>y= .bool true∧wr=w4.drew)
   case first=>as_aux_lemma=>
    have d4:w4.drew.cell? ⟨S,4,none⟩=some (.int .i64 (vn:Nat)):=(cell_of_row w4 _ _ _ _ _ hS4.out).trans rfl
    have c3:w4.drew.cell? ⟨R,3,none⟩=some (.int .i64 (vn:Nat)):=hR4.out.cs.c3
    have c2:w4.drew.cell? ⟨R,2,none⟩=some (.int .i64 2):=hR4.out.cs.c2
    go_wp2_with (fail)
    refine Go.Ev.wp_region_planE (fun v=>v=w4.drew) hm (by kernel_rfl) (by kernel_rfl) rfl ?_
    iterate 14
     refine Go.Ev.planE_cons _ (by rintro v K rfl hK; go_simp; exact hK _ rfl) ?_
     simp only [Act.put,List.setIfInBounds_toArray,List.set_cons_succ,List.set_cons_zero]
    rintro w2 rfl
    go_wp2_with (fail)
    go_meet
    exact ⟨rfl,rfl⟩
   case rest=>
    obtain ⟨rfl,hwr⟩:=hcut
    rename World=>w5
    have hd:=(Below.refl w4.heap.size w4).drew
    have hR5:Rep B R KB A2 V2 M2 N2 2 (vn:Nat) k2 mach false #[.bool false,.bool true,.bool false] nil3 o2 w5:=by rw [hwr]; exact hR4.out.below hd
    have ho5:w5.ownsRow B 88 2 o2 2 x2:=by rw [hwr]; exact own_below ho4.out hd
    have hS5:w5.heap[S]?=some (.cells (msC (mv 6 2 k2 0 0 0 (vn:Nat)) (.slice ka na kc) (.slice ea ne ec)) 35 (0,0)):=by rw [hwr]; exact hS4.out
    have hB5:Below B w w5:=by rw [hwr]; exact hB4.out.drew
    clear hR4 ho4 hS4 hB4 hwr hd
    have hR4:=Hid.mk hR5
    have ho4:=Hid.mk ho5
    have hS4:=Hid.mk hS5
    have hB4:=Hid.mk hB5
    clear hR5 ho5 hS5 hB5
    go_upto_region 4 with fail
    go_cut [35] (fun _ wr=>wr=w5.drew.setCell ⟨V2,2,none⟩ (.bool true))
    case first=>as_aux_lemma=>
     obtain ⟨Pp,hPp⟩:∃ P:List Value→World→Prop,P=fun l v=>match l with | []=>v=w5.drew | _=>v=w5.drew.setCell ⟨V2,2,none⟩ (.bool true):=⟨_,rfl⟩
     have hP0:∀ v,Pp [] v↔v=w5.drew:=fun v=>by rw [hPp]
     have hP1:∀ x v,Pp [x] v↔v=w5.drew.setCell ⟨V2,2,none⟩ (.bool true):=fun x v=>by rw [hPp]
     clear hPp
     have hS0:=EC.start [7] (fun i=>match i with | 2=> .pointer (some ⟨R,14,none⟩) | 3=> .slice (some ⟨V2,0,none⟩) 3 3 | 4=> .pointer (some ⟨S,1,none⟩) | 5=> .int .i64 2 | 6=> .pointer (some ⟨V2,2,none⟩) | _=> .pointer (some ⟨R,0,none⟩)) (P:=Pp) (W:=w5.drew) ((hP0 _).mpr rfl)
     go_wp2_with (fail)
     refine Go.Ev.wp_region_inv _ hm (by kernel_rfl) (by kernel_rfl) hS0 ?_
     refine ⟨fun D vs wq K hQ hd hdep hcl hK=> ?_,?_⟩
     ·go_simp
      exact hK _ _ (hQ.pure (by decide) rfl)
     simp only [Act.put,List.setIfInBounds_toArray,List.set_cons_succ,List.set_cons_zero,Nat.reduceAdd]
     refine ⟨fun D vs wq K hQ hd hdep hcl hK=> ?_,?_⟩
     ·have e0:=hQ.vals 0 (depB hdep 0 (by kernel_rfl)) (by decide)
      simp only at e0
      simp only [e0] at hK ⊢
      go_simp
      exact hK _ _ (hQ.pure (by decide) rfl)
     simp only [Act.put,List.setIfInBounds_toArray,List.set_cons_succ,List.set_cons_zero,Nat.reduceAdd]
     refine ⟨fun D vs wq K hQ hd hdep hcl hK=> ?_,?_⟩
     ·have e1:=hQ.vals 1 (depB hdep 1 (by kernel_rfl)) (by decide)
      simp only at e1
      simp only [e1] at hK ⊢
      go_simp
      exact hK _ _ (hQ.pure (by decide) rfl)
     simp only [Act.put,List.setIfInBounds_toArray,List.set_cons_succ,List.set_cons_zero,Nat.reduceAdd]
     refine ⟨fun D vs wq K hQ hd hdep hcl hK=> ?_,?_⟩
     ·have e2:=hQ.vals 2 (depB hdep 2 (by kernel_rfl)) (by decide)
      simp only at e2
      have hq:=(hP0 _).mp (hQ.at 0 (by decide) (.inl rfl) (.inr (closedF hcl 7 3 (by kernel_rfl) hd)))
      have c14:wq.cell? ⟨R,14,none⟩=some (.slice (some ⟨V2,0,none⟩) 3 3):=by rw [hq]; exact hR4.out.cs.c14
      clear hq
      simp only [e2] at hK ⊢
      go_simp
      exact hK _ _ (hQ.pure (by decide) rfl)
     simp only [Act.put,List.setIfInBounds_toArray,List.set_cons_succ,List.set_cons_zero,Nat.reduceAdd]
     refine ⟨fun D vs wq K hQ hd hdep hcl hK=> ?_,?_⟩
     ·go_simp
      exact hK _ _ (hQ.pure (by decide) rfl)
     simp only [Act.put,List.setIfInBounds_toArray,List.set_cons_succ,List.set_cons_zero,Nat.reduceAdd]
     refine ⟨fun D vs wq K hQ hd hdep hcl hK=> ?_,?_⟩
     ·have e4:=hQ.vals 4 (depB hdep 4 (by kernel_rfl)) (by decide)
      simp only at e4
      have hq:=(hP0 _).mp (hQ.at 0 (by decide) (.inl rfl) (.inr (closedF hcl 7 5 (by kernel_rfl) hd)))
      have d1:wq.cell? ⟨S,1,none⟩=some (.int .i64 2):=by rw [hq]; exact (cell_of_row w5 _ _ _ _ _ hS4.out).trans rfl
      clear hq
      simp only [e4] at hK ⊢
      go_simp
      exact hK _ _ (hQ.pure (by decide) rfl)
     simp only [Act.put,List.setIfInBounds_toArray,List.set_cons_succ,List.set_cons_zero,Nat.reduceAdd]
     refine ⟨fun D vs wq K hQ hd hdep hcl hK=> ?_,?_⟩
     ·have e3:=hQ.vals 3 (depB hdep 3 (by kernel_rfl)) (by decide)
      simp only at e3
      have e5:=hQ.vals 5 (depB hdep 5 (by kernel_rfl)) (by decide)
      simp only at e5
      simp only [e3,e5] at hK ⊢
      go_simp
      exact hK _ _ (hQ.pure (by decide) rfl)
     simp only [Act.put,List.setIfInBounds_toArray,List.set_cons_succ,List.set_cons_zero,Nat.reduceAdd]
     refine ⟨fun D vs wq K hQ hd hdep hcl hK=> ?_,?_⟩
     ·have e6:=hQ.vals 6 (depB hdep 6 (by kernel_rfl)) (by decide)
      simp only at e6
      have hq:=(hP0 _).mp (hQ.at 0 (by decide) (.inl rfl) (.inr hd))
      have cv:wq.cell? ⟨V2,2,none⟩=some (.bool false):=by rw [hq]; exact (cell_of_row w5 _ _ _ _ _ hR4.out.v).trans rfl
      have fv:wq.frozen? ⟨V2,2,none⟩=false:=by rw [hq]; exact frozen_of_row w5 _ 2 _ _ hR4.out.v
      have hqH:=Hid.mk hq
      clear hq
      simp only [e6] at hK ⊢
      go_simp
      refine hK undef _ ?_
      exact hQ.eff 0 (by decide) (by decide) (.inl rfl) hd ((hP1 _ _).mpr (by rw [hqH.out]))
     simp only [Act.put,List.setIfInBounds_toArray,List.set_cons_succ,List.set_cons_zero,Nat.reduceAdd]
     intro vs D w6 hS6 hall
     have hp:=(hP1 _ _).mp (hS6.done (fun t ht=>hall _ (by have h2:t < 1:=ht; obtain rfl:t=0:=(by omega); decide)))
     subst hp
     clear hS6 hall hS0 hP0 hP1
     go_wp2_with (fail)
     go_meet
     exact rfl
    case rest=>
     have hwr:=hcut
     rename World=>w6
     have hR6:Rep B R KB A2 V2 M2 N2 2 (vn:Nat) k2 mach false vt2 nil3 o2 w6:=by
      rw [hwr]; exact (hR4.out.below (Below.refl _ w5).drew).set_v 2 (.bool true)
     have hb:∀ j,j≠V2→w6.heap[j]?=w5.heap[j]?:=fun j hj=>by rw [hwr]; exact Below.heap_setCell _ _ _ _ (by simpa using hj)
     have ho6:w6.ownsRow B 88 2 o2 2 x2:=out_same ho4.out fun g hg=>hb g (fun e=>by
      obtain ⟨cs,hc⟩:=own_ty ho4.out hg
      exact (hR4.out.other hc).2.1 (by decide) e.symm)
     have hB6:Below B w w6:=by rw [hwr]; exact setCell_low hB4.out.drew ⟨V2,2,none⟩ _ hR4.out.vl
     have hwd:=Hid.mk (word_any vn hR6 (hhH.out.low hB6 hBpos.out) hBpos.out x2 ho6)
     have hB6H:=Hid.mk hB6
     clear hwr hcut hR6 hb ho6 hB6
     go_wp2_with (first | (go_at_call 78; refine hwd.out.mono ?_; rintro e wz ⟨rfl,hX⟩; replace hX:=Hid.mk hX))
     go_end0
     obtain ⟨ms',out',n,xs',hRz,hoz,hn,hBz⟩:=hX.out
     exact ⟨rfl,A2,V2,M2,N2,ms',out',n,xs',hRz,hoz,hn,hB6H.out.trans hBz⟩
set_option maxRecDepth 100000 in
set_option maxHeartbeats 6400000 in
theorem hear_vote (h:Rep B R KB A V M N 1 0 k2 mach moved vt ms nilO w) (hh:HalvesAt w) (hB0:0 < B) (vn:Nat) (hvn:1≤vn) (ka:Option Addr) (na kc:Nat) (ea:Option Addr) (ne ec:Nat) :
  Calls Tryz.prog 18 #[.pointer (some ⟨R,0,none⟩),.agg (msC (mv 6 2 k2 0 0 0 (vn:Nat)) (.slice ka na kc) (.slice ea ne ec))] w fun e w'=>e= .returned (.tuple #[])∧VoteP B R KB vn k2 mach w w':=by
 have hH:=Hid.mk h
 have hhH:=Hid.mk hh
 have hBpos:=Hid.mk hB0
 have hvnH:=Hid.mk hvn
 clear h hh hB0 hvn
 unfold msC mv
 simp only
 go_enter Tryz.func18,Tryz.ntmps18
 go_upto_region 0 with fail
 go_cut [1,3] (fun _ y wr=>y= .pointer (some ⟨w.heap.size,0,none⟩)∧wr.heap[w.heap.size]?=some (.cells (msC (mv 6 2 k2 0 0 0 (vn:Nat)) (.slice ka na kc) (.slice ea ne ec)) 35 (0,0))∧Below w.heap.size w wr)
 case first=>as_aux_lemma=>
  go_wp2_with (fail)
  go_meet
  exact ⟨rfl,heap_alloc_new _ _,(Below.refl _ w).alloc (Nat.le_refl _) _⟩
 case rest=>
  obtain ⟨rfl,hS,hB⟩:=hcut
  rename World=>w1
  have hR1:=Hid.mk (hH.out.below hB)
  have hB1:=Hid.mk (hB.mono (Nat.le_trans hH.out.rl (Nat.le_of_lt hH.out.lt)))
  have c2:=hR1.out.cs.c2
  have d0:w1.cell? ⟨w.heap.size,0,none⟩=some (.int .i64 6):=(cell_of_row _ _ _ _ _ _ hS).trans rfl
  have hak:=vote_any hR1.out (hhH.out.below hB) hBpos.out vn hvnH.out ka na kc ea ne ec
  unfold msC mv at hak hS
  simp only at hak hS
  have hSH:=Hid.mk hS
  have hakH:=Hid.mk hak
  clear hS hB hak
  go_wp2_with (first | (refine wpList_load_row rfl 35 _ rfl w.heap.size rfl _ _ _ _ hSH.out Tryz.underlying35 rfl (msInfo.trans rfl) ?_) | (go_at_call 45; refine hakH.out.mono ?_; rintro e wz ⟨rfl,hX⟩; replace hX:=Hid.mk hX))
  go_end0
  obtain ⟨A2,V2,M2,N2,ms',out',n,xs',hRz,hoz,hn,hBz⟩:=hX.out
  exact ⟨rfl,A2,V2,M2,N2,ms',out',n,xs',hRz,hoz,hn,hB1.out.trans hBz⟩
set_option maxRecDepth 100000 in
set_option maxHeartbeats 6400000 in
theorem receive_vote (h:Rep B R KB A V M N 1 0 k2 mach moved vt ms nilO w) (hh:HalvesAt w) (f:Str) (hf:f.length≤1000000) (hB0:0 < B) (hk2:0≤k2) (vn:Nat) (hvn:1≤vn) (hg:getM f=(mv 6 2 k2 0 0 0 (vn:Nat),0)):Calls Tryz.prog 7 #[.pointer (some ⟨R,0,none⟩),.string (bs f)] w fun e w'=>∃ a n c,e= .returned (.slice a n c)∧2≤n∧(∃ A V M N ms',Rep B R KB A V M N 2 (vn:Nat) k2 mach true vt2 ms' nilO w')∧Below B w w':=by
 have hm:Tryz.prog.follows .mixedOrders=true:=by kernel_rfl
 have hH:=Hid.mk h
 have hget:=Hid.mk (mget_any f hf w hh)
 have hgm:=Hid.mk hg
 have hhH:=Hid.mk hh
 have hBpos:=Hid.mk hB0
 have hk2H:=Hid.mk hk2
 have hvnH:=Hid.mk hvn
 clear hB0 hk2 hvn
 have c11:=h.cs.c11
 clear h hh hf hg
 go_enter Tryz.func7,Tryz.ntmps7
 go_upto_region 3 with fail
 go_cut [5,6] (fun x y wr=>y= .int .i64 0∧∃ S ka kc ea ec,x= .pointer (some ⟨S,0,none⟩)∧w.heap.size≤S∧wr.heap[S]?=some (.cells (msC (mv 6 2 k2 0 0 0 (vn:Nat)) (.slice ka 3 kc) (.slice ea 0 ec)) 35 (0,0))∧IntsV wr (.slice ka 3 kc) [0,0,0]∧Below w.heap.size w wr)
 case first=>as_aux_lemma=>
  go_wp2_with (fail)
  go_at_call 9
  refine hget.out.mono ?_
  rintro e wz ⟨vk,a,cap,he,hiv,hown,hB⟩
  rw [hgm.out] at he hiv hown
  obtain ⟨ka,kc,rfl⟩:∃ a c,vk= .slice a 3 c:=by
   obtain ⟨a,c,h,_⟩:=hiv.at
   exact ⟨a,c,h⟩
  subst he
  have hivH:=Hid.mk hiv
  have hBH:=Hid.mk hB
  have hcl:=Hid.mk (heap_alloc_new wz (.cells (msC msZ nilS nilS) 35))
  clear hiv hown hB hget
  unfold msC mv
  simp only
  go_wp2_with (first | (refine wpList_store_row rfl 35 _ _ rfl wz.heap.size (msC (mv 6 2 k2 0 0 0 (vn:Nat)) (.slice ka 3 kc) (.slice a 0 cap)) rfl rfl 35 _ hcl.out (msInfo.trans rfl) rfl (one_msC _ _ _ _ _ _ _) ?_))
  go_meet
  have hr:=setRow_heap (wz.alloc (.cells (msC msZ nilS nilS) 35)) wz.heap.size _ (msC (mv 6 2 k2 0 0 0 (vn:Nat)) (.slice ka 3 kc) (.slice a 0 cap)) 35 _ hcl.out
  have hBa:Below wz.heap.size wz ((wz.alloc (.cells (msC msZ nilS nilS) 35)).setRow wz.heap.size (msC (mv 6 2 k2 0 0 0 (vn:Nat)) (.slice ka 3 kc) (.slice a 0 cap))):=setRow_low ((Below.refl _ wz).alloc (Nat.le_refl _) _) _ _ (Nat.le_refl _)
  exact ⟨rfl,wz.heap.size,ka,kc,a,cap,rfl,hBH.out.size,hr,hivH.out.below hBa,hBH.out.trans (hBa.mono hBH.out.size)⟩
 case rest=>
  clear hget c11
  obtain ⟨rfl,S,ka,kc,ea,ec,rfl,hSl,hS,hiv,hB⟩:=hcut
  rename World=>w2
  have hR2:=Hid.mk (hH.out.below hB)
  have hB2:=Hid.mk hB
  have hv2:=Hid.mk hiv
  have hSz:=Hid.mk (Array.getElem?_eq_some_iff.1 hS).1
  have hSlH:=Hid.mk hSl
  have hS2:=Hid.mk hS
  have d0:w2.cell? ⟨S,0,none⟩=some (.int .i64 6):=(cell_of_row _ _ _ _ _ _ hS).trans rfl
  have hSu:=hS
  unfold msC mv at hSu
  simp only at hSu
  replace hSu:=Hid.mk hSu
  clear hSl hS hiv hB
  go_upto_region 8 with fail
  go_cut [29] (fun y wr=>y= .bool true∧Rep B R KB A V M N 1 0 k2 mach moved vt ms nilO wr∧Below w2.heap.size w2 wr)
  case first=>as_aux_lemma=>
   go_wp2_with (fail)
   refine Go.Ev.wp_region_planE (fun v=>Rep B R KB A V M N 1 0 k2 mach moved vt ms nilO v∧Below w2.heap.size w2 v) hm (by kernel_rfl) (by kernel_rfl) ⟨hR2.out.below (Below.refl _ w2).drew,(Below.refl _ w2).drew⟩ ?_
   refine Go.Ev.planE_cons _ (by rintro v K hv hK; replace hv:=Hid.mk hv; go_simp; exact hK _ hv.out) ?_
   simp only [Act.put,List.setIfInBounds_toArray,List.set_cons_succ,List.set_cons_zero]
   refine Go.Ev.planE_cons _ (by rintro v K hv hK; replace hv:=Hid.mk hv; have d1:v.cell? ⟨S,1,none⟩=some (.int .i64 2):=(hv.out.2.cell hSz.out).trans ((cell_of_row _ _ 1 _ _ _ hS2.out).trans rfl); go_simp; exact hK _ hv.out) ?_
   simp only [Act.put,List.setIfInBounds_toArray,List.set_cons_succ,List.set_cons_zero]
   refine Go.Ev.planE_cons _ (by rintro v K hv hK; replace hv:=Hid.mk hv; go_simp; exact hK _ hv.out) ?_
   simp only [Act.put,List.setIfInBounds_toArray,List.set_cons_succ,List.set_cons_zero]
   refine Go.Ev.planE_cons _ (by rintro v K hv hK; replace hv:=Hid.mk hv; go_simp; exact hK _ hv.out) ?_
   simp only [Act.put,List.setIfInBounds_toArray,List.set_cons_succ,List.set_cons_zero]
   refine Go.Ev.planE_cons _ (by rintro v K hv hK; replace hv:=Hid.mk hv; go_simp; exact hK _ hv.out) ?_
   simp only [Act.put,List.setIfInBounds_toArray,List.set_cons_succ,List.set_cons_zero]
   refine Go.Ev.planE_cons _ (by rintro v K hv hK; replace hv:=Hid.mk hv; have c0:=hv.out.1.cs.c0; go_simp; exact hK _ hv.out) ?_
   simp only [Act.put,List.setIfInBounds_toArray,List.set_cons_succ,List.set_cons_zero]
   refine Go.Ev.planE_cons _ (by rintro v K hv hK; replace hv:=Hid.mk hv; go_simp; exact hK _ hv.out) ?_
   simp only [Act.put,List.setIfInBounds_toArray,List.set_cons_succ,List.set_cons_zero]
   refine Go.Ev.planE_cons _ (by rintro v K hv hK; replace hv:=Hid.mk hv; go_simp; exact hK _ hv.out) ?_
   simp only [Act.put,List.setIfInBounds_toArray,List.set_cons_succ,List.set_cons_zero]
   refine Go.Ev.planE_cons _ (by rintro v K hv hK; replace hv:=Hid.mk hv; go_simp; exact hK _ hv.out) ?_
   simp only [Act.put,List.setIfInBounds_toArray,List.set_cons_succ,List.set_cons_zero]
   refine Go.Ev.planE_cons _ (by rintro v K hv hK; replace hv:=Hid.mk hv; refine ite_of rfl ?_; refine wp_load_row 35 _ rfl S rfl _ _ _ _ ((hv.out.2.block S hSz.out).trans hSu.out) Tryz.underlying35 rfl (msInfo.trans rfl) ?_; exact hK _ hv.out) ?_
   simp only [Act.put,List.setIfInBounds_toArray,List.set_cons_succ,List.set_cons_zero]
   refine Go.Ev.planE_cons (.bool true) (by
    rintro u K hv hK
    have hvH:=Hid.mk hv
    have hl:=learn_same hv.1 hk2H.out (vn:Nat) (.slice ka 3 kc) (.slice ea 0 ec) (hv2.out.below hv.2)
    unfold msC mv at hl
    simp only at hl
    have hlH:=Hid.mk hl
    clear hv hl
    go_simp
    go_at_call 17
    refine hlH.out.mono ?_
    rintro e wz ⟨rfl,hBz⟩
    exact hK _ ⟨hvH.out.1.below hBz,hvH.out.2.trans (hBz.mono hvH.out.2.size)⟩) ?_
   simp only [Act.put,List.setIfInBounds_toArray,List.set_cons_succ,List.set_cons_zero]
   refine Go.Ev.planE_cons _ (by rintro v K hv hK; replace hv:=Hid.mk hv; go_simp; exact hK _ hv.out) ?_
   simp only [Act.put,List.setIfInBounds_toArray,List.set_cons_succ,List.set_cons_zero]
   refine Go.Ev.planE_cons _ (by rintro v K hv hK; replace hv:=Hid.mk hv; go_simp; exact hK _ hv.out) ?_
   simp only [Act.put,List.setIfInBounds_toArray,List.set_cons_succ,List.set_cons_zero]
   rintro w3 hv
   replace hv:=Hid.mk hv
   go_wp2_with (fail)
   go_meet
   exact ⟨rfl,hv.out⟩
  case rest=>
   obtain ⟨rfl,hR,hB⟩:=hcut
   rename World=>w3
   have hS3:=Hid.mk ((hB.block S hSz.out).trans hSu.out)
   have hB3:=Hid.mk ((hB2.out.trans (hB.mono hB2.out.size)).mono (Nat.le_trans hH.out.rl (Nat.le_of_lt hH.out.lt)))
   have hhe:=hear_vote hR (hhH.out.low hB3.out hBpos.out) hBpos.out vn hvnH.out ka 3 kc ea 0 ec
   unfold msC mv at hhe
   simp only at hhe
   have hheH:=Hid.mk hhe
   clear hR hB hhe d0
   go_upto_region 10 with (first | (refine wpList_load_row rfl 35 _ rfl S rfl _ _ _ _ hS3.out Tryz.underlying35 rfl (msInfo.trans rfl) ?_) | (go_at_call 18; refine hheH.out.mono ?_; rintro e w4 ⟨rfl,hX⟩; replace hX:=Hid.mk hX))
   obtain ⟨A2,V2,M2,N2,ms',out',n,xs',hRz,hoz,hn,hBz⟩:=hX.out
   obtain ⟨oa,oc,rfl⟩:=out_slice hoz
   have hfl:=Hid.mk (flush_any hRz)
   have hB4:=Hid.mk (hB3.out.trans hBz)
   have hnH:=Hid.mk hn
   have hrl:=Hid.mk (And.intro hRz.rl hRz.lt)
   clear hX hRz hoz hBz hn
   go_wp2_with (first | (go_at_call 19; refine hfl.out.mono ?_; rintro e wz ⟨rfl,hRz,hkz⟩; replace hRz:=Hid.mk hRz; replace hkz:=Hid.mk hkz))
   go_ret
   exact ⟨oa,n,oc,rfl,hnH.out,⟨A2,V2,M2,N2,ms',hRz.out⟩,hB4.out.trans ⟨hkz.out.os,hkz.out.tape,hkz.out.output,hkz.out.size,fun i hi=>hkz.out.block i (by have:=hrl.out.1; have:=hrl.out.2; omega) (by have:=hrl.out.1; omega)⟩⟩
end
end Go.Proofs.YtniamhbcmcgonaaGreatDoor
