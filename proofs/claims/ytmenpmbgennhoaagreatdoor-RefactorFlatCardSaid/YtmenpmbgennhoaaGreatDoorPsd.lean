/- Parsing: an atom. Parsing: a row. Parsing: alternatives; and all of it by induction. -/
import Derived.Test.YtmenpmbgennhoaaGreatDoorPsa
import Derived.Laws.ResultCell
namespace Go.Proofs.YtmenpmbgennhoaaGreatDoor
open Go.RowKit
theorem results_ct_row {P:Program} {fn:Func} {p u:Tmp} {ty:TypeId} (h:fn.results=#[.cell p ty,.tmp u]) (tmps:Array Value) (w:World) (g:Nat) (t:TypeId) (cs:Array Value) (fr:Nat × Nat) (d:TypeDesc)
  (hp:tmps.getD p undef= .pointer (some ⟨g,0,none⟩)) (hg:w.heap[g]?=some (.cells cs t fr))
  (hu:P.underlying ty=some d) (hd:(match d with | .struct _ | .array _ _=>true | _=>false)=true) (hi:(P.info? ty).map (·.size)=some cs.size) :
  (results fn tmps).run P w= .ok (.tuple #[.agg cs,tmps.getD u undef]) w:=by
 rw [results_cell_tmp h,hp]
 simp [asAddr,run_loadVar_row w g t ty cs fr d hg hu hd hi,Result.andThen]
theorem TrAt.leaf (S:Nat→Prop) (w:World) (k:Nat) (x:ByteArray):TrAt S w (.mk k x []) (.slice none 0 0):= .mk k x [] _ [] rfl (.inl ⟨none,0,rfl,rfl⟩) (fun i t s h=>by simp at h)
theorem TrAt.one {S:Nat→Prop} {w:World} {t:Tr} {s:Value} (h:TrAt S w t s) {K c:Nat} {ty:TypeId} {fr:Nat × Nat} (hK:w.heap[K]?=some (.cells (nodeC t s).toArray ty fr)) (hS:S K) (k:Nat) (x:ByteArray):TrAt S w (.mk k x [t]) (.slice (some ⟨K,0,none⟩) 1 c):=by
 refine .mk k x [t] _ [s] rfl (.inr ⟨K,0,c,rfl,hS,(Array.getElem?_eq_some_iff.1 hK).1,show 1≤maxLen by decide,fun j u hu=> ?_⟩) (fun i t' s' h1 h2=> ?_)
 ·have:w.cell? ⟨K,j,none⟩=(nodeC t s).toArray[j]?:=by simp [World.cell?,hK]
  rw [Nat.zero_add,this]
  simpa [nodesC] using hu
 ·match i with
  | 0=>simp at h1 h2; subst h1 h2; exact h
  | i+1=>simp at h1
set_option maxRecDepth 100000 in
set_option maxHeartbeats 3200000 in
theorem atom_any (P G:Nat) (ts:List Tok) (n:Nat) (v:Value) (f:Nat) (ih:ArC P G ts n v f):AtomC P G ts n v (f+1):=by
 intro p w h hf
 obtain ⟨R,hR⟩:∃ R,atomF ts (f+1) p=R:=⟨_,rfl⟩
 rw [hR]
 rw [atomF] at hR
 obtain ⟨Z,hZ⟩:∃ Z,w.heap.size=Z:=⟨_,rfl⟩
 have hZr:=heap_alloc_new w (.cells #[.int .i64 0,.string ⟨#[]⟩,.slice none 0 0] 57)
 have hB0:Below Z w (w.alloc (.cells #[.int .i64 0,.string ⟨#[]⟩,.slice none 0 0] 57)):=by rw [← hZ]; exact (Below.refl _ w).alloc (Nat.le_refl _) _
 have hPZ:P < Z:=by have:=h.clt; omega
 rw [hZ] at hZr
 have hsz0:(w.alloc (.cells #[.int .i64 0,.string ⟨#[]⟩,.slice none 0 0] 57)).heap.size=Z+1:=by simp; omega
 have hS0:=h.below (by rw [hZ]; exact hB0)
 have hsmi:(p.at_:Int) < 65537:=by have:=h.le; have:=h.ok.small; omega
 have hok:=Hid.mk h.ok
 have hle:=Hid.mk h.le
 clear h
 go_enter Tryz.func113,Tryz.ntmps113
 go_upto_region 1 with (fail)
 generalize World.alloc w _=w0 at*
 have hO0:=Hid.mk (Onl.of P (show Below w.heap.size w w0 by rw [hZ]; exact hB0))
 have hS0:=Hid.mk hS0
 have hZ0:=Hid.mk hZr
 clear hB0 hZr
 go_wp2_with (fail)
 refine (peek_any P G ts n v p w0 hS0.out).mono ?_
 rintro e w1 ⟨hB1,hP1⟩
 cases hpk:peekF ts p with
 | bad fe=>
  rw [hpk] at hP1 hR
  subst hP1
  subst hR
  exact ⟨rfl,⟨hO0.out.trans (Onl.of P hB1),rfl⟩,fun t p' h=>by cases h⟩
 | ok t p0=>
  rw [hpk] at hP1 hR
  subst hP1
  obtain ⟨ht,rfl⟩:=peekF_ok hpk
  clear hpk
  obtain ⟨tk,tx,tl,tc⟩:=t
  have hltk:Hid (tk≠4→p0.at_ < n):= .mk fun h4=>hok.out.lt hle.out (by rw [← ht]; exact h4)
  clear ht
  simp only at hR
  obtain ⟨T,hT⟩:∃ T,w1.heap.size=T:=⟨_,rfl⟩
  have hTr:=heap_alloc_new w1 (.cells #[.int .i64 (tk:Nat),.string tx,.int .i64 (tl:Nat),.int .i64 (tc:Nat)] 112)
  rw [hT] at hTr
  have hB2:Below w1.heap.size w1 (w1.alloc (.cells #[.int .i64 (tk:Nat),.string tx,.int .i64 (tl:Nat),.int .i64 (tc:Nat)] 112)):=(Below.refl _ w1).alloc (Nat.le_refl _) _
  have hB2:=hB1.trans (hB2.mono hB1.size)
  have hZT:Z < T:=by have:=hB1.size; omega
  have hsz2:(w1.alloc (.cells #[.int .i64 (tk:Nat),.string tx,.int .i64 (tl:Nat),.int .i64 (tc:Nat)] 112)).heap.size=T+1:=by simp; omega
  unfold tokV
  go_upto_block 0 with (fail)
  generalize World.alloc w1 _=w2 at*
  have hS2:=Hid.mk (hS0.out.below hB2)
  have hO2:=Hid.mk (hO0.out.trans (Onl.of P hB2))
  have hZ2:=Hid.mk ((hB2.block Z (by omega)).trans hZ0.out)
  have t0:w2.cell? ⟨T,0,none⟩=some (.int .i64 (tk:Nat)):=by simp [World.cell?,hTr]
  have t1:w2.cell? ⟨T,1,none⟩=some (.string tx):=by simp [World.cell?,hTr]
  have hTPne:P≠T:=by omega
  have hc1:w2.cell? ⟨P,1,none⟩=some (.int .i64 (p0.at_:Nat)):=by simp [World.cell?,hS2.out.cells,psCells]
  have hf1:w2.frozen? ⟨P,1,none⟩=false:=by simp [World.frozen?,hS2.out.cells]
  clear hB1 hB2 hS0 hO0 hZ0 hTr hT
  have hleaf:tk=1∨tk=2∨(tk≠1∧tk≠2):=by omega
  rcases hleaf with hk | hk | ⟨hk1,hk2⟩
  ·subst hk
   rw [if_pos rfl] at hR
   go_upto_region 4 with (fail)
   generalize hw3:World.setCell _ _ _=w3
   have hO23:Onl P w2 w3:=by
    subst hw3
    exact (Onl.refl P w2).setCell (p:=⟨P,1,none⟩) rfl _
   have hS3:Hid (PsS P G ts n v ⟨p0.at_+1,p0.open_⟩ w3):= .mk (by
    subst hw3
    exact hS2.out.step (hltk.out (by decide)))
   have hZ3:=Hid.mk ((World.grownBy.block hO23 Z (Array.getElem?_eq_some_iff.1 hZ2.out).1 (fun e=>by cases e; omega)).trans hZ2.out)
   have t1:w3.cell? ⟨T,1,none⟩=some (.string tx):=by
    rw [← t1]
    have:=World.grownBy.block hO23 T (by omega) (fun e=>by cases e; omega)
    simp [World.cell?,this]
   have hO3:=Hid.mk (hO2.out.trans hO23)
   clear hw3 hO23 hS2 hZ2 hO2 hc1 hf1 t0 hltk
   have hend:Hid ((w3.setRow Z #[.int .i64 1,.string tx,.slice none 0 0]).heap[Z]?=some (.cells #[.int .i64 1,.string tx,.slice none 0 0] 57 (0,0))):= .mk (setRow_heap _ _ _ _ _ _ hZ3.out)
   go_wp2_with (first | (refine wpList_store_row rfl 57 _ _ rfl Z #[.int .i64 1,.string tx,.slice none 0 0] rfl rfl 57 _ hZ3.out nodeInfo rfl (by simp [Value.oneCell']) ?_))
   refine bodyPost_ret (results_ct_row rfl _ _ Z _ _ _ _ rfl hend.out Tryz.underlying57 rfl nodeInfo) rfl ?_
   subst hR
   exact ⟨⟨hO3.out.setRow_new (by omega) _,⟨_,rfl,_,rfl,_,rfl,TrAt.leaf _ _ _ _⟩,hS3.out.setRow hPZ _,by simp only; omega,rfl⟩,fun t' p' h=>by cases h; simp only; omega⟩
  ·subst hk
   rw [if_neg (by decide),if_pos rfl] at hR
   go_upto_region 7 with (fail)
   generalize hw3:World.setCell _ _ _=w3
   have hO23:Onl P w2 w3:=by
    subst hw3
    exact (Onl.refl P w2).setCell (p:=⟨P,1,none⟩) rfl _
   have hS3:Hid (PsS P G ts n v ⟨p0.at_+1,p0.open_⟩ w3):= .mk (by
    subst hw3
    exact hS2.out.step (hltk.out (by decide)))
   have hZ3:=Hid.mk ((World.grownBy.block hO23 Z (Array.getElem?_eq_some_iff.1 hZ2.out).1 (fun e=>by cases e; omega)).trans hZ2.out)
   have t1:w3.cell? ⟨T,1,none⟩=some (.string tx):=by
    rw [← t1]
    have:=World.grownBy.block hO23 T (by omega) (fun e=>by cases e; omega)
    simp [World.cell?,this]
   have hO3:=Hid.mk (hO2.out.trans hO23)
   clear hw3 hO23 hS2 hZ2 hO2 hc1 hf1 t0 hltk
   have hend:Hid ((w3.setRow Z #[.int .i64 2,.string tx,.slice none 0 0]).heap[Z]?=some (.cells #[.int .i64 2,.string tx,.slice none 0 0] 57 (0,0))):= .mk (setRow_heap _ _ _ _ _ _ hZ3.out)
   go_wp2_with (first | (refine wpList_store_row rfl 57 _ _ rfl Z #[.int .i64 2,.string tx,.slice none 0 0] rfl rfl 57 _ hZ3.out nodeInfo rfl (by simp [Value.oneCell']) ?_))
   refine bodyPost_ret (results_ct_row rfl _ _ Z _ _ _ _ rfl hend.out Tryz.underlying57 rfl nodeInfo) rfl ?_
   subst hR
   exact ⟨⟨hO3.out.setRow_new (by omega) _,⟨_,rfl,_,rfl,_,rfl,TrAt.leaf _ _ _ _⟩,hS3.out.setRow hPZ _,by simp only; omega,rfl⟩,fun t' p' h=>by cases h; simp only; omega⟩
  ·rw [if_neg hk1,if_neg hk2] at hR
   have hk1i:((tk:Int)==1)=false:=beq_ne (by omega)
   have hk2i:((tk:Int)==2)=false:=beq_ne (by omega)
   by_cases hk3:tk=3
   ·subst hk3
    rw [if_neg (by decide)] at hR
    clear hk1 hk2 hk1i hk2i
    by_cases hx1:tx.toList=[40]
    ·rw [if_pos hx1] at hR
     have hx1i:(tx.toList==[40])=true:=by rw [hx1]; rfl
     have har:=ih p0 w2 (str1 41) hS2.out (hltk.out (by decide)) (by omega)
     cases ha:arF ts f p0 (str1 41) with
     | bad fe=>
      rw [ha] at har hR
      go_wp2_with (fail)
      refine har.mono ?_
      rintro e w3 ⟨⟨hO3,rfl⟩,_⟩
      subst hR
      exact ⟨rfl,⟨hO2.out.trans hO3,rfl⟩,fun t p' h=>by cases h⟩
     | ok t p1=>
      rw [ha] at har hR
      go_wp2_with (fail)
      refine har.mono ?_
      rintro e w3 ⟨⟨hO3,⟨u,rfl,s,rfl,hTr⟩,hS3,hle3,hop3⟩,hlt3⟩
      have hlt3:=hlt3 t p1 rfl
      have hZ3:=Hid.mk ((World.grownBy.block hO3 Z (Array.getElem?_eq_some_iff.1 hZ2.out).1 (fun e=>by cases e; omega)).trans hZ2.out)
      have hsz3:=hO3.size
      have hO3:=Hid.mk (hO2.out.trans hO3)
      obtain ⟨sp,sc,rfl⟩:=hTr.form
      have hTr:=Hid.mk (hTr.mono (S':=fun g=>Z+1≤g) fun g h1 _=>(by omega))
      have hS3:=Hid.mk hS3
      unfold nodeV
      clear hS2 hZ2 hO2 hc1 hf1 t0 t1 hltk har
      have hend:Hid ((w3.setRow Z #[.int .i64 (t.kind:Nat),.string t.text,.slice sp t.kids.length sc]).heap[Z]?=some (.cells #[.int .i64 (t.kind:Nat),.string t.text,.slice sp t.kids.length sc] 57 (0,0))):= .mk (setRow_heap _ _ _ _ _ _ hZ3.out)
      go_wp2_with (first | (refine wpList_store_row rfl 57 _ _ rfl Z #[.int .i64 (t.kind:Nat),.string t.text,.slice sp t.kids.length sc] rfl rfl 57 _ hZ3.out nodeInfo rfl (by simp [Value.oneCell']) ?_))
      refine bodyPost_ret (results_ct_row rfl _ _ Z _ _ _ _ rfl hend.out Tryz.underlying57 rfl nodeInfo) rfl ?_
      subst hR
      refine ⟨⟨hO3.out.setRow_new (by omega) _,⟨_,rfl,_,rfl,_,rfl,?_⟩,hS3.out.setRow hPZ _,hle3,hop3⟩,fun t' p' h=>(by cases h; exact hlt3)⟩
      exact (hTr.out.keep (S':=fun g=>Z≤g) (by simp) fun g h1 _=>⟨setRow_other _ _ _ _ (by omega),by omega⟩).mono fun g h1 _=>by omega
    ·rw [if_neg hx1] at hR
     have hx1i:(tx.toList==[40])=false:=beq_eq_false_iff_ne.2 hx1
     by_cases hx2:tx.toList=[91]
     ·rw [if_pos hx2] at hR
      have hx2i:(tx.toList==[91])=true:=by rw [hx2]; rfl
      have har:=ih p0 w2 (str1 93) hS2.out (hltk.out (by decide)) (by omega)
      cases ha:arF ts f p0 (str1 93) with
      | bad fe=>
       rw [ha] at har hR
       go_wp2_with (fail)
       refine har.mono ?_
       rintro e w3 ⟨⟨hO3,rfl⟩,_⟩
       subst hR
       exact ⟨rfl,⟨hO2.out.trans hO3,rfl⟩,fun t p' h=>by cases h⟩
      | ok t p1=>
       rw [ha] at har hR
       go_wp2_with (fail)
       refine har.mono ?_
       rintro e w3 ⟨⟨hO3,⟨u,rfl,s,rfl,hTr⟩,hS3,hle3,hop3⟩,hlt3⟩
       have hlt3:=hlt3 t p1 rfl
       have hZ3:=Hid.mk ((World.grownBy.block hO3 Z (Array.getElem?_eq_some_iff.1 hZ2.out).1 (fun e=>by cases e; omega)).trans hZ2.out)
       have hsz3:=hO3.size
       have hO3:=Hid.mk (hO2.out.trans hO3)
       obtain ⟨sp,sc,rfl⟩:=hTr.form
       have hTr:=Hid.mk (hTr.mono (S':=fun g=>Z+1≤g) fun g h1 _=>(by omega))
       have hS3:=Hid.mk hS3
       unfold nodeV
       clear hS2 hZ2 hO2 hc1 hf1 t0 t1 hltk har
       obtain ⟨V,hV⟩:∃ V,w3.heap.size=V:=⟨_,rfl⟩
       have hVr:=heap_alloc_new w3 (.cells #[.int .i64 (t.kind:Nat),.string t.text,.slice sp t.kids.length sc] 57)
       rw [hV] at hVr
       have hB4:Below w3.heap.size w3 (w3.alloc (.cells #[.int .i64 (t.kind:Nat),.string t.text,.slice sp t.kids.length sc] 57)):=(Below.refl _ w3).alloc (Nat.le_refl _) _
       have hZV:Z < V:=by have:=(Array.getElem?_eq_some_iff.1 hZ3.out).1; omega
       have hT4:=hTr.out.blw hB4
       have hS4:=Hid.mk (hS3.out.below hB4)
       have hZ4:=Hid.mk ((hB4.block Z (by omega)).trans hZ3.out)
       have hO4:=Hid.mk (hO3.out.trans (Onl.of P hB4))
       have hone:=Hid.mk (hT4.one (c:=1) hVr (by omega) 5 ⟨#[]⟩)
       clear hTr hT4 hVr hB4 hS3 hZ3 hO3
       obtain ⟨w4,hw4⟩:∃ w4,w3.alloc (.cells #[.int .i64 (t.kind:Nat),.string t.text,.slice sp t.kids.length sc] 57)=w4:=⟨_,rfl⟩
       rw [hw4] at hS4 hZ4 hO4 hone
       have hend:Hid ((w4.setRow Z #[.int .i64 5,.string ⟨#[]⟩,.slice (some ⟨V,0,none⟩) 1 1]).heap[Z]?=some (.cells #[.int .i64 5,.string ⟨#[]⟩,.slice (some ⟨V,0,none⟩) 1 1] 57 (0,0))):= .mk (setRow_heap _ _ _ _ _ _ hZ4.out)
       go_wp2_with (first | (refine wpList_build_node rfl _ rfl _ _ _ rfl ?_; rw [hw4,hV]) | (refine wpList_store_row rfl 57 _ _ rfl Z #[.int .i64 5,.string ⟨#[]⟩,.slice (some ⟨V,0,none⟩) 1 1] rfl rfl 57 _ hZ4.out nodeInfo rfl (by simp [Value.oneCell']) ?_))
       refine bodyPost_ret (results_ct_row rfl _ _ Z _ _ _ _ rfl hend.out Tryz.underlying57 rfl nodeInfo) rfl ?_
       subst hR
       refine ⟨⟨hO4.out.setRow_new (by omega) _,⟨_,rfl,_,rfl,_,rfl,?_⟩,hS4.out.setRow hPZ _,hle3,hop3⟩,fun t' p' h=>(by cases h; exact hlt3)⟩
       exact (hone.out.keep (S':=fun g=>Z≤g) (by simp) fun g h1 _=>⟨setRow_other _ _ _ _ (by omega),by omega⟩).mono fun g h1 _=>by omega
     ·rw [if_neg hx2] at hR
      have hx2i:(tx.toList==[91])=false:=beq_eq_false_iff_ne.2 hx2
      by_cases hx3:tx.toList=[123]
      ·rw [if_pos hx3] at hR
       have hx3i:(tx.toList==[123])=true:=by rw [hx3]; rfl
       have har:=ih p0 w2 (str1 125) hS2.out (hltk.out (by decide)) (by omega)
       cases ha:arF ts f p0 (str1 125) with
       | bad fe=>
        rw [ha] at har hR
        go_wp2_with (fail)
        refine har.mono ?_
        rintro e w3 ⟨⟨hO3,rfl⟩,_⟩
        subst hR
        exact ⟨rfl,⟨hO2.out.trans hO3,rfl⟩,fun t p' h=>by cases h⟩
       | ok t p1=>
        rw [ha] at har hR
        go_wp2_with (fail)
        refine har.mono ?_
        rintro e w3 ⟨⟨hO3,⟨u,rfl,s,rfl,hTr⟩,hS3,hle3,hop3⟩,hlt3⟩
        have hlt3:=hlt3 t p1 rfl
        have hZ3:=Hid.mk ((World.grownBy.block hO3 Z (Array.getElem?_eq_some_iff.1 hZ2.out).1 (fun e=>by cases e; omega)).trans hZ2.out)
        have hsz3:=hO3.size
        have hO3:=Hid.mk (hO2.out.trans hO3)
        obtain ⟨sp,sc,rfl⟩:=hTr.form
        have hTr:=Hid.mk (hTr.mono (S':=fun g=>Z+1≤g) fun g h1 _=>(by omega))
        have hS3:=Hid.mk hS3
        unfold nodeV
        clear hS2 hZ2 hO2 hc1 hf1 t0 t1 hltk har
        obtain ⟨V,hV⟩:∃ V,w3.heap.size=V:=⟨_,rfl⟩
        have hVr:=heap_alloc_new w3 (.cells #[.int .i64 (t.kind:Nat),.string t.text,.slice sp t.kids.length sc] 57)
        rw [hV] at hVr
        have hB4:Below w3.heap.size w3 (w3.alloc (.cells #[.int .i64 (t.kind:Nat),.string t.text,.slice sp t.kids.length sc] 57)):=(Below.refl _ w3).alloc (Nat.le_refl _) _
        have hZV:Z < V:=by have:=(Array.getElem?_eq_some_iff.1 hZ3.out).1; omega
        have hT4:=hTr.out.blw hB4
        have hS4:=Hid.mk (hS3.out.below hB4)
        have hZ4:=Hid.mk ((hB4.block Z (by omega)).trans hZ3.out)
        have hO4:=Hid.mk (hO3.out.trans (Onl.of P hB4))
        have hone:=Hid.mk (hT4.one (c:=1) hVr (by omega) 6 ⟨#[]⟩)
        clear hTr hT4 hVr hB4 hS3 hZ3 hO3
        obtain ⟨w4,hw4⟩:∃ w4,w3.alloc (.cells #[.int .i64 (t.kind:Nat),.string t.text,.slice sp t.kids.length sc] 57)=w4:=⟨_,rfl⟩
        rw [hw4] at hS4 hZ4 hO4 hone
        have hend:Hid ((w4.setRow Z #[.int .i64 6,.string ⟨#[]⟩,.slice (some ⟨V,0,none⟩) 1 1]).heap[Z]?=some (.cells #[.int .i64 6,.string ⟨#[]⟩,.slice (some ⟨V,0,none⟩) 1 1] 57 (0,0))):= .mk (setRow_heap _ _ _ _ _ _ hZ4.out)
        go_wp2_with (first | (refine wpList_build_node rfl _ rfl _ _ _ rfl ?_; rw [hw4,hV]) | (refine wpList_store_row rfl 57 _ _ rfl Z #[.int .i64 6,.string ⟨#[]⟩,.slice (some ⟨V,0,none⟩) 1 1] rfl rfl 57 _ hZ4.out nodeInfo rfl (by simp [Value.oneCell']) ?_))
        refine bodyPost_ret (results_ct_row rfl _ _ Z _ _ _ _ rfl hend.out Tryz.underlying57 rfl nodeInfo) rfl ?_
        subst hR
        refine ⟨⟨hO4.out.setRow_new (by omega) _,⟨_,rfl,_,rfl,_,rfl,?_⟩,hS4.out.setRow hPZ _,hle3,hop3⟩,fun t' p' h=>(by cases h; exact hlt3)⟩
        exact (hone.out.keep (S':=fun g=>Z≤g) (by simp) fun g h1 _=>⟨setRow_other _ _ _ _ (by omega),by omega⟩).mono fun g h1 _=>by omega
      ·rw [if_neg hx3] at hR
       have hx3i:(tx.toList==[123])=false:=beq_eq_false_iff_ne.2 hx3
       have hend:Hid ((w2.setRow Z #[.int .i64 0,.string ⟨#[]⟩,.slice none 0 0]).heap[Z]?=some (.cells #[.int .i64 0,.string ⟨#[]⟩,.slice none 0 0] 57 (0,0))):= .mk (setRow_heap _ _ _ _ _ _ hZ2.out)
       go_wp2_with (first | (refine wpList_store_row rfl 57 _ _ rfl Z #[.int .i64 0,.string ⟨#[]⟩,.slice none 0 0] rfl rfl 57 _ hZ2.out nodeInfo rfl (by simp [Value.oneCell']) ?_))
       refine bodyPost_ret (results_ct_row rfl _ _ Z _ _ _ _ rfl hend.out Tryz.underlying57 rfl nodeInfo) rfl ?_
       subst hR
       exact ⟨⟨hO2.out.setRow_new (by omega) _,⟨_,rfl,_,rfl,rfl⟩,hS2.out.setRow hPZ _,Nat.le_refl _,rfl⟩,fun t' p' h=>by cases h⟩
   ·rw [if_pos hk3] at hR
    have hk3i:((tk:Int)==3)=false:=beq_ne (by omega)
    clear hk1 hk2 hk3 hltk hsmi
    have hend:Hid ((w2.setRow Z #[.int .i64 0,.string ⟨#[]⟩,.slice none 0 0]).heap[Z]?=some (.cells #[.int .i64 0,.string ⟨#[]⟩,.slice none 0 0] 57 (0,0))):= .mk (setRow_heap _ _ _ _ _ _ hZ2.out)
    go_wp2_with (first | (refine wpList_store_row rfl 57 _ _ rfl Z #[.int .i64 0,.string ⟨#[]⟩,.slice none 0 0] rfl rfl 57 _ hZ2.out nodeInfo rfl (by simp [Value.oneCell']) ?_))
    refine bodyPost_ret (results_ct_row rfl _ _ Z _ _ _ _ rfl hend.out Tryz.underlying57 rfl nodeInfo) rfl ?_
    subst hR
    exact ⟨⟨hO2.out.setRow_new (by omega) _,⟨_,rfl,_,rfl,rfl⟩,hS2.out.setRow hPZ _,Nat.le_refl _,rfl⟩,fun t' p' h=>by cases h⟩
end Go.Proofs.YtmenpmbgennhoaaGreatDoor

namespace Go.Proofs.YtmenpmbgennhoaaGreatDoor
open Go.RowKit
theorem sufs0 (w:World):(Instr.index 170 (.agg #[.string ⟨#[63]⟩,.string ⟨#[42]⟩,.string ⟨#[43]⟩]) (.int .i64 0)).run Tryz.prog w= .ok (.string ⟨#[63]⟩) w:=by kernel_rfl
theorem sufs1 (w:World):(Instr.index 170 (.agg #[.string ⟨#[63]⟩,.string ⟨#[42]⟩,.string ⟨#[43]⟩]) (.int .i64 1)).run Tryz.prog w= .ok (.string ⟨#[42]⟩) w:=by kernel_rfl
theorem sufs2 (w:World):(Instr.index 170 (.agg #[.string ⟨#[63]⟩,.string ⟨#[42]⟩,.string ⟨#[43]⟩]) (.int .i64 2)).run Tryz.prog w= .ok (.string ⟨#[43]⟩) w:=by kernel_rfl
theorem PsS.grown {P G:Nat} {ts:List Tok} {n:Nat} {v:Value} {p:PS} {w w':World} {r:Option Nat} (h:PsS P G ts n v p w) (hg:w.grownBy w' r) (hr:∀ k,r=some k→P < k):PsS P G ts n v p w':=
 ⟨(hg.block P h.clt (fun e=>(by have:=hr P e.symm; omega))).trans h.cells,h.slice,fun i hi j u hj=>(by
  rw [← h.toks i hi j u hj]
  have:w'.heap[G]?=w.heap[G]?:=hg.block G (Nat.lt_trans h.gp h.clt) (fun e=>by have:=hr G e.symm; have:=h.gp; omega)
  simp [World.cell?,this]),h.gp,h.ok,h.le,h.op⟩
theorem signF_ok {ts:List Tok} {p p':PS} {s:ByteArray} {b:Bool} (h:signF ts p s= .ok b p'):p'=p:=by
 unfold signF at h
 split at h
 ·cases h; rfl
 ·cases h
def patW (P:Nat) (w:World):Nat:=match w.cell? ⟨P,1,none⟩ with | some (.int _ n)=>n.toNat | _=>0
theorem PsS.patW {P G:Nat} {ts:List Tok} {n:Nat} {v:Value} {p:PS} {w:World} (h:PsS P G ts n v p w):patW P w=p.at_:=by
 have c1:w.cell? ⟨P,1,none⟩=some (.int .i64 (p.at_:Nat)):=by simp [World.cell?,h.cells,psCells]
 unfold Go.Proofs.YtmenpmbgennhoaaGreatDoor.patW
 rw [c1]; simp
theorem KidsO.onl {B P:Nat} {w w':World} {v:Value} {ks:List Tr} {ss:List Value} (h:KidsO B w v ks ss) (ho:Onl P w w') (hP:P < B):KidsO B w' v ks ss:=
 h.keep ho.size fun g h1 h2=>World.grownBy.block ho g h2 (fun e=>by cases e; omega)
theorem KidsO.slice {B:Nat} {w:World} {v:Value} {ks:List Tr} {ss:List Value} (h:KidsO B w v ks ss):∃ p c,v= .slice p ks.length c:=ownsRow_form h.own
theorem Onl.row {P g:Nat} {w w':World} {o:Obj} (ho:Onl P w w') (hg:w.heap[g]?=some o) (hP:g≠P):w'.heap[g]?=some o:=
 (World.grownBy.block ho g (Array.getElem?_eq_some_iff.1 hg).1 (fun e=>by cases e; exact hP rfl)).trans hg
theorem KidsO.one {B:Nat} {w:World} {v:Value} {t:Tr} {ss:List Value} (h:KidsO B w v [t] ss):∃ g c s,v= .slice (some ⟨g,0,none⟩) 1 c∧(∀ j u,(nodeC t s)[j]?=some u→w.cell? ⟨g,j,none⟩=some u)∧TrAt (fun g=>B≤g) w t s:=by
 have hl:=h.len
 match ss,hl with
 | [s],_=>
  have ho:=h.own
  rcases ho.2 with ⟨_,h2⟩ | ⟨g,cap,cur,rfl,hb,hg,_⟩
  ·simp at h2
  ·refine ⟨g,cap,s,rfl,fun j u hu=> ?_,(h.kid 0 t s rfl rfl).mono fun g h1 _=>h1.1⟩
   have:=ho.cells (g:=g) rfl j u (by simpa [nodesC] using hu)
   rw [Addr.add_lit,Nat.zero_add] at this
   exact this
section
variable (P G:Nat) (ts:List Tok) (n:Nat) (v:Value)
structure RowE (Z:Nat) (w:World) (p:PS) (x:Value) (p':PS) (items:List Tr) (ss:List Value) (wr:World):Prop where
 ps:PsS P G ts n v p' wr
 onl:Onl P w wr
 kids:KidsO (Z+1) wr x items ss
 res:wr.heap[Z]?=some (.cells #[.int .i64 0,.string ⟨#[]⟩,.slice none 0 0] 57 (0,0))
 few:items.length≤p'.at_+1
 le:p.at_≤p'.at_
 op:p'.open_=p.open_
theorem RowE.go {Z:Nat} {w:World} {p p' p2:PS} {x:Value} {items:List Tr} {ss:List Value} {wr w2:World} (h:RowE P G ts n v Z w p x p' items ss wr) (hP:P < Z) (ho:Onl P wr w2) (hs:PsS P G ts n v p2 w2) (hle:p'.at_≤p2.at_) (hop:p2.open_=p'.open_):RowE P G ts n v Z w p x p2 items ss w2:=
 ⟨hs,h.onl.trans ho,h.kids.onl ho (by omega),ho.row h.res (by omega),by have:=h.few; omega,Nat.le_trans h.le hle,hop.trans h.op⟩
end
set_option maxRecDepth 100000 in
set_option maxHeartbeats 3200000 in
theorem row_any (P G:Nat) (ts:List Tok) (n:Nat) (v:Value) (f:Nat) (ih:∀ f',f' < f→AtomC P G ts n v f'):RowC P G ts n v f:=by
 intro p w h hf
 obtain ⟨R,hR⟩:∃ R,rowL ts f p []=R:=⟨_,rfl⟩
 rw [hR]
 obtain ⟨Z,hZ⟩:∃ Z,w.heap.size=Z:=⟨_,rfl⟩
 have hZr:=heap_alloc_new w (.cells #[.int .i64 0,.string ⟨#[]⟩,.slice none 0 0] 57)
 have hB0:Below Z w (w.alloc (.cells #[.int .i64 0,.string ⟨#[]⟩,.slice none 0 0] 57)):=by rw [← hZ]; exact (Below.refl _ w).alloc (Nat.le_refl _) _
 have hPZ:P < Z:=by have:=h.clt; omega
 rw [hZ] at hZr
 have hS0:=h.below (by rw [hZ]; exact hB0)
 have hst:Hid (RowE P G ts n v Z w p (.slice none 0 0) p [] [] (w.alloc (.cells #[.int .i64 0,.string ⟨#[]⟩,.slice none 0 0] 57))):=
  .mk ⟨hS0,Onl.of P (by rw [hZ]; exact hB0),KidsO.nil _ _,hZr,Nat.zero_le _,Nat.le_refl _,rfl⟩
 have hRH:=Hid.mk hR
 clear h hR hB0 hZr hS0
 go_enter Tryz.func90,Tryz.ntmps90
 go_upto_region 1 with (fail)
 generalize World.alloc w _=w0 at*
 go_upto_block 0 with (fail)
 go_cut [3] (fun x wr=>∃ p' items ss,RowE P G ts n v Z w p x p' items ss wr∧R= .ok (wrapT 3 items) p')
 case first=>as_aux_lemma=>
  go_wp2_with (fail)
  go_loopw [3] (fun x wr=>∃ f' p' items ss,RowE P G ts n v Z w p x p' items ss wr∧rowL ts f' p' items=R∧6*(n - p'.at_)+3≤f'∧f'≤f) (fun _ wr=>n - patW P wr)
  case atStart=>exact ⟨f,p,[],[],hst.out,hRH.out,hf,Nat.le_refl _⟩
  case round=>
   obtain ⟨f',p',items,ss,g1,hR,gfu,gf⟩:=hrel
   clear hst hRH
   have hpos:∃ f2,f'=f2+1:=⟨f' - 1,by omega⟩
   obtain ⟨f2,rfl⟩:=hpos
   have hat:=Hid.mk g1.ps.patW
   obtain ⟨xp,xc,rfl⟩:=g1.kids.slice
   have hatom:=Hid.mk (ih f2 (by omega) p' wr g1.ps (by omega))
   rw [rowL] at hR
   have g1H:=Hid.mk g1
   have gfH:=Hid.mk gf
   have gfuH:=Hid.mk gfu
   clear g1 gf gfu hf
   go_upto_region 2 with (fail)
   go_wp2_with (fail)
   refine hatom.out.mono ?_
   rintro e wa ⟨⟨hOa,hPa⟩,hpr⟩
   clear hatom
   cases ha:atomF ts f2 p' with
   | bad fe=>
    rw [ha] at hPa hR
    subst hPa
    subst hR
    exact ⟨rfl,g1H.out.onl.trans hOa,rfl⟩
   | ok at_ p1=>
    rw [ha] at hPa hR hpr
    obtain ⟨⟨u,rfl,hv⟩,hSa,hlea,hopa⟩:=hPa
    cases at_ with
    | none=>
     obtain ⟨x,rfl,rfl⟩:=hv
     simp only at hR
     have hBa:Below wa.heap.size wa (wa.alloc (.cells #[.int .i64 0,.string ⟨#[]⟩,.slice none 0 0] 57)):=(Below.refl _ wa).alloc (Nat.le_refl _) _
     have hfin:=Hid.mk (g1H.out.go P G ts n v hPZ (hOa.trans (Onl.of P hBa)) (hSa.below hBa) hlea hopa)
     clear hOa hSa hBa hlea hopa hpr
     go_wp2_with (fail)
     go_meet
     exact ⟨_,_,_,hfin.out,hR.symm⟩
    | some t=>
     obtain ⟨x,rfl,s,rfl,hTa⟩:=hv
     simp only at hR
     have hlt1:=hpr t p1 rfl
     clear hpr
     obtain ⟨sp,sc,rfl⟩:=hTa.form
     obtain ⟨T,hT⟩:∃ T,wa.heap.size=T:=⟨_,rfl⟩
     have hTr:=heap_alloc_new wa (.cells #[.int .i64 (t.kind:Nat),.string t.text,.slice sp t.kids.length sc] 57)
     rw [hT] at hTr
     have hBa:Below wa.heap.size wa (wa.alloc (.cells #[.int .i64 (t.kind:Nat),.string t.text,.slice sp t.kids.length sc] 57)):=(Below.refl _ wa).alloc (Nat.le_refl _) _
     have hXT:wr.heap.size≤T:=by have:=hOa.size; omega
     have hZX:Z < wr.heap.size:=(Array.getElem?_eq_some_iff.1 g1H.out.res).1
     have hSb:=Hid.mk (hSa.below hBa)
     have hOb:=Hid.mk (hOa.trans (Onl.of P hBa))
     have hTb:=Hid.mk ((hTa.mono (S':=fun g=>wr.heap.size≤g∧g≠T) fun g h1 h2=>⟨h1,by omega⟩).blw hBa)
     have hTr:=Hid.mk hTr
     obtain ⟨X,hX⟩:∃ X,wr.heap.size=X:=⟨_,rfl⟩
     rw [hX] at hTb hXT hZX
     unfold nodeV
     clear hOa hSa hBa hTa
     go_upto_block 2 with (fail)
     generalize World.alloc wa _=wb at*
     clear hT
     go_cut [] (fun w5=>∃ kk p2 nd s2,sufF ts p1= .ok kk p2∧nd=(if kk=0 then t else .mk kk ⟨#[]⟩ [t])∧PsS P G ts n v p2 w5∧p1.at_≤p2.at_∧p2.open_=p1.open_∧Onl P wr w5∧w5.heap[T]?=some (.cells #[.int .i64 (nd.kind:Nat),.string nd.text,s2] 57 (0,0))∧TrAt (fun g=>X≤g) w5 nd s2)
     case first=>as_aux_lemma=>
      have hOX:=Hid.mk hX
      have k10:=hSb
      have k20:=hOb
      generalize hwr0:wr=wr0 at*
      go_wp2_with (fail)
      go_loopw [16] (fun y wr=>∃ k,k≤3∧y= .int .i64 (k:Nat)∧PsS P G ts n v p1 wr∧Onl P wr0 wr∧wr.heap[T]?=some (.cells #[.int .i64 (t.kind:Nat),.string t.text,.slice sp t.kids.length sc] 57 (0,0))∧TrAt (fun g=>X≤g∧g≠T) wr t (.slice sp t.kids.length sc)∧(1≤k→signF ts p1 (str1 63)= .ok false p1)∧(2≤k→signF ts p1 (str1 42)= .ok false p1)∧(3≤k→signF ts p1 (str1 43)= .ok false p1)) (fun y _=>3 - (intOf y).toNat)
      case atStart=>exact ⟨0,by omega,rfl,hSb.out,hOb.out,hTr.out,hTb.out,fun h=>by omega,fun h=>by omega,fun h=>by omega⟩
      case round=>
       obtain ⟨k,hk,rfl,k1,k2,k3,k4,q1,q2,q3⟩:=hrel
       have k1:=Hid.mk k1
       have k2:=Hid.mk k2
       have k3:=Hid.mk k3
       have k4:=Hid.mk k4
       have q1:=Hid.mk q1
       have q2:=Hid.mk q2
       have q3:=Hid.mk q3
       clear hSb hOb hTr hTb k10 k20
       have hk4:k=0∨k=1∨k=2∨k=3:=by omega
       clear hk
       rcases hk4 with rfl | rfl | rfl | rfl
       ·skip
        have hix:=sufs0
        have hsg:=sign_any P G ts n v p1 wr k1.out (str1 63)
        cases hs:signF ts p1 (str1 63) with
        | bad fe=>
         rw [hs] at hsg
         have hsu:sufF ts p1= .bad fe:=by unfold sufF; simp only [hs]
         rw [hsu] at hR
         go_wp2_with (fail)
         refine hsg.mono ?_
         rintro e w6 ⟨hB6,rfl⟩
         subst hR
         exact ⟨rfl,g1H.out.onl.trans (k2.out.trans (Onl.of P hB6)),rfl⟩
        | ok b pp=>
         obtain rfl:=signF_ok hs
         rw [hs] at hsg
         cases b with
         | false=>
          go_wp2_with (fail)
          refine hsg.mono ?_
          rintro e w6 ⟨hB6,rfl⟩
          have k1:=Hid.mk (k1.out.below hB6)
          have k3:=Hid.mk ((Onl.of P hB6).row k3.out (by omega))
          have k4:=Hid.mk (k4.out.blw hB6)
          have k2:=Hid.mk (k2.out.trans (Onl.of P hB6))
          have hs:=Hid.mk hs
          clear hB6 hR
          go_wp2_with (fail)
          exact ⟨⟨1,by omega,rfl,k1.out,k2.out,k3.out,k4.out,fun _=>by first | exact hs.out | trivial,fun h=>by omega,fun h=>by omega⟩,by simp [intOf]⟩
         | true=>
          have hsu:sufF ts pp= .ok 5 ⟨pp.at_+1,pp.open_⟩:=by unfold sufF; simp only [hs]
          have hltn:=Hid.mk (k1.out.ok.lt k1.out.le (by rw [(signF_true hs).1]; decide))
          have hsmi:(pp.at_:Int) < 65537:=by have:=k1.out.le; have:=k1.out.ok.small; omega
          have hsu:=Hid.mk hsu
          clear hs
          go_upto_region 8 with (fail)
          go_wp2_with (fail)
          refine hsg.mono ?_
          rintro e w6 ⟨hB6,rfl⟩
          have c1:w6.cell? ⟨P,1,none⟩=some (.int .i64 (pp.at_:Nat)):=by simp [World.cell?,(k1.out.below hB6).cells,psCells]
          have f1:w6.frozen? ⟨P,1,none⟩=false:=by simp [World.frozen?,(k1.out.below hB6).cells]
          have k1:=Hid.mk (k1.out.below hB6)
          have k3:=Hid.mk ((Onl.of P hB6).row k3.out (by omega))
          have k4:=Hid.mk (k4.out.blw hB6)
          have k2:=Hid.mk (k2.out.trans (Onl.of P hB6))
          clear hB6 hR
          go_upto_region 9 with (fail)
          generalize hw7:World.setCell _ _ _=w7
          have hO67:Onl P w6 w7:=by
           subst hw7
           exact (Onl.refl P w6).setCell (p:=⟨P,1,none⟩) rfl _
          have k1:Hid (PsS P G ts n v ⟨pp.at_+1,pp.open_⟩ w7):= .mk (by
           subst hw7
           exact k1.out.step hltn.out)
          have k3:=Hid.mk (hO67.row k3.out (by omega))
          have k4:=Hid.mk (k4.out.keep (S':=fun g=>X≤g∧g≠T) hO67.size fun g h1 h2=>⟨World.grownBy.block hO67 g h2 (fun e=>by cases e; omega),h1⟩)
          have k2:=Hid.mk (k2.out.trans hO67)
          obtain ⟨V,hV⟩:∃ V,w7.heap.size=V:=⟨_,rfl⟩
          have hVr:=heap_alloc_new w7 (.cells #[.int .i64 (t.kind:Nat),.string t.text,.slice sp t.kids.length sc] 57)
          rw [hV] at hVr
          have hBV:Below w7.heap.size w7 (w7.alloc (.cells #[.int .i64 (t.kind:Nat),.string t.text,.slice sp t.kids.length sc] 57)):=(Below.refl _ w7).alloc (Nat.le_refl _) _
          have hTV:T < V:=by have:=(Array.getElem?_eq_some_iff.1 k3.out).1; omega
          clear hw7 hO67 c1 f1 hltn
          obtain ⟨w8,hw8⟩:∃ w8,w7.alloc (.cells #[.int .i64 (t.kind:Nat),.string t.text,.slice sp t.kids.length sc] 57)=w8:=⟨_,rfl⟩
          rw [hw8] at hVr hBV
          have hT8:=Hid.mk ((Onl.of P hBV).row k3.out (by omega))
          have hone:=Hid.mk ((k4.out.blw hBV).one (c:=1) hVr (show X≤V∧V≠T by omega) 5 ⟨#[]⟩)
          have k1:=Hid.mk (k1.out.below hBV)
          have k2:=Hid.mk (k2.out.trans (Onl.of P hBV))
          clear hVr hBV k4
          have hend:Hid ((w8.setRow T #[.int .i64 5,.string ⟨#[]⟩,.slice (some ⟨V,0,none⟩) 1 1]).heap[T]?=some (.cells #[.int .i64 5,.string ⟨#[]⟩,.slice (some ⟨V,0,none⟩) 1 1] 57 (0,0))):= .mk (setRow_heap _ _ _ _ _ _ hT8.out)
          go_wp2_with (first | (refine wpList_load_row rfl 57 _ rfl T rfl 57 _ _ _ k3.out Tryz.underlying57 rfl nodeInfo ?_) | (refine wpList_build_node rfl _ rfl _ _ _ rfl ?_; rw [hw8,hV]) | (refine wpList_store_row rfl 57 _ _ rfl T #[.int .i64 5,.string ⟨#[]⟩,.slice (some ⟨V,0,none⟩) 1 1] rfl rfl 57 _ hT8.out nodeInfo rfl (by simp [Value.oneCell']) ?_))
          go_meet
          refine ⟨5,⟨pp.at_+1,pp.open_⟩,.mk 5 ⟨#[]⟩ [t],_,hsu.out,rfl,k1.out.setRow (by omega) _,Nat.le_succ _,rfl,k2.out.setRow_new (by omega) _,hend.out,?_⟩
          exact (hone.out.keep (S':=fun g=>X≤g) (by simp) fun g h1 _=>⟨setRow_other _ _ _ _ h1.2,h1.1⟩)
       ·skip
        have hix:=sufs1
        have hsg:=sign_any P G ts n v p1 wr k1.out (str1 42)
        cases hs:signF ts p1 (str1 42) with
        | bad fe=>
         rw [hs] at hsg
         have hsu:sufF ts p1= .bad fe:=by unfold sufF; simp only [q1.out (by omega),hs]
         rw [hsu] at hR
         go_wp2_with (fail)
         refine hsg.mono ?_
         rintro e w6 ⟨hB6,rfl⟩
         subst hR
         exact ⟨rfl,g1H.out.onl.trans (k2.out.trans (Onl.of P hB6)),rfl⟩
        | ok b pp=>
         obtain rfl:=signF_ok hs
         rw [hs] at hsg
         cases b with
         | false=>
          go_wp2_with (fail)
          refine hsg.mono ?_
          rintro e w6 ⟨hB6,rfl⟩
          have k1:=Hid.mk (k1.out.below hB6)
          have k3:=Hid.mk ((Onl.of P hB6).row k3.out (by omega))
          have k4:=Hid.mk (k4.out.blw hB6)
          have k2:=Hid.mk (k2.out.trans (Onl.of P hB6))
          have hs:=Hid.mk hs
          clear hB6 hR
          go_wp2_with (fail)
          exact ⟨⟨2,by omega,rfl,k1.out,k2.out,k3.out,k4.out,fun _=>q1.out (by omega),fun _=>by first | exact hs.out | trivial,fun h=>by omega⟩,by simp [intOf]⟩
         | true=>
          have hsu:sufF ts pp= .ok 6 ⟨pp.at_+1,pp.open_⟩:=by unfold sufF; simp only [q1.out (by omega),hs]
          have hltn:=Hid.mk (k1.out.ok.lt k1.out.le (by rw [(signF_true hs).1]; decide))
          have hsmi:(pp.at_:Int) < 65537:=by have:=k1.out.le; have:=k1.out.ok.small; omega
          have hsu:=Hid.mk hsu
          clear hs
          go_upto_region 8 with (fail)
          go_wp2_with (fail)
          refine hsg.mono ?_
          rintro e w6 ⟨hB6,rfl⟩
          have c1:w6.cell? ⟨P,1,none⟩=some (.int .i64 (pp.at_:Nat)):=by simp [World.cell?,(k1.out.below hB6).cells,psCells]
          have f1:w6.frozen? ⟨P,1,none⟩=false:=by simp [World.frozen?,(k1.out.below hB6).cells]
          have k1:=Hid.mk (k1.out.below hB6)
          have k3:=Hid.mk ((Onl.of P hB6).row k3.out (by omega))
          have k4:=Hid.mk (k4.out.blw hB6)
          have k2:=Hid.mk (k2.out.trans (Onl.of P hB6))
          clear hB6 hR
          go_upto_region 9 with (fail)
          generalize hw7:World.setCell _ _ _=w7
          have hO67:Onl P w6 w7:=by
           subst hw7
           exact (Onl.refl P w6).setCell (p:=⟨P,1,none⟩) rfl _
          have k1:Hid (PsS P G ts n v ⟨pp.at_+1,pp.open_⟩ w7):= .mk (by
           subst hw7
           exact k1.out.step hltn.out)
          have k3:=Hid.mk (hO67.row k3.out (by omega))
          have k4:=Hid.mk (k4.out.keep (S':=fun g=>X≤g∧g≠T) hO67.size fun g h1 h2=>⟨World.grownBy.block hO67 g h2 (fun e=>by cases e; omega),h1⟩)
          have k2:=Hid.mk (k2.out.trans hO67)
          obtain ⟨V,hV⟩:∃ V,w7.heap.size=V:=⟨_,rfl⟩
          have hVr:=heap_alloc_new w7 (.cells #[.int .i64 (t.kind:Nat),.string t.text,.slice sp t.kids.length sc] 57)
          rw [hV] at hVr
          have hBV:Below w7.heap.size w7 (w7.alloc (.cells #[.int .i64 (t.kind:Nat),.string t.text,.slice sp t.kids.length sc] 57)):=(Below.refl _ w7).alloc (Nat.le_refl _) _
          have hTV:T < V:=by have:=(Array.getElem?_eq_some_iff.1 k3.out).1; omega
          clear hw7 hO67 c1 f1 hltn
          obtain ⟨w8,hw8⟩:∃ w8,w7.alloc (.cells #[.int .i64 (t.kind:Nat),.string t.text,.slice sp t.kids.length sc] 57)=w8:=⟨_,rfl⟩
          rw [hw8] at hVr hBV
          have hT8:=Hid.mk ((Onl.of P hBV).row k3.out (by omega))
          have hone:=Hid.mk ((k4.out.blw hBV).one (c:=1) hVr (show X≤V∧V≠T by omega) 6 ⟨#[]⟩)
          have k1:=Hid.mk (k1.out.below hBV)
          have k2:=Hid.mk (k2.out.trans (Onl.of P hBV))
          clear hVr hBV k4
          have hend:Hid ((w8.setRow T #[.int .i64 6,.string ⟨#[]⟩,.slice (some ⟨V,0,none⟩) 1 1]).heap[T]?=some (.cells #[.int .i64 6,.string ⟨#[]⟩,.slice (some ⟨V,0,none⟩) 1 1] 57 (0,0))):= .mk (setRow_heap _ _ _ _ _ _ hT8.out)
          go_wp2_with (first | (refine wpList_load_row rfl 57 _ rfl T rfl 57 _ _ _ k3.out Tryz.underlying57 rfl nodeInfo ?_) | (refine wpList_build_node rfl _ rfl _ _ _ rfl ?_; rw [hw8,hV]) | (refine wpList_store_row rfl 57 _ _ rfl T #[.int .i64 6,.string ⟨#[]⟩,.slice (some ⟨V,0,none⟩) 1 1] rfl rfl 57 _ hT8.out nodeInfo rfl (by simp [Value.oneCell']) ?_))
          go_meet
          refine ⟨6,⟨pp.at_+1,pp.open_⟩,.mk 6 ⟨#[]⟩ [t],_,hsu.out,rfl,k1.out.setRow (by omega) _,Nat.le_succ _,rfl,k2.out.setRow_new (by omega) _,hend.out,?_⟩
          exact (hone.out.keep (S':=fun g=>X≤g) (by simp) fun g h1 _=>⟨setRow_other _ _ _ _ h1.2,h1.1⟩)
       ·skip
        have hix:=sufs2
        have hsg:=sign_any P G ts n v p1 wr k1.out (str1 43)
        cases hs:signF ts p1 (str1 43) with
        | bad fe=>
         rw [hs] at hsg
         have hsu:sufF ts p1= .bad fe:=by unfold sufF; simp only [q1.out (by omega),q2.out (by omega),hs]
         rw [hsu] at hR
         go_wp2_with (fail)
         refine hsg.mono ?_
         rintro e w6 ⟨hB6,rfl⟩
         subst hR
         exact ⟨rfl,g1H.out.onl.trans (k2.out.trans (Onl.of P hB6)),rfl⟩
        | ok b pp=>
         obtain rfl:=signF_ok hs
         rw [hs] at hsg
         cases b with
         | false=>
          go_wp2_with (fail)
          refine hsg.mono ?_
          rintro e w6 ⟨hB6,rfl⟩
          have k1:=Hid.mk (k1.out.below hB6)
          have k3:=Hid.mk ((Onl.of P hB6).row k3.out (by omega))
          have k4:=Hid.mk (k4.out.blw hB6)
          have k2:=Hid.mk (k2.out.trans (Onl.of P hB6))
          have hs:=Hid.mk hs
          clear hB6 hR
          go_wp2_with (fail)
          exact ⟨⟨3,by omega,rfl,k1.out,k2.out,k3.out,k4.out,fun _=>q1.out (by omega),fun _=>q2.out (by omega),fun _=>by first | exact hs.out | trivial⟩,by simp [intOf]⟩
         | true=>
          have hsu:sufF ts pp= .ok 7 ⟨pp.at_+1,pp.open_⟩:=by unfold sufF; simp only [q1.out (by omega),q2.out (by omega),hs]
          have hltn:=Hid.mk (k1.out.ok.lt k1.out.le (by rw [(signF_true hs).1]; decide))
          have hsmi:(pp.at_:Int) < 65537:=by have:=k1.out.le; have:=k1.out.ok.small; omega
          have hsu:=Hid.mk hsu
          clear hs
          go_upto_region 8 with (fail)
          go_wp2_with (fail)
          refine hsg.mono ?_
          rintro e w6 ⟨hB6,rfl⟩
          have c1:w6.cell? ⟨P,1,none⟩=some (.int .i64 (pp.at_:Nat)):=by simp [World.cell?,(k1.out.below hB6).cells,psCells]
          have f1:w6.frozen? ⟨P,1,none⟩=false:=by simp [World.frozen?,(k1.out.below hB6).cells]
          have k1:=Hid.mk (k1.out.below hB6)
          have k3:=Hid.mk ((Onl.of P hB6).row k3.out (by omega))
          have k4:=Hid.mk (k4.out.blw hB6)
          have k2:=Hid.mk (k2.out.trans (Onl.of P hB6))
          clear hB6 hR
          go_upto_region 9 with (fail)
          generalize hw7:World.setCell _ _ _=w7
          have hO67:Onl P w6 w7:=by
           subst hw7
           exact (Onl.refl P w6).setCell (p:=⟨P,1,none⟩) rfl _
          have k1:Hid (PsS P G ts n v ⟨pp.at_+1,pp.open_⟩ w7):= .mk (by
           subst hw7
           exact k1.out.step hltn.out)
          have k3:=Hid.mk (hO67.row k3.out (by omega))
          have k4:=Hid.mk (k4.out.keep (S':=fun g=>X≤g∧g≠T) hO67.size fun g h1 h2=>⟨World.grownBy.block hO67 g h2 (fun e=>by cases e; omega),h1⟩)
          have k2:=Hid.mk (k2.out.trans hO67)
          obtain ⟨V,hV⟩:∃ V,w7.heap.size=V:=⟨_,rfl⟩
          have hVr:=heap_alloc_new w7 (.cells #[.int .i64 (t.kind:Nat),.string t.text,.slice sp t.kids.length sc] 57)
          rw [hV] at hVr
          have hBV:Below w7.heap.size w7 (w7.alloc (.cells #[.int .i64 (t.kind:Nat),.string t.text,.slice sp t.kids.length sc] 57)):=(Below.refl _ w7).alloc (Nat.le_refl _) _
          have hTV:T < V:=by have:=(Array.getElem?_eq_some_iff.1 k3.out).1; omega
          clear hw7 hO67 c1 f1 hltn
          obtain ⟨w8,hw8⟩:∃ w8,w7.alloc (.cells #[.int .i64 (t.kind:Nat),.string t.text,.slice sp t.kids.length sc] 57)=w8:=⟨_,rfl⟩
          rw [hw8] at hVr hBV
          have hT8:=Hid.mk ((Onl.of P hBV).row k3.out (by omega))
          have hone:=Hid.mk ((k4.out.blw hBV).one (c:=1) hVr (show X≤V∧V≠T by omega) 7 ⟨#[]⟩)
          have k1:=Hid.mk (k1.out.below hBV)
          have k2:=Hid.mk (k2.out.trans (Onl.of P hBV))
          clear hVr hBV k4
          have hend:Hid ((w8.setRow T #[.int .i64 7,.string ⟨#[]⟩,.slice (some ⟨V,0,none⟩) 1 1]).heap[T]?=some (.cells #[.int .i64 7,.string ⟨#[]⟩,.slice (some ⟨V,0,none⟩) 1 1] 57 (0,0))):= .mk (setRow_heap _ _ _ _ _ _ hT8.out)
          go_wp2_with (first | (refine wpList_load_row rfl 57 _ rfl T rfl 57 _ _ _ k3.out Tryz.underlying57 rfl nodeInfo ?_) | (refine wpList_build_node rfl _ rfl _ _ _ rfl ?_; rw [hw8,hV]) | (refine wpList_store_row rfl 57 _ _ rfl T #[.int .i64 7,.string ⟨#[]⟩,.slice (some ⟨V,0,none⟩) 1 1] rfl rfl 57 _ hT8.out nodeInfo rfl (by simp [Value.oneCell']) ?_))
          go_meet
          refine ⟨7,⟨pp.at_+1,pp.open_⟩,.mk 7 ⟨#[]⟩ [t],_,hsu.out,rfl,k1.out.setRow (by omega) _,Nat.le_succ _,rfl,k2.out.setRow_new (by omega) _,hend.out,?_⟩
          exact (hone.out.keep (S':=fun g=>X≤g) (by simp) fun g h1 _=>⟨setRow_other _ _ _ _ h1.2,h1.1⟩)
       ·have hsu:sufF ts p1= .ok 0 p1:=by unfold sufF; simp only [q1.out (by omega),q2.out (by omega),q3.out (by omega)]
        go_wp2_with (fail)
        go_meet
        exact ⟨0,p1,t,_,hsu,rfl,k1.out,Nat.le_refl _,rfl,k2.out,k3.out,k4.out.mono fun g h1 _=>h1.1⟩
     case rest=>as_aux_lemma=>
      obtain ⟨kk,p2,nd,s2,hsu,hnd,hS5,hle5,hop5,hO5,hT5,hTr5⟩:=hcut
      rw [hsu] at hR
      simp only at hR
      rw [← hnd] at hR
      obtain ⟨sp2,sc2,rfl⟩:=hTr5.form
      have hTp:=Hid.mk hT5
      have hXO:∀ g,(Value.slice xp items.length xc).ownBlock=some g→Z+1≤g∧g < X:=fun g hg=>(by rw [← hX]; exact g1H.out.kids.own.lt g hg)
      have hTr6:=Hid.mk (hTr5.mono (S':=fun g=>Z+1≤g∧(Value.slice xp items.length xc).ownBlock≠some g) fun g h1 _=>⟨by omega,fun e=>(by have:=(hXO g e).2; omega)⟩)
      have hK6:=Hid.mk (g1H.out.kids.onl hO5 (by omega))
      have hO6:=Hid.mk (g1H.out.onl.trans hO5)
      have hZ6:=Hid.mk (hO5.row g1H.out.res (by omega))
      have hS6:=Hid.mk hS5
      have hfew:=g1H.out.few
      have hpn:=hS5.le
      have hlen:=Hid.mk (show items.length≤1000000 by have:=hS5.ok.small; omega)
      have hsz6:Z+1≤wc.heap.size:=by have:=hO5.size; omega
      clear hsu hnd hS5 hO5 hT5 hTr5 hSb hOb hTb hTr
      go_wp2_with (first | (refine wpList_load_row rfl 57 _ rfl T rfl 57 _ _ _ hTp.out Tryz.underlying57 rfl nodeInfo ?_) | (refine wpList_build_node rfl _ rfl _ _ _ rfl ?_) | (at_builtin; refine wpList_app_node rfl _ _ rfl (Z+1) _ items ss nd _ wc rfl rfl hK6.out hTr6.out rfl hsz6 hlen.out ?_))
      intro g c w7 hK7 hgr
      have hP7:=hS6.out.grown hgr (fun k hk=>by have:=(hXO k hk).1; omega)
      have hO7:=hO6.out.grown hgr (fun k hk=>by have:=(hXO k hk).1; omega)
      have hZ7:=(hgr.block Z (by omega) (fun e=>by have:=(hXO Z e.symm).1; omega)).trans hZ6.out
      have hE:=Hid.mk (show RowE P G ts n v Z w p _ p2 (items++[nd]) (ss++[_]) w7 from ⟨hP7,hO7,hK7,hZ7,by simp; omega,by have:=g1H.out.le; omega,by have:=g1H.out.op; omega⟩)
      clear hK7 hgr hP7 hO7 hZ7
      go_wp2_with (fail)
      refine ⟨⟨f2,p2,items++[nd],_,hE.out,hR,?_,?_⟩,?_⟩
      ·have:=gfuH.out; omega
      ·have:=gfH.out; omega
      ·rw [hE.out.ps.patW,hat.out]; omega
 case rest=>as_aux_lemma=>
  obtain ⟨p',items,ss,hE,hRe⟩:=hcut
  subst hRe
  have hEH:=Hid.mk hE
  by_cases h1:∃ t,items=[t]
  ·obtain ⟨t,rfl⟩:=h1
   obtain ⟨g,c,s,rfl,hcs,hT⟩:=hE.kids.one
   have c0:=hcs 0 _ rfl
   have c1:=hcs 1 _ rfl
   have c2:=hcs 2 _ rfl
   obtain ⟨sp,sc,rfl⟩:=hT.form
   have hTH:=Hid.mk hT
   have hend:Hid ((wc.setRow Z #[.int .i64 (t.kind:Nat),.string t.text,.slice sp t.kids.length sc]).heap[Z]?=some (.cells #[.int .i64 (t.kind:Nat),.string t.text,.slice sp t.kids.length sc] 57 (0,0))):= .mk (setRow_heap _ _ _ _ _ _ hE.res)
   clear hE hcs hT
   go_wp2_with (first | (refine wpList_store_row rfl 57 _ _ rfl Z #[.int .i64 (t.kind:Nat),.string t.text,.slice sp t.kids.length sc] rfl rfl 57 _ hEH.out.res nodeInfo rfl (by simp [Value.oneCell']) ?_))
   refine bodyPost_ret (results_cell_row rfl _ _ Z _ _ _ _ rfl hend.out Tryz.underlying57 rfl nodeInfo) rfl ?_
   refine ⟨hEH.out.onl.setRow_new (by omega) _,⟨_,rfl,_,rfl,?_⟩,hEH.out.ps.setRow hPZ _,hEH.out.le,hEH.out.op⟩
   exact (hTH.out.keep (S':=fun g=>Z≤g) (by simp) fun g h1 _=>⟨setRow_other _ _ _ _ (by omega),by omega⟩).mono fun g h1 _=>by omega
  ·have hw0:wrapT 3 items= .mk 3 ⟨#[]⟩ items:=by
    match items,h1 with
    | [],_=>rfl
    | [t],h1=>exact absurd ⟨t,rfl⟩ h1
    | a::b::l,_=>rfl
   have hl1:((items.length:Nat):Int)≠1:=fun e=>h1 (by
    match items,e with
    | [t],_=>exact ⟨t,rfl⟩
    | [],e=>simp at e
    | a::b::l,e=>simp at e; omega)
   have hl1:=beq_ne hl1
   obtain ⟨xp,xc,rfl⟩:=hE.kids.slice
   have hTH:=Hid.mk (hE.kids.done 3 ⟨#[]⟩)
   have hw:=Hid.mk hw0
   clear hw0
   have hend:Hid ((wc.setRow Z #[.int .i64 3,.string ⟨#[]⟩,.slice xp items.length xc]).heap[Z]?=some (.cells #[.int .i64 3,.string ⟨#[]⟩,.slice xp items.length xc] 57 (0,0))):= .mk (setRow_heap _ _ _ _ _ _ hE.res)
   clear hE h1
   go_wp2_with (first | (refine wpList_store_row rfl 57 _ _ rfl Z #[.int .i64 3,.string ⟨#[]⟩,.slice xp items.length xc] rfl rfl 57 _ hEH.out.res nodeInfo rfl (by simp [Value.oneCell']) ?_))
   refine bodyPost_ret (results_cell_row rfl _ _ Z _ _ _ _ rfl hend.out Tryz.underlying57 rfl nodeInfo) rfl ?_
   rw [hw.out]
   refine ⟨hEH.out.onl.setRow_new (by omega) _,⟨_,rfl,_,rfl,?_⟩,hEH.out.ps.setRow hPZ _,hEH.out.le,hEH.out.op⟩
   exact (hTH.out.keep (S':=fun g=>Z≤g) (by simp) fun g h1 _=>⟨setRow_other _ _ _ _ (by omega),by omega⟩).mono fun g h1 _=>by omega
end Go.Proofs.YtmenpmbgennhoaaGreatDoor

namespace Go.Proofs.YtmenpmbgennhoaaGreatDoor
open Go.RowKit
theorem KidsO.single {B V:Nat} {w:World} {t:Tr} {s:Value} (hV:w.heap[V]?=some (.cells #[.int .i64 (t.kind:Nat),.string t.text,s] 57 (0,0))) (hB:B≤V) (h:TrAt (fun g=>B≤g∧g≠V) w t s):KidsO B w (.slice (some ⟨V,0,none⟩) 1 1) [t] [s]:=by
 refine ⟨rfl,⟨rfl,.inr ⟨V,1,_,rfl,hB,hV,Nat.le_refl _,by decide,rfl,rfl⟩⟩,fun i t' s' h1 h2=> ?_⟩
 match i with
 | 0=>
  simp at h1 h2
  subst h1 h2
  exact h.mono fun g h3 _=>⟨h3.1,fun e=>h3.2 (by simp [Value.ownBlock] at e; exact e.symm)⟩
 | i+1=>simp at h1
set_option maxRecDepth 100000 in
set_option maxHeartbeats 3200000 in
theorem alt_any (P G:Nat) (ts:List Tok) (n:Nat) (v:Value) (f:Nat) (ih:∀ f',f' < f→RowC P G ts n v f'):AltC P G ts n v f:=by
 intro p w h hf
 obtain ⟨f0,rfl⟩:∃ f0,f=f0+1:=⟨f - 1,by omega⟩
 obtain ⟨R,hR⟩:∃ R,altF ts (f0+1) p=R:=⟨_,rfl⟩
 rw [hR]
 rw [altF] at hR
 obtain ⟨Z,hZ⟩:∃ Z,w.heap.size=Z:=⟨_,rfl⟩
 have hZr:=heap_alloc_new w (.cells #[.int .i64 0,.string ⟨#[]⟩,.slice none 0 0] 57)
 have hsz0:(w.alloc (.cells #[.int .i64 0,.string ⟨#[]⟩,.slice none 0 0] 57)).heap.size=Z+1:=by simp; omega
 have hB0:Below Z w (w.alloc (.cells #[.int .i64 0,.string ⟨#[]⟩,.slice none 0 0] 57)):=by rw [← hZ]; exact (Below.refl _ w).alloc (Nat.le_refl _) _
 have hPZ:P < Z:=by have:=h.clt; omega
 rw [hZ] at hZr
 have hS0:=Hid.mk (h.below (by rw [hZ]; exact hB0))
 have hO0:=Hid.mk (Onl.of P (show Below w.heap.size w _ by rw [hZ]; exact hB0))
 have hZ0:=Hid.mk hZr
 have hRH:=Hid.mk hR
 clear h hR hB0 hZr
 go_enter Tryz.func65,Tryz.ntmps65
 go_upto_region 1 with (fail)
 generalize World.alloc w _=w0 at*
 go_wp2_with (fail)
 refine (ih f0 (by omega) p w0 hS0.out (by omega)).mono ?_
 rintro e w1 ⟨hO1,hP1⟩
 cases hr:rowL ts f0 p [] with
 | bad fe=>
  rw [hr] at hP1 hRH
  subst hP1
  have:=hRH.out
  subst this
  exact ⟨rfl,hO0.out.trans hO1,rfl⟩
 | ok r p1=>
  rw [hr] at hP1 hRH
  obtain ⟨⟨u,rfl,s,rfl,hTr⟩,hS1,hle1,hop1⟩:=hP1
  simp only at hRH
  obtain ⟨sp,sc,rfl⟩:=hTr.form
  obtain ⟨V,hV⟩:∃ V,w1.heap.size=V:=⟨_,rfl⟩
  have hVr:=heap_alloc_new w1 (.cells #[.int .i64 (r.kind:Nat),.string r.text,.slice sp r.kids.length sc] 57)
  rw [hV] at hVr
  have hBV:Below w1.heap.size w1 (w1.alloc (.cells #[.int .i64 (r.kind:Nat),.string r.text,.slice sp r.kids.length sc] 57)):=(Below.refl _ w1).alloc (Nat.le_refl _) _
  obtain ⟨w2,hw2⟩:∃ w2,w1.alloc (.cells #[.int .i64 (r.kind:Nat),.string r.text,.slice sp r.kids.length sc] 57)=w2:=⟨_,rfl⟩
  rw [hw2] at hVr hBV
  have hsz1:Z+1≤w1.heap.size:=by have:=hO1.size; omega
  have hZ1:=hO1.row hZ0.out (by omega)
  have hE:Hid (RowE P G ts n v Z w p (.slice (some ⟨V,0,none⟩) 1 1) p1 [r] [.slice sp r.kids.length sc] w2):= .mk ⟨hS1.below hBV,hO0.out.trans (hO1.trans (Onl.of P hBV)),
   KidsO.single hVr (by omega) ((hTr.mono (S':=fun g=>Z+1≤g∧g≠V) fun g h1 h2=>⟨by omega,by omega⟩).blw hBV),(Onl.of P hBV).row hZ1 (by omega),by simp,hle1,hop1⟩
  unfold nodeV
  clear hS1 hTr hO1 hBV hVr hZ1 hS0 hO0 hZ0
  go_upto_block 0 with (refine wpList_build_node rfl _ rfl _ _ _ rfl ?_; rw [hw2,hV])
  go_cut [3] (fun x wr=>∃ p' items ss,RowE P G ts n v Z w p x p' items ss wr∧R= .ok (wrapT 4 items) p')
  case first=>as_aux_lemma=>
   go_wp2_with (fail)
   go_loopw [3] (fun x wr=>∃ f' p' items ss,RowE P G ts n v Z w p x p' items ss wr∧altL ts f' p' items=R∧6*(n - p'.at_)+4≤f'∧f'≤f0) (fun _ wr=>n - patW P wr)
   case atStart=>exact ⟨f0,p1,_,_,hE.out,hRH.out,by omega,Nat.le_refl _⟩
   case round=>
    obtain ⟨f',p',items,ss,g1,hR,gfu,gf⟩:=hrel
    clear hE hRH
    obtain ⟨f2,rfl⟩:∃ f2,f'=f2+1:=⟨f' - 1,by omega⟩
    have hat:=Hid.mk g1.ps.patW
    obtain ⟨xp,xc,rfl⟩:=g1.kids.slice
    rw [altL] at hR
    have g1H:=Hid.mk g1
    have gfH:=Hid.mk gf
    have gfuH:=Hid.mk gfu
    have hsg:=sign_any P G ts n v p' wr g1.ps (str1 124)
    clear g1 gf gfu hf
    cases hs:signF ts p' (str1 124) with
    | bad fe=>
     rw [hs] at hsg hR
     subst hR
     go_wp2_with (fail)
     refine hsg.mono ?_
     rintro e w6 ⟨hB6,rfl⟩
     exact ⟨rfl,g1H.out.onl.trans (Onl.of P hB6),rfl⟩
    | ok b pp=>
     obtain rfl:=signF_ok hs
     rw [hs] at hsg hR
     cases b with
     | false=>
      simp only at hR
      go_wp2_with (fail)
      refine hsg.mono ?_
      rintro e w6 ⟨hB6,rfl⟩
      have hfin:=Hid.mk (g1H.out.go P G ts n v hPZ (Onl.of P hB6) (g1H.out.ps.below hB6) (Nat.le_refl _) rfl)
      clear hB6
      go_wp2_with (fail)
      go_meet
      exact ⟨_,_,_,hfin.out,hR.symm⟩
     | true=>
      simp only at hR
      have hltn:=Hid.mk (g1H.out.ps.ok.lt g1H.out.ps.le (by rw [(signF_true hs).1]; decide))
      have hsmi:(pp.at_:Int) < 65537:=by have:=g1H.out.ps.le; have:=g1H.out.ps.ok.small; omega
      clear hs
      go_wp2_with (fail)
      refine hsg.mono ?_
      rintro e w6 ⟨hB6,rfl⟩
      have hS6:=Hid.mk (g1H.out.ps.below hB6)
      have c1:w6.cell? ⟨P,1,none⟩=some (.int .i64 (pp.at_:Nat)):=by simp [World.cell?,hS6.out.cells,psCells]
      have f1:w6.frozen? ⟨P,1,none⟩=false:=by simp [World.frozen?,hS6.out.cells]
      have hO6:=Hid.mk (Onl.of P hB6)
      clear hB6 hsg
      go_upto_region 4 with (fail)
      generalize hw7:World.setCell _ _ _=w7
      have hO67:Onl P w6 w7:=by
       subst hw7
       exact (Onl.refl P w6).setCell (p:=⟨P,1,none⟩) rfl _
      have hS7:Hid (PsS P G ts n v ⟨pp.at_+1,pp.open_⟩ w7):= .mk (by
       subst hw7
       exact hS6.out.step hltn.out)
      have hE7:=Hid.mk (g1H.out.go P G ts n v hPZ (hO6.out.trans hO67) hS7.out (Nat.le_succ _) rfl)
      clear hw7 hO67 c1 f1 hS6 hO6
      go_wp2_with (fail)
      refine (ih f2 (by have:=gfH.out; omega) ⟨pp.at_+1,pp.open_⟩ w7 hS7.out (by simp only; have:=gfuH.out; have:=hltn.out; omega)).mono ?_
      rintro e w8 ⟨hO8,hP8⟩
      cases hrr:rowL ts f2 ⟨pp.at_+1,pp.open_⟩ [] with
      | bad fe=>
       rw [hrr] at hP8 hR
       subst hP8
       subst hR
       exact ⟨rfl,hE7.out.onl.trans hO8,rfl⟩
      | ok nd p2=>
       rw [hrr] at hP8 hR
       obtain ⟨⟨u,rfl,s2,rfl,hTr8⟩,hS8,hle8,hop8⟩:=hP8
       simp only at hR hle8 hop8
       obtain ⟨sp2,sc2,rfl⟩:=hTr8.form
       have hE8:=Hid.mk (hE7.out.go P G ts n v hPZ hO8 hS8 hle8 hop8)
       have hXO:∀ g,(Value.slice xp items.length xc).ownBlock=some g→Z+1≤g∧g < w7.heap.size:=fun g hg=>hE7.out.kids.own.lt g hg
       have hZ7:Z < w7.heap.size:=(Array.getElem?_eq_some_iff.1 hE7.out.res).1
       have hTr6:=Hid.mk (hTr8.mono (S':=fun g=>Z+1≤g∧(Value.slice xp items.length xc).ownBlock≠some g) fun g h1 _=>⟨by omega,fun e=>(by have:=(hXO g e).2; omega)⟩)
       have hfew:=hE8.out.few
       have hpn:=hS8.le
       have hlen:=Hid.mk (show items.length≤1000000 by have:=hS8.ok.small; omega)
       have hsz6:Z+1≤w8.heap.size:=by have:=hO8.size; omega
       unfold nodeV
       clear hO8 hS8 hTr8 hE7 hS7
       go_wp2_with (first | (refine wpList_build_node rfl _ rfl _ _ _ rfl ?_) | (at_builtin; refine wpList_app_node rfl _ _ rfl (Z+1) _ items ss nd _ w8 rfl rfl hE8.out.kids hTr6.out rfl hsz6 hlen.out ?_))
       intro g c w9 hK9 hgr
       have hP9:=hE8.out.ps.grown hgr (fun k hk=>by have:=(hXO k hk).1; omega)
       have hO9:=hE8.out.onl.grown hgr (fun k hk=>by have:=(hXO k hk).1; omega)
       have hZ9:=(hgr.block Z (by omega) (fun e=>by have:=(hXO Z e.symm).1; omega)).trans hE8.out.res
       have hE9:=Hid.mk (show RowE P G ts n v Z w p _ p2 (items++[nd]) (ss++[_]) w9 from ⟨hP9,hO9,hK9,hZ9,by have:=g1H.out.few; simp; omega,hE8.out.le,hE8.out.op⟩)
       clear hK9 hgr hP9 hO9 hZ9
       go_wp2_with (fail)
       refine ⟨⟨f2,p2,items++[nd],_,hE9.out,hR,?_,?_⟩,?_⟩
       ·have:=gfuH.out; have:=hltn.out; omega
       ·have:=gfH.out; omega
       ·rw [hE9.out.ps.patW,hat.out]; have:=hltn.out; omega
  case rest=>as_aux_lemma=>
   obtain ⟨p',items,ss,hE,hRe⟩:=hcut
   subst hRe
   have hEH:=Hid.mk hE
   by_cases h1:∃ t,items=[t]
   ·obtain ⟨t,rfl⟩:=h1
    obtain ⟨g,c,s,rfl,hcs,hT⟩:=hE.kids.one
    have c0:=hcs 0 _ rfl
    have c1:=hcs 1 _ rfl
    have c2:=hcs 2 _ rfl
    obtain ⟨sp,sc,rfl⟩:=hT.form
    have hTH:=Hid.mk hT
    have hend:Hid ((wc.setRow Z #[.int .i64 (t.kind:Nat),.string t.text,.slice sp t.kids.length sc]).heap[Z]?=some (.cells #[.int .i64 (t.kind:Nat),.string t.text,.slice sp t.kids.length sc] 57 (0,0))):= .mk (setRow_heap _ _ _ _ _ _ hE.res)
    clear hE hcs hT
    go_wp2_with (first | (refine wpList_store_row rfl 57 _ _ rfl Z #[.int .i64 (t.kind:Nat),.string t.text,.slice sp t.kids.length sc] rfl rfl 57 _ hEH.out.res nodeInfo rfl (by simp [Value.oneCell']) ?_))
    refine bodyPost_ret (results_cell_row rfl _ _ Z _ _ _ _ rfl hend.out Tryz.underlying57 rfl nodeInfo) rfl ?_
    refine ⟨hEH.out.onl.setRow_new (by omega) _,⟨_,rfl,_,rfl,?_⟩,hEH.out.ps.setRow hPZ _,hEH.out.le,hEH.out.op⟩
    exact (hTH.out.keep (S':=fun g=>Z≤g) (by simp) fun g h1 _=>⟨setRow_other _ _ _ _ (by omega),by omega⟩).mono fun g h1 _=>by omega
   ·have hw0:wrapT 4 items= .mk 4 ⟨#[]⟩ items:=by
     match items,h1 with
     | [],_=>rfl
     | [t],h1=>exact absurd ⟨t,rfl⟩ h1
     | a::b::l,_=>rfl
    have hl1:((items.length:Nat):Int)≠1:=fun e=>h1 (by
     match items,e with
     | [t],_=>exact ⟨t,rfl⟩
     | [],e=>simp at e
     | a::b::l,e=>simp at e; omega)
    have hl1:=beq_ne hl1
    obtain ⟨xp,xc,rfl⟩:=hE.kids.slice
    have hTH:=Hid.mk (hE.kids.done 4 ⟨#[]⟩)
    have hw:=Hid.mk hw0
    clear hw0
    have hend:Hid ((wc.setRow Z #[.int .i64 4,.string ⟨#[]⟩,.slice xp items.length xc]).heap[Z]?=some (.cells #[.int .i64 4,.string ⟨#[]⟩,.slice xp items.length xc] 57 (0,0))):= .mk (setRow_heap _ _ _ _ _ _ hE.res)
    clear hE h1
    go_wp2_with (first | (refine wpList_store_row rfl 57 _ _ rfl Z #[.int .i64 4,.string ⟨#[]⟩,.slice xp items.length xc] rfl rfl 57 _ hEH.out.res nodeInfo rfl (by simp [Value.oneCell']) ?_))
    refine bodyPost_ret (results_cell_row rfl _ _ Z _ _ _ _ rfl hend.out Tryz.underlying57 rfl nodeInfo) rfl ?_
    rw [hw.out]
    refine ⟨hEH.out.onl.setRow_new (by omega) _,⟨_,rfl,_,rfl,?_⟩,hEH.out.ps.setRow hPZ _,hEH.out.le,hEH.out.op⟩
    exact (hTH.out.keep (S':=fun g=>Z≤g) (by simp) fun g h1 _=>⟨setRow_other _ _ _ _ (by omega),by omega⟩).mono fun g h1 _=>by omega
theorem parser_all (P G:Nat) (ts:List Tok) (n:Nat) (v:Value):∀ f,AltC P G ts n v f∧RowC P G ts n v f∧AtomC P G ts n v f∧ArC P G ts n v f:=by
 intro f
 induction f using Nat.strongRecOn with
 | ind f ih=>
  refine ⟨alt_any P G ts n v f fun f' h=>(ih f' h).2.1,row_any P G ts n v f fun f' h=>(ih f' h).2.2.1,?_,?_⟩
  ·match f with
   | 0=>intro p w h hf; omega
   | f+1=>exact atom_any P G ts n v f (ih f (Nat.lt_succ_self f)).2.2.2
  ·match f with
   | 0=>intro p w en h hlt hf; omega
   | f+1=>exact around_any P G ts n v f (ih f (Nat.lt_succ_self f)).1
end Go.Proofs.YtmenpmbgennhoaaGreatDoor
