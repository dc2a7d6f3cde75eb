/- refactor.Fits. refactor's small functions: row, alternation, may, refused, came. (printed by genrfa.py) refactor.flat. refactor.Flatten: what it says. -/
import Derived.Test.YtmenpmbgennhoaaGreatDoorWra
import Derived.Test.YtmenpmbgennhoaaGreatDoorMkj
import Derived.Test.YtmenpmbgennhoaaGreatDoorRul
import Derived.Test.YtmenpmbgennhoaaGreatDoorSam
namespace Go.Proofs.YtmenpmbgennhoaaGreatDoor
open Go.RowKit
structure SmallG (g:Gr):Prop where
 nodes:g.rules.length+nodesRs g.rules≤1000000
 short:∀ (i:Nat) r,g.rules[i]?=some r→shortT r.body=true
 text:properG g=true→(textT g).length≤1000000000
def parH:ParR→Gr
 | .ok g=>g
 | .bad _=>⟨⟨#[]⟩,[]⟩
def parC:ParR→Flt
 | .ok _=>⟨0,0,0⟩
 | .bad f=>f
theorem RsAt.blw {S:Nat→Prop} {w w':World} {rs:List Rl} {v:Value} (h:RsAt S w rs v) (hb:Below w.heap.size w w'):RsAt S w' rs v:=h.keep hb.size fun g h1 h2=>⟨hb.block g h2,h1⟩
theorem RsAt.none (S:Nat→Prop) (w:World):RsAt S w [] (.slice none 0 0):=⟨[],rfl,.inl ⟨_,_,rfl,rfl⟩,fun i r s h=>by simp at h⟩
theorem parse2_any (s:ByteArray) (w:World):Calls Tryz.prog 9 #[.string s] w fun e w'=>Below w.heap.size w w'∧∃ rv,e= .returned (.tuple #[.agg #[.string (parH (parseT s)).start,rv],fltV (parC (parseT s))])∧RsAt (fun k=>w.heap.size≤k) w' (parH (parseT s)).rules rv:=by
 refine (parse_any s w).mono ?_
 rintro e w' ⟨hB,h⟩
 refine ⟨hB,?_⟩
 cases hp:parseT s with
 | ok g=>
  rw [hp] at h
  exact h
 | bad f=>
  rw [hp] at h
  exact ⟨_,h,RsAt.none _ _⟩
theorem undefL_code (rs:List Rl) (i:Nat):∀ (l told:List ByteArray) (out:List Pb),(∀ p ∈ out,p.code≠0)→∀ p ∈ undefL rs i l told out,p.code≠0
 | [],_,out,h=>by rw [undefL]; exact h
 | n::r,told,out,h=>by
  rw [undefL]
  split
  ·refine undefL_code rs i r _ _ fun p hp=> ?_
   rcases List.mem_append.1 hp with hp | hp
   ·exact h p hp
   ·simp at hp; subst hp; simp
  ·exact undefL_code rs i r _ _ h
theorem dupL_code (rs:List Rl) (i:Nat) (r:Rl) (out:List Pb) (h:∀ p ∈ out,p.code≠0):∀ p ∈ dupL rs i r out,p.code≠0:=by
 unfold dupL
 split
 ·intro p hp
  rcases List.mem_append.1 hp with hp | hp
  ·exact h p hp
  ·simp at hp; subst hp; simp
 ·exact h
theorem chkL_code (rs:List Rl):∀ (l:List Rl) (i:Nat) (out:List Pb),(∀ p ∈ out,p.code≠0)→∀ p ∈ chkL rs l i out,p.code≠0
 | [],_,out,h=>by rw [chkL]; exact h
 | r::l,i,out,h=>by
  rw [chkL]
  exact chkL_code rs l _ _ (undefL_code rs i _ _ _ (dupL_code rs i r out h))
theorem checkG_code (g:Gr):∀ p ∈ checkG g,p.code≠0:=by
 have h:=chkL_code g.rules g.rules 0 [] (by simp)
 unfold checkG
 split
 ·intro p hp
  rcases List.mem_append.1 hp with hp | hp
  ·exact h p hp
  ·simp at hp; subst hp; simp
 ·exact h
theorem desG_bad {g:Gr} {c:Int} (h:desG g= .bad c):c≠0:=by
 unfold desG at h
 split at h
 ·split at h
  ·rename_i p l hl
   cases h
   exact checkG_code g p (by rw [hl]; simp)
  ·split at h
   ·cases h; decide
   ·cases h
 ·cases h; decide
noncomputable def fitsG (g:Gr):Bool:=
 properG g && (decide ((parC (parseT (strOfNums (textT g)))).code=0) && (sameG g (parH (parseT (strOfNums (textT g)))) && match desG g with
   | .bad _=>false
   | .ok _=>true))
set_option maxRecDepth 100000 in
set_option maxHeartbeats 1600000 in
theorem fits_any (S:Nat→Prop) (w:World) {g:Gr} {s:Value} (h:RsAt S w g.rules s) (hsm:SmallG g) (hE:PowB w.heap.size w) :
  Calls Tryz.prog 11 #[gramV g s] w fun e w'=>e= .returned (.bool (fitsG g))∧Below w.heap.size w w':=by
 obtain ⟨R,hR⟩:∃ R,fitsG g=R:=⟨_,rfl⟩
 rw [hR]
 unfold fitsG at hR
 have kp:=fun (w':World) (hB:Below w.heap.size w w')=>h.keep (S':=S) hB.size fun k h1 h2=>⟨hB.block k h2,h1⟩
 have htx:=Hid.mk (fun (w':World) (hB:Below w.heap.size w w')=>text_any S w' (kp w' hB) hsm.text)
 have hsa:=Hid.mk (fun (w':World) (hB:Below w.heap.size w w') (S':Nat→Prop) (b:Gr) (s':Value) (hb:RsAt S' w' b.rules s')=>sameG_any S S' w' (kp w' hB) hb)
 have hde:=Hid.mk (fun (w':World) (hB:Below w.heap.size w w')=>desugar_any S w' (kp w' hB) hsm.nodes hsm.short (fun w'' h2=>hE w'' (hB.trans (h2.mono hB.size))))
 obtain ⟨p,c,rfl⟩:=h.form
 have hB1:=Hid.mk ((Below.refl w.heap.size w).alloc (Nat.le_refl _) (.cells #[.string g.start,.slice p g.rules.length c] 25))
 have hb:=Hid.mk (heap_alloc_new w (.cells #[.string g.start,.slice p g.rules.length c] 25))
 have hb1:=Hid.mk (show w.heap.size < (w.alloc (.cells #[.string g.start,.slice p g.rules.length c] 25)).heap.size by simp)
 have hRH:=Hid.mk hR
 clear h hsm hE kp hR
 unfold gramV at*
 go_enter Tryz.func11,Tryz.ntmps11
 go_wp2_with (fail)
 refine (htx.out _ hB1.out).mono ?_
 rintro e w2 ⟨rfl,hB2⟩
 have hd2:=Hid.mk ((hB2.block _ hb1.out).trans hb.out)
 have hb2:=Hid.mk (Nat.lt_of_lt_of_le hb1.out hB2.size)
 have hB2:=Hid.mk (hB1.out.trans (hB2.mono hB1.out.size))
 cases hP:properG g with
 | false=>
  have hR:=hRH.out
  rw [hP,Bool.false_and] at hR
  subst hR
  simp only [if_neg (show ¬ (false=true) by decide)]
  clear hP
  go_wp2_with (fail)
  go_ret
  exact ⟨rfl,hB2.out⟩
 | true=>
  have hR:=hRH.out
  rw [hP,Bool.true_and] at hR
  have hRH:=Hid.mk hR
  simp only [if_pos]
  clear hP hR
  go_wp2_with (fail)
  refine (parse2_any _ _).mono ?_
  rintro e w3 ⟨hB3,rv,rfl,hrv⟩
  have hd3:=Hid.mk ((hB3.block _ hb2.out).trans hd2.out)
  have hb3:=Hid.mk (Nat.lt_of_lt_of_le hb2.out hB3.size)
  have hB3:=Hid.mk (hB2.out.trans (hB3.mono hB2.out.size))
  generalize parseT (strOfNums (textT g))=pr at*
  obtain ⟨q,c2,rfl⟩:=hrv.form
  generalize parC pr=fl at*
  generalize parH pr=g2 at*
  unfold fltV
  have hB4:=Hid.mk ((hB3.out.alloc hB3.out.size (.cells #[.string g2.start,.slice q g2.rules.length c2] 25)).alloc (Nat.le_trans hB3.out.size (by simp)) (.cells #[.int .i64 (fl.line:Nat),.int .i64 (fl.col:Nat),.int .i64 (fl.code:Nat)] 43))
  by_cases hc:fl.code=0
  ·have hR:=hRH.out
   rw [decide_eq_true hc,Bool.true_and] at hR
   have hRH:=Hid.mk hR
   have hkp:Below w3.heap.size w3 ((w3.alloc (.cells #[.string g2.start,.slice q g2.rules.length c2] 25)).alloc (.cells #[.int .i64 (fl.line:Nat),.int .i64 (fl.col:Nat),.int .i64 (fl.code:Nat)] 43)):=((Below.refl _ w3).alloc (Nat.le_refl _) _).alloc (by simp) _
   have hd4:=(hkp.block _ hb3.out).trans hd3.out
   have hg4:=(Go.heap_alloc_old (w3.alloc (.cells #[.string g2.start,.slice q g2.rules.length c2] 25)) (.cells #[.int .i64 (fl.line:Nat),.int .i64 (fl.col:Nat),.int .i64 (fl.code:Nat)] 43) (show w3.heap.size < _ by simp)).trans (heap_alloc_new w3 _)
   have hf4:=heap_alloc_new (w3.alloc (.cells #[.string g2.start,.slice q g2.rules.length c2] 25)) (.cells #[.int .i64 (fl.line:Nat),.int .i64 (fl.col:Nat),.int .i64 (fl.code:Nat)] 43)
   have hrv4:=Hid.mk (hrv.blw hkp)
   have hs4:(w3.alloc (.cells #[.string g2.start,.slice q g2.rules.length c2] 25)).heap.size=w3.heap.size+1:=by simp
   rw [hs4] at hf4
   rw [hc] at hB4 hd4 hg4 hf4 hrv4 ⊢
   clear hR hkp hc hrv
   go_upto_region 5 with (fail)
   generalize (w3.alloc (.cells #[.string g2.start,.slice q g2.rules.length c2] 25)).alloc (.cells #[.int .i64 (fl.line:Nat),.int .i64 (fl.col:Nat),.int .i64 (0:Nat)] 43)=w4 at*
   have d0:w4.cell? ⟨w.heap.size,0,none⟩=some (.string g.start):=by simp [World.cell?,hd4]
   have d1:w4.cell? ⟨w.heap.size,1,none⟩=some (.slice p g.rules.length c):=by simp [World.cell?,hd4]
   have e0:w4.cell? ⟨w3.heap.size,0,none⟩=some (.string g2.start):=by simp [World.cell?,hg4]
   have e1:w4.cell? ⟨w3.heap.size,1,none⟩=some (.slice q g2.rules.length c2):=by simp [World.cell?,hg4]
   have f2:w4.cell? ⟨w3.heap.size+1,2,none⟩=some (.int .i64 (0:Nat)):=by simp [World.cell?,hf4]
   have hd4:=Hid.mk hd4
   have hs4':w3.heap.size < w4.heap.size:=(Array.getElem?_eq_some_iff.1 hg4).1
   clear hg4 hf4
   go_wp2_with (fail)
   refine (hsa.out _ hB4.out _ _ _ hrv4.out).mono ?_
   rintro e w5 ⟨rfl,hB5⟩
   have hd5:=(hB5.block _ (Nat.lt_trans hb3.out hs4')).trans hd4.out
   have hB5:=Hid.mk (hB4.out.trans (hB5.mono hB4.out.size))
   clear d0 d1 e0 e1 f2 hs4'
   have d0:w5.cell? ⟨w.heap.size,0,none⟩=some (.string g.start):=by simp [World.cell?,hd5]
   have d1:w5.cell? ⟨w.heap.size,1,none⟩=some (.slice p g.rules.length c):=by simp [World.cell?,hd5]
   clear hd5
   cases hS:sameG g g2 with
   | false=>
    have hR:=hRH.out
    rw [hS,Bool.false_and] at hR
    subst hR
    clear hS
    go_wp2_with (fail)
    go_ret
    exact ⟨rfl,hB5.out⟩
   | true=>
    have hR:=hRH.out
    rw [hS,Bool.true_and] at hR
    have hRH:=Hid.mk hR
    clear hS hR
    go_wp2_with (fail)
    refine (hde.out _ hB5.out).mono ?_
    rintro e w6 hP6
    cases hds:desG g with
    | bad cd=>
     rw [hds] at hP6
     have hR:=hRH.out
     rw [hds] at hR
     simp only at hR
     subst hR
     have hcd:=desG_bad hds
     obtain ⟨hB6,rfl⟩:=hP6
     have hB6:=Hid.mk (hB5.out.trans (hB6.mono hB5.out.size))
     clear hds
     go_wp2_with (fail)
     have hcq:(cd==0)=false:=by simpa using hcd
     go_ret
     exact ⟨by show Ending.returned (Value.bool (cd==0))=_; rw [hcq],hB6.out⟩
    | ok pl=>
     rw [hds] at hP6
     obtain ⟨hB6,v,rfl,hv⟩:=hP6
     have hR:=hRH.out
     rw [hds] at hR
     simp only at hR
     clear hds
     subst hR
     have hB6:=Hid.mk (hB5.out.trans (hB6.mono hB5.out.size))
     clear hv
     go_wp2_with (fail)
     go_ret
     exact ⟨rfl,hB6.out⟩
  ·have hR:=hRH.out
   rw [decide_eq_false hc,Bool.false_and] at hR
   subst hR
   go_wp2_with (fail)
   go_ret
   exact ⟨rfl,hB4.out⟩
end Go.Proofs.YtmenpmbgennhoaaGreatDoor

namespace Go.Proofs.YtmenpmbgennhoaaGreatDoor
open Go.RowKit
theorem wrapT_else (k:Nat) (l:List Tr) (h:l.length≠1):wrapT k l= .mk k ⟨#[]⟩ l:=by
 match l,h with
 | [],_=>rfl
 | [t],h=>exact absurd rfl h
 | a::b::l,_=>rfl
set_option maxRecDepth 100000 in
set_option maxHeartbeats 1600000 in
theorem rrow_any (B:Nat) (w:World) {v:Value} {ks:List Tr} {ss:List Value} (h:KidsO B w v ks ss) (hB:B≤w.heap.size) :
  Calls Tryz.prog 44 #[v] w fun e w'=>∃ s,e= .returned (nodeV (wrapT 3 ks) s)∧TrAt (fun g=>B≤g) w' (wrapT 3 ks) s∧Below w.heap.size w w':=by
 obtain ⟨Z,hZ⟩:∃ Z,w.heap.size=Z:=⟨_,rfl⟩
 have hZr:=heap_alloc_new w (.cells #[.int .i64 0,.string ⟨#[]⟩,.slice none 0 0] 57)
 rw [hZ] at hZr hB ⊢
 have hB0:Below Z w (w.alloc (.cells #[.int .i64 0,.string ⟨#[]⟩,.slice none 0 0] 57)):=by rw [← hZ]; exact (Below.refl _ w).alloc (Nat.le_refl _) _
 have hK0:=h.keep hB0.size fun g _ h2=>hB0.block g (by rw [← hZ]; exact h2)
 have hs0:Z < (w.alloc (.cells #[.int .i64 0,.string ⟨#[]⟩,.slice none 0 0] 57)).heap.size:=by simp; omega
 have hlt:∀ g,v.ownBlock=some g→g < Z:=fun g hg=>by rw [← hZ]; exact (h.own.lt g hg).2
 by_cases h1:∃ t,ks=[t]
 ·obtain ⟨t,rfl⟩:=h1
  obtain ⟨g,c,s,rfl,hcs,hT⟩:=hK0.one
  obtain ⟨g',c',s',hv',hcs',hT'⟩:=h.one
  injection hv' with e1 e2 e3
  injection e1 with e1
  injection e1 with e1
  subst e1
  have hgz:g < Z:=hlt g rfl
  have hcs2:∀ j u,(nodeC t s')[j]?=some u→(w.alloc (.cells #[.int .i64 0,.string ⟨#[]⟩,.slice none 0 0] 57)).cell? ⟨g,j,none⟩=some u:=fun j u hu=>(hB0.cell (by exact hgz)).trans (hcs' j u hu)
  have c0:=hcs2 0 _ rfl
  have c1:=hcs2 1 _ rfl
  have c2:=hcs2 2 _ rfl
  obtain ⟨sp,sc,rfl⟩:=hT'.form
  have hTH:=Hid.mk hT'
  have hZH:=Hid.mk hZ
  have hBH:=Hid.mk hB0
  have hend:Hid (((w.alloc (.cells #[.int .i64 0,.string ⟨#[]⟩,.slice none 0 0] 57)).setRow Z #[.int .i64 (t.kind:Nat),.string t.text,.slice sp t.kids.length sc]).heap[Z]?=some (.cells #[.int .i64 (t.kind:Nat),.string t.text,.slice sp t.kids.length sc] 57 (0,0))):= .mk (setRow_heap _ _ _ _ _ _ hZr)
  have hZrH:=Hid.mk hZr
  clear hcs hcs' hcs2 hT hT' h hK0 hlt e2 e3 hB0 hZr
  subst hZ
  go_enter Tryz.func44,Tryz.ntmps44
  go_wp2_with (first | (refine wpList_store_row rfl 57 _ _ rfl w.heap.size #[.int .i64 (t.kind:Nat),.string t.text,.slice sp t.kids.length sc] rfl rfl 57 _ hZrH.out nodeInfo rfl (by simp [Value.oneCell']) ?_))
  refine bodyPost_ret (results_cell_row rfl _ _ w.heap.size _ _ _ _ rfl hend.out Tryz.underlying57 rfl nodeInfo) rfl ?_
  have hbl:=setRow_low hBH.out w.heap.size #[.int .i64 (t.kind:Nat),.string t.text,.slice sp t.kids.length sc] (Nat.le_refl _)
  exact ⟨_,rfl,hTH.out.blw hbl,hbl⟩
 ·have hl1:ks.length≠1:=fun e=>h1 (List.length_eq_one_iff.1 e)
  have hw:=Hid.mk (wrapT_else 3 ks hl1)
  have hli:((ks.length:Nat):Int)≠1:=by omega
  have hl1:=beq_ne hli
  obtain ⟨xp,xc,rfl⟩:=hK0.slice
  have hTH:=Hid.mk (h.done 3 ⟨#[]⟩)
  have hBH:=Hid.mk hB0
  have hend:Hid (((w.alloc (.cells #[.int .i64 0,.string ⟨#[]⟩,.slice none 0 0] 57)).setRow Z #[.int .i64 3,.string ⟨#[]⟩,.slice xp ks.length xc]).heap[Z]?=some (.cells #[.int .i64 3,.string ⟨#[]⟩,.slice xp ks.length xc] 57 (0,0))):= .mk (setRow_heap _ _ _ _ _ _ hZr)
  have hZrH:=Hid.mk hZr
  clear h1 hli h hK0 hlt hB0 hZr
  subst hZ
  go_enter Tryz.func44,Tryz.ntmps44
  go_wp2_with (first | (refine wpList_store_row rfl 57 _ _ rfl w.heap.size #[.int .i64 3,.string ⟨#[]⟩,.slice xp ks.length xc] rfl rfl 57 _ hZrH.out nodeInfo rfl (by simp [Value.oneCell']) ?_))
  refine bodyPost_ret (results_cell_row rfl _ _ w.heap.size _ _ _ _ rfl hend.out Tryz.underlying57 rfl nodeInfo) rfl ?_
  have hbl:=setRow_low hBH.out w.heap.size #[.int .i64 3,.string ⟨#[]⟩,.slice xp ks.length xc] (Nat.le_refl _)
  rw [hw.out]
  exact ⟨_,rfl,hTH.out.blw hbl,hbl⟩
set_option maxRecDepth 100000 in
set_option maxHeartbeats 1600000 in
theorem ralt_any (B:Nat) (w:World) {v:Value} {ks:List Tr} {ss:List Value} (h:KidsO B w v ks ss) (hB:B≤w.heap.size) :
  Calls Tryz.prog 20 #[v] w fun e w'=>∃ s,e= .returned (nodeV (wrapT 4 ks) s)∧TrAt (fun g=>B≤g) w' (wrapT 4 ks) s∧Below w.heap.size w w':=by
 obtain ⟨Z,hZ⟩:∃ Z,w.heap.size=Z:=⟨_,rfl⟩
 have hZr:=heap_alloc_new w (.cells #[.int .i64 0,.string ⟨#[]⟩,.slice none 0 0] 57)
 rw [hZ] at hZr hB ⊢
 have hB0:Below Z w (w.alloc (.cells #[.int .i64 0,.string ⟨#[]⟩,.slice none 0 0] 57)):=by rw [← hZ]; exact (Below.refl _ w).alloc (Nat.le_refl _) _
 have hK0:=h.keep hB0.size fun g _ h2=>hB0.block g (by rw [← hZ]; exact h2)
 have hs0:Z < (w.alloc (.cells #[.int .i64 0,.string ⟨#[]⟩,.slice none 0 0] 57)).heap.size:=by simp; omega
 have hlt:∀ g,v.ownBlock=some g→g < Z:=fun g hg=>by rw [← hZ]; exact (h.own.lt g hg).2
 by_cases h1:∃ t,ks=[t]
 ·obtain ⟨t,rfl⟩:=h1
  obtain ⟨g,c,s,rfl,hcs,hT⟩:=hK0.one
  obtain ⟨g',c',s',hv',hcs',hT'⟩:=h.one
  injection hv' with e1 e2 e3
  injection e1 with e1
  injection e1 with e1
  subst e1
  have hgz:g < Z:=hlt g rfl
  have hcs2:∀ j u,(nodeC t s')[j]?=some u→(w.alloc (.cells #[.int .i64 0,.string ⟨#[]⟩,.slice none 0 0] 57)).cell? ⟨g,j,none⟩=some u:=fun j u hu=>(hB0.cell (by exact hgz)).trans (hcs' j u hu)
  have c0:=hcs2 0 _ rfl
  have c1:=hcs2 1 _ rfl
  have c2:=hcs2 2 _ rfl
  obtain ⟨sp,sc,rfl⟩:=hT'.form
  have hTH:=Hid.mk hT'
  have hZH:=Hid.mk hZ
  have hBH:=Hid.mk hB0
  have hend:Hid (((w.alloc (.cells #[.int .i64 0,.string ⟨#[]⟩,.slice none 0 0] 57)).setRow Z #[.int .i64 (t.kind:Nat),.string t.text,.slice sp t.kids.length sc]).heap[Z]?=some (.cells #[.int .i64 (t.kind:Nat),.string t.text,.slice sp t.kids.length sc] 57 (0,0))):= .mk (setRow_heap _ _ _ _ _ _ hZr)
  have hZrH:=Hid.mk hZr
  clear hcs hcs' hcs2 hT hT' h hK0 hlt e2 e3 hB0 hZr
  subst hZ
  go_enter Tryz.func20,Tryz.ntmps20
  go_wp2_with (first | (refine wpList_store_row rfl 57 _ _ rfl w.heap.size #[.int .i64 (t.kind:Nat),.string t.text,.slice sp t.kids.length sc] rfl rfl 57 _ hZrH.out nodeInfo rfl (by simp [Value.oneCell']) ?_))
  refine bodyPost_ret (results_cell_row rfl _ _ w.heap.size _ _ _ _ rfl hend.out Tryz.underlying57 rfl nodeInfo) rfl ?_
  have hbl:=setRow_low hBH.out w.heap.size #[.int .i64 (t.kind:Nat),.string t.text,.slice sp t.kids.length sc] (Nat.le_refl _)
  exact ⟨_,rfl,hTH.out.blw hbl,hbl⟩
 ·have hl1:ks.length≠1:=fun e=>h1 (List.length_eq_one_iff.1 e)
  have hw:=Hid.mk (wrapT_else 4 ks hl1)
  have hli:((ks.length:Nat):Int)≠1:=by omega
  have hl1:=beq_ne hli
  obtain ⟨xp,xc,rfl⟩:=hK0.slice
  have hTH:=Hid.mk (h.done 4 ⟨#[]⟩)
  have hBH:=Hid.mk hB0
  have hend:Hid (((w.alloc (.cells #[.int .i64 0,.string ⟨#[]⟩,.slice none 0 0] 57)).setRow Z #[.int .i64 4,.string ⟨#[]⟩,.slice xp ks.length xc]).heap[Z]?=some (.cells #[.int .i64 4,.string ⟨#[]⟩,.slice xp ks.length xc] 57 (0,0))):= .mk (setRow_heap _ _ _ _ _ _ hZr)
  have hZrH:=Hid.mk hZr
  clear h1 hli h hK0 hlt hB0 hZr
  subst hZ
  go_enter Tryz.func20,Tryz.ntmps20
  go_wp2_with (first | (refine wpList_store_row rfl 57 _ _ rfl w.heap.size #[.int .i64 4,.string ⟨#[]⟩,.slice xp ks.length xc] rfl rfl 57 _ hZrH.out nodeInfo rfl (by simp [Value.oneCell']) ?_))
  refine bodyPost_ret (results_cell_row rfl _ _ w.heap.size _ _ _ _ rfl hend.out Tryz.underlying57 rfl nodeInfo) rfl ?_
  have hbl:=setRow_low hBH.out w.heap.size #[.int .i64 4,.string ⟨#[]⟩,.slice xp ks.length xc] (Nat.le_refl _)
  rw [hw.out]
  exact ⟨_,rfl,hTH.out.blw hbl,hbl⟩
def mayG (g:Gr):Int:=if properG g then (match checkG g with | []=>0 | p::_=>p.code) else 1
set_option maxRecDepth 100000 in
set_option maxHeartbeats 1600000 in
theorem may_any (S:Nat→Prop) (w:World) {g:Gr} {s:Value} (h:RsAt S w g.rules s) (hn:g.rules.length+nodesRs g.rules≤1000000) (hsh:∀ (i:Nat) r,g.rules[i]?=some r→shortT r.body=true) :
  Calls Tryz.prog 12 #[gramV g s] w fun e w'=>e= .returned (.int .i64 (mayG g))∧Below w.heap.size w w':=by
 obtain ⟨R,hR⟩:∃ R,mayG g=R:=⟨_,rfl⟩
 rw [hR]
 unfold mayG at hR
 have kp:=fun (w':World) (hB:Below w.heap.size w w')=>h.keep (S':=S) hB.size fun k h1 h2=>⟨hB.block k h2,h1⟩
 have hpro:=Hid.mk (fun (w':World) (hB:Below w.heap.size w w')=>properG_any S w' (kp w' hB))
 have hchk:=Hid.mk (fun (w':World) (hB:Below w.heap.size w w')=>check_any S w' (kp w' hB) hn hsh)
 obtain ⟨p,c,rfl⟩:=h.form
 have hB1:=Hid.mk ((Below.refl w.heap.size w).alloc (Nat.le_refl _) (.cells #[.string g.start,.slice p g.rules.length c] 25))
 have hb:=Hid.mk (heap_alloc_new w (.cells #[.string g.start,.slice p g.rules.length c] 25))
 have hb1:=Hid.mk (show w.heap.size < (w.alloc (.cells #[.string g.start,.slice p g.rules.length c] 25)).heap.size by simp)
 have hRH:=Hid.mk hR
 clear h hn hsh kp hR
 unfold gramV at*
 go_enter Tryz.func12,Tryz.ntmps12
 go_wp2_with (fail)
 refine (hpro.out _ hB1.out).mono ?_
 rintro e w2 ⟨rfl,hB2⟩
 have hd2:=(hB2.block _ hb1.out).trans hb.out
 have hb2:=Hid.mk (Nat.lt_of_lt_of_le hb1.out hB2.size)
 have hB2:=Hid.mk (hB1.out.trans (hB2.mono hB1.out.size))
 have d0:w2.cell? ⟨w.heap.size,0,none⟩=some (.string g.start):=by simp [World.cell?,hd2]
 have d1:w2.cell? ⟨w.heap.size,1,none⟩=some (.slice p g.rules.length c):=by simp [World.cell?,hd2]
 clear hd2
 cases hP:properG g with
 | false=>
  have hR:=hRH.out
  rw [hP,if_neg (by decide)] at hR
  subst hR
  clear hP
  go_wp2_with (fail)
  go_ret
  exact ⟨rfl,hB2.out⟩
 | true=>
  have hR:=hRH.out
  rw [hP,if_pos rfl] at hR
  have hRH:=Hid.mk hR
  clear hP hR
  go_wp2_with (fail)
  refine (hchk.out _ hB2.out).mono ?_
  rintro e w3 ⟨v4,rfl,hO4,hB3⟩
  have hB3:=Hid.mk (hB2.out.trans (hB3.mono hB2.out.size))
  obtain ⟨p4,c4,rfl⟩:=ownsRow_form hO4
  clear d0 d1
  cases hl:checkG g with
  | cons pb rest=>
   have hR:=hRH.out
   rw [hl] at hR hO4
   simp only at hR
   subst hR
   have hcell:∃ gp,p4=some ⟨gp,0,none⟩∧w3.cell? ⟨gp,0,none⟩=some (.int .i64 pb.code):=by
    rcases hO4.2 with ⟨_,h0⟩ | ⟨g1,cap,cur,he,hb,hg,_⟩
    ·simp at h0
    ·injection he with e1 e2 e3
     subst e1
     refine ⟨g1,rfl,?_⟩
     have:=hO4.cells (g:=g1) rfl 0 (.int .i64 pb.code) (by simp [pbC])
     rw [Addr.add_lit] at this
     exact this
   obtain ⟨gp,rfl,hpc⟩:=hcell
   have hlI:(0:Int) < ((pb::rest).length:Int):=by simp
   have hlN:0 < (pb::rest).length:=by simp
   generalize (pb::rest).length=nl at*
   clear hl hO4
   go_wp2_with (fail)
   go_ret
   exact ⟨rfl,hB3.out⟩
  | nil=>
   have hR:=hRH.out
   rw [hl] at hR hO4
   simp only at hR
   subst hR
   have h0:(([]:List Pb).length:Int)=0:=rfl
   clear hl hO4
   go_wp2_with (fail)
   go_ret
   exact ⟨rfl,hB3.out⟩
def zeroG:Value:= .agg #[.string ⟨#[]⟩,.slice none 0 0]
theorem grInfo:(Tryz.prog.info? 25).map (·.size)=some 2:=by kernel_rfl
set_option maxRecDepth 100000 in
set_option maxHeartbeats 1600000 in
theorem refused_any (c:Int) (w:World):Calls Tryz.prog 13 #[.int .i64 c] w fun e w'=>e= .returned (.tuple #[zeroG,.int .i64 c])∧Below w.heap.size w w':=by
 have hZr:=heap_alloc_new w (.cells #[.string ⟨#[]⟩,.slice none 0 0] 25)
 have hbl:=setRow_low ((Below.refl w.heap.size w).alloc (Nat.le_refl _) (.cells #[.string ⟨#[]⟩,.slice none 0 0] 25)) w.heap.size #[.string ⟨#[]⟩,.slice none 0 0] (Nat.le_refl _)
 have hend:=Hid.mk (And.intro hZr (And.intro (setRow_heap (w.alloc (.cells #[.string ⟨#[]⟩,.slice none 0 0] 25)) w.heap.size _ #[.string ⟨#[]⟩,.slice none 0 0] _ _ hZr) hbl))
 clear hZr hbl
 go_enter Tryz.func13,Tryz.ntmps13
 go_wp2_with (first | (refine wpList_store_row rfl 25 _ _ rfl w.heap.size #[.string ⟨#[]⟩,.slice none 0 0] rfl rfl 25 _ hend.out.1 grInfo rfl (by simp [Value.oneCell']) ?_))
 refine bodyPost_ret (results_ct_row rfl _ _ w.heap.size _ _ _ _ rfl hend.out.2.1 Tryz.underlying25 rfl grInfo) rfl ?_
 exact ⟨rfl,hend.out.2.2⟩
set_option maxRecDepth 100000 in
set_option maxHeartbeats 1600000 in
theorem came_any (S:Nat→Prop) (w:World) {g:Gr} {s:Value} (h:RsAt S w g.rules s) (hsm:SmallG g) (hE:PowB w.heap.size w) :
  Calls Tryz.prog 21 #[gramV g s] w fun e w'=>e= .returned (.tuple (if fitsG g=true then #[gramV g s,.int .i64 0] else #[zeroG,.int .i64 12]))∧Below w.heap.size w w':=by
 have kp:=fun (w':World) (hB:Below w.heap.size w w')=>h.keep (S':=S) hB.size fun k h1 h2=>⟨hB.block k h2,h1⟩
 have hft:=Hid.mk (fun (w':World) (hB:Below w.heap.size w w')=>fits_any S w' (kp w' hB) hsm (fun w'' h2=>hE w'' (hB.trans (h2.mono hB.size))))
 obtain ⟨p,c,rfl⟩:=h.form
 unfold gramV at*
 generalize fitsG g=R at*
 have hBa:Below w.heap.size w ((w.alloc (.cells #[.string g.start,.slice p g.rules.length c] 25)).alloc (.cells #[.string ⟨#[]⟩,.slice none 0 0] 25)):=((Below.refl w.heap.size w).alloc (Nat.le_refl _) _).alloc (by simp) _
 have hg1:=(Go.heap_alloc_old (w.alloc (.cells #[.string g.start,.slice p g.rules.length c] 25)) (.cells #[.string ⟨#[]⟩,.slice none 0 0] 25) (show w.heap.size < _ by simp)).trans (heap_alloc_new w _)
 have hr1:=heap_alloc_new (w.alloc (.cells #[.string g.start,.slice p g.rules.length c] 25)) (.cells #[.string ⟨#[]⟩,.slice none 0 0] 25)
 have hs1:(w.alloc (.cells #[.string g.start,.slice p g.rules.length c] 25)).heap.size=w.heap.size+1:=by simp
 rw [hs1] at hr1
 clear h hsm hE kp hs1
 go_enter Tryz.func21,Tryz.ntmps21
 go_upto_region 1 with (fail)
 generalize (w.alloc (.cells #[.string g.start,.slice p g.rules.length c] 25)).alloc (.cells #[.string ⟨#[]⟩,.slice none 0 0] 25)=w1 at*
 have d0:w1.cell? ⟨w.heap.size,0,none⟩=some (.string g.start):=by simp [World.cell?,hg1]
 have d1:w1.cell? ⟨w.heap.size,1,none⟩=some (.slice p g.rules.length c):=by simp [World.cell?,hg1]
 have hg1:=Hid.mk hg1
 have hr1:=Hid.mk hr1
 have hBa:=Hid.mk hBa
 go_wp2_with (fail)
 refine (hft.out _ hBa.out).mono ?_
 rintro e w2 ⟨rfl,hB2⟩
 have hg2:=(hB2.block _ (Array.getElem?_eq_some_iff.1 hg1.out).1).trans hg1.out
 have hr2:=Hid.mk ((hB2.block _ (Array.getElem?_eq_some_iff.1 hr1.out).1).trans hr1.out)
 have hB2:=Hid.mk (hBa.out.trans (hB2.mono hBa.out.size))
 clear d0 d1
 have d0:w2.cell? ⟨w.heap.size,0,none⟩=some (.string g.start):=by simp [World.cell?,hg2]
 have d1:w2.cell? ⟨w.heap.size,1,none⟩=some (.slice p g.rules.length c):=by simp [World.cell?,hg2]
 clear hg2
 cases R with
 | false=>
  have hend:=Hid.mk (setRow_heap w2 (w.heap.size+1) _ #[.string ⟨#[]⟩,.slice none 0 0] _ _ hr2.out)
  have hbl:=Hid.mk (setRow_low hB2.out (w.heap.size+1) #[.string ⟨#[]⟩,.slice none 0 0] (Nat.le_succ _))
  go_wp2_with (first | (refine wpList_store_row rfl 25 _ _ rfl (w.heap.size+1) #[.string ⟨#[]⟩,.slice none 0 0] rfl rfl 25 _ hr2.out grInfo rfl (by simp [Value.oneCell']) ?_))
  refine bodyPost_ret (results_ct_row rfl _ _ (w.heap.size+1) _ _ _ _ rfl hend.out Tryz.underlying25 rfl grInfo) rfl ?_
  exact ⟨rfl,hbl.out⟩
 | true=>
  have hend:=Hid.mk (setRow_heap w2 (w.heap.size+1) _ #[.string g.start,.slice p g.rules.length c] _ _ hr2.out)
  have hbl:=Hid.mk (setRow_low hB2.out (w.heap.size+1) #[.string g.start,.slice p g.rules.length c] (Nat.le_succ _))
  go_wp2_with (first | (refine wpList_store_row rfl 25 _ _ rfl (w.heap.size+1) #[.string g.start,.slice p g.rules.length c] rfl rfl 25 _ hr2.out grInfo rfl (by simp [Value.oneCell']) ?_))
  refine bodyPost_ret (results_ct_row rfl _ _ (w.heap.size+1) _ _ _ _ rfl hend.out Tryz.underlying25 rfl grInfo) rfl ?_
  exact ⟨rfl,hbl.out⟩
end Go.Proofs.YtmenpmbgennhoaaGreatDoor

namespace Go.Proofs.YtmenpmbgennhoaaGreatDoor
open Go.RowKit
def itemT (names terms:List ByteArray) (s:Int):Tr:=if 0≤s then .mk 1 (names.getD s.toNat ⟨#[]⟩) [] else .mk 2 (terms.getD (-1 - s).toNat ⟨#[]⟩) []
def flatT (names terms:List ByteArray) (right:List Int):Tr:=wrapT 3 (right.map (itemT names terms))
theorem SlAt.some {S:Nat→Prop} {w:World} {p:Option Addr} {n c:Nat} {xs:List Value} (h:SlAt S w (.slice p n c) n xs) (hn:0 < n):∃ g o,p=some ⟨g,o,none⟩∧S g∧g < w.heap.size∧n≤maxLen∧∀ j u,xs[j]?=some u→w.cell? ⟨g,o+j,none⟩=some u:=by
 rcases h with ⟨_,_,_,h0⟩ | ⟨g,o,c',he,h1,h2,h3,h4⟩
 ·omega
 ·injection he with e1 e2 e3
  exact ⟨g,o,e1,h1,h2,h3,h4⟩
set_option maxRecDepth 100000 in
set_option maxHeartbeats 3200000 in
theorem flat_any (w:World) {names terms:List ByteArray} {right:List Int} {S1 S2 S3:Nat→Prop} {a b:Int} {pn pt pp pm pr:Option Addr} {ln cn ct lp cp cm cr:Nat}
  (hT:SlAt S1 w (.slice pt terms.length ct) terms.length (terms.map Value.string)) (hN:SlAt S2 w (.slice pm names.length cm) names.length (names.map Value.string)) (hR:SlAt S3 w (.slice pr right.length cr) right.length (right.map (Value.int .i64)))
  (hsym:∀ s ∈ right, -(terms.length:Int)≤s∧s < names.length) (hlen:right.length≤1000000) :
  Calls Tryz.prog 19 #[.agg #[.int .i64 a,.int .i64 b,.slice pn ln cn,.slice pt terms.length ct,.slice pp lp cp],.slice pm names.length cm,.slice pr right.length cr] w fun e w'=>
   ∃ s,e= .returned (nodeV (flatT names terms right) s)∧TrAt (fun g=>w.heap.size≤g) w' (flatT names terms right) s∧Below w.heap.size w w':=by
 obtain ⟨ft,hft⟩:∃ t,flatT names terms right=t:=⟨_,rfl⟩
 obtain ⟨its,hits⟩:∃ l,right.map (itemT names terms)=l:=⟨_,rfl⟩
 have hil:its.length=right.length:=by rw [← hits]; simp
 have hia:∀ (i:Nat) s,right[i]?=some s→its[i]?=some (itemT names terms s):=fun i s h=>by rw [← hits]; simp [h]
 have hft:wrapT 3 its=ft:=by rw [← hits,← hft]; rfl
 rw [show flatT names terms right=ft from by rw [← hft,← hits]; rfl]
 have hilH:=Hid.mk hil
 have hiaH:=Hid.mk hia
 have hftH:=Hid.mk hft
 clear hits hil hia hft
 obtain ⟨Z,hZ⟩:∃ Z,w.heap.size=Z:=⟨_,rfl⟩
 rw [hZ]
 have hB0:Below Z w ((w.alloc (.cells #[.int .i64 a,.int .i64 b,.slice pn ln cn,.slice pt terms.length ct,.slice pp lp cp] 34)).alloc (.cells #[.int .i64 0,.string ⟨#[]⟩,.slice none 0 0] 57)):=by rw [← hZ]; exact ((Below.refl _ w).alloc (Nat.le_refl _) _).alloc (by simp) _
 have hg0:=(Go.heap_alloc_old (w.alloc (.cells #[.int .i64 a,.int .i64 b,.slice pn ln cn,.slice pt terms.length ct,.slice pp lp cp] 34)) (.cells #[.int .i64 0,.string ⟨#[]⟩,.slice none 0 0] 57) (show w.heap.size < _ by simp)).trans (heap_alloc_new w _)
 have hr0:=heap_alloc_new (w.alloc (.cells #[.int .i64 a,.int .i64 b,.slice pn ln cn,.slice pt terms.length ct,.slice pp lp cp] 34)) (.cells #[.int .i64 0,.string ⟨#[]⟩,.slice none 0 0] 57)
 have hs0:((w.alloc (.cells #[.int .i64 a,.int .i64 b,.slice pn ln cn,.slice pt terms.length ct,.slice pp lp cp] 34)).alloc (.cells #[.int .i64 0,.string ⟨#[]⟩,.slice none 0 0] 57)).heap.size=Z+2:=by simp; omega
 have hs1:(w.alloc (.cells #[.int .i64 a,.int .i64 b,.slice pn ln cn,.slice pt terms.length ct,.slice pp lp cp] 34)).heap.size=Z+1:=by simp; omega
 rw [hs1] at hr0
 rw [hZ] at hg0
 have kp:∀ {v:Value} {n:Nat} {xs:List Value} {S:Nat→Prop} {w':World},SlAt S w v n xs→Below Z w w'→SlAt S w' v n xs:=fun h hB=>h.keep hB.size fun g h1 h2=>⟨hB.block g (by omega),h1⟩
 have kpH:Hid (∀ (v:Value) (n:Nat) (xs:List Value) (S:Nat→Prop) (w':World),SlAt S w v n xs→Below Z w w'→SlAt S w' v n xs):= .mk fun v n xs S w' h hB=>kp h hB
 have hTH:=Hid.mk hT
 have hNH:=Hid.mk hN
 have hRH:=Hid.mk hR
 have hsymH:=Hid.mk hsym
 clear kp hT hN hR hsym hs1
 go_enter Tryz.func19,Tryz.ntmps19
 go_upto_region 1 with (fail)
 generalize (w.alloc (.cells #[.int .i64 a,.int .i64 b,.slice pn ln cn,.slice pt terms.length ct,.slice pp lp cp] 34)).alloc (.cells #[.int .i64 0,.string ⟨#[]⟩,.slice none 0 0] 57)=w0 at*
 have hZH:=Hid.mk hZ
 have hB0:=Hid.mk hB0
 have hg0:=Hid.mk hg0
 have hr0:=Hid.mk hr0
 have hs0:=Hid.mk hs0
 clear hZ
 go_wp2_with (fail)
 go_loopw [7,12] (fun x y wr=>∃ (i:Nat) (ss:List Value),y= .int .i64 (i:Nat)∧i≤right.length∧KidsO (Z+2) wr x (its.take i) ss∧Below (Z+2) w0 wr) (fun _ y _=>right.length - (intOf y).toNat)
 case atStart=>exact ⟨0,[],rfl,Nat.zero_le _,KidsO.nil _ _,by rw [← hs0.out]; exact Below.refl _ _⟩
 case round=>
  obtain ⟨i,ss,rfl,hi,hK,hBr⟩:=hrel
  obtain ⟨xp,xc,hxv⟩:=hK.slice
  have hKl:(its.take i).length=i:=by have:=hilH.out; simp; omega
  rw [hKl] at hxv
  have hKl0:=Hid.mk hKl
  have hmin:min i its.length=i:=by have:=hilH.out; omega
  subst hxv
  by_cases hlt:i < right.length
  ·have hiI:(i:Int) < (right.length:Int):=by omega
   have hwi:wrap64 ((i:Int)+1)=(i:Int)+1:=by unfold wrap64; omega
   obtain ⟨s,ha⟩:∃ s,right[i]?=some s:=⟨_,List.getElem?_eq_getElem hlt⟩
   obtain ⟨gr,orr,rfl,_,_,_,hcr⟩:=(kpH.out _ _ _ _ _ hRH.out (hB0.out.trans (hBr.mono (by omega)))).some (show 0 < right.length by omega)
   have cr0:=hcr i (.int .i64 s) (by simp [ha])
   have hsr:=hsymH.out s (List.mem_of_getElem? ha)
   have hsz:=Hid.mk (show Z+2≤wr.heap.size by have:=hBr.size; rw [hs0.out] at this; exact this)
   have hNr:=kpH.out _ _ _ _ _ hNH.out (hB0.out.trans (hBr.mono (by omega)))
   have hTr:=kpH.out _ _ _ _ _ hTH.out (hB0.out.trans (hBr.mono (by omega)))
   have hbx:=(hBr.block Z (by omega)).trans hg0.out
   have hgr:Hid (∀ k,(Value.slice xp i xc).ownBlock=some k→Z+2≤k):= .mk fun k hk=>(hK.own.lt k hk).1
   have hBr:=Hid.mk hBr
   clear hcr hRH hKl
   by_cases hs:0≤s
   ·obtain ⟨n,rfl⟩:∃ n:Nat,s=n:=⟨s.toNat,by omega⟩
    obtain ⟨nm,hnm⟩:∃ nm,names[n]?=some nm:=⟨_,List.getElem?_eq_getElem (by omega)⟩
    have hnl:n < names.length:=by omega
    have hnI:(n:Int) < (names.length:Int):=by omega
    obtain ⟨gn,on,rfl,_,_,hnml,hcn⟩:=hNr.some (show 0 < names.length by omega)
    have cn0:=hcn n (.string nm) (by simp [hnm])
    have hit:=Hid.mk (show itemT names terms (n:Int)= .mk 1 nm [] by unfold itemT; rw [if_pos hs]; simp [List.getD,hnm])
    have hge:((n:Int)≥0):=hs
    clear hcn hNr hTr hsr hs hnm hnml
    cases hq:decide ((0:Int)≤(n:Int)) with
    | false=>exact absurd hge (of_decide_eq_false hq)
    | true=>
     clear hge
     have hTl:=TrAt.leaf (fun g=>Z+2≤g∧(Value.slice xp i xc).ownBlock≠some g) wr 1 nm
     have hKa:=Hid.mk hK
     have hTa:=Hid.mk hTl
     have hil:=Hid.mk (show (its.take i).length≤1000000 by rw [hKl0.out]; omega)
     have hlenH:=Hid.mk hlen
     clear hK hTl hlen
     go_wp2_with (first | (refine wpList_build_node rfl _ rfl (.int .i64 1) (.string nm) (.slice none 0 0) rfl ?_) | (at_builtin; refine wpList_app_node rfl _ _ rfl (Z+2) _ _ ss (.mk 1 nm []) (.slice none 0 0) wr rfl rfl hKa.out hTa.out rfl hsz.out hil.out ?_))
     rintro g7 c7 w7 hK7 hg7
     have hB7:=Hid.mk (hBr.out.grown hg7 hsz.out hgr.out)
     have hK7:=Hid.mk hK7
     clear hg7
     go_wp2_with (fail)
     refine ⟨⟨i+1,ss++[.slice none 0 0],congrArg (Value.int .i64) hwi,hlt,?_,hB7.out⟩,?ms⟩
     case ms=>
      rw [hwi]
      simp only [intOf]
      have:i < right.length:=hlt
      clear hwi hmin hlt hiI
      omega
     have ht:its.take (i+1)=its.take i++[.mk 1 nm []]:=by rw [List.take_add_one,hiaH.out i _ ha,hit.out,Option.toList_some]
     rw [ht]
     exact hK7.out
   ·obtain ⟨n,rfl⟩:∃ n:Nat,s= -1 - (n:Int):=⟨(-1 - s).toNat,by omega⟩
    obtain ⟨nm,hnm⟩:∃ nm,terms[n]?=some nm:=⟨_,List.getElem?_eq_getElem (by omega)⟩
    have hnl:n < terms.length:=by omega
    have hnI:(n:Int) < (terms.length:Int):=by omega
    obtain ⟨gn,on,rfl,_,_,hnml,hcn⟩:=hTr.some (show 0 < terms.length by omega)
    have cn0:=hcn n (.string nm) (by simp [hnm])
    have hit:=Hid.mk (show itemT names terms (-1 - (n:Int))= .mk 2 nm [] by unfold itemT; rw [if_neg hs]; simp [List.getD,hnm,show (-1 - (-1 - (n:Int)))=(n:Int) by omega])
    have c3:wr.cell? ⟨Z,3,none⟩=some (.slice (some ⟨gn,on,none⟩) terms.length ct):=by simp [World.cell?,hbx]
    have hwr:wrap64 (-1 - (-1 - (n:Int)))=(n:Int):=by
     have h1:=hnml
     unfold maxLen at h1
     unfold wrap64
     omega
    clear hcn hNr hTr hsr hnm hnml
    cases hq:decide ((0:Int)≤(-1 - (n:Int))) with
    | true=>exact absurd (of_decide_eq_true hq) (by omega)
    | false=>
     clear hs
     have hTl:=TrAt.leaf (fun g=>Z+2≤g∧(Value.slice xp i xc).ownBlock≠some g) wr 2 nm
     have hKa:=Hid.mk hK
     have hTa:=Hid.mk hTl
     have hil:=Hid.mk (show (its.take i).length≤1000000 by rw [hKl0.out]; omega)
     have hlenH:=Hid.mk hlen
     clear hK hTl hlen
     go_wp2_with (first | (refine wpList_build_node rfl _ rfl (.int .i64 2) (.string nm) (.slice none 0 0) rfl ?_) | (at_builtin; refine wpList_app_node rfl _ _ rfl (Z+2) _ _ ss (.mk 2 nm []) (.slice none 0 0) wr rfl rfl hKa.out hTa.out rfl hsz.out hil.out ?_))
     rintro g7 c7 w7 hK7 hg7
     have hB7:=Hid.mk (hBr.out.grown hg7 hsz.out hgr.out)
     have hK7:=Hid.mk hK7
     clear hg7
     go_wp2_with (fail)
     refine ⟨⟨i+1,ss++[.slice none 0 0],congrArg (Value.int .i64) hwi,hlt,?_,hB7.out⟩,?ms⟩
     case ms=>
      rw [hwi]
      simp only [intOf]
      have:i < right.length:=hlt
      clear hwi hmin hlt hiI
      omega
     have ht:its.take (i+1)=its.take i++[.mk 2 nm []]:=by rw [List.take_add_one,hiaH.out i _ ha,hit.out,Option.toList_some]
     rw [ht]
     exact hK7.out
  ·have hei:i=right.length:=by omega
   subst hei
   have hlI:((right.length:Int) < (right.length:Int))=False:=eq_false (by omega)
   have hsz:=Hid.mk (show Z+2≤wr.heap.size by have:=hBr.size; rw [hs0.out] at this; exact this)
   have hend:=(hBr.block (Z+1) (by omega)).trans hr0.out
   have hrow:=fun w' (hb:Below wr.heap.size wr w')=>(hb.block (Z+1) (by have:=hsz.out; omega)).trans hend
   have hrowH:=Hid.mk hrow
   have hKH:=Hid.mk hK
   rw [show its.take right.length=its from by rw [← hilH.out,List.take_length]] at hKH
   have hBrH:=Hid.mk (hB0.out.trans (hBr.mono (by omega)))
   clear hrow hend hK hBr hRH hNH hTH hKl
   go_wp2_with (fail)
   refine (rrow_any (Z+2) wr hKH.out hsz.out).mono ?_
   rintro e w8 ⟨s,rfl,hT8,hB8⟩
   have hr8:=Hid.mk (hrowH.out _ hB8)
   obtain ⟨sp,sc,rfl⟩:=hT8.form
   have hB8:=Hid.mk (hBrH.out.trans (hB8.mono (by have:=hsz.out; omega)))
   have hT8:=Hid.mk hT8
   unfold nodeV
   simp only [hftH.out] at hT8 ⊢
   have hendr:=Hid.mk (setRow_heap w8 (Z+1) _ #[.int .i64 (ft.kind:Nat),.string ft.text,.slice sp ft.kids.length sc] _ _ hr8.out)
   have hbl:=Hid.mk (setRow_low hB8.out (Z+1) #[.int .i64 (ft.kind:Nat),.string ft.text,.slice sp ft.kids.length sc] (Nat.le_succ _))
   go_wp2_with (first | (refine wpList_store_row rfl 57 _ _ rfl (Z+1) #[.int .i64 (ft.kind:Nat),.string ft.text,.slice sp ft.kids.length sc] rfl rfl 57 _ hr8.out nodeInfo rfl (by simp [Value.oneCell']) ?_))
   refine bodyPost_ret (results_cell_row rfl _ _ (Z+1) _ _ _ _ rfl hendr.out Tryz.underlying57 rfl nodeInfo) rfl ?_
   refine ⟨_,rfl,?_,hbl.out⟩
   exact (hT8.out.keep (S':=fun g=>Z≤g) (by simp) fun g h1 _=>⟨setRow_other _ _ _ _ (by omega),by omega⟩)
end Go.Proofs.YtmenpmbgennhoaaGreatDoor

namespace Go.Proofs.YtmenpmbgennhoaaGreatDoor
open Go.RowKit
theorem nodup_le:∀ (l m:List ByteArray),l.Nodup→(∀ x ∈ l,x ∈ m)→l.length≤m.length
 | [],_,_,_=>Nat.zero_le _
 | a::l,m,hn,hm=>by
  obtain ⟨h1,h2⟩:=List.nodup_cons.1 hn
  have ha:a ∈ m:=hm a (by simp)
  have ih:=nodup_le l (m.erase a) h2 fun x hx=>(List.mem_erase_of_ne (fun e=>h1 (by rw [← e]; exact hx))).2 (hm x (by simp [hx]))
  have hl:=List.length_erase_of_mem ha
  have hp:=List.length_pos_of_mem ha
  simp only [List.length_cons]
  omega
theorem digits_inj:∀ (u v:Nat),Lib.decDigits u=Lib.decDigits v→u=v:=by
 intro u
 induction u using Nat.strongRecOn with
 | ind u ih=>
  intro v h
  have key:∀ a b:Nat,a < 10→b < 10→UInt8.ofNat (48+a)=UInt8.ofNat (48+b)→a=b:=fun a b ha hb e=>by
   have:=congrArg UInt8.toNat e
   simp [UInt8.toNat_ofNat'] at this
   omega
  have hlen:∀ x:Nat,0 < (Lib.decDigits x).length:=fun x=>by rw [Lib.decDigits_length]; exact Lib.nDigits_pos x
  by_cases hu:u < 10
  ·by_cases hv:v < 10
   ·rw [Lib.decDigits_one hu,Lib.decDigits_one hv] at h
    exact key u v hu hv (by simpa using h)
   ·rw [Lib.decDigits_one hu,Lib.decDigits,dif_neg hv] at h
    have h1:=congrArg List.length h
    have h2:=hlen (v / 10)
    rw [List.length_append,List.length_singleton,List.length_singleton] at h1
    omega
  ·by_cases hv:v < 10
   ·rw [Lib.decDigits_one hv,Lib.decDigits,dif_neg hu] at h
    have h1:=congrArg List.length h
    have h2:=hlen (u / 10)
    rw [List.length_append,List.length_singleton,List.length_singleton] at h1
    omega
   ·have eu:Lib.decDigits u=Lib.decDigits (u / 10)++[UInt8.ofNat (48+u % 10)]:=by rw [Lib.decDigits,dif_neg hu]
    have ev:Lib.decDigits v=Lib.decDigits (v / 10)++[UInt8.ofNat (48+v % 10)]:=by rw [Lib.decDigits,dif_neg hv]
    rw [eu,ev] at h
    have h:=List.append_inj' h rfl
    have h1:=ih (u / 10) (by omega) (v / 10) h.1
    have h2:=key (u % 10) (v % 10) (by omega) (by omega) (by simpa using h.2)
    omega
def candT (base:ByteArray) (k:Nat):ByteArray:=(base++⟨#[45]⟩)++⟨(Lib.itoa (k:Int)).toArray⟩
theorem candT_inj {base:ByteArray} {j k:Nat} (h:candT base j=candT base k):j=k:=by
 unfold candT at h
 have h1:=congrArg (fun b:ByteArray=>b.data.toList) h
 simp only [ByteArray.data_append,Array.toList_append] at h1
 have h2:=List.append_cancel_left h1
 rw [Lib.itoa_nonneg,Lib.itoa_nonneg] at h2
 exact digits_inj j k h2
def nmL (names:List ByteArray) (base:ByteArray):Nat→Nat→ByteArray
 | 0,k=>candT base k
 | f+1,k=>if Lib.containsS names (candT base k)=true then nmL names base f (k+1) else candT base k
theorem few_names {names:List ByteArray} {base:ByteArray} {k:Nat} (h:∀ j,1≤j→j≤k→candT base j ∈ names):k≤names.length:=by
 have:=nodup_le ((List.range k).map (fun j=>candT base (j+1))) names (by
  refine List.Pairwise.map _ (R:=fun a b=>a≠b) (fun a b hab e=>hab (by have:=candT_inj e; omega)) ?_
  exact List.nodup_range) (fun x hx=>by
   simp only [List.mem_map,List.mem_range] at hx
   obtain ⟨j,hj,rfl⟩:=hx
   exact h (j+1) (by omega) (by omega))
 simpa using this
def baseT (s:ByteArray):ByteArray:=⟨(Lib.cut s.data.toList [46]).1.toArray⟩
def moreL:List ByteArray→List ByteArray→Option (List ByteArray)
 | [],names=>some names
 | s::r,names=>if goodN (nmL names (baseT s) (names.length+1) 1)=true then moreL r (names++[nmL names (baseT s) (names.length+1) 1]) else none
theorem moreL_len:∀ (l names ms:List ByteArray),moreL l names=some ms→ms.length=names.length+l.length
 | [],names,ms,h=>by rw [moreL] at h; cases h; simp
 | s::r,names,ms,h=>by
  rw [moreL] at h
  split at h
  ·have:=moreL_len r _ ms h
   simp at this ⊢
   omega
  ·cases h
def rowsOf (names terms:List ByteArray) (prods:List Pd) (i:Nat):List Tr:=(prods.filter (fun x=>decide (x.left=i))).map (fun x=>flatT names terms x.right)
def flatRule (names terms:List ByteArray) (prods:List Pd) (i:Nat):Rl:=⟨names.getD i ⟨#[]⟩,wrapT 4 (rowsOf names terms prods i)⟩
def flatRules (names terms:List ByteArray) (prods:List Pd):List Rl:=(List.range names.length).map (flatRule names terms prods)
theorem flatRules_len (names terms:List ByteArray) (prods:List Pd):(flatRules names terms prods).length=names.length:=by simp [flatRules]
theorem flatRules_at (names terms:List ByteArray) (prods:List Pd) (i:Nat) (h:i < names.length):(flatRules names terms prods)[i]?=some (flatRule names terms prods i):=by simp [flatRules,h]
inductive FR where
 | bad (code:Int)
 | ok (g:Gr)
noncomputable def flattenG (g:Gr):FR:=
 if mayG g=0 then
  match desG g with
  | .bad _=> .bad 12
  | .ok p=>
   match moreL (p.names.drop p.rules) (p.names.take p.rules) with
   | none=> .bad 8
   | some names=>if fitsG ⟨g.start,flatRules names p.terms p.prods⟩=true then .ok ⟨g.start,flatRules names p.terms p.prods⟩ else .bad 12
 else .bad (mayG g)
structure PlOk (p:Pl):Prop where
 rpos:0 < p.rules
 rl:p.rules≤p.names.length
 nl:p.names.length≤1000
 ns:∀ s ∈ p.names,s.size≤70000
 pl:p.prods.length≤256
 rr:∀ x ∈ p.prods,x.right.length≤16∧∀ s ∈ x.right, -(p.terms.length:Int)≤s∧s < p.names.length
theorem cut_le (s sep:List UInt8):(Lib.cut s sep).1.length≤s.length:=by
 unfold Lib.cut
 split
 ·rw [List.length_take]
  exact Nat.min_le_right _ _
 ·exact Nat.le_refl _
theorem baseT_size (s:ByteArray):(baseT s).size≤s.size:=by
 have:=cut_le s.data.toList [46]
 unfold baseT
 show (Lib.cut s.data.toList [46]).1.toArray.size≤s.data.size
 rw [List.size_toArray,← Array.length_toList]
 exact this
end Go.Proofs.YtmenpmbgennhoaaGreatDoor
