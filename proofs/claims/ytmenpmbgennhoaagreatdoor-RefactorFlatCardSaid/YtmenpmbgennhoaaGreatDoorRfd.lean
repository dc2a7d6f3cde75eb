/- refactor.Flatten: the walk. -/
import Derived.Test.YtmenpmbgennhoaaGreatDoorFit
namespace Go.Proofs.YtmenpmbgennhoaaGreatDoor
open Go.RowKit
theorem StrsO.sl {N:Nat} {w:World} {v:Value} {l:List ByteArray} (h:StrsO N w v l):SlAt (fun k=>N≤k∧k < w.heap.size) w v l.length (l.map Value.string):=by
 rcases h.2 with ⟨h1,h2⟩ | ⟨g,cap,cur,rfl,hb,hg,hm1,hm2,_⟩
 ·exact .inl ⟨none,0,by rw [h2]; exact h1,h2⟩
 ·refine .inr ⟨g,0,cap,rfl,⟨hb,(Array.getElem?_eq_some_iff.1 hg).1⟩,(Array.getElem?_eq_some_iff.1 hg).1,Nat.le_trans hm1 hm2,fun j u hu=> ?_⟩
  have:=h.cells (g:=g) rfl j u hu
  rw [Addr.add_lit] at this
  exact this
theorem rowsOf_at (names terms:List ByteArray) (prods:List Pd) (i j:Nat) (x:Pd) (h:prods[j]?=some x):rowsOf names terms (prods.take (j+1)) i=if x.left=i then rowsOf names terms (prods.take j) i++[flatT names terms x.right] else rowsOf names terms (prods.take j) i:=by
 unfold rowsOf
 rw [List.take_add_one,h,Option.toList_some,List.filter_append,List.map_append]
 by_cases hx:x.left=i <;> simp [hx]
theorem rowsOf_le (names terms:List ByteArray) (prods:List Pd) (i:Nat):(rowsOf names terms prods i).length≤prods.length:=by
 unfold rowsOf
 rw [List.length_map]
 exact List.length_filter_le _ _
def FlatP (w:World) (r:FR) (e:Ending) (w':World):Prop:=
 Below w.heap.size w w'∧match r with
 | .bad c=>e= .returned (.tuple #[zeroG,.int .i64 c])
 | .ok h=>∃ v,e= .returned (.tuple #[gramV h v,.int .i64 0])∧RsAt (fun k=>w.heap.size≤k) w' h.rules v
set_option maxRecDepth 100000 in
set_option maxHeartbeats 6400000 in
theorem flatten_any (S:Nat→Prop) (w:World) {g:Gr} {s:Value} (h:RsAt S w g.rules s) (hn:g.rules.length+nodesRs g.rules≤1000000) (hsh:∀ (i:Nat) r,g.rules[i]?=some r→shortT r.body=true) (hE:PowB w.heap.size w)
  (hM:∀ w',Below w.heap.size w w'→∃ m:Int,w'.cell? ⟨0,0,none⟩=some (.int .i64 m)) (hok:∀ p,desG g= .ok p→PlOk p)
  (hsm:∀ p names,desG g= .ok p→moreL (p.names.drop p.rules) (p.names.take p.rules)=some names→SmallG ⟨g.start,flatRules names p.terms p.prods⟩) :
  Calls Tryz.prog 6 #[gramV g s] w (FlatP w (flattenG g)):=by
 have hm:Tryz.prog.follows .mixedOrders=true:=rfl
 obtain ⟨R,hR⟩:∃ R,flattenG g=R:=⟨_,rfl⟩
 rw [hR]
 unfold flattenG at hR
 have kp:=fun (w':World) (hB:Below w.heap.size w w')=>h.keep (S':=S) hB.size fun k h1 h2=>⟨hB.block k h2,h1⟩
 have hmay:=Hid.mk (fun (w':World) (hB:Below w.heap.size w w')=>may_any S w' (kp w' hB) hn hsh)
 have hdes:=Hid.mk (fun (w':World) (hB:Below w.heap.size w w')=>desugar_any S w' (kp w' hB) hn hsh (fun w'' h2=>hE w'' (hB.trans (h2.mono hB.size))))
 obtain ⟨p,c,rfl⟩:=h.form
 have hEH:=Hid.mk hE
 have hMH:=Hid.mk hM
 have hokH:=Hid.mk hok
 have hsmH:=Hid.mk hsm
 have hRH:=Hid.mk hR
 clear h hn hsh kp hE hM hok hsm hR
 unfold gramV at hmay hdes ⊢
 obtain ⟨Z,hZ⟩:∃ Z,w.heap.size=Z:=⟨_,rfl⟩
 have hBa:Below Z w ((w.alloc (.cells #[.string g.start,.slice p g.rules.length c] 25)).alloc (.cells #[.string ⟨#[]⟩,.slice none 0 0] 25)):=by rw [← hZ]; exact ((Below.refl w.heap.size w).alloc (Nat.le_refl _) _).alloc (by simp) _
 have hg1:=(Go.heap_alloc_old (w.alloc (.cells #[.string g.start,.slice p g.rules.length c] 25)) (.cells #[.string ⟨#[]⟩,.slice none 0 0] 25) (show w.heap.size < _ by simp)).trans (heap_alloc_new w _)
 have hr1:=heap_alloc_new (w.alloc (.cells #[.string g.start,.slice p g.rules.length c] 25)) (.cells #[.string ⟨#[]⟩,.slice none 0 0] 25)
 have hs1:(w.alloc (.cells #[.string g.start,.slice p g.rules.length c] 25)).heap.size=Z+1:=by simp; omega
 have hs2:((w.alloc (.cells #[.string g.start,.slice p g.rules.length c] 25)).alloc (.cells #[.string ⟨#[]⟩,.slice none 0 0] 25)).heap.size=Z+2:=by simp; omega
 rw [hs1] at hr1
 rw [hZ] at hg1
 go_enter Tryz.func6,Tryz.ntmps6
 go_upto_region 1 with (fail)
 clear hs1
 generalize (w.alloc (.cells #[.string g.start,.slice p g.rules.length c] 25)).alloc (.cells #[.string ⟨#[]⟩,.slice none 0 0] 25)=w1 at*
 have d0:w1.cell? ⟨Z,0,none⟩=some (.string g.start):=by simp [World.cell?,hg1]
 have d1:w1.cell? ⟨Z,1,none⟩=some (.slice p g.rules.length c):=by simp [World.cell?,hg1]
 replace hg1:=Hid.mk hg1
 replace hr1:=Hid.mk hr1
 replace hBa:=Hid.mk hBa
 replace hs2:=Hid.mk hs2
 replace hZ:=Hid.mk hZ
 go_wp2_with (fail)
 refine (hmay.out _ (by rw [hZ.out]; exact hBa.out)).mono ?_
 rintro e w2 ⟨rfl,hB2⟩
 have hg2:=(hB2.block Z (by rw [hs2.out]; omega)).trans hg1.out
 have hr2:=Hid.mk ((hB2.block (Z+1) (by rw [hs2.out]; omega)).trans hr1.out)
 have hs3:=Hid.mk (show Z+2≤w2.heap.size by have:=hB2.size; rw [hs2.out] at this; exact this)
 have hB2:=Hid.mk (hBa.out.trans (hB2.mono (by rw [hs2.out]; omega)))
 clear d0 d1 hmay
 have d0:w2.cell? ⟨Z,0,none⟩=some (.string g.start):=by simp [World.cell?,hg2]
 have d1:w2.cell? ⟨Z,1,none⟩=some (.slice p g.rules.length c):=by simp [World.cell?,hg2]
 replace hg2:=Hid.mk hg2
 by_cases hmy:mayG g=0
 ·have hR:=hRH.out
  rw [if_pos hmy] at hR
  have hRH:=Hid.mk hR
  rw [hmy]
  clear hmy hR
  go_upto_region 4 with (fail)
  go_wp2_with (fail)
  refine (hdes.out _ (by rw [hZ.out]; exact hB2.out)).mono ?_
  rintro e w3 hP3
  cases hds:desG g with
  | bad cd=>
   rw [hds] at hP3
   have hR:=hRH.out
   rw [hds] at hR
   simp only at hR
   subst hR
   have hcb:=beq_ne (desG_bad hds)
   obtain ⟨hB3,rfl⟩:=hP3
   have hr3:=(hB3.block (Z+1) (by have:=hs3.out; omega)).trans hr2.out
   have hB3:=hB2.out.trans (hB3.mono (by have:=hs3.out; omega))
   have hs4:Z+1 < w3.heap.size:=(Array.getElem?_eq_some_iff.1 hr3).1
   have hD:=heap_alloc_new w3 (.cells #[.int .i64 0,.int .i64 0,.slice none 0 0,.slice none 0 0,.slice none 0 0] 34)
   have hr4:=(show ((w3.alloc (.cells #[.int .i64 0,.int .i64 0,.slice none 0 0,.slice none 0 0,.slice none 0 0] 34)).setRow w3.heap.size #[.int .i64 0,.int .i64 0,.slice none 0 0,.slice none 0 0,.slice none 0 0]).heap[Z+1]?=(w3.alloc (.cells #[.int .i64 0,.int .i64 0,.slice none 0 0,.slice none 0 0,.slice none 0 0] 34)).heap[Z+1]? from setRow_other _ _ _ _ (by omega)).trans ((Go.heap_alloc_old w3 (.cells #[.int .i64 0,.int .i64 0,.slice none 0 0,.slice none 0 0,.slice none 0 0] 34) hs4).trans hr3)
   have hB4:=Hid.mk (setRow_low (hB3.alloc (by omega) (.cells #[.int .i64 0,.int .i64 0,.slice none 0 0,.slice none 0 0,.slice none 0 0] 34)) w3.heap.size #[.int .i64 0,.int .i64 0,.slice none 0 0,.slice none 0 0,.slice none 0 0] (by omega))
   replace hr4:=Hid.mk hr4
   replace hD:=Hid.mk hD
   replace hs4:=Hid.mk hs4
   unfold zeroPl
   clear hdes hokH hsmH hMH hEH hds hr3 hB3 d0 d1
   go_wp2_with (first | (refine wpList_store_row rfl 34 _ _ rfl w3.heap.size #[.int .i64 0,.int .i64 0,.slice none 0 0,.slice none 0 0,.slice none 0 0] rfl rfl 34 _ hD.out plInfo rfl (by simp [Value.oneCell']) ?_))
   generalize (w3.alloc (.cells #[.int .i64 0,.int .i64 0,.slice none 0 0,.slice none 0 0,.slice none 0 0] 34)).setRow w3.heap.size #[.int .i64 0,.int .i64 0,.slice none 0 0,.slice none 0 0,.slice none 0 0]=w4 at*
   refine (refused_any _ _).mono ?_
   rintro e w5 ⟨rfl,hB5⟩
   have hlt4:=(Array.getElem?_eq_some_iff.1 hr4.out).1
   have hr5:=Hid.mk ((hB5.block (Z+1) hlt4).trans hr4.out)
   have hB5:=Hid.mk (hB4.out.trans (hB5.mono (by omega)))
   have hend:=Hid.mk (setRow_heap w5 (Z+1) _ #[.string ⟨#[]⟩,.slice none 0 0] _ _ hr5.out)
   have hbl:=Hid.mk (setRow_low hB5.out (Z+1) #[.string ⟨#[]⟩,.slice none 0 0] (Nat.le_succ _))
   unfold zeroG
   clear hlt4
   go_wp2_with (first | (refine wpList_store_row rfl 25 _ _ rfl (Z+1) #[.string ⟨#[]⟩,.slice none 0 0] rfl rfl 25 _ hr5.out grInfo rfl (by simp [Value.oneCell']) ?_))
   refine bodyPost_ret (results_ct_row rfl _ _ (Z+1) _ _ _ _ rfl hend.out Tryz.underlying25 rfl grInfo) rfl ?_
   exact ⟨by rw [hZ.out]; exact hbl.out,rfl⟩
  | ok pl=>
   rw [hds] at hP3
   have hR:=hRH.out
   rw [hds] at hR
   simp only at hR
   have hRH:=Hid.mk hR
   obtain ⟨hB3,v3,rfl,vn,vt,vp,pss,rfl,hvn,hvt,hpl,hvp,hpi⟩:=hP3
   obtain ⟨pn,cn,rfl⟩:=ownsRow_form hvn
   obtain ⟨pt,ct,rfl⟩:=ownsRow_form hvt
   obtain ⟨pp,cp,rfl⟩:=ownsRow_form hvp
   have hPk:=hokH.out pl hds
   have hdsH:=Hid.mk hds
   obtain ⟨N2,hN2⟩:∃ n,w2.heap.size=n:=⟨_,rfl⟩
   obtain ⟨D,hD⟩:∃ n,w3.heap.size=n:=⟨_,rfl⟩
   have hND:N2≤D:=by have:=hB3.size; omega
   have hg3:=(hB3.block Z (by have:=hs3.out; omega)).trans hg2.out
   have hr3:=(hB3.block (Z+1) (by have:=hs3.out; omega)).trans hr2.out
   have hB3:=hB2.out.trans (hB3.mono (by have:=hs3.out; omega))
   have hsD:Z+2≤D:=by have:=hs3.out; omega
   have hD0:=heap_alloc_new w3 (.cells #[.int .i64 0,.int .i64 0,.slice none 0 0,.slice none 0 0,.slice none 0 0] 34)
   rw [hD] at hD0
   have hB34:Below D w3 (w3.alloc (.cells #[.int .i64 0,.int .i64 0,.slice none 0 0,.slice none 0 0,.slice none 0 0] 34)):=by rw [← hD]; exact (Below.refl _ w3).alloc (Nat.le_refl _) _
   have hB4:Below D w3 ((w3.alloc (.cells #[.int .i64 0,.int .i64 0,.slice none 0 0,.slice none 0 0,.slice none 0 0] 34)).setRow D #[.int .i64 (pl.start:Nat),.int .i64 (pl.rules:Nat),.slice pn pl.names.length cn,.slice pt pl.terms.length ct,.slice pp pl.prods.length cp]):=setRow_low hB34 D #[.int .i64 (pl.start:Nat),.int .i64 (pl.rules:Nat),.slice pn pl.names.length cn,.slice pt pl.terms.length ct,.slice pp pl.prods.length cp] (Nat.le_refl _)
   have hD4:=setRow_heap (w3.alloc (.cells #[.int .i64 0,.int .i64 0,.slice none 0 0,.slice none 0 0,.slice none 0 0] 34)) D _ #[.int .i64 (pl.start:Nat),.int .i64 (pl.rules:Nat),.slice pn pl.names.length cn,.slice pt pl.terms.length ct,.slice pp pl.prods.length cp] _ _ hD0
   have hs4:((w3.alloc (.cells #[.int .i64 0,.int .i64 0,.slice none 0 0,.slice none 0 0,.slice none 0 0] 34)).setRow D #[.int .i64 (pl.start:Nat),.int .i64 (pl.rules:Nat),.slice pn pl.names.length cn,.slice pt pl.terms.length ct,.slice pp pl.prods.length cp]).heap.size=D+1:=by simp; omega
   replace hD0:=Hid.mk hD0
   have hDH:=Hid.mk hD
   have hN2H:=Hid.mk hN2
   clear hdes hds hB34 d0 d1 hN2
   go_upto_region 7 with (first | (refine wpList_store_row rfl 34 _ _ rfl D #[.int .i64 (pl.start:Nat),.int .i64 (pl.rules:Nat),.slice pn pl.names.length cn,.slice pt pl.terms.length ct,.slice pp pl.prods.length cp] rfl rfl 34 _ hD0.out plInfo rfl (by simp [Value.oneCell']) ?_))
   have hg4:=(hB4.block Z (by omega)).trans hg3
   have hr4:=(hB4.block (Z+1) (by omega)).trans hr3
   have hB4w:=hB3.trans (hB4.mono (by omega))
   have hB5:Below w3.heap.size w3 ((w3.alloc (.cells #[.int .i64 0,.int .i64 0,.slice none 0 0,.slice none 0 0,.slice none 0 0] 34)).setRow D #[.int .i64 (pl.start:Nat),.int .i64 (pl.rules:Nat),.slice pn pl.names.length cn,.slice pt pl.terms.length ct,.slice pp pl.prods.length cp]):=by rw [hD]; exact hB4
   rw [hN2H.out] at hvn hvt hvp hpi
   have hvn:=hvn.blw hB5
   have hvt:=hvt.blw hB5
   have hvp:=ownsRow_sm hvp fun g e=>hB5.block g (hvp.lt g e).2
   have hpi:=fun i x s h1 h2=>(hpi i x s h1 h2).keep (S':=fun k=>N2≤k) hB5.size fun k h3 h4=>⟨hB5.block k h4,h3⟩
   clear hB5
   generalize (w3.alloc (.cells #[.int .i64 0,.int .i64 0,.slice none 0 0,.slice none 0 0,.slice none 0 0] 34)).setRow D #[.int .i64 (pl.start:Nat),.int .i64 (pl.rules:Nat),.slice pn pl.names.length cn,.slice pt pl.terms.length ct,.slice pp pl.prods.length cp]=w4 at*
   clear hB4 hB3 hg3 hr3 hg2 hr2 hD
   obtain ⟨gn,hpn,hcl,hNgn,hcn⟩:∃ gn,pn=some ⟨gn,0,none⟩∧pl.names.length≤cn∧N2≤gn∧∀ (j:Nat) s,pl.names[j]?=some s→w4.cell? ⟨gn,j,none⟩=some (.string s):=by
    rcases hvn.2 with ⟨_,h0⟩ | ⟨g1,cap,cur,he,hb,hg,h1,h2,h3,h4⟩
    ·have:=hPk.rpos; have:=hPk.rl; omega
    ·injection he with e1 e2 e3
     subst e3
     refine ⟨g1,e1,h1,hb,fun j s hs=> ?_⟩
     have:=hvn.cells (g:=g1) (by rw [e1]; rfl) j (.string s) (by simp [hs])
     rw [Addr.add_lit,Nat.zero_add] at this
     exact this
   subst hpn
   have x1:w4.cell? ⟨D,1,none⟩=some (.int .i64 (pl.rules:Nat)):=by simp [World.cell?,hD4]
   have x2:w4.cell? ⟨D,2,none⟩=some (.slice (some ⟨gn,0,none⟩) pl.names.length cn):=by simp [World.cell?,hD4]
   have hrc:pl.rules≤cn:=Nat.le_trans hPk.rl hcl
   have hrcI:(pl.rules:Int)≤(cn:Int):=by omega
   replace hs4:=Hid.mk hs4
   replace hg4:=Hid.mk hg4
   replace hr4:=Hid.mk hr4
   replace hB4w:=Hid.mk hB4w
   replace hvt:=Hid.mk hvt
   replace hvp:=Hid.mk hvp
   replace hpi:=Hid.mk hpi
   replace hcn:=Hid.mk hcn
   replace hD4:=Hid.mk hD4
   replace hvn:=Hid.mk hvn
   replace hPk:=Hid.mk hPk
   replace hpl:=Hid.mk hpl
   replace hsD:=Hid.mk hsD
   replace hND:=Hid.mk hND
   replace hNgn:=Hid.mk hNgn
   replace hcl:=Hid.mk hcl
   go_wp2_with (fail)
   have hcl0:=Tryz.slices_Clone_string gn 0 pl.rules cn pl.names w4 hPk.out.rl (by have:=hPk.out.nl; have:=hPk.out.rl; omega) (fun j hj=>by rw [Nat.zero_add]; exact hcn.out j _ (by rw [List.getElem?_eq_getElem hj,List.getD_eq_getElem?_getD,List.getElem?_eq_getElem hj]; rfl))
   refine hcl0.mono ?_
   rintro e w5 ⟨v7,rfl,hO7,hv7,hB5⟩
   clear hcl0 x1 x2 hv7
   obtain ⟨M,hM⟩:∃ M,w4.heap.size=M:=⟨_,rfl⟩
   rw [hM] at hO7 hB5
   have hMD:=Hid.mk (show M=D+1 by rw [← hM,hs4.out])
   replace hM:=Hid.mk hM
   have hlt0:(pl.names.take pl.rules).length=pl.rules:=by have:=hPk.out.rl; simp; omega
   have hO7:StrsO M w5 v7 (pl.names.take pl.rules):=by unfold StrsO; rw [hlt0]; exact hO7
   obtain ⟨rest,hrest⟩:∃ l,pl.names.drop pl.rules=l:=⟨_,rfl⟩
   obtain ⟨ns0,hns0⟩:∃ l,pl.names.take pl.rules=l:=⟨_,rfl⟩
   have hrl:rest.length=pl.names.length - pl.rules:=by rw [← hrest]; simp
   have hra:∀ (i:Nat) s,rest[i]?=some s→pl.names[pl.rules+i]?=some s:=fun i s h=>by rw [← hrest,List.getElem?_drop] at h; exact h
   have hn0:∀ s ∈ ns0,s.size≤80000:=fun s h=>by rw [← hns0] at h; have:=hPk.out.ns s (List.mem_of_mem_take h); omega
   have hR:=hRH.out
   rw [hrest,hns0] at hR
   rw [hns0] at hlt0 hO7
   have hRH:=Hid.mk hR
   replace hrl:=Hid.mk hrl
   replace hra:=Hid.mk hra
   replace hn0:=Hid.mk hn0
   replace hO7:=Hid.mk hO7
   replace hB5:=Hid.mk hB5
   replace hlt0:=Hid.mk hlt0
   clear hR
   have y0:w5.cell? ⟨D,1,none⟩=some (.int .i64 (pl.rules:Nat)):=by
    rw [hB5.out.cell (by show D < M; have:=hMD.out; omega)]
    simp [World.cell?,hD4.out]
   have y1:w5.cell? ⟨D,2,none⟩=some (.slice (some ⟨gn,0,none⟩) pl.names.length cn):=by
    rw [hB5.out.cell (by show D < M; have:=hMD.out; omega)]
    simp [World.cell?,hD4.out]
   have hlnI:(pl.names.length:Int)≤(cn:Int):=by have:=hcl.out; omega
   have hrnI:(pl.rules:Int)≤(pl.names.length:Int):=by have:=hPk.out.rl; omega
   have hrn:pl.rules≤pl.names.length:=hPk.out.rl
   go_upto_block 0 with (fail)
   obtain ⟨pq,hpq⟩:∃ q,(if cn=pl.rules then (some ⟨gn,0,none⟩:Option Addr) else some ⟨gn,pl.rules,none⟩)=q:=⟨_,rfl⟩
   rw [hpq]
   rw [← hrl.out]
   replace hpq:=Hid.mk hpq
   clear y0 y1 hlnI hrnI hrn hrc hrcI
   go_cut [7] (fun x wr=>∃ ns,moreL rest ns0=some ns∧StrsO M wr x ns∧Below M w4 wr)
   case first=>as_aux_lemma=>
    go_wp2_with (fail)
    go_loopw [7,50] (fun x y wr=>∃ (i:Nat) (ns:List ByteArray),y= .int .i64 (i:Nat)∧i≤rest.length∧ns.length=pl.rules+i∧StrsO M wr x ns∧moreL (rest.drop i) ns=moreL rest ns0∧(∀ s ∈ ns,s.size≤80000)∧Below M w4 wr) (fun _ y _=>rest.length - (intOf y).toNat)
    case atStart=>exact ⟨0,ns0,rfl,Nat.zero_le _,hlt0.out,hO7.out,rfl,hn0.out,hB5.out⟩
    case round=>
     obtain ⟨i,ns,rfl,hi,hnl,hOr,hMr,hsz,hBr⟩:=hrel
     by_cases hlt:i < rest.length
     ·have hiI:(i:Int) < (rest.length:Int):=by omega
      obtain ⟨s,hs⟩:∃ s,rest[i]?=some s:=⟨_,List.getElem?_eq_getElem hlt⟩
      have hps:=hra.out i s hs
      have hrlo:=hrl.out
      have hpqe:pq=some ⟨gn,pl.rules,none⟩:=by rw [← hpq.out,if_neg (by have:=hcl.out; omega)]
      subst hpqe
      have gnM:gn < M:=by have h1:=(hvn.out.lt gn rfl).2; rw [hM.out] at h1; exact h1
      have c0:wr.cell? ⟨gn,pl.rules+i,none⟩=some (.string s):=(hBr.cell (by exact gnM)).trans (hcn.out _ _ hps)
      have hss:=Hid.mk (hPk.out.ns s (List.mem_of_getElem? hps))
      have hwi:wrap64 ((i:Int)+1)=(i:Int)+1:=by have:=hPk.out.nl; unfold wrap64; omega
      obtain ⟨m,hm0⟩:=hMH.out wr (by rw [hZ.out]; exact hB4w.out.trans (hBr.mono (by have:=hMD.out; have:=hsD.out; omega)))
      have hcut:=Tryz.strings_Cut s ⟨#[46]⟩ m wr (by have:=hss.out; omega) hm0
      replace hBr:=Hid.mk hBr
      replace hOr:=Hid.mk hOr
      replace hsz:=Hid.mk hsz
      replace hMr:=Hid.mk hMr
      replace hnl:=Hid.mk hnl
      replace hwi:=Hid.mk hwi
      clear hm0 hps hrlo
      go_wp2_with (fail)
      refine hcut.mono ?_
      rintro e w6 ⟨rfl,nd,rfl⟩
      clear hcut c0
      obtain ⟨bs,hbs⟩:∃ b,(⟨(Lib.cut s.data.toList (⟨#[46]⟩:ByteArray).data.toList).1.toArray⟩:ByteArray)=b:=⟨_,rfl⟩
      have hbb:baseT s=bs:=hbs
      have hbz:=baseT_size s
      rw [hbb] at hbz
      have hbz:=Hid.mk (show bs.size≤70000 by have:=hss.out; omega)
      have hbs2:(⟨(Lib.cut s.data.toList [46]).1.toArray⟩:ByteArray)=bs:=hbs
      rw [show (⟨(Lib.cut s.data.toList (⟨#[46]⟩:ByteArray).data.toList).1.toArray⟩:ByteArray)=bs from hbs]
      replace hbb:=Hid.mk hbb
      have hB6:=Hid.mk (hBr.out.trans (blw_drewN M wr nd))
      have hO6:=Hid.mk (hOr.out.blw (blw_drewN wr.heap.size wr nd))
      clear hbs hbs2
      generalize (⟨(Lib.cut s.data.toList (⟨#[46]⟩:ByteArray).data.toList).2.1.toArray⟩:ByteArray)=af
      generalize (Lib.cut s.data.toList (⟨#[46]⟩:ByteArray).data.toList).2.2=fd
      generalize wr.drewN nd=w6 at*
      obtain ⟨NM,hNM⟩:∃ x,nmL ns bs (ns.length+1) 1=x:=⟨_,rfl⟩
      obtain ⟨g7,c7,h7,hc7⟩:∃ g7 c7,u7= .slice (some ⟨g7,0,none⟩) ns.length c7∧ns.length≤c7:=by
       rcases hO6.out.2 with ⟨_,h0⟩ | ⟨g1,cap,cur,he,hb,hg,h1,h2,h3,h4⟩
       ·have:=hnl.out; have:=hPk.out.rpos; omega
       ·exact ⟨g1,cap,he,h1⟩
      subst h7
      go_upto_block 2 with (fail)
      go_cut [13] (fun y wk=>∃ k:Nat,y= .int .i64 (k:Nat)∧k≤2000∧candT bs k=NM∧StrsO M wk (.slice (some ⟨g7,0,none⟩) ns.length c7) ns∧Below M w4 wk)
      case first=>as_aux_lemma=>
       go_wp2_with (fail)
       go_loopw [13] (fun y wk=>∃ k f:Nat,y= .int .i64 (k:Nat)∧1≤k∧k+f=ns.length+2∧nmL ns bs f k=NM∧(∀ j,1≤j→j < k→candT bs j ∈ ns)∧StrsO M wk (.slice (some ⟨g7,0,none⟩) ns.length c7) ns∧Below M w4 wk) (fun y _=>ns.length+2 - (intOf y).toNat)
       case atStart=>exact ⟨1,ns.length+1,rfl,Nat.le_refl _,by omega,hNM,fun j h1 h2=>by omega,hO6.out,hB6.out⟩
       case round=>
        obtain ⟨k,f,rfl,hk1,hkf,hfm,hall,hOk,hBk⟩:=hrel
        have hkn:k - 1≤ns.length:=few_names (base:=bs) fun j h1 h2=>hall j h1 (by omega)
        obtain ⟨f',rfl⟩:∃ f',f=f'+1:=⟨f - 1,by omega⟩
        rw [nmL] at hfm
        have hn1:ns.length≤1000:=by have:=hnl.out; have:=hPk.out.nl; have:=hrl.out; omega
        have hkk:k≤1001:=by omega
        have hit:=itoa_any k (by omega) wr (hEH.out.blw (by rw [hZ.out]; exact hB4w.out.trans (hBk.mono (show Z≤M by have:=hMD.out; have:=hsD.out; omega))))
        obtain ⟨itl,hitl⟩:∃ itl:ByteArray,(⟨(Lib.itoa (k:Int)).toArray⟩:ByteArray)=itl:=⟨_,rfl⟩
        have hits:=itoa_len k (by omega)
        have hits:itl.size≤100:=by rw [← hitl]; exact hits
        have hcd:candT bs k=(bs++⟨#[45]⟩)++itl:=by rw [← hitl]; rfl
        rw [hitl] at hit
        rw [hcd] at hfm
        have hdot:(9223372036854775807 < bs.size+1)=False:=eq_false (by have:=hbz.out; omega)
        have hdot2:(9223372036854775807 < bs.size+1+itl.size)=False:=eq_false (by have:=hbz.out; omega)
        replace hfm:=Hid.mk hfm
        replace hall:=Hid.mk hall
        replace hOk:=Hid.mk hOk
        replace hBk:=Hid.mk hBk
        replace hn1:=Hid.mk hn1
        replace hkk:=Hid.mk hkk
        replace hits:=Hid.mk hits
        replace hcd:=Hid.mk hcd
        replace hkf:=Hid.mk hkf
        replace hNM:=Hid.mk hNM
        clear hitl hkn
        go_wp2_with (fail)
        refine hit.mono ?_
        rintro e w8 ⟨rfl,hB8⟩
        have hO8:=hOk.out.blw hB8
        have hM8:M≤wr.heap.size:=by have:=hBk.out.size; rw [hM.out] at this; exact this
        have hB8:=Hid.mk (hBk.out.trans (hB8.mono hM8))
        have hcn8:=Tryz.slices_Contains_string g7 0 ns.length c7 ns ((bs++⟨#[45]⟩)++itl) w8 (Nat.le_refl _) (by have:=hn1.out; omega) (fun j hj=>by
         rw [Nat.zero_add,List.getD_eq_getElem?_getD,List.getElem?_eq_getElem hj]
         have:=hO8.cells (g:=g7) rfl j (.string ns[j]) (by simp [List.getElem?_eq_getElem hj])
         rw [Addr.add_lit,Nat.zero_add] at this
         exact this)
        rw [List.take_length] at hcn8
        replace hO8:=Hid.mk hO8
        clear hit hM8
        go_wp2_with (fail)
        refine hcn8.mono ?_
        rintro e w9 ⟨rfl,rfl⟩
        clear hcn8
        cases hct:Lib.containsS ns ((bs++⟨#[45]⟩)++itl) with
        | true=>
         have hf2:=hfm.out
         rw [hct,if_pos rfl] at hf2
         have hin:candT bs k ∈ ns:=by rw [hcd.out]; exact (Lib.containsS_iff _ _).1 hct
         have hall2:=Hid.mk (show ∀ j,1≤j→j < k+1→candT bs j ∈ ns from fun j h1 h2=>by
          rcases Nat.lt_or_ge j k with h3 | h3
          ·exact hall.out j h1 h3
          ·rw [show j=k by omega]; exact hin)
         have hkn2:k≤ns.length:=few_names (base:=bs) fun j h1 h2=>hall2.out j h1 (by omega)
         replace hf2:=Hid.mk hf2
         have hms:=Hid.mk (show ns.length+2 - (k+1) < ns.length+2 - k by omega)
         have hk2:(k:Int) < 9223372036854775806:=by have:=hkk.out; omega
         replace hkn2:=Hid.mk hkn2
         clear hct hin hdot hdot2
         go_wp2_with (fail)
         refine ⟨⟨k+1,f',by simp,by omega,by have:=hkf.out; omega,hf2.out,hall2.out,hO8.out,hB8.out⟩,?ms⟩
         case ms=>
          have hms2:=hms.out
          clear hk2
          simp only [intOf]
          omega
        | false=>
         have hf2:=hfm.out
         rw [hct,if_neg (by decide)] at hf2
         have hE:=Hid.mk (show ∃ k':Nat,Value.int .i64 (k:Nat)= .int .i64 (k':Nat)∧k'≤2000∧candT bs k'=NM∧StrsO M w9 (.slice (some ⟨g7,0,none⟩) ns.length c7) ns∧Below M w4 w9 from ⟨k,rfl,by have:=hkk.out; omega,by rw [← hf2,hcd.out],hO8.out,hB8.out⟩)
         clear hct hf2 hdot hdot2
         go_wp2_with (fail)
         go_meet
         exact hE.out
      case rest=>as_aux_lemma=>
       obtain ⟨k,rfl,hk,hcd,hOk,hBk⟩:=hcut
       have hit:=itoa_any k (by omega) wc (hEH.out.blw (by rw [hZ.out]; exact hB4w.out.trans (hBk.mono (show Z≤M by have:=hMD.out; have:=hsD.out; omega))))
       obtain ⟨itl,hitl⟩:∃ itl:ByteArray,(⟨(Lib.itoa (k:Int)).toArray⟩:ByteArray)=itl:=⟨_,rfl⟩
       have hits:=itoa_len k (by omega)
       have hits:itl.size≤100:=by rw [← hitl]; exact hits
       have hcd2:(bs++⟨#[45]⟩)++itl=NM:=by rw [← hcd,← hitl]; rfl
       rw [hitl] at hit
       have hdot:(9223372036854775807 < bs.size+1)=False:=eq_false (by have:=hbz.out; omega)
       have hdot2:(9223372036854775807 < bs.size+1+itl.size)=False:=eq_false (by have:=hbz.out; omega)
       have hNMz:NM.size≤80000:=by rw [← hcd2,ByteArray.size_append,ByteArray.size_append]; have:=hbz.out; have:(⟨#[45]⟩:ByteArray).size=1:=rfl; omega
       replace hits:=Hid.mk hits
       replace hNMz:=Hid.mk hNMz
       replace hOk:=Hid.mk hOk
       replace hBk:=Hid.mk hBk
       replace hNM:=Hid.mk hNM
       clear hitl hcd hk
       go_wp2_with (fail)
       refine hit.mono ?_
       rintro e w8 ⟨rfl,hB8⟩
       have hO8:=Hid.mk (hOk.out.blw hB8)
       have hM8:M≤wc.heap.size:=by have:=hBk.out.size; rw [hM.out] at this; exact this
       have hB8:=Hid.mk (hBk.out.trans (hB8.mono hM8))
       clear hit hM8
       replace hcd2:=Hid.mk hcd2
       go_upto_region 16 with (fail)
       rw [hcd2.out]
       clear hdot hdot2
       go_wp2_with (fail)
       refine (good_any NM w8).mono ?_
       rintro e w9 ⟨rfl,rfl⟩
       have hMs:M≤w9.heap.size:=by have:=hB8.out.size; rw [hM.out] at this; exact this
       cases hgd:goodN NM with
       | false=>
        have hmr:moreL rest ns0=none:=by
         rw [← hMr.out,List.drop_eq_getElem_cons hlt,moreL]
         have hse:rest[i]=s:=by rw [List.getElem?_eq_getElem hlt] at hs; injection hs
         rw [hse,hbb.out,hNM.out,hgd,if_neg (by decide)]
        have hR:=hRH.out
        rw [hmr] at hR
        simp only at hR
        subst hR
        have hM2:Z+1 < M:=by have:=hMD.out; have:=hsD.out; omega
        clear hgd hmr
        go_wp2_with (fail)
        refine (refused_any _ _).mono ?_
        rintro e w10 ⟨rfl,hB10⟩
        have hr9:=(hB8.out.block (Z+1) hM2).trans hr4.out
        have hr10:=Hid.mk ((hB10.block (Z+1) (by omega)).trans hr9)
        have hB10:=Hid.mk (hB4w.out.trans ((hB8.out.mono (by omega)).trans (hB10.mono (by omega))))
        have hend:=Hid.mk (setRow_heap w10 (Z+1) _ #[.string ⟨#[]⟩,.slice none 0 0] _ _ hr10.out)
        have hbl:=Hid.mk (setRow_low hB10.out (Z+1) #[.string ⟨#[]⟩,.slice none 0 0] (Nat.le_succ _))
        unfold zeroG
        clear hr9 hMs hM2
        go_wp2_with (first | (refine wpList_store_row rfl 25 _ _ rfl (Z+1) #[.string ⟨#[]⟩,.slice none 0 0] rfl rfl 25 _ hr10.out grInfo rfl (by simp [Value.oneCell']) ?_))
        refine bodyPost_ret (results_ct_row rfl _ _ (Z+1) _ _ _ _ rfl hend.out Tryz.underlying25 rfl grInfo) rfl ?_
        exact ⟨by rw [hZ.out]; exact hbl.out,rfl⟩
       | true=>
        have hmr:moreL (rest.drop (i+1)) (ns++[NM])=moreL rest ns0:=by
         rw [← hMr.out,List.drop_eq_getElem_cons hlt,moreL]
         have hse:rest[i]=s:=by rw [List.getElem?_eq_getElem hlt] at hs; injection hs
         rw [hse,hbb.out,hNM.out,hgd,if_pos rfl]
        replace hmr:=Hid.mk hmr
        have hn1:=Hid.mk (show ns.length≤1000000000 by have:=hnl.out; have:=hPk.out.nl; have:=hrl.out; omega)
        replace hMs:=Hid.mk hMs
        clear hgd
        go_wp2_with (first | (refine wpList_build_str rfl _ rfl NM rfl ?_) | (at_builtin; refine wpList_app_str rfl _ _ rfl M (.slice (some ⟨g7,0,none⟩) ns.length c7) ns NM w9 rfl rfl hO8.out rfl hn1.out hMs.out ?_))
        rintro g9 c9 w11 hO11 hg11 _
        have hB11:=Hid.mk (hB8.out.grown hg11 hMs.out (fun q hq=>(hO8.out.lt q hq).1))
        replace hO11:=Hid.mk hO11
        have hlt2:=Hid.mk hlt
        clear hg11 hlt
        go_wp2_with (fail)
        refine ⟨⟨i+1,ns++[NM],congrArg (Value.int .i64) hwi.out,hlt2.out,by have:=hnl.out; simp; omega,by simpa using hO11.out,hmr.out,?_,hB11.out⟩,?ms⟩
        case ms=>
         have hlt3:=hlt2.out
         rw [hwi.out]
         simp only [intOf]
         clear hiI
         omega
        ·intro x hx
         rcases List.mem_append.1 hx with hx | hx
         ·exact hsz.out x hx
         ·simp at hx; subst hx; exact hNMz.out
     ·have hei:i=rest.length:=by omega
      subst hei
      have hlI:((rest.length:Int) < (rest.length:Int))=False:=eq_false (by omega)
      rw [List.drop_length,moreL] at hMr
      have hE:=Hid.mk (show ∃ ns,moreL rest ns0=some ns∧StrsO M wr _ ns∧Below M w4 wr from ⟨ns,hMr.symm,hOr,hBr⟩)
      clear hOr hMr hBr hsz hnl
      go_wp2_with (fail)
      go_meet
      exact hE.out
   case rest=>as_aux_lemma=>
    obtain ⟨names,hml,hON,hBN⟩:=hcut
    have hR:=hRH.out
    rw [hml] at hR
    simp only at hR
    have hsm:=Hid.mk (hsmH.out pl names (by have:=hdsH.out; exact this) (by rw [hrest,hns0]; exact hml))
    have hnml:names.length=pl.names.length:=by have h1:=moreL_len _ _ _ hml; rw [hlt0.out,hrl.out] at h1; have:=hPk.out.rl; omega
    obtain ⟨O,hO⟩:∃ n,wc.heap.size=n:=⟨_,rfl⟩
    have hMO:M≤O:=by have:=hBN.size; rw [hM.out] at this; omega
    obtain ⟨p7,c7,h7⟩:=ownsRow_form hON
    subst h7
    have hgz:=(hBN.block Z (by have:=hMD.out; have:=hsD.out; omega)).trans hg4.out
    have z0:wc.cell? ⟨Z,0,none⟩=some (.string g.start):=by simp [World.cell?,hgz]
    have hO1:=heap_alloc_new wc (.cells #[.string g.start,.slice none 0 0] 25)
    rw [hO] at hO1
    have hBO:Below O wc (wc.alloc (.cells #[.string g.start,.slice none 0 0] 25)):=by rw [← hO]; exact (Below.refl _ wc).alloc (Nat.le_refl _) _
    have hs1:(wc.alloc (.cells #[.string g.start,.slice none 0 0] 25)).heap.size=O+1:=by simp; omega
    replace hR:=Hid.mk hR
    replace hON:=Hid.mk hON
    replace hBN:=Hid.mk hBN
    replace hBO:=Hid.mk hBO
    replace hO1:=Hid.mk hO1
    replace hs1:=Hid.mk hs1
    replace hnml:=Hid.mk hnml
    replace hMO:=Hid.mk hMO
    replace hO:=Hid.mk hO
    replace hml:=Hid.mk hml
    replace hrest:=Hid.mk hrest
    replace hns0:=Hid.mk hns0
    clear hgz
    go_upto_region 21 with (fail)
    simp only [hO.out]
    generalize wc.alloc (.cells #[.string g.start,.slice none 0 0] 25)=w7 at*
    obtain ⟨RS,hRS⟩:∃ l,flatRules names pl.terms pl.prods=l:=⟨_,rfl⟩
    have hRl:RS.length=names.length:=by rw [← hRS]; exact flatRules_len _ _ _
    have hRa:∀ i,i < names.length→RS[i]?=some (flatRule names pl.terms pl.prods i):=fun i h=>by rw [← hRS]; exact flatRules_at _ _ _ i h
    rw [hRS] at hR hsm
    replace hRS:=Hid.mk hRS
    replace hRl:=Hid.mk hRl
    replace hRa:=Hid.mk hRa
    have hBM7:=Hid.mk (hBN.out.trans (hBO.out.mono hMO.out))
    clear z0
    go_upto_block 4 with (fail)
    go_cut [] (fun wr=>∃ rv ss,wr.heap[O]?=some (.cells #[.string g.start,rv] 25 (0,0))∧RulesO (O+1) wr rv RS ss∧Below O w7 wr)
    case first=>as_aux_lemma=>
     go_wp2_with (fail)
     go_loopw [90] (fun y wr=>∃ (i:Nat) (rv:Value) (ss:List Value),y= .int .i64 (i:Nat)∧i≤names.length∧wr.heap[O]?=some (.cells #[.string g.start,rv] 25 (0,0))∧RulesO (O+1) wr rv (RS.take i) ss∧Below O w7 wr) (fun y _=>names.length - (intOf y).toNat)
     case atStart=>exact ⟨0,_,[],rfl,Nat.zero_le _,hO1.out,RulesO.nil _ _,Below.refl _ _⟩
     case round=>
      obtain ⟨i,rv,ss,rfl,hi,hOr,hRr,hBr⟩:=hrel
      by_cases hlt:i < names.length
      ·have hiI:(i:Int) < (names.length:Int):=by omega
       have hBw:=Hid.mk (hBM7.out.trans (hBr.mono hMO.out))
       have hBcr:=Hid.mk (hBO.out.trans hBr)
       obtain ⟨gq,oq,hp7,_,_,_,hcq⟩:=(hON.out.sl.keep (S':=fun _=>True) hBcr.out.size (fun q h1 h2=>⟨hBcr.out.block q (by have:=h1.2; rw [hO.out] at this; exact this),trivial⟩)).some (show 0 < names.length by omega)
       subst hp7
       obtain ⟨nm,hnm⟩:∃ x,names[i]?=some x:=⟨_,List.getElem?_eq_getElem hlt⟩
       have cq:=hcq i (.string nm) (by simp [hnm])
       have hDr:=(hBw.out.block D (by have:=hMD.out; omega)).trans hD4.out
       have c4:wr.cell? ⟨D,4,none⟩=some (.slice pp pl.prods.length cp):=by simp [World.cell?,hDr]
       have hFR:=Hid.mk (hRa.out i hlt)
       obtain ⟨B,hB⟩:∃ n,wr.heap.size=n:=⟨_,rfl⟩
       have hOB:=Hid.mk (show O+1≤B by have:=hBr.size; rw [hs1.out] at this; omega)
       replace hOr:=Hid.mk hOr
       replace hRr:=Hid.mk hRr
       replace hBr:=Hid.mk hBr
       replace hDr:=Hid.mk hDr
       replace hB:=Hid.mk hB
       have hwi:=Hid.mk (show wrap64 ((i:Int)+1)=(i:Int)+1 by have:=hnml.out; have:=hPk.out.nl; unfold wrap64; omega)
       clear hcq
       go_upto_block 6 with (fail)
       clear cq c4
       rename World=>wo
       go_cut [17] (fun x wk=>∃ ss2,KidsO B wk x (rowsOf names pl.terms pl.prods i) ss2∧Below B wo wk)
       case first=>as_aux_lemma=>
        go_wp2_with (fail)
        go_loopw [17,98] (fun x y wk=>∃ (j:Nat) (ss2:List Value),y= .int .i64 (j:Nat)∧j≤pl.prods.length∧KidsO B wk x (rowsOf names pl.terms (pl.prods.take j) i) ss2∧Below B wo wk) (fun _ y _=>pl.prods.length - (intOf y).toNat)
        case atStart=>exact ⟨0,[],rfl,Nat.zero_le _,KidsO.nil _ _,by rw [← hB.out]; exact Below.refl _ _⟩
        case round=>
         obtain ⟨j,ss2,rfl,hj,hK,hBk⟩:=hrel
         by_cases hltj:j < pl.prods.length
         ·have hjI:(j:Int) < (pl.prods.length:Int):=by omega
          obtain ⟨x,hx⟩:∃ x,pl.prods[j]?=some x:=⟨_,List.getElem?_eq_getElem hltj⟩
          obtain ⟨sv,hsv⟩:∃ x,pss[j]?=some x:=⟨_,List.getElem?_eq_getElem (by rw [hpl.out]; exact hltj)⟩
          have hBwk:=Hid.mk (hBw.out.trans (hBk.mono (by have:=hMO.out; have:=hOB.out; omega)))
          have hri:=hpi.out j x sv hx hsv
          obtain ⟨gp,hpp,hgpM,hcp⟩:∃ gp,pp=some ⟨gp,0,none⟩∧gp < M∧∀ k u,(prodC x sv)[k]?=some u→wr.cell? ⟨gp,j*2+k,none⟩=some u:=by
           have ho:=hvp.out
           rcases ho.2 with ⟨_,h0⟩ | ⟨g1,cap,cur,he,hb,hg,h1,h2,h3,h4⟩
           ·omega
           ·injection he with e1 e2 e3
            have hlt1:=(Array.getElem?_eq_some_iff.1 hg).1
            rw [hM.out] at hlt1
            refine ⟨g1,e1,hlt1,fun k u hu=> ?_⟩
            have hk2:k < 2:=by have:=(List.getElem?_eq_some_iff.1 hu).1; simpa [prodC] using this
            have:=ho.cells (g:=g1) (by rw [e1]; rfl) (j*2+k) u (by rw [grid_get (f:=prodC) (n:=2) (fun _ _=>rfl) _ _ _ _ _ hx hsv k hk2]; exact hu)
            rw [Addr.add_lit,Nat.zero_add] at this
            rw [hBwk.out.cell (by exact hlt1)]
            exact this
          subst hpp
          have q0:=hcp 0 _ rfl
          have q1:=hcp 1 _ rfl
          simp only [Nat.add_zero] at q0
          obtain ⟨pr,cr,rfl⟩:=hri.form
          have hrr:=hPk.out.rr x (List.mem_of_getElem? hx)
          have hwj:=Hid.mk (show wrap64 ((j:Int)+1)=(j:Int)+1 by have:=hPk.out.pl; unfold wrap64; omega)
          have hrow:=Hid.mk (rowsOf_at names pl.terms pl.prods i j x hx)
          obtain ⟨xp,xc,rfl⟩:=hK.slice
          have hgr:gp < wr.heap.size:=Nat.lt_of_lt_of_le hgpM (by have:=hBwk.out.size; rw [hM.out] at this; exact this)
          have hgne:gp≠wr.heap.size:=by omega
          replace hri:=Hid.mk hri
          replace hrr:=Hid.mk hrr
          replace hK:=Hid.mk hK
          replace hBk:=Hid.mk hBk
          have hPal:=Hid.mk (show Below B wo (wr.alloc (.cells #[.int .i64 (x.left:Nat),.slice pr x.right.length cr] 39)) from hBk.out.alloc (by have:=hBk.out.size; rw [hB.out] at this; exact this) _)
          have hqn:=heap_alloc_new wr (.cells #[.int .i64 (x.left:Nat),.slice pr x.right.length cr] 39)
          replace hqn:=Hid.mk hqn
          have hsq:=Hid.mk ((Below.refl wr.heap.size wr).alloc (Nat.le_refl _) (.cells #[.int .i64 (x.left:Nat),.slice pr x.right.length cr] 39))
          clear hcp hx hsv hgpM
          go_upto_region 28 with (fail)
          generalize wr.alloc (.cells #[.int .i64 (x.left:Nat),.slice pr x.right.length cr] 39)=wq at*
          have f0:wq.cell? ⟨wr.heap.size,0,none⟩=some (.int .i64 (x.left:Nat)):=by simp [World.cell?,hqn.out]
          have f1:wq.cell? ⟨wr.heap.size,1,none⟩=some (.slice pr x.right.length cr):=by simp [World.cell?,hqn.out]
          have hBkq:=Hid.mk (show Below wr.heap.size wr wq from by have:=hsq.out; exact this)
          clear q0 q1 hgr hgne
          by_cases hxi:x.left=i
          ·have hr2:=hrow.out
           rw [if_pos hxi] at hr2
           replace hr2:=Hid.mk hr2
           subst hxi
           have hll:=Hid.mk (show (rowsOf names pl.terms (pl.prods.take j) x.left).length≤1000000 by have:=rowsOf_le names pl.terms (pl.prods.take j) x.left; have:=hPk.out.pl; simp at *; omega)
           have hKq:=Hid.mk (hK.out.keep hBkq.out.size fun g _ h2=>hBkq.out.block g h2)
           have hDq:=(hPal.out.block D (by have:=hMD.out; have:=hMO.out; have:=hOB.out; omega)).trans hDr.out
           have e0:wq.cell? ⟨D,0,none⟩=some (.int .i64 (pl.start:Nat)):=by simp [World.cell?,hDq]
           have e1:wq.cell? ⟨D,1,none⟩=some (.int .i64 (pl.rules:Nat)):=by simp [World.cell?,hDq]
           have e2:wq.cell? ⟨D,2,none⟩=some (.slice (some ⟨gn,0,none⟩) pl.names.length cn):=by simp [World.cell?,hDq]
           have e3:wq.cell? ⟨D,3,none⟩=some (.slice pt pl.terms.length ct):=by simp [World.cell?,hDq]
           have e4:wq.cell? ⟨D,4,none⟩=some (.slice (some ⟨gp,0,none⟩) pl.prods.length cp):=by simp [World.cell?,hDq]
           have hMB:M≤B:=by have:=hMO.out; have:=hOB.out; omega
           have hB4q:=hBw.out.trans (hPal.out.mono hMB)
           have hBcq:=hBcr.out.trans (hPal.out.mono (by have:=hOB.out; omega))
           have hTq:=hvt.out.sl.keep (S':=fun _=>True) hB4q.size (fun q h1 h2=>⟨hB4q.block q (by rw [← hM.out]; exact h1.2),trivial⟩)
           have hNq:=hON.out.sl.keep (S':=fun _=>True) hBcq.size (fun q h1 h2=>⟨hBcq.block q (by rw [← hO.out]; exact h1.2),trivial⟩)
           have hRq:=(show SlAt _ w4 (.slice pr x.right.length cr) x.right.length (x.right.map (Value.int .i64)) from hri.out).keep (S':=fun _=>True) hB4q.size (fun q h1 h2=>⟨hB4q.block q (by rw [← hM.out]; exact h2),trivial⟩)
           have hfl:=flat_any wq (a:=(pl.start:Nat)) (b:=(pl.rules:Nat)) (pn:=some ⟨gn,0,none⟩) (ln:=pl.names.length) (cn:=cn) (pp:=some ⟨gp,0,none⟩) (lp:=pl.prods.length) (cp:=cp) hTq hNq hRq (by rw [hnml.out]; exact hrr.out.2) (by have:=hrr.out.1; omega)
           replace hfl:=Hid.mk hfl
           clear hDq hMB hB4q hBcq hTq hNq hRq
           go_wp2_with (fail)
           refine hfl.out.mono ?_
           rintro e wz ⟨sf,rfl,hTf,hBz⟩
           obtain ⟨ft,hft⟩:∃ t,flatT names pl.terms x.right=t:=⟨_,rfl⟩
           rw [hft] at hTf hr2
           simp only [hft]
           obtain ⟨sp,sc,rfl⟩:=hTf.form
           have hKz:=Hid.mk (hKq.out.keep hBz.size fun g _ h2=>hBz.block g h2)
           have hBqz:=Hid.mk (show B≤wz.heap.size from Nat.le_trans (by have:=hPal.out.size; rw [hB.out] at this; exact this) hBz.size)
           have hPz:=Hid.mk (hPal.out.trans (hBz.mono (by have:=hPal.out.size; rw [hB.out] at this; exact this)))
           have hTz:=Hid.mk (hTf.mono (S':=fun g=>B≤g∧(Value.slice xp (rowsOf names pl.terms (pl.prods.take j) x.left).length xc).ownBlock≠some g) (fun g h1 _=>⟨Nat.le_trans (by have:=hPal.out.size; rw [hB.out] at this; exact this) h1,fun e=>by have:=(hKq.out.own.lt g e).2; omega⟩))
           have hxw:∀ q,(Value.slice xp (rowsOf names pl.terms (pl.prods.take j) x.left).length xc).ownBlock=some q→B≤q:=fun q hq=>(hKq.out.own.lt q hq).1
           replace hxw:=Hid.mk hxw
           replace hltj:=Hid.mk hltj
           replace hjI:=Hid.mk hjI
           unfold nodeV
           clear e0 e1 e2 e3 e4 f0 f1 hTf hBz
           go_wp2_with (first | (refine wpList_build_node rfl _ rfl (.int .i64 (ft.kind:Nat)) (.string ft.text) (.slice sp ft.kids.length sc) rfl ?_) | (at_builtin; refine wpList_app_node rfl _ _ rfl B _ _ ss2 ft (.slice sp ft.kids.length sc) wz rfl rfl hKz.out hTz.out rfl hBqz.out hll.out ?_))
           rintro g8 c8 w8 hK8 hg8
           have hB8:=Hid.mk (hPz.out.grown hg8 hBqz.out hxw.out)
           replace hK8:=Hid.mk hK8
           clear hg8
           go_wp2_with (fail)
           refine ⟨⟨j+1,ss2++[.slice sp ft.kids.length sc],congrArg (Value.int .i64) hwj.out,hltj.out,?_,hB8.out⟩,?ms⟩
           case ms=>
            have:=hltj.out
            rw [hwj.out]
            simp only [intOf]
            omega
           rw [hr2.out]
           exact hK8.out
          ·have hxb:((x.left:Int)==(i:Int))=false:=by simpa using (show (x.left:Int)≠(i:Int) by omega)
           have hr2:=hrow.out
           rw [if_neg hxi] at hr2
           replace hr2:=Hid.mk hr2
           have hKq:=Hid.mk (hK.out.keep hBkq.out.size fun g _ h2=>hBkq.out.block g h2)
           go_wp2_with (fail)
           refine ⟨⟨j+1,ss2,congrArg (Value.int .i64) hwj.out,hltj,?_,hPal.out⟩,?ms⟩
           case ms=>
            rw [hwj.out]
            simp only [intOf]
            clear hjI
            omega
           rw [hr2.out]
           exact hKq.out
         ·have hei:j=pl.prods.length:=by omega
          subst hei
          have hlI:((pl.prods.length:Int) < (pl.prods.length:Int))=False:=eq_false (by omega)
          rw [List.take_length] at hK
          have hE:=Hid.mk (show ∃ ss2,KidsO B wr _ (rowsOf names pl.terms pl.prods i) ss2∧Below B wo wr from ⟨ss2,hK,hBk⟩)
          clear hK hBk
          go_wp2_with (fail)
          go_meet
          exact hE.out
       case rest=>as_aux_lemma=>
        obtain ⟨ss2,hK,hBk⟩:=hcut
        have c1:wc.cell? ⟨O,1,none⟩=some rv:=by
         rw [hBk.cell (by show O < B; have:=hOB.out; omega)]
         simp [World.cell?,hOr.out]
        replace hK:=Hid.mk hK
        replace hBk:=Hid.mk hBk
        obtain ⟨rp,rc,hrv⟩:=hRr.out.slice
        have hRl2:(RS.take i).length=i:=by have:=hRl.out; simp; omega
        rw [hRl2] at hrv
        subst hrv
        have hRw:=Hid.mk (hRr.out.keep (show wo.heap.size≤wc.heap.size by have:=hBk.out.size; exact this) fun q h1 h2=>hBk.out.block q (by rw [← hB.out]; exact h2))
        have hOw:=Hid.mk ((hBk.out.block O (by have:=hOB.out; omega)).trans hOr.out)
        have hOt:=Hid.mk (hBr.out.trans (hBk.out.mono (by have:=hOB.out; omega)))
        have hBw2:=Hid.mk (show B≤wc.heap.size by have:=hBk.out.size; rw [hB.out] at this; exact this)
        have hal:=Hid.mk (fun w' (hb:Below wc.heap.size wc w')=>ralt_any B w' (hK.out.keep hb.size fun q _ h2=>hb.block q h2) (Nat.le_trans hBw2.out hb.size))
        have hrwo:∀ q,(Value.slice rp i rc).ownBlock=some q→O+1≤q∧q < B:=fun q hq=>⟨(hRr.out.own.lt q hq).1,by have:=(hRr.out.own.lt q hq).2; rw [hB.out] at this; exact this⟩
        replace hrwo:=Hid.mk hrwo
        replace hRl2:=Hid.mk hRl2
        go_wp2_with (fail)
        refine Go.Ev.wp_region_pfe [4,5,6,7,9] 4 (fun u=>u.cell? ⟨O,1,none⟩=some (.slice rp i rc)) hm (by kernel_rfl) (by kernel_rfl) (by kernel_rfl) c1 ?_
        iterate 10
         first
         | refine Go.Ev.planF_skip (by rfl) ?_
         | (refine Go.Ev.planF_look (by rfl) _ (by rintro u K f1 hK; go_simp; exact hK _ rfl) ?_; simp only [Act.put,List.setIfInBounds_toArray,List.set_cons_succ,List.set_cons_zero])
        refine Go.Ev.planF_nil ?_
        refine Go.Ev.wpC_step rfl ?_
        rintro _ rfl K hK3
        go_wp2_with (fail)
        refine (hal.out _ (blw_drewN _ wc 1)).mono ?_
        rintro e wz ⟨sa,rfl,hTa,hBz⟩
        have hBcz:Below wc.heap.size wc wz:=(blw_drewN _ wc 1).trans hBz
        obtain ⟨bt,hbt⟩:∃ t,wrapT 4 (rowsOf names pl.terms pl.prods i)=t:=⟨_,rfl⟩
        rw [hbt] at hTa
        simp only [hbt]
        obtain ⟨sp,sc,rfl⟩:=hTa.form
        have hRz:=Hid.mk (hRw.out.keep hBcz.size fun q _ h2=>hBcz.block q h2)
        have hOz:=Hid.mk ((hBcz.block O (by have:=hBw2.out; have:=hOB.out; omega)).trans hOw.out)
        have hOtz:=Hid.mk (hOt.out.trans (hBcz.mono (by have:=hBw2.out; have:=hOB.out; omega)))
        have hszz:=Hid.mk (show B≤wz.heap.size from Nat.le_trans hBw2.out hBcz.size)
        have g1:wz.cell? ⟨O,1,none⟩=some (.slice rp i rc):=by simp [World.cell?,hOz.out]
        replace hTa:=Hid.mk hTa
        unfold nodeV
        clear hBz hBcz hal c1
        go_wp2_with (fail)
        refine hK3 _ _ (fun _=>g1) ?_
        clear hK3 K
        simp only [Act.put,List.setIfInBounds_toArray,List.set_cons_succ,List.set_cons_zero]
        refine Go.Ev.wpC_step rfl ?_
        rintro _ rfl K hK3
        go_simp
        refine hK3 _ _ (fun _=>g1) ?_
        clear hK3 K
        simp only [Act.put,List.setIfInBounds_toArray,List.set_cons_succ,List.set_cons_zero]
        refine Go.Ev.wpC_step rfl ?_
        rintro _ rfl K hK3
        obtain ⟨i0,hi0,hz0,hz1,hz2⟩:=info_parts ruleRow
        refine wp_build1 _ _ _ rfl (.agg #[.string nm,.int .i64 (bt.kind:Nat),.string bt.text,.slice sp bt.kids.length sc]) rfl _ i0 _ 4 Tryz.underlying23 hi0 hz0 hz1 (by decide) (by decide) (fill4r _ _ _ _) ?_
        have hOz2:=Hid.mk ((Go.heap_alloc_old wz (.cells #[.string nm,.int .i64 (bt.kind:Nat),.string bt.text,.slice sp bt.kids.length sc] 61) (show O < wz.heap.size by have:=hszz.out; have:=hOB.out; omega)).trans hOz.out)
        refine hK3 _ _ (fun _=>by simp [World.cell?,hOz2.out]) ?_
        clear hK3 K
        simp only [Act.put,List.setIfInBounds_toArray,List.set_cons_succ,List.set_cons_zero]
        refine Go.Ev.wpC_step rfl ?_
        rintro _ rfl K hK3
        have hown0:=hRz.out.own
        rw [hRl2.out] at hown0
        refine wp_app_gen (news:=ruleC ⟨nm,bt⟩ (.slice sp bt.kids.length sc)) Tryz.underlying23 ruleRow rfl (by decide) (by decide) _ _ rfl (O+1) (.slice rp i rc) i (rulesC (RS.take i) ss) rfl (rule_one ⟨nm,bt⟩ hTa.out) rfl (ownsRow_sm hown0 fun q hq=>Go.heap_alloc_old wz _ (hown0.lt q hq).2) wz.heap.size rfl (heap_alloc_new wz _) (by have:=hnml.out; have:=hPk.out.nl; omega) (by have:=hszz.out; have:=hOB.out; simp; omega) ?_
        rintro g9 c9 w9 hown9 hg9 hat9
        have hpush:=hRz.out.push (t:=⟨nm,bt⟩) (s:= .slice sp bt.kids.length sc) (hTa.out.mono fun q h1 h2=>⟨by have:=hOB.out; omega,fun e=>by have:=(hrwo.out q e).2; omega⟩) (by rw [hRl2.out]; exact hown9) hg9 hat9
        have hO9:=(hg9.block O (by have:=hszz.out; have:=hOB.out; simp; omega) (fun e=>by have:=(hrwo.out O e.symm).1; omega)).trans hOz2.out
        have fz:w9.frozen? ⟨O,1,none⟩=false:=frozen_of_row hO9
        have m1:w9.cell? ⟨O,1,none⟩=some (.slice rp i rc):=by simp [World.cell?,hO9]
        refine hK3 _ _ (fun _=>m1) ?_
        clear hK3 K
        simp only [Act.put,List.setIfInBounds_toArray,List.set_cons_succ,List.set_cons_zero]
        refine Go.Ev.wpC_step rfl ?_
        rintro _ rfl K hK3
        have hO10:=Hid.mk ((row_set (i:=1) (u:= .slice (some ⟨g9,0,none⟩) (i+1) c9) hO9).trans (show _=some (.cells #[.string g.start,.slice (some ⟨g9,0,none⟩) (i+1) c9] 25 (0,0)) from rfl))
        have hB10:=Hid.mk ((((hOtz.out.alloc (by have:=hszz.out; have:=hOB.out; omega) (.cells (ruleC ⟨nm,bt⟩ (.slice sp bt.kids.length sc)).toArray 61))).grown hg9 (by have:=hszz.out; have:=hOB.out; simp; omega) (fun q hq=>by have:=(hrwo.out q hq).1; omega)).setCell (p:=⟨O,1,none⟩) (Nat.le_refl _) (.slice (some ⟨g9,0,none⟩) (i+1) c9))
        rw [hRl2.out] at hpush
        have hR10:=Hid.mk (hpush.keep (w':=w9.setCell ⟨O,1,none⟩ (.slice (some ⟨g9,0,none⟩) (i+1) c9)) (by simp) fun q h1 h2=>Below.heap_setCell _ _ _ _ (show q≠O by omega))
        clear hpush hO9 hown9 hg9 hat9
        have hRS1:=Hid.mk (show RS.take (i+1)=RS.take i++[⟨nm,bt⟩] by
         rw [List.take_add_one,hFR.out,Option.toList_some]
         unfold flatRule
         rw [hbt,List.getD_eq_getElem?_getD,hnm]
         rfl)
        simp only [Act.put] at hK3
        go_simp
        refine hK3 undef _ (fun h=>absurd h (by decide)) ?_
        clear hK3 K m1 fz g1
        refine Go.Ev.wpC_end ?_
        rintro _ rfl
        generalize w9.setCell ⟨O,1,none⟩ (.slice (some ⟨g9,0,none⟩) (i+1) c9)=w10 at*
        replace hlt:=Hid.mk hlt
        replace hiI:=Hid.mk hiI
        go_wp2_with (fail)
        refine ⟨⟨i+1,_,ss++[.slice sp bt.kids.length sc],congrArg (Value.int .i64) hwi.out,hlt.out,hO10.out,?_,hB10.out⟩,?ms⟩
        case ms=>
         have:=hlt.out
         rw [hwi.out]
         simp only [intOf]
         omega
        rw [hRS1.out]
        exact hR10.out
      ·have hei:i=names.length:=by omega
       subst hei
       have hlI:((names.length:Int) < (names.length:Int))=False:=eq_false (by omega)
       have hE:=Hid.mk (show ∃ rv ss,wr.heap[O]?=some (.cells #[.string g.start,rv] 25 (0,0))∧RulesO (O+1) wr rv RS ss∧Below O w7 wr from ⟨rv,ss,hOr,by rw [show RS.take names.length=RS from by rw [← hRl.out,List.take_length]] at hRr; exact hRr,hBr⟩)
       clear hOr hRr hBr
       go_wp2_with (fail)
       go_meet
       exact hE.out
    case rest=>as_aux_lemma=>
     obtain ⟨rv,ss,hOr,hRr,hBr⟩:=hcut
     have c0:wc.cell? ⟨O,0,none⟩=some (.string g.start):=by simp [World.cell?,hOr]
     have c1:wc.cell? ⟨O,1,none⟩=some rv:=by simp [World.cell?,hOr]
     obtain ⟨rp,rc,rfl⟩:=hRr.slice
     have hBw:Below M w4 wc:=hBM7.out.trans (hBr.mono hMO.out)
     have hBz:=hB4w.out.trans (hBw.mono (show Z≤M by have:=hMD.out; have:=hsD.out; omega))
     have hcm:=came_any (fun k=>O+1≤k) wc (g:=⟨g.start,RS⟩) hRr.done hsm.out (fun w'' h2=>hEH.out w'' ((by rw [hZ.out]; exact hBz:Below w.heap.size w wc).trans (h2.mono hBz.size)))
     have hrw:=(hBw.block (Z+1) (by have:=hMD.out; have:=hsD.out; omega)).trans hr4.out
     replace hcm:=Hid.mk hcm
     replace hrw:=Hid.mk hrw
     replace hBz:=Hid.mk hBz
     have hRd:=Hid.mk hRr.done
     have hOs:=Hid.mk (show O < wc.heap.size from (Array.getElem?_eq_some_iff.1 hOr).1)
     have hOZ:=Hid.mk (show Z+2≤O by have:=hMO.out; have:=hMD.out; have:=hsD.out; omega)
     clear hOr hRr hBr hBw
     unfold gramV at hcm
     go_wp2_with (fail)
     refine hcm.out.mono ?_
     rintro e w8 ⟨rfl,hB8⟩
     have hr8:=Hid.mk ((hB8.block (Z+1) (by have:=hOs.out; have:=hOZ.out; omega)).trans hrw.out)
     have hR8:=Hid.mk (hRd.out.blw hB8)
     have hB8:=Hid.mk (hBz.out.trans (hB8.mono (by have:=hOs.out; have:=hOZ.out; omega)))
     have hR2:=hR.out
     clear c0 c1 hcm
     cases hfi:fitsG ⟨g.start,RS⟩ with
     | true=>
      rw [hfi,if_pos rfl] at hR2
      subst hR2
      rw [if_pos rfl]
      have hend:=Hid.mk (setRow_heap w8 (Z+1) _ #[.string g.start,.slice rp RS.length rc] _ _ hr8.out)
      have hbl:=Hid.mk (setRow_low hB8.out (Z+1) #[.string g.start,.slice rp RS.length rc] (Nat.le_succ _))
      clear hfi
      go_wp2_with (first | (refine wpList_store_row rfl 25 _ _ rfl (Z+1) #[.string g.start,.slice rp RS.length rc] rfl rfl 25 _ hr8.out grInfo rfl (by simp [Value.oneCell']) ?_))
      refine bodyPost_ret (results_ct_row rfl _ _ (Z+1) _ _ _ _ rfl hend.out Tryz.underlying25 rfl grInfo) rfl ?_
      refine ⟨by rw [hZ.out]; exact hbl.out,_,rfl,?_⟩
      refine hR8.out.keep (by simp) fun q h1 h2=>⟨setRow_other _ _ _ _ (by have:=hOZ.out; omega),by have:=hOZ.out; rw [hZ.out]; omega⟩
     | false=>
      rw [hfi,if_neg (by decide)] at hR2
      subst hR2
      rw [if_neg (by decide)]
      have hend:=Hid.mk (setRow_heap w8 (Z+1) _ #[.string ⟨#[]⟩,.slice none 0 0] _ _ hr8.out)
      have hbl:=Hid.mk (setRow_low hB8.out (Z+1) #[.string ⟨#[]⟩,.slice none 0 0] (Nat.le_succ _))
      unfold zeroG
      clear hfi
      go_wp2_with (first | (refine wpList_store_row rfl 25 _ _ rfl (Z+1) #[.string ⟨#[]⟩,.slice none 0 0] rfl rfl 25 _ hr8.out grInfo rfl (by simp [Value.oneCell']) ?_))
      refine bodyPost_ret (results_ct_row rfl _ _ (Z+1) _ _ _ _ rfl hend.out Tryz.underlying25 rfl grInfo) rfl ?_
      exact ⟨by rw [hZ.out]; exact hbl.out,rfl⟩
 ·have hR:=hRH.out
  rw [if_neg hmy] at hR
  have hmb:=beq_ne hmy
  generalize mayG g=mc at*
  subst hR
  clear hdes hokH hsmH hMH hEH
  go_wp2_with (fail)
  refine (refused_any _ _).mono ?_
  rintro e w3 ⟨rfl,hB3⟩
  have hr3:=Hid.mk ((hB3.block (Z+1) (by have:=hs3.out; omega)).trans hr2.out)
  have hB3:=Hid.mk (hB2.out.trans (hB3.mono (by have:=hs3.out; omega)))
  have hend:=Hid.mk (setRow_heap w3 (Z+1) _ #[.string ⟨#[]⟩,.slice none 0 0] _ _ hr3.out)
  have hbl:=Hid.mk (setRow_low hB3.out (Z+1) #[.string ⟨#[]⟩,.slice none 0 0] (Nat.le_succ _))
  unfold zeroG
  go_wp2_with (first | (refine wpList_store_row rfl 25 _ _ rfl (Z+1) #[.string ⟨#[]⟩,.slice none 0 0] rfl rfl 25 _ hr3.out grInfo rfl (by simp [Value.oneCell']) ?_))
  refine bodyPost_ret (results_ct_row rfl _ _ (Z+1) _ _ _ _ rfl hend.out Tryz.underlying25 rfl grInfo) rfl ?_
  exact ⟨by rw [hZ.out]; exact hbl.out,rfl⟩
end Go.Proofs.YtmenpmbgennhoaaGreatDoor
