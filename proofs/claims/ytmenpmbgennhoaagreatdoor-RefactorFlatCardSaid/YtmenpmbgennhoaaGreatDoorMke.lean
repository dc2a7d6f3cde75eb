/- plain's maker: an item's symbol. plain's maker: a row's symbols. plain's maker: what the productions of a thing want. -/
import Derived.Test.YtmenpmbgennhoaaGreatDoorMka
import Derived.Lib.AppendIntMem
import Derived.Lib.ItoaLen
namespace Go.Proofs.YtmenpmbgennhoaaGreatDoor
open Go.RowKit
def PowB (Z:Nat) (w:World):Prop:=Lib.TabBelow Tryz.prog Z w "internal/strconv.uint64pow10" .u64 Lib.pow10Tab
theorem PowB.blw {Z:Nat} {w w':World} (h:PowB Z w) (hb:Below Z w w'):PowB Z w':=fun w'' h2=>h w'' (hb.trans h2)
section
variable {Z M L:Nat} {G:MkG} {V V':MV} {st st':Mk} {w w':World}
theorem MkS.drw (h:MkS Z M L G V st w):MkS Z M L G V st w.drew:=h.blw (blw_drewN _ w 1)
end
theorem run_append_kept {P:Program} {w:World} (t ty:TypeId) (base:Nat) (e:TypeId) (i:TypeInfo) (z:Value) (size bytes:Nat) (ht:P.underlying t=some (.slice e)) (hi:P.info? e=some i) (hz:i.zero=some z)
  (hsize:i.size=size) (hby:i.bytes=bytes) (hzs:z.cells.size=size) (hsz:0 < size)
  (v:Value) (n:Nat) (xs:List Value) (hown:w.ownsRow base e size v n xs)
  (ad:Addr) (m c:Nat) (news:List Value) (hl:news.length=m*size) (hnews:∀ j u,news[j]?=some u→w.cell? (ad.add j)=some u) (h1:∀ u ∈ news,u.oneCell'=true)
  (hm:0 < m) (h63:n+m≤maxLen) (hbytes:(n+m)*bytes≤140737488355328) (hbase:base≤w.heap.size) :
  ∃ g cap w',(Builtin.append_ #[t,t] ty #[v,.slice (some ad) m c]).run P w= .ok (.slice (some ⟨g,0,none⟩) (n+m) cap) w'∧
   w'.ownsRow base e size (.slice (some ⟨g,0,none⟩) (n+m) cap) (n+m) (xs++news)∧w.grownBy w' v.ownBlock∧(v.ownBlock=some g∨g=w.heap.size)∧∀ g0,v.ownBlock=some g0→∀ j u,xs[j]?=some u→w'.cell? ⟨g0,j,none⟩=some u:=by
 obtain ⟨g,cap,w',hr,h2,h3,h4,h5⟩:=run_append_lies (P:=P) w t ty base e i z size bytes ht hi hz hsize hby hzs hsz v n xs hown ad m c news hl hnews h1 hm h63 hbytes hbase w.heap.size rfl
 refine ⟨g,cap,w',hr,h2,h3,h4,fun g0 hg0 j u hu=> ?_⟩
 rcases hown.2 with ⟨rfl,_⟩ | ⟨g1,cap1,cur,rfl,hbg,hg,hnc,hcm,hcs,htake⟩
 ·cases hg0
 ·cases hg0
  have hold:w.cell? ⟨g1,j,none⟩=some u:=by
   have:=hown.cells (g:=g1) rfl j u hu
   rw [Addr.add_lit,Nat.zero_add] at this
   exact this
  rcases h4 with h4 | h4
  ·cases h4
   have:=h2.cells (g:=g1) rfl j u (by rw [List.getElem?_append_left (List.getElem?_eq_some_iff.1 hu).1]; exact hu)
   rw [Addr.add_lit,Nat.zero_add] at this
   exact this
  ·subst hsize
   subst hby
   by_cases hroom:n+m≤cap1
   ·have hfit:n*i.size+news.length≤cur.size:=by rw [hl,hcs,← Nat.add_mul]; exact Nat.mul_le_mul_right _ hroom
    have hr':=run_append_room (P:=P) w t ty e i ht hi g1 n cap1 cur hg ad m c news hl hnews h1 hroom hfit
    rw [hr] at hr'
    injection hr' with e1 e2
    injection e1 with e1
    injection e1 with e1
    injection e1 with e1
    have:=(Array.getElem?_eq_some_iff.1 hg).1
    omega
   ·have holds:∀ j u,xs[j]?=some u→w.cell? ((⟨g1,0,none⟩:Addr).add j)=some u:=hown.cells (g:=g1) rfl
    have hr':=run_append_grow (P:=P) w t ty e i z ht hi hz ⟨g1,0,none⟩ n cap1 xs hown.1 holds ad m c news hl hnews (by omega) (by simp only [maxLen] at h63; omega) (growslice_fits (by omega) hbytes)
    rw [hr] at hr'
    injection hr' with e1 e2
    subst e2
    rw [← hold]
    have hlt:=(Array.getElem?_eq_some_iff.1 hg).1
    have:(w.drew.alloc (.cells (xs.toArray++news.toArray++Builtin.zeroCells z.cells (grownCap w (n+m) cap1 e - (n+m))) e)).heap[g1]?=w.heap[g1]?:=heap_alloc_old w.drew _ hlt
    exact World.cell?_of_block (a:=⟨g1,j,none⟩) this
theorem wp_append_str_kept {o:Oper} {a:Act} {w:World} {K:Act→World→Prop} {Q:Exit→Act→World→Prop} (s x:Operand) (ho:o.op= .call { callee:= .builtin .append,args:=#[s,x],argTypes:=#[31,31] })
  (N:Nat) (v:Value) (l:List ByteArray) (hs:a.eval s=v) (hown:StrsO N w v l) (t:ByteArray) (g:Nat) (hx:a.eval x= .slice (some ⟨g,0,none⟩) 1 1)
  (hg:w.heap[g]?=some (.cells #[.string t] 9 (0,0))) (hl:l.length≤1000000000) (hN:N≤w.heap.size)
  (h:∀ g' c w',StrsO N w' (.slice (some ⟨g',0,none⟩) (l.length+1) c) (l++[t])→w.grownBy w' v.ownBlock→(v.ownBlock=some g'∨g'=w.heap.size)→(∀ g0,v.ownBlock=some g0→∀ j u,l[j]?=some u→w'.cell? ⟨g0,j,none⟩=some (.string u))→K (a.put o.dst (.slice (some ⟨g',0,none⟩) (l.length+1) c)) w'):o.wp Tryz.prog a w K Q:=by
 obtain ⟨i0,hi,hz0,hz1,hz2⟩:=info_parts strRow
 obtain ⟨g',c,w',hr,h2,h3,h4,h5⟩:=run_append_kept (P:=Tryz.prog) (w:=w) 31 o.type N 9 i0 _ 1 16 Tryz.underlying31 hi hz0 hz1 hz2 rfl (by decide) v l.length _ hown ⟨g,0,none⟩ 1 1 [.string t] rfl (fun j u hj=>(by
  have:w.cell? ⟨g,j,none⟩=(#[Value.string t]:Array Value)[j]?:=by simp [World.cell?,hg]
  rw [Addr.add_lit,Nat.zero_add,this]
  match j,hj with
  | 0,hj=>simpa using hj)) (fun u hu=>(by simp at hu; subst hu; rfl)) (by decide) (by simp [maxLen]; omega) (by omega) hN
 unfold Oper.wp execOp
 simp only [ho,resolve,invoke,builtin,Sem.run_bind,Sem.run_pure,Result.andThen_ok,List.map_toArray,List.map_cons,List.map_nil,hs,hx,hr]
 exact h g' c w' (by unfold StrsO; rw [List.map_append,List.length_append]; exact h2) h3 h4 (fun g0 hg0 j u hu=>h5 g0 hg0 j _ (by simp [hu]))
theorem fwdN_lt (rs:List Rl):∀ k s,(fwdN rs k s).getD 0≤k
 | 0,_=>by simp [fwdN]
 | k+1,s=>by
  rw [fwdN]
  split
  ·simp
  ·have:=fwdN_lt rs k s; omega
theorem fwdT_lt (ts:List ByteArray):∀ k s,(fwdT ts k s).getD 0≤k
 | 0,_=>by simp [fwdT]
 | k+1,s=>by
  rw [fwdT]
  split
  ·simp
  ·have:=fwdT_lt ts k s; omega
theorem itoa_any (c:Nat) (hc:c≤1000000) (w:World) {Z:Nat} (hE:PowB Z w):Calls Tryz.prog 17 #[.int .i64 ((c:Nat):Int)] w fun e w'=>e= .returned (.string ⟨(Lib.itoa (c:Int)).toArray⟩)∧Below w.heap.size w w':=by
 refine (Tryz.strconv_Itoa (c:Int) (by omega) (by omega) w hE.here).mono ?_
 rintro e w' ⟨rfl,k,os,rfl⟩
 exact ⟨rfl,rfl,rfl,rfl,by simp,fun i hi=>Go.Sort.heap_grow_old _ _ hi⟩
theorem itoa_len (c:Nat) (hc:c≤1000000):(Lib.itoa (c:Int)).length≤100:=Nat.le_trans (Lib.itoa_length_le _ (by omega) (by omega)) (by omega)
set_option maxRecDepth 100000 in
set_option maxHeartbeats 3200000 in
theorem sym_any (Z M L:Nat) (G:MkG) (V:MV) (st:Mk) (t:Tr) (s:Value) (rule:Nat) (w:World) (h:MkS Z M L G V st w) (hp:MkP G st) (hE:PowB Z w) (ht:TrAt (fun k=>k < Z) w t s) (hr:rule < G.rs.length) :
  Calls Tryz.prog 84 #[.pointer (some ⟨M,0,none⟩),nodeV t s,.int .i64 (rule:Nat)] w fun e w'=>e= .returned (.int .i64 (symF G.rs G.ts st t rule).2)∧MkQ Z M (fun _=>L) G V (symF G.rs G.ts st t rule).1 w w':=by
 have hm:Tryz.prog.follows .mixedOrders=true:=rfl
 obtain ⟨p,c,rfl⟩:=ht.form
 obtain ⟨W,hW⟩:∃ W,w.heap.size=W:=⟨_,rfl⟩
 unfold nodeV
 have hB1:Below w.heap.size w (w.alloc (.cells #[.int .i64 (t.kind:Nat),.string t.text,.slice p t.kids.length c] 57)):=(Below.refl _ w).alloc (Nat.le_refl _) _
 have hc1:=heap_alloc_new w (.cells #[.int .i64 (t.kind:Nat),.string t.text,.slice p t.kids.length c] 57)
 obtain ⟨w1,hw1⟩:∃ w1,w.alloc (.cells #[.int .i64 (t.kind:Nat),.string t.text,.slice p t.kids.length c] 57)=w1:=⟨_,rfl⟩
 rw [hw1,hW] at hc1
 rw [hw1] at hB1
 have hS1:=h.blw hB1
 have n0:w1.cell? ⟨W,0,none⟩=some (.int .i64 (t.kind:Nat)):=by simp [World.cell?,hc1]
 have n1:w1.cell? ⟨W,1,none⟩=some (.string t.text):=by simp [World.cell?,hc1]
 have n2:w1.cell? ⟨W,2,none⟩=some (.slice p t.kids.length c):=by simp [World.cell?,hc1]
 have hF1:Fr (MkA M V) w (MkA M V) w1:=Fr.of hB1
 have c5:=hS1.c5
 have c6:=hS1.c6
 have c2:=hS1.c2
 have c9:=hS1.c9
 have f9:=hS1.fz 9
 have hSH:=Hid.mk h
 have hpH:=Hid.mk hp
 have hEH:=Hid.mk hE
 have htH:=Hid.mk ht
 have hrH:=Hid.mk hr
 have hS1H:=Hid.mk hS1
 have hB1H:=Hid.mk hB1
 have hF1H:=Hid.mk hF1
 have hc1H:=Hid.mk hc1
 clear h hp hE ht hr hS1 hB1 hF1 hc1
 obtain ⟨R,hR⟩:∃ R,symF G.rs G.ts st t rule=R:=⟨_,rfl⟩
 rw [hR]
 unfold symF at hR
 by_cases hk1:t.kind=1
 ·rw [if_pos hk1] at hR
  subst hR
  have k1:((t.kind:Int)==1)=true:=by simp; omega
  have hlk:=hS1H.out.drw.mn.look (P:=Tryz.prog) Tryz.underlying67 Tryz.underlying9 (Tryz.zeroValue3 w1.drew) t.text false
  rw [natV_get,hpH.out.nk] at hlk
  simp only [Bool.false_eq_true,if_false] at hlk
  clear hk1
  go_enter Tryz.func84,Tryz.ntmps84
  go_wp2_with (fail)
  refine Go.Ev.wp_region_planE (fun v=>v=w1.drew) hm (by kernel_rfl) (by kernel_rfl) rfl ?_
  iterate 8
   refine Go.Ev.planE_cons _ (by rintro v K rfl hK; go_simp; exact hK _ rfl) ?_
   simp only [Act.put,List.setIfInBounds_toArray,List.set_cons_succ,List.set_cons_zero]
  rintro w2 rfl
  go_wp2_with (fail)
  go_ret
  exact ⟨rfl,V,hS1H.out.drw,hF1H.out.trans ⟨rfl,rfl,rfl,Nat.le_refl _,fun _ _ _=>rfl,fun _ h=> .inl h⟩⟩
 ·rw [if_neg hk1] at hR
  have k1:((t.kind:Int)==1)=false:=beq_ne (by omega)
  by_cases hk2:t.kind=2
  ·rw [if_pos hk2] at hR
   subst hR
   have k2:((t.kind:Int)==2)=true:=by simp; omega
   have hlk:=hS1H.out.drw.mt.look (P:=Tryz.prog) Tryz.underlying67 Tryz.underlying9 (Tryz.zeroValue3 w1.drew) t.text false
   rw [natV_get,hpH.out.tm] at hlk
   simp only [Bool.false_eq_true,if_false] at hlk
   have hlt:=fwdT_lt G.ts G.ts.length t.text
   have htl:=hpH.out.tl
   have hwr:IntKind.i64.wrap (-1 - (((fwdT G.ts G.ts.length t.text).getD 0:Nat):Int))= -1 - (((fwdT G.ts G.ts.length t.text).getD 0:Nat):Int):=wi64 (by omega) (by omega)
   generalize (fwdT G.ts G.ts.length t.text).getD 0=fr at*
   clear hk1 hk2 hlt htl
   go_enter Tryz.func84,Tryz.ntmps84
   go_wp2_with (fail)
   refine Go.Ev.wp_region_planE (fun v=>v=w1.drew) hm (by kernel_rfl) (by kernel_rfl) rfl ?_
   iterate 9
    refine Go.Ev.planE_cons _ (by rintro v K rfl hK; go_simp; exact hK _ rfl) ?_
    simp only [Act.put,List.setIfInBounds_toArray,List.set_cons_succ,List.set_cons_zero]
   rintro w2 rfl
   go_wp2_with (fail)
   go_ret
   exact ⟨rfl,V,hS1H.out.drw,hF1H.out.trans ⟨rfl,rfl,rfl,Nat.le_refl _,fun _ _ _=>rfl,fun _ h=> .inl h⟩⟩
  ·rw [if_neg hk2] at hR
   have k2:((t.kind:Int)==2)=false:=beq_ne (by omega)
   obtain ⟨np,nc,hnv⟩:=ownsRow_form hS1H.out.names
   rw [hnv] at c2
   by_cases h256:256≤st.names.length
   ·rw [if_pos h256] at hR
    subst hR
    have hi:(256:Int)≤(st.names.length:Int):=by omega
    clear hk1 hk2 h256
    go_enter Tryz.func84,Tryz.ntmps84
    go_wp2_with (fail)
    go_ret
    have ho:=(Onl.refl M w1).setCell (p:=⟨M,9,none⟩) rfl (.bool true)
    exact ⟨rfl,V,hS1H.out.setMany ((row_set hS1H.out.cells).trans (by simp [mkCells])) ho,hF1H.out.trans (Fr.onl ho (.inl rfl))⟩
   ·rw [if_neg h256] at hR
    subst hR
    have hi:((256:Int)≤(st.names.length:Int))=False:=eq_false (by omega)
    have hn256:=Hid.mk (show st.names.length < 256 by omega)
    clear hk1 hk2 h256
    obtain ⟨r,hrr⟩:∃ r,G.rs[rule]?=some r:=⟨_,List.getElem?_eq_getElem hrH.out⟩
    have hra:rlAt G.rs rule=r:=by unfold rlAt; rw [hrr]; rfl
    rw [hra]
    have c8:=hS1H.out.c8
    have hcl:=hpH.out.cl
    obtain ⟨cr,hcr⟩:∃ cr,st.count[rule]?=some cr:=⟨_,List.getElem?_eq_getElem (by rw [hcl]; exact hrH.out)⟩
    have hcr0:st.count[rule]?.getD 0=cr:=by rw [hcr]; rfl
    rw [hcr0]
    have hcrn:cr≤st.names.length:=hpH.out.cs cr (List.mem_of_getElem? hcr)
    have hcnt:=hS1H.out.count
    have k0:w1.cell? ⟨V.bc,rule,none⟩=some (.int .i64 (cr:Nat)):=by simp [World.cell?,hcnt,cntC,hcr]
    have kf:w1.frozen? ⟨V.bc,rule,none⟩=false:=by simp [World.frozen?,hcnt]
    have hrI:(rule:Int) < (st.count.length:Int):=by have:=hrH.out; omega
    have hrb:(rule:Int) < 9223372036854775807:=by have:=hrH.out; have:=hpH.out.rl; omega
    have hwr:IntKind.i64.wrap ((cr:Int)+1)=(cr:Int)+1:=wi64 (by omega) (by have:=hn256.out; omega)
    have hcrb:=Hid.mk (show cr≤256 by have:=hn256.out; omega)
    have hS2:=hS1H.out.setCount (w':=w1.setCell ⟨V.bc,rule,none⟩ (.int .i64 ((cr:Int)+1))) (st.count.set rule (cr+1)) (by simp) ((row_set hcnt).trans (by
     have:(cntC st.count).setIfInBounds rule (.int .i64 ((cr:Int)+1))=cntC (st.count.set rule (cr+1)):=by
      unfold cntC
      simp [List.map_set]
     rw [this])) ((Onl.refl V.bc w1).setCell rfl _)
    have hF2:Fr (MkA M V) w (MkA M V) (w1.setCell ⟨V.bc,rule,none⟩ (.int .i64 ((cr:Int)+1))):=hF1H.out.trans (Fr.onl ((Onl.refl V.bc w1).setCell rfl _) (.inr (.inr (.inr (.inl rfl)))))
    have hB2:w.heap.size≤w1.heap.size:=hB1H.out.size
    have hcM:=Hid.mk ((Below.heap_setCell w1 ⟨V.bc,rule,none⟩ (.int .i64 ((cr:Int)+1)) W (fun e=>by have:=hSH.out.lt (k:=V.bc) (.inr (.inr (.inr (.inl rfl)))); simp at e; omega)).trans hc1H.out)
    have hsz2:(w1.setCell ⟨V.bc,rule,none⟩ (.int .i64 ((cr:Int)+1))).heap.size=w1.heap.size:=by simp
    have hB2H:=Hid.mk (show W < (w1.setCell ⟨V.bc,rule,none⟩ (.int .i64 ((cr:Int)+1))).heap.size by rw [hsz2]; exact (Array.getElem?_eq_some_iff.1 hc1H.out).1)
    have hlnum:=Hid.mk hcl
    clear hcl hcr hcr0 hcrn hcnt hB2 hsz2
    go_enter Tryz.func84,Tryz.ntmps84
    go_upto_region 10 with (fail)
    generalize w1.setCell ⟨V.bc,rule,none⟩ (.int .i64 ((cr:Int)+1))=w2 at*
    clear k0 kf n0 n1 n2 c2 c5 c6 c8 c9 f9 hwr
    have hS2H:=Hid.mk hS2
    have hF2H:=Hid.mk hF2
    have k2:=hS2.count
    have k0:w2.cell? ⟨V.bc,rule,none⟩=some (.int .i64 ((cr+1:Nat):Int)):=by
     have hl:rule < st.count.length:=by rw [hlnum.out]; exact hrH.out
     simp [World.cell?,k2,cntC,hl]
    have hnm:=hpH.out.nm rule r hrr
    have hrn:=hpH.out.rn rule r hrr
    obtain ⟨ng,nc',hnv',hnc,hnZ,hngs,_⟩:=hS2.names.at hnm
    rw [hnv] at hnv'
    injection hnv' with e1 e2 e3
    subst e1
    have c2:=hS2.c2
    rw [hnv] at c2
    have c8:=hS2.c8
    simp only [List.length_set] at c8
    have hnlI:(rule:Int) < (st.names.length:Int):=by have:=(List.getElem?_eq_some_iff.1 hnm).1; omega
    have hdot:(9223372036854775807 < r.name.size+1)=False:=eq_false (by omega)
    have hrnH:=Hid.mk hrn
    have hnmH:=Hid.mk hnm
    clear hS2 hF2 k2 hrr hra hnm hrn e2 e3 hnZ hngs
    go_wp2_with (fail)
    refine Go.Ev.wp_region_pfe [22,23,24,25,29] 4 (fun u=>u.cell? ⟨M,2,none⟩=some (.slice (some ⟨ng,0,none⟩) st.names.length nc)∧u.cell? ⟨M,8,none⟩=some (.slice (some ⟨V.bc,0,none⟩) st.count.length st.count.length)∧u.cell? ⟨ng,rule,none⟩=some (.string r.name)∧u.cell? ⟨V.bc,rule,none⟩=some (.int .i64 ((cr+1:Nat):Int))) hm (by kernel_rfl) (by kernel_rfl) (by kernel_rfl) ⟨c2,c8,hnc,k0⟩ ?_
    iterate 30
     first
     | refine Go.Ev.planF_skip (by rfl) ?_
     | (refine Go.Ev.planF_look (by rfl) _ (by rintro u K ⟨f1,f2,f3,f4⟩ hK; go_simp; exact hK _ rfl) ?_; simp only [Act.put,List.setIfInBounds_toArray,List.set_cons_succ,List.set_cons_zero])
    refine Go.Ev.planF_nil ?_
    refine Go.Ev.wpC_step rfl ?_
    rintro _ rfl K hK
    have hB12:=hF2H.out.blw (fun k e=>hSH.out.ge e) (Nat.le_of_lt hSH.out.zs)
    have hit:=itoa_any (cr+1) (by have:=hcrb.out; omega) w2.drew (hEH.out.blw (hB12.trans (blw_drewN _ w2 1)))
    obtain ⟨itl,hitl⟩:∃ itl:ByteArray,(⟨(Lib.itoa ((cr+1:Nat):Int)).toArray⟩:ByteArray)=itl:=⟨_,rfl⟩
    have hits:itl.size≤100:=by rw [← hitl]; exact itoa_len (cr+1) (by have:=hcrb.out; omega)
    rw [hitl] at hit
    go_wp2_with (fail)
    go_at_call 17
    refine hit.mono ?_
    rintro e wz ⟨rfl,hBz⟩
    have hBw:Below w2.heap.size w2 wz:=(blw_drewN _ w2 1).trans hBz
    have hSz:=hS2H.out.blw hBw
    have hFz:=Hid.mk (hF2H.out.trans (Fr.of hBw))
    have hcMz:=Hid.mk ((hBw.block W hB2H.out).trans hcM.out)
    have g2:=hSz.c2
    rw [hnv] at g2
    have g8:=hSz.c8
    simp only [List.length_set] at g8
    have gn:wz.cell? ⟨ng,rule,none⟩=some (.string r.name):=by
     obtain ⟨ng',nc',e1,e2,_⟩:=hSz.names.at hnmH.out
     rw [hnv] at e1
     injection e1 with e1
     injection e1 with e1
     injection e1 with e1
     subst e1
     exact e2
    have gc:wz.cell? ⟨V.bc,rule,none⟩=some (.int .i64 ((cr+1:Nat):Int)):=by
     have hl:rule < st.count.length:=by rw [hlnum.out]; exact hrH.out
     have:=hSz.count
     simp [World.cell?,this,cntC,hl]
    have hSzH:=Hid.mk hSz
    go_wp2_with (fail)
    refine hK _ _ (fun _=>⟨g2,g8,gn,gc⟩) ?_
    clear hK K hBz hBw hit hB12 hSz
    simp only [Act.put,List.setIfInBounds_toArray,List.set_cons_succ,List.set_cons_zero]
    refine Go.Ev.wpC_step rfl ?_
    rintro _ rfl K hK
    have hdot2:(9223372036854775807 < r.name.size+1+itl.size)=False:=eq_false (by have:=hrnH.out; omega)
    go_simp
    refine hK _ _ (fun _=>⟨g2,g8,gn,gc⟩) ?_
    clear hK K
    simp only [Act.put,List.setIfInBounds_toArray,List.set_cons_succ,List.set_cons_zero]
    refine Go.Ev.wpC_step rfl ?_
    rintro _ rfl K hK
    refine wp_build_str _ rfl ((r.name++⟨#[46]⟩)++itl) rfl ?_
    obtain ⟨xn,hxn⟩:∃ xn,(r.name++⟨#[46]⟩)++itl=xn:=⟨_,rfl⟩
    have hdn:dotName r.name (cr+1)=xn:=by rw [← hxn,← hitl]; rfl
    rw [hxn] at hK ⊢
    have hzs:=hSzH.out.blw ((Below.refl wz.heap.size wz).alloc (Nat.le_refl _) (.cells #[.string xn] 9))
    have l2:=hzs.c2
    rw [hnv] at l2
    have l8:=hzs.c8
    simp only [List.length_set] at l8
    have hge:∀ q u,wz.cell? q=some u→q.block < wz.heap.size→(wz.alloc (.cells #[.string xn] 9)).cell? q=some u:=fun q u h1 h2=>by
     rw [← h1]; exact ((Below.refl wz.heap.size wz).alloc (Nat.le_refl _) _).cell h2
    refine hK _ _ (fun _=>⟨l2,l8,hge _ _ gn (by exact (hSzH.out.names.lt ng (by rw [hnv]; rfl)).2),hge _ _ gc (hSzH.out.lt (.inr (.inr (.inr (.inl rfl)))))⟩) ?_
    clear hK K
    simp only [Act.put,List.setIfInBounds_toArray,List.set_cons_succ,List.set_cons_zero]
    refine Go.Ev.wpC_step rfl ?_
    rintro _ rfl K hK
    have hnz:=hSzH.out.names
    refine wp_append_str_kept _ _ rfl Z V.n st.names (hnv.symm) hzs.names xn wz.heap.size rfl (heap_alloc_new wz _) (by have:=hn256.out; omega) (Nat.le_of_lt hzs.zs) ?_
    rintro g' c' w3 hown hgrow hat hkept
    have hM3:=(hgrow.block M (hzs.lt (.inl rfl)) (fun e=>row_ne hzs.names e.symm hzs.cells (by decide))).trans hzs.cells
    have m2:w3.cell? ⟨M,2,none⟩=some (.slice (some ⟨ng,0,none⟩) st.names.length nc):=by rw [← hnv]; simp [World.cell?,hM3,mkCells]
    have fm2:w3.frozen? ⟨M,2,none⟩=false:=by simp [World.frozen?,hM3]
    have hMg:M≠g':=fun e=>by subst e; exact row_ne hown rfl hM3 (by decide)
    have hgz:(wz.alloc (.cells #[.string xn] 9)).heap.size=wz.heap.size+1:=by simp
    have hadd:=hzs.setNames (w':=w3.setCell ⟨M,2,none⟩ (.slice (some ⟨g',0,none⟩) (st.names.length+1) c')) (st.names++[xn]) (.slice (some ⟨g',0,none⟩) (st.names.length+1) c') g' rfl
     (ownsRow_sm hown fun g e=>Below.heap_setCell _ _ _ _ (fun e'=>hMg (by simp [Value.ownBlock] at e; simp at e'; omega)))
     (hat.elim .inl (fun e=> .inr (Nat.le_of_eq e.symm))) (by simpa using hgrow.size)
     (fun k h1 h2 h3=>(Below.heap_setCell _ _ _ _ (fun e=>h2 (by simpa using e))).trans (hgrow.block k h1 (fun e=>h3 e.symm))) ((row_set hM3).trans (by simp [mkCells]))
    have hfr:Fr (MkA M V) w (MkA M { V with n:= .slice (some ⟨g',0,none⟩) (st.names.length+1) c' }) (w3.setCell ⟨M,2,none⟩ (.slice (some ⟨g',0,none⟩) (st.names.length+1) c')):=
     (hFz.out.trans (Fr.of ((Below.refl wz.heap.size wz).alloc (Nat.le_refl _) _))).trans ((Fr.grown hgrow (fun k e=> .inr (.inr (.inr (.inr (.inl e))))) hadd.2).trans (Fr.onl ((Onl.refl M _).setCell rfl _) (.inl rfl)))
    have hWM:W≠M:=fun e=>by
     have:=hSH.out.lt (k:=M) (.inl rfl)
     omega
    have hW3:(w3.setCell ⟨M,2,none⟩ (.slice (some ⟨g',0,none⟩) (st.names.length+1) c')).heap[W]?=some (.cells #[.int .i64 (t.kind:Nat),.string t.text,.slice p t.kids.length c] 57 (0,0)):=
     (Below.heap_setCell _ _ _ _ (fun e=>hWM (by simpa using e))).trans ((hgrow.block W (by have:=(Array.getElem?_eq_some_iff.1 hcMz.out).1; omega) (fun e=>row_ne hzs.names e.symm ((Go.heap_alloc_old wz _ (Array.getElem?_eq_some_iff.1 hcMz.out).1).trans hcMz.out) (by decide))).trans ((Go.heap_alloc_old wz _ (Array.getElem?_eq_some_iff.1 hcMz.out).1).trans hcMz.out))
    have hall:=Hid.mk (show _∧_∧_ from ⟨hadd.1,hfr,hW3⟩)
    have m8:w3.cell? ⟨M,8,none⟩=some (.slice (some ⟨V.bc,0,none⟩) st.count.length st.count.length):=by simp [World.cell?,hM3,mkCells]
    have mn:=hkept ng (by rw [hnv]; rfl) rule r.name hnmH.out
    have mc:w3.cell? ⟨V.bc,rule,none⟩=some (.int .i64 ((cr+1:Nat):Int)):=by
     have h1:=(hgrow.block V.bc (hzs.lt (.inr (.inr (.inr (.inl rfl))))) (fun e=>row_ne hzs.names e.symm hzs.count (by decide))).trans hzs.count
     have hl:rule < st.count.length:=by rw [hlnum.out]; exact hrH.out
     simp [World.cell?,h1,cntC,hl]
    refine hK _ _ (fun _=>⟨m2,m8,mn,mc⟩) ?_
    clear hK K m8 mn mc hkept hown hgrow hat hadd hfr hW3 hzs l2 l8 hge hM3 hMg hgz g2 g8 gn gc
    simp only [Act.put,List.setIfInBounds_toArray,List.set_cons_succ,List.set_cons_zero]
    refine Go.Ev.wpC_step rfl ?_
    rintro _ rfl K hK
    simp only [Act.put] at hK
    go_simp
    refine hK undef _ (fun h=>absurd h (by decide)) ?_
    clear hK K m2 fm2
    refine Go.Ev.wpC_end ?_
    rintro _ rfl
    generalize w3.setCell ⟨M,2,none⟩ (.slice (some ⟨g',0,none⟩) (st.names.length+1) c')=w4 at hall ⊢
    obtain ⟨V4,hV4⟩:∃ V4:MV,{ V with n:= .slice (some ⟨g',0,none⟩) (st.names.length+1) c' }=V4:=⟨_,rfl⟩
    rw [hV4] at hall
    have hq4:V4.q=V.q:=by rw [← hV4]
    clear hV4
    obtain ⟨hS4,hF4,hW4⟩:=hall.out
    obtain ⟨qs,q1,q2,q3⟩:=hS4.queue
    obtain ⟨qp,qc,hqv⟩:=ownsRow_form q2
    have e7:=hS4.c7
    rw [hqv] at e7
    have y0:w4.cell? ⟨W,0,none⟩=some (.int .i64 (t.kind:Nat)):=by simp [World.cell?,hW4]
    have y1:w4.cell? ⟨W,1,none⟩=some (.string t.text):=by simp [World.cell?,hW4]
    have y2:w4.cell? ⟨W,2,none⟩=some (.slice p t.kids.length c):=by simp [World.cell?,hW4]
    have hql:=hpH.out.ql
    simp only at hqv e7
    have q1H:=Hid.mk q1
    have q2H:=Hid.mk q2
    have q3H:=Hid.mk q3
    have hqvH:=Hid.mk hqv
    have hqlH:=Hid.mk hql
    clear hS4 hF4 hW4 q1 q2 q3 hqv hql
    go_wp2_with (fail)
    refine Go.Ev.wp_region_pfe [8,9,12] 2 (fun u=>u.cell? ⟨M,7,none⟩=some (.slice qp st.queue.length qc)∧u.cell? ⟨W,0,none⟩=some (.int .i64 (t.kind:Nat))∧u.cell? ⟨W,1,none⟩=some (.string t.text)∧u.cell? ⟨W,2,none⟩=some (.slice p t.kids.length c)) hm (by kernel_rfl) (by kernel_rfl) (by kernel_rfl) ⟨e7,y0,y1,y2⟩ ?_
    iterate 13
     first
     | refine Go.Ev.planF_skip (by rfl) ?_
     | (refine Go.Ev.planF_look (by rfl) _ (by rintro u K ⟨f1,f2,f3,f4⟩ hK; go_simp; exact hK _ rfl) ?_; simp only [Act.put,List.setIfInBounds_toArray,List.set_cons_succ,List.set_cons_zero])
    refine Go.Ev.planF_nil ?_
    refine Go.Ev.wpC_step rfl ?_
    rintro _ rfl K hK
    have hS5:=Hid.mk (hall.out.1.drw.blw ((Below.refl w4.drew.heap.size w4.drew).alloc (Nat.le_refl _) (.cells (madeC (t,rule) (.slice p t.kids.length c)).toArray 72)))
    have hW5:=Hid.mk ((Go.heap_alloc_old w4.drew (.cells (madeC (t,rule) (.slice p t.kids.length c)).toArray 72) (Array.getElem?_eq_some_iff.1 hall.out.2.2).1).trans hall.out.2.2)
    have e5:=hS5.out.c7
    rw [hqvH.out] at e5
    refine wp_build_gen Tryz.underlying68 madeRow (by decide) (by decide) (madeC (t,rule) (.slice p t.kids.length c)) _ (fill4m _ _ _ _) _ rfl rfl ?_
    refine hK _ _ (fun _=>⟨e5,by simp [World.cell?,hW5.out],by simp [World.cell?,hW5.out],by simp [World.cell?,hW5.out]⟩) ?_
    clear hK K
    simp only [Act.put,List.setIfInBounds_toArray,List.set_cons_succ,List.set_cons_zero]
    refine Go.Ev.wpC_step rfl ?_
    rintro _ rfl K hK
    have q2z:=ownsRow_sm q2H.out (w':=w4.drew.alloc (.cells (madeC (t,rule) (.slice p t.kids.length c)).toArray 72)) (fun g e=>Go.heap_alloc_old w4.drew _ (q2H.out.lt g e).2)
    refine wp_app_gen Tryz.underlying68 madeRow rfl (by decide) (by decide) _ _ rfl Z V4.q st.queue.length _ (madeC (t,rule) (.slice p t.kids.length c)) rfl (by intro u hu; simp [madeC] at hu; rcases hu with rfl | rfl | rfl | rfl <;> rfl) hqvH.out.symm q2z w4.drew.heap.size rfl (heap_alloc_new w4.drew _) (by have:=hqlH.out; have:=hn256.out; omega) (Nat.le_of_lt hS5.out.zs) ?_
    intro g5 c5 w5 hown hgrow hat
    have hM5:=(hgrow.block M (hS5.out.lt (.inl rfl)) (fun e=>row_ne q2z e.symm hS5.out.cells (by decide))).trans hS5.out.cells
    have hW6:=(hgrow.block W (Array.getElem?_eq_some_iff.1 hW5.out).1 (fun e=>row_ne q2z e.symm hW5.out (by decide))).trans hW5.out
    have m7:w5.cell? ⟨M,7,none⟩=some (.slice qp st.queue.length qc):=by rw [← hqvH.out]; simp [World.cell?,hM5,mkCells]
    have fm7:w5.frozen? ⟨M,7,none⟩=false:=by simp [World.frozen?,hM5]
    refine hK _ _ (fun _=>⟨m7,by simp [World.cell?,hW6],by simp [World.cell?,hW6],by simp [World.cell?,hW6]⟩) ?_
    have hMg:M≠g5:=fun e=>by subst e; exact row_ne hown rfl hM5 (by decide)
    have hB5:Below w4.heap.size w4 (w4.drew.alloc (.cells (madeC (t,rule) (.slice p t.kids.length c)).toArray 72)):=(blw_drewN _ w4 1).trans ((Below.refl w4.drew.heap.size w4.drew).alloc (Nat.le_refl _) _)
    have htz:TrAt (fun k=>k < Z) w4 t (.slice p t.kids.length c):=htH.out.keep hall.out.2.1.size fun k h1 h2=>⟨hall.out.2.1.blk k h2 (fun e=>by have:=hSH.out.ge e; omega),h1⟩
    have hadd:=hS5.out.addQueue (w':=w5.setCell ⟨M,7,none⟩ (.slice (some ⟨g5,0,none⟩) (st.queue.length+1) c5)) (t,rule) (.slice p t.kids.length c) (.slice (some ⟨g5,0,none⟩) (st.queue.length+1) c5) qs g5 rfl q1H.out
     (fun i x s e1 e2=>(q3H.out i x s e1 e2).keep hB5.size fun k h1 h2=>⟨hB5.block k h2,h1⟩) (ownsRow_cells q2z) (htz.keep hB5.size fun k h1 h2=>⟨hB5.block k h2,h1⟩)
     (ownsRow_sm hown fun g e=>Below.heap_setCell _ _ _ _ (fun e'=>hMg (by simp [Value.ownBlock] at e; simp at e'; omega)))
     (hat.elim .inl (fun e=> .inr (Nat.le_of_eq e.symm))) (by simpa using hgrow.size) (fun g e=>(q2z.lt g e).1)
     (fun k h1 h2 h3=>(Below.heap_setCell _ _ _ _ (fun e=>h2 (by simpa using e))).trans (hgrow.block k h1 (fun e=>h3 e.symm))) ((row_set hM5).trans (by simp [mkCells]))
    have hfr:Fr (MkA M V) w (MkA M { V4 with q:= .slice (some ⟨g5,0,none⟩) (st.queue.length+1) c5 }) (w5.setCell ⟨M,7,none⟩ (.slice (some ⟨g5,0,none⟩) (st.queue.length+1) c5)):=
     (hall.out.2.1.trans (Fr.of hB5)).trans ((Fr.grown hgrow (fun k e=> .inr (.inr (.inr (.inr (.inr (.inr (.inr e))))))) hadd.2).trans (Fr.onl ((Onl.refl M _).setCell rfl _) (.inl rfl)))
    have hfin:=Hid.mk (show _∧_ from ⟨hadd.1,hfr⟩)
    clear hK K hown hgrow hat hadd hfr hM5 hW6 hMg hB5 htz e5 q2z
    simp only [Act.put,List.setIfInBounds_toArray,List.set_cons_succ,List.set_cons_zero]
    refine Go.Ev.wpC_step rfl ?_
    rintro _ rfl K hK
    simp only [Act.put] at hK
    go_simp
    refine hK undef _ (fun h=>absurd h (by decide)) ?_
    clear hK K m7 fm7
    refine Go.Ev.wpC_end ?_
    rintro _ rfl
    generalize w5.setCell ⟨M,7,none⟩ (.slice (some ⟨g5,0,none⟩) (st.queue.length+1) c5)=w6 at hfin ⊢
    obtain ⟨V6,hV6⟩:∃ V6:MV,{ V4 with q:= .slice (some ⟨g5,0,none⟩) (st.queue.length+1) c5 }=V6:=⟨_,rfl⟩
    rw [hV6] at hfin
    obtain ⟨n6,n6c,hn6⟩:=ownsRow_form hfin.out.1.names
    have z2:=hfin.out.1.c2
    rw [hn6] at z2
    simp only [List.length_append,List.length_cons,List.length_nil] at z2
    have hw64:wrap64 ((st.names.length:Nat):Int)=(st.names.length:Int):=by unfold wrap64; have:=hn256.out; omega
    clear hV6 hn6 e7 y0 y1 y2
    go_wp2_with (fail)
    go_ret
    exact ⟨rfl,V6,hfin.out.1,hfin.out.2⟩
end Go.Proofs.YtmenpmbgennhoaaGreatDoor

namespace Go.Proofs.YtmenpmbgennhoaaGreatDoor
open Go.RowKit
theorem MkP.many {G:MkG} {st:Mk} (h:MkP G st):MkP G { st with many:=true }:={ h with }
theorem MkP.sym {G:MkG} {st:Mk} (h:MkP G st) (ts:List ByteArray) (t:Tr) {rule:Nat} (hr:rule < G.rs.length):MkP G (symF G.rs ts st t rule).1:=by
 unfold symF
 split
 ·exact h
 ·split
  ·exact h
  ·split
   ·exact h.many
   ·rename_i h256
    have hcl:=h.cl
    refine { h with nm:=fun i r e=> ?_,cl:=by simpa using hcl,cs:=fun c hc=> ?_,ql:=by simp [h.ql],nl:=by simp; omega,qr:=fun x hx=> ?_ }
    ·have:=h.nm i r e
     rw [List.getElem?_append_left (List.getElem?_eq_some_iff.1 this).1]
     exact this
    ·simp only [List.length_append,List.length_cons,List.length_nil]
     rcases List.mem_or_eq_of_mem_set hc with h1 | h1
     ·have:=h.cs c h1; omega
     ·subst h1
      obtain ⟨cr,hcr⟩:∃ cr,st.count[rule]?=some cr:=⟨_,List.getElem?_eq_getElem (by rw [hcl]; exact hr)⟩
      rw [hcr]
      have:=h.cs cr (List.mem_of_getElem? hcr)
      simp
      omega
    ·simp only [List.mem_append,List.mem_cons,List.not_mem_nil,or_false] at hx
     rcases hx with h1 | h1
     ·exact h.qr x h1
     ·subst h1; exact hr
theorem rowF_at (rs:List Rl) (ts:List ByteArray) (rule:Nat) (st:Mk) (its:List Tr) (out:List Int) (i:Nat) (a:Tr) (h:its[i]?=some a) :
  rowF rs ts rule st (its.drop i) out=if 16 < out.length∨st.many=true then ({ st with many:=true },out) else rowF rs ts rule (symF rs ts st a rule).1 (its.drop (i+1)) (out++[(symF rs ts st a rule).2]):=by
 have hlt:=(List.getElem?_eq_some_iff.1 h).1
 have ha:=(List.getElem?_eq_some_iff.1 h).2
 rw [List.drop_eq_getElem_cons hlt,rowF,ha]
theorem Fr.tail {A B:Nat→Prop} {w w' w'':World} (h:Fr A w B w') (hb:Below w.heap.size w' w''):Fr A w B w'':=
 ⟨hb.os.trans h.os,hb.tape.trans h.tape,hb.output.trans h.output,Nat.le_trans h.size hb.size,fun k h1 h2=>(hb.block k h1).trans (h.blk k h1 h2),h.new⟩
theorem KidsIn.cellS {S T:Nat→Prop} {w:World} {ts:List Tr} {v:Value} (h:KidsIn S T w ts v) {i:Nat} {t:Tr} (hi:ts[i]?=some t) :
  ∃ g o c s,v= .slice (some ⟨g,o,none⟩) ts.length c∧S g∧g < w.heap.size∧ts.length≤maxLen∧TrAt T w t s∧∀ j u,(nodeC t s)[j]?=some u→w.cell? ⟨g,o+(i*3+j),none⟩=some u:=by
 obtain ⟨ss,h1,h2,h3⟩:=h
 have hlt:=(List.getElem?_eq_some_iff.1 hi).1
 obtain ⟨s,hs⟩:∃ s,ss[i]?=some s:=⟨_,List.getElem?_eq_getElem (by rw [h1]; exact hlt)⟩
 obtain ⟨g,o,c,e,q1,q2,q3,q4⟩:=h2.cellS hi hs
 exact ⟨g,o,c,s,e,q1,q2,q3,h3 i t s hi hs,q4⟩
def RowQ (Z M L:Nat) (G:MkG) (V:MV) (w:World) (x:Mk × List Int) (e:Ending) (w':World):Prop:=
 ∃ v V',e= .returned v∧w'.ownsRow w.heap.size 3 1 v x.2.length (x.2.map (Value.int .i64))∧MkS Z M L G V' x.1 w'∧Fr (MkA M V) w (MkA M V') w'∧MkP G x.1∧∀ k,v.ownBlock=some k→¬ MkA M V' k
set_option maxRecDepth 100000 in
set_option maxHeartbeats 3200000 in
theorem mrow_any (Z M L:Nat) (G:MkG) (V:MV) (st:Mk) (t:Tr) (s:Value) (rule:Nat) (w:World) (h:MkS Z M L G V st w) (hp:MkP G st) (hE:PowB Z w) (ht:TrAt (fun k=>k < Z) w t s) (hr:rule < G.rs.length) (hL:L≤w.heap.size) :
  Calls Tryz.prog 53 #[.pointer (some ⟨M,0,none⟩),nodeV t s,.int .i64 (rule:Nat)] w (RowQ Z M L G V w (rowF G.rs G.ts rule st (itemsT t) [])):=by
 obtain ⟨R,hR⟩:∃ R,rowF G.rs G.ts rule st (itemsT t) []=R:=⟨_,rfl⟩
 rw [hR]
 have hitm:=Hid.mk (fun (w':World) (hB:Below w.heap.size w w')=>items_any (fun k=>k < Z) w' (ht.keep (S':=fun k=>k < Z) hB.size fun k h1 h2=>⟨hB.block k h2,h1⟩))
 obtain ⟨p,c,rfl⟩:=ht.form
 obtain ⟨W,hW⟩:∃ W,w.heap.size=W:=⟨_,rfl⟩
 unfold nodeV at hitm ⊢
 have hB1:Below w.heap.size w (w.alloc (.cells #[.int .i64 (t.kind:Nat),.string t.text,.slice p t.kids.length c] 57)):=(Below.refl _ w).alloc (Nat.le_refl _) _
 have hc1:=heap_alloc_new w (.cells #[.int .i64 (t.kind:Nat),.string t.text,.slice p t.kids.length c] 57)
 obtain ⟨w1,hw1⟩:∃ w1,w.alloc (.cells #[.int .i64 (t.kind:Nat),.string t.text,.slice p t.kids.length c] 57)=w1:=⟨_,rfl⟩
 rw [hw1,hW] at hc1
 rw [hw1] at hB1
 have n0:w1.cell? ⟨W,0,none⟩=some (.int .i64 (t.kind:Nat)):=by simp [World.cell?,hc1]
 have n1:w1.cell? ⟨W,1,none⟩=some (.string t.text):=by simp [World.cell?,hc1]
 have n2:w1.cell? ⟨W,2,none⟩=some (.slice p t.kids.length c):=by simp [World.cell?,hc1]
 have hSH:=Hid.mk h
 have hpH:=Hid.mk hp
 have hEH:=Hid.mk hE
 have hrH:=Hid.mk hr
 have hRH:=Hid.mk hR
 have hLH:=Hid.mk hL
 have hB1H:=Hid.mk hB1
 have hs1:=Hid.mk (Array.getElem?_eq_some_iff.1 hc1).1
 clear h hp hE ht hr hR hB1 hc1 hL
 go_enter Tryz.func53,Tryz.ntmps53
 go_wp2_with (fail)
 refine (hitm.out w1 hB1H.out).mono ?_
 rintro e w2 ⟨iv,rfl,hK2,hB12⟩
 obtain ⟨ip,ic,rfl⟩:=hK2.form
 obtain ⟨its,hits⟩:∃ its,itemsT t=its:=⟨_,rfl⟩
 rw [hits] at hRH hK2 ⊢
 have hB2:=hB1H.out.trans (hB12.mono hB1H.out.size)
 have hS2:=Hid.mk (hSH.out.blw hB2)
 have hF2:=Hid.mk (Fr.of (A:=MkA M V) hB2)
 have hB2H:=Hid.mk hB2
 obtain ⟨N2,hN2⟩:∃ N2,w2.heap.size=N2:=⟨_,rfl⟩
 have hKS:=Hid.mk (hK2.keep (S':=fun k=>k < Z∨W≤k) (T':=fun k=>k < Z) (Nat.le_refl _) (fun k h1 h2=>⟨rfl,h1.elim (fun e=> .inl e.1) (fun e=> .inr (by have:=hB1H.out.size; omega))⟩) (fun k h1 h2=>⟨rfl,h1.1⟩))
 have hN2W:W≤N2:=by have:=hB2.size; omega
 have hN2H:=Hid.mk hN2
 have hWH:=Hid.mk hW
 clear hK2 hB12 hB2 hits hitm n0 n1 n2 hw1 hN2 hW
 go_wp2_with (fail)
 go_loopw [7,13] (fun u y wr=>∃ (i:Nat) (out:List Int) (st':Mk) (V':MV),y= .int .i64 (i:Nat)∧i≤its.length∧rowF G.rs G.ts rule st' (its.drop i) out=R∧wr.ownsRow N2 3 1 u out.length (out.map (Value.int .i64))∧MkS Z M L G V' st' wr∧Fr (MkA M V) w2 (MkA M V') wr∧MkP G st'∧(∀ k,u.ownBlock=some k→¬ MkA M V' k)∧out.length≤i) (fun _ y _=>its.length - (intOf y).toNat)
 case atStart=>exact ⟨0,[],st,V,rfl,Nat.zero_le _,hRH.out,⟨by simp,.inl ⟨rfl,rfl⟩⟩,hS2.out,Fr.refl _ _,hpH.out,fun k e=>(by simp [Value.ownBlock] at e),Nat.le_refl _⟩
 case round=>
  obtain ⟨i,out,st',V',rfl,hi,hl',hO,hS,hF,hP,hnA,hol⟩:=hrel
  obtain ⟨po,co,rfl⟩:=ownsRow_form hO
  by_cases hlt:i < its.length
  ·have hiI:(i:Int) < (its.length:Int):=by omega
   obtain ⟨a,ha⟩:∃ a,its[i]?=some a:=⟨_,List.getElem?_eq_getElem hlt⟩
   rw [rowF_at _ _ _ _ _ _ _ _ ha] at hl'
   obtain ⟨g,o,c0,sv,he,hSg,hgs,hml,htr,hcs⟩:=hKS.out.cellS ha
   cases he
   obtain ⟨sp,sc,rfl⟩:=htr.form
   have hib:(i:Int) < 9223372036854775807:=by unfold maxLen at hml; omega
   have hfar:∀ k,k < N2→(k < Z∨W≤k)→¬ MkA M V k:=fun k h1 h2 h3=>by
    rcases h2 with h2 | h2
    ·have:=hSH.out.ge h3; omega
    ·have:=hSH.out.lt h3; have:=hWH.out; omega
   have hkeep:∀ k,(k < Z∨W≤k)→k < w2.heap.size→wr.heap[k]?=w2.heap[k]?:=fun k h1 h2=>hF.blk k h2 (hfar k (by have:=hN2H.out; omega) h1)
   have hcs:∀ j u,(nodeC a (.slice sp a.kids.length sc))[j]?=some u→wr.cell? ⟨g,o+i*3+j,none⟩=some u:=fun j u hu=>by
    have e1:=hkeep g hSg hgs
    have e2:=hcs j u hu
    rw [← Nat.add_assoc] at e2
    rw [← e2]
    simp [World.cell?,e1]
   have htr2:TrAt (fun k=>k < Z) wr a (.slice sp a.kids.length sc):=htr.keep hF.size fun k h1 h2=>⟨hkeep k (.inl h1) h2,h1⟩
   have a0:=hcs 0 _ rfl
   have a1:=hcs 1 _ rfl
   have a2:=hcs 2 _ rfl
   simp only [Nat.add_zero] at a0
   have hgr:g < wr.heap.size:=Nat.lt_of_lt_of_le hgs hF.size
   have hgn:g≠wr.heap.size:=by omega
   have hOH:=Hid.mk hO
   have hSSH:=Hid.mk hS
   have hFH:=Hid.mk hF
   have hPH:=Hid.mk hP
   have hnAH:=Hid.mk hnA
   have hlH:=Hid.mk hl'
   have hBb:=Hid.mk ((Below.refl wr.heap.size wr).alloc (Nat.le_refl _) (.cells #[.int .i64 (a.kind:Nat),.string a.text,.slice sp a.kids.length sc] 57))
   have hcb:=heap_alloc_new wr (.cells #[.int .i64 (a.kind:Nat),.string a.text,.slice sp a.kids.length sc] 57)
   obtain ⟨T,hT⟩:∃ T,wr.heap.size=T:=⟨_,rfl⟩
   rw [hT] at hcb hgn
   have htrH:=Hid.mk htr2
   have holH:=Hid.mk hol
   clear hcs hO hS hF hP hnA hl' htr htr2 hkeep hfar hSg hgs hml hol
   go_upto_region 5 with (fail)
   generalize hwb:wr.alloc (.cells #[.int .i64 (a.kind:Nat),.string a.text,.slice sp a.kids.length sc] 57)=wb at hcb hBb ⊢
   have hsb:wb.heap.size=T+1:=by subst hwb; simp; omega
   have t0:wb.cell? ⟨T,0,none⟩=some (.int .i64 (a.kind:Nat)):=by simp [World.cell?,hcb]
   have t1:wb.cell? ⟨T,1,none⟩=some (.string a.text):=by simp [World.cell?,hcb]
   have t2:wb.cell? ⟨T,2,none⟩=some (.slice sp a.kids.length sc):=by simp [World.cell?,hcb]
   have hSb:=hSSH.out.blw hBb.out
   have c9:=hSb.c9
   have f9:=hSb.fz 9
   have hN2r:N2≤wr.heap.size:=by have:=hFH.out.size; have:=hN2H.out; omega
   have hFb:=Hid.mk (hFH.out.trans (Fr.of (A:=MkA M V') hBb.out))
   have hOb:=Hid.mk (ownsRow_sm hOH.out (w':=wb) (fun g e=>hBb.out.block g (hOH.out.lt g e).2))
   have hSbH:=Hid.mk hSb
   have hTH:=Hid.mk hT
   have hsbH:=Hid.mk hsb
   have htrb:=Hid.mk (htrH.out.keep (S':=fun k=>k < Z) hBb.out.size fun k h1 h2=>⟨hBb.out.block k h2,h1⟩)
   clear hwb hSb hcb hT a0 a1 a2 hgn hgr hsb
   have hbreak:RowQ Z M L G V w R (.returned (.slice po out.length co)) (wb.setCell ⟨M,9,none⟩ (.bool true))∨¬ (16 < out.length∨st'.many=true):=by
    by_cases hc:16 < out.length∨st'.many=true
    ·left
     have hl:=hlH.out
     rw [if_pos hc] at hl
     subst hl
     have ho:=(Onl.refl M wb).setCell (p:=⟨M,9,none⟩) rfl (.bool true)
     have hrow:(wb.setCell ⟨M,9,none⟩ (.bool true)).ownsRow N2 3 1 (.slice po out.length co) out.length (out.map (Value.int .i64)):=ownsRow_sm hOb.out fun g e=>Below.heap_setCell _ _ _ _ (fun e'=>by
      have hgM:g=M:=by simpa using e'
      subst hgM
      exact row_ne hOb.out e hSbH.out.cells (by decide))
     exact ⟨_,V',rfl,ownsRow_base' hrow (by have:=hWH.out; omega),hSbH.out.setMany ((row_set hSbH.out.cells).trans (by simp [mkCells])) ho,hF2.out.trans (hFb.out.trans (Fr.onl ho (.inl rfl))),hPH.out.many,hnAH.out⟩
    ·exact .inr hc
   by_cases h16:16 < out.length
   ·have h16i:(16:Int) < (out.length:Int):=by omega
    have hq:=Hid.mk (hbreak.resolve_right (fun h=>h (.inl h16)))
    clear hbreak h16
    go_wp2_with (fail)
    go_ret
    exact hq.out
   ·have h16i:((16:Int) < (out.length:Int))=False:=eq_false (by omega)
    cases hmn:st'.many with
    | true=>
     have hq:=Hid.mk (hbreak.resolve_right (fun h=>h (.inr hmn)))
     rw [hmn] at c9
     clear hbreak h16 hmn
     go_wp2_with (fail)
     go_ret
     exact hq.out
    | false=>
     rw [hmn] at c9
     have hl:=hlH.out
     rw [if_neg (by simp [hmn,h16])] at hl
     have hlH:=Hid.mk hl
     clear hbreak h16 hmn hl
     have hEb:PowB Z wb:=hEH.out.blw (((hB2H.out.mono (Nat.le_of_lt hSH.out.zs)).trans (hFb.out.blw (fun k e=>hSH.out.ge e) (Nat.le_of_lt hS2.out.zs))))
     have hsym:=Hid.mk (sym_any Z M L G V' st' a _ rule wb hSbH.out hPH.out hEb htrb.out hrH.out)
     unfold nodeV at hsym
     obtain ⟨sv,hsv⟩:∃ sv,symF G.rs G.ts st' a rule=sv:=⟨_,rfl⟩
     have hP5:=Hid.mk (hPH.out.sym G.ts a hrH.out)
     rw [hsv] at hsym hlH hP5
     clear hEb hsv
     have hlen:=Hid.mk (show out.length≤16 by have:=h16i; simp at this; omega)
     have hltH:=Hid.mk hlt
     go_wp2_with (fail)
     refine hsym.out.mono ?_
     rintro e w5 ⟨rfl,V5,hS5,hF5⟩
     have hownk:∀ k,(Value.slice po out.length co).ownBlock=some k→¬ MkA M V5 k:=fun k hk hA=>by
      rcases hF5.new k hA with h1 | h1
      ·exact hnAH.out k hk h1
      ·have h2:=(hOb.out.lt k hk).2; omega
     have hO5:=ownsRow_sm hOb.out (w':=w5) fun g e=>hF5.blk g (hOb.out.lt g e).2 (hnAH.out g e)
     have hN5:N2≤w5.heap.size:=by have:=hF5.size; have:=hsbH.out; have:=hTH.out; omega
     have hall:=Hid.mk (show _∧_∧_∧_ from ⟨hS5,hF5,hO5,hownk⟩)
     have hO5H:=Hid.mk hO5
     clear hS5 hF5 hO5 hownk t0 t1 t2 c9 f9 hsym
     go_wp2_with (first | (refine wpList_plain rfl fun _ hK=>wp_build_gen Tryz.underlying37 intRow (by decide) (by decide) [.int .i64 sv.2] _ (fill1i _) _ rfl rfl (hK _ _ ?_)) | (at_builtin; refine wpList_app_gen Tryz.underlying37 intRow rfl (by decide) (by decide) rfl _ _ rfl N2 _ out.length _ [.int .i64 sv.2] rfl (by intro u hu; simp at hu; subst hu; rfl) w5 rfl rfl hO5H.out rfl (by have:=hlen.out; omega) hN5 ?_; intro g' cc w7 hO7 hg7 hat))
     obtain ⟨hS5,hF5,hO5,hownk⟩:=hall.out
     have hS7:MkS Z M L G V5 sv.1 w7:=hS5.keep hg7.size fun k h1 h2=>hg7.block k h1 (fun e=>by
      rcases h2 with h2 | h2
      ·exact hownk k e.symm h2
      ·have:=(hO5.lt k e.symm).1; have:=hLH.out; have:=hWH.out; omega)
     have hF7:Fr (MkA M V) w2 (MkA M V5) w7:=(hFb.out.trans hF5).tail (by
      rw [hN2H.out]
      exact (Below.refl N2 w5).grown hg7 hN5 (fun j hj=>(hO5.lt j hj).1))
     refine ⟨⟨i+1,out++[sv.2],sv.1,V5,by simp,by have:=hltH.out; omega,hlH.out,by simpa using hO7,hS7,hF7,hP5.out,fun k hk hA=> ?_,by have:=holH.out; simp; omega⟩,by have:=hltH.out; simp [intOf]; omega⟩
     have hk':g'=k:=by simpa [Value.ownBlock] using hk
     subst hk'
     rcases hat with h1 | h1
     ·exact hownk _ h1 hA
     ·have:=hS5.lt hA; omega
  ·have hiI:((i:Int) < (its.length:Int))=False:=eq_false (by omega)
   have hd:its.drop i=[]:=List.drop_eq_nil_of_le (by omega)
   rw [hd,rowF] at hl'
   subst hl'
   have hq:=Hid.mk (show RowQ Z M L G V w (st',out) (.returned (.slice po out.length co)) wr from ⟨_,V',rfl,ownsRow_base' hO (by have:=hWH.out; omega),hS,hF2.out.trans hF,hP,hnA⟩)
   clear hO hS hF hP hnA hd
   go_wp2_with (fail)
   go_ret
   exact hq.out
end Go.Proofs.YtmenpmbgennhoaaGreatDoor

namespace Go.Proofs.YtmenpmbgennhoaaGreatDoor
open Go.RowKit
theorem MkP.add {G:MkG} {st:Mk} (h:MkP G st) (left:Nat) (right:List Int):MkP G (addF st left right):=by
 unfold addF
 split
 ·exact h.many
 ·rename_i hc
  exact { h with pl:=by simp; omega }
theorem eachF_at (rs:List Rl) (ts:List ByteArray) (mode left rule:Nat) (st:Mk) (rws:List Tr) (i:Nat) (a:Tr) (h:rws[i]?=some a) (x:Mk × List Int) (hx:rowF rs ts rule st (itemsT a) []=x) :
  eachF rs ts mode left rule st (rws.drop i)=eachF rs ts mode left rule (if mode=0 then addF x.1 left x.2 else if mode=1 then addF x.1 left (x.2++[(left:Int)]) else addF (addF x.1 left x.2) left (x.2++[(left:Int)])) (rws.drop (i+1)):=by
 have hlt:=(List.getElem?_eq_some_iff.1 h).1
 have ha:=(List.getElem?_eq_some_iff.1 h).2
 rw [List.drop_eq_getElem_cons hlt,eachF,ha,hx]
theorem ints_of_own {Z L N M:Nat} {V:MV} {w:World} {v:Value} {l:List Int} (h:w.ownsRow N 3 1 v l.length (l.map (Value.int .i64))) (hZ:Z≤N) (hL:w.heap.size≤L) (hA:∀ k,v.ownBlock=some k→¬ MkA M V k):IntsAt (fun k=>Z≤k∧k < L∧¬ MkA M V k) w v l:=by
 rcases h.2 with ⟨rfl,h0⟩ | ⟨g,cap,cur,rfl,hb,hg,hm1,hm2,_⟩
 ·exact .inl ⟨none,0,by rw [h0],h0⟩
 ·have hlt:=(Array.getElem?_eq_some_iff.1 hg).1
  refine .inr ⟨g,0,cap,rfl,⟨by omega,by omega,hA g rfl⟩,hlt,Nat.le_trans hm1 hm2,fun j u hu=> ?_⟩
  have:=h.cells (g:=g) rfl j u hu
  rw [Addr.add_lit] at this
  exact this
theorem cloneI_any {N:Nat} {w:World} {v:Value} {l:List Int} (h:w.ownsRow N 3 1 v l.length (l.map (Value.int .i64))) (hl:l.length≤1000000) :
  Calls Tryz.prog 54 #[v] w fun e w'=>∃ v',e= .returned v'∧w'.ownsRow w.heap.size 3 1 v' l.length (l.map (Value.int .i64))∧Below w.heap.size w w':=by
 rcases h.2 with ⟨rfl,h0⟩ | ⟨g,cap,cur,rfl,hb,hg,hm1,hm2,_⟩
 ·refine (Tryz.slices_Clone_int_nil 0 0 w).mono ?_
  rintro e w' ⟨rfl,rfl⟩
  exact ⟨_,rfl,⟨by simp,.inl ⟨rfl,h0⟩⟩,Below.refl _ _⟩
 ·refine (Tryz.slices_Clone_int g 0 l.length cap l w (Nat.le_refl _) (by omega) (fun j hj=> ?_)).mono ?_
  ·have:=h.cells (g:=g) rfl j (.int .i64 (l.getD j 0)) (by rw [List.getElem?_map,List.getD,List.getElem?_eq_getElem hj]; rfl)
   rw [Addr.add_lit] at this
   exact this
  ·rintro e w' ⟨v',rfl,h1,_,h2⟩
   rw [List.take_length] at h1
   exact ⟨v',rfl,h1,h2⟩
theorem rowF_le (rs:List Rl) (ts:List ByteArray) (rule:Nat):∀ (l:List Tr) (st:Mk) (out:List Int),(rowF rs ts rule st l out).2.length≤max out.length 17
 | [],st,out=>by simp [rowF]; omega
 | a::l,st,out=>by
  rw [rowF]
  split
  ·simp; omega
  ·rename_i hc
   have:=rowF_le rs ts rule l (symF rs ts st a rule).1 (out++[(symF rs ts st a rule).2])
   simp at this
   omega
theorem made_cells {Z M L:Nat} {G:MkG} {V:MV} {st:Mk} {w:World} (h:MkS Z M L G V st w) {i:Nat} {x:Tr × Nat} (hx:st.queue[i]?=some x) :
  ∃ g c s,V.q= .slice (some ⟨g,0,none⟩) st.queue.length c∧g < w.heap.size∧TrAt (fun k=>k < Z) w x.1 s∧∀ j u,(madeC x s)[j]?=some u→w.cell? ⟨g,i*4+j,none⟩=some u:=by
 obtain ⟨qs,q1,q2,q3⟩:=h.queue
 have hlt:=(List.getElem?_eq_some_iff.1 hx).1
 obtain ⟨s,hs⟩:∃ s,qs[i]?=some s:=⟨_,List.getElem?_eq_getElem (by rw [q1]; exact hlt)⟩
 rcases q2.2 with ⟨_,h0⟩ | ⟨g,cap,cur,hv,hb,hg,hm1,hm2,_⟩
 ·omega
 ·refine ⟨g,cap,s,hv,(Array.getElem?_eq_some_iff.1 hg).1,q3 i x s hx hs,fun j u hu=> ?_⟩
  have hj:j < 4:=by
   have:=(List.getElem?_eq_some_iff.1 hu).1
   simpa [madeC] using this
  rw [hv] at q2
  have:=q2.cells (g:=g) rfl (i*4+j) u (by rw [grid_get (f:=madeC) (n:=4) (fun _ _=>rfl) _ _ _ _ _ hx hs j hj]; exact hu)
  rw [Addr.add_lit,Nat.zero_add] at this
  exact this
end Go.Proofs.YtmenpmbgennhoaaGreatDoor
