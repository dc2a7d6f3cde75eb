/- The law of ReplicaDeaf, walked. The law of ReplicaDeaf, walked. Printed by genrl.py. An array of two numbers, opened. -/
import Derived.Great.BuildSlice
import Derived.Test.YtniamhbcmcgonaaGreatDoorRph
import Derived.Test.YtniamhbcmcgonaaGreatDoorSpr
import Derived.WideShapes
import Derived.ChangeShapes
import Derived.OpenShut
namespace Go.Proofs.YtniamhbcmcgonaaGreatDoor
open Go.RowKit Go.Ev
theorem band_lt (n:Int) (m:Nat) (hm:m < 4294967296):∃ v:Nat,v≤m∧bits .and .i64 n (m:Int)=(v:Int):=by
 have h2:(BitVec.ofInt 64 (m:Int)).toNat=m:=by
  rw [BitVec.toNat_ofInt]; omega
 have h1:(BitVec.ofInt 64 n &&& BitVec.ofInt 64 (m:Int)).toNat≤m:=by
  rw [BitVec.toNat_and,h2]; exact Nat.and_le_right
 refine ⟨_,h1,?_⟩
 show IntKind.i64.wrap ((BitVec.ofInt 64 n &&& BitVec.ofInt 64 (m:Int)).toNat:Nat)=_
 rw [IntKind.wrap_i64]
 omega
theorem halves_of {w:World} (hg:GlobMet w):HalvesAt w:=by
 have key:∀ i,i < 16→glob 0 i=some (.int .u32 (hvs.getD i 0:Nat)):=by
  intro i hi
  rcases (by omega:i=0∨i=1∨i=2∨i=3∨i=4∨i=5∨i=6∨i=7∨i=8∨i=9∨i=10∨i=11∨i=12∨i=13∨i=14∨i=15) with rfl | rfl | rfl | rfl | rfl | rfl | rfl | rfl | rfl | rfl | rfl | rfl | rfl | rfl | rfl | rfl <;> kernel_rfl
 exact ⟨(hg _ 0 _ (key 0 (by decide))).1,fun i hi=>(hg _ i _ (key i hi)).2.2.1⟩
theorem goodNn {v:Nat} (h:v≤2000000):goodN (v:Int):=⟨by omega,by omega⟩
theorem mv_le {k f n a b c v:Int} (hk:k=3∨k=6) (hf:goodN f) (hn:goodN n) (ha:goodN a) (hb:goodN b) (hc:goodN c) (hv:goodN v):(putP (mv k f n a b c v)).length≤1000000:=by
 have h1:=numP_le hf; have h2:=numP_le hn; have h3:=numP_le ha; have h4:=numP_le hb; have h5:=numP_le hc; have h6:=numP_le hv; have h7:=numP_le good0
 have hl:(allP (mv k f n a b c v)).length≤56:=by
  unfold allP hdP bodyP tailP viewsP mv
  rcases hk with rfl | rfl <;> simp [tailB] <;> omega
 have hk':=numP_le (z:=k) ⟨by omega,by omega⟩
 unfold putP
 split
 ·unfold wrapP bodyM
  have hp:=putN_le (n:=(numP (mv k f n a b c v).kind++allP (mv k f n a b c v)).length) (by
   rw [List.length_append]
   have:(mv k f n a b c v).kind=k:=rfl
   rw [this]; omega)
  have e:∀ s:Str,(sealP s).length=4:=fun _=>rfl
  rw [List.length_append,List.length_append,e]
  have e2:(numP (mv k f n a b c v).kind++allP (mv k f n a b c v)).length≤64:=by
   rw [List.length_append]
   have:(mv k f n a b c v).kind=k:=rfl
   rw [this]; omega
  omega
 ·simp
end Go.Proofs.YtniamhbcmcgonaaGreatDoor
namespace Go.Proofs.YtniamhbcmcgonaaGreatDoor
open Go.RowKit Go.Ev
theorem put_mv {k f n a b c v:Int} (hk:k=3∨k=6) (B:Nat) (vk:Value) (w:World) (hh:HalvesAt w) (hi:IntsV w vk [a,b,c]) :
  Calls Tryz.prog 8 #[.agg (msC (mv k f n a b c v) vk (.slice none 0 0)),.int .i64 3] w fun e w'=>e= .returned (.string (bs (putP (mv k f n a b c v))))∧Below w.heap.size w w':=
 mput_any (mv k f n a b c v) vk none 0 B (fun h=>by have:k=1:=h; omega) (by show 3≤50; omega) (by show 0≤1000; omega) w hh hi (World.ownsRow_nil _ _ _ _)
structure LawW (B R KB A V M N:Nat) (k:Int) (mach:Value) (T8 T9 TA K9 KA:Nat) (u v:Int) (w0 w:World):Prop where
 r:Rep B R KB A V M N 1 0 k mach false fls3 nil3 nilO w
 t8:w.heap[T8]?=some (.cells #[.int .i64 1,.int .i64 0,.int .i64 0,.int .i64 0,.int .i64 0] 27 (0,0))
 t9:w.heap[T9]?=some (.cells (msC (mv 6 2 u 0 0 0 v) (.slice (some ⟨K9,0,none⟩) 3 3) (.slice none 0 0)) 35 (0,0))
 k9:w.heap[K9]?=some (.cells (intRow [0,0,0]) 3 (0,0))
 ta:w.heap[TA]?=some (.cells (msC (mv 6 1 0 0 0 0 v) (.slice (some ⟨KA,0,none⟩) 3 3) (.slice none 0 0)) 35 (0,0))
 ka:w.heap[KA]?=some (.cells (intRow [0,0,0]) 3 (0,0))
 b:Below w0.heap.size w0 w
 q:w0.heap.size≤B
 l:w0.heap.size≤T9
 h:HalvesAt w
 p:0 < B
section
variable {B R KB A V M N:Nat} {k:Int} {mach:Value} {T8 T9 TA K9 KA:Nat} {u v:Int} {w0 w w':World}
theorem LawW.kx (h:LawW B R KB A V M N k mach T8 T9 TA K9 KA u v w0 w) (hr:Rep B R KB A V M N 1 0 k mach false fls3 nil3 nilO w') (hk:Kx (fun i=>i=R) w w'):LawW B R KB A V M N k mach T8 T9 TA K9 KA u v w0 w':=by
 have hne:∀ {j:Nat} {cs:Array Value} {t:TypeId},t≠60→w.heap[j]?=some (.cells cs t (0,0))→w'.heap[j]?=some (.cells cs t (0,0)):=fun ht hj=>(hk.block _ (Array.getElem?_eq_some_iff.1 hj).1 (fun e=>(h.r.other hj).1 ht e.symm)).trans hj
 have hl:Below B w w':=hk.low (Nat.le_trans h.r.rl (Nat.le_of_lt h.r.lt)) (fun i hi hs=>by have:=h.r.rl; omega)
 exact ⟨hr,hne (by decide) h.t8,hne (by decide) h.t9,hne (by decide) h.k9,hne (by decide) h.ta,hne (by decide) h.ka,h.b.trans (hl.mono h.q),h.q,h.l,h.h.low hl h.p,h.p⟩
theorem LawW.below (h:LawW B R KB A V M N k mach T8 T9 TA K9 KA u v w0 w) (hb:Below w.heap.size w w'):LawW B R KB A V M N k mach T8 T9 TA K9 KA u v w0 w':=h.kx (h.r.below hb) (Kx.of hb)
end
theorem stat_f0 (a b c d e:Value) (w:World):(Instr.field 27 (.agg #[a,b,c,d,e]) 0).run Tryz.prog w= .ok a w:=by
 kernel_rfl
theorem stat_f1 (a b c d e:Value) (w:World):(Instr.field 27 (.agg #[a,b,c,d,e]) 1).run Tryz.prog w= .ok b w:=by kernel_rfl
theorem stat_eq (w:World):(binOp .neq 27 (.agg #[.int .i64 1,.int .i64 0,.int .i64 0,.int .i64 0,.int .i64 0]) (.agg #[.int .i64 1,.int .i64 0,.int .i64 0,.int .i64 0,.int .i64 0])).run Tryz.prog w= .ok (.bool false) w:=by kernel_rfl
set_option maxRecDepth 100000 in
set_option maxHeartbeats 25600000 in
theorem deaf_any (s:Str) (n0 n1:Int) (w:World) (hg:GlobMet w) (hw100:0 < w.heap.size):Calls Tryz.prog 3 #[.string (bs s),.agg #[.int .i64 n0,.int .i64 n1]] w fun e w'=>e= .returned (.bool true)∧Below w.heap.size w w':=by
 have hm:Tryz.prog.follows .mixedOrders=true:=by kernel_rfl
 have hsp:=Hid.mk (fun w (h:GlobMet w)=>speaks_any h)
 obtain ⟨i0,hi,hz0,hz1,hz2⟩:=info_parts intInfo
 have hgH:=Hid.mk hg
 have hhH:=Hid.mk (halves_of hg)
 have hpos:=Hid.mk hw100
 obtain ⟨vn,hvn,hv⟩:=band_lt n0 1048575 (by decide)
 obtain ⟨u,hu,hu2⟩:=band_lt n1 65535 (by decide)
 have hv':bits .and .i64 n0 1048575=(vn:Int):=hv
 have hu':bits .and .i64 n1 65535=(u:Int):=hu2
 clear hg hw100 hv hu2
 go_enter Tryz.func3,Tryz.ntmps3
 go_upto_region 0 with fail
 go_cut [1,3] (fun _ y wr=>y= .pointer (some ⟨w.heap.size,0,none⟩)∧wr.heap[w.heap.size]?=some (.cells #[.int .i64 n0,.int .i64 n1] 22 (0,0))∧Below w.heap.size w wr)
 case first=>as_aux_lemma=>
  go_wp2_with (fail)
  go_meet
  refine ⟨rfl,?_,(Below.refl _ w).alloc (Nat.le_refl _) _⟩
  exact heap_alloc_new _ _
 case rest=>
  obtain ⟨rfl,hS,hB⟩:=hcut
  rename World=>w1
  have hB1:=Hid.mk hB
  have d0:w1.cell? ⟨w.heap.size,0,none⟩=some (.int .i64 n0):=(cell_of_row _ _ _ _ _ _ hS).trans rfl
  have hS1:=Hid.mk hS
  have hg1:=Hid.mk (show GlobMet w1 from fun b o u h=>by
   obtain ⟨q1,q2,q3,q4⟩:=hgH.out b o u h
   exact ⟨Nat.lt_of_lt_of_le q1 hB.size,q2,(hB.cell (by exact q1)).trans q3,q4⟩)
  have hsp1:=Hid.mk (hsp.out w1 hg1.out)
  clear hS hB d0 hsp
  go_upto_region 3 with (go_at_call 4; refine hsp1.out.mono ?_; rintro e wz ⟨rfl,hBz⟩; replace hBz:=Hid.mk hBz)
  have hb:=hBz.out
  have hS2:=Hid.mk ((hb.block _ (Array.getElem?_eq_some_iff.1 hS1.out).1).trans hS1.out)
  have hB2:=Hid.mk (hB1.out.trans (hb.mono hB1.out.size))
  clear hsp1 hB1 hS1 hBz hb hg1
  rename World=>w2
  by_cases hlen:500 < s.length
  ·as_aux_lemma=>
    have e1:((500:Int) < ((bs s).size:Nat))=True:=eq_true (by rw [bs_size]; omega)
    clear hlen
    go_wp2_with (fail)
    go_ret
    exact ⟨rfl,hB2.out⟩
  have e1:((500:Int) < ((bs s).size:Nat))=False:=eq_false (by rw [bs_size]; omega)
  have hlenH:=Hid.mk hlen
  have hSw:=Hid.mk (Array.getElem?_eq_some_iff.1 hS2.out).1
  clear hlen
  go_upto_region 5 with fail
  go_cut [5] (fun y wr=>∃ R KB A V M N mach,y= .pointer (some ⟨R,0,none⟩)∧Rep w2.heap.size R KB A V M N 1 0 0 mach false fls3 nil3 nilO wr∧Below w2.heap.size w2 wr)
  case first=>as_aux_lemma=>
   go_wp2_with (fail)
   go_at_call 5
   refine (new_any w2).mono ?_
   rintro e wz ⟨R,KB,A,V,M,N,mach,rfl,hR,hBz⟩
   have hX:=Hid.mk (And.intro hR hBz)
   clear hR hBz
   go_wp2_with (fail)
   go_meet
   exact ⟨R,KB,A,V,M,N,mach,rfl,hX.out⟩
  case rest=>
   obtain ⟨R,KB,A,V,M,N,mach,rfl,hR,hB⟩:=hcut
   rename World=>w3
   obtain ⟨B,hBe⟩:∃ B,w2.heap.size=B:=⟨_,rfl⟩
   have hS3w:=(hB.block _ hSw.out).trans hS2.out
   have d0:w3.cell? ⟨w.heap.size,0,none⟩=some (.int .i64 n0):=(cell_of_row _ _ _ _ _ _ hS3w).trans rfl
   have d1:w3.cell? ⟨w.heap.size,1,none⟩=some (.int .i64 n1):=(cell_of_row _ _ _ _ _ _ hS3w).trans rfl
   have hwB:=Hid.mk (show w.heap.size≤B by rw [← hBe]; exact hB2.out.size)
   have hBpos:=Hid.mk (show 0 < B by have:=hwB.out; have:=hpos.out; omega)
   rw [hBe] at hR hB
   have hR3:=Hid.mk hR
   have hB3:=Hid.mk (show Below w.heap.size w w3 from hB2.out.trans (hB.mono hwB.out))
   have hwr:IntKind.i64.wrap (1+(u:Int))=((1+u:Nat):Int):=by rw [IntKind.wrap_i64]; omega
   clear hR hB hBe hS3w hB2 hS2 hSw e1
   go_upto_region 8 with fail
   have hst:=Hid.mk (status_any hR3.out)
   go_cut [8] (fun y wr=>∃ T8,y= .pointer (some ⟨T8,0,none⟩)∧wr.heap[T8]?=some (.cells #[.int .i64 1,.int .i64 0,.int .i64 0,.int .i64 0,.int .i64 0] 27 (0,0))∧Below w3.heap.size w3 wr)
   case first=>as_aux_lemma=>
    go_wp2_with (fail)
    go_at_call 6
    refine hst.out.mono ?_
    rintro e wz ⟨rfl,hBz⟩
    have hBzH:=Hid.mk hBz
    clear hBz
    have hcl:=Hid.mk (heap_alloc_new wz (.cells #[.int .i64 0,.int .i64 0,.int .i64 0,.int .i64 0,.int .i64 0] 27))
    go_wp2_with (first | (refine wpList_store_row rfl 27 _ _ rfl wz.heap.size #[.int .i64 1,.int .i64 0,.int .i64 0,.int .i64 0,.int .i64 0] rfl rfl 27 _ hcl.out stInfo rfl (by simp [Value.oneCell']) ?_))
    go_meet
    exact ⟨wz.heap.size,rfl,setRow_heap _ _ _ _ _ _ hcl.out,hBzH.out.trans ((setRow_low ((Below.refl _ wz).alloc (Nat.le_refl _) _) wz.heap.size _ (Nat.le_refl _)).mono hBzH.out.size)⟩
   case rest=>
    clear hst d0 d1
    obtain ⟨T8,rfl,hT8,hB⟩:=hcut
    rename World=>w4
    have hR4:=Hid.mk (hR3.out.below hB)
    have hT4:=Hid.mk hT8
    have hB4:=Hid.mk (hB3.out.trans (hB.mono hB3.out.size))
    clear hR3 hT8 hB3 hB
    go_upto_region 9 with fail
    go_cut [37] (fun _ wr=>Rep B R KB A V M N 1 0 ((1+u:Nat):Int) mach false fls3 nil3 nilO wr∧wr.heap[T8]?=some (.cells #[.int .i64 1,.int .i64 0,.int .i64 0,.int .i64 0,.int .i64 0] 27 (0,0))∧Below w.heap.size w wr)
    case first=>as_aux_lemma=>
     have hI:=Hid.mk (show IntsV (w4.alloc (.cells (intRow [0,0,((1+u:Nat):Int)]) 3)) (.slice (some ⟨w4.heap.size,0,none⟩) 3 3) [0,0,((1+u:Nat):Int)] from IntsV.row (l:=[0,0,((1+u:Nat):Int)]) (cap:=3) (heap_alloc_new _ _))
     have hBa:=Hid.mk (show Below w4.heap.size w4 (w4.alloc (.cells (intRow [0,0,((1+u:Nat):Int)]) 3)) from (Below.refl _ w4).alloc (Nat.le_refl _) _)
     have hRa:=Hid.mk (hR4.out.below hBa.out)
     have hha:=Hid.mk (hhH.out.low (hB4.out.trans (hBa.out.mono hB4.out.size)) hpos.out)
     have hput:=put_mv (k:=3) (f:=0) (n:=0) (a:=0) (b:=0) (c:=((1+u:Nat):Int)) (v:=0) (.inl rfl) B (.slice (some ⟨w4.heap.size,0,none⟩) 3 3) _ hha.out hI.out
     have hfl:=Hid.mk (mv_le (k:=3) (f:=0) (n:=0) (a:=0) (b:=0) (c:=((1+u:Nat):Int)) (v:=0) (.inl rfl) good0 good0 good0 good0 (goodNn (by omega)) good0)
     have hgt:=Hid.mk (get_mv (k:=3) (f:=0) (n:=0) (a:=0) (b:=0) (c:=((1+u:Nat):Int)) (v:=0) (.inl rfl) ⟨by omega,by omega⟩ good0 good0 good0 (goodNn (by omega)) good0)
     obtain ⟨fr,hfr⟩:∃ fr,putP (mv 3 0 0 0 0 ((1+u:Nat):Int) 0)=fr:=⟨_,rfl⟩
     rw [hfr] at hput hfl hgt
     have hrc:=Hid.mk (fun (wz:World) (hBz:Below (w4.alloc (.cells (intRow [0,0,((1+u:Nat):Int)]) 3)).heap.size (w4.alloc (.cells (intRow [0,0,((1+u:Nat):Int)]) 3)) wz)=>receive_new (hRa.out.below hBz) (hha.out.below hBz) fr hfl.out ((1+u:Nat):Int) (by omega) hgt.out)
     unfold msC mv at hput
     simp only at hput
     have hputH:=Hid.mk hput
     clear hput hfr hfl hgt
     go_wp2_with (first | (refine wpList_buildSlice rfl 32 3 3 _ rfl (intRow [0,0,((1+u:Nat):Int)]) i0 (.int .i64 0) Tryz.underlying32 hi hz0 ?a1 ?a2 ?a3 ?_) | (go_at_call 8; refine hputH.out.mono ?_; rintro e wz ⟨rfl,hBz⟩; replace hBz:=Hid.mk hBz) | (go_at_call 7; refine (hrc.out _ hBz.out).mono ?_; rintro e wy ⟨rfl,hRy,hKy⟩; replace hRy:=Hid.mk hRy; replace hKy:=Hid.mk hKy))
     case a1=>rw [hz1]; decide
     case a2=>rw [hz1]; decide
     case a3=>rfl
     go_meet
     have hall:=hBa.out.trans (hBz.out.mono hBa.out.size)
     have hTz:=(hall.block _ (Array.getElem?_eq_some_iff.1 hT4.out).1).trans hT4.out
     have hRz:=hRa.out.below hBz.out
     obtain ⟨o1,o2,o3,o4,o5,o6⟩:=hRz.other hTz
     have q1:=o1 (by decide); have q2:=o2 (by decide); have q3:=o3 (by decide); have q4:=o4 (by decide); have q5:=o5 (by decide); have q6:=o6 (by decide)
     refine ⟨hRy.out,(hKy.out.block _ (Array.getElem?_eq_some_iff.1 hTz).1 (fun hs=>by unfold SS at hs; omega)).trans hTz,?_⟩
     exact hB4.out.trans ((hall.mono hB4.out.size).trans (hKy.out.low (by have:=hall.size; have:=hB4.out.size; omega) (fun i hi hs=>by
      have:=hwB.out; have:=hRz.rl; have:=hRz.kl; have:=hRz.al; have:=hRz.vl; have:=hRz.ml; have:=hRz.nl
      unfold SS at hs; omega)))
    case rest=>
     clear hR4 hT4 hB4
     obtain ⟨hR,hT,hB⟩:=hcut
     rename World=>w5
     have hR5:=Hid.mk hR
     have hT5:=Hid.mk hT
     have hB5:=Hid.mk hB
     have hws:IntKind.i64.wrap (((1+u:Nat):Int) - 1)=(u:Int):=by rw [IntKind.wrap_i64]; omega
     clear hR hT hB
     go_upto_region 10 with fail
     go_cut [9] (fun y wr=>∃ T9 K9,y= .pointer (some ⟨T9,0,none⟩)∧wr.heap[T9]?=some (.cells (msC (mv 6 2 (u:Nat) 0 0 0 (vn:Nat)) (.slice (some ⟨K9,0,none⟩) 3 3) (.slice none 0 0)) 35 (0,0))∧wr.heap[K9]?=some (.cells (intRow [0,0,0]) 3 (0,0))∧Below w5.heap.size w5 wr∧w5.heap.size≤T9)
     case first=>as_aux_lemma=>
      obtain ⟨wa,hwa⟩:∃ wa,w5.alloc (.cells (intRow [0,0,0]) 3)=wa:=⟨_,rfl⟩
      have hka:=Hid.mk (show wa.heap[w5.heap.size]?=some (.cells (intRow [0,0,0]) 3 (0,0)) from hwa▸heap_alloc_new _ _)
      have hba:=Hid.mk (show Below w5.heap.size w5 wa from hwa▸(Below.refl _ w5).alloc (Nat.le_refl _) _)
      have hcl:=Hid.mk (heap_alloc_new wa (.cells (msC msZ nilS nilS) 35))
      have hsub:(1+(u:Int) - 1)=(u:Int):=by omega
      go_wp2_with (first | (refine wpList_buildSlice rfl 32 3 3 _ rfl (intRow [0,0,0]) i0 (.int .i64 0) Tryz.underlying32 hi hz0 ?a1 ?a2 ?a3 ?a4; (case' a4=>rw [hwa])))
      case a1=>rw [hz1]; decide
      case a2=>rw [hz1]; decide
      case a3=>rfl
      go_meet
      have hBa:=fun o=>(Below.refl _ wa).alloc (Nat.le_refl _) o
      exact ⟨wa.heap.size,w5.heap.size,rfl,heap_alloc_new _ _,((hBa _).block _ (Array.getElem?_eq_some_iff.1 hka.out).1).trans hka.out,hba.out.trans ((hBa _).mono hba.out.size),hba.out.size⟩
     case rest=>
      obtain ⟨T9,K9,rfl,hT9,hK9,hB,hTl⟩:=hcut
      have hT9l:=Hid.mk (show w.heap.size≤T9 from Nat.le_trans hB5.out.size hTl)
      clear hTl
      rename World=>w6
      have hR6:=Hid.mk (hR5.out.below hB)
      have hT6:=Hid.mk ((hB.block _ (Array.getElem?_eq_some_iff.1 hT5.out).1).trans hT5.out)
      have hB6:=Hid.mk (hB5.out.trans (hB.mono hB5.out.size))
      have hT96:=Hid.mk hT9
      have hK96:=Hid.mk hK9
      clear hR5 hT5 hB5 hT9 hK9 hB
      go_upto_region 11 with fail
      go_cut [10] (fun y wr=>∃ TA KA,y= .pointer (some ⟨TA,0,none⟩)∧LawW B R KB A V M N ((1+u:Nat):Int) mach T8 T9 TA K9 KA (u:Nat) (vn:Nat) w wr)
      case first=>as_aux_lemma=>
       go_wp2_with (fail)
       go_meet
       have hall:∀ a b:Obj,Below w6.heap.size w6 ((w6.alloc a).alloc b):=fun a b=>((Below.refl _ w6).alloc (Nat.le_refl _) _).alloc (by simp) _
       have hk:=fun (a b:Obj) {j:Nat} {o:Obj} (h:w6.heap[j]?=some o)=>((hall a b).block j (Array.getElem?_eq_some_iff.1 h).1).trans h
       have hBw:=fun (a b:Obj)=>hB6.out.trans ((hall a b).mono hB6.out.size)
       exact ⟨w6.heap.size+1,w6.heap.size,rfl,⟨hR6.out.below (hall _ _),hk _ _ hT6.out,hk _ _ hT96.out,hk _ _ hK96.out,alloc2_new _ _ _,alloc2_old _ _ _,hBw _ _,hwB.out,hT9l.out,hhH.out.low (hBw _ _) hpos.out,hBpos.out⟩⟩
      case rest=>
       clear hR6 hT6 hB6 hT96 hK96 hws
       obtain ⟨TA,KA,rfl,hL⟩:=hcut
       rename World=>w7
       have hL7:=Hid.mk hL
       clear hL
       have h9u:=hL7.out.t9
       have hau:=hL7.out.ta
       unfold msC mv at h9u hau
       simp only at h9u hau
       clear h9u hau
       go_upto_region 12 with fail
       go_cut [11,12] (fun x y wr=>x= .slice none 0 0∧y= .slice none 0 0∧LawW B R KB A V M N ((1+u:Nat):Int) mach T8 T9 TA K9 KA (u:Nat) (vn:Nat) w wr)
       case first=>as_aux_lemma=>
        have hgt1:=Hid.mk (get_mv (k:=6) (f:=2) (n:=(u:Nat)) (a:=0) (b:=0) (c:=0) (v:=(vn:Nat)) (.inr rfl) ⟨by omega,by omega⟩ (goodNn (by omega)) good0 good0 good0 (goodNn (by omega)))
        have hfl1:=Hid.mk (mv_le (k:=6) (f:=2) (n:=(u:Nat)) (a:=0) (b:=0) (c:=0) (v:=(vn:Nat)) (.inr rfl) (goodNn (v:=2) (by omega)) (goodNn (by omega)) good0 good0 good0 (goodNn (by omega)))
        have hgt2:=Hid.mk (get_mv (k:=6) (f:=1) (n:=0) (a:=0) (b:=0) (c:=0) (v:=(vn:Nat)) (.inr rfl) ⟨by omega,by omega⟩ good0 good0 good0 good0 (goodNn (by omega)))
        have hfl2:=Hid.mk (mv_le (k:=6) (f:=1) (n:=0) (a:=0) (b:=0) (c:=0) (v:=(vn:Nat)) (.inr rfl) (goodNn (v:=1) (by omega)) good0 good0 good0 good0 (goodNn (by omega)))
        go_wp2_with (fail)
        refine Go.Ev.wp_region_planE (fun x=>LawW B R KB A V M N ((1+u:Nat):Int) mach T8 T9 TA K9 KA (u:Nat) (vn:Nat) w x) hm (by kernel_rfl) (by kernel_rfl) (hL7.out.below (Below.refl _ w7).drew) ?_
        refine Go.Ev.planE_cons _ (by rintro x K hv hK; replace hv:=Hid.mk hv; go_simp; exact hK _ hv.out) ?_
        simp only [Act.put,List.setIfInBounds_toArray,List.set_cons_succ,List.set_cons_zero]
        refine Go.Ev.planE_cons _ (by rintro x K hv hK; replace hv:=Hid.mk hv; refine ite_of rfl ?_; refine wp_load_row 35 _ rfl T9 rfl _ _ _ _ hv.out.t9 Tryz.underlying35 rfl (msInfo.trans rfl) ?_; exact hK _ hv.out) ?_
        simp only [Act.put,List.setIfInBounds_toArray,List.set_cons_succ,List.set_cons_zero]
        refine Go.Ev.planE_cons (.string (bs (putP (mv 6 2 (u:Nat) 0 0 0 (vn:Nat))))) (by
         rintro x K hv hK
         have hvH:=Hid.mk hv
         have hp:=Hid.mk (put_mv (k:=6) (f:=2) (n:=(u:Nat)) (a:=0) (b:=0) (c:=0) (v:=(vn:Nat)) (.inr rfl) B (.slice (some ⟨K9,0,none⟩) 3 3) x hv.h (IntsV.row (l:=[0,0,0]) (cap:=3) hv.k9))
         clear hv
         go_simp
         go_at_call 8
         refine hp.out.mono ?_
         rintro e wz ⟨rfl,hBz⟩
         exact hK _ (hvH.out.below hBz)) ?_
        simp only [Act.put,List.setIfInBounds_toArray,List.set_cons_succ,List.set_cons_zero]
        refine Go.Ev.planE_cons nilO (by
         rintro x K hv hK
         have hvH:=Hid.mk hv
         have hp:=Hid.mk (receive_old hv.r hv.h (putP (mv 6 2 (u:Nat) 0 0 0 (vn:Nat))) hfl1.out (u:Nat) (vn:Nat) (by omega) hgt1.out)
         clear hv
         go_simp
         go_at_call 7
         refine hp.out.mono ?_
         rintro e wz ⟨rfl,hRz,hKz⟩
         exact hK _ (hvH.out.kx hRz hKz)) ?_
        simp only [Act.put,List.setIfInBounds_toArray,List.set_cons_succ,List.set_cons_zero]
        refine Go.Ev.planE_cons _ (by rintro x K hv hK; replace hv:=Hid.mk hv; go_simp; exact hK _ hv.out) ?_
        simp only [Act.put,List.setIfInBounds_toArray,List.set_cons_succ,List.set_cons_zero]
        refine Go.Ev.planE_cons _ (by rintro x K hv hK; replace hv:=Hid.mk hv; refine ite_of rfl ?_; refine wp_load_row 35 _ rfl TA rfl _ _ _ _ hv.out.ta Tryz.underlying35 rfl (msInfo.trans rfl) ?_; exact hK _ hv.out) ?_
        simp only [Act.put,List.setIfInBounds_toArray,List.set_cons_succ,List.set_cons_zero]
        refine Go.Ev.planE_cons (.string (bs (putP (mv 6 1 0 0 0 0 (vn:Nat))))) (by
         rintro x K hv hK
         have hvH:=Hid.mk hv
         have hp:=Hid.mk (put_mv (k:=6) (f:=1) (n:=0) (a:=0) (b:=0) (c:=0) (v:=(vn:Nat)) (.inr rfl) B (.slice (some ⟨KA,0,none⟩) 3 3) x hv.h (IntsV.row (l:=[0,0,0]) (cap:=3) hv.ka))
         clear hv
         go_simp
         go_at_call 8
         refine hp.out.mono ?_
         rintro e wz ⟨rfl,hBz⟩
         exact hK _ (hvH.out.below hBz)) ?_
        simp only [Act.put,List.setIfInBounds_toArray,List.set_cons_succ,List.set_cons_zero]
        refine Go.Ev.planE_cons nilO (by
         rintro x K hv hK
         have hvH:=Hid.mk hv
         have hp:=Hid.mk (receive_own hv.r hv.h (putP (mv 6 1 0 0 0 0 (vn:Nat))) hfl2.out (vn:Nat) hgt2.out)
         clear hv
         go_simp
         go_at_call 7
         refine hp.out.mono ?_
         rintro e wz ⟨rfl,hRz,hKz⟩
         exact hK _ (hvH.out.kx hRz hKz)) ?_
        simp only [Act.put,List.setIfInBounds_toArray,List.set_cons_succ,List.set_cons_zero]
        iterate 2
         refine Go.Ev.planE_cons _ (by rintro x K hv hK; replace hv:=Hid.mk hv; go_simp; exact hK _ hv.out) ?_
         simp only [Act.put,List.setIfInBounds_toArray,List.set_cons_succ,List.set_cons_zero]
        rintro w8 hv
        replace hv:=Hid.mk hv
        go_wp2_with (fail)
        go_meet
        exact ⟨rfl,rfl,hv.out⟩
       case rest=>
        clear hL7
        obtain ⟨rfl,rfl,hL⟩:=hcut
        rename World=>w8
        have hL8:=Hid.mk hL
        clear hL
        go_upto_region 13 with fail
        go_cut [14] (fun y wr=>y= .int .i64 ((getM s).2:Nat)∧LawW B R KB A V M N ((1+u:Nat):Int) mach T8 T9 TA K9 KA (u:Nat) (vn:Nat) w wr)
        case first=>as_aux_lemma=>
         go_wp2_with (fail)
         go_at_call 9
         refine (mget_any s (by have:=hlenH.out; omega) w8 hL8.out.h).mono ?_
         rintro e wz ⟨vk,a,cap,rfl,hiv,hown,hBz⟩
         obtain ⟨ka,kn,kc,rfl⟩:∃ a n c,vk= .slice a n c:=by
          obtain ⟨a,c,h,_⟩:=hiv.at
          exact ⟨a,_,c,h⟩
         have hBH:=Hid.mk hBz
         have hcl:=Hid.mk (heap_alloc_new wz (.cells (msC msZ nilS nilS) 35))
         clear hiv hown hBz
         obtain ⟨m,hme⟩:∃ m,(getM s).1=m:=⟨_,rfl⟩
         obtain ⟨en,hen⟩:∃ en,(getM s).2=en:=⟨_,rfl⟩
         rw [hme,hen]
         have henH:=Hid.mk hen
         clear hme hen
         unfold msC
         go_wp2_with (first | (refine wpList_store_row rfl 35 _ _ rfl wz.heap.size (msC m (.slice ka kn kc) (.slice a m.ents.length cap)) rfl rfl 35 _ hcl.out (msInfo.trans rfl) rfl (one_msC _ _ _ _ _ _ _) ?_))
         go_meet
         have hBa:Below wz.heap.size wz ((wz.alloc (.cells (msC msZ nilS nilS) 35)).setRow wz.heap.size (msC m (.slice ka kn kc) (.slice a m.ents.length cap))):=setRow_low ((Below.refl _ wz).alloc (Nat.le_refl _) _) _ _ (Nat.le_refl _)
         exact ⟨by rw [henH.out],(hL8.out.below hBH.out).below hBa⟩
        case rest=>
         clear hL8
         obtain ⟨rfl,hL⟩:=hcut
         rename World=>w9
         have hL9:=Hid.mk hL
         clear hL
         go_upto_if 60 with fail
         go_cut [15] (fun _ wr=>LawW B R KB A V M N ((1+u:Nat):Int) mach T8 T9 TA K9 KA (u:Nat) (vn:Nat) w wr)
         case first=>as_aux_lemma=>
          by_cases he:(getM s).2=0
          ·have e1:((((getM s).2:Nat):Int) !=0)=false:=by rw [he]; rfl
           clear he
           go_wp2_with (fail)
           go_meet
           exact hL9.out
          ·have e1:((((getM s).2:Nat):Int) !=0)=true:=by simp; omega
           have hre:=Hid.mk (receive_err hL9.out.r hL9.out.h s (by have:=hlenH.out; omega) he)
           clear he
           unfold nilO at hre
           go_wp2_with (first | (go_at_call 7; refine hre.out.mono ?_; rintro e wz ⟨rfl,hBz⟩; replace hBz:=Hid.mk hBz))
           go_meet
           exact hL9.out.below hBz.out
         case rest=>
          clear hL9
          have hLA:=Hid.mk hcut
          clear hcut
          rename World=>wA
          go_upto_region 18 with fail
          go_cut [80] (fun y wr=>y= .bool false∧LawW B R KB A V M N ((1+u:Nat):Int) mach T8 T9 TA K9 KA (u:Nat) (vn:Nat) w wr)
          case first=>as_aux_lemma=>
           go_wp2_with (fail)
           refine Go.Ev.wp_region_planE (fun x=>LawW B R KB A V M N ((1+u:Nat):Int) mach T8 T9 TA K9 KA (u:Nat) (vn:Nat) w x) hm (by kernel_rfl) (by kernel_rfl) (hLA.out.below (Below.refl _ wA).drew) ?_
           refine Go.Ev.planE_cons _ (by rintro x K hv hK; replace hv:=Hid.mk hv; go_simp; exact hK _ hv.out) ?_
           simp only [Act.put,List.setIfInBounds_toArray,List.set_cons_succ,List.set_cons_zero]
           refine Go.Ev.planE_cons _ (by rintro x K hv hK; replace hv:=Hid.mk hv; go_simp; exact hK _ hv.out) ?_
           simp only [Act.put,List.setIfInBounds_toArray,List.set_cons_succ,List.set_cons_zero]
           refine Go.Ev.planE_cons _ (by rintro x K hv hK; replace hv:=Hid.mk hv; go_simp; exact hK _ hv.out) ?_
           simp only [Act.put,List.setIfInBounds_toArray,List.set_cons_succ,List.set_cons_zero]
           refine Go.Ev.planE_cons _ (by rintro x K hv hK; replace hv:=Hid.mk hv; go_simp; exact hK _ hv.out) ?_
           simp only [Act.put,List.setIfInBounds_toArray,List.set_cons_succ,List.set_cons_zero]
           refine Go.Ev.planE_cons _ (by rintro x K hv hK; replace hv:=Hid.mk hv; go_simp; exact hK _ hv.out) ?_
           simp only [Act.put,List.setIfInBounds_toArray,List.set_cons_succ,List.set_cons_zero]
           refine Go.Ev.planE_cons _ (by rintro x K hv hK; replace hv:=Hid.mk hv; go_simp; exact hK _ hv.out) ?_
           simp only [Act.put,List.setIfInBounds_toArray,List.set_cons_succ,List.set_cons_zero]
           refine Go.Ev.planE_cons _ (by rintro x K hv hK; replace hv:=Hid.mk hv; go_simp; exact hK _ hv.out) ?_
           simp only [Act.put,List.setIfInBounds_toArray,List.set_cons_succ,List.set_cons_zero]
           refine Go.Ev.planE_cons _ (by rintro x K hv hK; replace hv:=Hid.mk hv; go_simp; exact hK _ hv.out) ?_
           simp only [Act.put,List.setIfInBounds_toArray,List.set_cons_succ,List.set_cons_zero]
           refine Go.Ev.planE_cons _ (by rintro x K hv hK; replace hv:=Hid.mk hv; go_simp; exact hK _ hv.out) ?_
           simp only [Act.put,List.setIfInBounds_toArray,List.set_cons_succ,List.set_cons_zero]
           refine Go.Ev.planE_cons _ (by rintro x K hv hK; replace hv:=Hid.mk hv; go_simp; exact hK _ hv.out) ?_
           simp only [Act.put,List.setIfInBounds_toArray,List.set_cons_succ,List.set_cons_zero]
           refine Go.Ev.planE_cons (.agg #[.int .i64 1,.int .i64 0,.int .i64 0,.int .i64 0,.int .i64 0]) (by
            rintro x K hv hK
            have hvH:=Hid.mk hv
            have hp:=Hid.mk (status_any hv.r)
            clear hv
            go_simp
            go_at_call 6
            refine hp.out.mono ?_
            rintro e wz ⟨rfl,hBz⟩
            exact hK _ (hvH.out.below hBz)) ?_
           simp only [Act.put,List.setIfInBounds_toArray,List.set_cons_succ,List.set_cons_zero]
           refine Go.Ev.planE_cons (.agg #[.int .i64 1,.int .i64 0,.int .i64 0,.int .i64 0,.int .i64 0]) (by rintro x K hv hK; replace hv:=Hid.mk hv; refine ite_of rfl ?_; refine wp_load_row 27 _ rfl T8 rfl _ _ _ _ hv.out.t8 Tryz.underlying27 rfl (stInfo.trans rfl) ?_; exact hK _ hv.out) ?_
           simp only [Act.put,List.setIfInBounds_toArray,List.set_cons_succ,List.set_cons_zero]
           refine Go.Ev.planE_cons _ (by rintro x K hv hK; replace hv:=Hid.mk hv; have hse:=stat_eq x; go_simp; exact hK _ hv.out) ?_
           simp only [Act.put,List.setIfInBounds_toArray,List.set_cons_succ,List.set_cons_zero]
           refine Go.Ev.planE_cons _ (by rintro x K hv hK; replace hv:=Hid.mk hv; go_simp; exact hK _ hv.out) ?_
           simp only [Act.put,List.setIfInBounds_toArray,List.set_cons_succ,List.set_cons_zero]
           rintro wB hv
           replace hv:=Hid.mk hv
           go_wp2_with (fail)
           go_meet
           exact ⟨rfl,hv.out⟩
          case rest=>
           clear hLA
           obtain ⟨rfl,hL⟩:=hcut
           rename World=>wB
           have hLB:=Hid.mk hL
           have d2:wB.cell? ⟨T9,2,none⟩=some (.int .i64 (u:Nat)):=(cell_of_row _ _ _ _ _ _ hL.t9).trans rfl
           have d4:wB.cell? ⟨T9,4,none⟩=some (.int .i64 (vn:Nat)):=(cell_of_row _ _ _ _ _ _ hL.t9).trans rfl
           have f2:=frozen_of_row _ _ 2 _ _ hL.t9
           have f4:=frozen_of_row _ _ 4 _ _ hL.t9
           have hwv:IntKind.i64.wrap (1+(vn:Int))=((1+vn:Nat):Int):=by rw [IntKind.wrap_i64]; omega
           clear hL
           go_upto_region 20 with fail
           go_cut [83] (fun _ wr=>wr.heap[T9]?=some (.cells (msC (mv 6 2 ((1+u:Nat):Int) 0 0 0 ((1+vn:Nat):Int)) (.slice (some ⟨K9,0,none⟩) 3 3) (.slice none 0 0)) 35 (0,0))∧Rep B R KB A V M N 1 0 ((1+u:Nat):Int) mach false fls3 nil3 nilO wr∧wr.heap[K9]?=some (.cells (intRow [0,0,0]) 3 (0,0))∧HalvesAt wr∧Below w.heap.size w wr)
           case first=>as_aux_lemma=>
            go_wp2_with (fail)
            go_meet
            have hL:=hLB.out
            have hb:∀ (x y:Value) j,j≠T9→((wB.setCell ⟨T9,2,none⟩ x).setCell ⟨T9,4,none⟩ y).heap[j]?=wB.heap[j]?:=fun x y j hj=>(Below.heap_setCell _ _ _ _ (by simpa using hj)).trans (Below.heap_setCell _ _ _ _ (by simpa using hj))
            obtain ⟨o1,o2,o3,o4,o5,o6⟩:=hL.r.other hL.t9
            have q1:=o1 (by decide); have q2:=o2 (by decide); have q3:=o3 (by decide); have q4:=o4 (by decide); have q5:=o5 (by decide); have q6:=o6 (by decide)
            have h9:K9≠T9:=fun e=>by
             have h:=hL.k9
             rw [e,hL.t9] at h
             injection h with h
             injection h with h1 h2 h3
             exact absurd h2 (by decide)
            have hTB:w.heap.size≤T9:=hL.l
            have hlow:=fun x y=>setCell_low (setCell_low hL.b ⟨T9,2,none⟩ x hTB) ⟨T9,4,none⟩ y hTB
            obtain ⟨ns,hn,hs⟩:=hL.r.n
            refine ⟨?_,⟨(hb _ _ _ q1).trans hL.r.row,(hb _ _ _ q6).trans hL.r.kn,(hb _ _ _ q5).trans hL.r.a,(hb _ _ _ q2).trans hL.r.v,(hb _ _ _ q3).trans hL.r.m,⟨ns,(hb _ _ _ q4).trans hn,hs⟩,hL.r.ka,hL.r.rl,hL.r.kl,hL.r.al,hL.r.vl,hL.r.ml,hL.r.nl⟩,(hb _ _ _ h9).trans hL.k9,hhH.out.low (hlow _ _) hpos.out,hlow _ _⟩
            rw [heap_setCell_same _ _ _ _ _ _ (heap_setCell_same _ _ _ _ _ _ hL.t9)]
            rfl
           case rest=>
            clear hLB d2 d4 f2 f4
            obtain ⟨hT,hR,hK,hh,hB⟩:=hcut
            rename World=>wC
            have hput:=put_mv (k:=6) (f:=2) (n:=((1+u:Nat):Int)) (a:=0) (b:=0) (c:=0) (v:=((1+vn:Nat):Int)) (.inr rfl) B (.slice (some ⟨K9,0,none⟩) 3 3) wC hh (IntsV.row (l:=[0,0,0]) (cap:=3) hK)
            have hfl:=mv_le (k:=6) (f:=2) (n:=((1+u:Nat):Int)) (a:=0) (b:=0) (c:=0) (v:=((1+vn:Nat):Int)) (.inr rfl) (goodNn (v:=2) (by omega)) (goodNn (by omega)) good0 good0 good0 (goodNn (by omega))
            have hgt:=get_mv (k:=6) (f:=2) (n:=((1+u:Nat):Int)) (a:=0) (b:=0) (c:=0) (v:=((1+vn:Nat):Int)) (.inr rfl) ⟨by omega,by omega⟩ (goodNn (by omega)) good0 good0 good0 (goodNn (by omega))
            obtain ⟨fr,hfr⟩:∃ fr,putP (mv 6 2 ((1+u:Nat):Int) 0 0 0 ((1+vn:Nat):Int))=fr:=⟨_,rfl⟩
            rw [hfr] at hput hfl hgt
            have hrc:=Hid.mk (fun (wz:World) (hBz:Below wC.heap.size wC wz)=>receive_vote (hR.below hBz) (hh.below hBz) fr hfl hBpos.out (by omega) (1+vn) (by omega) hgt)
            unfold msC mv at hput hT
            simp only at hput hT
            have hputH:=Hid.mk hput
            have hTH:=Hid.mk hT
            have hBH:=Hid.mk hB
            have hrl:=Hid.mk (And.intro hR.rl hR.lt)
            clear hput hT hR hK hh hB hfr hfl hgt
            go_upto_region 21 with fail
            go_cut [16] (fun y wr=>∃ a n c,y= .slice a n c∧2≤n∧(∃ A V M N ms',Rep B R KB A V M N 2 ((1+vn:Nat):Int) ((1+u:Nat):Int) mach true vt2 ms' nilO wr)∧Below w.heap.size w wr)
            case first=>as_aux_lemma=>
             go_wp2_with (first | (refine wpList_load_row rfl 35 _ rfl T9 rfl _ _ _ _ hTH.out Tryz.underlying35 rfl (msInfo.trans rfl) ?_) | (go_at_call 8; refine hputH.out.mono ?_; rintro e wz ⟨rfl,hBz⟩; replace hBz:=Hid.mk hBz) | (go_at_call 7; refine (hrc.out _ hBz.out).mono ?_; rintro e wy ⟨oa,on,oc,rfl,h2,hX,hBy⟩; replace h2:=Hid.mk h2; replace hX:=Hid.mk hX; replace hBy:=Hid.mk hBy))
             go_meet
             exact ⟨oa,on,oc,rfl,h2.out,hX.out,hBH.out.trans ((hBz.out.mono hBH.out.size).trans (hBy.out.mono hwB.out))⟩
            case rest=>
             clear hrc hputH hTH hBH hrl
             obtain ⟨oa,on,oc,rfl,h2,⟨A2,V2,M2,N2,ms',hR⟩,hB⟩:=hcut
             rename World=>wD
             have hRH:=Hid.mk hR
             have hBH:=Hid.mk hB
             have e1:((0:Int) < (on:Nat))=True:=eq_true (by omega)
             have e2:(0 < on)=True:=eq_true (by omega)
             have hs1:=Hid.mk (fun (wz:World) (hb:Below wD.heap.size wD wz)=>status_any (hR.below hb))
             have hf0:=stat_f0
             have hf1:=stat_f1
             clear hR hB h2
             go_wp2_with (first | (go_at_call 6; first | (refine (hs1.out wD (Below.refl _ _)).mono ?_; rintro e wE ⟨rfl,hBE⟩; replace hBE:=Hid.mk hBE) | (refine (hs1.out wE hBE.out).mono ?_; rintro e wF ⟨rfl,hBF⟩; replace hBF:=Hid.mk hBF)))
             go_ret
             exact ⟨rfl,hBH.out.trans ((hBE.out.trans (hBF.out.mono hBE.out.size)).mono hBH.out.size)⟩
end Go.Proofs.YtniamhbcmcgonaaGreatDoor
namespace Go.Proofs.YtniamhbcmcgonaaGreatDoor
open Go.ChangeShapes Go.WideShapes
theorem world_pos {w:World} (hg:GlobMet w):0 < w.heap.size:=(halves_of hg).1
set_option maxRecDepth 100000 in
theorem open_two {H:Type} {enc:TypeId × Value→H} {W:World} {r:Reach} {b0 base:Nat} {spare:Nat→Bool} {held:Bool} {v:Value} {d:DataW H} {p:List MemPlace} (hv:Value.okWide Tryz.prog W r b0 22 v)
  (hd:DataW.Trod enc Tryz.prog W base spare held 22 v d p):∃ x y:Int,v= .agg #[.int .i64 x,.int .i64 y]:=by
 simp only [Value.okWide,Tryz.underlying22] at hv
 obtain ⟨cs,rfl,hcs,_⟩:=hv
 obtain ⟨fuel,hf⟩:=hd
 have h2:Tryz.prog.cellsOf 22=2:=by kernel_rfl
 have h1:Tryz.prog.cellsOf 3=1:=by kernel_rfl
 obtain ⟨xs,m,_,_,_,hl,hel⟩:=DataW.trod_array Tryz.underlying22 hf
 rw [h1] at hel
 rw [h2] at hcs
 obtain ⟨l⟩:=cs
 match l,hcs with
 | [a,b],_=>
  have e0:=hel 0 (by decide)
  have e1:=hel 1 (by decide)
  rw [List.getElem?_eq_getElem (by omega)] at e0 e1
  obtain ⟨x,q0,_,_⟩:=DataW.trod_int Tryz.underlying3 e0
  obtain ⟨y,q1,_,_⟩:=DataW.trod_int Tryz.underlying3 e1
  simp [Value.cells] at q0 q1
  exact ⟨x,y,by rw [q0,q1]⟩
end Go.Proofs.YtniamhbcmcgonaaGreatDoor
