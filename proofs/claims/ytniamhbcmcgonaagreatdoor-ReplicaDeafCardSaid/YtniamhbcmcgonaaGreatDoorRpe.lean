/- Status. Printed by genre.py. What a replica learns of a message: nothing, for it is of one that was before; or nothing new. Learning that a replica was born anew. Printed by genrg.py out of XRpf. -/
import Derived.Test.YtniamhbcmcgonaaGreatDoorRpa
namespace Go.Proofs.YtniamhbcmcgonaaGreatDoor
open Go.RowKit Go.Ev
theorem stInfo:(Tryz.prog.info? 27).map (·.size)=some 5:=by kernel_rfl
theorem ite_of {c:Prop} [Decidable c] {a b:Prop} (h:c) (ha:a):if c then a else b:=by rw [if_pos h]; exact ha
section
variable {B R KB A V M N:Nat} {st vw k2:Int} {mach:Value} {moved:Bool} {vt ms:Array Value} {out:Value} {w:World}
set_option maxRecDepth 100000 in
set_option maxHeartbeats 6400000 in
theorem status_any (h:Rep B R KB A V M N st vw k2 mach moved vt ms out w):Calls Tryz.prog 6 #[.pointer (some ⟨R,0,none⟩)] w fun e w'=>e= .returned (.agg #[.int .i64 st,.int .i64 vw,.int .i64 0,.int .i64 0,.int .i64 0])∧Below w.heap.size w w':=by
 have hm:Tryz.prog.follows .mixedOrders=true:=by kernel_rfl
 have hH:=Hid.mk h
 clear h
 go_enter Tryz.func6,Tryz.ntmps6
 go_upto_region 0 with fail
 go_cut [2] (fun y wr=>y= .pointer (some ⟨w.heap.size,0,none⟩)∧wr.heap[w.heap.size]?=some (.cells #[.int .i64 0,.int .i64 0,.int .i64 0,.int .i64 0,.int .i64 0] 27 (0,0))∧Below w.heap.size w wr)
 case first=>as_aux_lemma=>
  go_wp2_with (fail)
  go_meet
  exact ⟨rfl,heap_alloc_new _ _,(Below.refl _ w).alloc (Nat.le_refl _) _⟩
 case rest=>
  obtain ⟨rfl,hS,hB⟩:=hcut
  rename World=>w1
  obtain ⟨S,hSe⟩:∃ S,w.heap.size=S:=⟨_,rfl⟩
  have hR1:=Hid.mk (hH.out.below hB)
  rw [hSe] at hS hB ⊢
  have hSH:=Hid.mk hS
  have hBH:=Hid.mk hB
  have hSl:=Hid.mk (Array.getElem?_eq_some_iff.1 hS).1
  have hRS:=Hid.mk (show R < S by rw [← hSe]; exact hH.out.lt)
  have hSeH:=Hid.mk hSe
  clear hS hB hSe hH
  go_upto_region 3 with fail
  go_cut [28] (fun _ wr=>wr.heap[S]?=some (.cells #[.int .i64 st,.int .i64 vw,.int .i64 0,.int .i64 0,.int .i64 0] 27 (0,0))∧Below S w wr)
  case first=>as_aux_lemma=>
   obtain ⟨Pp,hPp⟩:∃ P:List Value→World→Prop,P=fun l v=>match l with | []=>Below w1.heap.size w1 v | [x]=>x= .int .i64 0∧Below w1.heap.size w1 v | _=>v.heap[S]?=some (.cells #[.int .i64 st,.int .i64 vw,.int .i64 0,.int .i64 0,.int .i64 0] 27 (0,0))∧Below S w v:=⟨_,rfl⟩
   have hP0:∀ v,Pp [] v=Below w1.heap.size w1 v:=fun v=>by rw [hPp]
   have hP1:∀ x v,Pp [x] v=(x= .int .i64 0∧Below w1.heap.size w1 v):=fun x v=>by rw [hPp]
   have hP2:∀ x y v,Pp [x,y] v=(v.heap[S]?=some (.cells #[.int .i64 st,.int .i64 vw,.int .i64 0,.int .i64 0,.int .i64 0] 27 (0,0))∧Below S w v):=fun x y v=>by rw [hPp]
   have hPB:∀ j (vs:Nat→Value) v,j≤1→Pp (([12,23].take j).map vs) v→Below w1.heap.size w1 v:=fun j vs v hj hp=>by
    rcases (by omega:j=0∨j=1) with rfl | rfl
    ·exact (hP0 v).mp hp
    ·exact ((hP1 _ v).mp hp).2
   clear hPp
   have hS0:=EC.start [12,23] (fun i=>match i with | 2=> .pointer (some ⟨R,2,none⟩) | 3=> .int .i64 st | 6=> .pointer (some ⟨R,3,none⟩) | 7=> .int .i64 vw | 10=> .pointer (some ⟨R,5,none⟩) | 11=> .agg #[.int .i64 0,.string (bs []),.slice none 0 0] | 15=> .pointer (some ⟨R,8,none⟩) | 16=> .int .i64 0 | 19=> .pointer (some ⟨R,5,none⟩) | 20=> .pointer (some ⟨R,5,none⟩) | 21=> .int .i64 0 | 22=> .agg #[.int .i64 st,.int .i64 vw,.int .i64 0,.int .i64 0,.int .i64 0] | 23=>undef | _=> .pointer (some ⟨R,0,none⟩)) (P:=Pp) (W:=w1.drew) ((hP0 _).mpr (Below.refl _ w1).drew)
   have hPH:=Hid.mk (And.intro hP0 (And.intro hP1 (And.intro hP2 hPB)))
   clear hP0 hP1 hP2 hPB
   go_wp2_with (fail)
   refine Go.Ev.wp_region_inv _ hm (by kernel_rfl) (by kernel_rfl) hS0 ?_
   refine ⟨fun D vs wq K hQ hd hdep hcl hK=> ?_,?_⟩
   ·go_simp
    exact hK _ _ (hQ.pure (by decide) rfl)
   simp only [Act.put,List.setIfInBounds_toArray,List.set_cons_succ,List.set_cons_zero,Nat.reduceAdd]
   refine ⟨fun D vs wq K hQ hd hdep hcl hK=> ?_,?_⟩
   ·have e0:=hQ.vals 0 (depB hdep 0 (by kernel_rfl)) (by decide)
    simp only at e0
    simp only [e0] at hK ⊢
    go_simp
    exact hK _ _ (hQ.pure (by decide) rfl)
   simp only [Act.put,List.setIfInBounds_toArray,List.set_cons_succ,List.set_cons_zero,Nat.reduceAdd]
   refine ⟨fun D vs wq K hQ hd hdep hcl hK=> ?_,?_⟩
   ·have e1:=hQ.vals 1 (depB hdep 1 (by kernel_rfl)) (by decide)
    simp only at e1
    simp only [e1] at hK ⊢
    go_simp
    exact hK _ _ (hQ.pure (by decide) rfl)
   simp only [Act.put,List.setIfInBounds_toArray,List.set_cons_succ,List.set_cons_zero,Nat.reduceAdd]
   refine ⟨fun D vs wq K hQ hd hdep hcl hK=> ?_,?_⟩
   ·have e2:=hQ.vals 2 (depB hdep 2 (by kernel_rfl)) (by decide)
    simp only at e2
    obtain ⟨j,hj,hp⟩:=hQ.upto 1 (closedF hcl 23 3 (by kernel_rfl) hd) (by decide)
    have hbq:=hPH.out.2.2.2 _ _ _ hj hp
    have hC:=(hR1.out.below hbq).cs
    have c2:=hC.c2
    clear hbq hC hp
    simp only [e2] at hK ⊢
    go_simp
    exact hK _ _ (hQ.pure (by decide) rfl)
   simp only [Act.put,List.setIfInBounds_toArray,List.set_cons_succ,List.set_cons_zero,Nat.reduceAdd]
   refine ⟨fun D vs wq K hQ hd hdep hcl hK=> ?_,?_⟩
   ·go_simp
    exact hK _ _ (hQ.pure (by decide) rfl)
   simp only [Act.put,List.setIfInBounds_toArray,List.set_cons_succ,List.set_cons_zero,Nat.reduceAdd]
   refine ⟨fun D vs wq K hQ hd hdep hcl hK=> ?_,?_⟩
   ·have e4:=hQ.vals 4 (depB hdep 4 (by kernel_rfl)) (by decide)
    simp only at e4
    simp only [e4] at hK ⊢
    go_simp
    exact hK _ _ (hQ.pure (by decide) rfl)
   simp only [Act.put,List.setIfInBounds_toArray,List.set_cons_succ,List.set_cons_zero,Nat.reduceAdd]
   refine ⟨fun D vs wq K hQ hd hdep hcl hK=> ?_,?_⟩
   ·have e5:=hQ.vals 5 (depB hdep 5 (by kernel_rfl)) (by decide)
    simp only at e5
    simp only [e5] at hK ⊢
    go_simp
    exact hK _ _ (hQ.pure (by decide) rfl)
   simp only [Act.put,List.setIfInBounds_toArray,List.set_cons_succ,List.set_cons_zero,Nat.reduceAdd]
   refine ⟨fun D vs wq K hQ hd hdep hcl hK=> ?_,?_⟩
   ·have e6:=hQ.vals 6 (depB hdep 6 (by kernel_rfl)) (by decide)
    simp only at e6
    obtain ⟨j,hj,hp⟩:=hQ.upto 1 (closedF hcl 23 7 (by kernel_rfl) hd) (by decide)
    have hbq:=hPH.out.2.2.2 _ _ _ hj hp
    have hC:=(hR1.out.below hbq).cs
    have c3:=hC.c3
    clear hbq hC hp
    simp only [e6] at hK ⊢
    go_simp
    exact hK _ _ (hQ.pure (by decide) rfl)
   simp only [Act.put,List.setIfInBounds_toArray,List.set_cons_succ,List.set_cons_zero,Nat.reduceAdd]
   refine ⟨fun D vs wq K hQ hd hdep hcl hK=> ?_,?_⟩
   ·go_simp
    exact hK _ _ (hQ.pure (by decide) rfl)
   simp only [Act.put,List.setIfInBounds_toArray,List.set_cons_succ,List.set_cons_zero,Nat.reduceAdd]
   refine ⟨fun D vs wq K hQ hd hdep hcl hK=> ?_,?_⟩
   ·have e8:=hQ.vals 8 (depB hdep 8 (by kernel_rfl)) (by decide)
    simp only at e8
    simp only [e8] at hK ⊢
    go_simp
    exact hK _ _ (hQ.pure (by decide) rfl)
   simp only [Act.put,List.setIfInBounds_toArray,List.set_cons_succ,List.set_cons_zero,Nat.reduceAdd]
   refine ⟨fun D vs wq K hQ hd hdep hcl hK=> ?_,?_⟩
   ·have e9:=hQ.vals 9 (depB hdep 9 (by kernel_rfl)) (by decide)
    simp only at e9
    simp only [e9] at hK ⊢
    go_simp
    exact hK _ _ (hQ.pure (by decide) rfl)
   simp only [Act.put,List.setIfInBounds_toArray,List.set_cons_succ,List.set_cons_zero,Nat.reduceAdd]
   refine ⟨fun D vs wq K hQ hd hdep hcl hK=> ?_,?_⟩
   ·have e10:=hQ.vals 10 (depB hdep 10 (by kernel_rfl)) (by decide)
    simp only at e10
    obtain ⟨j,hj,hp⟩:=hQ.upto 1 (closedF hcl 23 11 (by kernel_rfl) hd) (by decide)
    have hbq:=hPH.out.2.2.2 _ _ _ hj hp
    have hC:=(hR1.out.below hbq).cs
    have c5:=hC.c5
    have c6:=hC.c6
    have c7:=hC.c7
    clear hbq hC hp
    simp only [e10] at hK ⊢
    go_simp
    exact hK _ _ (hQ.pure (by decide) rfl)
   simp only [Act.put,List.setIfInBounds_toArray,List.set_cons_succ,List.set_cons_zero,Nat.reduceAdd]
   refine ⟨fun D vs wq K hQ hd hdep hcl hK=> ?_,?_⟩
   ·have e11:=hQ.vals 11 (depB hdep 11 (by kernel_rfl)) (by decide)
    simp only at e11
    have h23:=closedF hcl 23 12 (by kernel_rfl) hd
    have hp:=(hPH.out.1 _).mp (hQ.at 0 (by decide) (.inl rfl) (.inr hd))
    have hpH:=Hid.mk hp
    clear hp
    simp only [e11] at hK ⊢
    go_wp2_with (fail)
    go_at_call 15
    refine (op0 wq).mono ?_
    rintro e wz ⟨rfl,hBz⟩
    have hBzH:=Hid.mk hBz
    clear hBz
    go_wp2_with (fail)
    exact hQ.eff 0 (by decide) (by decide) (.inl rfl) hd ((hPH.out.2.1 _ _).mpr ⟨rfl,hpH.out.trans (hBzH.out.mono hpH.out.size)⟩)
   simp only [Act.put,List.setIfInBounds_toArray,List.set_cons_succ,List.set_cons_zero,Nat.reduceAdd]
   refine ⟨fun D vs wq K hQ hd hdep hcl hK=> ?_,?_⟩
   ·go_simp
    exact hK _ _ (hQ.pure (by decide) rfl)
   simp only [Act.put,List.setIfInBounds_toArray,List.set_cons_succ,List.set_cons_zero,Nat.reduceAdd]
   refine ⟨fun D vs wq K hQ hd hdep hcl hK=> ?_,?_⟩
   ·have e13:=hQ.vals 13 (depB hdep 13 (by kernel_rfl)) (by decide)
    simp only at e13
    simp only [e13] at hK ⊢
    go_simp
    exact hK _ _ (hQ.pure (by decide) rfl)
   simp only [Act.put,List.setIfInBounds_toArray,List.set_cons_succ,List.set_cons_zero,Nat.reduceAdd]
   refine ⟨fun D vs wq K hQ hd hdep hcl hK=> ?_,?_⟩
   ·have e14:=hQ.vals 14 (depB hdep 14 (by kernel_rfl)) (by decide)
    simp only at e14
    simp only [e14] at hK ⊢
    go_simp
    exact hK _ _ (hQ.pure (by decide) rfl)
   simp only [Act.put,List.setIfInBounds_toArray,List.set_cons_succ,List.set_cons_zero,Nat.reduceAdd]
   refine ⟨fun D vs wq K hQ hd hdep hcl hK=> ?_,?_⟩
   ·have e15:=hQ.vals 15 (depB hdep 15 (by kernel_rfl)) (by decide)
    simp only at e15
    obtain ⟨j,hj,hp⟩:=hQ.upto 1 (closedF hcl 23 16 (by kernel_rfl) hd) (by decide)
    have hbq:=hPH.out.2.2.2 _ _ _ hj hp
    have hC:=(hR1.out.below hbq).cs
    have c8:=hC.c8
    clear hbq hC hp
    simp only [e15] at hK ⊢
    go_simp
    exact hK _ _ (hQ.pure (by decide) rfl)
   simp only [Act.put,List.setIfInBounds_toArray,List.set_cons_succ,List.set_cons_zero,Nat.reduceAdd]
   refine ⟨fun D vs wq K hQ hd hdep hcl hK=> ?_,?_⟩
   ·go_simp
    exact hK _ _ (hQ.pure (by decide) rfl)
   simp only [Act.put,List.setIfInBounds_toArray,List.set_cons_succ,List.set_cons_zero,Nat.reduceAdd]
   refine ⟨fun D vs wq K hQ hd hdep hcl hK=> ?_,?_⟩
   ·have e17:=hQ.vals 17 (depB hdep 17 (by kernel_rfl)) (by decide)
    simp only at e17
    simp only [e17] at hK ⊢
    go_simp
    exact hK _ _ (hQ.pure (by decide) rfl)
   simp only [Act.put,List.setIfInBounds_toArray,List.set_cons_succ,List.set_cons_zero,Nat.reduceAdd]
   refine ⟨fun D vs wq K hQ hd hdep hcl hK=> ?_,?_⟩
   ·have e18:=hQ.vals 18 (depB hdep 18 (by kernel_rfl)) (by decide)
    simp only at e18
    simp only [e18] at hK ⊢
    go_simp
    exact hK _ _ (hQ.pure (by decide) rfl)
   simp only [Act.put,List.setIfInBounds_toArray,List.set_cons_succ,List.set_cons_zero,Nat.reduceAdd]
   refine ⟨fun D vs wq K hQ hd hdep hcl hK=> ?_,?_⟩
   ·have e19:=hQ.vals 19 (depB hdep 19 (by kernel_rfl)) (by decide)
    simp only at e19
    simp only [e19] at hK ⊢
    go_simp
    exact hK _ _ (hQ.pure (by decide) rfl)
   simp only [Act.put,List.setIfInBounds_toArray,List.set_cons_succ,List.set_cons_zero,Nat.reduceAdd]
   refine ⟨fun D vs wq K hQ hd hdep hcl hK=> ?_,?_⟩
   ·have e20:=hQ.vals 20 (depB hdep 20 (by kernel_rfl)) (by decide)
    simp only at e20
    obtain ⟨j,hj,hp⟩:=hQ.upto 1 (closedF hcl 23 21 (by kernel_rfl) hd) (by decide)
    have hbq:=hPH.out.2.2.2 _ _ _ hj hp
    have hC:=(hR1.out.below hbq).cs
    have c5:=hC.c5
    clear hbq hC hp
    simp only [e20] at hK ⊢
    go_simp
    exact hK _ _ (hQ.pure (by decide) rfl)
   simp only [Act.put,List.setIfInBounds_toArray,List.set_cons_succ,List.set_cons_zero,Nat.reduceAdd]
   refine ⟨fun D vs wq K hQ hd hdep hcl hK=> ?_,?_⟩
   ·have e3:=hQ.vals 3 (depB hdep 3 (by kernel_rfl)) (by decide)
    simp only at e3
    have e7:=hQ.vals 7 (depB hdep 7 (by kernel_rfl)) (by decide)
    simp only at e7
    have e16:=hQ.vals 16 (depB hdep 16 (by kernel_rfl)) (by decide)
    simp only at e16
    have e21:=hQ.vals 21 (depB hdep 21 (by kernel_rfl)) (by decide)
    simp only at e21
    have h23:=closedF hcl 23 22 (by kernel_rfl) hd
    have hp:=(hPH.out.2.1 _ _).mp (hQ.at 1 (by decide) (.inr (depB hdep 12 (by kernel_rfl))) (.inr h23))
    have e12:vs 12= .int .i64 0:=hp.1
    simp only [e12] at hK ⊢
    clear hp
    simp only [e3,e7,e16,e21] at hK ⊢
    go_simp
    exact hK _ _ (hQ.pure (by decide) rfl)
   simp only [Act.put,List.setIfInBounds_toArray,List.set_cons_succ,List.set_cons_zero,Nat.reduceAdd]
   refine ⟨fun D vs wq K hQ hd hdep hcl hK=> ?_,?_⟩
   ·have e22:=hQ.vals 22 (depB hdep 22 (by kernel_rfl)) (by decide)
    simp only at e22
    have hp:=(hPH.out.2.1 _ _).mp (hQ.at 1 (by decide) (.inr (depB hdep 12 (by kernel_rfl))) (.inr hd))
    have d12:=depB hdep 12 (by kernel_rfl)
    have hSq:=(hp.2.block S hSl.out).trans hSH.out
    have hBq:=hBH.out.trans (hp.2.mono (Nat.le_of_lt hSl.out))
    simp only [e22] at hK ⊢
    refine ite_of rfl ?_
    refine wp_store_row 27 _ _ rfl S #[.int .i64 st,.int .i64 vw,.int .i64 0,.int .i64 0,.int .i64 0] rfl rfl 27 _ hSq stInfo rfl (by simp [Value.oneCell']) ?_
    refine hK undef _ ?_
    exact hQ.eff 1 (by decide) (by decide) (.inr d12) hd ((hPH.out.2.2.1 _ _ _).mpr ⟨setRow_heap _ _ _ _ _ _ hSq,setRow_low hBq _ _ (Nat.le_refl _)⟩)
   simp only [Act.put,List.setIfInBounds_toArray,List.set_cons_succ,List.set_cons_zero,Nat.reduceAdd]
   intro vs D w6 hS6 hall
   have hp:=(hPH.out.2.2.1 _ _ _).mp (hS6.done (fun t ht=>hall _ (by have h2:t < 2:=ht; rcases (by omega:t=0∨t=1) with rfl | rfl <;> decide)))
   have hpH:=Hid.mk hp
   clear hp hS6 hall hS0
   go_wp2_with (fail)
   go_meet
   exact hpH.out
  case rest=>
   obtain ⟨hS,hB⟩:=hcut
   rename World=>w2
   go_wp2_with (fail)
   exact bodyPost_ret (results_cell_row rfl _ _ S _ _ _ _ rfl hS Tryz.underlying27 rfl stInfo) rfl ⟨rfl,by rw [hSeH.out]; exact hB⟩
end
end Go.Proofs.YtniamhbcmcgonaaGreatDoor
namespace Go.Proofs.YtniamhbcmcgonaaGreatDoor
open Go.RowKit Go.Ev
section
variable {B R KB A V M N:Nat} {st vw k2:Int} {mach:Value} {moved:Bool} {vt ms:Array Value} {out:Value} {w:World}
theorem Rep.known (h:Rep B R KB A V M N st vw k2 mach moved vt ms out w):w.cell? ⟨KB,0,none⟩=some (.int .i64 0)∧w.cell? ⟨KB,1,none⟩=some (.int .i64 0)∧w.cell? ⟨KB,2,none⟩=some (.int .i64 k2):=
 ⟨(cell_of_row _ _ _ _ _ _ h.kn).trans rfl,(cell_of_row _ _ _ _ _ _ h.kn).trans rfl,(cell_of_row _ _ _ _ _ _ h.kn).trans rfl⟩
set_option maxRecDepth 100000 in
set_option maxHeartbeats 6400000 in
theorem learn_old (h:Rep B R KB A V M N st vw k2 mach moved vt ms out w) (n v:Int) (hlt:n < k2) (vk ve:Value):Calls Tryz.prog 17 #[.pointer (some ⟨R,0,none⟩),.agg (msC (mv 6 2 n 0 0 0 v) vk ve)] w fun e w'=>
  e= .returned (.bool false)∧Below w.heap.size w w':=by
 have hm:Tryz.prog.follows .mixedOrders=true:=by kernel_rfl
 have hH:=Hid.mk h
 clear h
 unfold msC mv
 simp only
 go_enter Tryz.func17,Tryz.ntmps17
 go_upto_region 0 with fail
 go_cut [1,3] (fun _ y wr=>y= .pointer (some ⟨w.heap.size,0,none⟩)∧wr.heap[w.heap.size]?=some (.cells (msC (mv 6 2 n 0 0 0 v) vk ve) 35 (0,0))∧Below w.heap.size w wr)
 case first=>as_aux_lemma=>
  go_wp2_with (fail)
  go_meet
  exact ⟨rfl,heap_alloc_new _ _,(Below.refl _ w).alloc (Nat.le_refl _) _⟩
 case rest=>
  obtain ⟨rfl,hS,hB⟩:=hcut
  rename World=>w1
  have hR:=(hH.out.below hB).below (Below.refl _ w1).drew
  have c11:=hR.cs.c11
  obtain ⟨k0,k1,k2c⟩:=hR.known
  have c1:w1.drew.cell? ⟨w.heap.size,1,none⟩=some (.int .i64 2):=(cell_of_row w1 _ _ _ _ _ hS).trans rfl
  have c2:w1.drew.cell? ⟨w.heap.size,2,none⟩=some (.int .i64 n):=(cell_of_row w1 _ _ _ _ _ hS).trans rfl
  have hBH:=Hid.mk hB.drew
  have e1:(n < k2)=True:=eq_true hlt
  clear hS hB hR hlt
  go_wp2_with (fail)
  refine Go.Ev.wp_region_planE (fun v=>v=w1.drew) hm (by kernel_rfl) (by kernel_rfl) rfl ?_
  iterate 11
   refine Go.Ev.planE_cons _ (by rintro v K rfl hK; go_simp; exact hK _ rfl) ?_
   simp only [Act.put,List.setIfInBounds_toArray,List.set_cons_succ,List.set_cons_zero]
  rintro w2 rfl
  go_wp2_with (fail)
  go_ret
  exact ⟨rfl,hBH.out⟩
set_option maxRecDepth 100000 in
set_option maxHeartbeats 6400000 in
theorem learn_same (h:Rep B R KB A V M N st vw k2 mach moved vt ms out w) (hk2:0≤k2) (v:Int) (vk ve:Value) (hiv:IntsV w vk [0,0,0]):Calls Tryz.prog 17 #[.pointer (some ⟨R,0,none⟩),.agg (msC (mv 6 2 k2 0 0 0 v) vk ve)] w fun e w'=>
  e= .returned (.bool true)∧Below w.heap.size w w':=by
 have hm:Tryz.prog.follows .mixedOrders=true:=by kernel_rfl
 obtain ⟨ka,kc,rfl⟩:∃ a c,vk= .slice a 3 c:=by
  obtain ⟨a,c,h,_⟩:=hiv.at
  exact ⟨a,c,h⟩
 have hH:=Hid.mk h
 have hivH:=Hid.mk hiv
 clear h hiv
 unfold msC mv
 simp only
 go_enter Tryz.func17,Tryz.ntmps17
 go_upto_region 0 with fail
 go_cut [1,3] (fun _ y wr=>y= .pointer (some ⟨w.heap.size,0,none⟩)∧wr.heap[w.heap.size]?=some (.cells (msC (mv 6 2 k2 0 0 0 v) (.slice ka 3 kc) ve) 35 (0,0))∧Below w.heap.size w wr)
 case first=>as_aux_lemma=>
  go_wp2_with (fail)
  go_meet
  exact ⟨rfl,heap_alloc_new _ _,(Below.refl _ w).alloc (Nat.le_refl _) _⟩
 case rest=>
  obtain ⟨rfl,hS,hB⟩:=hcut
  rename World=>w1
  have hR1:=Hid.mk (hH.out.below hB)
  have hS1:=Hid.mk hS
  have hB1:=Hid.mk hB
  have hv1:=Hid.mk (hivH.out.below hB)
  have c1:w1.drew.cell? ⟨w.heap.size,1,none⟩=some (.int .i64 2):=(cell_of_row w1 _ _ _ _ _ hS).trans rfl
  have c2:w1.drew.cell? ⟨w.heap.size,2,none⟩=some (.int .i64 k2):=(cell_of_row w1 _ _ _ _ _ hS).trans rfl
  have c11:w1.drew.cell? ⟨R,11,none⟩=some (.slice (some ⟨KB,0,none⟩) 3 3):=hR1.out.cs.c11
  obtain ⟨k0,k1,k2c'⟩:=hR1.out.known
  have k2c:w1.drew.cell? ⟨KB,2,none⟩=some (.int .i64 k2):=k2c'
  have e1:(k2 < k2)=False:=eq_false (by omega)
  clear hS hB k0 k1 k2c'
  go_upto_region 1 with fail
  go_cut [18] (fun y wr=>y= .bool false∧wr=w1.drew)
  case first=>as_aux_lemma=>
   go_wp2_with (fail)
   refine Go.Ev.wp_region_planE (fun v=>v=w1.drew) hm (by kernel_rfl) (by kernel_rfl) rfl ?_
   iterate 11
    refine Go.Ev.planE_cons _ (by rintro v K rfl hK; go_simp; exact hK _ rfl) ?_
    simp only [Act.put,List.setIfInBounds_toArray,List.set_cons_succ,List.set_cons_zero]
   rintro w2 rfl
   go_wp2_with (fail)
   go_meet
   exact ⟨rfl,rfl⟩
  case rest=>
   obtain ⟨rfl,hwr⟩:=hcut
   rename World=>w2
   clear c1 c2 c11 k2c e1
   have hd:=(Below.refl w1.heap.size w1).drew
   have hR2:=Hid.mk (show Rep B R KB A V M N st vw k2 mach moved vt ms out w2 by rw [hwr]; exact hR1.out.below hd)
   have hS2:=Hid.mk (show w2.heap[w.heap.size]?=some (.cells (msC (mv 6 2 k2 0 0 0 v) (.slice ka 3 kc) ve) 35 (0,0)) by rw [hwr]; exact hS1.out)
   have hB2:=Hid.mk (show Below w.heap.size w w2 by rw [hwr]; exact hB1.out.drew)
   have hv2:=hv1.out.below hd
   rw [← hwr] at hv2
   have hcl:=Hid.mk (iclone_any _ _ (by decide) w2 hv2)
   have c3:w2.cell? ⟨w.heap.size,3,none⟩=some (.slice ka 3 kc):=(cell_of_row _ _ _ _ _ _ hS2.out).trans rfl
   clear hR1 hS1 hB1 hv1 hwr hd hv2
   go_upto_region 3 with fail
   go_cut [5] (fun y wr=>∃ g c,y= .slice (some ⟨g,0,none⟩) 3 c∧w.heap.size < g∧g < wr.heap.size∧wr.cell? ⟨g,0,none⟩=some (.int .i64 0)∧wr.cell? ⟨g,1,none⟩=some (.int .i64 0)∧wr.cell? ⟨g,2,none⟩=some (.int .i64 0)∧(∃ cs,wr.heap[g]?=some (.cells cs 3 (0,0))∧3≤cs.size)∧Below w2.heap.size w2 wr)
   case first=>as_aux_lemma=>
    go_wp2_with (fail)
    go_at_call 21
    refine hcl.out.mono ?_
    rintro e w3 ⟨a,c,rfl,hown,hBc⟩
    have hsz:=(Array.getElem?_eq_some_iff.1 hS2.out).1
    obtain ⟨g,rfl,hg,cs,hh,hcs⟩:∃ g,a=some ⟨g,0,none⟩∧w2.heap.size≤g∧∃ cs,w3.heap[g]?=some (.cells cs 3 (0,0))∧3≤cs.size:=by
     rcases hown.2 with ⟨_,h0⟩ | ⟨g,cap',cur,hv,hg,hh,hn,hm,hs,ht⟩
     ·cases h0
     ·injection hv with h1 h2 h3
      exact ⟨g,h1,hg,cur,hh,by first | omega | (simp at *; omega)⟩
    have hc:=fun j u hj=>hown.cells (g:=g) rfl j u hj
    have x0:=hc 0 (.int .i64 0) rfl
    have x1:=hc 1 (.int .i64 0) rfl
    have x2:=hc 2 (.int .i64 0) rfl
    rw [Addr.add_lit] at x0 x1 x2
    have hX:=Hid.mk (⟨by omega,(Array.getElem?_eq_some_iff.1 hh).1,x0,x1,x2,⟨cs,hh,hcs⟩,hBc⟩:w.heap.size < g∧g < w3.heap.size∧w3.cell? ⟨g,0,none⟩=some (.int .i64 0)∧w3.cell? ⟨g,1,none⟩=some (.int .i64 0)∧w3.cell? ⟨g,2,none⟩=some (.int .i64 0)∧(∃ cs,w3.heap[g]?=some (.cells cs 3 (0,0))∧3≤cs.size)∧Below w2.heap.size w2 w3)
    clear hc x0 x1 x2 hown hBc hh hg hcs hsz
    go_wp2_with (fail)
    go_meet
    exact ⟨g,c,rfl,hX.out⟩
   case rest=>
    clear c3 hcl
    obtain ⟨g,gc,rfl,hg,hgl,x0,x1,x2,⟨cs,hcs,hcz⟩,hB⟩:=hcut
    rename World=>w3
    have hsz:=(Array.getElem?_eq_some_iff.1 hS2.out).1
    have hR3:=Hid.mk (hR2.out.below hB)
    have hB3:=Hid.mk (hB2.out.trans (hB.mono (Nat.le_of_lt hsz)))
    have c1:w3.drew.cell? ⟨w.heap.size,1,none⟩=some (.int .i64 2):=(cell_of_row w3 _ _ _ _ _ ((hB.block _ hsz).trans hS2.out)).trans rfl
    have c2:w3.drew.cell? ⟨w.heap.size,2,none⟩=some (.int .i64 k2):=(cell_of_row w3 _ _ _ _ _ ((hB.block _ hsz).trans hS2.out)).trans rfl
    have g2:w3.drew.cell? ⟨g,2,none⟩=some (.int .i64 0):=x2
    have f2:w3.drew.frozen? ⟨g,2,none⟩=false:=frozen_of_row _ _ 2 _ _ hcs
    have hX:=Hid.mk (⟨hg,hgl,x0,x1,⟨cs,hcs,hcz⟩⟩:w.heap.size < g∧g < w3.heap.size∧w3.cell? ⟨g,0,none⟩=some (.int .i64 0)∧w3.cell? ⟨g,1,none⟩=some (.int .i64 0)∧(∃ cs,w3.heap[g]?=some (.cells cs 3 (0,0))∧3≤cs.size))
    have hmax:max 0 k2=k2:=by omega
    clear hR2 hS2 hB2 hg hgl x0 x1 x2 hcs hcz hB hsz
    go_upto_region 4 with fail
    go_cut [22] (fun _ wr=>wr=w3.drew.setCell ⟨g,2,none⟩ (.int .i64 k2))
    case first=>as_aux_lemma=>
     obtain ⟨Pp,hPp⟩:∃ P:List Value→World→Prop,P=fun l v=>match l with | []=>v=w3.drew | _=>v=w3.drew.setCell ⟨g,2,none⟩ (.int .i64 k2):=⟨_,rfl⟩
     have hP0:∀ v,Pp [] v↔v=w3.drew:=fun v=>by rw [hPp]
     have hP1:∀ x v,Pp [x] v↔v=w3.drew.setCell ⟨g,2,none⟩ (.int .i64 k2):=fun x v=>by rw [hPp]
     clear hPp
     have hS0:=EC.start [12] (fun i=>match i with | 0=> .slice (some ⟨g,0,none⟩) 3 gc | 3=> .slice (some ⟨g,0,none⟩) 3 gc | 1=> .pointer (some ⟨w.heap.size,1,none⟩) | 4=> .pointer (some ⟨w.heap.size,1,none⟩) | 8=> .pointer (some ⟨w.heap.size,2,none⟩) | 2=> .int .i64 2 | 5=> .int .i64 2 | 6=> .pointer (some ⟨g,2,none⟩) | 11=> .pointer (some ⟨g,2,none⟩) | 7=> .int .i64 0 | 9=> .int .i64 k2 | 10=> .int .i64 k2 | _=>undef) (P:=Pp) (W:=w3.drew) ((hP0 _).mpr rfl)
     go_wp2_with (fail)
     refine Go.Ev.wp_region_inv _ hm (by kernel_rfl) (by kernel_rfl) hS0 ?_
     refine ⟨fun D vs wq K hQ hd hdep hcl hK=> ?_,?_⟩
     ·go_simp
      exact hK _ _ (hQ.pure (by decide) rfl)
     simp only [Act.put,List.setIfInBounds_toArray,List.set_cons_succ,List.set_cons_zero,Nat.reduceAdd]
     refine ⟨fun D vs wq K hQ hd hdep hcl hK=> ?_,?_⟩
     ·go_simp
      exact hK _ _ (hQ.pure (by decide) rfl)
     simp only [Act.put,List.setIfInBounds_toArray,List.set_cons_succ,List.set_cons_zero,Nat.reduceAdd]
     refine ⟨fun D vs wq K hQ hd hdep hcl hK=> ?_,?_⟩
     ·have e1:=hQ.vals 1 (depB hdep 1 (by kernel_rfl)) (by decide)
      simp only at e1
      have hq:=(hP0 _).mp (hQ.at 0 (by decide) (.inl rfl) (.inr (closedF hcl 12 2 (by kernel_rfl) hd)))
      subst hq
      simp only [e1] at hK ⊢
      go_simp
      exact hK _ _ (hQ.pure (by decide) rfl)
     simp only [Act.put,List.setIfInBounds_toArray,List.set_cons_succ,List.set_cons_zero,Nat.reduceAdd]
     refine ⟨fun D vs wq K hQ hd hdep hcl hK=> ?_,?_⟩
     ·go_simp
      exact hK _ _ (hQ.pure (by decide) rfl)
     simp only [Act.put,List.setIfInBounds_toArray,List.set_cons_succ,List.set_cons_zero,Nat.reduceAdd]
     refine ⟨fun D vs wq K hQ hd hdep hcl hK=> ?_,?_⟩
     ·go_simp
      exact hK _ _ (hQ.pure (by decide) rfl)
     simp only [Act.put,List.setIfInBounds_toArray,List.set_cons_succ,List.set_cons_zero,Nat.reduceAdd]
     refine ⟨fun D vs wq K hQ hd hdep hcl hK=> ?_,?_⟩
     ·have e4:=hQ.vals 4 (depB hdep 4 (by kernel_rfl)) (by decide)
      simp only at e4
      have hq:=(hP0 _).mp (hQ.at 0 (by decide) (.inl rfl) (.inr (closedF hcl 12 5 (by kernel_rfl) hd)))
      subst hq
      simp only [e4] at hK ⊢
      go_simp
      exact hK _ _ (hQ.pure (by decide) rfl)
     simp only [Act.put,List.setIfInBounds_toArray,List.set_cons_succ,List.set_cons_zero,Nat.reduceAdd]
     refine ⟨fun D vs wq K hQ hd hdep hcl hK=> ?_,?_⟩
     ·have e3:=hQ.vals 3 (depB hdep 3 (by kernel_rfl)) (by decide)
      simp only at e3
      have e5:=hQ.vals 5 (depB hdep 5 (by kernel_rfl)) (by decide)
      simp only at e5
      have hq:=(hP0 _).mp (hQ.at 0 (by decide) (.inl rfl) (.inr (closedF hcl 12 6 (by kernel_rfl) hd)))
      subst hq
      simp only [e3,e5] at hK ⊢
      go_simp
      exact hK _ _ (hQ.pure (by decide) rfl)
     simp only [Act.put,List.setIfInBounds_toArray,List.set_cons_succ,List.set_cons_zero,Nat.reduceAdd]
     refine ⟨fun D vs wq K hQ hd hdep hcl hK=> ?_,?_⟩
     ·have e6:=hQ.vals 6 (depB hdep 6 (by kernel_rfl)) (by decide)
      simp only at e6
      have hq:=(hP0 _).mp (hQ.at 0 (by decide) (.inl rfl) (.inr (closedF hcl 12 7 (by kernel_rfl) hd)))
      subst hq
      simp only [e6] at hK ⊢
      go_simp
      exact hK _ _ (hQ.pure (by decide) rfl)
     simp only [Act.put,List.setIfInBounds_toArray,List.set_cons_succ,List.set_cons_zero,Nat.reduceAdd]
     refine ⟨fun D vs wq K hQ hd hdep hcl hK=> ?_,?_⟩
     ·go_simp
      exact hK _ _ (hQ.pure (by decide) rfl)
     simp only [Act.put,List.setIfInBounds_toArray,List.set_cons_succ,List.set_cons_zero,Nat.reduceAdd]
     refine ⟨fun D vs wq K hQ hd hdep hcl hK=> ?_,?_⟩
     ·have e8:=hQ.vals 8 (depB hdep 8 (by kernel_rfl)) (by decide)
      simp only at e8
      have hq:=(hP0 _).mp (hQ.at 0 (by decide) (.inl rfl) (.inr (closedF hcl 12 9 (by kernel_rfl) hd)))
      subst hq
      simp only [e8] at hK ⊢
      go_simp
      exact hK _ _ (hQ.pure (by decide) rfl)
     simp only [Act.put,List.setIfInBounds_toArray,List.set_cons_succ,List.set_cons_zero,Nat.reduceAdd]
     refine ⟨fun D vs wq K hQ hd hdep hcl hK=> ?_,?_⟩
     ·have e7:=hQ.vals 7 (depB hdep 7 (by kernel_rfl)) (by decide)
      simp only at e7
      have e9:=hQ.vals 9 (depB hdep 9 (by kernel_rfl)) (by decide)
      simp only at e9
      simp only [e7,e9] at hK ⊢
      go_simp
      exact hK _ _ (hQ.pure (by decide) rfl)
     simp only [Act.put,List.setIfInBounds_toArray,List.set_cons_succ,List.set_cons_zero,Nat.reduceAdd]
     refine ⟨fun D vs wq K hQ hd hdep hcl hK=> ?_,?_⟩
     ·have e0:=hQ.vals 0 (depB hdep 0 (by kernel_rfl)) (by decide)
      simp only at e0
      have e2:=hQ.vals 2 (depB hdep 2 (by kernel_rfl)) (by decide)
      simp only at e2
      have hq:=(hP0 _).mp (hQ.at 0 (by decide) (.inl rfl) (.inr (closedF hcl 12 11 (by kernel_rfl) hd)))
      subst hq
      simp only [e0,e2] at hK ⊢
      go_simp
      exact hK _ _ (hQ.pure (by decide) rfl)
     simp only [Act.put,List.setIfInBounds_toArray,List.set_cons_succ,List.set_cons_zero,Nat.reduceAdd]
     refine ⟨fun D vs wq K hQ hd hdep hcl hK=> ?_,?_⟩
     ·have e11:=hQ.vals 11 (depB hdep 11 (by kernel_rfl)) (by decide)
      simp only at e11
      have e10:=hQ.vals 10 (depB hdep 10 (by kernel_rfl)) (by decide)
      simp only at e10
      have hq:=(hP0 _).mp (hQ.at 0 (by decide) (.inl rfl) (.inr hd))
      subst hq
      simp only [e11,e10] at hK ⊢
      go_simp
      refine hK undef _ ?_
      exact hQ.eff 0 (by decide) (by decide) (.inl rfl) hd ((hP1 _ _).mpr rfl)
     simp only [Act.put,List.setIfInBounds_toArray,List.set_cons_succ,List.set_cons_zero,Nat.reduceAdd]
     intro vs D w6 hS6 hall
     have hp:=(hP1 _ _).mp (hS6.done (fun t ht=>hall _ (by have h2:t < 1:=ht; obtain rfl:t=0:=(by omega); decide)))
     subst hp
     clear hS6 hall hS0 hP0 hP1
     go_wp2_with (fail)
     go_meet
     exact rfl
    case rest=>
     have hwr:=hcut
     rename World=>w4
     obtain ⟨y1,y2,y3,y4,cs,hcs,hcz⟩:=hX.out
     have hcs':w3.drew.heap[g]?=some (.cells cs 3 (0,0)):=hcs
     have hb:∀ k,k≠g→w4.heap[k]?=w3.heap[k]?:=fun k hk=>by rw [hwr]; exact Below.heap_setCell _ _ _ _ (by simpa using hk)
     have hrow:w4.heap[g]?=some (.cells (cs.setIfInBounds 2 (.int .i64 k2)) 3 (0,0)):=by rw [hwr]; exact heap_setCell_same _ _ _ _ _ _ hcs'
     have z:∀ i,w4.cell? ⟨g,i,none⟩=(cs.setIfInBounds 2 (.int .i64 k2))[i]?:=fun i=>cell_of_row _ _ _ _ _ _ hrow
     have z':∀ i,w3.cell? ⟨g,i,none⟩=cs[i]?:=fun i=>cell_of_row _ _ _ _ _ _ hcs
     have x0:w4.cell? ⟨g,0,none⟩=some (.int .i64 0):=by rw [z,Array.getElem?_setIfInBounds_ne (by decide),← z']; exact y3
     have x1:w4.cell? ⟨g,1,none⟩=some (.int .i64 0):=by rw [z,Array.getElem?_setIfInBounds_ne (by decide),← z']; exact y4
     have x2:w4.cell? ⟨g,2,none⟩=some (.int .i64 k2):=by rw [z,Array.getElem?_setIfInBounds_self_of_lt (by omega)]
     have hB34:Below g w3 w4:=by rw [hwr]; exact ⟨rfl,rfl,rfl,by simp [World.setCell],fun i hi=>Below.heap_setCell _ _ _ _ (by simp; omega)⟩
     have hk:∀ {k:Nat} {o:Obj},k < w.heap.size→w3.heap[k]?=some o→w4.heap[k]?=some o:=fun {k o} hl h=>(hb k (by omega)).trans h
     have hR4:Rep B R KB A V M N st vw k2 mach moved vt ms out w4:=by
      have h3:=hR3.out
      have h:=hH.out
      obtain ⟨ns,hn,hs⟩:=h3.n
      obtain ⟨ns',hn',_⟩:=h.n
      have l:∀ {k:Nat} {o:Obj},w.heap[k]?=some o→k < w.heap.size:=fun h=>(Array.getElem?_eq_some_iff.1 h).1
      exact ⟨hk (l h.row) h3.row,hk (l h.kn) h3.kn,hk (l h.a) h3.a,hk (l h.v) h3.v,hk (l h.m) h3.m,⟨ns,hk (l hn') hn,hs⟩,h3.ka,h3.rl,h3.kl,h3.al,h3.vl,h3.ml,h3.nl⟩
     have hB4:=Hid.mk (show Below w.heap.size w w4 from hB3.out.trans ⟨hB34.os,hB34.tape,hB34.output,hB34.size,fun i hi=>hB34.block i (by omega)⟩)
     have c0:=hR4.cs.c0
     have c11:=hR4.cs.c11
     obtain ⟨k0,k1,kk2⟩:=hR4.known
     clear hwr hX hR3 hB3 y1 y2 y3 y4 hcs hcz hcs' hb hrow z z' hB34 hk hR4 c1 c2 g2 f2 hcut
     go_wp2_with (fail)
     go_loopw [6,7,36] (fun _ _ y wr=>wr=w4∧∃ i:Nat,i≤3∧y= .int .i64 (i:Nat)) (fun _ _ y _=>3 - (intOf y).toNat)
     case atStart=>exact ⟨rfl,0,by omega,rfl⟩
     case round=>
      obtain ⟨hwr,i,hi,rfl⟩:=hrel
      subst hwr
      rcases (by omega:i=0∨i=1∨i=2∨i=3) with rfl | rfl | rfl | rfl
      ·go_wp2_with (fail)
       exact ⟨⟨trivial,1,by omega,rfl⟩,by simp [intOf]⟩
      ·go_wp2_with (fail)
       exact ⟨⟨trivial,2,by omega,rfl⟩,by simp [intOf]⟩
      ·go_wp2_with (fail)
       exact ⟨⟨trivial,3,by omega,rfl⟩,by simp [intOf]⟩
      ·go_wp2_with (fail)
       go_ret
       exact ⟨rfl,hB4.out⟩
end
end Go.Proofs.YtniamhbcmcgonaaGreatDoor
namespace Go.Proofs.YtniamhbcmcgonaaGreatDoor
open Go.RowKit Go.Ev
def SS (KB A V M N:Nat):Nat→Prop:=fun i=>i=KB∨i=A∨i=V∨i=M∨i=N
theorem Kx.set {S:Nat→Prop} {w0 w:World} (h:Kx S w0 w) (p:Addr) (x:Value) (hp:S p.block):Kx S w0 (w.setCell p x):=
 ⟨h.os,h.tape,h.output,by simpa [World.setCell] using h.size,fun i hi hn=>(Below.heap_setCell _ _ _ _ (fun e=>hn (by rw [e]; exact hp))).trans (h.block i hi hn)⟩
theorem setCell_low {B:Nat} {w0 w:World} (h:Below B w0 w) (p:Addr) (x:Value) (hp:B≤p.block):Below B w0 (w.setCell p x):=
 ⟨h.os,h.tape,h.output,by simpa [World.setCell] using h.size,fun i hi=>(Below.heap_setCell _ _ _ _ (by omega)).trans (h.block i hi)⟩
section
variable {B R KB A V M N:Nat} {st vw k2:Int} {mach:Value} {moved:Bool} {vt ms:Array Value} {out:Value} {w:World}
theorem Rep.touch (h:Rep B R KB A V M N st vw k2 mach moved vt ms out w) {X:Nat} {cs:Array Value} {t:TypeId} (hX:w.heap[X]?=some (.cells cs t (0,0))) (off:Nat) (x:Value) (hc:cs.setIfInBounds off x=cs) :
  Rep B R KB A V M N st vw k2 mach moved vt ms out (w.setCell ⟨X,off,none⟩ x):=by
 have hk:∀ k,(w.setCell ⟨X,off,none⟩ x).heap[k]?=w.heap[k]?:=fun k=>by
  by_cases e:k=X
  ·subst e
   rw [heap_setCell_same _ _ _ _ _ _ hX,hc,hX]
  ·exact Below.heap_setCell _ _ _ _ (by simpa using e)
 obtain ⟨ns,hn,hs⟩:=h.n
 exact ⟨(hk _).trans h.row,(hk _).trans h.kn,(hk _).trans h.a,(hk _).trans h.v,(hk _).trans h.m,⟨ns,(hk _).trans hn,hs⟩,h.ka,h.rl,h.kl,h.al,h.vl,h.ml,h.nl⟩
theorem Rep.other (h:Rep B R KB A V M N st vw k2 mach moved vt ms out w) {X:Nat} {cs:Array Value} {t:TypeId} (hX:w.heap[X]?=some (.cells cs t (0,0))) :
  (t≠60→R≠X)∧(t≠4→V≠X)∧(t≠103→M≠X)∧(t≠103→N≠X)∧(t≠3→A≠X)∧(t≠3→KB≠X):=by
 obtain ⟨ns,hn,hs⟩:=h.n
 refine ⟨fun ht e=> ?_,fun ht e=> ?_,fun ht e=> ?_,fun ht e=> ?_,fun ht e=> ?_,fun ht e=> ?_⟩
 ·rw [← e,h.row] at hX; cases hX; exact ht rfl
 ·rw [← e,h.v] at hX; cases hX; exact ht rfl
 ·rw [← e,h.m] at hX; cases hX; exact ht rfl
 ·rw [← e,hn] at hX; cases hX; exact ht rfl
 ·rw [← e,h.a] at hX; cases hX; exact ht rfl
 ·rw [← e,h.kn] at hX; cases hX; exact ht rfl
theorem Rep.touchN (h:Rep B R KB A V M N st vw k2 mach moved vt nil3 out w) {ns:Array Value} (hn:w.heap[N]?=some (.cells ns 103 (0,0))) (hs:ns.size=3):Rep B R KB A V M N st vw k2 mach moved vt nil3 out (w.setCell ⟨N,2,none⟩ (.pointer none)):=by
 by_cases e:M=N
 ·subst e
  exact h.touch h.m 2 _ rfl
 ·obtain ⟨o1,o2,o3,o4,o5,o6⟩:=h.other hn
  have hb:∀ k,k≠N→(w.setCell ⟨N,2,none⟩ (.pointer none)).heap[k]?=w.heap[k]?:=fun k hk=>Below.heap_setCell _ _ _ _ (by simpa using hk)
  exact ⟨(hb _ (o1 (by decide))).trans h.row,(hb _ (o6 (by decide))).trans h.kn,(hb _ (o5 (by decide))).trans h.a,(hb _ (o2 (by decide))).trans h.v,(hb _ e).trans h.m,⟨_,heap_setCell_same _ _ _ _ _ _ hn,by simpa using hs⟩,h.ka,h.rl,h.kl,h.al,h.vl,h.ml,h.nl⟩
theorem Rep.learnt (h:Rep B R KB A V M N st vw k2 mach moved vt ms out w) (k:Int):Rep B R KB A V M N st vw k mach moved vt ms out (w.setCell ⟨KB,2,none⟩ (.int .i64 k)):=by
 obtain ⟨o1,o2,o3,o4,o5,o6⟩:=h.other h.kn
 have hb:∀ j,j≠KB→(w.setCell ⟨KB,2,none⟩ (.int .i64 k)).heap[j]?=w.heap[j]?:=fun j hj=>Below.heap_setCell _ _ _ _ (by simpa using hj)
 obtain ⟨ns,hn,hs⟩:=h.n
 refine ⟨(hb _ (o1 (by decide))).trans h.row,?_,(hb _ (fun e=>h.ka e.symm)).trans h.a,(hb _ (o2 (by decide))).trans h.v,(hb _ (o3 (by decide))).trans h.m,⟨ns,(hb _ (o4 (by decide))).trans hn,hs⟩,h.ka,h.rl,h.kl,h.al,h.vl,h.ml,h.nl⟩
 rw [heap_setCell_same _ _ _ _ _ _ h.kn]; rfl
set_option maxRecDepth 100000 in
set_option maxHeartbeats 6400000 in
theorem learn_new (h:Rep B R KB A V M N st vw 0 mach moved fls3 nil3 out w) (k:Int) (hk1:1≤k) (vk ve:Value) (hiv:IntsV w vk [0,0,k]):Calls Tryz.prog 17 #[.pointer (some ⟨R,0,none⟩),.agg (msC (mv 3 0 0 0 0 k 0) vk ve)] w fun e w'=>
  e= .returned (.bool true)∧Rep B R KB A V M N st vw k mach moved fls3 nil3 out w'∧Kx (SS KB A V M N) w w':=by
 have hm:Tryz.prog.follows .mixedOrders=true:=by kernel_rfl
 obtain ⟨ka,kc,rfl⟩:∃ a c,vk= .slice a 3 c:=by
  obtain ⟨a,c,h,_⟩:=hiv.at
  exact ⟨a,c,h⟩
 have hH:=Hid.mk h
 have hivH:=Hid.mk hiv
 clear h hiv
 unfold msC mv
 simp only
 go_enter Tryz.func17,Tryz.ntmps17
 go_upto_region 0 with fail
 go_cut [1,3] (fun _ y wr=>y= .pointer (some ⟨w.heap.size,0,none⟩)∧wr.heap[w.heap.size]?=some (.cells (msC (mv 3 0 0 0 0 k 0) (.slice ka 3 kc) ve) 35 (0,0))∧Below w.heap.size w wr)
 case first=>as_aux_lemma=>
  go_wp2_with (fail)
  go_meet
  exact ⟨rfl,heap_alloc_new _ _,(Below.refl _ w).alloc (Nat.le_refl _) _⟩
 case rest=>
  obtain ⟨rfl,hS,hB⟩:=hcut
  rename World=>w1
  have hR1:=Hid.mk (hH.out.below hB)
  have hS1:=Hid.mk hS
  have hB1:=Hid.mk hB
  have hv1:=Hid.mk (hivH.out.below hB)
  have c1:w1.drew.cell? ⟨w.heap.size,1,none⟩=some (.int .i64 0):=(cell_of_row w1 _ _ _ _ _ hS).trans rfl
  have c2:w1.drew.cell? ⟨w.heap.size,2,none⟩=some (.int .i64 0):=(cell_of_row w1 _ _ _ _ _ hS).trans rfl
  have c11:w1.drew.cell? ⟨R,11,none⟩=some (.slice (some ⟨KB,0,none⟩) 3 3):=hR1.out.cs.c11
  obtain ⟨k0,k1,k2c'⟩:=hR1.out.known
  have k2c:w1.drew.cell? ⟨KB,0,none⟩=some (.int .i64 0):=k0
  clear hS hB k0 k1 k2c'
  go_upto_region 1 with fail
  go_cut [18] (fun y wr=>y= .bool false∧wr=w1.drew)
  case first=>as_aux_lemma=>
   go_wp2_with (fail)
   refine Go.Ev.wp_region_planE (fun v=>v=w1.drew) hm (by kernel_rfl) (by kernel_rfl) rfl ?_
   iterate 11
    refine Go.Ev.planE_cons _ (by rintro v K rfl hK; go_simp; exact hK _ rfl) ?_
    simp only [Act.put,List.setIfInBounds_toArray,List.set_cons_succ,List.set_cons_zero]
   rintro w2 rfl
   go_wp2_with (fail)
   go_meet
   exact ⟨rfl,rfl⟩
  case rest=>
   obtain ⟨rfl,hwr⟩:=hcut
   rename World=>w2
   clear c1 c2 c11 k2c
   have hd:=(Below.refl w1.heap.size w1).drew
   have hR2:=Hid.mk (show Rep B R KB A V M N st vw 0 mach moved fls3 nil3 out w2 by rw [hwr]; exact hR1.out.below hd)
   have hS2:=Hid.mk (show w2.heap[w.heap.size]?=some (.cells (msC (mv 3 0 0 0 0 k 0) (.slice ka 3 kc) ve) 35 (0,0)) by rw [hwr]; exact hS1.out)
   have hB2:=Hid.mk (show Below w.heap.size w w2 by rw [hwr]; exact hB1.out.drew)
   have hv2:=hv1.out.below hd
   rw [← hwr] at hv2
   have hcl:=Hid.mk (iclone_any _ _ (by simp) w2 hv2)
   have c3:w2.cell? ⟨w.heap.size,3,none⟩=some (.slice ka 3 kc):=(cell_of_row _ _ _ _ _ _ hS2.out).trans rfl
   clear hR1 hS1 hB1 hv1 hwr hd hv2
   go_upto_region 3 with fail
   go_cut [5] (fun y wr=>∃ g c,y= .slice (some ⟨g,0,none⟩) 3 c∧w.heap.size < g∧g < wr.heap.size∧wr.cell? ⟨g,0,none⟩=some (.int .i64 0)∧wr.cell? ⟨g,1,none⟩=some (.int .i64 0)∧wr.cell? ⟨g,2,none⟩=some (.int .i64 k)∧(∃ cs,wr.heap[g]?=some (.cells cs 3 (0,0))∧3≤cs.size)∧Below w2.heap.size w2 wr)
   case first=>as_aux_lemma=>
    go_wp2_with (fail)
    go_at_call 21
    refine hcl.out.mono ?_
    rintro e w3 ⟨a,c,rfl,hown,hBc⟩
    have hsz:=(Array.getElem?_eq_some_iff.1 hS2.out).1
    obtain ⟨g,rfl,hg,cs,hh,hcs⟩:∃ g,a=some ⟨g,0,none⟩∧w2.heap.size≤g∧∃ cs,w3.heap[g]?=some (.cells cs 3 (0,0))∧3≤cs.size:=by
     rcases hown.2 with ⟨_,h0⟩ | ⟨g,cap',cur,hv,hg,hh,hn,hm,hs,ht⟩
     ·cases h0
     ·injection hv with h1 h2 h3
      exact ⟨g,h1,hg,cur,hh,by first | omega | (simp at *; omega)⟩
    have hc:=fun j u hj=>hown.cells (g:=g) rfl j u hj
    have x0:=hc 0 (.int .i64 0) rfl
    have x1:=hc 1 (.int .i64 0) rfl
    have x2:=hc 2 (.int .i64 k) rfl
    rw [Addr.add_lit] at x0 x1 x2
    have hX:=Hid.mk (⟨by omega,(Array.getElem?_eq_some_iff.1 hh).1,x0,x1,x2,⟨cs,hh,hcs⟩,hBc⟩:w.heap.size < g∧g < w3.heap.size∧w3.cell? ⟨g,0,none⟩=some (.int .i64 0)∧w3.cell? ⟨g,1,none⟩=some (.int .i64 0)∧w3.cell? ⟨g,2,none⟩=some (.int .i64 k)∧(∃ cs,w3.heap[g]?=some (.cells cs 3 (0,0))∧3≤cs.size)∧Below w2.heap.size w2 w3)
    clear hc x0 x1 x2 hown hBc hh hg hcs hsz
    go_wp2_with (fail)
    go_meet
    exact ⟨g,c,rfl,hX.out⟩
   case rest=>
    clear c3 hcl
    obtain ⟨g,gc,rfl,hg,hgl,x0,x1,x2,⟨cs,hcs,hcz⟩,hB⟩:=hcut
    rename World=>w3
    have hsz:=(Array.getElem?_eq_some_iff.1 hS2.out).1
    have hR3:=Hid.mk (hR2.out.below hB)
    have hB3:=Hid.mk (hB2.out.trans (hB.mono (Nat.le_of_lt hsz)))
    have c1:w3.drew.cell? ⟨w.heap.size,1,none⟩=some (.int .i64 0):=(cell_of_row w3 _ _ _ _ _ ((hB.block _ hsz).trans hS2.out)).trans rfl
    have c2:w3.drew.cell? ⟨w.heap.size,2,none⟩=some (.int .i64 0):=(cell_of_row w3 _ _ _ _ _ ((hB.block _ hsz).trans hS2.out)).trans rfl
    have g2:w3.drew.cell? ⟨g,0,none⟩=some (.int .i64 0):=x0
    have f2:w3.drew.frozen? ⟨g,0,none⟩=false:=frozen_of_row _ _ 0 _ _ hcs
    have hX:=Hid.mk (⟨hg,hgl,x2,x1,⟨cs,hcs,hcz⟩⟩:w.heap.size < g∧g < w3.heap.size∧w3.cell? ⟨g,2,none⟩=some (.int .i64 k)∧w3.cell? ⟨g,1,none⟩=some (.int .i64 0)∧(∃ cs,w3.heap[g]?=some (.cells cs 3 (0,0))∧3≤cs.size))
    clear hR2 hS2 hB2 hg hgl x0 x1 x2 hcs hcz hB hsz
    go_upto_region 4 with fail
    go_cut [22] (fun _ wr=>wr=w3.drew.setCell ⟨g,0,none⟩ (.int .i64 0))
    case first=>as_aux_lemma=>
     obtain ⟨Pp,hPp⟩:∃ P:List Value→World→Prop,P=fun l v=>match l with | []=>v=w3.drew | _=>v=w3.drew.setCell ⟨g,0,none⟩ (.int .i64 0):=⟨_,rfl⟩
     have hP0:∀ v,Pp [] v↔v=w3.drew:=fun v=>by rw [hPp]
     have hP1:∀ x v,Pp [x] v↔v=w3.drew.setCell ⟨g,0,none⟩ (.int .i64 0):=fun x v=>by rw [hPp]
     clear hPp
     have hS0:=EC.start [12] (fun i=>match i with | 0=> .slice (some ⟨g,0,none⟩) 3 gc | 3=> .slice (some ⟨g,0,none⟩) 3 gc | 1=> .pointer (some ⟨w.heap.size,1,none⟩) | 4=> .pointer (some ⟨w.heap.size,1,none⟩) | 8=> .pointer (some ⟨w.heap.size,2,none⟩) | 2=> .int .i64 0 | 5=> .int .i64 0 | 6=> .pointer (some ⟨g,0,none⟩) | 11=> .pointer (some ⟨g,0,none⟩) | 7=> .int .i64 0 | 9=> .int .i64 0 | 10=> .int .i64 0 | _=>undef) (P:=Pp) (W:=w3.drew) ((hP0 _).mpr rfl)
     go_wp2_with (fail)
     refine Go.Ev.wp_region_inv _ hm (by kernel_rfl) (by kernel_rfl) hS0 ?_
     refine ⟨fun D vs wq K hQ hd hdep hcl hK=> ?_,?_⟩
     ·go_simp
      exact hK _ _ (hQ.pure (by decide) rfl)
     simp only [Act.put,List.setIfInBounds_toArray,List.set_cons_succ,List.set_cons_zero,Nat.reduceAdd]
     refine ⟨fun D vs wq K hQ hd hdep hcl hK=> ?_,?_⟩
     ·go_simp
      exact hK _ _ (hQ.pure (by decide) rfl)
     simp only [Act.put,List.setIfInBounds_toArray,List.set_cons_succ,List.set_cons_zero,Nat.reduceAdd]
     refine ⟨fun D vs wq K hQ hd hdep hcl hK=> ?_,?_⟩
     ·have e1:=hQ.vals 1 (depB hdep 1 (by kernel_rfl)) (by decide)
      simp only at e1
      have hq:=(hP0 _).mp (hQ.at 0 (by decide) (.inl rfl) (.inr (closedF hcl 12 2 (by kernel_rfl) hd)))
      subst hq
      simp only [e1] at hK ⊢
      go_simp
      exact hK _ _ (hQ.pure (by decide) rfl)
     simp only [Act.put,List.setIfInBounds_toArray,List.set_cons_succ,List.set_cons_zero,Nat.reduceAdd]
     refine ⟨fun D vs wq K hQ hd hdep hcl hK=> ?_,?_⟩
     ·go_simp
      exact hK _ _ (hQ.pure (by decide) rfl)
     simp only [Act.put,List.setIfInBounds_toArray,List.set_cons_succ,List.set_cons_zero,Nat.reduceAdd]
     refine ⟨fun D vs wq K hQ hd hdep hcl hK=> ?_,?_⟩
     ·go_simp
      exact hK _ _ (hQ.pure (by decide) rfl)
     simp only [Act.put,List.setIfInBounds_toArray,List.set_cons_succ,List.set_cons_zero,Nat.reduceAdd]
     refine ⟨fun D vs wq K hQ hd hdep hcl hK=> ?_,?_⟩
     ·have e4:=hQ.vals 4 (depB hdep 4 (by kernel_rfl)) (by decide)
      simp only at e4
      have hq:=(hP0 _).mp (hQ.at 0 (by decide) (.inl rfl) (.inr (closedF hcl 12 5 (by kernel_rfl) hd)))
      subst hq
      simp only [e4] at hK ⊢
      go_simp
      exact hK _ _ (hQ.pure (by decide) rfl)
     simp only [Act.put,List.setIfInBounds_toArray,List.set_cons_succ,List.set_cons_zero,Nat.reduceAdd]
     refine ⟨fun D vs wq K hQ hd hdep hcl hK=> ?_,?_⟩
     ·have e3:=hQ.vals 3 (depB hdep 3 (by kernel_rfl)) (by decide)
      simp only at e3
      have e5:=hQ.vals 5 (depB hdep 5 (by kernel_rfl)) (by decide)
      simp only at e5
      have hq:=(hP0 _).mp (hQ.at 0 (by decide) (.inl rfl) (.inr (closedF hcl 12 6 (by kernel_rfl) hd)))
      subst hq
      simp only [e3,e5] at hK ⊢
      go_simp
      exact hK _ _ (hQ.pure (by decide) rfl)
     simp only [Act.put,List.setIfInBounds_toArray,List.set_cons_succ,List.set_cons_zero,Nat.reduceAdd]
     refine ⟨fun D vs wq K hQ hd hdep hcl hK=> ?_,?_⟩
     ·have e6:=hQ.vals 6 (depB hdep 6 (by kernel_rfl)) (by decide)
      simp only at e6
      have hq:=(hP0 _).mp (hQ.at 0 (by decide) (.inl rfl) (.inr (closedF hcl 12 7 (by kernel_rfl) hd)))
      subst hq
      simp only [e6] at hK ⊢
      go_simp
      exact hK _ _ (hQ.pure (by decide) rfl)
     simp only [Act.put,List.setIfInBounds_toArray,List.set_cons_succ,List.set_cons_zero,Nat.reduceAdd]
     refine ⟨fun D vs wq K hQ hd hdep hcl hK=> ?_,?_⟩
     ·go_simp
      exact hK _ _ (hQ.pure (by decide) rfl)
     simp only [Act.put,List.setIfInBounds_toArray,List.set_cons_succ,List.set_cons_zero,Nat.reduceAdd]
     refine ⟨fun D vs wq K hQ hd hdep hcl hK=> ?_,?_⟩
     ·have e8:=hQ.vals 8 (depB hdep 8 (by kernel_rfl)) (by decide)
      simp only at e8
      have hq:=(hP0 _).mp (hQ.at 0 (by decide) (.inl rfl) (.inr (closedF hcl 12 9 (by kernel_rfl) hd)))
      subst hq
      simp only [e8] at hK ⊢
      go_simp
      exact hK _ _ (hQ.pure (by decide) rfl)
     simp only [Act.put,List.setIfInBounds_toArray,List.set_cons_succ,List.set_cons_zero,Nat.reduceAdd]
     refine ⟨fun D vs wq K hQ hd hdep hcl hK=> ?_,?_⟩
     ·have e7:=hQ.vals 7 (depB hdep 7 (by kernel_rfl)) (by decide)
      simp only at e7
      have e9:=hQ.vals 9 (depB hdep 9 (by kernel_rfl)) (by decide)
      simp only at e9
      simp only [e7,e9] at hK ⊢
      go_simp
      exact hK _ _ (hQ.pure (by decide) rfl)
     simp only [Act.put,List.setIfInBounds_toArray,List.set_cons_succ,List.set_cons_zero,Nat.reduceAdd]
     refine ⟨fun D vs wq K hQ hd hdep hcl hK=> ?_,?_⟩
     ·have e0:=hQ.vals 0 (depB hdep 0 (by kernel_rfl)) (by decide)
      simp only at e0
      have e2:=hQ.vals 2 (depB hdep 2 (by kernel_rfl)) (by decide)
      simp only at e2
      have hq:=(hP0 _).mp (hQ.at 0 (by decide) (.inl rfl) (.inr (closedF hcl 12 11 (by kernel_rfl) hd)))
      subst hq
      simp only [e0,e2] at hK ⊢
      go_simp
      exact hK _ _ (hQ.pure (by decide) rfl)
     simp only [Act.put,List.setIfInBounds_toArray,List.set_cons_succ,List.set_cons_zero,Nat.reduceAdd]
     refine ⟨fun D vs wq K hQ hd hdep hcl hK=> ?_,?_⟩
     ·have e11:=hQ.vals 11 (depB hdep 11 (by kernel_rfl)) (by decide)
      simp only at e11
      have e10:=hQ.vals 10 (depB hdep 10 (by kernel_rfl)) (by decide)
      simp only at e10
      have hq:=(hP0 _).mp (hQ.at 0 (by decide) (.inl rfl) (.inr hd))
      subst hq
      simp only [e11,e10] at hK ⊢
      go_simp
      refine hK undef _ ?_
      exact hQ.eff 0 (by decide) (by decide) (.inl rfl) hd ((hP1 _ _).mpr rfl)
     simp only [Act.put,List.setIfInBounds_toArray,List.set_cons_succ,List.set_cons_zero,Nat.reduceAdd]
     intro vs D w6 hS6 hall
     have hp:=(hP1 _ _).mp (hS6.done (fun t ht=>hall _ (by have h2:t < 1:=ht; obtain rfl:t=0:=(by omega); decide)))
     subst hp
     clear hS6 hall hS0 hP0 hP1
     go_wp2_with (fail)
     go_meet
     exact rfl
    case rest=>
     have hwr:=hcut
     rename World=>w4
     obtain ⟨y1,y2,y3,y4,cs,hcs,hcz⟩:=hX.out
     have hcs':w3.drew.heap[g]?=some (.cells cs 3 (0,0)):=hcs
     have hb:∀ k,k≠g→w4.heap[k]?=w3.heap[k]?:=fun k hk=>by rw [hwr]; exact Below.heap_setCell _ _ _ _ (by simpa using hk)
     have hrow:w4.heap[g]?=some (.cells (cs.setIfInBounds 0 (.int .i64 0)) 3 (0,0)):=by rw [hwr]; exact heap_setCell_same _ _ _ _ _ _ hcs'
     have z:∀ i,w4.cell? ⟨g,i,none⟩=(cs.setIfInBounds 0 (.int .i64 0))[i]?:=fun i=>cell_of_row _ _ _ _ _ _ hrow
     have z':∀ i,w3.cell? ⟨g,i,none⟩=cs[i]?:=fun i=>cell_of_row _ _ _ _ _ _ hcs
     have x2:w4.cell? ⟨g,2,none⟩=some (.int .i64 k):=by rw [z,Array.getElem?_setIfInBounds_ne (by decide),← z']; exact y3
     have x1:w4.cell? ⟨g,1,none⟩=some (.int .i64 0):=by rw [z,Array.getElem?_setIfInBounds_ne (by decide),← z']; exact y4
     have x0:w4.cell? ⟨g,0,none⟩=some (.int .i64 0):=by rw [z,Array.getElem?_setIfInBounds_self_of_lt (by omega)]
     have hB34:Below g w3 w4:=by rw [hwr]; exact ⟨rfl,rfl,rfl,by simp [World.setCell],fun i hi=>Below.heap_setCell _ _ _ _ (by simp; omega)⟩
     have hk:∀ {k:Nat} {o:Obj},k < w.heap.size→w3.heap[k]?=some o→w4.heap[k]?=some o:=fun {k o} hl h=>(hb k (by omega)).trans h
     have hR4:Rep B R KB A V M N st vw 0 mach moved fls3 nil3 out w4:=by
      have h3:=hR3.out
      have h:=hH.out
      obtain ⟨ns,hn,hs⟩:=h3.n
      obtain ⟨ns',hn',_⟩:=h.n
      have l:∀ {k:Nat} {o:Obj},w.heap[k]?=some o→k < w.heap.size:=fun h=>(Array.getElem?_eq_some_iff.1 h).1
      exact ⟨hk (l h.row) h3.row,hk (l h.kn) h3.kn,hk (l h.a) h3.a,hk (l h.v) h3.v,hk (l h.m) h3.m,⟨ns,hk (l hn') hn,hs⟩,h3.ka,h3.rl,h3.kl,h3.al,h3.vl,h3.ml,h3.nl⟩
     have hB4:=Hid.mk (show Below w.heap.size w w4 from hB3.out.trans ⟨hB34.os,hB34.tape,hB34.output,hB34.size,fun i hi=>hB34.block i (by omega)⟩)
     have c0:=hR4.cs.c0
     have c11:=hR4.cs.c11
     obtain ⟨k0,k1,kk2⟩:=hR4.known
     have fk:=frozen_of_row _ _ 2 _ _ hR4.kn
     have hR4H:=Hid.mk hR4
     have hB4b:=Hid.mk (show Kx (SS KB A V M N) w w4 from Kx.of hB4.out)
     have e2:(k≤0)=False:=eq_false (by omega)
     clear hwr hX hR3 hB3 y1 y2 y3 y4 hcs hcz hcs' hb hrow z z' hB34 hk hR4 c1 c2 g2 f2 hcut hB4
     go_wp2_with (fail)
     go_loopw [6,7,36] (fun _ _ y wr=>(wr=w4∧∃ i:Nat,i≤2∧y= .int .i64 (i:Nat))∨(y= .int .i64 3∧Rep B R KB A V M N st vw k mach moved fls3 nil3 out wr∧Kx (SS KB A V M N) w wr∧wr.cell? ⟨R,0,none⟩=some (.int .i64 1))) (fun _ _ y _=>3 - (intOf y).toNat)
     case atStart=>exact .inl ⟨rfl,0,by omega,rfl⟩
     case round=>
      rcases hrel with ⟨hwr,i,hi,rfl⟩ | ⟨rfl,hRk,hBk,hck⟩
      ·subst hwr
       rcases (by omega:i=0∨i=1∨i=2) with rfl | rfl | rfl
       ·go_wp2_with (fail)
        exact ⟨.inl ⟨trivial,1,by omega,rfl⟩,by simp [intOf]⟩
       ·go_wp2_with (fail)
        exact ⟨.inl ⟨trivial,2,by omega,rfl⟩,by simp [intOf]⟩
       ·go_wp2_with (fail)
        have hR5:Rep B R KB A V M N st vw k mach moved fls3 nil3 out (wr.setCell ⟨KB,2,none⟩ (.int .i64 k)):=hR4H.out.learnt k
        have hB5:=hB4b.out.set ⟨KB,2,none⟩ (.int .i64 k) (.inl rfl)
        generalize wr.setCell ⟨KB,2,none⟩ (.int .i64 k)=w5 at*
        clear hR4H hB4b c0 c11 k0 k1 kk2 fk x0 x1 x2
        refine Go.Ev.wp_region_planE (fun v=>Rep B R KB A V M N st vw k mach moved fls3 nil3 out v∧Kx (SS KB A V M N) w v) hm (by kernel_rfl) (by kernel_rfl) ⟨hR5.below (Below.refl _ w5).drew,hB5.trans (Kx.of (Below.refl _ w5).drew)⟩ ?_
        clear hR5 hB5
        refine Go.Ev.planE_cons _ (by rintro v K hv hK; replace hv:=Hid.mk hv; go_simp; exact hK _ hv.out) ?_
        simp only [Act.put,List.setIfInBounds_toArray,List.set_cons_succ,List.set_cons_zero]
        refine Go.Ev.planE_cons _ (by rintro v K hv hK; replace hv:=Hid.mk hv; go_simp; exact hK _ hv.out) ?_
        simp only [Act.put,List.setIfInBounds_toArray,List.set_cons_succ,List.set_cons_zero]
        refine Go.Ev.planE_cons _ (by rintro v K hv hK; replace hv:=Hid.mk hv; go_simp; exact hK _ hv.out) ?_
        simp only [Act.put,List.setIfInBounds_toArray,List.set_cons_succ,List.set_cons_zero]
        refine Go.Ev.planE_cons _ (by rintro v K hv hK; replace hv:=Hid.mk hv; have cc:=hv.out.1.cs.c13; go_simp; exact hK _ hv.out) ?_
        simp only [Act.put,List.setIfInBounds_toArray,List.set_cons_succ,List.set_cons_zero]
        refine Go.Ev.planE_cons _ (by rintro v K hv hK; replace hv:=Hid.mk hv; go_simp; exact hK _ hv.out) ?_
        simp only [Act.put,List.setIfInBounds_toArray,List.set_cons_succ,List.set_cons_zero]
        refine Go.Ev.planE_cons _ (by rintro v K hv hK; replace hv:=Hid.mk hv; go_simp; exact hK _ hv.out) ?_
        simp only [Act.put,List.setIfInBounds_toArray,List.set_cons_succ,List.set_cons_zero]
        refine Go.Ev.planE_cons _ (by rintro v K hv hK; replace hv:=Hid.mk hv; go_simp; exact hK _ hv.out) ?_
        simp only [Act.put,List.setIfInBounds_toArray,List.set_cons_succ,List.set_cons_zero]
        refine Go.Ev.planE_cons _ (by rintro v K hv hK; replace hv:=Hid.mk hv; go_simp; exact hK _ hv.out) ?_
        simp only [Act.put,List.setIfInBounds_toArray,List.set_cons_succ,List.set_cons_zero]
        refine Go.Ev.planE_cons _ (by rintro v K hv hK; replace hv:=Hid.mk hv; have cc:=hv.out.1.cs.c14; go_simp; exact hK _ hv.out) ?_
        simp only [Act.put,List.setIfInBounds_toArray,List.set_cons_succ,List.set_cons_zero]
        refine Go.Ev.planE_cons _ (by rintro v K hv hK; replace hv:=Hid.mk hv; go_simp; exact hK _ hv.out) ?_
        simp only [Act.put,List.setIfInBounds_toArray,List.set_cons_succ,List.set_cons_zero]
        refine Go.Ev.planE_cons _ (by rintro v K hv hK; replace hv:=Hid.mk hv; go_simp; exact hK _ hv.out) ?_
        simp only [Act.put,List.setIfInBounds_toArray,List.set_cons_succ,List.set_cons_zero]
        refine Go.Ev.planE_cons _ (by rintro v K hv hK; replace hv:=Hid.mk hv; go_simp; exact hK _ hv.out) ?_
        simp only [Act.put,List.setIfInBounds_toArray,List.set_cons_succ,List.set_cons_zero]
        refine Go.Ev.planE_cons _ (by rintro v K hv hK; replace hv:=Hid.mk hv; go_simp; exact hK _ hv.out) ?_
        simp only [Act.put,List.setIfInBounds_toArray,List.set_cons_succ,List.set_cons_zero]
        refine Go.Ev.planE_cons _ (by rintro v K hv hK; replace hv:=Hid.mk hv; have cc:=hv.out.1.cs.c15; go_simp; exact hK _ hv.out) ?_
        simp only [Act.put,List.setIfInBounds_toArray,List.set_cons_succ,List.set_cons_zero]
        refine Go.Ev.planE_cons _ (by rintro v K hv hK; replace hv:=Hid.mk hv; go_simp; exact hK _ hv.out) ?_
        simp only [Act.put,List.setIfInBounds_toArray,List.set_cons_succ,List.set_cons_zero]
        refine Go.Ev.planE_cons _ (by rintro v K hv hK; replace hv:=Hid.mk hv; go_simp; exact hK _ hv.out) ?_
        simp only [Act.put,List.setIfInBounds_toArray,List.set_cons_succ,List.set_cons_zero]
        refine Go.Ev.planE_cons _ (by rintro v K hv hK; replace hv:=Hid.mk hv; go_simp; exact hK _ hv.out) ?_
        simp only [Act.put,List.setIfInBounds_toArray,List.set_cons_succ,List.set_cons_zero]
        refine Go.Ev.planE_cons _ (by rintro v K hv hK; replace hv:=Hid.mk hv; go_simp; exact hK _ hv.out) ?_
        simp only [Act.put,List.setIfInBounds_toArray,List.set_cons_succ,List.set_cons_zero]
        refine Go.Ev.planE_cons _ (by rintro v K hv hK; replace hv:=Hid.mk hv; have cc:=hv.out.1.cs.c17; go_simp; exact hK _ hv.out) ?_
        simp only [Act.put,List.setIfInBounds_toArray,List.set_cons_succ,List.set_cons_zero]
        refine Go.Ev.planE_cons _ (by rintro v K hv hK; replace hv:=Hid.mk hv; go_simp; exact hK _ hv.out) ?_
        simp only [Act.put,List.setIfInBounds_toArray,List.set_cons_succ,List.set_cons_zero]
        refine Go.Ev.planE_cons _ (by rintro v K hv hK; replace hv:=Hid.mk hv; go_simp; exact hK _ hv.out) ?_
        simp only [Act.put,List.setIfInBounds_toArray,List.set_cons_succ,List.set_cons_zero]
        refine Go.Ev.planE_cons undef (by rintro v K hv hK; replace hv:=Hid.mk hv; have cc:=(cell_of_row _ _ 2 _ _ _ hv.out.1.a).trans rfl; have ff:=frozen_of_row _ _ 2 _ _ hv.out.1.a; go_simp; exact hK _ ⟨hv.out.1.touch hv.out.1.a 2 _ rfl,hv.out.2.set _ _ (.inr (.inl rfl))⟩) ?_
        simp only [Act.put,List.setIfInBounds_toArray,List.set_cons_succ,List.set_cons_zero]
        refine Go.Ev.planE_cons _ (by rintro v K hv hK; replace hv:=Hid.mk hv; go_simp; exact hK _ hv.out) ?_
        simp only [Act.put,List.setIfInBounds_toArray,List.set_cons_succ,List.set_cons_zero]
        refine Go.Ev.planE_cons undef (by rintro v K hv hK; replace hv:=Hid.mk hv; have cc:=(cell_of_row _ _ 2 _ _ _ hv.out.1.v).trans rfl; have ff:=frozen_of_row _ _ 2 _ _ hv.out.1.v; go_simp; exact hK _ ⟨hv.out.1.touch hv.out.1.v 2 _ rfl,hv.out.2.set _ _ (.inr (.inr (.inl rfl)))⟩) ?_
        simp only [Act.put,List.setIfInBounds_toArray,List.set_cons_succ,List.set_cons_zero]
        refine Go.Ev.planE_cons _ (by rintro v K hv hK; replace hv:=Hid.mk hv; go_simp; exact hK _ hv.out) ?_
        simp only [Act.put,List.setIfInBounds_toArray,List.set_cons_succ,List.set_cons_zero]
        refine Go.Ev.planE_cons undef (by rintro v K hv hK; replace hv:=Hid.mk hv; have cc:=(cell_of_row _ _ 2 _ _ _ hv.out.1.m).trans rfl; have ff:=frozen_of_row _ _ 2 _ _ hv.out.1.m; go_simp; exact hK _ ⟨hv.out.1.touch hv.out.1.m 2 _ rfl,hv.out.2.set _ _ (.inr (.inr (.inr (.inl rfl))))⟩) ?_
        simp only [Act.put,List.setIfInBounds_toArray,List.set_cons_succ,List.set_cons_zero]
        refine Go.Ev.planE_cons _ (by rintro v K hv hK; replace hv:=Hid.mk hv; go_simp; exact hK _ hv.out) ?_
        simp only [Act.put,List.setIfInBounds_toArray,List.set_cons_succ,List.set_cons_zero]
        refine Go.Ev.planE_cons undef (by rintro v K hv hK; replace hv:=Hid.mk hv; obtain ⟨ns,hn,hs⟩:=hv.out.1.n; have cc:=(cell_of_row _ _ 2 _ _ _ hn).trans (Array.getElem?_eq_getElem (by omega)); have ff:=frozen_of_row _ _ 2 _ _ hn; replace hn:=Hid.mk hn; go_simp; exact hK _ ⟨hv.out.1.touchN hn.out hs,hv.out.2.set _ _ (.inr (.inr (.inr (.inr rfl))))⟩) ?_
        simp only [Act.put,List.setIfInBounds_toArray,List.set_cons_succ,List.set_cons_zero]
        rintro w6 hv
        replace hv:=Hid.mk hv
        go_wp2_with (fail)
        exact ⟨.inr ⟨rfl,hv.out.1,hv.out.2,hv.out.1.cs.c0⟩,by simp [intOf]⟩
      ·have hRkH:=Hid.mk hRk
       have hBkH:=Hid.mk hBk
       clear hRk hBk
       go_wp2_with (fail)
       go_ret
       exact ⟨rfl,hRkH.out,hBkH.out⟩
end
end Go.Proofs.YtniamhbcmcgonaaGreatDoor
