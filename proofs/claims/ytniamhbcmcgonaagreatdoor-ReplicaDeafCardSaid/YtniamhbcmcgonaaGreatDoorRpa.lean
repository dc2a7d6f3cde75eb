/- A replica in memory; forgetting, and new ones. Forgetting what was heard; new replicas. Printed by genrb.py. New replicas. Printed by genrc.py. The small functions of a replica. -/
import Derived.Test.YtniamhbcmcgonaaGreatDoorPln
import Derived.Test.YtniamhbcmcgonaaGreatDoorGlr
import Derived.Test.YtniamhbcmcgonaaGreatDoorGet
namespace Go.Proofs.YtniamhbcmcgonaaGreatDoor
open Go.RowKit Go.Ev
def slb (K:Nat):Value:= .slice (some ⟨K,0,none⟩) 3 3
def rowR (st vw:Int) (mach:Value) (K A V M N:Nat) (moved:Bool) (out:Value):Array Value:=
 #[.int .i64 1,.int .i64 1,.int .i64 st,.int .i64 vw,.int .i64 0,.int .i64 0,.string (bs []),.slice none 0 0,.int .i64 0,mach,.int .i64 0,slb K,.int .i64 0,slb A,slb V,slb M,.bool moved,slb N,.slice none 0 0,out]
def nil3:Array Value:=#[.pointer none,.pointer none,.pointer none]
def fls3:Array Value:=#[.bool false,.bool false,.bool false]
structure Fgt (B A V M N:Nat) (w:World):Prop where
 a:w.heap[A]?=some (.cells (intRow [0,0,0]) 3 (0,0))
 v:w.heap[V]?=some (.cells fls3 4 (0,0))
 m:w.heap[M]?=some (.cells nil3 103 (0,0))
 n:w.heap[N]?=some (.cells nil3 103 (0,0))
 al:B≤A
 vl:B≤V
 ml:B≤M
 nl:B≤N
theorem boolInfo:(Tryz.prog.info? 4).map (fun i=>(i.zero,i.size,i.bytes))=some (some (.bool false),1,1):=by kernel_rfl
theorem ptrInfo:(Tryz.prog.info? 103).map (fun i=>(i.zero,i.size,i.bytes))=some (some (.pointer none),1,8):=by kernel_rfl
theorem make_falses (w:World):(Instr.makeSlice 56 (.int .i64 3) (.int .i64 3)).run Tryz.prog w= .ok (slb w.heap.size) (w.alloc (.cells fls3 4)):=by
 obtain ⟨i0,hi,hz0,hz1,hz2⟩:=info_parts boolInfo
 have h:=run_make (P:=Tryz.prog) w 56 4 i0 (.bool false) Tryz.underlying56 hi hz0 .i64 .i64 (3:Int) (3:Int) (by omega) (Int.le_refl _) (by rw [hz2]; decide) (by omega)
 have e:madeCells (Value.bool false).cells (Int.toNat 3*1)=fls3:=by kernel_rfl
 rw [hz1,e] at h
 rw [h]; rfl
theorem make_nils (w:World):(Instr.makeSlice 57 (.int .i64 3) (.int .i64 3)).run Tryz.prog w= .ok (slb w.heap.size) (w.alloc (.cells nil3 103)):=by
 obtain ⟨i0,hi,hz0,hz1,hz2⟩:=info_parts ptrInfo
 have h:=run_make (P:=Tryz.prog) w 57 103 i0 (.pointer none) Tryz.underlying57 hi hz0 .i64 .i64 (3:Int) (3:Int) (by omega) (Int.le_refl _) (by rw [hz2]; decide) (by omega)
 have e:madeCells (Value.pointer none).cells (Int.toNat 3*1)=nil3:=by kernel_rfl
 rw [hz1,e] at h
 rw [h]; rfl
theorem make_ints (w:World):(Instr.makeSlice 32 (.int .i64 3) (.int .i64 3)).run Tryz.prog w= .ok (slb w.heap.size) (w.alloc (.cells (intRow [0,0,0]) 3)):=make_zeros 3 (.inr rfl) w
theorem opnew_any (w:World):Calls Tryz.prog 34 #[] w fun e w'=>(∃ a,e= .returned (.pointer a))∧Below w.heap.size w w':=by
 have hb:(match evalCall Tryz.prog 100 (fun _ _=>none) ext 100000 60 (.fn 34) [] ⟨.nil,.nil,100⟩ with
  | some (.pointer (some _),_)=>true
  | _=>false)=true:=by kernel_rfl
 split at hb
 case h_2=>cases hb
 rename_i a st hc
 have hs:=(evalCall_sound (N0:=w.heap.size) mixed ext_ok 100000 60).fn _ _ _ _ _ hc (fun _=>default) w _ (Go.Ev.R.start (fun b o u h=>by cases h)) (ARel.refl_flat (by rfl))
 refine hs.mono ?_
 rintro e w' ⟨v',φ',rfl,hR,hT,hv⟩
 refine ⟨?_,hT.below⟩
 cases hv with
 | flat hf=>simp [flat] at hf
 | glob hb=>exact ⟨_,rfl⟩
 | ptr=>exact ⟨_,rfl⟩
end Go.Proofs.YtniamhbcmcgonaaGreatDoor
namespace Go.Proofs.YtniamhbcmcgonaaGreatDoor
open Go.RowKit Go.Ev
def rowX (st vw:Int) (mach:Value) (KB:Nat) (q a v m:Value) (mvd n out:Value):Array Value:=
 #[.int .i64 1,.int .i64 1,.int .i64 st,.int .i64 vw,.int .i64 0,.int .i64 0,.string (bs []),.slice none 0 0,.int .i64 0,mach,.int .i64 0,slb KB,q,a,v,m,mvd,n,.slice none 0 0,out]
def zr (i:Nat):Array Value:=if i=5 then intRow [0,0,0] else if i=7 then fls3 else nil3
def zt (i:Nat):TypeId:=if i=5 then 3 else if i=7 then 4 else 103
def AL (i:Nat):Prop:=i=5∨i=7∨i=9∨i=11
structure Fs (R:Nat) (W:World) (row:Value→Value→Value→Value→Array Value) (a v m n:Value) (vals:Nat→Value) (D:Nat→Bool) (vs:Nat→Value) (w:World):Prop where
 vals:∀ i,D i=true→i ∉ [5,7,9,11]→vs i=vals i
 al:∀ i,AL i→D i=true→∃ X,vs i=slb X∧W.heap.size≤X∧w.heap[X]?=some (.cells (zr i) (zt i) (0,0))
 row:w.heap[R]?=some (.cells (row (bif D 14 then vs 5 else a) (bif D 17 then vs 7 else v) (bif D 20 then vs 9 else m) (bif D 23 then vs 11 else n)) 60 (0,0))
 kx:Kx (fun i=>i=R) W w
 rl:R < W.heap.size
section
variable {R:Nat} {W w:World} {row:Value→Value→Value→Value→Array Value} {a v m n:Value} {vals:Nat→Value} {D:Nat→Bool} {vs:Nat→Value}
theorem Fs.start (hr:W.heap[R]?=some (.cells (row a v m n) 60 (0,0))):Fs R W row a v m n vals (fun _=>false) (fun _=>undef) W:=
 ⟨fun i h=>(by cases h),fun i _ h=>(by cases h),hr,Kx.refl _ _,(Array.getElem?_eq_some_iff.1 hr).1⟩
theorem Fs.pure (h:Fs R W row a v m n vals D vs w) {i:Nat} {x:Value} (hi:i ∉ [5,7,9,11,14,17,20,23]) (hx:x=vals i):Fs R W row a v m n vals (upd D i true) (upd vs i x) w:=by
 simp only [List.mem_cons,List.not_mem_nil,or_false,not_or] at hi
 obtain ⟨h5,h7,h9,h11,h14,h17,h20,h23⟩:=hi
 refine ⟨fun j hj he=> ?_,fun j hj hd=> ?_,?_,h.kx,h.rl⟩
 ·by_cases e:j=i
  ·subst e; rw [upd_same]; exact hx
  ·rw [upd_other _ _ e] at hj ⊢; exact h.vals j hj he
 ·have e:j≠i:=by unfold AL at hj; omega
  rw [upd_other _ _ e] at hd ⊢; exact h.al j hj hd
 ·rw [upd_other _ _ (Ne.symm h14),upd_other _ _ (Ne.symm h17),upd_other _ _ (Ne.symm h20),upd_other _ _ (Ne.symm h23),upd_other _ _ (Ne.symm h5),upd_other _ _ (Ne.symm h7),upd_other _ _ (Ne.symm h9),upd_other _ _ (Ne.symm h11)]
  exact h.row
theorem Fs.alloc (h:Fs R W row a v m n vals D vs w) {i:Nat} (hi:AL i) (h14:i=5→D 14=false) (h17:i=7→D 17=false) (h20:i=9→D 20=false) (h23:i=11→D 23=false) :
  Fs R W row a v m n vals (upd D i true) (upd vs i (slb w.heap.size)) (w.alloc (.cells (zr i) (zt i))):=by
 have hi':=hi
 unfold AL at hi'
 have hold:∀ k,k < w.heap.size→(w.alloc (.cells (zr i) (zt i))).heap[k]?=w.heap[k]?:=fun k hk=>heap_alloc_old _ _ hk
 refine ⟨fun j hj he=> ?_,fun j hj hd=> ?_,?_,?_,h.rl⟩
 ·have e:j≠i:=by
   simp only [List.mem_cons,List.not_mem_nil,or_false,not_or] at he
   omega
  rw [upd_other _ _ e] at hj ⊢; exact h.vals j hj he
 ·by_cases e:j=i
  ·subst e
   rw [upd_same]
   exact ⟨_,rfl,h.kx.size,heap_alloc_new _ _⟩
  ·rw [upd_other _ _ e] at hd ⊢
   obtain ⟨X,h1,h2,h3⟩:=h.al j hj hd
   exact ⟨X,h1,h2,(hold X (Array.getElem?_eq_some_iff.1 h3).1).trans h3⟩
 ·have q5:(bif D 14 then upd vs i (slb w.heap.size) 5 else a)=(bif D 14 then vs 5 else a):=by
   by_cases e:i=5
   ·rw [h14 e]; rfl
   ·rw [upd_other _ _ (Ne.symm e)]
  have q7:(bif D 17 then upd vs i (slb w.heap.size) 7 else v)=(bif D 17 then vs 7 else v):=by
   by_cases e:i=7
   ·rw [h17 e]; rfl
   ·rw [upd_other _ _ (Ne.symm e)]
  have q9:(bif D 20 then upd vs i (slb w.heap.size) 9 else m)=(bif D 20 then vs 9 else m):=by
   by_cases e:i=9
   ·rw [h20 e]; rfl
   ·rw [upd_other _ _ (Ne.symm e)]
  have q11:(bif D 23 then upd vs i (slb w.heap.size) 11 else n)=(bif D 23 then vs 11 else n):=by
   by_cases e:i=11
   ·rw [h23 e]; rfl
   ·rw [upd_other _ _ (Ne.symm e)]
  rw [upd_other D true (by omega:(14:Nat)≠i),upd_other D true (by omega:(17:Nat)≠i),upd_other D true (by omega:(20:Nat)≠i),upd_other D true (by omega:(23:Nat)≠i),q5,q7,q9,q11]
  exact (hold R (Array.getElem?_eq_some_iff.1 h.row).1).trans h.row
 ·exact h.kx.trans (Kx.of (S:=fun i=>i=R) ((Below.refl _ w).alloc (Nat.le_refl _) _))
theorem Fs.store (h:Fs R W row a v m n vals D vs w) {i off:Nat} {x:Value} (hi:i=14∨i=17∨i=20∨i=23) {y:Value} (hy:y=vals i)
  (hrow:(row (bif D 14 then vs 5 else a) (bif D 17 then vs 7 else v) (bif D 20 then vs 9 else m) (bif D 23 then vs 11 else n)).setIfInBounds off x=row (bif upd D i true 14 then vs 5 else a) (bif upd D i true 17 then vs 7 else v) (bif upd D i true 20 then vs 9 else m) (bif upd D i true 23 then vs 11 else n)) :
  Fs R W row a v m n vals (upd D i true) (upd vs i y) (w.setCell ⟨R,off,none⟩ x):=by
 have hb:∀ k,k≠R→(w.setCell ⟨R,off,none⟩ x).heap[k]?=w.heap[k]?:=fun k hk=>Below.heap_setCell _ _ _ _ (by simpa using hk)
 refine ⟨fun j hj he=> ?_,fun j hj hd=> ?_,?_,?_,h.rl⟩
 ·by_cases e:j=i
  ·subst e; rw [upd_same]; exact hy
  ·rw [upd_other _ _ e] at hj ⊢; exact h.vals j hj he
 ·have e:j≠i:=by unfold AL at hj; omega
  rw [upd_other _ _ e] at hd ⊢
  obtain ⟨X,h1,h2,h3⟩:=h.al j hj hd
  exact ⟨X,h1,h2,(hb X (by have:=h.rl; omega)).trans h3⟩
 ·rw [heap_setCell_same _ _ _ _ _ _ h.row,hrow]
  rw [upd_other vs y (by omega:(5:Nat)≠i),upd_other vs y (by omega:(7:Nat)≠i),upd_other vs y (by omega:(9:Nat)≠i),upd_other vs y (by omega:(11:Nat)≠i)]
 ·refine h.kx.trans ⟨rfl,rfl,rfl,by simp [World.setCell],fun i hi hn=>hb i hn⟩
end
set_option maxRecDepth 100000 in
set_option maxHeartbeats 6400000 in
theorem forget_any (R KB:Nat) (st vw:Int) (mach q a v m mvd n out:Value) (w:World) (hr:w.heap[R]?=some (.cells (rowX st vw mach KB q a v m mvd n out) 60 (0,0))) :
  Calls Tryz.prog 35 #[.pointer (some ⟨R,0,none⟩)] w fun e w'=>e= .returned (.tuple #[])∧∃ A V M N,Fgt w.heap.size A V M N w'∧
   w'.heap[R]?=some (.cells (rowR st vw mach KB A V M N false out) 60 (0,0))∧Kx (fun i=>i=R) w w':=by
 have hm:Tryz.prog.follows .mixedOrders=true:=by kernel_rfl
 have hrH:=Hid.mk hr
 have c11:w.cell? ⟨R,11,none⟩=some (slb KB):=(cell_of_row _ _ _ _ _ _ hr).trans rfl
 unfold slb at c11
 clear hr
 go_enter Tryz.func35,Tryz.ntmps35
 go_upto_region 1 with fail
 go_cut [2] (fun _ wr=>∃ A V M N,Fgt w.heap.size A V M N wr∧wr.heap[R]?=some (.cells (rowX st vw mach KB q (slb A) (slb V) (slb M) mvd (slb N) out) 60 (0,0))∧Kx (fun i=>i=R) w wr)
 case first=>as_aux_lemma=>
  have hS0:=Fs.start (R:=R) (W:=w.drew) (row:=fun a v m n=>rowX st vw mach KB q a v m mvd n out) (a:=a) (v:=v) (m:=m) (n:=n)
   (vals:=fun i=>match i with | 4=> .int .i64 3 | 6=> .int .i64 3 | 8=> .int .i64 3 | 10=> .int .i64 3 | 13=> .pointer (some ⟨R,13,none⟩) | 16=> .pointer (some ⟨R,14,none⟩) | 19=> .pointer (some ⟨R,15,none⟩) | 22=> .pointer (some ⟨R,17,none⟩) | 14=>undef | 17=>undef | 20=>undef | 23=>undef | _=> .pointer (some ⟨R,0,none⟩)) (show w.drew.heap[R]?=_ from hrH.out)
  go_wp2_with (fail)
  refine Go.Ev.wp_region_inv _ hm (by kernel_rfl) (by kernel_rfl) hS0 ?_
  refine ⟨fun D vs wq K hQ hd hdep hcl hK=> ?_,?_⟩
  ·go_simp
   exact hK _ _ (hQ.pure (by decide) rfl)
  simp only [Act.put,List.setIfInBounds_toArray,List.set_cons_succ,List.set_cons_zero,Nat.reduceAdd]
  refine ⟨fun D vs wq K hQ hd hdep hcl hK=> ?_,?_⟩
  ·go_simp
   exact hK _ _ (hQ.pure (by decide) rfl)
  simp only [Act.put,List.setIfInBounds_toArray,List.set_cons_succ,List.set_cons_zero,Nat.reduceAdd]
  refine ⟨fun D vs wq K hQ hd hdep hcl hK=> ?_,?_⟩
  ·go_simp
   exact hK _ _ (hQ.pure (by decide) rfl)
  simp only [Act.put,List.setIfInBounds_toArray,List.set_cons_succ,List.set_cons_zero,Nat.reduceAdd]
  refine ⟨fun D vs wq K hQ hd hdep hcl hK=> ?_,?_⟩
  ·go_simp
   exact hK _ _ (hQ.pure (by decide) rfl)
  simp only [Act.put,List.setIfInBounds_toArray,List.set_cons_succ,List.set_cons_zero,Nat.reduceAdd]
  refine ⟨fun D vs wq K hQ hd hdep hcl hK=> ?_,?_⟩
  ·go_simp
   exact hK _ _ (hQ.pure (by decide) rfl)
  simp only [Act.put,List.setIfInBounds_toArray,List.set_cons_succ,List.set_cons_zero,Nat.reduceAdd]
  refine ⟨fun D vs wq K hQ hd hdep hcl hK=> ?_,?_⟩
  ·have e4:=hQ.vals 4 (depB hdep 4 (by kernel_rfl)) (by decide)
   simp only at e4
   have hmk:=make_ints wq
   have h14:=closedF hcl 14 5 (by kernel_rfl) hd
   simp only [e4] at hK ⊢
   go_simp
   exact hK _ _ (hQ.alloc (i:=5) (by unfold AL; omega) (fun _=>h14) (fun h=>by omega) (fun h=>by omega) (fun h=>by omega))
  simp only [Act.put,List.setIfInBounds_toArray,List.set_cons_succ,List.set_cons_zero,Nat.reduceAdd]
  refine ⟨fun D vs wq K hQ hd hdep hcl hK=> ?_,?_⟩
  ·go_simp
   exact hK _ _ (hQ.pure (by decide) rfl)
  simp only [Act.put,List.setIfInBounds_toArray,List.set_cons_succ,List.set_cons_zero,Nat.reduceAdd]
  refine ⟨fun D vs wq K hQ hd hdep hcl hK=> ?_,?_⟩
  ·have e6:=hQ.vals 6 (depB hdep 6 (by kernel_rfl)) (by decide)
   simp only at e6
   have hmk:=make_falses wq
   have h17:=closedF hcl 17 7 (by kernel_rfl) hd
   simp only [e6] at hK ⊢
   go_simp
   exact hK _ _ (hQ.alloc (i:=7) (by unfold AL; omega) (fun h=>by omega) (fun _=>h17) (fun h=>by omega) (fun h=>by omega))
  simp only [Act.put,List.setIfInBounds_toArray,List.set_cons_succ,List.set_cons_zero,Nat.reduceAdd]
  refine ⟨fun D vs wq K hQ hd hdep hcl hK=> ?_,?_⟩
  ·go_simp
   exact hK _ _ (hQ.pure (by decide) rfl)
  simp only [Act.put,List.setIfInBounds_toArray,List.set_cons_succ,List.set_cons_zero,Nat.reduceAdd]
  refine ⟨fun D vs wq K hQ hd hdep hcl hK=> ?_,?_⟩
  ·have e8:=hQ.vals 8 (depB hdep 8 (by kernel_rfl)) (by decide)
   simp only at e8
   have hmk:=make_nils wq
   have h20:=closedF hcl 20 9 (by kernel_rfl) hd
   simp only [e8] at hK ⊢
   go_simp
   exact hK _ _ (hQ.alloc (i:=9) (by unfold AL; omega) (fun h=>by omega) (fun h=>by omega) (fun _=>h20) (fun h=>by omega))
  simp only [Act.put,List.setIfInBounds_toArray,List.set_cons_succ,List.set_cons_zero,Nat.reduceAdd]
  refine ⟨fun D vs wq K hQ hd hdep hcl hK=> ?_,?_⟩
  ·go_simp
   exact hK _ _ (hQ.pure (by decide) rfl)
  simp only [Act.put,List.setIfInBounds_toArray,List.set_cons_succ,List.set_cons_zero,Nat.reduceAdd]
  refine ⟨fun D vs wq K hQ hd hdep hcl hK=> ?_,?_⟩
  ·have e10:=hQ.vals 10 (depB hdep 10 (by kernel_rfl)) (by decide)
   simp only at e10
   have hmk:=make_nils wq
   have h23:=closedF hcl 23 11 (by kernel_rfl) hd
   simp only [e10] at hK ⊢
   go_simp
   exact hK _ _ (hQ.alloc (i:=11) (by unfold AL; omega) (fun h=>by omega) (fun h=>by omega) (fun h=>by omega) (fun _=>h23))
  simp only [Act.put,List.setIfInBounds_toArray,List.set_cons_succ,List.set_cons_zero,Nat.reduceAdd]
  refine ⟨fun D vs wq K hQ hd hdep hcl hK=> ?_,?_⟩
  ·have e0:=hQ.vals 0 (depB hdep 0 (by kernel_rfl)) (by decide)
   simp only at e0
   simp only [e0] at hK ⊢
   go_simp
   exact hK _ _ (hQ.pure (by decide) rfl)
  simp only [Act.put,List.setIfInBounds_toArray,List.set_cons_succ,List.set_cons_zero,Nat.reduceAdd]
  refine ⟨fun D vs wq K hQ hd hdep hcl hK=> ?_,?_⟩
  ·have e12:=hQ.vals 12 (depB hdep 12 (by kernel_rfl)) (by decide)
   simp only at e12
   simp only [e12] at hK ⊢
   go_simp
   exact hK _ _ (hQ.pure (by decide) rfl)
  simp only [Act.put,List.setIfInBounds_toArray,List.set_cons_succ,List.set_cons_zero,Nat.reduceAdd]
  refine ⟨fun D vs wq K hQ hd hdep hcl hK=> ?_,?_⟩
  ·have e13:=hQ.vals 13 (depB hdep 13 (by kernel_rfl)) (by decide)
   simp only at e13
   obtain ⟨X,hX,_,_⟩:=hQ.al 5 (by unfold AL; omega) (depB hdep 5 (by kernel_rfl))
   unfold slb at hX
   have g17:=closedF hcl 17 14 (by kernel_rfl) hd
   have g20:=closedF hcl 20 14 (by kernel_rfl) hd
   have g23:=closedF hcl 23 14 (by kernel_rfl) hd
   have hrw:=hQ.row
   have cc:=(cell_of_row _ _ 13 _ _ _ hrw).trans rfl
   have ff:=frozen_of_row _ _ 13 _ _ hrw
   clear hrw
   simp only [e13] at hK ⊢
   simp only [hX] at hK ⊢
   go_simp
   refine hK undef _ ?_
   refine hQ.store (i:=14) (by omega) rfl ?_
   simp only [hd,g17,g20,g23,hX,cond_true,cond_false,upd_same,upd_other D true (by decide:(17:Nat)≠14),upd_other D true (by decide:(20:Nat)≠14),upd_other D true (by decide:(23:Nat)≠14)]
   rfl
  simp only [Act.put,List.setIfInBounds_toArray,List.set_cons_succ,List.set_cons_zero,Nat.reduceAdd]
  refine ⟨fun D vs wq K hQ hd hdep hcl hK=> ?_,?_⟩
  ·have e1:=hQ.vals 1 (depB hdep 1 (by kernel_rfl)) (by decide)
   simp only at e1
   simp only [e1] at hK ⊢
   go_simp
   exact hK _ _ (hQ.pure (by decide) rfl)
  simp only [Act.put,List.setIfInBounds_toArray,List.set_cons_succ,List.set_cons_zero,Nat.reduceAdd]
  refine ⟨fun D vs wq K hQ hd hdep hcl hK=> ?_,?_⟩
  ·have e15:=hQ.vals 15 (depB hdep 15 (by kernel_rfl)) (by decide)
   simp only at e15
   simp only [e15] at hK ⊢
   go_simp
   exact hK _ _ (hQ.pure (by decide) rfl)
  simp only [Act.put,List.setIfInBounds_toArray,List.set_cons_succ,List.set_cons_zero,Nat.reduceAdd]
  refine ⟨fun D vs wq K hQ hd hdep hcl hK=> ?_,?_⟩
  ·have e16:=hQ.vals 16 (depB hdep 16 (by kernel_rfl)) (by decide)
   simp only at e16
   obtain ⟨X,hX,_,_⟩:=hQ.al 7 (by unfold AL; omega) (depB hdep 7 (by kernel_rfl))
   unfold slb at hX
   have g14:=depB hdep 14 (by kernel_rfl)
   have g20:=closedF hcl 20 17 (by kernel_rfl) hd
   have g23:=closedF hcl 23 17 (by kernel_rfl) hd
   have hrw:=hQ.row
   have cc:=(cell_of_row _ _ 14 _ _ _ hrw).trans rfl
   have ff:=frozen_of_row _ _ 14 _ _ hrw
   clear hrw
   simp only [e16] at hK ⊢
   simp only [hX] at hK ⊢
   go_simp
   refine hK undef _ ?_
   refine hQ.store (i:=17) (by omega) rfl ?_
   simp only [hd,g14,g20,g23,hX,cond_true,cond_false,upd_same,upd_other D true (by decide:(14:Nat)≠17),upd_other D true (by decide:(20:Nat)≠17),upd_other D true (by decide:(23:Nat)≠17)]
   rfl
  simp only [Act.put,List.setIfInBounds_toArray,List.set_cons_succ,List.set_cons_zero,Nat.reduceAdd]
  refine ⟨fun D vs wq K hQ hd hdep hcl hK=> ?_,?_⟩
  ·have e2:=hQ.vals 2 (depB hdep 2 (by kernel_rfl)) (by decide)
   simp only at e2
   simp only [e2] at hK ⊢
   go_simp
   exact hK _ _ (hQ.pure (by decide) rfl)
  simp only [Act.put,List.setIfInBounds_toArray,List.set_cons_succ,List.set_cons_zero,Nat.reduceAdd]
  refine ⟨fun D vs wq K hQ hd hdep hcl hK=> ?_,?_⟩
  ·have e18:=hQ.vals 18 (depB hdep 18 (by kernel_rfl)) (by decide)
   simp only at e18
   simp only [e18] at hK ⊢
   go_simp
   exact hK _ _ (hQ.pure (by decide) rfl)
  simp only [Act.put,List.setIfInBounds_toArray,List.set_cons_succ,List.set_cons_zero,Nat.reduceAdd]
  refine ⟨fun D vs wq K hQ hd hdep hcl hK=> ?_,?_⟩
  ·have e19:=hQ.vals 19 (depB hdep 19 (by kernel_rfl)) (by decide)
   simp only at e19
   obtain ⟨X,hX,_,_⟩:=hQ.al 9 (by unfold AL; omega) (depB hdep 9 (by kernel_rfl))
   unfold slb at hX
   have g14:=depB hdep 14 (by kernel_rfl)
   have g17:=depB hdep 17 (by kernel_rfl)
   have g23:=closedF hcl 23 20 (by kernel_rfl) hd
   have hrw:=hQ.row
   have cc:=(cell_of_row _ _ 15 _ _ _ hrw).trans rfl
   have ff:=frozen_of_row _ _ 15 _ _ hrw
   clear hrw
   simp only [e19] at hK ⊢
   simp only [hX] at hK ⊢
   go_simp
   refine hK undef _ ?_
   refine hQ.store (i:=20) (by omega) rfl ?_
   simp only [hd,g14,g17,g23,hX,cond_true,cond_false,upd_same,upd_other D true (by decide:(14:Nat)≠20),upd_other D true (by decide:(17:Nat)≠20),upd_other D true (by decide:(23:Nat)≠20)]
   rfl
  simp only [Act.put,List.setIfInBounds_toArray,List.set_cons_succ,List.set_cons_zero,Nat.reduceAdd]
  refine ⟨fun D vs wq K hQ hd hdep hcl hK=> ?_,?_⟩
  ·have e3:=hQ.vals 3 (depB hdep 3 (by kernel_rfl)) (by decide)
   simp only at e3
   simp only [e3] at hK ⊢
   go_simp
   exact hK _ _ (hQ.pure (by decide) rfl)
  simp only [Act.put,List.setIfInBounds_toArray,List.set_cons_succ,List.set_cons_zero,Nat.reduceAdd]
  refine ⟨fun D vs wq K hQ hd hdep hcl hK=> ?_,?_⟩
  ·have e21:=hQ.vals 21 (depB hdep 21 (by kernel_rfl)) (by decide)
   simp only at e21
   simp only [e21] at hK ⊢
   go_simp
   exact hK _ _ (hQ.pure (by decide) rfl)
  simp only [Act.put,List.setIfInBounds_toArray,List.set_cons_succ,List.set_cons_zero,Nat.reduceAdd]
  refine ⟨fun D vs wq K hQ hd hdep hcl hK=> ?_,?_⟩
  ·have e22:=hQ.vals 22 (depB hdep 22 (by kernel_rfl)) (by decide)
   simp only at e22
   obtain ⟨X,hX,_,_⟩:=hQ.al 11 (by unfold AL; omega) (depB hdep 11 (by kernel_rfl))
   unfold slb at hX
   have g14:=depB hdep 14 (by kernel_rfl)
   have g17:=depB hdep 17 (by kernel_rfl)
   have g20:=depB hdep 20 (by kernel_rfl)
   have hrw:=hQ.row
   have cc:=(cell_of_row _ _ 17 _ _ _ hrw).trans rfl
   have ff:=frozen_of_row _ _ 17 _ _ hrw
   clear hrw
   simp only [e22] at hK ⊢
   simp only [hX] at hK ⊢
   go_simp
   refine hK undef _ ?_
   refine hQ.store (i:=23) (by omega) rfl ?_
   simp only [hd,g14,g17,g20,hX,cond_true,cond_false,upd_same,upd_other D true (by decide:(14:Nat)≠23),upd_other D true (by decide:(17:Nat)≠23),upd_other D true (by decide:(20:Nat)≠23)]
   rfl
  simp only [Act.put,List.setIfInBounds_toArray,List.set_cons_succ,List.set_cons_zero,Nat.reduceAdd]
  intro vs D w6 hS6 hall
  obtain ⟨A,hA,a1,a2⟩:=hS6.al 5 (by unfold AL; omega) (hall 5 (by decide))
  obtain ⟨V,hV,v1,v2⟩:=hS6.al 7 (by unfold AL; omega) (hall 7 (by decide))
  obtain ⟨M,hM,m1,m2⟩:=hS6.al 9 (by unfold AL; omega) (hall 9 (by decide))
  obtain ⟨N,hN,n1,n2⟩:=hS6.al 11 (by unfold AL; omega) (hall 11 (by decide))
  have hrw:=hS6.row
  rw [hall 14 (by decide),hall 17 (by decide),hall 20 (by decide),hall 23 (by decide)] at hrw
  simp only [cond_true,hA,hV,hM,hN] at hrw
  have hkx:=Hid.mk ((⟨rfl,rfl,rfl,Nat.le_refl _,fun _ _ _=>rfl⟩:Kx (fun i=>i=R) w w.drew).trans hS6.kx)
  have hrwH:=Hid.mk hrw
  have hF:=Hid.mk (show Fgt w.heap.size A V M N w6 from ⟨a2,v2,m2,n2,a1,v1,m1,n1⟩)
  clear hS6 hall hrw hA hV hM hN a1 a2 v1 v2 m1 m2 n1 n2
  go_wp2_with (fail)
  go_meet
  exact ⟨A,V,M,N,hF.out,hrwH.out,hkx.out⟩
 case rest=>
  obtain ⟨A,V,M,N,hF,hrw,hkx⟩:=hcut
  rename World=>w2
  have c16:w2.cell? ⟨R,16,none⟩=some mvd:=(cell_of_row _ _ _ _ _ _ hrw).trans rfl
  have c12:w2.cell? ⟨R,12,none⟩=some q:=(cell_of_row _ _ _ _ _ _ hrw).trans rfl
  have f16:=frozen_of_row _ _ 16 _ _ hrw
  have f12:=frozen_of_row _ _ 12 _ _ hrw
  have hFH:=Hid.mk hF
  have hrwH:=Hid.mk hrw
  have hkxH:=Hid.mk hkx
  clear hF hrw hkx c11
  go_wp2_with (fail)
  go_end0
  have hb:∀ k,k≠R→((w2.setCell ⟨R,16,none⟩ (.bool false)).setCell ⟨R,12,none⟩ (.int .i64 0)).heap[k]?=w2.heap[k]?:=fun k hk=>(Below.heap_setCell _ _ _ _ (by simpa using hk)).trans (Below.heap_setCell _ _ _ _ (by simpa using hk))
  have hRl:R < w.heap.size:=(Array.getElem?_eq_some_iff.1 hrH.out).1
  have hF:=hFH.out
  refine ⟨rfl,A,V,M,N,⟨(hb _ (by have:=hF.al; omega)).trans hF.a,(hb _ (by have:=hF.vl; omega)).trans hF.v,(hb _ (by have:=hF.ml; omega)).trans hF.m,(hb _ (by have:=hF.nl; omega)).trans hF.n,hF.al,hF.vl,hF.ml,hF.nl⟩,?_,?_⟩
  ·rw [heap_setCell_same _ _ _ _ _ _ (heap_setCell_same _ _ _ _ _ _ hrwH.out)]; rfl
  ·exact hkxH.out.trans ⟨rfl,rfl,rfl,by simp [World.setCell],fun i hi hn=>hb i hn⟩
end Go.Proofs.YtniamhbcmcgonaaGreatDoor
namespace Go.Proofs.YtniamhbcmcgonaaGreatDoor
open Go.RowKit Go.Ev
def rowN (mach:Value) (KB:Nat):Array Value:=rowX 1 0 mach KB (.int .i64 0) (.slice none 0 0) (.slice none 0 0) (.slice none 0 0) (.bool false) (.slice none 0 0) (.slice none 0 0)
structure Bs (W:World) (vals:Nat→Value) (D:Nat→Bool) (vs:Nat→Value) (w:World):Prop where
 vals:∀ i,D i=true→i ∉ [2,4,5,6,7]→vs i=vals i
 c2:D 2=true→∃ a,vs 2= .pointer a
 c4:D 4=true→∃ KB,vs 4=slb KB∧W.heap.size≤KB∧w.heap[KB]?=some (.cells (intRow [0,0,0]) 3 (0,0))
 c5:D 5=true→∃ a KB,vs 5= .agg (rowN (.pointer a) KB)∧W.heap.size≤KB∧w.heap[KB]?=some (.cells (intRow [0,0,0]) 3 (0,0))
 c6:D 6=true→∃ a KB R,vs 6= .pointer (some ⟨R,0,none⟩)∧w.heap[R]?=some (.cells (rowN (.pointer a) KB) 60 (0,0))∧W.heap.size≤R∧W.heap.size≤KB∧w.heap[KB]?=some (.cells (intRow [0,0,0]) 3 (0,0))
 c7:D 7=true→vs 7=vs 6
 bl:Below W.heap.size W w
section
variable {W w w':World} {vals:Nat→Value} {D:Nat→Bool} {vs:Nat→Value}
theorem Bs.start (W:World) (vals:Nat→Value):Bs W vals (fun _=>false) (fun _=>undef) W:=
 ⟨fun i h=>(by cases h),fun h=>(by cases h),fun h=>(by cases h),fun h=>(by cases h),fun h=>(by cases h),fun h=>(by cases h),Below.refl _ _⟩
theorem Bs.below (h:Bs W vals D vs w) (hb:Below w.heap.size w w'):Bs W vals D vs w':=by
 have hk:∀ {k:Nat} {o:Obj},w.heap[k]?=some o→w'.heap[k]?=some o:=fun {k o} h=>(hb.block k (Array.getElem?_eq_some_iff.1 h).1).trans h
 refine ⟨h.vals,h.c2,fun d=> ?_,fun d=> ?_,fun d=> ?_,h.c7,h.bl.trans (hb.mono h.bl.size)⟩
 ·obtain ⟨KB,h1,h2,h3⟩:=h.c4 d; exact ⟨KB,h1,h2,hk h3⟩
 ·obtain ⟨a,KB,h1,h2,h3⟩:=h.c5 d; exact ⟨a,KB,h1,h2,hk h3⟩
 ·obtain ⟨a,KB,R,h1,h2,h3,h4,h5⟩:=h.c6 d; exact ⟨a,KB,R,h1,hk h2,h3,h4,hk h5⟩
theorem Bs.set (h:Bs W vals D vs w) (i:Nat) (x:Value) (hi:D i=false) (hx:i ∉ [2,4,5,6,7]→x=vals i) (h2:i=2→∃ a,x= .pointer a) (h4:i=4→∃ KB,x=slb KB∧W.heap.size≤KB∧w.heap[KB]?=some (.cells (intRow [0,0,0]) 3 (0,0)))
  (h5:i=5→∃ a KB,x= .agg (rowN (.pointer a) KB)∧W.heap.size≤KB∧w.heap[KB]?=some (.cells (intRow [0,0,0]) 3 (0,0)))
  (h6:i=6→D 7=false∧∃ a KB R,x= .pointer (some ⟨R,0,none⟩)∧w.heap[R]?=some (.cells (rowN (.pointer a) KB) 60 (0,0))∧W.heap.size≤R∧W.heap.size≤KB∧w.heap[KB]?=some (.cells (intRow [0,0,0]) 3 (0,0)))
  (h7:i=7→x=vs 6):Bs W vals (upd D i true) (upd vs i x) w:=by
 refine ⟨fun j hj he=> ?_,fun d=> ?_,fun d=> ?_,fun d=> ?_,fun d=> ?_,fun d=> ?_,h.bl⟩
 ·by_cases e:j=i
  ·subst e; rw [upd_same]; exact hx he
  ·rw [upd_other _ _ e] at hj ⊢; exact h.vals j hj he
 ·by_cases e:2=i
  ·subst e; rw [upd_same]; exact h2 rfl
  ·rw [upd_other _ _ e] at d ⊢; exact h.c2 d
 ·by_cases e:4=i
  ·subst e; rw [upd_same]; exact h4 rfl
  ·rw [upd_other _ _ e] at d ⊢; exact h.c4 d
 ·by_cases e:5=i
  ·subst e; rw [upd_same]; exact h5 rfl
  ·rw [upd_other _ _ e] at d ⊢; exact h.c5 d
 ·by_cases e:6=i
  ·subst e; rw [upd_same]; exact (h6 rfl).2
  ·rw [upd_other _ _ e] at d ⊢; exact h.c6 d
 ·by_cases e:7=i
  ·subst e; rw [upd_same,upd_other _ _ (by decide:(6:Nat)≠7)]; exact h7 rfl
  ·rw [upd_other _ _ e] at d
   by_cases e6:6=i
   ·subst e6; rw [(h6 rfl).1] at d; cases d
   ·rw [upd_other _ _ e,upd_other _ _ e6]; exact h.c7 d
theorem Bs.pure (h:Bs W vals D vs w) {i:Nat} {x:Value} (hd:D i=false) (hi:i ∉ [2,4,5,6,7]) (hx:x=vals i):Bs W vals (upd D i true) (upd vs i x) w:=by
 simp only [List.mem_cons,List.not_mem_nil,or_false,not_or] at hi
 exact h.set i x hd (fun _=>hx) (fun e=>absurd e hi.1) (fun e=>absurd e hi.2.1) (fun e=>absurd e hi.2.2.1) (fun e=>absurd e hi.2.2.2.1) (fun e=>absurd e hi.2.2.2.2)
end
structure Rep (B R KB A V M N:Nat) (st vw k2:Int) (mach:Value) (moved:Bool) (vt ms:Array Value) (out:Value) (w:World):Prop where
 row:w.heap[R]?=some (.cells (rowR st vw mach KB A V M N moved out) 60 (0,0))
 kn:w.heap[KB]?=some (.cells (intRow [0,0,k2]) 3 (0,0))
 a:w.heap[A]?=some (.cells (intRow [0,0,0]) 3 (0,0))
 v:w.heap[V]?=some (.cells vt 4 (0,0))
 m:w.heap[M]?=some (.cells ms 103 (0,0))
 n:∃ ns,w.heap[N]?=some (.cells ns 103 (0,0))∧ns.size=3
 ka:KB≠A
 rl:B≤R
 kl:B≤KB
 al:B≤A
 vl:B≤V
 ml:B≤M
 nl:B≤N
theorem Rep.below {B R KB A V M N:Nat} {st vw k2:Int} {mach:Value} {moved:Bool} {vt ms:Array Value} {out:Value} {w w':World} (h:Rep B R KB A V M N st vw k2 mach moved vt ms out w) (hb:Below w.heap.size w w'):Rep B R KB A V M N st vw k2 mach moved vt ms out w':=by
 have hk:∀ {k:Nat} {o:Obj},w.heap[k]?=some o→w'.heap[k]?=some o:=fun {k o} h=>(hb.block k (Array.getElem?_eq_some_iff.1 h).1).trans h
 obtain ⟨ns,hn,hs⟩:=h.n
 exact ⟨hk h.row,hk h.kn,hk h.a,hk h.v,hk h.m,⟨ns,hk hn,hs⟩,h.ka,h.rl,h.kl,h.al,h.vl,h.ml,h.nl⟩
theorem Rep.lt {B R KB A V M N:Nat} {st vw k2:Int} {mach:Value} {moved:Bool} {vt ms:Array Value} {out:Value} {w:World} (h:Rep B R KB A V M N st vw k2 mach moved vt ms out w):R < w.heap.size:=(Array.getElem?_eq_some_iff.1 h.row).1
def nilO:Value:= .slice none 0 0
set_option maxRecDepth 100000 in
set_option maxHeartbeats 6400000 in
theorem build_any (w:World):Calls Tryz.prog 14 #[.int .i64 1,.int .i64 1] w fun e w'=>∃ R KB A V M N mach,e= .returned (.pointer (some ⟨R,0,none⟩))∧
  Rep w.heap.size R KB A V M N 1 0 0 mach false fls3 nil3 nilO w'∧Below w.heap.size w w':=by
 have hm:Tryz.prog.follows .mixedOrders=true:=by kernel_rfl
 go_enter Tryz.func14,Tryz.ntmps14
 go_upto_region 4 with fail
 go_cut [6] (fun y wr=>∃ a KB R,y= .pointer (some ⟨R,0,none⟩)∧wr.heap[R]?=some (.cells (rowN (.pointer a) KB) 60 (0,0))∧w.heap.size≤R∧w.heap.size≤KB∧wr.heap[KB]?=some (.cells (intRow [0,0,0]) 3 (0,0))∧Below w.heap.size w wr)
 case first=>as_aux_lemma=>
  have hS0:=Bs.start w.drew (fun i=>match i with | 3=> .int .i64 3 | _=> .int .i64 1)
  go_wp2_with (fail)
  refine Go.Ev.wp_region_inv _ hm (by kernel_rfl) (by kernel_rfl) hS0 ?_
  refine ⟨fun D vs wq K hQ hd hdep hcl hK=> ?_,?_⟩
  ·go_simp
   exact hK _ _ (hQ.pure hd (by decide) rfl)
  simp only [Act.put,List.setIfInBounds_toArray,List.set_cons_succ,List.set_cons_zero,Nat.reduceAdd]
  refine ⟨fun D vs wq K hQ hd hdep hcl hK=> ?_,?_⟩
  ·go_simp
   exact hK _ _ (hQ.pure hd (by decide) rfl)
  simp only [Act.put,List.setIfInBounds_toArray,List.set_cons_succ,List.set_cons_zero,Nat.reduceAdd]
  refine ⟨fun D vs wq K hQ hd hdep hcl hK=> ?_,?_⟩
  ·go_wp2_with (fail)
   go_at_call 34
   refine (opnew_any wq).mono ?_
   rintro e wz ⟨⟨a,rfl⟩,hBz⟩
   have hQb:=hQ.below hBz
   go_wp2_with (fail)
   exact (hQb.set 2 _ hd (fun h=>absurd (by decide) h) (fun _=>⟨a,rfl⟩) (fun e=>absurd e (by decide)) (fun e=>absurd e (by decide)) (fun e=>absurd e (by decide)) (fun e=>absurd e (by decide)))
  simp only [Act.put,List.setIfInBounds_toArray,List.set_cons_succ,List.set_cons_zero,Nat.reduceAdd]
  refine ⟨fun D vs wq K hQ hd hdep hcl hK=> ?_,?_⟩
  ·go_simp
   exact hK _ _ (hQ.pure hd (by decide) rfl)
  simp only [Act.put,List.setIfInBounds_toArray,List.set_cons_succ,List.set_cons_zero,Nat.reduceAdd]
  refine ⟨fun D vs wq K hQ hd hdep hcl hK=> ?_,?_⟩
  ·have e3:=hQ.vals 3 (depB hdep 3 (by kernel_rfl)) (by decide)
   simp only at e3
   have hmk:=make_ints wq
   have hQb:=hQ.below ((Below.refl _ wq).alloc (Nat.le_refl _) (.cells (intRow [0,0,0]) 3))
   simp only [e3] at hK ⊢
   go_simp
   exact hK _ _ (hQb.set 4 _ hd (fun h=>absurd (by decide) h) (fun e=>absurd e (by decide)) (fun _=>⟨wq.heap.size,rfl,hQ.bl.size,heap_alloc_new _ _⟩) (fun e=>absurd e (by decide)) (fun e=>absurd e (by decide)) (fun e=>absurd e (by decide)))
  simp only [Act.put,List.setIfInBounds_toArray,List.set_cons_succ,List.set_cons_zero,Nat.reduceAdd]
  refine ⟨fun D vs wq K hQ hd hdep hcl hK=> ?_,?_⟩
  ·have e0:=hQ.vals 0 (depB hdep 0 (by kernel_rfl)) (by decide)
   simp only at e0
   have e1:=hQ.vals 1 (depB hdep 1 (by kernel_rfl)) (by decide)
   simp only at e1
   obtain ⟨a,h2⟩:=hQ.c2 (depB hdep 2 (by kernel_rfl))
   obtain ⟨KB,h4,k1,k2⟩:=hQ.c4 (depB hdep 4 (by kernel_rfl))
   unfold slb at h4
   simp only [h2,h4] at hK ⊢
   have k1H:=Hid.mk k1
   have k2H:=Hid.mk k2
   clear k1 k2
   simp only [e0,e1] at hK ⊢
   go_simp
   exact hK _ _ (hQ.set 5 _ hd (fun h=>absurd (by decide) h) (fun e=>absurd e (by decide)) (fun e=>absurd e (by decide)) (fun _=>⟨a,KB,rfl,k1H.out,k2H.out⟩) (fun e=>absurd e (by decide)) (fun e=>absurd e (by decide)))
  simp only [Act.put,List.setIfInBounds_toArray,List.set_cons_succ,List.set_cons_zero,Nat.reduceAdd]
  refine ⟨fun D vs wq K hQ hd hdep hcl hK=> ?_,?_⟩
  ·obtain ⟨a,KB,h5,k1,k2⟩:=hQ.c5 (depB hdep 5 (by kernel_rfl))
   unfold rowN rowX slb at h5
   simp only [h5] at hK ⊢
   have h7:=closedF hcl 7 6 (by kernel_rfl) hd
   have hQb:=hQ.below ((Below.refl _ wq).alloc (Nat.le_refl _) (.cells (rowN (.pointer a) KB) 60))
   have k1H:=Hid.mk k1
   have k2H:=Hid.mk ((heap_alloc_old wq (.cells (rowN (.pointer a) KB) 60) (Array.getElem?_eq_some_iff.1 k2).1).trans k2)
   have hsz:=Hid.mk hQ.bl.size
   clear k1 k2
   go_simp
   exact hK _ _ (hQb.set 6 _ hd (fun h=>absurd (by decide) h) (fun e=>absurd e (by decide)) (fun e=>absurd e (by decide)) (fun e=>absurd e (by decide)) (fun _=>⟨h7,a,KB,wq.heap.size,rfl,heap_alloc_new _ _,hsz.out,k1H.out,k2H.out⟩) (fun e=>absurd e (by decide)))
  simp only [Act.put,List.setIfInBounds_toArray,List.set_cons_succ,List.set_cons_zero,Nat.reduceAdd]
  refine ⟨fun D vs wq K hQ hd hdep hcl hK=> ?_,?_⟩
  ·go_simp
   exact hK _ _ (hQ.set 7 _ hd (fun h=>absurd (by decide) h) (fun e=>absurd e (by decide)) (fun e=>absurd e (by decide)) (fun e=>absurd e (by decide)) (fun e=>absurd e (by decide)) (fun _=>rfl))
  simp only [Act.put,List.setIfInBounds_toArray,List.set_cons_succ,List.set_cons_zero,Nat.reduceAdd]
  intro vs D w6 hS6 hall
  obtain ⟨a,KB,R,h6,h1,h2,h3,h4⟩:=hS6.c6 (hall 6 (by decide))
  have h7:=(hS6.c7 (hall 7 (by decide))).trans h6
  have hbl:=Hid.mk (show Below w.heap.size w w6 from (Below.refl _ w).drew.trans hS6.bl)
  have h1H:=Hid.mk h1
  have h2H:=Hid.mk h2
  have h3H:=Hid.mk h3
  have h4H:=Hid.mk h4
  simp only [h7]
  clear hS6 hall h1 h2 h3 h4 h6 h7
  go_wp2_with (fail)
  go_meet
  exact ⟨a,KB,R,rfl,h1H.out,h2H.out,h3H.out,h4H.out,hbl.out⟩
 case rest=>
  obtain ⟨a,KB,R,rfl,hR,hRl,hKl,hKB,hB⟩:=hcut
  rename World=>w2
  have hfg:=Hid.mk (forget_any R KB 1 0 (.pointer a) (.int .i64 0) (.slice none 0 0) (.slice none 0 0) (.slice none 0 0) (.bool false) (.slice none 0 0) (.slice none 0 0) w2 hR)
  have hRl2:=(Array.getElem?_eq_some_iff.1 hR).1
  have hKl2:=(Array.getElem?_eq_some_iff.1 hKB).1
  have hne:R≠KB:=fun e=>by rw [e,hKB] at hR; cases hR
  have hX:=Hid.mk (⟨hRl,hKl,hKB,hB,hRl2,hKl2,hne⟩:w.heap.size≤R∧w.heap.size≤KB∧w2.heap[KB]?=some (.cells (intRow [0,0,0]) 3 (0,0))∧Below w.heap.size w w2∧R < w2.heap.size∧KB < w2.heap.size∧R≠KB)
  clear hR hRl hKl hKB hB hRl2 hKl2 hne
  go_wp2_with (fail)
  go_at_call 35
  refine hfg.out.mono ?_
  rintro e w3 ⟨rfl,A,V,M,N,hF,hrw,hkx⟩
  have hFH:=Hid.mk hF
  have hrwH:=Hid.mk hrw
  have hkxH:=Hid.mk hkx
  clear hF hrw hkx hfg
  go_wp2_with (fail)
  go_ret
  obtain ⟨x1,x2,x3,x4,x5,x6,x7⟩:=hX.out
  have hF:=hFH.out
  have hkx:=hkxH.out
  have hs:=x4.size
  refine ⟨R,KB,A,V,M,N,.pointer a,rfl,⟨hrwH.out,(hkx.block KB x6 (fun e=>x7 e.symm)).trans x3,hF.a,hF.v,hF.m,⟨_,hF.n,rfl⟩,by have:=hF.al; omega,x1,x2,by have:=hF.al; omega,by have:=hF.vl; omega,by have:=hF.ml; omega,by have:=hF.nl; omega⟩,?_⟩
  exact x4.trans ⟨hkx.os,hkx.tape,hkx.output,hkx.size,fun i hi=>hkx.block i (by omega) (by omega)⟩
set_option maxRecDepth 100000 in
set_option maxHeartbeats 6400000 in
theorem new_any (w:World):Calls Tryz.prog 5 #[.int .i64 1,.int .i64 1] w fun e w'=>∃ R KB A V M N mach,e= .returned (.pointer (some ⟨R,0,none⟩))∧
  Rep w.heap.size R KB A V M N 1 0 0 mach false fls3 nil3 nilO w'∧Below w.heap.size w w':=by
 go_enter Tryz.func5,Tryz.ntmps5
 go_wp2_with (fail)
 go_at_call 14
 refine (build_any w).mono ?_
 rintro e w2 ⟨R,KB,A,V,M,N,mach,rfl,hR,hB⟩
 have hRH:=Hid.mk hR
 have hBH:=Hid.mk hB
 clear hR hB
 go_wp2_with (fail)
 go_ret
 exact ⟨R,KB,A,V,M,N,mach,rfl,hRH.out,hBH.out⟩
end Go.Proofs.YtniamhbcmcgonaaGreatDoor
namespace Go.Proofs.YtniamhbcmcgonaaGreatDoor
open Go.RowKit Go.Ev
set_option maxRecDepth 100000 in
set_option maxHeartbeats 3200000 in
theorem primary_any (R KB:Nat) (v:Nat) (w:World) (c11:w.cell? ⟨R,11,none⟩=some (slb KB)):Calls Tryz.prog 68 #[.pointer (some ⟨R,0,none⟩),.int .i64 (v:Nat)] w fun e w'=>e= .returned (.int .i64 ((v % 3:Nat):Int))∧w'=w:=by
 unfold slb at c11
 go_enter Tryz.func68,Tryz.ntmps68
 go_wp2_with (fail)
 go_ret
 exact ⟨rfl,rfl⟩
structure Cs (R KB A V M N:Nat) (st vw:Int) (moved:Bool) (out:Value) (w:World):Prop where
 c0:w.cell? ⟨R,0,none⟩=some (.int .i64 1)
 c1:w.cell? ⟨R,1,none⟩=some (.int .i64 1)
 c2:w.cell? ⟨R,2,none⟩=some (.int .i64 st)
 c3:w.cell? ⟨R,3,none⟩=some (.int .i64 vw)
 c4:w.cell? ⟨R,4,none⟩=some (.int .i64 0)
 c5:w.cell? ⟨R,5,none⟩=some (.int .i64 0)
 c6:w.cell? ⟨R,6,none⟩=some (.string (bs []))
 c7:w.cell? ⟨R,7,none⟩=some (.slice none 0 0)
 c8:w.cell? ⟨R,8,none⟩=some (.int .i64 0)
 c10:w.cell? ⟨R,10,none⟩=some (.int .i64 0)
 c11:w.cell? ⟨R,11,none⟩=some (.slice (some ⟨KB,0,none⟩) 3 3)
 c13:w.cell? ⟨R,13,none⟩=some (.slice (some ⟨A,0,none⟩) 3 3)
 c14:w.cell? ⟨R,14,none⟩=some (.slice (some ⟨V,0,none⟩) 3 3)
 c15:w.cell? ⟨R,15,none⟩=some (.slice (some ⟨M,0,none⟩) 3 3)
 c16:w.cell? ⟨R,16,none⟩=some (.bool moved)
 c17:w.cell? ⟨R,17,none⟩=some (.slice (some ⟨N,0,none⟩) 3 3)
 c19:w.cell? ⟨R,19,none⟩=some out
theorem Rep.cs {B R KB A V M N:Nat} {st vw k2:Int} {mach:Value} {moved:Bool} {vt ms:Array Value} {out:Value} {w:World} (h:Rep B R KB A V M N st vw k2 mach moved vt ms out w):Cs R KB A V M N st vw moved out w:=by
 have c:∀ i,w.cell? ⟨R,i,none⟩=(rowR st vw mach KB A V M N moved out)[i]?:=fun i=>cell_of_row _ _ _ _ _ _ h.row
 exact ⟨(c 0).trans rfl,(c 1).trans rfl,(c 2).trans rfl,(c 3).trans rfl,(c 4).trans rfl,(c 5).trans rfl,(c 6).trans rfl,(c 7).trans rfl,(c 8).trans rfl,(c 10).trans rfl,(c 11).trans rfl,(c 13).trans rfl,(c 14).trans rfl,(c 15).trans rfl,(c 16).trans rfl,(c 17).trans rfl,(c 19).trans rfl⟩
section
variable {B R KB A V M N:Nat} {st vw k2:Int} {mach:Value} {moved:Bool} {vt ms:Array Value} {out:Value} {w:World}
set_option maxRecDepth 100000 in
set_option maxHeartbeats 3200000 in
theorem leads0 (h:Rep B R KB A V M N 1 0 k2 mach moved vt ms out w):Calls Tryz.prog 36 #[.pointer (some ⟨R,0,none⟩)] w fun e w'=>e= .returned (.bool false)∧Below w.heap.size w w'∧w'.heap=w.heap:=by
 have hm:Tryz.prog.follows .mixedOrders=true:=by kernel_rfl
 have hp:=Hid.mk (primary_any R KB 0 w.drew h.cs.c11)
 have c0:w.drew.cell? ⟨R,0,none⟩=some (.int .i64 1):=h.cs.c0
 have c2:w.drew.cell? ⟨R,2,none⟩=some (.int .i64 1):=h.cs.c2
 have c3:w.drew.cell? ⟨R,3,none⟩=some (.int .i64 0):=h.cs.c3
 clear h
 go_enter Tryz.func36,Tryz.ntmps36
 go_wp2_with (fail)
 refine Go.Ev.wp_region_planE (fun v=>v=w.drew) hm (by kernel_rfl) (by kernel_rfl) rfl ?_
 iterate 11
  refine Go.Ev.planE_cons _ (by rintro v K rfl hK; go_simp; exact hK _ rfl) ?_
  simp only [Act.put,List.setIfInBounds_toArray,List.set_cons_succ,List.set_cons_zero]
 refine Go.Ev.planE_cons _ (by rintro v K rfl hK; go_simp; go_at_call 68; refine hp.out.mono ?_; rintro e wz ⟨rfl,rfl⟩; exact hK _ rfl) ?_
 simp only [Act.put,List.setIfInBounds_toArray,List.set_cons_succ,List.set_cons_zero]
 iterate 7
  refine Go.Ev.planE_cons _ (by rintro v K rfl hK; go_simp; exact hK _ rfl) ?_
  simp only [Act.put,List.setIfInBounds_toArray,List.set_cons_succ,List.set_cons_zero]
 rintro w1 rfl
 go_wp2_with (fail)
 go_ret
 exact ⟨rfl,(Below.refl _ w).drew,rfl⟩
set_option maxRecDepth 100000 in
set_option maxHeartbeats 3200000 in
theorem op0 (w:World):Calls Tryz.prog 15 #[.agg #[.int .i64 0,.string (bs []),.slice none 0 0]] w fun e w'=>e= .returned (.int .i64 0)∧Below w.heap.size w w':=by
 go_enter Tryz.func15,Tryz.ntmps15
 go_wp2_with (fail)
 go_ret
 exact ⟨rfl,(Below.refl _ w).alloc (Nat.le_refl _) _⟩
set_option maxRecDepth 100000 in
set_option maxHeartbeats 3200000 in
theorem flush_any (h:Rep B R KB A V M N st vw k2 mach moved vt ms out w):Calls Tryz.prog 19 #[.pointer (some ⟨R,0,none⟩)] w fun e w'=>e= .returned out∧Rep B R KB A V M N st vw k2 mach moved vt ms nilO w'∧Kx (fun i=>i=R) w w':=by
 have c19:=h.cs.c19
 have f19:=frozen_of_row _ _ 19 _ _ h.row
 have hH:=Hid.mk h
 clear h
 go_enter Tryz.func19,Tryz.ntmps19
 go_wp2_with (fail)
 go_ret
 have hb:∀ k,k≠R→(w.setCell ⟨R,19,none⟩ (.slice none 0 0)).heap[k]?=w.heap[k]?:=fun k hk=>Below.heap_setCell _ _ _ _ (by simpa using hk)
 have h:=hH.out
 have hne:∀ {k:Nat} {cs:Array Value} {t:TypeId},w.heap[k]?=some (.cells cs t (0,0))→t≠60→k≠R:=fun hk ht e=>by
  rw [e,h.row] at hk; cases hk; exact ht rfl
 obtain ⟨ns,hn,hs⟩:=h.n
 refine ⟨rfl,⟨?_,(hb _ (hne h.kn (by decide))).trans h.kn,(hb _ (hne h.a (by decide))).trans h.a,(hb _ (hne h.v (by decide))).trans h.v,(hb _ (hne h.m (by decide))).trans h.m,⟨ns,(hb _ (hne hn (by decide))).trans hn,hs⟩,h.ka,h.rl,h.kl,h.al,h.vl,h.ml,h.nl⟩,⟨rfl,rfl,rfl,by simp [World.setCell],fun i hi hn=>hb i hn⟩⟩
 rw [heap_setCell_same _ _ _ _ _ _ h.row]; rfl
end
end Go.Proofs.YtniamhbcmcgonaaGreatDoor
