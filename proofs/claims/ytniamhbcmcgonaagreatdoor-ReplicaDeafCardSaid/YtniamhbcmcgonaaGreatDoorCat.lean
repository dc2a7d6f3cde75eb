/- slices.Grow of none, slices.Concat of two rows of whole numbers; slices.Clone of entries. slices.Clone, IndexFunc, ContainsFunc, Equal of entries. IndexFunc, ContainsFunc, Equal of entries. Equal of whole numbers, of entries. Equal of entries. Copies of a message's two slices: helpers of 'used' and 'Put'. -/
import Derived.Test.YtniamhbcmcgonaaGreatDoorFrw
import Derived.Lib.AppendZeros
import Derived.Lib.SliceRun
import Derived.Test.YtniamhbcmcgonaaGreatDoorPln
import Derived.Deep.CutRange
import Derived.Deep.DeepCutAuto
import Derived.Deep.CutBlock
import Derived.Test.YtniamhbcmcgonaaGreatDoorOin
namespace Go.Proofs.YtniamhbcmcgonaaGreatDoor
open Go.RowKit Go.Ev
theorem intInfo:(Tryz.prog.info? 3).map (fun i=>(i.zero,i.size,i.bytes))=some (some (.int .i64 0),1,8):=by kernel_rfl
theorem wpList_append_run {P:Program} {ops:Array Oper} {rest:List Oper} {o:Oper} {a:Act} {w:World} {Q:Exit→Act→World→Prop} (hgd:o.guard=none) (sl x:Operand) (t u:TypeId)
  (ho:o.op= .call { callee:= .builtin .append,args:=#[sl,x],argTypes:=#[t,u] }) (v1 v2:Value) (h1:a.eval sl=v1) (h2:a.eval x=v2) (v:Value) (w':World)
  (hr:(Builtin.append_ #[t,u] o.type #[v1,v2]).run P w= .ok v w') (h:wpList P ops Q rest (a.put o.dst v) w'):wpList P ops Q (o::rest) a w:=by
 refine wpList_plain hgd fun K hK=> ?_
 unfold Oper.wp execOp
 simp only [ho,resolve,invoke,builtin,Sem.run_bind,Sem.run_pure,Result.andThen_ok,List.map_toArray,List.map_cons,List.map_nil,h1,h2,hr]
 exact hK _ _ h
set_option maxRecDepth 100000 in
set_option maxHeartbeats 1600000 in
theorem grow_any (n:Nat) (h0:0 < n) (hn:n≤100) (w:World):Calls Tryz.prog 81 #[.slice none 0 0,.int .i64 (n:Nat)] w fun e w'=>∃ v',e= .returned v'∧w'.ownsRow w.heap.size 3 1 v' 0 []∧Below w.heap.size w w':=by
 obtain ⟨i0,hi,hz0,hz1,hz2⟩:=info_parts intInfo
 have happ:=fun (w:World) ty=>Lib.run_append_nil_zeros (P:=Tryz.prog) w 32 3 ty 3 i0 (.int .i64 0) .i64 .i64 Tryz.underlying32 Tryz.underlying3 hi hz0 n h0 (by omega) (by omega) (by rw [hz2]; omega)
 have hn0:(0 < (n:Int))=True:=eq_true (by omega)
 have hn1:((n:Int) < 0)=False:=eq_false (by omega)
 have hni:(n:Int)≤100:=by omega
 have hcap1:=grownCap_ge w n 0 3
 have hcap2:=grownCap_le_maxLen w n 0 3 (by unfold maxLen; omega)
 obtain ⟨c,hc⟩:∃ c,grownCap w n 0 3=c:=⟨_,rfl⟩
 have ha:=happ w
 rw [hc] at ha hcap1 hcap2
 clear happ
 go_enter Tryz.func81,Tryz.ntmps81
 go_wp2_with (at_builtin; refine wpList_append_run rfl _ _ 32 3 rfl _ _ rfl rfl _ _ (ha _) ?_)
 have h00:(0:Int)≤(c:Int):=by omega
 go_wp2_with (fail)
 go_ret
 refine ⟨_,rfl,⟨rfl,.inr ⟨w.heap.size,c,_,rfl,Nat.le_refl _,heap_alloc_new w.drew _,Nat.zero_le _,hcap2,?_,rfl⟩⟩,(Below.refl _ w).drew.alloc (Nat.le_refl _) _⟩
 simp [Builtin.zeroCells,Value.cells]
 omega
def IntsV (w:World) (v:Value) (l:List Int):Prop:=(l=[]∧v= .slice none 0 0)∨∃ K ko cap,v= .slice (some ⟨K,ko,none⟩) l.length cap∧K < w.heap.size∧∀ j,j < l.length→w.cell? ⟨K,ko+j,none⟩=some (.int .i64 (l.getD j 0))
theorem IntsV.lt {w:World} {v:Value} {l:List Int} (h:IntsV w v l) {g:Nat} (hg:v.ownBlock=some g):g < w.heap.size:=by
 rcases h with ⟨_,rfl⟩ | ⟨K,ko,cap,rfl,h,_⟩
 ·cases hg
 ·have:K=g:=by simpa [Value.ownBlock] using hg
  exact this▸h
theorem IntsV.below {w w':World} {v:Value} {l:List Int} (h:IntsV w v l) (hb:Below w.heap.size w w'):IntsV w' v l:=by
 rcases h with h | ⟨K,ko,cap,rfl,hl,h⟩
 ·exact .inl h
 ·exact .inr ⟨K,ko,cap,rfl,Nat.lt_of_lt_of_le hl hb.size,fun j hj=>(hb.cell (by exact hl)).trans (h j hj)⟩
theorem IntsV.row {w:World} {K cap:Nat} {l:List Int} {t:TypeId} (h:w.heap[K]?=some (.cells (intRow l) t (0,0))):IntsV w (.slice (some ⟨K,0,none⟩) l.length cap) l:=
 .inr ⟨K,0,cap,rfl,(Array.getElem?_eq_some_iff.1 h).1,fun j hj=>by
  rw [Nat.zero_add,cell_of_row _ _ _ _ _ _ h]
  unfold intRow
  simp [List.getD,hj]⟩
theorem IntsV.own {w:World} {B:Nat} {v:Value} {l:List Int} (h:w.ownsRow B 3 1 v l.length (l.map fun z=>Value.int .i64 z)):IntsV w v l:=by
 rcases h.2 with ⟨hn,h0⟩ | ⟨g,cap,cur,hv,_⟩
 ·have:l=[]:=List.eq_nil_of_length_eq_zero h0
  exact .inl ⟨this,hn⟩
 ·subst hv
  refine .inr ⟨g,0,cap,rfl,(h.lt g rfl).2,fun j hj=> ?_⟩
  rw [Nat.zero_add]
  have hc:=h.cells (g:=g) rfl j (.int .i64 (l.getD j 0)) (by simp [List.getD,hj])
  rw [Addr.add_lit,Nat.zero_add] at hc
  exact hc
theorem intRow_at (l:List Int) (j:Nat) (u:Value) (h:(l.map fun z=>Value.int .i64 z)[j]?=some u):(intRow l)[j]?=some u:=by unfold intRow; simpa using h
theorem run_app_ints {w:World} {N:Nat} {v:Value} {n:Nat} {xs:List Value} (hown:w.ownsRow N 3 1 v n xs) (vk:Value) (l:List Int) (hk:IntsV w vk l) (h63:n+l.length≤1000) (hbase:N≤w.heap.size) (ty:TypeId) :
  ∃ v' w',(Builtin.append_ #[32,32] ty #[v,vk]).run Tryz.prog w= .ok v' w'∧w'.ownsRow N 3 1 v' (n+l.length) (xs++l.map fun z=>Value.int .i64 z)∧w.grownBy w' v.ownBlock:=by
 obtain ⟨i0,hi,hz0,hz1,hz2⟩:=info_parts intInfo
 rcases hk with ⟨rfl,rfl⟩ | ⟨K,ko,cap,rfl,hKl,hK⟩
 ·refine ⟨v,w,?_,by simpa using hown,⟨rfl,rfl,rfl,Nat.le_refl _,fun _ _ _=>rfl⟩⟩
  rcases hown.2 with ⟨rfl,rfl⟩ | ⟨g,cap,cur,rfl,_,_,hnc,_⟩
  ·simp [Builtin.append_,run_underlying Tryz.underlying32,sizeOf,typeInfo,hi,Builtin.lenOf,Builtin.firstCells,loadCells,loadCellsFrom]
  ·simp [Builtin.append_,run_underlying Tryz.underlying32,sizeOf,typeInfo,hi,Builtin.lenOf,Builtin.firstCells,loadCells,loadCellsFrom,storeCells,hnc]
 ·obtain ⟨v',w',h2,h3,h4,_⟩:=run_append_own (P:=Tryz.prog) w N 32 ty 3 i0 (.int .i64 0) 1 8 Tryz.underlying32 hi hz0 hz1 hz2 rfl (by decide) v n xs hown ⟨K,ko,none⟩ l.length cap (l.map fun z=>Value.int .i64 z) (by simp)
   (fun j u hu=>by
    have hj:j < l.length:=by
     have:=(List.getElem?_eq_some_iff.1 hu).1
     simpa using this
    rw [Addr.add_lit,hK j hj]
    rw [List.getElem?_map,List.getElem?_eq_getElem hj] at hu
    rw [← hu,List.getD,List.getElem?_eq_getElem hj]
    rfl) (fun u hu=>by simp at hu; obtain ⟨z,_,rfl⟩:=hu; rfl) (by unfold maxLen; omega) (by omega) hbase
  exact ⟨v',w',h2,h3,h4⟩
set_option maxRecDepth 100000 in
set_option maxHeartbeats 3200000 in
theorem concat_any (vk vl:Value) (k l:List Int) (P:Nat) (t:TypeId) (w:World) (hP:w.heap[P]?=some (.cells #[vk,vl] t (0,0))) (hk:IntsV w vk k) (hl:IntsV w vl l) (h1:0 < k.length+l.length) (h2:k.length+l.length≤100) :
  Calls Tryz.prog 50 #[.slice (some ⟨P,0,none⟩) 2 2] w fun e w'=>∃ v',e= .returned v'∧w'.ownsRow w.heap.size 3 1 v' (k.length+l.length) ((k++l).map fun z=>Value.int .i64 z)∧Below w.heap.size w w':=by
 have hPH:=Hid.mk hP
 have hkH:=Hid.mk hk
 have hlH:=Hid.mk hl
 have c0:w.cell? ⟨P,0,none⟩=some vk:=by rw [cell_of_row _ _ _ _ _ _ hP]; rfl
 have c1:w.cell? ⟨P,1,none⟩=some vl:=by rw [cell_of_row _ _ _ _ _ _ hP]; rfl
 obtain ⟨ka,kc,rfl⟩:∃ a c,vk= .slice a k.length c:=by
  rcases hk with ⟨rfl,rfl⟩ | ⟨K,ko,cap,rfl,_⟩
  ·exact ⟨_,_,rfl⟩
  ·exact ⟨_,_,rfl⟩
 obtain ⟨la,lc,rfl⟩:∃ a c,vl= .slice a l.length c:=by
  rcases hl with ⟨rfl,rfl⟩ | ⟨K,ko,cap,rfl,_⟩
  ·exact ⟨_,_,rfl⟩
  ·exact ⟨_,_,rfl⟩
 have n1:((k.length:Int) < 0)=False:=eq_false (by omega)
 have n2:((k.length:Int)+(l.length:Int) < 0)=False:=eq_false (by omega)
 have hki:(k.length:Int)≤100:=by omega
 have hli:(l.length:Int)≤100:=by omega
 clear hP hk hl
 go_enter Tryz.func50,Tryz.ntmps50
 go_wp2_with (fail)
 obtain ⟨wa,hwa⟩:∃ wa,w=wa:=⟨_,rfl⟩
 go_loopw [3,5,11] (fun x _ y wr=>wr=wa∧((y= .int .i64 0∧x= .int .i64 0)∨(y= .int .i64 1∧x= .int .i64 (k.length:Nat))∨(y= .int .i64 2∧x= .int .i64 ((k.length:Int)+(l.length:Int))))) (fun _ _ y _=>2 - (intOf y).toNat)
 case atStart=>exact ⟨hwa,.inl ⟨rfl,rfl⟩⟩
 case round=>
  obtain ⟨hwr,hrel⟩:=hrel
  have hwr2:wr=w:=hwr.trans hwa.symm
  subst hwr2
  have hwH:=Hid.mk hwr
  clear hwa hwr
  rcases hrel with ⟨rfl,rfl⟩ | ⟨rfl,rfl⟩ | ⟨rfl,rfl⟩
  ·go_wp2_with (fail)
   exact ⟨⟨hwH.out,.inr (.inl ⟨rfl,rfl⟩)⟩,by simp [intOf]⟩
  ·go_wp2_with (fail)
   exact ⟨⟨hwH.out,.inr (.inr ⟨rfl,rfl⟩)⟩,by simp [intOf]⟩
  ·have hgr:=grow_any (k.length+l.length) h1 h2 wr
   rw [show ((k.length+l.length:Nat):Int)=(k.length:Int)+(l.length:Int) by push_cast; rfl] at hgr
   have hgrH:=Hid.mk hgr
   clear hgr c0 c1
   go_wp2_with (fail)
   go_at_call 81
   refine hgrH.out.mono ?_
   rintro e w1 ⟨v1,rfl,hown,hB⟩
   have hS0:=Hid.mk (And.intro hown hB)
   obtain ⟨wb,hwb⟩:∃ wb,wb=wr:=⟨wr,rfl⟩
   have hPb:=Hid.mk (show wb.heap[P]?=some (.cells #[.slice ka k.length kc,.slice la l.length lc] t (0,0)) from by rw [hwb]; exact hPH.out)
   have hkb:=Hid.mk (show IntsV wb (.slice ka k.length kc) k by rw [hwb]; exact hkH.out)
   have hlb:=Hid.mk (show IntsV wb (.slice la l.length lc) l by rw [hwb]; exact hlH.out)
   have hwbH:=Hid.mk hwb
   clear hown hB hgrH hwb hPH hkH hlH
   go_wp2_with (fail)
   go_loopw [6,8,27] (fun x _ y wq=>Below wb.heap.size wb wq∧((y= .int .i64 0∧wq.ownsRow wb.heap.size 3 1 x 0 [])∨(y= .int .i64 1∧wq.ownsRow wb.heap.size 3 1 x k.length (k.map fun z=>Value.int .i64 z))∨(y= .int .i64 2∧wq.ownsRow wb.heap.size 3 1 x (k.length+l.length) ((k++l).map fun z=>Value.int .i64 z)))) (fun _ _ y _=>2 - (intOf y).toNat)
   case atStart=>rw [hwbH.out]; exact ⟨hS0.out.2,.inl ⟨rfl,hS0.out.1⟩⟩
   case round=>
    clear hS0
    obtain ⟨hBq,hrel⟩:=hrel
    have hBH:=Hid.mk hBq
    have hPq:=(hBq.block P (Array.getElem?_eq_some_iff.1 hPb.out).1).trans hPb.out
    have c0:wr.cell? ⟨P,0,none⟩=some (.slice ka k.length kc):=by rw [cell_of_row _ _ _ _ _ _ hPq]; rfl
    have c1:wr.cell? ⟨P,1,none⟩=some (.slice la l.length lc):=by rw [cell_of_row _ _ _ _ _ _ hPq]; rfl
    clear hPq hBq
    rcases hrel with ⟨rfl,ho⟩ | ⟨rfl,ho⟩ | ⟨rfl,ho⟩
    ·obtain ⟨v',w',hr,ho',hg'⟩:=run_app_ints ho _ k (hkb.out.below hBH.out) (by omega) hBH.out.size 32
     have hn:=Hid.mk (show Below wb.heap.size wb w'∧w'.ownsRow wb.heap.size 3 1 v' k.length (k.map fun z=>Value.int .i64 z) from ⟨hBH.out.grown hg' hBH.out.size (fun j hj=>(ho.lt j hj).1),by simpa using ho'⟩)
     clear ho ho' hg'
     go_wp2_with (at_builtin; refine wpList_append_run rfl _ _ 32 32 rfl _ _ rfl rfl _ _ hr ?_)
     go_wp2_with (fail)
     exact ⟨⟨hn.out.1,.inr (.inl ⟨rfl,hn.out.2⟩)⟩,by simp [intOf]⟩
    ·obtain ⟨v',w',hr,ho',hg'⟩:=run_app_ints ho _ l (hlb.out.below hBH.out) (by omega) hBH.out.size 32
     have hn:=Hid.mk (show Below wb.heap.size wb w'∧w'.ownsRow wb.heap.size 3 1 v' (k.length+l.length) ((k++l).map fun z=>Value.int .i64 z) from ⟨hBH.out.grown hg' hBH.out.size (fun j hj=>(ho.lt j hj).1),by rw [List.map_append]; exact ho'⟩)
     clear ho ho' hg'
     go_wp2_with (at_builtin; refine wpList_append_run rfl _ _ 32 32 rfl _ _ rfl rfl _ _ hr ?_)
     go_wp2_with (fail)
     exact ⟨⟨hn.out.1,.inr (.inr ⟨rfl,hn.out.2⟩)⟩,by simp [intOf]⟩
    ·have hoH:=Hid.mk ho
     clear ho
     go_wp2_with (fail)
     go_ret
     rw [← hwbH.out]
     exact ⟨_,rfl,hoH.out,hBH.out⟩
end Go.Proofs.YtniamhbcmcgonaaGreatDoor
namespace Go.Proofs.YtniamhbcmcgonaaGreatDoor
open Go.RowKit Go.Ev
theorem entC_one (es:List Ent):∀ u ∈ es.flatMap entC,u.oneCell'=true:=by
 intro u hu
 obtain ⟨x,_,hx⟩:=List.mem_flatMap.1 hu
 simp [entC] at hx
 rcases hx with rfl | rfl | rfl <;> rfl
theorem entC_len (es:List Ent):(es.flatMap entC).length=es.length*3:=by
 induction es with
 | nil=>rfl
 | cons x es ih=>simp only [List.flatMap_cons,List.length_append,ih,List.length_cons]; simp [entC]; omega
theorem entC_at:∀ (es:List Ent) (q r:Nat),q < es.length→r < 3→(es.flatMap entC)[q*3+r]?=(entC (es.getD q Ent.none))[r]?
 | [],q,r,h,_=>by simp at h
 | x::es,0,r,_,hr=>by
  rw [List.flatMap_cons,Nat.zero_mul,Nat.zero_add,List.getElem?_append_left (by simp [entC]; omega)]; rfl
 | x::es,q+1,r,h,hr=>by
  rw [List.flatMap_cons,List.getElem?_append_right (by simp [entC]; omega)]
  have:=entC_at es q r (by simpa using h) hr
  rw [show (q+1)*3+r - (entC x).length=q*3+r by simp [entC]; omega]
  exact this
theorem ents_cell {w:World} {B:Nat} {v:Value} {es:List Ent} (h:w.ownsRow B 75 3 v es.length (es.flatMap entC)) {g:Nat} (hg:v.ownBlock=some g) (q r:Nat) (hq:q < es.length) (hr:r < 3):w.cell? ⟨g,q*3+r,none⟩=(entC (es.getD q Ent.none))[r]?:=by
 have h1:=entC_at es q r hq hr
 have hs:∃ u,(entC (es.getD q Ent.none))[r]?=some u:=⟨_,List.getElem?_eq_getElem (by simp [entC]; omega)⟩
 obtain ⟨u,hu⟩:=hs
 rw [hu] at h1 ⊢
 have h2:=h.cells hg (q*3+r) u h1
 rw [Addr.add_lit,Nat.zero_add] at h2
 exact h2
set_option maxRecDepth 100000 in
set_option maxHeartbeats 1600000 in
theorem eclone_any (B:Nat) (v:Value) (es:List Ent) (h64:es.length≤64) (w:World) (h:w.ownsRow B 75 3 v es.length (es.flatMap entC)) :
  Calls Tryz.prog 22 #[v] w fun e w'=>∃ v',e= .returned v'∧w'.ownsRow w.heap.size 75 3 v' es.length (es.flatMap entC)∧Below w.heap.size w w':=by
 obtain ⟨i0,hi,hz0,hz1,hz2⟩:=info_parts entInfo2
 have heq:=fun (w:World) a n c=>Lib.run_eql_slice_nil (P:=Tryz.prog) w 33 75 a n c 0 0 Tryz.underlying33
 have hcell:=fun (g:Nat) (hg:v.ownBlock=some g) (j:Nat) (u:Value) (hu:(es.flatMap entC)[j]?=some u)=>h.cells hg j u hu
 rcases h.2 with ⟨rfl,h0⟩ | ⟨g,cap,cur,rfl,_⟩
 ·have he:es=[]:=List.eq_nil_of_length_eq_zero h0
  subst he
  go_enter Tryz.func22,Tryz.ntmps22
  go_wp2_with (fail)
  go_ret
  exact ⟨_,rfl,World.ownsRow_nil _ _ _ _,Below.refl _ _⟩
 ·have hcH:=Hid.mk hcell
  clear hcell h
  go_enter Tryz.func22,Tryz.ntmps22
  have hown0:(w.alloc (.cells #[] 75)).ownsRow w.heap.size 75 3 (.slice (some ⟨w.heap.size,0,none⟩) 0 0) 0 []:=⟨rfl,.inr ⟨w.heap.size,0,#[],rfl,Nat.le_refl _,heap_alloc_new w _,Nat.le_refl _,by decide,rfl,rfl⟩⟩
  have hBa:Below w.heap.size w (w.alloc (.cells #[] 75)):=(Below.refl _ w).alloc (Nat.le_refl _) _
  go_wp2_with (at_builtin; refine wpList_append_own _ rfl _ _ 33 rfl w.heap.size 75 i0 _ 3 32 Tryz.underlying33 hi hz0 hz1 hz2 rfl (by decide) _ _ _ rfl hown0 ⟨g,0,none⟩ es.length cap (es.flatMap entC) rfl (entC_len es) ?c1 ?c2 ?c3 ?c4 ?c5 ?_)
  case c1=>
   intro j u hu
   have h1:=hcH.out g rfl j u hu
   rw [Addr.add_lit] at h1 ⊢
   rw [hBa.cell (by have:=World.block_lt_of_cell? _ _ h1; exact this)]
   exact h1
  case c2=>exact entC_one es
  case c3=>unfold maxLen; omega
  case c4=>omega
  case c5=>simp
  intro v' w1 hown' hg' _
  have hB1:=Hid.mk (hBa.grown hg' (by simp) (fun j hj=>(hown0.lt j hj).1))
  have hoH:=Hid.mk hown'
  clear hown' hg' hown0 hBa
  go_wp2_with (fail)
  go_ret
  exact ⟨_,rfl,by simpa using hoH.out,hB1.out⟩
set_option maxRecDepth 100000 in
theorem egoodc_any (x:Ent) (w:World):Calls Tryz.prog 53 #[.agg #[.int .i64 x.client,.int .i64 x.number,.string (bs x.text)]] w fun e w'=>e= .returned (.bool (!entB x))∧Below w.heap.size w w':=by
 have hB:=Hid.mk (show ∀ o,Below w.heap.size w (w.alloc o) from fun o=>(Below.refl _ w).alloc (Nat.le_refl _) o)
 have hgo:=Hid.mk fun w=>egood_any x w
 go_enter Tryz.func53,Tryz.ntmps53
 go_wp2_with (fail)
 go_at_call 54
 refine (hgo.out _).mono ?_
 rintro e w1 ⟨rfl,hB1⟩
 go_wp2_with (fail)
 go_ret
 exact ⟨rfl,(hB.out _).trans (hB1.mono (by simp))⟩
end Go.Proofs.YtniamhbcmcgonaaGreatDoor
namespace Go.Proofs.YtniamhbcmcgonaaGreatDoor
open Go.RowKit Go.Ev
def EntsV (w:World) (v:Value) (es:List Ent):Prop:=∃ a cap,v= .slice a es.length cap∧∀ q,q < es.length→∃ X off,a=some ⟨X,off,none⟩∧X < w.heap.size∧∀ r,r < 3→w.cell? ⟨X,off+q*3+r,none⟩=(entC (es.getD q Ent.none))[r]?
theorem EntsV.below {w w':World} {v:Value} {es:List Ent} (h:EntsV w v es) (hb:Below w.heap.size w w'):EntsV w' v es:=by
 obtain ⟨a,cap,rfl,h⟩:=h
 refine ⟨a,cap,rfl,fun q hq=> ?_⟩
 obtain ⟨X,off,h1,h2,h3⟩:=h q hq
 exact ⟨X,off,h1,Nat.lt_of_lt_of_le h2 hb.size,fun r hr=>(hb.cell (by exact h2)).trans (h3 r hr)⟩
theorem EntsV.of {w:World} {B:Nat} {v:Value} {es:List Ent} (h:w.ownsRow B 75 3 v es.length (es.flatMap entC)):EntsV w v es:=by
 obtain ⟨a,cap,rfl⟩:=out_slice h
 refine ⟨a,cap,rfl,fun q hq=> ?_⟩
 rcases h.2 with ⟨hn,h0⟩ | ⟨g,cap',cur,hv,_⟩
 ·omega
 ·cases hv
  exact ⟨g,0,rfl,(h.lt g rfl).2,fun r hr=>by rw [Nat.zero_add]; exact ents_cell h rfl q r hq hr⟩
set_option maxRecDepth 100000 in
set_option maxHeartbeats 3200000 in
theorem eindex_any (v:Value) (es:List Ent) (h64:es.length≤1000) (w:World) (h:EntsV w v es) :
  Calls Tryz.prog 82 #[v,.func (.func 53) #[] #[]] w fun e w'=>∃ i:Int,e= .returned (.int .i64 i)∧(0≤i↔es.all entB=false)∧Below w.heap.size w w':=by
 obtain ⟨a,cap,rfl,hc⟩:=h
 have hcH:=Hid.mk hc
 have hg:=Hid.mk fun (x:Ent) (w:World)=>egoodc_any x w
 clear hc
 go_enter Tryz.func82,Tryz.ntmps82
 go_wp2_with (fail)
 obtain ⟨wa,hwa⟩:∃ wa,wa=w:=⟨w,rfl⟩
 have hwaH:=Hid.mk hwa
 rw [← hwa] at hcH
 clear hwa
 go_loopw [5,8] (fun _ y wr=>∃ k:Nat,k≤es.length∧y= .int .i64 (k:Nat)∧(es.take k).all entB=true∧Below wa.heap.size wa wr) (fun _ y _=>es.length - (intOf y).toNat)
 case atStart=>exact ⟨0,Nat.zero_le _,rfl,rfl,by rw [hwaH.out]; exact Below.refl _ _⟩
 case round=>
  obtain ⟨k,hk,rfl,hal,hB⟩:=hrel
  have halH:=Hid.mk hal
  have hBH:=Hid.mk hB
  clear hal hB
  by_cases hlt:k < es.length
  ·have hki:(k:Int) < (es.length:Int):=by omega
   obtain ⟨X,off,rfl,hX,hcell⟩:=hcH.out k hlt
   have d0:wr.cell? ⟨X,off+k*3,none⟩=some (.int .i64 (es.getD k Ent.none).client):=(hBH.out.cell (by exact hX)).trans (hcell 0 (by omega))
   have d1:wr.cell? ⟨X,off+k*3+1,none⟩=some (.int .i64 (es.getD k Ent.none).number):=(hBH.out.cell (by exact hX)).trans (hcell 1 (by omega))
   have d2:wr.cell? ⟨X,off+k*3+2,none⟩=some (.string (bs (es.getD k Ent.none).text)):=(hBH.out.cell (by exact hX)).trans (hcell 2 (by omega))
   have htk:(es.take (k+1)).all entB=((es.take k).all entB && entB (es.getD k Ent.none)):=by
    rw [List.take_add_one,List.getElem?_eq_getElem hlt,List.all_append,List.getD,List.getElem?_eq_getElem hlt]
    simp
   have hbad:entB (es.getD k Ent.none)=false→es.all entB=false:=fun h=>by
    rw [List.all_eq_false]
    exact ⟨_,getD_mem es k Ent.none hlt,by simpa using h⟩
   have htkH:=Hid.mk htk
   have hbadH:=Hid.mk hbad
   clear htk hbad hcell
   generalize es.getD k Ent.none=x at*
   go_wp2_with (fail)
   go_at_call 53
   refine (hg.out x wr).mono ?_
   rintro e w1 ⟨rfl,hB1⟩
   have hBn:=Hid.mk (hBH.out.trans (hB1.mono hBH.out.size))
   clear hB1
   cases hx:entB x with
   | true=>
    have hnext:=Hid.mk (show (es.take (k+1)).all entB=true by rw [htkH.out,halH.out,hx]; rfl)
    clear hx
    go_wp2_with (fail)
    exact ⟨⟨k+1,by omega,congrArg _ (by omega),hnext.out,hBn.out⟩,by simp [intOf]; omega⟩
   | false=>
    have hf:=Hid.mk (hbadH.out hx)
    clear hx
    go_wp2_with (fail)
    go_ret
    refine ⟨(k:Int),rfl,⟨fun _=>hf.out,fun _=>by omega⟩,by rw [← hwaH.out]; exact hBn.out⟩
  ·obtain rfl:k=es.length:=by omega
   go_wp2_with (fail)
   go_ret
   have hall:=halH.out
   rw [List.take_length] at hall
   refine ⟨-1,rfl,⟨fun h=>absurd h (by decide),fun h=>by rw [hall] at h; cases h⟩,by rw [← hwaH.out]; exact hBH.out⟩
set_option maxRecDepth 100000 in
theorem econt_any (v:Value) (es:List Ent) (h64:es.length≤1000) (w:World) (h:EntsV w v es) :
  Calls Tryz.prog 52 #[v,.func (.func 53) #[] #[]] w fun e w'=>e= .returned (.bool (!es.all entB))∧Below w.heap.size w w':=by
 have hi:=Hid.mk (eindex_any v es h64 w h)
 clear h
 go_enter Tryz.func52,Tryz.ntmps52
 go_wp2_with (fail)
 go_at_call 82
 refine hi.out.mono ?_
 rintro e w1 ⟨i,rfl,hiff,hB⟩
 have hres:Hid (decide (0≤i)= !es.all entB):= .mk (by
  cases ha:es.all entB with
  | true=>simp; have:=mt hiff.1 (by rw [ha]; simp); omega
  | false=>simp; exact hiff.2 ha)
 have hBH:=Hid.mk hB
 clear hiff hB
 go_wp2_with (fail)
 go_ret
 exact ⟨by rw [← hres.out]; rfl,hBH.out⟩
end Go.Proofs.YtniamhbcmcgonaaGreatDoor
namespace Go.Proofs.YtniamhbcmcgonaaGreatDoor
open Go.RowKit Go.Ev
theorem IntsV.at {w:World} {v:Value} {l:List Int} (h:IntsV w v l):∃ a cap,v= .slice a l.length cap∧∀ j,j < l.length→∃ K ko,a=some ⟨K,ko,none⟩∧w.cell? ⟨K,ko+j,none⟩=some (.int .i64 (l.getD j 0)):=by
 rcases h with ⟨rfl,rfl⟩ | ⟨K,ko,cap,rfl,_,hK⟩
 ·exact ⟨none,0,rfl,fun j hj=>by simp at hj⟩
 ·exact ⟨_,cap,rfl,fun j hj=>⟨K,ko,rfl,hK j hj⟩⟩
theorem take_eq {α:Type} (k l:List α) (d:α) (i:Nat) (hk:i < k.length) (hl:i < l.length) (h:k.take i=l.take i) (he:k.getD i d=l.getD i d):k.take (i+1)=l.take (i+1):=by
 rw [List.take_add_one,List.take_add_one,h]
 rw [List.getD,List.getD,List.getElem?_eq_getElem hk,List.getElem?_eq_getElem hl] at he
 rw [List.getElem?_eq_getElem hk,List.getElem?_eq_getElem hl]
 simp at he
 rw [he]
set_option maxRecDepth 100000 in
set_option maxHeartbeats 3200000 in
theorem iequal_any (v u:Value) (k l:List Int) (w:World) (hv:IntsV w v k) (hu:IntsV w u l) (h9:k.length≤1000) (h9':l.length≤1000) :
  Calls Tryz.prog 106 #[v,u] w fun e w'=>e= .returned (.bool (decide (k=l)))∧Below w.heap.size w w':=by
 have hm:Tryz.prog.follows .mixedOrders=true:=by kernel_rfl
 obtain ⟨a,ca,rfl,ha⟩:=hv.at
 obtain ⟨b,cb,rfl,hb⟩:=hu.at
 have haH:=Hid.mk ha
 have hbH:=Hid.mk hb
 clear ha hb hv hu
 by_cases hlen:k.length=l.length
 ·have hli:(k.length:Int)=(l.length:Int):=by omega
  have hne:(((k.length:Nat):Int) !=(l.length:Nat))=false:=by rw [hli]; simp
  have hl2:=Hid.mk hlen
  clear hlen hli
  go_enter Tryz.func106,Tryz.ntmps106
  go_wp2_with (fail)
  obtain ⟨wa,hwa⟩:∃ wa,wa=w:=⟨w,rfl⟩
  rw [← hwa] at haH hbH
  have hwaH:=Hid.mk hwa
  clear hwa
  go_loopw [5,13] (fun _ y wr=>∃ i:Nat,i≤k.length∧y= .int .i64 (i:Nat)∧k.take i=l.take i∧Below wa.heap.size wa wr∧wr.heap=wa.heap) (fun _ y _=>k.length - (intOf y).toNat)
  case atStart=>exact ⟨0,Nat.zero_le _,rfl,rfl,by rw [hwaH.out]; exact Below.refl _ _,by rw [hwaH.out]⟩
  case round=>
   obtain ⟨i,hi,rfl,htk,hB,hh⟩:=hrel
   have htkH:=Hid.mk htk
   have hBH:=Hid.mk hB
   have hhH:=Hid.mk hh
   clear htk hB hh
   by_cases hlt:i < k.length
   ·have hki:(i:Int) < (k.length:Int):=by omega
    have hli2:(i:Int) < (l.length:Int):=by have:=hl2.out; omega
    obtain ⟨K,ko,rfl,hcK⟩:=haH.out i hlt
    obtain ⟨L,lo,rfl,hcL⟩:=hbH.out i (by have:=hl2.out; omega)
    have d0:wr.drew.cell? ⟨K,ko+i,none⟩=some (.int .i64 (k.getD i 0)):=by rw [← hcK]; simp only [World.cell?,World.drew,hhH.out]
    have d1:wr.drew.cell? ⟨L,lo+i,none⟩=some (.int .i64 (l.getD i 0)):=by rw [← hcL]; simp only [World.cell?,World.drew,hhH.out]
    have hnx:=Hid.mk (fun he=>take_eq k l 0 i hlt (by have:=hl2.out; omega) htkH.out he)
    have hbad:=Hid.mk (show k.getD i 0≠l.getD i 0→decide (k=l)=false from fun hn=>by
     apply decide_eq_false
     intro e; exact hn (by rw [e]))
    clear hcK hcL
    generalize k.getD i 0=x at*
    generalize l.getD i 0=y at*
    have hB2:=Hid.mk hBH.out.drew
    have hh2:=Hid.mk (show wr.drew.heap=wa.heap from hhH.out)
    go_wp2_with (fail)
    refine Go.Ev.wp_region_planE (fun v=>v=wr.drew) hm (by kernel_rfl) (by kernel_rfl) rfl ?_
    iterate 9
     refine Go.Ev.planE_cons _ (by rintro v K rfl hK; go_simp; exact hK _ rfl) ?_
     simp only [Act.put,List.setIfInBounds_toArray,List.set_cons_succ,List.set_cons_zero]
    rintro w1 rfl
    by_cases hxy:x=y
    ·have hq:(x !=y)=false:=by simp [hxy]
     have hn2:=Hid.mk (hnx.out hxy)
     clear hxy
     go_wp2_with (fail)
     exact ⟨⟨i+1,by omega,congrArg _ (by omega),hn2.out,hB2.out,hh2.out⟩,by simp [intOf]; omega⟩
    ·have hq:(x !=y)=true:=by simp [hxy]
     have hb2:=Hid.mk (hbad.out hxy)
     clear hxy
     go_wp2_with (fail)
     go_ret
     exact ⟨by rw [hb2.out]; rfl,by rw [← hwaH.out]; exact hB2.out⟩
   ·obtain rfl:i=k.length:=by omega
    go_wp2_with (fail)
    go_ret
    have h1:=htkH.out
    rw [List.take_length,hl2.out,List.take_length] at h1
    exact ⟨by rw [decide_eq_true h1]; rfl,by rw [← hwaH.out]; exact hBH.out⟩
 ·have hne:(((k.length:Nat):Int) !=(l.length:Nat))=true:=by simp; omega
  have hres:=Hid.mk (show decide (k=l)=false from decide_eq_false (fun e=>hlen (by rw [e])))
  clear hlen
  go_enter Tryz.func106,Tryz.ntmps106
  go_wp2_with (fail)
  go_ret
  exact ⟨by rw [hres.out]; rfl,Below.refl _ _⟩
end Go.Proofs.YtniamhbcmcgonaaGreatDoor
namespace Go.Proofs.YtniamhbcmcgonaaGreatDoor
open Go.RowKit Go.Ev
def eqEnt (x y:Ent):Bool:=decide (x.client=y.client) && (decide (x.number=y.number) && decide (x.text=y.text))
theorem eqEnt_iff (x y:Ent):eqEnt x y=true↔x=y:=by
 unfold eqEnt
 cases x; cases y
 simp
theorem bs_same {a b:Str} (h:¬ a=b):((bs a).toList=(bs b).toList)=False:=by
 rw [ByteArray.toList_eq,ByteArray.toList_eq]
 exact eq_false h
theorem ent_cases (x y:Ent):(x=y)∨(x≠y∧(x.client=y.client)=False)∨(x≠y∧x.client=y.client∧(x.number=y.number)=False)∨
  (x≠y∧x.client=y.client∧x.number=y.number∧((bs x.text).toList=(bs y.text).toList)=False):=by
 obtain ⟨c,n,t⟩:=x
 obtain ⟨c',n',t'⟩:=y
 by_cases h1:c=c'
 ·by_cases h2:n=n'
  ·by_cases h3:t=t'
   ·exact .inl (by rw [h1,h2,h3])
   ·exact .inr (.inr (.inr ⟨by simp [h3],h1,h2,bs_same h3⟩))
  ·exact .inr (.inr (.inl ⟨by simp [h2],h1,by simp [h2]⟩))
 ·exact .inr (.inl ⟨by simp [h1],by simp [h1]⟩)
def eqEnts:List Ent→List Ent→Bool
 | [],[]=>true
 | x::a,y::b=>eqEnt x y && eqEnts a b
 | _,_=>false
theorem eqEnts_iff:∀ a b:List Ent,eqEnts a b=true↔a=b
 | [],[]=>by simp [eqEnts]
 | [],y::b=>by simp [eqEnts]
 | x::a,[]=>by simp [eqEnts]
 | x::a,y::b=>by
  have:=eqEnts_iff a b
  have h2:=eqEnt_iff x y
  simp only [eqEnts,Bool.and_eq_true,List.cons.injEq,this,h2]
set_option maxRecDepth 100000 in
set_option maxHeartbeats 3200000 in
theorem eequal_any (v u:Value) (k l:List Ent) (w:World) (hv:EntsV w v k) (hu:EntsV w u l) (h9:k.length≤1000) (h9':l.length≤1000) :
  Calls Tryz.prog 107 #[v,u] w fun e w'=>e= .returned (.bool (eqEnts k l))∧Below w.heap.size w w':=by
 have hm:Tryz.prog.follows .mixedOrders=true:=by kernel_rfl
 obtain ⟨a,ca,rfl,ha⟩:=hv
 obtain ⟨b,cb,rfl,hb⟩:=hu
 have haH:=Hid.mk ha
 have hbH:=Hid.mk hb
 clear ha hb
 by_cases hlen:k.length=l.length
 ·have hli:(k.length:Int)=(l.length:Int):=by omega
  have hne:(((k.length:Nat):Int) !=(l.length:Nat))=false:=by rw [hli]; simp
  have hl2:=Hid.mk hlen
  clear hlen hli
  go_enter Tryz.func107,Tryz.ntmps107
  go_wp2_with (fail)
  obtain ⟨wa,hwa⟩:∃ wa,wa=w:=⟨w,rfl⟩
  rw [← hwa] at haH hbH
  have hwaH:=Hid.mk hwa
  clear hwa
  go_loopw [5,13] (fun _ y wr=>∃ i:Nat,i≤k.length∧y= .int .i64 (i:Nat)∧k.take i=l.take i∧Below wa.heap.size wa wr∧wr.heap=wa.heap) (fun _ y _=>k.length - (intOf y).toNat)
  case atStart=>exact ⟨0,Nat.zero_le _,rfl,rfl,by rw [hwaH.out]; exact Below.refl _ _,by rw [hwaH.out]⟩
  case round=>
   obtain ⟨i,hi,rfl,htk,hB,hh⟩:=hrel
   have htkH:=Hid.mk htk
   have hBH:=Hid.mk hB
   have hhH:=Hid.mk hh
   clear htk hB hh
   by_cases hlt:i < k.length
   ·have hki:(i:Int) < (k.length:Int):=by omega
    have hli2:(i:Int) < (l.length:Int):=by have:=hl2.out; omega
    obtain ⟨K,ko,rfl,_,hcK⟩:=haH.out i hlt
    obtain ⟨L,lo,rfl,_,hcL⟩:=hbH.out i (by have:=hl2.out; omega)
    have hsame:∀ p,wr.drew.cell? p=wa.cell? p:=fun p=>by simp only [World.cell?,World.drew,hhH.out]
    have d0:wr.drew.cell? ⟨K,ko+i*3,none⟩=some (.int .i64 (k.getD i Ent.none).client):=(hsame _).trans (hcK 0 (by omega))
    have d1:wr.drew.cell? ⟨K,ko+i*3+1,none⟩=some (.int .i64 (k.getD i Ent.none).number):=(hsame _).trans (hcK 1 (by omega))
    have d2:wr.drew.cell? ⟨K,ko+i*3+2,none⟩=some (.string (bs (k.getD i Ent.none).text)):=(hsame _).trans (hcK 2 (by omega))
    have e0:wr.drew.cell? ⟨L,lo+i*3,none⟩=some (.int .i64 (l.getD i Ent.none).client):=(hsame _).trans (hcL 0 (by omega))
    have e1:wr.drew.cell? ⟨L,lo+i*3+1,none⟩=some (.int .i64 (l.getD i Ent.none).number):=(hsame _).trans (hcL 1 (by omega))
    have e2:wr.drew.cell? ⟨L,lo+i*3+2,none⟩=some (.string (bs (l.getD i Ent.none).text)):=(hsame _).trans (hcL 2 (by omega))
    have hnx:=Hid.mk (fun he=>take_eq k l Ent.none i hlt (by have:=hl2.out; omega) htkH.out he)
    have hbad:=Hid.mk (show k.getD i Ent.none≠l.getD i Ent.none→eqEnts k l=false from fun hn=>by
     cases hq:eqEnts k l with
     | false=>rfl
     | true=>exact absurd (by rw [(eqEnts_iff _ _).1 hq]) hn)
    clear hcK hcL hsame
    generalize k.getD i Ent.none=x at*
    generalize l.getD i Ent.none=y at*
    have hB2:=Hid.mk hBH.out.drew
    have hh2:=Hid.mk (show wr.drew.heap=wa.heap from hhH.out)
    rcases ent_cases x y with hxy | ⟨hxy,c1⟩ | ⟨hxy,c1,c2⟩ | ⟨hxy,c1,c2,c3⟩
    ·have hn2:=Hid.mk (hnx.out hxy)
     obtain rfl:=hxy
     go_wp2_with (fail)
     refine Go.Ev.wp_region_planE (fun v=>v=wr.drew) hm (by kernel_rfl) (by kernel_rfl) rfl ?_
     iterate 9
      refine Go.Ev.planE_cons _ (by rintro v K rfl hK; go_simp; exact hK _ rfl) ?_
      simp only [Act.put,List.setIfInBounds_toArray,List.set_cons_succ,List.set_cons_zero]
     rintro w1 rfl
     go_wp2_with (fail)
     exact ⟨⟨i+1,by omega,congrArg _ (by omega),hn2.out,hB2.out,hh2.out⟩,by simp [intOf]; omega⟩
    ·have hb2:=Hid.mk (hbad.out hxy)
     clear hxy
     go_wp2_with (fail)
     refine Go.Ev.wp_region_planE (fun v=>v=wr.drew) hm (by kernel_rfl) (by kernel_rfl) rfl ?_
     iterate 9
      refine Go.Ev.planE_cons _ (by rintro v K rfl hK; go_simp; exact hK _ rfl) ?_
      simp only [Act.put,List.setIfInBounds_toArray,List.set_cons_succ,List.set_cons_zero]
     rintro w1 rfl
     go_wp2_with (fail)
     go_ret
     exact ⟨by rw [hb2.out]; rfl,by rw [← hwaH.out]; exact hB2.out⟩
    ·have hb2:=Hid.mk (hbad.out hxy)
     clear hxy
     go_wp2_with (fail)
     refine Go.Ev.wp_region_planE (fun v=>v=wr.drew) hm (by kernel_rfl) (by kernel_rfl) rfl ?_
     iterate 9
      refine Go.Ev.planE_cons _ (by rintro v K rfl hK; go_simp; exact hK _ rfl) ?_
      simp only [Act.put,List.setIfInBounds_toArray,List.set_cons_succ,List.set_cons_zero]
     rintro w1 rfl
     go_wp2_with (fail)
     go_ret
     exact ⟨by rw [hb2.out]; rfl,by rw [← hwaH.out]; exact hB2.out⟩
    ·have hb2:=Hid.mk (hbad.out hxy)
     clear hxy
     go_wp2_with (fail)
     refine Go.Ev.wp_region_planE (fun v=>v=wr.drew) hm (by kernel_rfl) (by kernel_rfl) rfl ?_
     iterate 9
      refine Go.Ev.planE_cons _ (by rintro v K rfl hK; go_simp; exact hK _ rfl) ?_
      simp only [Act.put,List.setIfInBounds_toArray,List.set_cons_succ,List.set_cons_zero]
     rintro w1 rfl
     go_wp2_with (fail)
     go_ret
     exact ⟨by rw [hb2.out]; rfl,by rw [← hwaH.out]; exact hB2.out⟩
   ·obtain rfl:i=k.length:=by omega
    go_wp2_with (fail)
    go_ret
    have h1:=htkH.out
    rw [List.take_length,hl2.out,List.take_length] at h1
    exact ⟨by rw [(eqEnts_iff k l).2 h1]; rfl,by rw [← hwaH.out]; exact hBH.out⟩
 ·have hne:(((k.length:Nat):Int) !=(l.length:Nat))=true:=by simp; omega
  have hres:=Hid.mk (show eqEnts k l=false from by
   cases hq:eqEnts k l with
   | false=>rfl
   | true=>exact absurd (by rw [(eqEnts_iff _ _).1 hq]) hlen)
  clear hlen
  go_enter Tryz.func107,Tryz.ntmps107
  go_wp2_with (fail)
  go_ret
  exact ⟨by rw [hres.out]; rfl,Below.refl _ _⟩
end Go.Proofs.YtniamhbcmcgonaaGreatDoor
namespace Go.Proofs.YtniamhbcmcgonaaGreatDoor
open Go.RowKit Go.Ev
theorem own_mono {w:World} {B B':Nat} {e:TypeId} {size:Nat} {v:Value} {n:Nat} {xs:List Value} (h:w.ownsRow B e size v n xs) (hB:B'≤B):w.ownsRow B' e size v n xs:=by
 refine ⟨h.1,?_⟩
 rcases h.2 with hn | ⟨g,cap,cur,hv,hb,rest⟩
 ·exact .inl hn
 ·exact .inr ⟨g,cap,cur,hv,Nat.le_trans hB hb,rest⟩
theorem iclone_any (v:Value) (l:List Int) (h9:l.length≤1000) (w:World) (h:IntsV w v l) :
  Calls Tryz.prog 21 #[v] w fun e w'=>∃ a c,e= .returned (.slice a l.length c)∧w'.ownsRow w.heap.size 3 1 (.slice a l.length c) l.length (l.map fun z=>Value.int .i64 z)∧Below w.heap.size w w':=by
 rcases h with ⟨rfl,rfl⟩ | ⟨K,ko,cap,rfl,hK,hc⟩
 ·refine (Tryz.slices_Clone_int_nil 0 0 w).mono ?_
  rintro e w' ⟨rfl,rfl⟩
  exact ⟨_,_,rfl,World.ownsRow_nil _ _ _ _,Below.refl _ _⟩
 ·refine (Tryz.slices_Clone_int K ko l.length cap l w (Nat.le_refl _) (by omega) hc).mono ?_
  rintro e w' ⟨v',rfl,hown,_,hB⟩
  rw [List.take_length] at hown
  obtain ⟨a,c,rfl⟩:=out_slice hown
  exact ⟨a,c,rfl,hown,hB⟩
structure E4 (W:World) (vals:Nat→Value) (P1:Value→World→Prop) (P2 P3:Value→Value→World→Prop) (P4:World→Prop) (D:Nat→Bool) (vs:Nat→Value) (w:World):Prop where
 vals:∀ i,D i=true→i≠2→i≠5→vs i=vals i
 p0:D 2=false→w=W
 p1:D 2=true→D 5=false→P1 (vs 2) w
 p2:D 5=true→D 7=false→P2 (vs 2) (vs 5) w
 p3:D 7=true→D 9=false→P3 (vs 2) (vs 5) w
 p4:D 9=true→P4 w
section
variable {W w w':World} {vals:Nat→Value} {P1:Value→World→Prop} {P2 P3:Value→Value→World→Prop} {P4:World→Prop} {D:Nat→Bool} {vs:Nat→Value}
theorem E4.start (W:World) (vals:Nat→Value) (P1:Value→World→Prop) (P2 P3:Value→Value→World→Prop) (P4:World→Prop):E4 W vals P1 P2 P3 P4 (fun _=>false) (fun _=>undef) W:=
 ⟨fun i h=>(by cases h),fun _=>rfl,fun h=>(by cases h),fun h=>(by cases h),fun h=>(by cases h),fun h=>(by cases h)⟩
theorem E4.pure (h:E4 W vals P1 P2 P3 P4 D vs w) {i:Nat} {v:Value} (hi:2≠i∧5≠i∧7≠i∧9≠i) (hv:v=vals i):E4 W vals P1 P2 P3 P4 (upd D i true) (upd vs i v) w:=by
 obtain ⟨h2,h5,h7,h9⟩:=hi
 refine ⟨fun j hj a b=> ?_,?_,?_,?_,?_,?_⟩
 ·by_cases e:j=i
  ·subst e; rw [upd_same]; exact hv
  ·rw [upd_other _ _ e] at hj ⊢; exact h.vals j hj a b
 ·rw [upd_other _ _ h2]; exact h.p0
 ·rw [upd_other _ _ h2,upd_other _ _ h5,upd_other _ _ h2]; exact h.p1
 ·rw [upd_other _ _ h2,upd_other _ _ h5,upd_other _ _ h5,upd_other _ _ h7]; exact h.p2
 ·rw [upd_other _ _ h2,upd_other _ _ h5,upd_other _ _ h7,upd_other _ _ h9]; exact h.p3
 ·rw [upd_other _ _ h9]; exact h.p4
theorem E4.s1 (h:E4 W vals P1 P2 P3 P4 D vs w) {v:Value} (h5:D 5=false) (h7:D 7=false) (h9:D 9=false) (hp:P1 v w'):E4 W vals P1 P2 P3 P4 (upd D 2 true) (upd vs 2 v) w':=by
 refine ⟨fun j hj a b=> ?_,?_,?_,?_,?_,?_⟩
 ·rw [upd_other _ _ a] at hj ⊢; exact h.vals j hj a b
 ·rw [upd_same]; intro e; cases e
 ·intro _ _; rw [upd_same]; exact hp
 ·rw [upd_other _ _ (by decide:(5:Nat)≠2),h5]; intro e; cases e
 ·rw [upd_other _ _ (by decide:(7:Nat)≠2),h7]; intro e; cases e
 ·rw [upd_other _ _ (by decide:(9:Nat)≠2),h9]; intro e; cases e
theorem E4.s2 (h:E4 W vals P1 P2 P3 P4 D vs w) {v:Value} (h2:D 2=true) (h7:D 7=false) (h9:D 9=false) (hp:P2 (vs 2) v w'):E4 W vals P1 P2 P3 P4 (upd D 5 true) (upd vs 5 v) w':=by
 refine ⟨fun j hj a b=> ?_,?_,?_,?_,?_,?_⟩
 ·rw [upd_other _ _ b] at hj ⊢; exact h.vals j hj a b
 ·rw [upd_other _ _ (by decide:(2:Nat)≠5),h2]; intro e; cases e
 ·rw [upd_same]; intro _ e; cases e
 ·intro _ _; rw [upd_same,upd_other _ _ (by decide:(2:Nat)≠5)]; exact hp
 ·rw [upd_other _ _ (by decide:(7:Nat)≠5),h7]; intro e; cases e
 ·rw [upd_other _ _ (by decide:(9:Nat)≠5),h9]; intro e; cases e
theorem E4.s3 (h:E4 W vals P1 P2 P3 P4 D vs w) {v:Value} (h2:D 2=true) (h5:D 5=true) (h9:D 9=false) (hv:v=vals 7) (hp:P3 (vs 2) (vs 5) w'):E4 W vals P1 P2 P3 P4 (upd D 7 true) (upd vs 7 v) w':=by
 refine ⟨fun j hj a b=> ?_,?_,?_,?_,?_,?_⟩
 ·by_cases e:j=7
  ·subst e; rw [upd_same]; exact hv
  ·rw [upd_other _ _ e] at hj ⊢; exact h.vals j hj a b
 ·rw [upd_other _ _ (by decide:(2:Nat)≠7),h2]; intro e; cases e
 ·rw [upd_other _ _ (by decide:(5:Nat)≠7),h5]; intro _ e; cases e
 ·rw [upd_same]; intro _ e; cases e
 ·intro _ _; rw [upd_other _ _ (by decide:(2:Nat)≠7),upd_other _ _ (by decide:(5:Nat)≠7)]; exact hp
 ·rw [upd_other _ _ (by decide:(9:Nat)≠7),h9]; intro e; cases e
theorem E4.s4 (h:E4 W vals P1 P2 P3 P4 D vs w) {v:Value} (h2:D 2=true) (h5:D 5=true) (h7:D 7=true) (hv:v=vals 9) (hp:P4 w'):E4 W vals P1 P2 P3 P4 (upd D 9 true) (upd vs 9 v) w':=by
 refine ⟨fun j hj a b=> ?_,?_,?_,?_,?_,fun _=>hp⟩
 ·by_cases e:j=9
  ·subst e; rw [upd_same]; exact hv
  ·rw [upd_other _ _ e] at hj ⊢; exact h.vals j hj a b
 ·rw [upd_other _ _ (by decide:(2:Nat)≠9),h2]; intro e; cases e
 ·rw [upd_other _ _ (by decide:(5:Nat)≠9),h5]; intro _ e; cases e
 ·rw [upd_other _ _ (by decide:(7:Nat)≠9),h7]; intro _ e; cases e
 ·rw [upd_same]; intro _ e; cases e
end
def P1i (N:Nat) (W:World) (kn:List Int) (v:Value) (w:World):Prop:=(∃ a c,v= .slice a kn.length c)∧w.ownsRow N 3 1 v kn.length (kn.map fun z=>Value.int .i64 z)∧Below N W w∧N≤w.heap.size
def P2i (N:Nat) (W:World) (kn:List Int) (es:List Ent) (v u:Value) (w:World):Prop:=P1i N W kn v w∧(∃ a c,u= .slice a es.length c)∧w.ownsRow N 75 3 u es.length (es.flatMap entC)
theorem P1i.below {N:Nat} {W w w':World} {kn:List Int} {v:Value} (h:P1i N W kn v w) (hB:Below w.heap.size w w'):P1i N W kn v w':=
 ⟨h.1,out_same h.2.1 (fun g hg=>hB.block g (h.2.1.lt g hg).2),h.2.2.1.trans (hB.mono h.2.2.2),Nat.le_trans h.2.2.2 hB.size⟩
theorem iopen_any (s:Str) (w:World):Calls Tryz.prog 29 #[.string (bs s)] w fun e w'=>e= .returned (.pointer (some ⟨w.heap.size,0,none⟩))∧InS 120 w.heap.size (s,0) w'∧Below w.heap.size w w'∧w'.heap.size=w.heap.size+1:=by
 go_enter Tryz.func29,Tryz.ntmps29
 go_wp2
 go_ret
 refine ⟨rfl,heap_alloc_new w _,(Below.refl _ w).alloc (Nat.le_refl _) _,by simp⟩
end Go.Proofs.YtniamhbcmcgonaaGreatDoor
