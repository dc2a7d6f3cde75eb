/- message.same. Printed by gensam.py. -/
import Derived.Deep.CutRange
import Derived.Deep.DeepCutAuto
import Derived.Deep.CutBlock
import Derived.Test.YtniamhbcmcgonaaGreatDoorCat
import Derived.Test.YtniamhbcmcgonaaGreatDoorVww
namespace Go.Proofs.YtniamhbcmcgonaaGreatDoor
open Go.RowKit Go.Ev
open Classical in
noncomputable def sameB (m q:Ms):Bool:=decide (m=q)
theorem sameB_self (m:Ms):sameB m m=true:=by unfold sameB; simp
theorem sameB_ne {m q:Ms} (h:m≠q):sameB m q=false:=by unfold sameB; simp [h]
theorem str_eq (a b:Str):((bs a).toList==(bs b).toList)=(a==b):=by rw [ByteArray.toList_eq,ByteArray.toList_eq]; rfl
set_option maxRecDepth 100000 in
set_option maxHeartbeats 12800000 in
theorem same_any (m q:Ms) (vk uk ve ue:Value) (w:World) (hk:IntsV w vk m.kn) (hu:IntsV w uk q.kn) (he:EntsV w ve m.ents) (hf:EntsV w ue q.ents) (l1:m.kn.length≤1000) (l2:q.kn.length≤1000) (l3:m.ents.length≤1000) (l4:q.ents.length≤1000) :
  Calls Tryz.prog 83 #[.agg (msC m vk ve),.agg (msC q uk ue)] w fun e w'=>e= .returned (.bool (sameB m q))∧Below w.heap.size w w':=by
 obtain ⟨xkind,xfrom_,xborn,xkn,xview,xlast,xop,xcommit,xclient,xnumber,xnonce,xtext,xfull,xbase,xstate,xents⟩:=m
 obtain ⟨ykind,yfrom_,yborn,ykn,yview,ylast,yop,ycommit,yclient,ynumber,ynonce,ytext,yfull,ybase,ystate,yents⟩:=q
 simp only at hk hu he hf l1 l2 l3 l4
 have hkH:=Hid.mk hk
 have huH:=Hid.mk hu
 have heH:=Hid.mk he
 have hfH:=Hid.mk hf
 have l1H:=Hid.mk l1
 have l2H:=Hid.mk l2
 have l3H:=Hid.mk l3
 have l4H:=Hid.mk l4
 clear hk hu he hf l1 l2 l3 l4
 unfold msC
 simp only
 go_enter Tryz.func83,Tryz.ntmps83
 go_upto_region 0 with fail
 go_cut [2,3] (fun x y wr=>x= .pointer (some ⟨w.heap.size,0,none⟩)∧y= .pointer (some ⟨w.heap.size+1,0,none⟩)∧wr.heap[w.heap.size]?=some (.cells #[.int .i64 xkind,.int .i64 xfrom_,.int .i64 xborn,vk,.int .i64 xview,.int .i64 xlast,.int .i64 xop,.int .i64 xcommit,.int .i64 xclient,.int .i64 xnumber,.int .i64 xnonce,.string (bs xtext),.bool xfull,.int .i64 xbase,.string (bs xstate),ve] 35 (0,0))∧wr.heap[w.heap.size+1]?=some (.cells #[.int .i64 ykind,.int .i64 yfrom_,.int .i64 yborn,uk,.int .i64 yview,.int .i64 ylast,.int .i64 yop,.int .i64 ycommit,.int .i64 yclient,.int .i64 ynumber,.int .i64 ynonce,.string (bs ytext),.bool yfull,.int .i64 ybase,.string (bs ystate),ue] 35 (0,0))∧Below w.heap.size w wr)
 case first=>as_aux_lemma=>
  go_wp2_with (fail)
  go_meet
  refine ⟨rfl,rfl,?_,?_,?_⟩
  ·exact (heap_alloc_old _ _ (by simp)).trans (heap_alloc_new w _)
  ·exact (congrArg (fun n=>((w.alloc _).alloc _).heap[n]?) (show w.heap.size+1=(w.alloc _).heap.size by simp)).trans (heap_alloc_new (w.alloc _) _)
  ·exact ((Below.refl _ w).alloc (Nat.le_refl _) _).alloc (by simp) _
 case rest=>
  obtain ⟨hx,hy,hA,hB,hW⟩:=hcut
  have hlA:w.heap.size < wc.heap.size:=(Array.getElem?_eq_some_iff.1 hA).1
  have hlB:w.heap.size+1 < wc.heap.size:=(Array.getElem?_eq_some_iff.1 hB).1
  have hAH:=Hid.mk hA
  have hBH:=Hid.mk hB
  have hWH:=Hid.mk hW
  clear hA hB hW
  by_cases hne:xkind=ykind
  rotate_left
  ·as_aux_lemma=>
    have hres:=Hid.mk (show sameB _ _=false from sameB_ne (m:=⟨xkind,xfrom_,xborn,xkn,xview,xlast,xop,xcommit,xclient,xnumber,xnonce,xtext,xfull,xbase,xstate,xents⟩) (q:=⟨ykind,yfrom_,yborn,ykn,yview,ylast,yop,ycommit,yclient,ynumber,ynonce,ytext,yfull,ybase,ystate,yents⟩) (by intro e; injection e with ekind efrom_ eborn ekn eview elast eop ecommit eclient enumber enonce etext efull ebase estate eents; exact hne ekind))
    have hq:(xkind==ykind)=false:=by simp [hne]
    clear hne
    have dA0:wc.cell? ⟨w.heap.size,0,none⟩=some (.int .i64 xkind):=(cell_of_row _ _ _ _ _ _ hAH.out).trans rfl
    have dB0:wc.cell? ⟨w.heap.size+1,0,none⟩=some (.int .i64 ykind):=(cell_of_row _ _ _ _ _ _ hBH.out).trans rfl
    subst hx hy
    go_wp2_with (fail)
    go_ret
    exact ⟨by rw [hres.out]; rfl,hWH.out⟩
  subst hne
  by_cases hne:xfrom_=yfrom_
  rotate_left
  ·as_aux_lemma=>
    have hres:=Hid.mk (show sameB _ _=false from sameB_ne (m:=⟨xkind,xfrom_,xborn,xkn,xview,xlast,xop,xcommit,xclient,xnumber,xnonce,xtext,xfull,xbase,xstate,xents⟩) (q:=⟨xkind,yfrom_,yborn,ykn,yview,ylast,yop,ycommit,yclient,ynumber,ynonce,ytext,yfull,ybase,ystate,yents⟩) (by intro e; injection e with ekind efrom_ eborn ekn eview elast eop ecommit eclient enumber enonce etext efull ebase estate eents; exact hne efrom_))
    have hq:(xfrom_==yfrom_)=false:=by simp [hne]
    clear hne
    have dA0:wc.cell? ⟨w.heap.size,0,none⟩=some (.int .i64 xkind):=(cell_of_row _ _ _ _ _ _ hAH.out).trans rfl
    have dB0:wc.cell? ⟨w.heap.size+1,0,none⟩=some (.int .i64 xkind):=(cell_of_row _ _ _ _ _ _ hBH.out).trans rfl
    have dA1:wc.cell? ⟨w.heap.size,1,none⟩=some (.int .i64 xfrom_):=(cell_of_row _ _ _ _ _ _ hAH.out).trans rfl
    have dB1:wc.cell? ⟨w.heap.size+1,1,none⟩=some (.int .i64 yfrom_):=(cell_of_row _ _ _ _ _ _ hBH.out).trans rfl
    subst hx hy
    go_wp2_with (fail)
    go_ret
    exact ⟨by rw [hres.out]; rfl,hWH.out⟩
  subst hne
  by_cases hne:xborn=yborn
  rotate_left
  ·as_aux_lemma=>
    have hres:=Hid.mk (show sameB _ _=false from sameB_ne (m:=⟨xkind,xfrom_,xborn,xkn,xview,xlast,xop,xcommit,xclient,xnumber,xnonce,xtext,xfull,xbase,xstate,xents⟩) (q:=⟨xkind,xfrom_,yborn,ykn,yview,ylast,yop,ycommit,yclient,ynumber,ynonce,ytext,yfull,ybase,ystate,yents⟩) (by intro e; injection e with ekind efrom_ eborn ekn eview elast eop ecommit eclient enumber enonce etext efull ebase estate eents; exact hne eborn))
    have hq:(xborn==yborn)=false:=by simp [hne]
    clear hne
    have dA0:wc.cell? ⟨w.heap.size,0,none⟩=some (.int .i64 xkind):=(cell_of_row _ _ _ _ _ _ hAH.out).trans rfl
    have dB0:wc.cell? ⟨w.heap.size+1,0,none⟩=some (.int .i64 xkind):=(cell_of_row _ _ _ _ _ _ hBH.out).trans rfl
    have dA1:wc.cell? ⟨w.heap.size,1,none⟩=some (.int .i64 xfrom_):=(cell_of_row _ _ _ _ _ _ hAH.out).trans rfl
    have dB1:wc.cell? ⟨w.heap.size+1,1,none⟩=some (.int .i64 xfrom_):=(cell_of_row _ _ _ _ _ _ hBH.out).trans rfl
    have dA2:wc.cell? ⟨w.heap.size,2,none⟩=some (.int .i64 xborn):=(cell_of_row _ _ _ _ _ _ hAH.out).trans rfl
    have dB2:wc.cell? ⟨w.heap.size+1,2,none⟩=some (.int .i64 yborn):=(cell_of_row _ _ _ _ _ _ hBH.out).trans rfl
    subst hx hy
    go_wp2_with (fail)
    go_ret
    exact ⟨by rw [hres.out]; rfl,hWH.out⟩
  subst hne
  by_cases hne:xkn=ykn
  rotate_left
  ·as_aux_lemma=>
    have hres:=Hid.mk (show sameB _ _=false from sameB_ne (m:=⟨xkind,xfrom_,xborn,xkn,xview,xlast,xop,xcommit,xclient,xnumber,xnonce,xtext,xfull,xbase,xstate,xents⟩) (q:=⟨xkind,xfrom_,xborn,ykn,yview,ylast,yop,ycommit,yclient,ynumber,ynonce,ytext,yfull,ybase,ystate,yents⟩) (by intro e; injection e with ekind efrom_ eborn ekn eview elast eop ecommit eclient enumber enonce etext efull ebase estate eents; exact hne ekn))
    have hq:=Hid.mk (show decide (xkn=ykn)=false by simp [hne])
    clear hne
    have dA0:wc.cell? ⟨w.heap.size,0,none⟩=some (.int .i64 xkind):=(cell_of_row _ _ _ _ _ _ hAH.out).trans rfl
    have dB0:wc.cell? ⟨w.heap.size+1,0,none⟩=some (.int .i64 xkind):=(cell_of_row _ _ _ _ _ _ hBH.out).trans rfl
    have dA1:wc.cell? ⟨w.heap.size,1,none⟩=some (.int .i64 xfrom_):=(cell_of_row _ _ _ _ _ _ hAH.out).trans rfl
    have dB1:wc.cell? ⟨w.heap.size+1,1,none⟩=some (.int .i64 xfrom_):=(cell_of_row _ _ _ _ _ _ hBH.out).trans rfl
    have dA2:wc.cell? ⟨w.heap.size,2,none⟩=some (.int .i64 xborn):=(cell_of_row _ _ _ _ _ _ hAH.out).trans rfl
    have dB2:wc.cell? ⟨w.heap.size+1,2,none⟩=some (.int .i64 xborn):=(cell_of_row _ _ _ _ _ _ hBH.out).trans rfl
    have dA3:wc.cell? ⟨w.heap.size,3,none⟩=some (vk):=(cell_of_row _ _ _ _ _ _ hAH.out).trans rfl
    have dB3:wc.cell? ⟨w.heap.size+1,3,none⟩=some (uk):=(cell_of_row _ _ _ _ _ _ hBH.out).trans rfl
    subst hx hy
    go_wp2_with (fail)
    go_at_call 106
    refine (iequal_any _ _ xkn ykn wc (hkH.out.below hWH.out) (huH.out.below hWH.out) l1H.out l2H.out).mono ?_
    rintro e wd ⟨rfl,hK⟩
    rw [hq.out]
    have hKH:=Hid.mk hK
    clear hK
    go_wp2_with (fail)
    go_ret
    exact ⟨by rw [hres.out]; rfl,hWH.out.trans (hKH.out.mono (Nat.le_of_lt hlA))⟩
  subst hne
  by_cases hne:xview=yview
  rotate_left
  ·as_aux_lemma=>
    have hres:=Hid.mk (show sameB _ _=false from sameB_ne (m:=⟨xkind,xfrom_,xborn,xkn,xview,xlast,xop,xcommit,xclient,xnumber,xnonce,xtext,xfull,xbase,xstate,xents⟩) (q:=⟨xkind,xfrom_,xborn,xkn,yview,ylast,yop,ycommit,yclient,ynumber,ynonce,ytext,yfull,ybase,ystate,yents⟩) (by intro e; injection e with ekind efrom_ eborn ekn eview elast eop ecommit eclient enumber enonce etext efull ebase estate eents; exact hne eview))
    have hq:(xview==yview)=false:=by simp [hne]
    clear hne
    have dA0:wc.cell? ⟨w.heap.size,0,none⟩=some (.int .i64 xkind):=(cell_of_row _ _ _ _ _ _ hAH.out).trans rfl
    have dB0:wc.cell? ⟨w.heap.size+1,0,none⟩=some (.int .i64 xkind):=(cell_of_row _ _ _ _ _ _ hBH.out).trans rfl
    have dA1:wc.cell? ⟨w.heap.size,1,none⟩=some (.int .i64 xfrom_):=(cell_of_row _ _ _ _ _ _ hAH.out).trans rfl
    have dB1:wc.cell? ⟨w.heap.size+1,1,none⟩=some (.int .i64 xfrom_):=(cell_of_row _ _ _ _ _ _ hBH.out).trans rfl
    have dA2:wc.cell? ⟨w.heap.size,2,none⟩=some (.int .i64 xborn):=(cell_of_row _ _ _ _ _ _ hAH.out).trans rfl
    have dB2:wc.cell? ⟨w.heap.size+1,2,none⟩=some (.int .i64 xborn):=(cell_of_row _ _ _ _ _ _ hBH.out).trans rfl
    have dA3:wc.cell? ⟨w.heap.size,3,none⟩=some (vk):=(cell_of_row _ _ _ _ _ _ hAH.out).trans rfl
    have dB3:wc.cell? ⟨w.heap.size+1,3,none⟩=some (uk):=(cell_of_row _ _ _ _ _ _ hBH.out).trans rfl
    subst hx hy
    go_wp2_with (fail)
    go_at_call 106
    refine (iequal_any _ _ xkn xkn wc (hkH.out.below hWH.out) (huH.out.below hWH.out) l1H.out l2H.out).mono ?_
    rintro e wd ⟨rfl,hK⟩
    rw [show decide (xkn=xkn)=true by simp]
    have hA2:=(hK.block _ hlA).trans hAH.out
    have hB2:=(hK.block _ hlB).trans hBH.out
    have hW2:=Hid.mk (hWH.out.trans (hK.mono (Nat.le_of_lt hlA)))
    have hld:w.heap.size < wd.heap.size:=Nat.lt_of_lt_of_le hlA hK.size
    clear hK dA0 dB0 dA1 dB1 dA2 dB2 dA3 dB3
    have dA4:wd.cell? ⟨w.heap.size,4,none⟩=some (.int .i64 xview):=(cell_of_row _ _ _ _ _ _ hA2).trans rfl
    have dB4:wd.cell? ⟨w.heap.size+1,4,none⟩=some (.int .i64 yview):=(cell_of_row _ _ _ _ _ _ hB2).trans rfl
    clear hA2 hB2
    go_wp2_with (fail)
    go_ret
    exact ⟨by rw [hres.out]; rfl,hW2.out⟩
  subst hne
  by_cases hne:xlast=ylast
  rotate_left
  ·as_aux_lemma=>
    have hres:=Hid.mk (show sameB _ _=false from sameB_ne (m:=⟨xkind,xfrom_,xborn,xkn,xview,xlast,xop,xcommit,xclient,xnumber,xnonce,xtext,xfull,xbase,xstate,xents⟩) (q:=⟨xkind,xfrom_,xborn,xkn,xview,ylast,yop,ycommit,yclient,ynumber,ynonce,ytext,yfull,ybase,ystate,yents⟩) (by intro e; injection e with ekind efrom_ eborn ekn eview elast eop ecommit eclient enumber enonce etext efull ebase estate eents; exact hne elast))
    have hq:(xlast==ylast)=false:=by simp [hne]
    clear hne
    have dA0:wc.cell? ⟨w.heap.size,0,none⟩=some (.int .i64 xkind):=(cell_of_row _ _ _ _ _ _ hAH.out).trans rfl
    have dB0:wc.cell? ⟨w.heap.size+1,0,none⟩=some (.int .i64 xkind):=(cell_of_row _ _ _ _ _ _ hBH.out).trans rfl
    have dA1:wc.cell? ⟨w.heap.size,1,none⟩=some (.int .i64 xfrom_):=(cell_of_row _ _ _ _ _ _ hAH.out).trans rfl
    have dB1:wc.cell? ⟨w.heap.size+1,1,none⟩=some (.int .i64 xfrom_):=(cell_of_row _ _ _ _ _ _ hBH.out).trans rfl
    have dA2:wc.cell? ⟨w.heap.size,2,none⟩=some (.int .i64 xborn):=(cell_of_row _ _ _ _ _ _ hAH.out).trans rfl
    have dB2:wc.cell? ⟨w.heap.size+1,2,none⟩=some (.int .i64 xborn):=(cell_of_row _ _ _ _ _ _ hBH.out).trans rfl
    have dA3:wc.cell? ⟨w.heap.size,3,none⟩=some (vk):=(cell_of_row _ _ _ _ _ _ hAH.out).trans rfl
    have dB3:wc.cell? ⟨w.heap.size+1,3,none⟩=some (uk):=(cell_of_row _ _ _ _ _ _ hBH.out).trans rfl
    subst hx hy
    go_wp2_with (fail)
    go_at_call 106
    refine (iequal_any _ _ xkn xkn wc (hkH.out.below hWH.out) (huH.out.below hWH.out) l1H.out l2H.out).mono ?_
    rintro e wd ⟨rfl,hK⟩
    rw [show decide (xkn=xkn)=true by simp]
    have hA2:=(hK.block _ hlA).trans hAH.out
    have hB2:=(hK.block _ hlB).trans hBH.out
    have hW2:=Hid.mk (hWH.out.trans (hK.mono (Nat.le_of_lt hlA)))
    have hld:w.heap.size < wd.heap.size:=Nat.lt_of_lt_of_le hlA hK.size
    clear hK dA0 dB0 dA1 dB1 dA2 dB2 dA3 dB3
    have dA4:wd.cell? ⟨w.heap.size,4,none⟩=some (.int .i64 xview):=(cell_of_row _ _ _ _ _ _ hA2).trans rfl
    have dB4:wd.cell? ⟨w.heap.size+1,4,none⟩=some (.int .i64 xview):=(cell_of_row _ _ _ _ _ _ hB2).trans rfl
    have dA5:wd.cell? ⟨w.heap.size,5,none⟩=some (.int .i64 xlast):=(cell_of_row _ _ _ _ _ _ hA2).trans rfl
    have dB5:wd.cell? ⟨w.heap.size+1,5,none⟩=some (.int .i64 ylast):=(cell_of_row _ _ _ _ _ _ hB2).trans rfl
    clear hA2 hB2
    go_wp2_with (fail)
    go_ret
    exact ⟨by rw [hres.out]; rfl,hW2.out⟩
  subst hne
  by_cases hne:xop=yop
  rotate_left
  ·as_aux_lemma=>
    have hres:=Hid.mk (show sameB _ _=false from sameB_ne (m:=⟨xkind,xfrom_,xborn,xkn,xview,xlast,xop,xcommit,xclient,xnumber,xnonce,xtext,xfull,xbase,xstate,xents⟩) (q:=⟨xkind,xfrom_,xborn,xkn,xview,xlast,yop,ycommit,yclient,ynumber,ynonce,ytext,yfull,ybase,ystate,yents⟩) (by intro e; injection e with ekind efrom_ eborn ekn eview elast eop ecommit eclient enumber enonce etext efull ebase estate eents; exact hne eop))
    have hq:(xop==yop)=false:=by simp [hne]
    clear hne
    have dA0:wc.cell? ⟨w.heap.size,0,none⟩=some (.int .i64 xkind):=(cell_of_row _ _ _ _ _ _ hAH.out).trans rfl
    have dB0:wc.cell? ⟨w.heap.size+1,0,none⟩=some (.int .i64 xkind):=(cell_of_row _ _ _ _ _ _ hBH.out).trans rfl
    have dA1:wc.cell? ⟨w.heap.size,1,none⟩=some (.int .i64 xfrom_):=(cell_of_row _ _ _ _ _ _ hAH.out).trans rfl
    have dB1:wc.cell? ⟨w.heap.size+1,1,none⟩=some (.int .i64 xfrom_):=(cell_of_row _ _ _ _ _ _ hBH.out).trans rfl
    have dA2:wc.cell? ⟨w.heap.size,2,none⟩=some (.int .i64 xborn):=(cell_of_row _ _ _ _ _ _ hAH.out).trans rfl
    have dB2:wc.cell? ⟨w.heap.size+1,2,none⟩=some (.int .i64 xborn):=(cell_of_row _ _ _ _ _ _ hBH.out).trans rfl
    have dA3:wc.cell? ⟨w.heap.size,3,none⟩=some (vk):=(cell_of_row _ _ _ _ _ _ hAH.out).trans rfl
    have dB3:wc.cell? ⟨w.heap.size+1,3,none⟩=some (uk):=(cell_of_row _ _ _ _ _ _ hBH.out).trans rfl
    subst hx hy
    go_wp2_with (fail)
    go_at_call 106
    refine (iequal_any _ _ xkn xkn wc (hkH.out.below hWH.out) (huH.out.below hWH.out) l1H.out l2H.out).mono ?_
    rintro e wd ⟨rfl,hK⟩
    rw [show decide (xkn=xkn)=true by simp]
    have hA2:=(hK.block _ hlA).trans hAH.out
    have hB2:=(hK.block _ hlB).trans hBH.out
    have hW2:=Hid.mk (hWH.out.trans (hK.mono (Nat.le_of_lt hlA)))
    have hld:w.heap.size < wd.heap.size:=Nat.lt_of_lt_of_le hlA hK.size
    clear hK dA0 dB0 dA1 dB1 dA2 dB2 dA3 dB3
    have dA4:wd.cell? ⟨w.heap.size,4,none⟩=some (.int .i64 xview):=(cell_of_row _ _ _ _ _ _ hA2).trans rfl
    have dB4:wd.cell? ⟨w.heap.size+1,4,none⟩=some (.int .i64 xview):=(cell_of_row _ _ _ _ _ _ hB2).trans rfl
    have dA5:wd.cell? ⟨w.heap.size,5,none⟩=some (.int .i64 xlast):=(cell_of_row _ _ _ _ _ _ hA2).trans rfl
    have dB5:wd.cell? ⟨w.heap.size+1,5,none⟩=some (.int .i64 xlast):=(cell_of_row _ _ _ _ _ _ hB2).trans rfl
    have dA6:wd.cell? ⟨w.heap.size,6,none⟩=some (.int .i64 xop):=(cell_of_row _ _ _ _ _ _ hA2).trans rfl
    have dB6:wd.cell? ⟨w.heap.size+1,6,none⟩=some (.int .i64 yop):=(cell_of_row _ _ _ _ _ _ hB2).trans rfl
    clear hA2 hB2
    go_wp2_with (fail)
    go_ret
    exact ⟨by rw [hres.out]; rfl,hW2.out⟩
  subst hne
  by_cases hne:xcommit=ycommit
  rotate_left
  ·as_aux_lemma=>
    have hres:=Hid.mk (show sameB _ _=false from sameB_ne (m:=⟨xkind,xfrom_,xborn,xkn,xview,xlast,xop,xcommit,xclient,xnumber,xnonce,xtext,xfull,xbase,xstate,xents⟩) (q:=⟨xkind,xfrom_,xborn,xkn,xview,xlast,xop,ycommit,yclient,ynumber,ynonce,ytext,yfull,ybase,ystate,yents⟩) (by intro e; injection e with ekind efrom_ eborn ekn eview elast eop ecommit eclient enumber enonce etext efull ebase estate eents; exact hne ecommit))
    have hq:(xcommit==ycommit)=false:=by simp [hne]
    clear hne
    have dA0:wc.cell? ⟨w.heap.size,0,none⟩=some (.int .i64 xkind):=(cell_of_row _ _ _ _ _ _ hAH.out).trans rfl
    have dB0:wc.cell? ⟨w.heap.size+1,0,none⟩=some (.int .i64 xkind):=(cell_of_row _ _ _ _ _ _ hBH.out).trans rfl
    have dA1:wc.cell? ⟨w.heap.size,1,none⟩=some (.int .i64 xfrom_):=(cell_of_row _ _ _ _ _ _ hAH.out).trans rfl
    have dB1:wc.cell? ⟨w.heap.size+1,1,none⟩=some (.int .i64 xfrom_):=(cell_of_row _ _ _ _ _ _ hBH.out).trans rfl
    have dA2:wc.cell? ⟨w.heap.size,2,none⟩=some (.int .i64 xborn):=(cell_of_row _ _ _ _ _ _ hAH.out).trans rfl
    have dB2:wc.cell? ⟨w.heap.size+1,2,none⟩=some (.int .i64 xborn):=(cell_of_row _ _ _ _ _ _ hBH.out).trans rfl
    have dA3:wc.cell? ⟨w.heap.size,3,none⟩=some (vk):=(cell_of_row _ _ _ _ _ _ hAH.out).trans rfl
    have dB3:wc.cell? ⟨w.heap.size+1,3,none⟩=some (uk):=(cell_of_row _ _ _ _ _ _ hBH.out).trans rfl
    subst hx hy
    go_wp2_with (fail)
    go_at_call 106
    refine (iequal_any _ _ xkn xkn wc (hkH.out.below hWH.out) (huH.out.below hWH.out) l1H.out l2H.out).mono ?_
    rintro e wd ⟨rfl,hK⟩
    rw [show decide (xkn=xkn)=true by simp]
    have hA2:=(hK.block _ hlA).trans hAH.out
    have hB2:=(hK.block _ hlB).trans hBH.out
    have hW2:=Hid.mk (hWH.out.trans (hK.mono (Nat.le_of_lt hlA)))
    have hld:w.heap.size < wd.heap.size:=Nat.lt_of_lt_of_le hlA hK.size
    clear hK dA0 dB0 dA1 dB1 dA2 dB2 dA3 dB3
    have dA4:wd.cell? ⟨w.heap.size,4,none⟩=some (.int .i64 xview):=(cell_of_row _ _ _ _ _ _ hA2).trans rfl
    have dB4:wd.cell? ⟨w.heap.size+1,4,none⟩=some (.int .i64 xview):=(cell_of_row _ _ _ _ _ _ hB2).trans rfl
    have dA5:wd.cell? ⟨w.heap.size,5,none⟩=some (.int .i64 xlast):=(cell_of_row _ _ _ _ _ _ hA2).trans rfl
    have dB5:wd.cell? ⟨w.heap.size+1,5,none⟩=some (.int .i64 xlast):=(cell_of_row _ _ _ _ _ _ hB2).trans rfl
    have dA6:wd.cell? ⟨w.heap.size,6,none⟩=some (.int .i64 xop):=(cell_of_row _ _ _ _ _ _ hA2).trans rfl
    have dB6:wd.cell? ⟨w.heap.size+1,6,none⟩=some (.int .i64 xop):=(cell_of_row _ _ _ _ _ _ hB2).trans rfl
    have dA7:wd.cell? ⟨w.heap.size,7,none⟩=some (.int .i64 xcommit):=(cell_of_row _ _ _ _ _ _ hA2).trans rfl
    have dB7:wd.cell? ⟨w.heap.size+1,7,none⟩=some (.int .i64 ycommit):=(cell_of_row _ _ _ _ _ _ hB2).trans rfl
    clear hA2 hB2
    go_wp2_with (fail)
    go_ret
    exact ⟨by rw [hres.out]; rfl,hW2.out⟩
  subst hne
  by_cases hne:xclient=yclient
  rotate_left
  ·as_aux_lemma=>
    have hres:=Hid.mk (show sameB _ _=false from sameB_ne (m:=⟨xkind,xfrom_,xborn,xkn,xview,xlast,xop,xcommit,xclient,xnumber,xnonce,xtext,xfull,xbase,xstate,xents⟩) (q:=⟨xkind,xfrom_,xborn,xkn,xview,xlast,xop,xcommit,yclient,ynumber,ynonce,ytext,yfull,ybase,ystate,yents⟩) (by intro e; injection e with ekind efrom_ eborn ekn eview elast eop ecommit eclient enumber enonce etext efull ebase estate eents; exact hne eclient))
    have hq:(xclient==yclient)=false:=by simp [hne]
    clear hne
    have dA0:wc.cell? ⟨w.heap.size,0,none⟩=some (.int .i64 xkind):=(cell_of_row _ _ _ _ _ _ hAH.out).trans rfl
    have dB0:wc.cell? ⟨w.heap.size+1,0,none⟩=some (.int .i64 xkind):=(cell_of_row _ _ _ _ _ _ hBH.out).trans rfl
    have dA1:wc.cell? ⟨w.heap.size,1,none⟩=some (.int .i64 xfrom_):=(cell_of_row _ _ _ _ _ _ hAH.out).trans rfl
    have dB1:wc.cell? ⟨w.heap.size+1,1,none⟩=some (.int .i64 xfrom_):=(cell_of_row _ _ _ _ _ _ hBH.out).trans rfl
    have dA2:wc.cell? ⟨w.heap.size,2,none⟩=some (.int .i64 xborn):=(cell_of_row _ _ _ _ _ _ hAH.out).trans rfl
    have dB2:wc.cell? ⟨w.heap.size+1,2,none⟩=some (.int .i64 xborn):=(cell_of_row _ _ _ _ _ _ hBH.out).trans rfl
    have dA3:wc.cell? ⟨w.heap.size,3,none⟩=some (vk):=(cell_of_row _ _ _ _ _ _ hAH.out).trans rfl
    have dB3:wc.cell? ⟨w.heap.size+1,3,none⟩=some (uk):=(cell_of_row _ _ _ _ _ _ hBH.out).trans rfl
    subst hx hy
    go_wp2_with (fail)
    go_at_call 106
    refine (iequal_any _ _ xkn xkn wc (hkH.out.below hWH.out) (huH.out.below hWH.out) l1H.out l2H.out).mono ?_
    rintro e wd ⟨rfl,hK⟩
    rw [show decide (xkn=xkn)=true by simp]
    have hA2:=(hK.block _ hlA).trans hAH.out
    have hB2:=(hK.block _ hlB).trans hBH.out
    have hW2:=Hid.mk (hWH.out.trans (hK.mono (Nat.le_of_lt hlA)))
    have hld:w.heap.size < wd.heap.size:=Nat.lt_of_lt_of_le hlA hK.size
    clear hK dA0 dB0 dA1 dB1 dA2 dB2 dA3 dB3
    have dA4:wd.cell? ⟨w.heap.size,4,none⟩=some (.int .i64 xview):=(cell_of_row _ _ _ _ _ _ hA2).trans rfl
    have dB4:wd.cell? ⟨w.heap.size+1,4,none⟩=some (.int .i64 xview):=(cell_of_row _ _ _ _ _ _ hB2).trans rfl
    have dA5:wd.cell? ⟨w.heap.size,5,none⟩=some (.int .i64 xlast):=(cell_of_row _ _ _ _ _ _ hA2).trans rfl
    have dB5:wd.cell? ⟨w.heap.size+1,5,none⟩=some (.int .i64 xlast):=(cell_of_row _ _ _ _ _ _ hB2).trans rfl
    have dA6:wd.cell? ⟨w.heap.size,6,none⟩=some (.int .i64 xop):=(cell_of_row _ _ _ _ _ _ hA2).trans rfl
    have dB6:wd.cell? ⟨w.heap.size+1,6,none⟩=some (.int .i64 xop):=(cell_of_row _ _ _ _ _ _ hB2).trans rfl
    have dA7:wd.cell? ⟨w.heap.size,7,none⟩=some (.int .i64 xcommit):=(cell_of_row _ _ _ _ _ _ hA2).trans rfl
    have dB7:wd.cell? ⟨w.heap.size+1,7,none⟩=some (.int .i64 xcommit):=(cell_of_row _ _ _ _ _ _ hB2).trans rfl
    have dA8:wd.cell? ⟨w.heap.size,8,none⟩=some (.int .i64 xclient):=(cell_of_row _ _ _ _ _ _ hA2).trans rfl
    have dB8:wd.cell? ⟨w.heap.size+1,8,none⟩=some (.int .i64 yclient):=(cell_of_row _ _ _ _ _ _ hB2).trans rfl
    clear hA2 hB2
    go_wp2_with (fail)
    go_ret
    exact ⟨by rw [hres.out]; rfl,hW2.out⟩
  subst hne
  by_cases hne:xnumber=ynumber
  rotate_left
  ·as_aux_lemma=>
    have hres:=Hid.mk (show sameB _ _=false from sameB_ne (m:=⟨xkind,xfrom_,xborn,xkn,xview,xlast,xop,xcommit,xclient,xnumber,xnonce,xtext,xfull,xbase,xstate,xents⟩) (q:=⟨xkind,xfrom_,xborn,xkn,xview,xlast,xop,xcommit,xclient,ynumber,ynonce,ytext,yfull,ybase,ystate,yents⟩) (by intro e; injection e with ekind efrom_ eborn ekn eview elast eop ecommit eclient enumber enonce etext efull ebase estate eents; exact hne enumber))
    have hq:(xnumber==ynumber)=false:=by simp [hne]
    clear hne
    have dA0:wc.cell? ⟨w.heap.size,0,none⟩=some (.int .i64 xkind):=(cell_of_row _ _ _ _ _ _ hAH.out).trans rfl
    have dB0:wc.cell? ⟨w.heap.size+1,0,none⟩=some (.int .i64 xkind):=(cell_of_row _ _ _ _ _ _ hBH.out).trans rfl
    have dA1:wc.cell? ⟨w.heap.size,1,none⟩=some (.int .i64 xfrom_):=(cell_of_row _ _ _ _ _ _ hAH.out).trans rfl
    have dB1:wc.cell? ⟨w.heap.size+1,1,none⟩=some (.int .i64 xfrom_):=(cell_of_row _ _ _ _ _ _ hBH.out).trans rfl
    have dA2:wc.cell? ⟨w.heap.size,2,none⟩=some (.int .i64 xborn):=(cell_of_row _ _ _ _ _ _ hAH.out).trans rfl
    have dB2:wc.cell? ⟨w.heap.size+1,2,none⟩=some (.int .i64 xborn):=(cell_of_row _ _ _ _ _ _ hBH.out).trans rfl
    have dA3:wc.cell? ⟨w.heap.size,3,none⟩=some (vk):=(cell_of_row _ _ _ _ _ _ hAH.out).trans rfl
    have dB3:wc.cell? ⟨w.heap.size+1,3,none⟩=some (uk):=(cell_of_row _ _ _ _ _ _ hBH.out).trans rfl
    subst hx hy
    go_wp2_with (fail)
    go_at_call 106
    refine (iequal_any _ _ xkn xkn wc (hkH.out.below hWH.out) (huH.out.below hWH.out) l1H.out l2H.out).mono ?_
    rintro e wd ⟨rfl,hK⟩
    rw [show decide (xkn=xkn)=true by simp]
    have hA2:=(hK.block _ hlA).trans hAH.out
    have hB2:=(hK.block _ hlB).trans hBH.out
    have hW2:=Hid.mk (hWH.out.trans (hK.mono (Nat.le_of_lt hlA)))
    have hld:w.heap.size < wd.heap.size:=Nat.lt_of_lt_of_le hlA hK.size
    clear hK dA0 dB0 dA1 dB1 dA2 dB2 dA3 dB3
    have dA4:wd.cell? ⟨w.heap.size,4,none⟩=some (.int .i64 xview):=(cell_of_row _ _ _ _ _ _ hA2).trans rfl
    have dB4:wd.cell? ⟨w.heap.size+1,4,none⟩=some (.int .i64 xview):=(cell_of_row _ _ _ _ _ _ hB2).trans rfl
    have dA5:wd.cell? ⟨w.heap.size,5,none⟩=some (.int .i64 xlast):=(cell_of_row _ _ _ _ _ _ hA2).trans rfl
    have dB5:wd.cell? ⟨w.heap.size+1,5,none⟩=some (.int .i64 xlast):=(cell_of_row _ _ _ _ _ _ hB2).trans rfl
    have dA6:wd.cell? ⟨w.heap.size,6,none⟩=some (.int .i64 xop):=(cell_of_row _ _ _ _ _ _ hA2).trans rfl
    have dB6:wd.cell? ⟨w.heap.size+1,6,none⟩=some (.int .i64 xop):=(cell_of_row _ _ _ _ _ _ hB2).trans rfl
    have dA7:wd.cell? ⟨w.heap.size,7,none⟩=some (.int .i64 xcommit):=(cell_of_row _ _ _ _ _ _ hA2).trans rfl
    have dB7:wd.cell? ⟨w.heap.size+1,7,none⟩=some (.int .i64 xcommit):=(cell_of_row _ _ _ _ _ _ hB2).trans rfl
    have dA8:wd.cell? ⟨w.heap.size,8,none⟩=some (.int .i64 xclient):=(cell_of_row _ _ _ _ _ _ hA2).trans rfl
    have dB8:wd.cell? ⟨w.heap.size+1,8,none⟩=some (.int .i64 xclient):=(cell_of_row _ _ _ _ _ _ hB2).trans rfl
    have dA9:wd.cell? ⟨w.heap.size,9,none⟩=some (.int .i64 xnumber):=(cell_of_row _ _ _ _ _ _ hA2).trans rfl
    have dB9:wd.cell? ⟨w.heap.size+1,9,none⟩=some (.int .i64 ynumber):=(cell_of_row _ _ _ _ _ _ hB2).trans rfl
    clear hA2 hB2
    go_wp2_with (fail)
    go_ret
    exact ⟨by rw [hres.out]; rfl,hW2.out⟩
  subst hne
  by_cases hne:xnonce=ynonce
  rotate_left
  ·as_aux_lemma=>
    have hres:=Hid.mk (show sameB _ _=false from sameB_ne (m:=⟨xkind,xfrom_,xborn,xkn,xview,xlast,xop,xcommit,xclient,xnumber,xnonce,xtext,xfull,xbase,xstate,xents⟩) (q:=⟨xkind,xfrom_,xborn,xkn,xview,xlast,xop,xcommit,xclient,xnumber,ynonce,ytext,yfull,ybase,ystate,yents⟩) (by intro e; injection e with ekind efrom_ eborn ekn eview elast eop ecommit eclient enumber enonce etext efull ebase estate eents; exact hne enonce))
    have hq:(xnonce==ynonce)=false:=by simp [hne]
    clear hne
    have dA0:wc.cell? ⟨w.heap.size,0,none⟩=some (.int .i64 xkind):=(cell_of_row _ _ _ _ _ _ hAH.out).trans rfl
    have dB0:wc.cell? ⟨w.heap.size+1,0,none⟩=some (.int .i64 xkind):=(cell_of_row _ _ _ _ _ _ hBH.out).trans rfl
    have dA1:wc.cell? ⟨w.heap.size,1,none⟩=some (.int .i64 xfrom_):=(cell_of_row _ _ _ _ _ _ hAH.out).trans rfl
    have dB1:wc.cell? ⟨w.heap.size+1,1,none⟩=some (.int .i64 xfrom_):=(cell_of_row _ _ _ _ _ _ hBH.out).trans rfl
    have dA2:wc.cell? ⟨w.heap.size,2,none⟩=some (.int .i64 xborn):=(cell_of_row _ _ _ _ _ _ hAH.out).trans rfl
    have dB2:wc.cell? ⟨w.heap.size+1,2,none⟩=some (.int .i64 xborn):=(cell_of_row _ _ _ _ _ _ hBH.out).trans rfl
    have dA3:wc.cell? ⟨w.heap.size,3,none⟩=some (vk):=(cell_of_row _ _ _ _ _ _ hAH.out).trans rfl
    have dB3:wc.cell? ⟨w.heap.size+1,3,none⟩=some (uk):=(cell_of_row _ _ _ _ _ _ hBH.out).trans rfl
    subst hx hy
    go_wp2_with (fail)
    go_at_call 106
    refine (iequal_any _ _ xkn xkn wc (hkH.out.below hWH.out) (huH.out.below hWH.out) l1H.out l2H.out).mono ?_
    rintro e wd ⟨rfl,hK⟩
    rw [show decide (xkn=xkn)=true by simp]
    have hA2:=(hK.block _ hlA).trans hAH.out
    have hB2:=(hK.block _ hlB).trans hBH.out
    have hW2:=Hid.mk (hWH.out.trans (hK.mono (Nat.le_of_lt hlA)))
    have hld:w.heap.size < wd.heap.size:=Nat.lt_of_lt_of_le hlA hK.size
    clear hK dA0 dB0 dA1 dB1 dA2 dB2 dA3 dB3
    have dA4:wd.cell? ⟨w.heap.size,4,none⟩=some (.int .i64 xview):=(cell_of_row _ _ _ _ _ _ hA2).trans rfl
    have dB4:wd.cell? ⟨w.heap.size+1,4,none⟩=some (.int .i64 xview):=(cell_of_row _ _ _ _ _ _ hB2).trans rfl
    have dA5:wd.cell? ⟨w.heap.size,5,none⟩=some (.int .i64 xlast):=(cell_of_row _ _ _ _ _ _ hA2).trans rfl
    have dB5:wd.cell? ⟨w.heap.size+1,5,none⟩=some (.int .i64 xlast):=(cell_of_row _ _ _ _ _ _ hB2).trans rfl
    have dA6:wd.cell? ⟨w.heap.size,6,none⟩=some (.int .i64 xop):=(cell_of_row _ _ _ _ _ _ hA2).trans rfl
    have dB6:wd.cell? ⟨w.heap.size+1,6,none⟩=some (.int .i64 xop):=(cell_of_row _ _ _ _ _ _ hB2).trans rfl
    have dA7:wd.cell? ⟨w.heap.size,7,none⟩=some (.int .i64 xcommit):=(cell_of_row _ _ _ _ _ _ hA2).trans rfl
    have dB7:wd.cell? ⟨w.heap.size+1,7,none⟩=some (.int .i64 xcommit):=(cell_of_row _ _ _ _ _ _ hB2).trans rfl
    have dA8:wd.cell? ⟨w.heap.size,8,none⟩=some (.int .i64 xclient):=(cell_of_row _ _ _ _ _ _ hA2).trans rfl
    have dB8:wd.cell? ⟨w.heap.size+1,8,none⟩=some (.int .i64 xclient):=(cell_of_row _ _ _ _ _ _ hB2).trans rfl
    have dA9:wd.cell? ⟨w.heap.size,9,none⟩=some (.int .i64 xnumber):=(cell_of_row _ _ _ _ _ _ hA2).trans rfl
    have dB9:wd.cell? ⟨w.heap.size+1,9,none⟩=some (.int .i64 xnumber):=(cell_of_row _ _ _ _ _ _ hB2).trans rfl
    have dA10:wd.cell? ⟨w.heap.size,10,none⟩=some (.int .i64 xnonce):=(cell_of_row _ _ _ _ _ _ hA2).trans rfl
    have dB10:wd.cell? ⟨w.heap.size+1,10,none⟩=some (.int .i64 ynonce):=(cell_of_row _ _ _ _ _ _ hB2).trans rfl
    clear hA2 hB2
    go_wp2_with (fail)
    go_ret
    exact ⟨by rw [hres.out]; rfl,hW2.out⟩
  subst hne
  by_cases hne:xtext=ytext
  rotate_left
  ·as_aux_lemma=>
    have hres:=Hid.mk (show sameB _ _=false from sameB_ne (m:=⟨xkind,xfrom_,xborn,xkn,xview,xlast,xop,xcommit,xclient,xnumber,xnonce,xtext,xfull,xbase,xstate,xents⟩) (q:=⟨xkind,xfrom_,xborn,xkn,xview,xlast,xop,xcommit,xclient,xnumber,xnonce,ytext,yfull,ybase,ystate,yents⟩) (by intro e; injection e with ekind efrom_ eborn ekn eview elast eop ecommit eclient enumber enonce etext efull ebase estate eents; exact hne etext))
    have hq:((bs xtext).toList==(bs ytext).toList)=false:=by rw [str_eq]; simp [hne]
    have hq2:decide ((bs xtext).toList=(bs ytext).toList)=false:=decide_eq_false (of_eq_false (bs_same hne))
    clear hne
    have dA0:wc.cell? ⟨w.heap.size,0,none⟩=some (.int .i64 xkind):=(cell_of_row _ _ _ _ _ _ hAH.out).trans rfl
    have dB0:wc.cell? ⟨w.heap.size+1,0,none⟩=some (.int .i64 xkind):=(cell_of_row _ _ _ _ _ _ hBH.out).trans rfl
    have dA1:wc.cell? ⟨w.heap.size,1,none⟩=some (.int .i64 xfrom_):=(cell_of_row _ _ _ _ _ _ hAH.out).trans rfl
    have dB1:wc.cell? ⟨w.heap.size+1,1,none⟩=some (.int .i64 xfrom_):=(cell_of_row _ _ _ _ _ _ hBH.out).trans rfl
    have dA2:wc.cell? ⟨w.heap.size,2,none⟩=some (.int .i64 xborn):=(cell_of_row _ _ _ _ _ _ hAH.out).trans rfl
    have dB2:wc.cell? ⟨w.heap.size+1,2,none⟩=some (.int .i64 xborn):=(cell_of_row _ _ _ _ _ _ hBH.out).trans rfl
    have dA3:wc.cell? ⟨w.heap.size,3,none⟩=some (vk):=(cell_of_row _ _ _ _ _ _ hAH.out).trans rfl
    have dB3:wc.cell? ⟨w.heap.size+1,3,none⟩=some (uk):=(cell_of_row _ _ _ _ _ _ hBH.out).trans rfl
    subst hx hy
    go_wp2_with (fail)
    go_at_call 106
    refine (iequal_any _ _ xkn xkn wc (hkH.out.below hWH.out) (huH.out.below hWH.out) l1H.out l2H.out).mono ?_
    rintro e wd ⟨rfl,hK⟩
    rw [show decide (xkn=xkn)=true by simp]
    have hA2:=(hK.block _ hlA).trans hAH.out
    have hB2:=(hK.block _ hlB).trans hBH.out
    have hW2:=Hid.mk (hWH.out.trans (hK.mono (Nat.le_of_lt hlA)))
    have hld:w.heap.size < wd.heap.size:=Nat.lt_of_lt_of_le hlA hK.size
    clear hK dA0 dB0 dA1 dB1 dA2 dB2 dA3 dB3
    have dA4:wd.cell? ⟨w.heap.size,4,none⟩=some (.int .i64 xview):=(cell_of_row _ _ _ _ _ _ hA2).trans rfl
    have dB4:wd.cell? ⟨w.heap.size+1,4,none⟩=some (.int .i64 xview):=(cell_of_row _ _ _ _ _ _ hB2).trans rfl
    have dA5:wd.cell? ⟨w.heap.size,5,none⟩=some (.int .i64 xlast):=(cell_of_row _ _ _ _ _ _ hA2).trans rfl
    have dB5:wd.cell? ⟨w.heap.size+1,5,none⟩=some (.int .i64 xlast):=(cell_of_row _ _ _ _ _ _ hB2).trans rfl
    have dA6:wd.cell? ⟨w.heap.size,6,none⟩=some (.int .i64 xop):=(cell_of_row _ _ _ _ _ _ hA2).trans rfl
    have dB6:wd.cell? ⟨w.heap.size+1,6,none⟩=some (.int .i64 xop):=(cell_of_row _ _ _ _ _ _ hB2).trans rfl
    have dA7:wd.cell? ⟨w.heap.size,7,none⟩=some (.int .i64 xcommit):=(cell_of_row _ _ _ _ _ _ hA2).trans rfl
    have dB7:wd.cell? ⟨w.heap.size+1,7,none⟩=some (.int .i64 xcommit):=(cell_of_row _ _ _ _ _ _ hB2).trans rfl
    have dA8:wd.cell? ⟨w.heap.size,8,none⟩=some (.int .i64 xclient):=(cell_of_row _ _ _ _ _ _ hA2).trans rfl
    have dB8:wd.cell? ⟨w.heap.size+1,8,none⟩=some (.int .i64 xclient):=(cell_of_row _ _ _ _ _ _ hB2).trans rfl
    have dA9:wd.cell? ⟨w.heap.size,9,none⟩=some (.int .i64 xnumber):=(cell_of_row _ _ _ _ _ _ hA2).trans rfl
    have dB9:wd.cell? ⟨w.heap.size+1,9,none⟩=some (.int .i64 xnumber):=(cell_of_row _ _ _ _ _ _ hB2).trans rfl
    have dA10:wd.cell? ⟨w.heap.size,10,none⟩=some (.int .i64 xnonce):=(cell_of_row _ _ _ _ _ _ hA2).trans rfl
    have dB10:wd.cell? ⟨w.heap.size+1,10,none⟩=some (.int .i64 xnonce):=(cell_of_row _ _ _ _ _ _ hB2).trans rfl
    have dA11:wd.cell? ⟨w.heap.size,11,none⟩=some (.string (bs xtext)):=(cell_of_row _ _ _ _ _ _ hA2).trans rfl
    have dB11:wd.cell? ⟨w.heap.size+1,11,none⟩=some (.string (bs ytext)):=(cell_of_row _ _ _ _ _ _ hB2).trans rfl
    clear hA2 hB2
    go_wp2_with (fail)
    go_ret
    exact ⟨by rw [hres.out]; rfl,hW2.out⟩
  subst hne
  by_cases hne:xfull=yfull
  rotate_left
  ·as_aux_lemma=>
    have hres:=Hid.mk (show sameB _ _=false from sameB_ne (m:=⟨xkind,xfrom_,xborn,xkn,xview,xlast,xop,xcommit,xclient,xnumber,xnonce,xtext,xfull,xbase,xstate,xents⟩) (q:=⟨xkind,xfrom_,xborn,xkn,xview,xlast,xop,xcommit,xclient,xnumber,xnonce,xtext,yfull,ybase,ystate,yents⟩) (by intro e; injection e with ekind efrom_ eborn ekn eview elast eop ecommit eclient enumber enonce etext efull ebase estate eents; exact hne efull))
    have hq:(xfull==yfull)=false:=by simp [hne]
    clear hne
    have dA0:wc.cell? ⟨w.heap.size,0,none⟩=some (.int .i64 xkind):=(cell_of_row _ _ _ _ _ _ hAH.out).trans rfl
    have dB0:wc.cell? ⟨w.heap.size+1,0,none⟩=some (.int .i64 xkind):=(cell_of_row _ _ _ _ _ _ hBH.out).trans rfl
    have dA1:wc.cell? ⟨w.heap.size,1,none⟩=some (.int .i64 xfrom_):=(cell_of_row _ _ _ _ _ _ hAH.out).trans rfl
    have dB1:wc.cell? ⟨w.heap.size+1,1,none⟩=some (.int .i64 xfrom_):=(cell_of_row _ _ _ _ _ _ hBH.out).trans rfl
    have dA2:wc.cell? ⟨w.heap.size,2,none⟩=some (.int .i64 xborn):=(cell_of_row _ _ _ _ _ _ hAH.out).trans rfl
    have dB2:wc.cell? ⟨w.heap.size+1,2,none⟩=some (.int .i64 xborn):=(cell_of_row _ _ _ _ _ _ hBH.out).trans rfl
    have dA3:wc.cell? ⟨w.heap.size,3,none⟩=some (vk):=(cell_of_row _ _ _ _ _ _ hAH.out).trans rfl
    have dB3:wc.cell? ⟨w.heap.size+1,3,none⟩=some (uk):=(cell_of_row _ _ _ _ _ _ hBH.out).trans rfl
    subst hx hy
    go_wp2_with (fail)
    go_at_call 106
    refine (iequal_any _ _ xkn xkn wc (hkH.out.below hWH.out) (huH.out.below hWH.out) l1H.out l2H.out).mono ?_
    rintro e wd ⟨rfl,hK⟩
    rw [show decide (xkn=xkn)=true by simp]
    have hA2:=(hK.block _ hlA).trans hAH.out
    have hB2:=(hK.block _ hlB).trans hBH.out
    have hW2:=Hid.mk (hWH.out.trans (hK.mono (Nat.le_of_lt hlA)))
    have hld:w.heap.size < wd.heap.size:=Nat.lt_of_lt_of_le hlA hK.size
    clear hK dA0 dB0 dA1 dB1 dA2 dB2 dA3 dB3
    have dA4:wd.cell? ⟨w.heap.size,4,none⟩=some (.int .i64 xview):=(cell_of_row _ _ _ _ _ _ hA2).trans rfl
    have dB4:wd.cell? ⟨w.heap.size+1,4,none⟩=some (.int .i64 xview):=(cell_of_row _ _ _ _ _ _ hB2).trans rfl
    have dA5:wd.cell? ⟨w.heap.size,5,none⟩=some (.int .i64 xlast):=(cell_of_row _ _ _ _ _ _ hA2).trans rfl
    have dB5:wd.cell? ⟨w.heap.size+1,5,none⟩=some (.int .i64 xlast):=(cell_of_row _ _ _ _ _ _ hB2).trans rfl
    have dA6:wd.cell? ⟨w.heap.size,6,none⟩=some (.int .i64 xop):=(cell_of_row _ _ _ _ _ _ hA2).trans rfl
    have dB6:wd.cell? ⟨w.heap.size+1,6,none⟩=some (.int .i64 xop):=(cell_of_row _ _ _ _ _ _ hB2).trans rfl
    have dA7:wd.cell? ⟨w.heap.size,7,none⟩=some (.int .i64 xcommit):=(cell_of_row _ _ _ _ _ _ hA2).trans rfl
    have dB7:wd.cell? ⟨w.heap.size+1,7,none⟩=some (.int .i64 xcommit):=(cell_of_row _ _ _ _ _ _ hB2).trans rfl
    have dA8:wd.cell? ⟨w.heap.size,8,none⟩=some (.int .i64 xclient):=(cell_of_row _ _ _ _ _ _ hA2).trans rfl
    have dB8:wd.cell? ⟨w.heap.size+1,8,none⟩=some (.int .i64 xclient):=(cell_of_row _ _ _ _ _ _ hB2).trans rfl
    have dA9:wd.cell? ⟨w.heap.size,9,none⟩=some (.int .i64 xnumber):=(cell_of_row _ _ _ _ _ _ hA2).trans rfl
    have dB9:wd.cell? ⟨w.heap.size+1,9,none⟩=some (.int .i64 xnumber):=(cell_of_row _ _ _ _ _ _ hB2).trans rfl
    have dA10:wd.cell? ⟨w.heap.size,10,none⟩=some (.int .i64 xnonce):=(cell_of_row _ _ _ _ _ _ hA2).trans rfl
    have dB10:wd.cell? ⟨w.heap.size+1,10,none⟩=some (.int .i64 xnonce):=(cell_of_row _ _ _ _ _ _ hB2).trans rfl
    have dA11:wd.cell? ⟨w.heap.size,11,none⟩=some (.string (bs xtext)):=(cell_of_row _ _ _ _ _ _ hA2).trans rfl
    have dB11:wd.cell? ⟨w.heap.size+1,11,none⟩=some (.string (bs xtext)):=(cell_of_row _ _ _ _ _ _ hB2).trans rfl
    have dA12:wd.cell? ⟨w.heap.size,12,none⟩=some (.bool xfull):=(cell_of_row _ _ _ _ _ _ hA2).trans rfl
    have dB12:wd.cell? ⟨w.heap.size+1,12,none⟩=some (.bool yfull):=(cell_of_row _ _ _ _ _ _ hB2).trans rfl
    clear hA2 hB2
    go_wp2_with (fail)
    go_ret
    exact ⟨by rw [hres.out]; rfl,hW2.out⟩
  subst hne
  by_cases hne:xbase=ybase
  rotate_left
  ·as_aux_lemma=>
    have hres:=Hid.mk (show sameB _ _=false from sameB_ne (m:=⟨xkind,xfrom_,xborn,xkn,xview,xlast,xop,xcommit,xclient,xnumber,xnonce,xtext,xfull,xbase,xstate,xents⟩) (q:=⟨xkind,xfrom_,xborn,xkn,xview,xlast,xop,xcommit,xclient,xnumber,xnonce,xtext,xfull,ybase,ystate,yents⟩) (by intro e; injection e with ekind efrom_ eborn ekn eview elast eop ecommit eclient enumber enonce etext efull ebase estate eents; exact hne ebase))
    have hq:(xbase==ybase)=false:=by simp [hne]
    clear hne
    have dA0:wc.cell? ⟨w.heap.size,0,none⟩=some (.int .i64 xkind):=(cell_of_row _ _ _ _ _ _ hAH.out).trans rfl
    have dB0:wc.cell? ⟨w.heap.size+1,0,none⟩=some (.int .i64 xkind):=(cell_of_row _ _ _ _ _ _ hBH.out).trans rfl
    have dA1:wc.cell? ⟨w.heap.size,1,none⟩=some (.int .i64 xfrom_):=(cell_of_row _ _ _ _ _ _ hAH.out).trans rfl
    have dB1:wc.cell? ⟨w.heap.size+1,1,none⟩=some (.int .i64 xfrom_):=(cell_of_row _ _ _ _ _ _ hBH.out).trans rfl
    have dA2:wc.cell? ⟨w.heap.size,2,none⟩=some (.int .i64 xborn):=(cell_of_row _ _ _ _ _ _ hAH.out).trans rfl
    have dB2:wc.cell? ⟨w.heap.size+1,2,none⟩=some (.int .i64 xborn):=(cell_of_row _ _ _ _ _ _ hBH.out).trans rfl
    have dA3:wc.cell? ⟨w.heap.size,3,none⟩=some (vk):=(cell_of_row _ _ _ _ _ _ hAH.out).trans rfl
    have dB3:wc.cell? ⟨w.heap.size+1,3,none⟩=some (uk):=(cell_of_row _ _ _ _ _ _ hBH.out).trans rfl
    subst hx hy
    go_wp2_with (fail)
    go_at_call 106
    refine (iequal_any _ _ xkn xkn wc (hkH.out.below hWH.out) (huH.out.below hWH.out) l1H.out l2H.out).mono ?_
    rintro e wd ⟨rfl,hK⟩
    rw [show decide (xkn=xkn)=true by simp]
    have hA2:=(hK.block _ hlA).trans hAH.out
    have hB2:=(hK.block _ hlB).trans hBH.out
    have hW2:=Hid.mk (hWH.out.trans (hK.mono (Nat.le_of_lt hlA)))
    have hld:w.heap.size < wd.heap.size:=Nat.lt_of_lt_of_le hlA hK.size
    clear hK dA0 dB0 dA1 dB1 dA2 dB2 dA3 dB3
    have dA4:wd.cell? ⟨w.heap.size,4,none⟩=some (.int .i64 xview):=(cell_of_row _ _ _ _ _ _ hA2).trans rfl
    have dB4:wd.cell? ⟨w.heap.size+1,4,none⟩=some (.int .i64 xview):=(cell_of_row _ _ _ _ _ _ hB2).trans rfl
    have dA5:wd.cell? ⟨w.heap.size,5,none⟩=some (.int .i64 xlast):=(cell_of_row _ _ _ _ _ _ hA2).trans rfl
    have dB5:wd.cell? ⟨w.heap.size+1,5,none⟩=some (.int .i64 xlast):=(cell_of_row _ _ _ _ _ _ hB2).trans rfl
    have dA6:wd.cell? ⟨w.heap.size,6,none⟩=some (.int .i64 xop):=(cell_of_row _ _ _ _ _ _ hA2).trans rfl
    have dB6:wd.cell? ⟨w.heap.size+1,6,none⟩=some (.int .i64 xop):=(cell_of_row _ _ _ _ _ _ hB2).trans rfl
    have dA7:wd.cell? ⟨w.heap.size,7,none⟩=some (.int .i64 xcommit):=(cell_of_row _ _ _ _ _ _ hA2).trans rfl
    have dB7:wd.cell? ⟨w.heap.size+1,7,none⟩=some (.int .i64 xcommit):=(cell_of_row _ _ _ _ _ _ hB2).trans rfl
    have dA8:wd.cell? ⟨w.heap.size,8,none⟩=some (.int .i64 xclient):=(cell_of_row _ _ _ _ _ _ hA2).trans rfl
    have dB8:wd.cell? ⟨w.heap.size+1,8,none⟩=some (.int .i64 xclient):=(cell_of_row _ _ _ _ _ _ hB2).trans rfl
    have dA9:wd.cell? ⟨w.heap.size,9,none⟩=some (.int .i64 xnumber):=(cell_of_row _ _ _ _ _ _ hA2).trans rfl
    have dB9:wd.cell? ⟨w.heap.size+1,9,none⟩=some (.int .i64 xnumber):=(cell_of_row _ _ _ _ _ _ hB2).trans rfl
    have dA10:wd.cell? ⟨w.heap.size,10,none⟩=some (.int .i64 xnonce):=(cell_of_row _ _ _ _ _ _ hA2).trans rfl
    have dB10:wd.cell? ⟨w.heap.size+1,10,none⟩=some (.int .i64 xnonce):=(cell_of_row _ _ _ _ _ _ hB2).trans rfl
    have dA11:wd.cell? ⟨w.heap.size,11,none⟩=some (.string (bs xtext)):=(cell_of_row _ _ _ _ _ _ hA2).trans rfl
    have dB11:wd.cell? ⟨w.heap.size+1,11,none⟩=some (.string (bs xtext)):=(cell_of_row _ _ _ _ _ _ hB2).trans rfl
    have dA12:wd.cell? ⟨w.heap.size,12,none⟩=some (.bool xfull):=(cell_of_row _ _ _ _ _ _ hA2).trans rfl
    have dB12:wd.cell? ⟨w.heap.size+1,12,none⟩=some (.bool xfull):=(cell_of_row _ _ _ _ _ _ hB2).trans rfl
    have dA13:wd.cell? ⟨w.heap.size,13,none⟩=some (.int .i64 xbase):=(cell_of_row _ _ _ _ _ _ hA2).trans rfl
    have dB13:wd.cell? ⟨w.heap.size+1,13,none⟩=some (.int .i64 ybase):=(cell_of_row _ _ _ _ _ _ hB2).trans rfl
    clear hA2 hB2
    go_wp2_with (fail)
    go_ret
    exact ⟨by rw [hres.out]; rfl,hW2.out⟩
  subst hne
  by_cases hne:xstate=ystate
  rotate_left
  ·as_aux_lemma=>
    have hres:=Hid.mk (show sameB _ _=false from sameB_ne (m:=⟨xkind,xfrom_,xborn,xkn,xview,xlast,xop,xcommit,xclient,xnumber,xnonce,xtext,xfull,xbase,xstate,xents⟩) (q:=⟨xkind,xfrom_,xborn,xkn,xview,xlast,xop,xcommit,xclient,xnumber,xnonce,xtext,xfull,xbase,ystate,yents⟩) (by intro e; injection e with ekind efrom_ eborn ekn eview elast eop ecommit eclient enumber enonce etext efull ebase estate eents; exact hne estate))
    have hq:((bs xstate).toList==(bs ystate).toList)=false:=by rw [str_eq]; simp [hne]
    have hq2:decide ((bs xstate).toList=(bs ystate).toList)=false:=decide_eq_false (of_eq_false (bs_same hne))
    clear hne
    have dA0:wc.cell? ⟨w.heap.size,0,none⟩=some (.int .i64 xkind):=(cell_of_row _ _ _ _ _ _ hAH.out).trans rfl
    have dB0:wc.cell? ⟨w.heap.size+1,0,none⟩=some (.int .i64 xkind):=(cell_of_row _ _ _ _ _ _ hBH.out).trans rfl
    have dA1:wc.cell? ⟨w.heap.size,1,none⟩=some (.int .i64 xfrom_):=(cell_of_row _ _ _ _ _ _ hAH.out).trans rfl
    have dB1:wc.cell? ⟨w.heap.size+1,1,none⟩=some (.int .i64 xfrom_):=(cell_of_row _ _ _ _ _ _ hBH.out).trans rfl
    have dA2:wc.cell? ⟨w.heap.size,2,none⟩=some (.int .i64 xborn):=(cell_of_row _ _ _ _ _ _ hAH.out).trans rfl
    have dB2:wc.cell? ⟨w.heap.size+1,2,none⟩=some (.int .i64 xborn):=(cell_of_row _ _ _ _ _ _ hBH.out).trans rfl
    have dA3:wc.cell? ⟨w.heap.size,3,none⟩=some (vk):=(cell_of_row _ _ _ _ _ _ hAH.out).trans rfl
    have dB3:wc.cell? ⟨w.heap.size+1,3,none⟩=some (uk):=(cell_of_row _ _ _ _ _ _ hBH.out).trans rfl
    subst hx hy
    go_wp2_with (fail)
    go_at_call 106
    refine (iequal_any _ _ xkn xkn wc (hkH.out.below hWH.out) (huH.out.below hWH.out) l1H.out l2H.out).mono ?_
    rintro e wd ⟨rfl,hK⟩
    rw [show decide (xkn=xkn)=true by simp]
    have hA2:=(hK.block _ hlA).trans hAH.out
    have hB2:=(hK.block _ hlB).trans hBH.out
    have hW2:=Hid.mk (hWH.out.trans (hK.mono (Nat.le_of_lt hlA)))
    have hld:w.heap.size < wd.heap.size:=Nat.lt_of_lt_of_le hlA hK.size
    clear hK dA0 dB0 dA1 dB1 dA2 dB2 dA3 dB3
    have dA4:wd.cell? ⟨w.heap.size,4,none⟩=some (.int .i64 xview):=(cell_of_row _ _ _ _ _ _ hA2).trans rfl
    have dB4:wd.cell? ⟨w.heap.size+1,4,none⟩=some (.int .i64 xview):=(cell_of_row _ _ _ _ _ _ hB2).trans rfl
    have dA5:wd.cell? ⟨w.heap.size,5,none⟩=some (.int .i64 xlast):=(cell_of_row _ _ _ _ _ _ hA2).trans rfl
    have dB5:wd.cell? ⟨w.heap.size+1,5,none⟩=some (.int .i64 xlast):=(cell_of_row _ _ _ _ _ _ hB2).trans rfl
    have dA6:wd.cell? ⟨w.heap.size,6,none⟩=some (.int .i64 xop):=(cell_of_row _ _ _ _ _ _ hA2).trans rfl
    have dB6:wd.cell? ⟨w.heap.size+1,6,none⟩=some (.int .i64 xop):=(cell_of_row _ _ _ _ _ _ hB2).trans rfl
    have dA7:wd.cell? ⟨w.heap.size,7,none⟩=some (.int .i64 xcommit):=(cell_of_row _ _ _ _ _ _ hA2).trans rfl
    have dB7:wd.cell? ⟨w.heap.size+1,7,none⟩=some (.int .i64 xcommit):=(cell_of_row _ _ _ _ _ _ hB2).trans rfl
    have dA8:wd.cell? ⟨w.heap.size,8,none⟩=some (.int .i64 xclient):=(cell_of_row _ _ _ _ _ _ hA2).trans rfl
    have dB8:wd.cell? ⟨w.heap.size+1,8,none⟩=some (.int .i64 xclient):=(cell_of_row _ _ _ _ _ _ hB2).trans rfl
    have dA9:wd.cell? ⟨w.heap.size,9,none⟩=some (.int .i64 xnumber):=(cell_of_row _ _ _ _ _ _ hA2).trans rfl
    have dB9:wd.cell? ⟨w.heap.size+1,9,none⟩=some (.int .i64 xnumber):=(cell_of_row _ _ _ _ _ _ hB2).trans rfl
    have dA10:wd.cell? ⟨w.heap.size,10,none⟩=some (.int .i64 xnonce):=(cell_of_row _ _ _ _ _ _ hA2).trans rfl
    have dB10:wd.cell? ⟨w.heap.size+1,10,none⟩=some (.int .i64 xnonce):=(cell_of_row _ _ _ _ _ _ hB2).trans rfl
    have dA11:wd.cell? ⟨w.heap.size,11,none⟩=some (.string (bs xtext)):=(cell_of_row _ _ _ _ _ _ hA2).trans rfl
    have dB11:wd.cell? ⟨w.heap.size+1,11,none⟩=some (.string (bs xtext)):=(cell_of_row _ _ _ _ _ _ hB2).trans rfl
    have dA12:wd.cell? ⟨w.heap.size,12,none⟩=some (.bool xfull):=(cell_of_row _ _ _ _ _ _ hA2).trans rfl
    have dB12:wd.cell? ⟨w.heap.size+1,12,none⟩=some (.bool xfull):=(cell_of_row _ _ _ _ _ _ hB2).trans rfl
    have dA13:wd.cell? ⟨w.heap.size,13,none⟩=some (.int .i64 xbase):=(cell_of_row _ _ _ _ _ _ hA2).trans rfl
    have dB13:wd.cell? ⟨w.heap.size+1,13,none⟩=some (.int .i64 xbase):=(cell_of_row _ _ _ _ _ _ hB2).trans rfl
    have dA14:wd.cell? ⟨w.heap.size,14,none⟩=some (.string (bs xstate)):=(cell_of_row _ _ _ _ _ _ hA2).trans rfl
    have dB14:wd.cell? ⟨w.heap.size+1,14,none⟩=some (.string (bs ystate)):=(cell_of_row _ _ _ _ _ _ hB2).trans rfl
    clear hA2 hB2
    go_wp2_with (fail)
    go_ret
    exact ⟨by rw [hres.out]; rfl,hW2.out⟩
  subst hne
  by_cases hne:xents=yents
  rotate_left
  ·as_aux_lemma=>
    have hres:=Hid.mk (show sameB _ _=false from sameB_ne (m:=⟨xkind,xfrom_,xborn,xkn,xview,xlast,xop,xcommit,xclient,xnumber,xnonce,xtext,xfull,xbase,xstate,xents⟩) (q:=⟨xkind,xfrom_,xborn,xkn,xview,xlast,xop,xcommit,xclient,xnumber,xnonce,xtext,xfull,xbase,xstate,yents⟩) (by intro e; injection e with ekind efrom_ eborn ekn eview elast eop ecommit eclient enumber enonce etext efull ebase estate eents; exact hne eents))
    have hq:=Hid.mk (show eqEnts xents yents=false from by
     cases hz:eqEnts xents yents with
     | false=>rfl
     | true=>exact absurd ((eqEnts_iff _ _).1 hz) hne)
    clear hne
    have dA0:wc.cell? ⟨w.heap.size,0,none⟩=some (.int .i64 xkind):=(cell_of_row _ _ _ _ _ _ hAH.out).trans rfl
    have dB0:wc.cell? ⟨w.heap.size+1,0,none⟩=some (.int .i64 xkind):=(cell_of_row _ _ _ _ _ _ hBH.out).trans rfl
    have dA1:wc.cell? ⟨w.heap.size,1,none⟩=some (.int .i64 xfrom_):=(cell_of_row _ _ _ _ _ _ hAH.out).trans rfl
    have dB1:wc.cell? ⟨w.heap.size+1,1,none⟩=some (.int .i64 xfrom_):=(cell_of_row _ _ _ _ _ _ hBH.out).trans rfl
    have dA2:wc.cell? ⟨w.heap.size,2,none⟩=some (.int .i64 xborn):=(cell_of_row _ _ _ _ _ _ hAH.out).trans rfl
    have dB2:wc.cell? ⟨w.heap.size+1,2,none⟩=some (.int .i64 xborn):=(cell_of_row _ _ _ _ _ _ hBH.out).trans rfl
    have dA3:wc.cell? ⟨w.heap.size,3,none⟩=some (vk):=(cell_of_row _ _ _ _ _ _ hAH.out).trans rfl
    have dB3:wc.cell? ⟨w.heap.size+1,3,none⟩=some (uk):=(cell_of_row _ _ _ _ _ _ hBH.out).trans rfl
    subst hx hy
    go_wp2_with (fail)
    go_at_call 106
    refine (iequal_any _ _ xkn xkn wc (hkH.out.below hWH.out) (huH.out.below hWH.out) l1H.out l2H.out).mono ?_
    rintro e wd ⟨rfl,hK⟩
    rw [show decide (xkn=xkn)=true by simp]
    have hA2:=(hK.block _ hlA).trans hAH.out
    have hB2:=(hK.block _ hlB).trans hBH.out
    have hW2:=Hid.mk (hWH.out.trans (hK.mono (Nat.le_of_lt hlA)))
    have hld:w.heap.size < wd.heap.size:=Nat.lt_of_lt_of_le hlA hK.size
    clear hK dA0 dB0 dA1 dB1 dA2 dB2 dA3 dB3
    have dA4:wd.cell? ⟨w.heap.size,4,none⟩=some (.int .i64 xview):=(cell_of_row _ _ _ _ _ _ hA2).trans rfl
    have dB4:wd.cell? ⟨w.heap.size+1,4,none⟩=some (.int .i64 xview):=(cell_of_row _ _ _ _ _ _ hB2).trans rfl
    have dA5:wd.cell? ⟨w.heap.size,5,none⟩=some (.int .i64 xlast):=(cell_of_row _ _ _ _ _ _ hA2).trans rfl
    have dB5:wd.cell? ⟨w.heap.size+1,5,none⟩=some (.int .i64 xlast):=(cell_of_row _ _ _ _ _ _ hB2).trans rfl
    have dA6:wd.cell? ⟨w.heap.size,6,none⟩=some (.int .i64 xop):=(cell_of_row _ _ _ _ _ _ hA2).trans rfl
    have dB6:wd.cell? ⟨w.heap.size+1,6,none⟩=some (.int .i64 xop):=(cell_of_row _ _ _ _ _ _ hB2).trans rfl
    have dA7:wd.cell? ⟨w.heap.size,7,none⟩=some (.int .i64 xcommit):=(cell_of_row _ _ _ _ _ _ hA2).trans rfl
    have dB7:wd.cell? ⟨w.heap.size+1,7,none⟩=some (.int .i64 xcommit):=(cell_of_row _ _ _ _ _ _ hB2).trans rfl
    have dA8:wd.cell? ⟨w.heap.size,8,none⟩=some (.int .i64 xclient):=(cell_of_row _ _ _ _ _ _ hA2).trans rfl
    have dB8:wd.cell? ⟨w.heap.size+1,8,none⟩=some (.int .i64 xclient):=(cell_of_row _ _ _ _ _ _ hB2).trans rfl
    have dA9:wd.cell? ⟨w.heap.size,9,none⟩=some (.int .i64 xnumber):=(cell_of_row _ _ _ _ _ _ hA2).trans rfl
    have dB9:wd.cell? ⟨w.heap.size+1,9,none⟩=some (.int .i64 xnumber):=(cell_of_row _ _ _ _ _ _ hB2).trans rfl
    have dA10:wd.cell? ⟨w.heap.size,10,none⟩=some (.int .i64 xnonce):=(cell_of_row _ _ _ _ _ _ hA2).trans rfl
    have dB10:wd.cell? ⟨w.heap.size+1,10,none⟩=some (.int .i64 xnonce):=(cell_of_row _ _ _ _ _ _ hB2).trans rfl
    have dA11:wd.cell? ⟨w.heap.size,11,none⟩=some (.string (bs xtext)):=(cell_of_row _ _ _ _ _ _ hA2).trans rfl
    have dB11:wd.cell? ⟨w.heap.size+1,11,none⟩=some (.string (bs xtext)):=(cell_of_row _ _ _ _ _ _ hB2).trans rfl
    have dA12:wd.cell? ⟨w.heap.size,12,none⟩=some (.bool xfull):=(cell_of_row _ _ _ _ _ _ hA2).trans rfl
    have dB12:wd.cell? ⟨w.heap.size+1,12,none⟩=some (.bool xfull):=(cell_of_row _ _ _ _ _ _ hB2).trans rfl
    have dA13:wd.cell? ⟨w.heap.size,13,none⟩=some (.int .i64 xbase):=(cell_of_row _ _ _ _ _ _ hA2).trans rfl
    have dB13:wd.cell? ⟨w.heap.size+1,13,none⟩=some (.int .i64 xbase):=(cell_of_row _ _ _ _ _ _ hB2).trans rfl
    have dA14:wd.cell? ⟨w.heap.size,14,none⟩=some (.string (bs xstate)):=(cell_of_row _ _ _ _ _ _ hA2).trans rfl
    have dB14:wd.cell? ⟨w.heap.size+1,14,none⟩=some (.string (bs xstate)):=(cell_of_row _ _ _ _ _ _ hB2).trans rfl
    have dA15:wd.cell? ⟨w.heap.size,15,none⟩=some (ve):=(cell_of_row _ _ _ _ _ _ hA2).trans rfl
    have dB15:wd.cell? ⟨w.heap.size+1,15,none⟩=some (ue):=(cell_of_row _ _ _ _ _ _ hB2).trans rfl
    clear hA2 hB2
    go_wp2_with (fail)
    go_at_call 107
    refine (eequal_any _ _ xents yents wd (heH.out.below hW2.out) (hfH.out.below hW2.out) l3H.out l4H.out).mono ?_
    rintro e wz ⟨rfl,hK⟩
    rw [hq.out]
    have hKH:=Hid.mk hK
    clear hK
    go_wp2_with (fail)
    go_ret
    exact ⟨by rw [hres.out]; rfl,hW2.out.trans (hKH.out.mono (Nat.le_of_lt hld))⟩
  subst hne
  have hres:=Hid.mk (sameB_self ⟨xkind,xfrom_,xborn,xkn,xview,xlast,xop,xcommit,xclient,xnumber,xnonce,xtext,xfull,xbase,xstate,xents⟩)
  have hq:=Hid.mk (show eqEnts xents xents=true from (eqEnts_iff _ _).2 rfl)
  have dA0:wc.cell? ⟨w.heap.size,0,none⟩=some (.int .i64 xkind):=(cell_of_row _ _ _ _ _ _ hAH.out).trans rfl
  have dB0:wc.cell? ⟨w.heap.size+1,0,none⟩=some (.int .i64 xkind):=(cell_of_row _ _ _ _ _ _ hBH.out).trans rfl
  have dA1:wc.cell? ⟨w.heap.size,1,none⟩=some (.int .i64 xfrom_):=(cell_of_row _ _ _ _ _ _ hAH.out).trans rfl
  have dB1:wc.cell? ⟨w.heap.size+1,1,none⟩=some (.int .i64 xfrom_):=(cell_of_row _ _ _ _ _ _ hBH.out).trans rfl
  have dA2:wc.cell? ⟨w.heap.size,2,none⟩=some (.int .i64 xborn):=(cell_of_row _ _ _ _ _ _ hAH.out).trans rfl
  have dB2:wc.cell? ⟨w.heap.size+1,2,none⟩=some (.int .i64 xborn):=(cell_of_row _ _ _ _ _ _ hBH.out).trans rfl
  have dA3:wc.cell? ⟨w.heap.size,3,none⟩=some (vk):=(cell_of_row _ _ _ _ _ _ hAH.out).trans rfl
  have dB3:wc.cell? ⟨w.heap.size+1,3,none⟩=some (uk):=(cell_of_row _ _ _ _ _ _ hBH.out).trans rfl
  subst hx hy
  go_wp2_with (fail)
  go_at_call 106
  refine (iequal_any _ _ xkn xkn wc (hkH.out.below hWH.out) (huH.out.below hWH.out) l1H.out l2H.out).mono ?_
  rintro e wd ⟨rfl,hK⟩
  rw [show decide (xkn=xkn)=true by simp]
  have hA2:=(hK.block _ hlA).trans hAH.out
  have hB2:=(hK.block _ hlB).trans hBH.out
  have hW2:=Hid.mk (hWH.out.trans (hK.mono (Nat.le_of_lt hlA)))
  have hld:w.heap.size < wd.heap.size:=Nat.lt_of_lt_of_le hlA hK.size
  clear hK dA0 dB0 dA1 dB1 dA2 dB2 dA3 dB3
  have dA4:wd.cell? ⟨w.heap.size,4,none⟩=some (.int .i64 xview):=(cell_of_row _ _ _ _ _ _ hA2).trans rfl
  have dB4:wd.cell? ⟨w.heap.size+1,4,none⟩=some (.int .i64 xview):=(cell_of_row _ _ _ _ _ _ hB2).trans rfl
  have dA5:wd.cell? ⟨w.heap.size,5,none⟩=some (.int .i64 xlast):=(cell_of_row _ _ _ _ _ _ hA2).trans rfl
  have dB5:wd.cell? ⟨w.heap.size+1,5,none⟩=some (.int .i64 xlast):=(cell_of_row _ _ _ _ _ _ hB2).trans rfl
  have dA6:wd.cell? ⟨w.heap.size,6,none⟩=some (.int .i64 xop):=(cell_of_row _ _ _ _ _ _ hA2).trans rfl
  have dB6:wd.cell? ⟨w.heap.size+1,6,none⟩=some (.int .i64 xop):=(cell_of_row _ _ _ _ _ _ hB2).trans rfl
  have dA7:wd.cell? ⟨w.heap.size,7,none⟩=some (.int .i64 xcommit):=(cell_of_row _ _ _ _ _ _ hA2).trans rfl
  have dB7:wd.cell? ⟨w.heap.size+1,7,none⟩=some (.int .i64 xcommit):=(cell_of_row _ _ _ _ _ _ hB2).trans rfl
  have dA8:wd.cell? ⟨w.heap.size,8,none⟩=some (.int .i64 xclient):=(cell_of_row _ _ _ _ _ _ hA2).trans rfl
  have dB8:wd.cell? ⟨w.heap.size+1,8,none⟩=some (.int .i64 xclient):=(cell_of_row _ _ _ _ _ _ hB2).trans rfl
  have dA9:wd.cell? ⟨w.heap.size,9,none⟩=some (.int .i64 xnumber):=(cell_of_row _ _ _ _ _ _ hA2).trans rfl
  have dB9:wd.cell? ⟨w.heap.size+1,9,none⟩=some (.int .i64 xnumber):=(cell_of_row _ _ _ _ _ _ hB2).trans rfl
  have dA10:wd.cell? ⟨w.heap.size,10,none⟩=some (.int .i64 xnonce):=(cell_of_row _ _ _ _ _ _ hA2).trans rfl
  have dB10:wd.cell? ⟨w.heap.size+1,10,none⟩=some (.int .i64 xnonce):=(cell_of_row _ _ _ _ _ _ hB2).trans rfl
  have dA11:wd.cell? ⟨w.heap.size,11,none⟩=some (.string (bs xtext)):=(cell_of_row _ _ _ _ _ _ hA2).trans rfl
  have dB11:wd.cell? ⟨w.heap.size+1,11,none⟩=some (.string (bs xtext)):=(cell_of_row _ _ _ _ _ _ hB2).trans rfl
  have dA12:wd.cell? ⟨w.heap.size,12,none⟩=some (.bool xfull):=(cell_of_row _ _ _ _ _ _ hA2).trans rfl
  have dB12:wd.cell? ⟨w.heap.size+1,12,none⟩=some (.bool xfull):=(cell_of_row _ _ _ _ _ _ hB2).trans rfl
  have dA13:wd.cell? ⟨w.heap.size,13,none⟩=some (.int .i64 xbase):=(cell_of_row _ _ _ _ _ _ hA2).trans rfl
  have dB13:wd.cell? ⟨w.heap.size+1,13,none⟩=some (.int .i64 xbase):=(cell_of_row _ _ _ _ _ _ hB2).trans rfl
  have dA14:wd.cell? ⟨w.heap.size,14,none⟩=some (.string (bs xstate)):=(cell_of_row _ _ _ _ _ _ hA2).trans rfl
  have dB14:wd.cell? ⟨w.heap.size+1,14,none⟩=some (.string (bs xstate)):=(cell_of_row _ _ _ _ _ _ hB2).trans rfl
  have dA15:wd.cell? ⟨w.heap.size,15,none⟩=some (ve):=(cell_of_row _ _ _ _ _ _ hA2).trans rfl
  have dB15:wd.cell? ⟨w.heap.size+1,15,none⟩=some (ue):=(cell_of_row _ _ _ _ _ _ hB2).trans rfl
  clear hA2 hB2
  go_wp2_with (fail)
  go_at_call 107
  refine (eequal_any _ _ xents xents wd (heH.out.below hW2.out) (hfH.out.below hW2.out) l3H.out l4H.out).mono ?_
  rintro e wz ⟨rfl,hK⟩
  rw [hq.out]
  have hKH:=Hid.mk hK
  clear hK
  go_wp2_with (fail)
  go_ret
  exact ⟨by rw [hres.out]; rfl,hW2.out.trans (hKH.out.mono (Nat.le_of_lt hld))⟩
end Go.Proofs.YtniamhbcmcgonaaGreatDoor
