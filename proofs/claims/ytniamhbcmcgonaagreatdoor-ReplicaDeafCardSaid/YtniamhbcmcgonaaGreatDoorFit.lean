/- Message.fits. Printed by genfit.py. -/
import Derived.Deep.CutRange
import Derived.Deep.DeepCutAuto
import Derived.Deep.CutBlock
import Derived.Test.YtniamhbcmcgonaaGreatDoorFrw
import Derived.Test.YtniamhbcmcgonaaGreatDoorAww
namespace Go.Proofs.YtniamhbcmcgonaaGreatDoor
open Go.RowKit Go.Ev
def fitT (m:Ms):Bool:=decide (m.last≤m.view) && (decide (m.commit≤m.op) && (decide (m.base≤m.commit) && (decide ((m.ents.length:Int)=m.op - m.base) && (decide (0 < m.base) || m.state.isEmpty))))
def fitsB (m:Ms):Bool:=
 if m.kind=1∨m.kind=4 then decide (m.client < 3) && decide (0 < m.number)
 else if m.kind=2 then decide (m.ents.length=1) && (decide (0 < m.op) && decide (m.commit≤m.op))
 else if m.kind=5 then decide (m.commit≤m.op)
 else if m.kind=9 then decide (0 < m.nonce)
 else if m.kind=10∧m.nonce=0 then false
 else if tailB m=true then fitT m else true
theorem int_eqB (a b:Int):(a==b)=decide (a=b):=by
 by_cases h:a=b
 ·subst h; simp
 ·simp [h]
set_option maxRecDepth 100000 in
set_option maxHeartbeats 12800000 in
theorem fits_any (m:Ms) (vk:Value) (a:Option Addr) (cap:Nat) (h1:1≤m.kind) (h12:m.kind≤12) (hop:goodN m.op) (hba:goodN m.base) (w:World):Calls Tryz.prog 55 #[.agg (msC m vk (.slice a m.ents.length cap))] w fun e w'=>e= .returned (.bool (fitsB m))∧Below w.heap.size w w':=by
 have hB:=Hid.mk (show ∀ o,Below w.heap.size w (w.alloc o) from fun o=>(Below.refl _ w).alloc (Nat.le_refl _) o)
 obtain ⟨o1,o2⟩:=hop
 obtain ⟨b1,b2⟩:=hba
 have hk:m.kind=1∨m.kind=2∨m.kind=3∨m.kind=4∨m.kind=5∨m.kind=6∨m.kind=7∨m.kind=8∨m.kind=9∨m.kind=10∨m.kind=11∨m.kind=12:=by omega
 clear h1 h12
 rcases hk with hk | hk | hk | hk | hk | hk | hk | hk | hk | hk | hk | hk
 ·as_aux_lemma=>
   rw [show msC m vk (.slice a m.ents.length cap)=(msC m vk (.slice a m.ents.length cap)).setIfInBounds 0 (.int .i64 1) by unfold msC; rw [hk]; rfl]
   by_cases f_cl:m.client < 3
   ·by_cases f_nu:0 < m.number
    ·have hres:Hid (fitsB m=true):= .mk (by unfold fitsB; simp [hk,tailB,fitT,f_cl,f_nu])
     have hx:=True.intro
     have q_cl:decide (m.client < 3)=true:=by simp [f_cl]
     have q_nu:decide (0 < m.number)=true:=by simp [f_nu]
     clear hk f_cl f_nu
     unfold msC
     go_enter Tryz.func55,Tryz.ntmps55
     go_wp2_with (fail)
     go_ret
     exact ⟨by rw [hres.out]; rfl,hB.out _⟩
    ·have hres:Hid (fitsB m=false):= .mk (by unfold fitsB; simp [hk,tailB,fitT,f_cl,f_nu])
     have hx:=True.intro
     have q_cl:decide (m.client < 3)=true:=by simp [f_cl]
     have q_nu:decide (0 < m.number)=false:=by simp [f_nu]
     clear hk f_cl f_nu
     unfold msC
     go_enter Tryz.func55,Tryz.ntmps55
     go_wp2_with (fail)
     go_ret
     exact ⟨by rw [hres.out]; rfl,hB.out _⟩
   ·have hres:Hid (fitsB m=false):= .mk (by unfold fitsB; simp [hk,tailB,fitT,f_cl])
    have hx:=True.intro
    have q_cl:decide (m.client < 3)=false:=by simp [f_cl]
    clear hk f_cl
    unfold msC
    go_enter Tryz.func55,Tryz.ntmps55
    go_wp2_with (fail)
    go_ret
    exact ⟨by rw [hres.out]; rfl,hB.out _⟩
 ·as_aux_lemma=>
   rw [show msC m vk (.slice a m.ents.length cap)=(msC m vk (.slice a m.ents.length cap)).setIfInBounds 0 (.int .i64 2) by unfold msC; rw [hk]; rfl]
   by_cases f_le:(m.ents.length:Int)=1
   ·by_cases f_op:0 < m.op
    ·by_cases f_co:m.commit≤m.op
     ·have g_le:m.ents.length=1:=by omega
      have hres:Hid (fitsB m=true):= .mk (by unfold fitsB; simp [hk,tailB,fitT,f_le,f_op,f_co,g_le])
      have hx:=True.intro
      have q_le:decide ((m.ents.length:Int)=1)=true:=by simp [f_le]
      have r_le:((m.ents.length:Int)==1)=true:=by rw [int_eqB]; exact q_le
      have q_op:decide (0 < m.op)=true:=by simp [f_op]
      have q_co:decide (m.commit≤m.op)=true:=by simp [f_co]
      clear g_le
      clear hk f_le f_op f_co
      unfold msC
      go_enter Tryz.func55,Tryz.ntmps55
      go_wp2_with (fail)
      go_ret
      exact ⟨by rw [hres.out]; rfl,hB.out _⟩
     ·have g_le:m.ents.length=1:=by omega
      have hres:Hid (fitsB m=false):= .mk (by unfold fitsB; simp [hk,tailB,fitT,f_le,f_op,f_co,g_le])
      have hx:=True.intro
      have q_le:decide ((m.ents.length:Int)=1)=true:=by simp [f_le]
      have r_le:((m.ents.length:Int)==1)=true:=by rw [int_eqB]; exact q_le
      have q_op:decide (0 < m.op)=true:=by simp [f_op]
      have q_co:decide (m.commit≤m.op)=false:=by simp [f_co]
      clear g_le
      clear hk f_le f_op f_co
      unfold msC
      go_enter Tryz.func55,Tryz.ntmps55
      go_wp2_with (fail)
      go_ret
      exact ⟨by rw [hres.out]; rfl,hB.out _⟩
    ·have g_le:m.ents.length=1:=by omega
     have hres:Hid (fitsB m=false):= .mk (by unfold fitsB; simp [hk,tailB,fitT,f_le,f_op,g_le])
     have hx:=True.intro
     have q_le:decide ((m.ents.length:Int)=1)=true:=by simp [f_le]
     have r_le:((m.ents.length:Int)==1)=true:=by rw [int_eqB]; exact q_le
     have q_op:decide (0 < m.op)=false:=by simp [f_op]
     clear g_le
     clear hk f_le f_op
     unfold msC
     go_enter Tryz.func55,Tryz.ntmps55
     go_wp2_with (fail)
     go_ret
     exact ⟨by rw [hres.out]; rfl,hB.out _⟩
   ·have g_le:¬ m.ents.length=1:=by omega
    have hres:Hid (fitsB m=false):= .mk (by unfold fitsB; simp [hk,tailB,fitT,f_le,g_le])
    have hx:=True.intro
    have q_le:decide ((m.ents.length:Int)=1)=false:=by simp [f_le]
    have r_le:((m.ents.length:Int)==1)=false:=by rw [int_eqB]; exact q_le
    clear g_le
    clear hk f_le
    unfold msC
    go_enter Tryz.func55,Tryz.ntmps55
    go_wp2_with (fail)
    go_ret
    exact ⟨by rw [hres.out]; rfl,hB.out _⟩
 ·as_aux_lemma=>
   rw [show msC m vk (.slice a m.ents.length cap)=(msC m vk (.slice a m.ents.length cap)).setIfInBounds 0 (.int .i64 3) by unfold msC; rw [hk]; rfl]
   have hres:Hid (fitsB m=true):= .mk (by unfold fitsB; simp [hk,tailB,fitT])
   have hx:=True.intro
   have ht:=Hid.mk fun w=>tail_any ({ m with kind:=3 }:Ms) vk (.slice a m.ents.length cap) w
   have hf1:tailB { m with kind:=3 }=false:=by simp [tailB]
   rw [hf1] at ht
   clear hf1
   clear hk
   unfold msC
   go_enter Tryz.func55,Tryz.ntmps55
   go_wp2_with (refine wpList_load_row rfl 35 _ rfl _ rfl _ _ _ _ (heap_alloc_new _ _) Tryz.underlying35 rfl (msInfo.trans rfl) ?_)
   go_at_call 62
   refine (ht.out _).mono ?_
   rintro e w' ⟨rfl,hB2⟩
   go_wp2_with (fail)
   go_ret
   exact ⟨by rw [hres.out]; rfl,(hB.out _).trans (hB2.mono (by simp))⟩
 ·as_aux_lemma=>
   rw [show msC m vk (.slice a m.ents.length cap)=(msC m vk (.slice a m.ents.length cap)).setIfInBounds 0 (.int .i64 4) by unfold msC; rw [hk]; rfl]
   by_cases f_cl:m.client < 3
   ·by_cases f_nu:0 < m.number
    ·have hres:Hid (fitsB m=true):= .mk (by unfold fitsB; simp [hk,tailB,fitT,f_cl,f_nu])
     have hx:=True.intro
     have q_cl:decide (m.client < 3)=true:=by simp [f_cl]
     have q_nu:decide (0 < m.number)=true:=by simp [f_nu]
     clear hk f_cl f_nu
     unfold msC
     go_enter Tryz.func55,Tryz.ntmps55
     go_wp2_with (fail)
     go_ret
     exact ⟨by rw [hres.out]; rfl,hB.out _⟩
    ·have hres:Hid (fitsB m=false):= .mk (by unfold fitsB; simp [hk,tailB,fitT,f_cl,f_nu])
     have hx:=True.intro
     have q_cl:decide (m.client < 3)=true:=by simp [f_cl]
     have q_nu:decide (0 < m.number)=false:=by simp [f_nu]
     clear hk f_cl f_nu
     unfold msC
     go_enter Tryz.func55,Tryz.ntmps55
     go_wp2_with (fail)
     go_ret
     exact ⟨by rw [hres.out]; rfl,hB.out _⟩
   ·have hres:Hid (fitsB m=false):= .mk (by unfold fitsB; simp [hk,tailB,fitT,f_cl])
    have hx:=True.intro
    have q_cl:decide (m.client < 3)=false:=by simp [f_cl]
    clear hk f_cl
    unfold msC
    go_enter Tryz.func55,Tryz.ntmps55
    go_wp2_with (fail)
    go_ret
    exact ⟨by rw [hres.out]; rfl,hB.out _⟩
 ·as_aux_lemma=>
   rw [show msC m vk (.slice a m.ents.length cap)=(msC m vk (.slice a m.ents.length cap)).setIfInBounds 0 (.int .i64 5) by unfold msC; rw [hk]; rfl]
   by_cases f_co:m.commit≤m.op
   ·have hres:Hid (fitsB m=true):= .mk (by unfold fitsB; simp [hk,tailB,fitT,f_co])
    have hx:=True.intro
    have q_co:decide (m.commit≤m.op)=true:=by simp [f_co]
    clear hk f_co
    unfold msC
    go_enter Tryz.func55,Tryz.ntmps55
    go_wp2_with (fail)
    go_ret
    exact ⟨by rw [hres.out]; rfl,hB.out _⟩
   ·have hres:Hid (fitsB m=false):= .mk (by unfold fitsB; simp [hk,tailB,fitT,f_co])
    have hx:=True.intro
    have q_co:decide (m.commit≤m.op)=false:=by simp [f_co]
    clear hk f_co
    unfold msC
    go_enter Tryz.func55,Tryz.ntmps55
    go_wp2_with (fail)
    go_ret
    exact ⟨by rw [hres.out]; rfl,hB.out _⟩
 ·as_aux_lemma=>
   rw [show msC m vk (.slice a m.ents.length cap)=(msC m vk (.slice a m.ents.length cap)).setIfInBounds 0 (.int .i64 6) by unfold msC; rw [hk]; rfl]
   have hres:Hid (fitsB m=true):= .mk (by unfold fitsB; simp [hk,tailB,fitT])
   have hx:=True.intro
   have ht:=Hid.mk fun w=>tail_any ({ m with kind:=6 }:Ms) vk (.slice a m.ents.length cap) w
   have hf1:tailB { m with kind:=6 }=false:=by simp [tailB]
   rw [hf1] at ht
   clear hf1
   clear hk
   unfold msC
   go_enter Tryz.func55,Tryz.ntmps55
   go_wp2_with (refine wpList_load_row rfl 35 _ rfl _ rfl _ _ _ _ (heap_alloc_new _ _) Tryz.underlying35 rfl (msInfo.trans rfl) ?_)
   go_at_call 62
   refine (ht.out _).mono ?_
   rintro e w' ⟨rfl,hB2⟩
   go_wp2_with (fail)
   go_ret
   exact ⟨by rw [hres.out]; rfl,(hB.out _).trans (hB2.mono (by simp))⟩
 ·as_aux_lemma=>
   rw [show msC m vk (.slice a m.ents.length cap)=(msC m vk (.slice a m.ents.length cap)).setIfInBounds 0 (.int .i64 7) by unfold msC; rw [hk]; rfl]
   by_cases f_lv:m.last≤m.view
   ·by_cases f_co:m.commit≤m.op
    ·by_cases f_bc:m.base≤m.commit
     ·by_cases f_el:(m.ents.length:Int)=m.op - m.base
      ·by_cases f_b0:0 < m.base
       ·have hres:Hid (fitsB m=true):= .mk (by unfold fitsB; simp [hk,tailB,fitT,f_lv,f_co,f_bc,f_el,f_b0])
        have hx:=True.intro
        have q_lv:decide (m.last≤m.view)=true:=by simp [f_lv]
        have q_co:decide (m.commit≤m.op)=true:=by simp [f_co]
        have q_bc:decide (m.base≤m.commit)=true:=by simp [f_bc]
        have q_el:decide ((m.ents.length:Int)=m.op - m.base)=true:=by simp [f_el]
        have r_el:((m.ents.length:Int)==m.op - m.base)=true:=by rw [int_eqB]; exact q_el
        have q_b0:decide (0 < m.base)=true:=by simp [f_b0]
        have ht:=Hid.mk fun w=>tail_any ({ m with kind:=7 }:Ms) vk (.slice a m.ents.length cap) w
        have hf1:tailB { m with kind:=7 }=true:=by simp [tailB]
        rw [hf1] at ht
        clear hf1
        clear hk f_lv f_co f_bc f_el f_b0
        unfold msC
        go_enter Tryz.func55,Tryz.ntmps55
        go_wp2_with (refine wpList_load_row rfl 35 _ rfl _ rfl _ _ _ _ (heap_alloc_new _ _) Tryz.underlying35 rfl (msInfo.trans rfl) ?_)
        go_at_call 62
        refine (ht.out _).mono ?_
        rintro e w' ⟨rfl,hB2⟩
        have hbx:=(hB2.block w.heap.size (by simp)).trans (heap_alloc_new w _)
        have d4:w'.cell? ⟨w.heap.size,4,none⟩=some (.int .i64 m.view):=(cell_of_row _ _ _ _ _ _ hbx).trans rfl
        have d5:w'.cell? ⟨w.heap.size,5,none⟩=some (.int .i64 m.last):=(cell_of_row _ _ _ _ _ _ hbx).trans rfl
        have d6:w'.cell? ⟨w.heap.size,6,none⟩=some (.int .i64 m.op):=(cell_of_row _ _ _ _ _ _ hbx).trans rfl
        have d7:w'.cell? ⟨w.heap.size,7,none⟩=some (.int .i64 m.commit):=(cell_of_row _ _ _ _ _ _ hbx).trans rfl
        have d13:w'.cell? ⟨w.heap.size,13,none⟩=some (.int .i64 m.base):=(cell_of_row _ _ _ _ _ _ hbx).trans rfl
        have d14:w'.cell? ⟨w.heap.size,14,none⟩=some (.string (bs m.state)):=(cell_of_row _ _ _ _ _ _ hbx).trans rfl
        have d15:w'.cell? ⟨w.heap.size,15,none⟩=some (.slice a m.ents.length cap):=(cell_of_row _ _ _ _ _ _ hbx).trans rfl
        clear hbx
        go_wp2_with (fail)
        go_ret
        exact ⟨by rw [hres.out]; rfl,(hB.out _).trans (hB2.mono (by simp))⟩
       ·cases hst:m.state.isEmpty
        ·have hres:Hid (fitsB m=false):= .mk (by unfold fitsB; simp [hk,tailB,fitT,f_lv,f_co,f_bc,f_el,f_b0,hst])
         have hx:=True.intro
         have q_lv:decide (m.last≤m.view)=true:=by simp [f_lv]
         have q_co:decide (m.commit≤m.op)=true:=by simp [f_co]
         have q_bc:decide (m.base≤m.commit)=true:=by simp [f_bc]
         have q_el:decide ((m.ents.length:Int)=m.op - m.base)=true:=by simp [f_el]
         have r_el:((m.ents.length:Int)==m.op - m.base)=true:=by rw [int_eqB]; exact q_el
         have q_b0:decide (0 < m.base)=false:=by simp [f_b0]
         have ht:=Hid.mk fun w=>tail_any ({ m with kind:=7 }:Ms) vk (.slice a m.ents.length cap) w
         have hf1:tailB { m with kind:=7 }=true:=by simp [tailB]
         rw [hf1] at ht
         clear hf1
         have hem:(bs m.state).toList.isEmpty=false:=by rw [bs_empty]; exact hst
         clear hk f_lv f_co f_bc f_el f_b0
         unfold msC
         go_enter Tryz.func55,Tryz.ntmps55
         go_wp2_with (refine wpList_load_row rfl 35 _ rfl _ rfl _ _ _ _ (heap_alloc_new _ _) Tryz.underlying35 rfl (msInfo.trans rfl) ?_)
         go_at_call 62
         refine (ht.out _).mono ?_
         rintro e w' ⟨rfl,hB2⟩
         have hbx:=(hB2.block w.heap.size (by simp)).trans (heap_alloc_new w _)
         have d4:w'.cell? ⟨w.heap.size,4,none⟩=some (.int .i64 m.view):=(cell_of_row _ _ _ _ _ _ hbx).trans rfl
         have d5:w'.cell? ⟨w.heap.size,5,none⟩=some (.int .i64 m.last):=(cell_of_row _ _ _ _ _ _ hbx).trans rfl
         have d6:w'.cell? ⟨w.heap.size,6,none⟩=some (.int .i64 m.op):=(cell_of_row _ _ _ _ _ _ hbx).trans rfl
         have d7:w'.cell? ⟨w.heap.size,7,none⟩=some (.int .i64 m.commit):=(cell_of_row _ _ _ _ _ _ hbx).trans rfl
         have d13:w'.cell? ⟨w.heap.size,13,none⟩=some (.int .i64 m.base):=(cell_of_row _ _ _ _ _ _ hbx).trans rfl
         have d14:w'.cell? ⟨w.heap.size,14,none⟩=some (.string (bs m.state)):=(cell_of_row _ _ _ _ _ _ hbx).trans rfl
         have d15:w'.cell? ⟨w.heap.size,15,none⟩=some (.slice a m.ents.length cap):=(cell_of_row _ _ _ _ _ _ hbx).trans rfl
         clear hbx
         go_wp2_with (fail)
         go_ret
         exact ⟨by rw [hres.out]; rfl,(hB.out _).trans (hB2.mono (by simp))⟩
        ·have hres:Hid (fitsB m=true):= .mk (by unfold fitsB; simp [hk,tailB,fitT,f_lv,f_co,f_bc,f_el,f_b0,hst])
         have hx:=True.intro
         have q_lv:decide (m.last≤m.view)=true:=by simp [f_lv]
         have q_co:decide (m.commit≤m.op)=true:=by simp [f_co]
         have q_bc:decide (m.base≤m.commit)=true:=by simp [f_bc]
         have q_el:decide ((m.ents.length:Int)=m.op - m.base)=true:=by simp [f_el]
         have r_el:((m.ents.length:Int)==m.op - m.base)=true:=by rw [int_eqB]; exact q_el
         have q_b0:decide (0 < m.base)=false:=by simp [f_b0]
         have ht:=Hid.mk fun w=>tail_any ({ m with kind:=7 }:Ms) vk (.slice a m.ents.length cap) w
         have hf1:tailB { m with kind:=7 }=true:=by simp [tailB]
         rw [hf1] at ht
         clear hf1
         have hem:(bs m.state).toList.isEmpty=true:=by rw [bs_empty]; exact hst
         clear hk f_lv f_co f_bc f_el f_b0
         unfold msC
         go_enter Tryz.func55,Tryz.ntmps55
         go_wp2_with (refine wpList_load_row rfl 35 _ rfl _ rfl _ _ _ _ (heap_alloc_new _ _) Tryz.underlying35 rfl (msInfo.trans rfl) ?_)
         go_at_call 62
         refine (ht.out _).mono ?_
         rintro e w' ⟨rfl,hB2⟩
         have hbx:=(hB2.block w.heap.size (by simp)).trans (heap_alloc_new w _)
         have d4:w'.cell? ⟨w.heap.size,4,none⟩=some (.int .i64 m.view):=(cell_of_row _ _ _ _ _ _ hbx).trans rfl
         have d5:w'.cell? ⟨w.heap.size,5,none⟩=some (.int .i64 m.last):=(cell_of_row _ _ _ _ _ _ hbx).trans rfl
         have d6:w'.cell? ⟨w.heap.size,6,none⟩=some (.int .i64 m.op):=(cell_of_row _ _ _ _ _ _ hbx).trans rfl
         have d7:w'.cell? ⟨w.heap.size,7,none⟩=some (.int .i64 m.commit):=(cell_of_row _ _ _ _ _ _ hbx).trans rfl
         have d13:w'.cell? ⟨w.heap.size,13,none⟩=some (.int .i64 m.base):=(cell_of_row _ _ _ _ _ _ hbx).trans rfl
         have d14:w'.cell? ⟨w.heap.size,14,none⟩=some (.string (bs m.state)):=(cell_of_row _ _ _ _ _ _ hbx).trans rfl
         have d15:w'.cell? ⟨w.heap.size,15,none⟩=some (.slice a m.ents.length cap):=(cell_of_row _ _ _ _ _ _ hbx).trans rfl
         clear hbx
         go_wp2_with (fail)
         go_ret
         exact ⟨by rw [hres.out]; rfl,(hB.out _).trans (hB2.mono (by simp))⟩
      ·have hres:Hid (fitsB m=false):= .mk (by unfold fitsB; simp [hk,tailB,fitT,f_lv,f_co,f_bc,f_el])
       have hx:=True.intro
       have q_lv:decide (m.last≤m.view)=true:=by simp [f_lv]
       have q_co:decide (m.commit≤m.op)=true:=by simp [f_co]
       have q_bc:decide (m.base≤m.commit)=true:=by simp [f_bc]
       have q_el:decide ((m.ents.length:Int)=m.op - m.base)=false:=by simp [f_el]
       have r_el:((m.ents.length:Int)==m.op - m.base)=false:=by rw [int_eqB]; exact q_el
       have ht:=Hid.mk fun w=>tail_any ({ m with kind:=7 }:Ms) vk (.slice a m.ents.length cap) w
       have hf1:tailB { m with kind:=7 }=true:=by simp [tailB]
       rw [hf1] at ht
       clear hf1
       clear hk f_lv f_co f_bc f_el
       unfold msC
       go_enter Tryz.func55,Tryz.ntmps55
       go_wp2_with (refine wpList_load_row rfl 35 _ rfl _ rfl _ _ _ _ (heap_alloc_new _ _) Tryz.underlying35 rfl (msInfo.trans rfl) ?_)
       go_at_call 62
       refine (ht.out _).mono ?_
       rintro e w' ⟨rfl,hB2⟩
       have hbx:=(hB2.block w.heap.size (by simp)).trans (heap_alloc_new w _)
       have d4:w'.cell? ⟨w.heap.size,4,none⟩=some (.int .i64 m.view):=(cell_of_row _ _ _ _ _ _ hbx).trans rfl
       have d5:w'.cell? ⟨w.heap.size,5,none⟩=some (.int .i64 m.last):=(cell_of_row _ _ _ _ _ _ hbx).trans rfl
       have d6:w'.cell? ⟨w.heap.size,6,none⟩=some (.int .i64 m.op):=(cell_of_row _ _ _ _ _ _ hbx).trans rfl
       have d7:w'.cell? ⟨w.heap.size,7,none⟩=some (.int .i64 m.commit):=(cell_of_row _ _ _ _ _ _ hbx).trans rfl
       have d13:w'.cell? ⟨w.heap.size,13,none⟩=some (.int .i64 m.base):=(cell_of_row _ _ _ _ _ _ hbx).trans rfl
       have d14:w'.cell? ⟨w.heap.size,14,none⟩=some (.string (bs m.state)):=(cell_of_row _ _ _ _ _ _ hbx).trans rfl
       have d15:w'.cell? ⟨w.heap.size,15,none⟩=some (.slice a m.ents.length cap):=(cell_of_row _ _ _ _ _ _ hbx).trans rfl
       clear hbx
       go_wp2_with (fail)
       go_ret
       exact ⟨by rw [hres.out]; rfl,(hB.out _).trans (hB2.mono (by simp))⟩
     ·have hres:Hid (fitsB m=false):= .mk (by unfold fitsB; simp [hk,tailB,fitT,f_lv,f_co,f_bc])
      have hx:=True.intro
      have q_lv:decide (m.last≤m.view)=true:=by simp [f_lv]
      have q_co:decide (m.commit≤m.op)=true:=by simp [f_co]
      have q_bc:decide (m.base≤m.commit)=false:=by simp [f_bc]
      have ht:=Hid.mk fun w=>tail_any ({ m with kind:=7 }:Ms) vk (.slice a m.ents.length cap) w
      have hf1:tailB { m with kind:=7 }=true:=by simp [tailB]
      rw [hf1] at ht
      clear hf1
      clear hk f_lv f_co f_bc
      unfold msC
      go_enter Tryz.func55,Tryz.ntmps55
      go_wp2_with (refine wpList_load_row rfl 35 _ rfl _ rfl _ _ _ _ (heap_alloc_new _ _) Tryz.underlying35 rfl (msInfo.trans rfl) ?_)
      go_at_call 62
      refine (ht.out _).mono ?_
      rintro e w' ⟨rfl,hB2⟩
      have hbx:=(hB2.block w.heap.size (by simp)).trans (heap_alloc_new w _)
      have d4:w'.cell? ⟨w.heap.size,4,none⟩=some (.int .i64 m.view):=(cell_of_row _ _ _ _ _ _ hbx).trans rfl
      have d5:w'.cell? ⟨w.heap.size,5,none⟩=some (.int .i64 m.last):=(cell_of_row _ _ _ _ _ _ hbx).trans rfl
      have d6:w'.cell? ⟨w.heap.size,6,none⟩=some (.int .i64 m.op):=(cell_of_row _ _ _ _ _ _ hbx).trans rfl
      have d7:w'.cell? ⟨w.heap.size,7,none⟩=some (.int .i64 m.commit):=(cell_of_row _ _ _ _ _ _ hbx).trans rfl
      have d13:w'.cell? ⟨w.heap.size,13,none⟩=some (.int .i64 m.base):=(cell_of_row _ _ _ _ _ _ hbx).trans rfl
      have d14:w'.cell? ⟨w.heap.size,14,none⟩=some (.string (bs m.state)):=(cell_of_row _ _ _ _ _ _ hbx).trans rfl
      have d15:w'.cell? ⟨w.heap.size,15,none⟩=some (.slice a m.ents.length cap):=(cell_of_row _ _ _ _ _ _ hbx).trans rfl
      clear hbx
      go_wp2_with (fail)
      go_ret
      exact ⟨by rw [hres.out]; rfl,(hB.out _).trans (hB2.mono (by simp))⟩
    ·have hres:Hid (fitsB m=false):= .mk (by unfold fitsB; simp [hk,tailB,fitT,f_lv,f_co])
     have hx:=True.intro
     have q_lv:decide (m.last≤m.view)=true:=by simp [f_lv]
     have q_co:decide (m.commit≤m.op)=false:=by simp [f_co]
     have ht:=Hid.mk fun w=>tail_any ({ m with kind:=7 }:Ms) vk (.slice a m.ents.length cap) w
     have hf1:tailB { m with kind:=7 }=true:=by simp [tailB]
     rw [hf1] at ht
     clear hf1
     clear hk f_lv f_co
     unfold msC
     go_enter Tryz.func55,Tryz.ntmps55
     go_wp2_with (refine wpList_load_row rfl 35 _ rfl _ rfl _ _ _ _ (heap_alloc_new _ _) Tryz.underlying35 rfl (msInfo.trans rfl) ?_)
     go_at_call 62
     refine (ht.out _).mono ?_
     rintro e w' ⟨rfl,hB2⟩
     have hbx:=(hB2.block w.heap.size (by simp)).trans (heap_alloc_new w _)
     have d4:w'.cell? ⟨w.heap.size,4,none⟩=some (.int .i64 m.view):=(cell_of_row _ _ _ _ _ _ hbx).trans rfl
     have d5:w'.cell? ⟨w.heap.size,5,none⟩=some (.int .i64 m.last):=(cell_of_row _ _ _ _ _ _ hbx).trans rfl
     have d6:w'.cell? ⟨w.heap.size,6,none⟩=some (.int .i64 m.op):=(cell_of_row _ _ _ _ _ _ hbx).trans rfl
     have d7:w'.cell? ⟨w.heap.size,7,none⟩=some (.int .i64 m.commit):=(cell_of_row _ _ _ _ _ _ hbx).trans rfl
     have d13:w'.cell? ⟨w.heap.size,13,none⟩=some (.int .i64 m.base):=(cell_of_row _ _ _ _ _ _ hbx).trans rfl
     have d14:w'.cell? ⟨w.heap.size,14,none⟩=some (.string (bs m.state)):=(cell_of_row _ _ _ _ _ _ hbx).trans rfl
     have d15:w'.cell? ⟨w.heap.size,15,none⟩=some (.slice a m.ents.length cap):=(cell_of_row _ _ _ _ _ _ hbx).trans rfl
     clear hbx
     go_wp2_with (fail)
     go_ret
     exact ⟨by rw [hres.out]; rfl,(hB.out _).trans (hB2.mono (by simp))⟩
   ·have hres:Hid (fitsB m=false):= .mk (by unfold fitsB; simp [hk,tailB,fitT,f_lv])
    have hx:=True.intro
    have q_lv:decide (m.last≤m.view)=false:=by simp [f_lv]
    have ht:=Hid.mk fun w=>tail_any ({ m with kind:=7 }:Ms) vk (.slice a m.ents.length cap) w
    have hf1:tailB { m with kind:=7 }=true:=by simp [tailB]
    rw [hf1] at ht
    clear hf1
    clear hk f_lv
    unfold msC
    go_enter Tryz.func55,Tryz.ntmps55
    go_wp2_with (refine wpList_load_row rfl 35 _ rfl _ rfl _ _ _ _ (heap_alloc_new _ _) Tryz.underlying35 rfl (msInfo.trans rfl) ?_)
    go_at_call 62
    refine (ht.out _).mono ?_
    rintro e w' ⟨rfl,hB2⟩
    have hbx:=(hB2.block w.heap.size (by simp)).trans (heap_alloc_new w _)
    have d4:w'.cell? ⟨w.heap.size,4,none⟩=some (.int .i64 m.view):=(cell_of_row _ _ _ _ _ _ hbx).trans rfl
    have d5:w'.cell? ⟨w.heap.size,5,none⟩=some (.int .i64 m.last):=(cell_of_row _ _ _ _ _ _ hbx).trans rfl
    have d6:w'.cell? ⟨w.heap.size,6,none⟩=some (.int .i64 m.op):=(cell_of_row _ _ _ _ _ _ hbx).trans rfl
    have d7:w'.cell? ⟨w.heap.size,7,none⟩=some (.int .i64 m.commit):=(cell_of_row _ _ _ _ _ _ hbx).trans rfl
    have d13:w'.cell? ⟨w.heap.size,13,none⟩=some (.int .i64 m.base):=(cell_of_row _ _ _ _ _ _ hbx).trans rfl
    have d14:w'.cell? ⟨w.heap.size,14,none⟩=some (.string (bs m.state)):=(cell_of_row _ _ _ _ _ _ hbx).trans rfl
    have d15:w'.cell? ⟨w.heap.size,15,none⟩=some (.slice a m.ents.length cap):=(cell_of_row _ _ _ _ _ _ hbx).trans rfl
    clear hbx
    go_wp2_with (fail)
    go_ret
    exact ⟨by rw [hres.out]; rfl,(hB.out _).trans (hB2.mono (by simp))⟩
 ·as_aux_lemma=>
   rw [show msC m vk (.slice a m.ents.length cap)=(msC m vk (.slice a m.ents.length cap)).setIfInBounds 0 (.int .i64 8) by unfold msC; rw [hk]; rfl]
   by_cases f_lv:m.last≤m.view
   ·by_cases f_co:m.commit≤m.op
    ·by_cases f_bc:m.base≤m.commit
     ·by_cases f_el:(m.ents.length:Int)=m.op - m.base
      ·by_cases f_b0:0 < m.base
       ·have hres:Hid (fitsB m=true):= .mk (by unfold fitsB; simp [hk,tailB,fitT,f_lv,f_co,f_bc,f_el,f_b0])
        have hx:=True.intro
        have q_lv:decide (m.last≤m.view)=true:=by simp [f_lv]
        have q_co:decide (m.commit≤m.op)=true:=by simp [f_co]
        have q_bc:decide (m.base≤m.commit)=true:=by simp [f_bc]
        have q_el:decide ((m.ents.length:Int)=m.op - m.base)=true:=by simp [f_el]
        have r_el:((m.ents.length:Int)==m.op - m.base)=true:=by rw [int_eqB]; exact q_el
        have q_b0:decide (0 < m.base)=true:=by simp [f_b0]
        have ht:=Hid.mk fun w=>tail_any ({ m with kind:=8 }:Ms) vk (.slice a m.ents.length cap) w
        have hf1:tailB { m with kind:=8 }=true:=by simp [tailB]
        rw [hf1] at ht
        clear hf1
        clear hk f_lv f_co f_bc f_el f_b0
        unfold msC
        go_enter Tryz.func55,Tryz.ntmps55
        go_wp2_with (refine wpList_load_row rfl 35 _ rfl _ rfl _ _ _ _ (heap_alloc_new _ _) Tryz.underlying35 rfl (msInfo.trans rfl) ?_)
        go_at_call 62
        refine (ht.out _).mono ?_
        rintro e w' ⟨rfl,hB2⟩
        have hbx:=(hB2.block w.heap.size (by simp)).trans (heap_alloc_new w _)
        have d4:w'.cell? ⟨w.heap.size,4,none⟩=some (.int .i64 m.view):=(cell_of_row _ _ _ _ _ _ hbx).trans rfl
        have d5:w'.cell? ⟨w.heap.size,5,none⟩=some (.int .i64 m.last):=(cell_of_row _ _ _ _ _ _ hbx).trans rfl
        have d6:w'.cell? ⟨w.heap.size,6,none⟩=some (.int .i64 m.op):=(cell_of_row _ _ _ _ _ _ hbx).trans rfl
        have d7:w'.cell? ⟨w.heap.size,7,none⟩=some (.int .i64 m.commit):=(cell_of_row _ _ _ _ _ _ hbx).trans rfl
        have d13:w'.cell? ⟨w.heap.size,13,none⟩=some (.int .i64 m.base):=(cell_of_row _ _ _ _ _ _ hbx).trans rfl
        have d14:w'.cell? ⟨w.heap.size,14,none⟩=some (.string (bs m.state)):=(cell_of_row _ _ _ _ _ _ hbx).trans rfl
        have d15:w'.cell? ⟨w.heap.size,15,none⟩=some (.slice a m.ents.length cap):=(cell_of_row _ _ _ _ _ _ hbx).trans rfl
        clear hbx
        go_wp2_with (fail)
        go_ret
        exact ⟨by rw [hres.out]; rfl,(hB.out _).trans (hB2.mono (by simp))⟩
       ·cases hst:m.state.isEmpty
        ·have hres:Hid (fitsB m=false):= .mk (by unfold fitsB; simp [hk,tailB,fitT,f_lv,f_co,f_bc,f_el,f_b0,hst])
         have hx:=True.intro
         have q_lv:decide (m.last≤m.view)=true:=by simp [f_lv]
         have q_co:decide (m.commit≤m.op)=true:=by simp [f_co]
         have q_bc:decide (m.base≤m.commit)=true:=by simp [f_bc]
         have q_el:decide ((m.ents.length:Int)=m.op - m.base)=true:=by simp [f_el]
         have r_el:((m.ents.length:Int)==m.op - m.base)=true:=by rw [int_eqB]; exact q_el
         have q_b0:decide (0 < m.base)=false:=by simp [f_b0]
         have ht:=Hid.mk fun w=>tail_any ({ m with kind:=8 }:Ms) vk (.slice a m.ents.length cap) w
         have hf1:tailB { m with kind:=8 }=true:=by simp [tailB]
         rw [hf1] at ht
         clear hf1
         have hem:(bs m.state).toList.isEmpty=false:=by rw [bs_empty]; exact hst
         clear hk f_lv f_co f_bc f_el f_b0
         unfold msC
         go_enter Tryz.func55,Tryz.ntmps55
         go_wp2_with (refine wpList_load_row rfl 35 _ rfl _ rfl _ _ _ _ (heap_alloc_new _ _) Tryz.underlying35 rfl (msInfo.trans rfl) ?_)
         go_at_call 62
         refine (ht.out _).mono ?_
         rintro e w' ⟨rfl,hB2⟩
         have hbx:=(hB2.block w.heap.size (by simp)).trans (heap_alloc_new w _)
         have d4:w'.cell? ⟨w.heap.size,4,none⟩=some (.int .i64 m.view):=(cell_of_row _ _ _ _ _ _ hbx).trans rfl
         have d5:w'.cell? ⟨w.heap.size,5,none⟩=some (.int .i64 m.last):=(cell_of_row _ _ _ _ _ _ hbx).trans rfl
         have d6:w'.cell? ⟨w.heap.size,6,none⟩=some (.int .i64 m.op):=(cell_of_row _ _ _ _ _ _ hbx).trans rfl
         have d7:w'.cell? ⟨w.heap.size,7,none⟩=some (.int .i64 m.commit):=(cell_of_row _ _ _ _ _ _ hbx).trans rfl
         have d13:w'.cell? ⟨w.heap.size,13,none⟩=some (.int .i64 m.base):=(cell_of_row _ _ _ _ _ _ hbx).trans rfl
         have d14:w'.cell? ⟨w.heap.size,14,none⟩=some (.string (bs m.state)):=(cell_of_row _ _ _ _ _ _ hbx).trans rfl
         have d15:w'.cell? ⟨w.heap.size,15,none⟩=some (.slice a m.ents.length cap):=(cell_of_row _ _ _ _ _ _ hbx).trans rfl
         clear hbx
         go_wp2_with (fail)
         go_ret
         exact ⟨by rw [hres.out]; rfl,(hB.out _).trans (hB2.mono (by simp))⟩
        ·have hres:Hid (fitsB m=true):= .mk (by unfold fitsB; simp [hk,tailB,fitT,f_lv,f_co,f_bc,f_el,f_b0,hst])
         have hx:=True.intro
         have q_lv:decide (m.last≤m.view)=true:=by simp [f_lv]
         have q_co:decide (m.commit≤m.op)=true:=by simp [f_co]
         have q_bc:decide (m.base≤m.commit)=true:=by simp [f_bc]
         have q_el:decide ((m.ents.length:Int)=m.op - m.base)=true:=by simp [f_el]
         have r_el:((m.ents.length:Int)==m.op - m.base)=true:=by rw [int_eqB]; exact q_el
         have q_b0:decide (0 < m.base)=false:=by simp [f_b0]
         have ht:=Hid.mk fun w=>tail_any ({ m with kind:=8 }:Ms) vk (.slice a m.ents.length cap) w
         have hf1:tailB { m with kind:=8 }=true:=by simp [tailB]
         rw [hf1] at ht
         clear hf1
         have hem:(bs m.state).toList.isEmpty=true:=by rw [bs_empty]; exact hst
         clear hk f_lv f_co f_bc f_el f_b0
         unfold msC
         go_enter Tryz.func55,Tryz.ntmps55
         go_wp2_with (refine wpList_load_row rfl 35 _ rfl _ rfl _ _ _ _ (heap_alloc_new _ _) Tryz.underlying35 rfl (msInfo.trans rfl) ?_)
         go_at_call 62
         refine (ht.out _).mono ?_
         rintro e w' ⟨rfl,hB2⟩
         have hbx:=(hB2.block w.heap.size (by simp)).trans (heap_alloc_new w _)
         have d4:w'.cell? ⟨w.heap.size,4,none⟩=some (.int .i64 m.view):=(cell_of_row _ _ _ _ _ _ hbx).trans rfl
         have d5:w'.cell? ⟨w.heap.size,5,none⟩=some (.int .i64 m.last):=(cell_of_row _ _ _ _ _ _ hbx).trans rfl
         have d6:w'.cell? ⟨w.heap.size,6,none⟩=some (.int .i64 m.op):=(cell_of_row _ _ _ _ _ _ hbx).trans rfl
         have d7:w'.cell? ⟨w.heap.size,7,none⟩=some (.int .i64 m.commit):=(cell_of_row _ _ _ _ _ _ hbx).trans rfl
         have d13:w'.cell? ⟨w.heap.size,13,none⟩=some (.int .i64 m.base):=(cell_of_row _ _ _ _ _ _ hbx).trans rfl
         have d14:w'.cell? ⟨w.heap.size,14,none⟩=some (.string (bs m.state)):=(cell_of_row _ _ _ _ _ _ hbx).trans rfl
         have d15:w'.cell? ⟨w.heap.size,15,none⟩=some (.slice a m.ents.length cap):=(cell_of_row _ _ _ _ _ _ hbx).trans rfl
         clear hbx
         go_wp2_with (fail)
         go_ret
         exact ⟨by rw [hres.out]; rfl,(hB.out _).trans (hB2.mono (by simp))⟩
      ·have hres:Hid (fitsB m=false):= .mk (by unfold fitsB; simp [hk,tailB,fitT,f_lv,f_co,f_bc,f_el])
       have hx:=True.intro
       have q_lv:decide (m.last≤m.view)=true:=by simp [f_lv]
       have q_co:decide (m.commit≤m.op)=true:=by simp [f_co]
       have q_bc:decide (m.base≤m.commit)=true:=by simp [f_bc]
       have q_el:decide ((m.ents.length:Int)=m.op - m.base)=false:=by simp [f_el]
       have r_el:((m.ents.length:Int)==m.op - m.base)=false:=by rw [int_eqB]; exact q_el
       have ht:=Hid.mk fun w=>tail_any ({ m with kind:=8 }:Ms) vk (.slice a m.ents.length cap) w
       have hf1:tailB { m with kind:=8 }=true:=by simp [tailB]
       rw [hf1] at ht
       clear hf1
       clear hk f_lv f_co f_bc f_el
       unfold msC
       go_enter Tryz.func55,Tryz.ntmps55
       go_wp2_with (refine wpList_load_row rfl 35 _ rfl _ rfl _ _ _ _ (heap_alloc_new _ _) Tryz.underlying35 rfl (msInfo.trans rfl) ?_)
       go_at_call 62
       refine (ht.out _).mono ?_
       rintro e w' ⟨rfl,hB2⟩
       have hbx:=(hB2.block w.heap.size (by simp)).trans (heap_alloc_new w _)
       have d4:w'.cell? ⟨w.heap.size,4,none⟩=some (.int .i64 m.view):=(cell_of_row _ _ _ _ _ _ hbx).trans rfl
       have d5:w'.cell? ⟨w.heap.size,5,none⟩=some (.int .i64 m.last):=(cell_of_row _ _ _ _ _ _ hbx).trans rfl
       have d6:w'.cell? ⟨w.heap.size,6,none⟩=some (.int .i64 m.op):=(cell_of_row _ _ _ _ _ _ hbx).trans rfl
       have d7:w'.cell? ⟨w.heap.size,7,none⟩=some (.int .i64 m.commit):=(cell_of_row _ _ _ _ _ _ hbx).trans rfl
       have d13:w'.cell? ⟨w.heap.size,13,none⟩=some (.int .i64 m.base):=(cell_of_row _ _ _ _ _ _ hbx).trans rfl
       have d14:w'.cell? ⟨w.heap.size,14,none⟩=some (.string (bs m.state)):=(cell_of_row _ _ _ _ _ _ hbx).trans rfl
       have d15:w'.cell? ⟨w.heap.size,15,none⟩=some (.slice a m.ents.length cap):=(cell_of_row _ _ _ _ _ _ hbx).trans rfl
       clear hbx
       go_wp2_with (fail)
       go_ret
       exact ⟨by rw [hres.out]; rfl,(hB.out _).trans (hB2.mono (by simp))⟩
     ·have hres:Hid (fitsB m=false):= .mk (by unfold fitsB; simp [hk,tailB,fitT,f_lv,f_co,f_bc])
      have hx:=True.intro
      have q_lv:decide (m.last≤m.view)=true:=by simp [f_lv]
      have q_co:decide (m.commit≤m.op)=true:=by simp [f_co]
      have q_bc:decide (m.base≤m.commit)=false:=by simp [f_bc]
      have ht:=Hid.mk fun w=>tail_any ({ m with kind:=8 }:Ms) vk (.slice a m.ents.length cap) w
      have hf1:tailB { m with kind:=8 }=true:=by simp [tailB]
      rw [hf1] at ht
      clear hf1
      clear hk f_lv f_co f_bc
      unfold msC
      go_enter Tryz.func55,Tryz.ntmps55
      go_wp2_with (refine wpList_load_row rfl 35 _ rfl _ rfl _ _ _ _ (heap_alloc_new _ _) Tryz.underlying35 rfl (msInfo.trans rfl) ?_)
      go_at_call 62
      refine (ht.out _).mono ?_
      rintro e w' ⟨rfl,hB2⟩
      have hbx:=(hB2.block w.heap.size (by simp)).trans (heap_alloc_new w _)
      have d4:w'.cell? ⟨w.heap.size,4,none⟩=some (.int .i64 m.view):=(cell_of_row _ _ _ _ _ _ hbx).trans rfl
      have d5:w'.cell? ⟨w.heap.size,5,none⟩=some (.int .i64 m.last):=(cell_of_row _ _ _ _ _ _ hbx).trans rfl
      have d6:w'.cell? ⟨w.heap.size,6,none⟩=some (.int .i64 m.op):=(cell_of_row _ _ _ _ _ _ hbx).trans rfl
      have d7:w'.cell? ⟨w.heap.size,7,none⟩=some (.int .i64 m.commit):=(cell_of_row _ _ _ _ _ _ hbx).trans rfl
      have d13:w'.cell? ⟨w.heap.size,13,none⟩=some (.int .i64 m.base):=(cell_of_row _ _ _ _ _ _ hbx).trans rfl
      have d14:w'.cell? ⟨w.heap.size,14,none⟩=some (.string (bs m.state)):=(cell_of_row _ _ _ _ _ _ hbx).trans rfl
      have d15:w'.cell? ⟨w.heap.size,15,none⟩=some (.slice a m.ents.length cap):=(cell_of_row _ _ _ _ _ _ hbx).trans rfl
      clear hbx
      go_wp2_with (fail)
      go_ret
      exact ⟨by rw [hres.out]; rfl,(hB.out _).trans (hB2.mono (by simp))⟩
    ·have hres:Hid (fitsB m=false):= .mk (by unfold fitsB; simp [hk,tailB,fitT,f_lv,f_co])
     have hx:=True.intro
     have q_lv:decide (m.last≤m.view)=true:=by simp [f_lv]
     have q_co:decide (m.commit≤m.op)=false:=by simp [f_co]
     have ht:=Hid.mk fun w=>tail_any ({ m with kind:=8 }:Ms) vk (.slice a m.ents.length cap) w
     have hf1:tailB { m with kind:=8 }=true:=by simp [tailB]
     rw [hf1] at ht
     clear hf1
     clear hk f_lv f_co
     unfold msC
     go_enter Tryz.func55,Tryz.ntmps55
     go_wp2_with (refine wpList_load_row rfl 35 _ rfl _ rfl _ _ _ _ (heap_alloc_new _ _) Tryz.underlying35 rfl (msInfo.trans rfl) ?_)
     go_at_call 62
     refine (ht.out _).mono ?_
     rintro e w' ⟨rfl,hB2⟩
     have hbx:=(hB2.block w.heap.size (by simp)).trans (heap_alloc_new w _)
     have d4:w'.cell? ⟨w.heap.size,4,none⟩=some (.int .i64 m.view):=(cell_of_row _ _ _ _ _ _ hbx).trans rfl
     have d5:w'.cell? ⟨w.heap.size,5,none⟩=some (.int .i64 m.last):=(cell_of_row _ _ _ _ _ _ hbx).trans rfl
     have d6:w'.cell? ⟨w.heap.size,6,none⟩=some (.int .i64 m.op):=(cell_of_row _ _ _ _ _ _ hbx).trans rfl
     have d7:w'.cell? ⟨w.heap.size,7,none⟩=some (.int .i64 m.commit):=(cell_of_row _ _ _ _ _ _ hbx).trans rfl
     have d13:w'.cell? ⟨w.heap.size,13,none⟩=some (.int .i64 m.base):=(cell_of_row _ _ _ _ _ _ hbx).trans rfl
     have d14:w'.cell? ⟨w.heap.size,14,none⟩=some (.string (bs m.state)):=(cell_of_row _ _ _ _ _ _ hbx).trans rfl
     have d15:w'.cell? ⟨w.heap.size,15,none⟩=some (.slice a m.ents.length cap):=(cell_of_row _ _ _ _ _ _ hbx).trans rfl
     clear hbx
     go_wp2_with (fail)
     go_ret
     exact ⟨by rw [hres.out]; rfl,(hB.out _).trans (hB2.mono (by simp))⟩
   ·have hres:Hid (fitsB m=false):= .mk (by unfold fitsB; simp [hk,tailB,fitT,f_lv])
    have hx:=True.intro
    have q_lv:decide (m.last≤m.view)=false:=by simp [f_lv]
    have ht:=Hid.mk fun w=>tail_any ({ m with kind:=8 }:Ms) vk (.slice a m.ents.length cap) w
    have hf1:tailB { m with kind:=8 }=true:=by simp [tailB]
    rw [hf1] at ht
    clear hf1
    clear hk f_lv
    unfold msC
    go_enter Tryz.func55,Tryz.ntmps55
    go_wp2_with (refine wpList_load_row rfl 35 _ rfl _ rfl _ _ _ _ (heap_alloc_new _ _) Tryz.underlying35 rfl (msInfo.trans rfl) ?_)
    go_at_call 62
    refine (ht.out _).mono ?_
    rintro e w' ⟨rfl,hB2⟩
    have hbx:=(hB2.block w.heap.size (by simp)).trans (heap_alloc_new w _)
    have d4:w'.cell? ⟨w.heap.size,4,none⟩=some (.int .i64 m.view):=(cell_of_row _ _ _ _ _ _ hbx).trans rfl
    have d5:w'.cell? ⟨w.heap.size,5,none⟩=some (.int .i64 m.last):=(cell_of_row _ _ _ _ _ _ hbx).trans rfl
    have d6:w'.cell? ⟨w.heap.size,6,none⟩=some (.int .i64 m.op):=(cell_of_row _ _ _ _ _ _ hbx).trans rfl
    have d7:w'.cell? ⟨w.heap.size,7,none⟩=some (.int .i64 m.commit):=(cell_of_row _ _ _ _ _ _ hbx).trans rfl
    have d13:w'.cell? ⟨w.heap.size,13,none⟩=some (.int .i64 m.base):=(cell_of_row _ _ _ _ _ _ hbx).trans rfl
    have d14:w'.cell? ⟨w.heap.size,14,none⟩=some (.string (bs m.state)):=(cell_of_row _ _ _ _ _ _ hbx).trans rfl
    have d15:w'.cell? ⟨w.heap.size,15,none⟩=some (.slice a m.ents.length cap):=(cell_of_row _ _ _ _ _ _ hbx).trans rfl
    clear hbx
    go_wp2_with (fail)
    go_ret
    exact ⟨by rw [hres.out]; rfl,(hB.out _).trans (hB2.mono (by simp))⟩
 ·as_aux_lemma=>
   rw [show msC m vk (.slice a m.ents.length cap)=(msC m vk (.slice a m.ents.length cap)).setIfInBounds 0 (.int .i64 9) by unfold msC; rw [hk]; rfl]
   by_cases f_no:0 < m.nonce
   ·have hres:Hid (fitsB m=true):= .mk (by unfold fitsB; simp [hk,tailB,fitT,f_no])
    have hx:=True.intro
    have q_no:decide (0 < m.nonce)=true:=by simp [f_no]
    clear hk f_no
    unfold msC
    go_enter Tryz.func55,Tryz.ntmps55
    go_wp2_with (fail)
    go_ret
    exact ⟨by rw [hres.out]; rfl,hB.out _⟩
   ·have hres:Hid (fitsB m=false):= .mk (by unfold fitsB; simp [hk,tailB,fitT,f_no])
    have hx:=True.intro
    have q_no:decide (0 < m.nonce)=false:=by simp [f_no]
    clear hk f_no
    unfold msC
    go_enter Tryz.func55,Tryz.ntmps55
    go_wp2_with (fail)
    go_ret
    exact ⟨by rw [hres.out]; rfl,hB.out _⟩
 ·cases hf:m.full with
  | true=>as_aux_lemma=>
    rw [show msC m vk (.slice a m.ents.length cap)=(msC m vk (.slice a m.ents.length cap)).setIfInBounds 0 (.int .i64 10) by unfold msC; rw [hk]; rfl]
    rw [show msC m vk (.slice a m.ents.length cap)=(msC m vk (.slice a m.ents.length cap)).setIfInBounds 12 (.bool true) by unfold msC; rw [hf]; rfl]
    by_cases f_nz:m.nonce=0
    ·have hres:Hid (fitsB m=false):= .mk (by unfold fitsB; simp [hk,tailB,fitT,hf,f_nz])
     have hx:=True.intro
     have q_nz:decide (m.nonce=0)=true:=by simp [f_nz]
     have r_nz:(m.nonce==0)=true:=by rw [int_eqB]; exact q_nz
     have ht:=Hid.mk fun w=>tail_any ({ m with kind:=10,full:=true }:Ms) vk (.slice a m.ents.length cap) w
     have hf1:tailB { m with kind:=10,full:=true }=true:=by simp [tailB]
     rw [hf1] at ht
     clear hf1
     clear hk hf f_nz
     unfold msC
     go_enter Tryz.func55,Tryz.ntmps55
     go_wp2_with (fail)
     go_ret
     exact ⟨by rw [hres.out]; rfl,hB.out _⟩
    ·by_cases f_lv:m.last≤m.view
     ·by_cases f_co:m.commit≤m.op
      ·by_cases f_bc:m.base≤m.commit
       ·by_cases f_el:(m.ents.length:Int)=m.op - m.base
        ·by_cases f_b0:0 < m.base
         ·have hres:Hid (fitsB m=true):= .mk (by unfold fitsB; simp [hk,tailB,fitT,hf,f_nz,f_lv,f_co,f_bc,f_el,f_b0])
          have hx:=True.intro
          have q_nz:decide (m.nonce=0)=false:=by simp [f_nz]
          have r_nz:(m.nonce==0)=false:=by rw [int_eqB]; exact q_nz
          have q_lv:decide (m.last≤m.view)=true:=by simp [f_lv]
          have q_co:decide (m.commit≤m.op)=true:=by simp [f_co]
          have q_bc:decide (m.base≤m.commit)=true:=by simp [f_bc]
          have q_el:decide ((m.ents.length:Int)=m.op - m.base)=true:=by simp [f_el]
          have r_el:((m.ents.length:Int)==m.op - m.base)=true:=by rw [int_eqB]; exact q_el
          have q_b0:decide (0 < m.base)=true:=by simp [f_b0]
          have ht:=Hid.mk fun w=>tail_any ({ m with kind:=10,full:=true }:Ms) vk (.slice a m.ents.length cap) w
          have hf1:tailB { m with kind:=10,full:=true }=true:=by simp [tailB]
          rw [hf1] at ht
          clear hf1
          clear hk hf f_nz f_lv f_co f_bc f_el f_b0
          unfold msC
          go_enter Tryz.func55,Tryz.ntmps55
          go_wp2_with (refine wpList_load_row rfl 35 _ rfl _ rfl _ _ _ _ (heap_alloc_new _ _) Tryz.underlying35 rfl (msInfo.trans rfl) ?_)
          go_at_call 62
          refine (ht.out _).mono ?_
          rintro e w' ⟨rfl,hB2⟩
          have hbx:=(hB2.block w.heap.size (by simp)).trans (heap_alloc_new w _)
          have d4:w'.cell? ⟨w.heap.size,4,none⟩=some (.int .i64 m.view):=(cell_of_row _ _ _ _ _ _ hbx).trans rfl
          have d5:w'.cell? ⟨w.heap.size,5,none⟩=some (.int .i64 m.last):=(cell_of_row _ _ _ _ _ _ hbx).trans rfl
          have d6:w'.cell? ⟨w.heap.size,6,none⟩=some (.int .i64 m.op):=(cell_of_row _ _ _ _ _ _ hbx).trans rfl
          have d7:w'.cell? ⟨w.heap.size,7,none⟩=some (.int .i64 m.commit):=(cell_of_row _ _ _ _ _ _ hbx).trans rfl
          have d13:w'.cell? ⟨w.heap.size,13,none⟩=some (.int .i64 m.base):=(cell_of_row _ _ _ _ _ _ hbx).trans rfl
          have d14:w'.cell? ⟨w.heap.size,14,none⟩=some (.string (bs m.state)):=(cell_of_row _ _ _ _ _ _ hbx).trans rfl
          have d15:w'.cell? ⟨w.heap.size,15,none⟩=some (.slice a m.ents.length cap):=(cell_of_row _ _ _ _ _ _ hbx).trans rfl
          clear hbx
          go_wp2_with (fail)
          go_ret
          exact ⟨by rw [hres.out]; rfl,(hB.out _).trans (hB2.mono (by simp))⟩
         ·cases hst:m.state.isEmpty
          ·have hres:Hid (fitsB m=false):= .mk (by unfold fitsB; simp [hk,tailB,fitT,hf,f_nz,f_lv,f_co,f_bc,f_el,f_b0,hst])
           have hx:=True.intro
           have q_nz:decide (m.nonce=0)=false:=by simp [f_nz]
           have r_nz:(m.nonce==0)=false:=by rw [int_eqB]; exact q_nz
           have q_lv:decide (m.last≤m.view)=true:=by simp [f_lv]
           have q_co:decide (m.commit≤m.op)=true:=by simp [f_co]
           have q_bc:decide (m.base≤m.commit)=true:=by simp [f_bc]
           have q_el:decide ((m.ents.length:Int)=m.op - m.base)=true:=by simp [f_el]
           have r_el:((m.ents.length:Int)==m.op - m.base)=true:=by rw [int_eqB]; exact q_el
           have q_b0:decide (0 < m.base)=false:=by simp [f_b0]
           have ht:=Hid.mk fun w=>tail_any ({ m with kind:=10,full:=true }:Ms) vk (.slice a m.ents.length cap) w
           have hf1:tailB { m with kind:=10,full:=true }=true:=by simp [tailB]
           rw [hf1] at ht
           clear hf1
           have hem:(bs m.state).toList.isEmpty=false:=by rw [bs_empty]; exact hst
           clear hk hf f_nz f_lv f_co f_bc f_el f_b0
           unfold msC
           go_enter Tryz.func55,Tryz.ntmps55
           go_wp2_with (refine wpList_load_row rfl 35 _ rfl _ rfl _ _ _ _ (heap_alloc_new _ _) Tryz.underlying35 rfl (msInfo.trans rfl) ?_)
           go_at_call 62
           refine (ht.out _).mono ?_
           rintro e w' ⟨rfl,hB2⟩
           have hbx:=(hB2.block w.heap.size (by simp)).trans (heap_alloc_new w _)
           have d4:w'.cell? ⟨w.heap.size,4,none⟩=some (.int .i64 m.view):=(cell_of_row _ _ _ _ _ _ hbx).trans rfl
           have d5:w'.cell? ⟨w.heap.size,5,none⟩=some (.int .i64 m.last):=(cell_of_row _ _ _ _ _ _ hbx).trans rfl
           have d6:w'.cell? ⟨w.heap.size,6,none⟩=some (.int .i64 m.op):=(cell_of_row _ _ _ _ _ _ hbx).trans rfl
           have d7:w'.cell? ⟨w.heap.size,7,none⟩=some (.int .i64 m.commit):=(cell_of_row _ _ _ _ _ _ hbx).trans rfl
           have d13:w'.cell? ⟨w.heap.size,13,none⟩=some (.int .i64 m.base):=(cell_of_row _ _ _ _ _ _ hbx).trans rfl
           have d14:w'.cell? ⟨w.heap.size,14,none⟩=some (.string (bs m.state)):=(cell_of_row _ _ _ _ _ _ hbx).trans rfl
           have d15:w'.cell? ⟨w.heap.size,15,none⟩=some (.slice a m.ents.length cap):=(cell_of_row _ _ _ _ _ _ hbx).trans rfl
           clear hbx
           go_wp2_with (fail)
           go_ret
           exact ⟨by rw [hres.out]; rfl,(hB.out _).trans (hB2.mono (by simp))⟩
          ·have hres:Hid (fitsB m=true):= .mk (by unfold fitsB; simp [hk,tailB,fitT,hf,f_nz,f_lv,f_co,f_bc,f_el,f_b0,hst])
           have hx:=True.intro
           have q_nz:decide (m.nonce=0)=false:=by simp [f_nz]
           have r_nz:(m.nonce==0)=false:=by rw [int_eqB]; exact q_nz
           have q_lv:decide (m.last≤m.view)=true:=by simp [f_lv]
           have q_co:decide (m.commit≤m.op)=true:=by simp [f_co]
           have q_bc:decide (m.base≤m.commit)=true:=by simp [f_bc]
           have q_el:decide ((m.ents.length:Int)=m.op - m.base)=true:=by simp [f_el]
           have r_el:((m.ents.length:Int)==m.op - m.base)=true:=by rw [int_eqB]; exact q_el
           have q_b0:decide (0 < m.base)=false:=by simp [f_b0]
           have ht:=Hid.mk fun w=>tail_any ({ m with kind:=10,full:=true }:Ms) vk (.slice a m.ents.length cap) w
           have hf1:tailB { m with kind:=10,full:=true }=true:=by simp [tailB]
           rw [hf1] at ht
           clear hf1
           have hem:(bs m.state).toList.isEmpty=true:=by rw [bs_empty]; exact hst
           clear hk hf f_nz f_lv f_co f_bc f_el f_b0
           unfold msC
           go_enter Tryz.func55,Tryz.ntmps55
           go_wp2_with (refine wpList_load_row rfl 35 _ rfl _ rfl _ _ _ _ (heap_alloc_new _ _) Tryz.underlying35 rfl (msInfo.trans rfl) ?_)
           go_at_call 62
           refine (ht.out _).mono ?_
           rintro e w' ⟨rfl,hB2⟩
           have hbx:=(hB2.block w.heap.size (by simp)).trans (heap_alloc_new w _)
           have d4:w'.cell? ⟨w.heap.size,4,none⟩=some (.int .i64 m.view):=(cell_of_row _ _ _ _ _ _ hbx).trans rfl
           have d5:w'.cell? ⟨w.heap.size,5,none⟩=some (.int .i64 m.last):=(cell_of_row _ _ _ _ _ _ hbx).trans rfl
           have d6:w'.cell? ⟨w.heap.size,6,none⟩=some (.int .i64 m.op):=(cell_of_row _ _ _ _ _ _ hbx).trans rfl
           have d7:w'.cell? ⟨w.heap.size,7,none⟩=some (.int .i64 m.commit):=(cell_of_row _ _ _ _ _ _ hbx).trans rfl
           have d13:w'.cell? ⟨w.heap.size,13,none⟩=some (.int .i64 m.base):=(cell_of_row _ _ _ _ _ _ hbx).trans rfl
           have d14:w'.cell? ⟨w.heap.size,14,none⟩=some (.string (bs m.state)):=(cell_of_row _ _ _ _ _ _ hbx).trans rfl
           have d15:w'.cell? ⟨w.heap.size,15,none⟩=some (.slice a m.ents.length cap):=(cell_of_row _ _ _ _ _ _ hbx).trans rfl
           clear hbx
           go_wp2_with (fail)
           go_ret
           exact ⟨by rw [hres.out]; rfl,(hB.out _).trans (hB2.mono (by simp))⟩
        ·have hres:Hid (fitsB m=false):= .mk (by unfold fitsB; simp [hk,tailB,fitT,hf,f_nz,f_lv,f_co,f_bc,f_el])
         have hx:=True.intro
         have q_nz:decide (m.nonce=0)=false:=by simp [f_nz]
         have r_nz:(m.nonce==0)=false:=by rw [int_eqB]; exact q_nz
         have q_lv:decide (m.last≤m.view)=true:=by simp [f_lv]
         have q_co:decide (m.commit≤m.op)=true:=by simp [f_co]
         have q_bc:decide (m.base≤m.commit)=true:=by simp [f_bc]
         have q_el:decide ((m.ents.length:Int)=m.op - m.base)=false:=by simp [f_el]
         have r_el:((m.ents.length:Int)==m.op - m.base)=false:=by rw [int_eqB]; exact q_el
         have ht:=Hid.mk fun w=>tail_any ({ m with kind:=10,full:=true }:Ms) vk (.slice a m.ents.length cap) w
         have hf1:tailB { m with kind:=10,full:=true }=true:=by simp [tailB]
         rw [hf1] at ht
         clear hf1
         clear hk hf f_nz f_lv f_co f_bc f_el
         unfold msC
         go_enter Tryz.func55,Tryz.ntmps55
         go_wp2_with (refine wpList_load_row rfl 35 _ rfl _ rfl _ _ _ _ (heap_alloc_new _ _) Tryz.underlying35 rfl (msInfo.trans rfl) ?_)
         go_at_call 62
         refine (ht.out _).mono ?_
         rintro e w' ⟨rfl,hB2⟩
         have hbx:=(hB2.block w.heap.size (by simp)).trans (heap_alloc_new w _)
         have d4:w'.cell? ⟨w.heap.size,4,none⟩=some (.int .i64 m.view):=(cell_of_row _ _ _ _ _ _ hbx).trans rfl
         have d5:w'.cell? ⟨w.heap.size,5,none⟩=some (.int .i64 m.last):=(cell_of_row _ _ _ _ _ _ hbx).trans rfl
         have d6:w'.cell? ⟨w.heap.size,6,none⟩=some (.int .i64 m.op):=(cell_of_row _ _ _ _ _ _ hbx).trans rfl
         have d7:w'.cell? ⟨w.heap.size,7,none⟩=some (.int .i64 m.commit):=(cell_of_row _ _ _ _ _ _ hbx).trans rfl
         have d13:w'.cell? ⟨w.heap.size,13,none⟩=some (.int .i64 m.base):=(cell_of_row _ _ _ _ _ _ hbx).trans rfl
         have d14:w'.cell? ⟨w.heap.size,14,none⟩=some (.string (bs m.state)):=(cell_of_row _ _ _ _ _ _ hbx).trans rfl
         have d15:w'.cell? ⟨w.heap.size,15,none⟩=some (.slice a m.ents.length cap):=(cell_of_row _ _ _ _ _ _ hbx).trans rfl
         clear hbx
         go_wp2_with (fail)
         go_ret
         exact ⟨by rw [hres.out]; rfl,(hB.out _).trans (hB2.mono (by simp))⟩
       ·have hres:Hid (fitsB m=false):= .mk (by unfold fitsB; simp [hk,tailB,fitT,hf,f_nz,f_lv,f_co,f_bc])
        have hx:=True.intro
        have q_nz:decide (m.nonce=0)=false:=by simp [f_nz]
        have r_nz:(m.nonce==0)=false:=by rw [int_eqB]; exact q_nz
        have q_lv:decide (m.last≤m.view)=true:=by simp [f_lv]
        have q_co:decide (m.commit≤m.op)=true:=by simp [f_co]
        have q_bc:decide (m.base≤m.commit)=false:=by simp [f_bc]
        have ht:=Hid.mk fun w=>tail_any ({ m with kind:=10,full:=true }:Ms) vk (.slice a m.ents.length cap) w
        have hf1:tailB { m with kind:=10,full:=true }=true:=by simp [tailB]
        rw [hf1] at ht
        clear hf1
        clear hk hf f_nz f_lv f_co f_bc
        unfold msC
        go_enter Tryz.func55,Tryz.ntmps55
        go_wp2_with (refine wpList_load_row rfl 35 _ rfl _ rfl _ _ _ _ (heap_alloc_new _ _) Tryz.underlying35 rfl (msInfo.trans rfl) ?_)
        go_at_call 62
        refine (ht.out _).mono ?_
        rintro e w' ⟨rfl,hB2⟩
        have hbx:=(hB2.block w.heap.size (by simp)).trans (heap_alloc_new w _)
        have d4:w'.cell? ⟨w.heap.size,4,none⟩=some (.int .i64 m.view):=(cell_of_row _ _ _ _ _ _ hbx).trans rfl
        have d5:w'.cell? ⟨w.heap.size,5,none⟩=some (.int .i64 m.last):=(cell_of_row _ _ _ _ _ _ hbx).trans rfl
        have d6:w'.cell? ⟨w.heap.size,6,none⟩=some (.int .i64 m.op):=(cell_of_row _ _ _ _ _ _ hbx).trans rfl
        have d7:w'.cell? ⟨w.heap.size,7,none⟩=some (.int .i64 m.commit):=(cell_of_row _ _ _ _ _ _ hbx).trans rfl
        have d13:w'.cell? ⟨w.heap.size,13,none⟩=some (.int .i64 m.base):=(cell_of_row _ _ _ _ _ _ hbx).trans rfl
        have d14:w'.cell? ⟨w.heap.size,14,none⟩=some (.string (bs m.state)):=(cell_of_row _ _ _ _ _ _ hbx).trans rfl
        have d15:w'.cell? ⟨w.heap.size,15,none⟩=some (.slice a m.ents.length cap):=(cell_of_row _ _ _ _ _ _ hbx).trans rfl
        clear hbx
        go_wp2_with (fail)
        go_ret
        exact ⟨by rw [hres.out]; rfl,(hB.out _).trans (hB2.mono (by simp))⟩
      ·have hres:Hid (fitsB m=false):= .mk (by unfold fitsB; simp [hk,tailB,fitT,hf,f_nz,f_lv,f_co])
       have hx:=True.intro
       have q_nz:decide (m.nonce=0)=false:=by simp [f_nz]
       have r_nz:(m.nonce==0)=false:=by rw [int_eqB]; exact q_nz
       have q_lv:decide (m.last≤m.view)=true:=by simp [f_lv]
       have q_co:decide (m.commit≤m.op)=false:=by simp [f_co]
       have ht:=Hid.mk fun w=>tail_any ({ m with kind:=10,full:=true }:Ms) vk (.slice a m.ents.length cap) w
       have hf1:tailB { m with kind:=10,full:=true }=true:=by simp [tailB]
       rw [hf1] at ht
       clear hf1
       clear hk hf f_nz f_lv f_co
       unfold msC
       go_enter Tryz.func55,Tryz.ntmps55
       go_wp2_with (refine wpList_load_row rfl 35 _ rfl _ rfl _ _ _ _ (heap_alloc_new _ _) Tryz.underlying35 rfl (msInfo.trans rfl) ?_)
       go_at_call 62
       refine (ht.out _).mono ?_
       rintro e w' ⟨rfl,hB2⟩
       have hbx:=(hB2.block w.heap.size (by simp)).trans (heap_alloc_new w _)
       have d4:w'.cell? ⟨w.heap.size,4,none⟩=some (.int .i64 m.view):=(cell_of_row _ _ _ _ _ _ hbx).trans rfl
       have d5:w'.cell? ⟨w.heap.size,5,none⟩=some (.int .i64 m.last):=(cell_of_row _ _ _ _ _ _ hbx).trans rfl
       have d6:w'.cell? ⟨w.heap.size,6,none⟩=some (.int .i64 m.op):=(cell_of_row _ _ _ _ _ _ hbx).trans rfl
       have d7:w'.cell? ⟨w.heap.size,7,none⟩=some (.int .i64 m.commit):=(cell_of_row _ _ _ _ _ _ hbx).trans rfl
       have d13:w'.cell? ⟨w.heap.size,13,none⟩=some (.int .i64 m.base):=(cell_of_row _ _ _ _ _ _ hbx).trans rfl
       have d14:w'.cell? ⟨w.heap.size,14,none⟩=some (.string (bs m.state)):=(cell_of_row _ _ _ _ _ _ hbx).trans rfl
       have d15:w'.cell? ⟨w.heap.size,15,none⟩=some (.slice a m.ents.length cap):=(cell_of_row _ _ _ _ _ _ hbx).trans rfl
       clear hbx
       go_wp2_with (fail)
       go_ret
       exact ⟨by rw [hres.out]; rfl,(hB.out _).trans (hB2.mono (by simp))⟩
     ·have hres:Hid (fitsB m=false):= .mk (by unfold fitsB; simp [hk,tailB,fitT,hf,f_nz,f_lv])
      have hx:=True.intro
      have q_nz:decide (m.nonce=0)=false:=by simp [f_nz]
      have r_nz:(m.nonce==0)=false:=by rw [int_eqB]; exact q_nz
      have q_lv:decide (m.last≤m.view)=false:=by simp [f_lv]
      have ht:=Hid.mk fun w=>tail_any ({ m with kind:=10,full:=true }:Ms) vk (.slice a m.ents.length cap) w
      have hf1:tailB { m with kind:=10,full:=true }=true:=by simp [tailB]
      rw [hf1] at ht
      clear hf1
      clear hk hf f_nz f_lv
      unfold msC
      go_enter Tryz.func55,Tryz.ntmps55
      go_wp2_with (refine wpList_load_row rfl 35 _ rfl _ rfl _ _ _ _ (heap_alloc_new _ _) Tryz.underlying35 rfl (msInfo.trans rfl) ?_)
      go_at_call 62
      refine (ht.out _).mono ?_
      rintro e w' ⟨rfl,hB2⟩
      have hbx:=(hB2.block w.heap.size (by simp)).trans (heap_alloc_new w _)
      have d4:w'.cell? ⟨w.heap.size,4,none⟩=some (.int .i64 m.view):=(cell_of_row _ _ _ _ _ _ hbx).trans rfl
      have d5:w'.cell? ⟨w.heap.size,5,none⟩=some (.int .i64 m.last):=(cell_of_row _ _ _ _ _ _ hbx).trans rfl
      have d6:w'.cell? ⟨w.heap.size,6,none⟩=some (.int .i64 m.op):=(cell_of_row _ _ _ _ _ _ hbx).trans rfl
      have d7:w'.cell? ⟨w.heap.size,7,none⟩=some (.int .i64 m.commit):=(cell_of_row _ _ _ _ _ _ hbx).trans rfl
      have d13:w'.cell? ⟨w.heap.size,13,none⟩=some (.int .i64 m.base):=(cell_of_row _ _ _ _ _ _ hbx).trans rfl
      have d14:w'.cell? ⟨w.heap.size,14,none⟩=some (.string (bs m.state)):=(cell_of_row _ _ _ _ _ _ hbx).trans rfl
      have d15:w'.cell? ⟨w.heap.size,15,none⟩=some (.slice a m.ents.length cap):=(cell_of_row _ _ _ _ _ _ hbx).trans rfl
      clear hbx
      go_wp2_with (fail)
      go_ret
      exact ⟨by rw [hres.out]; rfl,(hB.out _).trans (hB2.mono (by simp))⟩
  | false=>as_aux_lemma=>
    rw [show msC m vk (.slice a m.ents.length cap)=(msC m vk (.slice a m.ents.length cap)).setIfInBounds 0 (.int .i64 10) by unfold msC; rw [hk]; rfl]
    rw [show msC m vk (.slice a m.ents.length cap)=(msC m vk (.slice a m.ents.length cap)).setIfInBounds 12 (.bool false) by unfold msC; rw [hf]; rfl]
    by_cases f_nz:m.nonce=0
    ·have hres:Hid (fitsB m=false):= .mk (by unfold fitsB; simp [hk,tailB,fitT,hf,f_nz])
     have hx:=True.intro
     have q_nz:decide (m.nonce=0)=true:=by simp [f_nz]
     have r_nz:(m.nonce==0)=true:=by rw [int_eqB]; exact q_nz
     have ht:=Hid.mk fun w=>tail_any ({ m with kind:=10,full:=false }:Ms) vk (.slice a m.ents.length cap) w
     have hf1:tailB { m with kind:=10,full:=false }=false:=by simp [tailB]
     rw [hf1] at ht
     clear hf1
     clear hk hf f_nz
     unfold msC
     go_enter Tryz.func55,Tryz.ntmps55
     go_wp2_with (fail)
     go_ret
     exact ⟨by rw [hres.out]; rfl,hB.out _⟩
    ·have hres:Hid (fitsB m=true):= .mk (by unfold fitsB; simp [hk,tailB,fitT,hf,f_nz])
     have hx:=True.intro
     have q_nz:decide (m.nonce=0)=false:=by simp [f_nz]
     have r_nz:(m.nonce==0)=false:=by rw [int_eqB]; exact q_nz
     have ht:=Hid.mk fun w=>tail_any ({ m with kind:=10,full:=false }:Ms) vk (.slice a m.ents.length cap) w
     have hf1:tailB { m with kind:=10,full:=false }=false:=by simp [tailB]
     rw [hf1] at ht
     clear hf1
     clear hk hf f_nz
     unfold msC
     go_enter Tryz.func55,Tryz.ntmps55
     go_wp2_with (refine wpList_load_row rfl 35 _ rfl _ rfl _ _ _ _ (heap_alloc_new _ _) Tryz.underlying35 rfl (msInfo.trans rfl) ?_)
     go_at_call 62
     refine (ht.out _).mono ?_
     rintro e w' ⟨rfl,hB2⟩
     go_wp2_with (fail)
     go_ret
     exact ⟨by rw [hres.out]; rfl,(hB.out _).trans (hB2.mono (by simp))⟩
 ·as_aux_lemma=>
   rw [show msC m vk (.slice a m.ents.length cap)=(msC m vk (.slice a m.ents.length cap)).setIfInBounds 0 (.int .i64 11) by unfold msC; rw [hk]; rfl]
   have hres:Hid (fitsB m=true):= .mk (by unfold fitsB; simp [hk,tailB,fitT])
   have hx:=True.intro
   have ht:=Hid.mk fun w=>tail_any ({ m with kind:=11 }:Ms) vk (.slice a m.ents.length cap) w
   have hf1:tailB { m with kind:=11 }=false:=by simp [tailB]
   rw [hf1] at ht
   clear hf1
   clear hk
   unfold msC
   go_enter Tryz.func55,Tryz.ntmps55
   go_wp2_with (refine wpList_load_row rfl 35 _ rfl _ rfl _ _ _ _ (heap_alloc_new _ _) Tryz.underlying35 rfl (msInfo.trans rfl) ?_)
   go_at_call 62
   refine (ht.out _).mono ?_
   rintro e w' ⟨rfl,hB2⟩
   go_wp2_with (fail)
   go_ret
   exact ⟨by rw [hres.out]; rfl,(hB.out _).trans (hB2.mono (by simp))⟩
 ·as_aux_lemma=>
   rw [show msC m vk (.slice a m.ents.length cap)=(msC m vk (.slice a m.ents.length cap)).setIfInBounds 0 (.int .i64 12) by unfold msC; rw [hk]; rfl]
   by_cases f_lv:m.last≤m.view
   ·by_cases f_co:m.commit≤m.op
    ·by_cases f_bc:m.base≤m.commit
     ·by_cases f_el:(m.ents.length:Int)=m.op - m.base
      ·by_cases f_b0:0 < m.base
       ·have hres:Hid (fitsB m=true):= .mk (by unfold fitsB; simp [hk,tailB,fitT,f_lv,f_co,f_bc,f_el,f_b0])
        have hx:=True.intro
        have q_lv:decide (m.last≤m.view)=true:=by simp [f_lv]
        have q_co:decide (m.commit≤m.op)=true:=by simp [f_co]
        have q_bc:decide (m.base≤m.commit)=true:=by simp [f_bc]
        have q_el:decide ((m.ents.length:Int)=m.op - m.base)=true:=by simp [f_el]
        have r_el:((m.ents.length:Int)==m.op - m.base)=true:=by rw [int_eqB]; exact q_el
        have q_b0:decide (0 < m.base)=true:=by simp [f_b0]
        have ht:=Hid.mk fun w=>tail_any ({ m with kind:=12 }:Ms) vk (.slice a m.ents.length cap) w
        have hf1:tailB { m with kind:=12 }=true:=by simp [tailB]
        rw [hf1] at ht
        clear hf1
        clear hk f_lv f_co f_bc f_el f_b0
        unfold msC
        go_enter Tryz.func55,Tryz.ntmps55
        go_wp2_with (refine wpList_load_row rfl 35 _ rfl _ rfl _ _ _ _ (heap_alloc_new _ _) Tryz.underlying35 rfl (msInfo.trans rfl) ?_)
        go_at_call 62
        refine (ht.out _).mono ?_
        rintro e w' ⟨rfl,hB2⟩
        have hbx:=(hB2.block w.heap.size (by simp)).trans (heap_alloc_new w _)
        have d4:w'.cell? ⟨w.heap.size,4,none⟩=some (.int .i64 m.view):=(cell_of_row _ _ _ _ _ _ hbx).trans rfl
        have d5:w'.cell? ⟨w.heap.size,5,none⟩=some (.int .i64 m.last):=(cell_of_row _ _ _ _ _ _ hbx).trans rfl
        have d6:w'.cell? ⟨w.heap.size,6,none⟩=some (.int .i64 m.op):=(cell_of_row _ _ _ _ _ _ hbx).trans rfl
        have d7:w'.cell? ⟨w.heap.size,7,none⟩=some (.int .i64 m.commit):=(cell_of_row _ _ _ _ _ _ hbx).trans rfl
        have d13:w'.cell? ⟨w.heap.size,13,none⟩=some (.int .i64 m.base):=(cell_of_row _ _ _ _ _ _ hbx).trans rfl
        have d14:w'.cell? ⟨w.heap.size,14,none⟩=some (.string (bs m.state)):=(cell_of_row _ _ _ _ _ _ hbx).trans rfl
        have d15:w'.cell? ⟨w.heap.size,15,none⟩=some (.slice a m.ents.length cap):=(cell_of_row _ _ _ _ _ _ hbx).trans rfl
        clear hbx
        go_wp2_with (fail)
        go_ret
        exact ⟨by rw [hres.out]; rfl,(hB.out _).trans (hB2.mono (by simp))⟩
       ·cases hst:m.state.isEmpty
        ·have hres:Hid (fitsB m=false):= .mk (by unfold fitsB; simp [hk,tailB,fitT,f_lv,f_co,f_bc,f_el,f_b0,hst])
         have hx:=True.intro
         have q_lv:decide (m.last≤m.view)=true:=by simp [f_lv]
         have q_co:decide (m.commit≤m.op)=true:=by simp [f_co]
         have q_bc:decide (m.base≤m.commit)=true:=by simp [f_bc]
         have q_el:decide ((m.ents.length:Int)=m.op - m.base)=true:=by simp [f_el]
         have r_el:((m.ents.length:Int)==m.op - m.base)=true:=by rw [int_eqB]; exact q_el
         have q_b0:decide (0 < m.base)=false:=by simp [f_b0]
         have ht:=Hid.mk fun w=>tail_any ({ m with kind:=12 }:Ms) vk (.slice a m.ents.length cap) w
         have hf1:tailB { m with kind:=12 }=true:=by simp [tailB]
         rw [hf1] at ht
         clear hf1
         have hem:(bs m.state).toList.isEmpty=false:=by rw [bs_empty]; exact hst
         clear hk f_lv f_co f_bc f_el f_b0
         unfold msC
         go_enter Tryz.func55,Tryz.ntmps55
         go_wp2_with (refine wpList_load_row rfl 35 _ rfl _ rfl _ _ _ _ (heap_alloc_new _ _) Tryz.underlying35 rfl (msInfo.trans rfl) ?_)
         go_at_call 62
         refine (ht.out _).mono ?_
         rintro e w' ⟨rfl,hB2⟩
         have hbx:=(hB2.block w.heap.size (by simp)).trans (heap_alloc_new w _)
         have d4:w'.cell? ⟨w.heap.size,4,none⟩=some (.int .i64 m.view):=(cell_of_row _ _ _ _ _ _ hbx).trans rfl
         have d5:w'.cell? ⟨w.heap.size,5,none⟩=some (.int .i64 m.last):=(cell_of_row _ _ _ _ _ _ hbx).trans rfl
         have d6:w'.cell? ⟨w.heap.size,6,none⟩=some (.int .i64 m.op):=(cell_of_row _ _ _ _ _ _ hbx).trans rfl
         have d7:w'.cell? ⟨w.heap.size,7,none⟩=some (.int .i64 m.commit):=(cell_of_row _ _ _ _ _ _ hbx).trans rfl
         have d13:w'.cell? ⟨w.heap.size,13,none⟩=some (.int .i64 m.base):=(cell_of_row _ _ _ _ _ _ hbx).trans rfl
         have d14:w'.cell? ⟨w.heap.size,14,none⟩=some (.string (bs m.state)):=(cell_of_row _ _ _ _ _ _ hbx).trans rfl
         have d15:w'.cell? ⟨w.heap.size,15,none⟩=some (.slice a m.ents.length cap):=(cell_of_row _ _ _ _ _ _ hbx).trans rfl
         clear hbx
         go_wp2_with (fail)
         go_ret
         exact ⟨by rw [hres.out]; rfl,(hB.out _).trans (hB2.mono (by simp))⟩
        ·have hres:Hid (fitsB m=true):= .mk (by unfold fitsB; simp [hk,tailB,fitT,f_lv,f_co,f_bc,f_el,f_b0,hst])
         have hx:=True.intro
         have q_lv:decide (m.last≤m.view)=true:=by simp [f_lv]
         have q_co:decide (m.commit≤m.op)=true:=by simp [f_co]
         have q_bc:decide (m.base≤m.commit)=true:=by simp [f_bc]
         have q_el:decide ((m.ents.length:Int)=m.op - m.base)=true:=by simp [f_el]
         have r_el:((m.ents.length:Int)==m.op - m.base)=true:=by rw [int_eqB]; exact q_el
         have q_b0:decide (0 < m.base)=false:=by simp [f_b0]
         have ht:=Hid.mk fun w=>tail_any ({ m with kind:=12 }:Ms) vk (.slice a m.ents.length cap) w
         have hf1:tailB { m with kind:=12 }=true:=by simp [tailB]
         rw [hf1] at ht
         clear hf1
         have hem:(bs m.state).toList.isEmpty=true:=by rw [bs_empty]; exact hst
         clear hk f_lv f_co f_bc f_el f_b0
         unfold msC
         go_enter Tryz.func55,Tryz.ntmps55
         go_wp2_with (refine wpList_load_row rfl 35 _ rfl _ rfl _ _ _ _ (heap_alloc_new _ _) Tryz.underlying35 rfl (msInfo.trans rfl) ?_)
         go_at_call 62
         refine (ht.out _).mono ?_
         rintro e w' ⟨rfl,hB2⟩
         have hbx:=(hB2.block w.heap.size (by simp)).trans (heap_alloc_new w _)
         have d4:w'.cell? ⟨w.heap.size,4,none⟩=some (.int .i64 m.view):=(cell_of_row _ _ _ _ _ _ hbx).trans rfl
         have d5:w'.cell? ⟨w.heap.size,5,none⟩=some (.int .i64 m.last):=(cell_of_row _ _ _ _ _ _ hbx).trans rfl
         have d6:w'.cell? ⟨w.heap.size,6,none⟩=some (.int .i64 m.op):=(cell_of_row _ _ _ _ _ _ hbx).trans rfl
         have d7:w'.cell? ⟨w.heap.size,7,none⟩=some (.int .i64 m.commit):=(cell_of_row _ _ _ _ _ _ hbx).trans rfl
         have d13:w'.cell? ⟨w.heap.size,13,none⟩=some (.int .i64 m.base):=(cell_of_row _ _ _ _ _ _ hbx).trans rfl
         have d14:w'.cell? ⟨w.heap.size,14,none⟩=some (.string (bs m.state)):=(cell_of_row _ _ _ _ _ _ hbx).trans rfl
         have d15:w'.cell? ⟨w.heap.size,15,none⟩=some (.slice a m.ents.length cap):=(cell_of_row _ _ _ _ _ _ hbx).trans rfl
         clear hbx
         go_wp2_with (fail)
         go_ret
         exact ⟨by rw [hres.out]; rfl,(hB.out _).trans (hB2.mono (by simp))⟩
      ·have hres:Hid (fitsB m=false):= .mk (by unfold fitsB; simp [hk,tailB,fitT,f_lv,f_co,f_bc,f_el])
       have hx:=True.intro
       have q_lv:decide (m.last≤m.view)=true:=by simp [f_lv]
       have q_co:decide (m.commit≤m.op)=true:=by simp [f_co]
       have q_bc:decide (m.base≤m.commit)=true:=by simp [f_bc]
       have q_el:decide ((m.ents.length:Int)=m.op - m.base)=false:=by simp [f_el]
       have r_el:((m.ents.length:Int)==m.op - m.base)=false:=by rw [int_eqB]; exact q_el
       have ht:=Hid.mk fun w=>tail_any ({ m with kind:=12 }:Ms) vk (.slice a m.ents.length cap) w
       have hf1:tailB { m with kind:=12 }=true:=by simp [tailB]
       rw [hf1] at ht
       clear hf1
       clear hk f_lv f_co f_bc f_el
       unfold msC
       go_enter Tryz.func55,Tryz.ntmps55
       go_wp2_with (refine wpList_load_row rfl 35 _ rfl _ rfl _ _ _ _ (heap_alloc_new _ _) Tryz.underlying35 rfl (msInfo.trans rfl) ?_)
       go_at_call 62
       refine (ht.out _).mono ?_
       rintro e w' ⟨rfl,hB2⟩
       have hbx:=(hB2.block w.heap.size (by simp)).trans (heap_alloc_new w _)
       have d4:w'.cell? ⟨w.heap.size,4,none⟩=some (.int .i64 m.view):=(cell_of_row _ _ _ _ _ _ hbx).trans rfl
       have d5:w'.cell? ⟨w.heap.size,5,none⟩=some (.int .i64 m.last):=(cell_of_row _ _ _ _ _ _ hbx).trans rfl
       have d6:w'.cell? ⟨w.heap.size,6,none⟩=some (.int .i64 m.op):=(cell_of_row _ _ _ _ _ _ hbx).trans rfl
       have d7:w'.cell? ⟨w.heap.size,7,none⟩=some (.int .i64 m.commit):=(cell_of_row _ _ _ _ _ _ hbx).trans rfl
       have d13:w'.cell? ⟨w.heap.size,13,none⟩=some (.int .i64 m.base):=(cell_of_row _ _ _ _ _ _ hbx).trans rfl
       have d14:w'.cell? ⟨w.heap.size,14,none⟩=some (.string (bs m.state)):=(cell_of_row _ _ _ _ _ _ hbx).trans rfl
       have d15:w'.cell? ⟨w.heap.size,15,none⟩=some (.slice a m.ents.length cap):=(cell_of_row _ _ _ _ _ _ hbx).trans rfl
       clear hbx
       go_wp2_with (fail)
       go_ret
       exact ⟨by rw [hres.out]; rfl,(hB.out _).trans (hB2.mono (by simp))⟩
     ·have hres:Hid (fitsB m=false):= .mk (by unfold fitsB; simp [hk,tailB,fitT,f_lv,f_co,f_bc])
      have hx:=True.intro
      have q_lv:decide (m.last≤m.view)=true:=by simp [f_lv]
      have q_co:decide (m.commit≤m.op)=true:=by simp [f_co]
      have q_bc:decide (m.base≤m.commit)=false:=by simp [f_bc]
      have ht:=Hid.mk fun w=>tail_any ({ m with kind:=12 }:Ms) vk (.slice a m.ents.length cap) w
      have hf1:tailB { m with kind:=12 }=true:=by simp [tailB]
      rw [hf1] at ht
      clear hf1
      clear hk f_lv f_co f_bc
      unfold msC
      go_enter Tryz.func55,Tryz.ntmps55
      go_wp2_with (refine wpList_load_row rfl 35 _ rfl _ rfl _ _ _ _ (heap_alloc_new _ _) Tryz.underlying35 rfl (msInfo.trans rfl) ?_)
      go_at_call 62
      refine (ht.out _).mono ?_
      rintro e w' ⟨rfl,hB2⟩
      have hbx:=(hB2.block w.heap.size (by simp)).trans (heap_alloc_new w _)
      have d4:w'.cell? ⟨w.heap.size,4,none⟩=some (.int .i64 m.view):=(cell_of_row _ _ _ _ _ _ hbx).trans rfl
      have d5:w'.cell? ⟨w.heap.size,5,none⟩=some (.int .i64 m.last):=(cell_of_row _ _ _ _ _ _ hbx).trans rfl
      have d6:w'.cell? ⟨w.heap.size,6,none⟩=some (.int .i64 m.op):=(cell_of_row _ _ _ _ _ _ hbx).trans rfl
      have d7:w'.cell? ⟨w.heap.size,7,none⟩=some (.int .i64 m.commit):=(cell_of_row _ _ _ _ _ _ hbx).trans rfl
      have d13:w'.cell? ⟨w.heap.size,13,none⟩=some (.int .i64 m.base):=(cell_of_row _ _ _ _ _ _ hbx).trans rfl
      have d14:w'.cell? ⟨w.heap.size,14,none⟩=some (.string (bs m.state)):=(cell_of_row _ _ _ _ _ _ hbx).trans rfl
      have d15:w'.cell? ⟨w.heap.size,15,none⟩=some (.slice a m.ents.length cap):=(cell_of_row _ _ _ _ _ _ hbx).trans rfl
      clear hbx
      go_wp2_with (fail)
      go_ret
      exact ⟨by rw [hres.out]; rfl,(hB.out _).trans (hB2.mono (by simp))⟩
    ·have hres:Hid (fitsB m=false):= .mk (by unfold fitsB; simp [hk,tailB,fitT,f_lv,f_co])
     have hx:=True.intro
     have q_lv:decide (m.last≤m.view)=true:=by simp [f_lv]
     have q_co:decide (m.commit≤m.op)=false:=by simp [f_co]
     have ht:=Hid.mk fun w=>tail_any ({ m with kind:=12 }:Ms) vk (.slice a m.ents.length cap) w
     have hf1:tailB { m with kind:=12 }=true:=by simp [tailB]
     rw [hf1] at ht
     clear hf1
     clear hk f_lv f_co
     unfold msC
     go_enter Tryz.func55,Tryz.ntmps55
     go_wp2_with (refine wpList_load_row rfl 35 _ rfl _ rfl _ _ _ _ (heap_alloc_new _ _) Tryz.underlying35 rfl (msInfo.trans rfl) ?_)
     go_at_call 62
     refine (ht.out _).mono ?_
     rintro e w' ⟨rfl,hB2⟩
     have hbx:=(hB2.block w.heap.size (by simp)).trans (heap_alloc_new w _)
     have d4:w'.cell? ⟨w.heap.size,4,none⟩=some (.int .i64 m.view):=(cell_of_row _ _ _ _ _ _ hbx).trans rfl
     have d5:w'.cell? ⟨w.heap.size,5,none⟩=some (.int .i64 m.last):=(cell_of_row _ _ _ _ _ _ hbx).trans rfl
     have d6:w'.cell? ⟨w.heap.size,6,none⟩=some (.int .i64 m.op):=(cell_of_row _ _ _ _ _ _ hbx).trans rfl
     have d7:w'.cell? ⟨w.heap.size,7,none⟩=some (.int .i64 m.commit):=(cell_of_row _ _ _ _ _ _ hbx).trans rfl
     have d13:w'.cell? ⟨w.heap.size,13,none⟩=some (.int .i64 m.base):=(cell_of_row _ _ _ _ _ _ hbx).trans rfl
     have d14:w'.cell? ⟨w.heap.size,14,none⟩=some (.string (bs m.state)):=(cell_of_row _ _ _ _ _ _ hbx).trans rfl
     have d15:w'.cell? ⟨w.heap.size,15,none⟩=some (.slice a m.ents.length cap):=(cell_of_row _ _ _ _ _ _ hbx).trans rfl
     clear hbx
     go_wp2_with (fail)
     go_ret
     exact ⟨by rw [hres.out]; rfl,(hB.out _).trans (hB2.mono (by simp))⟩
   ·have hres:Hid (fitsB m=false):= .mk (by unfold fitsB; simp [hk,tailB,fitT,f_lv])
    have hx:=True.intro
    have q_lv:decide (m.last≤m.view)=false:=by simp [f_lv]
    have ht:=Hid.mk fun w=>tail_any ({ m with kind:=12 }:Ms) vk (.slice a m.ents.length cap) w
    have hf1:tailB { m with kind:=12 }=true:=by simp [tailB]
    rw [hf1] at ht
    clear hf1
    clear hk f_lv
    unfold msC
    go_enter Tryz.func55,Tryz.ntmps55
    go_wp2_with (refine wpList_load_row rfl 35 _ rfl _ rfl _ _ _ _ (heap_alloc_new _ _) Tryz.underlying35 rfl (msInfo.trans rfl) ?_)
    go_at_call 62
    refine (ht.out _).mono ?_
    rintro e w' ⟨rfl,hB2⟩
    have hbx:=(hB2.block w.heap.size (by simp)).trans (heap_alloc_new w _)
    have d4:w'.cell? ⟨w.heap.size,4,none⟩=some (.int .i64 m.view):=(cell_of_row _ _ _ _ _ _ hbx).trans rfl
    have d5:w'.cell? ⟨w.heap.size,5,none⟩=some (.int .i64 m.last):=(cell_of_row _ _ _ _ _ _ hbx).trans rfl
    have d6:w'.cell? ⟨w.heap.size,6,none⟩=some (.int .i64 m.op):=(cell_of_row _ _ _ _ _ _ hbx).trans rfl
    have d7:w'.cell? ⟨w.heap.size,7,none⟩=some (.int .i64 m.commit):=(cell_of_row _ _ _ _ _ _ hbx).trans rfl
    have d13:w'.cell? ⟨w.heap.size,13,none⟩=some (.int .i64 m.base):=(cell_of_row _ _ _ _ _ _ hbx).trans rfl
    have d14:w'.cell? ⟨w.heap.size,14,none⟩=some (.string (bs m.state)):=(cell_of_row _ _ _ _ _ _ hbx).trans rfl
    have d15:w'.cell? ⟨w.heap.size,15,none⟩=some (.slice a m.ents.length cap):=(cell_of_row _ _ _ _ _ _ hbx).trans rfl
    clear hbx
    go_wp2_with (fail)
    go_ret
    exact ⟨by rw [hres.out]; rfl,(hB.out _).trans (hB2.mono (by simp))⟩
end Go.Proofs.YtniamhbcmcgonaaGreatDoor
