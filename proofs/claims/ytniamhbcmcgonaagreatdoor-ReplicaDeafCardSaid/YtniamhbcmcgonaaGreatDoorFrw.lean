/- Fields: a number, a text, yes or no: written, or read. Printed by genfrw.py. One entry: written, or read. The entries: written, or read. The entries read. The entries read: the walk. What makes a message good: the small functions. -/
import Derived.Test.YtniamhbcmcgonaaGreatDoorOin
import Derived.Test.YtniamhbcmcgonaaGreatDoorPln
import Derived.Deep.AppendLies
namespace Go.Proofs.YtniamhbcmcgonaaGreatDoor
open Go.RowKit Go.Ev
structure EfS (k:Nat) (W:World) (vals:Nat→Value) (Post:Value→World→Prop) (D:Nat→Bool) (vs:Nat→Value) (w:World):Prop where
 vals:∀ i,D i=true→i≠k→vs i=vals i
 pre:D k=false→w=W
 post:D k=true→Post (vs k) w
section
variable {k:Nat} {W w w':World} {vals:Nat→Value} {Post:Value→World→Prop} {D:Nat→Bool} {vs:Nat→Value}
theorem EfS.start (k:Nat) (W:World) (vals:Nat→Value) (Post:Value→World→Prop):EfS k W vals Post (fun _=>false) (fun _=>undef) W:=⟨fun i h=>(by cases h),fun _=>rfl,fun h=>(by cases h)⟩
theorem EfS.pure (h:EfS k W vals Post D vs w) {i:Nat} {v:Value} (hi:k≠i) (hv:v=vals i):EfS k W vals Post (upd D i true) (upd vs i v) w:=by
 refine ⟨fun j hj hk=> ?_,fun hd=>h.pre (by rw [upd_other _ _ hi] at hd; exact hd),fun hd=> ?_⟩
 ·by_cases e:j=i
  ·subst e; rw [upd_same]; exact hv
  ·rw [upd_other _ _ e] at hj ⊢; exact h.vals j hj hk
 ·rw [upd_other _ _ hi] at hd ⊢
  exact h.post hd
theorem EfS.call (h:EfS k W vals Post D vs w) {v:Value} (hp:Post v w'):EfS k W vals Post (upd D k true) (upd vs k v) w':=by
 refine ⟨fun j hj hk=> ?_,fun hd=>(by rw [upd_same] at hd; cases hd),fun _=>(by rw [upd_same]; exact hp)⟩
 rw [upd_other _ _ hk] at hj ⊢; exact h.vals j hj hk
end
def bitB (b:Bool):UInt8:=if b=true then 1 else 0
def RdF (R I:Nat) (many:Bool) (w:World):Prop:=w.heap[R]?=some (.cells #[.slice none 0 0,.bool false,.pointer (some ⟨I,0,none⟩),.bool many] 71 (0,0))
set_option maxRecDepth 100000 in
set_option maxHeartbeats 3200000 in
theorem num_w (N F M off:Nat) (l:Str) (z:Nat) (w:World) (hO:WrAt N F l w) (hL:l.length≤3000000) (hz:z≤9007199254740992) (hc:w.cell? ⟨M,off,none⟩=some (.int .i64 (z:Nat))) :
  Calls Tryz.prog 23 #[.pointer (some ⟨F,0,none⟩),.pointer (some ⟨M,off,none⟩)] w fun e w'=>e= .returned (.tuple #[])∧WrAt N F (l++putN z) w'∧Kp F N w w':=by
 have hm:Tryz.prog.follows .mixedOrders=true:=by kernel_rfl
 have hOd:WrAt N F l w.drew:=hO
 have hcall:Hid (Calls Tryz.prog 57 #[.pointer (some ⟨F,0,none⟩),.int .i64 (z:Nat)] w.drew fun e w'=>e= .returned (.tuple #[])∧WrAt N F (l++putN z) w'∧Kp F N w w'):= .mk ((oint_any N F z l hz w.drew hOd hL).mono fun _ _ h=>⟨h.1,h.2.1,(⟨rfl,rfl,rfl,Nat.le_refl _,fun _ _ _=>rfl⟩:Kp F N w w.drew).trans h.2.2⟩)
 obtain ⟨_,_,v,hF,_⟩:=hO
 have c2:w.cell? ⟨F,2,none⟩=some (.pointer none):=by rw [cell_of_row _ _ _ _ _ _ hF]; rfl
 have hcd:w.drew.cell? ⟨M,off,none⟩=some (.int .i64 (z:Nat)):=hc
 have hS0:=EfS.start 6 w.drew (fun i=>match i with | 0=> .pointer (some ⟨F,0,none⟩) | 1=> .pointer (some ⟨F,0,none⟩) | 2=> .pointer (some ⟨F,0,none⟩) | 3=> .pointer (some ⟨M,off,none⟩) | 4=> .pointer (some ⟨M,off,none⟩) | 5=> .int .i64 (z:Nat) | _=>undef) (fun _ w'=>WrAt N F (l++putN z) w'∧Kp F N w w')
 clear hOd hF
 go_enter Tryz.func23,Tryz.ntmps23
 go_wp2_with (fail)
 refine Go.Ev.wp_region_inv _ hm (by kernel_rfl) (by kernel_rfl) hS0 ?_
 refine ⟨fun D vs w1 K hS hd hdep hcl hK=> ?_,?_⟩
 ·go_simp
  exact hK _ _ (hS.pure (by decide) rfl)
 simp only [Act.put,List.setIfInBounds_toArray,List.set_cons_succ,List.set_cons_zero,Nat.reduceAdd]
 refine ⟨fun D vs w1 K hS hd hdep hcl hK=> ?_,?_⟩
 ·have e0:=hS.vals 0 (depB hdep 0 (by kernel_rfl)) (by decide)
  simp only at e0
  simp only [e0] at hK ⊢
  go_simp
  exact hK _ _ (hS.pure (by decide) rfl)
 simp only [Act.put,List.setIfInBounds_toArray,List.set_cons_succ,List.set_cons_zero,Nat.reduceAdd]
 refine ⟨fun D vs w1 K hS hd hdep hcl hK=> ?_,?_⟩
 ·have e1:=hS.vals 1 (depB hdep 1 (by kernel_rfl)) (by decide)
  simp only at e1
  simp only [e1] at hK ⊢
  go_simp
  exact hK _ _ (hS.pure (by decide) rfl)
 simp only [Act.put,List.setIfInBounds_toArray,List.set_cons_succ,List.set_cons_zero,Nat.reduceAdd]
 refine ⟨fun D vs w1 K hS hd hdep hcl hK=> ?_,?_⟩
 ·go_simp
  exact hK _ _ (hS.pure (by decide) rfl)
 simp only [Act.put,List.setIfInBounds_toArray,List.set_cons_succ,List.set_cons_zero,Nat.reduceAdd]
 refine ⟨fun D vs w1 K hS hd hdep hcl hK=> ?_,?_⟩
 ·have e3:=hS.vals 3 (depB hdep 3 (by kernel_rfl)) (by decide)
  simp only at e3
  simp only [e3] at hK ⊢
  go_simp
  exact hK _ _ (hS.pure (by decide) rfl)
 simp only [Act.put,List.setIfInBounds_toArray,List.set_cons_succ,List.set_cons_zero,Nat.reduceAdd]
 refine ⟨fun D vs w1 K hS hd hdep hcl hK=> ?_,?_⟩
 ·have e4:=hS.vals 4 (depB hdep 4 (by kernel_rfl)) (by decide)
  simp only at e4
  simp only [e4] at hK ⊢
  obtain rfl:=hS.pre (by
   cases h6:D 6 with
   | false=>rfl
   | true=>rw [closedB hcl 6 5 (by kernel_rfl) h6] at hd; cases hd)
  go_simp
  exact hK _ _ (hS.pure (by decide) rfl)
 simp only [Act.put,List.setIfInBounds_toArray,List.set_cons_succ,List.set_cons_zero,Nat.reduceAdd]
 refine ⟨fun D vs w1 K hS hd hdep hcl hK=> ?_,?_⟩
 ·have e2:=hS.vals 2 (depB hdep 2 (by kernel_rfl)) (by decide)
  simp only at e2
  have e5:=hS.vals 5 (depB hdep 5 (by kernel_rfl)) (by decide)
  simp only at e5
  simp only [e2,e5] at hK ⊢
  obtain rfl:=hS.pre hd
  go_wp2_with (fail)
  go_at_call 57
  refine hcall.out.mono ?_
  rintro e w2 ⟨rfl,h2,h3⟩
  go_wp2_with (fail)
  exact hS.call ⟨h2,h3⟩
 simp only [Act.put,List.setIfInBounds_toArray,List.set_cons_succ,List.set_cons_zero,Nat.reduceAdd]
 intro vs D w3 hS3 hall
 obtain ⟨h2,h3⟩:=hS3.post (hall 6 (by decide))
 clear hS3 hall
 go_wp2_with (fail)
 go_end0
 exact ⟨rfl,h2,h3⟩
set_option maxRecDepth 100000 in
set_option maxHeartbeats 3200000 in
theorem text_w (N F M off:Nat) (l:Str) (s:Str) (w:World) (hO:WrAt N F l w) (hL:l.length≤3000000) (hz:s.length≤65536) (hc:w.cell? ⟨M,off,none⟩=some (.string (bs s))) :
  Calls Tryz.prog 59 #[.pointer (some ⟨F,0,none⟩),.pointer (some ⟨M,off,none⟩)] w fun e w'=>e= .returned (.tuple #[])∧WrAt N F (l++textP s) w'∧Kp F N w w':=by
 have hm:Tryz.prog.follows .mixedOrders=true:=by kernel_rfl
 have hOd:WrAt N F l w.drew:=hO
 have hcall:Hid (Calls Tryz.prog 87 #[.pointer (some ⟨F,0,none⟩),.string (bs s)] w.drew fun e w'=>e= .returned (.tuple #[])∧WrAt N F (l++textP s) w'∧Kp F N w w'):= .mk ((otext_any N F l s hz w.drew hOd hL).mono fun _ _ h=>⟨h.1,h.2.1,(⟨rfl,rfl,rfl,Nat.le_refl _,fun _ _ _=>rfl⟩:Kp F N w w.drew).trans h.2.2⟩)
 obtain ⟨_,_,v,hF,_⟩:=hO
 have c2:w.cell? ⟨F,2,none⟩=some (.pointer none):=by rw [cell_of_row _ _ _ _ _ _ hF]; rfl
 have hcd:w.drew.cell? ⟨M,off,none⟩=some (.string (bs s)):=hc
 have hS0:=EfS.start 6 w.drew (fun i=>match i with | 0=> .pointer (some ⟨F,0,none⟩) | 1=> .pointer (some ⟨F,0,none⟩) | 2=> .pointer (some ⟨F,0,none⟩) | 3=> .pointer (some ⟨M,off,none⟩) | 4=> .pointer (some ⟨M,off,none⟩) | 5=> .string (bs s) | _=>undef) (fun _ w'=>WrAt N F (l++textP s) w'∧Kp F N w w')
 clear hOd hF
 go_enter Tryz.func59,Tryz.ntmps59
 go_wp2_with (fail)
 refine Go.Ev.wp_region_inv _ hm (by kernel_rfl) (by kernel_rfl) hS0 ?_
 refine ⟨fun D vs w1 K hS hd hdep hcl hK=> ?_,?_⟩
 ·go_simp
  exact hK _ _ (hS.pure (by decide) rfl)
 simp only [Act.put,List.setIfInBounds_toArray,List.set_cons_succ,List.set_cons_zero,Nat.reduceAdd]
 refine ⟨fun D vs w1 K hS hd hdep hcl hK=> ?_,?_⟩
 ·have e0:=hS.vals 0 (depB hdep 0 (by kernel_rfl)) (by decide)
  simp only at e0
  simp only [e0] at hK ⊢
  go_simp
  exact hK _ _ (hS.pure (by decide) rfl)
 simp only [Act.put,List.setIfInBounds_toArray,List.set_cons_succ,List.set_cons_zero,Nat.reduceAdd]
 refine ⟨fun D vs w1 K hS hd hdep hcl hK=> ?_,?_⟩
 ·have e1:=hS.vals 1 (depB hdep 1 (by kernel_rfl)) (by decide)
  simp only at e1
  simp only [e1] at hK ⊢
  go_simp
  exact hK _ _ (hS.pure (by decide) rfl)
 simp only [Act.put,List.setIfInBounds_toArray,List.set_cons_succ,List.set_cons_zero,Nat.reduceAdd]
 refine ⟨fun D vs w1 K hS hd hdep hcl hK=> ?_,?_⟩
 ·go_simp
  exact hK _ _ (hS.pure (by decide) rfl)
 simp only [Act.put,List.setIfInBounds_toArray,List.set_cons_succ,List.set_cons_zero,Nat.reduceAdd]
 refine ⟨fun D vs w1 K hS hd hdep hcl hK=> ?_,?_⟩
 ·have e3:=hS.vals 3 (depB hdep 3 (by kernel_rfl)) (by decide)
  simp only at e3
  simp only [e3] at hK ⊢
  go_simp
  exact hK _ _ (hS.pure (by decide) rfl)
 simp only [Act.put,List.setIfInBounds_toArray,List.set_cons_succ,List.set_cons_zero,Nat.reduceAdd]
 refine ⟨fun D vs w1 K hS hd hdep hcl hK=> ?_,?_⟩
 ·have e4:=hS.vals 4 (depB hdep 4 (by kernel_rfl)) (by decide)
  simp only at e4
  simp only [e4] at hK ⊢
  obtain rfl:=hS.pre (by
   cases h6:D 6 with
   | false=>rfl
   | true=>rw [closedB hcl 6 5 (by kernel_rfl) h6] at hd; cases hd)
  go_simp
  exact hK _ _ (hS.pure (by decide) rfl)
 simp only [Act.put,List.setIfInBounds_toArray,List.set_cons_succ,List.set_cons_zero,Nat.reduceAdd]
 refine ⟨fun D vs w1 K hS hd hdep hcl hK=> ?_,?_⟩
 ·have e2:=hS.vals 2 (depB hdep 2 (by kernel_rfl)) (by decide)
  simp only at e2
  have e5:=hS.vals 5 (depB hdep 5 (by kernel_rfl)) (by decide)
  simp only at e5
  simp only [e2,e5] at hK ⊢
  obtain rfl:=hS.pre hd
  go_wp2_with (fail)
  go_at_call 87
  refine hcall.out.mono ?_
  rintro e w2 ⟨rfl,h2,h3⟩
  go_wp2_with (fail)
  exact hS.call ⟨h2,h3⟩
 simp only [Act.put,List.setIfInBounds_toArray,List.set_cons_succ,List.set_cons_zero,Nat.reduceAdd]
 intro vs D w3 hS3 hall
 obtain ⟨h2,h3⟩:=hS3.post (hall 6 (by decide))
 clear hS3 hall
 go_wp2_with (fail)
 go_end0
 exact ⟨rfl,h2,h3⟩
set_option maxRecDepth 100000 in
set_option maxHeartbeats 3200000 in
theorem flag_w (N F M off:Nat) (l:Str) (b:Bool) (w:World) (hO:WrAt N F l w) (hL:l.length≤3000000)  (hc:w.cell? ⟨M,off,none⟩=some (.bool b)) :
  Calls Tryz.prog 60 #[.pointer (some ⟨F,0,none⟩),.pointer (some ⟨M,off,none⟩)] w fun e w'=>e= .returned (.tuple #[])∧WrAt N F (l++[bitB b]) w'∧Kp F N w w':=by
 have hm:Tryz.prog.follows .mixedOrders=true:=by kernel_rfl
 have hOd:WrAt N F l w.drew:=hO
 have hcall:Hid (Calls Tryz.prog 89 #[.pointer (some ⟨F,0,none⟩),.bool b] w.drew fun e w'=>e= .returned (.tuple #[])∧WrAt N F (l++[bitB b]) w'∧Kp F N w w'):= .mk ((obool_any N F l b w.drew hOd hL).mono fun _ _ h=>⟨h.1,h.2.1,(⟨rfl,rfl,rfl,Nat.le_refl _,fun _ _ _=>rfl⟩:Kp F N w w.drew).trans h.2.2⟩)
 obtain ⟨_,_,v,hF,_⟩:=hO
 have c2:w.cell? ⟨F,2,none⟩=some (.pointer none):=by rw [cell_of_row _ _ _ _ _ _ hF]; rfl
 have hcd:w.drew.cell? ⟨M,off,none⟩=some (.bool b):=hc
 have hS0:=EfS.start 6 w.drew (fun i=>match i with | 0=> .pointer (some ⟨F,0,none⟩) | 1=> .pointer (some ⟨F,0,none⟩) | 2=> .pointer (some ⟨F,0,none⟩) | 3=> .pointer (some ⟨M,off,none⟩) | 4=> .pointer (some ⟨M,off,none⟩) | 5=> .bool b | _=>undef) (fun _ w'=>WrAt N F (l++[bitB b]) w'∧Kp F N w w')
 clear hOd hF
 go_enter Tryz.func60,Tryz.ntmps60
 go_wp2_with (fail)
 refine Go.Ev.wp_region_inv _ hm (by kernel_rfl) (by kernel_rfl) hS0 ?_
 refine ⟨fun D vs w1 K hS hd hdep hcl hK=> ?_,?_⟩
 ·go_simp
  exact hK _ _ (hS.pure (by decide) rfl)
 simp only [Act.put,List.setIfInBounds_toArray,List.set_cons_succ,List.set_cons_zero,Nat.reduceAdd]
 refine ⟨fun D vs w1 K hS hd hdep hcl hK=> ?_,?_⟩
 ·have e0:=hS.vals 0 (depB hdep 0 (by kernel_rfl)) (by decide)
  simp only at e0
  simp only [e0] at hK ⊢
  go_simp
  exact hK _ _ (hS.pure (by decide) rfl)
 simp only [Act.put,List.setIfInBounds_toArray,List.set_cons_succ,List.set_cons_zero,Nat.reduceAdd]
 refine ⟨fun D vs w1 K hS hd hdep hcl hK=> ?_,?_⟩
 ·have e1:=hS.vals 1 (depB hdep 1 (by kernel_rfl)) (by decide)
  simp only at e1
  simp only [e1] at hK ⊢
  go_simp
  exact hK _ _ (hS.pure (by decide) rfl)
 simp only [Act.put,List.setIfInBounds_toArray,List.set_cons_succ,List.set_cons_zero,Nat.reduceAdd]
 refine ⟨fun D vs w1 K hS hd hdep hcl hK=> ?_,?_⟩
 ·go_simp
  exact hK _ _ (hS.pure (by decide) rfl)
 simp only [Act.put,List.setIfInBounds_toArray,List.set_cons_succ,List.set_cons_zero,Nat.reduceAdd]
 refine ⟨fun D vs w1 K hS hd hdep hcl hK=> ?_,?_⟩
 ·have e3:=hS.vals 3 (depB hdep 3 (by kernel_rfl)) (by decide)
  simp only at e3
  simp only [e3] at hK ⊢
  go_simp
  exact hK _ _ (hS.pure (by decide) rfl)
 simp only [Act.put,List.setIfInBounds_toArray,List.set_cons_succ,List.set_cons_zero,Nat.reduceAdd]
 refine ⟨fun D vs w1 K hS hd hdep hcl hK=> ?_,?_⟩
 ·have e4:=hS.vals 4 (depB hdep 4 (by kernel_rfl)) (by decide)
  simp only at e4
  simp only [e4] at hK ⊢
  obtain rfl:=hS.pre (by
   cases h6:D 6 with
   | false=>rfl
   | true=>rw [closedB hcl 6 5 (by kernel_rfl) h6] at hd; cases hd)
  go_simp
  exact hK _ _ (hS.pure (by decide) rfl)
 simp only [Act.put,List.setIfInBounds_toArray,List.set_cons_succ,List.set_cons_zero,Nat.reduceAdd]
 refine ⟨fun D vs w1 K hS hd hdep hcl hK=> ?_,?_⟩
 ·have e2:=hS.vals 2 (depB hdep 2 (by kernel_rfl)) (by decide)
  simp only at e2
  have e5:=hS.vals 5 (depB hdep 5 (by kernel_rfl)) (by decide)
  simp only at e5
  simp only [e2,e5] at hK ⊢
  obtain rfl:=hS.pre hd
  go_wp2_with (fail)
  go_at_call 89
  refine hcall.out.mono ?_
  rintro e w2 ⟨rfl,h2,h3⟩
  go_wp2_with (fail)
  exact hS.call ⟨h2,h3⟩
 simp only [Act.put,List.setIfInBounds_toArray,List.set_cons_succ,List.set_cons_zero,Nat.reduceAdd]
 intro vs D w3 hS3 hall
 obtain ⟨h2,h3⟩:=hS3.post (hall 6 (by decide))
 clear hS3 hall
 go_wp2_with (fail)
 go_end0
 exact ⟨rfl,h2,h3⟩
set_option maxRecDepth 100000 in
set_option maxHeartbeats 1600000 in
theorem num_r (R I M off:Nat) (many:Bool) (st:Inp) (u:Value) (w:World) (hR:RdF R I many w) (hI:InS 120 I st w) (hr:st.1.length≤1000000) (hc:w.cell? ⟨M,off,none⟩=some u) (hf:w.frozen? ⟨M,off,none⟩=false) (hMI:M≠I) :
  Calls Tryz.prog 23 #[.pointer (some ⟨R,0,none⟩),.pointer (some ⟨M,off,none⟩)] w fun e w'=>e= .returned (.tuple #[])∧∃ w1,InS 120 I (intS st).2 w1∧Onl I w w1∧w'=w1.setCell ⟨M,off,none⟩ (.int .i64 (intS st).1):=by
 have hcall:=Hid.mk (iint_any I st hr w hI)
 have c2:w.cell? ⟨R,2,none⟩=some (.pointer (some ⟨I,0,none⟩)):=by rw [cell_of_row _ _ _ _ _ _ hR]; rfl
 have hMw:M < w.heap.size:=by
  rcases Nat.lt_or_ge M w.heap.size with h | h
  ·exact h
  ·simp [World.cell?,Array.getElem?_eq_none h] at hc
 have hsame:=Hid.mk (show ∀ w1,Onl I w w1→w1.cell? ⟨M,off,none⟩=some u∧w1.frozen? ⟨M,off,none⟩=false from fun w1 ho=>by
  have hb:=ho.block M hMw (fun e=>hMI (by cases e; rfl))
  refine ⟨?_,?_⟩
  ·rw [← hc]; simp only [World.cell?,hb]
  ·rw [← hf]; simp only [World.frozen?,hb])
 clear hR hI hc hf
 go_enter Tryz.func23,Tryz.ntmps23
 go_wp2_with (fail)
 go_at_call 58
 refine hcall.out.mono ?_
 rintro e w2 ⟨rfl,h2,h3⟩
 obtain ⟨d0,d1⟩:=hsame.out w2 h3
 have h2H:=Hid.mk h2
 have h3H:=Hid.mk h3
 clear h2 h3
 go_wp2_with (fail)
 go_end0
 exact ⟨rfl,w2,h2H.out,h3H.out,rfl⟩
set_option maxRecDepth 100000 in
set_option maxHeartbeats 1600000 in
theorem text_r (R I M off:Nat) (many:Bool) (st:Inp) (u:Value) (w:World) (hR:RdF R I many w) (hI:InS 120 I st w) (hr:st.1.length≤1000000) (hc:w.cell? ⟨M,off,none⟩=some u) (hf:w.frozen? ⟨M,off,none⟩=false) (hMI:M≠I) :
  Calls Tryz.prog 59 #[.pointer (some ⟨R,0,none⟩),.pointer (some ⟨M,off,none⟩)] w fun e w'=>e= .returned (.tuple #[])∧∃ w1,InS 120 I (textS st).2 w1∧Onl I w w1∧w'=w1.setCell ⟨M,off,none⟩ (.string (bs (textS st).1)):=by
 have hcall:=Hid.mk (itext_any I st hr w hI)
 have c2:w.cell? ⟨R,2,none⟩=some (.pointer (some ⟨I,0,none⟩)):=by rw [cell_of_row _ _ _ _ _ _ hR]; rfl
 have hMw:M < w.heap.size:=by
  rcases Nat.lt_or_ge M w.heap.size with h | h
  ·exact h
  ·simp [World.cell?,Array.getElem?_eq_none h] at hc
 have hsame:=Hid.mk (show ∀ w1,Onl I w w1→w1.cell? ⟨M,off,none⟩=some u∧w1.frozen? ⟨M,off,none⟩=false from fun w1 ho=>by
  have hb:=ho.block M hMw (fun e=>hMI (by cases e; rfl))
  refine ⟨?_,?_⟩
  ·rw [← hc]; simp only [World.cell?,hb]
  ·rw [← hf]; simp only [World.frozen?,hb])
 clear hR hI hc hf
 go_enter Tryz.func59,Tryz.ntmps59
 go_wp2_with (fail)
 go_at_call 88
 refine hcall.out.mono ?_
 rintro e w2 ⟨rfl,h2,h3⟩
 obtain ⟨d0,d1⟩:=hsame.out w2 h3
 have h2H:=Hid.mk h2
 have h3H:=Hid.mk h3
 clear h2 h3
 go_wp2_with (fail)
 go_end0
 exact ⟨rfl,w2,h2H.out,h3H.out,rfl⟩
set_option maxRecDepth 100000 in
set_option maxHeartbeats 1600000 in
theorem flag_r (R I M off:Nat) (many:Bool) (st:Inp) (u:Value) (w:World) (hR:RdF R I many w) (hI:InS 120 I st w)  (hc:w.cell? ⟨M,off,none⟩=some u) (hf:w.frozen? ⟨M,off,none⟩=false) (hMI:M≠I) :
  Calls Tryz.prog 60 #[.pointer (some ⟨R,0,none⟩),.pointer (some ⟨M,off,none⟩)] w fun e w'=>e= .returned (.tuple #[])∧∃ w1,InS 120 I (boolS st).2 w1∧Onl I w w1∧w'=w1.setCell ⟨M,off,none⟩ (.bool (boolS st).1):=by
 have hcall:=Hid.mk (ibool_any I st w hI)
 have c2:w.cell? ⟨R,2,none⟩=some (.pointer (some ⟨I,0,none⟩)):=by rw [cell_of_row _ _ _ _ _ _ hR]; rfl
 have hMw:M < w.heap.size:=by
  rcases Nat.lt_or_ge M w.heap.size with h | h
  ·exact h
  ·simp [World.cell?,Array.getElem?_eq_none h] at hc
 have hsame:=Hid.mk (show ∀ w1,Onl I w w1→w1.cell? ⟨M,off,none⟩=some u∧w1.frozen? ⟨M,off,none⟩=false from fun w1 ho=>by
  have hb:=ho.block M hMw (fun e=>hMI (by cases e; rfl))
  refine ⟨?_,?_⟩
  ·rw [← hc]; simp only [World.cell?,hb]
  ·rw [← hf]; simp only [World.frozen?,hb])
 clear hR hI hc hf
 go_enter Tryz.func60,Tryz.ntmps60
 go_wp2_with (fail)
 go_at_call 90
 refine hcall.out.mono ?_
 rintro e w2 ⟨rfl,h2,h3⟩
 obtain ⟨d0,d1⟩:=hsame.out w2 h3
 have h2H:=Hid.mk h2
 have h3H:=Hid.mk h3
 clear h2 h3
 go_wp2_with (fail)
 go_end0
 exact ⟨rfl,w2,h2H.out,h3H.out,rfl⟩
end Go.Proofs.YtniamhbcmcgonaaGreatDoor
namespace Go.Proofs.YtniamhbcmcgonaaGreatDoor
open Go.RowKit Go.Ev
structure Ent where
 client:Int
 number:Int
 text:Str
def entC (x:Ent):List Value:=[.int .i64 x.client,.int .i64 x.number,.string (bs x.text)]
def goodN (z:Int):Prop:=0≤z∧z≤9007199254740992
def numP (z:Int):Str:=putN z.toNat
theorem numP_le {z:Int} (h:goodN z):(numP z).length≤8:=by unfold numP; exact putN_le (by unfold goodN at h; omega)
def entP (x:Ent):Str:=numP x.client++(numP x.number++textP x.text)
structure EntOk (x:Ent):Prop where
 c:goodN x.client
 n:goodN x.number
 t:x.text.length≤65536
theorem entP_le {x:Ent} (h:EntOk x):(entP x).length≤65600:=by
 unfold entP textP
 have:=numP_le h.c; have:=numP_le h.n; have:=putN_le (n:=x.text.length) (by have:=h.t; omega); have:=h.t
 simp; omega
theorem num_wi (N F M off:Nat) (l:Str) (z:Int) (hz:goodN z) (w:World) (hO:WrAt N F l w) (hL:l.length≤3000000) (hc:w.cell? ⟨M,off,none⟩=some (.int .i64 z)) :
  Calls Tryz.prog 23 #[.pointer (some ⟨F,0,none⟩),.pointer (some ⟨M,off,none⟩)] w fun e w'=>e= .returned (.tuple #[])∧WrAt N F (l++numP z) w'∧Kp F N w w':=by
 obtain ⟨h1,h2⟩:=hz
 have e:z=((z.toNat:Nat):Int):=by omega
 rw [e] at hc
 exact num_w N F M off l z.toNat w hO hL (by omega) hc
theorem Kp.cell {F N:Nat} {w w':World} (h:Kp F N w w') {M off:Nat} (hM:M < N) (hF:M≠F):w'.cell? ⟨M,off,none⟩=w.cell? ⟨M,off,none⟩:=by
 simp only [World.cell?,h.block M hM hF]
set_option maxRecDepth 100000 in
set_option maxHeartbeats 1600000 in
theorem one_w (N F X off:Nat) (l:Str) (x:Ent) (hx:EntOk x) (w:World) (hO:WrAt N F l w) (hL:l.length≤2900000) (hX:X < N) (hXF:X≠F)
  (hc:∀ j,j < 3→w.cell? ⟨X,off+j,none⟩=(entC x)[j]?) :
  Calls Tryz.prog 91 #[.pointer (some ⟨F,0,none⟩),.pointer (some ⟨X,off,none⟩)] w fun e w'=>e= .returned (.tuple #[])∧WrAt N F (l++entP x) w'∧Kp F N w w':=by
 have c0:w.cell? ⟨X,off,none⟩=some (.int .i64 x.client):=hc 0 (by omega)
 have c1:w.cell? ⟨X,off+1,none⟩=some (.int .i64 x.number):=hc 1 (by omega)
 have c2:w.cell? ⟨X,off+2,none⟩=some (.string (bs x.text)):=hc 2 (by omega)
 have c0H:=Hid.mk c0
 have c1H:=Hid.mk c1
 have c2H:=Hid.mk c2
 have hx1:=numP_le hx.c
 have hx2:=numP_le hx.n
 have hOH:=Hid.mk hO
 have hxH:=Hid.mk hx
 have hres:=Hid.mk (show l++entP x=((l++numP x.client)++numP x.number)++textP x.text by unfold entP; simp)
 clear hc c0 c1 c2 hO hx
 go_enter Tryz.func91,Tryz.ntmps91
 go_wp2_with (fail)
 go_at_call 23
 refine (num_wi N F X off l x.client hxH.out.c w hOH.out (by omega) c0H.out).mono ?_
 rintro e w1 ⟨rfl,h2,h3⟩
 have hW1:=Hid.mk h2
 have hK1:=Hid.mk h3
 clear h2 h3
 go_wp2_with (fail)
 go_at_call 23
 refine (num_wi N F X (off+1) _ x.number hxH.out.n w1 hW1.out (by simp; omega) ((hK1.out.cell hX hXF).trans c1H.out)).mono ?_
 rintro e w2 ⟨rfl,h2,h3⟩
 have hW2:=Hid.mk h2
 have hK2:=Hid.mk (hK1.out.trans h3)
 clear h2 h3
 go_wp2_with (fail)
 go_at_call 59
 refine (text_w N F X (off+2) _ x.text w2 hW2.out (by simp; omega) hxH.out.t ((hK2.out.cell hX hXF).trans c2H.out)).mono ?_
 rintro e w3 ⟨rfl,h2,h3⟩
 have hK3:=Hid.mk (hK2.out.trans h3)
 have h2H:=Hid.mk h2
 clear h2 h3
 go_wp2_with (fail)
 go_end0
 exact ⟨rfl,by rw [hres.out]; exact h2H.out,hK3.out⟩
def oneS (st:Inp):Ent × Inp:=(⟨(intS st).1,(intS (intS st).2).1,(textS (intS (intS st).2).2).1⟩,(textS (intS (intS st).2).2).2)
theorem oneS_len (st:Inp):(oneS st).2.1.length≤st.1.length:=by
 unfold oneS
 exact Nat.le_trans (textS_len _) (Nat.le_trans (intS_len _) (intS_len _))
structure Kx (S:Nat→Prop) (w w':World):Prop where
 os:w'.os=w.os
 tape:w'.tape=w.tape
 output:w'.output=w.output
 size:w.heap.size≤w'.heap.size
 block:∀ i,i < w.heap.size→¬ S i→w'.heap[i]?=w.heap[i]?
section
variable {S S':Nat→Prop} {w w1 w2:World}
theorem Kx.refl (S:Nat→Prop) (w:World):Kx S w w:=⟨rfl,rfl,rfl,Nat.le_refl _,fun _ _ _=>rfl⟩
theorem Kx.trans (h:Kx S w w1) (k:Kx S w1 w2):Kx S w w2:=
 ⟨k.os.trans h.os,k.tape.trans h.tape,k.output.trans h.output,Nat.le_trans h.size k.size,fun i hi hn=>(k.block i (Nat.lt_of_lt_of_le hi h.size) hn).trans (h.block i hi hn)⟩
theorem Kx.mono (h:Kx S w w1) (hS:∀ i,i < w.heap.size→S i→S' i):Kx S' w w1:=⟨h.os,h.tape,h.output,h.size,fun i hi hn=>h.block i hi fun hs=>hn (hS i hi hs)⟩
theorem Kx.of (h:Below w.heap.size w w1):Kx S w w1:=⟨h.os,h.tape,h.output,h.size,fun i hi _=>h.block i hi⟩
end
theorem RdF.kx {R I:Nat} {many:Bool} {w w':World} {S:Nat→Prop} (h:RdF R I many w) (hk:Kx S w w') (hS:¬ S R):RdF R I many w':=(hk.block R (Array.getElem?_eq_some_iff.1 h).1 hS).trans h
theorem num_rx (R I M off:Nat) (many:Bool) (st:Inp) (cs:Array Value) (t:TypeId) (w:World) (hR:RdF R I many w) (hI:InS 120 I st w) (hr:st.1.length≤1000000) (hM:w.heap[M]?=some (.cells cs t (0,0))) (ho:off < cs.size) (hMI:M≠I) :
  Calls Tryz.prog 23 #[.pointer (some ⟨R,0,none⟩),.pointer (some ⟨M,off,none⟩)] w fun e w'=>e= .returned (.tuple #[])∧InS 120 I (intS st).2 w'∧w'.heap[M]?=some (.cells (cs.setIfInBounds off (.int .i64 (intS st).1)) t (0,0))∧Kx (fun i=>i=I∨i=M) w w':=by
 have hMw:M < w.heap.size:=(Array.getElem?_eq_some_iff.1 hM).1
 refine (num_r R I M off many st cs[off] w hR hI hr (by rw [cell_of_row _ _ _ _ _ _ hM]; exact Array.getElem?_eq_getElem ho) (frozen_of_row w M off _ _ hM) hMI).mono ?_
 rintro e w' ⟨he,w1,h1,h2,rfl⟩
 have hM1:w1.heap[M]?=some (.cells cs t (0,0)):=(h2.block M hMw (fun e=>hMI (by cases e; rfl))).trans hM
 refine ⟨he,?_,heap_setCell_same w1 M off _ _ _ hM1,?_⟩
 ·unfold InS at h1 ⊢
  rw [Below.heap_setCell _ _ _ _ (fun e=>hMI e.symm)]; exact h1
 ·refine ⟨h2.os,h2.tape,h2.output,by simpa [World.setCell] using h2.size,fun i hi hn=> ?_⟩
  rw [Below.heap_setCell _ _ _ _ (fun e=>hn (.inr e))]
  exact h2.block i hi (fun e=>hn (.inl (by cases e; rfl)))
theorem text_rx (R I M off:Nat) (many:Bool) (st:Inp) (cs:Array Value) (t:TypeId) (w:World) (hR:RdF R I many w) (hI:InS 120 I st w) (hr:st.1.length≤1000000) (hM:w.heap[M]?=some (.cells cs t (0,0))) (ho:off < cs.size) (hMI:M≠I) :
  Calls Tryz.prog 59 #[.pointer (some ⟨R,0,none⟩),.pointer (some ⟨M,off,none⟩)] w fun e w'=>e= .returned (.tuple #[])∧InS 120 I (textS st).2 w'∧w'.heap[M]?=some (.cells (cs.setIfInBounds off (.string (bs (textS st).1))) t (0,0))∧Kx (fun i=>i=I∨i=M) w w':=by
 have hMw:M < w.heap.size:=(Array.getElem?_eq_some_iff.1 hM).1
 refine (text_r R I M off many st cs[off] w hR hI hr (by rw [cell_of_row _ _ _ _ _ _ hM]; exact Array.getElem?_eq_getElem ho) (frozen_of_row w M off _ _ hM) hMI).mono ?_
 rintro e w' ⟨he,w1,h1,h2,rfl⟩
 have hM1:w1.heap[M]?=some (.cells cs t (0,0)):=(h2.block M hMw (fun e=>hMI (by cases e; rfl))).trans hM
 refine ⟨he,?_,heap_setCell_same w1 M off _ _ _ hM1,?_⟩
 ·unfold InS at h1 ⊢
  rw [Below.heap_setCell _ _ _ _ (fun e=>hMI e.symm)]; exact h1
 ·refine ⟨h2.os,h2.tape,h2.output,by simpa [World.setCell] using h2.size,fun i hi hn=> ?_⟩
  rw [Below.heap_setCell _ _ _ _ (fun e=>hn (.inr e))]
  exact h2.block i hi (fun e=>hn (.inl (by cases e; rfl)))
theorem flag_rx (R I M off:Nat) (many:Bool) (st:Inp) (cs:Array Value) (t:TypeId) (w:World) (hR:RdF R I many w) (hI:InS 120 I st w)  (hM:w.heap[M]?=some (.cells cs t (0,0))) (ho:off < cs.size) (hMI:M≠I) :
  Calls Tryz.prog 60 #[.pointer (some ⟨R,0,none⟩),.pointer (some ⟨M,off,none⟩)] w fun e w'=>e= .returned (.tuple #[])∧InS 120 I (boolS st).2 w'∧w'.heap[M]?=some (.cells (cs.setIfInBounds off (.bool (boolS st).1)) t (0,0))∧Kx (fun i=>i=I∨i=M) w w':=by
 have hMw:M < w.heap.size:=(Array.getElem?_eq_some_iff.1 hM).1
 refine (flag_r R I M off many st cs[off] w hR hI (by rw [cell_of_row _ _ _ _ _ _ hM]; exact Array.getElem?_eq_getElem ho) (frozen_of_row w M off _ _ hM) hMI).mono ?_
 rintro e w' ⟨he,w1,h1,h2,rfl⟩
 have hM1:w1.heap[M]?=some (.cells cs t (0,0)):=(h2.block M hMw (fun e=>hMI (by cases e; rfl))).trans hM
 refine ⟨he,?_,heap_setCell_same w1 M off _ _ _ hM1,?_⟩
 ·unfold InS at h1 ⊢
  rw [Below.heap_setCell _ _ _ _ (fun e=>hMI e.symm)]; exact h1
 ·refine ⟨h2.os,h2.tape,h2.output,by simpa [World.setCell] using h2.size,fun i hi hn=> ?_⟩
  rw [Below.heap_setCell _ _ _ _ (fun e=>hn (.inr e))]
  exact h2.block i hi (fun e=>hn (.inl (by cases e; rfl)))
def entPut (cs:Array Value) (off:Nat) (x:Ent):Array Value:=((cs.setIfInBounds off (.int .i64 x.client)).setIfInBounds (off+1) (.int .i64 x.number)).setIfInBounds (off+2) (.string (bs x.text))
set_option maxRecDepth 100000 in
set_option maxHeartbeats 1600000 in
theorem one_r (R I X off:Nat) (many:Bool) (st:Inp) (cs:Array Value) (t:TypeId) (w:World) (hR:RdF R I many w) (hI:InS 120 I st w) (hr:st.1.length≤1000000) (hX:w.heap[X]?=some (.cells cs t (0,0))) (ho:off+2 < cs.size) (hXI:X≠I) (hXR:X≠R) (hRI:R≠I) :
  Calls Tryz.prog 91 #[.pointer (some ⟨R,0,none⟩),.pointer (some ⟨X,off,none⟩)] w fun e w'=>e= .returned (.tuple #[])∧InS 120 I (oneS st).2 w'∧w'.heap[X]?=some (.cells (entPut cs off (oneS st).1) t (0,0))∧Kx (fun i=>i=I∨i=X) w w':=by
 have hnR:¬ (fun i=>i=I∨i=X) R:=fun h=>h.elim hRI (fun e=>hXR e.symm)
 have hRH:=Hid.mk hR
 have hIH:=Hid.mk hI
 have hXH:=Hid.mk hX
 have hl1:=intS_len st
 have hl2:=intS_len (intS st).2
 clear hR hI hX
 have c0:=Hid.mk (num_rx R I X off many st cs t w hRH.out hIH.out hr hXH.out (by omega) hXI)
 go_enter Tryz.func91,Tryz.ntmps91
 go_wp2_with (fail)
 go_at_call 23
 refine c0.out.mono ?_
 rintro e w1 ⟨rfl,h1,h2,h3⟩
 have c1:=Hid.mk (num_rx R I X (off+1) many _ _ t w1 (hRH.out.kx h3 hnR) h1 (by omega) h2 (by simp; omega) hXI)
 have hK1:=Hid.mk h3
 clear c0 h1 h2 h3
 go_wp2_with (fail)
 go_at_call 23
 refine c1.out.mono ?_
 rintro e w2 ⟨rfl,h1,h2,h3⟩
 have hK2:=Hid.mk (hK1.out.trans h3)
 have c2:=Hid.mk (text_rx R I X (off+2) many _ _ t w2 (hRH.out.kx hK2.out hnR) h1 (by omega) h2 (by simp; omega) hXI)
 clear c1 h1 h2 h3
 go_wp2_with (fail)
 go_at_call 59
 refine c2.out.mono ?_
 rintro e w3 ⟨rfl,h1,h2,h3⟩
 have hK3:=Hid.mk (hK2.out.trans h3)
 have h1H:=Hid.mk h1
 have h2H:=Hid.mk h2
 clear c2 h1 h2 h3
 go_wp2_with (fail)
 go_end0
 exact ⟨rfl,h1H.out,h2H.out,hK3.out⟩
end Go.Proofs.YtniamhbcmcgonaaGreatDoor
namespace Go.Proofs.YtniamhbcmcgonaaGreatDoor
open Go.RowKit Go.Ev
theorem take_flat {α:Type} (f:α→Str) (l:List α) (k:Nat) (d:α) (hk:k < l.length):(l.take (k+1)).flatMap f=(l.take k).flatMap f++f (l.getD k d):=by
 rw [List.take_add_one,List.getElem?_eq_getElem hk,List.flatMap_append,List.getD,List.getElem?_eq_getElem hk]
 simp
def Ent.none:Ent:=⟨0,0,[]⟩
def EntsAt (F N:Nat) (w:World) (a:Option Addr) (es:List Ent):Prop:=∀ j,j < es.length→∃ X off,a=some ⟨X,off,Option.none⟩∧X < N∧X≠F∧∀ i,i < 3→w.cell? ⟨X,off+j*3+i,Option.none⟩=(entC (es.getD j Ent.none))[i]?
def entsP (es:List Ent):Str:=numP es.length++es.flatMap entP
theorem pre_flat (es:List Ent) (k:Nat):((es.take k).flatMap entP).length≤(es.flatMap entP).length:=by
 have h:=congrArg List.length (congrArg (List.flatMap entP) (List.take_append_drop k es))
 rw [List.flatMap_append,List.length_append] at h
 omega
theorem getD_mem {α:Type} (l:List α) (k:Nat) (d:α) (h:k < l.length):l.getD k d ∈ l:=by
 rw [List.getD,List.getElem?_eq_getElem h]; exact List.getElem_mem h
set_option maxRecDepth 100000 in
set_option maxHeartbeats 3200000 in
theorem ents_w (N F M off:Nat) (l:Str) (a:Option Addr) (cap:Nat) (es:List Ent) (hes:∀ x ∈ es,EntOk x) (h64:es.length≤64) (hT:(es.flatMap entP).length≤1000000) (w:World) (hO:WrAt N F l w) (hL:l.length≤1000000) (hM:M < N) (hMF:M≠F)
  (hc:w.cell? ⟨M,off,none⟩=some (.slice a es.length cap)) (hA:EntsAt F N w a es) :
  Calls Tryz.prog 63 #[.pointer (some ⟨F,0,none⟩),.pointer (some ⟨M,off,none⟩)] w fun e w'=>e= .returned (.tuple #[])∧WrAt N F (l++entsP es) w'∧Kp F N w w':=by
 have hnn:(es.length:Int)≤64:=by omega
 have hOH:=Hid.mk hO
 have hAH:=Hid.mk hA
 have hNw:=hO.2.1
 have hFN:=hO.1
 have hcH:=Hid.mk hc
 have hesH:=Hid.mk hes
 have hFc:w.cell? ⟨F,2,none⟩=some (.pointer none):=by obtain ⟨_,_,v,hF,_⟩:=hO; rw [cell_of_row _ _ _ _ _ _ hF]; rfl
 have hn8:=numP_le (z:=(es.length:Int)) (by unfold goodN; omega)
 have hall:=fun k=>pre_flat es k
 clear hO hA hes
 go_enter Tryz.func63,Tryz.ntmps63
 go_wp2_with (fail)
 go_at_call 23
 have hBa:Below w.heap.size w (w.alloc (.cells #[.int .i64 (es.length:Nat)] 3)):=(Below.refl _ w).alloc (Nat.le_refl _) _
 refine (num_wi N F w.heap.size 0 l (es.length:Int) (by unfold goodN; omega) _ (hOH.out.below hBa) (by omega) (by rw [cell_of_row _ _ _ _ _ _ (heap_alloc_new w _)]; rfl)).mono ?_
 rintro e w1 ⟨rfl,h2,h3⟩
 have hW1:=Hid.mk h2
 have hK1:=Hid.mk ((Kp.of (hBa.mono hNw)).trans h3)
 have hc1:=(hK1.out.cell hM hMF).trans hcH.out
 have hF1:w1.cell? ⟨F,2,none⟩=some (.pointer none):=by obtain ⟨_,_,v,hF,_⟩:=h2; rw [cell_of_row _ _ _ _ _ _ hF]; rfl
 clear h2 h3 hBa hOH
 obtain ⟨wa,hwa⟩:∃ wa,wa=w:=⟨w,rfl⟩
 go_wp2_with (fail)
 go_loopw [5,22] (fun _ y wr=>∃ k:Nat,k≤es.length∧y= .int .i64 (k:Nat)∧WrAt N F (l++(numP es.length++(es.take k).flatMap entP)) wr∧Kp F N w wr) (fun _ y _=>es.length - (intOf y).toNat)
 case atStart=>exact ⟨0,Nat.zero_le _,rfl,by simpa using hW1.out,hK1.out⟩
 case round=>
  clear hW1 hK1 hc1 hF1
  obtain ⟨k,hk,rfl,hW,hK⟩:=hrel
  have hWH:=Hid.mk hW
  have hKH:=Hid.mk hK
  clear hW hK
  by_cases hlt:k < es.length
  ·have hki:(k:Int) < (es.length:Int):=by omega
   obtain ⟨X,xo,rfl,hXN,hXF,hcell⟩:=hAH.out k hlt
   have hc2:=(hKH.out.cell hM hMF).trans hcH.out
   have hone:=Hid.mk (one_w N F X (xo+k*3) _ (es.getD k Ent.none) (hesH.out _ (getD_mem es k _ hlt)) wr hWH.out (by have:=hall k; rw [List.length_append,List.length_append]; omega) hXN hXF (fun j hj=>(hKH.out.cell hXN hXF).trans (hcell j hj)))
   have htk:=Hid.mk (take_flat entP es k Ent.none hlt)
   clear hcell
   go_wp2_with (fail)
   go_at_call 91
   refine hone.out.mono ?_
   rintro e w2 ⟨rfl,h2,h3⟩
   have h2H:Hid (WrAt N F (l++(numP es.length++(es.take (k+1)).flatMap entP)) w2):= .mk (by rw [htk.out,← List.append_assoc,← List.append_assoc]; rw [← List.append_assoc] at h2; exact h2)
   have h3H:=Hid.mk (hKH.out.trans h3)
   clear h2 h3
   go_wp2_with (fail)
   exact ⟨⟨k+1,by omega,congrArg _ (by omega),h2H.out,h3H.out⟩,by simp [intOf]; omega⟩
  ·obtain rfl:k=es.length:=by omega
   go_wp2_with (fail)
   (try simp only [Exit.inBlock,Exit.then])
   refine bodyPost_ret (results_none rfl _ _ _) rfl ?_
   refine ⟨rfl,?_,hKH.out⟩
   have:=hWH.out
   rw [List.take_length] at this
   exact this
end Go.Proofs.YtniamhbcmcgonaaGreatDoor
namespace Go.Proofs.YtniamhbcmcgonaaGreatDoor
open Go.RowKit Go.Ev
structure RowInfo (t e:TypeId) (size bytes:Nat) (i:TypeInfo) (z:Value):Prop where
 sl:Tryz.prog.underlying t=some (.slice e)
 info:Tryz.prog.info? e=some i
 zero:i.zero=some z
 hsz:i.size=size
 hby:i.bytes=bytes
 hcl:z.cells.size=size
noncomputable def rowInfoB (t e:TypeId) (size bytes:Nat):Bool:=
 (match Tryz.prog.underlying t with | some (.slice x)=>Nat.beq x e | _=>false) &&
 match Tryz.prog.info? e with
 | some i=>(match i.zero with | some z=>Nat.beq i.size size && Nat.beq i.bytes bytes && Nat.beq z.cells.size size | none=>false)
 | none=>false
theorem rowInfo_of {t e:TypeId} {size bytes:Nat} (h:rowInfoB t e size bytes=true):∃ i z,RowInfo t e size bytes i z:=by
 unfold rowInfoB at h
 rw [Bool.and_eq_true] at h
 obtain ⟨h1,h2⟩:=h
 split at h1
 ·rename_i x hx
  obtain rfl:=Nat.eq_of_beq_eq_true h1
  split at h2
  ·rename_i i hi
   split at h2
   ·rename_i z hz
    simp only [Bool.and_eq_true] at h2
    exact ⟨i,z,hx,hi,hz,Nat.eq_of_beq_eq_true h2.1.1,Nat.eq_of_beq_eq_true h2.1.2,Nat.eq_of_beq_eq_true h2.2⟩
   ·cases h2
  ·cases h2
 ·cases h1
theorem entInfo:∃ i z,RowInfo 33 75 3 32 i z:=rowInfo_of (by kernel_rfl)
def entsGo:Nat→List Ent→Inp→List Ent × Inp
 | 0,acc,st=>(acc,st)
 | n+1,acc,st=>if (oneS st).2.2=0 then entsGo n (acc++[(oneS st).1]) (oneS st).2 else (acc,(oneS st).2)
def entsS (st:Inp):List Ent × Bool × Inp:=
 if (intS st).1 < 0∨64 < (intS st).1 then ([],true,(intS st).2) else ((entsGo (intS st).1.toNat [] (intS st).2).1,false,(entsGo (intS st).1.toNat [] (intS st).2).2)
structure Ef3 (a b c:Nat) (W W1:World) (vals:Nat→Value) (P2:Value→World→Prop) (P3:World→Prop) (D:Nat→Bool) (vs:Nat→Value) (w:World):Prop where
 vals:∀ i,D i=true→i≠b→vs i=vals i
 p0:D a=false→w=W
 p1:D a=true→D b=false→w=W1
 p2:D b=true→D c=false→P2 (vs b) w
 p3:D c=true→P3 w
section
variable {a b c:Nat} {W W1 w w':World} {vals:Nat→Value} {P2:Value→World→Prop} {P3:World→Prop} {D:Nat→Bool} {vs:Nat→Value}
theorem Ef3.start (a b c:Nat) (W W1:World) (vals:Nat→Value) (P2:Value→World→Prop) (P3:World→Prop):Ef3 a b c W W1 vals P2 P3 (fun _=>false) (fun _=>undef) W:=
 ⟨fun i h=>(by cases h),fun _=>rfl,fun h=>(by cases h),fun h=>(by cases h),fun h=>(by cases h)⟩
theorem Ef3.pure (h:Ef3 a b c W W1 vals P2 P3 D vs w) {i:Nat} {v:Value} (hi:a≠i∧b≠i∧c≠i) (hv:v=vals i):Ef3 a b c W W1 vals P2 P3 (upd D i true) (upd vs i v) w:=by
 obtain ⟨ha,hb,hc⟩:=hi
 refine ⟨fun j hj hk=> ?_,?_,?_,?_,?_⟩
 ·by_cases e:j=i
  ·subst e; rw [upd_same]; exact hv
  ·rw [upd_other _ _ e] at hj ⊢; exact h.vals j hj hk
 ·rw [upd_other _ _ ha]; exact h.p0
 ·rw [upd_other _ _ ha,upd_other _ _ hb]; exact h.p1
 ·rw [upd_other _ _ hb,upd_other _ _ hc,upd_other _ _ hb]; exact h.p2
 ·rw [upd_other _ _ hc]; exact h.p3
theorem Ef3.one (h:Ef3 a b c W W1 vals P2 P3 D vs w) {v:Value} (hne:a≠b∧a≠c∧b≠c) (hb:D b=false) (hc:D c=false) (hv:v=vals a):Ef3 a b c W W1 vals P2 P3 (upd D a true) (upd vs a v) W1:=by
 obtain ⟨h1,h2,h3⟩:=hne
 refine ⟨fun j hj hk=> ?_,?_,fun _ _=>rfl,?_,?_⟩
 ·by_cases e:j=a
  ·subst e; rw [upd_same]; exact hv
  ·rw [upd_other _ _ e] at hj ⊢; exact h.vals j hj hk
 ·rw [upd_same]; intro h; cases h
 ·rw [upd_other _ _ h1.symm,hb]; intro h; cases h
 ·rw [upd_other _ _ h2.symm,hc]; intro h; cases h
theorem Ef3.two (h:Ef3 a b c W W1 vals P2 P3 D vs w) {v:Value} (hne:a≠b∧a≠c∧b≠c) (ha:D a=true) (hc:D c=false) (hp:P2 v w'):Ef3 a b c W W1 vals P2 P3 (upd D b true) (upd vs b v) w':=by
 obtain ⟨h1,h2,h3⟩:=hne
 refine ⟨fun j hj hk=> ?_,?_,?_,?_,?_⟩
 ·rw [upd_other _ _ hk] at hj ⊢; exact h.vals j hj hk
 ·rw [upd_other _ _ h1,ha]; intro h; cases h
 ·rw [upd_same]; intro _ h; cases h
 ·intro _ _; rw [upd_same]; exact hp
 ·rw [upd_other _ _ h3.symm,hc]; intro h; cases h
theorem Ef3.three (h:Ef3 a b c W W1 vals P2 P3 D vs w) {v:Value} (hne:a≠b∧a≠c∧b≠c) (ha:D a=true) (hb:D b=true) (hp:P3 w') (hv:v=vals c):Ef3 a b c W W1 vals P2 P3 (upd D c true) (upd vs c v) w':=by
 obtain ⟨h1,h2,h3⟩:=hne
 refine ⟨fun j hj hk=> ?_,?_,?_,?_,fun _=>hp⟩
 ·by_cases e:j=c
  ·subst e; rw [upd_same]; exact hv
  ·rw [upd_other _ _ e] at hj ⊢; exact h.vals j hj hk
 ·rw [upd_other _ _ h2,ha]; intro h; cases h
 ·rw [upd_other _ _ h3,hb]; intro _ h; cases h
 ·rw [upd_same]; intro _ h; cases h
end
structure ErS (N R I M off:Nat) (cs:Array Value) (t:TypeId) (w0:World) (acc:List Ent) (st:Inp) (w:World):Prop where
 rd:RdF R I false w
 inp:InS 120 I st w
 msg:∃ v,w.heap[M]?=some (.cells (cs.setIfInBounds off v) t (0,0))∧w.ownsRow N 75 3 v acc.length (acc.flatMap entC)
 kx:Kx (fun i=>i=I∨i=M) w0 w
 ns:N≤w.heap.size
end Go.Proofs.YtniamhbcmcgonaaGreatDoor
namespace Go.Proofs.YtniamhbcmcgonaaGreatDoor
open Go.RowKit Go.Ev
section
variable {N R I M off:Nat} {cs:Array Value} {t:TypeId} {w0 w w':World} {acc:List Ent} {st st':Inp}
theorem ErS.step (h:ErS N R I M off cs t w0 acc st w) (hI:InS 120 I st' w') (hk:Kx (fun i=>i=I) w w') (hRI:R≠I) (hMI:M≠I) (hIN:I < N):ErS N R I M off cs t w0 acc st' w':=by
 obtain ⟨v,h1,h2⟩:=h.msg
 refine ⟨h.rd.kx hk hRI,hI,⟨v,(hk.block M (Array.getElem?_eq_some_iff.1 h1).1 hMI).trans h1,out_same h2 fun g hg=>hk.block g (h2.lt g hg).2 (fun e=>(by have:=(h2.lt g hg).1; omega))⟩,?_,Nat.le_trans h.ns hk.size⟩
 exact h.kx.trans (hk.mono fun i _ hi=> .inl hi)
end
set_option maxRecDepth 100000 in
set_option maxHeartbeats 6400000 in
theorem ents_r (R I M off:Nat) (st:Inp) (cs:Array Value) (t:TypeId) (w:World) (hR:RdF R I false w) (hI:InS 120 I st w) (hr:st.1.length≤1000000) (hM:w.heap[M]?=some (.cells cs t (0,0))) (ho:cs[off]?=some (.slice none 0 0)) (hMI:M≠I) (hMR:M≠R) (hRI:R≠I) :
  Calls Tryz.prog 63 #[.pointer (some ⟨R,0,none⟩),.pointer (some ⟨M,off,none⟩)] w fun e w'=>e= .returned (.tuple #[])∧InS 120 I (entsS st).2.2 w'∧RdF R I (entsS st).2.1 w'∧
   (∃ v,w'.heap[M]?=some (.cells (cs.setIfInBounds off v) t (0,0))∧w'.ownsRow w.heap.size 75 3 v (entsS st).1.length ((entsS st).1.flatMap entC))∧Kx (fun i=>i=I∨i=M∨i=R) w w':=by
 obtain ⟨i0,z0,hInf⟩:=entInfo
 have hm:Tryz.prog.follows .mixedOrders=true:=by kernel_rfl
 have hRw:R < w.heap.size:=(Array.getElem?_eq_some_iff.1 hR).1
 have hIw:I < w.heap.size:=hI.lt
 have hMw:M < w.heap.size:=(Array.getElem?_eq_some_iff.1 hM).1
 have hoff:off < cs.size:=(Array.getElem?_eq_some_iff.1 ho).1
 have c15:w.cell? ⟨M,off,none⟩=some (.slice none 0 0):=by rw [cell_of_row _ _ _ _ _ _ hM]; exact ho
 have hcs0:cs.setIfInBounds off (.slice none 0 0)=cs:=by
  apply Array.ext
  ·simp
  ·intro i h1 h2
   rw [Array.getElem_setIfInBounds]
   split
   ·rename_i e; subst e; rw [Array.getElem?_eq_getElem h2] at ho; exact (Option.some.inj ho).symm
   ·rfl
 have hBa:Below w.heap.size w (w.alloc (.cells #[.int .i64 0] 3)):=(Below.refl _ w).alloc (Nat.le_refl _) _
 have hn0:=heap_alloc_new w (.cells #[.int .i64 0] 3)
 have hcall:=Hid.mk (num_rx R I w.heap.size 0 false st _ _ _ ((hBa.block R hRw).trans hR) (hI.below hBa) hr hn0 (by decide) (by omega))
 have hRH:=Hid.mk hR
 have hMH:=Hid.mk hM
 have hBH:=Hid.mk hBa
 clear hR hI hM ho hn0 hBa
 go_enter Tryz.func63,Tryz.ntmps63
 go_wp2_with (fail)
 go_at_call 23
 refine hcall.out.mono ?_
 rintro e w1 ⟨rfl,h1,h2,h3⟩
 have hk1:Kx (fun i=>i=I) w w1:=⟨h3.os.trans hBH.out.os,h3.tape.trans hBH.out.tape,h3.output.trans hBH.out.output,Nat.le_trans hBH.out.size h3.size,fun i hi hn=>(h3.block i (Nat.lt_of_lt_of_le hi hBH.out.size) (fun e=>e.elim hn (fun e=>(by omega)))).trans (hBH.out.block i hi)⟩
 have hR1:RdF R I false w1:=hRH.out.kx hk1 hRI
 have hS0:Hid (ErS w.heap.size R I M off cs t w [] (intS st).2 w1):= .mk ⟨hR1,h1,⟨.slice none 0 0,by rw [hcs0]; exact (hk1.block M hMw hMI).trans hMH.out,World.ownsRow_nil _ _ _ _⟩,hk1.mono (fun i _ h=> .inl h),hk1.size⟩
 have d2:w1.cell? ⟨R,2,none⟩=some (.pointer (some ⟨I,0,none⟩)):=by rw [cell_of_row _ _ _ _ _ _ hR1]; rfl
 have d3:w1.cell? ⟨R,3,none⟩=some (.bool false):=by rw [cell_of_row _ _ _ _ _ _ hR1]; rfl
 have f3:w1.frozen? ⟨R,3,none⟩=false:=frozen_of_row w1 R 3 _ _ hR1
 have dn:w1.cell? ⟨w.heap.size,0,none⟩=some (.int .i64 (intS st).1):=by rw [cell_of_row _ _ _ _ _ _ h2]; rfl
 have hR1H:=Hid.mk hR1
 have hlen:=intS_len st
 clear hcall h1 h2 h3 hk1 hR1
 by_cases hbad:(intS st).1 < 0∨64 < (intS st).1
 ·have hres:Hid (entsS st=([],true,(intS st).2)):= .mk (by unfold entsS; rw [if_pos hbad])
  have hfin:Hid (InS 120 I (entsS st).2.2 (w1.setCell ⟨R,3,none⟩ (.bool true))∧RdF R I (entsS st).2.1 (w1.setCell ⟨R,3,none⟩ (.bool true))∧
   (∃ v,(w1.setCell ⟨R,3,none⟩ (.bool true)).heap[M]?=some (.cells (cs.setIfInBounds off v) t (0,0))∧(w1.setCell ⟨R,3,none⟩ (.bool true)).ownsRow w.heap.size 75 3 v (entsS st).1.length ((entsS st).1.flatMap entC))∧Kx (fun i=>i=I∨i=M∨i=R) w (w1.setCell ⟨R,3,none⟩ (.bool true))):= .mk (by
   rw [hres.out]
   obtain ⟨v,q1,q2⟩:=hS0.out.msg
   refine ⟨?_,?_,⟨v,?_,?_⟩,?_⟩
   ·have:=hS0.out.inp
    unfold InS at this ⊢
    rw [Below.heap_setCell _ _ _ _ (fun e=>hRI e.symm)]; exact this
   ·have:=heap_setCell_same w1 R 3 _ _ (.bool true) hR1H.out
    exact this
   ·rw [Below.heap_setCell _ _ _ _ hMR]; exact q1
   ·exact out_same q2 fun g hg=>Below.heap_setCell _ _ _ _ (fun e=>(by have:=(q2.lt g hg).1; simp at e; omega))
   ·have hk:=hS0.out.kx
    exact ⟨hk.os,hk.tape,hk.output,by simpa [World.setCell] using hk.size,fun i hi hn=>by
     rw [Below.heap_setCell _ _ _ _ (fun e=>hn (.inr (.inr e)))]
     exact hk.block i hi (fun h=>hn (h.elim .inl fun h=> .inr (.inl h)))⟩)
  clear hS0 hR1H
  rcases hbad with hb | hb
  ·have hb1:((intS st).1 < 0)=True:=eq_true hb
   go_wp2_with (fail)
   (try simp only [Exit.inBlock,Exit.then])
   refine bodyPost_ret (results_none rfl _ _ _) rfl ?_
   exact ⟨rfl,hfin.out⟩
  ·have hb1:((intS st).1 < 0)=False:=eq_false (by omega)
   have hb2:(64 < (intS st).1)=True:=eq_true hb
   go_wp2_with (fail)
   (try simp only [Exit.inBlock,Exit.then])
   refine bodyPost_ret (results_none rfl _ _ _) rfl ?_
   exact ⟨rfl,hfin.out⟩
 ·obtain ⟨n,hn⟩:∃ n:Nat,(intS st).1=(n:Int):=⟨(intS st).1.toNat,by omega⟩
  have hn64:n≤64:=by omega
  have hres:Hid (entsS st=((entsGo n [] (intS st).2).1,false,(entsGo n [] (intS st).2).2)):= .mk (by unfold entsS; rw [if_neg hbad,hn,Int.toNat_natCast])
  rw [hn] at dn
  have hb1:((n:Int) < 0)=False:=eq_false (by omega)
  have hb2:(64 < (n:Int))=False:=eq_false (by omega)
  clear hbad hR1H
  obtain ⟨wb,hwb⟩:∃ wb,wb=w:=⟨w,rfl⟩
  go_wp2_with (fail)
  go_loopw [43] (fun y wr=>∃ (k:Nat) (acc:List Ent) (st':Inp),k≤n∧y= .int .i64 (k:Nat)∧acc.length=k∧entsGo (n - k) acc st'=entsGo n [] (intS st).2∧ErS w.heap.size R I M off cs t w acc st' wr∧st'.1.length≤st.1.length) (fun y _=>n - (intOf y).toNat)
  case atStart=>exact ⟨0,[],_,Nat.zero_le _,rfl,rfl,rfl,hS0.out,hlen⟩
  case round=>
   clear hS0 d2 d3 f3 dn
   obtain ⟨k,acc,st',hk,rfl,hacc,hgo,hS,hl'⟩:=hrel
   have hSH:=Hid.mk hS
   have hgoH:=Hid.mk hgo
   have haccH:=Hid.mk hacc
   clear hS hgo hacc
   by_cases hlt:k < n
   ·have hki:(k:Int) < (n:Int):=by omega
    go_wp2_with (fail)
    go_at_call 91
    generalize hx0:Obj.cells #[Value.int .i64 0,Value.int .i64 0,Value.string { data:=#[] }] 75=ox
    have hXn:(wr.alloc ox).heap[wr.heap.size]?=some (.cells #[.int .i64 0,.int .i64 0,.string ⟨#[]⟩] 75 (0,0)):=by subst hx0; exact heap_alloc_new _ _
    have hBx:Below wr.heap.size wr (wr.alloc ox):=(Below.refl _ wr).alloc (Nat.le_refl _) _
    clear hx0
    have hIr:I < wr.heap.size:=hSH.out.inp.lt
    have hRr:R < wr.heap.size:=(Array.getElem?_eq_some_iff.1 hSH.out.rd).1
    refine (one_r R I wr.heap.size 0 false st' _ _ _ ((hBx.block R hRr).trans hSH.out.rd) (hSH.out.inp.below hBx) (by omega) hXn (by decide) (by omega) (by omega) hRI).mono ?_
    rintro e w2 ⟨rfl,h1,h2,h3⟩
    have hkx:Kx (fun i=>i=I) wr w2:=⟨h3.os.trans hBx.os,h3.tape.trans hBx.tape,h3.output.trans hBx.output,Nat.le_trans hBx.size h3.size,fun i hi hn=>(h3.block i (Nat.lt_of_lt_of_le hi hBx.size) (fun e=>e.elim hn (fun e=>(by omega)))).trans (hBx.block i hi)⟩
    have hS2:=Hid.mk (hSH.out.step h1 hkx hRI hMI hIw)
    have hstep:Hid (∀ m,entsGo (m+1) acc st'=if (oneS st').2.2=0 then entsGo m (acc++[(oneS st').1]) (oneS st').2 else (acc,(oneS st').2)):= .mk fun m=>rfl
    have hl2:=oneS_len st'
    have hXlt:Hid (wr.heap.size < w2.heap.size):= .mk (Array.getElem?_eq_some_iff.1 h2).1
    clear hSH hXn hBx hkx h3
    generalize (oneS st').1=x at*
    generalize (oneS st').2=s2 at*
    have c0:w2.cell? ⟨wr.heap.size,0,none⟩=some (.int .i64 x.client):=by rw [cell_of_row _ _ _ _ _ _ h2]; rfl
    have c1:w2.cell? ⟨wr.heap.size,1,none⟩=some (.int .i64 x.number):=by rw [cell_of_row _ _ _ _ _ _ h2]; rfl
    have c2:w2.cell? ⟨wr.heap.size,2,none⟩=some (.string (bs x.text)):=by rw [cell_of_row _ _ _ _ _ _ h2]; rfl
    have g2:w2.cell? ⟨R,2,none⟩=some (.pointer (some ⟨I,0,none⟩)):=by rw [cell_of_row _ _ _ _ _ _ hS2.out.rd]; rfl
    have hX2:=Hid.mk h2
    clear h1 h2
    go_wp2_with (fail)
    go_at_call 30
    refine (ierr_any I s2 w2 hS2.out.inp).mono ?_
    rintro e w3 ⟨rfl,rfl⟩
    by_cases herr:s2.2=0
    ·have hne:(((s2.2:Nat):Int) !=0)=false:=by rw [ne0_nat,herr]; rfl
     have hnext:=Hid.mk (show entsGo (n - (k+1)) (acc++[x]) s2=entsGo n [] (intS st).2 by
      rw [← hgoH.out,show n - k=(n - (k+1))+1 by omega,hstep.out,if_pos herr])
     clear herr
     go_wp2_with (fail)
     clear c0 c1 c2 g2 hne
     obtain ⟨v0,hM0,hown0⟩:=hS2.out.msg
     have hXd:w3.heap[wr.heap.size]?=some (.cells (entPut #[.int .i64 0,.int .i64 0,.string ⟨#[]⟩] 0 x) 75 (0,0)):=hX2.out
     have cX0:w3.drew.cell? ⟨wr.heap.size,0,none⟩=some (.int .i64 x.client):=by rw [cell_of_row w3.drew _ _ _ _ _ hXd]; rfl
     have cX1:w3.drew.cell? ⟨wr.heap.size,1,none⟩=some (.int .i64 x.number):=by rw [cell_of_row w3.drew _ _ _ _ _ hXd]; rfl
     have cX2:w3.drew.cell? ⟨wr.heap.size,2,none⟩=some (.string (bs x.text)):=by rw [cell_of_row w3.drew _ _ _ _ _ hXd]; rfl
     obtain ⟨W1,hW1⟩:∃ W1,w3.drew.alloc (Obj.cells #[.int .i64 x.client,.int .i64 x.number,.string (bs x.text)] 75)=W1:=⟨_,rfl⟩
     have hb1:Below w3.heap.size w3 W1:=by subst hW1; exact (Below.refl _ w3).drew.alloc (Nat.le_refl _) _
     have hM2w:M < w3.heap.size:=(Array.getElem?_eq_some_iff.1 hM0).1
     have hM1:=Hid.mk (show W1.heap[M]?=some (.cells (cs.setIfInBounds off v0) t (0,0)) from (hb1.block M hM2w).trans hM0)
     have cM0:w3.drew.cell? ⟨M,off,none⟩=some v0:=by rw [cell_of_row w3.drew _ _ _ _ _ hM0]; simp [hoff]
     have cM1:W1.cell? ⟨M,off,none⟩=some v0:=by rw [cell_of_row _ _ _ _ _ _ hM1.out]; simp [hoff]
     have hown1:=Hid.mk (show W1.ownsRow w.heap.size 75 3 v0 acc.length (acc.flatMap entC) from out_same hown0 fun g hg=>hb1.block g (hown0.lt g hg).2)
     have hns1:w.heap.size≤W1.heap.size:=Nat.le_trans hS2.out.ns hb1.size
     have hrow:=Hid.mk (show ∀ j u,(entC x)[j]?=some u→W1.cell? ⟨w3.heap.size,j,none⟩=some u by
      intro j u hu
      have:W1.heap[w3.heap.size]?=some (.cells #[.int .i64 x.client,.int .i64 x.number,.string (bs x.text)] 75 (0,0)):=by subst hW1; exact heap_alloc_new w3.drew _
      rw [cell_of_row _ _ _ _ _ _ this,← hu]
      simp [entC])
     have hsepM:=Hid.mk (show ∀ i,v0.ownBlock=some i→i=M→False from fun i hi e=>by have:=(hown0.lt i hi).1; omega)
     have hfin:=Hid.mk (show ∀ (wq:World) (vq:Value),wq.ownsRow w.heap.size 75 3 vq (acc.length+1) (acc.flatMap entC++entC x)→W1.grownBy wq v0.ownBlock→ErS w.heap.size R I M off cs t w (acc++[x]) s2 (wq.setCell ⟨M,off,none⟩ vq) by
      intro wq vq hq hg
      have h5:=hS2.out
      have keep:∀ i,i < w.heap.size→wq.heap[i]?=w3.heap[i]?:=fun i hi=>(hg.block i (by omega) (fun e=>(by have:=(hown0.lt i e.symm).1; omega))).trans (hb1.block i (by have:=h5.ns; omega))
      have hMq:wq.heap[M]?=some (.cells (cs.setIfInBounds off v0) t (0,0)):=(keep M hMw).trans hM0
      have hsz:w3.heap.size≤wq.heap.size:=Nat.le_trans hb1.size (World.grownBy.size hg)
      refine ⟨?_,?_,⟨vq,?_,?_⟩,?_,?_⟩
      ·unfold RdF
       rw [Below.heap_setCell _ _ _ _ (fun e=>hMR e.symm),keep R hRw]; exact h5.rd
      ·unfold InS
       rw [Below.heap_setCell _ _ _ _ (fun e=>hMI e.symm),keep I hIw]; exact h5.inp
      ·rw [heap_setCell_same wq M off _ _ vq hMq]
       simp
      ·rw [List.length_append,List.flatMap_append]
       simp only [List.flatMap_cons,List.flatMap_nil,List.append_nil]
       exact out_same hq fun g hgv=>Below.heap_setCell _ _ _ _ (fun e=>(by have:=(hq.lt g hgv).1; simp at e; omega))
      ·have hk:=h5.kx
       refine ⟨?_,?_,?_,?_,fun i hi hn=> ?_⟩
       ·exact (World.grownBy.os hg).trans (hb1.os.trans hk.os)
       ·exact (World.grownBy.tape hg).trans (hb1.tape.trans hk.tape)
       ·exact (World.grownBy.output hg).trans (hb1.output.trans hk.output)
       ·simpa [World.setCell] using Nat.le_trans hk.size hsz
       ·rw [Below.heap_setCell _ _ _ _ (fun e=>hn (.inr e)),keep i hi]
        exact hk.block i hi hn
      ·simpa [World.setCell] using Nat.le_trans h5.ns hsz)
     have hS0:=Ef3.start 5 6 8 w3.drew W1 (fun i=>match i with | 0=> .pointer (some ⟨M,off,none⟩) | 1=> .pointer (some ⟨M,off,none⟩) | 2=> .pointer (some ⟨M,off,none⟩) | 3=>v0 | 4=> .agg #[.int .i64 x.client,.int .i64 x.number,.string (bs x.text)] | 5=> .slice (some ⟨w3.heap.size,0,none⟩) 1 1 | 7=> .pointer (some ⟨M,off,none⟩) | _=>undef)
      (fun v' w'=>w'.ownsRow w.heap.size 75 3 v' (acc.length+1) (acc.flatMap entC++entC x)∧W1.grownBy w' v0.ownBlock) (fun w'=>ErS w.heap.size R I M off cs t w (acc++[x]) s2 w')
     clear hM0 hown0 hXd hb1 hX2
     refine Go.Ev.wp_region_inv _ hm (by kernel_rfl) (by kernel_rfl) hS0 ?_
     refine ⟨fun D vs w1 K hQ hd hdep hcl hK=> ?_,?_⟩
     ·go_simp
      exact hK _ _ (hQ.pure (by decide) rfl)
     simp only [Act.put,List.setIfInBounds_toArray,List.set_cons_succ,List.set_cons_zero,Nat.reduceAdd]
     refine ⟨fun D vs w1 K hQ hd hdep hcl hK=> ?_,?_⟩
     ·go_simp
      exact hK _ _ (hQ.pure (by decide) rfl)
     simp only [Act.put,List.setIfInBounds_toArray,List.set_cons_succ,List.set_cons_zero,Nat.reduceAdd]
     refine ⟨fun D vs w1 K hQ hd hdep hcl hK=> ?_,?_⟩
     ·have e1:=hQ.vals 1 (depB hdep 1 (by kernel_rfl)) (by decide)
      simp only at e1
      simp only [e1] at hK ⊢
      go_simp
      exact hK _ _ (hQ.pure (by decide) rfl)
     simp only [Act.put,List.setIfInBounds_toArray,List.set_cons_succ,List.set_cons_zero,Nat.reduceAdd]
     refine ⟨fun D vs w1 K hQ hd hdep hcl hK=> ?_,?_⟩
     ·have e2:=hQ.vals 2 (depB hdep 2 (by kernel_rfl)) (by decide)
      simp only at e2
      simp only [e2] at hK ⊢
      have h6:=closedF hcl 6 3 (by kernel_rfl) hd
      have cM:w1.cell? ⟨M,off,none⟩=some v0:=by
       cases h5:D 5 with
       | false=>rw [hQ.p0 h5]; exact cM0
       | true=>rw [hQ.p1 h5 h6]; exact cM1
      go_simp
      exact hK _ _ (hQ.pure (by decide) rfl)
     simp only [Act.put,List.setIfInBounds_toArray,List.set_cons_succ,List.set_cons_zero,Nat.reduceAdd]
     refine ⟨fun D vs w1 K hQ hd hdep hcl hK=> ?_,?_⟩
     ·have h5:=closedF hcl 5 4 (by kernel_rfl) hd
      obtain rfl:=hQ.p0 h5
      go_simp
      exact hK _ _ (hQ.pure (by decide) rfl)
     simp only [Act.put,List.setIfInBounds_toArray,List.set_cons_succ,List.set_cons_zero,Nat.reduceAdd]
     refine ⟨fun D vs w1 K hQ hd hdep hcl hK=> ?_,?_⟩
     ·have e4:=hQ.vals 4 (depB hdep 4 (by kernel_rfl)) (by decide)
      simp only at e4
      simp only [e4] at hK ⊢
      obtain rfl:=hQ.p0 hd
      have h6:=closedF hcl 6 5 (by kernel_rfl) hd
      have h8:=closedF hcl 8 5 (by kernel_rfl) hd
      go_simp
      exact hK _ _ (hQ.one (by decide) h6 h8 rfl)
     simp only [Act.put,List.setIfInBounds_toArray,List.set_cons_succ,List.set_cons_zero,Nat.reduceAdd]
     refine ⟨fun D vs w1 K hQ hd hdep hcl hK=> ?_,?_⟩
     ·have e3:=hQ.vals 3 (depB hdep 3 (by kernel_rfl)) (by decide)
      simp only at e3
      have e5:=hQ.vals 5 (depB hdep 5 (by kernel_rfl)) (by decide)
      simp only at e5
      have d5:=depB hdep 5 (by kernel_rfl)
      have h8:=closedF hcl 8 6 (by kernel_rfl) hd
      have hw1:=hQ.p1 d5 hd
      refine step_append_lies _ ?ga (.tmp 56) (.tmp 58) 33 ?gb w.heap.size 75 i0 z0 3 32 hInf.sl hInf.info hInf.zero hInf.hsz hInf.hby hInf.hcl (by decide) v0 acc.length (acc.flatMap entC) ?gc (by rw [hw1]; exact hown1.out) ⟨w3.heap.size,0,none⟩ 1 1 (entC x) ?gd rfl ?_ ?_ (by decide) ?_ ?_ (by rw [hw1]; exact hns1) w1.heap.size rfl ?_
      case ga=>rfl
      case gb=>rfl
      case gc=>exact e3
      case gd=>exact e5
      ·intro j u hu
       rw [hw1,Addr.add_lit,Nat.zero_add]
       exact hrow.out j u hu
      ·intro u hu; simp [entC] at hu; rcases hu with rfl | rfl | rfl <;> rfl
      ·have:=haccH.out; unfold maxLen; omega
      ·have:=haccH.out; omega
      intro g' cap2 w' hO' hgr hgb hlt'
      rw [hw1] at hgr
      exact hK _ _ (hQ.two (by decide) d5 h8 ⟨hO',hgr⟩)
     simp only [Act.put,List.setIfInBounds_toArray,List.set_cons_succ,List.set_cons_zero,Nat.reduceAdd]
     refine ⟨fun D vs w1 K hQ hd hdep hcl hK=> ?_,?_⟩
     ·have e0:=hQ.vals 0 (depB hdep 0 (by kernel_rfl)) (by decide)
      simp only at e0
      simp only [e0] at hK ⊢
      go_simp
      exact hK _ _ (hQ.pure (by decide) rfl)
     simp only [Act.put,List.setIfInBounds_toArray,List.set_cons_succ,List.set_cons_zero,Nat.reduceAdd]
     refine ⟨fun D vs w1 K hQ hd hdep hcl hK=> ?_,?_⟩
     ·have e7:=hQ.vals 7 (depB hdep 7 (by kernel_rfl)) (by decide)
      simp only at e7
      have d5:=depB hdep 5 (by kernel_rfl)
      have d6:=depB hdep 6 (by kernel_rfl)
      obtain ⟨hO',hgr⟩:=hQ.p2 d6 hd
      obtain ⟨ga,gc,hv6⟩:=out_slice hO'
      have hM6:w1.heap[M]?=some (.cells (cs.setIfInBounds off v0) t (0,0)):=(hgr.block M (by omega) (fun e=>hsepM.out M e.symm rfl)).trans hM1.out
      have c6:w1.cell? ⟨M,off,none⟩=some v0:=by rw [cell_of_row _ _ _ _ _ _ hM6]; simp [hoff]
      have f6:=frozen_of_row w1 M off _ _ hM6
      rw [hv6] at hO'
      simp only [e7,hv6] at hK ⊢
      have hP3:=hfin.out w1 _ hO' (by exact hgr)
      go_simp
      exact hK undef _ (hQ.three (by decide) d5 d6 hP3 rfl)
     simp only [Act.put,List.setIfInBounds_toArray,List.set_cons_succ,List.set_cons_zero,Nat.reduceAdd]
     intro vs D w4 hQ hall
     have hP:=hQ.p3 (hall 8 (by decide))
     have hPH:=Hid.mk hP
     clear hQ hall hP
     go_wp2_with (fail)
     exact ⟨⟨k+1,acc++[x],s2,by omega,congrArg _ (by omega),by simp [haccH.out],hnext.out,hPH.out,by omega⟩,by simp [intOf]; omega⟩
    ·have hne:(((s2.2:Nat):Int) !=0)=true:=by rw [ne0_nat]; simp [herr]
     have hnext:=Hid.mk (show entsGo n [] (intS st).2=(acc,s2) by
      rw [← hgoH.out,show n - k=(n - (k+1))+1 by omega,hstep.out,if_neg herr])
     clear herr
     go_wp2_with (fail)
     (try simp only [Exit.inBlock,Exit.then])
     refine bodyPost_ret (results_none rfl _ _ _) rfl ?_
     have h5:=hS2.out
     refine ⟨rfl,?_⟩
     rw [hres.out,hnext.out]
     exact ⟨h5.inp,h5.rd,h5.msg,h5.kx.mono fun i _ h=>h.elim .inl fun h=> .inr (.inl h)⟩
   ·obtain rfl:k=n:=by omega
    go_wp2_with (fail)
    (try simp only [Exit.inBlock,Exit.then])
    refine bodyPost_end (results_none rfl _ _ _) rfl ?_
    have hg:=hgoH.out
    rw [Nat.sub_self] at hg
    simp only [entsGo] at hg
    have h5:=hSH.out
    refine ⟨rfl,?_⟩
    rw [hres.out,← hg]
    exact ⟨h5.inp,h5.rd,h5.msg,h5.kx.mono fun i _ h=>h.elim .inl fun h=> .inr (.inl h)⟩
end Go.Proofs.YtniamhbcmcgonaaGreatDoor
namespace Go.Proofs.YtniamhbcmcgonaaGreatDoor
open Go.RowKit Go.Ev
def intRow (l:List Int):Array Value:=(l.map fun z=>Value.int .i64 z).toArray
theorem entInfo2:(Tryz.prog.info? 75).map (fun i=>(i.zero,i.size,i.bytes))=some (some (.agg #[.int .i64 0,.int .i64 0,.string ⟨#[]⟩]),3,32):=by kernel_rfl
def numB (z:Int):Bool:=decide (0≤z) && decide (z≤9007199254740992)
theorem numB_good {z:Int} (h:numB z=true):goodN z:=by unfold numB at h; simp at h; exact h
theorem number_any (z:Int) (w:World):Calls Tryz.prog 51 #[.int .i64 z] w fun e w'=>e= .returned (.bool (numB z))∧w=w':=by
 by_cases h0:0≤z
 ·have h1:(0≤z)=True:=eq_true h0
  have hr:Hid (numB z=decide (z≤9007199254740992)):= .mk (by unfold numB; simp [h0])
  clear h0
  go_enter Tryz.func51,Tryz.ntmps51
  go_wp2_with (fail)
  go_ret
  exact ⟨by rw [hr.out]; rfl,rfl⟩
 ·have h1:(0≤z)=False:=eq_false h0
  have hr:Hid (numB z=false):= .mk (by unfold numB; simp [h0])
  clear h0
  go_enter Tryz.func51,Tryz.ntmps51
  go_wp2_with (fail)
  go_ret
  exact ⟨by rw [hr.out]; rfl,rfl⟩
theorem amount_any (w:World):Calls Tryz.prog 27 #[.int .i64 3] w fun e w'=>e= .returned (.bool true)∧w=w':=by
 go_enter Tryz.func27,Tryz.ntmps27
 go_wp2_with (fail)
 go_ret
 exact ⟨rfl,rfl⟩
def entB (x:Ent):Bool:=numB x.client && (decide (x.client < 3) && (numB x.number && (decide (0 < x.number) && decide (x.text.length≤8192))))
theorem entB_ok {x:Ent} (h:entB x=true):EntOk x:=by
 unfold entB at h
 simp only [Bool.and_eq_true,decide_eq_true_eq] at h
 exact ⟨numB_good h.1,numB_good h.2.2.1,by omega⟩
set_option maxRecDepth 100000 in
theorem egood_any (x:Ent) (w:World):Calls Tryz.prog 54 #[.agg #[.int .i64 x.client,.int .i64 x.number,.string (bs x.text)]] w fun e w'=>e= .returned (.bool (entB x))∧Below w.heap.size w w':=by
 have hB:=Hid.mk (show ∀ o,Below w.heap.size w (w.alloc o) from fun o=>(Below.refl _ w).alloc (Nat.le_refl _) o)
 have hsz:=bs_size x.text
 obtain ⟨n1,hn1⟩:∃ b,numB x.client=b:=⟨_,rfl⟩
 obtain ⟨n2,hn2⟩:∃ b,decide (x.client < 3)=b:=⟨_,rfl⟩
 obtain ⟨n3,hn3⟩:∃ b,numB x.number=b:=⟨_,rfl⟩
 obtain ⟨n4,hn4⟩:∃ b,decide (0 < x.number)=b:=⟨_,rfl⟩
 obtain ⟨n5,hn5⟩:∃ b,decide ((x.text.length:Int)≤8192)=b:=⟨_,rfl⟩
 have hres:Hid (entB x=(n1 && (n2 && (n3 && (n4 && n5))))):= .mk (by
  unfold entB
  rw [hn1,hn2,hn3,hn4,← hn5]
  congr 4
  simp
  omega)
 have c1:=Hid.mk fun w=>number_any x.client w
 have c3:=Hid.mk fun w=>number_any x.number w
 rw [hn1] at c1
 rw [hn3] at c3
 clear hn1 hn3
 cases n1 <;> cases n2 <;> cases n3 <;> cases n4
 all_goals
  go_enter Tryz.func54,Tryz.ntmps54
  go_wp2_with (go_at_call 51; ((first | (with_reducible refine (c1.out _).mono ?_) | (with_reducible refine (c3.out _).mono ?_)); rintro e w' ⟨rfl,rfl⟩))
  go_ret
  exact ⟨by rw [hres.out]; rfl,hB.out _⟩
end Go.Proofs.YtniamhbcmcgonaaGreatDoor
