/- The message's data, and its bytes. Printed by genvw.py. A message read: what it comes to. Printed by genvr.py. -/
import Derived.Test.YtniamhbcmcgonaaGreatDoorFrw
import Derived.Deep.CutRange
import Derived.Deep.DeepCutAuto
import Derived.Deep.CutBlock
namespace Go.Proofs.YtniamhbcmcgonaaGreatDoor
open Go.RowKit Go.Ev
structure Ms where
 kind:Int
 from_:Int
 born:Int
 kn:List Int
 view:Int
 last:Int
 op:Int
 commit:Int
 client:Int
 number:Int
 nonce:Int
 text:Str
 full:Bool
 base:Int
 state:Str
 ents:List Ent
def msC (m:Ms) (vk ve:Value):Array Value:=#[.int .i64 m.kind,.int .i64 m.from_,.int .i64 m.born,vk,.int .i64 m.view,.int .i64 m.last,.int .i64 m.op,.int .i64 m.commit,.int .i64 m.client,.int .i64 m.number,.int .i64 m.nonce,.string (bs m.text),.bool m.full,.int .i64 m.base,.string (bs m.state),ve]
structure MsOk (m:Ms):Prop where
 from_:goodN m.from_
 born:goodN m.born
 kn:∀ z ∈ m.kn,goodN z
 view:goodN m.view
 last:goodN m.last
 op:goodN m.op
 commit:goodN m.commit
 client:goodN m.client
 number:goodN m.number
 nonce:goodN m.nonce
 text:m.text.length≤65536
 base:goodN m.base
 state:m.state.length≤65536
 ents:∀ x ∈ m.ents,EntOk x
 e64:m.ents.length≤64
 eT:(m.ents.flatMap entP).length≤1000000
def tailB (m:Ms):Bool:=decide (m.kind=7) || decide (m.kind=8) || decide (m.kind=12) || (decide (m.kind=10) && m.full)
def viewsP (m:Ms):Str:=(((numP m.view++(if m.kind=7 then numP m.last else []))++(if m.kind=6 then [] else numP m.op))++(if m.kind=2∨m.kind=5∨m.kind=7∨m.kind=8∨m.kind=12 then numP m.commit else []))++(if m.kind=2 then entP (m.ents.getD 0 Ent.none) else [])
def lens (m:Ms):Prop:=(numP m.from_).length≤8∧(numP m.born).length≤8∧(numP m.view).length≤8∧(numP m.last).length≤8∧(numP m.op).length≤8∧(numP m.commit).length≤8∧(numP m.client).length≤8∧(numP m.number).length≤8∧(numP m.nonce).length≤8∧(numP m.base).length≤8∧(textP m.text).length≤65600∧(textP m.state).length≤65600
theorem textP_le {s:Str} (h:s.length≤65536):(textP s).length≤65600:=by
 unfold textP
 have:=putN_le (n:=s.length) (by omega)
 simp; omega
theorem MsOk.lens {m:Ms} (h:MsOk m):lens m:=⟨numP_le h.from_,numP_le h.born,numP_le h.view,numP_le h.last,numP_le h.op,numP_le h.commit,numP_le h.client,numP_le h.number,numP_le h.nonce,numP_le h.base,textP_le h.text,textP_le h.state⟩
set_option maxRecDepth 100000 in
set_option maxHeartbeats 6400000 in
theorem views_w (N F M:Nat) (l:Str) (m:Ms) (hg:MsOk m) (vk:Value) (a:Option Addr) (cap:Nat) (w:World) (hO:WrAt N F l w) (hL:l.length≤500000) (hM:M < N) (hMF:M≠F)
  (hc:∀ i,w.cell? ⟨M,i,none⟩=(msC m vk (.slice a m.ents.length cap))[i]?) (hA:EntsAt F N w a m.ents) (h2k:m.kind=2→m.ents.length=1)
  (hk:m.kind=2∨m.kind=3∨m.kind=5∨m.kind=6∨m.kind=7∨m.kind=8∨m.kind=11∨m.kind=12) :
  Calls Tryz.prog 61 #[.pointer (some ⟨M,0,none⟩),.pointer (some ⟨F,0,none⟩)] w fun e w'=>e= .returned (.tuple #[])∧WrAt N F (l++viewsP m) w'∧Kp F N w w':=by
 have hlen:=Hid.mk hg.lens
 have hW:=Hid.mk hO
 have hK:=Hid.mk (Kp.refl F N w)
 have hcH:=Hid.mk hc
 have hgH:=Hid.mk hg
 have hAH:=Hid.mk hA
 clear hO hc hg hA
 have hc:=hcH
 have hg:=hgH
 clear hcH hgH
 rcases hk with hk | hk | hk | hk | hk | hk | hk | hk
 ·as_aux_lemma=>
   have ck0:=Hid.mk (show w.cell? ⟨M,0,none⟩=some (.int .i64 2) from (hc.out 0).trans (by rw [← hk]; rfl))
   have ck:=ck0.out
   have hres:=Hid.mk (show viewsP m=viewsP m from rfl)
   go_enter Tryz.func61,Tryz.ntmps61
   go_wp2_with (fail)
   go_at_call 23
   refine (num_wi N F M 4 _ m.view hg.out.view w hW.out (by obtain ⟨a1,a2,a3,a4,a5,a6,a7,a8,a9,a10,a11,a12⟩:=hlen.out; (try simp only [List.length_append]); (try simp only [List.length_cons,List.length_nil]); omega) ((hK.out.cell hM hMF).trans (hc.out 4))).mono ?_
   rintro e w1 ⟨rfl,h2,h3⟩
   have hW':=Hid.mk h2
   have hK':=Hid.mk (hK.out.trans h3)
   clear h2 h3 hW hK ck
   have hW:=hW'
   have hK:=hK'
   clear hW' hK'
   have ck:=(hK.out.cell hM hMF).trans ck0.out
   go_wp2_with (fail)
   go_at_call 23
   refine (num_wi N F M 6 _ m.op hg.out.op w1 hW.out (by obtain ⟨a1,a2,a3,a4,a5,a6,a7,a8,a9,a10,a11,a12⟩:=hlen.out; (try simp only [List.length_append]); (try simp only [List.length_cons,List.length_nil]); omega) ((hK.out.cell hM hMF).trans (hc.out 6))).mono ?_
   rintro e w2 ⟨rfl,h2,h3⟩
   have hW':=Hid.mk h2
   have hK':=Hid.mk (hK.out.trans h3)
   clear h2 h3 hW hK ck
   have hW:=hW'
   have hK:=hK'
   clear hW' hK'
   have ck:=(hK.out.cell hM hMF).trans ck0.out
   go_wp2_with (fail)
   go_at_call 23
   refine (num_wi N F M 7 _ m.commit hg.out.commit w2 hW.out (by obtain ⟨a1,a2,a3,a4,a5,a6,a7,a8,a9,a10,a11,a12⟩:=hlen.out; (try simp only [List.length_append]); (try simp only [List.length_cons,List.length_nil]); omega) ((hK.out.cell hM hMF).trans (hc.out 7))).mono ?_
   rintro e w3 ⟨rfl,h2,h3⟩
   have hW':=Hid.mk h2
   have hK':=Hid.mk (hK.out.trans h3)
   clear h2 h3 hW hK ck
   have hW:=hW'
   have hK:=hK'
   clear hW' hK'
   have ck:=(hK.out.cell hM hMF).trans ck0.out
   have h1e:=h2k hk
   obtain ⟨X,xo,hax,hXN,hXF,hcell⟩:=hAH.out 0 (by omega)
   rw [hax] at hc
   have ce:=Hid.mk ((hK.out.cell hM hMF (off:=15)).trans (hc.out 15))
   have ce1:w3.cell? ⟨M,15,none⟩=some (.slice (some ⟨X,xo,none⟩) 1 cap):=ce.out.trans (by rw [h1e]; rfl)
   have hone:=Hid.mk (one_w N F X xo _ (m.ents.getD 0 Ent.none) (hg.out.ents _ (getD_mem _ 0 _ (by omega))) w3 hW.out (by obtain ⟨a1,a2,a3,a4,a5,a6,a7,a8,a9,a10,a11,a12⟩:=hlen.out; (try simp only [List.length_append]); (try simp only [List.length_cons,List.length_nil]); omega) hXN hXF (fun j hj=>(hK.out.cell hXN hXF).trans (by have:=hcell j hj; simpa using this)))
   clear hcell ce
   go_wp2_with (fail)
   go_at_call 91
   refine hone.out.mono ?_
   rintro e wz ⟨rfl,h2,h3⟩
   have hW':=Hid.mk h2
   have hK':=Hid.mk (hK.out.trans h3)
   clear h2 h3 hW hK ck
   have hW:=hW'
   have hK:=hK'
   clear hW' hK'
   go_wp2_with (fail)
   go_end0
   refine ⟨rfl,?_,hK.out⟩
   have e:l++viewsP m=(((l++numP m.view)++numP m.op)++numP m.commit)++entP (m.ents.getD 0 Ent.none):=by
    unfold viewsP
    simp [hk]
   rw [e]
   exact hW.out
 ·as_aux_lemma=>
   have ck0:=Hid.mk (show w.cell? ⟨M,0,none⟩=some (.int .i64 3) from (hc.out 0).trans (by rw [← hk]; rfl))
   have ck:=ck0.out
   have hres:=Hid.mk (show viewsP m=viewsP m from rfl)
   go_enter Tryz.func61,Tryz.ntmps61
   go_wp2_with (fail)
   go_at_call 23
   refine (num_wi N F M 4 _ m.view hg.out.view w hW.out (by obtain ⟨a1,a2,a3,a4,a5,a6,a7,a8,a9,a10,a11,a12⟩:=hlen.out; (try simp only [List.length_append]); (try simp only [List.length_cons,List.length_nil]); omega) ((hK.out.cell hM hMF).trans (hc.out 4))).mono ?_
   rintro e w1 ⟨rfl,h2,h3⟩
   have hW':=Hid.mk h2
   have hK':=Hid.mk (hK.out.trans h3)
   clear h2 h3 hW hK ck
   have hW:=hW'
   have hK:=hK'
   clear hW' hK'
   have ck:=(hK.out.cell hM hMF).trans ck0.out
   go_wp2_with (fail)
   go_at_call 23
   refine (num_wi N F M 6 _ m.op hg.out.op w1 hW.out (by obtain ⟨a1,a2,a3,a4,a5,a6,a7,a8,a9,a10,a11,a12⟩:=hlen.out; (try simp only [List.length_append]); (try simp only [List.length_cons,List.length_nil]); omega) ((hK.out.cell hM hMF).trans (hc.out 6))).mono ?_
   rintro e w2 ⟨rfl,h2,h3⟩
   have hW':=Hid.mk h2
   have hK':=Hid.mk (hK.out.trans h3)
   clear h2 h3 hW hK ck
   have hW:=hW'
   have hK:=hK'
   clear hW' hK'
   have ck:=(hK.out.cell hM hMF).trans ck0.out
   go_wp2_with (fail)
   go_end0
   refine ⟨rfl,?_,hK.out⟩
   have e:l++viewsP m=((l++numP m.view)++numP m.op):=by
    unfold viewsP
    simp [hk]
   rw [e]
   exact hW.out
 ·as_aux_lemma=>
   have ck0:=Hid.mk (show w.cell? ⟨M,0,none⟩=some (.int .i64 5) from (hc.out 0).trans (by rw [← hk]; rfl))
   have ck:=ck0.out
   have hres:=Hid.mk (show viewsP m=viewsP m from rfl)
   go_enter Tryz.func61,Tryz.ntmps61
   go_wp2_with (fail)
   go_at_call 23
   refine (num_wi N F M 4 _ m.view hg.out.view w hW.out (by obtain ⟨a1,a2,a3,a4,a5,a6,a7,a8,a9,a10,a11,a12⟩:=hlen.out; (try simp only [List.length_append]); (try simp only [List.length_cons,List.length_nil]); omega) ((hK.out.cell hM hMF).trans (hc.out 4))).mono ?_
   rintro e w1 ⟨rfl,h2,h3⟩
   have hW':=Hid.mk h2
   have hK':=Hid.mk (hK.out.trans h3)
   clear h2 h3 hW hK ck
   have hW:=hW'
   have hK:=hK'
   clear hW' hK'
   have ck:=(hK.out.cell hM hMF).trans ck0.out
   go_wp2_with (fail)
   go_at_call 23
   refine (num_wi N F M 6 _ m.op hg.out.op w1 hW.out (by obtain ⟨a1,a2,a3,a4,a5,a6,a7,a8,a9,a10,a11,a12⟩:=hlen.out; (try simp only [List.length_append]); (try simp only [List.length_cons,List.length_nil]); omega) ((hK.out.cell hM hMF).trans (hc.out 6))).mono ?_
   rintro e w2 ⟨rfl,h2,h3⟩
   have hW':=Hid.mk h2
   have hK':=Hid.mk (hK.out.trans h3)
   clear h2 h3 hW hK ck
   have hW:=hW'
   have hK:=hK'
   clear hW' hK'
   have ck:=(hK.out.cell hM hMF).trans ck0.out
   go_wp2_with (fail)
   go_at_call 23
   refine (num_wi N F M 7 _ m.commit hg.out.commit w2 hW.out (by obtain ⟨a1,a2,a3,a4,a5,a6,a7,a8,a9,a10,a11,a12⟩:=hlen.out; (try simp only [List.length_append]); (try simp only [List.length_cons,List.length_nil]); omega) ((hK.out.cell hM hMF).trans (hc.out 7))).mono ?_
   rintro e w3 ⟨rfl,h2,h3⟩
   have hW':=Hid.mk h2
   have hK':=Hid.mk (hK.out.trans h3)
   clear h2 h3 hW hK ck
   have hW:=hW'
   have hK:=hK'
   clear hW' hK'
   have ck:=(hK.out.cell hM hMF).trans ck0.out
   go_wp2_with (fail)
   go_end0
   refine ⟨rfl,?_,hK.out⟩
   have e:l++viewsP m=(((l++numP m.view)++numP m.op)++numP m.commit):=by
    unfold viewsP
    simp [hk]
   rw [e]
   exact hW.out
 ·as_aux_lemma=>
   have ck0:=Hid.mk (show w.cell? ⟨M,0,none⟩=some (.int .i64 6) from (hc.out 0).trans (by rw [← hk]; rfl))
   have ck:=ck0.out
   have hres:=Hid.mk (show viewsP m=viewsP m from rfl)
   go_enter Tryz.func61,Tryz.ntmps61
   go_wp2_with (fail)
   go_at_call 23
   refine (num_wi N F M 4 _ m.view hg.out.view w hW.out (by obtain ⟨a1,a2,a3,a4,a5,a6,a7,a8,a9,a10,a11,a12⟩:=hlen.out; (try simp only [List.length_append]); (try simp only [List.length_cons,List.length_nil]); omega) ((hK.out.cell hM hMF).trans (hc.out 4))).mono ?_
   rintro e w1 ⟨rfl,h2,h3⟩
   have hW':=Hid.mk h2
   have hK':=Hid.mk (hK.out.trans h3)
   clear h2 h3 hW hK ck
   have hW:=hW'
   have hK:=hK'
   clear hW' hK'
   have ck:=(hK.out.cell hM hMF).trans ck0.out
   go_wp2_with (fail)
   go_end0
   refine ⟨rfl,?_,hK.out⟩
   have e:l++viewsP m=(l++numP m.view):=by
    unfold viewsP
    simp [hk]
   rw [e]
   exact hW.out
 ·as_aux_lemma=>
   have ck0:=Hid.mk (show w.cell? ⟨M,0,none⟩=some (.int .i64 7) from (hc.out 0).trans (by rw [← hk]; rfl))
   have ck:=ck0.out
   have hres:=Hid.mk (show viewsP m=viewsP m from rfl)
   go_enter Tryz.func61,Tryz.ntmps61
   go_wp2_with (fail)
   go_at_call 23
   refine (num_wi N F M 4 _ m.view hg.out.view w hW.out (by obtain ⟨a1,a2,a3,a4,a5,a6,a7,a8,a9,a10,a11,a12⟩:=hlen.out; (try simp only [List.length_append]); (try simp only [List.length_cons,List.length_nil]); omega) ((hK.out.cell hM hMF).trans (hc.out 4))).mono ?_
   rintro e w1 ⟨rfl,h2,h3⟩
   have hW':=Hid.mk h2
   have hK':=Hid.mk (hK.out.trans h3)
   clear h2 h3 hW hK ck
   have hW:=hW'
   have hK:=hK'
   clear hW' hK'
   have ck:=(hK.out.cell hM hMF).trans ck0.out
   go_wp2_with (fail)
   go_at_call 23
   refine (num_wi N F M 5 _ m.last hg.out.last w1 hW.out (by obtain ⟨a1,a2,a3,a4,a5,a6,a7,a8,a9,a10,a11,a12⟩:=hlen.out; (try simp only [List.length_append]); (try simp only [List.length_cons,List.length_nil]); omega) ((hK.out.cell hM hMF).trans (hc.out 5))).mono ?_
   rintro e w2 ⟨rfl,h2,h3⟩
   have hW':=Hid.mk h2
   have hK':=Hid.mk (hK.out.trans h3)
   clear h2 h3 hW hK ck
   have hW:=hW'
   have hK:=hK'
   clear hW' hK'
   have ck:=(hK.out.cell hM hMF).trans ck0.out
   go_wp2_with (fail)
   go_at_call 23
   refine (num_wi N F M 6 _ m.op hg.out.op w2 hW.out (by obtain ⟨a1,a2,a3,a4,a5,a6,a7,a8,a9,a10,a11,a12⟩:=hlen.out; (try simp only [List.length_append]); (try simp only [List.length_cons,List.length_nil]); omega) ((hK.out.cell hM hMF).trans (hc.out 6))).mono ?_
   rintro e w3 ⟨rfl,h2,h3⟩
   have hW':=Hid.mk h2
   have hK':=Hid.mk (hK.out.trans h3)
   clear h2 h3 hW hK ck
   have hW:=hW'
   have hK:=hK'
   clear hW' hK'
   have ck:=(hK.out.cell hM hMF).trans ck0.out
   go_wp2_with (fail)
   go_at_call 23
   refine (num_wi N F M 7 _ m.commit hg.out.commit w3 hW.out (by obtain ⟨a1,a2,a3,a4,a5,a6,a7,a8,a9,a10,a11,a12⟩:=hlen.out; (try simp only [List.length_append]); (try simp only [List.length_cons,List.length_nil]); omega) ((hK.out.cell hM hMF).trans (hc.out 7))).mono ?_
   rintro e w4 ⟨rfl,h2,h3⟩
   have hW':=Hid.mk h2
   have hK':=Hid.mk (hK.out.trans h3)
   clear h2 h3 hW hK ck
   have hW:=hW'
   have hK:=hK'
   clear hW' hK'
   have ck:=(hK.out.cell hM hMF).trans ck0.out
   go_wp2_with (fail)
   go_end0
   refine ⟨rfl,?_,hK.out⟩
   have e:l++viewsP m=((((l++numP m.view)++numP m.last)++numP m.op)++numP m.commit):=by
    unfold viewsP
    simp [hk]
   rw [e]
   exact hW.out
 ·as_aux_lemma=>
   have ck0:=Hid.mk (show w.cell? ⟨M,0,none⟩=some (.int .i64 8) from (hc.out 0).trans (by rw [← hk]; rfl))
   have ck:=ck0.out
   have hres:=Hid.mk (show viewsP m=viewsP m from rfl)
   go_enter Tryz.func61,Tryz.ntmps61
   go_wp2_with (fail)
   go_at_call 23
   refine (num_wi N F M 4 _ m.view hg.out.view w hW.out (by obtain ⟨a1,a2,a3,a4,a5,a6,a7,a8,a9,a10,a11,a12⟩:=hlen.out; (try simp only [List.length_append]); (try simp only [List.length_cons,List.length_nil]); omega) ((hK.out.cell hM hMF).trans (hc.out 4))).mono ?_
   rintro e w1 ⟨rfl,h2,h3⟩
   have hW':=Hid.mk h2
   have hK':=Hid.mk (hK.out.trans h3)
   clear h2 h3 hW hK ck
   have hW:=hW'
   have hK:=hK'
   clear hW' hK'
   have ck:=(hK.out.cell hM hMF).trans ck0.out
   go_wp2_with (fail)
   go_at_call 23
   refine (num_wi N F M 6 _ m.op hg.out.op w1 hW.out (by obtain ⟨a1,a2,a3,a4,a5,a6,a7,a8,a9,a10,a11,a12⟩:=hlen.out; (try simp only [List.length_append]); (try simp only [List.length_cons,List.length_nil]); omega) ((hK.out.cell hM hMF).trans (hc.out 6))).mono ?_
   rintro e w2 ⟨rfl,h2,h3⟩
   have hW':=Hid.mk h2
   have hK':=Hid.mk (hK.out.trans h3)
   clear h2 h3 hW hK ck
   have hW:=hW'
   have hK:=hK'
   clear hW' hK'
   have ck:=(hK.out.cell hM hMF).trans ck0.out
   go_wp2_with (fail)
   go_at_call 23
   refine (num_wi N F M 7 _ m.commit hg.out.commit w2 hW.out (by obtain ⟨a1,a2,a3,a4,a5,a6,a7,a8,a9,a10,a11,a12⟩:=hlen.out; (try simp only [List.length_append]); (try simp only [List.length_cons,List.length_nil]); omega) ((hK.out.cell hM hMF).trans (hc.out 7))).mono ?_
   rintro e w3 ⟨rfl,h2,h3⟩
   have hW':=Hid.mk h2
   have hK':=Hid.mk (hK.out.trans h3)
   clear h2 h3 hW hK ck
   have hW:=hW'
   have hK:=hK'
   clear hW' hK'
   have ck:=(hK.out.cell hM hMF).trans ck0.out
   go_wp2_with (fail)
   go_end0
   refine ⟨rfl,?_,hK.out⟩
   have e:l++viewsP m=(((l++numP m.view)++numP m.op)++numP m.commit):=by
    unfold viewsP
    simp [hk]
   rw [e]
   exact hW.out
 ·as_aux_lemma=>
   have ck0:=Hid.mk (show w.cell? ⟨M,0,none⟩=some (.int .i64 11) from (hc.out 0).trans (by rw [← hk]; rfl))
   have ck:=ck0.out
   have hres:=Hid.mk (show viewsP m=viewsP m from rfl)
   go_enter Tryz.func61,Tryz.ntmps61
   go_wp2_with (fail)
   go_at_call 23
   refine (num_wi N F M 4 _ m.view hg.out.view w hW.out (by obtain ⟨a1,a2,a3,a4,a5,a6,a7,a8,a9,a10,a11,a12⟩:=hlen.out; (try simp only [List.length_append]); (try simp only [List.length_cons,List.length_nil]); omega) ((hK.out.cell hM hMF).trans (hc.out 4))).mono ?_
   rintro e w1 ⟨rfl,h2,h3⟩
   have hW':=Hid.mk h2
   have hK':=Hid.mk (hK.out.trans h3)
   clear h2 h3 hW hK ck
   have hW:=hW'
   have hK:=hK'
   clear hW' hK'
   have ck:=(hK.out.cell hM hMF).trans ck0.out
   go_wp2_with (fail)
   go_at_call 23
   refine (num_wi N F M 6 _ m.op hg.out.op w1 hW.out (by obtain ⟨a1,a2,a3,a4,a5,a6,a7,a8,a9,a10,a11,a12⟩:=hlen.out; (try simp only [List.length_append]); (try simp only [List.length_cons,List.length_nil]); omega) ((hK.out.cell hM hMF).trans (hc.out 6))).mono ?_
   rintro e w2 ⟨rfl,h2,h3⟩
   have hW':=Hid.mk h2
   have hK':=Hid.mk (hK.out.trans h3)
   clear h2 h3 hW hK ck
   have hW:=hW'
   have hK:=hK'
   clear hW' hK'
   have ck:=(hK.out.cell hM hMF).trans ck0.out
   go_wp2_with (fail)
   go_end0
   refine ⟨rfl,?_,hK.out⟩
   have e:l++viewsP m=((l++numP m.view)++numP m.op):=by
    unfold viewsP
    simp [hk]
   rw [e]
   exact hW.out
 ·as_aux_lemma=>
   have ck0:=Hid.mk (show w.cell? ⟨M,0,none⟩=some (.int .i64 12) from (hc.out 0).trans (by rw [← hk]; rfl))
   have ck:=ck0.out
   have hres:=Hid.mk (show viewsP m=viewsP m from rfl)
   go_enter Tryz.func61,Tryz.ntmps61
   go_wp2_with (fail)
   go_at_call 23
   refine (num_wi N F M 4 _ m.view hg.out.view w hW.out (by obtain ⟨a1,a2,a3,a4,a5,a6,a7,a8,a9,a10,a11,a12⟩:=hlen.out; (try simp only [List.length_append]); (try simp only [List.length_cons,List.length_nil]); omega) ((hK.out.cell hM hMF).trans (hc.out 4))).mono ?_
   rintro e w1 ⟨rfl,h2,h3⟩
   have hW':=Hid.mk h2
   have hK':=Hid.mk (hK.out.trans h3)
   clear h2 h3 hW hK ck
   have hW:=hW'
   have hK:=hK'
   clear hW' hK'
   have ck:=(hK.out.cell hM hMF).trans ck0.out
   go_wp2_with (fail)
   go_at_call 23
   refine (num_wi N F M 6 _ m.op hg.out.op w1 hW.out (by obtain ⟨a1,a2,a3,a4,a5,a6,a7,a8,a9,a10,a11,a12⟩:=hlen.out; (try simp only [List.length_append]); (try simp only [List.length_cons,List.length_nil]); omega) ((hK.out.cell hM hMF).trans (hc.out 6))).mono ?_
   rintro e w2 ⟨rfl,h2,h3⟩
   have hW':=Hid.mk h2
   have hK':=Hid.mk (hK.out.trans h3)
   clear h2 h3 hW hK ck
   have hW:=hW'
   have hK:=hK'
   clear hW' hK'
   have ck:=(hK.out.cell hM hMF).trans ck0.out
   go_wp2_with (fail)
   go_at_call 23
   refine (num_wi N F M 7 _ m.commit hg.out.commit w2 hW.out (by obtain ⟨a1,a2,a3,a4,a5,a6,a7,a8,a9,a10,a11,a12⟩:=hlen.out; (try simp only [List.length_append]); (try simp only [List.length_cons,List.length_nil]); omega) ((hK.out.cell hM hMF).trans (hc.out 7))).mono ?_
   rintro e w3 ⟨rfl,h2,h3⟩
   have hW':=Hid.mk h2
   have hK':=Hid.mk (hK.out.trans h3)
   clear h2 h3 hW hK ck
   have hW:=hW'
   have hK:=hK'
   clear hW' hK'
   have ck:=(hK.out.cell hM hMF).trans ck0.out
   go_wp2_with (fail)
   go_end0
   refine ⟨rfl,?_,hK.out⟩
   have e:l++viewsP m=(((l++numP m.view)++numP m.op)++numP m.commit):=by
    unfold viewsP
    simp [hk]
   rw [e]
   exact hW.out
end Go.Proofs.YtniamhbcmcgonaaGreatDoor
namespace Go.Proofs.YtniamhbcmcgonaaGreatDoor
open Go.RowKit Go.Ev
abbrev Rs:=Ms × Inp
def stN (g:Ms→Int→Ms) (p:Rs):Rs:=(g p.1 (intS p.2).1,(intS p.2).2)
def stT (g:Ms→Str→Ms) (p:Rs):Rs:=(g p.1 (textS p.2).1,(textS p.2).2)
def stF (g:Ms→Bool→Ms) (p:Rs):Rs:=(g p.1 (boolS p.2).1,(boolS p.2).2)
def g_from_ (m:Ms) (z:Int):Ms:={ m with from_:=z }
def g_born (m:Ms) (z:Int):Ms:={ m with born:=z }
def g_view (m:Ms) (z:Int):Ms:={ m with view:=z }
def g_last (m:Ms) (z:Int):Ms:={ m with last:=z }
def g_op (m:Ms) (z:Int):Ms:={ m with op:=z }
def g_commit (m:Ms) (z:Int):Ms:={ m with commit:=z }
def g_client (m:Ms) (z:Int):Ms:={ m with client:=z }
def g_number (m:Ms) (z:Int):Ms:={ m with number:=z }
def g_nonce (m:Ms) (z:Int):Ms:={ m with nonce:=z }
def g_base (m:Ms) (z:Int):Ms:={ m with base:=z }
def g_text (m:Ms) (z:Str):Ms:={ m with text:=z }
def g_state (m:Ms) (z:Str):Ms:={ m with state:=z }
def g_full (m:Ms) (z:Bool):Ms:={ m with full:=z }
theorem stN_len (g:Ms→Int→Ms) (p:Rs):(stN g p).2.1.length≤p.2.1.length:=intS_len _
theorem stT_len (g:Ms→Str→Ms) (p:Rs):(stT g p).2.1.length≤p.2.1.length:=textS_len _
theorem stF_len (g:Ms→Bool→Ms) (p:Rs):(stF g p).2.1.length≤p.2.1.length:=boolS_len _
structure RdW (R I M K:Nat) (vk ve:Value) (w0:World) (p:Rs) (w:World):Prop where
 rd:RdF R I false w
 inp:InS 120 I p.2 w
 row:w.heap[M]?=some (.cells (msC p.1 vk ve) 35 (0,0))
 kx:Kx (fun i=>i=I∨i=M∨i=K) w0 w
 len:p.2.1.length≤1000000
 mi:M≠I
 mr:M≠R
 ri:R≠I
section
variable {R I M K:Nat} {vk ve:Value} {w0 w:World} {p:Rs}
theorem rd_num (h:RdW R I M K vk ve w0 p w) (off:Nat) (g:Ms→Int→Ms) (ho:off < 16) (hg:∀ z,(msC p.1 vk ve).setIfInBounds off (.int .i64 z)=msC (g p.1 z) vk ve) :
  Calls Tryz.prog 23 #[.pointer (some ⟨R,0,none⟩),.pointer (some ⟨M,off,none⟩)] w fun e w'=>e= .returned (.tuple #[])∧RdW R I M K vk ve w0 (stN g p) w':=by
 refine (num_rx R I M off false p.2 _ _ w h.rd h.inp h.len h.row ho h.mi).mono ?_
 rintro e w' ⟨he,h1,h2,h3⟩
 rw [hg] at h2
 exact ⟨he,h.rd.kx h3 (fun e=>e.elim h.ri (fun e=>h.mr e.symm)),h1,h2,h.kx.trans (h3.mono fun i _ e=>e.elim .inl fun e=> .inr (.inl e)),Nat.le_trans (stN_len g p) h.len,h.mi,h.mr,h.ri⟩
theorem rd_text (h:RdW R I M K vk ve w0 p w) (off:Nat) (g:Ms→Str→Ms) (ho:off < 16) (hg:∀ z,(msC p.1 vk ve).setIfInBounds off (.string (bs z))=msC (g p.1 z) vk ve) :
  Calls Tryz.prog 59 #[.pointer (some ⟨R,0,none⟩),.pointer (some ⟨M,off,none⟩)] w fun e w'=>e= .returned (.tuple #[])∧RdW R I M K vk ve w0 (stT g p) w':=by
 refine (text_rx R I M off false p.2 _ _ w h.rd h.inp h.len h.row ho h.mi).mono ?_
 rintro e w' ⟨he,h1,h2,h3⟩
 rw [hg] at h2
 exact ⟨he,h.rd.kx h3 (fun e=>e.elim h.ri (fun e=>h.mr e.symm)),h1,h2,h.kx.trans (h3.mono fun i _ e=>e.elim .inl fun e=> .inr (.inl e)),Nat.le_trans (stT_len g p) h.len,h.mi,h.mr,h.ri⟩
theorem rd_flag (h:RdW R I M K vk ve w0 p w) (off:Nat) (g:Ms→Bool→Ms) (ho:off < 16) (hg:∀ z,(msC p.1 vk ve).setIfInBounds off (.bool z)=msC (g p.1 z) vk ve) :
  Calls Tryz.prog 60 #[.pointer (some ⟨R,0,none⟩),.pointer (some ⟨M,off,none⟩)] w fun e w'=>e= .returned (.tuple #[])∧RdW R I M K vk ve w0 (stF g p) w':=by
 refine (flag_rx R I M off false p.2 _ _ w h.rd h.inp h.row ho h.mi).mono ?_
 rintro e w' ⟨he,h1,h2,h3⟩
 rw [hg] at h2
 exact ⟨he,h.rd.kx h3 (fun e=>e.elim h.ri (fun e=>h.mr e.symm)),h1,h2,h.kx.trans (h3.mono fun i _ e=>e.elim .inl fun e=> .inr (.inl e)),Nat.le_trans (stF_len g p) h.len,h.mi,h.mr,h.ri⟩
theorem RdW.ck (h:RdW R I M K vk ve w0 p w) (j:Nat):w.cell? ⟨M,j,none⟩=(msC p.1 vk ve)[j]?:=cell_of_row _ _ _ _ _ _ h.row
end
def viewsS0 (p:Rs):Rs:=
 let q:=stN g_view p
 let q:=if p.1.kind=7 then stN g_last q else q
 let q:=if p.1.kind=6 then q else stN g_op q
 if p.1.kind=2∨p.1.kind=5∨p.1.kind=7∨p.1.kind=8∨p.1.kind=12 then stN g_commit q else q
def viewsS (p:Rs):Rs:=if p.1.kind=2 then ({ (viewsS0 p).1 with ents:=[(oneS (viewsS0 p).2).1] },(oneS (viewsS0 p).2).2) else viewsS0 p
set_option maxRecDepth 100000 in
set_option maxHeartbeats 6400000 in
theorem views_r (R I M K:Nat) (vk:Value) (w0 w:World) (p:Rs) (h:RdW R I M K vk (.slice none 0 0) w0 p w) (he:p.1.ents=[]) (hN:w0.heap.size≤w.heap.size) (hMw:M < w0.heap.size) (hRw:R < w0.heap.size) (hIw:I < w0.heap.size)
  (hk:p.1.kind=2∨p.1.kind=3∨p.1.kind=5∨p.1.kind=6∨p.1.kind=7∨p.1.kind=8∨p.1.kind=11∨p.1.kind=12) :
  Calls Tryz.prog 61 #[.pointer (some ⟨M,0,none⟩),.pointer (some ⟨R,0,none⟩)] w fun e w'=>e= .returned (.tuple #[])∧∃ ve,RdW R I M K vk ve w0 (viewsS p) w'∧w'.ownsRow w0.heap.size 75 3 ve (viewsS p).1.ents.length ((viewsS p).1.ents.flatMap entC)∧(p.1.kind≠2→ve= .slice none 0 0):=by
 have hH:=Hid.mk h
 have heH:=Hid.mk he
 clear h he
 rcases hk with hk | hk | hk | hk | hk | hk | hk | hk
 ·as_aux_lemma=>
   have ck:w.cell? ⟨M,0,none⟩=some (.int .i64 2):=(hH.out.ck 0).trans (by rw [← hk]; rfl)
   go_enter Tryz.func61,Tryz.ntmps61
   go_wp2_with (fail)
   go_at_call 23
   refine (rd_num hH.out 4 g_view (by decide) (fun z=>rfl)).mono ?_
   rintro e w1 ⟨rfl,h2⟩
   have hH':=Hid.mk h2
   clear h2 hH ck
   have hH:=hH'
   clear hH'
   have ck:w1.cell? ⟨M,0,none⟩=some (.int .i64 2):=(hH.out.ck 0).trans (by rw [← hk]; rfl)
   go_wp2_with (fail)
   go_at_call 23
   refine (rd_num hH.out 6 g_op (by decide) (fun z=>rfl)).mono ?_
   rintro e w2 ⟨rfl,h2⟩
   have hH':=Hid.mk h2
   clear h2 hH ck
   have hH:=hH'
   clear hH'
   have ck:w2.cell? ⟨M,0,none⟩=some (.int .i64 2):=(hH.out.ck 0).trans (by rw [← hk]; rfl)
   go_wp2_with (fail)
   go_at_call 23
   refine (rd_num hH.out 7 g_commit (by decide) (fun z=>rfl)).mono ?_
   rintro e w3 ⟨rfl,h2⟩
   have hH':=Hid.mk h2
   clear h2 hH ck
   have hH:=hH'
   clear hH'
   have ck:w3.cell? ⟨M,0,none⟩=some (.int .i64 2):=(hH.out.ck 0).trans (by rw [← hk]; rfl)
   have hv:viewsS0 p=(stN g_commit (stN g_op (stN g_view p))):=by unfold viewsS0; simp [hk]
   rw [← hv] at hH
   have hvH:=Hid.mk hv
   clear hv
   have c15:w3.cell? ⟨M,15,none⟩=some (.slice none 0 0):=(hH.out.ck 15).trans rfl
   have f15:w3.frozen? ⟨M,15,none⟩=false:=frozen_of_row w3 M 15 _ _ hH.out.row
   obtain ⟨i0,hi0,hz0,hz1,hz2⟩:=info_parts entInfo2
   have hsz:=Hid.mk (show w0.heap.size≤w3.heap.size from hH.out.kx.size)
   have hv2:=Hid.mk (show viewsS p=({ (viewsS0 p).1 with ents:=[(oneS (viewsS0 p).2).1] },(oneS (viewsS0 p).2).2) by unfold viewsS; rw [if_pos hk])
   clear hvH
   generalize viewsS0 p=q at*
   obtain ⟨qf,hqf⟩:∃ qf,viewsS p=qf:=⟨_,rfl⟩
   rw [hqf] at hv2
   have hqfH:=Hid.mk hqf
   clear hqf
   go_wp2_with (refine wpList_make_full _ rfl _ _ _ rfl w0.heap.size 75 i0 _ 3 Tryz.underlying33 hi0 hz0 hz1 .i64 .i64 1 1 1 rfl rfl rfl rfl ?b2 ?b3 ?b4 ?_)
   case b2=>rw [hz2]; decide
   case b3=>decide
   case b4=>exact hsz.out
   intro wa hown hgr
   have hMq:M < w3.heap.size:=Nat.lt_of_lt_of_le hMw hsz.out
   have hBa:Below w3.heap.size w3 wa:=(Below.refl _ _).grown hgr (Nat.le_refl _) (fun j hj=>(by cases hj))
   have hrow:wa.heap[M]?=some (.cells (msC q.1 vk (.slice none 0 0)) 35 (0,0)):=(hBa.block M hMq).trans hH.out.row
   have d15:wa.cell? ⟨M,15,none⟩=some (.slice none 0 0):=by rw [cell_of_row _ _ _ _ _ _ hrow]; rfl
   have e15:wa.frozen? ⟨M,15,none⟩=false:=frozen_of_row wa M 15 _ _ hrow
   obtain ⟨cur,hcur,hcs⟩:∃ cur,wa.heap[w3.heap.size]?=some (.cells cur 75 (0,0))∧cur.size=3:=by
    rcases hown.2 with ⟨h1,_⟩ | ⟨g,cap,cur,h1,h2,h3,h4,h5,h6,h7⟩
    ·cases h1
    ·cases h1; exact ⟨cur,h3,by omega⟩
   have hcurH:=Hid.mk hcur
   have hrowH:=Hid.mk hrow
   have hBaH:=Hid.mk hBa
   have hEq:w3.heap.size < wa.heap.size:=(Array.getElem?_eq_some_iff.1 hcur).1
   clear hown hgr hcur hrow hBa c15 f15
   generalize hE:w3.heap.size=E at*
   go_wp2_with (fail)
   go_at_call 91
   have hIE:I < E:=Nat.lt_of_lt_of_le hIw hsz.out
   have hRE:R < E:=Nat.lt_of_lt_of_le hRw hsz.out
   have hset:∀ j,j≠M→(wa.setCell ⟨M,15,none⟩ (.slice (some ⟨E,0,none⟩) 1 1)).heap[j]?=wa.heap[j]?:=fun j hj=>Below.heap_setCell _ _ _ _ hj
   have hrd:RdF R I false (wa.setCell ⟨M,15,none⟩ (.slice (some ⟨E,0,none⟩) 1 1)):=by
    have:=hH.out.rd
    unfold RdF at this ⊢
    rw [hset R (fun e=>hH.out.mr e.symm),hBaH.out.block R hRE]; exact this
   have hin:InS 120 I q.2 (wa.setCell ⟨M,15,none⟩ (.slice (some ⟨E,0,none⟩) 1 1)):=by
    have:=hH.out.inp
    unfold InS at this ⊢
    rw [hset I (fun e=>hH.out.mi e.symm),hBaH.out.block I hIE]; exact this
   refine (one_r R I E 0 false q.2 cur _ _ hrd hin hH.out.len ((hset E (by omega)).trans hcurH.out) (by omega) (by omega) (by omega) hH.out.ri).mono ?_
   rintro e wz ⟨rfl,h1,h2,h3⟩
   have hfin:Hid (RdW R I M K vk (.slice (some ⟨E,0,none⟩) 1 1) w0 qf wz∧wz.ownsRow w0.heap.size 75 3 (.slice (some ⟨E,0,none⟩) 1 1) qf.1.ents.length (qf.1.ents.flatMap entC)):= .mk (by
    rw [hv2.out]
    have hh:=hH.out
    have hMz:wz.heap[M]?=some (.cells (msC { q.1 with ents:=[(oneS q.2).1] } vk (.slice (some ⟨E,0,none⟩) 1 1)) 35 (0,0)):=by
     have e0:=heap_setCell_same wa M 15 _ _ (.slice (some ⟨E,0,none⟩) 1 1) hrowH.out
     rw [h3.block M (by have:=(Array.getElem?_eq_some_iff.1 e0).1; exact this) (fun e=>e.elim hh.mi (fun e=>(by omega)))]
     exact e0
    refine ⟨⟨hrd.kx h3 (fun e=>e.elim hh.ri (fun e=>(by omega))),h1,hMz,?_,Nat.le_trans (oneS_len _) hh.len,hh.mi,hh.mr,hh.ri⟩,?_⟩
    ·have hk:=hh.kx
     refine ⟨h3.os.trans ((hBaH.out.os).trans hk.os),h3.tape.trans ((hBaH.out.tape).trans hk.tape),h3.output.trans ((hBaH.out.output).trans hk.output),?_,fun i hi hn=> ?_⟩
     ·have a1:=hk.size; have a2:=hBaH.out.size; have a3:=h3.size
      simp [World.setCell] at a3
      omega
     ·have hiE:i < E:=Nat.lt_of_lt_of_le hi hsz.out
      have hsi:=h3.block i (by simp [World.setCell]; omega) (fun e=>e.elim (fun e=>hn (.inl e)) (fun e=>(by omega)))
      rw [hsi,hset i (fun e=>hn (.inr (.inl e))),hBaH.out.block i hiE]
      exact hk.block i hi hn
    ·refine ⟨by simp [entC],.inr ⟨E,1,_,rfl,hsz.out,h2,Nat.le_refl _,by decide,?_,?_⟩⟩
     ·simp [entPut,hcs]
     ·simp only [List.length_cons,List.length_nil,List.flatMap_cons,List.flatMap_nil,List.append_nil]
      match cur,hcs with
      | ⟨[a,b,c]⟩,_=>rfl)
   clear h1 h2 h3 hrd hin hset
   go_wp2_with (fail)
   go_end0
   have hf:=hfin.out
   rw [← hqfH.out] at hf
   exact ⟨rfl,_,hf.1,hf.2,fun h=>absurd hk h⟩
 ·as_aux_lemma=>
   have ck:w.cell? ⟨M,0,none⟩=some (.int .i64 3):=(hH.out.ck 0).trans (by rw [← hk]; rfl)
   go_enter Tryz.func61,Tryz.ntmps61
   go_wp2_with (fail)
   go_at_call 23
   refine (rd_num hH.out 4 g_view (by decide) (fun z=>rfl)).mono ?_
   rintro e w1 ⟨rfl,h2⟩
   have hH':=Hid.mk h2
   clear h2 hH ck
   have hH:=hH'
   clear hH'
   have ck:w1.cell? ⟨M,0,none⟩=some (.int .i64 3):=(hH.out.ck 0).trans (by rw [← hk]; rfl)
   go_wp2_with (fail)
   go_at_call 23
   refine (rd_num hH.out 6 g_op (by decide) (fun z=>rfl)).mono ?_
   rintro e w2 ⟨rfl,h2⟩
   have hH':=Hid.mk h2
   clear h2 hH ck
   have hH:=hH'
   clear hH'
   have ck:w2.cell? ⟨M,0,none⟩=some (.int .i64 3):=(hH.out.ck 0).trans (by rw [← hk]; rfl)
   have hv:viewsS0 p=(stN g_op (stN g_view p)):=by unfold viewsS0; simp [hk]
   rw [← hv] at hH
   have hvH:=Hid.mk hv
   clear hv
   go_wp2_with (fail)
   go_end0
   have hv:viewsS p=viewsS0 p:=by unfold viewsS; rw [if_neg (by omega)]
   have he:(viewsS p).1.ents=[]:=by
    rw [hv,hvH.out]; exact heH.out
   refine ⟨rfl,.slice none 0 0,by rw [hv]; exact hH.out,by rw [he]; exact World.ownsRow_nil _ _ _ _,fun _=>rfl⟩
 ·as_aux_lemma=>
   have ck:w.cell? ⟨M,0,none⟩=some (.int .i64 5):=(hH.out.ck 0).trans (by rw [← hk]; rfl)
   go_enter Tryz.func61,Tryz.ntmps61
   go_wp2_with (fail)
   go_at_call 23
   refine (rd_num hH.out 4 g_view (by decide) (fun z=>rfl)).mono ?_
   rintro e w1 ⟨rfl,h2⟩
   have hH':=Hid.mk h2
   clear h2 hH ck
   have hH:=hH'
   clear hH'
   have ck:w1.cell? ⟨M,0,none⟩=some (.int .i64 5):=(hH.out.ck 0).trans (by rw [← hk]; rfl)
   go_wp2_with (fail)
   go_at_call 23
   refine (rd_num hH.out 6 g_op (by decide) (fun z=>rfl)).mono ?_
   rintro e w2 ⟨rfl,h2⟩
   have hH':=Hid.mk h2
   clear h2 hH ck
   have hH:=hH'
   clear hH'
   have ck:w2.cell? ⟨M,0,none⟩=some (.int .i64 5):=(hH.out.ck 0).trans (by rw [← hk]; rfl)
   go_wp2_with (fail)
   go_at_call 23
   refine (rd_num hH.out 7 g_commit (by decide) (fun z=>rfl)).mono ?_
   rintro e w3 ⟨rfl,h2⟩
   have hH':=Hid.mk h2
   clear h2 hH ck
   have hH:=hH'
   clear hH'
   have ck:w3.cell? ⟨M,0,none⟩=some (.int .i64 5):=(hH.out.ck 0).trans (by rw [← hk]; rfl)
   have hv:viewsS0 p=(stN g_commit (stN g_op (stN g_view p))):=by unfold viewsS0; simp [hk]
   rw [← hv] at hH
   have hvH:=Hid.mk hv
   clear hv
   go_wp2_with (fail)
   go_end0
   have hv:viewsS p=viewsS0 p:=by unfold viewsS; rw [if_neg (by omega)]
   have he:(viewsS p).1.ents=[]:=by
    rw [hv,hvH.out]; exact heH.out
   refine ⟨rfl,.slice none 0 0,by rw [hv]; exact hH.out,by rw [he]; exact World.ownsRow_nil _ _ _ _,fun _=>rfl⟩
 ·as_aux_lemma=>
   have ck:w.cell? ⟨M,0,none⟩=some (.int .i64 6):=(hH.out.ck 0).trans (by rw [← hk]; rfl)
   go_enter Tryz.func61,Tryz.ntmps61
   go_wp2_with (fail)
   go_at_call 23
   refine (rd_num hH.out 4 g_view (by decide) (fun z=>rfl)).mono ?_
   rintro e w1 ⟨rfl,h2⟩
   have hH':=Hid.mk h2
   clear h2 hH ck
   have hH:=hH'
   clear hH'
   have ck:w1.cell? ⟨M,0,none⟩=some (.int .i64 6):=(hH.out.ck 0).trans (by rw [← hk]; rfl)
   have hv:viewsS0 p=(stN g_view p):=by unfold viewsS0; simp [hk]
   rw [← hv] at hH
   have hvH:=Hid.mk hv
   clear hv
   go_wp2_with (fail)
   go_end0
   have hv:viewsS p=viewsS0 p:=by unfold viewsS; rw [if_neg (by omega)]
   have he:(viewsS p).1.ents=[]:=by
    rw [hv,hvH.out]; exact heH.out
   refine ⟨rfl,.slice none 0 0,by rw [hv]; exact hH.out,by rw [he]; exact World.ownsRow_nil _ _ _ _,fun _=>rfl⟩
 ·as_aux_lemma=>
   have ck:w.cell? ⟨M,0,none⟩=some (.int .i64 7):=(hH.out.ck 0).trans (by rw [← hk]; rfl)
   go_enter Tryz.func61,Tryz.ntmps61
   go_wp2_with (fail)
   go_at_call 23
   refine (rd_num hH.out 4 g_view (by decide) (fun z=>rfl)).mono ?_
   rintro e w1 ⟨rfl,h2⟩
   have hH':=Hid.mk h2
   clear h2 hH ck
   have hH:=hH'
   clear hH'
   have ck:w1.cell? ⟨M,0,none⟩=some (.int .i64 7):=(hH.out.ck 0).trans (by rw [← hk]; rfl)
   go_wp2_with (fail)
   go_at_call 23
   refine (rd_num hH.out 5 g_last (by decide) (fun z=>rfl)).mono ?_
   rintro e w2 ⟨rfl,h2⟩
   have hH':=Hid.mk h2
   clear h2 hH ck
   have hH:=hH'
   clear hH'
   have ck:w2.cell? ⟨M,0,none⟩=some (.int .i64 7):=(hH.out.ck 0).trans (by rw [← hk]; rfl)
   go_wp2_with (fail)
   go_at_call 23
   refine (rd_num hH.out 6 g_op (by decide) (fun z=>rfl)).mono ?_
   rintro e w3 ⟨rfl,h2⟩
   have hH':=Hid.mk h2
   clear h2 hH ck
   have hH:=hH'
   clear hH'
   have ck:w3.cell? ⟨M,0,none⟩=some (.int .i64 7):=(hH.out.ck 0).trans (by rw [← hk]; rfl)
   go_wp2_with (fail)
   go_at_call 23
   refine (rd_num hH.out 7 g_commit (by decide) (fun z=>rfl)).mono ?_
   rintro e w4 ⟨rfl,h2⟩
   have hH':=Hid.mk h2
   clear h2 hH ck
   have hH:=hH'
   clear hH'
   have ck:w4.cell? ⟨M,0,none⟩=some (.int .i64 7):=(hH.out.ck 0).trans (by rw [← hk]; rfl)
   have hv:viewsS0 p=(stN g_commit (stN g_op (stN g_last (stN g_view p)))):=by unfold viewsS0; simp [hk]
   rw [← hv] at hH
   have hvH:=Hid.mk hv
   clear hv
   go_wp2_with (fail)
   go_end0
   have hv:viewsS p=viewsS0 p:=by unfold viewsS; rw [if_neg (by omega)]
   have he:(viewsS p).1.ents=[]:=by
    rw [hv,hvH.out]; exact heH.out
   refine ⟨rfl,.slice none 0 0,by rw [hv]; exact hH.out,by rw [he]; exact World.ownsRow_nil _ _ _ _,fun _=>rfl⟩
 ·as_aux_lemma=>
   have ck:w.cell? ⟨M,0,none⟩=some (.int .i64 8):=(hH.out.ck 0).trans (by rw [← hk]; rfl)
   go_enter Tryz.func61,Tryz.ntmps61
   go_wp2_with (fail)
   go_at_call 23
   refine (rd_num hH.out 4 g_view (by decide) (fun z=>rfl)).mono ?_
   rintro e w1 ⟨rfl,h2⟩
   have hH':=Hid.mk h2
   clear h2 hH ck
   have hH:=hH'
   clear hH'
   have ck:w1.cell? ⟨M,0,none⟩=some (.int .i64 8):=(hH.out.ck 0).trans (by rw [← hk]; rfl)
   go_wp2_with (fail)
   go_at_call 23
   refine (rd_num hH.out 6 g_op (by decide) (fun z=>rfl)).mono ?_
   rintro e w2 ⟨rfl,h2⟩
   have hH':=Hid.mk h2
   clear h2 hH ck
   have hH:=hH'
   clear hH'
   have ck:w2.cell? ⟨M,0,none⟩=some (.int .i64 8):=(hH.out.ck 0).trans (by rw [← hk]; rfl)
   go_wp2_with (fail)
   go_at_call 23
   refine (rd_num hH.out 7 g_commit (by decide) (fun z=>rfl)).mono ?_
   rintro e w3 ⟨rfl,h2⟩
   have hH':=Hid.mk h2
   clear h2 hH ck
   have hH:=hH'
   clear hH'
   have ck:w3.cell? ⟨M,0,none⟩=some (.int .i64 8):=(hH.out.ck 0).trans (by rw [← hk]; rfl)
   have hv:viewsS0 p=(stN g_commit (stN g_op (stN g_view p))):=by unfold viewsS0; simp [hk]
   rw [← hv] at hH
   have hvH:=Hid.mk hv
   clear hv
   go_wp2_with (fail)
   go_end0
   have hv:viewsS p=viewsS0 p:=by unfold viewsS; rw [if_neg (by omega)]
   have he:(viewsS p).1.ents=[]:=by
    rw [hv,hvH.out]; exact heH.out
   refine ⟨rfl,.slice none 0 0,by rw [hv]; exact hH.out,by rw [he]; exact World.ownsRow_nil _ _ _ _,fun _=>rfl⟩
 ·as_aux_lemma=>
   have ck:w.cell? ⟨M,0,none⟩=some (.int .i64 11):=(hH.out.ck 0).trans (by rw [← hk]; rfl)
   go_enter Tryz.func61,Tryz.ntmps61
   go_wp2_with (fail)
   go_at_call 23
   refine (rd_num hH.out 4 g_view (by decide) (fun z=>rfl)).mono ?_
   rintro e w1 ⟨rfl,h2⟩
   have hH':=Hid.mk h2
   clear h2 hH ck
   have hH:=hH'
   clear hH'
   have ck:w1.cell? ⟨M,0,none⟩=some (.int .i64 11):=(hH.out.ck 0).trans (by rw [← hk]; rfl)
   go_wp2_with (fail)
   go_at_call 23
   refine (rd_num hH.out 6 g_op (by decide) (fun z=>rfl)).mono ?_
   rintro e w2 ⟨rfl,h2⟩
   have hH':=Hid.mk h2
   clear h2 hH ck
   have hH:=hH'
   clear hH'
   have ck:w2.cell? ⟨M,0,none⟩=some (.int .i64 11):=(hH.out.ck 0).trans (by rw [← hk]; rfl)
   have hv:viewsS0 p=(stN g_op (stN g_view p)):=by unfold viewsS0; simp [hk]
   rw [← hv] at hH
   have hvH:=Hid.mk hv
   clear hv
   go_wp2_with (fail)
   go_end0
   have hv:viewsS p=viewsS0 p:=by unfold viewsS; rw [if_neg (by omega)]
   have he:(viewsS p).1.ents=[]:=by
    rw [hv,hvH.out]; exact heH.out
   refine ⟨rfl,.slice none 0 0,by rw [hv]; exact hH.out,by rw [he]; exact World.ownsRow_nil _ _ _ _,fun _=>rfl⟩
 ·as_aux_lemma=>
   have ck:w.cell? ⟨M,0,none⟩=some (.int .i64 12):=(hH.out.ck 0).trans (by rw [← hk]; rfl)
   go_enter Tryz.func61,Tryz.ntmps61
   go_wp2_with (fail)
   go_at_call 23
   refine (rd_num hH.out 4 g_view (by decide) (fun z=>rfl)).mono ?_
   rintro e w1 ⟨rfl,h2⟩
   have hH':=Hid.mk h2
   clear h2 hH ck
   have hH:=hH'
   clear hH'
   have ck:w1.cell? ⟨M,0,none⟩=some (.int .i64 12):=(hH.out.ck 0).trans (by rw [← hk]; rfl)
   go_wp2_with (fail)
   go_at_call 23
   refine (rd_num hH.out 6 g_op (by decide) (fun z=>rfl)).mono ?_
   rintro e w2 ⟨rfl,h2⟩
   have hH':=Hid.mk h2
   clear h2 hH ck
   have hH:=hH'
   clear hH'
   have ck:w2.cell? ⟨M,0,none⟩=some (.int .i64 12):=(hH.out.ck 0).trans (by rw [← hk]; rfl)
   go_wp2_with (fail)
   go_at_call 23
   refine (rd_num hH.out 7 g_commit (by decide) (fun z=>rfl)).mono ?_
   rintro e w3 ⟨rfl,h2⟩
   have hH':=Hid.mk h2
   clear h2 hH ck
   have hH:=hH'
   clear hH'
   have ck:w3.cell? ⟨M,0,none⟩=some (.int .i64 12):=(hH.out.ck 0).trans (by rw [← hk]; rfl)
   have hv:viewsS0 p=(stN g_commit (stN g_op (stN g_view p))):=by unfold viewsS0; simp [hk]
   rw [← hv] at hH
   have hvH:=Hid.mk hv
   clear hv
   go_wp2_with (fail)
   go_end0
   have hv:viewsS p=viewsS0 p:=by unfold viewsS; rw [if_neg (by omega)]
   have he:(viewsS p).1.ents=[]:=by
    rw [hv,hvH.out]; exact heH.out
   refine ⟨rfl,.slice none 0 0,by rw [hv]; exact hH.out,by rw [he]; exact World.ownsRow_nil _ _ _ _,fun _=>rfl⟩
end Go.Proofs.YtniamhbcmcgonaaGreatDoor
