/- format.writer: what it writes of a node; around, item, row. format.writer: atom and again. format.writer: put, whole. format.writer's put, on a tree in memory; what it writes are bytes. format.Text. -/
import Derived.Test.YtmenpmbgennhoaaGreatDoorQuo
import Derived.Test.YtmenpmbgennhoaaGreatDoorMki
namespace Go.Proofs.YtmenpmbgennhoaaGreatDoor
open Go.RowKit
def sepF (c:Int):Nat→List (List Int)→List Int
 | _,[]=>[]
 | i,x::l=>(if 0 < i then [c] else [])++x++sepF c (i+1) l
def arO (o c:Int) (p:List Int):List Int:=[o]++p++[c]
structure WrI where
 kind:Nat
 put:List Int
 head:List Int
def itemO (i:WrI):List Int:=if i.kind=3∨i.kind=4 then arO 40 41 i.put else i.put
def rowO (i:WrI):List Int:=if i.kind=4 then arO 40 41 i.put else i.put
def atomO (i:WrI):List Int:=if i.kind=1∨i.kind=2 then i.put else if i.kind=5 then arO 91 93 i.head else if i.kind=6 then arO 123 125 i.head else arO 40 41 i.put
def againO (i:WrI) (o m c:Int):List Int:=if i.kind=1∨i.kind=2∨i.kind=5∨i.kind=6 then atomO i++[m] else arO o c i.put
def putO (k:Nat) (x:ByteArray) (l:List WrI):List Int:=
 if k=1 then bytesOf x else if k=2 then bytesOf (quoteT x)
 else if k=3 then sepF 32 0 (l.map itemO)
 else if k=4 then sepF 124 0 (l.map rowO)
 else match l with
  | []=>[]
  | i::_=>if k=5 then againO i 91 63 93 else if k=6 then againO i 123 42 125 else if k=7 then atomO i++[43] else []
mutual
def putT:Tr→List Int
 | .mk k x ks=>putO k x (infoK ks)
def headT:Tr→List Int
 | .mk _ _ ks=>headK ks
def headK:List Tr→List Int
 | []=>[]
 | a::_=>putT a
def infoK:List Tr→List WrI
 | []=>[]
 | a::l=>⟨a.kind,putT a,headT a⟩::infoK l
end
def infoT (a:Tr):WrI:=⟨a.kind,putT a,headT a⟩
theorem infoK_map:∀ l:List Tr,infoK l=l.map infoT
 | []=>by rw [infoK]; rfl
 | a::l=>by rw [infoK,infoK_map l]; rfl
def WrC (N B:Nat) (w0:World) (a:Tr) (u:Value):Prop:=∀ (l:List Int) (w:World),BwS N B l w→w0.heap.size≤w.heap.size→Below N w0 w→l.length+(putT a).length≤1000000000→
 Calls Tryz.prog 74 #[.pointer (some ⟨B,0,none⟩),u] w fun e w'=>e= .returned (.tuple #[])∧BwS N B (l++putT a) w'∧Below N w w'∧KpW B w w'
theorem BwS.lt {N B:Nat} {l:List Int} {w:World} (h:BwS N B l w):B < w.heap.size:=by
 obtain ⟨pv,v,h1,h2,h3,h4⟩:=h
 exact (Array.getElem?_eq_some_iff.1 h1).1
set_option maxRecDepth 100000 in
set_option maxHeartbeats 1600000 in
theorem wr_around (N B:Nat) (w0:World) (a:Tr) (s:Value) (hf:∃ p c,s= .slice p a.kids.length c) (hw:WrC N B w0 a (nodeV a s)) (o c:Int) (l:List Int) (w:World) (h:BwS N B l w) (hB:Below N w0 w) (hl:l.length+(arO o c (putT a)).length≤1000000000) :
  Calls Tryz.prog 119 #[.pointer (some ⟨B,0,none⟩),nodeV a s,.int .u8 o,.int .u8 c] w fun e w'=>e= .returned (.tuple #[])∧BwS N B (l++arO o c (putT a)) w'∧Below N w w'∧KpW B w w':=by
 obtain ⟨sp,sc,rfl⟩:=hf
 have hlen:l.length+1+(putT a).length+1≤1000000000:=by simp [arO] at hl; omega
 have hNB:N≤w.heap.size:=Nat.le_of_lt h.le
 have hS1:=Hid.mk (h.blw ((Below.refl _ w).alloc (Nat.le_refl _) (.cells #[.int .i64 (a.kind:Nat),.string a.text,.slice sp a.kids.length sc] 57)))
 have hB1:=Hid.mk (((Below.refl N w).alloc hNB (.cells #[.int .i64 (a.kind:Nat),.string a.text,.slice sp a.kids.length sc] 57)))
 have hK1:=Hid.mk (KpW.of (B:=B) ((Below.refl _ w).alloc (Nat.le_refl _) (.cells #[.int .i64 (a.kind:Nat),.string a.text,.slice sp a.kids.length sc] 57)))
 have hb:=Hid.mk (heap_alloc_new w (.cells #[.int .i64 (a.kind:Nat),.string a.text,.slice sp a.kids.length sc] 57))
 have hlt:=Hid.mk h.lt
 have hwH:=Hid.mk hw
 have hBH:=Hid.mk hB
 have hlH:=Hid.mk hlen
 obtain ⟨W,hW⟩:∃ W,w.heap.size=W:=⟨_,rfl⟩
 rw [hW] at hb hlt
 clear h hB hl hlen hw hNB
 unfold nodeV at*
 go_enter Tryz.func119,Tryz.ntmps119
 go_upto_region 1 with (fail)
 generalize w.alloc (.cells #[.int .i64 (a.kind:Nat),.string a.text,.slice sp a.kids.length sc] 57)=w1 at*
 go_wp2_with (fail)
 refine (writeByte_any N B l o _ hS1.out (by have:=hlH.out; omega)).mono ?_
 rintro e w2 ⟨rfl,hS2,hB2,hK2⟩
 have hb2:=hK2.row hb.out (by have:=hlt.out; omega) (by decide)
 have hw2:=Hid.mk (hwH.out _ w2 hS2.s (Nat.le_trans (hBH.out.trans hB1.out).size hK2.size) ((hBH.out.trans hB1.out).trans hB2) (by have:=hlH.out; simp; omega))
 have a0:w2.cell? ⟨W,0,none⟩=some (.int .i64 (a.kind:Nat)):=by simp [World.cell?,hb2]
 have a1:w2.cell? ⟨W,1,none⟩=some (.string a.text):=by simp [World.cell?,hb2]
 have a2:w2.cell? ⟨W,2,none⟩=some (.slice sp a.kids.length sc):=by simp [World.cell?,hb2]
 have hB2H:=Hid.mk hB2
 have hK2H:=Hid.mk hK2
 clear hb2 hS2 hB2 hK2
 go_wp2_with (fail)
 refine hw2.out.mono ?_
 rintro e w3 ⟨rfl,hS3,hB3,hK3⟩
 have hS3:=Hid.mk hS3
 have hB3:=Hid.mk hB3
 have hK3:=Hid.mk hK3
 go_wp2_with (fail)
 refine (writeByte_any N B _ c _ hS3.out (by have:=hlH.out; simp; omega)).mono ?_
 rintro e w4 ⟨rfl,hS4,hB4,hK4⟩
 have hS4:=Hid.mk hS4
 have hB4:=Hid.mk hB4
 have hK4:=Hid.mk hK4
 go_wp2_with (fail)
 go_end0
 refine ⟨rfl,?_,hB1.out.trans (hB2H.out.trans (hB3.out.trans hB4.out)),hK1.out.trans (hK2H.out.trans (hK3.out.trans hK4.out))⟩
 have:=hS4.out.s
 simpa [arO] using this
set_option maxRecDepth 100000 in
set_option maxHeartbeats 1600000 in
theorem wr_item (N B:Nat) (w0:World) (a:Tr) (s:Value) (hf:∃ p c,s= .slice p a.kids.length c) (hw:WrC N B w0 a (nodeV a s)) (l:List Int) (w:World) (h:BwS N B l w) (hB:Below N w0 w) (hl:l.length+(itemO (infoT a)).length≤1000000000) :
  Calls Tryz.prog 97 #[.pointer (some ⟨B,0,none⟩),nodeV a s] w fun e w'=>e= .returned (.tuple #[])∧BwS N B (l++itemO (infoT a)) w'∧Below N w w'∧KpW B w w':=by
 obtain ⟨sp,sc,rfl⟩:=hf
 have hNB:N≤w.heap.size:=Nat.le_of_lt h.le
 have hA:∀ o,Below N w (w.alloc o):=fun o=>(Below.refl N w).alloc hNB o
 have hA2:∀ o,Below w.heap.size w (w.alloc o):=fun o=>(Below.refl _ w).alloc (Nat.le_refl _) o
 have hS1:=Hid.mk (fun o=>h.blw (hA2 o))
 have hB1:=Hid.mk (fun o=>hB.trans (hA o))
 have hAH:=Hid.mk hA
 have hKH:=Hid.mk (fun o=>KpW.of (B:=B) (hA2 o))
 have hwH:=Hid.mk hw
 have hlH:=Hid.mk hl
 clear h hB hl hw hNB hA hA2
 by_cases q3:a.kind=3
 ·have e3:((a.kind:Int)==3)=true:=by simp; omega
  have hz:itemO (infoT a)=arO 40 41 (putT a):=by unfold itemO; rw [if_pos (by simp only [infoT]; omega)]; rfl
  rw [hz] at hlH ⊢
  clear hz q3
  unfold nodeV at*
  go_enter Tryz.func97,Tryz.ntmps97
  go_wp2_with (fail)
  refine (wr_around N B w0 a _ ⟨_,_,rfl⟩ hwH.out 40 41 l _ (hS1.out _) (hB1.out _) hlH.out).mono ?_
  rintro e w4 ⟨rfl,hS4,hB4,hK4⟩
  have hS4:=Hid.mk hS4
  have hB4:=Hid.mk hB4
  have hK4:=Hid.mk hK4
  go_wp2_with (fail)
  refine bodyPost_ret (results_none rfl _ _ _) rfl ?_
  exact ⟨rfl,hS4.out,(hAH.out _).trans hB4.out,(hKH.out _).trans hK4.out⟩
 ·have e3:((a.kind:Int)==3)=false:=beq_ne (by omega)
  by_cases q4:a.kind=4
  ·have e4:((a.kind:Int)==4)=true:=by simp; omega
   have hz:itemO (infoT a)=arO 40 41 (putT a):=by unfold itemO; rw [if_pos (by simp only [infoT]; omega)]; rfl
   rw [hz] at hlH ⊢
   clear hz q3 q4
   unfold nodeV at*
   go_enter Tryz.func97,Tryz.ntmps97
   go_wp2_with (fail)
   refine (wr_around N B w0 a _ ⟨_,_,rfl⟩ hwH.out 40 41 l _ (hS1.out _) (hB1.out _) hlH.out).mono ?_
   rintro e w4 ⟨rfl,hS4,hB4,hK4⟩
   have hS4:=Hid.mk hS4
   have hB4:=Hid.mk hB4
   have hK4:=Hid.mk hK4
   go_wp2_with (fail)
   refine bodyPost_ret (results_none rfl _ _ _) rfl ?_
   exact ⟨rfl,hS4.out,(hAH.out _).trans hB4.out,(hKH.out _).trans hK4.out⟩
  ·have e4:((a.kind:Int)==4)=false:=beq_ne (by omega)
   have hz:itemO (infoT a)=putT a:=by unfold itemO; rw [if_neg (by simp only [infoT]; omega)]; rfl
   rw [hz] at hlH ⊢
   clear hz q3 q4
   unfold nodeV at*
   go_enter Tryz.func97,Tryz.ntmps97
   go_wp2_with (fail)
   refine (hwH.out l _ (hS1.out _) (hB1.out _).size (hB1.out _) hlH.out).mono ?_
   rintro e w4 ⟨rfl,hS4,hB4,hK4⟩
   have hS4:=Hid.mk hS4
   have hB4:=Hid.mk hB4
   have hK4:=Hid.mk hK4
   go_wp2_with (fail)
   go_end0
   exact ⟨rfl,hS4.out,(hAH.out _).trans hB4.out,(hKH.out _).trans hK4.out⟩
set_option maxRecDepth 100000 in
set_option maxHeartbeats 1600000 in
theorem wr_row (N B:Nat) (w0:World) (a:Tr) (s:Value) (hf:∃ p c,s= .slice p a.kids.length c) (hw:WrC N B w0 a (nodeV a s)) (l:List Int) (w:World) (h:BwS N B l w) (hB:Below N w0 w) (hl:l.length+(rowO (infoT a)).length≤1000000000) :
  Calls Tryz.prog 98 #[.pointer (some ⟨B,0,none⟩),nodeV a s] w fun e w'=>e= .returned (.tuple #[])∧BwS N B (l++rowO (infoT a)) w'∧Below N w w'∧KpW B w w':=by
 obtain ⟨sp,sc,rfl⟩:=hf
 have hNB:N≤w.heap.size:=Nat.le_of_lt h.le
 have hA:∀ o,Below N w (w.alloc o):=fun o=>(Below.refl N w).alloc hNB o
 have hA2:∀ o,Below w.heap.size w (w.alloc o):=fun o=>(Below.refl _ w).alloc (Nat.le_refl _) o
 have hS1:=Hid.mk (fun o=>h.blw (hA2 o))
 have hB1:=Hid.mk (fun o=>hB.trans (hA o))
 have hAH:=Hid.mk hA
 have hKH:=Hid.mk (fun o=>KpW.of (B:=B) (hA2 o))
 have hwH:=Hid.mk hw
 have hlH:=Hid.mk hl
 clear h hB hl hw hNB hA hA2
 by_cases q4:a.kind=4
 ·have e4:((a.kind:Int)==4)=true:=by simp; omega
  have hz:rowO (infoT a)=arO 40 41 (putT a):=by unfold rowO; rw [if_pos (by simp only [infoT]; omega)]; rfl
  rw [hz] at hlH ⊢
  clear hz q4
  unfold nodeV at*
  go_enter Tryz.func98,Tryz.ntmps98
  go_wp2_with (fail)
  refine (wr_around N B w0 a _ ⟨_,_,rfl⟩ hwH.out 40 41 l _ (hS1.out _) (hB1.out _) hlH.out).mono ?_
  rintro e w4 ⟨rfl,hS4,hB4,hK4⟩
  have hS4:=Hid.mk hS4
  have hB4:=Hid.mk hB4
  have hK4:=Hid.mk hK4
  go_wp2_with (fail)
  refine bodyPost_ret (results_none rfl _ _ _) rfl ?_
  exact ⟨rfl,hS4.out,(hAH.out _).trans hB4.out,(hKH.out _).trans hK4.out⟩
 ·have e4:((a.kind:Int)==4)=false:=beq_ne (by omega)
  have hz:rowO (infoT a)=putT a:=by unfold rowO; rw [if_neg (by simp only [infoT]; omega)]; rfl
  rw [hz] at hlH ⊢
  clear hz q4
  unfold nodeV at*
  go_enter Tryz.func98,Tryz.ntmps98
  go_wp2_with (fail)
  refine (hwH.out l _ (hS1.out _) (hB1.out _).size (hB1.out _) hlH.out).mono ?_
  rintro e w4 ⟨rfl,hS4,hB4,hK4⟩
  have hS4:=Hid.mk hS4
  have hB4:=Hid.mk hB4
  have hK4:=Hid.mk hK4
  go_wp2_with (fail)
  go_end0
  exact ⟨rfl,hS4.out,(hAH.out _).trans hB4.out,(hKH.out _).trans hK4.out⟩
end Go.Proofs.YtmenpmbgennhoaaGreatDoor

namespace Go.Proofs.YtmenpmbgennhoaaGreatDoor
open Go.RowKit
def HdC (N B:Nat) (w0:World) (ks:List Tr) (s:Value):Prop:=∃ (b:Tr) (l:List Tr) (sp:Option Addr) (sc g o c:Nat),ks=b::l∧WrC N B w0 b (nodeV b (.slice sp b.kids.length sc))∧s= .slice (some ⟨g,o,none⟩) ks.length c∧g < N∧g < w0.heap.size∧
 ∀ j u,(nodeC b (.slice sp b.kids.length sc))[j]?=some u→w0.cell? ⟨g,o+j,none⟩=some u
theorem atom_head (b:Tr) (l:List Tr):headK (b::l)=putT b:=rfl
theorem headT_kids (a:Tr):headT a=headK a.kids:=by cases a; rfl
set_option maxRecDepth 100000 in
set_option maxHeartbeats 3200000 in
theorem wr_atom (N B:Nat) (w0:World) (a:Tr) (s:Value) (hf:∃ p c,s= .slice p a.kids.length c) (hw:WrC N B w0 a (nodeV a s)) (hd:a.kind=5∨a.kind=6→HdC N B w0 a.kids s) (l:List Int) (w:World) (h:BwS N B l w) (hB:Below N w0 w) (hl:l.length+(atomO (infoT a)).length≤1000000000) :
  Calls Tryz.prog 100 #[.pointer (some ⟨B,0,none⟩),nodeV a s] w fun e w'=>e= .returned (.tuple #[])∧BwS N B (l++atomO (infoT a)) w'∧Below N w w'∧KpW B w w':=by
 obtain ⟨sp,sc,rfl⟩:=hf
 have hNB:N≤w.heap.size:=Nat.le_of_lt h.le
 have hBox:Below w.heap.size w (w.alloc (.cells #[.int .i64 (a.kind:Nat),.string a.text,.slice sp a.kids.length sc] 57)):=(Below.refl _ w).alloc (Nat.le_refl _) _
 have hBoxN:Below N w (w.alloc (.cells #[.int .i64 (a.kind:Nat),.string a.text,.slice sp a.kids.length sc] 57)):=(Below.refl N w).alloc hNB _
 have hS1:=Hid.mk (h.blw hBox)
 have hB1:=Hid.mk hBoxN
 have hK1:=Hid.mk (KpW.of (B:=B) hBox)
 have hW1:=Hid.mk (hB.trans hBoxN)
 have hb:=Hid.mk (heap_alloc_new w (.cells #[.int .i64 (a.kind:Nat),.string a.text,.slice sp a.kids.length sc] 57))
 have hlt:=Hid.mk h.lt
 have hwH:=Hid.mk hw
 have hdH:=Hid.mk hd
 have hlH:=Hid.mk hl
 obtain ⟨W,hW⟩:∃ W,w.heap.size=W:=⟨_,rfl⟩
 rw [hW] at hb hlt
 clear h hB hl hw hNB hd hBox hBoxN
 have hcase:a.kind=1∨a.kind=2∨a.kind=5∨a.kind=6∨(a.kind≠1∧a.kind≠2∧a.kind≠5∧a.kind≠6):=by omega
 rcases hcase with q | q | q | q | q
 ·
  have e1:((a.kind:Int)==1)=true:=by simp; omega
  have hz:atomO (infoT a)=putT a:=by unfold atomO; rw [if_pos (by simp only [infoT]; omega)]; rfl
  rw [hz] at hlH ⊢
  clear hz
  clear q hdH
  unfold nodeV at*
  go_enter Tryz.func100,Tryz.ntmps100
  go_upto_region 1 with (fail)
  generalize w.alloc (.cells #[.int .i64 (a.kind:Nat),.string a.text,.slice sp a.kids.length sc] 57)=w1 at*
  have b0:w1.cell? ⟨W,0,none⟩=some (.int .i64 (a.kind:Nat)):=by simp [World.cell?,hb.out]
  have b1:w1.cell? ⟨W,1,none⟩=some (.string a.text):=by simp [World.cell?,hb.out]
  have b2:w1.cell? ⟨W,2,none⟩=some (.slice sp a.kids.length sc):=by simp [World.cell?,hb.out]
  go_wp2_with (fail)
  refine (hwH.out l _ hS1.out hW1.out.size hW1.out hlH.out).mono ?_
  rintro e w4 ⟨rfl,hS4,hB4,hK4⟩
  have hS4:=Hid.mk hS4
  have hB4:=Hid.mk hB4
  have hK4:=Hid.mk hK4
  go_wp2_with (fail)
  go_end0
  exact ⟨rfl,hS4.out,hB1.out.trans hB4.out,hK1.out.trans hK4.out⟩
 ·
  have e1:((a.kind:Int)==1)=false:=beq_ne (by omega)
  have e2:((a.kind:Int)==2)=true:=by simp; omega
  have hz:atomO (infoT a)=putT a:=by unfold atomO; rw [if_pos (by simp only [infoT]; omega)]; rfl
  rw [hz] at hlH ⊢
  clear hz
  clear q hdH
  unfold nodeV at*
  go_enter Tryz.func100,Tryz.ntmps100
  go_upto_region 1 with (fail)
  generalize w.alloc (.cells #[.int .i64 (a.kind:Nat),.string a.text,.slice sp a.kids.length sc] 57)=w1 at*
  have b0:w1.cell? ⟨W,0,none⟩=some (.int .i64 (a.kind:Nat)):=by simp [World.cell?,hb.out]
  have b1:w1.cell? ⟨W,1,none⟩=some (.string a.text):=by simp [World.cell?,hb.out]
  have b2:w1.cell? ⟨W,2,none⟩=some (.slice sp a.kids.length sc):=by simp [World.cell?,hb.out]
  go_wp2_with (fail)
  refine (hwH.out l _ hS1.out hW1.out.size hW1.out hlH.out).mono ?_
  rintro e w4 ⟨rfl,hS4,hB4,hK4⟩
  have hS4:=Hid.mk hS4
  have hB4:=Hid.mk hB4
  have hK4:=Hid.mk hK4
  go_wp2_with (fail)
  go_end0
  exact ⟨rfl,hS4.out,hB1.out.trans hB4.out,hK1.out.trans hK4.out⟩
 ·
  have e1:((a.kind:Int)==1)=false:=beq_ne (by omega)
  have e2:((a.kind:Int)==2)=false:=beq_ne (by omega)
  have e5:((a.kind:Int)==5)=true:=by simp; omega
  have hz:atomO (infoT a)=arO 91 93 (headT a):=by unfold atomO; rw [if_neg (by simp only [infoT]; omega),if_pos (by simp only [infoT]; omega)]; rfl
  rw [hz] at hlH ⊢
  clear hz
  obtain ⟨b,kl,bp,bc,g,o,c,hks,hwb,hsl,hgN,hgs,hcs⟩:=hdH.out (by omega)
  injection hsl with q1 q2 q3
  subst q1
  subst q3
  have hwb:=Hid.mk hwb
  have hpos:(0:Int) < (a.kids.length:Int):=by rw [hks]; simp
  have hh:headT a=putT b:=by rw [headT_kids,hks,atom_head]
  rw [hh] at hlH ⊢
  clear hh hks
  clear q hdH
  unfold nodeV at*
  go_enter Tryz.func100,Tryz.ntmps100
  go_upto_region 1 with (fail)
  generalize w.alloc (.cells #[.int .i64 (a.kind:Nat),.string a.text,.slice (some ⟨g,o,none⟩) a.kids.length sc] 57)=w1 at*
  have b0:w1.cell? ⟨W,0,none⟩=some (.int .i64 (a.kind:Nat)):=by simp [World.cell?,hb.out]
  have b1:w1.cell? ⟨W,1,none⟩=some (.string a.text):=by simp [World.cell?,hb.out]
  have b2:w1.cell? ⟨W,2,none⟩=some (.slice (some ⟨g,o,none⟩) a.kids.length sc):=by simp [World.cell?,hb.out]
  have hcs:∀ j u,(nodeC b (.slice bp b.kids.length bc))[j]?=some u→w1.cell? ⟨g,o+j,none⟩=some u:=fun j u hu=>(hW1.out.cell (by exact hgN)).trans (hcs j u hu)
  have a0:=hcs 0 _ rfl
  have a1:=hcs 1 _ rfl
  have a2:=hcs 2 _ rfl
  simp only [Nat.add_zero] at a0
  clear hcs
  go_wp2_with (fail)
  refine (wr_around N B w0 b _ ⟨_,_,rfl⟩ hwb.out 91 93 l _ hS1.out hW1.out hlH.out).mono ?_
  rintro e w4 ⟨rfl,hS4,hB4,hK4⟩
  have hS4:=Hid.mk hS4
  have hB4:=Hid.mk hB4
  have hK4:=Hid.mk hK4
  go_wp2_with (fail)
  go_end0
  exact ⟨rfl,hS4.out,hB1.out.trans hB4.out,hK1.out.trans hK4.out⟩
 ·
  have e1:((a.kind:Int)==1)=false:=beq_ne (by omega)
  have e2:((a.kind:Int)==2)=false:=beq_ne (by omega)
  have e5:((a.kind:Int)==5)=false:=beq_ne (by omega)
  have e6:((a.kind:Int)==6)=true:=by simp; omega
  have hz:atomO (infoT a)=arO 123 125 (headT a):=by unfold atomO; rw [if_neg (by simp only [infoT]; omega),if_neg (by simp only [infoT]; omega),if_pos (by simp only [infoT]; omega)]; rfl
  rw [hz] at hlH ⊢
  clear hz
  obtain ⟨b,kl,bp,bc,g,o,c,hks,hwb,hsl,hgN,hgs,hcs⟩:=hdH.out (by omega)
  injection hsl with q1 q2 q3
  subst q1
  subst q3
  have hwb:=Hid.mk hwb
  have hpos:(0:Int) < (a.kids.length:Int):=by rw [hks]; simp
  have hh:headT a=putT b:=by rw [headT_kids,hks,atom_head]
  rw [hh] at hlH ⊢
  clear hh hks
  clear q hdH
  unfold nodeV at*
  go_enter Tryz.func100,Tryz.ntmps100
  go_upto_region 1 with (fail)
  generalize w.alloc (.cells #[.int .i64 (a.kind:Nat),.string a.text,.slice (some ⟨g,o,none⟩) a.kids.length sc] 57)=w1 at*
  have b0:w1.cell? ⟨W,0,none⟩=some (.int .i64 (a.kind:Nat)):=by simp [World.cell?,hb.out]
  have b1:w1.cell? ⟨W,1,none⟩=some (.string a.text):=by simp [World.cell?,hb.out]
  have b2:w1.cell? ⟨W,2,none⟩=some (.slice (some ⟨g,o,none⟩) a.kids.length sc):=by simp [World.cell?,hb.out]
  have hcs:∀ j u,(nodeC b (.slice bp b.kids.length bc))[j]?=some u→w1.cell? ⟨g,o+j,none⟩=some u:=fun j u hu=>(hW1.out.cell (by exact hgN)).trans (hcs j u hu)
  have a0:=hcs 0 _ rfl
  have a1:=hcs 1 _ rfl
  have a2:=hcs 2 _ rfl
  simp only [Nat.add_zero] at a0
  clear hcs
  go_wp2_with (fail)
  refine (wr_around N B w0 b _ ⟨_,_,rfl⟩ hwb.out 123 125 l _ hS1.out hW1.out hlH.out).mono ?_
  rintro e w4 ⟨rfl,hS4,hB4,hK4⟩
  have hS4:=Hid.mk hS4
  have hB4:=Hid.mk hB4
  have hK4:=Hid.mk hK4
  go_wp2_with (fail)
  go_end0
  exact ⟨rfl,hS4.out,hB1.out.trans hB4.out,hK1.out.trans hK4.out⟩
 ·
  have e1:((a.kind:Int)==1)=false:=beq_ne (by omega)
  have e2:((a.kind:Int)==2)=false:=beq_ne (by omega)
  have e5:((a.kind:Int)==5)=false:=beq_ne (by omega)
  have e6:((a.kind:Int)==6)=false:=beq_ne (by omega)
  have hz:atomO (infoT a)=arO 40 41 (putT a):=by unfold atomO; rw [if_neg (by simp only [infoT]; omega),if_neg (by simp only [infoT]; omega),if_neg (by simp only [infoT]; omega)]; rfl
  rw [hz] at hlH ⊢
  clear hz
  clear q hdH
  unfold nodeV at*
  go_enter Tryz.func100,Tryz.ntmps100
  go_upto_region 1 with (fail)
  generalize w.alloc (.cells #[.int .i64 (a.kind:Nat),.string a.text,.slice sp a.kids.length sc] 57)=w1 at*
  have b0:w1.cell? ⟨W,0,none⟩=some (.int .i64 (a.kind:Nat)):=by simp [World.cell?,hb.out]
  have b1:w1.cell? ⟨W,1,none⟩=some (.string a.text):=by simp [World.cell?,hb.out]
  have b2:w1.cell? ⟨W,2,none⟩=some (.slice sp a.kids.length sc):=by simp [World.cell?,hb.out]
  go_wp2_with (fail)
  refine (wr_around N B w0 a _ ⟨_,_,rfl⟩ hwH.out 40 41 l _ hS1.out hW1.out hlH.out).mono ?_
  rintro e w4 ⟨rfl,hS4,hB4,hK4⟩
  have hS4:=Hid.mk hS4
  have hB4:=Hid.mk hB4
  have hK4:=Hid.mk hK4
  go_wp2_with (fail)
  go_end0
  exact ⟨rfl,hS4.out,hB1.out.trans hB4.out,hK1.out.trans hK4.out⟩
set_option maxRecDepth 100000 in
set_option maxHeartbeats 3200000 in
theorem wr_again_opt (N B:Nat) (w0:World) (a:Tr) (s:Value) (hf:∃ p c,s= .slice p a.kids.length c) (hw:WrC N B w0 a (nodeV a s)) (hd:a.kind=5∨a.kind=6→HdC N B w0 a.kids s) (l:List Int) (w:World) (h:BwS N B l w) (hB:Below N w0 w) (hl:l.length+(againO (infoT a) 91 63 93).length≤1000000000) :
  Calls Tryz.prog 99 #[.pointer (some ⟨B,0,none⟩),nodeV a s,.string ⟨#[91,63,93]⟩] w fun e w'=>e= .returned (.tuple #[])∧BwS N B (l++againO (infoT a) 91 63 93) w'∧Below N w w'∧KpW B w w':=by
 have hm:Tryz.prog.follows .mixedOrders=true:=rfl
 have hAt:=Hid.mk (fun l w h hB hl=>wr_atom N B w0 a s hf hw hd l w h hB hl)
 obtain ⟨sp,sc,rfl⟩:=hf
 have hNB:N≤w.heap.size:=Nat.le_of_lt h.le
 have hBox:Below w.heap.size w (w.alloc (.cells #[.int .i64 (a.kind:Nat),.string a.text,.slice sp a.kids.length sc] 57)):=(Below.refl _ w).alloc (Nat.le_refl _) _
 have hBoxN:Below N w (w.alloc (.cells #[.int .i64 (a.kind:Nat),.string a.text,.slice sp a.kids.length sc] 57)):=(Below.refl N w).alloc hNB _
 have hS1:=Hid.mk (h.blw hBox)
 have hB1:=Hid.mk hBoxN
 have hK1:=Hid.mk (KpW.of (B:=B) hBox)
 have hW1:=Hid.mk (hB.trans hBoxN)
 have hb:=Hid.mk (heap_alloc_new w (.cells #[.int .i64 (a.kind:Nat),.string a.text,.slice sp a.kids.length sc] 57))
 have hlt:=Hid.mk h.lt
 have hwH:=Hid.mk hw
 have hdH:=Hid.mk hd
 have hlH:=Hid.mk hl
 obtain ⟨W,hW⟩:∃ W,w.heap.size=W:=⟨_,rfl⟩
 rw [hW] at hb hlt
 clear h hB hl hw hNB hd hBox hBoxN
 have hcase:a.kind=1∨a.kind=2∨a.kind=5∨a.kind=6∨(a.kind≠1∧a.kind≠2∧a.kind≠5∧a.kind≠6):=by omega
 rcases hcase with q | q | q | q | q
 ·
  have e1:((a.kind:Int)==1)=true:=by simp; omega
  have hz:againO (infoT a) 91 63 93=atomO (infoT a)++[63]:=by unfold againO; rw [if_pos (by simp only [infoT]; omega)]
  rw [hz] at hlH ⊢
  clear hz q hdH
  unfold nodeV at*
  go_enter Tryz.func99,Tryz.ntmps99
  go_upto_region 1 with (fail)
  generalize w.alloc (.cells #[.int .i64 (a.kind:Nat),.string a.text,.slice sp a.kids.length sc] 57)=w1 at*
  have b0:w1.cell? ⟨W,0,none⟩=some (.int .i64 (a.kind:Nat)):=by simp [World.cell?,hb.out]
  have b1:w1.cell? ⟨W,1,none⟩=some (.string a.text):=by simp [World.cell?,hb.out]
  have b2:w1.cell? ⟨W,2,none⟩=some (.slice sp a.kids.length sc):=by simp [World.cell?,hb.out]
  have hl1:=Hid.mk (show l.length+(atomO (infoT a)).length+1≤1000000000 by have:=hlH.out; simp at this; omega)
  go_wp2_with (fail)
  refine (hAt.out l _ hS1.out hW1.out (by have:=hl1.out; omega)).mono ?_
  rintro e w2 ⟨rfl,hS2,hB2,hK2⟩
  have hS2:=Hid.mk hS2
  have hB2:=Hid.mk hB2
  have hK2:=Hid.mk hK2
  clear b0 b1 b2
  go_wp2_with (fail)
  refine Go.Ev.wp_region_pfe [5] 0 (fun _=>True) hm (by kernel_rfl) (by kernel_rfl) (by kernel_rfl) trivial ?_
  refine Go.Ev.planF_look (by rfl) _ (by rintro u K f1 hK; go_simp; exact hK _ rfl) ?_
  simp only [Act.put,List.setIfInBounds_toArray,List.set_cons_succ,List.set_cons_zero]
  refine Go.Ev.planF_look (by rfl) _ (by rintro u K f1 hK; go_simp; exact hK _ rfl) ?_
  simp only [Act.put,List.setIfInBounds_toArray,List.set_cons_succ,List.set_cons_zero]
  refine Go.Ev.planF_look (by rfl) _ (by rintro u K f1 hK; go_simp; exact hK _ rfl) ?_
  simp only [Act.put,List.setIfInBounds_toArray,List.set_cons_succ,List.set_cons_zero]
  refine Go.Ev.planF_look (by rfl) _ (by rintro u K f1 hK; go_simp; exact hK _ rfl) ?_
  simp only [Act.put,List.setIfInBounds_toArray,List.set_cons_succ,List.set_cons_zero]
  refine Go.Ev.planF_look (by rfl) (.int .u8 63) (by rintro u K f1 hK; go_simp; exact hK _ rfl) ?_
  simp only [Act.put,List.setIfInBounds_toArray,List.set_cons_succ,List.set_cons_zero]
  refine Go.Ev.planF_skip (by rfl) ?_
  refine Go.Ev.planF_nil ?_
  refine Go.Ev.wpC_step rfl ?_
  rintro _ rfl K hK
  go_wp2_with (fail)
  refine (writeByte_any N B _ 63 _ (hS2.out.blw (blw_drewN _ w2 1)) (by have:=hl1.out; simp; omega)).mono ?_
  rintro e w4 ⟨rfl,hS4,hB4,hK4⟩
  have hS4:=Hid.mk hS4
  have hB4:=Hid.mk ((blw_drewN N w2 1).trans hB4)
  have hK4:=Hid.mk ((KpW.of (B:=B) (blw_drewN _ w2 1)).trans hK4)
  go_wp2_with (fail)
  refine hK _ _ (fun h=>absurd h (by decide)) ?_
  clear hK K
  simp only [Act.put,List.setIfInBounds_toArray,List.set_cons_succ,List.set_cons_zero]
  refine Go.Ev.wpC_end ?_
  rintro _ rfl
  go_wp2_with (fail)
  go_end0
  exact ⟨rfl,by have:=hS4.out.s; simpa using this,hB1.out.trans (hB2.out.trans hB4.out),hK1.out.trans (hK2.out.trans hK4.out)⟩
 ·
  have e1:((a.kind:Int)==1)=false:=beq_ne (by omega)
  have e2:((a.kind:Int)==2)=true:=by simp; omega
  have hz:againO (infoT a) 91 63 93=atomO (infoT a)++[63]:=by unfold againO; rw [if_pos (by simp only [infoT]; omega)]
  rw [hz] at hlH ⊢
  clear hz q hdH
  unfold nodeV at*
  go_enter Tryz.func99,Tryz.ntmps99
  go_upto_region 1 with (fail)
  generalize w.alloc (.cells #[.int .i64 (a.kind:Nat),.string a.text,.slice sp a.kids.length sc] 57)=w1 at*
  have b0:w1.cell? ⟨W,0,none⟩=some (.int .i64 (a.kind:Nat)):=by simp [World.cell?,hb.out]
  have b1:w1.cell? ⟨W,1,none⟩=some (.string a.text):=by simp [World.cell?,hb.out]
  have b2:w1.cell? ⟨W,2,none⟩=some (.slice sp a.kids.length sc):=by simp [World.cell?,hb.out]
  have hl1:=Hid.mk (show l.length+(atomO (infoT a)).length+1≤1000000000 by have:=hlH.out; simp at this; omega)
  go_wp2_with (fail)
  refine (hAt.out l _ hS1.out hW1.out (by have:=hl1.out; omega)).mono ?_
  rintro e w2 ⟨rfl,hS2,hB2,hK2⟩
  have hS2:=Hid.mk hS2
  have hB2:=Hid.mk hB2
  have hK2:=Hid.mk hK2
  clear b0 b1 b2
  go_wp2_with (fail)
  refine Go.Ev.wp_region_pfe [5] 0 (fun _=>True) hm (by kernel_rfl) (by kernel_rfl) (by kernel_rfl) trivial ?_
  refine Go.Ev.planF_look (by rfl) _ (by rintro u K f1 hK; go_simp; exact hK _ rfl) ?_
  simp only [Act.put,List.setIfInBounds_toArray,List.set_cons_succ,List.set_cons_zero]
  refine Go.Ev.planF_look (by rfl) _ (by rintro u K f1 hK; go_simp; exact hK _ rfl) ?_
  simp only [Act.put,List.setIfInBounds_toArray,List.set_cons_succ,List.set_cons_zero]
  refine Go.Ev.planF_look (by rfl) _ (by rintro u K f1 hK; go_simp; exact hK _ rfl) ?_
  simp only [Act.put,List.setIfInBounds_toArray,List.set_cons_succ,List.set_cons_zero]
  refine Go.Ev.planF_look (by rfl) _ (by rintro u K f1 hK; go_simp; exact hK _ rfl) ?_
  simp only [Act.put,List.setIfInBounds_toArray,List.set_cons_succ,List.set_cons_zero]
  refine Go.Ev.planF_look (by rfl) (.int .u8 63) (by rintro u K f1 hK; go_simp; exact hK _ rfl) ?_
  simp only [Act.put,List.setIfInBounds_toArray,List.set_cons_succ,List.set_cons_zero]
  refine Go.Ev.planF_skip (by rfl) ?_
  refine Go.Ev.planF_nil ?_
  refine Go.Ev.wpC_step rfl ?_
  rintro _ rfl K hK
  go_wp2_with (fail)
  refine (writeByte_any N B _ 63 _ (hS2.out.blw (blw_drewN _ w2 1)) (by have:=hl1.out; simp; omega)).mono ?_
  rintro e w4 ⟨rfl,hS4,hB4,hK4⟩
  have hS4:=Hid.mk hS4
  have hB4:=Hid.mk ((blw_drewN N w2 1).trans hB4)
  have hK4:=Hid.mk ((KpW.of (B:=B) (blw_drewN _ w2 1)).trans hK4)
  go_wp2_with (fail)
  refine hK _ _ (fun h=>absurd h (by decide)) ?_
  clear hK K
  simp only [Act.put,List.setIfInBounds_toArray,List.set_cons_succ,List.set_cons_zero]
  refine Go.Ev.wpC_end ?_
  rintro _ rfl
  go_wp2_with (fail)
  go_end0
  exact ⟨rfl,by have:=hS4.out.s; simpa using this,hB1.out.trans (hB2.out.trans hB4.out),hK1.out.trans (hK2.out.trans hK4.out)⟩
 ·
  have e1:((a.kind:Int)==1)=false:=beq_ne (by omega)
  have e2:((a.kind:Int)==2)=false:=beq_ne (by omega)
  have e5:((a.kind:Int)==5)=true:=by simp; omega
  have hz:againO (infoT a) 91 63 93=atomO (infoT a)++[63]:=by unfold againO; rw [if_pos (by simp only [infoT]; omega)]
  rw [hz] at hlH ⊢
  clear hz q hdH
  unfold nodeV at*
  go_enter Tryz.func99,Tryz.ntmps99
  go_upto_region 1 with (fail)
  generalize w.alloc (.cells #[.int .i64 (a.kind:Nat),.string a.text,.slice sp a.kids.length sc] 57)=w1 at*
  have b0:w1.cell? ⟨W,0,none⟩=some (.int .i64 (a.kind:Nat)):=by simp [World.cell?,hb.out]
  have b1:w1.cell? ⟨W,1,none⟩=some (.string a.text):=by simp [World.cell?,hb.out]
  have b2:w1.cell? ⟨W,2,none⟩=some (.slice sp a.kids.length sc):=by simp [World.cell?,hb.out]
  have hl1:=Hid.mk (show l.length+(atomO (infoT a)).length+1≤1000000000 by have:=hlH.out; simp at this; omega)
  go_wp2_with (fail)
  refine (hAt.out l _ hS1.out hW1.out (by have:=hl1.out; omega)).mono ?_
  rintro e w2 ⟨rfl,hS2,hB2,hK2⟩
  have hS2:=Hid.mk hS2
  have hB2:=Hid.mk hB2
  have hK2:=Hid.mk hK2
  clear b0 b1 b2
  go_wp2_with (fail)
  refine Go.Ev.wp_region_pfe [5] 0 (fun _=>True) hm (by kernel_rfl) (by kernel_rfl) (by kernel_rfl) trivial ?_
  refine Go.Ev.planF_look (by rfl) _ (by rintro u K f1 hK; go_simp; exact hK _ rfl) ?_
  simp only [Act.put,List.setIfInBounds_toArray,List.set_cons_succ,List.set_cons_zero]
  refine Go.Ev.planF_look (by rfl) _ (by rintro u K f1 hK; go_simp; exact hK _ rfl) ?_
  simp only [Act.put,List.setIfInBounds_toArray,List.set_cons_succ,List.set_cons_zero]
  refine Go.Ev.planF_look (by rfl) _ (by rintro u K f1 hK; go_simp; exact hK _ rfl) ?_
  simp only [Act.put,List.setIfInBounds_toArray,List.set_cons_succ,List.set_cons_zero]
  refine Go.Ev.planF_look (by rfl) _ (by rintro u K f1 hK; go_simp; exact hK _ rfl) ?_
  simp only [Act.put,List.setIfInBounds_toArray,List.set_cons_succ,List.set_cons_zero]
  refine Go.Ev.planF_look (by rfl) (.int .u8 63) (by rintro u K f1 hK; go_simp; exact hK _ rfl) ?_
  simp only [Act.put,List.setIfInBounds_toArray,List.set_cons_succ,List.set_cons_zero]
  refine Go.Ev.planF_skip (by rfl) ?_
  refine Go.Ev.planF_nil ?_
  refine Go.Ev.wpC_step rfl ?_
  rintro _ rfl K hK
  go_wp2_with (fail)
  refine (writeByte_any N B _ 63 _ (hS2.out.blw (blw_drewN _ w2 1)) (by have:=hl1.out; simp; omega)).mono ?_
  rintro e w4 ⟨rfl,hS4,hB4,hK4⟩
  have hS4:=Hid.mk hS4
  have hB4:=Hid.mk ((blw_drewN N w2 1).trans hB4)
  have hK4:=Hid.mk ((KpW.of (B:=B) (blw_drewN _ w2 1)).trans hK4)
  go_wp2_with (fail)
  refine hK _ _ (fun h=>absurd h (by decide)) ?_
  clear hK K
  simp only [Act.put,List.setIfInBounds_toArray,List.set_cons_succ,List.set_cons_zero]
  refine Go.Ev.wpC_end ?_
  rintro _ rfl
  go_wp2_with (fail)
  go_end0
  exact ⟨rfl,by have:=hS4.out.s; simpa using this,hB1.out.trans (hB2.out.trans hB4.out),hK1.out.trans (hK2.out.trans hK4.out)⟩
 ·
  have e1:((a.kind:Int)==1)=false:=beq_ne (by omega)
  have e2:((a.kind:Int)==2)=false:=beq_ne (by omega)
  have e5:((a.kind:Int)==5)=false:=beq_ne (by omega)
  have e6:((a.kind:Int)==6)=true:=by simp; omega
  have hz:againO (infoT a) 91 63 93=atomO (infoT a)++[63]:=by unfold againO; rw [if_pos (by simp only [infoT]; omega)]
  rw [hz] at hlH ⊢
  clear hz q hdH
  unfold nodeV at*
  go_enter Tryz.func99,Tryz.ntmps99
  go_upto_region 1 with (fail)
  generalize w.alloc (.cells #[.int .i64 (a.kind:Nat),.string a.text,.slice sp a.kids.length sc] 57)=w1 at*
  have b0:w1.cell? ⟨W,0,none⟩=some (.int .i64 (a.kind:Nat)):=by simp [World.cell?,hb.out]
  have b1:w1.cell? ⟨W,1,none⟩=some (.string a.text):=by simp [World.cell?,hb.out]
  have b2:w1.cell? ⟨W,2,none⟩=some (.slice sp a.kids.length sc):=by simp [World.cell?,hb.out]
  have hl1:=Hid.mk (show l.length+(atomO (infoT a)).length+1≤1000000000 by have:=hlH.out; simp at this; omega)
  go_wp2_with (fail)
  refine (hAt.out l _ hS1.out hW1.out (by have:=hl1.out; omega)).mono ?_
  rintro e w2 ⟨rfl,hS2,hB2,hK2⟩
  have hS2:=Hid.mk hS2
  have hB2:=Hid.mk hB2
  have hK2:=Hid.mk hK2
  clear b0 b1 b2
  go_wp2_with (fail)
  refine Go.Ev.wp_region_pfe [5] 0 (fun _=>True) hm (by kernel_rfl) (by kernel_rfl) (by kernel_rfl) trivial ?_
  refine Go.Ev.planF_look (by rfl) _ (by rintro u K f1 hK; go_simp; exact hK _ rfl) ?_
  simp only [Act.put,List.setIfInBounds_toArray,List.set_cons_succ,List.set_cons_zero]
  refine Go.Ev.planF_look (by rfl) _ (by rintro u K f1 hK; go_simp; exact hK _ rfl) ?_
  simp only [Act.put,List.setIfInBounds_toArray,List.set_cons_succ,List.set_cons_zero]
  refine Go.Ev.planF_look (by rfl) _ (by rintro u K f1 hK; go_simp; exact hK _ rfl) ?_
  simp only [Act.put,List.setIfInBounds_toArray,List.set_cons_succ,List.set_cons_zero]
  refine Go.Ev.planF_look (by rfl) _ (by rintro u K f1 hK; go_simp; exact hK _ rfl) ?_
  simp only [Act.put,List.setIfInBounds_toArray,List.set_cons_succ,List.set_cons_zero]
  refine Go.Ev.planF_look (by rfl) (.int .u8 63) (by rintro u K f1 hK; go_simp; exact hK _ rfl) ?_
  simp only [Act.put,List.setIfInBounds_toArray,List.set_cons_succ,List.set_cons_zero]
  refine Go.Ev.planF_skip (by rfl) ?_
  refine Go.Ev.planF_nil ?_
  refine Go.Ev.wpC_step rfl ?_
  rintro _ rfl K hK
  go_wp2_with (fail)
  refine (writeByte_any N B _ 63 _ (hS2.out.blw (blw_drewN _ w2 1)) (by have:=hl1.out; simp; omega)).mono ?_
  rintro e w4 ⟨rfl,hS4,hB4,hK4⟩
  have hS4:=Hid.mk hS4
  have hB4:=Hid.mk ((blw_drewN N w2 1).trans hB4)
  have hK4:=Hid.mk ((KpW.of (B:=B) (blw_drewN _ w2 1)).trans hK4)
  go_wp2_with (fail)
  refine hK _ _ (fun h=>absurd h (by decide)) ?_
  clear hK K
  simp only [Act.put,List.setIfInBounds_toArray,List.set_cons_succ,List.set_cons_zero]
  refine Go.Ev.wpC_end ?_
  rintro _ rfl
  go_wp2_with (fail)
  go_end0
  exact ⟨rfl,by have:=hS4.out.s; simpa using this,hB1.out.trans (hB2.out.trans hB4.out),hK1.out.trans (hK2.out.trans hK4.out)⟩
 ·
  have e1:((a.kind:Int)==1)=false:=beq_ne (by omega)
  have e2:((a.kind:Int)==2)=false:=beq_ne (by omega)
  have e5:((a.kind:Int)==5)=false:=beq_ne (by omega)
  have e6:((a.kind:Int)==6)=false:=beq_ne (by omega)
  have hz:againO (infoT a) 91 63 93=arO 91 93 (putT a):=by unfold againO; rw [if_neg (by simp only [infoT]; omega)]; rfl
  rw [hz] at hlH ⊢
  clear hz q hdH
  unfold nodeV at*
  go_enter Tryz.func99,Tryz.ntmps99
  go_upto_region 1 with (fail)
  generalize w.alloc (.cells #[.int .i64 (a.kind:Nat),.string a.text,.slice sp a.kids.length sc] 57)=w1 at*
  have b0:w1.cell? ⟨W,0,none⟩=some (.int .i64 (a.kind:Nat)):=by simp [World.cell?,hb.out]
  have b1:w1.cell? ⟨W,1,none⟩=some (.string a.text):=by simp [World.cell?,hb.out]
  have b2:w1.cell? ⟨W,2,none⟩=some (.slice sp a.kids.length sc):=by simp [World.cell?,hb.out]
  go_wp2_with (fail)
  refine Go.Ev.wp_region_pfe [6] 0 (fun u=>u.cell? ⟨W,0,none⟩=some (.int .i64 (a.kind:Nat))∧u.cell? ⟨W,1,none⟩=some (.string a.text)∧u.cell? ⟨W,2,none⟩=some (.slice sp a.kids.length sc)) hm (by kernel_rfl) (by kernel_rfl) (by kernel_rfl) ⟨b0,b1,b2⟩ ?_
  refine Go.Ev.planF_look (by rfl) _ (by rintro u K ⟨f1,f2,f3⟩ hK; go_simp; exact hK _ rfl) ?_
  simp only [Act.put,List.setIfInBounds_toArray,List.set_cons_succ,List.set_cons_zero]
  refine Go.Ev.planF_look (by rfl) _ (by rintro u K ⟨f1,f2,f3⟩ hK; go_simp; exact hK _ rfl) ?_
  simp only [Act.put,List.setIfInBounds_toArray,List.set_cons_succ,List.set_cons_zero]
  refine Go.Ev.planF_look (by rfl) _ (by rintro u K ⟨f1,f2,f3⟩ hK; go_simp; exact hK _ rfl) ?_
  simp only [Act.put,List.setIfInBounds_toArray,List.set_cons_succ,List.set_cons_zero]
  refine Go.Ev.planF_look (by rfl) (.int .u8 91) (by rintro u K ⟨f1,f2,f3⟩ hK; go_simp; exact hK _ rfl) ?_
  simp only [Act.put,List.setIfInBounds_toArray,List.set_cons_succ,List.set_cons_zero]
  refine Go.Ev.planF_look (by rfl) _ (by rintro u K ⟨f1,f2,f3⟩ hK; go_simp; exact hK _ rfl) ?_
  simp only [Act.put,List.setIfInBounds_toArray,List.set_cons_succ,List.set_cons_zero]
  refine Go.Ev.planF_look (by rfl) (.int .u8 93) (by rintro u K ⟨f1,f2,f3⟩ hK; go_simp; exact hK _ rfl) ?_
  simp only [Act.put,List.setIfInBounds_toArray,List.set_cons_succ,List.set_cons_zero]
  refine Go.Ev.planF_skip (by rfl) ?_
  refine Go.Ev.planF_nil ?_
  refine Go.Ev.wpC_step rfl ?_
  rintro _ rfl K hK
  go_wp2_with (fail)
  refine (wr_around N B w0 a _ ⟨_,_,rfl⟩ hwH.out 91 93 l _ (hS1.out.blw (blw_drewN _ w1 1)) (hW1.out.trans (blw_drewN _ w1 1)) hlH.out).mono ?_
  rintro e w4 ⟨rfl,hS4,hB4,hK4⟩
  have hS4:=Hid.mk hS4
  have hB4:=Hid.mk ((blw_drewN N w1 1).trans hB4)
  have hK4:=Hid.mk ((KpW.of (B:=B) (blw_drewN _ w1 1)).trans hK4)
  go_wp2_with (fail)
  refine hK _ _ (fun h=>absurd h (by decide)) ?_
  clear hK K
  simp only [Act.put,List.setIfInBounds_toArray,List.set_cons_succ,List.set_cons_zero]
  refine Go.Ev.wpC_end ?_
  rintro _ rfl
  go_wp2_with (fail)
  go_end0
  exact ⟨rfl,hS4.out,hB1.out.trans hB4.out,hK1.out.trans hK4.out⟩
set_option maxRecDepth 100000 in
set_option maxHeartbeats 3200000 in
theorem wr_again_star (N B:Nat) (w0:World) (a:Tr) (s:Value) (hf:∃ p c,s= .slice p a.kids.length c) (hw:WrC N B w0 a (nodeV a s)) (hd:a.kind=5∨a.kind=6→HdC N B w0 a.kids s) (l:List Int) (w:World) (h:BwS N B l w) (hB:Below N w0 w) (hl:l.length+(againO (infoT a) 123 42 125).length≤1000000000) :
  Calls Tryz.prog 99 #[.pointer (some ⟨B,0,none⟩),nodeV a s,.string ⟨#[123,42,125]⟩] w fun e w'=>e= .returned (.tuple #[])∧BwS N B (l++againO (infoT a) 123 42 125) w'∧Below N w w'∧KpW B w w':=by
 have hm:Tryz.prog.follows .mixedOrders=true:=rfl
 have hAt:=Hid.mk (fun l w h hB hl=>wr_atom N B w0 a s hf hw hd l w h hB hl)
 obtain ⟨sp,sc,rfl⟩:=hf
 have hNB:N≤w.heap.size:=Nat.le_of_lt h.le
 have hBox:Below w.heap.size w (w.alloc (.cells #[.int .i64 (a.kind:Nat),.string a.text,.slice sp a.kids.length sc] 57)):=(Below.refl _ w).alloc (Nat.le_refl _) _
 have hBoxN:Below N w (w.alloc (.cells #[.int .i64 (a.kind:Nat),.string a.text,.slice sp a.kids.length sc] 57)):=(Below.refl N w).alloc hNB _
 have hS1:=Hid.mk (h.blw hBox)
 have hB1:=Hid.mk hBoxN
 have hK1:=Hid.mk (KpW.of (B:=B) hBox)
 have hW1:=Hid.mk (hB.trans hBoxN)
 have hb:=Hid.mk (heap_alloc_new w (.cells #[.int .i64 (a.kind:Nat),.string a.text,.slice sp a.kids.length sc] 57))
 have hlt:=Hid.mk h.lt
 have hwH:=Hid.mk hw
 have hdH:=Hid.mk hd
 have hlH:=Hid.mk hl
 obtain ⟨W,hW⟩:∃ W,w.heap.size=W:=⟨_,rfl⟩
 rw [hW] at hb hlt
 clear h hB hl hw hNB hd hBox hBoxN
 have hcase:a.kind=1∨a.kind=2∨a.kind=5∨a.kind=6∨(a.kind≠1∧a.kind≠2∧a.kind≠5∧a.kind≠6):=by omega
 rcases hcase with q | q | q | q | q
 ·
  have e1:((a.kind:Int)==1)=true:=by simp; omega
  have hz:againO (infoT a) 123 42 125=atomO (infoT a)++[42]:=by unfold againO; rw [if_pos (by simp only [infoT]; omega)]
  rw [hz] at hlH ⊢
  clear hz q hdH
  unfold nodeV at*
  go_enter Tryz.func99,Tryz.ntmps99
  go_upto_region 1 with (fail)
  generalize w.alloc (.cells #[.int .i64 (a.kind:Nat),.string a.text,.slice sp a.kids.length sc] 57)=w1 at*
  have b0:w1.cell? ⟨W,0,none⟩=some (.int .i64 (a.kind:Nat)):=by simp [World.cell?,hb.out]
  have b1:w1.cell? ⟨W,1,none⟩=some (.string a.text):=by simp [World.cell?,hb.out]
  have b2:w1.cell? ⟨W,2,none⟩=some (.slice sp a.kids.length sc):=by simp [World.cell?,hb.out]
  have hl1:=Hid.mk (show l.length+(atomO (infoT a)).length+1≤1000000000 by have:=hlH.out; simp at this; omega)
  go_wp2_with (fail)
  refine (hAt.out l _ hS1.out hW1.out (by have:=hl1.out; omega)).mono ?_
  rintro e w2 ⟨rfl,hS2,hB2,hK2⟩
  have hS2:=Hid.mk hS2
  have hB2:=Hid.mk hB2
  have hK2:=Hid.mk hK2
  clear b0 b1 b2
  go_wp2_with (fail)
  refine Go.Ev.wp_region_pfe [5] 0 (fun _=>True) hm (by kernel_rfl) (by kernel_rfl) (by kernel_rfl) trivial ?_
  refine Go.Ev.planF_look (by rfl) _ (by rintro u K f1 hK; go_simp; exact hK _ rfl) ?_
  simp only [Act.put,List.setIfInBounds_toArray,List.set_cons_succ,List.set_cons_zero]
  refine Go.Ev.planF_look (by rfl) _ (by rintro u K f1 hK; go_simp; exact hK _ rfl) ?_
  simp only [Act.put,List.setIfInBounds_toArray,List.set_cons_succ,List.set_cons_zero]
  refine Go.Ev.planF_look (by rfl) _ (by rintro u K f1 hK; go_simp; exact hK _ rfl) ?_
  simp only [Act.put,List.setIfInBounds_toArray,List.set_cons_succ,List.set_cons_zero]
  refine Go.Ev.planF_look (by rfl) _ (by rintro u K f1 hK; go_simp; exact hK _ rfl) ?_
  simp only [Act.put,List.setIfInBounds_toArray,List.set_cons_succ,List.set_cons_zero]
  refine Go.Ev.planF_look (by rfl) (.int .u8 42) (by rintro u K f1 hK; go_simp; exact hK _ rfl) ?_
  simp only [Act.put,List.setIfInBounds_toArray,List.set_cons_succ,List.set_cons_zero]
  refine Go.Ev.planF_skip (by rfl) ?_
  refine Go.Ev.planF_nil ?_
  refine Go.Ev.wpC_step rfl ?_
  rintro _ rfl K hK
  go_wp2_with (fail)
  refine (writeByte_any N B _ 42 _ (hS2.out.blw (blw_drewN _ w2 1)) (by have:=hl1.out; simp; omega)).mono ?_
  rintro e w4 ⟨rfl,hS4,hB4,hK4⟩
  have hS4:=Hid.mk hS4
  have hB4:=Hid.mk ((blw_drewN N w2 1).trans hB4)
  have hK4:=Hid.mk ((KpW.of (B:=B) (blw_drewN _ w2 1)).trans hK4)
  go_wp2_with (fail)
  refine hK _ _ (fun h=>absurd h (by decide)) ?_
  clear hK K
  simp only [Act.put,List.setIfInBounds_toArray,List.set_cons_succ,List.set_cons_zero]
  refine Go.Ev.wpC_end ?_
  rintro _ rfl
  go_wp2_with (fail)
  go_end0
  exact ⟨rfl,by have:=hS4.out.s; simpa using this,hB1.out.trans (hB2.out.trans hB4.out),hK1.out.trans (hK2.out.trans hK4.out)⟩
 ·
  have e1:((a.kind:Int)==1)=false:=beq_ne (by omega)
  have e2:((a.kind:Int)==2)=true:=by simp; omega
  have hz:againO (infoT a) 123 42 125=atomO (infoT a)++[42]:=by unfold againO; rw [if_pos (by simp only [infoT]; omega)]
  rw [hz] at hlH ⊢
  clear hz q hdH
  unfold nodeV at*
  go_enter Tryz.func99,Tryz.ntmps99
  go_upto_region 1 with (fail)
  generalize w.alloc (.cells #[.int .i64 (a.kind:Nat),.string a.text,.slice sp a.kids.length sc] 57)=w1 at*
  have b0:w1.cell? ⟨W,0,none⟩=some (.int .i64 (a.kind:Nat)):=by simp [World.cell?,hb.out]
  have b1:w1.cell? ⟨W,1,none⟩=some (.string a.text):=by simp [World.cell?,hb.out]
  have b2:w1.cell? ⟨W,2,none⟩=some (.slice sp a.kids.length sc):=by simp [World.cell?,hb.out]
  have hl1:=Hid.mk (show l.length+(atomO (infoT a)).length+1≤1000000000 by have:=hlH.out; simp at this; omega)
  go_wp2_with (fail)
  refine (hAt.out l _ hS1.out hW1.out (by have:=hl1.out; omega)).mono ?_
  rintro e w2 ⟨rfl,hS2,hB2,hK2⟩
  have hS2:=Hid.mk hS2
  have hB2:=Hid.mk hB2
  have hK2:=Hid.mk hK2
  clear b0 b1 b2
  go_wp2_with (fail)
  refine Go.Ev.wp_region_pfe [5] 0 (fun _=>True) hm (by kernel_rfl) (by kernel_rfl) (by kernel_rfl) trivial ?_
  refine Go.Ev.planF_look (by rfl) _ (by rintro u K f1 hK; go_simp; exact hK _ rfl) ?_
  simp only [Act.put,List.setIfInBounds_toArray,List.set_cons_succ,List.set_cons_zero]
  refine Go.Ev.planF_look (by rfl) _ (by rintro u K f1 hK; go_simp; exact hK _ rfl) ?_
  simp only [Act.put,List.setIfInBounds_toArray,List.set_cons_succ,List.set_cons_zero]
  refine Go.Ev.planF_look (by rfl) _ (by rintro u K f1 hK; go_simp; exact hK _ rfl) ?_
  simp only [Act.put,List.setIfInBounds_toArray,List.set_cons_succ,List.set_cons_zero]
  refine Go.Ev.planF_look (by rfl) _ (by rintro u K f1 hK; go_simp; exact hK _ rfl) ?_
  simp only [Act.put,List.setIfInBounds_toArray,List.set_cons_succ,List.set_cons_zero]
  refine Go.Ev.planF_look (by rfl) (.int .u8 42) (by rintro u K f1 hK; go_simp; exact hK _ rfl) ?_
  simp only [Act.put,List.setIfInBounds_toArray,List.set_cons_succ,List.set_cons_zero]
  refine Go.Ev.planF_skip (by rfl) ?_
  refine Go.Ev.planF_nil ?_
  refine Go.Ev.wpC_step rfl ?_
  rintro _ rfl K hK
  go_wp2_with (fail)
  refine (writeByte_any N B _ 42 _ (hS2.out.blw (blw_drewN _ w2 1)) (by have:=hl1.out; simp; omega)).mono ?_
  rintro e w4 ⟨rfl,hS4,hB4,hK4⟩
  have hS4:=Hid.mk hS4
  have hB4:=Hid.mk ((blw_drewN N w2 1).trans hB4)
  have hK4:=Hid.mk ((KpW.of (B:=B) (blw_drewN _ w2 1)).trans hK4)
  go_wp2_with (fail)
  refine hK _ _ (fun h=>absurd h (by decide)) ?_
  clear hK K
  simp only [Act.put,List.setIfInBounds_toArray,List.set_cons_succ,List.set_cons_zero]
  refine Go.Ev.wpC_end ?_
  rintro _ rfl
  go_wp2_with (fail)
  go_end0
  exact ⟨rfl,by have:=hS4.out.s; simpa using this,hB1.out.trans (hB2.out.trans hB4.out),hK1.out.trans (hK2.out.trans hK4.out)⟩
 ·
  have e1:((a.kind:Int)==1)=false:=beq_ne (by omega)
  have e2:((a.kind:Int)==2)=false:=beq_ne (by omega)
  have e5:((a.kind:Int)==5)=true:=by simp; omega
  have hz:againO (infoT a) 123 42 125=atomO (infoT a)++[42]:=by unfold againO; rw [if_pos (by simp only [infoT]; omega)]
  rw [hz] at hlH ⊢
  clear hz q hdH
  unfold nodeV at*
  go_enter Tryz.func99,Tryz.ntmps99
  go_upto_region 1 with (fail)
  generalize w.alloc (.cells #[.int .i64 (a.kind:Nat),.string a.text,.slice sp a.kids.length sc] 57)=w1 at*
  have b0:w1.cell? ⟨W,0,none⟩=some (.int .i64 (a.kind:Nat)):=by simp [World.cell?,hb.out]
  have b1:w1.cell? ⟨W,1,none⟩=some (.string a.text):=by simp [World.cell?,hb.out]
  have b2:w1.cell? ⟨W,2,none⟩=some (.slice sp a.kids.length sc):=by simp [World.cell?,hb.out]
  have hl1:=Hid.mk (show l.length+(atomO (infoT a)).length+1≤1000000000 by have:=hlH.out; simp at this; omega)
  go_wp2_with (fail)
  refine (hAt.out l _ hS1.out hW1.out (by have:=hl1.out; omega)).mono ?_
  rintro e w2 ⟨rfl,hS2,hB2,hK2⟩
  have hS2:=Hid.mk hS2
  have hB2:=Hid.mk hB2
  have hK2:=Hid.mk hK2
  clear b0 b1 b2
  go_wp2_with (fail)
  refine Go.Ev.wp_region_pfe [5] 0 (fun _=>True) hm (by kernel_rfl) (by kernel_rfl) (by kernel_rfl) trivial ?_
  refine Go.Ev.planF_look (by rfl) _ (by rintro u K f1 hK; go_simp; exact hK _ rfl) ?_
  simp only [Act.put,List.setIfInBounds_toArray,List.set_cons_succ,List.set_cons_zero]
  refine Go.Ev.planF_look (by rfl) _ (by rintro u K f1 hK; go_simp; exact hK _ rfl) ?_
  simp only [Act.put,List.setIfInBounds_toArray,List.set_cons_succ,List.set_cons_zero]
  refine Go.Ev.planF_look (by rfl) _ (by rintro u K f1 hK; go_simp; exact hK _ rfl) ?_
  simp only [Act.put,List.setIfInBounds_toArray,List.set_cons_succ,List.set_cons_zero]
  refine Go.Ev.planF_look (by rfl) _ (by rintro u K f1 hK; go_simp; exact hK _ rfl) ?_
  simp only [Act.put,List.setIfInBounds_toArray,List.set_cons_succ,List.set_cons_zero]
  refine Go.Ev.planF_look (by rfl) (.int .u8 42) (by rintro u K f1 hK; go_simp; exact hK _ rfl) ?_
  simp only [Act.put,List.setIfInBounds_toArray,List.set_cons_succ,List.set_cons_zero]
  refine Go.Ev.planF_skip (by rfl) ?_
  refine Go.Ev.planF_nil ?_
  refine Go.Ev.wpC_step rfl ?_
  rintro _ rfl K hK
  go_wp2_with (fail)
  refine (writeByte_any N B _ 42 _ (hS2.out.blw (blw_drewN _ w2 1)) (by have:=hl1.out; simp; omega)).mono ?_
  rintro e w4 ⟨rfl,hS4,hB4,hK4⟩
  have hS4:=Hid.mk hS4
  have hB4:=Hid.mk ((blw_drewN N w2 1).trans hB4)
  have hK4:=Hid.mk ((KpW.of (B:=B) (blw_drewN _ w2 1)).trans hK4)
  go_wp2_with (fail)
  refine hK _ _ (fun h=>absurd h (by decide)) ?_
  clear hK K
  simp only [Act.put,List.setIfInBounds_toArray,List.set_cons_succ,List.set_cons_zero]
  refine Go.Ev.wpC_end ?_
  rintro _ rfl
  go_wp2_with (fail)
  go_end0
  exact ⟨rfl,by have:=hS4.out.s; simpa using this,hB1.out.trans (hB2.out.trans hB4.out),hK1.out.trans (hK2.out.trans hK4.out)⟩
 ·
  have e1:((a.kind:Int)==1)=false:=beq_ne (by omega)
  have e2:((a.kind:Int)==2)=false:=beq_ne (by omega)
  have e5:((a.kind:Int)==5)=false:=beq_ne (by omega)
  have e6:((a.kind:Int)==6)=true:=by simp; omega
  have hz:againO (infoT a) 123 42 125=atomO (infoT a)++[42]:=by unfold againO; rw [if_pos (by simp only [infoT]; omega)]
  rw [hz] at hlH ⊢
  clear hz q hdH
  unfold nodeV at*
  go_enter Tryz.func99,Tryz.ntmps99
  go_upto_region 1 with (fail)
  generalize w.alloc (.cells #[.int .i64 (a.kind:Nat),.string a.text,.slice sp a.kids.length sc] 57)=w1 at*
  have b0:w1.cell? ⟨W,0,none⟩=some (.int .i64 (a.kind:Nat)):=by simp [World.cell?,hb.out]
  have b1:w1.cell? ⟨W,1,none⟩=some (.string a.text):=by simp [World.cell?,hb.out]
  have b2:w1.cell? ⟨W,2,none⟩=some (.slice sp a.kids.length sc):=by simp [World.cell?,hb.out]
  have hl1:=Hid.mk (show l.length+(atomO (infoT a)).length+1≤1000000000 by have:=hlH.out; simp at this; omega)
  go_wp2_with (fail)
  refine (hAt.out l _ hS1.out hW1.out (by have:=hl1.out; omega)).mono ?_
  rintro e w2 ⟨rfl,hS2,hB2,hK2⟩
  have hS2:=Hid.mk hS2
  have hB2:=Hid.mk hB2
  have hK2:=Hid.mk hK2
  clear b0 b1 b2
  go_wp2_with (fail)
  refine Go.Ev.wp_region_pfe [5] 0 (fun _=>True) hm (by kernel_rfl) (by kernel_rfl) (by kernel_rfl) trivial ?_
  refine Go.Ev.planF_look (by rfl) _ (by rintro u K f1 hK; go_simp; exact hK _ rfl) ?_
  simp only [Act.put,List.setIfInBounds_toArray,List.set_cons_succ,List.set_cons_zero]
  refine Go.Ev.planF_look (by rfl) _ (by rintro u K f1 hK; go_simp; exact hK _ rfl) ?_
  simp only [Act.put,List.setIfInBounds_toArray,List.set_cons_succ,List.set_cons_zero]
  refine Go.Ev.planF_look (by rfl) _ (by rintro u K f1 hK; go_simp; exact hK _ rfl) ?_
  simp only [Act.put,List.setIfInBounds_toArray,List.set_cons_succ,List.set_cons_zero]
  refine Go.Ev.planF_look (by rfl) _ (by rintro u K f1 hK; go_simp; exact hK _ rfl) ?_
  simp only [Act.put,List.setIfInBounds_toArray,List.set_cons_succ,List.set_cons_zero]
  refine Go.Ev.planF_look (by rfl) (.int .u8 42) (by rintro u K f1 hK; go_simp; exact hK _ rfl) ?_
  simp only [Act.put,List.setIfInBounds_toArray,List.set_cons_succ,List.set_cons_zero]
  refine Go.Ev.planF_skip (by rfl) ?_
  refine Go.Ev.planF_nil ?_
  refine Go.Ev.wpC_step rfl ?_
  rintro _ rfl K hK
  go_wp2_with (fail)
  refine (writeByte_any N B _ 42 _ (hS2.out.blw (blw_drewN _ w2 1)) (by have:=hl1.out; simp; omega)).mono ?_
  rintro e w4 ⟨rfl,hS4,hB4,hK4⟩
  have hS4:=Hid.mk hS4
  have hB4:=Hid.mk ((blw_drewN N w2 1).trans hB4)
  have hK4:=Hid.mk ((KpW.of (B:=B) (blw_drewN _ w2 1)).trans hK4)
  go_wp2_with (fail)
  refine hK _ _ (fun h=>absurd h (by decide)) ?_
  clear hK K
  simp only [Act.put,List.setIfInBounds_toArray,List.set_cons_succ,List.set_cons_zero]
  refine Go.Ev.wpC_end ?_
  rintro _ rfl
  go_wp2_with (fail)
  go_end0
  exact ⟨rfl,by have:=hS4.out.s; simpa using this,hB1.out.trans (hB2.out.trans hB4.out),hK1.out.trans (hK2.out.trans hK4.out)⟩
 ·
  have e1:((a.kind:Int)==1)=false:=beq_ne (by omega)
  have e2:((a.kind:Int)==2)=false:=beq_ne (by omega)
  have e5:((a.kind:Int)==5)=false:=beq_ne (by omega)
  have e6:((a.kind:Int)==6)=false:=beq_ne (by omega)
  have hz:againO (infoT a) 123 42 125=arO 123 125 (putT a):=by unfold againO; rw [if_neg (by simp only [infoT]; omega)]; rfl
  rw [hz] at hlH ⊢
  clear hz q hdH
  unfold nodeV at*
  go_enter Tryz.func99,Tryz.ntmps99
  go_upto_region 1 with (fail)
  generalize w.alloc (.cells #[.int .i64 (a.kind:Nat),.string a.text,.slice sp a.kids.length sc] 57)=w1 at*
  have b0:w1.cell? ⟨W,0,none⟩=some (.int .i64 (a.kind:Nat)):=by simp [World.cell?,hb.out]
  have b1:w1.cell? ⟨W,1,none⟩=some (.string a.text):=by simp [World.cell?,hb.out]
  have b2:w1.cell? ⟨W,2,none⟩=some (.slice sp a.kids.length sc):=by simp [World.cell?,hb.out]
  go_wp2_with (fail)
  refine Go.Ev.wp_region_pfe [6] 0 (fun u=>u.cell? ⟨W,0,none⟩=some (.int .i64 (a.kind:Nat))∧u.cell? ⟨W,1,none⟩=some (.string a.text)∧u.cell? ⟨W,2,none⟩=some (.slice sp a.kids.length sc)) hm (by kernel_rfl) (by kernel_rfl) (by kernel_rfl) ⟨b0,b1,b2⟩ ?_
  refine Go.Ev.planF_look (by rfl) _ (by rintro u K ⟨f1,f2,f3⟩ hK; go_simp; exact hK _ rfl) ?_
  simp only [Act.put,List.setIfInBounds_toArray,List.set_cons_succ,List.set_cons_zero]
  refine Go.Ev.planF_look (by rfl) _ (by rintro u K ⟨f1,f2,f3⟩ hK; go_simp; exact hK _ rfl) ?_
  simp only [Act.put,List.setIfInBounds_toArray,List.set_cons_succ,List.set_cons_zero]
  refine Go.Ev.planF_look (by rfl) _ (by rintro u K ⟨f1,f2,f3⟩ hK; go_simp; exact hK _ rfl) ?_
  simp only [Act.put,List.setIfInBounds_toArray,List.set_cons_succ,List.set_cons_zero]
  refine Go.Ev.planF_look (by rfl) (.int .u8 123) (by rintro u K ⟨f1,f2,f3⟩ hK; go_simp; exact hK _ rfl) ?_
  simp only [Act.put,List.setIfInBounds_toArray,List.set_cons_succ,List.set_cons_zero]
  refine Go.Ev.planF_look (by rfl) _ (by rintro u K ⟨f1,f2,f3⟩ hK; go_simp; exact hK _ rfl) ?_
  simp only [Act.put,List.setIfInBounds_toArray,List.set_cons_succ,List.set_cons_zero]
  refine Go.Ev.planF_look (by rfl) (.int .u8 125) (by rintro u K ⟨f1,f2,f3⟩ hK; go_simp; exact hK _ rfl) ?_
  simp only [Act.put,List.setIfInBounds_toArray,List.set_cons_succ,List.set_cons_zero]
  refine Go.Ev.planF_skip (by rfl) ?_
  refine Go.Ev.planF_nil ?_
  refine Go.Ev.wpC_step rfl ?_
  rintro _ rfl K hK
  go_wp2_with (fail)
  refine (wr_around N B w0 a _ ⟨_,_,rfl⟩ hwH.out 123 125 l _ (hS1.out.blw (blw_drewN _ w1 1)) (hW1.out.trans (blw_drewN _ w1 1)) hlH.out).mono ?_
  rintro e w4 ⟨rfl,hS4,hB4,hK4⟩
  have hS4:=Hid.mk hS4
  have hB4:=Hid.mk ((blw_drewN N w1 1).trans hB4)
  have hK4:=Hid.mk ((KpW.of (B:=B) (blw_drewN _ w1 1)).trans hK4)
  go_wp2_with (fail)
  refine hK _ _ (fun h=>absurd h (by decide)) ?_
  clear hK K
  simp only [Act.put,List.setIfInBounds_toArray,List.set_cons_succ,List.set_cons_zero]
  refine Go.Ev.wpC_end ?_
  rintro _ rfl
  go_wp2_with (fail)
  go_end0
  exact ⟨rfl,hS4.out,hB1.out.trans hB4.out,hK1.out.trans hK4.out⟩
end Go.Proofs.YtmenpmbgennhoaaGreatDoor

namespace Go.Proofs.YtmenpmbgennhoaaGreatDoor
open Go.RowKit
theorem sepF_at (c:Int) (f:WrI→List Int) (ks:List Tr) (i:Nat) (a:Tr) (h:ks[i]?=some a) :
  sepF c i ((infoK (ks.drop i)).map f)=(if 0 < i then [c] else [])++f (infoT a)++sepF c (i+1) ((infoK (ks.drop (i+1))).map f):=by
 obtain ⟨hi,rfl⟩:=List.getElem?_eq_some_iff.1 h
 rw [List.drop_eq_getElem_cons hi,infoK,List.map_cons,sepF]
 rfl
def KdC (N B:Nat) (w0:World) (ks:List Tr) (v:Value):Prop:=∀ (i:Nat) (a:Tr),ks[i]?=some a→∃ (sp:Option Addr) (sc g o c:Nat),WrC N B w0 a (nodeV a (.slice sp a.kids.length sc))∧(a.kind=5∨a.kind=6→HdC N B w0 a.kids (.slice sp a.kids.length sc))∧
 v= .slice (some ⟨g,o,none⟩) ks.length c∧g < N∧g < w0.heap.size∧ks.length≤maxLen∧∀ j u,(nodeC a (.slice sp a.kids.length sc))[j]?=some u→w0.cell? ⟨g,o+(i*3+j),none⟩=some u
set_option maxRecDepth 100000 in
set_option maxHeartbeats 6400000 in
theorem wr_putw (N B:Nat) (w0:World) (k:Nat) (x:ByteArray) (ks:List Tr) (v:Value) (hp:properT (.mk k x ks)=true) (hf:∃ p c,v= .slice p ks.length c) (hk:KdC N B w0 ks v):WrC N B w0 (.mk k x ks) (nodeV (.mk k x ks) v):=by
 have hm:Tryz.prog.follows .mixedOrders=true:=rfl
 intro l w h hsz hB hl
 obtain ⟨p,c,rfl⟩:=hf
 have hNB:N≤w.heap.size:=Nat.le_of_lt h.le
 have hBox:Below w.heap.size w (w.alloc (.cells #[.int .i64 (k:Nat),.string x,.slice p ks.length c] 57)):=(Below.refl _ w).alloc (Nat.le_refl _) _
 have hBoxN:Below N w (w.alloc (.cells #[.int .i64 (k:Nat),.string x,.slice p ks.length c] 57)):=(Below.refl N w).alloc hNB _
 have hS1:=Hid.mk (h.blw hBox)
 have hB1:=Hid.mk hBoxN
 have hK1:=Hid.mk (KpW.of (B:=B) hBox)
 have hW1:=Hid.mk (hB.trans hBoxN)
 have hb:=Hid.mk (heap_alloc_new w (.cells #[.int .i64 (k:Nat),.string x,.slice p ks.length c] 57))
 have hlt:=Hid.mk h.lt
 have hkH:=Hid.mk hk
 obtain ⟨W,hW⟩:∃ W,w.heap.size=W:=⟨_,rfl⟩
 rw [hW] at hb hlt
 obtain ⟨L,hL⟩:∃ L,l++putT (.mk k x ks)=L:=⟨_,rfl⟩
 have hLl:L.length≤1000000000:=by rw [← hL,List.length_append]; exact hl
 rw [hL]
 rw [putT] at hL
 have hLlH:=Hid.mk hLl
 have hone:=Hid.mk (proper_one (.mk k x ks) hp)
 have hx16:k=2→x.size≤16:=by
  intro e
  rw [properT,if_neg (by omega),if_pos e] at hp
  simp at hp
  exact hp.2.1
 have hk7:k=1∨k=2∨k=3∨k=4∨k=5∨k=6∨k=7:=by
  by_cases hc:k=1∨k=2∨k=3∨k=4∨k=5∨k=6∨k=7
  ·exact hc
  ·exfalso
   rw [properT,if_neg (by omega),if_neg (by omega),kidsOk,if_neg (by omega),if_neg (by omega),if_neg (by omega)] at hp
   simp at hp
 clear h hB hl hNB hk hBox hBoxN hLl hp hsz
 unfold nodeV
 simp only [Tr.kind,Tr.text,Tr.kids] at hone ⊢
 rcases hk7 with q | q | q | q | q | q | q
 ·
  have e1:((k:Int)==1)=true:=by simp; omega
  unfold putO at hL; rw [if_pos q] at hL
  subst hL
  clear hx16 hone hkH q
  go_enter Tryz.func74,Tryz.ntmps74
  go_upto_region 1 with (fail)
  generalize w.alloc (.cells #[.int .i64 (k:Nat),.string x,.slice p ks.length c] 57)=w1 at*
  have b0:w1.cell? ⟨W,0,none⟩=some (.int .i64 (k:Nat)):=by simp [World.cell?,hb.out]
  have b1:w1.cell? ⟨W,1,none⟩=some (.string x):=by simp [World.cell?,hb.out]
  have b2:w1.cell? ⟨W,2,none⟩=some (.slice p ks.length c):=by simp [World.cell?,hb.out]
  go_wp2_with (fail)
  refine Go.Ev.wp_region_pfe [5] 0 (fun u=>u.cell? ⟨W,0,none⟩=some (.int .i64 (k:Nat))∧u.cell? ⟨W,1,none⟩=some (.string x)∧u.cell? ⟨W,2,none⟩=some (.slice p ks.length c)) hm (by kernel_rfl) (by kernel_rfl) (by kernel_rfl) ⟨b0,b1,b2⟩ ?_
  refine Go.Ev.planF_look (by rfl) _ (by rintro u K ⟨f1,f2,f3⟩ hK; go_simp; exact hK _ rfl) ?_
  simp only [Act.put,List.setIfInBounds_toArray,List.set_cons_succ,List.set_cons_zero]
  refine Go.Ev.planF_look (by rfl) _ (by rintro u K ⟨f1,f2,f3⟩ hK; go_simp; exact hK _ rfl) ?_
  simp only [Act.put,List.setIfInBounds_toArray,List.set_cons_succ,List.set_cons_zero]
  refine Go.Ev.planF_look (by rfl) _ (by rintro u K ⟨f1,f2,f3⟩ hK; go_simp; exact hK _ rfl) ?_
  simp only [Act.put,List.setIfInBounds_toArray,List.set_cons_succ,List.set_cons_zero]
  refine Go.Ev.planF_look (by rfl) _ (by rintro u K ⟨f1,f2,f3⟩ hK; go_simp; exact hK _ rfl) ?_
  simp only [Act.put,List.setIfInBounds_toArray,List.set_cons_succ,List.set_cons_zero]
  refine Go.Ev.planF_look (by rfl) _ (by rintro u K ⟨f1,f2,f3⟩ hK; go_simp; exact hK _ rfl) ?_
  simp only [Act.put,List.setIfInBounds_toArray,List.set_cons_succ,List.set_cons_zero]
  refine Go.Ev.planF_skip (by rfl) ?_
  refine Go.Ev.planF_nil ?_
  refine Go.Ev.wpC_step rfl ?_
  rintro _ rfl K hK
  have hlb:l.length+x.size≤1000000000:=by have:=hLlH.out; rw [List.length_append,bytesOf_length] at this; exact this
  go_wp2_with (fail)
  have hBd:Below w1.heap.size w1 w1.drew:=blw_drewN _ w1 1
  have hBd:=Hid.mk hBd
  refine (writeString_any N B l x _ (hS1.out.blw hBd.out) (by omega) (by omega)).mono ?_
  rintro e w4 ⟨rfl,hS4,hB4,hK4⟩
  have hS4:=Hid.mk hS4
  have hB4:=Hid.mk hB4
  have hK4:=Hid.mk hK4
  clear hlb
  go_wp2_with (fail)
  refine hK _ _ (fun h=>absurd h (by decide)) ?_
  clear hK K
  simp only [Act.put,List.setIfInBounds_toArray,List.set_cons_succ,List.set_cons_zero]
  refine Go.Ev.wpC_end ?_
  rintro _ rfl
  go_wp2_with (fail)
  go_end0
  exact ⟨rfl,hS4.out.s,hB1.out.trans ((hBd.out.mono (by have:=hS1.out.le; omega)).trans hB4.out),hK1.out.trans ((KpW.of hBd.out).trans hK4.out)⟩
 ·
  have e1:((k:Int)==1)=false:=beq_ne (by omega)
  have e2:((k:Int)==2)=true:=by simp; omega
  unfold putO at hL; rw [if_neg (by omega),if_pos q] at hL
  have hq:=Hid.mk (fun w=>quote_any x (by have:=hx16 q; omega) w)
  generalize quoteT x=T at*
  subst hL
  clear hx16 hone hkH q
  go_enter Tryz.func74,Tryz.ntmps74
  go_upto_region 1 with (fail)
  generalize w.alloc (.cells #[.int .i64 (k:Nat),.string x,.slice p ks.length c] 57)=w1 at*
  have b0:w1.cell? ⟨W,0,none⟩=some (.int .i64 (k:Nat)):=by simp [World.cell?,hb.out]
  have b1:w1.cell? ⟨W,1,none⟩=some (.string x):=by simp [World.cell?,hb.out]
  have b2:w1.cell? ⟨W,2,none⟩=some (.slice p ks.length c):=by simp [World.cell?,hb.out]
  go_wp2_with (fail)
  refine Go.Ev.wp_region_pfe [5,6] 1 (fun u=>u.cell? ⟨W,0,none⟩=some (.int .i64 (k:Nat))∧u.cell? ⟨W,1,none⟩=some (.string x)∧u.cell? ⟨W,2,none⟩=some (.slice p ks.length c)) hm (by kernel_rfl) (by kernel_rfl) (by kernel_rfl) ⟨b0,b1,b2⟩ ?_
  refine Go.Ev.planF_look (by rfl) _ (by rintro u K ⟨f1,f2,f3⟩ hK; go_simp; exact hK _ rfl) ?_
  simp only [Act.put,List.setIfInBounds_toArray,List.set_cons_succ,List.set_cons_zero]
  refine Go.Ev.planF_look (by rfl) _ (by rintro u K ⟨f1,f2,f3⟩ hK; go_simp; exact hK _ rfl) ?_
  simp only [Act.put,List.setIfInBounds_toArray,List.set_cons_succ,List.set_cons_zero]
  refine Go.Ev.planF_look (by rfl) _ (by rintro u K ⟨f1,f2,f3⟩ hK; go_simp; exact hK _ rfl) ?_
  simp only [Act.put,List.setIfInBounds_toArray,List.set_cons_succ,List.set_cons_zero]
  refine Go.Ev.planF_look (by rfl) _ (by rintro u K ⟨f1,f2,f3⟩ hK; go_simp; exact hK _ rfl) ?_
  simp only [Act.put,List.setIfInBounds_toArray,List.set_cons_succ,List.set_cons_zero]
  refine Go.Ev.planF_look (by rfl) _ (by rintro u K ⟨f1,f2,f3⟩ hK; go_simp; exact hK _ rfl) ?_
  simp only [Act.put,List.setIfInBounds_toArray,List.set_cons_succ,List.set_cons_zero]
  refine Go.Ev.planF_skip (by rfl) ?_
  refine Go.Ev.planF_skip (by rfl) ?_
  refine Go.Ev.planF_nil ?_
  refine Go.Ev.wpC_step rfl ?_
  rintro _ rfl K hK
  go_wp2_with (fail)
  refine (hq.out _).mono ?_
  rintro e w2 ⟨rfl,hB2⟩
  have hB2:=Hid.mk ((blw_drewN w1.heap.size w1 1).trans hB2)
  have d:=hB2.out.block W (Array.getElem?_eq_some_iff.1 hb.out).1
  rw [hb.out] at d
  have d0:w2.cell? ⟨W,0,none⟩=some (.int .i64 (k:Nat)):=by simp [World.cell?,d]
  have d1:w2.cell? ⟨W,1,none⟩=some (.string x):=by simp [World.cell?,d]
  have d2:w2.cell? ⟨W,2,none⟩=some (.slice p ks.length c):=by simp [World.cell?,d]
  go_wp2_with (fail)
  refine hK _ _ (fun _=>⟨d0,d1,d2⟩) ?_
  clear hK K d d0 d1 d2
  simp only [Act.put,List.setIfInBounds_toArray,List.set_cons_succ,List.set_cons_zero]
  refine Go.Ev.wpC_step rfl ?_
  rintro _ rfl K hK
  have hlb:l.length+T.size≤1000000000:=by have:=hLlH.out; rw [List.length_append,bytesOf_length] at this; exact this
  go_wp2_with (fail)
  have hBd:=hB2
  refine (writeString_any N B l T _ (hS1.out.blw hBd.out) (by omega) (by omega)).mono ?_
  rintro e w4 ⟨rfl,hS4,hB4,hK4⟩
  have hS4:=Hid.mk hS4
  have hB4:=Hid.mk hB4
  have hK4:=Hid.mk hK4
  clear hlb
  go_wp2_with (fail)
  refine hK _ _ (fun h=>absurd h (by decide)) ?_
  clear hK K
  simp only [Act.put,List.setIfInBounds_toArray,List.set_cons_succ,List.set_cons_zero]
  refine Go.Ev.wpC_end ?_
  rintro _ rfl
  go_wp2_with (fail)
  go_end0
  exact ⟨rfl,hS4.out.s,hB1.out.trans ((hBd.out.mono (by have:=hS1.out.le; omega)).trans hB4.out),hK1.out.trans ((KpW.of hBd.out).trans hK4.out)⟩
 ·
  have e1:((k:Int)==1)=false:=beq_ne (by omega)
  have e2:((k:Int)==2)=false:=beq_ne (by omega)
  have e3:((k:Int)==3)=true:=by simp; omega
  unfold putO at hL; rw [if_neg (by omega),if_neg (by omega),if_pos q] at hL
  have hLH:=Hid.mk hL
  clear hx16 hone q hL
  go_enter Tryz.func74,Tryz.ntmps74
  go_upto_region 1 with (fail)
  generalize w.alloc (.cells #[.int .i64 (k:Nat),.string x,.slice p ks.length c] 57)=w1 at*
  have b0:w1.cell? ⟨W,0,none⟩=some (.int .i64 (k:Nat)):=by simp [World.cell?,hb.out]
  have b1:w1.cell? ⟨W,1,none⟩=some (.string x):=by simp [World.cell?,hb.out]
  have b2:w1.cell? ⟨W,2,none⟩=some (.slice p ks.length c):=by simp [World.cell?,hb.out]
  go_wp2_with (fail)
  go_loopw [32] (fun y wr=>∃ i:Nat,y= .int .i64 (i:Nat)∧i≤ks.length∧∃ l':List Int,BwS N B l' wr∧l'++sepF 32 i ((infoK (ks.drop i)).map itemO)=L∧Below N w1 wr∧KpW B w1 wr) (fun y _=>ks.length - (intOf y).toNat)
  case atStart=>exact ⟨0,rfl,Nat.zero_le _,l,hS1.out,hLH.out,Below.refl _ _,KpW.refl _ _⟩
  case round=>
   obtain ⟨i,rfl,hi,l',hSr,hLr,hBr,hKr⟩:=hrel
   have hNr:=Nat.le_of_lt hSr.le
   by_cases hlt2:i < ks.length
   ·have hiI:(i:Int) < (ks.length:Int):=by omega
    obtain ⟨a,ha⟩:∃ a,ks[i]?=some a:=⟨_,List.getElem?_eq_getElem hlt2⟩
    obtain ⟨sp,sc,g,o,c0,hwa,_,he,hgN,hgs,hml,hcs⟩:=hkH.out i a ha
    rw [sepF_at 32 itemO ks i a ha] at hLr
    injection he with he1 he2 he3
    subst he1
    have hib:(i:Int) < 9223372036854775807:=by unfold maxLen at hml; omega
    have hBw:=hW1.out.trans hBr
    have hcs:∀ j u,(nodeC a (.slice sp a.kids.length sc))[j]?=some u→wr.cell? ⟨g,o+i*3+j,none⟩=some u:=fun j u hu=>by
     rw [Nat.add_assoc,hBw.cell (by exact hgN)]; exact hcs j u hu
    have a0:=hcs 0 _ rfl
    have a1:=hcs 1 _ rfl
    have a2:=hcs 2 _ rfl
    simp only [Nat.add_zero] at a0
    have hgr:g < wr.heap.size:=Nat.lt_of_lt_of_le hgs hBw.size
    have hgn:g≠wr.heap.size:=by omega
    have hllen:=Hid.mk (show (l'++((if 0 < i then [32] else [])++itemO (infoT a))).length≤1000000000 by have h1:=hLlH.out; rw [← hLr] at h1; simp only [List.length_append] at h1 ⊢; omega)
    have hwa:=Hid.mk hwa
    have hSr:=Hid.mk hSr
    have hLr:=Hid.mk hLr
    have hBr:=Hid.mk hBr
    have hKr:=Hid.mk hKr
    have hBw:=Hid.mk hBw
    have hltr:=Hid.mk hSr.out.lt
    have hBb:=Hid.mk ((Below.refl wr.heap.size wr).alloc (Nat.le_refl _) (.cells #[.int .i64 (a.kind:Nat),.string a.text,.slice sp a.kids.length sc] 57))
    have hbb:=Hid.mk (heap_alloc_new wr (.cells #[.int .i64 (a.kind:Nat),.string a.text,.slice sp a.kids.length sc] 57))
    clear hcs hgs ha he2 he3 hml hgN b0 b1 b2 hW
    by_cases h0:0 < i
    ·have hi0:(0:Int) < (i:Int):=by omega
     rw [if_pos h0] at hllen hLr
     have hdec:decide (0 < i)=true:=decide_eq_true h0
     go_wp2_with (fail)
     generalize hwb:wr.alloc (.cells #[.int .i64 (a.kind:Nat),.string a.text,.slice sp a.kids.length sc] 57)=wb at*
     refine (writeByte_any N B l' 32 _ (hSr.out.blw hBb.out) (by have:=hllen.out; simp at this; omega)).mono ?_
     rintro e w5 ⟨rfl,hS5,hB5,hK5⟩
     have d:=hK5.row hbb.out (by have:=hltr.out; omega) (by decide)
     have d0:w5.cell? ⟨wr.heap.size,0,none⟩=some (.int .i64 (a.kind:Nat)):=by simp [World.cell?,d]
     have d1:w5.cell? ⟨wr.heap.size,1,none⟩=some (.string a.text):=by simp [World.cell?,d]
     have d2:w5.cell? ⟨wr.heap.size,2,none⟩=some (.slice sp a.kids.length sc):=by simp [World.cell?,d]
     have hS5:=Hid.mk hS5
     have hB5:=Hid.mk ((hBb.out.mono hNr).trans hB5)
     have hK5:=Hid.mk ((KpW.of (B:=B) hBb.out).trans hK5)
     clear d hwb
     go_wp2_with (fail)
     refine (wr_item N B w0 a _ ⟨_,_,rfl⟩ hwa.out _ _ hS5.out.s (hBw.out.trans hB5.out) (by have:=hllen.out; simp at this ⊢; omega)).mono ?_
     rintro e w6 ⟨rfl,hS6,hB6,hK6⟩
     have hS6:=Hid.mk hS6
     have hB6:=Hid.mk (hBr.out.trans (hB5.out.trans hB6))
     have hK6:=Hid.mk (hKr.out.trans (hK5.out.trans hK6))
     go_wp2_with (fail)
     exact ⟨⟨i+1,by simp,by omega,_,hS6.out,by have:=hLr.out; simpa using this,hB6.out,hK6.out⟩,by simp [intOf]; omega⟩
    ·have hi0:((0:Int) < (i:Int))=False:=eq_false (by omega)
     rw [if_neg h0] at hllen hLr
     have hdec:decide (0 < i)=false:=decide_eq_false h0
     have h0:i=0:=by omega
     clear h0
     go_wp2_with (fail)
     refine (wr_item N B w0 a _ ⟨_,_,rfl⟩ hwa.out _ _ (hSr.out.blw hBb.out) (hBw.out.trans (hBb.out.mono hNr)) (by have:=hllen.out; simp at this ⊢; omega)).mono ?_
     rintro e w6 ⟨rfl,hS6,hB6,hK6⟩
     have hS6:=Hid.mk hS6
     have hB6:=Hid.mk (hBr.out.trans ((hBb.out.mono hNr).trans hB6))
     have hK6:=Hid.mk (hKr.out.trans ((KpW.of (B:=B) hBb.out).trans hK6))
     go_wp2_with (fail)
     exact ⟨⟨i+1,by simp,by omega,_,hS6.out,by have:=hLr.out; simpa using this,hB6.out,hK6.out⟩,by simp [intOf]; omega⟩
   ·have hiI:((i:Int) < (ks.length:Int))=False:=eq_false (by omega)
    have hd:ks.drop i=[]:=List.drop_eq_nil_of_le (by omega)
    rw [hd,infoK,List.map_nil,sepF,List.append_nil] at hLr
    subst hLr
    have hSr:=Hid.mk hSr
    have hBr:=Hid.mk hBr
    have hKr:=Hid.mk hKr
    clear hd
    go_wp2_with (fail)
    go_end0
    exact ⟨rfl,hSr.out,hB1.out.trans hBr.out,hK1.out.trans hKr.out⟩
 ·
  have e1:((k:Int)==1)=false:=beq_ne (by omega)
  have e2:((k:Int)==2)=false:=beq_ne (by omega)
  have e3:((k:Int)==3)=false:=beq_ne (by omega)
  have e4:((k:Int)==4)=true:=by simp; omega
  unfold putO at hL; rw [if_neg (by omega),if_neg (by omega),if_neg (by omega),if_pos q] at hL
  have hLH:=Hid.mk hL
  clear hx16 hone q hL
  go_enter Tryz.func74,Tryz.ntmps74
  go_upto_region 1 with (fail)
  generalize w.alloc (.cells #[.int .i64 (k:Nat),.string x,.slice p ks.length c] 57)=w1 at*
  have b0:w1.cell? ⟨W,0,none⟩=some (.int .i64 (k:Nat)):=by simp [World.cell?,hb.out]
  have b1:w1.cell? ⟨W,1,none⟩=some (.string x):=by simp [World.cell?,hb.out]
  have b2:w1.cell? ⟨W,2,none⟩=some (.slice p ks.length c):=by simp [World.cell?,hb.out]
  go_wp2_with (fail)
  go_loopw [52] (fun y wr=>∃ i:Nat,y= .int .i64 (i:Nat)∧i≤ks.length∧∃ l':List Int,BwS N B l' wr∧l'++sepF 124 i ((infoK (ks.drop i)).map rowO)=L∧Below N w1 wr∧KpW B w1 wr) (fun y _=>ks.length - (intOf y).toNat)
  case atStart=>exact ⟨0,rfl,Nat.zero_le _,l,hS1.out,hLH.out,Below.refl _ _,KpW.refl _ _⟩
  case round=>
   obtain ⟨i,rfl,hi,l',hSr,hLr,hBr,hKr⟩:=hrel
   have hNr:=Nat.le_of_lt hSr.le
   by_cases hlt2:i < ks.length
   ·have hiI:(i:Int) < (ks.length:Int):=by omega
    obtain ⟨a,ha⟩:∃ a,ks[i]?=some a:=⟨_,List.getElem?_eq_getElem hlt2⟩
    obtain ⟨sp,sc,g,o,c0,hwa,_,he,hgN,hgs,hml,hcs⟩:=hkH.out i a ha
    rw [sepF_at 124 rowO ks i a ha] at hLr
    injection he with he1 he2 he3
    subst he1
    have hib:(i:Int) < 9223372036854775807:=by unfold maxLen at hml; omega
    have hBw:=hW1.out.trans hBr
    have hcs:∀ j u,(nodeC a (.slice sp a.kids.length sc))[j]?=some u→wr.cell? ⟨g,o+i*3+j,none⟩=some u:=fun j u hu=>by
     rw [Nat.add_assoc,hBw.cell (by exact hgN)]; exact hcs j u hu
    have a0:=hcs 0 _ rfl
    have a1:=hcs 1 _ rfl
    have a2:=hcs 2 _ rfl
    simp only [Nat.add_zero] at a0
    have hgr:g < wr.heap.size:=Nat.lt_of_lt_of_le hgs hBw.size
    have hgn:g≠wr.heap.size:=by omega
    have hllen:=Hid.mk (show (l'++((if 0 < i then [124] else [])++rowO (infoT a))).length≤1000000000 by have h1:=hLlH.out; rw [← hLr] at h1; simp only [List.length_append] at h1 ⊢; omega)
    have hwa:=Hid.mk hwa
    have hSr:=Hid.mk hSr
    have hLr:=Hid.mk hLr
    have hBr:=Hid.mk hBr
    have hKr:=Hid.mk hKr
    have hBw:=Hid.mk hBw
    have hltr:=Hid.mk hSr.out.lt
    have hBb:=Hid.mk ((Below.refl wr.heap.size wr).alloc (Nat.le_refl _) (.cells #[.int .i64 (a.kind:Nat),.string a.text,.slice sp a.kids.length sc] 57))
    have hbb:=Hid.mk (heap_alloc_new wr (.cells #[.int .i64 (a.kind:Nat),.string a.text,.slice sp a.kids.length sc] 57))
    clear hcs hgs ha he2 he3 hml hgN b0 b1 b2 hW
    by_cases h0:0 < i
    ·have hi0:(0:Int) < (i:Int):=by omega
     rw [if_pos h0] at hllen hLr
     have hdec:decide (0 < i)=true:=decide_eq_true h0
     go_wp2_with (fail)
     generalize hwb:wr.alloc (.cells #[.int .i64 (a.kind:Nat),.string a.text,.slice sp a.kids.length sc] 57)=wb at*
     refine (writeByte_any N B l' 124 _ (hSr.out.blw hBb.out) (by have:=hllen.out; simp at this; omega)).mono ?_
     rintro e w5 ⟨rfl,hS5,hB5,hK5⟩
     have d:=hK5.row hbb.out (by have:=hltr.out; omega) (by decide)
     have d0:w5.cell? ⟨wr.heap.size,0,none⟩=some (.int .i64 (a.kind:Nat)):=by simp [World.cell?,d]
     have d1:w5.cell? ⟨wr.heap.size,1,none⟩=some (.string a.text):=by simp [World.cell?,d]
     have d2:w5.cell? ⟨wr.heap.size,2,none⟩=some (.slice sp a.kids.length sc):=by simp [World.cell?,d]
     have hS5:=Hid.mk hS5
     have hB5:=Hid.mk ((hBb.out.mono hNr).trans hB5)
     have hK5:=Hid.mk ((KpW.of (B:=B) hBb.out).trans hK5)
     clear d hwb
     go_wp2_with (fail)
     refine (wr_row N B w0 a _ ⟨_,_,rfl⟩ hwa.out _ _ hS5.out.s (hBw.out.trans hB5.out) (by have:=hllen.out; simp at this ⊢; omega)).mono ?_
     rintro e w6 ⟨rfl,hS6,hB6,hK6⟩
     have hS6:=Hid.mk hS6
     have hB6:=Hid.mk (hBr.out.trans (hB5.out.trans hB6))
     have hK6:=Hid.mk (hKr.out.trans (hK5.out.trans hK6))
     go_wp2_with (fail)
     exact ⟨⟨i+1,by simp,by omega,_,hS6.out,by have:=hLr.out; simpa using this,hB6.out,hK6.out⟩,by simp [intOf]; omega⟩
    ·have hi0:((0:Int) < (i:Int))=False:=eq_false (by omega)
     rw [if_neg h0] at hllen hLr
     have hdec:decide (0 < i)=false:=decide_eq_false h0
     have h0:i=0:=by omega
     clear h0
     go_wp2_with (fail)
     refine (wr_row N B w0 a _ ⟨_,_,rfl⟩ hwa.out _ _ (hSr.out.blw hBb.out) (hBw.out.trans (hBb.out.mono hNr)) (by have:=hllen.out; simp at this ⊢; omega)).mono ?_
     rintro e w6 ⟨rfl,hS6,hB6,hK6⟩
     have hS6:=Hid.mk hS6
     have hB6:=Hid.mk (hBr.out.trans ((hBb.out.mono hNr).trans hB6))
     have hK6:=Hid.mk (hKr.out.trans ((KpW.of (B:=B) hBb.out).trans hK6))
     go_wp2_with (fail)
     exact ⟨⟨i+1,by simp,by omega,_,hS6.out,by have:=hLr.out; simpa using this,hB6.out,hK6.out⟩,by simp [intOf]; omega⟩
   ·have hiI:((i:Int) < (ks.length:Int))=False:=eq_false (by omega)
    have hd:ks.drop i=[]:=List.drop_eq_nil_of_le (by omega)
    rw [hd,infoK,List.map_nil,sepF,List.append_nil] at hLr
    subst hLr
    have hSr:=Hid.mk hSr
    have hBr:=Hid.mk hBr
    have hKr:=Hid.mk hKr
    clear hd
    go_wp2_with (fail)
    go_end0
    exact ⟨rfl,hSr.out,hB1.out.trans hBr.out,hK1.out.trans hKr.out⟩
 ·
  have e1:((k:Int)==1)=false:=beq_ne (by omega)
  have e2:((k:Int)==2)=false:=beq_ne (by omega)
  have e3:((k:Int)==3)=false:=beq_ne (by omega)
  have e4:((k:Int)==4)=false:=beq_ne (by omega)
  have e5:((k:Int)==5)=true:=by simp; omega
  obtain ⟨a,rfl⟩:∃ a,ks=[a]:=List.length_eq_one_iff.1 (hone.out (by omega))
  obtain ⟨sp,sc,g,o,c0,hwa,hda,he,hgN,hgs,hml,hcs⟩:=hkH.out 0 a rfl
  injection he with he1 he2 he3
  subst he1
  have hz:putO k x (infoK [a])=againO (infoT a) 91 63 93:=by rw [infoK,infoK]; unfold putO; rw [if_neg (by omega),if_neg (by omega),if_neg (by omega),if_neg (by omega)]; dsimp only; rw [if_pos q]; rfl
  rw [hz] at hL
  subst hL
  clear hz hx16 hone q hkH he2 he3 hml
  go_enter Tryz.func74,Tryz.ntmps74
  go_upto_region 1 with (fail)
  generalize w.alloc (.cells #[.int .i64 (k:Nat),.string x,.slice (some ⟨g,o,none⟩) [a].length c] 57)=w1 at*
  have b0:w1.cell? ⟨W,0,none⟩=some (.int .i64 (k:Nat)):=by simp [World.cell?,hb.out]
  have b1:w1.cell? ⟨W,1,none⟩=some (.string x):=by simp [World.cell?,hb.out]
  have b2:w1.cell? ⟨W,2,none⟩=some (.slice (some ⟨g,o,none⟩) [a].length c):=by simp [World.cell?,hb.out]
  have hcs:∀ j u,(nodeC a (.slice sp a.kids.length sc))[j]?=some u→w1.cell? ⟨g,o+j,none⟩=some u:=fun j u hu=>(hW1.out.cell (by exact hgN)).trans (by have:=hcs j u hu; rwa [Nat.zero_mul,Nat.zero_add] at this)
  have a0:=hcs 0 _ rfl
  have a1:=hcs 1 _ rfl
  have a2:=hcs 2 _ rfl
  simp only [Nat.add_zero] at a0
  have hwa:=Hid.mk hwa
  have hda:=Hid.mk hda
  clear hcs
  go_wp2_with (fail)
  refine (wr_again_opt N B w0 a _ ⟨_,_,rfl⟩ hwa.out hda.out l _ hS1.out hW1.out (by have:=hLlH.out; simpa using this)).mono ?_
  rintro e w4 ⟨rfl,hS4,hB4,hK4⟩
  have hS4:=Hid.mk hS4
  have hB4:=Hid.mk hB4
  have hK4:=Hid.mk hK4
  go_wp2_with (fail)
  go_end0
  exact ⟨rfl,hS4.out,hB1.out.trans hB4.out,hK1.out.trans hK4.out⟩
 ·
  have e1:((k:Int)==1)=false:=beq_ne (by omega)
  have e2:((k:Int)==2)=false:=beq_ne (by omega)
  have e3:((k:Int)==3)=false:=beq_ne (by omega)
  have e4:((k:Int)==4)=false:=beq_ne (by omega)
  have e5:((k:Int)==5)=false:=beq_ne (by omega)
  have e6:((k:Int)==6)=true:=by simp; omega
  obtain ⟨a,rfl⟩:∃ a,ks=[a]:=List.length_eq_one_iff.1 (hone.out (by omega))
  obtain ⟨sp,sc,g,o,c0,hwa,hda,he,hgN,hgs,hml,hcs⟩:=hkH.out 0 a rfl
  injection he with he1 he2 he3
  subst he1
  have hz:putO k x (infoK [a])=againO (infoT a) 123 42 125:=by rw [infoK,infoK]; unfold putO; rw [if_neg (by omega),if_neg (by omega),if_neg (by omega),if_neg (by omega)]; dsimp only; rw [if_neg (by omega),if_pos q]; rfl
  rw [hz] at hL
  subst hL
  clear hz hx16 hone q hkH he2 he3 hml
  go_enter Tryz.func74,Tryz.ntmps74
  go_upto_region 1 with (fail)
  generalize w.alloc (.cells #[.int .i64 (k:Nat),.string x,.slice (some ⟨g,o,none⟩) [a].length c] 57)=w1 at*
  have b0:w1.cell? ⟨W,0,none⟩=some (.int .i64 (k:Nat)):=by simp [World.cell?,hb.out]
  have b1:w1.cell? ⟨W,1,none⟩=some (.string x):=by simp [World.cell?,hb.out]
  have b2:w1.cell? ⟨W,2,none⟩=some (.slice (some ⟨g,o,none⟩) [a].length c):=by simp [World.cell?,hb.out]
  have hcs:∀ j u,(nodeC a (.slice sp a.kids.length sc))[j]?=some u→w1.cell? ⟨g,o+j,none⟩=some u:=fun j u hu=>(hW1.out.cell (by exact hgN)).trans (by have:=hcs j u hu; rwa [Nat.zero_mul,Nat.zero_add] at this)
  have a0:=hcs 0 _ rfl
  have a1:=hcs 1 _ rfl
  have a2:=hcs 2 _ rfl
  simp only [Nat.add_zero] at a0
  have hwa:=Hid.mk hwa
  have hda:=Hid.mk hda
  clear hcs
  go_wp2_with (fail)
  refine (wr_again_star N B w0 a _ ⟨_,_,rfl⟩ hwa.out hda.out l _ hS1.out hW1.out (by have:=hLlH.out; simpa using this)).mono ?_
  rintro e w4 ⟨rfl,hS4,hB4,hK4⟩
  have hS4:=Hid.mk hS4
  have hB4:=Hid.mk hB4
  have hK4:=Hid.mk hK4
  go_wp2_with (fail)
  go_end0
  exact ⟨rfl,hS4.out,hB1.out.trans hB4.out,hK1.out.trans hK4.out⟩
 ·
  have e1:((k:Int)==1)=false:=beq_ne (by omega)
  have e2:((k:Int)==2)=false:=beq_ne (by omega)
  have e3:((k:Int)==3)=false:=beq_ne (by omega)
  have e4:((k:Int)==4)=false:=beq_ne (by omega)
  have e5:((k:Int)==5)=false:=beq_ne (by omega)
  have e6:((k:Int)==6)=false:=beq_ne (by omega)
  have e7:((k:Int)==7)=true:=by simp; omega
  obtain ⟨a,rfl⟩:∃ a,ks=[a]:=List.length_eq_one_iff.1 (hone.out (by omega))
  obtain ⟨sp,sc,g,o,c0,hwa,hda,he,hgN,hgs,hml,hcs⟩:=hkH.out 0 a rfl
  injection he with he1 he2 he3
  subst he1
  have hz:putO k x (infoK [a])=atomO (infoT a)++[43]:=by rw [infoK,infoK]; unfold putO; rw [if_neg (by omega),if_neg (by omega),if_neg (by omega),if_neg (by omega)]; dsimp only; rw [if_neg (by omega),if_neg (by omega),if_pos q]; rfl
  rw [hz] at hL
  subst hL
  clear hz hx16 hone q hkH he2 he3 hml
  go_enter Tryz.func74,Tryz.ntmps74
  go_upto_region 1 with (fail)
  generalize w.alloc (.cells #[.int .i64 (k:Nat),.string x,.slice (some ⟨g,o,none⟩) [a].length c] 57)=w1 at*
  have b0:w1.cell? ⟨W,0,none⟩=some (.int .i64 (k:Nat)):=by simp [World.cell?,hb.out]
  have b1:w1.cell? ⟨W,1,none⟩=some (.string x):=by simp [World.cell?,hb.out]
  have b2:w1.cell? ⟨W,2,none⟩=some (.slice (some ⟨g,o,none⟩) [a].length c):=by simp [World.cell?,hb.out]
  have hcs:∀ j u,(nodeC a (.slice sp a.kids.length sc))[j]?=some u→w1.cell? ⟨g,o+j,none⟩=some u:=fun j u hu=>(hW1.out.cell (by exact hgN)).trans (by have:=hcs j u hu; rwa [Nat.zero_mul,Nat.zero_add] at this)
  have a0:=hcs 0 _ rfl
  have a1:=hcs 1 _ rfl
  have a2:=hcs 2 _ rfl
  simp only [Nat.add_zero] at a0
  have hwa:=Hid.mk hwa
  have hda:=Hid.mk hda
  clear hcs
  go_wp2_with (fail)
  have hl7:=Hid.mk (show l.length+(atomO (infoT a)).length+1≤1000000000 by have:=hLlH.out; simp at this; omega)
  refine (wr_atom N B w0 a _ ⟨_,_,rfl⟩ hwa.out hda.out l _ hS1.out hW1.out (by have:=hl7.out; omega)).mono ?_
  rintro e w2 ⟨rfl,hS2,hB2,hK2⟩
  have hS2:=Hid.mk hS2
  have hB2:=Hid.mk hB2
  have hK2:=Hid.mk hK2
  go_wp2_with (fail)
  refine (writeByte_any N B _ 43 _ hS2.out (by have:=hl7.out; simp; omega)).mono ?_
  rintro e w4 ⟨rfl,hS4,hB4,hK4⟩
  have hS4:=Hid.mk hS4
  have hB4:=Hid.mk hB4
  have hK4:=Hid.mk hK4
  go_wp2_with (fail)
  go_end0
  exact ⟨rfl,by have:=hS4.out.s; simpa using this,hB1.out.trans (hB2.out.trans hB4.out),hK1.out.trans (hK2.out.trans hK4.out)⟩
end Go.Proofs.YtmenpmbgennhoaaGreatDoor

namespace Go.Proofs.YtmenpmbgennhoaaGreatDoor
open Go.RowKit
theorem wr_put_both (N B:Nat) (w0:World) (S:Nat→Prop) (hS:∀ g,S g→g < N) {t:Tr} {s:Value} (h:TrAt S w0 t s):properT t=true→WrC N B w0 t (nodeV t s)∧(t.kids≠[]→HdC N B w0 t.kids s):=by
 induction h with
 | mk k x ks v ss hl h1 h2 ih=>
  intro hp
  have hkp:∀ (i:Nat) a,ks[i]?=some a→properT a=true:=fun i a q=>proper_kids (.mk k x ks) hp a (List.mem_of_getElem? q)
  have hss:∀ (i:Nat) a,ks[i]?=some a→∃ s,ss[i]?=some s:=fun i a q=>⟨_,List.getElem?_eq_getElem (by have:=(List.getElem?_eq_some_iff.1 q).1; omega)⟩
  refine ⟨wr_putw N B w0 k x ks v hp h1.form ?_,?_⟩
  ·intro i a q
   obtain ⟨s,hs⟩:=hss i a q
   obtain ⟨sp,sc,rfl⟩:=(h2 i a s q hs).form
   obtain ⟨g,o,c,he,hSg,hgs,hml,hcs⟩:=h1.cellS q hs
   have hi:=ih i a _ q hs (hkp i a q)
   refine ⟨sp,sc,g,o,c,hi.1,fun hk=>hi.2 (fun e=> ?_),he,hS g hSg,hgs,hml,hcs⟩
   have:=proper_one a (hkp i a q) (by omega)
   rw [e] at this
   simp at this
  ·intro hne
   simp only [Tr.kids] at hne ⊢
   match ks,hne with
   | b::kl,_=>
    obtain ⟨s,hs⟩:=hss 0 b rfl
    obtain ⟨sp,sc,rfl⟩:=(h2 0 b s rfl hs).form
    obtain ⟨g,o,c,he,hSg,hgs,hml,hcs⟩:=h1.cellS (i:=0) (t:=b) rfl hs
    exact ⟨b,kl,sp,sc,g,o,c,rfl,(ih 0 b _ rfl hs (hkp 0 b rfl)).1,he,hS g hSg,hgs,fun j u hu=>by have:=hcs j u hu; rwa [Nat.zero_mul,Nat.zero_add] at this⟩
def okB (l:List Int):Prop:=∀ z ∈ l,0≤z∧z < 256
theorem okB.app {a b:List Int} (h:okB a) (k:okB b):okB (a++b):=fun z hz=>(List.mem_append.1 hz).elim (h z) (k z)
theorem okB.nil:okB []:=fun z hz=>by cases hz
theorem okB.one (z:Int) (h:0≤z∧z < 256):okB [z]:=fun y hy=>by simp at hy; subst hy; exact h
theorem okB_bytes (s:ByteArray):okB (bytesOf s):=fun z hz=>by
 unfold bytesOf at hz
 obtain ⟨b,_,rfl⟩:=List.mem_map.1 hz
 exact ⟨by omega,by have:=UInt8.toNat_lt b; omega⟩
theorem okB.ar (o c:Int) (p:List Int) (ho:0≤o∧o < 256) (hc:0≤c∧c < 256) (h:okB p):okB (arO o c p):=((okB.one o ho).app h).app (okB.one c hc)
def okI (i:WrI):Prop:=okB i.put∧okB i.head
theorem okB.item (i:WrI) (h:okI i):okB (itemO i):=by
 unfold itemO
 split
 ·exact h.1.ar _ _ _ (by omega) (by omega)
 ·exact h.1
theorem okB.row (i:WrI) (h:okI i):okB (rowO i):=by
 unfold rowO
 split
 ·exact h.1.ar _ _ _ (by omega) (by omega)
 ·exact h.1
theorem okB.atom (i:WrI) (h:okI i):okB (atomO i):=by
 unfold atomO
 split
 ·exact h.1
 ·split
  ·exact h.2.ar _ _ _ (by omega) (by omega)
  ·split
   ·exact h.2.ar _ _ _ (by omega) (by omega)
   ·exact h.1.ar _ _ _ (by omega) (by omega)
theorem okB.again (i:WrI) (h:okI i) (o m c:Int) (ho:0≤o∧o < 256) (hm:0≤m∧m < 256) (hc:0≤c∧c < 256):okB (againO i o m c):=by
 unfold againO
 split
 ·exact (okB.atom i h).app (okB.one m hm)
 ·exact h.1.ar _ _ _ ho hc
theorem okB.sep (c:Int) (hc:0≤c∧c < 256):∀ (l:List (List Int)) (i:Nat),(∀ x ∈ l,okB x)→okB (sepF c i l)
 | [],_,_=>by rw [sepF]; exact okB.nil
 | x::l,i,h=>by
  rw [sepF]
  refine (okB.app ?_ (h x (by simp))).app (okB.sep c hc l _ fun y hy=>h y (by simp [hy]))
  split
  ·exact okB.one c hc
  ·exact okB.nil
theorem okB.putO (k:Nat) (x:ByteArray) (l:List WrI) (h:∀ i ∈ l,okI i):okB (putO k x l):=by
 unfold Go.Proofs.YtmenpmbgennhoaaGreatDoor.putO
 split
 ·exact okB_bytes _
 ·split
  ·exact okB_bytes _
  ·split
   ·refine okB.sep _ (by omega) _ _ fun y hy=> ?_
    obtain ⟨i,hi,rfl⟩:=List.mem_map.1 hy
    exact okB.item i (h i hi)
   ·split
    ·refine okB.sep _ (by omega) _ _ fun y hy=> ?_
     obtain ⟨i,hi,rfl⟩:=List.mem_map.1 hy
     exact okB.row i (h i hi)
    ·split
     ·exact okB.nil
     ·rename_i i l'
      have hi:=h i (by simp)
      split
      ·exact okB.again i hi _ _ _ (by omega) (by omega) (by omega)
      ·split
       ·exact okB.again i hi _ _ _ (by omega) (by omega) (by omega)
       ·split
        ·exact (okB.atom i hi).app (okB.one _ (by omega))
        ·exact okB.nil
mutual
theorem okB_put:∀ t:Tr,okB (putT t)
 | .mk k x ks=>by rw [putT]; exact okB.putO k x _ (okB_info ks)
theorem okB_head:∀ t:Tr,okB (headT t)
 | .mk k x ks=>by rw [headT]; exact okB_headK ks
theorem okB_headK:∀ l:List Tr,okB (headK l)
 | []=>by rw [headK]; exact okB.nil
 | a::l=>by rw [headK]; exact okB_put a
theorem okB_info:∀ l:List Tr,∀ i ∈ infoK l,okI i
 | [],i,h=>by rw [infoK] at h; cases h
 | a::l,i,h=>by
  rw [infoK] at h
  rcases List.mem_cons.1 h with rfl | h
  ·exact ⟨okB_put a,okB_head a⟩
  ·exact okB_info l i h
end
end Go.Proofs.YtmenpmbgennhoaaGreatDoor

namespace Go.Proofs.YtmenpmbgennhoaaGreatDoor
open Go.RowKit
def textR (r:Rl):List Int:=bytesOf (r.name++⟨#[58,32]⟩)++putT r.body++bytesOf ⟨#[59,10]⟩
def textRs:List Rl→List Int
 | []=>[]
 | r::l=>textR r++textRs l
def textT (g:Gr):List Int:=(if g.start.toList==(rlAt g.rules 0).name.toList then [] else bytesOf (⟨#[37]⟩++g.start++⟨#[59,10]⟩))++textRs g.rules
theorem size_app_le (a b:ByteArray) (ha:a.size≤32) (hb:b.size≤32):(a++b).size≤1000000000:=by
 rw [ByteArray.size_append]
 omega
theorem size_app3_le (a b c:ByteArray) (ha:a.size≤32) (hb:b.size≤32) (hc:c.size≤32):(a++b++c).size≤1000000000:=by
 rw [ByteArray.size_append,ByteArray.size_append]
 omega
theorem textRs_at (rs:List Rl) (i:Nat) (r:Rl) (h:rs[i]?=some r):textRs (rs.drop i)=textR r++textRs (rs.drop (i+1)):=by
 obtain ⟨hi,rfl⟩:=List.getElem?_eq_some_iff.1 h
 rw [List.drop_eq_getElem_cons hi,textRs]
theorem okB_rs:∀ l:List Rl,okB (textRs l)
 | []=>okB.nil
 | r::l=>(((okB_bytes _).app (okB_put _)).app (okB_bytes _)).app (okB_rs l)
theorem okB_text (g:Gr):okB (textT g):=by
 unfold textT
 refine okB.app ?_ (okB_rs _)
 split
 ·exact okB.nil
 ·exact okB_bytes _
def RdC (w:World) (rs:List Rl) (v:Value):Prop:=∀ (i:Nat) (r:Rl),rs[i]?=some r→∃ (sp:Option Addr) (sc g o c:Nat),(properT r.body=true→∀ B,WrC w.heap.size B w r.body (nodeV r.body (.slice sp r.body.kids.length sc)))∧
 v= .slice (some ⟨g,o,none⟩) rs.length c∧g < w.heap.size∧rs.length≤maxLen∧∀ j u,(ruleC r (.slice sp r.body.kids.length sc))[j]?=some u→w.cell? ⟨g,o+(i*4+j),none⟩=some u
theorem RdC.of {S:Nat→Prop} {w:World} {rs:List Rl} {v:Value} (h:RsAt S w rs v):RdC w rs v:=by
 obtain ⟨ss,hl,h1,h2⟩:=h
 intro i r q
 obtain ⟨s,hs⟩:∃ s,ss[i]?=some s:=⟨_,List.getElem?_eq_getElem (by have:=(List.getElem?_eq_some_iff.1 q).1; omega)⟩
 have ht:=h2 i r s q hs
 obtain ⟨sp,sc,rfl⟩:=ht.form
 obtain ⟨g,o,c,he,hgs,hml,hcs⟩:=h1.rcell q hs
 exact ⟨sp,sc,g,o,c,fun hp B=>(wr_put_both w.heap.size B w (fun g=>g < w.heap.size) (fun g h=>h) (ht.keep (Nat.le_refl _) fun g h1 h2=>⟨rfl,h2⟩) hp).1,he,hgs,hml,hcs⟩
set_option maxRecDepth 100000 in
set_option maxHeartbeats 6400000 in
theorem text_any (S:Nat→Prop) (w:World) {g:Gr} {s:Value} (h:RsAt S w g.rules s) (hn:properG g=true→(textT g).length≤1000000000) :
  Calls Tryz.prog 38 #[gramV g s] w fun e w'=>e= .returned (.tuple #[.string (if properG g then strOfNums (textT g) else ⟨#[]⟩),.int .i64 (if properG g then 0 else 1)])∧Below w.heap.size w w':=by
 have hm:Tryz.prog.follows .mixedOrders=true:=rfl
 have hpr:=Hid.mk (fun w' (hB:Below w.heap.size w w')=>properG_any S w' (g:=g) (h.keep hB.size fun g h1 h2=>⟨hB.block g h2,h1⟩))
 have hrd:=Hid.mk (RdC.of h)
 obtain ⟨p,c,rfl⟩:=h.form
 have hBox:Below w.heap.size w (w.alloc (.cells #[.string g.start,.slice p g.rules.length c] 25)):=(Below.refl _ w).alloc (Nat.le_refl _) _
 have hb:=Hid.mk (heap_alloc_new w (.cells #[.string g.start,.slice p g.rules.length c] 25))
 have hB1:=Hid.mk hBox
 obtain ⟨W,hW⟩:∃ W,w.heap.size=W:=⟨_,rfl⟩
 have hb1:=Hid.mk (show W < (w.alloc (.cells #[.string g.start,.slice p g.rules.length c] 25)).heap.size by simp; omega)
 have hWH:=Hid.mk hW
 rw [hW] at hb
 clear h hBox
 unfold gramV at*
 cases hP:properG g with
 | false=>
  clear hn hrd
  go_enter Tryz.func38,Tryz.ntmps38
  go_wp2_with (fail)
  refine (hpr.out _ hB1.out).mono ?_
  rintro e w2 ⟨rfl,hB2⟩
  have hB2:=Hid.mk (hB1.out.trans (hB2.mono hB1.out.size))
  rw [hP]
  clear hP hW
  go_wp2_with (fail)
  go_ret2
  exact ⟨rfl,hB2.out⟩
 | true=>
  rw [if_pos rfl,if_pos rfl]
  have hlenH:=Hid.mk (hn hP)
  obtain ⟨L,hL⟩:∃ L,textT g=L:=⟨_,rfl⟩
  have hok:=Hid.mk (okB_text g)
  rw [hL] at hlenH hok ⊢
  have hLO:=Hid.mk hL
  clear hL
  have hP':=hP
  unfold properG at hP'
  simp only [Bool.and_eq_true,decide_eq_true_eq] at hP'
  obtain ⟨hg1,hg2,hg3⟩:=hP'
  have hst:=Hid.mk (good_size _ hg1)
  have hrs:=Hid.mk (fun r hr=>properRs_mem g.rules r hg3 hr)
  have hpos:(0:Int) < (g.rules.length:Int):=by omega
  have hposH:=Hid.mk hg2
  clear hn hg1 hg2 hg3
  go_enter Tryz.func38,Tryz.ntmps38
  go_wp2_with (fail)
  refine (hpr.out _ hB1.out).mono ?_
  rintro e w2 ⟨rfl,hB2⟩
  rw [hP]
  clear hpr hP hW
  have d:=hB2.block W hb1.out
  rw [hb.out] at d
  have hd:=Hid.mk d
  have hB2:=Hid.mk (hB1.out.trans (hB2.mono hB1.out.size))
  have hlt2:=Hid.mk (show W < w2.heap.size from (Array.getElem?_eq_some_iff.1 d).1)
  clear d
  go_upto_region 4 with (fail)
  have hNw2:W≤w2.heap.size:=Nat.le_of_lt hlt2.out
  have hS3:BwS W w2.heap.size [] (w2.alloc (.cells #[.pointer none,.slice none 0 0] 129)):=⟨_,_,heap_alloc_new w2 _,.inl rfl,Out.nil (by simp; omega),hNw2⟩
  have hB3:=Hid.mk (hB2.out.trans ((Below.refl w.heap.size w2).alloc (by rw [hWH.out]; exact hNw2) (.cells #[.pointer none,.slice none 0 0] 129)))
  have hd3:=Hid.mk ((Go.heap_alloc_old w2 (.cells #[.pointer none,.slice none 0 0] 129) hlt2.out).trans hd.out)
  have hWB:=Hid.mk (show W≠w2.heap.size by have:=hlt2.out; omega)
  have hSH:=Hid.mk hS3
  generalize w2.alloc (.cells #[.pointer none,.slice none 0 0] 129)=w3 at*
  generalize w2.heap.size=B at*
  clear hS3 hNw2
  obtain ⟨r0,hr0⟩:∃ r,g.rules[0]?=some r:=⟨_,List.getElem?_eq_getElem hposH.out⟩
  have hr0n:(rlAt g.rules 0).name=r0.name:=by unfold rlAt; rw [hr0]; rfl
  obtain ⟨sp0,sc0,bg,bo,bc,_,he,hgs,hml,hcs⟩:=hrd.out 0 r0 hr0
  injection he with he1 he2 he3
  subst he1
  have hcs:∀ j u,(ruleC r0 (.slice sp0 r0.body.kids.length sc0))[j]?=some u→w3.cell? ⟨bg,bo+j,none⟩=some u:=fun j u hu=>(hB3.out.cell (by exact hgs)).trans (by have:=hcs j u hu; rwa [Nat.zero_mul,Nat.zero_add] at this)
  have a0:=hcs 0 _ rfl
  simp only [Nat.add_zero] at a0
  have b0:w3.cell? ⟨W,0,none⟩=some (.string g.start):=by simp [World.cell?,hd3.out]
  have b1:w3.cell? ⟨W,1,none⟩=some (.slice (some ⟨bg,bo,none⟩) g.rules.length c):=by simp [World.cell?,hd3.out]
  have hposn:0 < g.rules.length:=hposH.out
  clear hcs he2 he3 hml hgs hr0
  have hL:=hLO.out
  clear hLO
  unfold textT at hL
  rw [hr0n] at hL
  refine Go.Ev.wp_region_pfe [] 0 (fun u=>u.cell? ⟨W,0,none⟩=some (.string g.start)∧u.cell? ⟨W,1,none⟩=some (.slice (some ⟨bg,bo,none⟩) g.rules.length c)∧u.cell? ⟨bg,bo,none⟩=some (.string r0.name)) hm (by kernel_rfl) (by kernel_rfl) (by kernel_rfl) ⟨b0,b1,a0⟩ ?_
  refine Go.Ev.planF_look (by rfl) _ (by rintro u K ⟨f1,f2,f3⟩ hK; go_simp; exact hK _ rfl) ?_
  simp only [Act.put,List.setIfInBounds_toArray,List.set_cons_succ,List.set_cons_zero]
  refine Go.Ev.planF_look (by rfl) _ (by rintro u K ⟨f1,f2,f3⟩ hK; go_simp; exact hK _ rfl) ?_
  simp only [Act.put,List.setIfInBounds_toArray,List.set_cons_succ,List.set_cons_zero]
  refine Go.Ev.planF_look (by rfl) _ (by rintro u K ⟨f1,f2,f3⟩ hK; go_simp; exact hK _ rfl) ?_
  simp only [Act.put,List.setIfInBounds_toArray,List.set_cons_succ,List.set_cons_zero]
  refine Go.Ev.planF_look (by rfl) _ (by rintro u K ⟨f1,f2,f3⟩ hK; go_simp; exact hK _ rfl) ?_
  simp only [Act.put,List.setIfInBounds_toArray,List.set_cons_succ,List.set_cons_zero]
  refine Go.Ev.planF_look (by rfl) _ (by rintro u K ⟨f1,f2,f3⟩ hK; go_simp; exact hK _ rfl) ?_
  simp only [Act.put,List.setIfInBounds_toArray,List.set_cons_succ,List.set_cons_zero]
  refine Go.Ev.planF_look (by rfl) _ (by rintro u K ⟨f1,f2,f3⟩ hK; go_simp; exact hK _ rfl) ?_
  simp only [Act.put,List.setIfInBounds_toArray,List.set_cons_succ,List.set_cons_zero]
  refine Go.Ev.planF_look (by rfl) _ (by rintro u K ⟨f1,f2,f3⟩ hK; go_simp; exact hK _ rfl) ?_
  simp only [Act.put,List.setIfInBounds_toArray,List.set_cons_succ,List.set_cons_zero]
  cases hq:(g.start.toList==r0.name.toList) with
  | true=>
   have heq:(g.start.toList==r0.name.toList)=true:=hq
   refine Go.Ev.planF_look (by rfl) (.bool false) (by rintro u K ⟨f1,f2,f3⟩ hK; go_simp; exact hK _ rfl) ?_
   simp only [Act.put,List.setIfInBounds_toArray,List.set_cons_succ,List.set_cons_zero]
   refine Go.Ev.planF_nil ?_
   refine Go.Ev.wpC_end ?_
   rintro _ rfl
   rw [heq,if_pos rfl,List.nil_append] at hL
   have hLH:=Hid.mk hL
   have hS4:=Hid.mk (hSH.out.blw (blw_drewN _ w3 1))
   have hB4:=Hid.mk (hB3.out.trans (blw_drewN _ w3 1))
   clear hL hq heq a0
   go_wp2_with (fail)
   go_loopw [27] (fun y wr=>∃ i:Nat,y= .int .i64 (i:Nat)∧i≤g.rules.length∧∃ l':List Int,BwS W B l' wr∧l'++textRs (g.rules.drop i)=L∧Below w.heap.size w wr) (fun y _=>g.rules.length - (intOf y).toNat)
   case atStart=>exact ⟨0,rfl,Nat.zero_le _,_,hS4.out,hLH.out,hB4.out⟩
   case round=>
    obtain ⟨i,rfl,hi,l',hSr,hLr,hBr⟩:=hrel
    have hNr:=Nat.le_of_lt hSr.le
    by_cases hlt2:i < g.rules.length
    ·have hiI:(i:Int) < (g.rules.length:Int):=by omega
     obtain ⟨a,ha⟩:∃ a,g.rules[i]?=some a:=⟨_,List.getElem?_eq_getElem hlt2⟩
     obtain ⟨sp,sc,g',o,c0,hwa,he,hgs,hml,hcs⟩:=hrd.out i a ha
     have hra:=hrs.out a (List.mem_of_getElem? ha)
     have hnm:=good_size _ hra.1
     have hwa:=Hid.mk (hwa hra.2 B)
     rw [textRs_at g.rules i a ha] at hLr
     injection he with he1 he2 he3
     injection he1 with he1
     injection he1 with he4 he5
     subst he4
     subst he5
     have hib:(i:Int) < 9223372036854775807:=by unfold maxLen at hml; omega
     have hcs:∀ j u,(ruleC a (.slice sp a.body.kids.length sc))[j]?=some u→wr.cell? ⟨bg,bo+i*4+j,none⟩=some u:=fun j u hu=>by
      rw [Nat.add_assoc,hBr.cell (by exact hgs)]; exact hcs j u hu
     have a0:=hcs 0 _ rfl
     have a1:=hcs 1 _ rfl
     have a2:=hcs 2 _ rfl
     have a3:=hcs 3 _ rfl
     simp only [Nat.add_zero] at a0
     have hgr:bg < wr.heap.size:=Nat.lt_of_lt_of_le hgs hBr.size
     have hgn:bg≠wr.heap.size:=by omega
     have hdot:(9223372036854775807 < a.name.size+2)=False:=eq_false (by omega)
     have hllen:=Hid.mk (show (l'++textR a).length≤1000000000 by have h1:=hlenH.out; rw [← hLr] at h1; simp only [List.length_append] at h1 ⊢; omega)
     have hnm:=Hid.mk hnm
     have hSr:=Hid.mk hSr
     have hLr:=Hid.mk hLr
     have hBr:=Hid.mk hBr
     have hltr:=Hid.mk hSr.out.lt
     have hBb:=Hid.mk ((Below.refl wr.heap.size wr).alloc (Nat.le_refl _) (.cells #[.string a.name,.int .i64 (a.body.kind:Nat),.string a.body.text,.slice sp a.body.kids.length sc] 61))
     have hbb:=Hid.mk (heap_alloc_new wr (.cells #[.string a.name,.int .i64 (a.body.kind:Nat),.string a.body.text,.slice sp a.body.kids.length sc] 61))
     clear hcs hgs ha he2 he3 hml hra
     have hNrW:=Hid.mk (show w.heap.size≤wr.heap.size by rw [hWH.out]; exact hNr)
     go_wp2_with (fail)
     have hq1:l'.length≤1000000000:=by
      have:=hllen.out
      rw [List.length_append] at this
      exact Nat.le_trans (Nat.le_add_right _ _) this
     have hq2:(a.name++⟨#[58,32]⟩:ByteArray).size≤1000000000:=size_app_le _ _ hnm.out (by decide)
     have hq3:=writeString_any W B l' (a.name++⟨#[58,32]⟩) _ (hSr.out.blw hBb.out) hq1 hq2
     refine hq3.mono ?_
     rintro e w5 ⟨rfl,hS5,hB5,hK5⟩
     have d:=hK5.row hbb.out (by have:=hltr.out; omega) (by decide)
     have d0:w5.cell? ⟨wr.heap.size,0,none⟩=some (.string a.name):=by simp [World.cell?,d]
     have d1:w5.cell? ⟨wr.heap.size,1,none⟩=some (.int .i64 (a.body.kind:Nat)):=by simp [World.cell?,d]
     have d2:w5.cell? ⟨wr.heap.size,2,none⟩=some (.string a.body.text):=by simp [World.cell?,d]
     have d3:w5.cell? ⟨wr.heap.size,3,none⟩=some (.slice sp a.body.kids.length sc):=by simp [World.cell?,d]
     have hS5:=Hid.mk hS5
     rw [← hWH.out] at hB5
     have hB5:=Hid.mk (hBr.out.trans ((hBb.out.mono hNrW.out).trans hB5))
     clear d hK5
     go_wp2_with (fail)
     refine ((hWH.out▸hwa.out) _ _ hS5.out.s hB5.out.size (hWH.out▸hB5.out) (by have:=hllen.out; simp only [textR,List.length_append] at this ⊢; omega)).mono ?_
     rintro e w6 ⟨rfl,hS6,hB6,_⟩
     have hS6:=Hid.mk hS6
     rw [← hWH.out] at hB6
     have hB6:=Hid.mk (hB5.out.trans hB6)
     clear d0 d1 d2 d3
     go_wp2_with (fail)
     refine (writeString_any W B _ ⟨#[59,10]⟩ _ hS6.out (by have:=hllen.out; simp only [textR,List.length_append] at this ⊢; omega) (by decide)).mono ?_
     rintro e w7 ⟨rfl,hS7,hB7,_⟩
     have hS7:=Hid.mk hS7
     rw [← hWH.out] at hB7
     have hB7:=Hid.mk (hB6.out.trans hB7)
     go_wp2_with (fail)
     exact ⟨⟨i+1,by simp,by omega,_,hS7.out.s,by have:=hLr.out; simp only [textR,List.append_assoc] at this ⊢; exact this,hB7.out⟩,by simp [intOf]; omega⟩
    ·have hiI:((i:Int) < (g.rules.length:Int))=False:=eq_false (by omega)
     have hd:g.rules.drop i=[]:=List.drop_eq_nil_of_le (by omega)
     rw [hd,textRs,List.append_nil] at hLr
     subst hLr
     have hSr:=Hid.mk hSr
     have hBr:=Hid.mk hBr
     clear hd
     go_wp2_with (fail)
     refine (string_any W B l' wr hSr.out hok.out).mono ?_
     rintro e w8 ⟨rfl,hB8⟩
     rw [← hWH.out] at hB8
     have hB8:=Hid.mk (hBr.out.trans hB8)
     go_wp2_with (fail)
     go_ret2
     exact ⟨rfl,hB8.out⟩
  | false=>
   have heq:(g.start.toList==r0.name.toList)=false:=hq
   refine Go.Ev.planF_look (by rfl) (.bool true) (by rintro u K ⟨f1,f2,f3⟩ hK; go_simp; exact hK _ rfl) ?_
   simp only [Act.put,List.setIfInBounds_toArray,List.set_cons_succ,List.set_cons_zero]
   refine Go.Ev.planF_nil ?_
   refine Go.Ev.wpC_end ?_
   rintro _ rfl
   rw [heq,if_neg (by decide)] at hL
   have hLH:=Hid.mk hL
   have hdt1:(9223372036854775807 < 1+g.start.size)=False:=eq_false (by have:=hst.out; omega)
   have hdt2:(9223372036854775807 < 1+g.start.size+2)=False:=eq_false (by have:=hst.out; omega)
   clear hL hq heq a0
   go_wp2_with (fail)
   have hq2:(⟨#[37]⟩++g.start++⟨#[59,10]⟩:ByteArray).size≤1000000000:=size_app3_le _ _ _ (by decide) hst.out (by decide)
   have hq3:=writeString_any W B [] (⟨#[37]⟩++g.start++⟨#[59,10]⟩) _ (hSH.out.blw (blw_drewN _ w3 1)) (Nat.zero_le _) hq2
   refine hq3.mono ?_
   rintro e w4 ⟨rfl,hS4,hB4,hK4⟩
   have d:=hK4.row hd3.out hWB.out (by decide)
   have d0:w4.cell? ⟨W,0,none⟩=some (.string g.start):=by simp [World.cell?,d]
   have d1:w4.cell? ⟨W,1,none⟩=some (.slice (some ⟨bg,bo,none⟩) g.rules.length c):=by simp [World.cell?,d]
   have hS4:=Hid.mk hS4.s
   rw [← hWH.out] at hB4
   have hB4:=Hid.mk (hB3.out.trans ((blw_drewN _ w3 1).trans hB4))
   clear d b0 b1 hdt1 hdt2 hK4
   go_wp2_with (fail)
   go_loopw [27] (fun y wr=>∃ i:Nat,y= .int .i64 (i:Nat)∧i≤g.rules.length∧∃ l':List Int,BwS W B l' wr∧l'++textRs (g.rules.drop i)=L∧Below w.heap.size w wr) (fun y _=>g.rules.length - (intOf y).toNat)
   case atStart=>exact ⟨0,rfl,Nat.zero_le _,_,hS4.out,hLH.out,hB4.out⟩
   case round=>
    obtain ⟨i,rfl,hi,l',hSr,hLr,hBr⟩:=hrel
    have hNr:=Nat.le_of_lt hSr.le
    by_cases hlt2:i < g.rules.length
    ·have hiI:(i:Int) < (g.rules.length:Int):=by omega
     obtain ⟨a,ha⟩:∃ a,g.rules[i]?=some a:=⟨_,List.getElem?_eq_getElem hlt2⟩
     obtain ⟨sp,sc,g',o,c0,hwa,he,hgs,hml,hcs⟩:=hrd.out i a ha
     have hra:=hrs.out a (List.mem_of_getElem? ha)
     have hnm:=good_size _ hra.1
     have hwa:=Hid.mk (hwa hra.2 B)
     rw [textRs_at g.rules i a ha] at hLr
     injection he with he1 he2 he3
     injection he1 with he1
     injection he1 with he4 he5
     subst he4
     subst he5
     have hib:(i:Int) < 9223372036854775807:=by unfold maxLen at hml; omega
     have hcs:∀ j u,(ruleC a (.slice sp a.body.kids.length sc))[j]?=some u→wr.cell? ⟨bg,bo+i*4+j,none⟩=some u:=fun j u hu=>by
      rw [Nat.add_assoc,hBr.cell (by exact hgs)]; exact hcs j u hu
     have a0:=hcs 0 _ rfl
     have a1:=hcs 1 _ rfl
     have a2:=hcs 2 _ rfl
     have a3:=hcs 3 _ rfl
     simp only [Nat.add_zero] at a0
     have hgr:bg < wr.heap.size:=Nat.lt_of_lt_of_le hgs hBr.size
     have hgn:bg≠wr.heap.size:=by omega
     have hdot:(9223372036854775807 < a.name.size+2)=False:=eq_false (by omega)
     have hllen:=Hid.mk (show (l'++textR a).length≤1000000000 by have h1:=hlenH.out; rw [← hLr] at h1; simp only [List.length_append] at h1 ⊢; omega)
     have hnm:=Hid.mk hnm
     have hSr:=Hid.mk hSr
     have hLr:=Hid.mk hLr
     have hBr:=Hid.mk hBr
     have hltr:=Hid.mk hSr.out.lt
     have hBb:=Hid.mk ((Below.refl wr.heap.size wr).alloc (Nat.le_refl _) (.cells #[.string a.name,.int .i64 (a.body.kind:Nat),.string a.body.text,.slice sp a.body.kids.length sc] 61))
     have hbb:=Hid.mk (heap_alloc_new wr (.cells #[.string a.name,.int .i64 (a.body.kind:Nat),.string a.body.text,.slice sp a.body.kids.length sc] 61))
     clear hcs hgs ha he2 he3 hml hra
     have hNrW:=Hid.mk (show w.heap.size≤wr.heap.size by rw [hWH.out]; exact hNr)
     go_wp2_with (fail)
     have hq1:l'.length≤1000000000:=by
      have:=hllen.out
      rw [List.length_append] at this
      exact Nat.le_trans (Nat.le_add_right _ _) this
     have hq2:(a.name++⟨#[58,32]⟩:ByteArray).size≤1000000000:=size_app_le _ _ hnm.out (by decide)
     have hq3:=writeString_any W B l' (a.name++⟨#[58,32]⟩) _ (hSr.out.blw hBb.out) hq1 hq2
     refine hq3.mono ?_
     rintro e w5 ⟨rfl,hS5,hB5,hK5⟩
     have d:=hK5.row hbb.out (by have:=hltr.out; omega) (by decide)
     have d0:w5.cell? ⟨wr.heap.size,0,none⟩=some (.string a.name):=by simp [World.cell?,d]
     have d1:w5.cell? ⟨wr.heap.size,1,none⟩=some (.int .i64 (a.body.kind:Nat)):=by simp [World.cell?,d]
     have d2:w5.cell? ⟨wr.heap.size,2,none⟩=some (.string a.body.text):=by simp [World.cell?,d]
     have d3:w5.cell? ⟨wr.heap.size,3,none⟩=some (.slice sp a.body.kids.length sc):=by simp [World.cell?,d]
     have hS5:=Hid.mk hS5
     rw [← hWH.out] at hB5
     have hB5:=Hid.mk (hBr.out.trans ((hBb.out.mono hNrW.out).trans hB5))
     clear d hK5
     go_wp2_with (fail)
     refine ((hWH.out▸hwa.out) _ _ hS5.out.s hB5.out.size (hWH.out▸hB5.out) (by have:=hllen.out; simp only [textR,List.length_append] at this ⊢; omega)).mono ?_
     rintro e w6 ⟨rfl,hS6,hB6,_⟩
     have hS6:=Hid.mk hS6
     rw [← hWH.out] at hB6
     have hB6:=Hid.mk (hB5.out.trans hB6)
     clear d0 d1 d2 d3
     go_wp2_with (fail)
     refine (writeString_any W B _ ⟨#[59,10]⟩ _ hS6.out (by have:=hllen.out; simp only [textR,List.length_append] at this ⊢; omega) (by decide)).mono ?_
     rintro e w7 ⟨rfl,hS7,hB7,_⟩
     have hS7:=Hid.mk hS7
     rw [← hWH.out] at hB7
     have hB7:=Hid.mk (hB6.out.trans hB7)
     go_wp2_with (fail)
     exact ⟨⟨i+1,by simp,by omega,_,hS7.out.s,by have:=hLr.out; simp only [textR,List.append_assoc] at this ⊢; exact this,hB7.out⟩,by simp [intOf]; omega⟩
    ·have hiI:((i:Int) < (g.rules.length:Int))=False:=eq_false (by omega)
     have hd:g.rules.drop i=[]:=List.drop_eq_nil_of_le (by omega)
     rw [hd,textRs,List.append_nil] at hLr
     subst hLr
     have hSr:=Hid.mk hSr
     have hBr:=Hid.mk hBr
     clear hd
     go_wp2_with (fail)
     refine (string_any W B l' wr hSr.out hok.out).mono ?_
     rintro e w8 ⟨rfl,hB8⟩
     rw [← hWH.out] at hB8
     have hB8:=Hid.mk (hBr.out.trans hB8)
     go_wp2_with (fail)
     go_ret2
     exact ⟨rfl,hB8.out⟩
end Go.Proofs.YtmenpmbgennhoaaGreatDoor
