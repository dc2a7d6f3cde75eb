/- Parsing: the parser in memory, its small steps. Parsing: signs and names. Trees of a grammar, in memory. Parsing: what is parsed, and the brackets' walk. -/
import Derived.Test.YtmenpmbgennhoaaGreatDoorLxf
import Derived.Deep.AppendLies
namespace Go.Proofs.YtmenpmbgennhoaaGreatDoor
open Go.RowKit
theorem wpList_store_row {P:Program} {ops:Array Oper} {rest:List Oper} {o:Oper} {a:Act} {w:World} {Q:Exit→Act→World→Prop} (hgd:o.guard=none) (ty:TypeId) (x y:Operand) (ho:o.op= .store ty x y)
  (g:Nat) (vs:Array Value) (hx:a.eval x= .pointer (some ⟨g,0,none⟩)) (hy:a.eval y= .agg vs) (t:TypeId) (cs:Array Value) (hg:w.heap[g]?=some (.cells cs t (0,0)))
  (hi:(P.info? ty).map (·.size)=some vs.size) (hl:cs.size=vs.size) (h1:vs.all (·.oneCell')=true)
  (h:wpList P ops Q rest (a.put o.dst undef) (w.setRow g vs)):wpList P ops Q (o::rest) a w:=
 wpList_plain hgd fun _ hK=>wp_store_row ty x y ho g vs hx hy t cs hg hi hl h1 (hK _ _ h)
structure PS where
 at_:Nat
 open_:Nat
def tokAt (ts:List Tok) (i:Nat):Tok:=ts.getD i ⟨4,⟨#[]⟩,0,0⟩
structure TsOk (ts:List Tok) (n:Nat):Prop where
 len:ts.length=n+1
 last:(tokAt ts n).kind=4
 rest:∀ i,i < n→(tokAt ts i).kind≠4
 small:n≤65536
def psCells (v:Value) (p:PS):Array Value:=#[v,.int .i64 (p.at_:Nat),.int .i64 (p.open_:Nat)]
structure PsS (P G:Nat) (ts:List Tok) (n:Nat) (v:Value) (p:PS) (w:World):Prop where
 cells:w.heap[P]?=some (.cells (psCells v p) 86 (0,0))
 slice:∃ c,v= .slice (some ⟨G,0,none⟩) (n+1) c
 toks:∀ i,i≤n→∀ j u,(tokCells (tokAt ts i))[j]?=some u→w.cell? ⟨G,i*4+j,none⟩=some u
 gp:G < P
 ok:TsOk ts n
 le:p.at_≤n
 op:p.open_≤16
section
variable {P G:Nat} {ts:List Tok} {n:Nat} {v:Value} {p p':PS} {w w':World}
theorem PsS.clt (h:PsS P G ts n v p w):P < w.heap.size:=(Array.getElem?_eq_some_iff.1 h.cells).1
theorem PsS.put (h:PsS P G ts n v p w) (hr:w.heap[P]?=some (.cells (psCells v p) 86 (0,0))→w'.heap[P]?=some (.cells (psCells v p') 86 (0,0))) (ho:Onl P w w') (hle:p'.at_≤n) (hop:p'.open_≤16):PsS P G ts n v p' w':=
 ⟨hr h.cells,h.slice,fun i hi j u hj=>(by
  have h1:=h.toks i hi j u hj
  have hG:G < w.heap.size:=Nat.lt_trans h.gp h.clt
  have h2:=World.grownBy.block ho G hG (fun e=>by cases e; exact absurd h.gp (Nat.lt_irrefl _))
  rw [← h1]; simp [World.cell?,h2]),h.gp,h.ok,hle,hop⟩
theorem PsS.below (h:PsS P G ts n v p w) (hb:Below w.heap.size w w'):PsS P G ts n v p w':=
 h.put (fun hr=>(hb.block P h.clt).trans hr) (Onl.of P hb) h.le h.op
end
def wrongV (f:Flt):Value:= .iface 82 (.agg #[.int .i64 (f.line:Nat),.int .i64 (f.col:Nat),.int .i64 (f.code:Nat)])
def thrown (f:Flt):Ending:= .panicked [{ v:=wrongV f,recovered:=false }]
def fltAt (ts:List Tok) (i c:Nat):Flt:=⟨(tokAt ts i).line,(tokAt ts i).col,c⟩
set_option maxRecDepth 100000 in
theorem pfail_any (P G:Nat) (ts:List Tok) (n:Nat) (v:Value) (p:PS) (w:World) (h:PsS P G ts n v p w) (c:Nat) :
  Calls Tryz.prog 64 #[.pointer (some ⟨P,0,none⟩),.int .i64 (c:Nat)] w fun e w'=>e=thrown (fltAt ts p.at_ c)∧Below w.heap.size w w':=by
 obtain ⟨cap,rfl⟩:=h.slice
 have c0:w.cell? ⟨P,0,none⟩=some (.slice (some ⟨G,0,none⟩) (n+1) cap):=by simp [World.cell?,h.cells,psCells]
 have c1:w.cell? ⟨P,1,none⟩=some (.int .i64 (p.at_:Nat)):=by simp [World.cell?,h.cells,psCells]
 have hi:(p.at_:Int) < ((n:Int)+1):=by have:=h.le; omega
 have t0:=h.toks p.at_ h.le 0 _ rfl
 have t1:=h.toks p.at_ h.le 1 _ rfl
 have t2:=h.toks p.at_ h.le 2 _ rfl
 have t3:=h.toks p.at_ h.le 3 _ rfl
 have hP:P < w.heap.size:=h.clt
 have hG:G < w.heap.size:=Nat.lt_trans h.gp h.clt
 have hP2:P≠w.heap.size:=by omega
 have hG2:G≠w.heap.size:=by omega
 unfold fltAt
 generalize tokAt ts p.at_=t at*
 obtain ⟨tk,tx,tl,tc⟩:=t
 simp only [Nat.add_zero] at t0 t1 t2 t3
 clear h
 go_enter Tryz.func64,Tryz.ntmps64
 go_wp2_with (fail)
 go_region
 go_wp2_with (fail)
 exact ⟨rfl,rfl,((Below.refl _ w).alloc (Nat.le_refl _) _).drew⟩
inductive PR (α:Type) where
 | ok (a:α) (p:PS)
 | bad (f:Flt)
def PP {α:Type} (P G:Nat) (ts:List Tok) (n:Nat) (v:Value) (p0:PS) (w0:World) (val:α→Value→World→Prop) (r:PR α) (e:Ending) (w:World):Prop:=
 Onl P w0 w∧match r with
 | .ok a p=>(∃ u,e= .returned u∧val a u w)∧PsS P G ts n v p w∧p0.at_≤p.at_∧p.open_=p0.open_
 | .bad f=>e=thrown f
def peekF (ts:List Tok) (p:PS):PR Tok:=if 4096≤p.at_∧(tokAt ts p.at_).kind≠4 then .bad (fltAt ts p.at_ 6) else .ok (tokAt ts p.at_) p
def tokV (t:Tok):Value:= .agg #[.int .i64 (t.kind:Nat),.string t.text,.int .i64 (t.line:Nat),.int .i64 (t.col:Nat)]
set_option maxRecDepth 100000 in
set_option maxHeartbeats 1600000 in
theorem peek_any (P G:Nat) (ts:List Tok) (n:Nat) (v:Value) (p:PS) (w:World) (h:PsS P G ts n v p w) :
  Calls Tryz.prog 63 #[.pointer (some ⟨P,0,none⟩)] w fun e w'=>Below w.heap.size w w'∧match peekF ts p with
   | .ok t _=>e= .returned (tokV t)
   | .bad f=>e=thrown f:=by
 obtain ⟨R,hR⟩:∃ R,peekF ts p=R:=⟨_,rfl⟩
 rw [hR]
 unfold peekF at hR
 have hH:=Hid.mk h
 obtain ⟨cap,rfl⟩:=h.slice
 have t0:=h.toks p.at_ h.le 0 _ rfl
 have t1:=h.toks p.at_ h.le 1 _ rfl
 have t2:=h.toks p.at_ h.le 2 _ rfl
 have t3:=h.toks p.at_ h.le 3 _ rfl
 obtain ⟨T,hT⟩:∃ T,w.heap.size=T:=⟨_,rfl⟩
 have hB0:Below T w (w.alloc (.cells #[.int .i64 0,.string ⟨#[]⟩,.int .i64 0,.int .i64 0] 112)):=by rw [← hT]; exact (Below.refl _ w).alloc (Nat.le_refl _) _
 have hsz0:(w.alloc (.cells #[.int .i64 0,.string ⟨#[]⟩,.int .i64 0,.int .i64 0] 112)).heap.size=T+1:=by simp; omega
 have hr0:=heap_alloc_new w (.cells #[.int .i64 0,.string ⟨#[]⟩,.int .i64 0,.int .i64 0] 112)
 rw [hT] at hr0
 have hPT:P < T:=by have:=h.clt; omega
 have hGT:G < T:=by have:=h.gp; omega
 have hi:(p.at_:Int) < ((n:Int)+1):=by have:=h.le; omega
 simp only [Nat.add_zero] at t0 t1 t2 t3
 rw [← hB0.cell (by exact hGT)] at t0 t1 t2 t3
 have c0:(w.alloc (.cells #[.int .i64 0,.string ⟨#[]⟩,.int .i64 0,.int .i64 0] 112)).cell? ⟨P,0,none⟩=some (.slice (some ⟨G,0,none⟩) (n+1) cap):=by rw [hB0.cell (by exact hPT)]; simp [World.cell?,h.cells,psCells]
 have c1:(w.alloc (.cells #[.int .i64 0,.string ⟨#[]⟩,.int .i64 0,.int .i64 0] 112)).cell? ⟨P,1,none⟩=some (.int .i64 (p.at_:Nat)):=by rw [hB0.cell (by exact hPT)]; simp [World.cell?,h.cells,psCells]
 have hP2:P≠T+1:=by omega
 have hG2:G≠T+1:=by omega
 have hP3:P < T+1:=by omega
 have hG3:G < T+1:=by omega
 generalize hwa:w.alloc (.cells #[.int .i64 0,.string ⟨#[]⟩,.int .i64 0,.int .i64 0] 112)=wa at*
 unfold fltAt at hR
 have hpf:=Hid.mk (fun w' (h':PsS P G ts n (.slice (some ⟨G,0,none⟩) (n+1) cap) p w')=>pfail_any P G ts n _ p w' h' 6)
 unfold fltAt at hpf
 generalize htk:tokAt ts p.at_=t at*
 obtain ⟨tk,tx,tl,tc⟩:=t
 have hRH:=Hid.mk hR
 clear h hR
 go_enter Tryz.func63,Tryz.ntmps63
 go_upto_region 1 with (fail)
 go_wp2_with (fail)
 go_region
 generalize hw2:World.drew _=w2
 have hr2:w2.heap[T+1]?=some (.cells #[.int .i64 (tk:Nat),.string tx,.int .i64 (tl:Nat),.int .i64 (tc:Nat)] 112 (0,0)):=by
  subst hw2; rw [← hsz0]; exact heap_alloc_new wa _
 have hB2:Below (T+1) wa w2:=by
  subst hw2; rw [← hsz0]; exact ((Below.refl _ wa).alloc (Nat.le_refl _) _).drew
 have hP2r:Hid (PsS P G ts n (.slice (some ⟨G,0,none⟩) (n+1) cap) p w2):= .mk ((hH.out.below (by rw [hT]; exact hB0)).below (by rw [hsz0]; exact hB2))
 have hT2:w2.heap[T]?=some (.cells #[.int .i64 0,.string ⟨#[]⟩,.int .i64 0,.int .i64 0] 112 (0,0)):=(hB2.block T (by omega)).trans hr0
 have hBw:Below T w w2:=hB0.trans (hB2.mono (Nat.le_succ T))
 have c1:w2.cell? ⟨P,1,none⟩=some (.int .i64 (p.at_:Nat)):=by simp [World.cell?,hP2r.out.cells,psCells]
 have k0:w2.cell? ⟨T+1,0,none⟩=some (.int .i64 (tk:Nat)):=by simp [World.cell?,hr2]
 have hr2H:=Hid.mk hr2
 have hT2H:=Hid.mk hT2
 have hBwH:=Hid.mk hBw
 have hend:Hid ((w2.setRow T #[.int .i64 (tk:Nat),.string tx,.int .i64 (tl:Nat),.int .i64 (tc:Nat)]).heap[T]?=some (.cells #[.int .i64 (tk:Nat),.string tx,.int .i64 (tl:Nat),.int .i64 (tc:Nat)] 112 (0,0))):= .mk (setRow_heap _ _ _ _ _ _ hT2)
 have hendB:=Hid.mk (setRow_low hBw T #[.int .i64 (tk:Nat),.string tx,.int .i64 (tl:Nat),.int .i64 (tc:Nat)] (Nat.le_refl T))
 clear hw2 hr2 hB2 hT2 hBw t0 t1 t2 t3 hH hr0 hwa hB0 hsz0
 by_cases h4:p.at_ < 4096
 ·have h4i:((4096:Int)≤(p.at_:Int))=False:=eq_false (by omega)
  have hre:=hRH.out
  rw [if_neg (by omega)] at hre
  subst hre
  go_wp2_with (first | (refine wpList_load_row rfl 112 _ rfl (T+1) rfl 112 _ _ _ hr2H.out Tryz.underlying112 rfl tokInfo ?_) | (refine wpList_store_row rfl 112 _ _ rfl T _ rfl rfl 112 _ hT2H.out tokInfo rfl (by simp [Value.oneCell']) ?_))
  exact bodyPost_ret (results_cell_row rfl _ _ T _ _ _ _ rfl hend.out Tryz.underlying112 rfl tokInfo) rfl ⟨hendB.out,rfl⟩
 ·have h4i:((4096:Int)≤(p.at_:Int)):=by omega
  by_cases hk4:tk=4
  ·subst hk4
   have hre:=hRH.out
   rw [if_neg (by omega)] at hre
   subst hre
   go_wp2_with (first | (refine wpList_load_row rfl 112 _ rfl (T+1) rfl 112 _ _ _ hr2H.out Tryz.underlying112 rfl tokInfo ?_) | (refine wpList_store_row rfl 112 _ _ rfl T _ rfl rfl 112 _ hT2H.out tokInfo rfl (by simp [Value.oneCell']) ?_))
   exact bodyPost_ret (results_cell_row rfl _ _ T _ _ _ _ rfl hend.out Tryz.underlying112 rfl tokInfo) rfl ⟨hendB.out,rfl⟩
  ·have hk4i:((tk:Int)==4)=false:=beq_ne (by omega)
   have hre:=hRH.out
   rw [if_pos ⟨by omega,hk4⟩] at hre
   subst hre
   go_wp2_with (fail)
   refine (hpf.out _ hP2r.out).mono ?_
   rintro e w3 ⟨rfl,hB3⟩
   exact ⟨rfl,by rw [hT]; exact hBwH.out.trans (hB3.mono (by have:=hBwH.out.size; omega)),rfl⟩
end Go.Proofs.YtmenpmbgennhoaaGreatDoor

namespace Go.Proofs.YtmenpmbgennhoaaGreatDoor
open Go.RowKit
def isSign (t:Tok) (s:ByteArray):Bool:=decide (t.kind=3) && (t.text.toList==s.toList)
def signF (ts:List Tok) (p:PS) (s:ByteArray):PR Bool:=
 match peekF ts p with
 | .ok t _=> .ok (isSign t s) p
 | .bad f=> .bad f
set_option maxRecDepth 100000 in
set_option maxHeartbeats 1600000 in
theorem sign_any (P G:Nat) (ts:List Tok) (n:Nat) (v:Value) (p:PS) (w:World) (h:PsS P G ts n v p w) (s:ByteArray) :
  Calls Tryz.prog 60 #[.pointer (some ⟨P,0,none⟩),.string s] w fun e w'=>Below w.heap.size w w'∧match signF ts p s with
   | .ok b _=>e= .returned (.bool b)
   | .bad f=>e=thrown f:=by
 have hpk:=Hid.mk (peek_any P G ts n v p w h)
 unfold signF
 cases hp:peekF ts p with
 | bad f=>
  rw [hp] at hpk
  go_enter Tryz.func60,Tryz.ntmps60
  go_wp2_with (fail)
  refine hpk.out.mono ?_
  rintro e w1 ⟨hB,rfl⟩
  exact ⟨rfl,hB,rfl⟩
 | ok t p'=>
  rw [hp] at hpk
  obtain ⟨tk,tx,tl,tc⟩:=t
  unfold isSign
  simp only [tokV] at hpk ⊢
  go_enter Tryz.func60,Tryz.ntmps60
  by_cases hk:tk=3
  ·subst hk
   go_wp2_with (fail)
   refine hpk.out.mono ?_
   rintro e w1 ⟨hB,rfl⟩
   have hBH:=Hid.mk hB
   clear hB
   go_wp2_with (fail)
   go_ret
   exact ⟨hBH.out.alloc (by have:=hBH.out.size; omega) _,by simp⟩
  ·have hki:((tk:Int)==3)=false:=beq_ne (by omega)
   go_wp2_with (fail)
   refine hpk.out.mono ?_
   rintro e w1 ⟨hB,rfl⟩
   have hBH:=Hid.mk hB
   clear hB
   go_wp2_with (fail)
   go_ret
   exact ⟨hBH.out.alloc (by have:=hBH.out.size; omega) _,by simp [hk]⟩
theorem PsS.step {P G:Nat} {ts:List Tok} {n:Nat} {v:Value} {p:PS} {w:World} (h:PsS P G ts n v p w) (hlt:p.at_ < n):PsS P G ts n v ⟨p.at_+1,p.open_⟩ (w.setCell ⟨P,1,none⟩ (.int .i64 ((p.at_:Int)+1))):=
 h.put (fun hr=>(row_set hr).trans (by simp [psCells])) ((Onl.refl P w).setCell rfl _) hlt h.op
def nameF (ts:List Tok) (p:PS):PR ByteArray:=
 match peekF ts p with
 | .ok t _=>if t.kind=1 then .ok t.text ⟨p.at_+1,p.open_⟩ else .bad (fltAt ts p.at_ 2)
 | .bad f=> .bad f
theorem peekF_ok {ts:List Tok} {p p':PS} {t:Tok} (h:peekF ts p= .ok t p'):t=tokAt ts p.at_∧p'=p:=by
 unfold peekF at h
 split at h
 ·cases h
 ·cases h; exact ⟨rfl,rfl⟩
theorem TsOk.lt {ts:List Tok} {n i:Nat} (h:TsOk ts n) (hi:i≤n) (hk:(tokAt ts i).kind≠4):i < n:=by
 rcases Nat.lt_or_ge i n with h1 | h1
 ·exact h1
 ·exfalso; apply hk; rw [Nat.le_antisymm hi h1]; exact h.last
set_option maxRecDepth 100000 in
set_option maxHeartbeats 1600000 in
theorem name_ps (P G:Nat) (ts:List Tok) (n:Nat) (v:Value) (p:PS) (w:World) (h:PsS P G ts n v p w) :
  Calls Tryz.prog 61 #[.pointer (some ⟨P,0,none⟩)] w fun e w'=>PP P G ts n v p w (fun s u _=>u= .string s) (nameF ts p) e w':=by
 have hpk:=Hid.mk (peek_any P G ts n v p w h)
 have hH:=Hid.mk h
 unfold nameF
 cases hp:peekF ts p with
 | bad f=>
  rw [hp] at hpk
  go_enter Tryz.func61,Tryz.ntmps61
  go_wp2_with (fail)
  refine hpk.out.mono ?_
  rintro e w1 ⟨hB,rfl⟩
  exact ⟨rfl,Onl.of P hB,rfl⟩
 | ok t p'=>
  rw [hp] at hpk
  obtain ⟨ht,hp'⟩:=peekF_ok hp
  clear hp
  subst hp'
  obtain ⟨tk,tx,tl,tc⟩:=t
  have htk:(tokAt ts p'.at_).kind=tk:=by rw [← ht]
  simp only [tokV] at hpk ⊢
  clear ht
  by_cases hk:tk=1
  ·subst hk
   have hlt:=Hid.mk (h.ok.lt h.le (by rw [htk]; decide))
   have hsm:(p'.at_:Int) < 65537:=by have:=h.le; have:=h.ok.small; omega
   rw [if_pos rfl]
   clear h
   go_enter Tryz.func61,Tryz.ntmps61
   go_wp2_with (fail)
   refine hpk.out.mono ?_
   rintro e w1 ⟨hB,rfl⟩
   have hB1:=Hid.mk (hB.alloc (Nat.le_trans hB.size (Nat.le_refl _)) (.cells #[.int .i64 1,.string tx,.int .i64 (tl:Nat),.int .i64 (tc:Nat)] 112))
   obtain ⟨T,hT⟩:∃ T,w1.heap.size=T:=⟨_,rfl⟩
   have hT1:=heap_alloc_new w1 (.cells #[.int .i64 1,.string tx,.int .i64 (tl:Nat),.int .i64 (tc:Nat)] 112)
   rw [hT] at hT1
   have hPT:P≠T:=by have:=hH.out.clt; have:=hB.size; omega
   go_upto_region 2 with (fail)
   generalize World.alloc w1 _=w2 at*
   have hP2:=Hid.mk (hH.out.below hB1.out)
   have c1:w2.cell? ⟨P,1,none⟩=some (.int .i64 (p'.at_:Nat)):=by simp [World.cell?,hP2.out.cells,psCells]
   have f1:w2.frozen? ⟨P,1,none⟩=false:=by simp [World.frozen?,hP2.out.cells]
   have t0:w2.cell? ⟨T,0,none⟩=some (.int .i64 1):=by simp [World.cell?,hT1]
   have t1:w2.cell? ⟨T,1,none⟩=some (.string tx):=by simp [World.cell?,hT1]
   clear hB hT1 hT
   go_wp2_with (fail)
   go_ret
   exact ⟨(Onl.of P hB1.out).setCell rfl _,⟨_,rfl,rfl⟩,hP2.out.step hlt.out,Nat.le_succ _,rfl⟩
  ·have hki:((tk:Int)==1)=false:=beq_ne (by omega)
   rw [if_neg hk]
   clear h
   go_enter Tryz.func61,Tryz.ntmps61
   go_wp2_with (fail)
   refine hpk.out.mono ?_
   rintro e w1 ⟨hB,rfl⟩
   have hB1:=Hid.mk (hB.alloc (Nat.le_trans hB.size (Nat.le_refl _)) (.cells #[.int .i64 (tk:Nat),.string tx,.int .i64 (tl:Nat),.int .i64 (tc:Nat)] 112))
   clear hB
   go_wp2_with (fail)
   refine (pfail_any P G ts n v p' _ (hH.out.below hB1.out) 2).mono ?_
   rintro e w3 ⟨rfl,hB3⟩
   exact ⟨rfl,Onl.of P (hB1.out.trans (hB3.mono hB1.out.size)),rfl⟩
def takeF (ts:List Tok) (p:PS) (s:ByteArray):PR Unit:=
 match signF ts p s with
 | .ok b _=>if b=true then .ok () ⟨p.at_+1,p.open_⟩ else .bad (fltAt ts p.at_ 2)
 | .bad f=> .bad f
theorem signF_true {ts:List Tok} {p p':PS} {s:ByteArray} (h:signF ts p s= .ok true p'):(tokAt ts p.at_).kind=3∧p'=p:=by
 unfold signF at h
 cases hp:peekF ts p with
 | bad f=>rw [hp] at h; cases h
 | ok t q=>
  rw [hp] at h
  obtain ⟨rfl,rfl⟩:=peekF_ok hp
  simp only [PR.ok.injEq] at h
  obtain ⟨h1,h2⟩:=h
  unfold isSign at h1
  simp at h1
  exact ⟨h1.1,h2.symm⟩
set_option maxRecDepth 100000 in
set_option maxHeartbeats 1600000 in
theorem take_any (P G:Nat) (ts:List Tok) (n:Nat) (v:Value) (p:PS) (w:World) (h:PsS P G ts n v p w) (s:ByteArray) :
  Calls Tryz.prog 62 #[.pointer (some ⟨P,0,none⟩),.string s] w fun e w'=>PP P G ts n v p w (fun _ u _=>u= .tuple #[]) (takeF ts p s) e w':=by
 have hsg:=Hid.mk (sign_any P G ts n v p w h s)
 have hH:=Hid.mk h
 unfold takeF
 cases hs:signF ts p s with
 | bad f=>
  rw [hs] at hsg
  go_enter Tryz.func62,Tryz.ntmps62
  go_wp2_with (fail)
  refine hsg.out.mono ?_
  rintro e w1 ⟨hB,rfl⟩
  exact ⟨rfl,Onl.of P hB,rfl⟩
 | ok b p'=>
  rw [hs] at hsg
  cases b with
  | true=>
   obtain ⟨hk,rfl⟩:=signF_true hs
   have hlt:=Hid.mk (h.ok.lt h.le (by rw [hk]; decide))
   have hsm:(p'.at_:Int) < 65537:=by have:=h.le; have:=h.ok.small; omega
   simp only [if_true]
   clear h hk hs
   go_enter Tryz.func62,Tryz.ntmps62
   go_wp2_with (fail)
   refine hsg.out.mono ?_
   rintro e w1 ⟨hB,rfl⟩
   have hP1:=Hid.mk (hH.out.below hB)
   have c1:w1.cell? ⟨P,1,none⟩=some (.int .i64 (p'.at_:Nat)):=by simp [World.cell?,hP1.out.cells,psCells]
   have f1:w1.frozen? ⟨P,1,none⟩=false:=by simp [World.frozen?,hP1.out.cells]
   have hBH:=Hid.mk hB
   clear hB
   go_wp2_with (fail)
   go_end0
   exact ⟨(Onl.of P hBH.out).setCell rfl _,⟨_,rfl,rfl⟩,hP1.out.step hlt.out,Nat.le_succ _,rfl⟩
  | false=>
   simp only [Bool.false_eq_true,if_false]
   clear h hs
   go_enter Tryz.func62,Tryz.ntmps62
   go_wp2_with (fail)
   refine hsg.out.mono ?_
   rintro e w1 ⟨hB,rfl⟩
   have hBH:=Hid.mk hB
   clear hB
   go_wp2_with (fail)
   refine (pfail_any P G ts n v p _ (hH.out.below hBH.out) 2).mono ?_
   rintro e w3 ⟨rfl,hB3⟩
   exact ⟨rfl,Onl.of P (hBH.out.trans (hB3.mono hBH.out.size)),rfl⟩
end Go.Proofs.YtmenpmbgennhoaaGreatDoor

namespace Go.Proofs.YtmenpmbgennhoaaGreatDoor
open Go.RowKit
inductive Tr where
 | mk (kind:Nat) (text:ByteArray) (kids:List Tr)
def Tr.kind:Tr→Nat | .mk k _ _=>k
def Tr.text:Tr→ByteArray | .mk _ x _=>x
def Tr.kids:Tr→List Tr | .mk _ _ ks=>ks
def nodeC (t:Tr) (s:Value):List Value:=[.int .i64 (t.kind:Nat),.string t.text,s]
def nodesC:List Tr→List Value→List Value
 | t::ts,s::ss=>nodeC t s++nodesC ts ss
 | _,_=>[]
theorem nodesC_len:∀ (ts:List Tr) (ss:List Value),ss.length=ts.length→(nodesC ts ss).length=ts.length*3
 | [],[],_=>rfl
 | t::ts,s::ss,h=>by
  have:=nodesC_len ts ss (by simpa using h)
  simp [nodesC,nodeC,this]
  omega
 | [],s::ss,h=>by simp at h
 | t::ts,[],h=>by simp at h
theorem nodesC_app:∀ (ts:List Tr) (ss:List Value) (t:Tr) (s:Value),ss.length=ts.length→nodesC (ts++[t]) (ss++[s])=nodesC ts ss++nodeC t s
 | [],[],t,s,_=>by simp [nodesC]
 | t0::ts,s0::ss,t,s,h=>by
  have:=nodesC_app ts ss t s (by simpa using h)
  simp [nodesC,this]
 | [],s0::ss,_,_,h=>by simp at h
 | t0::ts,[],_,_,h=>by simp at h
theorem nodesC_get:∀ (ts:List Tr) (ss:List Value) (i:Nat) (t:Tr) (s:Value),ts[i]?=some t→ss[i]?=some s→∀ j,j < 3→(nodesC ts ss)[i*3+j]?=(nodeC t s)[j]?
 | t0::ts,s0::ss,0,t,s,h1,h2,j,hj=>by
  simp at h1 h2
  subst h1 h2
  rw [nodesC,Nat.zero_mul,Nat.zero_add,List.getElem?_append_left (by simpa [nodeC] using hj)]
 | t0::ts,s0::ss,i+1,t,s,h1,h2,j,hj=>by
  simp at h1 h2
  have:=nodesC_get ts ss i t s h1 h2 j hj
  rw [nodesC,show (i+1)*3+j=3+(i*3+j) by omega,List.getElem?_append_right (by simp [nodeC])]
  simpa [nodeC] using this
 | [],_,_,_,_,h1,_,_,_=>by simp at h1
 | t0::ts,[],_,_,_,_,h2,_,_=>by simp at h2
def SlAt (S:Nat→Prop) (w:World) (v:Value) (n:Nat) (xs:List Value):Prop:=
 (∃ p c,v= .slice p n c∧n=0)∨∃ g o c,v= .slice (some ⟨g,o,none⟩) n c∧S g∧g < w.heap.size∧n≤maxLen∧∀ j u,xs[j]?=some u→w.cell? ⟨g,o+j,none⟩=some u
theorem SlAt.keep {S S':Nat→Prop} {w w':World} {v:Value} {n:Nat} {xs:List Value} (h:SlAt S w v n xs) (hs:w.heap.size≤w'.heap.size) (hk:∀ g,S g→g < w.heap.size→w'.heap[g]?=w.heap[g]?∧S' g):SlAt S' w' v n xs:=by
 rcases h with h | ⟨g,o,c,rfl,h1,h2,h4,h3⟩
 ·exact .inl h
 ·refine .inr ⟨g,o,c,rfl,(hk g h1 h2).2,Nat.lt_of_lt_of_le h2 hs,h4,fun j u hu=> ?_⟩
  rw [← h3 j u hu]
  have:=(hk g h1 h2).1
  simp [World.cell?,this]
theorem SlAt.form {S:Nat→Prop} {w:World} {v:Value} {n:Nat} {xs:List Value} (h:SlAt S w v n xs):∃ p c,v= .slice p n c:=by
 rcases h with ⟨p,c,rfl,_⟩ | ⟨g,o,c,rfl,_⟩
 ·exact ⟨_,_,rfl⟩
 ·exact ⟨_,_,rfl⟩
inductive TrAt (S:Nat→Prop) (w:World):Tr→Value→Prop
 | mk (k:Nat) (x:ByteArray) (ks:List Tr) (v:Value) (ss:List Value) (hl:ss.length=ks.length) (hs:SlAt S w v ks.length (nodesC ks ss)) (hk:∀ (i:Nat) (t:Tr) (s:Value),ks[i]?=some t→ss[i]?=some s→TrAt S w t s):TrAt S w (.mk k x ks) v
theorem TrAt.keep {S S':Nat→Prop} {w w':World} {t:Tr} {v:Value} (h:TrAt S w t v) (hs:w.heap.size≤w'.heap.size) (hk:∀ g,S g→g < w.heap.size→w'.heap[g]?=w.heap[g]?∧S' g):TrAt S' w' t v:=by
 induction h with
 | mk k x ks v ss hl h1 h2 ih=>exact .mk k x ks v ss hl (h1.keep hs hk) ih
theorem TrAt.mono {S S':Nat→Prop} {w:World} {t:Tr} {v:Value} (h:TrAt S w t v) (hk:∀ g,S g→g < w.heap.size→S' g):TrAt S' w t v:=h.keep (Nat.le_refl _) fun g h1 h2=>⟨rfl,hk g h1 h2⟩
theorem TrAt.blw {S:Nat→Prop} {w w':World} {t:Tr} {v:Value} (h:TrAt S w t v) (hb:Below w.heap.size w w'):TrAt S w' t v:=h.keep hb.size fun g h1 h2=>⟨hb.block g h2,h1⟩
theorem TrAt.form {S:Nat→Prop} {w:World} {t:Tr} {v:Value} (h:TrAt S w t v):∃ p c,v= .slice p t.kids.length c:=by
 cases h with
 | mk k x ks v ss hl h1 h2=>exact h1.form
def nodeV (t:Tr) (s:Value):Value:= .agg #[.int .i64 (t.kind:Nat),.string t.text,s]
def NodeAt (S:Nat→Prop) (w:World) (t:Tr) (u:Value):Prop:=∃ s,u=nodeV t s∧TrAt S w t s
structure KidsO (B:Nat) (w:World) (v:Value) (ks:List Tr) (ss:List Value):Prop where
 len:ss.length=ks.length
 own:w.ownsRow B 57 3 v ks.length (nodesC ks ss)
 kid:∀ (i:Nat) (t:Tr) (s:Value),ks[i]?=some t→ss[i]?=some s→TrAt (fun g=>B≤g∧v.ownBlock≠some g) w t s
theorem KidsO.nil (B:Nat) (w:World):KidsO B w (.slice none 0 0) [] []:=⟨rfl,⟨by simp [nodesC],.inl ⟨rfl,rfl⟩⟩,fun i t s h=>by simp at h⟩
theorem KidsO.keep {B:Nat} {w w':World} {v:Value} {ks:List Tr} {ss:List Value} (h:KidsO B w v ks ss) (hs:w.heap.size≤w'.heap.size) (hk:∀ g,B≤g→g < w.heap.size→w'.heap[g]?=w.heap[g]?):KidsO B w' v ks ss:=
 ⟨h.len,ownsRow_sm h.own (fun g hg=>hk g (h.own.lt g hg).1 (h.own.lt g hg).2),fun i t s h1 h2=>(h.kid i t s h1 h2).keep hs fun g h3 h4=>⟨hk g h3.1 h4,h3⟩⟩
theorem KidsO.done {B:Nat} {w:World} {v:Value} {ks:List Tr} {ss:List Value} (h:KidsO B w v ks ss) (k:Nat) (x:ByteArray):TrAt (fun g=>B≤g) w (.mk k x ks) v:=by
 refine .mk k x ks v ss h.len ?_ (fun i t s h1 h2=>(h.kid i t s h1 h2).mono fun g h3 _=>h3.1)
 have ho:=h.own
 rcases ho.2 with ⟨h1,h2⟩ | ⟨g,cap,cur,rfl,hb,hg,hm1,hm2,_⟩
 ·exact .inl ⟨none,0,by rw [h2]; exact h1,h2⟩
 ·refine .inr ⟨g,0,cap,rfl,hb,(Array.getElem?_eq_some_iff.1 hg).1,Nat.le_trans hm1 hm2,fun j u hu=> ?_⟩
  have:=ho.cells (g:=g) rfl j u hu
  rw [Addr.add_lit] at this
  exact this
theorem KidsO.push {B:Nat} {w w':World} {v:Value} {ks:List Tr} {ss:List Value} {t:Tr} {s:Value} {o:Obj} {g cap:Nat} (h:KidsO B w v ks ss) (ht:TrAt (fun g=>B≤g∧v.ownBlock≠some g) w t s)
  (hown:w'.ownsRow B 57 3 (.slice (some ⟨g,0,none⟩) (ks.length+1) cap) (ks.length+1) (nodesC ks ss++nodeC t s)) (hg:(w.alloc o).grownBy w' v.ownBlock) (hat:v.ownBlock=some g∨g=(w.alloc o).heap.size) :
  KidsO B w' (.slice (some ⟨g,0,none⟩) (ks.length+1) cap) (ks++[t]) (ss++[s]):=by
 have hsz:w.heap.size≤w'.heap.size:=by have:=hg.size; simp at this; omega
 have hkeep:∀ g',(B≤g'∧v.ownBlock≠some g')→g' < w.heap.size→w'.heap[g']?=w.heap[g']?∧(B≤g'∧(Value.slice (some ⟨g,0,none⟩) (ks.length+1) cap).ownBlock≠some g'):=by
  intro g' h1 h2
  refine ⟨(hg.block g' (by simp; omega) (fun e=>h1.2 e.symm)).trans (Go.heap_alloc_old w o h2),h1.1,?_⟩
  simp only [Value.ownBlock,ne_eq,Option.some.injEq]
  intro e
  rcases hat with h3 | h3
  ·exact h1.2 (by rw [h3,e])
  ·simp at h3; omega
 refine ⟨by simp [h.len],by rw [nodesC_app _ _ _ _ h.len]; simpa using hown,fun i t' s' h1 h2=> ?_⟩
 by_cases hi:i < ks.length
 ·rw [List.getElem?_append_left hi] at h1
  rw [List.getElem?_append_left (by rw [h.len]; exact hi)] at h2
  exact (h.kid i t' s' h1 h2).keep hsz hkeep
 ·rw [List.getElem?_append_right (by omega)] at h1
  rw [List.getElem?_append_right (by rw [h.len]; omega)] at h2
  rw [h.len] at h2
  match hj:i - ks.length with
  | 0=>
   rw [hj] at h1 h2
   simp at h1 h2
   subst h1 h2
   exact ht.keep hsz hkeep
  | j+1=>rw [hj] at h1; simp at h1
theorem nodeInfo:(Tryz.prog.info? 57).map (·.size)=some 3:=by kernel_rfl
theorem nodeRow:(Tryz.prog.info? 57).map (fun i=>(i.zero,i.size,i.bytes))=some (some (.agg #[.int .i64 0,.string ⟨#[]⟩,.slice none 0 0]),3,48):=by kernel_rfl
theorem fill3 (v1 v2 v3:Value):Instr.fill (fun i=>some (i*3,3)) ((Array.range (1*3)).map ((Value.agg #[.int .i64 0,.string ⟨#[]⟩,.slice none 0 0]).cells[· % (Value.agg #[.int .i64 0,.string ⟨#[]⟩,.slice none 0 0]).cells.size]!)) [(0,.agg #[v1,v2,v3])]=some #[v1,v2,v3]:=by
 have h:((Array.range (1*3)).map ((Value.agg #[.int .i64 0,.string ⟨#[]⟩,.slice none 0 0]).cells[· % (Value.agg #[.int .i64 0,.string ⟨#[]⟩,.slice none 0 0]).cells.size]!))=#[.int .i64 0,.string ⟨#[]⟩,.slice none 0 0]:=by kernel_rfl
 rw [h]
 simp [Instr.fill,Value.cells]
theorem wpList_build_node {ops:Array Oper} {rest:List Oper} {o:Oper} {a:Act} {w:World} {Q:Exit→Act→World→Prop} (hgd:o.guard=none) (x:Operand) (ho:o.op= .buildSlice 55 1 #[(0,x)]) (v1 v2 v3:Value) (hx:a.eval x= .agg #[v1,v2,v3])
  (h:wpList Tryz.prog ops Q rest (a.put o.dst (.slice (some ⟨w.heap.size,0,none⟩) 1 1)) (w.alloc (.cells #[v1,v2,v3] 57))):wpList Tryz.prog ops Q (o::rest) a w:=by
 refine wpList_plain hgd fun _ hK=> ?_
 obtain ⟨i0,hi,hz0,hz1,hz2⟩:=info_parts nodeRow
 exact wp_build1 _ _ x ho _ hx _ i0 _ 3 Tryz.underlying55 hi hz0 hz1 (by decide) (by decide) (fill3 v1 v2 v3) (hK _ _ h)
theorem node_one (t:Tr) {S:Nat→Prop} {w:World} {s:Value} (h:TrAt S w t s):∀ u ∈ nodeC t s,u.oneCell'=true:=by
 obtain ⟨p,c,rfl⟩:=h.form
 intro u hu
 simp only [nodeC,List.mem_cons,List.not_mem_nil,or_false] at hu
 rcases hu with rfl | rfl | rfl <;> rfl
theorem wpList_app_node {ops:Array Oper} {rest:List Oper} {o:Oper} {a:Act} {w:World} {Q:Exit→Act→World→Prop} (hgd:o.guard=none) (s x:Operand) (ho:o.op= .call { callee:= .builtin .append,args:=#[s,x],argTypes:=#[55,55] })
  (B:Nat) (v:Value) (ks:List Tr) (ss:List Value) (t:Tr) (sv:Value) (w1:World) (hw:w=w1.alloc (.cells (nodeC t sv).toArray 57)) (hs:a.eval s=v) (h:KidsO B w1 v ks ss) (ht:TrAt (fun g=>B≤g∧v.ownBlock≠some g) w1 t sv)
  (hx:a.eval x= .slice (some ⟨w1.heap.size,0,none⟩) 1 1) (hB:B≤w1.heap.size) (hl:ks.length≤1000000)
  (hk:∀ g c w',KidsO B w' (.slice (some ⟨g,0,none⟩) (ks.length+1) c) (ks++[t]) (ss++[sv])→w1.grownBy w' v.ownBlock→wpList Tryz.prog ops Q rest (a.put o.dst (.slice (some ⟨g,0,none⟩) (ks.length+1) c)) w'):wpList Tryz.prog ops Q (o::rest) a w:=by
 subst hw
 obtain ⟨i0,hi,hz0,hz1,hz2⟩:=info_parts nodeRow
 refine wpList_append_lies _ hgd s x 55 ho B 57 i0 _ 3 48 Tryz.underlying55 hi hz0 hz1 hz2 rfl (by decide) v ks.length _ hs (h.own.alloc _) ⟨w1.heap.size,0,none⟩ 1 1 (nodeC t sv) hx rfl (fun j u hj=> ?_) (node_one t ht) (by decide) (by unfold maxLen; omega) (by omega) (by simp; omega) _ rfl ?_
 ·have:(w1.alloc (.cells (nodeC t sv).toArray 57)).cell? ⟨w1.heap.size,j,none⟩=(nodeC t sv).toArray[j]?:=cell_of_row _ _ _ _ _ _ (heap_alloc_new w1 _)
  rw [Addr.add_lit,Nat.zero_add,this]
  simpa using hj
 ·intro g cap w' hown hg hat _
  exact hk g cap w' (h.push ht hown hg hat) ((World.grownBy_alloc w1 _ v.ownBlock).trans hg)
end Go.Proofs.YtmenpmbgennhoaaGreatDoor

namespace Go.Proofs.YtmenpmbgennhoaaGreatDoor
open Go.RowKit
def str1 (b:UInt8):ByteArray:=⟨#[b]⟩
def wrapT (k:Nat):List Tr→Tr
 | [t]=>t
 | l=> .mk k ⟨#[]⟩ l
def sufF (ts:List Tok) (p:PS):PR Nat:=
 match signF ts p (str1 63) with
 | .bad e=> .bad e
 | .ok true _=> .ok 5 ⟨p.at_+1,p.open_⟩
 | .ok false _=>
  match signF ts p (str1 42) with
  | .bad e=> .bad e
  | .ok true _=> .ok 6 ⟨p.at_+1,p.open_⟩
  | .ok false _=>
   match signF ts p (str1 43) with
   | .bad e=> .bad e
   | .ok true _=> .ok 7 ⟨p.at_+1,p.open_⟩
   | .ok false _=> .ok 0 p
mutual
def altF (ts:List Tok):Nat→PS→PR Tr
 | 0,_=> .bad ⟨0,0,0⟩
 | f+1,p=>
  match rowL ts f p [] with
  | .ok r p1=>altL ts f p1 [r]
  | .bad e=> .bad e
def altL (ts:List Tok):Nat→PS→List Tr→PR Tr
 | 0,_,_=> .bad ⟨0,0,0⟩
 | f+1,p,rows=>
  match signF ts p (str1 124) with
  | .ok true _=>
   match rowL ts f ⟨p.at_+1,p.open_⟩ [] with
   | .ok r p1=>altL ts f p1 (rows++[r])
   | .bad e=> .bad e
  | .ok false _=> .ok (wrapT 4 rows) p
  | .bad e=> .bad e
def rowL (ts:List Tok):Nat→PS→List Tr→PR Tr
 | 0,_,_=> .bad ⟨0,0,0⟩
 | f+1,p,items=>
  match atomF ts f p with
  | .ok (some t) p1=>
   match sufF ts p1 with
   | .ok k p2=>rowL ts f p2 (items++[if k=0 then t else .mk k ⟨#[]⟩ [t]])
   | .bad e=> .bad e
  | .ok none p1=> .ok (wrapT 3 items) p1
  | .bad e=> .bad e
def atomF (ts:List Tok):Nat→PS→PR (Option Tr)
 | 0,_=> .bad ⟨0,0,0⟩
 | f+1,p=>
  match peekF ts p with
  | .bad e=> .bad e
  | .ok t _=>
   if t.kind=1 then .ok (some (.mk 1 t.text [])) ⟨p.at_+1,p.open_⟩
   else if t.kind=2 then .ok (some (.mk 2 t.text [])) ⟨p.at_+1,p.open_⟩
   else if t.kind≠3 then .ok none p
   else if t.text.toList=[40] then
    match arF ts f p (str1 41) with
    | .ok t p1=> .ok (some t) p1
    | .bad e=> .bad e
   else if t.text.toList=[91] then
    match arF ts f p (str1 93) with
    | .ok t p1=> .ok (some (.mk 5 ⟨#[]⟩ [t])) p1
    | .bad e=> .bad e
   else if t.text.toList=[123] then
    match arF ts f p (str1 125) with
    | .ok t p1=> .ok (some (.mk 6 ⟨#[]⟩ [t])) p1
    | .bad e=> .bad e
   else .ok none p
def arF (ts:List Tok):Nat→PS→ByteArray→PR Tr
 | 0,_,_=> .bad ⟨0,0,0⟩
 | f+1,p,en=>
  if p.open_=16 then .bad (fltAt ts p.at_ 11)
  else match altF ts f ⟨p.at_+1,p.open_+1⟩ with
   | .ok t p1=>
    match takeF ts p1 en with
    | .ok _ p2=> .ok t ⟨p2.at_,p2.open_ - 1⟩
    | .bad e=> .bad e
   | .bad e=> .bad e
end
theorem TrAt.onl {B P:Nat} {w w':World} {t:Tr} {s:Value} (h:TrAt (fun g=>B≤g) w t s) (ho:Onl P w w') (hP:P < B):TrAt (fun g=>B≤g) w' t s:=
 h.keep ho.size fun g h1 h2=>⟨World.grownBy.block ho g h2 (fun e=>by cases e; omega),h1⟩
theorem NodeAt.onl {B P:Nat} {w w':World} {t:Tr} {u:Value} (h:NodeAt (fun g=>B≤g) w t u) (ho:Onl P w w') (hP:P < B):NodeAt (fun g=>B≤g) w' t u:=by
 obtain ⟨s,rfl,h⟩:=h
 exact ⟨s,rfl,h.onl ho hP⟩
theorem NodeAt.lower {B B':Nat} {w:World} {t:Tr} {u:Value} (h:NodeAt (fun g=>B≤g) w t u) (hB:B'≤B):NodeAt (fun g=>B'≤g) w t u:=by
 obtain ⟨s,rfl,h⟩:=h
 exact ⟨s,rfl,h.mono fun g h1 _=>Nat.le_trans hB h1⟩
def NodeP (B:Nat) (t:Tr) (u:Value) (w:World):Prop:=NodeAt (fun g=>B≤g) w t u
theorem Onl.setRow_new {P Z:Nat} {w w':World} (h:Onl P w w') (hZ:w.heap.size≤Z) (cs:Array Value):Onl P w (w'.setRow Z cs):=
 let ⟨a,b,c,d,e⟩:=h
 ⟨a,b,c,by simpa using d,fun i hi hn=>(setRow_other _ _ _ _ (by omega)).trans (e i hi hn)⟩
theorem PsS.setRow {P G:Nat} {ts:List Tok} {n:Nat} {v:Value} {p:PS} {w:World} (h:PsS P G ts n v p w) {Z:Nat} (hZ:P < Z) (cs:Array Value):PsS P G ts n v p (w.setRow Z cs):=
 ⟨(setRow_other _ _ _ _ (by omega)).trans h.cells,h.slice,fun i hi j u hj=>(by
  rw [← h.toks i hi j u hj]
  have:(w.setRow Z cs).heap[G]?=w.heap[G]?:=setRow_other _ _ _ _ (by have:=h.gp; omega)
  simp [World.cell?,this]),h.gp,h.ok,h.le,h.op⟩
section
variable (P G:Nat) (ts:List Tok) (n:Nat) (v:Value)
def AltC (f:Nat):Prop:=∀ (p:PS) (w:World),PsS P G ts n v p w→6*(n - p.at_)+5≤f→
 Calls Tryz.prog 65 #[.pointer (some ⟨P,0,none⟩)] w fun e w'=>PP P G ts n v p w (NodeP w.heap.size) (altF ts f p) e w'
def RowC (f:Nat):Prop:=∀ (p:PS) (w:World),PsS P G ts n v p w→6*(n - p.at_)+3≤f→
 Calls Tryz.prog 90 #[.pointer (some ⟨P,0,none⟩)] w fun e w'=>PP P G ts n v p w (NodeP w.heap.size) (rowL ts f p []) e w'
def AtomV (B:Nat) (a:Option Tr) (u:Value) (w:World):Prop:=
 match a with
 | some t=>∃ x,u= .tuple #[x,.bool true]∧NodeAt (fun g=>B≤g) w t x
 | none=>∃ x,u= .tuple #[.agg #[.int .i64 0,.string ⟨#[]⟩,.slice none 0 0],x]∧x= .bool false
def AtomC (f:Nat):Prop:=∀ (p:PS) (w:World),PsS P G ts n v p w→6*(n - p.at_)+1≤f→
 Calls Tryz.prog 113 #[.pointer (some ⟨P,0,none⟩)] w fun e w'=>PP P G ts n v p w (AtomV w.heap.size) (atomF ts f p) e w'∧∀ t p',atomF ts f p= .ok (some t) p'→p.at_ < p'.at_
def ArC (f:Nat):Prop:=∀ (p:PS) (w:World) (en:ByteArray),PsS P G ts n v p w→p.at_ < n→6*(n - p.at_)≤f→
 Calls Tryz.prog 127 #[.pointer (some ⟨P,0,none⟩),.string en] w fun e w'=>PP P G ts n v p w (NodeP w.heap.size) (arF ts f p en) e w'∧∀ t p',arF ts f p en= .ok t p'→p.at_ < p'.at_
end
set_option maxRecDepth 100000 in
set_option maxHeartbeats 1600000 in
theorem around_any (P G:Nat) (ts:List Tok) (n:Nat) (v:Value) (f:Nat) (ih:AltC P G ts n v f):ArC P G ts n v (f+1):=by
 intro p w en h hlt hf
 obtain ⟨R,hR⟩:∃ R,arF ts (f+1) p en=R:=⟨_,rfl⟩
 rw [hR]
 rw [arF] at hR
 have hH:=Hid.mk h
 obtain ⟨Z,hZ⟩:∃ Z,w.heap.size=Z:=⟨_,rfl⟩
 have hZr:=heap_alloc_new w (.cells #[.int .i64 0,.string ⟨#[]⟩,.slice none 0 0] 57)
 have hB0:Below Z w (w.alloc (.cells #[.int .i64 0,.string ⟨#[]⟩,.slice none 0 0] 57)):=by rw [← hZ]; exact (Below.refl _ w).alloc (Nat.le_refl _) _
 have hPZ:P < Z:=by have:=h.clt; omega
 rw [hZ] at hZr
 have hsz0:(w.alloc (.cells #[.int .i64 0,.string ⟨#[]⟩,.slice none 0 0] 57)).heap.size=Z+1:=by simp; omega
 have hS0:=h.below (by rw [hZ]; exact hB0)
 clear h
 go_enter Tryz.func127,Tryz.ntmps127
 go_upto_region 1 with (fail)
 generalize World.alloc w _=w0 at*
 have c1:w0.cell? ⟨P,1,none⟩=some (.int .i64 (p.at_:Nat)):=by simp [World.cell?,hS0.cells,psCells]
 have c2:w0.cell? ⟨P,2,none⟩=some (.int .i64 (p.open_:Nat)):=by simp [World.cell?,hS0.cells,psCells]
 have f1:∀ i,w0.frozen? ⟨P,i,none⟩=false:=fun i=>by simp [World.frozen?,hS0.cells]
 have hS0H:=Hid.mk hS0
 have hO0:=Hid.mk (Onl.of P (show Below w.heap.size w w0 by rw [hZ]; exact hB0))
 have hZ0:=Hid.mk hZr
 have hlt2:(p.at_:Int) < 65537:=by have:=hS0.ok.small; omega
 have hop:(p.open_:Int)≤16:=by have:=hS0.op; omega
 have hltH:=Hid.mk hlt
 clear hS0 hB0 hZr hlt
 by_cases h16:p.open_=16
 ·rw [if_pos h16] at hR
  have h16i:((p.open_:Int)==16)=true:=by simp; omega
  go_wp2_with (fail)
  refine (pfail_any P G ts n v p _ hS0H.out 11).mono ?_
  rintro e w3 ⟨rfl,hB3⟩
  subst hR
  exact ⟨rfl,⟨hO0.out.trans (Onl.of P hB3),rfl⟩,fun t p' h=>by cases h⟩
 ·rw [if_neg h16] at hR
  have h16i:((p.open_:Int)==16)=false:=beq_ne (by omega)
  have h16n:p.open_ < 16:=by have:=hS0H.out.op; omega
  clear h16
  go_wp2_with (fail)
  clear c1 c2 f1
  generalize hw1:World.setCell _ _ _=w1
  have hO01:Onl P w0 w1:=by
   subst hw1
   exact ((Onl.refl P w0).setCell (p:=⟨P,2,none⟩) rfl _).setCell (p:=⟨P,1,none⟩) rfl _
  have hS1:Hid (PsS P G ts n v ⟨p.at_+1,p.open_+1⟩ w1):= .mk (hS0H.out.put (fun hr=>by
   subst hw1
   exact (row_set (row_set hr)).trans (by simp [psCells])) hO01 hltH.out h16n)
  have hZ1:Hid (w1.heap[Z]?=some (.cells #[.int .i64 0,.string ⟨#[]⟩,.slice none 0 0] 57 (0,0))):= .mk ((World.grownBy.block hO01 Z (Array.getElem?_eq_some_iff.1 hZ0.out).1 (fun e=>by cases e; omega)).trans hZ0.out)
  have hO1:=Hid.mk (hO0.out.trans hO01)
  have hsz1:Z+1≤w1.heap.size:=by have:=hO01.size; omega
  clear hw1 hO01 hZ0 hO0 hS0H
  refine (ih ⟨p.at_+1,p.open_+1⟩ w1 hS1.out (by simp only; have:=hltH.out; omega)).mono ?_
  rintro e w2 ⟨hO2,hP2⟩
  cases ha:altF ts f ⟨p.at_+1,p.open_+1⟩ with
  | bad fe=>
   rw [ha] at hP2 hR
   subst hP2
   subst hR
   exact ⟨rfl,⟨hO1.out.trans hO2,rfl⟩,fun t p' h=>by cases h⟩
  | ok t p1=>
   rw [ha] at hP2 hR
   obtain ⟨⟨u,rfl,s,rfl,hT2⟩,hS2,hle2,hop2⟩:=hP2
   simp only at hle2 hop2 hR
   have hZ2:Hid (w2.heap[Z]?=some (.cells #[.int .i64 0,.string ⟨#[]⟩,.slice none 0 0] 57 (0,0))):= .mk ((World.grownBy.block hO2 Z (Array.getElem?_eq_some_iff.1 hZ1.out).1 (fun e=>by cases e; omega)).trans hZ1.out)
   have hsz12:w1.heap.size≤w2.heap.size:=hO2.size
   have hO2w:=Hid.mk (hO1.out.trans hO2)
   obtain ⟨V,hV⟩:∃ V,w2.heap.size=V:=⟨_,rfl⟩
   have hVr:=heap_alloc_new w2 (.cells #[.int .i64 (t.kind:Nat),.string t.text,s] 57)
   rw [hV] at hVr
   have hB3:Below w2.heap.size w2 (w2.alloc (.cells #[.int .i64 (t.kind:Nat),.string t.text,s] 57)):=(Below.refl _ w2).alloc (Nat.le_refl _) _
   have hT2:=Hid.mk (hT2.mono (S':=fun g=>Z+1≤g) fun g h1 _=>Nat.le_trans hsz1 h1)
   have hPV:P < V:=by have:=hS2.clt; omega
   have hZV:Z < V:=by have:=(Array.getElem?_eq_some_iff.1 hZ2.out).1; omega
   have hS3:=Hid.mk (hS2.below hB3)
   obtain ⟨sp,sc,hsl⟩:=hT2.out.form
   generalize hwe:w2.alloc (.cells #[.int .i64 (t.kind:Nat),.string t.text,s] 57)=w3 at*
   have hO3:=Hid.mk (hO2w.out.trans (Onl.of P hB3))
   have hT3:=Hid.mk (hT2.out.blw hB3)
   have hZ3:=Hid.mk ((hB3.block Z (by omega)).trans hZ2.out)
   have hVH:=Hid.mk hVr
   unfold nodeV
   clear hS1 hZ1 hO1 hS2 hZ2 hO2 hB3 hVr hT2 hO2w
   subst hsl
   go_wp2_with (fail)
   refine (take_any P G ts n v p1 w3 hS3.out en).mono ?_
   rintro e w4 ⟨hO4,hP4⟩
   cases htk:takeF ts p1 en with
   | bad fe=>
    rw [htk] at hP4 hR
    subst hP4
    subst hR
    exact ⟨rfl,⟨hO3.out.trans hO4,rfl⟩,fun t p' h=>by cases h⟩
   | ok _ p2=>
    rw [htk] at hP4 hR
    obtain ⟨⟨u,rfl,rfl⟩,hS4,hle4,hop4⟩:=hP4
    simp only at hle4 hop4 hR
    have hZ4:w4.heap[Z]?=some (.cells #[.int .i64 0,.string ⟨#[]⟩,.slice none 0 0] 57 (0,0)):=(World.grownBy.block hO4 Z (Array.getElem?_eq_some_iff.1 hZ3.out).1 (fun e=>by cases e; omega)).trans hZ3.out
    have hV4:w4.heap[V]?=some (.cells #[.int .i64 (t.kind:Nat),.string t.text,.slice sp t.kids.length sc] 57 (0,0)):=(World.grownBy.block hO4 V (Array.getElem?_eq_some_iff.1 hVH.out).1 (fun e=>by cases e; omega)).trans hVH.out
    have c2:w4.cell? ⟨P,2,none⟩=some (.int .i64 (p2.open_:Nat)):=by simp [World.cell?,hS4.cells,psCells]
    have f2:w4.frozen? ⟨P,2,none⟩=false:=by simp [World.frozen?,hS4.cells]
    have ho2:p2.open_=p.open_+1:=by omega
    rw [ho2] at c2
    have c2:w4.cell? ⟨P,2,none⟩=some (.int .i64 ((p.open_:Int)+1)):=by rw [c2]; simp
    have hT4:=Hid.mk (hT3.out.onl hO4 (Nat.lt_succ_of_lt hPZ))
    have hS4:=Hid.mk hS4
    have hO4:=Hid.mk (hO3.out.trans hO4)
    have hZ4:=Hid.mk hZ4
    have hV4:=Hid.mk hV4
    have hwr:IntKind.i64.wrap ((p.open_:Int)+1 - 1)=(p.open_:Int):=by rw [wi64 (by omega) (by omega)]; omega
    clear hS3 hT3 hO3 hZ3 hVH
    go_upto_region 8 with (fail)
    generalize hw5:World.setCell _ _ _=w5
    have hO45:Onl P w4 w5:=by
     subst hw5
     exact (Onl.refl P w4).setCell (p:=⟨P,2,none⟩) rfl _
    have hS5:Hid (PsS P G ts n v ⟨p2.at_,p2.open_ - 1⟩ w5):= .mk (hS4.out.put (fun hr=>by
     subst hw5
     refine (row_set hr).trans ?_
     simp [psCells,ho2]) hO45 hS4.out.le (by have:=hS4.out.op; simp only; omega))
    have hZ5:=Hid.mk ((World.grownBy.block hO45 Z (Array.getElem?_eq_some_iff.1 hZ4.out).1 (fun e=>by cases e; omega)).trans hZ4.out)
    have hV5:=Hid.mk ((World.grownBy.block hO45 V (Array.getElem?_eq_some_iff.1 hV4.out).1 (fun e=>by cases e; omega)).trans hV4.out)
    have hT5:=Hid.mk (hT4.out.onl hO45 (Nat.lt_succ_of_lt hPZ))
    have hO5:=Hid.mk (hO4.out.trans hO45)
    clear hw5 hO45 hS4 hZ4 hV4 hT4 hO4 c2 f2
    have hend:Hid ((w5.setRow Z #[.int .i64 (t.kind:Nat),.string t.text,.slice sp t.kids.length sc]).heap[Z]?=some (.cells #[.int .i64 (t.kind:Nat),.string t.text,.slice sp t.kids.length sc] 57 (0,0))):= .mk (setRow_heap _ _ _ _ _ _ hZ5.out)
    go_wp2_with (first | (refine wpList_load_row rfl 57 _ rfl V rfl 57 _ _ _ hV5.out Tryz.underlying57 rfl nodeInfo ?_) | (refine wpList_store_row rfl 57 _ _ rfl Z _ rfl rfl 57 _ hZ5.out nodeInfo rfl (by simp [Value.oneCell']) ?_))
    refine bodyPost_ret (results_cell_row rfl _ _ Z _ _ _ _ rfl hend.out Tryz.underlying57 rfl nodeInfo) rfl ?_
    subst hR
    refine ⟨⟨hO5.out.setRow_new (by omega) _,⟨_,rfl,_,rfl,?_⟩,hS5.out.setRow hPZ _,by simp only; omega,by simp only; omega⟩,fun t' p' h=> ?_⟩
    ·exact (hT5.out.keep (S':=fun g=>Z≤g) (by simp) fun g h1 _=>⟨setRow_other _ _ _ _ (by omega),by omega⟩).mono fun g h1 _=>by omega
    ·cases h
     simp only
     omega
end Go.Proofs.YtmenpmbgennhoaaGreatDoor
