/- What the walks share: hidden facts, worlds that differ in one block alone, sizes of words. Lexing: the bytes of names. Lexing: the scanner in memory, its small steps. Lexing: a name. Lexing: blanks and comments. Lexing: a literal that was read whole. Printed by genlx.py. -/
import Derived.Test.YtmenpmbgennhoaaGreatDoorProg
import Derived.Test.YtmenpmbgennhoaaGreatDoorPln
import Derived.Test.YtmenpmbgennhoaaGreatDoorPle
import Derived.ProofKit
import Derived.RowKit
import Derived.LoopTactic
import Derived.Tactics2
import Derived.Laws.Rows
import Derived.Lib.Walk
import Derived.Laws.AppendOwn
import Derived.Maps.AppendAt
import Derived.Deep.AppendLies
import Derived.Deep.CutRange
import Derived.Deep.DeepCutAuto
import Derived.Deep.CutBlock
import Derived.Laws.Bits64b
import Derived.LaidEqlPtr
import Derived.Test.YtmenpmbgennhoaaGreatDoorPfs
import Derived.Deep.QuietTactic
import Derived.BigQuiet
import Derived.StillTailTactics
import Derived.RegionTactic
import Derived.Great.BuildSlice
import Derived.Deep.RegionLaw
import Derived.BigRegion
namespace Go.Proofs.YtmenpmbgennhoaaGreatDoor
open Go.RowKit
inductive Hid (p:Prop):Prop where | mk (h:p):Hid p
theorem Hid.out {p:Prop}:Hid p→p | .mk h=>h
instance {p:Prop}:Coe p (Hid p):=⟨.mk⟩
def Onl (B:Nat) (w w':World):Prop:=w.grownBy w' (some B)
theorem Onl.refl (B:Nat) (w:World):Onl B w w:=⟨rfl,rfl,rfl,Nat.le_refl _,fun _ _ _=>rfl⟩
theorem Onl.size {B:Nat} {w w':World} (h:Onl B w w'):w.heap.size≤w'.heap.size:=World.grownBy.size h
theorem Onl.trans {B:Nat} {a b c:World} (h:Onl B a b) (k:Onl B b c):Onl B a c:=
 ⟨(World.grownBy.os k).trans (World.grownBy.os h),(World.grownBy.tape k).trans (World.grownBy.tape h),(World.grownBy.output k).trans (World.grownBy.output h),Nat.le_trans h.size k.size,
  fun i hi hn=>(World.grownBy.block k i (Nat.lt_of_lt_of_le hi h.size) hn).trans (World.grownBy.block h i hi hn)⟩
theorem Onl.of {w w':World} (B:Nat) (h:Below w.heap.size w w'):Onl B w w':=⟨h.os,h.tape,h.output,h.size,fun i hi _=>h.block i hi⟩
theorem Onl.setCell {B:Nat} {a w:World} (h:Onl B a w) {p:Addr} (hp:B=p.block) (u:Value):Onl B a (w.setCell p u):=
 h.trans ⟨rfl,rfl,rfl,Nat.le_of_eq (by simp),fun i _ hn=>Below.heap_setCell w p u i (fun e=>hn (by rw [hp,e]))⟩
theorem Onl.alloc {B:Nat} {a w:World} (h:Onl B a w) (o:Obj):Onl B a (w.alloc o):=h.trans (World.grownBy_alloc w o (some B))
theorem Onl.drew {B:Nat} {a w:World} (h:Onl B a w):Onl B a w.drew:=h.trans ⟨rfl,rfl,rfl,Nat.le_refl _,fun _ _ _=>rfl⟩
theorem Onl.grown {B:Nat} {a w w':World} {row:Option Nat} (h:Onl B a w) (hg:w.grownBy w' row) (hr:∀ k,row=some k→a.heap.size≤k):Onl B a w':=
 ⟨hg.os.trans (World.grownBy.os h),hg.tape.trans (World.grownBy.tape h),hg.output.trans (World.grownBy.output h),Nat.le_trans h.size hg.size,
  fun i hi hn=>(hg.block i (Nat.lt_of_lt_of_le hi h.size) (fun e=>by have:=hr i e.symm; omega)).trans (World.grownBy.block h i hi hn)⟩
theorem ne_off {B i j:Nat} (h:i≠j):(⟨B,i,none⟩:Addr)≠⟨B,j,none⟩:=fun e=>h (Addr.mk.inj e).2.1
theorem wi64 {z:Int} (h1 : -9223372036854775808≤z) (h2:z < 9223372036854775808):IntKind.i64.wrap z=z:=by rw [IntKind.wrap_i64]; omega
theorem wu64 {z:Int} (h1:0≤z) (h2:z < 18446744073709551616):IntKind.u64.wrap z=z:=by rw [IntKind.wrap_u64]; omega
theorem beq_ne {a b:Int} (h:a≠b):(a==b)=false:=by simp [h]
theorem wrapU (z:Int):∃ n:Nat,n < 18446744073709551616∧IntKind.u64.wrap z=(n:Int):=by
 rw [IntKind.wrap_u64]
 exact ⟨(z % 18446744073709551616).toNat,by omega,by omega⟩
theorem Onl.below {N B:Nat} {w w':World} (h:Onl B w w') (h1:N≤B) (h2:N≤w.heap.size):Below N w w':=
 let ⟨a,b,c,d,e⟩:=h
 ⟨a,b,c,d,fun i hi=>e i (by omega) (by intro e; cases e; omega)⟩
theorem Onl.blw {N B:Nat} {w w':World} (h:Onl B w w') (h1:N≤B) (h2:N≤w.heap.size):Below N w w':=
 let ⟨a,b,c,d,e⟩:=h
 ⟨a,b,c,d,fun i hi=>e i (by omega) (by intro e; cases e; omega)⟩
theorem blw_drewN (N:Nat) (w:World) (n:Nat):Below N w (w.drewN n):=⟨rfl,rfl,rfl,Nat.le_refl _,fun _ _=>rfl⟩
def IsB (e:Ending):Prop:=∃ b,e= .returned (.bool b)
end Go.Proofs.YtmenpmbgennhoaaGreatDoor

namespace Go.Proofs.YtmenpmbgennhoaaGreatDoor
open Go.RowKit
theorem wp_build1 {P:Program} {o:Oper} {a:Act} {w:World} {K:Act→World→Prop} {Q:Exit→Act→World→Prop} (t e:TypeId) (x:Operand) (ho:o.op= .buildSlice t 1 #[(0,x)])
  (u:Value) (hx:a.eval x=u) (cells:Array Value) (ie:TypeInfo) (z:Value) (n:Nat) (hu:P.underlying t=some (.slice e)) (hie:P.info? e=some ie) (hz:ie.zero=some z) (hn:ie.size=n) (hsmall:¬ 1*n > 2 ^ 24) (hpos:¬ 1*n=0)
  (hf:Instr.fill (fun i=>some (i*n,n)) ((Array.range (1*n)).map (z.cells[· % z.cells.size]!)) [(0,u)]=some cells)
  (h:K (a.put o.dst (.slice (some ⟨w.heap.size,0,none⟩) 1 1)) (w.alloc (.cells cells e))):o.wp P a w K Q:=by
 subst hn
 refine wp_buildSlice t e 1 _ ho cells ie z hu hie hz hsmall hpos ?_ h
 simpa [hx] using hf
def Sm (w w':World):Prop:=∃ n,w'=w.drewN n
theorem Sm.refl (w:World):Sm w w:=⟨0,rfl⟩
theorem Sm.heap {w w':World} (h:Sm w w'):w'.heap=w.heap:=by obtain ⟨n,rfl⟩:=h; rfl
theorem retB {e:Ending} {b b':Bool} (he:e= .returned (.bool b)) (h:b=b'):e= .returned (.bool b'):=by rw [he,h]
def letN (c:Nat):Bool:=(decide (97≤c) && decide (c≤122)) || (decide (65≤c) && decide (c≤90))
theorem let_any (c:Nat) (w:World):Calls Tryz.prog 42 #[.int .u8 (c:Nat)] w fun e w'=>e= .returned (.bool (letN c))∧w=w':=by
 go_enter Tryz.func42,Tryz.ntmps42
 go_wp2_with (fail)
 all_goals
  go_ret
  refine ⟨retB rfl ?_,rfl⟩
  rw [Bool.eq_iff_iff]
  simp [letN]
  omega
def nameN (c:Nat):Bool:=letN c || (decide (48≤c) && decide (c≤57)) || decide (c=95) || decide (c=45)
theorem inName_any (c:Nat) (w:World):Calls Tryz.prog 43 #[.int .u8 (c:Nat)] w fun e w'=>e= .returned (.bool (nameN c))∧w=w':=by
 have hl:=fun w=>let_any c w
 obtain ⟨b,hb⟩:∃ b,letN c=b:=⟨_,rfl⟩
 have hn:nameN c=(b || (decide (48≤c) && decide (c≤57)) || decide (c=95) || decide (c=45)):=by unfold nameN; rw [hb]
 rw [hn]
 rw [hb] at hl
 have hlH:=Hid.mk hl
 clear hl hn hb
 go_enter Tryz.func43,Tryz.ntmps43
 cases b
 all_goals
  go_wp2_with (go_at_call 42; refine (hlH.out _).mono ?_; rintro e w' ⟨rfl,rfl⟩)
 all_goals
  go_ret
  refine ⟨retB rfl ?_,rfl⟩
  rw [Bool.eq_iff_iff]
  simp
  try omega
end Go.Proofs.YtmenpmbgennhoaaGreatDoor

namespace Go.Proofs.YtmenpmbgennhoaaGreatDoor
open Go.RowKit
theorem ite_of {c:Prop} [Decidable c] {a b:Prop} (h:c) (ha:a):if c then a else b:=by rw [if_pos h]; exact ha
theorem setRow_low {N:Nat} {w0 w:World} (h:Below N w0 w) (g:Nat) (cs:Array Value) (hg:N≤g):Below N w0 (w.setRow g cs):=
 ⟨h.os,h.tape,h.output,by simpa [World.setRow] using h.size,fun i hi=>(setRow_other _ _ _ _ (by omega)).trans (h.block i hi)⟩
theorem row_set {w:World} {C i:Nat} {cs:Array Value} {t:TypeId} {u:Value} (h:w.heap[C]?=some (.cells cs t (0,0))):(w.setCell ⟨C,i,none⟩ u).heap[C]?=some (.cells (cs.setIfInBounds i u) t (0,0)):=heap_setCell_same w C i cs t u h
theorem Onl.drewN {B:Nat} {a w:World} (h:Onl B a w) (n:Nat):Onl B a (w.drewN n):=h.trans ⟨rfl,rfl,rfl,Nat.le_refl _,fun _ _ _=>rfl⟩
theorem ownsRow_sm {w w':World} {base:Nat} {e:TypeId} {size n:Nat} {v:Value} {xs:List Value} (h:w.ownsRow base e size v n xs) (hk:∀ g,v.ownBlock=some g→w'.heap[g]?=w.heap[g]?):w'.ownsRow base e size v n xs:=by
 obtain ⟨h1,h2⟩:=h
 refine ⟨h1,?_⟩
 rcases h2 with h2 | ⟨g,cap,cur,rfl,hg',hh,k⟩
 ·exact .inl h2
 ·exact .inr ⟨g,cap,cur,rfl,hg',(hk g rfl).trans hh,k⟩
structure Sc where
 at_:Nat
 line:Nat
 col:Nat
structure Tok where
 kind:Nat
 text:ByteArray
 line:Nat
 col:Nat
structure Flt where
 line:Nat
 col:Nat
 code:Nat
def tokCells (t:Tok):List Value:=[.int .i64 (t.kind:Nat),.string t.text,.int .i64 (t.line:Nat),.int .i64 (t.col:Nat)]
def scCells (s:ByteArray) (st:Sc) (v:Value) (f:Flt):Array Value:=#[.string s,.int .i64 (st.at_:Nat),.int .i64 (st.line:Nat),.int .i64 (st.col:Nat),v,.int .i64 (f.line:Nat),.int .i64 (f.col:Nat),.int .i64 (f.code:Nat)]
structure ScP (N C:Nat) (s:ByteArray) (st:Sc) (ts:List Tok) (f:Flt) (v v':Value) (w0 w:World):Prop where
 cells:w.heap[C]?=some (.cells (scCells s st v f) 110 (0,0))
 own:w.ownsRow N 112 4 v' ts.length (ts.flatMap tokCells)
 ne:v'.ownBlock≠some C
 blw:Below N w0 w
 nc:N≤C
 ns:N≤w.heap.size
 le:st.at_≤s.size
 sz:s.size≤65536
 ln:st.line≤st.at_+1
 cl:st.col≤st.at_+1
abbrev ScS (N C:Nat) (s:ByteArray) (st:Sc) (ts:List Tok) (f:Flt) (v:Value) (w0 w:World):Prop:=ScP N C s st ts f v v w0 w
section
variable {N C:Nat} {s:ByteArray} {st st':Sc} {ts:List Tok} {f f':Flt} {v v':Value} {w0 w w':World}
theorem ScP.drewN (h:ScP N C s st ts f v v' w0 w) (n:Nat):ScP N C s st ts f v v' w0 (w.drewN n):=
 ⟨h.cells,h.own,h.ne,h.blw.trans (blw_drewN N w n),h.nc,h.ns,h.le,h.sz,h.ln,h.cl⟩
theorem ScP.clt (h:ScP N C s st ts f v v' w0 w):C < w.heap.size:=(Array.getElem?_eq_some_iff.1 h.cells).1
theorem ScP.c4 (h:ScP N C s st ts f v v' w0 w):w.cell? ⟨C,4,none⟩=some v:=by simp [World.cell?,h.cells,scCells]
theorem ScP.put (h:ScP N C s st ts f v v' w0 w) {u:Value}
  (hr:w.heap[C]?=some (.cells (scCells s st v f) 110 (0,0))→w'.heap[C]?=some (.cells (scCells s st' u f') 110 (0,0)))
  (ho:Onl C w w') (hle:st'.at_≤s.size) (hln:st'.line≤st'.at_+1) (hcl:st'.col≤st'.at_+1):ScP N C s st' ts f' u v' w0 w':=
 ⟨hr h.cells,ownsRow_sm h.own (fun g hg=>ho.block g (h.own.lt g hg).2 (fun e=>(by cases e; exact h.ne hg))),h.ne,h.blw.trans (ho.blw h.nc h.ns),h.nc,Nat.le_trans h.ns ho.size,hle,h.sz,hln,hcl⟩
theorem ScP.other (h:ScP N C s st ts f v v' w0 w) {T i:Nat} {u:Value} (hT:T≠C) (hN:N≤T) (ho:v'.ownBlock≠some T):ScP N C s st ts f v v' w0 (w.setCell ⟨T,i,none⟩ u):=by
 have hk:∀ g,g≠T→(w.setCell ⟨T,i,none⟩ u).heap[g]?=w.heap[g]?:=fun g hg=>Below.heap_setCell w _ _ g hg
 exact ⟨(hk C (Ne.symm hT)).trans h.cells,ownsRow_sm h.own (fun g hg=>hk g (fun e=>ho (by rw [hg,e]))),h.ne,h.blw.trans (((Onl.refl T w).setCell rfl _).blw hN h.ns),h.nc,by simpa using h.ns,h.le,h.sz,h.ln,h.cl⟩
theorem ScP.below (h:ScP N C s st ts f v v' w0 w) (hb:Below w.heap.size w w'):ScP N C s st ts f v v' w0 w':=
 ⟨(hb.block C h.clt).trans h.cells,ownsRow_sm h.own (fun g hg=>hb.block g (h.own.lt g hg).2),h.ne,h.blw.trans (hb.mono h.ns),h.nc,Nat.le_trans h.ns hb.size,h.le,h.sz,h.ln,h.cl⟩
end
theorem tokInfo:(Tryz.prog.info? 112).map (·.size)=some 4:=by kernel_rfl
theorem fltInfo:(Tryz.prog.info? 43).map (·.size)=some 3:=by kernel_rfl
set_option maxRecDepth 100000 in
theorem more_at (C:Nat) (s:ByteArray) (st:Sc) (f:Flt) (v:Value) (w:World) (hr:w.heap[C]?=some (.cells (scCells s st v f) 110 (0,0))) :
  Calls Tryz.prog 57 #[.pointer (some ⟨C,0,none⟩)] w fun e w'=>e= .returned (.bool (decide (st.at_ < s.size)))∧Sm w w':=by
 have c0:w.cell? ⟨C,0,none⟩=some (.string s):=by simp [World.cell?,hr,scCells]
 have c1:w.cell? ⟨C,1,none⟩=some (.int .i64 (st.at_:Nat)):=by simp [World.cell?,hr,scCells]
 clear hr
 go_enter Tryz.func57,Tryz.ntmps57
 go_wp2_with (fail)
 go_quiet (fail)
 go_wp2_with (fail)
 go_ret
 exact ⟨retB rfl (by simp),⟨_,rfl⟩⟩
theorem more_c {N C:Nat} {s:ByteArray} {st:Sc} {ts:List Tok} {f:Flt} {v v':Value} {w0 w:World} (h:ScP N C s st ts f v v' w0 w) :
  Calls Tryz.prog 57 #[.pointer (some ⟨C,0,none⟩)] w fun e w'=>e= .returned (.bool (decide (st.at_ < s.size)))∧ScP N C s st ts f v v' w0 w'∧w'.cell? ⟨C,0,none⟩=some (.string s)∧w'.cell? ⟨C,1,none⟩=some (.int .i64 (st.at_:Nat))∧Onl C w w':=by
 refine (more_at C s st f v w h.cells).mono ?_
 rintro e w' ⟨he,n,rfl⟩
 exact ⟨he,h.drewN n,by simp [World.cell?,h.cells,scCells],by simp [World.cell?,h.cells,scCells],(Onl.refl C w).drewN n⟩
set_option maxRecDepth 100000 in
theorem here_any (C k:Nat) (s:ByteArray) (st:Sc) (f:Flt) (v:Value) (w:World) (hr:w.heap[C]?=some (.cells (scCells s st v f) 110 (0,0))) :
  Calls Tryz.prog 59 #[.pointer (some ⟨C,0,none⟩),.int .i64 (k:Nat)] w fun e w'=>e= .returned (.agg #[.int .i64 (k:Nat),.string ⟨#[]⟩,.int .i64 (st.line:Nat),.int .i64 (st.col:Nat)])∧Below w.heap.size w w':=by
 have c2:w.cell? ⟨C,2,none⟩=some (.int .i64 (st.line:Nat)):=by simp [World.cell?,hr,scCells]
 have c3:w.cell? ⟨C,3,none⟩=some (.int .i64 (st.col:Nat)):=by simp [World.cell?,hr,scCells]
 have hC:C < w.heap.size:=(Array.getElem?_eq_some_iff.1 hr).1
 have hC2:C≠w.heap.size:=by omega
 clear hr
 go_enter Tryz.func59,Tryz.ntmps59
 go_wp2_with (fail)
 go_region
 go_wp2_with (fail)
 exact bodyPost_ret (results_cell_row rfl _ _ w.heap.size _ _ _ _ rfl (heap_alloc_new w _) Tryz.underlying112 rfl tokInfo) rfl ⟨rfl,((Below.refl _ w).alloc (Nat.le_refl _) _).drew⟩
def by_ (s:ByteArray) (i:Nat):Nat:=(s.data.toList.getD i 0).toNat
theorem by_is (s:ByteArray) (i:Nat) (h:i < s.size):s[i].toNat=by_ s i:=by
 unfold by_
 have h':i < s.data.toList.length:=by simpa using h
 rw [List.getD,List.getElem?_eq_getElem h']
 simp [ByteArray.getElem_eq_getElem_data]
def stepS (s:ByteArray) (st:Sc):Sc:=if by_ s st.at_=10 then ⟨st.at_+1,st.line+1,1⟩ else ⟨st.at_+1,st.line,st.col+1⟩
theorem stepS_at (s:ByteArray) (st:Sc):(stepS s st).at_=st.at_+1:=by unfold stepS; split <;> rfl
section
variable (N C:Nat) (s:ByteArray) (st:Sc) (ts:List Tok) (f:Flt) (v v':Value) (w0 w:World)
set_option maxRecDepth 100000 in
theorem step_any (h:ScP N C s st ts f v v' w0 w) (hlt:st.at_ < s.size) :
  Calls Tryz.prog 85 #[.pointer (some ⟨C,0,none⟩)] w fun e w'=>e= .returned (.tuple #[])∧ScP N C s (stepS s st) ts f v v' w0 w'∧Onl C w w':=by
 have hr:=h.cells
 have c0:w.cell? ⟨C,0,none⟩=some (.string s):=by simp [World.cell?,hr,scCells]
 have c1:w.cell? ⟨C,1,none⟩=some (.int .i64 (st.at_:Nat)):=by simp [World.cell?,hr,scCells]
 have c2:w.cell? ⟨C,2,none⟩=some (.int .i64 (st.line:Nat)):=by simp [World.cell?,hr,scCells]
 have c3:w.cell? ⟨C,3,none⟩=some (.int .i64 (st.col:Nat)):=by simp [World.cell?,hr,scCells]
 have f1:∀ i,w.frozen? ⟨C,i,none⟩=false:=fun i=>by simp [World.frozen?,hr]
 have hb:=by_is s st.at_ hlt
 have h1:(st.at_:Int)≤65536:=by have:=h.sz; omega
 have h2:(st.line:Int)≤65537:=by have:=h.ln; have:=h.sz; omega
 have h3:(st.col:Int)≤65537:=by have:=h.cl; have:=h.sz; omega
 have hH:=Hid.mk h
 clear h hr
 by_cases h10:by_ s st.at_=10
 ·have hst:Hid (stepS s st=⟨st.at_+1,st.line+1,1⟩):= .mk (by unfold stepS; rw [if_pos h10])
  rw [h10] at hb
  go_enter Tryz.func85,Tryz.ntmps85
  go_wp2_with (fail)
  go_quiet (fail)
  go_wp2_with (fail)
  go_end0
  have hO:=((((Onl.refl C w).drewN nq).setCell (p:=⟨C,2,none⟩) rfl (.int .i64 ((st.line:Int)+1))).setCell (p:=⟨C,3,none⟩) rfl (.int .i64 0)).setCell (p:=⟨C,1,none⟩) rfl (.int .i64 ((st.at_:Int)+1)) |>.setCell (p:=⟨C,3,none⟩) rfl (.int .i64 1)
  refine ⟨rfl,?_,hO⟩
  rw [hst.out]
  refine hH.out.put (fun h=> ?_) hO (by simp; omega) (by simp; have:=hH.out.ln; omega) (by simp)
  exact (row_set (row_set (row_set (row_set (w:=w.drewN _) h)))).trans (by simp [scCells])
 ·have hst:Hid (stepS s st=⟨st.at_+1,st.line,st.col+1⟩):= .mk (by unfold stepS; rw [if_neg h10])
  have hb10:(((by_ s st.at_:Nat):Int)==10)=false:=beq_ne (by omega)
  generalize by_ s st.at_=b at*
  go_enter Tryz.func85,Tryz.ntmps85
  go_wp2_with (fail)
  go_quiet (fail)
  go_wp2_with (fail)
  go_end0
  have hO:=(((Onl.refl C w).drewN nq).setCell (p:=⟨C,1,none⟩) rfl (.int .i64 ((st.at_:Int)+1))).setCell (p:=⟨C,3,none⟩) rfl (.int .i64 ((st.col:Int)+1))
  refine ⟨rfl,?_,hO⟩
  rw [hst.out]
  refine hH.out.put (fun h=> ?_) hO (by simp; omega) (by simp; have:=hH.out.ln; omega) (by simp; have:=hH.out.cl; omega)
  exact (row_set (row_set (w:=w.drewN _) h)).trans (by simp [scCells])
set_option maxRecDepth 100000 in
theorem fail_any (k c:Nat) (tx:ByteArray) (l cl:Nat) (h:ScP N C s st ts f v v' w0 w) :
  Calls Tryz.prog 89 #[.pointer (some ⟨C,0,none⟩),.agg #[.int .i64 (k:Nat),.string tx,.int .i64 (l:Nat),.int .i64 (cl:Nat)],.int .i64 (c:Nat)] w fun e w'=>e= .returned (.bool false)∧ScP N C s st ts ⟨l,cl,c⟩ v v' w0 w':=by
 have hr:=h.cells
 have c5:w.cell? ⟨C,5,none⟩=some (.int .i64 (f.line:Nat)):=by simp [World.cell?,hr,scCells]
 have c6:w.cell? ⟨C,6,none⟩=some (.int .i64 (f.col:Nat)):=by simp [World.cell?,hr,scCells]
 have c7:w.cell? ⟨C,7,none⟩=some (.int .i64 (f.code:Nat)):=by simp [World.cell?,hr,scCells]
 have f1:∀ i,w.frozen? ⟨C,i,none⟩=false:=fun i=>by simp [World.frozen?,hr]
 have hC:C < w.heap.size:=(Array.getElem?_eq_some_iff.1 hr).1
 have hC2:C≠w.heap.size:=by omega
 have hH:=Hid.mk h
 clear h hr
 go_enter Tryz.func89,Tryz.ntmps89
 go_wp2_with (fail)
 go_ret
 refine ⟨rfl,?_⟩
 refine ScP.below (w:=((w.setCell ⟨C,5,none⟩ (.int .i64 (l:Nat))).setCell ⟨C,6,none⟩ (.int .i64 (cl:Nat))).setCell ⟨C,7,none⟩ (.int .i64 (c:Nat))) (hH.out.put (fun h=> ?_) ((((Onl.refl C w).setCell rfl _).setCell rfl _).setCell rfl _) hH.out.le hH.out.ln hH.out.cl) ((Below.refl _ _).alloc (Nat.le_refl _) _)
 exact (row_set (row_set (row_set h))).trans (by simp [scCells])
end
theorem tokRow:(Tryz.prog.info? 112).map (fun i=>(i.zero,i.size,i.bytes))=some (some (.agg #[.int .i64 0,.string ⟨#[]⟩,.int .i64 0,.int .i64 0]),4,40):=by kernel_rfl
theorem tok_one (t:Tok):∀ u ∈ tokCells t,u.oneCell'=true:=by
 intro u hu
 simp only [tokCells,List.mem_cons,List.not_mem_nil,or_false] at hu
 rcases hu with rfl | rfl | rfl | rfl <;> rfl
theorem ownsRow_form {w:World} {base:Nat} {e:TypeId} {size n:Nat} {v:Value} {xs:List Value} (h:w.ownsRow base e size v n xs):∃ p c,v= .slice p n c:=by
 rcases h.2 with ⟨rfl,h0⟩ | ⟨g,cap,cur,rfl,_⟩
 ·exact ⟨none,0,by rw [h0]⟩
 ·exact ⟨_,_,rfl⟩
theorem fill4 (v1 v2 v3 v4:Value):Instr.fill (fun i=>some (i*4,4)) ((Array.range (1*4)).map ((Value.agg #[.int .i64 0,.string ⟨#[]⟩,.int .i64 0,.int .i64 0]).cells[· % (Value.agg #[.int .i64 0,.string ⟨#[]⟩,.int .i64 0,.int .i64 0]).cells.size]!)) [(0,.agg #[v1,v2,v3,v4])]=some #[v1,v2,v3,v4]:=by
 have h:((Array.range (1*4)).map ((Value.agg #[.int .i64 0,.string ⟨#[]⟩,.int .i64 0,.int .i64 0]).cells[· % (Value.agg #[.int .i64 0,.string ⟨#[]⟩,.int .i64 0,.int .i64 0]).cells.size]!))=#[.int .i64 0,.string ⟨#[]⟩,.int .i64 0,.int .i64 0]:=by kernel_rfl
 rw [h]
 simp [Instr.fill,Value.cells]
theorem wp_build_tok {o:Oper} {a:Act} {w:World} {K:Act→World→Prop} {Q:Exit→Act→World→Prop} (x:Operand) (ho:o.op= .buildSlice 78 1 #[(0,x)]) (v1 v2 v3 v4:Value) (hx:a.eval x= .agg #[v1,v2,v3,v4])
  (h:K (a.put o.dst (.slice (some ⟨w.heap.size,0,none⟩) 1 1)) (w.alloc (.cells #[v1,v2,v3,v4] 112))):o.wp Tryz.prog a w K Q:=by
 obtain ⟨i0,hi,hz0,hz1,hz2⟩:=info_parts tokRow
 exact wp_build1 _ _ x ho _ hx _ i0 _ 4 Tryz.underlying78 hi hz0 hz1 (by decide) (by decide) (fill4 v1 v2 v3 v4) h
theorem wp_append_tok {o:Oper} {a:Act} {w:World} {K:Act→World→Prop} {Q:Exit→Act→World→Prop} (s x:Operand) (ho:o.op= .call { callee:= .builtin .append,args:=#[s,x],argTypes:=#[78,78] })
  (N:Nat) (v:Value) (ts:List Tok) (hs:a.eval s=v) (hown:w.ownsRow N 112 4 v ts.length (ts.flatMap tokCells)) (t:Tok) (g:Nat) (hx:a.eval x= .slice (some ⟨g,0,none⟩) 1 1)
  (hg:w.heap[g]?=some (.cells (tokCells t).toArray 112 (0,0))) (hl:ts.length≤65536) (hN:N≤w.heap.size)
  (h:∀ v' w',w'.ownsRow N 112 4 v' (ts.length+1) (ts.flatMap tokCells++tokCells t)→w.grownBy w' v.ownBlock→(∃ p c,v'= .slice p (ts.length+1) c)→K (a.put o.dst v') w'):o.wp Tryz.prog a w K Q:=by
 obtain ⟨i0,hi,hz0,hz1,hz2⟩:=info_parts tokRow
 refine wp_append_own (P:=Tryz.prog) w s x _ ho N 112 i0 _ 4 40 Tryz.underlying78 hi hz0 hz1 hz2 rfl (by decide) v ts.length _ hs hown ⟨g,0,none⟩ 1 1 (tokCells t) hx rfl (fun j u hj=> ?_) (tok_one t) (by simp [maxLen]; omega) (by omega) hN (fun v' w' h2 h3 _=>h v' w' h2 h3 (ownsRow_form h2))
 have:w.cell? ⟨g,j,none⟩=(tokCells t).toArray[j]?:=by simp [World.cell?,hg]
 rw [Addr.add_lit,Nat.zero_add,this]
 simpa using hj
theorem ScP.pushed {N C:Nat} {s:ByteArray} {st:Sc} {ts:List Tok} {f:Flt} {w0 w w1:World} {v v':Value} {t:Tok} {o:Obj} (h:ScS N C s st ts f v w0 w)
  (hown:w1.ownsRow N 112 4 v' (ts.length+1) (ts.flatMap tokCells++tokCells t)) (hg:(w.alloc o).grownBy w1 v.ownBlock):ScP N C s st (ts++[t]) f v v' w0 w1:=by
 have hC:=h.clt
 have hCa:(w.alloc o).heap[C]?=w.heap[C]?:=Go.heap_alloc_old w o hC
 have hC1:w1.heap[C]?=w.heap[C]?:=(hg.block C (by simp; omega) (fun e=>h.ne (by rw [e]))).trans hCa
 refine ⟨hC1.trans h.cells,by rw [List.length_append,List.flatMap_append]; simpa using hown,fun e=> ?_,((h.blw.alloc h.ns o).grown hg (by simp; have:=h.ns; omega) (fun j hj=>(h.own.lt j hj).1)),h.nc,?_,h.le,h.sz,h.ln,h.cl⟩
 ·rcases hown.2 with ⟨rfl,_⟩ | ⟨g,cap,cur,rfl,_,hh,_⟩
  ·cases e
  ·cases e
   rw [hC1,h.cells] at hh
   have:=congrArg (fun o=>match o with | some (Obj.cells _ t _)=>t | _=>0) hh
   simp at this
 ·have:=hg.size
  simp at this
  have:=h.ns
  omega
theorem ScP.done {N C:Nat} {s:ByteArray} {st:Sc} {ts:List Tok} {f:Flt} {v v':Value} {w0 w:World} (h:ScP N C s st ts f v v' w0 w):ScS N C s st ts f v' w0 (w.setCell ⟨C,4,none⟩ v'):=
 h.put (fun hr=>(row_set hr).trans (by simp [scCells])) ((Onl.refl C w).setCell rfl _) h.le h.ln h.cl
def atW (C:Nat) (w:World):Nat:=match w.cell? ⟨C,1,none⟩ with | some (.int _ n)=>n.toNat | _=>0
theorem ScP.atW {N C:Nat} {s:ByteArray} {st:Sc} {ts:List Tok} {f:Flt} {v v':Value} {w0 w:World} (h:ScP N C s st ts f v v' w0 w):atW C w=st.at_:=by
 have hr:=h.cells
 have c1:w.cell? ⟨C,1,none⟩=some (.int .i64 (st.at_:Nat)):=by simp [World.cell?,hr,scCells]
 unfold Go.Proofs.YtmenpmbgennhoaaGreatDoor.atW
 rw [c1]; simp
end Go.Proofs.YtmenpmbgennhoaaGreatDoor

namespace Go.Proofs.YtmenpmbgennhoaaGreatDoor
open Go.RowKit
theorem step_append_own {P:Program} {ops:Array Oper} {o:Oper} {a:Act} {w:World} {K:Act→World→Prop} {Q:Exit→Act→World→Prop} {E:Prop} (hg:o.guard=none) (s x:Operand) (t:TypeId)
  (ho:o.op= .call { callee:= .builtin .append,args:=#[s,x],argTypes:=#[t,t] })
  (base:Nat) (e:TypeId) (i:TypeInfo) (z:Value) (size bytes:Nat) (ht:P.underlying t=some (.slice e)) (hi:P.info? e=some i) (hz:i.zero=some z)
  (hsize:i.size=size) (hby:i.bytes=bytes) (hzs:z.cells.size=size) (hsz:0 < size)
  (v:Value) (n:Nat) (xs:List Value) (hs:a.eval s=v) (hown:w.ownsRow base e size v n xs)
  (ad:Addr) (m c:Nat) (news:List Value) (hx:a.eval x= .slice (some ad) m c) (hl:news.length=m*size) (hnews:∀ j u,news[j]?=some u→w.cell? (ad.add j)=some u) (h1:∀ u ∈ news,u.oneCell'=true)
  (h63:n+m≤maxLen) (hbytes:(n+m)*bytes≤140737488355328) (hbase:base≤w.heap.size)
  (h:∀ v' w',w'.ownsRow base e size v' (n+m) (xs++news)→w.grownBy w' v.ownBlock→K (a.put o.dst v') w') :
  if Region.wanted o (yielded ops a.tmps)=true then Oper.wp P o a w K Q else E:=by
 have hw:Region.wanted o (yielded ops a.tmps)=true:=by simp [Region.wanted,hg]
 rw [if_pos hw]
 exact wp_append_own (P:=P) w s x t ho base e i z size bytes ht hi hz hsize hby hzs hsz v n xs hs hown ad m c news hx hl hnews h1 h63 hbytes hbase fun v' w' h2 h3 _=>h v' w' h2 h3
def nameL (s:ByteArray) (st:Sc):Sc:=if st.at_ < s.size then if nameN (by_ s st.at_)=true then nameL s (stepS s st) else st else st
termination_by s.size - st.at_
decreasing_by rw [stepS_at]; omega
inductive TR where
 | ok (t:Tok) (st:Sc)
 | bad (f:Flt)
def nameT (s:ByteArray) (st:Sc):TR:=if 32 < (nameL s st).at_ - st.at_ then .bad ⟨st.line,st.col,6⟩ else .ok ⟨1,s.extract st.at_ (nameL s st).at_,st.line,st.col⟩ (nameL s st)
def TokP (N C:Nat) (s:ByteArray) (ts:List Tok) (w0:World) (r:TR) (e:Ending) (w:World):Prop:=
 match r with
 | .ok t st=>e= .returned (.bool true)∧∃ f v,ScS N C s st (ts++[t]) f v w0 w
 | .bad f=>e= .returned (.bool false)∧∃ st v,ScS N C s st ts f v w0 w
theorem nameL_le (s:ByteArray) (st:Sc):st.at_≤(nameL s st).at_:=by
 rw [nameL.eq_def]
 split
 ·split
  ·have:=nameL_le s (stepS s st)
   rw [stepS_at] at this
   omega
  ·exact Nat.le_refl _
 ·exact Nat.le_refl _
termination_by s.size - st.at_
decreasing_by rw [stepS_at]; omega
structure NmS (W:World) (A:Array Value) (vals:Nat→Value) (D:Nat→Bool) (vs:Nat→Value) (w:World):Prop where
 vals:∀ i,D i=true→i≠6→i≠7→vs i=vals i
 bel:Below W.heap.size W w
 made:D 6=true→∃ T,vs 6= .pointer (some ⟨T,0,none⟩)∧W.heap.size≤T∧w.heap[T]?=some (.cells (if D 7=true then A else #[.int .i64 0,.string ⟨#[]⟩,.int .i64 0,.int .i64 0]) 112 (0,0))
open Go.Ev in
theorem NmS.pure {W:World} {A:Array Value} {vals:Nat→Value} {D:Nat→Bool} {vs:Nat→Value} {w:World} (h:NmS W A vals D vs w) {i:Nat} {v:Value} (hi:i≠6) (hi7:i≠7) (hv:v=vals i) {w':World} (hb:Below w.heap.size w w'):NmS W A vals (upd D i true) (upd vs i v) w':=by
 refine ⟨fun j hj h6 h7=> ?_,h.bel.trans (hb.mono h.bel.size),fun hj=> ?_⟩
 ·by_cases e:j=i
  ·subst e; rw [upd_same]; exact hv
  ·rw [upd_other _ _ e] at hj ⊢; exact h.vals j hj h6 h7
 ·rw [upd_other _ _ (Ne.symm hi)] at hj
  obtain ⟨T,h1,h2,h3⟩:=h.made hj
  refine ⟨T,by rw [upd_other _ _ (Ne.symm hi)]; exact h1,h2,?_⟩
  rw [hb.block T (Array.getElem?_eq_some_iff.1 h3).1,upd_other _ _ (Ne.symm hi7)]
  exact h3
set_option maxRecDepth 100000 in
set_option maxHeartbeats 3200000 in
theorem name_any (N C:Nat) (s:ByteArray) (st:Sc) (ts:List Tok) (f:Flt) (v:Value) (w0 w:World) (h:ScS N C s st ts f v w0 w) (hts:ts.length≤65536) :
  Calls Tryz.prog 86 #[.pointer (some ⟨C,0,none⟩)] w fun e w'=>TokP N C s ts w0 (nameT s st) e w':=by
 have hm:Tryz.prog.follows .mixedOrders=true:=by kernel_rfl
 have hH:=Hid.mk h
 have hr:=h.cells
 have c1:w.cell? ⟨C,1,none⟩=some (.int .i64 (st.at_:Nat)):=by simp [World.cell?,hr,scCells]
 have hrH:=Hid.mk hr
 have hCl:=Hid.mk (Array.getElem?_eq_some_iff.1 hr).1
 have c1H:=Hid.mk c1
 clear h hr
 go_enter Tryz.func86,Tryz.ntmps86
 go_upto_block 0 with (fail)
 go_cut [3,4] (fun x y wr=>∃ T,x= .pointer (some ⟨T,0,none⟩)∧y= .int .i64 (st.at_:Nat)∧w.heap.size≤T∧wr.heap[T]?=some (.cells (tokCells ⟨1,⟨#[]⟩,st.line,st.col⟩).toArray 112 (0,0))∧Below w.heap.size w wr)
 case first=>as_aux_lemma=>
  obtain ⟨vals,hvals⟩:∃ vals:Nat→Value,vals=fun i=>match i with | 1=> .agg #[.int .i64 1,.string ⟨#[]⟩,.int .i64 (st.line:Nat),.int .i64 (st.col:Nat)] | 4=> .pointer (some ⟨C,1,none⟩) | 5=> .int .i64 (st.at_:Nat) | 8=> .int .i64 (st.at_:Nat) | _=> .pointer (some ⟨C,0,none⟩):=⟨_,rfl⟩
  have hv0:vals 0= .pointer (some ⟨C,0,none⟩):=congrFun hvals 0
  have hv1:vals 1= .agg #[.int .i64 1,.string ⟨#[]⟩,.int .i64 (st.line:Nat),.int .i64 (st.col:Nat)]:=congrFun hvals 1
  have hv2:vals 2= .pointer (some ⟨C,0,none⟩):=congrFun hvals 2
  have hv3:vals 3= .pointer (some ⟨C,0,none⟩):=congrFun hvals 3
  have hv4:vals 4= .pointer (some ⟨C,1,none⟩):=congrFun hvals 4
  have hv5:vals 5= .int .i64 (st.at_:Nat):=congrFun hvals 5
  have hv8:vals 8= .int .i64 (st.at_:Nat):=congrFun hvals 8
  clear hvals
  go_wp2_with (fail)
  refine Go.Ev.wp_region_inv (NmS w (tokCells ⟨1,⟨#[]⟩,st.line,st.col⟩).toArray vals) hm (by kernel_rfl) (by kernel_rfl) ⟨fun i h=>(by cases h),(Below.refl _ w).drew,fun h=>(by cases h)⟩ ?_
  refine ⟨fun D vs wq K hQ hd hdep hcl hK=> ?_,?_⟩
  ·go_simp; exact hK _ _ (hQ.pure (by decide) (by decide) hv0.symm (Below.refl _ _))
  simp only [Act.put,List.setIfInBounds_toArray,List.set_cons_succ,List.set_cons_zero,Nat.reduceAdd]
  refine ⟨fun D vs wq K hQ hd hdep hcl hK=> ?_,?_⟩
  ·have e0:=(hQ.vals 0 (Go.Ev.depB hdep 0 (by kernel_rfl)) (by decide) (by decide)).trans hv0
   simp only [e0] at hK ⊢
   have hrq:=(hQ.bel.block C hCl.out).trans hrH.out
   go_wp2_with (fail)
   go_at_call 59
   refine (here_any C 1 s st f v wq hrq).mono ?_
   rintro e wz ⟨rfl,hBz⟩
   go_wp2_with (fail)
   exact hQ.pure (by decide) (by decide) hv1.symm hBz
  simp only [Act.put,List.setIfInBounds_toArray,List.set_cons_succ,List.set_cons_zero,Nat.reduceAdd]
  refine ⟨fun D vs wq K hQ hd hdep hcl hK=> ?_,?_⟩
  ·go_simp; exact hK _ _ (hQ.pure (by decide) (by decide) hv2.symm (Below.refl _ _))
  simp only [Act.put,List.setIfInBounds_toArray,List.set_cons_succ,List.set_cons_zero,Nat.reduceAdd]
  refine ⟨fun D vs wq K hQ hd hdep hcl hK=> ?_,?_⟩
  ·have e2:=(hQ.vals 2 (Go.Ev.depB hdep 2 (by kernel_rfl)) (by decide) (by decide)).trans hv2
   simp only [e2] at hK ⊢
   go_simp; exact hK _ _ (hQ.pure (by decide) (by decide) hv3.symm (Below.refl _ _))
  simp only [Act.put,List.setIfInBounds_toArray,List.set_cons_succ,List.set_cons_zero,Nat.reduceAdd]
  refine ⟨fun D vs wq K hQ hd hdep hcl hK=> ?_,?_⟩
  ·have e3:=(hQ.vals 3 (Go.Ev.depB hdep 3 (by kernel_rfl)) (by decide) (by decide)).trans hv3
   simp only [e3] at hK ⊢
   go_simp; exact hK _ _ (hQ.pure (by decide) (by decide) hv4.symm (Below.refl _ _))
  simp only [Act.put,List.setIfInBounds_toArray,List.set_cons_succ,List.set_cons_zero,Nat.reduceAdd]
  refine ⟨fun D vs wq K hQ hd hdep hcl hK=> ?_,?_⟩
  ·have e4:=(hQ.vals 4 (Go.Ev.depB hdep 4 (by kernel_rfl)) (by decide) (by decide)).trans hv4
   simp only [e4] at hK ⊢
   have cq:wq.cell? ⟨C,1,none⟩=some (.int .i64 (st.at_:Nat)):=(hQ.bel.cell (by exact hCl.out)).trans c1H.out
   go_simp; exact hK _ _ (hQ.pure (by decide) (by decide) hv5.symm (Below.refl _ _))
  simp only [Act.put,List.setIfInBounds_toArray,List.set_cons_succ,List.set_cons_zero,Nat.reduceAdd]
  refine ⟨fun D vs wq K hQ hd hdep hcl hK=> ?_,?_⟩
  ·have h7:=Go.Ev.closedF hcl 7 6 (by kernel_rfl) hd
   go_simp
   refine hK _ _ ⟨fun j hj h6 h7=> ?_,(hQ.bel.alloc hQ.bel.size _),fun _=>⟨wq.heap.size,by rw [Go.Ev.upd_same],hQ.bel.size,?_⟩⟩
   ·rw [Go.Ev.upd_other _ _ h6] at hj ⊢; exact hQ.vals j hj h6 h7
   ·rw [Go.Ev.upd_other _ _ (by decide),h7]; exact heap_alloc_new _ _
  simp only [Act.put,List.setIfInBounds_toArray,List.set_cons_succ,List.set_cons_zero,Nat.reduceAdd]
  refine ⟨fun D vs wq K hQ hd hdep hcl hK=> ?_,?_⟩
  ·have e1:=(hQ.vals 1 (Go.Ev.depB hdep 1 (by kernel_rfl)) (by decide) (by decide)).trans hv1
   obtain ⟨T,e6,hT1,hT2⟩:=hQ.made (Go.Ev.depB hdep 6 (by kernel_rfl))
   rw [hd] at hT2
   simp only [Bool.false_eq_true,if_false] at hT2
   simp only [e1,e6] at hK ⊢
   refine ite_of rfl ?_
   refine wp_store_row 112 _ _ rfl T #[.int .i64 1,.string ⟨#[]⟩,.int .i64 (st.line:Nat),.int .i64 (st.col:Nat)] rfl rfl 112 _ hT2 tokInfo rfl (by simp [Value.oneCell']) ?_
   refine hK undef _ ⟨fun j hj h6 h7=> ?_,setRow_low hQ.bel _ _ hT1,fun _=>⟨T,by rw [Go.Ev.upd_other _ _ (by decide)]; exact e6,hT1,?_⟩⟩
   ·rw [Go.Ev.upd_other _ _ h7] at hj ⊢; exact hQ.vals j hj h6 h7
   ·rw [Go.Ev.upd_same]; exact setRow_heap _ _ _ _ _ _ hT2
  simp only [Act.put,List.setIfInBounds_toArray,List.set_cons_succ,List.set_cons_zero,Nat.reduceAdd]
  refine ⟨fun D vs wq K hQ hd hdep hcl hK=> ?_,?_⟩
  ·have e5:=(hQ.vals 5 (Go.Ev.depB hdep 5 (by kernel_rfl)) (by decide) (by decide)).trans hv5
   simp only [e5] at hK ⊢
   go_simp; exact hK _ _ (hQ.pure (by decide) (by decide) hv8.symm (Below.refl _ _))
  simp only [Act.put,List.setIfInBounds_toArray,List.set_cons_succ,List.set_cons_zero,Nat.reduceAdd]
  intro vs D wq hQ hall
  obtain ⟨T,e6,hT1,hT2⟩:=hQ.made (hall 6 (by decide))
  have h7:=hall 7 (by decide)
  rw [h7] at hT2
  have e8:=(hQ.vals 8 (hall 8 (by decide)) (by decide) (by decide)).trans hv8
  simp only [e6,e8]
  go_wp2_with (fail)
  go_meet
  exact ⟨T,rfl,rfl,hT1,hT2,hQ.bel⟩
 case rest=>as_aux_lemma=>
  obtain ⟨T,rfl,rfl,hT1,hT2,hB⟩:=hcut
  have hS:=Hid.mk (hH.out.below hB)
  have hTC:T≠C:=by have:=hCl.out; omega
  have hvT:Hid (v.ownBlock≠some T):= .mk fun e=>(by have:=(hH.out.own.lt T e).2; omega)
  have hNT:Hid (N≤T):= .mk (Nat.le_trans hH.out.ns hT1)
  have hT2H:=Hid.mk hT2
  clear hB hT2 c1
  go_upto_block 0 with (fail)
  go_cut [] (fun wr=>ScS N C s (nameL s st) ts f v w0 wr∧wr.heap[T]?=some (.cells (tokCells ⟨1,⟨#[]⟩,st.line,st.col⟩).toArray 112 (0,0)))
  case first=>as_aux_lemma=>
   go_wp2_with (fail)
   go_loopw [] (fun wr=>∃ st',ScS N C s st' ts f v w0 wr∧wr.heap[T]?=some (.cells (tokCells ⟨1,⟨#[]⟩,st.line,st.col⟩).toArray 112 (0,0))∧nameL s st'=nameL s st) (fun wr=>s.size - atW C wr)
   case atStart=>exact ⟨st,hS.out,hT2H.out,rfl⟩
   case round=>
    obtain ⟨st',h1,h2,h3⟩:=hrel
    have hr1:=h1.cells
    have hr1H:=Hid.mk hr1
    have h1H:=Hid.mk h1
    have h3H:=Hid.mk h3
    have h2H:=Hid.mk h2
    have c0:wr.cell? ⟨C,0,none⟩=some (.string s):=by simp [World.cell?,hr1,scCells]
    have c1:wr.cell? ⟨C,1,none⟩=some (.int .i64 (st'.at_:Nat)):=by simp [World.cell?,hr1,scCells]
    have hat:=Hid.mk h1.atW
    clear h1 h2 h3 hr1
    by_cases hlt:st'.at_ < s.size
    ·have hmo:=Hid.mk (fun n=>by simpa [hlt] using more_at C s st' f v (wr.drewN n) hr1H.out)
     have hb:=by_is s st'.at_ hlt
     have hin:=Hid.mk (fun w=>inName_any (by_ s st'.at_) w)
     have hlH:=Hid.mk hlt
     cases hn:nameN (by_ s st'.at_) with
     | true=>
      rw [hn] at hin
      have hnH:=Hid.mk hn
      clear hn
      obtain ⟨bb,hbb⟩:∃ bb,by_ s st'.at_=bb:=⟨_,rfl⟩
      rw [hbb] at hb hin
      clear hbb
      go_wp2_with (fail)
      go_quiet (first | (go_at_call 57; exact Calls.quiet_of (hmo.out _)) | (go_at_call 43; exact Calls.quiet_of_same ((hin.out _).mono fun _ _ h=>⟨h.1,h.2.symm⟩)))
      go_wp2_with (fail)
      refine (step_any N C s st' ts f v v w0 _ (h1H.out.drewN nq) hlH.out).mono ?_
      rintro e wz ⟨rfl,hz,hO⟩
      go_wp2_with (fail)
      refine ⟨⟨_,hz,(hO.block T (Array.getElem?_eq_some_iff.1 h2H.out).1 (fun e=>hTC (by cases e; rfl))).trans h2H.out,?_⟩,?_⟩
      ·rw [← h3H.out,nameL.eq_def s st',if_pos hlH.out,if_pos hnH.out]
      ·rw [hz.atW,hat.out,stepS_at]; have:=hlH.out; omega
     | false=>
      rw [hn] at hin
      have hnH:=Hid.mk hn
      clear hn
      obtain ⟨bb,hbb⟩:∃ bb,by_ s st'.at_=bb:=⟨_,rfl⟩
      rw [hbb] at hb hin
      clear hbb
      go_wp2_with (fail)
      go_quiet (first | (go_at_call 57; exact Calls.quiet_of (hmo.out _)) | (go_at_call 43; exact Calls.quiet_of_same ((hin.out _).mono fun _ _ h=>⟨h.1,h.2.symm⟩)))
      go_wp2_with (fail)
      go_meet
      have he:nameL s st=st':=by rw [← h3H.out,nameL.eq_def s st',if_pos hlH.out,if_neg (by rw [hnH.out]; simp)]
      rw [he]
      exact ⟨h1H.out.drewN nq,h2H.out⟩
    ·have hmo:=Hid.mk (fun n=>by simpa [hlt] using more_at C s st' f v (wr.drewN n) hr1H.out)
     have hlH:=Hid.mk hlt
     clear hlt
     go_wp2_with (fail)
     go_quiet ((go_at_call 57; exact Calls.quiet_of (hmo.out _)))
     go_wp2_with (fail)
     go_meet
     have he:nameL s st=st':=by rw [← h3H.out,nameL.eq_def s st',if_neg hlH.out]
     rw [he]
     exact ⟨h1H.out.drewN nq,h2H.out⟩
  case rest=>as_aux_lemma=>
   obtain ⟨h1,h2⟩:=hcut
   have hge:st.at_≤(nameL s st).at_:=nameL_le s st
   have hle:=h1.le
   have hsz:=h1.sz
   have h1H:=Hid.mk h1
   have h2H:=Hid.mk h2
   obtain ⟨en,hen⟩:∃ en,nameL s st=en:=⟨_,rfl⟩
   rw [hen] at hge hle h1H h1
   have hr1:=h1.cells
   have c0:wc.cell? ⟨C,0,none⟩=some (.string s):=by simp [World.cell?,hr1,scCells]
   have c1:wc.cell? ⟨C,1,none⟩=some (.int .i64 (en.at_:Nat)):=by simp [World.cell?,hr1,scCells]
   have t1:wc.cell? ⟨T,1,none⟩=some (.string ⟨#[]⟩):=by simp [World.cell?,h2,tokCells]
   have f1:wc.frozen? ⟨T,1,none⟩=false:=by simp [World.frozen?,h2]
   have hTC2:C≠T:=fun e=>hTC e.symm
   have hsz2:(s.extract st.at_ en.at_).size=en.at_ - st.at_:=by simp; omega
   have hi1:(st.at_:Int)≤(en.at_:Int):=by omega
   have hi2:(en.at_:Int)≤(s.size:Int):=by omega
   have hxH:Hid (nameT s st=if 32 < en.at_ - st.at_ then .bad ⟨st.line,st.col,6⟩ else .ok ⟨1,s.extract st.at_ en.at_,st.line,st.col⟩ en):= .mk (by unfold nameT; rw [hen])
   clear h1 h2 hr1 hen
   go_wp2_with (fail)
   go_region
   obtain ⟨tx,htx⟩:∃ tx,s.extract st.at_ en.at_=tx:=⟨_,rfl⟩
   rw [htx] at hsz2 hxH
   simp only [htx]
   clear htx c0 c1 t1 f1 hi1 hi2
   generalize hw2:World.drew _=w2
   have hT3:w2.heap[T]?=some (.cells #[.int .i64 1,.string tx,.int .i64 (st.line:Nat),.int .i64 (st.col:Nat)] 112 (0,0)):=by
    subst hw2
    exact (row_set (h2H.out)).trans (by simp [tokCells])
   have hS2:ScS N C s en ts f v w0 w2:=by
    subst hw2
    exact (h1H.out.other hTC hNT.out hvT.out).drewN 1
   have t1:w2.cell? ⟨T,1,none⟩=some (.string tx):=by simp [World.cell?,hT3,tokCells]
   have hS2H:=Hid.mk hS2
   have hT3H:=Hid.mk hT3
   clear hw2 hS2 h1H h2H
   by_cases h32:32 < en.at_ - st.at_
   ·have hx:=Hid.mk (hxH.out.trans (if_pos h32))
    have h32i:(32:Int) < ((en.at_ - st.at_:Nat):Int):=by omega
    clear hxH
    rw [← hsz2] at h32i
    clear h32 hsz2
    go_wp2_with (first | (refine wpList_load_row rfl 112 _ rfl T rfl 112 _ _ _ hT3H.out Tryz.underlying112 rfl tokInfo ?_))
    refine (fail_any N C s en ts f v v w0 _ 1 6 tx st.line st.col hS2H.out).mono ?_
    rintro e w3 ⟨rfl,h3⟩
    have h3H:=Hid.mk h3
    clear h3
    go_wp2_with (fail)
    go_ret
    rw [hx.out]
    exact ⟨rfl,_,_,h3H.out⟩
   ·have hx:=Hid.mk (hxH.out.trans (if_neg h32))
    have h32i:((32:Int) < ((en.at_ - st.at_:Nat):Int))=False:=eq_false (by omega)
    have c4:w2.cell? ⟨C,4,none⟩=some v:=by simp [World.cell?,hS2H.out.cells,scCells]
    clear hxH
    rw [← hsz2] at h32i
    clear h32 hsz2
    go_upto_region 7 with (fail)
    go_wp2_with (fail)
    refine Go.Ev.wp_region_pfe [6,7,10] 2 (fun u=>u.cell? ⟨C,4,none⟩=some v∧u.heap[T]?=some (.cells #[.int .i64 1,.string tx,.int .i64 (st.line:Nat),.int .i64 (st.col:Nat)] 112 (0,0))) hm (by kernel_rfl) (by kernel_rfl) (by kernel_rfl) ⟨c4,hT3H.out⟩ ?_
    clear c4
    iterate 11
     first
     | refine Go.Ev.planF_skip (by rfl) ?_
     | (refine Go.Ev.planF_look (by rfl) _ (by rintro u K ⟨c4,hTq⟩ hK; first | (refine ite_of rfl ?_; refine wp_load_row 112 _ rfl T rfl 112 _ _ _ hTq Tryz.underlying112 rfl tokInfo ?_; exact hK _ rfl) | (clear hTq; go_simp; exact hK _ rfl)) ?_; simp only [Act.put,List.setIfInBounds_toArray,List.set_cons_succ,List.set_cons_zero])
    refine Go.Ev.planF_nil ?_
    refine Go.Ev.wpC_step rfl ?_
    rintro _ rfl K hK
    refine wp_build_tok _ rfl _ _ _ _ rfl ?_
    have hC2:=hS2H.out.clt
    have hTl:=(Array.getElem?_eq_some_iff.1 hT3H.out).1
    refine hK _ _ (fun _=>⟨?_,(Go.heap_alloc_old w2.drew _ hTl).trans hT3H.out⟩) ?_
    ·have:(w2.drew.alloc (.cells #[.int .i64 1,.string tx,.int .i64 (st.line:Nat),.int .i64 (st.col:Nat)] 112)).heap[C]?=some (.cells (scCells s en v f) 110 (0,0)):=(Go.heap_alloc_old w2.drew _ hC2).trans hS2H.out.cells
     simp [World.cell?,this,scCells]
    clear hK K
    simp only [Act.put,List.setIfInBounds_toArray,List.set_cons_succ,List.set_cons_zero]
    refine Go.Ev.wpC_step rfl ?_
    rintro _ rfl K hK
    refine wp_append_tok _ _ rfl N v ts rfl (ownsRow_sm hS2H.out.own (fun g hg=>Go.heap_alloc_old w2.drew _ (hS2H.out.own.lt g hg).2)) ⟨1,tx,st.line,st.col⟩ w2.heap.size rfl (heap_alloc_new w2.drew _) hts (by have:=hS2H.out.ns; simp; omega) ?_
    rintro _ w3 hown hgrow ⟨vp,vc,rfl⟩
    have hP3:=((hS2H.out.drewN 1).pushed hown hgrow)
    have hP3H:=Hid.mk hP3
    have hC3:=hP3.clt
    have hcells:=hP3.cells
    have hT4:w3.heap[T]?=some (.cells #[.int .i64 1,.string tx,.int .i64 (st.line:Nat),.int .i64 (st.col:Nat)] 112 (0,0)):=
     (hgrow.block T (by simp; omega) (fun e=>hvT.out e.symm)).trans ((Go.heap_alloc_old w2.drew _ hTl).trans hT3H.out)
    refine hK _ _ (fun _=>⟨by simp [World.cell?,hcells,scCells],hT4⟩) ?_
    clear hK K hP3
    simp only [Act.put,List.setIfInBounds_toArray,List.set_cons_succ,List.set_cons_zero]
    refine Go.Ev.wpC_step rfl ?_
    rintro _ rfl K hK
    have cc:w3.cell? ⟨C,4,none⟩=some v:=by simp [World.cell?,hcells,scCells]
    have ff:w3.frozen? ⟨C,4,none⟩=false:=by simp [World.frozen?,hcells]
    clear hcells hown hgrow hTl
    go_simp
    refine hK undef _ (fun h=>absurd h (by decide)) ?_
    clear hK K
    refine Go.Ev.wpC_end ?_
    rintro _ rfl
    go_wp2_with (fail)
    go_ret
    rw [hx.out]
    exact ⟨rfl,_,_,hP3H.out.done⟩
end Go.Proofs.YtmenpmbgennhoaaGreatDoor

namespace Go.Proofs.YtmenpmbgennhoaaGreatDoor
open Go.RowKit
def skipC (s:ByteArray) (st:Sc):Sc:=if st.at_ < s.size then if by_ s st.at_≠10 then skipC s (stepS s st) else st else st
termination_by s.size - st.at_
decreasing_by rw [stepS_at]; omega
theorem skipC_le (s:ByteArray) (st:Sc):st.at_≤(skipC s st).at_:=by
 rw [skipC.eq_def]
 split
 ·split
  ·have:=skipC_le s (stepS s st)
   rw [stepS_at] at this
   omega
  ·exact Nat.le_refl _
 ·exact Nat.le_refl _
termination_by s.size - st.at_
decreasing_by rw [stepS_at]; omega
def blankN (b:Nat):Bool:=decide (b=32) || decide (b=9) || decide (b=10) || decide (b=13)
def skipS (s:ByteArray) (st:Sc):Sc:=
 if st.at_ < s.size then if by_ s st.at_=35 then skipS s (skipC s (stepS s st)) else if blankN (by_ s st.at_)=true then skipS s (stepS s st) else st else st
termination_by s.size - st.at_
decreasing_by
 ·have:=skipC_le s (stepS s st)
  rw [stepS_at] at this
  omega
 ·rw [stepS_at]; omega
set_option maxRecDepth 100000 in
set_option maxHeartbeats 3200000 in
theorem skip_any (N C:Nat) (s:ByteArray) (st:Sc) (ts:List Tok) (f:Flt) (v:Value) (w0 w:World) (h:ScS N C s st ts f v w0 w) :
  Calls Tryz.prog 56 #[.pointer (some ⟨C,0,none⟩)] w fun e w'=>e= .returned (.tuple #[])∧ScS N C s (skipS s st) ts f v w0 w':=by
 have hH:=Hid.mk h
 clear h
 go_enter Tryz.func56,Tryz.ntmps56
 go_wp2_with (fail)
 go_loopw [] (fun wr=>∃ st',ScS N C s st' ts f v w0 wr∧skipS s st'=skipS s st) (fun wr=>s.size - atW C wr)
 case atStart=>exact ⟨st,hH.out,rfl⟩
 case round=>
  obtain ⟨st',h1,h3⟩:=hrel
  have h1H:=Hid.mk h1
  have h3H:=Hid.mk h3
  have hat:=Hid.mk h1.atW
  have hr1H:=Hid.mk h1.cells
  clear h1 h3
  by_cases hlt:st'.at_ < s.size
  ·have hmo:=Hid.mk (by simpa [hlt] using more_at C s st' f v wr hr1H.out)
   have hb:=by_is s st'.at_ hlt
   have hlH:=Hid.mk hlt
   go_wp2_with (go_at_call 57; refine hmo.out.mono ?_; rintro e w1 ⟨rfl,n1,rfl⟩)
   have c0:wr.cell? ⟨C,0,none⟩=some (.string s):=by simp [World.cell?,hr1H.out,scCells]
   have c1:wr.cell? ⟨C,1,none⟩=some (.int .i64 (st'.at_:Nat)):=by simp [World.cell?,hr1H.out,scCells]
   by_cases h35:by_ s st'.at_=35
   ·have h35H:=Hid.mk h35
    rw [h35] at hb
    clear h35
    go_quiet (fail)
    clear c0 c1
    generalize hwq:World.drewN _ _=wq
    have hS0:Hid (ScS N C s st' ts f v w0 wq):= .mk (by subst hwq; exact (h1H.out.drewN n1).drewN nq)
    clear hwq hb hlt hmo
    go_wp2_with (fail)
    have hskip:Hid (skipC s st'=skipC s (stepS s st')):= .mk (by rw [skipC.eq_def s st',if_pos hlH.out,if_pos (by rw [h35H.out]; decide)])
    go_loopw [] (fun wr2=>∃ st2,ScS N C s st2 ts f v w0 wr2∧skipC s st2=skipC s st') (fun wr2=>s.size - atW C wr2)
    case atStart=>exact ⟨st',hS0.out,rfl⟩
    case round=>
     obtain ⟨st2,g1,g3⟩:=hrel
     have g1H:=Hid.mk g1
     have g3H:=Hid.mk g3
     have gat:=Hid.mk g1.atW
     have gr:=g1.cells
     have c0:wr.cell? ⟨C,0,none⟩=some (.string s):=by simp [World.cell?,gr,scCells]
     have c1:wr.cell? ⟨C,1,none⟩=some (.int .i64 (st2.at_:Nat)):=by simp [World.cell?,gr,scCells]
     have hmo:=Hid.mk (fun n=>more_at C s st2 f v (wr.drewN n) gr)
     clear g1 g3 gr
     by_cases hl2:st2.at_ < s.size
     ·have hl2H:=Hid.mk hl2
      have hb:=by_is s st2.at_ hl2
      have hmo:=Hid.mk (fun n=>by simpa [hl2] using hmo.out n)
      by_cases h10:by_ s st2.at_=10
      ·have h10H:=Hid.mk h10
       rw [h10] at hb
       clear h10
       go_wp2_with (fail)
       go_quiet ((go_at_call 57; exact Calls.quiet_of (hmo.out _)))
       go_wp2_with (fail)
       have he:skipC s st'=st2:=by rw [← g3H.out,skipC.eq_def s st2,if_pos hl2H.out,if_neg (by rw [h10H.out]; decide)]
       have hle:=skipC_le s (stepS s st')
       rw [← hskip.out,he,stepS_at] at hle
       refine ⟨⟨st2,g1H.out.drewN nq,?_⟩,?_⟩
       ·rw [← h3H.out,skipS.eq_def s st',if_pos hlH.out,if_pos h35H.out,← hskip.out,he]
       ·rw [(g1H.out.drewN nq).atW,hat.out]; have:=hl2H.out; omega
      ·have h10H:=Hid.mk h10
       have hb10:(((by_ s st2.at_:Nat):Int) !=10)=true:=by simp; omega
       obtain ⟨bb,hbb⟩:∃ bb,by_ s st2.at_=bb:=⟨_,rfl⟩
       rw [hbb] at hb hb10
       clear hbb h10
       go_wp2_with (fail)
       go_quiet ((go_at_call 57; exact Calls.quiet_of (hmo.out _)))
       go_wp2_with (fail)
       refine (step_any N C s st2 ts f v v w0 _ (g1H.out.drewN nq) hl2H.out).mono ?_
       rintro e wz ⟨rfl,hz,_⟩
       go_wp2_with (fail)
       refine ⟨⟨_,hz,?_⟩,?_⟩
       ·rw [← g3H.out,skipC.eq_def s st2,if_pos hl2H.out,if_pos h10H.out]
       ·rw [hz.atW,gat.out,stepS_at]; have:=hl2H.out; omega
     ·have hl2H:=Hid.mk hl2
      have hmo:=Hid.mk (fun n=>by simpa [hl2] using hmo.out n)
      clear hl2
      go_wp2_with (fail)
      go_quiet ((go_at_call 57; exact Calls.quiet_of (hmo.out _)))
      go_wp2_with (fail)
      have he:skipC s st'=st2:=by rw [← g3H.out,skipC.eq_def s st2,if_neg hl2H.out]
      have hle:=skipC_le s (stepS s st')
      rw [← hskip.out,he,stepS_at] at hle
      refine ⟨⟨st2,g1H.out.drewN nq,?_⟩,?_⟩
      ·rw [← h3H.out,skipS.eq_def s st',if_pos hlH.out,if_pos h35H.out,← hskip.out,he]
      ·rw [(g1H.out.drewN nq).atW,hat.out]; have:=hlH.out; omega
   ·have h35H:=Hid.mk h35
    have hb35:(((by_ s st'.at_:Nat):Int)==35)=false:=beq_ne (by omega)
    have hcase:Hid ((blankN (by_ s st'.at_)=true→skipS s st=skipS s (stepS s st'))∧(blankN (by_ s st'.at_)=false→skipS s st=st')):= .mk
     ⟨fun hb=>by rw [← h3H.out,skipS.eq_def s st',if_pos hlH.out,if_neg h35H.out,if_pos hb],fun hb=>by rw [← h3H.out,skipS.eq_def s st',if_pos hlH.out,if_neg h35H.out,if_neg (by rw [hb]; simp)]⟩
    obtain ⟨bb,hbb⟩:∃ bb,by_ s st'.at_=bb:=⟨_,rfl⟩
    rw [hbb] at hb hb35 hcase
    clear hbb h35
    go_quiet (fail)
    clear c0 c1 hb
    generalize hwq:World.drewN _ _=wq
    have hS0:Hid (ScS N C s st' ts f v w0 wq):= .mk (by subst hwq; exact (h1H.out.drewN n1).drewN nq)
    clear hwq hlt hmo
    go_wp2_with (fail)
    all_goals
     first
     | (refine (step_any N C s st' ts f v v w0 _ hS0.out hlH.out).mono ?_
        rintro e wz ⟨rfl,hz,_⟩
        go_wp2_with (fail)
        refine ⟨⟨_,hz,(hcase.out.1 ?_).symm⟩,?_⟩
        ·simp_all [blankN]; omega
        ·rw [hz.atW,hat.out,stepS_at]; have:=hlH.out; omega)
     | (refine bodyPost_ret (results_none rfl _ _ _) rfl ⟨rfl,?_⟩
        rw [hcase.out.2 (by simp_all [blankN]; omega)]
        exact hS0.out)
  ·have hmo:=Hid.mk (by simpa [hlt] using more_at C s st' f v wr hr1H.out)
   have hlH:=Hid.mk hlt
   clear hlt
   go_wp2_with (go_at_call 57; refine hmo.out.mono ?_; rintro e w1 ⟨rfl,n1,rfl⟩)
   go_end0
   have he:skipS s st=st':=by rw [← h3H.out,skipS.eq_def s st',if_neg hlH.out]
   rw [he]
   exact ⟨rfl,h1H.out.drewN n1⟩
end Go.Proofs.YtmenpmbgennhoaaGreatDoor

namespace Go.Proofs.YtmenpmbgennhoaaGreatDoor
open Go.RowKit
def endedT (st:Sc) (l cl:Nat) (x:ByteArray):TR:=if x.size=0 then .bad ⟨l,cl,2⟩ else if 16 < x.size then .bad ⟨l,cl,6⟩ else .ok ⟨2,x,l,cl⟩ st
set_option maxRecDepth 100000 in
set_option maxHeartbeats 3200000 in
theorem ended_any (N C:Nat) (s:ByteArray) (st:Sc) (ts:List Tok) (f:Flt) (v:Value) (w0 w:World) (h:ScS N C s st ts f v w0 w) (hts:ts.length≤65536) (tx x:ByteArray) (hx:x.size≤65536) (l cl:Nat) :
  Calls Tryz.prog 111 #[.pointer (some ⟨C,0,none⟩),.agg #[.int .i64 2,.string tx,.int .i64 (l:Nat),.int .i64 (cl:Nat)],.string x] w fun e w'=>TokP N C s ts w0 (endedT st l cl x) e w':=by
 have hm:Tryz.prog.follows .mixedOrders=true:=by kernel_rfl
 obtain ⟨T,hT⟩:∃ T,w.heap.size=T:=⟨_,rfl⟩
 have hSH:=Hid.mk (h.below ((Below.refl _ w).alloc (Nat.le_refl _) (.cells #[.int .i64 2,.string tx,.int .i64 (l:Nat),.int .i64 (cl:Nat)] 112)))
 have hvT:Hid (v.ownBlock≠some T):= .mk fun e=>(by have:=(h.own.lt T e).2; omega)
 have hNT:Hid (N≤T):= .mk (by rw [← hT]; exact h.ns)
 have hTC:T≠C:=by have:=h.clt; omega
 have hTr:Hid ((w.alloc (.cells #[.int .i64 2,.string tx,.int .i64 (l:Nat),.int .i64 (cl:Nat)] 112)).heap[T]?=some (.cells #[.int .i64 2,.string tx,.int .i64 (l:Nat),.int .i64 (cl:Nat)] 112 (0,0))):= .mk (by rw [← hT]; exact heap_alloc_new w _)
 clear h
 by_cases h0:x.size=0
 ·have he:Hid (endedT st l cl x= .bad ⟨l,cl,2⟩):= .mk (by unfold endedT; rw [if_pos h0])
  have hx0:x=⟨#[]⟩:=by
   obtain ⟨d⟩:=x
   have:d=#[]:=Array.eq_empty_of_size_eq_zero h0
   rw [this]
  subst hx0
  clear h0 hx
  go_enter Tryz.func111,Tryz.ntmps111
  go_wp2_with (first | (refine wpList_load_row rfl 112 _ rfl T (by rw [← hT]; rfl) 112 _ _ _ hTr.out Tryz.underlying112 rfl tokInfo ?_))
  refine (fail_any N C s st ts f v v w0 _ 2 2 tx l cl hSH.out).mono ?_
  rintro e w3 ⟨rfl,h3⟩
  have h3H:=Hid.mk h3
  clear h3
  go_wp2_with (fail)
  go_ret
  rw [he.out]
  exact ⟨rfl,_,_,h3H.out⟩
 ·have hne:(x.toList==[])=false:=by
   rw [ByteArray.toList_eq]
   apply beq_eq_false_iff_ne.2
   intro h
   apply h0
   have:=congrArg List.length h
   simpa using this
  by_cases h16:16 < x.size
  ·have he:Hid (endedT st l cl x= .bad ⟨l,cl,6⟩):= .mk (by unfold endedT; rw [if_neg h0,if_pos h16])
   have h16i:(16:Int) < (x.size:Int):=by omega
   clear h0 h16
   go_enter Tryz.func111,Tryz.ntmps111
   go_wp2_with (first | (refine wpList_load_row rfl 112 _ rfl T (by rw [← hT]; rfl) 112 _ _ _ hTr.out Tryz.underlying112 rfl tokInfo ?_))
   refine (fail_any N C s st ts f v v w0 _ 2 6 tx l cl hSH.out).mono ?_
   rintro e w3 ⟨rfl,h3⟩
   have h3H:=Hid.mk h3
   clear h3
   go_wp2_with (fail)
   go_ret
   rw [he.out]
   exact ⟨rfl,_,_,h3H.out⟩
  ·have he:Hid (endedT st l cl x= .ok ⟨2,x,l,cl⟩ st):= .mk (by unfold endedT; rw [if_neg h0,if_neg h16])
   have h16i:((16:Int) < (x.size:Int))=False:=eq_false (by omega)
   clear h0 h16
   go_enter Tryz.func111,Tryz.ntmps111
   go_upto_region 5 with (fail)
   generalize hw1:World.alloc w _=w1
   rw [hw1] at hSH hTr
   clear hw1
   have t1:w1.cell? ⟨T,1,none⟩=some (.string tx):=by simp [World.cell?,hTr.out]
   have f1:w1.frozen? ⟨T,1,none⟩=false:=by simp [World.frozen?,hTr.out]
   go_wp2_with (fail)
   clear t1 f1
   generalize hw2:World.setCell _ _ _=w2
   have hT3H:Hid (w2.heap[T]?=some (.cells #[.int .i64 2,.string x,.int .i64 (l:Nat),.int .i64 (cl:Nat)] 112 (0,0))):= .mk (by
    subst hw2
    exact (row_set hTr.out).trans (by simp))
   have hS2H:Hid (ScS N C s st ts f v w0 w2):= .mk (by
    subst hw2
    exact hSH.out.other hTC hNT.out hvT.out)
   clear hw2
   refine Go.Ev.wp_region_pfe [6,7,10] 2 (fun u=>u.cell? ⟨C,4,none⟩=some v∧u.heap[T]?=some (.cells #[.int .i64 2,.string x,.int .i64 (l:Nat),.int .i64 (cl:Nat)] 112 (0,0))) hm (by kernel_rfl) (by kernel_rfl) (by kernel_rfl) ⟨hS2H.out.c4,hT3H.out⟩ ?_
   iterate 11
    first
    | refine Go.Ev.planF_skip (by rfl) ?_
    | (refine Go.Ev.planF_look (by rfl) _ (by rintro u K ⟨c4,hTq⟩ hK; first | (refine ite_of rfl ?_; refine wp_load_row 112 _ rfl T rfl 112 _ _ _ hTq Tryz.underlying112 rfl tokInfo ?_; exact hK _ rfl) | (clear hTq; go_simp; exact hK _ rfl)) ?_; simp only [Act.put,List.setIfInBounds_toArray,List.set_cons_succ,List.set_cons_zero])
   refine Go.Ev.planF_nil ?_
   refine Go.Ev.wpC_step rfl ?_
   rintro _ rfl K hK
   refine wp_build_tok _ rfl _ _ _ _ rfl ?_
   have hC2:=hS2H.out.clt
   have hTl:=(Array.getElem?_eq_some_iff.1 hT3H.out).1
   refine hK _ _ (fun _=>⟨?_,(Go.heap_alloc_old w2.drew _ hTl).trans hT3H.out⟩) ?_
   ·have:(w2.drew.alloc (.cells #[.int .i64 2,.string x,.int .i64 (l:Nat),.int .i64 (cl:Nat)] 112)).heap[C]?=some (.cells (scCells s st v f) 110 (0,0)):=(Go.heap_alloc_old w2.drew _ hC2).trans hS2H.out.cells
    simp [World.cell?,this,scCells]
   clear hK K
   simp only [Act.put,List.setIfInBounds_toArray,List.set_cons_succ,List.set_cons_zero]
   refine Go.Ev.wpC_step rfl ?_
   rintro _ rfl K hK
   refine wp_append_tok _ _ rfl N v ts rfl (ownsRow_sm hS2H.out.own (fun g hg=>Go.heap_alloc_old w2.drew _ (hS2H.out.own.lt g hg).2)) ⟨2,x,l,cl⟩ w2.heap.size rfl (heap_alloc_new w2.drew _) hts (by have:=hS2H.out.ns; simp; omega) ?_
   rintro _ w3 hown hgrow ⟨vp,vc,rfl⟩
   have hP3:=((hS2H.out.drewN 1).pushed hown hgrow)
   have hP3H:=Hid.mk hP3
   have hcells:=hP3.cells
   have hT4:w3.heap[T]?=some (.cells #[.int .i64 2,.string x,.int .i64 (l:Nat),.int .i64 (cl:Nat)] 112 (0,0)):=
    (hgrow.block T (by simp; omega) (fun e=>hvT.out e.symm)).trans ((Go.heap_alloc_old w2.drew _ hTl).trans hT3H.out)
   refine hK _ _ (fun _=>⟨by simp [World.cell?,hcells,scCells],hT4⟩) ?_
   clear hK K hP3
   simp only [Act.put,List.setIfInBounds_toArray,List.set_cons_succ,List.set_cons_zero]
   refine Go.Ev.wpC_step rfl ?_
   rintro _ rfl K hK
   have cc:w3.cell? ⟨C,4,none⟩=some v:=by simp [World.cell?,hcells,scCells]
   have ff:w3.frozen? ⟨C,4,none⟩=false:=by simp [World.frozen?,hcells]
   clear hcells hown hgrow hTl hT4
   go_simp
   refine hK undef _ (fun h=>absurd h (by decide)) ?_
   clear hK K
   refine Go.Ev.wpC_end ?_
   rintro _ rfl
   go_wp2_with (fail)
   go_ret
   rw [he.out]
   exact ⟨rfl,_,_,hP3H.out.done⟩
end Go.Proofs.YtmenpmbgennhoaaGreatDoor
