/- Lexing: an escape within a literal. Lexing: a literal. Lexing: a literal, its walk. Lexing: a token. Printed by genlx.py. Lexing: Scan. -/
import Derived.Test.YtmenpmbgennhoaaGreatDoorHlp
import Derived.Test.YtmenpmbgennhoaaGreatDoorShl
import Derived.Laws.BytesArg
import Derived.Lib.AppendStr
import Derived.OwnWalk
namespace Go.Proofs.YtmenpmbgennhoaaGreatDoor
open Go.RowKit
def hexV (b:Nat):Option Nat:=if 48≤b∧b≤57 then some (b - 48) else if 97≤b∧b≤102 then some (b - 87) else none
def hexes:ByteArray:=⟨#[48,49,50,51,52,53,54,55,56,57,97,98,99,100,101,102]⟩
theorem hex_all:((List.range 256).all fun b=>Lib.indexByte hexes.data.toList ((b:Int).toNat.toUInt8)==(match hexV b with | some k=>(k:Int) | none=> -1))=true:=by decide +kernel
theorem hex_is (b:Nat) (h:b < 256):Lib.indexByte hexes.data.toList ((b:Int).toNat.toUInt8)=(match hexV b with | some k=>(k:Int) | none=> -1):=by
 have:=List.all_eq_true.1 hex_all b (by simpa using h)
 exact beq_iff_eq.1 this
theorem hexV_lt {b k:Nat} (h:hexV b=some k):k < 16:=by
 unfold hexV at h
 split at h
 ·cases h; omega
 ·split at h
  ·cases h; omega
  ·cases h
theorem by_lt (s:ByteArray) (i:Nat):by_ s i < 256:=by unfold by_; exact UInt8.toNat_lt _
theorem or16 (a b:Nat) (ha:a < 16) (hb:b < 16):bits .or .i64 ((a:Int)*16) (b:Int)=((16*a+b:Nat):Int):=by
 have h1:(BitVec.ofInt 64 ((a:Int)*16)).toNat=a*16:=by simp; omega
 have h2:(BitVec.ofInt 64 (b:Int)).toNat=b:=by simp; omega
 show IntKind.i64.wrap ((BitVec.ofInt 64 ((a:Int)*16) ||| BitVec.ofInt 64 (b:Int)).toNat:Int)=_
 have h3:=Nat.two_pow_add_eq_or_of_lt (i:=4) (b:=b) (by omega) a
 rw [BitVec.toNat_or,h1,h2,Nat.mul_comm,show 16*a=2 ^ 4*a from rfl,← h3]
 exact wi64 (by omega) (by omega)
def escS (s:ByteArray) (st:Sc):Option Nat × Sc:=
 if st.at_ < s.size then
  if by_ s st.at_=92∨by_ s st.at_=39∨by_ s st.at_=34 then (some (by_ s st.at_),stepS s st)
  else if by_ s st.at_=110 then (some 10,stepS s st)
  else if by_ s st.at_=116 then (some 9,stepS s st)
  else if by_ s st.at_=120 then
   if (stepS s st).at_ < s.size then
    match hexV (by_ s (stepS s st).at_) with
    | none=>(none,stepS s st)
    | some a=>
     if (stepS s (stepS s st)).at_ < s.size then
      match hexV (by_ s (stepS s (stepS s st)).at_) with
      | none=>(none,stepS s (stepS s st))
      | some b=>(some (16*a+b),stepS s (stepS s (stepS s st)))
     else (none,stepS s (stepS s st))
   else (none,stepS s st)
  else (none,st)
 else (none,st)
def EscP (N C:Nat) (s:ByteArray) (ts:List Tok) (f:Flt) (v:Value) (w0 wS:World) (r:Option Nat × Sc) (e:Ending) (w:World):Prop:=
 ScS N C s r.2 ts f v w0 w∧Onl C wS w∧(match r.1 with | some x=>e= .returned (.tuple #[.int .u8 (x:Nat),.bool true]) | none=>e= .returned (.tuple #[.int .u8 0,.bool false]))
theorem escS_at (s:ByteArray) (st:Sc):st.at_≤(escS s st).2.at_∧(∀ x,(escS s st).1=some x→st.at_ < (escS s st).2.at_∧x < 256):=by
 have hb:=by_lt s st.at_
 unfold escS
 repeat' split
 all_goals simp only [stepS_at,Option.some.injEq,reduceCtorEq,false_implies,implies_true,and_true]
 all_goals (try (refine ⟨by omega,fun x hx=> ?_⟩; try subst hx))
 all_goals (first | omega | skip)
 all_goals (rename_i a ha _ _ b hb2; have:=hexV_lt ha; have:=hexV_lt hb2; omega)
set_option maxRecDepth 100000 in
set_option maxHeartbeats 3200000 in
theorem escape_any (N C:Nat) (s:ByteArray) (st:Sc) (ts:List Tok) (f:Flt) (v:Value) (w0 w:World) (h:ScS N C s st ts f v w0 w) :
  Calls Tryz.prog 112 #[.pointer (some ⟨C,0,none⟩)] w fun e w'=>EscP N C s ts f v w0 w (escS s st) e w':=by
 have hH:=Hid.mk h
 have c0:w.cell? ⟨C,0,none⟩=some (.string s):=by simp [World.cell?,h.cells,scCells]
 have c1:w.cell? ⟨C,1,none⟩=some (.int .i64 (st.at_:Nat)):=by simp [World.cell?,h.cells,scCells]
 have hmo:=Hid.mk (more_at C s st f v w h.cells)
 clear h
 by_cases hlt:st.at_ < s.size
 ·have hb:=by_is s st.at_ hlt
  have hlH:=Hid.mk hlt
  have hbl:=by_lt s st.at_
  have hmo:=Hid.mk (by simpa [hlt] using hmo.out)
  obtain ⟨b,hbe⟩:∃ b,by_ s st.at_=b:=⟨_,rfl⟩
  rw [hbe] at hb hbl
  have hbeH:=Hid.mk hbe
  clear hbe
  have hcl:b=92∨b=39∨b=34∨b=110∨b=116∨b=120∨(b≠92∧b≠39∧b≠34∧b≠110∧b≠116∧b≠120):=by omega
  rcases hcl with hc | hc | hc | hc | hc | hc | hc
  case inr.inr.inr.inr.inr.inl=>
   subst hc
   obtain ⟨st1,hst1⟩:∃ st1,stepS s st=st1:=⟨_,rfl⟩
   obtain ⟨r,hr⟩:∃ r,escS s st=r:=⟨_,rfl⟩
   rw [hr]
   have he:Hid (r=if st1.at_ < s.size then
    match hexV (by_ s st1.at_) with
    | none=>(none,st1)
    | some a=>
     if (stepS s st1).at_ < s.size then
      match hexV (by_ s (stepS s st1).at_) with
      | none=>(none,stepS s st1)
      | some b=>(some (16*a+b),stepS s (stepS s st1))
     else (none,stepS s st1)
   else (none,st1)):= .mk (by
    rw [← hr]
    unfold escS
    rw [if_pos hlH.out,hbeH.out,hst1]
    simp)
   clear hr
   go_enter Tryz.func112,Tryz.ntmps112
   go_wp2_with (go_at_call 57; refine hmo.out.mono ?_; rintro e w1 ⟨rfl,n1,rfl⟩)
   go_quiet (fail)
   clear c0 c1 hb
   generalize hwq:World.drewN _ _=wq
   have hS0:Hid (ScS N C s st ts f v w0 wq):= .mk (by subst hwq; exact (hH.out.drewN n1).drewN nq)
   have hO0:Hid (Onl C w wq):= .mk (by subst hwq; exact ((Onl.refl C w).drewN n1).drewN nq)
   clear hwq hmo
   go_wp2_with (fail)
   refine (step_any N C s st ts f v v w0 _ hS0.out hlH.out).mono ?_
   rintro e w1 ⟨rfl,hz,hO⟩
   rw [hst1] at hz
   have hS1:Hid (ScS N C s st1 ts f v w0 w1):= .mk hz
   have hO1:Hid (Onl C w w1):= .mk (hO0.out.trans hO)
   clear hz hO hst1 hS0 hlt hlH hbeH hH
   go_wp2_with (fail)
   go_loopw [5,39] (fun x y wr=>∃ (k:Nat) (st2:Sc) (n:Nat),k≤2∧y= .int .i64 (k:Nat)∧x= .int .i64 (n:Nat)∧ScS N C s st2 ts f v w0 wr∧Onl C w wr∧
    (k=0→n=0∧st2=st1)∧(k=1→st1.at_ < s.size∧hexV (by_ s st1.at_)=some n∧st2=stepS s st1)∧
    (k=2→∃ a b,st1.at_ < s.size∧hexV (by_ s st1.at_)=some a∧(stepS s st1).at_ < s.size∧hexV (by_ s (stepS s st1).at_)=some b∧n=16*a+b∧st2=stepS s (stepS s st1))) (fun _ y _=>2 - (intOf y).toNat)
   case atStart=>exact ⟨0,st1,0,by omega,rfl,rfl,hS1.out,hO1.out,fun _=>⟨rfl,rfl⟩,fun h=>by omega,fun h=>by omega⟩
   case round=>
    obtain ⟨k,st2,n,hk,rfl,rfl,g1,gO,q0,q1,q2⟩:=hrel
    have g1H:=Hid.mk g1
    have gOH:=Hid.mk gO
    have hmo:=Hid.mk (more_c g1)
    have q0H:=Hid.mk q0
    have q1H:=Hid.mk q1
    have q2H:=Hid.mk q2
    clear g1 gO q0 q1 q2
    by_cases hk2:k < 2
    ·have hk2i:((k:Nat):Int) < 2:=by omega
     by_cases hl2:st2.at_ < s.size
     ·have hmo:=Hid.mk (by simpa [hl2] using hmo.out)
      have hb:=by_is s st2.at_ hl2
      have hl2H:=Hid.mk hl2
      obtain ⟨b2,hb2⟩:∃ b2,by_ s st2.at_=b2:=⟨_,rfl⟩
      have hb2H:=Hid.mk hb2
      have hb2l:=by_lt s st2.at_
      rw [hb2] at hb hb2l
      have hix:=Hid.mk (fun w=>(Tryz.strings_IndexByte hexes (b2:Nat) w))
      rw [hex_is b2 hb2l] at hix
      clear hb2 hb2l
      cases hx:hexV b2 with
      | none=>
       rw [hx] at hix
       have hixs:=Hid.mk (fun w=>(hix.out w).mono fun _ _ h=>(⟨h.1,h.2⟩:_∧_=_))
       have hxH:=Hid.mk hx
       clear hx hix
       unfold hexes at hixs
       go_wp2_with (go_at_call 57; refine hmo.out.mono ?_; rintro e wm ⟨rfl,hSm,c0,c1,hOm⟩)
       have hSmH:=Hid.mk hSm
       have hOmH:=Hid.mk (gOH.out.trans hOm)
       clear hSm hOm
       go_quiet ((go_at_call 88; exact Calls.quiet_of_same (hixs.out _)))
       go_wp2_with (fail)
       go_ret2
       have hre:r=(none,st2):=by
        rw [he.out]
        rcases (show k=0∨k=1 by omega) with rfl | rfl
        ·obtain ⟨_,rfl⟩:=q0H.out rfl
         rw [if_pos hl2H.out,hb2H.out,hxH.out]
        ·obtain ⟨p1,p2,rfl⟩:=q1H.out rfl
         rw [if_pos p1,p2]
         simp only
         rw [if_pos hl2H.out,hb2H.out,hxH.out]
       rw [hre]
       exact ⟨hSmH.out.drewN nq,hOmH.out.drewN nq,rfl⟩
      | some a=>
       rw [hx] at hix
       have hixs:=Hid.mk (fun w=>(hix.out w).mono fun _ _ h=>(⟨h.1,h.2⟩:_∧_=_))
       have hxH:=Hid.mk hx
       have ha16:=hexV_lt hx
       have hai:((a:Int) < 0)=False:=eq_false (by omega)
       have hn16:n < 16:=by
        rcases (show k=0∨k=1 by omega) with rfl | rfl
        ·obtain ⟨rfl,_⟩:=q0H.out rfl; omega
        ·obtain ⟨_,p2,_⟩:=q1H.out rfl; exact hexV_lt p2
       have hor:=or16 n a hn16 ha16
       have hw16:IntKind.i64.wrap ((n:Int)*2 ^ 4)=((n:Int)*16):=by rw [wi64 (by omega) (by omega)]; omega
       clear hx hix
       unfold hexes at hixs
       go_wp2_with (go_at_call 57; refine hmo.out.mono ?_; rintro e wm ⟨rfl,hSm,c0,c1,hOm⟩)
       have hSmH:=Hid.mk hSm
       have hOmH:=Hid.mk (gOH.out.trans hOm)
       clear hSm hOm
       go_quiet ((go_at_call 88; exact Calls.quiet_of_same (hixs.out _)))
       clear c0 c1 hb
       go_wp2_with (fail)
       generalize hwq:World.drewN _ _=wq
       have hS2:Hid (ScS N C s st2 ts f v w0 wq):= .mk (by subst hwq; exact hSmH.out.drewN nq)
       have hO2:Hid (Onl C w wq):= .mk (by subst hwq; exact hOmH.out.drewN nq)
       clear hwq hmo
       refine (step_any N C s st2 ts f v v w0 _ hS2.out hl2H.out).mono ?_
       rintro e wz ⟨rfl,hz,hO⟩
       have hOz:=Hid.mk (hO2.out.trans hO)
       clear hO
       go_wp2_with (fail)
       refine ⟨⟨k+1,_,16*n+a,by omega,by congr 1,by congr 1,hz,hOz.out,fun h=>by omega,fun h=> ?_,fun h=> ?_⟩,by simp [intOf]; omega⟩
       ·obtain rfl:k=0:=by omega
        obtain ⟨rfl,rfl⟩:=q0H.out rfl
        exact ⟨hl2H.out,by rw [hb2H.out,hxH.out]; simp,rfl⟩
       ·obtain rfl:k=1:=by omega
        obtain ⟨p1,p2,rfl⟩:=q1H.out rfl
        exact ⟨n,a,p1,p2,hl2H.out,by rw [hb2H.out,hxH.out],rfl,rfl⟩
     ·have hmo:=Hid.mk (by simpa [hl2] using hmo.out)
      have hl2H:=Hid.mk hl2
      clear hl2
      go_wp2_with (go_at_call 57; refine hmo.out.mono ?_; rintro e wm ⟨rfl,hSm,c0,c1,hOm⟩)
      go_ret2
      have hre:r=(none,st2):=by
       rw [he.out]
       rcases (show k=0∨k=1 by omega) with rfl | rfl
       ·obtain ⟨_,rfl⟩:=q0H.out rfl
        rw [if_neg hl2H.out]
       ·obtain ⟨p1,p2,rfl⟩:=q1H.out rfl
        rw [if_pos p1,p2]
        simp only
        rw [if_neg hl2H.out]
      rw [hre]
      exact ⟨hSm,gOH.out.trans hOm,rfl⟩
    ·have hk3:k=2:=by omega
     subst hk3
     obtain ⟨a,b,p1,p2,p3,p4,p5,p6⟩:=q2H.out rfl
     have ha16:=hexV_lt p2
     have hb16:=hexV_lt p4
     have hn8:IntKind.u8.wrap (n:Int)=(n:Int):=by simp [IntKind.wrap,IntKind.bits,IntKind.signed]; omega
     have hre:Hid (r=(some n,st2)):= .mk (by rw [he.out,if_pos p1,p2]; simp only; rw [if_pos p3,p4,p5,p6])
     clear p1 p2 p3 p4 p5 p6 ha16 hb16 hmo hk hk2
     go_wp2_with (fail)
     go_ret2
     rw [hre.out]
     exact ⟨g1H.out,gOH.out,rfl⟩
  case inr.inr.inr.inr.inr.inr=>
   obtain ⟨g1,g2,g3,g4,g5,g6⟩:=hc
   have he:Hid (escS s st=(none,st)):= .mk (by unfold escS; rw [if_pos hlH.out,hbeH.out]; simp [g1,g2,g3,g4,g5,g6])
   have e1:((b:Int)==92)=false:=beq_ne (by omega)
   have e2:((b:Int)==39)=false:=beq_ne (by omega)
   have e3:((b:Int)==34)=false:=beq_ne (by omega)
   have e4:((b:Int)==110)=false:=beq_ne (by omega)
   have e5:((b:Int)==116)=false:=beq_ne (by omega)
   have e6:((b:Int)==120)=false:=beq_ne (by omega)
   clear g1 g2 g3 g4 g5 g6
   go_enter Tryz.func112,Tryz.ntmps112
   go_wp2_with (go_at_call 57; refine hmo.out.mono ?_; rintro e w1 ⟨rfl,n1,rfl⟩)
   go_quiet (fail)
   go_wp2_with (fail)
   go_ret2
   rw [he.out]
   exact ⟨hH.out.drewN (n1+nq),(Onl.refl C w).drewN (n1+nq),rfl⟩
  all_goals
   subst hc
   obtain ⟨r,hr⟩:∃ r,escS s st=r:=⟨_,rfl⟩
   have hr':=hr
   unfold escS at hr'
   rw [if_pos hlH.out,hbeH.out] at hr'
   simp at hr'
   have he:=Hid.mk (hr.trans hr'.symm)
   clear hr hr'
   go_enter Tryz.func112,Tryz.ntmps112
   go_wp2_with (go_at_call 57; refine hmo.out.mono ?_; rintro e w1 ⟨rfl,n1,rfl⟩)
   go_quiet (fail)
   clear c0 c1 hb
   generalize hwq:World.drewN _ _=wq
   have hS0:Hid (ScS N C s st ts f v w0 wq):= .mk (by subst hwq; exact (hH.out.drewN n1).drewN nq)
   have hO0:Hid (Onl C w wq):= .mk (by subst hwq; exact ((Onl.refl C w).drewN n1).drewN nq)
   clear hwq hmo
   go_wp2_with (fail)
   refine (step_any N C s st ts f v v w0 _ hS0.out hlH.out).mono ?_
   rintro e wz ⟨rfl,hz,hO⟩
   have hzH:=Hid.mk (⟨hz,hO0.out.trans hO⟩:_∧Onl C w wz)
   clear hz hO
   go_wp2_with (fail)
   go_ret2
   rw [he.out]
   exact ⟨hzH.out.1,hzH.out.2,rfl⟩
 ·have hlH:=Hid.mk hlt
  have hmo:=Hid.mk (by simpa [hlt] using hmo.out)
  clear hlt c0 c1
  go_enter Tryz.func112,Tryz.ntmps112
  go_wp2_with (go_at_call 57; refine hmo.out.mono ?_; rintro e w1 ⟨rfl,n1,rfl⟩)
  go_ret2
  have he:escS s st=(none,st):=by unfold escS; rw [if_neg hlH.out]
  rw [he]
  exact ⟨hH.out.drewN n1,(Onl.refl C w).drewN n1,rfl⟩
end Go.Proofs.YtmenpmbgennhoaaGreatDoor

namespace Go.Proofs.YtmenpmbgennhoaaGreatDoor
open Go.RowKit
def bv (z:Int):Value:= .int .u8 z
theorem u8Info:(Tryz.prog.info? 5).map (fun i=>(i.zero,i.size,i.bytes))=some (some (.int .u8 0),1,1):=by kernel_rfl
structure Out (N:Nat) (v:Value) (l:List Int) (w:World):Prop where
 own:w.ownsRow N 5 1 v l.length (l.map bv)
 ns:N≤w.heap.size
theorem Out.slice {N:Nat} {w:World} {v:Value} {l:List Int} (h:Out N v l w):∃ a c,v= .slice a l.length c:=by
 obtain ⟨p,c,h⟩:=ownsRow_form h.own
 exact ⟨p,c,h⟩
theorem Out.nil {N:Nat} {w:World} (h:N≤w.heap.size):Out N (.slice none 0 0) [] w:=⟨⟨by simp,.inl ⟨rfl,rfl⟩⟩,h⟩
theorem Out.app {N:Nat} {w w1:World} {v v':Value} {l xs:List Int} {o:Obj} (h:Out N v l w)
  (hown:w1.ownsRow N 5 1 v' (l.length+xs.length) (l.map bv++xs.map bv)) (hg:(w.alloc o).grownBy w1 v.ownBlock):Out N v' (l++xs) w1:=by
 refine ⟨by rw [List.length_append,List.map_append]; exact hown,?_⟩
 have:=World.grownBy.size hg
 simp at this
 have:=h.ns
 omega
theorem Out.onl {N C:Nat} {w w':World} {v:Value} {l:List Int} (h:Out N v l w) (ho:Onl C w w') (hC:C < N):Out N v l w':=
 ⟨ownsRow_sm h.own (fun g hg=>World.grownBy.block ho g (h.own.lt g hg).2 (fun e=>by cases e; have:=(h.own.lt C hg).1; omega)),Nat.le_trans h.ns ho.size⟩
theorem Out.below {N:Nat} {w w':World} {v:Value} {l:List Int} (h:Out N v l w) (ho:Below w.heap.size w w'):Out N v l w':=
 ⟨ownsRow_sm h.own (fun g hg=>ho.block g (h.own.lt g hg).2),Nat.le_trans h.ns ho.size⟩
theorem Out.drewN {N:Nat} {w:World} {v:Value} {l:List Int} (h:Out N v l w) (n:Nat):Out N v l (w.drewN n):=⟨h.own,h.ns⟩
theorem conv_any {N:Nat} {w:World} {v:Value} {l:List Int} (h:Out N v l w):(convert 125 9 v).run Tryz.prog w= .ok (.string (strOfNums l)) w:=by
 have hown:=h.own
 rcases hown.2 with ⟨he,h0⟩ | ⟨g,cap,cur,he,_,hg,hn,hm,hs,ht⟩
 ·subst he
  have:l=[]:=List.eq_nil_of_length_eq_zero h0
  subst this
  simp only [convert,Sem.run_bind,run_underlying Tryz.underlying125,run_underlying Tryz.underlying9,run_underlying Tryz.underlying5,Result.andThen_ok]
  rfl
 ·subst he
  exact run_convert_bytes_arg (P:=Tryz.prog) w 125 5 Tryz.underlying125 Tryz.underlying5 g 0 l.length cap l rfl (fun i hi=>by
   have hc:=hown.cells (g:=g) rfl i (bv (l.getD i 0)) (by rw [List.getElem?_map,List.getD,List.getElem?_eq_getElem (by omega)]; rfl)
   rw [Addr.add_lit] at hc
   exact hc) 9 Tryz.underlying9
theorem wpList_app_byte {ops:Array Oper} {rest:List Oper} {o:Oper} {a:Act} {w:World} {Q:Exit→Act→World→Prop} (hg:o.guard=none) (s x:Operand)
  (ho:o.op= .call { callee:= .builtin .append,args:=#[s,x],argTypes:=#[125,125] }) (N:Nat) (z:Int) (w1:World) (hw:w=w1.alloc (.cells #[bv z] 5)) (v:Value) (l:List Int) (hs:a.eval s=v) (h:Out N v l w1)
  (hx:a.eval x= .slice (some ⟨w1.heap.size,0,none⟩) 1 1) (hl:l.length≤1000000)
  (hk:∀ v' w',Out N v' (l++[z]) w'→w1.grownBy w' v.ownBlock→wpList Tryz.prog ops Q rest (a.put o.dst v') w'):wpList Tryz.prog ops Q (o::rest) a w:=by
 subst hw
 obtain ⟨i0,hi,hz0,hz1,hz2⟩:=info_parts u8Info
 refine wpList_append_own _ hg s x 125 ho N 5 i0 (.int .u8 0) 1 1 Tryz.underlying125 hi hz0 hz1 hz2 rfl (by decide) v _ _ hs (h.own.alloc _) ⟨w1.heap.size,0,none⟩ 1 1 [bv z] hx rfl ?_ ?_ ?_ ?_ ?_ ?_
 ·intro j u hj
  match j,hj with
  | 0,hj=>simp at hj; subst hj; simp [Addr.add,bv]
 ·intro u hu; simp at hu; subst hu; rfl
 ·unfold maxLen; omega
 ·omega
 ·have:=h.ns; simp; omega
 ·intro v' w' hown' hgrow _
  exact hk v' w' (h.app (xs:=[z]) hown' hgrow) ((World.grownBy_alloc w1 _ v.ownBlock).trans hgrow)
theorem ScP.grown {N N1 C:Nat} {s:ByteArray} {st:Sc} {ts:List Tok} {f:Flt} {v v':Value} {w0 w w':World} {r:Option Nat} (h:ScP N C s st ts f v v' w0 w) (hg:w.grownBy w' r) (hr:∀ k,r=some k→N1≤k) (hC:C < N1) (hv:∀ g,v'.ownBlock=some g→g < N1) (hN:N≤N1):ScP N C s st ts f v v' w0 w':=
 ⟨(hg.block C h.clt (fun e=>(by have:=hr C e.symm; omega))).trans h.cells,ownsRow_sm h.own (fun g hh=>hg.block g (h.own.lt g hh).2 (fun e=>(by have:=hr g e.symm; have:=hv g hh; omega))),h.ne,h.blw.grown hg h.ns (fun j hj=>Nat.le_trans hN (hr j hj)),h.nc,Nat.le_trans h.ns hg.size,h.le,h.sz,h.ln,h.cl⟩
def litL (s:ByteArray) (q l cl:Nat) (st:Sc) (out:List Int):TR:=
 if st.at_ < s.size then
  if by_ s st.at_=q then endedT (stepS s st) l cl (strOfNums out)
  else if by_ s st.at_=92 then
   match (escS s (stepS s st)).1 with
   | some x=>litL s q l cl (escS s (stepS s st)).2 (out++[(x:Int)])
   | none=> .bad ⟨(escS s (stepS s st)).2.line,(escS s (stepS s st)).2.col,2⟩
  else if by_ s st.at_ < 32∨126 < by_ s st.at_ then .bad ⟨st.line,st.col,2⟩
  else litL s q l cl (stepS s st) (out++[(by_ s st.at_:Int)])
 else .bad ⟨st.line,st.col,2⟩
termination_by s.size - st.at_
decreasing_by
 ·have:=(escS_at s (stepS s st)).1
  rw [stepS_at] at this
  omega
 ·rw [stepS_at]; omega
def litT (s:ByteArray) (q:Nat) (st:Sc):TR:=litL s q st.line st.col (stepS s st) []
end Go.Proofs.YtmenpmbgennhoaaGreatDoor

namespace Go.Proofs.YtmenpmbgennhoaaGreatDoor
open Go.RowKit
theorem TokP.isB {N C:Nat} {s:ByteArray} {ts:List Tok} {w0:World} {r:TR} {e:Ending} {w:World} (h:TokP N C s ts w0 r e w):∃ b,e= .returned (.bool b):=by
 cases r with
 | ok t st=>exact ⟨_,h.1⟩
 | bad f=>exact ⟨_,h.1⟩
set_option maxRecDepth 100000 in
set_option maxHeartbeats 3200000 in
theorem literal_any (N C:Nat) (s:ByteArray) (st:Sc) (ts:List Tok) (f:Flt) (v:Value) (w0 w:World) (h:ScS N C s st ts f v w0 w) (hts:ts.length≤65536) (hlt:st.at_ < s.size) (q:Nat) :
  Calls Tryz.prog 87 #[.pointer (some ⟨C,0,none⟩),.int .u8 (q:Nat)] w fun e w'=>TokP N C s ts w0 (litT s q st) e w':=by
 obtain ⟨R,hR⟩:∃ R,litT s q st=R:=⟨_,rfl⟩
 rw [hR]
 unfold litT at hR
 have hRH:=Hid.mk hR
 clear hR
 have hH:=Hid.mk h
 have hsz:=h.sz
 have hr:=h.cells
 have hltH:=Hid.mk hlt
 clear h
 go_enter Tryz.func87,Tryz.ntmps87
 go_upto_region 1 with (fail)
 go_wp2_with (fail)
 refine (here_any C 2 s st f v _ hr).mono ?_
 rintro e w1 ⟨rfl,hB1⟩
 clear hr
 obtain ⟨T,hT⟩:∃ T,w1.heap.size=T:=⟨_,rfl⟩
 have hNT:N≤T:=by have:=hH.out.ns; have:=hB1.size; omega
 have hCT:C < T:=by have:=hH.out.clt; have:=hB1.size; omega
 have hvT:Hid (∀ g,v.ownBlock=some g→g < T):= .mk fun g hg=>(by have:=(hH.out.own.lt g hg).2; have:=hB1.size; omega)
 have hS1:=Hid.mk ((hH.out.below hB1).below ((Below.refl _ w1).alloc (Nat.le_refl _) (.cells #[.int .i64 2,.string ⟨#[]⟩,.int .i64 (st.line:Nat),.int .i64 (st.col:Nat)] 112)))
 clear hB1 hH
 go_wp2_with (fail)
 have hT1:(w1.alloc (.cells #[.int .i64 2,.string ⟨#[]⟩,.int .i64 (st.line:Nat),.int .i64 (st.col:Nat)] 112)).heap[T]?=some (.cells #[.int .i64 2,.string ⟨#[]⟩,.int .i64 (st.line:Nat),.int .i64 (st.col:Nat)] 112 (0,0)):=by rw [← hT]; exact heap_alloc_new w1 _
 refine (step_any N C s st ts f v v w0 _ hS1.out hlt).mono ?_
 rintro e w2 ⟨rfl,hS2,hO2⟩
 have hT2:Hid (w2.heap[T]?=some (.cells #[.int .i64 2,.string ⟨#[]⟩,.int .i64 (st.line:Nat),.int .i64 (st.col:Nat)] 112 (0,0))):= .mk ((World.grownBy.block hO2 T (Array.getElem?_eq_some_iff.1 hT1).1 (fun e=>by cases e; omega)).trans hT1)
 have hT2l:T < w2.heap.size:=(Array.getElem?_eq_some_iff.1 hT2.out).1
 have hS2:=Hid.mk hS2
 clear hO2 hT1 hS1 hlt hltH
 obtain ⟨N1,hN1⟩:∃ N1,w2.heap.size=N1:=⟨_,rfl⟩
 have hTN:T < N1:=by omega
 have hN1H:Hid (N1≤w2.heap.size):= .mk (by omega)
 clear hN1 hT2l hT
 have hvN:Hid (∀ g,v.ownBlock=some g→g < N1):= .mk fun g hg=>(by have:=hvT.out g hg; omega)
 have hCN:C < N1:=by omega
 have hNN:N≤N1:=by omega
 generalize hl:st.line=l at*
 generalize hcl:st.col=cl at*
 generalize hst1:stepS s st=st1 at*
 clear hl hcl hst1 hvT
 go_wp2_with (fail)
 go_loopw [6] (fun x wr=>∃ (st':Sc) (out:List Int),Out N1 x out wr∧ScS N C s st' ts f v w0 wr∧wr.heap[T]?=some (.cells #[.int .i64 2,.string ⟨#[]⟩,.int .i64 (l:Nat),.int .i64 (cl:Nat)] 112 (0,0))∧litL s q l cl st' out=R∧out.length≤st'.at_) (fun _ wr=>s.size - atW C wr)
 case atStart=>exact ⟨st1,[],Out.nil hN1H.out,hS2.out,hT2.out,hRH.out,Nat.zero_le _⟩
 case round=>
  obtain ⟨st',out,g1,g2,g3,g4,g5⟩:=hrel
  have g1H:=Hid.mk g1
  have g2H:=Hid.mk g2
  have g3H:=Hid.mk g3
  have g4H:=Hid.mk g4
  have hat:=Hid.mk g2.atW
  obtain ⟨oa,oc,hx⟩:=g1.slice
  subst hx
  have hmo:=Hid.mk (more_c g2)
  have hleH:=Hid.mk g2.le
  clear g1 g2 g3 g4 hS2 hT2 hRH
  rw [litL.eq_def] at g4H
  by_cases hlt:st'.at_ < s.size
  ·have hb:=by_is s st'.at_ hlt
   have hltH:=Hid.mk hlt
   have hmo:=Hid.mk (by simpa [hlt] using hmo.out)
   rw [if_pos hlt] at g4H
   obtain ⟨b,hbe⟩:∃ b,by_ s st'.at_=b:=⟨_,rfl⟩
   rw [hbe] at hb g4H
   have hbeH:=Hid.mk hbe
   clear hbe
   by_cases hq:b=q
   ·rw [if_pos hq] at g4H
    subst hq
    go_wp2_with (go_at_call 57; refine hmo.out.mono ?_; rintro e wm ⟨rfl,hSm,c0,c1,hOm⟩)
    have hSm:=Hid.mk hSm
    have hOm:=Hid.mk hOm
    go_quiet (fail)
    clear c0 c1 hb
    generalize hwq:World.drewN _ _=wq
    have hSq:Hid (ScS N C s st' ts f v w0 wq):= .mk (by subst hwq; exact hSm.out.drewN nq)
    have hOq:Hid (Onl C wr wq):= .mk (by subst hwq; exact hOm.out.drewN nq)
    clear hwq hmo
    go_wp2_with (fail)
    refine (step_any N C s st' ts f v v w0 _ hSq.out hltH.out).mono ?_
    rintro e wz ⟨rfl,hSz,hOz⟩
    have hOz:=hOq.out.trans hOz
    have hSz:=Hid.mk hSz
    have hTz:=Hid.mk ((World.grownBy.block hOz T (Array.getElem?_eq_some_iff.1 g3H.out).1 (fun e=>by cases e; omega)).trans g3H.out)
    have hoz:=g1H.out.onl hOz hCN
    have hcv:=conv_any hoz
    clear hOz hoz
    go_wp2_with (first | (refine wpList_load_row rfl 112 _ rfl T rfl 112 _ _ _ hTz.out Tryz.underlying112 rfl tokInfo ?_))
    refine (ended_any N C s (stepS s st') ts f v w0 _ hSz.out hts ⟨#[]⟩ (strOfNums out) (by rw [strOfNums_size]; have:=hleH.out; omega) l cl).mono ?_
    rintro e we hP
    obtain ⟨eb,rfl⟩:=hP.isB
    have hP:=Hid.mk hP
    clear hcv
    go_wp2_with (fail)
    go_ret
    rw [← g4H.out]
    exact hP.out
   ·rw [if_neg hq] at g4H
    have hqi:((b:Int)==(q:Int))=false:=beq_ne (by omega)
    by_cases h92:b=92
    ·rw [if_pos h92] at g4H
     subst h92
     have hqi:((92:Int)==(q:Int))=false:=hqi
     go_wp2_with (go_at_call 57; refine hmo.out.mono ?_; rintro e wm ⟨rfl,hSm,c0,c1,hOm⟩)
     have hSm:=Hid.mk hSm
     have hOm:=Hid.mk hOm
     go_quiet (fail)
     clear c0 c1 hb
     generalize hwq:World.drewN _ _=wq
     have hSq:Hid (ScS N C s st' ts f v w0 wq):= .mk (by subst hwq; exact hSm.out.drewN nq)
     have hOq:Hid (Onl C wr wq):= .mk (by subst hwq; exact hOm.out.drewN nq)
     clear hwq hmo
     go_wp2_with (fail)
     refine (step_any N C s st' ts f v v w0 _ hSq.out hltH.out).mono ?_
     rintro e wz ⟨rfl,hSz,hOz⟩
     have hOz:=hOq.out.trans hOz
     have hSz:=Hid.mk hSz
     have hltz:st'.at_ < (stepS s st').at_:=by rw [stepS_at]; omega
     clear hq hqi
     go_wp2_with (fail)
     refine (escape_any N C s (stepS s st') ts f v w0 _ hSz.out).mono ?_
     rintro e we ⟨hSe,hOe,hE⟩
     have hesc:=escS_at s (stepS s st')
     generalize escS s (stepS s st')=es at*
     obtain ⟨er,st2⟩:=es
     simp only at hE hesc g4H hSe
     have hOe:=hOz.trans hOe
     cases er with
     | none=>
      simp only at hE g4H
      subst hE
      have hSe:=Hid.mk hSe
      clear hOe hesc
      go_wp2_with (fail)
      refine (here_any C 4 s st2 f v _ hSe.out.cells).mono ?_
      rintro e wh ⟨rfl,hBh⟩
      have hSh:=Hid.mk (hSe.out.below hBh)
      clear hBh
      go_wp2_with (fail)
      refine (fail_any N C s st2 ts f v v w0 _ 4 2 ⟨#[]⟩ st2.line st2.col hSh.out).mono ?_
      rintro e wf ⟨rfl,hSf⟩
      have hSf:=Hid.mk hSf
      go_wp2_with (fail)
      go_ret
      rw [← g4H.out]
      exact ⟨rfl,_,_,hSf.out⟩
     | some x=>
      simp only at hE g4H
      subst hE
      have hTe:=Hid.mk ((World.grownBy.block hOe T (Array.getElem?_eq_some_iff.1 g3H.out).1 (fun e=>by cases e; omega)).trans g3H.out)
      have hoe:=g1H.out.onl hOe hCN
      have hoH:=Hid.mk hoe
      have hSe:=Hid.mk hSe
      have hlen:=hesc.2 x rfl
      clear hOe hesc hoe
      go_wp2_with (at_builtin; refine wpList_app_byte rfl _ _ rfl N1 (x:Nat) we rfl _ out rfl hoH.out rfl (by have:=hleH.out; omega) ?_)
      rintro v' w' ho' hgr
      obtain ⟨pa,pc,rfl⟩:=ho'.slice
      have hS':=hSe.out.grown hgr (fun k hk=>(hoH.out.own.lt k hk).1) hCN hvN.out hNN
      have hT':=(hgr.block T (Array.getElem?_eq_some_iff.1 hTe.out).1 (fun e=>by have:=(hoH.out.own.lt T e.symm).1; omega)).trans hTe.out
      have hall:=Hid.mk (show _∧_∧_ from ⟨ho',hS',hT'⟩)
      clear ho' hgr hS' hT'
      go_wp2_with (fail)
      refine ⟨⟨st2,out++[(x:Int)],by simpa using hall.out.1,hall.out.2.1,hall.out.2.2,g4H.out,by simp; omega⟩,?_⟩
      rw [hall.out.2.1.atW,hat.out]
      have:=hltH.out
      omega
    ·rw [if_neg h92] at g4H
     have h92i:((b:Int)==92)=false:=beq_ne (by omega)
     by_cases hbad:b < 32∨126 < b
     ·rw [if_pos hbad] at g4H
      by_cases hb1:b < 32
      ·have hb1i:((b:Int) < 32):=by omega
       go_wp2_with (go_at_call 57; refine hmo.out.mono ?_; rintro e wm ⟨rfl,hSm,c0,c1,hOm⟩)
       have hSm:=Hid.mk hSm
       have hOm:=Hid.mk hOm
       go_quiet (fail)
       clear c0 c1 hb
       generalize hwq:World.drewN _ _=wq
       have hSq:Hid (ScS N C s st' ts f v w0 wq):= .mk (by subst hwq; exact hSm.out.drewN nq)
       have hOq:Hid (Onl C wr wq):= .mk (by subst hwq; exact hOm.out.drewN nq)
       clear hwq hmo
       go_wp2_with (fail)
       refine (here_any C 4 s st' f v _ hSq.out.cells).mono ?_
       rintro e wh ⟨rfl,hBh⟩
       have hSh:=Hid.mk (hSq.out.below hBh)
       clear hBh
       go_wp2_with (fail)
       refine (fail_any N C s st' ts f v v w0 _ 4 2 ⟨#[]⟩ st'.line st'.col hSh.out).mono ?_
       rintro e wf ⟨rfl,hSf⟩
       have hSf:=Hid.mk hSf
       go_wp2_with (fail)
       go_ret
       rw [← g4H.out]
       exact ⟨rfl,_,_,hSf.out⟩
      ·have hb1i:((b:Int) < 32)=False:=eq_false (by omega)
       have hb2i:((126:Int) < (b:Int)):=by omega
       go_wp2_with (go_at_call 57; refine hmo.out.mono ?_; rintro e wm ⟨rfl,hSm,c0,c1,hOm⟩)
       have hSm:=Hid.mk hSm
       have hOm:=Hid.mk hOm
       go_quiet (fail)
       clear c0 c1 hb
       generalize hwq:World.drewN _ _=wq
       have hSq:Hid (ScS N C s st' ts f v w0 wq):= .mk (by subst hwq; exact hSm.out.drewN nq)
       have hOq:Hid (Onl C wr wq):= .mk (by subst hwq; exact hOm.out.drewN nq)
       clear hwq hmo
       go_wp2_with (fail)
       refine (here_any C 4 s st' f v _ hSq.out.cells).mono ?_
       rintro e wh ⟨rfl,hBh⟩
       have hSh:=Hid.mk (hSq.out.below hBh)
       clear hBh
       go_wp2_with (fail)
       refine (fail_any N C s st' ts f v v w0 _ 4 2 ⟨#[]⟩ st'.line st'.col hSh.out).mono ?_
       rintro e wf ⟨rfl,hSf⟩
       have hSf:=Hid.mk hSf
       go_wp2_with (fail)
       go_ret
       rw [← g4H.out]
       exact ⟨rfl,_,_,hSf.out⟩
     ·rw [if_neg hbad] at g4H
      have hb1i:((b:Int) < 32)=False:=eq_false (by omega)
      have hb2i:((126:Int) < (b:Int))=False:=eq_false (by omega)
      go_wp2_with (go_at_call 57; refine hmo.out.mono ?_; rintro e wm ⟨rfl,hSm,c0,c1,hOm⟩)
      have hSm:=Hid.mk hSm
      have hOm:=Hid.mk hOm
      go_quiet (fail)
      clear c0 c1 hb
      generalize hwq:World.drewN _ _=wq
      have hSq:Hid (ScS N C s st' ts f v w0 wq):= .mk (by subst hwq; exact hSm.out.drewN nq)
      have hOq:Hid (Onl C wr wq):= .mk (by subst hwq; exact hOm.out.drewN nq)
      clear hwq hmo
      have hTq:=Hid.mk ((World.grownBy.block hOq.out T (Array.getElem?_eq_some_iff.1 g3H.out).1 (fun e=>by cases e; omega)).trans g3H.out)
      have hoH:=Hid.mk (g1H.out.onl hOq.out hCN)
      clear hbad
      go_wp2_with (at_builtin; refine wpList_app_byte rfl _ _ rfl N1 (b:Nat) wq rfl _ out rfl hoH.out rfl (by have:=hleH.out; omega) ?_)
      rintro v' w' ho' hgr
      obtain ⟨pa,pc,rfl⟩:=ho'.slice
      have hS':=hSq.out.grown hgr (fun k hk=>(hoH.out.own.lt k hk).1) hCN hvN.out hNN
      have hT':=(hgr.block T (Array.getElem?_eq_some_iff.1 hTq.out).1 (fun e=>by have:=(hoH.out.own.lt T e.symm).1; omega)).trans hTq.out
      have hall:=Hid.mk (show _∧_∧_ from ⟨ho',hS',hT'⟩)
      clear ho' hgr hS' hT'
      go_wp2_with (fail)
      refine (step_any N C s st' ts f v v w0 _ hall.out.2.1 hltH.out).mono ?_
      rintro e wz ⟨rfl,hSz,hOz⟩
      have hoz:=hall.out.1.onl hOz hCN
      have hTz:=(World.grownBy.block hOz T (Array.getElem?_eq_some_iff.1 hall.out.2.2).1 (fun e=>by cases e; omega)).trans hall.out.2.2
      have hall:=Hid.mk (show _∧_∧_ from ⟨hoz,hSz,hTz⟩)
      clear hoz hSz hTz hOz
      go_wp2_with (fail)
      refine ⟨⟨stepS s st',out++[(b:Int)],by simpa using hall.out.1,hall.out.2.1,hall.out.2.2,g4H.out,by rw [stepS_at]; simp; omega⟩,?_⟩
      rw [hall.out.2.1.atW,hat.out,stepS_at]
      have:=hltH.out
      omega
  ·have hltH:=Hid.mk hlt
   have hmo:=Hid.mk (by simpa [hlt] using hmo.out)
   rw [if_neg hlt] at g4H
   clear hlt
   go_wp2_with (go_at_call 57; refine hmo.out.mono ?_; rintro e wm ⟨rfl,hSm,c0,c1,hOm⟩)
   have hSm:=Hid.mk hSm
   clear hOm c0 c1
   go_wp2_with (fail)
   refine (here_any C 4 s st' f v _ hSm.out.cells).mono ?_
   rintro e wh ⟨rfl,hBh⟩
   have hSh:=Hid.mk (hSm.out.below hBh)
   clear hBh
   go_wp2_with (fail)
   refine (fail_any N C s st' ts f v v w0 _ 4 2 ⟨#[]⟩ st'.line st'.col hSh.out).mono ?_
   rintro e wf ⟨rfl,hSf⟩
   have hSf:=Hid.mk hSf
   go_wp2_with (fail)
   go_ret
   rw [← g4H.out]
   exact ⟨rfl,_,_,hSf.out⟩
end Go.Proofs.YtmenpmbgennhoaaGreatDoor

namespace Go.Proofs.YtmenpmbgennhoaaGreatDoor
open Go.RowKit
def signs:ByteArray:=⟨#[58,124,59,40,41,91,93,123,125,42,43,63,37]⟩
def signB (b:Nat):Bool:=decide (0≤Lib.indexByte signs.data.toList ((b:Int).toNat.toUInt8))
def tokT (s:ByteArray) (st:Sc):TR:=
 if letN (by_ s st.at_)=true then nameT s st
 else if by_ s st.at_=39∨by_ s st.at_=34 then litT s (by_ s st.at_) st
 else if signB (by_ s st.at_)=true then .ok ⟨3,s.extract st.at_ (st.at_+1),st.line,st.col⟩ (stepS s st)
 else .bad ⟨st.line,st.col,2⟩
set_option maxRecDepth 100000 in
set_option maxHeartbeats 3200000 in
theorem token_any (N C:Nat) (s:ByteArray) (st:Sc) (ts:List Tok) (f:Flt) (v:Value) (w0 w:World) (h:ScS N C s st ts f v w0 w) (hts:ts.length≤65536) (hlt:st.at_ < s.size) :
  Calls Tryz.prog 58 #[.pointer (some ⟨C,0,none⟩)] w fun e w'=>TokP N C s ts w0 (tokT s st) e w':=by
 have hm:Tryz.prog.follows .mixedOrders=true:=by kernel_rfl
 obtain ⟨R,hR⟩:∃ R,tokT s st=R:=⟨_,rfl⟩
 rw [hR]
 unfold tokT at hR
 have hH:=Hid.mk h
 have hr:=h.cells
 clear h
 go_enter Tryz.func58,Tryz.ntmps58
 go_upto_region 1 with (fail)
 go_wp2_with (fail)
 refine (here_any C 3 s st f v _ hr).mono ?_
 rintro e w1 ⟨rfl,hB1⟩
 clear hr
 obtain ⟨T,hT⟩:∃ T,w1.heap.size=T:=⟨_,rfl⟩
 have hNT:N≤T:=by have:=hH.out.ns; have:=hB1.size; omega
 have hCT:C < T:=by have:=hH.out.clt; have:=hB1.size; omega
 have hTC:T≠C:=by omega
 have hvT:Hid (v.ownBlock≠some T):= .mk fun e=>(by have:=(hH.out.own.lt T e).2; have:=hB1.size; omega)
 have hS1:=(hH.out.below hB1).below ((Below.refl _ w1).alloc (Nat.le_refl _) (.cells #[.int .i64 3,.string ⟨#[]⟩,.int .i64 (st.line:Nat),.int .i64 (st.col:Nat)] 112))
 have hT1:(w1.alloc (.cells #[.int .i64 3,.string ⟨#[]⟩,.int .i64 (st.line:Nat),.int .i64 (st.col:Nat)] 112)).heap[T]?=some (.cells #[.int .i64 3,.string ⟨#[]⟩,.int .i64 (st.line:Nat),.int .i64 (st.col:Nat)] 112 (0,0)):=by rw [← hT]; exact heap_alloc_new w1 _
 clear hB1 hH
 go_upto_region 2 with (fail)
 generalize World.alloc w1 _=w2 at*
 have c0:w2.cell? ⟨C,0,none⟩=some (.string s):=by simp [World.cell?,hS1.cells,scCells]
 have c1:w2.cell? ⟨C,1,none⟩=some (.int .i64 (st.at_:Nat)):=by simp [World.cell?,hS1.cells,scCells]
 have hS1:=Hid.mk hS1
 have hT1:=Hid.mk hT1
 have hltH:=Hid.mk hlt
 have hb:=by_is s st.at_ hlt
 have hbl:=by_lt s st.at_
 obtain ⟨b,hbe⟩:∃ b,by_ s st.at_=b:=⟨_,rfl⟩
 rw [hbe] at hb hbl hR
 have hRH:=Hid.mk hR
 clear hbe hR hT
 go_wp2_with (fail)
 go_quiet (fail)
 generalize hwq:World.drewN _ _=wq
 have hSq:Hid (ScS N C s st ts f v w0 wq):= .mk (by subst hwq; exact hS1.out.drewN nq)
 have hTq:Hid (wq.heap[T]?=some (.cells #[.int .i64 3,.string ⟨#[]⟩,.int .i64 (st.line:Nat),.int .i64 (st.col:Nat)] 112 (0,0))):= .mk (by subst hwq; exact hT1.out)
 clear hwq c0 c1 hS1 hT1
 have hla:=Hid.mk (fun w=>let_any b w)
 cases hlet:letN b with
 | true=>
  rw [hlet] at hla hRH
  simp only [if_true] at hRH
  clear hlet hb
  go_wp2_with (go_at_call 42; refine (hla.out _).mono ?_; rintro e w' ⟨rfl,hw'⟩; subst w')
  refine (name_any N C s st ts f v w0 _ hSq.out hts).mono ?_
  rintro e we hP
  obtain ⟨eb,rfl⟩:=hP.isB
  have hP:=Hid.mk hP
  go_wp2_with (fail)
  go_ret
  rw [← hRH.out]
  exact hP.out
 | false=>
  rw [hlet] at hla hRH
  simp only [Bool.false_eq_true,if_false] at hRH
  clear hlet hb
  by_cases hq:b=39∨b=34
  ·rw [if_pos hq] at hRH
   have hlit:=fun w' h'=>literal_any N C s st ts f v w0 w' h' hts hlt b
   have hlitH:=Hid.mk hlit
   clear hlit
   have hgo:∀ K:Prop,(b=39→K)→(b=34→K)→K:=fun K h1 h2=>hq.elim h1 h2
   apply hgo
   all_goals
    intro hbb
    subst hbb
    clear hq hgo
    go_wp2_with (go_at_call 42; refine (hla.out _).mono ?_; rintro e w' ⟨rfl,hw'⟩; subst w')
    refine (hlitH.out _ hSq.out).mono ?_
    rintro e we hP
    obtain ⟨eb,rfl⟩:=hP.isB
    have hP:=Hid.mk hP
    go_wp2_with (fail)
    go_ret
    rw [← hRH.out]
    exact hP.out
  ·rw [if_neg hq] at hRH
   have h39:((b:Int)==39)=false:=beq_ne (by omega)
   have h34:((b:Int)==34)=false:=beq_ne (by omega)
   have hix:=Hid.mk (fun w=>(Tryz.strings_IndexByte signs (b:Nat) w).mono fun _ _ h=>(⟨h.1,h.2⟩:_∧_=_))
   unfold signB at hRH
   unfold signs at hix
   unfold signs at hRH
   generalize Lib.indexByte _ _=k at hix hRH
   clear hq
   by_cases hk:0≤k
   ·rw [decide_eq_true hk] at hRH
    simp only [if_true] at hRH
    go_upto_region 8 with (first | (go_at_call 42; refine (hla.out _).mono ?_; rintro e w' ⟨rfl,hw'⟩; subst w') | (go_at_call 88; refine (hix.out _).mono ?_; rintro e w' ⟨rfl,hw'⟩; subst w'))
    have c0:wq.cell? ⟨C,0,none⟩=some (.string s):=by simp [World.cell?,hSq.out.cells,scCells]
    have c1:wq.cell? ⟨C,1,none⟩=some (.int .i64 (st.at_:Nat)):=by simp [World.cell?,hSq.out.cells,scCells]
    have t1:wq.cell? ⟨T,1,none⟩=some (.string ⟨#[]⟩):=by simp [World.cell?,hTq.out]
    have f1:wq.frozen? ⟨T,1,none⟩=false:=by simp [World.frozen?,hTq.out]
    have hTC2:C≠T:=fun e=>hTC e.symm
    have hsz:(st.at_:Int) < 65536:=by have:=hSq.out.sz; omega
    obtain ⟨e1,he1⟩:∃ e1,st.at_+1=e1:=⟨_,rfl⟩
    have he1i:(st.at_:Int)+1=(e1:Int):=by omega
    have he1w:IntKind.i64.wrap ((st.at_:Int)+1)=(e1:Int):=by rw [wi64 (by omega) (by omega)]; omega
    have hi1:(st.at_:Int)≤(e1:Int):=by omega
    have hi2:(e1:Int)≤(s.size:Int):=by omega
    rw [he1] at hRH
    clear hlt hla hix
    go_wp2_with (fail)
    go_region
    obtain ⟨tx,htx⟩:∃ tx,s.extract st.at_ e1=tx:=⟨_,rfl⟩
    rw [htx] at hRH
    simp only [htx]
    clear htx c0 c1 t1 f1 he1 he1i he1w hi1 hi2 hsz
    generalize hw4:World.drew _=w4
    have hS4:=Hid.mk (show ScS N C s st ts f v w0 w4 by subst hw4; exact (hSq.out.other hTC (by omega) hvT.out).drewN 1)
    have hT4:Hid (w4.heap[T]?=some (.cells #[.int .i64 3,.string tx,.int .i64 (st.line:Nat),.int .i64 (st.col:Nat)] 112 (0,0))):= .mk (by
     subst hw4
     exact (row_set hTq.out).trans (by simp))
    clear hw4 hSq hTq
    go_wp2_with (fail)
    refine (step_any N C s st ts f v v w0 _ hS4.out hltH.out).mono ?_
    rintro e w5 ⟨rfl,hS5,hO5⟩
    have hS2H:=Hid.mk hS5
    have hT3H:Hid (w5.heap[T]?=some (.cells #[.int .i64 3,.string tx,.int .i64 (st.line:Nat),.int .i64 (st.col:Nat)] 112 (0,0))):= .mk ((World.grownBy.block hO5 T (Array.getElem?_eq_some_iff.1 hT4.out).1 (fun e=>by cases e; omega)).trans hT4.out)
    clear hS5 hO5 hS4 hT4
    generalize hl:st.line=l at*
    generalize hcl:st.col=cl at*
    generalize hst1:stepS s st=st1 at*
    clear hl hcl hst1
    go_upto_region 10 with (fail)
    go_wp2_with (fail)
    refine Go.Ev.wp_region_pfe [6,7,10] 2 (fun u=>u.cell? ⟨C,4,none⟩=some v∧u.heap[T]?=some (.cells #[.int .i64 3,.string tx,.int .i64 (l:Nat),.int .i64 (cl:Nat)] 112 (0,0))) hm (by kernel_rfl) (by kernel_rfl) (by kernel_rfl) ⟨hS2H.out.c4,hT3H.out⟩ ?_
    iterate 11
     first
     | refine Go.Ev.planF_skip (by rfl) ?_
     | (refine Go.Ev.planF_look (by rfl) _ (by rintro u K ⟨c4,hTq⟩ hK; first | (refine ite_of rfl ?_; refine wp_load_row 112 _ rfl T rfl 112 _ _ _ hTq Tryz.underlying112 rfl tokInfo ?_; exact hK _ rfl) | (clear hTq; go_simp; exact hK _ rfl)) ?_; simp only [Act.put,List.setIfInBounds_toArray,List.set_cons_succ,List.set_cons_zero])
    refine Go.Ev.planF_nil ?_
    refine Go.Ev.wpC_step rfl ?_
    rintro _ rfl K hK
    refine wp_build_tok _ rfl _ _ _ _ rfl ?_
    have hC2:=hS2H.out.clt
    have hTl:=(Array.getElem?_eq_some_iff.1 hT3H.out).1
    refine hK _ _ (fun _=>⟨?_,(Go.heap_alloc_old w5.drew _ hTl).trans hT3H.out⟩) ?_
    ·have:(w5.drew.alloc (.cells #[.int .i64 3,.string tx,.int .i64 (l:Nat),.int .i64 (cl:Nat)] 112)).heap[C]?=some (.cells (scCells s st1 v f) 110 (0,0)):=(Go.heap_alloc_old w5.drew _ hC2).trans hS2H.out.cells
     simp [World.cell?,this,scCells]
    clear hK K
    simp only [Act.put,List.setIfInBounds_toArray,List.set_cons_succ,List.set_cons_zero]
    refine Go.Ev.wpC_step rfl ?_
    rintro _ rfl K hK
    refine wp_append_tok _ _ rfl N v ts rfl (ownsRow_sm hS2H.out.own (fun g hg=>Go.heap_alloc_old w5.drew _ (hS2H.out.own.lt g hg).2)) ⟨3,tx,l,cl⟩ w5.heap.size rfl (heap_alloc_new w5.drew _) hts (by have:=hS2H.out.ns; simp; omega) ?_
    rintro _ w3 hown hgrow ⟨vp,vc,rfl⟩
    have hP3:=((hS2H.out.drewN 1).pushed hown hgrow)
    have hP3H:=Hid.mk hP3
    have hcells:=hP3.cells
    have hT4:w3.heap[T]?=some (.cells #[.int .i64 3,.string tx,.int .i64 (l:Nat),.int .i64 (cl:Nat)] 112 (0,0)):=
     (hgrow.block T (by simp; omega) (fun e=>hvT.out e.symm)).trans ((Go.heap_alloc_old w5.drew _ hTl).trans hT3H.out)
    refine hK _ _ (fun _=>⟨by simp [World.cell?,hcells,scCells],hT4⟩) ?_
    clear hK K hP3
    simp only [Act.put,List.setIfInBounds_toArray,List.set_cons_succ,List.set_cons_zero]
    refine Go.Ev.wpC_step rfl ?_
    rintro _ rfl K hK
    have cc:w3.cell? ⟨C,4,none⟩=some v:=by simp [World.cell?,hcells,scCells]
    have ff:w3.frozen? ⟨C,4,none⟩=false:=by simp [World.frozen?,hcells]
    clear hcells hown hgrow hTl hT4
    go_simp
    refine hK undef _ (fun h=>absurd h (by decide)) ?_
    clear hK K
    refine Go.Ev.wpC_end ?_
    rintro _ rfl
    go_wp2_with (fail)
    go_ret
    rw [← hRH.out]
    exact ⟨rfl,_,_,hP3H.out.done⟩
   ·rw [decide_eq_false hk] at hRH
    simp only [Bool.false_eq_true,if_false] at hRH
    have hk0:(0≤k)=False:=eq_false hk
    clear hk
    go_wp2_with (first | (go_at_call 42; refine (hla.out _).mono ?_; rintro e w' ⟨rfl,hw'⟩; subst w') | (go_at_call 88; refine (hix.out _).mono ?_; rintro e w' ⟨rfl,hw'⟩; subst w') | (refine wpList_load_row rfl 112 _ rfl T rfl 112 _ _ _ hTq.out Tryz.underlying112 rfl tokInfo ?_))
    refine (fail_any N C s st ts f v v w0 _ 3 2 ⟨#[]⟩ st.line st.col hSq.out).mono ?_
    rintro e w3 ⟨rfl,h3⟩
    have h3H:=Hid.mk h3
    clear h3
    go_wp2_with (fail)
    go_ret
    rw [← hRH.out]
    exact ⟨rfl,_,_,h3H.out⟩
end Go.Proofs.YtmenpmbgennhoaaGreatDoor

namespace Go.Proofs.YtmenpmbgennhoaaGreatDoor
open Go.RowKit
theorem results_tc_row {P:Program} {fn:Func} {p u:Tmp} {ty:TypeId} (h:fn.results=#[.tmp u,.cell p ty]) (tmps:Array Value) (w:World) (g:Nat) (t:TypeId) (cs:Array Value) (fr:Nat × Nat) (d:TypeDesc)
  (hp:tmps.getD p undef= .pointer (some ⟨g,0,none⟩)) (hg:w.heap[g]?=some (.cells cs t fr))
  (hu:P.underlying ty=some d) (hd:(match d with | .struct _ | .array _ _=>true | _=>false)=true) (hi:(P.info? ty).map (·.size)=some cs.size) :
  (results fn tmps).run P w= .ok (.tuple #[tmps.getD u undef,.agg cs]) w:=by
 have hp':tmps[p]?.getD undef= .pointer (some ⟨g,0,none⟩):=by simpa using hp
 simp [results,h,hp',asAddr,run_loadVar_row w g t ty cs fr d hg hu hd hi,Result.andThen]
theorem ownsRow_base' {w:World} {base base':Nat} {e:TypeId} {size n:Nat} {v:Value} {xs:List Value} (h:w.ownsRow base e size v n xs) (hb:base'≤base):w.ownsRow base' e size v n xs:=by
 obtain ⟨h1,h2⟩:=h
 refine ⟨h1,?_⟩
 rcases h2 with h2 | ⟨g,cap,cur,rfl,hg',hh,k⟩
 ·exact .inl h2
 ·exact .inr ⟨g,cap,cur,rfl,Nat.le_trans hb hg',hh,k⟩
theorem endedT_at {st l cl x t st2} (h:endedT st l cl x= .ok t st2):st2=st:=by
 unfold endedT at h
 split at h
 ·cases h
 ·split at h
  ·cases h
  ·cases h; rfl
theorem litL_at (s:ByteArray) (q l cl:Nat) (st:Sc) (out:List Int) {t st2} (h:litL s q l cl st out= .ok t st2):st.at_ < st2.at_:=by
 rw [litL.eq_def] at h
 split at h
 ·rename_i hlt
  split at h
  ·rw [endedT_at h,stepS_at]; omega
  ·split at h
   ·have h1:=(escS_at s (stepS s st)).1
    rw [stepS_at] at h1
    split at h
    ·have:=litL_at _ _ _ _ _ _ h
     omega
    ·cases h
   ·split at h
    ·cases h
    ·have:=litL_at _ _ _ _ _ _ h
     rw [stepS_at] at this
     omega
 ·cases h
termination_by s.size - st.at_
decreasing_by
 all_goals first
 | (rw [stepS_at]; omega)
 | (have:=(escS_at s (stepS s st)).1
    rw [stepS_at] at this
    omega)
theorem tokT_at (s:ByteArray) (st:Sc) (hlt:st.at_ < s.size) {t st2} (h:tokT s st= .ok t st2):st.at_ < st2.at_:=by
 unfold tokT at h
 split at h
 ·rename_i hl
  unfold nameT at h
  split at h
  ·cases h
  ·cases h
   rw [nameL.eq_def,if_pos hlt,if_pos (by unfold nameN; rw [hl]; rfl)]
   have:=nameL_le s (stepS s st)
   rw [stepS_at] at this
   omega
 ·split at h
  ·have:=litL_at _ _ _ _ _ _ h
   rw [stepS_at] at this
   omega
  ·split at h
   ·cases h; rw [stepS_at]; omega
   ·cases h
theorem skipS_le (s:ByteArray) (st:Sc):st.at_≤(skipS s st).at_:=by
 rw [skipS.eq_def]
 split
 ·split
  ·have h1:=skipC_le s (stepS s st)
   rw [stepS_at] at h1
   have:=skipS_le s (skipC s (stepS s st))
   omega
  ·split
   ·have:=skipS_le s (stepS s st)
    rw [stepS_at] at this
    omega
   ·exact Nat.le_refl _
 ·exact Nat.le_refl _
termination_by s.size - st.at_
decreasing_by
 all_goals first
 | (rw [stepS_at]; omega)
 | (have:=skipC_le s (stepS s st)
    rw [stepS_at] at this
    omega)
inductive ScanR where
 | ok (ts:List Tok)
 | bad (f:Flt)
def scanL (s:ByteArray) (st:Sc) (ts:List Tok):ScanR:=
 if h:st.at_ < s.size then
  match _ht:tokT s st with
  | .ok t st2=>scanL s (skipS s st2) (ts++[t])
  | .bad f=> .bad f
 else .ok (ts++[⟨4,⟨#[]⟩,st.line,st.col⟩])
termination_by s.size - st.at_
decreasing_by
 have h1:=tokT_at s st h (by assumption)
 have h2:=skipS_le s st2
 omega
theorem scanL_ok {s:ByteArray} {st st2:Sc} {t:Tok} (ts:List Tok) (h:st.at_ < s.size) (ht:tokT s st= .ok t st2):scanL s st ts=scanL s (skipS s st2) (ts++[t]):=by
 rw [scanL.eq_def,dif_pos h]
 split
 ·rename_i t' st' h'; rw [ht] at h'; cases h'; rfl
 ·rename_i f h'; rw [ht] at h'; cases h'
theorem scanL_bad {s:ByteArray} {st:Sc} {f:Flt} (ts:List Tok) (h:st.at_ < s.size) (ht:tokT s st= .bad f):scanL s st ts= .bad f:=by
 rw [scanL.eq_def,dif_pos h]
 split
 ·rename_i t' st' h'; rw [ht] at h'; cases h'
 ·rename_i f h'; rw [ht] at h'; cases h'; rfl
theorem scanL_end {s:ByteArray} {st:Sc} (ts:List Tok) (h:¬ st.at_ < s.size):scanL s st ts= .ok (ts++[⟨4,⟨#[]⟩,st.line,st.col⟩]):=by
 rw [scanL.eq_def,dif_neg h]
def scanT (s:ByteArray):ScanR:=if 65536 < s.size then .bad ⟨0,0,6⟩ else scanL s (skipS s ⟨0,1,1⟩) []
def fltV (f:Flt):Value:= .agg #[.int .i64 (f.line:Nat),.int .i64 (f.col:Nat),.int .i64 (f.code:Nat)]
def ScanP (w:World) (r:ScanR) (e:Ending) (w':World):Prop:=
 Below w.heap.size w w'∧match r with
 | .ok ts=>∃ v,e= .returned (.tuple #[v,fltV ⟨0,0,0⟩])∧w'.ownsRow w.heap.size 112 4 v ts.length (ts.flatMap tokCells)∧ts.length≤65537
 | .bad f=>e= .returned (.tuple #[.slice none 0 0,fltV f])
set_option maxRecDepth 100000 in
set_option maxHeartbeats 3200000 in
theorem scan_any (s:ByteArray) (w:World):Calls Tryz.prog 29 #[.string s] w fun e w'=>ScanP w (scanT s) e w':=by
 have hm:Tryz.prog.follows .mixedOrders=true:=by kernel_rfl
 obtain ⟨R,hR⟩:∃ R,scanT s=R:=⟨_,rfl⟩
 rw [hR]
 unfold scanT at hR
 obtain ⟨F,hF⟩:∃ F,w.heap.size=F:=⟨_,rfl⟩
 have hFr:=heap_alloc_new w (.cells #[.int .i64 0,.int .i64 0,.int .i64 0] 43)
 have hBF:Below F w (w.alloc (.cells #[.int .i64 0,.int .i64 0,.int .i64 0] 43)):=by rw [← hF]; exact (Below.refl _ w).alloc (Nat.le_refl _) _
 have hFs:(w.alloc (.cells #[.int .i64 0,.int .i64 0,.int .i64 0] 43)).heap.size=F+1:=by simp; omega
 rw [hF] at hFr
 by_cases hbig:65536 < s.size
 ·rw [if_pos hbig] at hR
  have hbi:(65536:Int) < (s.size:Int):=by omega
  go_enter Tryz.func29,Tryz.ntmps29
  go_wp2_with (fail)
  have hne:(w.alloc (.cells #[.int .i64 0,.int .i64 0,.int .i64 6] 43)).heap[F]?=some (.cells #[.int .i64 0,.int .i64 0,.int .i64 6] 43 (0,0)):=by rw [← hF]; exact heap_alloc_new w _
  refine bodyPost_ret (results_tc_row rfl _ _ F _ _ _ _ rfl hne Tryz.underlying43 rfl fltInfo) rfl ?_
  rw [← hR]
  exact ⟨(Below.refl _ w).alloc (Nat.le_refl _) _,rfl⟩
 ·rw [if_neg hbig] at hR
  have hbi:((65536:Int) < (s.size:Int))=False:=eq_false (by omega)
  have hRH:=Hid.mk hR
  generalize hwf:w.alloc (.cells #[.int .i64 0,.int .i64 0,.int .i64 0] 43)=wf at*
  have hBFH:=Hid.mk hBF
  have hFrH:=Hid.mk hFr
  have hS0:ScS (F+1) (F+1) s ⟨0,1,1⟩ [] ⟨0,0,0⟩ (.slice none 0 0) wf (wf.alloc (.cells (scCells s ⟨0,1,1⟩ (.slice none 0 0) ⟨0,0,0⟩) 110)):=by
   refine ⟨by rw [← hFs]; exact heap_alloc_new wf _,⟨by simp,.inl ⟨rfl,rfl⟩⟩,by simp [Value.ownBlock],(Below.refl _ wf).alloc (by omega) _,Nat.le_refl _,by simp; omega,by simp,by omega,by simp,by simp⟩
  have hS0H:=Hid.mk hS0
  clear hR hbig hBF hFr hS0
  go_enter Tryz.func29,Tryz.ntmps29
  go_upto_region 3 with (fail)
  clear hwf
  go_wp2_with (fail)
  refine (skip_any (F+1) (F+1) s ⟨0,1,1⟩ [] ⟨0,0,0⟩ _ wf _ hS0H.out).mono ?_
  rintro e w1 ⟨rfl,hS1⟩
  have hS1H:=Hid.mk hS1
  clear hS1 hS0H
  go_upto_block 0 with (fail)
  go_cut [] (fun wr=>∃ (st':Sc) (ts:List Tok) (f:Flt) (v:Value),ScS (F+1) (F+1) s st' ts f v wf wr∧R= .ok (ts++[⟨4,⟨#[]⟩,st'.line,st'.col⟩])∧ts.length≤st'.at_)
  case first=>as_aux_lemma=>
   go_wp2_with (fail)
   go_loopw [] (fun wr=>∃ (st':Sc) (ts:List Tok) (f:Flt) (v:Value),ScS (F+1) (F+1) s st' ts f v wf wr∧scanL s st' ts=R∧ts.length≤st'.at_) (fun wr=>s.size - atW (F+1) wr)
   case atStart=>exact ⟨_,_,_,_,hS1H.out,hRH.out,Nat.zero_le _⟩
   case round=>
    obtain ⟨st',ts,f,v,h1,h2,h3⟩:=hrel
    have h1H:=Hid.mk h1
    have h2H:=Hid.mk h2
    have hat:=Hid.mk h1.atW
    have hmo:=Hid.mk (more_c h1)
    have hle:=Hid.mk h1.le
    have hsz:=Hid.mk h1.sz
    clear h1 h2 hS1H hRH
    by_cases hlt:st'.at_ < s.size
    ·have hltH:=Hid.mk hlt
     have hmo:=Hid.mk (by simpa [hlt] using hmo.out)
     go_wp2_with (go_at_call 57; refine hmo.out.mono ?_; rintro e wm ⟨rfl,hSm,c0,c1,hOm⟩)
     clear c0 c1 hOm
     refine (token_any (F+1) (F+1) s st' ts f v wf _ hSm (by have:=hle.out; have:=hsz.out; omega) hlt).mono ?_
     intro e wt hP
     clear hSm
     cases htk:tokT s st' with
     | bad f2=>
      rw [htk] at hP
      obtain ⟨rfl,st2,v2,hS2⟩:=hP
      have hRe:=Hid.mk (h2H.out.symm.trans (scanL_bad ts hlt htk))
      have hr2:=hS2.cells
      have c5:wt.cell? ⟨F+1,5,none⟩=some (.int .i64 (f2.line:Nat)):=by simp [World.cell?,hr2,scCells]
      have c6:wt.cell? ⟨F+1,6,none⟩=some (.int .i64 (f2.col:Nat)):=by simp [World.cell?,hr2,scCells]
      have c7:wt.cell? ⟨F+1,7,none⟩=some (.int .i64 (f2.code:Nat)):=by simp [World.cell?,hr2,scCells]
      have hF2:wt.heap[F]?=some (.cells #[.int .i64 0,.int .i64 0,.int .i64 0] 43 (0,0)):=(hS2.blw.block F (by omega)).trans hFrH.out
      have d0:wt.cell? ⟨F,0,none⟩=some (.int .i64 0):=by simp [World.cell?,hF2]
      have d1:wt.cell? ⟨F,1,none⟩=some (.int .i64 0):=by simp [World.cell?,hF2]
      have d2:wt.cell? ⟨F,2,none⟩=some (.int .i64 0):=by simp [World.cell?,hF2]
      have ff:∀ i,wt.frozen? ⟨F,i,none⟩=false:=fun i=>by simp [World.frozen?,hF2]
      have hF2H:=Hid.mk hF2
      have hB2:=Hid.mk hS2.blw
      clear hS2 hr2 hF2 htk hlt
      go_wp2_with (fail)
      go_region
      clear c5 c6 c7 d0 d1 d2 ff
      generalize hw9:World.drew _=w9
      have hr9:Hid (w9.heap[F]?=some (.cells #[.int .i64 (f2.line:Nat),.int .i64 (f2.col:Nat),.int .i64 (f2.code:Nat)] 43 (0,0))):= .mk (by
       subst hw9
       exact (row_set (row_set (row_set hF2H.out))).trans (by simp))
      have hB9:Hid (Below F w w9):= .mk (by
       subst hw9
       refine hBFH.out.trans ((hB2.out.mono (Nat.le_succ F)).trans ((Onl.blw (B:=F) ?_ (Nat.le_refl _) (by have:=hB2.out.size; omega)).drew))
       exact (((Onl.refl F wt).setCell (p:=⟨F,0,none⟩) rfl _).setCell (p:=⟨F,1,none⟩) rfl _).setCell (p:=⟨F,2,none⟩) rfl _)
      go_wp2_with (fail)
      refine bodyPost_ret (results_tc_row rfl _ _ F _ _ _ _ rfl hr9.out Tryz.underlying43 rfl fltInfo) rfl ?_
      rw [hRe.out]
      exact ⟨by rw [hF]; exact hB9.out,rfl⟩
     | ok t st2=>
      rw [htk] at hP
      obtain ⟨rfl,f2,v2,hS2⟩:=hP
      have hRe:=Hid.mk (h2H.out.symm.trans (scanL_ok ts hlt htk))
      have hat2:=Hid.mk (tokT_at s st' hlt htk)
      have hS2:=Hid.mk hS2
      clear htk hlt
      go_wp2_with (fail)
      refine (skip_any (F+1) (F+1) s st2 (ts++[t]) f2 v2 wf _ hS2.out).mono ?_
      rintro e w5 ⟨rfl,hS5⟩
      have hS5:=Hid.mk hS5
      have hsk:=Hid.mk (skipS_le s st2)
      go_wp2_with (fail)
      refine ⟨⟨_,_,_,_,hS5.out,hRe.out.symm,by have:=hsk.out; have:=hat2.out; simp; omega⟩,?_⟩
      rw [hS5.out.atW,hat.out]
      have:=hsk.out
      have:=hat2.out
      have:=hltH.out
      omega
    ·have hRe:=Hid.mk (h2H.out.symm.trans (scanL_end ts hlt))
     have hmo:=Hid.mk (by simpa [hlt] using hmo.out)
     clear hlt
     go_wp2_with (go_at_call 57; refine hmo.out.mono ?_; rintro e wm ⟨rfl,hSm,c0,c1,hOm⟩)
     go_meet
     exact ⟨st',ts,f,v,hSm,hRe.out,h3⟩
  case rest=>as_aux_lemma=>
   obtain ⟨st',ts,f,v,hS,hRe,hlen⟩:=hcut
   have hSH:=Hid.mk hS
   have hReH:=Hid.mk hRe
   have hl:ts.length≤65536:=by have:=hS.le; have:=hS.sz; omega
   clear hS hRe hlen hRH hS1H
   go_wp2_with (fail)
   refine Go.Ev.wp_region_pfe [5,6,7,9,10] 4 (fun u=>u.cell? ⟨F+1,4,none⟩=some v) hm (by kernel_rfl) (by kernel_rfl) (by kernel_rfl) hSH.out.c4 ?_
   iterate 11
    first
    | refine Go.Ev.planF_skip (by rfl) ?_
    | (refine Go.Ev.planF_look (by rfl) _ (by rintro u K c4 hK; go_simp; exact hK _ rfl) ?_; simp only [Act.put,List.setIfInBounds_toArray,List.set_cons_succ,List.set_cons_zero])
   refine Go.Ev.planF_nil ?_
   refine Go.Ev.wpC_step rfl ?_
   rintro _ rfl K hK
   go_wp2_with (fail)
   go_at_call 59
   refine (here_any (F+1) 4 s st' f v wc.drew hSH.out.cells).mono ?_
   rintro e wz ⟨rfl,hBz⟩
   have hSz:=(hSH.out.drewN 1).below hBz
   have hSzH:=Hid.mk hSz
   go_wp2_with (fail)
   refine hK _ _ (fun _=>hSz.c4) ?_
   clear hK K hBz hSz
   simp only [Act.put,List.setIfInBounds_toArray,List.set_cons_succ,List.set_cons_zero]
   refine Go.Ev.wpC_step rfl ?_
   rintro _ rfl K hK
   refine wp_build_tok _ rfl _ _ _ _ rfl ?_
   have hC2:=hSzH.out.clt
   refine hK _ _ (fun _=> ?_) ?_
   ·have:(wz.alloc (.cells #[.int .i64 4,.string ⟨#[]⟩,.int .i64 (st'.line:Nat),.int .i64 (st'.col:Nat)] 112)).heap[F+1]?=some (.cells (scCells s st' v f) 110 (0,0)):=(Go.heap_alloc_old wz _ hC2).trans hSzH.out.cells
    simp [World.cell?,this,scCells]
   clear hK K
   simp only [Act.put,List.setIfInBounds_toArray,List.set_cons_succ,List.set_cons_zero]
   refine Go.Ev.wpC_step rfl ?_
   rintro _ rfl K hK
   refine wp_append_tok _ _ rfl (F+1) v ts rfl (ownsRow_sm hSzH.out.own (fun g hg=>Go.heap_alloc_old wz _ (hSzH.out.own.lt g hg).2)) ⟨4,⟨#[]⟩,st'.line,st'.col⟩ wz.heap.size rfl (heap_alloc_new wz _) hl (by have:=hSzH.out.ns; simp; omega) ?_
   rintro _ w3 hown hgrow ⟨vp,vc,rfl⟩
   have hP3:=(hSzH.out.pushed hown hgrow)
   have hP3H:=Hid.mk hP3
   have hcells:=hP3.cells
   refine hK _ _ (fun _=>by simp [World.cell?,hcells,scCells]) ?_
   clear hK K hP3 hown hgrow
   simp only [Act.put,List.setIfInBounds_toArray,List.set_cons_succ,List.set_cons_zero]
   refine Go.Ev.wpC_step rfl ?_
   rintro _ rfl K hK
   go_simp
   refine hK _ _ (fun _=>by simp [World.cell?,hcells,scCells]) ?_
   clear hK K hcells
   simp only [Act.put,List.setIfInBounds_toArray,List.set_cons_succ,List.set_cons_zero]
   refine Go.Ev.wpC_step rfl ?_
   rintro _ rfl K hK
   have hF2:w3.heap[F]?=some (.cells #[.int .i64 0,.int .i64 0,.int .i64 0] 43 (0,0)):=(hP3H.out.blw.block F (by omega)).trans hFrH.out
   refine wp_store_row 43 _ _ rfl F #[.int .i64 0,.int .i64 0,.int .i64 0] rfl rfl 43 _ hF2 fltInfo rfl (by simp [Value.oneCell']) ?_
   refine hK undef _ (fun h=>absurd h (by decide)) ?_
   clear hK K
   refine Go.Ev.wpC_end ?_
   rintro _ rfl
   have hown:=hP3H.out.own
   have hnF:∀ g,(Value.slice vp (ts.length+1) vc).ownBlock=some g→g≠F:=fun g hg=>(by have:=(hown.lt g hg).1; omega)
   have hfin:(w3.setRow F #[.int .i64 0,.int .i64 0,.int .i64 0]).ownsRow F 112 4 (Value.slice vp (ts.length+1) vc) (ts++[(⟨4,⟨#[]⟩,st'.line,st'.col⟩:Tok)]).length ((ts++[(⟨4,⟨#[]⟩,st'.line,st'.col⟩:Tok)]).flatMap tokCells):=
    ownsRow_base' (ownsRow_sm hown (fun g hg=>setRow_other _ _ _ _ (hnF g hg))) (Nat.le_succ F)
   have hr9:(w3.setRow F #[.int .i64 0,.int .i64 0,.int .i64 0]).heap[F]?=some (.cells #[.int .i64 0,.int .i64 0,.int .i64 0] 43 (0,0)):=setRow_heap _ _ _ _ _ _ hF2
   have hB9:Below F w (w3.setRow F #[.int .i64 0,.int .i64 0,.int .i64 0]):=setRow_low (hBFH.out.trans (hP3H.out.blw.mono (Nat.le_succ F))) F _ (Nat.le_refl F)
   have hall:=Hid.mk (show _∧_∧_ from ⟨hfin,hr9,hB9⟩)
   clear hfin hr9 hB9 hF2 hown hnF
   go_wp2_with (fail)
   refine bodyPost_ret (results_tc_row rfl _ _ F _ _ _ _ rfl hall.out.2.1 Tryz.underlying43 rfl fltInfo) rfl ?_
   rw [hReH.out]
   exact ⟨by rw [hF]; exact hall.out.2.2,_,rfl,by rw [hF]; exact hall.out.1,by simp; omega⟩
end Go.Proofs.YtmenpmbgennhoaaGreatDoor
