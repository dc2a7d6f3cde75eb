/- lex.Quote: a terminal's bytes between quotes. strings.Builder within format's writer. strings.Builder within format's writer: bytes and strings are written. -/
import Derived.Test.YtmenpmbgennhoaaGreatDoorRef
import Derived.Test.YtmenpmbgennhoaaGreatDoorMka
import Derived.Lib.Builder
import Derived.Lib.UnsafeStr
import Derived.Laws.Externs
namespace Go.Proofs.YtmenpmbgennhoaaGreatDoor
open Go.RowKit
def hexB (n:Nat):Int:=if n < 10 then (48+n:Nat) else (87+n:Nat)
def qByte (q b:Nat):List Int:=
 if b=q∨b=92 then [92,(b:Int)] else if b=10 then [92,110] else if b=9 then [92,116] else if b < 32∨126 < b then [92,120,hexB (b / 16),hexB (b % 16)] else [(b:Int)]
def qPre (s:ByteArray) (q:Nat):Nat→List Int
 | 0=>[(q:Int)]
 | i+1=>qPre s q i++qByte q (by_ s i)
def quoteC (s:ByteArray):Nat:=if Lib.countByte s.data.toList 34 < Lib.countByte s.data.toList 39 then 34 else 39
def quoteT (s:ByteArray):ByteArray:=strOfNums (qPre s (quoteC s) s.size++[(quoteC s:Int)])
theorem qByte_le (q b:Nat):(qByte q b).length≤4:=by
 unfold qByte
 split
 ·simp
 ·split
  ·simp
  ·split
   ·simp
   ·split <;> simp
theorem qPre_le (s:ByteArray) (q:Nat):∀ i,(qPre s q i).length≤4*i+1
 | 0=>by simp [qPre]
 | i+1=>by
  have:=qPre_le s q i
  have:=qByte_le q (by_ s i)
  rw [qPre,List.length_append]
  omega
theorem fillb2 (a b:Int):Instr.fill (fun i=>some (i*1,1)) ((Array.range (2*1)).map ((Value.int .u8 0).cells[· % (Value.int .u8 0).cells.size]!)) [(0,bv a),(1,bv b)]=some #[bv a,bv b]:=by
 have h:((Array.range (2*1)).map ((Value.int .u8 0).cells[· % (Value.int .u8 0).cells.size]!))=#[.int .u8 0,.int .u8 0]:=by kernel_rfl
 rw [h]
 simp [Instr.fill,Value.cells,bv]
theorem fillb4 (a b c d:Int):Instr.fill (fun i=>some (i*1,1)) ((Array.range (4*1)).map ((Value.int .u8 0).cells[· % (Value.int .u8 0).cells.size]!)) [(0,bv a),(1,bv b),(2,bv c),(3,bv d)]=some #[bv a,bv b,bv c,bv d]:=by
 have h:((Array.range (4*1)).map ((Value.int .u8 0).cells[· % (Value.int .u8 0).cells.size]!))=#[.int .u8 0,.int .u8 0,.int .u8 0,.int .u8 0]:=by kernel_rfl
 rw [h]
 simp [Instr.fill,Value.cells,bv]
theorem wp_build_b2 {o:Oper} {a:Act} {w:World} {K:Act→World→Prop} {Q:Exit→Act→World→Prop} (x y:Operand) (ho:o.op= .buildSlice 125 2 #[(0,x),(1,y)]) (u v:Int) (hx:a.eval x=bv u) (hy:a.eval y=bv v)
  (h:K (a.put o.dst (.slice (some ⟨w.heap.size,0,none⟩) 2 2)) (w.alloc (.cells #[bv u,bv v] 5))):o.wp Tryz.prog a w K Q:=by
 obtain ⟨i0,hi,hz0,hz1,hz2⟩:=info_parts u8Info
 refine wp_buildSlice _ _ 2 _ ho #[bv u,bv v] i0 _ Tryz.underlying125 hi hz0 (by rw [hz1]; decide) (by rw [hz1]; decide) ?_ h
 rw [hz1]
 simpa [hx,hy] using fillb2 u v
theorem wp_build_b4 {o:Oper} {a:Act} {w:World} {K:Act→World→Prop} {Q:Exit→Act→World→Prop} (x y z t:Operand) (ho:o.op= .buildSlice 125 4 #[(0,x),(1,y),(2,z),(3,t)]) (u v m n:Int) (hx:a.eval x=bv u) (hy:a.eval y=bv v) (hz:a.eval z=bv m) (ht:a.eval t=bv n)
  (h:K (a.put o.dst (.slice (some ⟨w.heap.size,0,none⟩) 4 4)) (w.alloc (.cells #[bv u,bv v,bv m,bv n] 5))):o.wp Tryz.prog a w K Q:=by
 obtain ⟨i0,hi,hz0,hz1,hz2⟩:=info_parts u8Info
 refine wp_buildSlice _ _ 4 _ ho #[bv u,bv v,bv m,bv n] i0 _ Tryz.underlying125 hi hz0 (by rw [hz1]; decide) (by rw [hz1]; decide) ?_ h
 rw [hz1]
 simpa [hx,hy,hz,ht] using fillb4 u v m n
theorem wp_app_bytes {o:Oper} {a:Act} {w:World} {K:Act→World→Prop} {Q:Exit→Act→World→Prop} (s x:Operand)
  (ho:o.op= .call { callee:= .builtin .append,args:=#[s,x],argTypes:=#[125,125] }) (N:Nat) (zs:List Int) (w1:World) (hw:w=w1.alloc (.cells (zs.map bv).toArray 5)) (v:Value) (l:List Int) (hs:a.eval s=v) (h:Out N v l w1)
  (hx:a.eval x= .slice (some ⟨w1.heap.size,0,none⟩) zs.length zs.length) (hl:l.length≤1000000000) (hz:zs.length≤100)
  (hk:∀ v' w',Out N v' (l++zs) w'→w1.grownBy w' v.ownBlock→K (a.put o.dst v') w'):o.wp Tryz.prog a w K Q:=by
 subst hw
 obtain ⟨i0,hi,hz0,hz1,hz2⟩:=info_parts u8Info
 refine wp_append_own (P:=Tryz.prog) _ s x 125 ho N 5 i0 (.int .u8 0) 1 1 Tryz.underlying125 hi hz0 hz1 hz2 rfl (by decide) v l.length _ hs (h.own.alloc _) ⟨w1.heap.size,0,none⟩ zs.length zs.length (zs.map bv) hx (by simp) ?_ ?_ (by unfold maxLen; omega) (by omega) (by have:=h.ns; simp; omega) ?_
 ·intro j u hj
  have:(w1.alloc (.cells (zs.map bv).toArray 5)).cell? ⟨w1.heap.size,j,none⟩=(zs.map bv).toArray[j]?:=cell_of_row _ _ _ _ _ _ (heap_alloc_new w1 _)
  rw [Addr.add_lit,Nat.zero_add,this]
  simpa using hj
 ·intro u hu
  simp only [List.mem_map] at hu
  obtain ⟨z,_,rfl⟩:=hu
  rfl
 ·intro v' w' hown' hgrow _
  exact hk v' w' (h.app (xs:=zs) hown' hgrow) ((World.grownBy_alloc w1 _ v.ownBlock).trans hgrow)
theorem wpList_app_bytes {ops:Array Oper} {rest:List Oper} {o:Oper} {a:Act} {w:World} {Q:Exit→Act→World→Prop} (hgd:o.guard=none) (s x:Operand)
  (ho:o.op= .call { callee:= .builtin .append,args:=#[s,x],argTypes:=#[125,125] }) (N:Nat) (zs:List Int) (w1:World) (hw:w=w1.alloc (.cells (zs.map bv).toArray 5)) (v:Value) (l:List Int) (hs:a.eval s=v) (h:Out N v l w1)
  (hx:a.eval x= .slice (some ⟨w1.heap.size,0,none⟩) zs.length zs.length) (hl:l.length≤1000000000) (hz:zs.length≤100)
  (hk:∀ v' w',Out N v' (l++zs) w'→w1.grownBy w' v.ownBlock→wpList Tryz.prog ops Q rest (a.put o.dst v') w'):wpList Tryz.prog ops Q (o::rest) a w:=
 wpList_plain hgd fun _ hK=>wp_app_bytes s x ho N zs w1 hw v l hs h hx hl hz fun v' w' h1 h2=>hK _ _ (hk v' w' h1 h2)
theorem hexW:∀ n:Fin 16,(((⟨#[48,49,50,51,52,53,54,55,56,57,97,98,99,100,101,102]⟩:ByteArray)[n.val]'(n.isLt)).toNat:Int)=hexB n.val:=by decide
theorem hexW2 (z:Int) (n:Nat) (hz:z.toNat=n) (hn:n < 16) (h:z.toNat < (⟨#[48,49,50,51,52,53,54,55,56,57,97,98,99,100,101,102]⟩:ByteArray).size):(((⟨#[48,49,50,51,52,53,54,55,56,57,97,98,99,100,101,102]⟩:ByteArray)[z.toNat]'h).toNat:Int)=hexB n:=by
 subst hz
 exact hexW ⟨z.toNat,hn⟩
theorem and15_all:((List.range 256).all fun b=>bits BinOp.and IntKind.u8 (b:Int) 15==((b % 16:Nat):Int))=true:=by kernel_rfl
theorem and15 (b:Nat) (h:b < 256):bits BinOp.and IntKind.u8 (b:Int) 15=((b % 16:Nat):Int):=by
 have:=List.all_eq_true.1 and15_all b (by simpa using h)
 simpa using this
theorem grown_of_drew {w w':World} {r:Option Nat} (h:w.drew.grownBy w' r):w.grownBy w' r:=by
 have h1:=World.grownBy.os h
 have h2:=World.grownBy.tape h
 have h3:=World.grownBy.output h
 have h4:=World.grownBy.size h
 have h5:=fun i a b=>World.grownBy.block h i a b
 exact ⟨h1,h2,h3,h4,h5⟩
theorem Out.one {N:Nat} {w:World} (q:Int) (h:N≤w.heap.size):Out N (.slice (some ⟨w.heap.size,0,none⟩) 1 1) [q] (w.alloc (.cells #[bv q] 5)):=
 ⟨⟨by simp,.inr ⟨w.heap.size,1,#[bv q],rfl,h,heap_alloc_new w _,Nat.le_refl _,by unfold maxLen; omega,rfl,by simp⟩⟩,by simp; omega⟩
set_option maxRecDepth 100000 in
set_option maxHeartbeats 3200000 in
theorem quote_any (s:ByteArray) (hs:s.size≤65536) (w:World):Calls Tryz.prog 95 #[.string s] w fun e w'=>e= .returned (.string (quoteT s))∧Below w.heap.size w w':=by
 have hm:Tryz.prog.follows .mixedOrders=true:=rfl
 have hc1:=Hid.mk (fun w=>Tryz.strings_Count_one s 39 w)
 have hc2:=Hid.mk (fun w=>Tryz.strings_Count_one s 34 w)
 obtain ⟨q,hq⟩:∃ q,quoteC s=q:=⟨_,rfl⟩
 obtain ⟨T,hT⟩:∃ T,quoteT s=T:=⟨_,rfl⟩
 rw [hT]
 unfold quoteT at hT
 rw [hq] at hT
 unfold quoteC at hq
 have hTH:=Hid.mk hT
 have hqH:=Hid.mk hq
 clear hT hq
 generalize hn1:Lib.countByte s.data.toList 39=n1 at hc1 hqH
 generalize hn2:Lib.countByte s.data.toList 34=n2 at hc2 hqH
 clear hn1 hn2
 go_enter Tryz.func95,Tryz.ntmps95
 go_wp2_with (fail)
 refine (hc1.out _).mono ?_
 rintro e w' ⟨rfl,hw'⟩
 subst w'
 go_wp2_with (fail)
 refine (hc2.out _).mono ?_
 rintro e w' ⟨rfl,hw'⟩
 subst w'
 go_upto_if 11 with (fail)
 go_cut [3] (fun y wc=>y= .int .u8 (q:Nat)∧wc=w)
 case first=>
  have hqe:=hqH.out
  by_cases h:n2 < n1
  ·rw [if_pos h] at hqe
   have hqH:=Hid.mk hqe
   clear hqe
   go_wp2_with (fail)
   go_meet
   exact ⟨by rw [← hqH.out]; rfl,rfl⟩
  ·rw [if_neg h] at hqe
   have hqH:=Hid.mk hqe
   have h:=Hid.mk h
   have hI:(n2 < n1)=False:=eq_false h.out
   clear hqe
   go_wp2_with (fail)
   go_meet
   exact ⟨by rw [← hqH.out]; rfl,rfl⟩
 case rest=>
  obtain ⟨rfl,rfl⟩:=hcut
  have hO1:=Out.one (N:=wc.heap.size) (w:=wc) ((q:Nat):Int) (Nat.le_refl _)
  have hB1:Below wc.heap.size wc (wc.alloc (.cells #[bv ((q:Nat):Int)] 5)):=(Below.refl _ wc).alloc (Nat.le_refl _) _
  unfold bv at hO1 hB1
  obtain ⟨N,hN⟩:∃ N,wc.heap.size=N:=⟨_,rfl⟩
  rw [hN] at hO1 hB1
  have hq39:q=34∨q=39:=by have:=hqH.out; split at this <;> omega
  clear hc1 hc2
  have hsH:=Hid.mk hs
  have hq39H:=Hid.mk hq39
  clear hs hq39
  go_upto_block 0 with (fail)
  generalize wc.alloc (.cells #[.int .u8 ((q:Nat):Int)] 5)=w1 at hO1 hB1 ⊢
  have hO1H:=Hid.mk hO1
  have hB1H:=Hid.mk hB1
  have hNH:=Hid.mk hN
  clear hO1 hB1 hN
  go_wp2_with (fail)
  go_loopw [4,16] (fun u y wr=>∃ i:Nat,y= .int .i64 (i:Nat)∧i≤s.size∧Out N u (qPre s q i) wr∧Below N wc wr) (fun _ y _=>s.size - (intOf y).toNat)
  case atStart=>exact ⟨0,rfl,Nat.zero_le _,hO1H.out,hB1H.out⟩
  case round=>
   obtain ⟨i,rfl,hi,hO,hB⟩:=hrel
   obtain ⟨vp,vc,rfl⟩:=hO.slice
   have hlen:=qPre_le s q i
   by_cases hlt:i < s.size
   ·have hiI:(i:Int) < (s.size:Int):=by omega
    have hib:(i:Int) < 9223372036854775807:=by have:=hsH.out; omega
    have hb:=by_is s i hlt
    obtain ⟨l,hl⟩:∃ l,qPre s q i=l:=⟨_,rfl⟩
    have hsucc:=Hid.mk (show qPre s q (i+1)=l++qByte q (by_ s i) by rw [qPre,hl])
    rw [hl] at hO hlen ⊢
    have hb256:by_ s i < 256:=by rw [← hb]; exact UInt8.toNat_lt _
    have hlenH:=Hid.mk (show l.length≤1000000000 by have:=hsH.out; omega)
    have hltH:=Hid.mk hlt
    have hOH:=Hid.mk hO
    have hBH:=Hid.mk hB
    have hNw:=Hid.mk hO.ns
    clear hl hO hB hlen hi
    generalize by_ s i=b at*
    have hb256H:=Hid.mk hb256
    clear hb256
    go_upto_block 1 with (fail)
    go_cut [4] (fun u wd=>Out N u (l++qByte q b) wd∧Below N wc wd)
    case first=>
     have hfin:∀ (zs:List Int) (v':Value) (w':World),qByte q b=zs→Out N v' (l++zs) w'→wr.grownBy w' (Value.slice vp l.length vc).ownBlock→Out N v' (l++qByte q b) w'∧Below N wc w':=fun zs v' w' h1 h2 h3=>⟨by rw [h1]; exact h2,hBH.out.grown h3 hNw.out (fun j hj=>(hOH.out.own.lt j hj).1)⟩
     have hfinH:=Hid.mk hfin
     clear hfin
     by_cases h1:b=q∨b=92
     ·have hz:qByte q b=[92,(b:Int)]:=by unfold qByte; rw [if_pos h1]
      have hzH:=Hid.mk hz
      clear hz
      by_cases h2:b=q
      ·subst h2
       clear h1
       go_wp2_with (first | (refine wpList_plain rfl fun _ hK=>wp_build_b2 _ _ rfl 92 (b:Int) rfl rfl (hK _ _ ?_)) | (at_builtin; refine wpList_app_bytes rfl _ _ rfl N [92,(b:Int)] wr rfl _ l rfl hOH.out rfl hlenH.out (by simp) ?_; intro v' w' hv' hg'))
       go_meet
       exact hfinH.out _ _ _ hzH.out hv' hg'
      ·have e1:(((b:Nat):Int)==((q:Nat):Int))=false:=beq_ne (by omega)
       have e2:(((b:Nat):Int)==92)=true:=by simp; omega
       clear h1 h2
       go_wp2_with (first | (refine wpList_plain rfl fun _ hK=>wp_build_b2 _ _ rfl 92 (b:Int) rfl rfl (hK _ _ ?_)) | (at_builtin; refine wpList_app_bytes rfl _ _ rfl N [92,(b:Int)] wr rfl _ l rfl hOH.out rfl hlenH.out (by simp) ?_; intro v' w' hv' hg'))
       go_meet
       exact hfinH.out _ _ _ hzH.out hv' hg'
     ·have hbq:(((b:Nat):Int)==((q:Nat):Int))=false:=beq_ne (by omega)
      have hb92:(((b:Nat):Int)==92)=false:=beq_ne (by omega)
      by_cases h10:b=10
      ·have hz:qByte q b=[92,110]:=by unfold qByte; rw [if_neg h1,if_pos h10]
       have hzH:=Hid.mk hz
       have e1:(((b:Nat):Int)==10)=true:=by simp; omega
       clear hz h1 h10
       go_wp2_with (first | (refine wpList_plain rfl fun _ hK=>wp_build_b2 _ _ rfl 92 110 rfl rfl (hK _ _ ?_)) | (at_builtin; refine wpList_app_bytes rfl _ _ rfl N [92,110] wr rfl _ l rfl hOH.out rfl hlenH.out (by simp) ?_; intro v' w' hv' hg'))
       go_meet
       exact hfinH.out _ _ _ hzH.out hv' hg'
      ·have e10:(((b:Nat):Int)==10)=false:=beq_ne (by omega)
       by_cases h9:b=9
       ·have hz:qByte q b=[92,116]:=by unfold qByte; rw [if_neg h1,if_neg h10,if_pos h9]
        have hzH:=Hid.mk hz
        have e1:(((b:Nat):Int)==9)=true:=by simp; omega
        clear hz h1 h10 h9
        go_wp2_with (first | (refine wpList_plain rfl fun _ hK=>wp_build_b2 _ _ rfl 92 116 rfl rfl (hK _ _ ?_)) | (at_builtin; refine wpList_app_bytes rfl _ _ rfl N [92,116] wr rfl _ l rfl hOH.out rfl hlenH.out (by simp) ?_; intro v' w' hv' hg'))
        go_meet
        exact hfinH.out _ _ _ hzH.out hv' hg'
       ·have e9:(((b:Nat):Int)==9)=false:=beq_ne (by omega)
        by_cases hx:b < 32∨126 < b
        ·have hz:qByte q b=[92,120,hexB (b / 16),hexB (b % 16)]:=by unfold qByte; rw [if_neg h1,if_neg h10,if_neg h9,if_pos hx]
         have hzH:=Hid.mk hz
         have hF:∀ (e32:((b:Int) < 32)=True∨(((b:Int) < 32)=False∧((126:Int) < (b:Int))=True)),True:=fun _=>trivial
         clear hF
         by_cases h32:b < 32
         ·have e32:(b:Int) < 32:=by omega
          clear hz h1 h10 h9 hx h32
          go_upto_region 17 with (fail)
          go_wp2_with (fail)
          refine Go.Ev.wp_region_pfe [7,8,9] 1 (fun _=>True) hm (by kernel_rfl) (by kernel_rfl) (by kernel_rfl) trivial ?_
          iterate 3
           refine Go.Ev.planF_look (by rfl) _ (by rintro u K f1 hK; go_simp; exact hK _ rfl) ?_
           simp only [Act.put,List.setIfInBounds_toArray,List.set_cons_succ,List.set_cons_zero]
          refine Go.Ev.planF_look (by rfl) (.int .u8 (hexB (b / 16))) (by
           rintro u K f1 hK
           have hlt16:(b:Int) / 16 < 16:=by have:=hb256H.out; omega
           have hge16:0≤(b:Int) / 16:=by omega
           go_simp
           rw [hexW2 _ (b / 16) (by omega) (by have:=hb256H.out; omega)]
           exact hK _ rfl) ?_
          simp only [Act.put,List.setIfInBounds_toArray,List.set_cons_succ,List.set_cons_zero]
          refine Go.Ev.planF_look (by rfl) _ (by rintro u K f1 hK; go_simp; exact hK _ rfl) ?_
          simp only [Act.put,List.setIfInBounds_toArray,List.set_cons_succ,List.set_cons_zero]
          refine Go.Ev.planF_look (by rfl) _ (by rintro u K f1 hK; go_simp; exact hK _ rfl) ?_
          simp only [Act.put,List.setIfInBounds_toArray,List.set_cons_succ,List.set_cons_zero]
          refine Go.Ev.planF_look (by rfl) (.int .u8 (hexB (b % 16))) (by
           rintro u K f1 hK
           have ha:=and15 b hb256H.out
           have hlt16:bits BinOp.and IntKind.u8 (b:Int) 15 < 16:=by rw [ha]; omega
           have hge16:0≤bits BinOp.and IntKind.u8 (b:Int) 15:=by rw [ha]; omega
           have hnt:=Hid.mk (show (bits BinOp.and IntKind.u8 (b:Int) 15).toNat=b % 16 by rw [ha]; omega)
           clear ha
           go_simp
           rw [hexW2 _ (b % 16) hnt.out (by omega)]
           exact hK _ rfl) ?_
          simp only [Act.put,List.setIfInBounds_toArray,List.set_cons_succ,List.set_cons_zero]
          iterate 3
           refine Go.Ev.planF_skip (by rfl) ?_
          refine Go.Ev.planF_nil ?_
          refine Go.Ev.wpC_step rfl ?_
          rintro _ rfl K hK
          refine wp_build_b4 _ _ _ _ rfl 92 120 (hexB (b / 16)) (hexB (b % 16)) rfl rfl rfl rfl ?_
          refine hK _ _ (fun _=>trivial) ?_
          clear hK K
          simp only [Act.put,List.setIfInBounds_toArray,List.set_cons_succ,List.set_cons_zero]
          refine Go.Ev.wpC_step rfl ?_
          rintro _ rfl K hK
          refine wp_app_bytes _ _ rfl N [92,120,hexB (b / 16),hexB (b % 16)] wr.drew rfl (.slice vp l.length vc) l rfl (hOH.out.drewN 1) rfl hlenH.out (by simp) ?_
          intro v' w' hv' hg'
          refine hK _ _ (fun h=>absurd h (by decide)) ?_
          clear hK K
          simp only [Act.put,List.setIfInBounds_toArray,List.set_cons_succ,List.set_cons_zero]
          refine Go.Ev.wpC_step rfl ?_
          rintro _ rfl K hK
          go_simp
          refine hK _ _ (fun h=>absurd h (by decide)) ?_
          clear hK K
          simp only [Act.put,List.setIfInBounds_toArray,List.set_cons_succ,List.set_cons_zero]
          refine Go.Ev.wpC_end ?_
          rintro _ rfl
          go_wp2_with (fail)
          go_meet
          exact hfinH.out _ _ _ hzH.out hv' (grown_of_drew hg')
         ·have e32:((b:Int) < 32)=False:=eq_false (by omega)
          have e126:(126:Int) < (b:Int):=by omega
          clear hz h1 h10 h9 hx h32
          go_upto_region 17 with (fail)
          go_wp2_with (fail)
          refine Go.Ev.wp_region_pfe [7,8,9] 1 (fun _=>True) hm (by kernel_rfl) (by kernel_rfl) (by kernel_rfl) trivial ?_
          iterate 3
           refine Go.Ev.planF_look (by rfl) _ (by rintro u K f1 hK; go_simp; exact hK _ rfl) ?_
           simp only [Act.put,List.setIfInBounds_toArray,List.set_cons_succ,List.set_cons_zero]
          refine Go.Ev.planF_look (by rfl) (.int .u8 (hexB (b / 16))) (by
           rintro u K f1 hK
           have hlt16:(b:Int) / 16 < 16:=by have:=hb256H.out; omega
           have hge16:0≤(b:Int) / 16:=by omega
           go_simp
           rw [hexW2 _ (b / 16) (by omega) (by have:=hb256H.out; omega)]
           exact hK _ rfl) ?_
          simp only [Act.put,List.setIfInBounds_toArray,List.set_cons_succ,List.set_cons_zero]
          refine Go.Ev.planF_look (by rfl) _ (by rintro u K f1 hK; go_simp; exact hK _ rfl) ?_
          simp only [Act.put,List.setIfInBounds_toArray,List.set_cons_succ,List.set_cons_zero]
          refine Go.Ev.planF_look (by rfl) _ (by rintro u K f1 hK; go_simp; exact hK _ rfl) ?_
          simp only [Act.put,List.setIfInBounds_toArray,List.set_cons_succ,List.set_cons_zero]
          refine Go.Ev.planF_look (by rfl) (.int .u8 (hexB (b % 16))) (by
           rintro u K f1 hK
           have ha:=and15 b hb256H.out
           have hlt16:bits BinOp.and IntKind.u8 (b:Int) 15 < 16:=by rw [ha]; omega
           have hge16:0≤bits BinOp.and IntKind.u8 (b:Int) 15:=by rw [ha]; omega
           have hnt:=Hid.mk (show (bits BinOp.and IntKind.u8 (b:Int) 15).toNat=b % 16 by rw [ha]; omega)
           clear ha
           go_simp
           rw [hexW2 _ (b % 16) hnt.out (by omega)]
           exact hK _ rfl) ?_
          simp only [Act.put,List.setIfInBounds_toArray,List.set_cons_succ,List.set_cons_zero]
          iterate 3
           refine Go.Ev.planF_skip (by rfl) ?_
          refine Go.Ev.planF_nil ?_
          refine Go.Ev.wpC_step rfl ?_
          rintro _ rfl K hK
          refine wp_build_b4 _ _ _ _ rfl 92 120 (hexB (b / 16)) (hexB (b % 16)) rfl rfl rfl rfl ?_
          refine hK _ _ (fun _=>trivial) ?_
          clear hK K
          simp only [Act.put,List.setIfInBounds_toArray,List.set_cons_succ,List.set_cons_zero]
          refine Go.Ev.wpC_step rfl ?_
          rintro _ rfl K hK
          refine wp_app_bytes _ _ rfl N [92,120,hexB (b / 16),hexB (b % 16)] wr.drew rfl (.slice vp l.length vc) l rfl (hOH.out.drewN 1) rfl hlenH.out (by simp) ?_
          intro v' w' hv' hg'
          refine hK _ _ (fun h=>absurd h (by decide)) ?_
          clear hK K
          simp only [Act.put,List.setIfInBounds_toArray,List.set_cons_succ,List.set_cons_zero]
          refine Go.Ev.wpC_step rfl ?_
          rintro _ rfl K hK
          go_simp
          refine hK _ _ (fun h=>absurd h (by decide)) ?_
          clear hK K
          simp only [Act.put,List.setIfInBounds_toArray,List.set_cons_succ,List.set_cons_zero]
          refine Go.Ev.wpC_end ?_
          rintro _ rfl
          go_wp2_with (fail)
          go_meet
          exact hfinH.out _ _ _ hzH.out hv' (grown_of_drew hg')
        ·have hz:qByte q b=[(b:Int)]:=by unfold qByte; rw [if_neg h1,if_neg h10,if_neg h9,if_neg hx]
         have hzH:=Hid.mk hz
         have e1:((b:Int) < 32)=False:=eq_false (by omega)
         have e2:((126:Int) < (b:Int))=False:=eq_false (by omega)
         clear hz h1 h10 h9 hx
         go_wp2_with (at_builtin; refine wpList_app_bytes rfl _ _ rfl N [(b:Int)] wr rfl _ l rfl hOH.out rfl hlenH.out (by simp) ?_; intro v' w' hv' hg')
         go_meet
         exact hfinH.out _ _ _ hzH.out hv' hg'
    case rest=>
     obtain ⟨hO,hB⟩:=hcut
     have hall:=Hid.mk (show _∧_ from ⟨hO,hB⟩)
     clear hO hB
     go_wp2_with (fail)
     exact ⟨⟨i+1,by simp,hltH.out,by rw [hsucc.out]; exact hall.out.1,hall.out.2⟩,by have:=hltH.out; simp [intOf]; omega⟩
   ·have hiI:((i:Int) < (s.size:Int))=False:=eq_false (by omega)
    obtain rfl:i=s.size:=by omega
    have hl9:=Hid.mk (show (qPre s q s.size).length≤1000000000 by have:=hsH.out; omega)
    have hOH:=Hid.mk hO
    have hBH:=Hid.mk hB
    have hNw:=Hid.mk hO.ns
    obtain ⟨l,hl⟩:∃ l,qPre s q s.size=l:=⟨_,rfl⟩
    rw [hl] at hOH hl9 hTH ⊢
    clear hO hB hlen hl hlt hi
    go_wp2_with (at_builtin; refine wpList_app_bytes rfl _ _ rfl N [(q:Int)] wr rfl _ l rfl hOH.out rfl hl9.out (by simp) ?_; intro v' w' hv' hg'; have hcv:=conv_any hv')
    go_ret
    have hTe:=hTH.out
    have hNe:=hNH.out
    subst hNe
    refine ⟨by rw [← hTe]; rfl,hBH.out.grown hg' hNw.out (fun j hj=>(hOH.out.own.lt j hj).1)⟩
end Go.Proofs.YtmenpmbgennhoaaGreatDoor

namespace Go.Proofs.YtmenpmbgennhoaaGreatDoor
open Go.RowKit
def BwS (N B:Nat) (l:List Int) (w:World):Prop:=∃ pv v,w.heap[B]?=some (.cells #[pv,v] 129 (0,0))∧(pv= .pointer none∨pv= .pointer (some ⟨B,0,none⟩))∧Out N v l w∧N≤B
def BwU (N B:Nat) (l:List Int) (w:World):Prop:=∃ v,w.heap[B]?=some (.cells #[.pointer (some ⟨B,0,none⟩),v] 129 (0,0))∧Out N v l w∧N≤B
theorem BwU.s {N B:Nat} {l:List Int} {w:World} (h:BwU N B l w):BwS N B l w:=by
 obtain ⟨v,h1,h2,h3⟩:=h
 exact ⟨_,v,h1,.inr rfl,h2,h3⟩
theorem BwS.blw {N B:Nat} {l:List Int} {w w':World} (h:BwS N B l w) (hb:Below w.heap.size w w'):BwS N B l w':=by
 obtain ⟨pv,v,h1,h2,h3,h4⟩:=h
 exact ⟨pv,v,(hb.block B (Array.getElem?_eq_some_iff.1 h1).1).trans h1,h2,h3.below hb,h4⟩
theorem BwS.le {N B:Nat} {l:List Int} {w:World} (h:BwS N B l w):N < w.heap.size:=by
 obtain ⟨pv,v,h1,h2,h3,h4⟩:=h
 have:=(Array.getElem?_eq_some_iff.1 h1).1
 omega
theorem Out.neq {N B t:Nat} {v:Value} {l:List Int} {w:World} {cs:Array Value} (h:Out N v l w) (hB:w.heap[B]?=some (.cells cs t (0,0))) (ht:5≠t):v.ownBlock≠some B:=fun e=>row_ne h.own e hB ht
structure KpW (B:Nat) (w w':World):Prop where
 size:w.heap.size≤w'.heap.size
 blk:∀ g,g < w.heap.size→g≠B→(∀ cs,w.heap[g]?≠some (.cells cs 5 (0,0)))→w'.heap[g]?=w.heap[g]?
theorem KpW.refl (B:Nat) (w:World):KpW B w w:=⟨Nat.le_refl _,fun _ _ _ _=>rfl⟩
theorem KpW.trans {B:Nat} {w1 w2 w3:World} (h:KpW B w1 w2) (k:KpW B w2 w3):KpW B w1 w3:=
 ⟨Nat.le_trans h.size k.size,fun g h1 h2 h3=>(k.blk g (Nat.lt_of_lt_of_le h1 h.size) h2 (fun cs=>by rw [h.blk g h1 h2 h3]; exact h3 cs)).trans (h.blk g h1 h2 h3)⟩
theorem KpW.of {B:Nat} {w w':World} (h:Below w.heap.size w w'):KpW B w w':=⟨h.size,fun g h1 _ _=>h.block g h1⟩
theorem KpW.set {B i:Nat} {w:World} {u:Value}:KpW B w (w.setCell ⟨B,i,none⟩ u):=⟨by simp,fun g _ h2 _=>Below.heap_setCell _ _ _ _ (by simpa using h2)⟩
theorem KpW.row {B g:Nat} {t:TypeId} {cs:Array Value} {w w':World} (h:KpW B w w') (hc:w.heap[g]?=some (.cells cs t (0,0))) (hg:g≠B) (ht:5≠t):w'.heap[g]?=some (.cells cs t (0,0)):=by
 refine (h.blk g (Array.getElem?_eq_some_iff.1 hc).1 hg (fun cs' e=> ?_)).trans hc
 rw [hc] at e
 cases e
 exact ht rfl
theorem KpW.grown {B N:Nat} {w w':World} {v:Value} {l:List Int} (hO:Out N v l w) (h:w.grownBy w' v.ownBlock):KpW B w w':=
 ⟨h.size,fun g h1 _ h3=>h.block g h1 (fun e=>by
  rcases hO.own.2 with ⟨e1,_⟩ | ⟨g1,cap,cur,e1,_,h1',_⟩
  ·rw [e1] at e; cases e
  ·rw [e1] at e; cases e; exact h3 _ h1')⟩
set_option maxRecDepth 100000 in
set_option maxHeartbeats 1600000 in
theorem copyCheck_any (N B:Nat) (l:List Int) (w:World) (h:BwS N B l w) :
  Calls Tryz.prog 94 #[.pointer (some ⟨B,0,none⟩)] w fun e w'=>e= .returned (.tuple #[])∧BwU N B l w'∧Below N w w'∧KpW B w w':=by
 have hj:Tryz.prog.info? 127=some ((Tryz.prog.info? 127).getD default):=by kernel_rfl
 have hjs:((Tryz.prog.info? 127).getD default).size≠0:=by
  have:((Tryz.prog.info? 127).map (·.size))=some 2:=by kernel_rfl
  rw [hj] at this
  simp at this
  rw [this]; decide
 have hlies:liesAt Tryz.prog Tryz.prog.depth 129 (2 / Tryz.prog.cellsOf 129) 0 127 1=true:=by kernel_rfl
 obtain ⟨pv,v,h1,h2,h3,h4⟩:=h
 have hsh:w.shape? B=some (129,2):=by simp [World.shape?,h1]
 have h1H:=Hid.mk h1
 have h3H:=Hid.mk h3
 have h4H:=Hid.mk h4
 rcases h2 with rfl | rfl
 ·have c0:w.cell? ⟨B,0,none⟩=some (.pointer none):=by simp [World.cell?,h1]
  have f0:w.frozen? ⟨B,0,none⟩=false:=by simp [World.frozen?,h1]
  clear h1 h3 h4
  go_enter Tryz.func94,Tryz.ntmps94
  go_wp2
  rw [Lib.run_to_unsafe w ⟨B,0,none⟩ Tryz.underlying124 Tryz.underlying173 hj hjs hsh (Nat.zero_lt_succ 1)]
  simp only [Result.andThen]
  rw [Oper.upon_value]
  go_wp2
  rw [run_callFunc_extern Tryz.func117 (by kernel_rfl) (by kernel_rfl) (by kernel_rfl) (e:=Extern.AbiNoEscape.same) (by kernel_rfl)]
  rw [Lib.run_noEscape]
  simp only [Result.andThen]
  rw [Oper.upon_value]
  go_wp2
  rw [Lib.run_from_unsafe w ⟨B,0,none⟩ Tryz.underlying173 Tryz.underlying124 hj hsh hlies]
  simp only [Result.andThen]
  rw [Oper.upon_value]
  go_wp2
  go_end0
  have hne:=h3H.out.neq h1H.out (by decide)
  refine ⟨rfl,⟨v,(row_set h1H.out).trans (by simp),⟨ownsRow_sm h3H.out.own (fun g hg=>Below.heap_setCell _ _ _ _ (fun e=>hne (by rw [hg]; simpa using e))),by simpa using h3H.out.ns⟩,h4H.out⟩,(Below.refl N w).setCell (p:=⟨B,0,none⟩) h4H.out _,KpW.set⟩
 ·have c0:w.cell? ⟨B,0,none⟩=some (.pointer (some ⟨B,0,none⟩)):=by simp [World.cell?,h1]
  clear h1 h3 h4
  go_enter Tryz.func94,Tryz.ntmps94
  go_wp2
  rw [Lib.run_neq_ptr_same w _ Tryz.underlying124 hj]
  go_wp2
  go_end0
  exact ⟨rfl,⟨v,h1H.out,h3H.out,h4H.out⟩,Below.refl _ _,KpW.refl _ _⟩
end Go.Proofs.YtmenpmbgennhoaaGreatDoor

namespace Go.Proofs.YtmenpmbgennhoaaGreatDoor
open Go.RowKit
def bytesOf (s:ByteArray):List Int:=s.data.toList.map fun b=>(b.toNat:Int)
theorem bytesOf_bv (s:ByteArray):(bytesOf s).map bv=Lib.strCells s:=by
 unfold bytesOf Lib.strCells
 rw [List.map_map]
 rfl
theorem bytesOf_length (s:ByteArray):(bytesOf s).length=s.size:=by
 unfold bytesOf
 rw [List.length_map,Array.length_toList]
 rfl
theorem strOfNums_bytesOf (s:ByteArray):strOfNums (bytesOf s)=s:=by
 unfold strOfNums bytesOf
 rw [List.map_map]
 have:(s.data.toList.map ((fun n:Int=>UInt8.ofNat n.toNat) ∘ fun b:UInt8=>(b.toNat:Int)))=s.data.toList:=by
  conv=>rhs; rw [← List.map_id s.data.toList]
  apply List.map_congr_left
  intro b _
  simp
 rw [this]
theorem bytesOf_app (s t:ByteArray):bytesOf (s++t)=bytesOf s++bytesOf t:=by
 unfold bytesOf
 rw [ByteArray.data_append,Array.toList_append,List.map_append]
theorem BwU.put {N B:Nat} {l l':List Int} {v v':Value} {w1 w2:World} (h1:w1.heap[B]?=some (.cells #[.pointer (some ⟨B,0,none⟩),v] 129 (0,0))) (hne:v.ownBlock≠some B) (hNB:N≤B) (hO:Out N v l w1) (hg:w1.grownBy w2 v.ownBlock) (hO':Out N v' l' w2) :
  BwU N B l' (w2.setCell ⟨B,1,none⟩ v')∧Below N w1 (w2.setCell ⟨B,1,none⟩ v')∧KpW B w1 (w2.setCell ⟨B,1,none⟩ v'):=by
 have hlt:=(Array.getElem?_eq_some_iff.1 h1).1
 have h2:w2.heap[B]?=some (.cells #[.pointer (some ⟨B,0,none⟩),v] 129 (0,0)):=(hg.block B hlt (fun e=>hne e.symm)).trans h1
 have hne2:=hO'.neq h2 (by decide)
 refine ⟨⟨v',(row_set h2).trans (by simp),⟨ownsRow_sm hO'.own (fun g hgg=>Below.heap_setCell _ _ _ _ (fun e=>hne2 (by rw [hgg]; simpa using e))),by simpa using hO'.ns⟩,hNB⟩,?_⟩
 exact ⟨((Below.refl N w1).grown hg hO.ns (fun j hj=>(hO.own.lt j hj).1)).setCell (p:=⟨B,1,none⟩) hNB _,(KpW.grown hO hg).trans KpW.set⟩
set_option maxRecDepth 100000 in
set_option maxHeartbeats 1600000 in
theorem writeByte_any (N B:Nat) (l:List Int) (b:Int) (w:World) (h:BwS N B l w) (hl:l.length≤1000000000) :
  Calls Tryz.prog 96 #[.pointer (some ⟨B,0,none⟩),.int .u8 b] w fun e w'=>e= .returned .nilIface∧BwU N B (l++[b]) w'∧Below N w w'∧KpW B w w':=by
 have hH:=Hid.mk h
 have hlH:=Hid.mk hl
 clear h hl
 go_enter Tryz.func96,Tryz.ntmps96
 go_wp2_with (fail)
 refine (copyCheck_any N B l _ hH.out).mono ?_
 rintro e w1 ⟨rfl,⟨v,hbk,hO,hNB⟩,hb1,hs1⟩
 have hne:=Hid.mk (hO.neq hbk (by decide))
 have c1:w1.cell? ⟨B,1,none⟩=some v:=by simp [World.cell?,hbk]
 have hbkH:=Hid.mk hbk
 have hOH:=Hid.mk hO
 have hNBH:=Hid.mk hNB
 have hb1H:=Hid.mk hb1
 have hs1H:=Hid.mk hs1
 clear hbk hO hNB hb1 hs1
 go_wp2_with (at_builtin; refine wpList_app_bytes rfl _ _ rfl N [b] w1 rfl v l rfl hOH.out rfl hlH.out (by simp) ?_)
 intro v' w2 hO' hgrow
 have hput:=Hid.mk (BwU.put hbkH.out hne.out hNBH.out hOH.out hgrow hO')
 have hlt:=(Array.getElem?_eq_some_iff.1 hbkH.out).1
 have hb2:w2.heap[B]?=some (.cells #[.pointer (some ⟨B,0,none⟩),v] 129 (0,0)):=(hgrow.block B hlt (fun e=>hne.out e.symm)).trans hbkH.out
 have d1:w2.cell? ⟨B,1,none⟩=some v:=by simp [World.cell?,hb2]
 have f1:w2.frozen? ⟨B,1,none⟩=false:=by simp [World.frozen?,hb2]
 obtain ⟨vp,vc,rfl⟩:=hO'.slice
 clear hlt hb2 hgrow hO'
 go_wp2
 go_ret
 have hp:=hput.out
 rw [List.length_append] at hp
 exact ⟨rfl,hp.1,hb1H.out.trans hp.2.1,hs1H.out.trans hp.2.2⟩
set_option maxRecDepth 100000 in
set_option maxHeartbeats 1600000 in
theorem writeString_any (N B:Nat) (l:List Int) (s:ByteArray) (w:World) (h:BwS N B l w) (hl:l.length≤1000000000) (hs:s.size≤1000000000) :
  Calls Tryz.prog 73 #[.pointer (some ⟨B,0,none⟩),.string s] w fun e w'=>e= .returned (.tuple #[.int .i64 s.size,.nilIface])∧BwU N B (l++bytesOf s) w'∧Below N w w'∧KpW B w w':=by
 obtain ⟨i0,hi,hz0,hz1,hz2⟩:=info_parts u8Info
 have hH:=Hid.mk h
 have hlH:=Hid.mk hl
 have hsH:=Hid.mk hs
 clear h hl hs
 go_enter Tryz.func73,Tryz.ntmps73
 go_wp2_with (fail)
 refine (copyCheck_any N B l _ hH.out).mono ?_
 rintro e w1 ⟨rfl,⟨v,hbk,hO,hNB⟩,hb1,hs1⟩
 have hne:=Hid.mk (hO.neq hbk (by decide))
 have c1:w1.cell? ⟨B,1,none⟩=some v:=by simp [World.cell?,hbk]
 have hbkH:=Hid.mk hbk
 have hOH:=Hid.mk hO
 have hNBH:=Hid.mk hNB
 have hb1H:=Hid.mk hb1
 have hs1H:=Hid.mk hs1
 clear hbk hO hNB hb1 hs1
 go_wp2_with (at_builtin; refine Lib.wpList_append_own_string _ rfl _ _ 125 9 rfl N 5 i0 Tryz.underlying125 Tryz.underlying9 hi hz0 hz1 hz2 v l.length _ rfl hOH.out.own s rfl ?c3 ?c4 hOH.out.ns ?_)
 case c3=>have:=hlH.out; have:=hsH.out; unfold maxLen; omega
 case c4=>have:=hlH.out; have:=hsH.out; omega
 intro v' w2 hown' hgrow _
 have hO':Out N v' (l++bytesOf s) w2:=⟨by rw [List.length_append,List.map_append,bytesOf_bv,bytesOf_length]; exact hown',Nat.le_trans hOH.out.ns hgrow.size⟩
 have hput:=Hid.mk (BwU.put hbkH.out hne.out hNBH.out hOH.out hgrow hO')
 have hlt:=(Array.getElem?_eq_some_iff.1 hbkH.out).1
 have hb2:w2.heap[B]?=some (.cells #[.pointer (some ⟨B,0,none⟩),v] 129 (0,0)):=(hgrow.block B hlt (fun e=>hne.out e.symm)).trans hbkH.out
 have d1:w2.cell? ⟨B,1,none⟩=some v:=by simp [World.cell?,hb2]
 have f1:w2.frozen? ⟨B,1,none⟩=false:=by simp [World.frozen?,hb2]
 obtain ⟨vp,vc,rfl⟩:=hO'.slice
 clear hlt hb2 hgrow hO' hown'
 go_wp2
 go_ret2
 have hp:=hput.out
 rw [List.length_append] at hp
 exact ⟨rfl,hp.1,hb1H.out.trans hp.2.1,hs1H.out.trans hp.2.2⟩
theorem nums_of (l:List Int) (hl:∀ z ∈ l,0≤z∧z < 256):∃ l8:List UInt8,l=l8.map fun x=>(x.toNat:Int):=by
 refine ⟨l.map fun z=>UInt8.ofNat z.toNat,?_⟩
 rw [List.map_map]
 conv=>lhs; rw [← List.map_id l]
 apply List.map_congr_left
 intro z hz
 have:=hl z hz
 simp
 omega
theorem string_any (N B:Nat) (l:List Int) (w:World) (h:BwS N B l w) (hb:∀ z ∈ l,0≤z∧z < 256) :
  Calls Tryz.prog 75 #[.pointer (some ⟨B,0,none⟩)] w fun e w'=>e= .returned (.string (strOfNums l))∧Below N w w':=by
 have hm:Tryz.prog.follows .mixedOrders=true:=rfl
 obtain ⟨l8,rfl⟩:=nums_of l hb
 have hstr:strOfNums (l8.map fun x=>(x.toNat:Int))=⟨l8.toArray⟩:=strOfNums_bytesOf ⟨l8.toArray⟩
 rw [hstr]
 have hwlt:=h.le
 obtain ⟨pv,v,hbk,hpv,hO,hNB⟩:=h
 have hbv:(l8.map fun x=>(x.toNat:Int)).map bv=Lib.byteCells l8:=by rw [List.map_map]; rfl
 have hown:=hO.own
 rw [hbv] at hown
 simp only [List.length_map] at hown
 have hlt:=(Array.getElem?_eq_some_iff.1 hbk).1
 have hU:=run_underlying (P:=Tryz.prog) Tryz.underlying155
 rcases hown.2 with ⟨rfl,hz⟩ | ⟨g,cap,cur,rfl,hbg,hg,hnc,hcm,hcs,htake⟩
 ·have hl0:l8=[]:=List.eq_nil_of_length_eq_zero hz
  subst hl0
  have hUS:∀ (W:World) (q:Option Addr),(Builtin.unsafeString_ #[155,3] 9 #[.pointer q,.int .i64 0]).run Tryz.prog W= .ok (.string .empty) W:=fun W q=>Lib.run_unsafeString_none W _ _ _ q
  have c1:w.drew.cell? ⟨B,1,none⟩=some (.slice none 0 0):=by
   have:w.drew.heap[B]?=some (.cells #[pv,.slice none 0 0] 129 (0,0)):=hbk
   rw [Lib.cell_of_heap this]; rfl
  have hSD:(Builtin.unsafeSliceData_ #[125] 155 #[.slice none 0 0]).run Tryz.prog w.drew= .ok (.pointer none) w.drew:=rfl
  clear hown hbk hpv hO hbv hstr
  go_enter Tryz.func75,Tryz.ntmps75
  go_wp2
  go_region_o
  all_goals (go_wp2; go_ret; exact ⟨rfl,Below.drew (Below.refl N w)⟩)
 ·have hshp:w.drew.shape? g=some (5,cur.size):=by have hg':w.drew.heap[g]?=some (.cells cur 5 (0,0)):=hg; simp [World.shape?,hg']
  have c1:w.drew.cell? ⟨B,1,none⟩=some (.slice (some ⟨g,0,none⟩) l8.length cap):=by
   have:w.drew.heap[B]?=some (.cells #[pv,.slice (some ⟨g,0,none⟩) l8.length cap] 129 (0,0)):=hbk
   rw [Lib.cell_of_heap this]; rfl
  by_cases h0:l8=[]
  ·subst h0
   have hUS:∀ (W:World) (q:Option Addr),(Builtin.unsafeString_ #[155,3] 9 #[.pointer q,.int .i64 0]).run Tryz.prog W= .ok (.string .empty) W:=fun W q=>Lib.run_unsafeString_none W _ _ _ q
   simp only [List.length_nil] at c1
   by_cases hc0:cap=0
   ·subst hc0
    have hSD:(Builtin.unsafeSliceData_ #[125] 155 #[.slice (some ⟨g,0,none⟩) 0 0]).run Tryz.prog w.drew= .ok (.pointer (some ⟨w.drew.heap.size,0,none⟩)) (w.drew.alloc (.view ⟨g,0,none⟩ 5)):=
     Lib.run_unsafeSliceData_zero w.drew _ _ 5 Tryz.underlying155 ⟨g,0,none⟩ 0 (5,cur.size) hshp
    have c2:(w.drew.alloc (.view ⟨g,0,none⟩ 5)).cell? ⟨B,1,none⟩=some (.slice (some ⟨g,0,none⟩) 0 0):=by
     have:(w.drew.alloc (.view ⟨g,0,none⟩ 5)).heap[B]?=_:=(Lib.alloc_old w.drew _ B hlt).trans hbk
     rw [Lib.cell_of_heap this]; rfl
    have c3:(w.alloc (.view ⟨g,0,none⟩ 5)).drew.cell? ⟨B,1,none⟩=some (.slice (some ⟨g,0,none⟩) 0 0):=c2
    have c0:w.cell? ⟨B,1,none⟩=some (.slice (some ⟨g,0,none⟩) 0 0):=c1
    clear hown hbk hpv hO hbv hstr hcs htake hnc hcm hg
    go_enter Tryz.func75,Tryz.ntmps75
    go_wp2
    go_region_o
    all_goals (go_wp2; go_ret; exact ⟨rfl,(Below.drew (Below.refl N w)).alloc (by simp; omega) _⟩)
   ·have hSD:(Builtin.unsafeSliceData_ #[125] 155 #[.slice (some ⟨g,0,none⟩) 0 cap]).run Tryz.prog w.drew= .ok (.pointer (some ⟨g,0,none⟩)) w.drew:=
     Lib.run_unsafeSliceData_row _ _ _ _ _ _ hc0
    clear hc0 hown hbk hpv hO hbv hstr hcs htake hnc hcm hg
    go_enter Tryz.func75,Tryz.ntmps75
    go_wp2
    go_region_o
    all_goals (go_wp2; go_ret; exact ⟨rfl,Below.drew (Below.refl N w)⟩)
  ·have hl0:l8.length≠0:=by simpa using h0
   have hSD:(Builtin.unsafeSliceData_ #[125] 155 #[.slice (some ⟨g,0,none⟩) l8.length cap]).run Tryz.prog w.drew= .ok (.pointer (some ⟨g,0,none⟩)) w.drew:=
    Lib.run_unsafeSliceData_row _ _ _ _ _ _ (by omega)
   have hUS:(Builtin.unsafeString_ #[155,3] 9 #[.pointer (some ⟨g,0,none⟩),.int .i64 l8.length]).run Tryz.prog w.drew= .ok (.string ⟨l8.toArray⟩) (w.drew.freeze ⟨g,0,none⟩ l8.length):=by
    refine Lib.run_unsafeString_row w.drew 155 3 9 5 Tryz.underlying155 (by kernel_rfl) g cur.size hshp l8 h0 (by omega) (by unfold maxLen at hcm; omega) ?_
    intro j x hx
    exact hown.cells (g:=g) rfl j (.int .u8 x.toNat) (by simp [Lib.byteCells,hx])
   clear hown hbk hpv hO hbv hstr hcs htake hnc hcm hg h0 hl0
   go_enter Tryz.func75,Tryz.ntmps75
   go_wp2
   go_region_o
   all_goals (go_wp2; go_ret; exact ⟨rfl,Lib.below_freeze (Below.drew (Below.refl N w)) (p:=⟨g,0,none⟩) hbg _⟩)
end Go.Proofs.YtmenpmbgennhoaaGreatDoor
