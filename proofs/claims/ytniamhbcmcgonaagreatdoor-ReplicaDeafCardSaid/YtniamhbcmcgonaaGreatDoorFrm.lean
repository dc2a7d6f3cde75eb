/- frame.Sum: a sum is a function of its text. frame.seal: four bytes of a sum. frame.Wrap and frame.Open. message.Put. -/
import Derived.Test.YtniamhbcmcgonaaGreatDoorOin
import Derived.WalkKit
import Derived.LoopTactic
import Derived.Test.YtniamhbcmcgonaaGreatDoorPln
import Derived.Deep.CutRange
import Derived.Deep.DeepCutAuto
import Derived.Deep.CutBlock
import Derived.Test.YtniamhbcmcgonaaGreatDoorUsd
namespace Go.Proofs.YtniamhbcmcgonaaGreatDoor
open Go.RowKit Go.Ev
def hvs:List Nat:=[0,498536548,997073096,651767980,1994146192,1802195444,1303535960,1342533948,3988292384,4027552580,3604390888,3412177804,2607071920,2262029012,2685067896,3183342108]
theorem hvs_lt:∀ i,i < 16→hvs.getD i 0 < 4294967296:=by decide
def HalvesAt (w:World):Prop:=0 < w.heap.size∧∀ i,i < 16→w.cell? ⟨0,i,none⟩=some (.int .u32 (hvs.getD i 0:Nat))
theorem HalvesAt.below {w w':World} (h:HalvesAt w) (hb:Below w.heap.size w w'):HalvesAt w':=⟨Nat.lt_of_lt_of_le h.1 hb.size,fun i hi=>(hb.cell (by exact h.1)).trans (h.2 i hi)⟩
def half (r:Nat):Nat:=(r / 16) ^^^ hvs.getD (r % 16) 0
def stp (r:Nat) (b:UInt8):Nat:=half (half (r ^^^ b.toNat))
def reg (s:Str):Nat:=s.foldl stp 4294967295
def sumN (s:Str):Nat:=4294967295 ^^^ reg s
theorem xor_lt {a b:Nat} (ha:a < 4294967296) (hb:b < 4294967296):a ^^^ b < 4294967296:=Nat.xor_lt_two_pow (n:=32) ha hb
theorem half_lt {r:Nat} (h:r < 4294967296):half r < 4294967296:=xor_lt (by omega) (hvs_lt _ (by omega))
theorem stp_lt {r:Nat} (h:r < 4294967296) (b:UInt8):stp r b < 4294967296:=half_lt (half_lt (xor_lt h (by have:=b.toNat_lt; omega)))
theorem fold_lt:∀ (s:Str) (r:Nat),r < 4294967296→s.foldl stp r < 4294967296
 | [],_,h=>h
 | b::s,_,h=>fold_lt s _ (stp_lt h b)
theorem reg_lt (s:Str):reg s < 4294967296:=fold_lt s _ (by decide)
theorem reg_snoc (s:Str) (k:Nat) (h:k < s.length):reg (s.take (k+1))=stp (reg (s.take k)) (s.getD k 0):=by
 unfold reg
 rw [List.take_add_one,List.getElem?_eq_getElem h,List.foldl_append,List.getD,List.getElem?_eq_getElem h]
 rfl
theorem sumN_lt (s:Str):sumN s < 4294967296:=xor_lt (by decide) (reg_lt s)
theorem bxor {a b:Nat} (ha:a < 4294967296) (hb:b < 4294967296):bits .xor .u32 (a:Int) (b:Int)=((a ^^^ b:Nat):Int):=by
 have h:(BitVec.ofInt 32 ((a:Nat):Int) ^^^ BitVec.ofInt 32 (b:Int)).toNat=a ^^^ b:=by
  rw [BitVec.toNat_xor,BitVec.toNat_ofInt,BitVec.toNat_ofInt]
  congr 1 <;> omega
 show IntKind.u32.wrap ((BitVec.ofInt 32 ((a:Nat):Int) ^^^ BitVec.ofInt 32 (b:Int)).toNat:Nat)=_
 rw [h]
 have:=xor_lt ha hb
 simp [IntKind.wrap,IntKind.signed,IntKind.bits]
 omega
theorem band15 {a:Nat} (ha:a < 4294967296):bits .and .u32 (a:Int) 15=((a % 16:Nat):Int):=by
 have h:(BitVec.ofInt 32 ((a:Nat):Int) &&& BitVec.ofInt 32 (15:Int)).toNat=a % 16:=by
  rw [BitVec.toNat_and,BitVec.toNat_ofInt,BitVec.toNat_ofInt]
  have e:((a:Int) % ((2 ^ 32:Nat):Int)).toNat=a:=by omega
  have e2:((15:Int) % ((2 ^ 32:Nat):Int)).toNat=2 ^ 4 - 1:=by decide
  rw [e,e2,Nat.and_two_pow_sub_one_eq_mod]
 show IntKind.u32.wrap ((BitVec.ofInt 32 ((a:Nat):Int) &&& BitVec.ofInt 32 (15:Int)).toNat:Nat)=_
 rw [h]
 simp [IntKind.wrap,IntKind.signed,IntKind.bits]
 omega
set_option maxRecDepth 100000 in
set_option maxHeartbeats 3200000 in
theorem sum_any (s:Str) (hs:s.length < 2000000) (w:World) (hh:HalvesAt w):Calls Tryz.prog 93 #[.string (bs s)] w fun e w'=>e= .returned (.int .u32 (sumN s:Nat))∧w=w':=by
 go_enter Tryz.func93,Tryz.ntmps93
 go_wp2_with (fail)
 go_loop [3,7] (fun x y=>∃ k:Nat,k≤s.length∧y= .int .i64 (k:Nat)∧x= .int .u32 (reg (s.take k):Nat)) (fun _ y=>s.length - (intOf y).toNat)
 case atStart=>exact ⟨0,by omega,rfl,rfl⟩
 case round=>
  obtain ⟨k,hk,rfl,rfl⟩:=hrel
  have hrl:=reg_lt (s.take k)
  by_cases hlt:k < s.length
  ·have e1:((k:Int) < (s.length:Nat))=True:=eq_true (by omega)
   have e2:∀ h:k < (bs s).size,(bs s)[k]'h=s.getD k 0:=fun h=>bs_get s k h
   have hsn:=Hid.mk (reg_snoc s k hlt)
   generalize reg (s.take k)=r at*
   generalize s.getD k 0=b at*
   have hbl:=b.toNat_lt
   have e3:(b.toNat:Int) % 4294967296=(b.toNat:Nat):=by omega
   have e4:=bxor (a:=r) (b:=b.toNat) hrl (by omega)
   have hrl1:=xor_lt (a:=r) (b:=b.toNat) hrl (by omega)
   have hst:=Hid.mk (show stp r b=half (half (r ^^^ b.toNat)) from rfl)
   rw [hst.out] at hsn
   clear hst
   go_wp2_with (fail)
   generalize r ^^^ b.toNat=r1 at*
   go_loop [3,16] (fun x y=>∃ (i q:Nat),i≤2∧y= .int .i64 (i:Nat)∧x= .int .u32 (q:Nat)∧(i=0∧q=r1∨i=1∧q=half r1∨i=2∧q=half (half r1))) (fun _ y=>2 - (intOf y).toNat)
   case atStart=>exact ⟨0,r1,by omega,rfl,rfl,.inl ⟨rfl,rfl⟩⟩
   case round=>
    obtain ⟨i,q,hi,rfl,rfl,hiq⟩:=hrel
    by_cases hi2:i < 2
    ·have e5:((i:Int) < 2)=True:=eq_true (by omega)
     have hql:q < 4294967296:=by
      rcases hiq with ⟨_,rfl⟩ | ⟨_,rfl⟩ | ⟨h,_⟩
      ·exact hrl1
      ·exact half_lt hrl1
      ·omega
     have e6:=band15 hql
     have hv:=hh.2 (q % 16) (by omega)
     have e8:bits .xor .u32 ((q:Int) / 16) ((hvs.getD (q % 16) 0:Nat):Int)=((half q:Nat):Int):=bxor (a:=q / 16) (b:=hvs.getD (q % 16) 0) (by omega) (hvs_lt _ (by omega))
     have hnext:i+1=0∧half q=r1∨i+1=1∧half q=half r1∨i+1=2∧half q=half (half r1):=by
      rcases hiq with ⟨h,rfl⟩ | ⟨h,rfl⟩ | ⟨h,_⟩
      ·exact .inr (.inl ⟨by omega,rfl⟩)
      ·exact .inr (.inr ⟨by omega,rfl⟩)
      ·omega
     go_wp2_with (fail)
     go_round
     case rel=>exact ⟨i+1,half q,by omega,by go_num,congrArg (Value.int .u32) e8,hnext⟩
     case measure=>simp [intOf]; omega
    ·have e5:((i:Int) < 2)=False:=eq_false (by omega)
     have hq2:q=half (half r1):=by
      rcases hiq with ⟨h,_⟩ | ⟨h,_⟩ | ⟨_,h⟩
      ·omega
      ·omega
      ·exact h
     subst hq2
     go_wp2_with (fail)
     go_round
     case rel=>exact ⟨k+1,by omega,by go_num,by rw [hsn.out]⟩
     case measure=>simp [intOf]; omega
  ·have e1:((k:Int) < (s.length:Nat))=False:=eq_false (by omega)
   have hk2:k=s.length:=by omega
   have hsum:bits .xor .u32 IntKind.u32.max ((reg s:Nat):Int)=((sumN s:Nat):Int):=by
    have:=bxor (a:=4294967295) (b:=reg s) (by decide) (reg_lt s)
    unfold sumN
    exact this
   subst hk2
   rw [List.take_length]
   go_wp2_with (fail)
   go_ret
   exact ⟨rfl,rfl⟩
end Go.Proofs.YtniamhbcmcgonaaGreatDoor
namespace Go.Proofs.YtniamhbcmcgonaaGreatDoor
open Go.RowKit Go.Ev
def sealB (n:Nat):Str:=[UInt8.ofNat n,UInt8.ofNat (n / 256),UInt8.ofNat (n / 65536),UInt8.ofNat (n / 16777216)]
def sealP (s:Str):Str:=sealB (sumN s)
def sealV (n k:Nat):Array Value:=((List.range 4).map fun i=>Value.int .u8 (if i < k then ((n / 256 ^ i % 256:Nat):Int) else 0)).toArray
set_option maxRecDepth 100000 in
set_option maxHeartbeats 3200000 in
theorem seal_any (s:Str) (hs:s.length < 2000000) (w:World) (hh:HalvesAt w):Calls Tryz.prog 65 #[.string (bs s)] w fun e w'=>e= .returned (.string (bs (sealP s)))∧Below w.heap.size w w':=by
 have hsum:=Hid.mk (sum_any s hs w hh)
 have hnl:=sumN_lt s
 have hres:=Hid.mk (show sealP s=sealB (sumN s) from rfl)
 rw [hres.out]
 generalize sumN s=n at*
 clear hres
 go_enter Tryz.func65,Tryz.ntmps65
 go_wp2_with (go_at_call 93; refine hsum.out.mono ?_; rintro e w' ⟨rfl,rfl⟩)
 go_loopw [5,8] (fun _ y wr=>∃ k:Nat,k≤4∧y= .int .i64 (k:Nat)∧wr.heap[w.heap.size]?=some (.cells (sealV n k) 150 (0,0))∧Below w.heap.size w wr) (fun _ y _=>4 - (intOf y).toNat)
 case atStart=>exact ⟨0,by omega,rfl,heap_alloc_new _ _,(Below.refl _ w).alloc (Nat.le_refl _) _⟩
 case round=>
  obtain ⟨k,hk,rfl,hS,hB⟩:=hrel
  have hSH:=Hid.mk hS
  have hBH:=Hid.mk hB
  have hsz:=(Array.getElem?_eq_some_iff.1 hS).1
  have hszH:=Hid.mk hsz
  clear hS hB hsz
  rcases (by omega:k=0∨k=1∨k=2∨k=3∨k=4) with rfl | rfl | rfl | rfl | rfl
  ·have d0:wr.cell? ⟨w.heap.size,0,none⟩=some (.int .u8 0):=(cell_of_row _ _ _ _ _ _ hSH.out).trans rfl
   have f0:=frozen_of_row _ _ 0 _ _ hSH.out
   go_wp2_with (fail)
   refine ⟨⟨1,by omega,rfl,?_,⟨hBH.out.os,hBH.out.tape,hBH.out.output,by simpa [World.setCell] using hBH.out.size,fun i hi=>(Below.heap_setCell _ _ _ _ (by simp; omega)).trans (hBH.out.block i hi)⟩⟩,by simp [intOf]⟩
   rw [heap_setCell_same _ _ _ _ _ _ hSH.out]
   simp [sealV,List.range,List.range.loop]
  ·have d0:wr.cell? ⟨w.heap.size,1,none⟩=some (.int .u8 0):=(cell_of_row _ _ _ _ _ _ hSH.out).trans rfl
   have f0:=frozen_of_row _ _ 1 _ _ hSH.out
   go_wp2_with (fail)
   refine ⟨⟨2,by omega,rfl,?_,⟨hBH.out.os,hBH.out.tape,hBH.out.output,by simpa [World.setCell] using hBH.out.size,fun i hi=>(Below.heap_setCell _ _ _ _ (by simp; omega)).trans (hBH.out.block i hi)⟩⟩,by simp [intOf]⟩
   rw [heap_setCell_same _ _ _ _ _ _ hSH.out]
   simp [sealV,List.range,List.range.loop]
  ·have d0:wr.cell? ⟨w.heap.size,2,none⟩=some (.int .u8 0):=(cell_of_row _ _ _ _ _ _ hSH.out).trans rfl
   have f0:=frozen_of_row _ _ 2 _ _ hSH.out
   go_wp2_with (fail)
   refine ⟨⟨3,by omega,rfl,?_,⟨hBH.out.os,hBH.out.tape,hBH.out.output,by simpa [World.setCell] using hBH.out.size,fun i hi=>(Below.heap_setCell _ _ _ _ (by simp; omega)).trans (hBH.out.block i hi)⟩⟩,by simp [intOf]⟩
   rw [heap_setCell_same _ _ _ _ _ _ hSH.out]
   simp [sealV,List.range,List.range.loop]
  ·have d0:wr.cell? ⟨w.heap.size,3,none⟩=some (.int .u8 0):=(cell_of_row _ _ _ _ _ _ hSH.out).trans rfl
   have f0:=frozen_of_row _ _ 3 _ _ hSH.out
   go_wp2_with (fail)
   refine ⟨⟨4,by omega,rfl,?_,⟨hBH.out.os,hBH.out.tape,hBH.out.output,by simpa [World.setCell] using hBH.out.size,fun i hi=>(Below.heap_setCell _ _ _ _ (by simp; omega)).trans (hBH.out.block i hi)⟩⟩,by simp [intOf]⟩
   rw [heap_setCell_same _ _ _ _ _ _ hSH.out]
   simp [sealV,List.range,List.range.loop]
   omega
  ·clear hsum
   have hcv:(convert 66 9 (.slice (some ⟨w.heap.size,0,none⟩) 4 4)).run Tryz.prog wr= .ok (.string (bs (sealB n))) wr:=by
    rw [run_convert_bytes_arg (P:=Tryz.prog) wr 66 5 Tryz.underlying66 Tryz.underlying5 w.heap.size 0 4 4 ((sealB n).map fun b=>(b.toNat:Int)) rfl (fun i hi=>by
     rw [cell_of_row _ _ _ _ _ _ hSH.out]
     rcases (by omega:i=0∨i=1∨i=2∨i=3) with rfl | rfl | rfl | rfl <;> (simp [sealV,sealB,List.range,List.range.loop]; try omega)) 9 Tryz.underlying9]
    refine congrArg (fun s=>Result.ok (Value.string s) wr) ?_
    unfold strOfNums bs
    rw [List.map_map]
    refine congrArg (fun l:List UInt8=>(⟨⟨l⟩⟩:ByteArray)) ?_
    have e:((fun n:Int=>UInt8.ofNat n.toNat) ∘ fun b:UInt8=>(b.toNat:Int))=id:=by
     funext b
     simp
    rw [e,List.map_id]
   go_wp2_with (fail)
   go_ret
   exact ⟨rfl,hBH.out⟩
end Go.Proofs.YtniamhbcmcgonaaGreatDoor
namespace Go.Proofs.YtniamhbcmcgonaaGreatDoor
open Go.RowKit Go.Ev
theorem bs_cat (a b:Str):bs a++bs b=bs (a++b):=by
 apply ByteArray.ext
 simp [bs]
theorem getN_k9 (s:Str):(getN s).2.1≤9:=by
 cases s with
 | nil=>decide
 | cons c t=>
  rw [getN_cons]
  (repeat' split) <;> simp <;> omega
def wrapP (b:Str):Str:=putN b.length++b++sealP (putN b.length++b)
def openS (s:Str):Str × Nat:=
 if (getN s).2.2≠0 then ([],(getN s).2.2) else if (getN s).1 < 0 then ([],2) else if 1048576 < (getN s).1 then ([],6)
 else if s.length < (getN s).2.1+(getN s).1.toNat+4 then ([],3) else if (getN s).2.1+(getN s).1.toNat+4 < s.length then ([],4)
 else if s.drop ((getN s).2.1+(getN s).1.toNat)≠sealP (s.take ((getN s).2.1+(getN s).1.toNat)) then ([],5) else ((s.take ((getN s).2.1+(getN s).1.toNat)).drop (getN s).2.1,0)
set_option maxRecDepth 100000 in
set_option maxHeartbeats 3200000 in
theorem wrap_any (b:Str) (hb:b.length≤1048576) (w:World) (hh:HalvesAt w):Calls Tryz.prog 26 #[.string (bs b)] w fun e w'=>e= .returned (.string (bs (wrapP b)))∧Below w.heap.size w w':=by
 have hput:=Hid.mk (oput_any b.length (by omega) w)
 have hpl:(putN b.length).length≤8:=by
  have:=digs_len7 (n:=b.length) (by omega)
  unfold putN; simp; omega
 have hc1:=bs_cat (putN b.length) b
 have hc2:=bs_cat (putN b.length++b) (sealP (putN b.length++b))
 have e1:((1048576:Int) < ((bs b).size:Nat))=False:=eq_false (by rw [bs_size]; omega)
 have hl:(putN b.length++b).length < 2000000:=by rw [List.length_append]; omega
 have hres:=Hid.mk (show wrapP b=putN b.length++b++sealP (putN b.length++b) from rfl)
 rw [hres.out]
 generalize putN b.length=p at*
 have e2:(9223372036854775807 < (bs p).size+(bs b).size)=False:=eq_false (by rw [bs_size,bs_size]; omega)
 have e3:(9223372036854775807 < (bs (p++b)).size+(bs (sealP (p++b))).size)=False:=eq_false (by rw [bs_size,bs_size,show (sealP (p++b)).length=4 from rfl]; omega)
 clear hres hb
 have hhH:=Hid.mk hh
 have hlH:=Hid.mk hl
 clear hh hl
 go_enter Tryz.func26,Tryz.ntmps26
 go_wp2_with (first | (go_at_call 64; refine hput.out.mono ?_; rintro e w1 ⟨rfl,hB1⟩; replace hB1:=Hid.mk hB1) | (go_at_call 65; refine (seal_any (p++b) hlH.out w1 (hhH.out.below hB1.out)).mono ?_; rintro e w2 ⟨rfl,hB2⟩; replace hB2:=Hid.mk hB2))
 go_ret
 exact ⟨by rw [List.append_assoc]; rfl,hB1.out.trans (hB2.out.mono hB1.out.size)⟩
set_option maxRecDepth 100000 in
set_option maxHeartbeats 6400000 in
theorem open_any (s:Str) (hs:s.length < 1900000) (w:World) (hh:HalvesAt w):Calls Tryz.prog 28 #[.string (bs s)] w fun e w'=>e= .returned (.tuple #[.string (bs (openS s).1),.int .i64 ((openS s).2:Nat)])∧Below w.heap.size w w':=by
 have hm:Tryz.prog.follows .mixedOrders=true:=by kernel_rfl
 have hget:=oget_any (bs s) (by rw [bs_size]; omega) w
 rw [show (bs s).data.toList=s from rfl] at hget
 obtain ⟨r,hr⟩:∃ r,openS s=r:=⟨_,rfl⟩
 have hle:=getN_le (s:=s)
 have hk9:=getN_k9 s
 rw [hr]
 unfold openS at hr
 rcases hg:getN s with ⟨n,k,er⟩
 rw [hg] at hr hget hle hk9
 simp only at hr hget hle hk9
 clear hg
 have hgetH:=Hid.mk hget
 have hhH:=Hid.mk hh
 clear hget hh
 by_cases h1:er=0
 rotate_left
 ·rw [if_pos h1] at hr
  subst hr
  have e1:(((er:Nat):Int) !=0)=true:=by simp; omega
  clear hle hk9 h1
  go_enter Tryz.func28,Tryz.ntmps28
  go_wp2_with (go_at_call 66; refine hgetH.out.mono ?_; rintro e w1 ⟨rfl,hB1⟩; replace hB1:=Hid.mk hB1)
  go_ret2
  exact ⟨rfl,hB1.out⟩
 subst h1
 rw [if_neg (by simp)] at hr
 have hkl:=hle rfl
 clear hle
 by_cases h2:n < 0
 ·rw [if_pos h2] at hr
  subst hr
  have e1:(n < 0)=True:=eq_true h2
  clear hkl hk9 h2
  go_enter Tryz.func28,Tryz.ntmps28
  go_wp2_with (go_at_call 66; refine hgetH.out.mono ?_; rintro e w1 ⟨rfl,hB1⟩; replace hB1:=Hid.mk hB1)
  go_ret2
  exact ⟨rfl,hB1.out⟩
 rw [if_neg h2] at hr
 have e2:(n < 0)=False:=eq_false h2
 by_cases h3:1048576 < n
 ·rw [if_pos h3] at hr
  subst hr
  have e1:(1048576 < n)=True:=eq_true h3
  clear hkl hk9 h2 h3
  go_enter Tryz.func28,Tryz.ntmps28
  go_wp2_with (go_at_call 66; refine hgetH.out.mono ?_; rintro e w1 ⟨rfl,hB1⟩; replace hB1:=Hid.mk hB1)
  go_ret2
  exact ⟨rfl,hB1.out⟩
 rw [if_neg h3] at hr
 have e3:(1048576 < n)=False:=eq_false h3
 obtain ⟨q,rfl⟩:∃ q:Nat,n=(q:Int):=⟨n.toNat,by omega⟩
 rw [Int.toNat_natCast] at hr
 have hq:q≤1048576:=by omega
 have hw1:IntKind.i64.wrap ((k:Int)+(q:Int))=((k+q:Nat):Int):=by rw [IntKind.wrap_i64]; omega
 have hw2:IntKind.i64.wrap (((k+q:Nat):Int)+4)=((k+q+4:Nat):Int):=by rw [IntKind.wrap_i64]; omega
 have hwq:=Hid.mk hr
 clear hr
 have hgg:=Hid.mk hgetH.out
 obtain ⟨E,hE⟩:∃ E,k+q=E:=⟨_,rfl⟩
 rw [hE] at hw1 hw2 hwq
 clear h2 h3
 by_cases h4:s.length < E+4
 ·have hres:=hwq.out
  rw [if_pos h4] at hres
  subst hres
  have e4:(((bs s).size:Int) < (E:Int)+4)=True:=eq_true (by rw [bs_size]; omega)
  clear h4 hkl hk9 hs hE hwq
  go_enter Tryz.func28,Tryz.ntmps28
  go_wp2_with (go_at_call 66; refine hgetH.out.mono ?_; rintro e w1 ⟨rfl,hB1⟩; replace hB1:=Hid.mk hB1)
  go_ret2
  exact ⟨rfl,hB1.out⟩
 have e4:(((bs s).size:Int) < (E:Int)+4)=False:=eq_false (by rw [bs_size]; omega)
 by_cases h5:E+4 < s.length
 ·have hres:=hwq.out
  rw [if_neg h4,if_pos h5] at hres
  subst hres
  have e5:((E:Int)+4 < ((bs s).size:Int))=True:=eq_true (by rw [bs_size]; omega)
  clear h4 h5 hkl hk9 hs hE hwq
  go_enter Tryz.func28,Tryz.ntmps28
  go_wp2_with (go_at_call 66; refine hgetH.out.mono ?_; rintro e w1 ⟨rfl,hB1⟩; replace hB1:=Hid.mk hB1)
  go_ret2
  exact ⟨rfl,hB1.out⟩
 have e5:((E:Int)+4 < ((bs s).size:Int))=False:=eq_false (by rw [bs_size]; omega)
 have hsl:s.length=E+4:=by omega
 have hr:=hwq.out
 rw [if_neg h4,if_neg h5] at hr
 have hrH:=Hid.mk hr
 have hx1:(bs s).extract E (bs s).size=bs (s.drop E):=by rw [bs_size]; exact bs_drop s E
 have f1:(E≤(bs s).size)=True:=eq_true (by rw [bs_size]; omega)
 have hx2:(bs s).extract 0 E=bs (s.take E):=bs_take s E
 have htl:(s.take E).length < 2000000:=by rw [List.length_take]; omega
 have htlH:=Hid.mk htl
 clear hr hwq h4 h5 htl
 go_enter Tryz.func28,Tryz.ntmps28
 go_wp2_with (go_at_call 66; refine hgetH.out.mono ?_; rintro e w1 ⟨rfl,hB1⟩; replace hB1:=Hid.mk hB1)
 have hwB:=Hid.mk (show HalvesAt w1.drew from (hhH.out.below hB1.out.drew))
 have hwC:=Hid.mk (show Below w.heap.size w w1.drew from hB1.out.drew)
 refine Go.Ev.wp_region_planE (fun v=>HalvesAt v∧Below w.heap.size w v) hm (by kernel_rfl) (by kernel_rfl) ⟨hwB.out,hwC.out⟩ ?_
 iterate 10
  refine Go.Ev.planE_cons _ (by rintro v K hv hK; replace hv:=Hid.mk hv; go_simp; exact hK _ hv.out) ?_
  simp only [Act.put,List.setIfInBounds_toArray,List.set_cons_succ,List.set_cons_zero]
 refine Go.Ev.planE_cons (.string (bs (sealP (s.take E)))) (by
  rintro v K hv hK; replace hv:=Hid.mk hv
  go_simp
  go_at_call 65
  refine (seal_any (s.take E) htlH.out v hv.out.1).mono ?_
  rintro e w2 ⟨rfl,hB2⟩
  exact hK _ ⟨hv.out.1.below hB2,hv.out.2.trans (hB2.mono hv.out.2.size)⟩) ?_
 simp only [Act.put,List.setIfInBounds_toArray,List.set_cons_succ,List.set_cons_zero]
 have hx3:(bs s).extract k E=bs ((s.take E).drop k):=by
  apply ByteArray.ext
  simp [bs,ByteArray.data_extract,List.drop_take]
 have f2:(k≤E)=True:=eq_true (by omega)
 by_cases h6:s.drop E=sealP (s.take E)
 ·have hres:=hrH.out
  rw [if_neg (fun h=>h h6)] at hres
  subst hres
  have hb1:((bs (s.drop E)).toList==(bs (sealP (s.take E))).toList)=true:=beq_iff_eq.2 (by rw [h6])
  clear h6
  generalize s.drop E=x at*
  generalize sealP (s.take E)=y at*
  iterate 2
   refine Go.Ev.planE_cons _ (by rintro v K hv hK; replace hv:=Hid.mk hv; go_simp; exact hK _ hv.out) ?_
   simp only [Act.put,List.setIfInBounds_toArray,List.set_cons_succ,List.set_cons_zero]
  rintro w2 hv
  replace hv:=Hid.mk hv
  go_wp2_with (fail)
  go_ret2
  exact ⟨rfl,hv.out.2⟩
 ·have hres:=hrH.out
  rw [if_pos h6] at hres
  subst hres
  have hb1:((bs (s.drop E)).toList==(bs (sealP (s.take E))).toList)=false:=by
   rw [ByteArray.toList_eq,ByteArray.toList_eq]
   exact beq_eq_false_iff_ne.2 h6
  clear h6
  generalize s.drop E=x at*
  generalize sealP (s.take E)=y at*
  iterate 2
   refine Go.Ev.planE_cons _ (by rintro v K hv hK; replace hv:=Hid.mk hv; go_simp; exact hK _ hv.out) ?_
   simp only [Act.put,List.setIfInBounds_toArray,List.set_cons_succ,List.set_cons_zero]
  rintro w2 hv
  replace hv:=Hid.mk hv
  go_wp2_with (fail)
  go_ret2
  exact ⟨rfl,hv.out.2⟩
end Go.Proofs.YtniamhbcmcgonaaGreatDoor
namespace Go.Proofs.YtniamhbcmcgonaaGreatDoor
open Go.RowKit Go.Ev
def bodyM (m:Ms):Str:=numP m.kind++allP m
noncomputable def putP (m:Ms):Str:=if goodB m=true then wrapP (bodyM m) else []
theorem KnAt.kp {F N:Nat} {w w':World} {vk:Value} {kn:List Int} (h:KnAt F N w vk kn) (hk:Kp F N w w'):KnAt F N w' vk kn:=by
 obtain ⟨K,ko,kc,h1,h2,h3,h4⟩:=h
 exact ⟨K,ko,kc,h1,h2,h3,fun j hj=>(hk.cell h2 h3).trans (h4 j hj)⟩
theorem good_parts {m:Ms} (h:goodB m=true):goodK m=true∧goodF m=true∧goodZ m=true∧goodL m=true∧fitsB m=true∧usedB m=true:=by
 unfold goodB at h
 simp only [Bool.and_eq_true] at h
 exact h
set_option maxRecDepth 100000 in
set_option maxHeartbeats 12800000 in
theorem mput_any (m:Ms) (vk:Value) (a:Option Addr) (cap B:Nat) (hfr:m.kind=1→goodN m.from_) (hkl:m.kn.length≤50) (h9:m.ents.length≤1000) (w:World) (hh:HalvesAt w) (hk:IntsV w vk m.kn)
  (he:w.ownsRow B 75 3 (.slice a m.ents.length cap) m.ents.length (m.ents.flatMap entC)) :
  Calls Tryz.prog 8 #[.agg (msC m vk (.slice a m.ents.length cap)),.int .i64 3] w fun e w'=>e= .returned (.string (bs (putP m)))∧Below w.heap.size w w':=by
 have hm:Tryz.prog.follows .mixedOrders=true:=by kernel_rfl
 obtain ⟨ka,kc,rfl⟩:∃ a c,vk= .slice a m.kn.length c:=by
  obtain ⟨a,c,h,_⟩:=hk.at
  exact ⟨a,c,h⟩
 obtain ⟨N0,hN0⟩:∃ n,w.heap.size=n:=⟨_,rfl⟩
 have hfrH:=Hid.mk hfr
 have hkH:=Hid.mk hk
 have heH:=Hid.mk he
 have hN0H:=Hid.mk hN0
 have hklH:=Hid.mk hkl
 have h9H:=Hid.mk h9
 have hhH:=Hid.mk hh
 clear hfr hk he hN0 hkl h9 hh
 unfold msC
 go_enter Tryz.func8,Tryz.ntmps8
 go_upto_region 0 with fail
 go_cut [0,2] (fun _ x wr=>x= .pointer (some ⟨w.heap.size,0,none⟩)∧wr.heap[w.heap.size]?=some (.cells (msC m (.slice ka m.kn.length kc) (.slice a m.ents.length cap)) 35 (0,0))∧Below w.heap.size w wr)
 case first=>as_aux_lemma=>
  go_wp2_with (fail)
  go_meet
  exact ⟨rfl,heap_alloc_new _ _,(Below.refl _ w).alloc (Nat.le_refl _) _⟩
 case rest=>
  obtain ⟨rfl,hS,hB⟩:=hcut
  rename World=>w1
  have hSH:=Hid.mk hS
  have hBH:=Hid.mk hB
  clear hS hB
  rw [hN0H.out] at hSH hBH ⊢
  have hw1:=Hid.mk (Array.getElem?_eq_some_iff.1 hSH.out).1
  have hSu:=hSH.out
  unfold msC at hSu
  have hSuH:=Hid.mk hSu
  clear hSu
  have hk1:IntsV w1 (.slice ka m.kn.length kc) m.kn:=hkH.out.below (by rw [hN0H.out]; exact hBH.out)
  have he1:w1.ownsRow B 75 3 (.slice a m.ents.length cap) m.ents.length (m.ents.flatMap entC):=out_same heH.out fun g hg=>hBH.out.block g (by rw [← hN0H.out]; exact (heH.out.lt g hg).2)
  have hgood:=good_any m _ a cap B hfrH.out hklH.out h9H.out w1 hk1 he1
  unfold msC at hgood
  have hgoodH:=Hid.mk hgood
  clear hgood hk1 he1
  go_upto_region 1 with fail
  go_cut [11] (fun y wr=>y= .bool (!goodB m)∧Below w1.heap.size w1 wr)
  case first=>as_aux_lemma=>
   go_wp2_with (first | (refine wpList_load_row rfl 35 _ rfl N0 rfl _ _ _ _ hSuH.out Tryz.underlying35 rfl (msInfo.trans rfl) ?_) | (go_at_call 20; refine hgoodH.out.mono ?_; rintro e wz ⟨rfl,hBz⟩; replace hBz:=Hid.mk hBz))
   go_meet
   exact ⟨rfl,hBz.out⟩
  case rest=>
   clear hgoodH hSuH
   obtain ⟨rfl,hB⟩:=hcut
   rename World=>w2
   have hS2:=Hid.mk ((hB.block N0 hw1.out).trans hSH.out)
   have hB2:=Hid.mk (hBH.out.trans (hB.mono (Nat.le_of_lt hw1.out)))
   clear hB hSH hBH hw1
   cases hgd:goodB m with
   | false=>
    have hres:=Hid.mk (show putP m=[] by unfold putP; rw [hgd]; rfl)
    clear hgd
    go_wp2_with (fail)
    go_ret
    exact ⟨by rw [hres.out]; rfl,by rw [hN0H.out]; exact hB2.out⟩
   | true=>
    obtain ⟨q1,q2,q3,q4,q5,q6⟩:=good_parts hgd
    obtain ⟨hok,hT,h1,h12,hkn3,hkn0⟩:=good_ok q1 q2 q3 q4 hfrH.out
    have h2k:=Hid.mk (fun h=>h2k_of (m:=m) q5 h)
    have hres:=Hid.mk (show putP m=wrapP (bodyM m) by unfold putP; rw [hgd]; rfl)
    have hok':=Hid.mk hok
    have hT':=Hid.mk hT
    have h1':=Hid.mk h1
    have h12':=Hid.mk h12
    have hkn3':=Hid.mk hkn3
    have hkn0':=Hid.mk hkn0
    clear hgd q1 q2 q3 q4 q5 q6 hok hT h1 h12 hkn3 hkn0
    have hh2:=Hid.mk (hhH.out.below (w':=w2) (by rw [hN0H.out]; exact hB2.out))
    go_upto_region 3 with fail
    go_cut [5] (fun y wr=>y= .pointer (some ⟨w2.heap.size,0,none⟩)∧wr.heap[w2.heap.size]?=some (.cells #[.slice none 0 0,.bool false,.pointer none,.bool false] 71 (0,0))∧Below w2.heap.size w2 wr)
    case first=>as_aux_lemma=>
     go_wp2_with (fail)
     go_meet
     exact ⟨rfl,heap_alloc_new _ _,(Below.refl _ w2).alloc (Nat.le_refl _) _⟩
    case rest=>
     obtain ⟨rfl,hF,hB⟩:=hcut
     rename World=>w3
     have hC3:=Hid.mk (Array.getElem?_eq_some_iff.1 hF).1
     have hn02:=Hid.mk (show N0 < w2.heap.size from (Array.getElem?_eq_some_iff.1 hS2.out).1)
     have hN3:=Hid.mk (show N0 < w3.heap.size by have:=hn02.out; have:=hC3.out; omega)
     have hFr:=Hid.mk hF
     have hB3:=Hid.mk hB
     have hB03:=Hid.mk (hB2.out.trans (hB.mono (by have:=hn02.out; omega)))
     have hS3:=Hid.mk ((hB.block N0 hn02.out).trans hS2.out)
     clear hF hB
     have d3:w3.drew.cell? ⟨N0,3,none⟩=some (.slice ka m.kn.length kc):=(cell_of_row w3 _ _ _ _ _ hS3.out).trans rfl
     have d15:w3.drew.cell? ⟨N0,15,none⟩=some (.slice a m.ents.length cap):=(cell_of_row w3 _ _ _ _ _ hS3.out).trans rfl
     have hdr:=Hid.mk (show Below w3.heap.size w3 w3.drew from ⟨rfl,rfl,rfl,Nat.le_refl _,fun _ _=>rfl⟩)
     have hkd:=Hid.mk (show IntsV w3.drew (.slice ka m.kn.length kc) m.kn from (hkH.out.below (by rw [hN0H.out]; exact hB03.out)).below hdr.out)
     have he3:=Hid.mk (show w3.ownsRow B 75 3 (.slice a m.ents.length cap) m.ents.length (m.ents.flatMap entC) from out_same heH.out fun g hg=>hB03.out.block g (by have:=(heH.out.lt g hg).2; have:=hN0H.out; omega))
     have hgk:=Hid.mk (show m.kn.length≤3 by
      by_cases h:m.kind=1
      ·rw [hkn0'.out h]; simp
      ·rw [hkn3'.out h]; omega)
     go_upto_region 4 with fail
     go_cut [5] (fun y wr=>y= .pointer (some ⟨w2.heap.size,0,none⟩)∧∃ va vc ua uc,wr.heap[w2.heap.size]?=some (.cells #[.slice none 0 0,.bool false,.pointer none,.bool false] 71 (0,0))
      ∧ wr.heap[N0]?=some (.cells (msC m (.slice va m.kn.length vc) (.slice ua m.ents.length uc)) 35 (0,0))
      ∧ wr.ownsRow (w2.heap.size+1) 3 1 (.slice va m.kn.length vc) m.kn.length (m.kn.map fun z=>Value.int .i64 z)∧wr.ownsRow (w2.heap.size+1) 75 3 (.slice ua m.ents.length uc) m.ents.length (m.ents.flatMap entC)∧Below N0 w wr∧w2.heap.size < wr.heap.size)
     case first=>as_aux_lemma=>
      have hS0:=E4.start w3.drew (fun i=>match i with | 0=> .pointer (some ⟨N0,3,none⟩) | 1=> .slice ka m.kn.length kc | 3=> .pointer (some ⟨N0,15,none⟩) | 4=> .slice a m.ents.length cap | 6=> .pointer (some ⟨N0,3,none⟩) | 8=> .pointer (some ⟨N0,15,none⟩) | _=>undef)
       (P1i w3.heap.size w3 m.kn) (P2i w3.heap.size w3 m.kn m.ents) (fun v u w'=>∃ wp,P2i w3.heap.size w3 m.kn m.ents v u wp∧w'=wp.setCell ⟨N0,3,none⟩ v)
       (fun w'=>∃ va vc ua uc wp,P2i w3.heap.size w3 m.kn m.ents (.slice va m.kn.length vc) (.slice ua m.ents.length uc) wp∧w'=(wp.setCell ⟨N0,3,none⟩ (.slice va m.kn.length vc)).setCell ⟨N0,15,none⟩ (.slice ua m.ents.length uc))
      go_wp2_with (fail)
      refine Go.Ev.wp_region_inv _ hm (by kernel_rfl) (by kernel_rfl) hS0 ?_
      refine ⟨fun D vs wq K hQ hd hdep hcl hK=> ?_,?_⟩
      ·go_simp
       exact hK _ _ (hQ.pure (by decide) rfl)
      simp only [Act.put,List.setIfInBounds_toArray,List.set_cons_succ,List.set_cons_zero,Nat.reduceAdd]
      refine ⟨fun D vs wq K hQ hd hdep hcl hK=> ?_,?_⟩
      ·have e0:=hQ.vals 0 (depB hdep 0 (by kernel_rfl)) (by decide) (by decide)
       simp only at e0
       simp only [e0] at hK ⊢
       obtain rfl:=hQ.p0 (closedF hcl 2 1 (by kernel_rfl) hd)
       go_simp
       exact hK _ _ (hQ.pure (by decide) rfl)
      simp only [Act.put,List.setIfInBounds_toArray,List.set_cons_succ,List.set_cons_zero,Nat.reduceAdd]
      refine ⟨fun D vs wq K hQ hd hdep hcl hK=> ?_,?_⟩
      ·have e1:=hQ.vals 1 (depB hdep 1 (by kernel_rfl)) (by decide) (by decide)
       simp only at e1
       simp only [e1] at hK ⊢
       obtain rfl:=hQ.p0 hd
       have h5:=closedF hcl 5 2 (by kernel_rfl) hd
       have h7:=closedF hcl 7 2 (by kernel_rfl) hd
       have h9:=closedF hcl 9 2 (by kernel_rfl) hd
       go_wp2_with (fail)
       go_at_call 21
       refine (iclone_any _ _ (by have:=hgk.out; omega) w3.drew hkd.out).mono ?_
       rintro e wz ⟨va,vc,rfl,hown,hBz⟩
       go_wp2_with (fail)
       exact hQ.s1 h5 h7 h9 ⟨⟨va,vc,rfl⟩,hown,hdr.out.trans hBz,hBz.size⟩
      simp only [Act.put,List.setIfInBounds_toArray,List.set_cons_succ,List.set_cons_zero,Nat.reduceAdd]
      refine ⟨fun D vs wq K hQ hd hdep hcl hK=> ?_,?_⟩
      ·go_simp
       exact hK _ _ (hQ.pure (by decide) rfl)
      simp only [Act.put,List.setIfInBounds_toArray,List.set_cons_succ,List.set_cons_zero,Nat.reduceAdd]
      refine ⟨fun D vs wq K hQ hd hdep hcl hK=> ?_,?_⟩
      ·have e3:=hQ.vals 3 (depB hdep 3 (by kernel_rfl)) (by decide) (by decide)
       simp only at e3
       simp only [e3] at hK ⊢
       have h5:=closedF hcl 5 4 (by kernel_rfl) hd
       have dq:wq.cell? ⟨N0,15,none⟩=some (.slice a m.ents.length cap):=by
        cases h2:D 2 with
        | false=>rw [hQ.p0 h2]; exact d15
        | true=>exact ((hQ.p1 h2 h5).2.2.1.cell (by exact hN3.out)).trans d15
       go_simp
       exact hK _ _ (hQ.pure (by decide) rfl)
      simp only [Act.put,List.setIfInBounds_toArray,List.set_cons_succ,List.set_cons_zero,Nat.reduceAdd]
      refine ⟨fun D vs wq K hQ hd hdep hcl hK=> ?_,?_⟩
      ·have e4:=hQ.vals 4 (depB hdep 4 (by kernel_rfl)) (by decide) (by decide)
       simp only at e4
       have d2:=depB hdep 2 (by kernel_rfl)
       simp only [e4] at hK ⊢
       have h7:=closedF hcl 7 5 (by kernel_rfl) hd
       have h9:=closedF hcl 9 5 (by kernel_rfl) hd
       have hP:=hQ.p1 d2 hd
       have heq:=out_same he3.out fun g hg=>hP.2.2.1.block g (he3.out.lt g hg).2
       go_wp2_with (fail)
       go_at_call 22
       refine (eclone_any B _ m.ents hok'.out.e64 wq heq).mono ?_
       rintro e wz ⟨u,rfl,hown,hBz⟩
       obtain ⟨ua,uc,rfl⟩:=out_slice hown
       go_wp2_with (fail)
       exact hQ.s2 d2 h7 h9 ⟨hP.below hBz,⟨ua,uc,rfl⟩,own_mono hown hP.2.2.2⟩
      simp only [Act.put,List.setIfInBounds_toArray,List.set_cons_succ,List.set_cons_zero,Nat.reduceAdd]
      refine ⟨fun D vs wq K hQ hd hdep hcl hK=> ?_,?_⟩
      ·go_simp
       exact hK _ _ (hQ.pure (by decide) rfl)
      simp only [Act.put,List.setIfInBounds_toArray,List.set_cons_succ,List.set_cons_zero,Nat.reduceAdd]
      refine ⟨fun D vs wq K hQ hd hdep hcl hK=> ?_,?_⟩
      ·have e6:=hQ.vals 6 (depB hdep 6 (by kernel_rfl)) (by decide) (by decide)
       simp only at e6
       have d2:=depB hdep 2 (by kernel_rfl)
       have d5:=depB hdep 5 (by kernel_rfl)
       have h9:=closedF hcl 9 7 (by kernel_rfl) hd
       have hP:=hQ.p2 d5 hd
       obtain ⟨va,vc,hv⟩:=hP.1.1
       simp only [e6,hv] at hK ⊢
       have hC:=(hP.1.2.2.1.block N0 hN3.out).trans hS3.out
       have dC:wq.cell? ⟨N0,3,none⟩=some (.slice ka m.kn.length kc):=(cell_of_row _ _ _ _ _ _ hC).trans rfl
       have fC:=frozen_of_row _ _ 3 _ _ hC
       clear hC
       go_simp
       exact hK _ _ (hQ.s3 d2 d5 h9 rfl ⟨wq,hP,by rw [hv]⟩)
      simp only [Act.put,List.setIfInBounds_toArray,List.set_cons_succ,List.set_cons_zero,Nat.reduceAdd]
      refine ⟨fun D vs wq K hQ hd hdep hcl hK=> ?_,?_⟩
      ·go_simp
       exact hK _ _ (hQ.pure (by decide) rfl)
      simp only [Act.put,List.setIfInBounds_toArray,List.set_cons_succ,List.set_cons_zero,Nat.reduceAdd]
      refine ⟨fun D vs wq K hQ hd hdep hcl hK=> ?_,?_⟩
      ·have e8:=hQ.vals 8 (depB hdep 8 (by kernel_rfl)) (by decide) (by decide)
       simp only at e8
       have d2:=depB hdep 2 (by kernel_rfl)
       have d5:=depB hdep 5 (by kernel_rfl)
       have d7:=depB hdep 7 (by kernel_rfl)
       obtain ⟨wp,hP,hwq⟩:=hQ.p3 d7 hd
       obtain ⟨va,vc,hv⟩:=hP.1.1
       obtain ⟨ua,uc,hu⟩:=hP.2.1
       simp only [e8,hu,hv] at hK ⊢
       have hC:=(hP.1.2.2.1.block N0 hN3.out).trans hS3.out
       have dC:wp.cell? ⟨N0,15,none⟩=some (.slice a m.ents.length cap):=(cell_of_row _ _ _ _ _ _ hC).trans rfl
       have fC:=frozen_of_row _ _ 15 _ _ hC
       clear hC
       go_simp
       refine hK undef _ ?_
       exact hQ.s4 d2 d5 d7 rfl ⟨va,vc,ua,uc,wp,by rw [hv,hu] at hP; exact hP,rfl⟩
      simp only [Act.put,List.setIfInBounds_toArray,List.set_cons_succ,List.set_cons_zero,Nat.reduceAdd]
      intro vs D w6 hS6 hall
      obtain ⟨va,vc,ua,uc,wp,hP,rfl⟩:=hS6.p4 (hall 9 (by decide))
      clear hS6 hall
      go_wp2_with (fail)
      go_meet
      have hC:=(hP.1.2.2.1.block N0 hN3.out).trans hS3.out
      have hb:∀ k,k≠N0→((wp.setCell ⟨N0,3,none⟩ (.slice va m.kn.length vc)).setCell ⟨N0,15,none⟩ (.slice ua m.ents.length uc)).heap[k]?=wp.heap[k]?:=fun k hk=>(Below.heap_setCell _ _ _ _ (by simpa using hk)).trans (Below.heap_setCell _ _ _ _ (by simpa using hk))
      refine ⟨rfl,va,vc,ua,uc,?_,?_,?_,?_,?_,?_⟩
      ·exact (hb _ (by have:=hn02.out; omega)).trans ((hP.1.2.2.1.block _ hC3.out).trans hFr.out)
      ·rw [heap_setCell_same _ _ _ _ _ _ (heap_setCell_same _ _ _ _ _ _ hC)]; rfl
      ·exact own_mono (out_same hP.1.2.1 fun g hg=>hb g (by have:=(hP.1.2.1.lt g hg).1; have:=hN3.out; omega)) (by have:=hC3.out; omega)
      ·exact own_mono (out_same hP.2.2 fun g hg=>hb g (by have:=(hP.2.2.lt g hg).1; have:=hN3.out; omega)) (by have:=hC3.out; omega)
      ·exact hB03.out.trans ⟨hP.1.2.2.1.os,hP.1.2.2.1.tape,hP.1.2.2.1.output,by simpa [World.setCell] using hP.1.2.2.1.size,fun i hi=>(hb i (by omega)).trans (hP.1.2.2.1.block i (by have:=hN3.out; omega))⟩
      ·have:=hC3.out; have:=hP.1.2.2.1.size; simp [World.setCell]; omega
     case rest=>
      clear d3 d15 hkd he3 hgk hFr hB3 hN3 hB03 hS3 hdr hC3
      obtain ⟨rfl,va,vc,ua,uc,hF,hC,hki,hei,hB,hsz⟩:=hcut
      rename World=>w6
      obtain ⟨F,hFe⟩:∃ F,w2.heap.size=F:=⟨_,rfl⟩
      have hB6:=Hid.mk hB
      have hNF:=Hid.mk (show N0 < F by have:=hn02.out; omega)
      rw [hFe] at hF hki hei hsz ⊢
      have hF6:=Hid.mk hsz
      have hWr0:WrAt w6.heap.size F [] w6:=⟨hsz,Nat.le_refl _,_,hF,World.ownsRow_nil _ _ _ _⟩
      have d0:w6.cell? ⟨N0,0,none⟩=some (.int .i64 m.kind):=(cell_of_row _ _ _ _ _ _ hC).trans rfl
      have hnum:=Hid.mk (num_wi w6.heap.size F N0 0 [] m.kind ⟨by have:=h1'.out; omega,by have:=h12'.out; omega⟩ w6 hWr0 (by simp) d0)
      have hCH:=Hid.mk hC
      have hkiH:=Hid.mk hki
      have heiH:=Hid.mk hei
      have hh6:=Hid.mk (hhH.out.below (w':=w6) (by rw [hN0H.out]; exact hB))
      clear hF hC hki hei hB hFe hsz hWr0 d0 hS2 hB2 hn02
      go_wp2_with (fail)
      go_at_call 23
      refine hnum.out.mono ?_
      rintro e w7 ⟨rfl,hWr,hKp⟩
      rw [List.nil_append] at hWr
      have hC7:=(hKp.block N0 (by have:=hNF.out; have:=hF6.out; omega) (by have:=hNF.out; omega)).trans hCH.out
      have hei7:=EntsAt.kp (EntsAt.own heiH.out (F:=F) (by omega)) hKp
      have hki7:=fun h:m.kn.length=3=>KnAt.kp (KnAt.own hkiH.out (F:=F) (by omega) h) hKp
      have hnl:(numP m.kind).length≤8:=numP_le ⟨by have:=h1'.out; omega,by have:=h12'.out; omega⟩
      have hall:=Hid.mk (all_w w6.heap.size F N0 (numP m.kind) m hok'.out (.slice va m.kn.length vc) ua uc w7 hWr (by omega) (by have:=hNF.out; have:=hF6.out; omega) (by have:=hNF.out; omega) hC7
       hei7 h2k.out h1'.out h12'.out (fun h=>⟨hkn3'.out h,hki7 (hkn3'.out h)⟩))
      have hB7:=Hid.mk (hB6.out.trans (hKp.low (by have:=hNF.out; omega) (by have:=hNF.out; have:=hF6.out; omega)))
      have hbl:(numP m.kind++allP m).length≤1048576:=by rw [List.length_append]; have:=hT'.out; omega
      have hblH:=Hid.mk hbl
      clear hei7 hki7 hC7 hWr hKp hbl hnl hnum hCH hkiH heiH hh6 hB6
      go_wp2_with (fail)
      go_at_call 24
      refine hall.out.mono ?_
      rintro e w8 ⟨rfl,hWr8,hKp8⟩
      have hB8:=Hid.mk (hB7.out.trans (hKp8.low (by have:=hNF.out; omega) (by have:=hNF.out; have:=hF6.out; omega)))
      have hby:=Hid.mk (obytes_any _ F (numP m.kind++allP m) w8 hWr8)
      have hsz8:=Hid.mk (show N0≤w8.heap.size by have:=hKp8.size; have:=hWr8.2.1; have:=hNF.out; have:=hF6.out; omega)
      clear hall hWr8 hKp8 hB7
      go_wp2_with (fail)
      go_at_call 25
      refine hby.out.mono ?_
      rintro e w9 ⟨rfl,rfl⟩
      clear hby
      have hwr:=Hid.mk (wrap_any (numP m.kind++allP m) hblH.out w9 (hhH.out.below (by rw [hN0H.out]; exact hB8.out)))
      go_wp2_with (fail)
      go_at_call 26
      refine hwr.out.mono ?_
      rintro e wz ⟨rfl,hBz⟩
      have hBzH:=Hid.mk hBz
      clear hBz hwr
      go_wp2_with (fail)
      go_ret
      exact ⟨by rw [hres.out]; rfl,by rw [hN0H.out]; exact hB8.out.trans (hBzH.out.mono hsz8.out)⟩
end Go.Proofs.YtniamhbcmcgonaaGreatDoor
