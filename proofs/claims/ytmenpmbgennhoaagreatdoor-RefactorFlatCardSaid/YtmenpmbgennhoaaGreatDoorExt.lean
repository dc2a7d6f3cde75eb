/- Functions without a body: what the evaluator takes them to answer is what the model says. -/
import Derived.Test.YtmenpmbgennhoaaGreatDoorEvC
import Derived.Test.YtmenpmbgennhoaaGreatDoorRows
import Derived.ProofKit
import Derived.Laws.Externs
import GoSem.Extern.BytealgCount
namespace Go.Proofs.YtmenpmbgennhoaaGreatDoor
open Go.Ev
def xIndex:List Value→Option Value
 | [.string s,.int .u8 (.ofNat c)]=>some (.int .i64 (firstIdx s (UInt8.ofNat c)))
 | _=>none
def xCmp:List Value→Option Value
 | [.string s,.string t]=>some (.int .i64 (Go.Extern.BytealgCompare.cmp s t))
 | _=>none
def xCount:List Value→Option Value
 | [.string s,.int .u8 (.ofNat c)]=>some (.int .i64 (s.foldl (fun n x=>if x==UInt8.ofNat c then n+1 else n) (0:Int)))
 | _=>none
def xBits:List Value→Option Value
 | [.float .f64 n]=>some (.int .u64 (.ofNat n))
 | _=>none
def xFloat:List Value→Option Value
 | [.int .u64 (.ofNat n)]=>some (.float .f64 n)
 | _=>none
theorem run_ext {P:Program} {f:FuncId} {e:Array Value→Sem Value} (h1:((P.funcs[f]?).any fun fn=> !(fn.name== "runtime.NumGoroutine") && fn.body.isNone && (Extern.findNext fn).isNone)=true)
  (h2:(P.funcs[f]?).map Extern.find=some (some e)) (args:Array Value) (w:World):(callFunc f args).run P w=((e args).run P w).andThen fun v w'=> .ok (.value v) w':=by
 cases hf:P.funcs[f]? with
 | none=>rw [hf] at h1; cases h1
 | some fn=>
  rw [hf] at h1 h2
  simp at h1 h2
  exact run_callFunc_extern hf (by simpa using h1.1.1) (by simpa using h1.1.2) (by simpa using h1.2) h2 args w
theorem run_index (s:ByteArray) (c:Nat) (w:World):(callFunc 120 #[.string s,.int .u8 (Int.ofNat c)]).run Tryz.prog w= .ok (.value (.int .i64 (firstIdx s (UInt8.ofNat c)))) w:=by
 rw [run_ext (e:=Go.Extern.BytealgIndexByte.indexByte) (by kernel_rfl) (by kernel_rfl),run_indexByte_string]
 rfl
theorem run_count (s:ByteArray) (c:Nat) (w:World):(callFunc 132 #[.string s,.int .u8 (Int.ofNat c)]).run Tryz.prog w= .ok (.value (.int .i64 (s.foldl (fun n x=>if x==UInt8.ofNat c then n+1 else n) (0:Int)))) w:=by
 rw [run_ext (e:=Go.Extern.BytealgCount.count) (by kernel_rfl) (by kernel_rfl)]
 have h:(Go.Extern.BytealgCount.count #[.string s,.int .u8 (Int.ofNat c)]).run Tryz.prog w= .ok (.int .i64 (s.foldl (fun n x=>if x==UInt8.ofNat c then n+1 else n) (0:Int))) w:=by
  change Sem.run Tryz.prog (do
   let b ← Extern.Bytes.bytesOf (.string s)
   let c' ← Extern.Bytes.asByte (.int .u8 (Int.ofNat c))
   pure (goInt (b.foldl (fun n x=>if x==c' then n+1 else n) ((0:Nat):Int)))) w=_
  simp only [Extern.Bytes.bytesOf,Extern.Bytes.asByte,Sem.run_bind,Sem.run_pure,Result.andThen]
  rfl
 rw [h]; rfl
def extFn (f:FuncId):Option (List Value→Option Value):=
 match f with
 | 120=>some xIndex
 | 132=>some xCount
 | _=>none
def ext:Ext:={ fn:=extFn,clone:=fun f=>false,same:=fun f=>Nat.beq f 117 }
theorem run_same (x:Value) (w:World):(callFunc 117 #[x]).run Tryz.prog w= .ok (.value x) w:=by kernel_rfl
theorem xIndex_inv {args:List Value} {v:Value} (h:xIndex args=some v):∃ s c,args=[.string s,.int .u8 (Int.ofNat c)]∧v= .int .i64 (firstIdx s (UInt8.ofNat c)):=by
 unfold xIndex at h
 split at h
 ·cases h; exact ⟨_,_,rfl,rfl⟩
 ·cases h
theorem xCount_inv {args:List Value} {v:Value} (h:xCount args=some v):∃ s c,args=[.string s,.int .u8 (Int.ofNat c)]∧v= .int .i64 (ByteArray.foldl (fun n x=>if x==UInt8.ofNat c then n+1 else n) (0:Int) s):=by
 unfold xCount at h
 split at h
 ·cases h; exact ⟨_,_,rfl,rfl⟩
 ·cases h
theorem ext_ok:ExtOk Tryz.prog ext where
 fn:=fun f h args v hf hv=>by
  have hf':extFn f=some h:=hf
  unfold extFn at hf'
  split at hf'
  ·cases hf'; obtain ⟨s,c,rfl,rfl⟩:=xIndex_inv hv; exact ⟨rfl,fun w=>run_index s c w⟩
  ·cases hf'; obtain ⟨s,c,rfl,rfl⟩:=xCount_inv hv; exact ⟨rfl,fun w=>run_count s c w⟩
  ·cases hf'
 spec:=fun f args st v st' h=>by cases h
 clone:=fun f args w h=>by
  cases h
 same:=fun f x w h=>by
  obtain rfl:=Nat.eq_of_beq_eq_true h; exact run_same x w
theorem mixed:Tryz.prog.follows .mixedOrders=true:=by kernel_rfl
#print axioms ext_ok
end Go.Proofs.YtmenpmbgennhoaaGreatDoor
