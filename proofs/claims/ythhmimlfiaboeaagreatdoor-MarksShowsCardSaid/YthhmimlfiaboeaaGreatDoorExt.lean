/- Functions without a body: what the evaluator takes them to answer is what the model says. -/
import Derived.Test.YthhmimlfiaboeaaGreatDoorEvC
import Derived.Test.YthhmimlfiaboeaaGreatDoorRows
import Derived.ProofKit
import Derived.Laws.Externs
import GoSem.Extern.BytealgCount
namespace Go.Proofs.YthhmimlfiaboeaaGreatDoor
open Go.Ev

def xIndex : List Value → Option Value
  | [.string s, .int .u8 (.ofNat c)] => some (.int .i64 (firstIdx s (UInt8.ofNat c)))
  | _ => none
def xCmp : List Value → Option Value
  | [.string s, .string t] => some (.int .i64 (Go.Extern.BytealgCompare.cmp s t))
  | _ => none
def xCount : List Value → Option Value
  | [.string s, .int .u8 (.ofNat c)] => some (.int .i64 (s.foldl (fun n x => if x == UInt8.ofNat c then n + 1 else n) (0 : Int)))
  | _ => none
def xBits : List Value → Option Value
  | [.float .f64 n] => some (.int .u64 (.ofNat n))
  | _ => none
def xFloat : List Value → Option Value
  | [.int .u64 (.ofNat n)] => some (.float .f64 n)
  | _ => none

theorem run_ext {P : Program} {f : FuncId} {e : Array Value → Sem Value} (h1 : ((P.funcs[f]?).any fun fn => !(fn.name == "runtime.NumGoroutine") && fn.body.isNone && (Extern.findNext fn).isNone) = true)
    (h2 : (P.funcs[f]?).map Extern.find = some (some e)) (args : Array Value) (w : World) : (callFunc f args).run P w = ((e args).run P w).andThen fun v w' => .ok (.value v) w' := by
  cases hf : P.funcs[f]? with
  | none => rw [hf] at h1; cases h1
  | some fn =>
    rw [hf] at h1 h2
    simp at h1 h2
    exact run_callFunc_extern hf (by simpa using h1.1.1) (by simpa using h1.1.2) (by simpa using h1.2) h2 args w

theorem run_bits (n : Nat) (w : World) : (callFunc 20 #[.float .f64 n]).run Tryz.prog w = .ok (.value (.int .u64 n)) w := by kernel_rfl

theorem run_float (n : Nat) (w : World) : (callFunc 5 #[.int .u64 (Int.ofNat n)]).run Tryz.prog w = .ok (.value (.float .f64 n)) w := by kernel_rfl

def extFn (f : FuncId) : Option (List Value → Option Value) :=
  match f with
  | 20 => some xBits
  | 5 => some xFloat
  | _ => none

def ext : Ext := { fn := extFn, clone := fun f => false, same := fun f => false }

theorem xBits_inv {args : List Value} {v : Value} (h : xBits args = some v) : ∃ n : Nat, args = [.float .f64 n] ∧ v = .int .u64 (.ofNat n) := by
  unfold xBits at h
  split at h
  · cases h; exact ⟨_, rfl, rfl⟩
  · cases h

theorem xFloat_inv {args : List Value} {v : Value} (h : xFloat args = some v) : ∃ n : Nat, args = [.int .u64 (.ofNat n)] ∧ v = .float .f64 n := by
  unfold xFloat at h
  split at h
  · cases h; exact ⟨_, rfl, rfl⟩
  · cases h

theorem ext_ok : ExtOk Tryz.prog ext where
  fn := fun f h args v hf hv => by
    have hf' : extFn f = some h := hf
    unfold extFn at hf'
    split at hf'
    · cases hf'; obtain ⟨n, rfl, rfl⟩ := xBits_inv hv; exact ⟨rfl, fun w => run_bits n w⟩
    · cases hf'; obtain ⟨n, rfl, rfl⟩ := xFloat_inv hv; exact ⟨rfl, fun w => run_float n w⟩
    · cases hf'
  spec := fun f args st v st' h => by cases h
  clone := fun f args w h => by
    cases h
  same := fun f x w h => by
    cases h
theorem mixed : Tryz.prog.follows .mixedOrders = true := by kernel_rfl
#print axioms ext_ok
end Go.Proofs.YthhmimlfiaboeaaGreatDoor
