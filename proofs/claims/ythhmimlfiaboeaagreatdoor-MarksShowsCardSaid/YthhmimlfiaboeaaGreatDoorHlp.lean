/- What the walks share: hidden facts, worlds that differ in one block alone, sizes of words. Small functions on numbers: what each answers. -/
import Derived.Test.YthhmimlfiaboeaaGreatDoorProg
import Derived.Test.YthhmimlfiaboeaaGreatDoorPln
import Derived.ProofKit
import Derived.RowKit
import Derived.LoopTactic
import Derived.Tactics2
import Derived.Laws.Rows
import Derived.Lib.Walk
import Derived.Laws.AppendOwn
import Derived.Maps.AppendAt
import Derived.Deep.AppendLies
import Derived.Deep.CutRange
import Derived.Deep.DeepCutAuto
import Derived.Deep.CutBlock
import Derived.Laws.Bits64b
import Derived.LaidEqlPtr
import Derived.Test.YthhmimlfiaboeaaGreatDoorShl
namespace Go.Proofs.YthhmimlfiaboeaaGreatDoor
open Go.RowKit

inductive Hid (p : Prop) : Prop where | mk (h : p) : Hid p
theorem Hid.out {p : Prop} : Hid p → p | .mk h => h
instance {p : Prop} : Coe p (Hid p) := ⟨.mk⟩

def Onl (B : Nat) (w w' : World) : Prop := w.grownBy w' (some B)
theorem Onl.refl (B : Nat) (w : World) : Onl B w w := ⟨rfl, rfl, rfl, Nat.le_refl _, fun _ _ _ => rfl⟩
theorem Onl.size {B : Nat} {w w' : World} (h : Onl B w w') : w.heap.size ≤ w'.heap.size := World.grownBy.size h
theorem Onl.trans {B : Nat} {a b c : World} (h : Onl B a b) (k : Onl B b c) : Onl B a c :=
  ⟨(World.grownBy.os k).trans (World.grownBy.os h), (World.grownBy.tape k).trans (World.grownBy.tape h), (World.grownBy.output k).trans (World.grownBy.output h), Nat.le_trans h.size k.size,
    fun i hi hn => (World.grownBy.block k i (Nat.lt_of_lt_of_le hi h.size) hn).trans (World.grownBy.block h i hi hn)⟩
theorem Onl.of {w w' : World} (B : Nat) (h : Below w.heap.size w w') : Onl B w w' := ⟨h.os, h.tape, h.output, h.size, fun i hi _ => h.block i hi⟩
theorem Onl.setCell {B : Nat} {a w : World} (h : Onl B a w) {p : Addr} (hp : B = p.block) (u : Value) : Onl B a (w.setCell p u) :=
  h.trans ⟨rfl, rfl, rfl, Nat.le_of_eq (by simp), fun i _ hn => Below.heap_setCell w p u i (fun e => hn (by rw [hp, e]))⟩
theorem Onl.alloc {B : Nat} {a w : World} (h : Onl B a w) (o : Obj) : Onl B a (w.alloc o) := h.trans (World.grownBy_alloc w o (some B))
theorem Onl.drew {B : Nat} {a w : World} (h : Onl B a w) : Onl B a w.drew := h.trans ⟨rfl, rfl, rfl, Nat.le_refl _, fun _ _ _ => rfl⟩
theorem Onl.grown {B : Nat} {a w w' : World} {row : Option Nat} (h : Onl B a w) (hg : w.grownBy w' row) (hr : ∀ k, row = some k → a.heap.size ≤ k) : Onl B a w' :=
  ⟨hg.os.trans (World.grownBy.os h), hg.tape.trans (World.grownBy.tape h), hg.output.trans (World.grownBy.output h), Nat.le_trans h.size hg.size,
    fun i hi hn => (hg.block i (Nat.lt_of_lt_of_le hi h.size) (fun e => by have := hr i e.symm; omega)).trans (World.grownBy.block h i hi hn)⟩

theorem ne_off {B i j : Nat} (h : i ≠ j) : (⟨B, i, none⟩ : Addr) ≠ ⟨B, j, none⟩ := fun e => h (Addr.mk.inj e).2.1
theorem wi64 {z : Int} (h1 : -9223372036854775808 ≤ z) (h2 : z < 9223372036854775808) : IntKind.i64.wrap z = z := by rw [IntKind.wrap_i64]; omega
theorem wu64 {z : Int} (h1 : 0 ≤ z) (h2 : z < 18446744073709551616) : IntKind.u64.wrap z = z := by rw [IntKind.wrap_u64]; omega
theorem beq_ne {a b : Int} (h : a ≠ b) : (a == b) = false := by simp [h]

theorem wrapU (z : Int) : ∃ n : Nat, n < 18446744073709551616 ∧ IntKind.u64.wrap z = (n : Int) := by
  rw [IntKind.wrap_u64]
  exact ⟨(z % 18446744073709551616).toNat, by omega, by omega⟩

theorem Onl.below {N B : Nat} {w w' : World} (h : Onl B w w') (h1 : N ≤ B) (h2 : N ≤ w.heap.size) : Below N w w' :=
  let ⟨a, b, c, d, e⟩ := h
  ⟨a, b, c, d, fun i hi => e i (by omega) (by intro e; cases e; omega)⟩
theorem Onl.blw {N B : Nat} {w w' : World} (h : Onl B w w') (h1 : N ≤ B) (h2 : N ≤ w.heap.size) : Below N w w' :=
  let ⟨a, b, c, d, e⟩ := h
  ⟨a, b, c, d, fun i hi => e i (by omega) (by intro e; cases e; omega)⟩
theorem blw_drewN (N : Nat) (w : World) (n : Nat) : Below N w (w.drewN n) := ⟨rfl, rfl, rfl, Nat.le_refl _, fun _ _ => rfl⟩
/-- An answer yes or no. -/
def IsB (e : Ending) : Prop := ∃ b, e = .returned (.bool b)
end Go.Proofs.YthhmimlfiaboeaaGreatDoor

namespace Go.Proofs.YthhmimlfiaboeaaGreatDoor
open Go.RowKit

theorem b2u_any (b : Bool) (w : World) : Calls Tryz.prog 83 #[.bool b] w fun e w' => e = .returned (.int .u64 (if b then 1 else 0)) ∧ w = w' := by
  go_enter Tryz.func83, Tryz.ntmps83
  cases b
  all_goals
    go_wp2_with (fail)
    go_ret
    exact ⟨rfl, rfl⟩
theorem b2i_any (b : Bool) (w : World) : Calls Tryz.prog 65 #[.bool b] w fun e w' => e = .returned (.int .i64 (if b then 1 else 0)) ∧ w = w' := by
  go_enter Tryz.func65, Tryz.ntmps65
  cases b
  all_goals
    go_wp2_with (fail)
    go_ret
    exact ⟨rfl, rfl⟩
theorem l2p_any (x : Int) (w : World) (h1 : -2000 ≤ x) (h2 : x ≤ 2000) : Calls Tryz.prog 58 #[.int .i64 x] w fun e w' => e = .returned (.int .i64 (x * 108853 / 32768)) ∧ w = w' := by
  go_enter Tryz.func58, Tryz.ntmps58
  go_wp2_with (fail)
  go_ret
  exact ⟨rfl, rfl⟩
theorem l10_any (x : Int) (w : World) (h1 : -2000 ≤ x) (h2 : x ≤ 2000) : Calls Tryz.prog 42 #[.int .i64 x] w fun e w' => e = .returned (.int .i64 (x * 78913 / 262144)) ∧ w = w' := by
  go_enter Tryz.func42, Tryz.ntmps42
  go_wp2_with (fail)
  go_ret
  exact ⟨rfl, rfl⟩
theorem skw_any (x : Int) (w : World) (h1 : -2000 ≤ x) (h2 : x ≤ 2000) : Calls Tryz.prog 56 #[.int .i64 x] w fun e w' => e = .returned (.int .i64 ((x * 631305 - 261663) / 2097152)) ∧ w = w' := by
  go_enter Tryz.func56, Tryz.ntmps56
  go_wp2_with (fail)
  go_ret
  exact ⟨rfl, rfl⟩
theorem umn_any (x : Nat) (w : World) (h1 : x ≤ 9007199254740992) : Calls Tryz.prog 66 #[.int .u64 (x : Nat)] w fun e w' => e = .returned (.int .u64 (IntKind.u64.wrap ((x : Int) * 4 - 2))) ∧ w = w' := by
  go_enter Tryz.func66, Tryz.ntmps66
  go_wp2_with (fail)
  go_ret
  exact ⟨rfl, rfl⟩
theorem flo_any (x : Int) (w : World) : Calls Tryz.prog 62 #[.int .u64 x] w fun e w' => e = .returned (.int .u64 (IntKind.u64.wrap x / 4)) ∧ w = w' := by
  go_enter Tryz.func62, Tryz.ntmps62
  go_wp2_with (fail)
  go_ret
  exact ⟨rfl, rfl⟩
theorem cei_any (x : Int) (w : World) : Calls Tryz.prog 61 #[.int .u64 x] w fun e w' => e = .returned (.int .u64 (IntKind.u64.wrap (x + 3) / 4)) ∧ w = w' := by
  go_enter Tryz.func61, Tryz.ntmps61
  go_wp2_with (fail)
  go_ret
  exact ⟨rfl, rfl⟩
theorem rou_any (x : Int) (w : World) : Calls Tryz.prog 63 #[.int .u64 x] w fun e w' => e = .returned (.int .u64 (IntKind.u64.wrap (IntKind.u64.wrap (x + 1) + bits .and .u64 (x / 4) 1) / 4)) ∧ w = w' := by
  go_enter Tryz.func63, Tryz.ntmps63
  go_wp2_with (fail)
  go_ret
  exact ⟨rfl, rfl⟩
theorem nud_any (x z : Int) (w : World) : Calls Tryz.prog 60 #[.int .u64 x, .int .i64 z] w fun e w' => e = .returned (.int .u64 (IntKind.u64.wrap (x + IntKind.u64.wrap z))) ∧ w = w' := by
  go_enter Tryz.func60, Tryz.ntmps60
  go_wp2_with (fail)
  go_ret
  exact ⟨rfl, rfl⟩
end Go.Proofs.YthhmimlfiaboeaaGreatDoor
