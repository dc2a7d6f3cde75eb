/- A decimal in memory: its cells, and what a step leaves. -/
import Derived.Test.YtpbombkmnfbcgaaGreatDoorDcm
import Derived.Test.YtpbombkmnfbcgaaGreatDoorProg
import Derived.Test.YtpbombkmnfbcgaaGreatDoorPln
import Derived.ProofKit
import Derived.RowKit
import Derived.LoopTactic
import Derived.Tactics2
import Derived.Laws.Rows
import Derived.Lib.Walk
import Derived.Laws.AppendOwn
import Derived.Maps.AppendAt
import Derived.Deep.AppendLies
namespace Go.Proofs.YtpbombkmnfbcgaaGreatDoor
open Go.RowKit

inductive Hid (p : Prop) : Prop where | mk (h : p) : Hid p
theorem Hid.out {p : Prop} : Hid p → p | .mk h => h
instance {p : Prop} : Coe p (Hid p) := ⟨.mk⟩

def Onl (B : Nat) (w w' : World) : Prop := w.grownBy w' (some B)
theorem Onl.refl (B : Nat) (w : World) : Onl B w w := ⟨rfl, rfl, rfl, Nat.le_refl _, fun _ _ _ => rfl⟩
theorem Onl.size {B : Nat} {w w' : World} (h : Onl B w w') : w.heap.size ≤ w'.heap.size := World.grownBy.size h
theorem Onl.trans {B : Nat} {a b c : World} (h : Onl B a b) (k : Onl B b c) : Onl B a c :=
  ⟨(World.grownBy.os k).trans (World.grownBy.os h), (World.grownBy.tape k).trans (World.grownBy.tape h), (World.grownBy.output k).trans (World.grownBy.output h), Nat.le_trans h.size k.size,
    fun i hi hn => (World.grownBy.block k i (Nat.lt_of_lt_of_le hi h.size) hn).trans (World.grownBy.block h i hi hn)⟩
theorem Onl.of {w w' : World} (B : Nat) (h : Below w.heap.size w w') : Onl B w w' := ⟨h.os, h.tape, h.output, h.size, fun i hi _ => h.block i hi⟩
theorem Onl.setCell {B : Nat} {a w : World} (h : Onl B a w) {p : Addr} (hp : B = p.block) (u : Value) : Onl B a (w.setCell p u) :=
  h.trans ⟨rfl, rfl, rfl, Nat.le_of_eq (by simp), fun i _ hn => Below.heap_setCell w p u i (fun e => hn (by rw [hp, e]))⟩
theorem Onl.alloc {B : Nat} {a w : World} (h : Onl B a w) (o : Obj) : Onl B a (w.alloc o) := h.trans (World.grownBy_alloc w o (some B))
theorem Onl.drew {B : Nat} {a w : World} (h : Onl B a w) : Onl B a w.drew := h.trans ⟨rfl, rfl, rfl, Nat.le_refl _, fun _ _ _ => rfl⟩
theorem Onl.grown {B : Nat} {a w w' : World} {row : Option Nat} (h : Onl B a w) (hg : w.grownBy w' row) (hr : ∀ k, row = some k → a.heap.size ≤ k) : Onl B a w' :=
  ⟨hg.os.trans (World.grownBy.os h), hg.tape.trans (World.grownBy.tape h), hg.output.trans (World.grownBy.output h), Nat.le_trans h.size hg.size,
    fun i hi hn => (hg.block i (Nat.lt_of_lt_of_le hi h.size) (fun e => by have := hr i e.symm; omega)).trans (World.grownBy.block h i hi hn)⟩

structure DecS (B : Nat) (D : Nat → Nat) (nd : Nat) (dp : Int) (neg tr : Bool) (w : World) : Prop where
  dig : ∀ i, i < 800 → w.cell? ⟨B, i, none⟩ = some (.int .u8 (D i : Nat))
  byte : ∀ i, D i < 256
  nd : w.cell? ⟨B, 800, none⟩ = some (.int .i64 (nd : Nat))
  dp : w.cell? ⟨B, 801, none⟩ = some (.int .i64 dp)
  neg : w.cell? ⟨B, 802, none⟩ = some (.bool neg)
  tr : w.cell? ⟨B, 803, none⟩ = some (.bool tr)
  fr : ∀ i, w.frozen? ⟨B, i, none⟩ = false
section
variable {B : Nat} {D : Nat → Nat} {nd : Nat} {dp : Int} {neg tr : Bool} {w w' : World}
theorem ne_off {B i j : Nat} (h : i ≠ j) : (⟨B, i, none⟩ : Addr) ≠ ⟨B, j, none⟩ := fun e => h (Addr.mk.inj e).2.1
def put (D : Nat → Nat) (i c : Nat) (j : Nat) : Nat := if j = i then c else D j
theorem put_same (D : Nat → Nat) (i c : Nat) : put D i c i = c := by simp [put]
theorem put_other (D : Nat → Nat) {i j : Nat} (c : Nat) (h : j ≠ i) : put D i c j = D j := by simp [put, h]
theorem DecS.setD (h : DecS B D nd dp neg tr w) {i : Nat} (hi : i < 800) {c : Nat} (hc : c < 256) : DecS B (put D i c) nd dp neg tr (w.setCell ⟨B, i, none⟩ (.int .u8 (c : Nat))) := by
  refine ⟨fun j hj => ?_, fun j => ?_, ?_, ?_, ?_, ?_, fun j => ?_⟩
  · by_cases e : j = i
    · subst e; rw [World.cell?_setCell_same _ _ _ (h.dig j hj), put_same]
    · rw [World.cell?_setCell_other _ _ _ _ (ne_off (Ne.symm e)), put_other _ _ e]; exact h.dig j hj
  · by_cases e : j = i
    · subst e; rw [put_same]; exact hc
    · rw [put_other _ _ e]; exact h.byte j
  · rw [World.cell?_setCell_other _ _ _ _ (ne_off (by omega))]; exact h.nd
  · rw [World.cell?_setCell_other _ _ _ _ (ne_off (by omega))]; exact h.dp
  · rw [World.cell?_setCell_other _ _ _ _ (ne_off (by omega))]; exact h.neg
  · rw [World.cell?_setCell_other _ _ _ _ (ne_off (by omega))]; exact h.tr
  · rw [World.frozen?_setCell]; exact h.fr j
theorem DecS.setNd (h : DecS B D nd dp neg tr w) (n : Nat) : DecS B D n dp neg tr (w.setCell ⟨B, 800, none⟩ (.int .i64 (n : Nat))) := by
  refine ⟨fun j hj => ?_, h.byte, World.cell?_setCell_same _ _ _ h.nd, ?_, ?_, ?_, fun j => ?_⟩
  · rw [World.cell?_setCell_other _ _ _ _ (ne_off (by omega))]; exact h.dig j hj
  · rw [World.cell?_setCell_other _ _ _ _ (ne_off (by omega))]; exact h.dp
  · rw [World.cell?_setCell_other _ _ _ _ (ne_off (by omega))]; exact h.neg
  · rw [World.cell?_setCell_other _ _ _ _ (ne_off (by omega))]; exact h.tr
  · rw [World.frozen?_setCell]; exact h.fr j
theorem DecS.setDp (h : DecS B D nd dp neg tr w) (n : Int) : DecS B D nd n neg tr (w.setCell ⟨B, 801, none⟩ (.int .i64 n)) := by
  refine ⟨fun j hj => ?_, h.byte, ?_, World.cell?_setCell_same _ _ _ h.dp, ?_, ?_, fun j => ?_⟩
  · rw [World.cell?_setCell_other _ _ _ _ (ne_off (by omega))]; exact h.dig j hj
  · rw [World.cell?_setCell_other _ _ _ _ (ne_off (by omega))]; exact h.nd
  · rw [World.cell?_setCell_other _ _ _ _ (ne_off (by omega))]; exact h.neg
  · rw [World.cell?_setCell_other _ _ _ _ (ne_off (by omega))]; exact h.tr
  · rw [World.frozen?_setCell]; exact h.fr j
theorem DecS.setNeg (h : DecS B D nd dp neg tr w) (b : Bool) : DecS B D nd dp b tr (w.setCell ⟨B, 802, none⟩ (.bool b)) := by
  refine ⟨fun j hj => ?_, h.byte, ?_, ?_, World.cell?_setCell_same _ _ _ h.neg, ?_, fun j => ?_⟩
  · rw [World.cell?_setCell_other _ _ _ _ (ne_off (by omega))]; exact h.dig j hj
  · rw [World.cell?_setCell_other _ _ _ _ (ne_off (by omega))]; exact h.nd
  · rw [World.cell?_setCell_other _ _ _ _ (ne_off (by omega))]; exact h.dp
  · rw [World.cell?_setCell_other _ _ _ _ (ne_off (by omega))]; exact h.tr
  · rw [World.frozen?_setCell]; exact h.fr j
theorem DecS.setTr (h : DecS B D nd dp neg tr w) (b : Bool) : DecS B D nd dp neg b (w.setCell ⟨B, 803, none⟩ (.bool b)) := by
  refine ⟨fun j hj => ?_, h.byte, ?_, ?_, ?_, World.cell?_setCell_same _ _ _ h.tr, fun j => ?_⟩
  · rw [World.cell?_setCell_other _ _ _ _ (ne_off (by omega))]; exact h.dig j hj
  · rw [World.cell?_setCell_other _ _ _ _ (ne_off (by omega))]; exact h.nd
  · rw [World.cell?_setCell_other _ _ _ _ (ne_off (by omega))]; exact h.dp
  · rw [World.cell?_setCell_other _ _ _ _ (ne_off (by omega))]; exact h.neg
  · rw [World.frozen?_setCell]; exact h.fr j
theorem DecS.lt (h : DecS B D nd dp neg tr w) : B < w.heap.size := World.block_lt_of_cell? w _ h.nd
theorem DecS.drew (h : DecS B D nd dp neg tr w) : DecS B D nd dp neg tr w.drew := ⟨h.dig, h.byte, h.nd, h.dp, h.neg, h.tr, h.fr⟩
theorem DecS.keep (h : DecS B D nd dp neg tr w) (hb : Below w.heap.size w w') : DecS B D nd dp neg tr w' := by
  have c : ∀ i, w'.cell? ⟨B, i, none⟩ = w.cell? ⟨B, i, none⟩ := fun i => hb.cell (p := ⟨B, i, none⟩) (by exact h.lt)
  exact ⟨fun i hi => (c i).trans (h.dig i hi), h.byte, (c _).trans h.nd, (c _).trans h.dp, (c _).trans h.neg, (c _).trans h.tr, fun i => (World.frozen?_of_block (a := ⟨B, i, none⟩) (hb.block B h.lt)).trans (h.fr i)⟩
/-- How many digits a decimal has, as the memory tells it. -/
def ndOf (B : Nat) (w : World) : Nat := match w.cell? ⟨B, 800, none⟩ with | some (.int _ n) => n.toNat | _ => 0
theorem DecS.ndOf (h : DecS B D nd dp neg tr w) : ndOf B w = nd := by unfold Go.Proofs.YtpbombkmnfbcgaaGreatDoor.ndOf; rw [h.nd]; simp
end

theorem wi64 {z : Int} (h1 : -9223372036854775808 ≤ z) (h2 : z < 9223372036854775808) : IntKind.i64.wrap z = z := by rw [IntKind.wrap_i64]; omega
theorem wu64 {z : Int} (h1 : 0 ≤ z) (h2 : z < 18446744073709551616) : IntKind.u64.wrap z = z := by rw [IntKind.wrap_u64]; omega
theorem beq_ne {a b : Int} (h : a ≠ b) : (a == b) = false := by simp [h]

set_option maxRecDepth 100000 in
set_option maxHeartbeats 1600000 in
theorem trim_any (B : Nat) (D : Nat → Nat) (nd : Nat) (dp : Int) (neg tr : Bool) (w : World) (h : DecS B D nd dp neg tr w) (hnd : nd ≤ 800) :
    Calls Tryz.prog 78 #[.pointer (some ⟨B, 0, none⟩)] w fun e w' => e = .returned (.tuple #[]) ∧ ∃ nd' dp', DecS B D nd' dp' neg tr w' ∧ nd' ≤ nd ∧ (1 ≤ nd → D 0 ≠ 48 → 1 ≤ nd' ∧ dp' = dp) ∧ Onl B w w' := by
  go_enter Tryz.func78, Tryz.ntmps78
  go_wp2_with (fail)
  go_loopw [] (fun wr => ∃ k : Nat, k ≤ nd ∧ (1 ≤ nd → D 0 ≠ 48 → 1 ≤ k) ∧ DecS B D k dp neg tr wr ∧ Onl B w wr) (fun wr => ndOf B wr)
  case atStart => exact ⟨nd, Nat.le_refl _, fun h _ => h, h, Onl.refl _ _⟩
  case round =>
    obtain ⟨k, hk, h1, hS, hO⟩ := hrel
    have cN := hS.nd
    have cP := hS.dp
    have fN := hS.fr 800
    have fP := hS.fr 801
    have hSH : Hid (DecS B D k dp neg tr wr) := hS
    have hOH : Hid (Onl B w wr) := hO
    have hnk := hS.ndOf
    clear hS hO
    have hm : Tryz.prog.follows .mixedOrders = true := by kernel_rfl
    rcases Nat.eq_zero_or_pos k with rfl | hpos
    · have h0 : ¬ (1 ≤ nd ∧ D 0 ≠ 48) := fun ⟨a, b⟩ => by have := h1 a b; omega
      go_wp2_with (fail)
      refine Go.Ev.wp_region_plan (fun v => v = wr.drew) [.pointer (some ⟨B, 0, none⟩), .pointer (some ⟨B, 0, none⟩), .pointer (some ⟨B, 800, none⟩), .int .i64 0, .bool false, .bool false, undef, undef, undef, undef, undef, undef, undef, undef, undef, undef, undef, .bool false] hm (by kernel_rfl) (by kernel_rfl) rfl ?_
      iterate 18
        refine ⟨by rintro v K rfl hK; go_simp; exact hK _ rfl, ?_⟩
        simp only [Act.put, List.setIfInBounds_toArray, List.set_cons_succ, List.set_cons_zero, List.headD_cons, List.tail_cons]
      rintro w1 rfl
      go_wp2_with (fail)
      go_end0
      exact ⟨rfl, 0, 0, hSH.out.drew.setDp 0, hk, fun a b => absurd ⟨a, b⟩ h0, hOH.out.drew.setCell rfl _⟩
    · obtain ⟨m, rfl⟩ : ∃ m, k = m + 1 := ⟨k - 1, by omega⟩
      have hm8 : m < 800 := by omega
      have cD := hSH.out.dig m hm8
      have hmi : (m : Int) < 800 := by omega
      have hwm : IntKind.i64.wrap (m : Int) = (m : Int) := wi64 (by omega) (by omega)
      by_cases h48 : D m = 48
      · rw [h48] at cD
        go_wp2_with (fail)
        refine Go.Ev.wp_region_plan (fun v => v = wr.drew) [.pointer (some ⟨B, 0, none⟩), .pointer (some ⟨B, 0, none⟩), .pointer (some ⟨B, 800, none⟩), .int .i64 ((m + 1 : Nat) : Int), .bool true, .bool true, .pointer (some ⟨B, 0, none⟩), .pointer (some ⟨B, 0, none⟩), .pointer (some ⟨B, 0, none⟩), .pointer (some ⟨B, 800, none⟩), .int .i64 ((m + 1 : Nat) : Int), .int .i64 (m : Nat), .pointer (some ⟨B, 0, none⟩), .pointer (some ⟨B, 0, none⟩), .pointer (some ⟨B, m, none⟩), .int .u8 48, .bool true, .bool true] hm (by kernel_rfl) (by kernel_rfl) rfl ?_
        iterate 18
          refine ⟨by rintro v K rfl hK; go_simp; exact hK _ rfl, ?_⟩
          simp only [Act.put, List.setIfInBounds_toArray, List.set_cons_succ, List.set_cons_zero, List.headD_cons, List.tail_cons]
        rintro w1 rfl
        go_wp2_with (fail)
        go_roundw
        case rel => exact ⟨m, by omega, fun a b => by rcases Nat.eq_zero_or_pos m with rfl | h; exact absurd h48 b; exact h, (hSH.out.setNd m).drew, (hOH.out.setCell rfl _).drew⟩
        case measure =>
          rw [hnk, (hSH.out.setNd m).drew.ndOf]
          omega
      · have hne : (((D m : Nat) : Int) == 48) = false := beq_ne (by omega)
        go_wp2_with (fail)
        refine Go.Ev.wp_region_plan (fun v => v = wr.drew) [.pointer (some ⟨B, 0, none⟩), .pointer (some ⟨B, 0, none⟩), .pointer (some ⟨B, 800, none⟩), .int .i64 ((m + 1 : Nat) : Int), .bool true, .bool true, .pointer (some ⟨B, 0, none⟩), .pointer (some ⟨B, 0, none⟩), .pointer (some ⟨B, 0, none⟩), .pointer (some ⟨B, 800, none⟩), .int .i64 ((m + 1 : Nat) : Int), .int .i64 (m : Nat), .pointer (some ⟨B, 0, none⟩), .pointer (some ⟨B, 0, none⟩), .pointer (some ⟨B, m, none⟩), .int .u8 (D m : Nat), .bool false, .bool false] hm (by kernel_rfl) (by kernel_rfl) rfl ?_
        iterate 18
          refine ⟨by rintro v K rfl hK; go_simp; exact hK _ rfl, ?_⟩
          simp only [Act.put, List.setIfInBounds_toArray, List.set_cons_succ, List.set_cons_zero, List.headD_cons, List.tail_cons]
        rintro w1 rfl
        go_wp2_with (fail)
        go_end0
        exact ⟨rfl, m + 1, dp, hSH.out.drew, hk, fun a b => ⟨by omega, rfl⟩, hOH.out.drew⟩
end Go.Proofs.YtpbombkmnfbcgaaGreatDoor
