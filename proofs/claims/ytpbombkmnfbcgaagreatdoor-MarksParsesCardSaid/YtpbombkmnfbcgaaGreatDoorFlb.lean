/- The bits of the float that a decimal is. -/
import Derived.Test.YtpbombkmnfbcgaaGreatDoorRin
import Derived.Test.YtpbombkmnfbcgaaGreatDoorJmp
namespace Go.Proofs.YtpbombkmnfbcgaaGreatDoor
open Go.RowKit

/-- The width of a float64, and the powers of two for powers of ten, in memory. -/
structure FltAt (N : Nat) (w : World) : Prop where
  m : w.cell? ⟨5, 0, none⟩ = some (.int .u64 52)
  e : w.cell? ⟨5, 1, none⟩ = some (.int .u64 11)
  b : w.cell? ⟨5, 2, none⟩ = some (.int .i64 (-1023))
  lt : 5 < N
theorem FltAt.keep {N : Nat} {w w' : World} (h : FltAt N w) (hb : Below N w w') : FltAt N w' :=
  ⟨(hb.cell (by exact h.lt)).trans h.m, (hb.cell (by exact h.lt)).trans h.e, (hb.cell (by exact h.lt)).trans h.b, h.lt⟩

/-- An answer of 64 bits, and yes or no. -/
def IsUB (e : Ending) : Prop := ∃ (n : Nat) (b : Bool), n < 18446744073709551616 ∧ e = .returned (.tuple #[.int .u64 (n : Nat), .bool b])

theorem bitsU (op : BinOp) (x y : Int) : ∃ n : Nat, n < 18446744073709551616 ∧ bits op .u64 x y = (n : Int) := by
  have h := wf_bits op .u64 x y
  simp [Lit.wf] at h
  obtain ⟨h1, h2⟩ := h
  have g1 : (IntKind.u64.min : Int) = 0 := by decide
  have g2 : (IntKind.u64.max : Int) = 18446744073709551615 := by decide
  rw [g1] at h1
  rw [g2] at h2
  exact ⟨(bits op .u64 x y).toNat, by omega, by omega⟩

set_option maxRecDepth 100000 in
set_option maxHeartbeats 1600000 in
theorem flb_zero (N B : Nat) (D : Nat → Nat) (dp : Int) (neg tr : Bool) (w : World) (hS : DecS B D 0 dp neg tr w) (hF : FltAt N w) :
    Calls Tryz.prog 57 #[.pointer (some ⟨B, 0, none⟩), .pointer (some ⟨5, 0, none⟩)] w fun e w' => IsUB e ∧ Below w.heap.size w w' := by
  have cN := hS.nd
  have cG := hS.neg
  have f0 := hF.m
  have f1 := hF.e
  have f2 := hF.b
  have hm : Tryz.prog.follows .mixedOrders = true := by kernel_rfl
  obtain ⟨m0, hm0, em0⟩ := bitsU .and 0 4503599627370495
  obtain ⟨z0, ez0⟩ : ∃ z0, bits .and .i64 0 2047 = z0 := ⟨_, rfl⟩
  obtain ⟨n1, hn1, en1⟩ := wrapU z0
  obtain ⟨n2, hn2, en2⟩ := wrapU ((n1 : Int) * 4503599627370496)
  obtain ⟨n3, hn3, en3⟩ := bitsU .or (m0 : Int) (n2 : Int)
  obtain ⟨n4, hn4, en4⟩ := bitsU .or (n3 : Int) 9223372036854775808
  clear hS hF
  go_enter Tryz.func57, Tryz.ntmps57
  go_wp2_with (refine wp_scope_inline 2 ?_)
  refine wp_goto ?_
  refine ⟨_, rfl, ?_⟩
  go_wp2_with (fail)
  refine Go.Ev.wp_region_plan (fun v => v = w.drew) [.int .u64 (m0 : Nat), .int .i64 (-1023), .pointer (some ⟨5, 0, none⟩), .pointer (some ⟨5, 0, none⟩), .pointer (some ⟨5, 2, none⟩), .int .i64 (-1023), .int .i64 0, .pointer (some ⟨5, 0, none⟩), .pointer (some ⟨5, 0, none⟩), .pointer (some ⟨5, 1, none⟩), .int .u64 11, .int .i64 2048, .int .i64 2047, .int .i64 z0, .int .u64 (n1 : Nat), .pointer (some ⟨5, 0, none⟩), .pointer (some ⟨5, 0, none⟩), .pointer (some ⟨5, 0, none⟩), .int .u64 52, .int .u64 (n2 : Nat), .int .u64 (n3 : Nat), .int .u64 (n3 : Nat)] hm (by kernel_rfl) (by kernel_rfl) rfl ?_
  iterate 22
    refine ⟨by rintro v K rfl hK; go_simp; exact hK _ rfl, ?_⟩
    simp only [Act.put, List.setIfInBounds_toArray, List.set_cons_succ, List.set_cons_zero, List.headD_cons, List.tail_cons]
  rintro w1 rfl
  cases neg
  all_goals go_wp2_with (fail)
  · refine jumps_ret ?_
    go_ret2
    exact ⟨⟨n3, false, hn3, rfl⟩, (Below.refl _ _).drew⟩
  · refine Go.Ev.wp_region_plan (fun v => v = w.drew.drew) [.int .u64 (n3 : Nat), .pointer (some ⟨5, 0, none⟩), .pointer (some ⟨5, 0, none⟩), .pointer (some ⟨5, 0, none⟩), .int .u64 52, .int .u64 4503599627370496, .pointer (some ⟨5, 0, none⟩), .pointer (some ⟨5, 0, none⟩), .pointer (some ⟨5, 1, none⟩), .int .u64 11, .int .u64 9223372036854775808, .int .u64 (n4 : Nat), .int .u64 (n4 : Nat)] hm (by kernel_rfl) (by kernel_rfl) rfl ?_
    iterate 13
      refine ⟨by rintro v K rfl hK; go_simp; exact hK _ rfl, ?_⟩
      simp only [Act.put, List.setIfInBounds_toArray, List.set_cons_succ, List.set_cons_zero, List.headD_cons, List.tail_cons]
    rintro w1 rfl
    go_wp2_with (fail)
    refine jumps_ret ?_
    go_ret2
    exact ⟨⟨n4, false, hn4, rfl⟩, (Below.refl _ _).drew.drew⟩
end Go.Proofs.YtpbombkmnfbcgaaGreatDoor
