/- The bits of the float that a decimal of some digits is. Printed by genflb.py. -/
import Derived.Test.YtpbombkmnfbcgaaGreatDoorFlb
namespace Go.Proofs.YtpbombkmnfbcgaaGreatDoor
open Go.RowKit

set_option maxRecDepth 100000 in
set_option maxHeartbeats 3200000 in
theorem flb_far (N B : Nat) (D : Nat → Nat) (nd : Nat) (dp : Int) (neg tr : Bool) (w : World) (hS : DecS B D nd dp neg tr w) (hF : FltAt N w) (h1 : 1 ≤ nd) (hfar : 310 < dp ∨ dp < -330) :
    Calls Tryz.prog 57 #[.pointer (some ⟨B, 0, none⟩), .pointer (some ⟨5, 0, none⟩)] w fun e w' => IsUB e ∧ Onl B w w' := by
  have cN := hS.nd
  have cP := hS.dp
  have cG := hS.neg
  have f0 := hF.m
  have f1 := hF.e
  have f2 := hF.b
  have hm : Tryz.prog.follows .mixedOrders = true := by kernel_rfl
  have hnz : ((nd : Int) == 0) = false := beq_ne (by omega)
  clear hS hF
  rcases hfar with hfar | hfar
  · go_enter Tryz.func57, Tryz.ntmps57
    go_wp2_with (refine wp_scope_inline 2 ?_)
    refine wp_goto ?_
    refine ⟨_, rfl, ?_⟩
    go_wp2_with (fail)
    refine Go.Ev.wp_region_plan (fun v => v = w.drew) [.pointer (some ⟨5, 0, none⟩), .pointer (some ⟨5, 0, none⟩), .pointer (some ⟨5, 1, none⟩), .int .u64 11, .int .i64 2048, .int .i64 2047, .pointer (some ⟨5, 0, none⟩), .pointer (some ⟨5, 0, none⟩), .pointer (some ⟨5, 2, none⟩), .int .i64 (-1023), .int .i64 1024, .int .i64 1024] hm (by kernel_rfl) (by kernel_rfl) rfl ?_
    iterate 12
      refine ⟨by rintro v K rfl hK; go_simp; exact hK _ rfl, ?_⟩
      simp only [Act.put, List.setIfInBounds_toArray, List.set_cons_succ, List.set_cons_zero, List.headD_cons, List.tail_cons]
    rintro w1 rfl
    go_wp2_with (fail)
    refine wp_label ?_
    obtain ⟨m0, hm0, em0⟩ := bitsU .and (0) 4503599627370495
    obtain ⟨z0, ez0⟩ : ∃ z0, bits .and .i64 (2047) 2047 = z0 := ⟨_, rfl⟩
    obtain ⟨n1, hn1, en1⟩ := wrapU z0
    obtain ⟨n2, hn2, en2⟩ := wrapU ((n1 : Int) * 4503599627370496)
    obtain ⟨n3, hn3, en3⟩ := bitsU .or (m0 : Int) (n2 : Int)
    obtain ⟨n4, hn4, en4⟩ := bitsU .or (n3 : Int) 9223372036854775808
    go_wp2_with (fail)
    refine Go.Ev.wp_region_plan (fun v => v = w.drew.drew) [.int .u64 (m0 : Nat), .int .i64 (1024), .pointer (some ⟨5, 0, none⟩), .pointer (some ⟨5, 0, none⟩), .pointer (some ⟨5, 2, none⟩), .int .i64 (-1023), .int .i64 (2047), .pointer (some ⟨5, 0, none⟩), .pointer (some ⟨5, 0, none⟩), .pointer (some ⟨5, 1, none⟩), .int .u64 11, .int .i64 2048, .int .i64 2047, .int .i64 z0, .int .u64 (n1 : Nat), .pointer (some ⟨5, 0, none⟩), .pointer (some ⟨5, 0, none⟩), .pointer (some ⟨5, 0, none⟩), .int .u64 52, .int .u64 (n2 : Nat), .int .u64 (n3 : Nat), .int .u64 (n3 : Nat)] hm (by kernel_rfl) (by kernel_rfl) rfl ?_
    iterate 22
      refine ⟨by rintro v K rfl hK; go_simp; exact hK _ rfl, ?_⟩
      simp only [Act.put, List.setIfInBounds_toArray, List.set_cons_succ, List.set_cons_zero, List.headD_cons, List.tail_cons]
    rintro w1 rfl
    cases neg
    all_goals go_wp2_with (fail)
    · refine jumps_ret ?_
      go_ret2
      exact ⟨⟨n3, true, hn3, rfl⟩, (Onl.refl B w).drew.drew⟩
    · refine Go.Ev.wp_region_plan (fun v => v = w.drew.drew.drew) [.int .u64 (n3 : Nat), .pointer (some ⟨5, 0, none⟩), .pointer (some ⟨5, 0, none⟩), .pointer (some ⟨5, 0, none⟩), .int .u64 52, .int .u64 4503599627370496, .pointer (some ⟨5, 0, none⟩), .pointer (some ⟨5, 0, none⟩), .pointer (some ⟨5, 1, none⟩), .int .u64 11, .int .u64 9223372036854775808, .int .u64 (n4 : Nat), .int .u64 (n4 : Nat)] hm (by kernel_rfl) (by kernel_rfl) rfl ?_
      iterate 13
        refine ⟨by rintro v K rfl hK; go_simp; exact hK _ rfl, ?_⟩
        simp only [Act.put, List.setIfInBounds_toArray, List.set_cons_succ, List.set_cons_zero, List.headD_cons, List.tail_cons]
      rintro w1 rfl
      go_wp2_with (fail)
      refine jumps_ret ?_
      go_ret2
      exact ⟨⟨n4, true, hn4, rfl⟩, (Onl.refl B w).drew.drew.drew⟩
  · have hb : (310 < dp) = False := by simp; omega
    go_enter Tryz.func57, Tryz.ntmps57
    go_wp2_with (refine wp_scope_inline 2 ?_)
    refine wp_goto ?_
    refine ⟨_, rfl, ?_⟩
    obtain ⟨m0, hm0, em0⟩ := bitsU .and (0) 4503599627370495
    obtain ⟨z0, ez0⟩ : ∃ z0, bits .and .i64 (0) 2047 = z0 := ⟨_, rfl⟩
    obtain ⟨n1, hn1, en1⟩ := wrapU z0
    obtain ⟨n2, hn2, en2⟩ := wrapU ((n1 : Int) * 4503599627370496)
    obtain ⟨n3, hn3, en3⟩ := bitsU .or (m0 : Int) (n2 : Int)
    obtain ⟨n4, hn4, en4⟩ := bitsU .or (n3 : Int) 9223372036854775808
    go_wp2_with (fail)
    refine Go.Ev.wp_region_plan (fun v => v = w.drew) [.int .u64 (m0 : Nat), .int .i64 (-1023), .pointer (some ⟨5, 0, none⟩), .pointer (some ⟨5, 0, none⟩), .pointer (some ⟨5, 2, none⟩), .int .i64 (-1023), .int .i64 (0), .pointer (some ⟨5, 0, none⟩), .pointer (some ⟨5, 0, none⟩), .pointer (some ⟨5, 1, none⟩), .int .u64 11, .int .i64 2048, .int .i64 2047, .int .i64 z0, .int .u64 (n1 : Nat), .pointer (some ⟨5, 0, none⟩), .pointer (some ⟨5, 0, none⟩), .pointer (some ⟨5, 0, none⟩), .int .u64 52, .int .u64 (n2 : Nat), .int .u64 (n3 : Nat), .int .u64 (n3 : Nat)] hm (by kernel_rfl) (by kernel_rfl) rfl ?_
    iterate 22
      refine ⟨by rintro v K rfl hK; go_simp; exact hK _ rfl, ?_⟩
      simp only [Act.put, List.setIfInBounds_toArray, List.set_cons_succ, List.set_cons_zero, List.headD_cons, List.tail_cons]
    rintro w1 rfl
    cases neg
    all_goals go_wp2_with (fail)
    · refine jumps_ret ?_
      go_ret2
      exact ⟨⟨n3, false, hn3, rfl⟩, (Onl.refl B w).drew⟩
    · refine Go.Ev.wp_region_plan (fun v => v = w.drew.drew) [.int .u64 (n3 : Nat), .pointer (some ⟨5, 0, none⟩), .pointer (some ⟨5, 0, none⟩), .pointer (some ⟨5, 0, none⟩), .int .u64 52, .int .u64 4503599627370496, .pointer (some ⟨5, 0, none⟩), .pointer (some ⟨5, 0, none⟩), .pointer (some ⟨5, 1, none⟩), .int .u64 11, .int .u64 9223372036854775808, .int .u64 (n4 : Nat), .int .u64 (n4 : Nat)] hm (by kernel_rfl) (by kernel_rfl) rfl ?_
      iterate 13
        refine ⟨by rintro v K rfl hK; go_simp; exact hK _ rfl, ?_⟩
        simp only [Act.put, List.setIfInBounds_toArray, List.set_cons_succ, List.set_cons_zero, List.headD_cons, List.tail_cons]
      rintro w1 rfl
      go_wp2_with (fail)
      refine jumps_ret ?_
      go_ret2
      exact ⟨⟨n4, false, hn4, rfl⟩, (Onl.refl B w).drew.drew⟩
end Go.Proofs.YtpbombkmnfbcgaaGreatDoor
