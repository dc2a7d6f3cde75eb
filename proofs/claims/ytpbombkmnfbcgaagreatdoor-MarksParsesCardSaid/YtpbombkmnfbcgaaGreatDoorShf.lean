/- A decimal is shifted, either way. -/
import Derived.Test.YtpbombkmnfbcgaaGreatDoorRsh
namespace Go.Proofs.YtpbombkmnfbcgaaGreatDoor
open Go.RowKit

set_option maxRecDepth 100000 in
set_option maxHeartbeats 1600000 in
theorem shl_any (N B : Nat) (D : Nat → Nat) (nd : Nat) (dp : Int) (neg tr : Bool) (k : Nat) (w : World) (hS : DecS B D nd dp neg tr w) (hC : CheatsAt N w) (hNB : N ≤ B) (hD : Digs D nd) (h0 : D 0 ≠ 48) (h1 : 1 ≤ nd) (h8 : nd ≤ 800) (hk : 1 ≤ k) (hk60 : k ≤ 60) (hdp1 : -1000000000 ≤ dp) (hdp2 : dp ≤ 1000000000) :
    Calls Tryz.prog 46 #[.pointer (some ⟨B, 0, none⟩), .int .i64 (k : Nat)] w fun e w' => e = .returned (.tuple #[]) ∧ ∃ D' nd' e' tr', DecS B D' nd' (dp + (e' : Nat)) neg tr' w' ∧ Digs D' nd' ∧ D' 0 ≠ 48 ∧ 1 ≤ nd' ∧ nd' ≤ 800 ∧
      (e' = chD k ∧ 5 ^ k * 10 ^ nd ≤ num D nd * 10 ^ (chC k).length ∨ e' + 1 = chD k ∧ num D nd * 10 ^ (chC k).length < 5 ^ k * 10 ^ nd) ∧ (e' = 0 → 2 ^ k * (D 0 - 48) ≤ D' 0 - 48) ∧ Onl B w w' := by
  have cN := hS.nd
  have hnz : ((nd : Int) == 0) = false := beq_ne (by omega)
  have hcall : Hid _ := .mk (lsh_any N B D nd dp neg tr k w hS hC hNB hD h0 h1 h8 hk hk60 hdp1 hdp2)
  have hkp : 0 < k := hk
  have hki : (k : Int) ≤ 60 := by omega
  have hwk : IntKind.u64.wrap (k : Int) = (k : Int) := wu64 (by omega) (by omega)
  clear hS hC hD
  go_enter Tryz.func46, Tryz.ntmps46
  go_wp2_with (fail)
  go_loopw [1] (fun x wr => wr = w ∧ x = .int .i64 (k : Nat)) (fun _ _ => 0)
  case atStart => exact ⟨rfl, rfl⟩
  case round =>
    obtain ⟨rfl, rfl⟩ := hrel
    have hk6 : ((60 : Int) < (k : Int)) = False := by simp; omega
    go_wp2_with (fail)
    go_at_call 79
    refine hcall.out.mono ?_
    rintro e w1 ⟨rfl, hrest⟩
    go_wp2_with (fail)
    go_end0
    exact ⟨rfl, hrest⟩

set_option maxRecDepth 100000 in
set_option maxHeartbeats 1600000 in
theorem shr1_any (B : Nat) (D : Nat → Nat) (nd : Nat) (dp : Int) (neg tr : Bool) (k : Nat) (w : World) (hS : DecS B D nd dp neg tr w) (hD : Digs D nd) (h0 : D 0 ≠ 48) (h1 : 1 ≤ nd) (h8 : nd ≤ 800) (hk : 1 ≤ k) (hk60 : k ≤ 60) (hdp1 : -1000000000 ≤ dp) (hdp2 : dp ≤ 1000000000) :
    Calls Tryz.prog 46 #[.pointer (some ⟨B, 0, none⟩), .int .i64 (-(k : Nat) : Int)] w fun e w' => e = .returned (.tuple #[]) ∧ ∃ D' nd' r n tr', DecS B D' nd' (dp - ((r : Nat) - 1)) neg tr' w' ∧ Digs D' nd' ∧ D' 0 ≠ 48 ∧ 1 ≤ nd' ∧ nd' ≤ 800 ∧
      1 ≤ r ∧ r ≤ 30 ∧ 2 ^ k ≤ n ∧ n < 10 ^ r ∧ (r = 1 → n + 48 = D 0) ∧ D' 0 = 48 + n / 2 ^ k ∧ Onl B w w' := by
  have cN := hS.nd
  have hnz : ((nd : Int) == 0) = false := beq_ne (by omega)
  have hcall : Hid _ := .mk (rsh_any B D nd dp neg tr k w hS hD h0 h1 h8 hk hk60 hdp1 hdp2)
  have hkp : 0 < k := hk
  have hki : (k : Int) ≤ 60 := by omega
  have hwk : IntKind.u64.wrap (k : Int) = (k : Int) := wu64 (by omega) (by omega)
  have hng : ((0 : Int) < -(k : Int)) = False := by simp
  have hng2 : (-(k : Int) < 0) = True := by simp; omega
  clear hS hD
  go_enter Tryz.func46, Tryz.ntmps46
  go_wp2_with (fail)
  go_loopw [1] (fun x wr => wr = w ∧ x = .int .i64 (-(k : Nat) : Int)) (fun _ _ => 0)
  case atStart => exact ⟨rfl, rfl⟩
  case round =>
    obtain ⟨rfl, rfl⟩ := hrel
    have hk6 : (-(k : Int) < -60) = False := by simp; omega
    have hneg : IntKind.i64.wrap (k : Int) = (k : Int) := wi64 (by omega) (by omega)
    go_wp2_with (fail)
    go_at_call 80
    refine hcall.out.mono ?_
    rintro e w1 ⟨rfl, hrest⟩
    go_wp2_with (fail)
    go_end0
    exact ⟨rfl, hrest⟩

set_option maxRecDepth 100000 in
set_option maxHeartbeats 1600000 in
theorem shrN_any (B : Nat) (D : Nat → Nat) (nd : Nat) (dp : Int) (neg tr : Bool) (k : Nat) (w : World) (hS : DecS B D nd dp neg tr w) (hD : Digs D nd) (h0 : D 0 ≠ 48) (h1 : 1 ≤ nd) (h8 : nd ≤ 800) (hk : 1 ≤ k) (hk60 : k ≤ 500000) (hdp1 : -500000000 ≤ dp) (hdp2 : dp ≤ 500000000) :
    Calls Tryz.prog 46 #[.pointer (some ⟨B, 0, none⟩), .int .i64 (-(k : Nat) : Int)] w fun e w' => e = .returned (.tuple #[]) ∧ ∃ D' nd' dp' tr', DecS B D' nd' dp' neg tr' w' ∧ Digs D' nd' ∧ D' 0 ≠ 48 ∧ 1 ≤ nd' ∧ nd' ≤ 800 ∧ dp' ≤ dp ∧ dp - (k : Nat) - 30 ≤ dp' ∧ Onl B w w' := by
  have cN := hS.nd
  have hnz : ((nd : Int) == 0) = false := beq_ne (by omega)
  have hSH : Hid (DecS B D nd dp neg tr w) := .mk hS
  have hDH : Hid (Digs D nd) := .mk hD
  have hkp : 0 < k := hk
  have hng : ((0 : Int) < -(k : Int)) = False := by simp
  have hng2 : (-(k : Int) < 0) = True := by simp; omega
  clear hS hD
  go_enter Tryz.func46, Tryz.ntmps46
  go_wp2_with (fail)
  go_loopw [1] (fun x wr => ∃ m D1 nd1 dp1 tr1, 1 ≤ m ∧ m ≤ k ∧ x = .int .i64 (-(m : Nat) : Int) ∧ DecS B D1 nd1 dp1 neg tr1 wr ∧ Digs D1 nd1 ∧ D1 0 ≠ 48 ∧ 1 ≤ nd1 ∧ nd1 ≤ 800 ∧ dp1 ≤ dp ∧ dp - ((k : Nat) - (m : Nat)) ≤ dp1 ∧ Onl B w wr) (fun x _ => (-(intOf x)).toNat)
  case atStart => exact ⟨k, D, nd, dp, tr, hk, Nat.le_refl _, rfl, hSH.out, hDH.out, h0, h1, h8, Int.le_refl _, by omega, Onl.refl _ _⟩
  case round =>
    obtain ⟨m, D1, nd1, dp1, tr1, hm1, hmk, rfl, hD1, hg1, h01, h11, h81, hle, hge, hO⟩ := hrel
    have hOH : Hid (Onl B w wr) := .mk hO
    by_cases h60 : 60 < m
    · have hcall : Hid _ := .mk (rsh_any B D1 nd1 dp1 neg tr1 60 wr hD1 hg1 h01 h11 h81 (by omega) (by omega) (by omega) (by omega))
      have hk6 : (-(m : Int) < -60) = True := by simp; omega
      clear hD1 hg1 hO
      go_wp2_with (fail)
      go_at_call 80
      refine hcall.out.mono ?_
      rintro e w1 ⟨rfl, D2, nd2, r, n, tr2, hD2, hg2, h02, h12, h82, hr1, hr30, _, _, _, _, hO2⟩
      have hD2H : Hid (DecS B D2 nd2 (dp1 - ((r : Nat) - 1)) neg tr2 w1) := .mk hD2
      have hg2H : Hid (Digs D2 nd2) := .mk hg2
      have hO2H : Hid (Onl B wr w1) := .mk hO2
      clear hD2 hg2 hO2
      go_wp2_with (fail)
      exact ⟨⟨m - 60, D2, nd2, _, tr2, by omega, by omega, congrArg _ (by omega), hD2H.out, hg2H.out, h02, h12, h82, by omega, by omega, hOH.out.trans hO2H.out⟩, by simp [intOf]; omega⟩
    · have hcall : Hid _ := .mk (rsh_any B D1 nd1 dp1 neg tr1 m wr hD1 hg1 h01 h11 h81 hm1 (by omega) (by omega) (by omega))
      have hk6 : (-(m : Int) < -60) = False := by simp; omega
      have hneg : IntKind.i64.wrap (m : Int) = (m : Int) := wi64 (by omega) (by omega)
      have hwk : IntKind.u64.wrap (m : Int) = (m : Int) := wu64 (by omega) (by omega)
      clear hD1 hg1 hO
      go_wp2_with (fail)
      go_at_call 80
      refine hcall.out.mono ?_
      rintro e w1 ⟨rfl, D2, nd2, r, n, tr2, hD2, hg2, h02, h12, h82, hr1, hr30, _, _, _, _, hO2⟩
      have hD2H : Hid (DecS B D2 nd2 (dp1 - ((r : Nat) - 1)) neg tr2 w1) := .mk hD2
      have hg2H : Hid (Digs D2 nd2) := .mk hg2
      have hO2H : Hid (Onl B wr w1) := .mk hO2
      clear hD2 hg2 hO2
      go_wp2_with (fail)
      go_end0
      exact ⟨rfl, D2, nd2, _, tr2, hD2H.out, hg2H.out, h02, h12, h82, by omega, by omega, hOH.out.trans hO2H.out⟩
end Go.Proofs.YtpbombkmnfbcgaaGreatDoor
