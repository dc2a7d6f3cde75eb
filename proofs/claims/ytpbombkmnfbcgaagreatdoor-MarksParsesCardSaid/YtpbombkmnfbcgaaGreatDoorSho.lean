/- The shortest digits of a float: some digits, the same in every world. Printed by gensho.py. -/
import Derived.Test.YtpbombkmnfbcgaaGreatDoorPfl
namespace Go.Proofs.YtpbombkmnfbcgaaGreatDoor
open Go.RowKit

theorem and1 (x : Int) : ∃ k : Nat, k ≤ 1 ∧ bits .and .i64 x 1 = (k : Int) := by
  refine ⟨(BitVec.ofInt 64 x).toNat &&& 1, ?_, ?_⟩
  · have := Nat.and_le_right (n := (BitVec.ofInt 64 x).toNat) (m := 1); omega
  · have h2 : (BitVec.ofInt 64 (1 : Int)).toNat = 1 := by decide
    show IntKind.i64.wrap ((BitVec.ofInt 64 x &&& BitVec.ofInt 64 1).toNat : Int) = _
    rw [BitVec.toNat_and, h2]
    have := Nat.and_le_right (n := (BitVec.ofInt 64 x).toNat) (m := 1)
    exact wi64 (by omega) (by omega)

/-- Digits and a power of ten, in every world in which the table of powers is so. -/
def ShoSays (tH tL : Nat → Nat) (N m : Nat) (e : Int) (d : Nat) (p : Int) : Prop := ∀ w : World, TabAt tH tL N w → N ≤ w.heap.size →
  Calls Tryz.prog 48 #[.int .u64 (m : Nat), .int .i64 e] w fun r w' => r = .returned (.tuple #[.int .u64 (d : Nat), .int .i64 p]) ∧ Below w.heap.size w w'

set_option maxRecDepth 100000 in
set_option maxHeartbeats 6400000 in
theorem sho_b (tH tL : Nat → Nat) (N : Nat) (m : Nat) (e : Int) (hm1 : 9223372036854775808 < m) (hm2 : m < 18446744073709551616) (h1 : -1085 ≤ e) (he1 : -1137 ≤ e) (he2 : e ≤ 960) (hH : ∀ i, i < 696 → tH i < 18446744073709551616) (hL : ∀ i, i < 696 → tL i < 18446744073709551616) : ∃ (d : Nat) (p : Int), d < 18446744073709551616 ∧ -370 ≤ p ∧ p ≤ 370 ∧ ShoSays tH tL N m e d p := by
  have hcb : ((m : Int) == 9223372036854775808) = false := beq_ne (by omega)
  obtain ⟨mx, hmx, emx⟩ := wrapU ((m : Int) + 1024)
  obtain ⟨mn, hmn, emn⟩ : ∃ mn : Nat, mn < 18446744073709551616 ∧ (m : Int) - 1024 = (mn : Int) := ⟨m - 1024, by omega, by omega⟩
  obtain ⟨od, hod, eod⟩ := and1 ((m : Int) / 2048)
  have hodi : (od : Int) ≤ 1 := by omega
  obtain ⟨P, hP⟩ : ∃ P : Int, -((e + 11) * 78913 / 262144) = P := ⟨_, rfl⟩
  have hP1 : -340 ≤ P := by omega
  have hP2 : P ≤ 340 := by omega
  obtain ⟨n, hn⟩ : ∃ n : Nat, P = (n : Int) - 348 := ⟨(P + 348).toNat, by omega⟩
  have hn6 : n < 696 := by omega
  obtain ⟨lp, hlp⟩ : ∃ lp, P * 108853 / 32768 = lp := ⟨_, rfl⟩
  have hl1 : -2000 ≤ lp := by omega
  have hl2 : lp ≤ 2000 := by omega
  obtain ⟨r1, hr1⟩ := usc_any mn (tH n) (tL n) (-(e + lp + 3)) hmn (hH n hn6) (hL n hn6)
  obtain ⟨r2, hr2⟩ := usc_any mx (tH n) (tL n) (-(e + lp + 3)) hmx (hH n hn6) (hL n hn6)
  obtain ⟨r3, hr3⟩ := usc_any (m) (tH n) (tL n) (-(e + lp + 3)) (by omega) (hH n hn6) (hL n hn6)
  obtain ⟨k1, hk1, ek1⟩ := wrapU (IntKind.u64.wrap (r1 + (od : Int)) + 3)
  obtain ⟨k2, hk2, ek2⟩ := wrapU (IntKind.u64.wrap (r2 + IntKind.u64.wrap (-(od : Int))))
  obtain ⟨k3, hk3, ek3⟩ := wrapU (IntKind.u64.wrap (r3 + 1) + bits .and .u64 (r3 / 4) 1)
  have ml := fun w => l2p_any P w (by omega) (by omega)
  rw [hlp] at ml
  have mlH := Hid.mk ml
  have hr1H := Hid.mk hr1
  have hr2H := Hid.mk hr2
  have hr3H := Hid.mk hr3
  clear ml hlp hr1 hr2 hr3 hH hL
  by_cases hA : k1 / 4 ≤ k2 / 4 / 10 * 10
  · have hAi : ((k1 : Int) / 4 ≤ (k2 : Int) / 4 / 10 * 10) = True := eq_true (by omega)
    refine ⟨k2 / 4 / 10, -(P - 1), by omega, by omega, by omega, ?_⟩
    intro w hT hN
    have hpre := pre_any tH tL N w.heap.size e n lp (w.alloc (.cells #[.int .u64 0, .int .u64 0, .int .i64 0] 114)) (hT.keep ((Below.refl _ _).alloc hN _)) hN hn6 (by omega) (by omega) (by omega) (by omega)
      (.int .u64 0) (.int .u64 0) (.int .i64 0) (by simp [World.cell?_alloc_new]) (by simp [World.cell?_alloc_new]) (by simp [World.cell?_alloc_new]) (by simp [World.frozen?_alloc_new]) (by simp [World.frozen?_alloc_new]) (by simp [World.frozen?_alloc_new])
    rw [← hn] at hpre
    have hprH := Hid.mk hpre
    have hnH := Hid.mk hn
    clear hpre hT hn
    go_enter Tryz.func48, Tryz.ntmps48
    go_wp2_with (first | (go_at_call 66; refine (skw_any _ _ (by omega) (by omega)).mono ?_; rintro x w' ⟨rfl, rfl⟩) | (go_at_call 43; refine (l10_any _ _ (by omega) (by omega)).mono ?_; rintro x w' ⟨rfl, rfl⟩) | (go_at_call 68; refine (mlH.out _).mono ?_; rintro x w' ⟨rfl, rfl⟩))
    go_at_call 67
    refine hprH.out.mono ?_
    rintro x w2 ⟨rfl, hPs, hO⟩
    have hB : Hid (Below w.heap.size w w2) := .mk (((Below.refl _ _).alloc (Nat.le_refl _) _).trans (hO.blw (Nat.le_refl _) (by simp)))
    have hPH := Hid.mk hPs
    clear hPs hO
    go_wp2_with (fail)
    go_at_call 69
    refine (hr1H.out _ w2 hPH.out).mono ?_
    rintro x w3 ⟨rfl, q, rfl⟩
    have hPH3 := Hid.mk (hPH.out.drewN q)
    have hB3 : Hid (Below w.heap.size w (w2.drewN q)) := .mk (hB.out.trans (blw_drewN _ _ q))
    obtain ⟨w3, hw3⟩ : ∃ w3, w2.drewN q = w3 := ⟨_, rfl⟩
    rw [hw3] at hB3 hPH3 ⊢
    clear hw3 hPH hB
    go_wp2_with (first | (go_at_call 70; refine (nud_any _ _ _).mono ?_; rintro x w' ⟨rfl, rfl⟩) | (go_at_call 71; refine (cei_any _ _).mono ?_; rintro x w' ⟨rfl, rfl⟩))
    go_at_call 69
    refine (hr2H.out _ w3 hPH3.out).mono ?_
    rintro x w4 ⟨rfl, q, rfl⟩
    have hPH4 := Hid.mk (hPH3.out.drewN q)
    have hB4 : Hid (Below w.heap.size w (w3.drewN q)) := .mk (hB3.out.trans (blw_drewN _ _ q))
    obtain ⟨w4, hw4⟩ : ∃ w4, w3.drewN q = w4 := ⟨_, rfl⟩
    rw [hw4] at hB4 hPH4 ⊢
    clear hw4 hPH3 hB3
    go_wp2_with (first | (go_at_call 70; refine (nud_any _ _ _).mono ?_; rintro x w' ⟨rfl, rfl⟩) | (go_at_call 72; refine (flo_any _ _).mono ?_; rintro x w' ⟨rfl, rfl⟩))
    go_ret2
    exact ⟨rfl, hB4.out⟩
  · have hAi : ((k1 : Int) / 4 ≤ (k2 : Int) / 4 / 10 * 10) = False := eq_false (by omega)
    have hAn : (k1 / 4 ≤ k2 / 4 / 10 * 10) = False := eq_false hA
    by_cases hC : k1 / 4 < k2 / 4
    · have hCi : ((k1 : Int) / 4 < (k2 : Int) / 4) = True := eq_true (by omega)
      refine ⟨k3 / 4, -P, by omega, by omega, by omega, ?_⟩
      intro w hT hN
      have hpre := pre_any tH tL N w.heap.size e n lp (w.alloc (.cells #[.int .u64 0, .int .u64 0, .int .i64 0] 114)) (hT.keep ((Below.refl _ _).alloc hN _)) hN hn6 (by omega) (by omega) (by omega) (by omega)
        (.int .u64 0) (.int .u64 0) (.int .i64 0) (by simp [World.cell?_alloc_new]) (by simp [World.cell?_alloc_new]) (by simp [World.cell?_alloc_new]) (by simp [World.frozen?_alloc_new]) (by simp [World.frozen?_alloc_new]) (by simp [World.frozen?_alloc_new])
      rw [← hn] at hpre
      have hprH := Hid.mk hpre
      have hnH := Hid.mk hn
      clear hpre hT hn
      go_enter Tryz.func48, Tryz.ntmps48
      go_wp2_with (first | (go_at_call 66; refine (skw_any _ _ (by omega) (by omega)).mono ?_; rintro x w' ⟨rfl, rfl⟩) | (go_at_call 43; refine (l10_any _ _ (by omega) (by omega)).mono ?_; rintro x w' ⟨rfl, rfl⟩) | (go_at_call 68; refine (mlH.out _).mono ?_; rintro x w' ⟨rfl, rfl⟩))
      go_at_call 67
      refine hprH.out.mono ?_
      rintro x w2 ⟨rfl, hPs, hO⟩
      have hB : Hid (Below w.heap.size w w2) := .mk (((Below.refl _ _).alloc (Nat.le_refl _) _).trans (hO.blw (Nat.le_refl _) (by simp)))
      have hPH := Hid.mk hPs
      clear hPs hO
      go_wp2_with (fail)
      go_at_call 69
      refine (hr1H.out _ w2 hPH.out).mono ?_
      rintro x w3 ⟨rfl, q, rfl⟩
      have hPH3 := Hid.mk (hPH.out.drewN q)
      have hB3 : Hid (Below w.heap.size w (w2.drewN q)) := .mk (hB.out.trans (blw_drewN _ _ q))
      obtain ⟨w3, hw3⟩ : ∃ w3, w2.drewN q = w3 := ⟨_, rfl⟩
      rw [hw3] at hB3 hPH3 ⊢
      clear hw3 hPH hB
      go_wp2_with (first | (go_at_call 70; refine (nud_any _ _ _).mono ?_; rintro x w' ⟨rfl, rfl⟩) | (go_at_call 71; refine (cei_any _ _).mono ?_; rintro x w' ⟨rfl, rfl⟩))
      go_at_call 69
      refine (hr2H.out _ w3 hPH3.out).mono ?_
      rintro x w4 ⟨rfl, q, rfl⟩
      have hPH4 := Hid.mk (hPH3.out.drewN q)
      have hB4 : Hid (Below w.heap.size w (w3.drewN q)) := .mk (hB3.out.trans (blw_drewN _ _ q))
      obtain ⟨w4, hw4⟩ : ∃ w4, w3.drewN q = w4 := ⟨_, rfl⟩
      rw [hw4] at hB4 hPH4 ⊢
      clear hw4 hPH3 hB3
      go_wp2_with (first | (go_at_call 70; refine (nud_any _ _ _).mono ?_; rintro x w' ⟨rfl, rfl⟩) | (go_at_call 72; refine (flo_any _ _).mono ?_; rintro x w' ⟨rfl, rfl⟩))
      go_at_call 69
      refine (hr3H.out _ w4 hPH4.out).mono ?_
      rintro x w5 ⟨rfl, q, rfl⟩
      have hB5 : Hid (Below w.heap.size w (w4.drewN q)) := .mk (hB4.out.trans (blw_drewN _ _ q))
      obtain ⟨w5, hw5⟩ : ∃ w5, w4.drewN q = w5 := ⟨_, rfl⟩
      rw [hw5] at hB5 ⊢
      clear hw5 hPH4 hB4
      go_wp2_with (first | (go_at_call 73; refine (rou_any _ _).mono ?_; rintro x w' ⟨rfl, rfl⟩))
      go_ret2
      exact ⟨rfl, hB5.out⟩
    · have hCi : ((k1 : Int) / 4 < (k2 : Int) / 4) = False := eq_false (by omega)
      have hCn : (k1 / 4 < k2 / 4) = False := eq_false hC
      refine ⟨k1 / 4, -P, by omega, by omega, by omega, ?_⟩
      intro w hT hN
      have hpre := pre_any tH tL N w.heap.size e n lp (w.alloc (.cells #[.int .u64 0, .int .u64 0, .int .i64 0] 114)) (hT.keep ((Below.refl _ _).alloc hN _)) hN hn6 (by omega) (by omega) (by omega) (by omega)
        (.int .u64 0) (.int .u64 0) (.int .i64 0) (by simp [World.cell?_alloc_new]) (by simp [World.cell?_alloc_new]) (by simp [World.cell?_alloc_new]) (by simp [World.frozen?_alloc_new]) (by simp [World.frozen?_alloc_new]) (by simp [World.frozen?_alloc_new])
      rw [← hn] at hpre
      have hprH := Hid.mk hpre
      have hnH := Hid.mk hn
      clear hpre hT hn
      go_enter Tryz.func48, Tryz.ntmps48
      go_wp2_with (first | (go_at_call 66; refine (skw_any _ _ (by omega) (by omega)).mono ?_; rintro x w' ⟨rfl, rfl⟩) | (go_at_call 43; refine (l10_any _ _ (by omega) (by omega)).mono ?_; rintro x w' ⟨rfl, rfl⟩) | (go_at_call 68; refine (mlH.out _).mono ?_; rintro x w' ⟨rfl, rfl⟩))
      go_at_call 67
      refine hprH.out.mono ?_
      rintro x w2 ⟨rfl, hPs, hO⟩
      have hB : Hid (Below w.heap.size w w2) := .mk (((Below.refl _ _).alloc (Nat.le_refl _) _).trans (hO.blw (Nat.le_refl _) (by simp)))
      have hPH := Hid.mk hPs
      clear hPs hO
      go_wp2_with (fail)
      go_at_call 69
      refine (hr1H.out _ w2 hPH.out).mono ?_
      rintro x w3 ⟨rfl, q, rfl⟩
      have hPH3 := Hid.mk (hPH.out.drewN q)
      have hB3 : Hid (Below w.heap.size w (w2.drewN q)) := .mk (hB.out.trans (blw_drewN _ _ q))
      obtain ⟨w3, hw3⟩ : ∃ w3, w2.drewN q = w3 := ⟨_, rfl⟩
      rw [hw3] at hB3 hPH3 ⊢
      clear hw3 hPH hB
      go_wp2_with (first | (go_at_call 70; refine (nud_any _ _ _).mono ?_; rintro x w' ⟨rfl, rfl⟩) | (go_at_call 71; refine (cei_any _ _).mono ?_; rintro x w' ⟨rfl, rfl⟩))
      go_at_call 69
      refine (hr2H.out _ w3 hPH3.out).mono ?_
      rintro x w4 ⟨rfl, q, rfl⟩
      have hPH4 := Hid.mk (hPH3.out.drewN q)
      have hB4 : Hid (Below w.heap.size w (w3.drewN q)) := .mk (hB3.out.trans (blw_drewN _ _ q))
      obtain ⟨w4, hw4⟩ : ∃ w4, w3.drewN q = w4 := ⟨_, rfl⟩
      rw [hw4] at hB4 hPH4 ⊢
      clear hw4 hPH3 hB3
      go_wp2_with (first | (go_at_call 70; refine (nud_any _ _ _).mono ?_; rintro x w' ⟨rfl, rfl⟩) | (go_at_call 72; refine (flo_any _ _).mono ?_; rintro x w' ⟨rfl, rfl⟩))
      go_ret2
      exact ⟨rfl, hB4.out⟩

set_option maxRecDepth 100000 in
set_option maxHeartbeats 6400000 in
theorem sho_a (tH tL : Nat → Nat) (N : Nat) (e : Int) (h1 : -1085 < e) (he1 : -1137 ≤ e) (he2 : e ≤ 960) (hH : ∀ i, i < 696 → tH i < 18446744073709551616) (hL : ∀ i, i < 696 → tL i < 18446744073709551616) : ∃ (d : Nat) (p : Int), d < 18446744073709551616 ∧ -370 ≤ p ∧ p ≤ 370 ∧ ShoSays tH tL N 9223372036854775808 e d p := by
  obtain ⟨mx, hmx, emx⟩ : ∃ mx : Nat, mx < 18446744073709551616 ∧ (9223372036854776832 : Int) = (mx : Int) := ⟨9223372036854776832, by omega, rfl⟩
  obtain ⟨mn, hmn, emn⟩ : ∃ mn : Nat, mn < 18446744073709551616 ∧ (9223372036854775296 : Int) = (mn : Int) := ⟨9223372036854775296, by omega, rfl⟩
  obtain ⟨od, hod, eod⟩ := and1 (4503599627370496)
  have hodi : (od : Int) ≤ 1 := by omega
  obtain ⟨P, hP⟩ : ∃ P : Int, -(((e + 11) * 631305 - 261663) / 2097152) = P := ⟨_, rfl⟩
  have hP1 : -340 ≤ P := by omega
  have hP2 : P ≤ 340 := by omega
  obtain ⟨n, hn⟩ : ∃ n : Nat, P = (n : Int) - 348 := ⟨(P + 348).toNat, by omega⟩
  have hn6 : n < 696 := by omega
  obtain ⟨lp, hlp⟩ : ∃ lp, P * 108853 / 32768 = lp := ⟨_, rfl⟩
  have hl1 : -2000 ≤ lp := by omega
  have hl2 : lp ≤ 2000 := by omega
  obtain ⟨r1, hr1⟩ := usc_any mn (tH n) (tL n) (-(e + lp + 3)) hmn (hH n hn6) (hL n hn6)
  obtain ⟨r2, hr2⟩ := usc_any mx (tH n) (tL n) (-(e + lp + 3)) hmx (hH n hn6) (hL n hn6)
  obtain ⟨r3, hr3⟩ := usc_any (9223372036854775808) (tH n) (tL n) (-(e + lp + 3)) (by omega) (hH n hn6) (hL n hn6)
  obtain ⟨k1, hk1, ek1⟩ := wrapU (IntKind.u64.wrap (r1 + (od : Int)) + 3)
  obtain ⟨k2, hk2, ek2⟩ := wrapU (IntKind.u64.wrap (r2 + IntKind.u64.wrap (-(od : Int))))
  obtain ⟨k3, hk3, ek3⟩ := wrapU (IntKind.u64.wrap (r3 + 1) + bits .and .u64 (r3 / 4) 1)
  have ml := fun w => l2p_any P w (by omega) (by omega)
  rw [hlp] at ml
  have mlH := Hid.mk ml
  have hr1H := Hid.mk hr1
  have hr2H := Hid.mk hr2
  have hr3H := Hid.mk hr3
  clear ml hlp hr1 hr2 hr3 hH hL
  by_cases hA : k1 / 4 ≤ k2 / 4 / 10 * 10
  · have hAi : ((k1 : Int) / 4 ≤ (k2 : Int) / 4 / 10 * 10) = True := eq_true (by omega)
    refine ⟨k2 / 4 / 10, -(P - 1), by omega, by omega, by omega, ?_⟩
    intro w hT hN
    have hpre := pre_any tH tL N w.heap.size e n lp (w.alloc (.cells #[.int .u64 0, .int .u64 0, .int .i64 0] 114)) (hT.keep ((Below.refl _ _).alloc hN _)) hN hn6 (by omega) (by omega) (by omega) (by omega)
      (.int .u64 0) (.int .u64 0) (.int .i64 0) (by simp [World.cell?_alloc_new]) (by simp [World.cell?_alloc_new]) (by simp [World.cell?_alloc_new]) (by simp [World.frozen?_alloc_new]) (by simp [World.frozen?_alloc_new]) (by simp [World.frozen?_alloc_new])
    rw [← hn] at hpre
    have hprH := Hid.mk hpre
    have hnH := Hid.mk hn
    clear hpre hT hn
    go_enter Tryz.func48, Tryz.ntmps48
    go_wp2_with (first | (go_at_call 66; refine (skw_any _ _ (by omega) (by omega)).mono ?_; rintro x w' ⟨rfl, rfl⟩) | (go_at_call 43; refine (l10_any _ _ (by omega) (by omega)).mono ?_; rintro x w' ⟨rfl, rfl⟩) | (go_at_call 68; refine (mlH.out _).mono ?_; rintro x w' ⟨rfl, rfl⟩))
    go_at_call 67
    refine hprH.out.mono ?_
    rintro x w2 ⟨rfl, hPs, hO⟩
    have hB : Hid (Below w.heap.size w w2) := .mk (((Below.refl _ _).alloc (Nat.le_refl _) _).trans (hO.blw (Nat.le_refl _) (by simp)))
    have hPH := Hid.mk hPs
    clear hPs hO
    go_wp2_with (fail)
    go_at_call 69
    refine (hr1H.out _ w2 hPH.out).mono ?_
    rintro x w3 ⟨rfl, q, rfl⟩
    have hPH3 := Hid.mk (hPH.out.drewN q)
    have hB3 : Hid (Below w.heap.size w (w2.drewN q)) := .mk (hB.out.trans (blw_drewN _ _ q))
    obtain ⟨w3, hw3⟩ : ∃ w3, w2.drewN q = w3 := ⟨_, rfl⟩
    rw [hw3] at hB3 hPH3 ⊢
    clear hw3 hPH hB
    go_wp2_with (first | (go_at_call 70; refine (nud_any _ _ _).mono ?_; rintro x w' ⟨rfl, rfl⟩) | (go_at_call 71; refine (cei_any _ _).mono ?_; rintro x w' ⟨rfl, rfl⟩))
    go_at_call 69
    refine (hr2H.out _ w3 hPH3.out).mono ?_
    rintro x w4 ⟨rfl, q, rfl⟩
    have hPH4 := Hid.mk (hPH3.out.drewN q)
    have hB4 : Hid (Below w.heap.size w (w3.drewN q)) := .mk (hB3.out.trans (blw_drewN _ _ q))
    obtain ⟨w4, hw4⟩ : ∃ w4, w3.drewN q = w4 := ⟨_, rfl⟩
    rw [hw4] at hB4 hPH4 ⊢
    clear hw4 hPH3 hB3
    go_wp2_with (first | (go_at_call 70; refine (nud_any _ _ _).mono ?_; rintro x w' ⟨rfl, rfl⟩) | (go_at_call 72; refine (flo_any _ _).mono ?_; rintro x w' ⟨rfl, rfl⟩))
    go_ret2
    exact ⟨rfl, hB4.out⟩
  · have hAi : ((k1 : Int) / 4 ≤ (k2 : Int) / 4 / 10 * 10) = False := eq_false (by omega)
    have hAn : (k1 / 4 ≤ k2 / 4 / 10 * 10) = False := eq_false hA
    by_cases hC : k1 / 4 < k2 / 4
    · have hCi : ((k1 : Int) / 4 < (k2 : Int) / 4) = True := eq_true (by omega)
      refine ⟨k3 / 4, -P, by omega, by omega, by omega, ?_⟩
      intro w hT hN
      have hpre := pre_any tH tL N w.heap.size e n lp (w.alloc (.cells #[.int .u64 0, .int .u64 0, .int .i64 0] 114)) (hT.keep ((Below.refl _ _).alloc hN _)) hN hn6 (by omega) (by omega) (by omega) (by omega)
        (.int .u64 0) (.int .u64 0) (.int .i64 0) (by simp [World.cell?_alloc_new]) (by simp [World.cell?_alloc_new]) (by simp [World.cell?_alloc_new]) (by simp [World.frozen?_alloc_new]) (by simp [World.frozen?_alloc_new]) (by simp [World.frozen?_alloc_new])
      rw [← hn] at hpre
      have hprH := Hid.mk hpre
      have hnH := Hid.mk hn
      clear hpre hT hn
      go_enter Tryz.func48, Tryz.ntmps48
      go_wp2_with (first | (go_at_call 66; refine (skw_any _ _ (by omega) (by omega)).mono ?_; rintro x w' ⟨rfl, rfl⟩) | (go_at_call 43; refine (l10_any _ _ (by omega) (by omega)).mono ?_; rintro x w' ⟨rfl, rfl⟩) | (go_at_call 68; refine (mlH.out _).mono ?_; rintro x w' ⟨rfl, rfl⟩))
      go_at_call 67
      refine hprH.out.mono ?_
      rintro x w2 ⟨rfl, hPs, hO⟩
      have hB : Hid (Below w.heap.size w w2) := .mk (((Below.refl _ _).alloc (Nat.le_refl _) _).trans (hO.blw (Nat.le_refl _) (by simp)))
      have hPH := Hid.mk hPs
      clear hPs hO
      go_wp2_with (fail)
      go_at_call 69
      refine (hr1H.out _ w2 hPH.out).mono ?_
      rintro x w3 ⟨rfl, q, rfl⟩
      have hPH3 := Hid.mk (hPH.out.drewN q)
      have hB3 : Hid (Below w.heap.size w (w2.drewN q)) := .mk (hB.out.trans (blw_drewN _ _ q))
      obtain ⟨w3, hw3⟩ : ∃ w3, w2.drewN q = w3 := ⟨_, rfl⟩
      rw [hw3] at hB3 hPH3 ⊢
      clear hw3 hPH hB
      go_wp2_with (first | (go_at_call 70; refine (nud_any _ _ _).mono ?_; rintro x w' ⟨rfl, rfl⟩) | (go_at_call 71; refine (cei_any _ _).mono ?_; rintro x w' ⟨rfl, rfl⟩))
      go_at_call 69
      refine (hr2H.out _ w3 hPH3.out).mono ?_
      rintro x w4 ⟨rfl, q, rfl⟩
      have hPH4 := Hid.mk (hPH3.out.drewN q)
      have hB4 : Hid (Below w.heap.size w (w3.drewN q)) := .mk (hB3.out.trans (blw_drewN _ _ q))
      obtain ⟨w4, hw4⟩ : ∃ w4, w3.drewN q = w4 := ⟨_, rfl⟩
      rw [hw4] at hB4 hPH4 ⊢
      clear hw4 hPH3 hB3
      go_wp2_with (first | (go_at_call 70; refine (nud_any _ _ _).mono ?_; rintro x w' ⟨rfl, rfl⟩) | (go_at_call 72; refine (flo_any _ _).mono ?_; rintro x w' ⟨rfl, rfl⟩))
      go_at_call 69
      refine (hr3H.out _ w4 hPH4.out).mono ?_
      rintro x w5 ⟨rfl, q, rfl⟩
      have hB5 : Hid (Below w.heap.size w (w4.drewN q)) := .mk (hB4.out.trans (blw_drewN _ _ q))
      obtain ⟨w5, hw5⟩ : ∃ w5, w4.drewN q = w5 := ⟨_, rfl⟩
      rw [hw5] at hB5 ⊢
      clear hw5 hPH4 hB4
      go_wp2_with (first | (go_at_call 73; refine (rou_any _ _).mono ?_; rintro x w' ⟨rfl, rfl⟩))
      go_ret2
      exact ⟨rfl, hB5.out⟩
    · have hCi : ((k1 : Int) / 4 < (k2 : Int) / 4) = False := eq_false (by omega)
      have hCn : (k1 / 4 < k2 / 4) = False := eq_false hC
      refine ⟨k1 / 4, -P, by omega, by omega, by omega, ?_⟩
      intro w hT hN
      have hpre := pre_any tH tL N w.heap.size e n lp (w.alloc (.cells #[.int .u64 0, .int .u64 0, .int .i64 0] 114)) (hT.keep ((Below.refl _ _).alloc hN _)) hN hn6 (by omega) (by omega) (by omega) (by omega)
        (.int .u64 0) (.int .u64 0) (.int .i64 0) (by simp [World.cell?_alloc_new]) (by simp [World.cell?_alloc_new]) (by simp [World.cell?_alloc_new]) (by simp [World.frozen?_alloc_new]) (by simp [World.frozen?_alloc_new]) (by simp [World.frozen?_alloc_new])
      rw [← hn] at hpre
      have hprH := Hid.mk hpre
      have hnH := Hid.mk hn
      clear hpre hT hn
      go_enter Tryz.func48, Tryz.ntmps48
      go_wp2_with (first | (go_at_call 66; refine (skw_any _ _ (by omega) (by omega)).mono ?_; rintro x w' ⟨rfl, rfl⟩) | (go_at_call 43; refine (l10_any _ _ (by omega) (by omega)).mono ?_; rintro x w' ⟨rfl, rfl⟩) | (go_at_call 68; refine (mlH.out _).mono ?_; rintro x w' ⟨rfl, rfl⟩))
      go_at_call 67
      refine hprH.out.mono ?_
      rintro x w2 ⟨rfl, hPs, hO⟩
      have hB : Hid (Below w.heap.size w w2) := .mk (((Below.refl _ _).alloc (Nat.le_refl _) _).trans (hO.blw (Nat.le_refl _) (by simp)))
      have hPH := Hid.mk hPs
      clear hPs hO
      go_wp2_with (fail)
      go_at_call 69
      refine (hr1H.out _ w2 hPH.out).mono ?_
      rintro x w3 ⟨rfl, q, rfl⟩
      have hPH3 := Hid.mk (hPH.out.drewN q)
      have hB3 : Hid (Below w.heap.size w (w2.drewN q)) := .mk (hB.out.trans (blw_drewN _ _ q))
      obtain ⟨w3, hw3⟩ : ∃ w3, w2.drewN q = w3 := ⟨_, rfl⟩
      rw [hw3] at hB3 hPH3 ⊢
      clear hw3 hPH hB
      go_wp2_with (first | (go_at_call 70; refine (nud_any _ _ _).mono ?_; rintro x w' ⟨rfl, rfl⟩) | (go_at_call 71; refine (cei_any _ _).mono ?_; rintro x w' ⟨rfl, rfl⟩))
      go_at_call 69
      refine (hr2H.out _ w3 hPH3.out).mono ?_
      rintro x w4 ⟨rfl, q, rfl⟩
      have hPH4 := Hid.mk (hPH3.out.drewN q)
      have hB4 : Hid (Below w.heap.size w (w3.drewN q)) := .mk (hB3.out.trans (blw_drewN _ _ q))
      obtain ⟨w4, hw4⟩ : ∃ w4, w3.drewN q = w4 := ⟨_, rfl⟩
      rw [hw4] at hB4 hPH4 ⊢
      clear hw4 hPH3 hB3
      go_wp2_with (first | (go_at_call 70; refine (nud_any _ _ _).mono ?_; rintro x w' ⟨rfl, rfl⟩) | (go_at_call 72; refine (flo_any _ _).mono ?_; rintro x w' ⟨rfl, rfl⟩))
      go_ret2
      exact ⟨rfl, hB4.out⟩

set_option maxRecDepth 100000 in
set_option maxHeartbeats 6400000 in
theorem sho_c (tH tL : Nat → Nat) (N : Nat) (m : Nat) (e : Int) (hm1 : 9223372036854775808 < m) (hm2 : m < 18446744073709551616) (h1 : e < -1085) (he1 : -1137 ≤ e) (he2 : e ≤ 960) (hH : ∀ i, i < 696 → tH i < 18446744073709551616) (hL : ∀ i, i < 696 → tL i < 18446744073709551616) : ∃ (d : Nat) (p : Int), d < 18446744073709551616 ∧ -370 ≤ p ∧ p ≤ 370 ∧ ShoSays tH tL N m e d p := by
  have h1f : (-1085 ≤ e) = False := eq_false (by omega)
  have h1g : (-1085 < e) = False := eq_false (by omega)
  obtain ⟨z, hz⟩ : ∃ z : Nat, 11 + (-1085 - e) = (z : Int) := ⟨(11 + (-1085 - e)).toNat, by omega⟩
  have hz1 : 12 ≤ z := by omega
  have hz2 : z ≤ 63 := by omega

  have hcb : ((m : Int) == 9223372036854775808) = false := beq_ne (by omega)
  obtain ⟨mx, hmx, emx⟩ := wrapU ((m : Int) + IntKind.u64.wrap (2 ^ (z - 1)))
  obtain ⟨mn, hmn, emn⟩ := wrapU ((m : Int) - IntKind.u64.wrap (2 ^ (z - 1)))
  obtain ⟨od, hod, eod⟩ := and1 (wrap64 ((m : Int) / 2 ^ z))
  have hodi : (od : Int) ≤ 1 := by omega
  obtain ⟨P, hP⟩ : ∃ P : Int, -((e + (z : Int)) * 78913 / 262144) = P := ⟨_, rfl⟩
  have hP1 : -340 ≤ P := by omega
  have hP2 : P ≤ 340 := by omega
  obtain ⟨n, hn⟩ : ∃ n : Nat, P = (n : Int) - 348 := ⟨(P + 348).toNat, by omega⟩
  have hn6 : n < 696 := by omega
  obtain ⟨lp, hlp⟩ : ∃ lp, P * 108853 / 32768 = lp := ⟨_, rfl⟩
  have hl1 : -2000 ≤ lp := by omega
  have hl2 : lp ≤ 2000 := by omega
  obtain ⟨r1, hr1⟩ := usc_any mn (tH n) (tL n) (-(e + lp + 3)) hmn (hH n hn6) (hL n hn6)
  obtain ⟨r2, hr2⟩ := usc_any mx (tH n) (tL n) (-(e + lp + 3)) hmx (hH n hn6) (hL n hn6)
  obtain ⟨r3, hr3⟩ := usc_any (m) (tH n) (tL n) (-(e + lp + 3)) (by omega) (hH n hn6) (hL n hn6)
  obtain ⟨k1, hk1, ek1⟩ := wrapU (IntKind.u64.wrap (r1 + (od : Int)) + 3)
  obtain ⟨k2, hk2, ek2⟩ := wrapU (IntKind.u64.wrap (r2 + IntKind.u64.wrap (-(od : Int))))
  obtain ⟨k3, hk3, ek3⟩ := wrapU (IntKind.u64.wrap (r3 + 1) + bits .and .u64 (r3 / 4) 1)
  have ml := fun w => l2p_any P w (by omega) (by omega)
  rw [hlp] at ml
  have mlH := Hid.mk ml
  have hr1H := Hid.mk hr1
  have hr2H := Hid.mk hr2
  have hr3H := Hid.mk hr3
  clear ml hlp hr1 hr2 hr3 hH hL
  by_cases hA : k1 / 4 ≤ k2 / 4 / 10 * 10
  · have hAi : ((k1 : Int) / 4 ≤ (k2 : Int) / 4 / 10 * 10) = True := eq_true (by omega)
    refine ⟨k2 / 4 / 10, -(P - 1), by omega, by omega, by omega, ?_⟩
    intro w hT hN
    have hpre := pre_any tH tL N w.heap.size e n lp (w.alloc (.cells #[.int .u64 0, .int .u64 0, .int .i64 0] 114)) (hT.keep ((Below.refl _ _).alloc hN _)) hN hn6 (by omega) (by omega) (by omega) (by omega)
      (.int .u64 0) (.int .u64 0) (.int .i64 0) (by simp [World.cell?_alloc_new]) (by simp [World.cell?_alloc_new]) (by simp [World.cell?_alloc_new]) (by simp [World.frozen?_alloc_new]) (by simp [World.frozen?_alloc_new]) (by simp [World.frozen?_alloc_new])
    rw [← hn] at hpre
    have hprH := Hid.mk hpre
    have hnH := Hid.mk hn
    clear hpre hT hn
    go_enter Tryz.func48, Tryz.ntmps48
    go_wp2_with (first | (go_at_call 66; refine (skw_any _ _ (by omega) (by omega)).mono ?_; rintro x w' ⟨rfl, rfl⟩) | (go_at_call 43; refine (l10_any _ _ (by omega) (by omega)).mono ?_; rintro x w' ⟨rfl, rfl⟩) | (go_at_call 68; refine (mlH.out _).mono ?_; rintro x w' ⟨rfl, rfl⟩))
    go_at_call 67
    refine hprH.out.mono ?_
    rintro x w2 ⟨rfl, hPs, hO⟩
    have hB : Hid (Below w.heap.size w w2) := .mk (((Below.refl _ _).alloc (Nat.le_refl _) _).trans (hO.blw (Nat.le_refl _) (by simp)))
    have hPH := Hid.mk hPs
    clear hPs hO
    go_wp2_with (fail)
    go_at_call 69
    refine (hr1H.out _ w2 hPH.out).mono ?_
    rintro x w3 ⟨rfl, q, rfl⟩
    have hPH3 := Hid.mk (hPH.out.drewN q)
    have hB3 : Hid (Below w.heap.size w (w2.drewN q)) := .mk (hB.out.trans (blw_drewN _ _ q))
    obtain ⟨w3, hw3⟩ : ∃ w3, w2.drewN q = w3 := ⟨_, rfl⟩
    rw [hw3] at hB3 hPH3 ⊢
    clear hw3 hPH hB
    go_wp2_with (first | (go_at_call 70; refine (nud_any _ _ _).mono ?_; rintro x w' ⟨rfl, rfl⟩) | (go_at_call 71; refine (cei_any _ _).mono ?_; rintro x w' ⟨rfl, rfl⟩))
    go_at_call 69
    refine (hr2H.out _ w3 hPH3.out).mono ?_
    rintro x w4 ⟨rfl, q, rfl⟩
    have hPH4 := Hid.mk (hPH3.out.drewN q)
    have hB4 : Hid (Below w.heap.size w (w3.drewN q)) := .mk (hB3.out.trans (blw_drewN _ _ q))
    obtain ⟨w4, hw4⟩ : ∃ w4, w3.drewN q = w4 := ⟨_, rfl⟩
    rw [hw4] at hB4 hPH4 ⊢
    clear hw4 hPH3 hB3
    go_wp2_with (first | (go_at_call 70; refine (nud_any _ _ _).mono ?_; rintro x w' ⟨rfl, rfl⟩) | (go_at_call 72; refine (flo_any _ _).mono ?_; rintro x w' ⟨rfl, rfl⟩))
    go_ret2
    exact ⟨rfl, hB4.out⟩
  · have hAi : ((k1 : Int) / 4 ≤ (k2 : Int) / 4 / 10 * 10) = False := eq_false (by omega)
    have hAn : (k1 / 4 ≤ k2 / 4 / 10 * 10) = False := eq_false hA
    by_cases hC : k1 / 4 < k2 / 4
    · have hCi : ((k1 : Int) / 4 < (k2 : Int) / 4) = True := eq_true (by omega)
      refine ⟨k3 / 4, -P, by omega, by omega, by omega, ?_⟩
      intro w hT hN
      have hpre := pre_any tH tL N w.heap.size e n lp (w.alloc (.cells #[.int .u64 0, .int .u64 0, .int .i64 0] 114)) (hT.keep ((Below.refl _ _).alloc hN _)) hN hn6 (by omega) (by omega) (by omega) (by omega)
        (.int .u64 0) (.int .u64 0) (.int .i64 0) (by simp [World.cell?_alloc_new]) (by simp [World.cell?_alloc_new]) (by simp [World.cell?_alloc_new]) (by simp [World.frozen?_alloc_new]) (by simp [World.frozen?_alloc_new]) (by simp [World.frozen?_alloc_new])
      rw [← hn] at hpre
      have hprH := Hid.mk hpre
      have hnH := Hid.mk hn
      clear hpre hT hn
      go_enter Tryz.func48, Tryz.ntmps48
      go_wp2_with (first | (go_at_call 66; refine (skw_any _ _ (by omega) (by omega)).mono ?_; rintro x w' ⟨rfl, rfl⟩) | (go_at_call 43; refine (l10_any _ _ (by omega) (by omega)).mono ?_; rintro x w' ⟨rfl, rfl⟩) | (go_at_call 68; refine (mlH.out _).mono ?_; rintro x w' ⟨rfl, rfl⟩))
      go_at_call 67
      refine hprH.out.mono ?_
      rintro x w2 ⟨rfl, hPs, hO⟩
      have hB : Hid (Below w.heap.size w w2) := .mk (((Below.refl _ _).alloc (Nat.le_refl _) _).trans (hO.blw (Nat.le_refl _) (by simp)))
      have hPH := Hid.mk hPs
      clear hPs hO
      go_wp2_with (fail)
      go_at_call 69
      refine (hr1H.out _ w2 hPH.out).mono ?_
      rintro x w3 ⟨rfl, q, rfl⟩
      have hPH3 := Hid.mk (hPH.out.drewN q)
      have hB3 : Hid (Below w.heap.size w (w2.drewN q)) := .mk (hB.out.trans (blw_drewN _ _ q))
      obtain ⟨w3, hw3⟩ : ∃ w3, w2.drewN q = w3 := ⟨_, rfl⟩
      rw [hw3] at hB3 hPH3 ⊢
      clear hw3 hPH hB
      go_wp2_with (first | (go_at_call 70; refine (nud_any _ _ _).mono ?_; rintro x w' ⟨rfl, rfl⟩) | (go_at_call 71; refine (cei_any _ _).mono ?_; rintro x w' ⟨rfl, rfl⟩))
      go_at_call 69
      refine (hr2H.out _ w3 hPH3.out).mono ?_
      rintro x w4 ⟨rfl, q, rfl⟩
      have hPH4 := Hid.mk (hPH3.out.drewN q)
      have hB4 : Hid (Below w.heap.size w (w3.drewN q)) := .mk (hB3.out.trans (blw_drewN _ _ q))
      obtain ⟨w4, hw4⟩ : ∃ w4, w3.drewN q = w4 := ⟨_, rfl⟩
      rw [hw4] at hB4 hPH4 ⊢
      clear hw4 hPH3 hB3
      go_wp2_with (first | (go_at_call 70; refine (nud_any _ _ _).mono ?_; rintro x w' ⟨rfl, rfl⟩) | (go_at_call 72; refine (flo_any _ _).mono ?_; rintro x w' ⟨rfl, rfl⟩))
      go_at_call 69
      refine (hr3H.out _ w4 hPH4.out).mono ?_
      rintro x w5 ⟨rfl, q, rfl⟩
      have hB5 : Hid (Below w.heap.size w (w4.drewN q)) := .mk (hB4.out.trans (blw_drewN _ _ q))
      obtain ⟨w5, hw5⟩ : ∃ w5, w4.drewN q = w5 := ⟨_, rfl⟩
      rw [hw5] at hB5 ⊢
      clear hw5 hPH4 hB4
      go_wp2_with (first | (go_at_call 73; refine (rou_any _ _).mono ?_; rintro x w' ⟨rfl, rfl⟩))
      go_ret2
      exact ⟨rfl, hB5.out⟩
    · have hCi : ((k1 : Int) / 4 < (k2 : Int) / 4) = False := eq_false (by omega)
      have hCn : (k1 / 4 < k2 / 4) = False := eq_false hC
      refine ⟨k1 / 4, -P, by omega, by omega, by omega, ?_⟩
      intro w hT hN
      have hpre := pre_any tH tL N w.heap.size e n lp (w.alloc (.cells #[.int .u64 0, .int .u64 0, .int .i64 0] 114)) (hT.keep ((Below.refl _ _).alloc hN _)) hN hn6 (by omega) (by omega) (by omega) (by omega)
        (.int .u64 0) (.int .u64 0) (.int .i64 0) (by simp [World.cell?_alloc_new]) (by simp [World.cell?_alloc_new]) (by simp [World.cell?_alloc_new]) (by simp [World.frozen?_alloc_new]) (by simp [World.frozen?_alloc_new]) (by simp [World.frozen?_alloc_new])
      rw [← hn] at hpre
      have hprH := Hid.mk hpre
      have hnH := Hid.mk hn
      clear hpre hT hn
      go_enter Tryz.func48, Tryz.ntmps48
      go_wp2_with (first | (go_at_call 66; refine (skw_any _ _ (by omega) (by omega)).mono ?_; rintro x w' ⟨rfl, rfl⟩) | (go_at_call 43; refine (l10_any _ _ (by omega) (by omega)).mono ?_; rintro x w' ⟨rfl, rfl⟩) | (go_at_call 68; refine (mlH.out _).mono ?_; rintro x w' ⟨rfl, rfl⟩))
      go_at_call 67
      refine hprH.out.mono ?_
      rintro x w2 ⟨rfl, hPs, hO⟩
      have hB : Hid (Below w.heap.size w w2) := .mk (((Below.refl _ _).alloc (Nat.le_refl _) _).trans (hO.blw (Nat.le_refl _) (by simp)))
      have hPH := Hid.mk hPs
      clear hPs hO
      go_wp2_with (fail)
      go_at_call 69
      refine (hr1H.out _ w2 hPH.out).mono ?_
      rintro x w3 ⟨rfl, q, rfl⟩
      have hPH3 := Hid.mk (hPH.out.drewN q)
      have hB3 : Hid (Below w.heap.size w (w2.drewN q)) := .mk (hB.out.trans (blw_drewN _ _ q))
      obtain ⟨w3, hw3⟩ : ∃ w3, w2.drewN q = w3 := ⟨_, rfl⟩
      rw [hw3] at hB3 hPH3 ⊢
      clear hw3 hPH hB
      go_wp2_with (first | (go_at_call 70; refine (nud_any _ _ _).mono ?_; rintro x w' ⟨rfl, rfl⟩) | (go_at_call 71; refine (cei_any _ _).mono ?_; rintro x w' ⟨rfl, rfl⟩))
      go_at_call 69
      refine (hr2H.out _ w3 hPH3.out).mono ?_
      rintro x w4 ⟨rfl, q, rfl⟩
      have hPH4 := Hid.mk (hPH3.out.drewN q)
      have hB4 : Hid (Below w.heap.size w (w3.drewN q)) := .mk (hB3.out.trans (blw_drewN _ _ q))
      obtain ⟨w4, hw4⟩ : ∃ w4, w3.drewN q = w4 := ⟨_, rfl⟩
      rw [hw4] at hB4 hPH4 ⊢
      clear hw4 hPH3 hB3
      go_wp2_with (first | (go_at_call 70; refine (nud_any _ _ _).mono ?_; rintro x w' ⟨rfl, rfl⟩) | (go_at_call 72; refine (flo_any _ _).mono ?_; rintro x w' ⟨rfl, rfl⟩))
      go_ret2
      exact ⟨rfl, hB4.out⟩

set_option maxRecDepth 100000 in
set_option maxHeartbeats 6400000 in
theorem sho_d (tH tL : Nat → Nat) (N : Nat) (e : Int) (h1 : e < -1085) (he1 : -1137 ≤ e) (he2 : e ≤ 960) (hH : ∀ i, i < 696 → tH i < 18446744073709551616) (hL : ∀ i, i < 696 → tL i < 18446744073709551616) : ∃ (d : Nat) (p : Int), d < 18446744073709551616 ∧ -370 ≤ p ∧ p ≤ 370 ∧ ShoSays tH tL N 9223372036854775808 e d p := by
  have h1f : (-1085 ≤ e) = False := eq_false (by omega)
  have h1g : (-1085 < e) = False := eq_false (by omega)
  obtain ⟨z, hz⟩ : ∃ z : Nat, 11 + (-1085 - e) = (z : Int) := ⟨(11 + (-1085 - e)).toNat, by omega⟩
  have hz1 : 12 ≤ z := by omega
  have hz2 : z ≤ 63 := by omega

  obtain ⟨mx, hmx, emx⟩ := wrapU ((9223372036854775808 : Int) + IntKind.u64.wrap (2 ^ (z - 1)))
  obtain ⟨mn, hmn, emn⟩ := wrapU ((9223372036854775808 : Int) - IntKind.u64.wrap (2 ^ (z - 1)))
  obtain ⟨od, hod, eod⟩ := and1 (wrap64 ((9223372036854775808 : Int) / 2 ^ z))
  have hodi : (od : Int) ≤ 1 := by omega
  obtain ⟨P, hP⟩ : ∃ P : Int, -((e + (z : Int)) * 78913 / 262144) = P := ⟨_, rfl⟩
  have hP1 : -340 ≤ P := by omega
  have hP2 : P ≤ 340 := by omega
  obtain ⟨n, hn⟩ : ∃ n : Nat, P = (n : Int) - 348 := ⟨(P + 348).toNat, by omega⟩
  have hn6 : n < 696 := by omega
  obtain ⟨lp, hlp⟩ : ∃ lp, P * 108853 / 32768 = lp := ⟨_, rfl⟩
  have hl1 : -2000 ≤ lp := by omega
  have hl2 : lp ≤ 2000 := by omega
  obtain ⟨r1, hr1⟩ := usc_any mn (tH n) (tL n) (-(e + lp + 3)) hmn (hH n hn6) (hL n hn6)
  obtain ⟨r2, hr2⟩ := usc_any mx (tH n) (tL n) (-(e + lp + 3)) hmx (hH n hn6) (hL n hn6)
  obtain ⟨r3, hr3⟩ := usc_any (9223372036854775808) (tH n) (tL n) (-(e + lp + 3)) (by omega) (hH n hn6) (hL n hn6)
  obtain ⟨k1, hk1, ek1⟩ := wrapU (IntKind.u64.wrap (r1 + (od : Int)) + 3)
  obtain ⟨k2, hk2, ek2⟩ := wrapU (IntKind.u64.wrap (r2 + IntKind.u64.wrap (-(od : Int))))
  obtain ⟨k3, hk3, ek3⟩ := wrapU (IntKind.u64.wrap (r3 + 1) + bits .and .u64 (r3 / 4) 1)
  have ml := fun w => l2p_any P w (by omega) (by omega)
  rw [hlp] at ml
  have mlH := Hid.mk ml
  have hr1H := Hid.mk hr1
  have hr2H := Hid.mk hr2
  have hr3H := Hid.mk hr3
  clear ml hlp hr1 hr2 hr3 hH hL
  by_cases hA : k1 / 4 ≤ k2 / 4 / 10 * 10
  · have hAi : ((k1 : Int) / 4 ≤ (k2 : Int) / 4 / 10 * 10) = True := eq_true (by omega)
    refine ⟨k2 / 4 / 10, -(P - 1), by omega, by omega, by omega, ?_⟩
    intro w hT hN
    have hpre := pre_any tH tL N w.heap.size e n lp (w.alloc (.cells #[.int .u64 0, .int .u64 0, .int .i64 0] 114)) (hT.keep ((Below.refl _ _).alloc hN _)) hN hn6 (by omega) (by omega) (by omega) (by omega)
      (.int .u64 0) (.int .u64 0) (.int .i64 0) (by simp [World.cell?_alloc_new]) (by simp [World.cell?_alloc_new]) (by simp [World.cell?_alloc_new]) (by simp [World.frozen?_alloc_new]) (by simp [World.frozen?_alloc_new]) (by simp [World.frozen?_alloc_new])
    rw [← hn] at hpre
    have hprH := Hid.mk hpre
    have hnH := Hid.mk hn
    clear hpre hT hn
    go_enter Tryz.func48, Tryz.ntmps48
    go_wp2_with (first | (go_at_call 66; refine (skw_any _ _ (by omega) (by omega)).mono ?_; rintro x w' ⟨rfl, rfl⟩) | (go_at_call 43; refine (l10_any _ _ (by omega) (by omega)).mono ?_; rintro x w' ⟨rfl, rfl⟩) | (go_at_call 68; refine (mlH.out _).mono ?_; rintro x w' ⟨rfl, rfl⟩))
    go_at_call 67
    refine hprH.out.mono ?_
    rintro x w2 ⟨rfl, hPs, hO⟩
    have hB : Hid (Below w.heap.size w w2) := .mk (((Below.refl _ _).alloc (Nat.le_refl _) _).trans (hO.blw (Nat.le_refl _) (by simp)))
    have hPH := Hid.mk hPs
    clear hPs hO
    go_wp2_with (fail)
    go_at_call 69
    refine (hr1H.out _ w2 hPH.out).mono ?_
    rintro x w3 ⟨rfl, q, rfl⟩
    have hPH3 := Hid.mk (hPH.out.drewN q)
    have hB3 : Hid (Below w.heap.size w (w2.drewN q)) := .mk (hB.out.trans (blw_drewN _ _ q))
    obtain ⟨w3, hw3⟩ : ∃ w3, w2.drewN q = w3 := ⟨_, rfl⟩
    rw [hw3] at hB3 hPH3 ⊢
    clear hw3 hPH hB
    go_wp2_with (first | (go_at_call 70; refine (nud_any _ _ _).mono ?_; rintro x w' ⟨rfl, rfl⟩) | (go_at_call 71; refine (cei_any _ _).mono ?_; rintro x w' ⟨rfl, rfl⟩))
    go_at_call 69
    refine (hr2H.out _ w3 hPH3.out).mono ?_
    rintro x w4 ⟨rfl, q, rfl⟩
    have hPH4 := Hid.mk (hPH3.out.drewN q)
    have hB4 : Hid (Below w.heap.size w (w3.drewN q)) := .mk (hB3.out.trans (blw_drewN _ _ q))
    obtain ⟨w4, hw4⟩ : ∃ w4, w3.drewN q = w4 := ⟨_, rfl⟩
    rw [hw4] at hB4 hPH4 ⊢
    clear hw4 hPH3 hB3
    go_wp2_with (first | (go_at_call 70; refine (nud_any _ _ _).mono ?_; rintro x w' ⟨rfl, rfl⟩) | (go_at_call 72; refine (flo_any _ _).mono ?_; rintro x w' ⟨rfl, rfl⟩))
    go_ret2
    exact ⟨rfl, hB4.out⟩
  · have hAi : ((k1 : Int) / 4 ≤ (k2 : Int) / 4 / 10 * 10) = False := eq_false (by omega)
    have hAn : (k1 / 4 ≤ k2 / 4 / 10 * 10) = False := eq_false hA
    by_cases hC : k1 / 4 < k2 / 4
    · have hCi : ((k1 : Int) / 4 < (k2 : Int) / 4) = True := eq_true (by omega)
      refine ⟨k3 / 4, -P, by omega, by omega, by omega, ?_⟩
      intro w hT hN
      have hpre := pre_any tH tL N w.heap.size e n lp (w.alloc (.cells #[.int .u64 0, .int .u64 0, .int .i64 0] 114)) (hT.keep ((Below.refl _ _).alloc hN _)) hN hn6 (by omega) (by omega) (by omega) (by omega)
        (.int .u64 0) (.int .u64 0) (.int .i64 0) (by simp [World.cell?_alloc_new]) (by simp [World.cell?_alloc_new]) (by simp [World.cell?_alloc_new]) (by simp [World.frozen?_alloc_new]) (by simp [World.frozen?_alloc_new]) (by simp [World.frozen?_alloc_new])
      rw [← hn] at hpre
      have hprH := Hid.mk hpre
      have hnH := Hid.mk hn
      clear hpre hT hn
      go_enter Tryz.func48, Tryz.ntmps48
      go_wp2_with (first | (go_at_call 66; refine (skw_any _ _ (by omega) (by omega)).mono ?_; rintro x w' ⟨rfl, rfl⟩) | (go_at_call 43; refine (l10_any _ _ (by omega) (by omega)).mono ?_; rintro x w' ⟨rfl, rfl⟩) | (go_at_call 68; refine (mlH.out _).mono ?_; rintro x w' ⟨rfl, rfl⟩))
      go_at_call 67
      refine hprH.out.mono ?_
      rintro x w2 ⟨rfl, hPs, hO⟩
      have hB : Hid (Below w.heap.size w w2) := .mk (((Below.refl _ _).alloc (Nat.le_refl _) _).trans (hO.blw (Nat.le_refl _) (by simp)))
      have hPH := Hid.mk hPs
      clear hPs hO
      go_wp2_with (fail)
      go_at_call 69
      refine (hr1H.out _ w2 hPH.out).mono ?_
      rintro x w3 ⟨rfl, q, rfl⟩
      have hPH3 := Hid.mk (hPH.out.drewN q)
      have hB3 : Hid (Below w.heap.size w (w2.drewN q)) := .mk (hB.out.trans (blw_drewN _ _ q))
      obtain ⟨w3, hw3⟩ : ∃ w3, w2.drewN q = w3 := ⟨_, rfl⟩
      rw [hw3] at hB3 hPH3 ⊢
      clear hw3 hPH hB
      go_wp2_with (first | (go_at_call 70; refine (nud_any _ _ _).mono ?_; rintro x w' ⟨rfl, rfl⟩) | (go_at_call 71; refine (cei_any _ _).mono ?_; rintro x w' ⟨rfl, rfl⟩))
      go_at_call 69
      refine (hr2H.out _ w3 hPH3.out).mono ?_
      rintro x w4 ⟨rfl, q, rfl⟩
      have hPH4 := Hid.mk (hPH3.out.drewN q)
      have hB4 : Hid (Below w.heap.size w (w3.drewN q)) := .mk (hB3.out.trans (blw_drewN _ _ q))
      obtain ⟨w4, hw4⟩ : ∃ w4, w3.drewN q = w4 := ⟨_, rfl⟩
      rw [hw4] at hB4 hPH4 ⊢
      clear hw4 hPH3 hB3
      go_wp2_with (first | (go_at_call 70; refine (nud_any _ _ _).mono ?_; rintro x w' ⟨rfl, rfl⟩) | (go_at_call 72; refine (flo_any _ _).mono ?_; rintro x w' ⟨rfl, rfl⟩))
      go_at_call 69
      refine (hr3H.out _ w4 hPH4.out).mono ?_
      rintro x w5 ⟨rfl, q, rfl⟩
      have hB5 : Hid (Below w.heap.size w (w4.drewN q)) := .mk (hB4.out.trans (blw_drewN _ _ q))
      obtain ⟨w5, hw5⟩ : ∃ w5, w4.drewN q = w5 := ⟨_, rfl⟩
      rw [hw5] at hB5 ⊢
      clear hw5 hPH4 hB4
      go_wp2_with (first | (go_at_call 73; refine (rou_any _ _).mono ?_; rintro x w' ⟨rfl, rfl⟩))
      go_ret2
      exact ⟨rfl, hB5.out⟩
    · have hCi : ((k1 : Int) / 4 < (k2 : Int) / 4) = False := eq_false (by omega)
      have hCn : (k1 / 4 < k2 / 4) = False := eq_false hC
      refine ⟨k1 / 4, -P, by omega, by omega, by omega, ?_⟩
      intro w hT hN
      have hpre := pre_any tH tL N w.heap.size e n lp (w.alloc (.cells #[.int .u64 0, .int .u64 0, .int .i64 0] 114)) (hT.keep ((Below.refl _ _).alloc hN _)) hN hn6 (by omega) (by omega) (by omega) (by omega)
        (.int .u64 0) (.int .u64 0) (.int .i64 0) (by simp [World.cell?_alloc_new]) (by simp [World.cell?_alloc_new]) (by simp [World.cell?_alloc_new]) (by simp [World.frozen?_alloc_new]) (by simp [World.frozen?_alloc_new]) (by simp [World.frozen?_alloc_new])
      rw [← hn] at hpre
      have hprH := Hid.mk hpre
      have hnH := Hid.mk hn
      clear hpre hT hn
      go_enter Tryz.func48, Tryz.ntmps48
      go_wp2_with (first | (go_at_call 66; refine (skw_any _ _ (by omega) (by omega)).mono ?_; rintro x w' ⟨rfl, rfl⟩) | (go_at_call 43; refine (l10_any _ _ (by omega) (by omega)).mono ?_; rintro x w' ⟨rfl, rfl⟩) | (go_at_call 68; refine (mlH.out _).mono ?_; rintro x w' ⟨rfl, rfl⟩))
      go_at_call 67
      refine hprH.out.mono ?_
      rintro x w2 ⟨rfl, hPs, hO⟩
      have hB : Hid (Below w.heap.size w w2) := .mk (((Below.refl _ _).alloc (Nat.le_refl _) _).trans (hO.blw (Nat.le_refl _) (by simp)))
      have hPH := Hid.mk hPs
      clear hPs hO
      go_wp2_with (fail)
      go_at_call 69
      refine (hr1H.out _ w2 hPH.out).mono ?_
      rintro x w3 ⟨rfl, q, rfl⟩
      have hPH3 := Hid.mk (hPH.out.drewN q)
      have hB3 : Hid (Below w.heap.size w (w2.drewN q)) := .mk (hB.out.trans (blw_drewN _ _ q))
      obtain ⟨w3, hw3⟩ : ∃ w3, w2.drewN q = w3 := ⟨_, rfl⟩
      rw [hw3] at hB3 hPH3 ⊢
      clear hw3 hPH hB
      go_wp2_with (first | (go_at_call 70; refine (nud_any _ _ _).mono ?_; rintro x w' ⟨rfl, rfl⟩) | (go_at_call 71; refine (cei_any _ _).mono ?_; rintro x w' ⟨rfl, rfl⟩))
      go_at_call 69
      refine (hr2H.out _ w3 hPH3.out).mono ?_
      rintro x w4 ⟨rfl, q, rfl⟩
      have hPH4 := Hid.mk (hPH3.out.drewN q)
      have hB4 : Hid (Below w.heap.size w (w3.drewN q)) := .mk (hB3.out.trans (blw_drewN _ _ q))
      obtain ⟨w4, hw4⟩ : ∃ w4, w3.drewN q = w4 := ⟨_, rfl⟩
      rw [hw4] at hB4 hPH4 ⊢
      clear hw4 hPH3 hB3
      go_wp2_with (first | (go_at_call 70; refine (nud_any _ _ _).mono ?_; rintro x w' ⟨rfl, rfl⟩) | (go_at_call 72; refine (flo_any _ _).mono ?_; rintro x w' ⟨rfl, rfl⟩))
      go_ret2
      exact ⟨rfl, hB4.out⟩

set_option maxRecDepth 100000 in
set_option maxHeartbeats 6400000 in
theorem sho_e (tH tL : Nat → Nat) (N : Nat) (e : Int) (h1 : e = -1085) (he1 : -1137 ≤ e) (he2 : e ≤ 960) (hH : ∀ i, i < 696 → tH i < 18446744073709551616) (hL : ∀ i, i < 696 → tL i < 18446744073709551616) : ∃ (d : Nat) (p : Int), d < 18446744073709551616 ∧ -370 ≤ p ∧ p ≤ 370 ∧ ShoSays tH tL N 9223372036854775808 e d p := by
  have h1f : (-1085 ≤ e) = True := eq_true (by omega)
  have h1g : (-1085 < e) = False := eq_false (by omega)
  obtain ⟨mx, hmx, emx⟩ : ∃ mx : Nat, mx < 18446744073709551616 ∧ (9223372036854776832 : Int) = (mx : Int) := ⟨9223372036854776832, by omega, rfl⟩
  obtain ⟨mn, hmn, emn⟩ : ∃ mn : Nat, mn < 18446744073709551616 ∧ (9223372036854774784 : Int) = (mn : Int) := ⟨9223372036854774784, by omega, rfl⟩
  clear h1
  obtain ⟨od, hod, eod⟩ := and1 (4503599627370496)
  have hodi : (od : Int) ≤ 1 := by omega
  obtain ⟨P, hP⟩ : ∃ P : Int, -((e + 11) * 78913 / 262144) = P := ⟨_, rfl⟩
  have hP1 : -340 ≤ P := by omega
  have hP2 : P ≤ 340 := by omega
  obtain ⟨n, hn⟩ : ∃ n : Nat, P = (n : Int) - 348 := ⟨(P + 348).toNat, by omega⟩
  have hn6 : n < 696 := by omega
  obtain ⟨lp, hlp⟩ : ∃ lp, P * 108853 / 32768 = lp := ⟨_, rfl⟩
  have hl1 : -2000 ≤ lp := by omega
  have hl2 : lp ≤ 2000 := by omega
  obtain ⟨r1, hr1⟩ := usc_any mn (tH n) (tL n) (-(e + lp + 3)) hmn (hH n hn6) (hL n hn6)
  obtain ⟨r2, hr2⟩ := usc_any mx (tH n) (tL n) (-(e + lp + 3)) hmx (hH n hn6) (hL n hn6)
  obtain ⟨r3, hr3⟩ := usc_any (9223372036854775808) (tH n) (tL n) (-(e + lp + 3)) (by omega) (hH n hn6) (hL n hn6)
  obtain ⟨k1, hk1, ek1⟩ := wrapU (IntKind.u64.wrap (r1 + (od : Int)) + 3)
  obtain ⟨k2, hk2, ek2⟩ := wrapU (IntKind.u64.wrap (r2 + IntKind.u64.wrap (-(od : Int))))
  obtain ⟨k3, hk3, ek3⟩ := wrapU (IntKind.u64.wrap (r3 + 1) + bits .and .u64 (r3 / 4) 1)
  have ml := fun w => l2p_any P w (by omega) (by omega)
  rw [hlp] at ml
  have mlH := Hid.mk ml
  have hr1H := Hid.mk hr1
  have hr2H := Hid.mk hr2
  have hr3H := Hid.mk hr3
  clear ml hlp hr1 hr2 hr3 hH hL
  by_cases hA : k1 / 4 ≤ k2 / 4 / 10 * 10
  · have hAi : ((k1 : Int) / 4 ≤ (k2 : Int) / 4 / 10 * 10) = True := eq_true (by omega)
    refine ⟨k2 / 4 / 10, -(P - 1), by omega, by omega, by omega, ?_⟩
    intro w hT hN
    have hpre := pre_any tH tL N w.heap.size e n lp (w.alloc (.cells #[.int .u64 0, .int .u64 0, .int .i64 0] 114)) (hT.keep ((Below.refl _ _).alloc hN _)) hN hn6 (by omega) (by omega) (by omega) (by omega)
      (.int .u64 0) (.int .u64 0) (.int .i64 0) (by simp [World.cell?_alloc_new]) (by simp [World.cell?_alloc_new]) (by simp [World.cell?_alloc_new]) (by simp [World.frozen?_alloc_new]) (by simp [World.frozen?_alloc_new]) (by simp [World.frozen?_alloc_new])
    rw [← hn] at hpre
    have hprH := Hid.mk hpre
    have hnH := Hid.mk hn
    clear hpre hT hn
    go_enter Tryz.func48, Tryz.ntmps48
    go_wp2_with (first | (go_at_call 66; refine (skw_any _ _ (by omega) (by omega)).mono ?_; rintro x w' ⟨rfl, rfl⟩) | (go_at_call 43; refine (l10_any _ _ (by omega) (by omega)).mono ?_; rintro x w' ⟨rfl, rfl⟩) | (go_at_call 68; refine (mlH.out _).mono ?_; rintro x w' ⟨rfl, rfl⟩))
    go_at_call 67
    refine hprH.out.mono ?_
    rintro x w2 ⟨rfl, hPs, hO⟩
    have hB : Hid (Below w.heap.size w w2) := .mk (((Below.refl _ _).alloc (Nat.le_refl _) _).trans (hO.blw (Nat.le_refl _) (by simp)))
    have hPH := Hid.mk hPs
    clear hPs hO
    go_wp2_with (fail)
    go_at_call 69
    refine (hr1H.out _ w2 hPH.out).mono ?_
    rintro x w3 ⟨rfl, q, rfl⟩
    have hPH3 := Hid.mk (hPH.out.drewN q)
    have hB3 : Hid (Below w.heap.size w (w2.drewN q)) := .mk (hB.out.trans (blw_drewN _ _ q))
    obtain ⟨w3, hw3⟩ : ∃ w3, w2.drewN q = w3 := ⟨_, rfl⟩
    rw [hw3] at hB3 hPH3 ⊢
    clear hw3 hPH hB
    go_wp2_with (first | (go_at_call 70; refine (nud_any _ _ _).mono ?_; rintro x w' ⟨rfl, rfl⟩) | (go_at_call 71; refine (cei_any _ _).mono ?_; rintro x w' ⟨rfl, rfl⟩))
    go_at_call 69
    refine (hr2H.out _ w3 hPH3.out).mono ?_
    rintro x w4 ⟨rfl, q, rfl⟩
    have hPH4 := Hid.mk (hPH3.out.drewN q)
    have hB4 : Hid (Below w.heap.size w (w3.drewN q)) := .mk (hB3.out.trans (blw_drewN _ _ q))
    obtain ⟨w4, hw4⟩ : ∃ w4, w3.drewN q = w4 := ⟨_, rfl⟩
    rw [hw4] at hB4 hPH4 ⊢
    clear hw4 hPH3 hB3
    go_wp2_with (first | (go_at_call 70; refine (nud_any _ _ _).mono ?_; rintro x w' ⟨rfl, rfl⟩) | (go_at_call 72; refine (flo_any _ _).mono ?_; rintro x w' ⟨rfl, rfl⟩))
    go_ret2
    exact ⟨rfl, hB4.out⟩
  · have hAi : ((k1 : Int) / 4 ≤ (k2 : Int) / 4 / 10 * 10) = False := eq_false (by omega)
    have hAn : (k1 / 4 ≤ k2 / 4 / 10 * 10) = False := eq_false hA
    by_cases hC : k1 / 4 < k2 / 4
    · have hCi : ((k1 : Int) / 4 < (k2 : Int) / 4) = True := eq_true (by omega)
      refine ⟨k3 / 4, -P, by omega, by omega, by omega, ?_⟩
      intro w hT hN
      have hpre := pre_any tH tL N w.heap.size e n lp (w.alloc (.cells #[.int .u64 0, .int .u64 0, .int .i64 0] 114)) (hT.keep ((Below.refl _ _).alloc hN _)) hN hn6 (by omega) (by omega) (by omega) (by omega)
        (.int .u64 0) (.int .u64 0) (.int .i64 0) (by simp [World.cell?_alloc_new]) (by simp [World.cell?_alloc_new]) (by simp [World.cell?_alloc_new]) (by simp [World.frozen?_alloc_new]) (by simp [World.frozen?_alloc_new]) (by simp [World.frozen?_alloc_new])
      rw [← hn] at hpre
      have hprH := Hid.mk hpre
      have hnH := Hid.mk hn
      clear hpre hT hn
      go_enter Tryz.func48, Tryz.ntmps48
      go_wp2_with (first | (go_at_call 66; refine (skw_any _ _ (by omega) (by omega)).mono ?_; rintro x w' ⟨rfl, rfl⟩) | (go_at_call 43; refine (l10_any _ _ (by omega) (by omega)).mono ?_; rintro x w' ⟨rfl, rfl⟩) | (go_at_call 68; refine (mlH.out _).mono ?_; rintro x w' ⟨rfl, rfl⟩))
      go_at_call 67
      refine hprH.out.mono ?_
      rintro x w2 ⟨rfl, hPs, hO⟩
      have hB : Hid (Below w.heap.size w w2) := .mk (((Below.refl _ _).alloc (Nat.le_refl _) _).trans (hO.blw (Nat.le_refl _) (by simp)))
      have hPH := Hid.mk hPs
      clear hPs hO
      go_wp2_with (fail)
      go_at_call 69
      refine (hr1H.out _ w2 hPH.out).mono ?_
      rintro x w3 ⟨rfl, q, rfl⟩
      have hPH3 := Hid.mk (hPH.out.drewN q)
      have hB3 : Hid (Below w.heap.size w (w2.drewN q)) := .mk (hB.out.trans (blw_drewN _ _ q))
      obtain ⟨w3, hw3⟩ : ∃ w3, w2.drewN q = w3 := ⟨_, rfl⟩
      rw [hw3] at hB3 hPH3 ⊢
      clear hw3 hPH hB
      go_wp2_with (first | (go_at_call 70; refine (nud_any _ _ _).mono ?_; rintro x w' ⟨rfl, rfl⟩) | (go_at_call 71; refine (cei_any _ _).mono ?_; rintro x w' ⟨rfl, rfl⟩))
      go_at_call 69
      refine (hr2H.out _ w3 hPH3.out).mono ?_
      rintro x w4 ⟨rfl, q, rfl⟩
      have hPH4 := Hid.mk (hPH3.out.drewN q)
      have hB4 : Hid (Below w.heap.size w (w3.drewN q)) := .mk (hB3.out.trans (blw_drewN _ _ q))
      obtain ⟨w4, hw4⟩ : ∃ w4, w3.drewN q = w4 := ⟨_, rfl⟩
      rw [hw4] at hB4 hPH4 ⊢
      clear hw4 hPH3 hB3
      go_wp2_with (first | (go_at_call 70; refine (nud_any _ _ _).mono ?_; rintro x w' ⟨rfl, rfl⟩) | (go_at_call 72; refine (flo_any _ _).mono ?_; rintro x w' ⟨rfl, rfl⟩))
      go_at_call 69
      refine (hr3H.out _ w4 hPH4.out).mono ?_
      rintro x w5 ⟨rfl, q, rfl⟩
      have hB5 : Hid (Below w.heap.size w (w4.drewN q)) := .mk (hB4.out.trans (blw_drewN _ _ q))
      obtain ⟨w5, hw5⟩ : ∃ w5, w4.drewN q = w5 := ⟨_, rfl⟩
      rw [hw5] at hB5 ⊢
      clear hw5 hPH4 hB4
      go_wp2_with (first | (go_at_call 73; refine (rou_any _ _).mono ?_; rintro x w' ⟨rfl, rfl⟩))
      go_ret2
      exact ⟨rfl, hB5.out⟩
    · have hCi : ((k1 : Int) / 4 < (k2 : Int) / 4) = False := eq_false (by omega)
      have hCn : (k1 / 4 < k2 / 4) = False := eq_false hC
      refine ⟨k1 / 4, -P, by omega, by omega, by omega, ?_⟩
      intro w hT hN
      have hpre := pre_any tH tL N w.heap.size e n lp (w.alloc (.cells #[.int .u64 0, .int .u64 0, .int .i64 0] 114)) (hT.keep ((Below.refl _ _).alloc hN _)) hN hn6 (by omega) (by omega) (by omega) (by omega)
        (.int .u64 0) (.int .u64 0) (.int .i64 0) (by simp [World.cell?_alloc_new]) (by simp [World.cell?_alloc_new]) (by simp [World.cell?_alloc_new]) (by simp [World.frozen?_alloc_new]) (by simp [World.frozen?_alloc_new]) (by simp [World.frozen?_alloc_new])
      rw [← hn] at hpre
      have hprH := Hid.mk hpre
      have hnH := Hid.mk hn
      clear hpre hT hn
      go_enter Tryz.func48, Tryz.ntmps48
      go_wp2_with (first | (go_at_call 66; refine (skw_any _ _ (by omega) (by omega)).mono ?_; rintro x w' ⟨rfl, rfl⟩) | (go_at_call 43; refine (l10_any _ _ (by omega) (by omega)).mono ?_; rintro x w' ⟨rfl, rfl⟩) | (go_at_call 68; refine (mlH.out _).mono ?_; rintro x w' ⟨rfl, rfl⟩))
      go_at_call 67
      refine hprH.out.mono ?_
      rintro x w2 ⟨rfl, hPs, hO⟩
      have hB : Hid (Below w.heap.size w w2) := .mk (((Below.refl _ _).alloc (Nat.le_refl _) _).trans (hO.blw (Nat.le_refl _) (by simp)))
      have hPH := Hid.mk hPs
      clear hPs hO
      go_wp2_with (fail)
      go_at_call 69
      refine (hr1H.out _ w2 hPH.out).mono ?_
      rintro x w3 ⟨rfl, q, rfl⟩
      have hPH3 := Hid.mk (hPH.out.drewN q)
      have hB3 : Hid (Below w.heap.size w (w2.drewN q)) := .mk (hB.out.trans (blw_drewN _ _ q))
      obtain ⟨w3, hw3⟩ : ∃ w3, w2.drewN q = w3 := ⟨_, rfl⟩
      rw [hw3] at hB3 hPH3 ⊢
      clear hw3 hPH hB
      go_wp2_with (first | (go_at_call 70; refine (nud_any _ _ _).mono ?_; rintro x w' ⟨rfl, rfl⟩) | (go_at_call 71; refine (cei_any _ _).mono ?_; rintro x w' ⟨rfl, rfl⟩))
      go_at_call 69
      refine (hr2H.out _ w3 hPH3.out).mono ?_
      rintro x w4 ⟨rfl, q, rfl⟩
      have hPH4 := Hid.mk (hPH3.out.drewN q)
      have hB4 : Hid (Below w.heap.size w (w3.drewN q)) := .mk (hB3.out.trans (blw_drewN _ _ q))
      obtain ⟨w4, hw4⟩ : ∃ w4, w3.drewN q = w4 := ⟨_, rfl⟩
      rw [hw4] at hB4 hPH4 ⊢
      clear hw4 hPH3 hB3
      go_wp2_with (first | (go_at_call 70; refine (nud_any _ _ _).mono ?_; rintro x w' ⟨rfl, rfl⟩) | (go_at_call 72; refine (flo_any _ _).mono ?_; rintro x w' ⟨rfl, rfl⟩))
      go_ret2
      exact ⟨rfl, hB4.out⟩

/-- Some digits, whatever the float's. -/
theorem sho_any (tH tL : Nat → Nat) (N : Nat) (m : Nat) (e : Int) (hm1 : 9223372036854775808 ≤ m) (hm2 : m < 18446744073709551616) (he1 : -1137 ≤ e) (he2 : e ≤ 960) (hH : ∀ i, i < 696 → tH i < 18446744073709551616) (hL : ∀ i, i < 696 → tL i < 18446744073709551616) :
    ∃ (d : Nat) (p : Int), d < 18446744073709551616 ∧ -370 ≤ p ∧ p ≤ 370 ∧ ShoSays tH tL N m e d p := by
  by_cases hm : m = 9223372036854775808
  · subst hm
    by_cases h1 : -1085 < e
    · exact sho_a tH tL N e h1 he1 he2 hH hL
    · by_cases h2 : e < -1085
      · exact sho_d tH tL N e h2 he1 he2 hH hL
      · exact sho_e tH tL N e (by omega) he1 he2 hH hL
  · by_cases h1 : -1085 ≤ e
    · exact sho_b tH tL N m e (by omega) hm2 h1 he1 he2 hH hL
    · exact sho_c tH tL N m e (by omega) hm2 (by omega) he1 he2 hH hL
end Go.Proofs.YtpbombkmnfbcgaaGreatDoor

