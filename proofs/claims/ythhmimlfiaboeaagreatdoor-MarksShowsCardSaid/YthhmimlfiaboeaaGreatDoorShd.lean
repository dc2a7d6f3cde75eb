/- The shortest digits of a float, one case of the five. Printed by gensho2.py. -/
import Derived.Test.YthhmimlfiaboeaaGreatDoorShh
namespace Go.Proofs.YthhmimlfiaboeaaGreatDoor
open Go.RowKit

set_option maxRecDepth 100000 in
set_option maxHeartbeats 6400000 in
theorem sho_d (N : Nat) (m : Nat) (e : Int) (hm63 : m = 9223372036854775808) (h1 : e < -1085) (z H : Nat) (hHv : H = 2 ^ (z - 1)) (hze : e = -1074 - (z : Int)) (he1 : -1137 ≤ e) (he2 : e ≤ 960) (n s r1 r2 r3 od : Nat) (hod : od ≤ 1) (hn6 : n < 696) (hPn : -((e + (z : Int)) * 78913 / 262144) = (n : Int) - 348) (hs : -(e + ((n : Int) - 348) * 108853 / 32768 + 3) = (s : Int)) (hodv : od = m / 2 ^ z % 2)
    (hr1 : Says (m - H) (Us.tHi n) (Us.tLo n) (s : Int) r1) (hr2 : Says (m + H) (Us.tHi n) (Us.tLo n) (s : Int) r2) (hr3 : Says (m) (Us.tHi n) (Us.tLo n) (s : Int) r3) (b1 : r1 ≤ 576460752303423488) (b2 : r2 ≤ 576460752303423488) (b3 : r3 ≤ 576460752303423488) (b4 : 1 ≤ r2) (d q : Nat) (hr : pickN r1 r2 r3 od = (d, q)) :
    ShoSays N m e d (348 - (n : Int) + (q : Int)) := by
  have hPnH := Hid.mk hPn
  have hsH := Hid.mk hs
  clear hPn hs
  have h1f : (-1085 ≤ e) = False := eq_false (by omega)
  have h1g : (-1085 < e) = False := eq_false (by omega)
  have hz : 11 + (-1085 - e) = (z : Int) := by omega
  have hz1 : 12 ≤ z := by omega
  have hz2 : z ≤ 63 := by omega
  clear hze
  obtain ⟨hH1, hH2, eH⟩ := pw_H z H hHv hz2
  clear hHv

  have hcb : ((m : Int) == 9223372036854775808) = true := by rw [hm63]; rfl
  have hm2 : m + H < 18446744073709551616 := by omega
  have emx := wr_add m H hm2
  have emn := wr_sub m H (by omega) (by omega)
  have eod := od_is m z od hz1 (by omega) hodv
  obtain ⟨mx, hmx⟩ : ∃ mx, m + H = mx := ⟨_, rfl⟩
  obtain ⟨mn, hmn⟩ : ∃ mn, m - H = mn := ⟨_, rfl⟩
  rw [hmx] at emx hm2
  rw [hmn] at emn
  have hmx1 : mx < 18446744073709551616 := hm2
  rw [hmx] at hr2
  rw [hmn] at hr1
  clear hmx hmn hm63

  clear hodv hH1 hH2
  have hPn := hPnH.out
  have hs := hsH.out
  clear hPnH hsH
  have hodi : (od : Int) ≤ 1 := by exact_mod_cast hod
  have hsX := Hid.mk hs
  clear hs
  obtain ⟨P, hP⟩ : ∃ P : Int, -((e + (z : Int)) * 78913 / 262144) = P := ⟨_, rfl⟩
  have hn : P = (n : Int) - 348 := by rw [← hP]; exact hPn
  have hPX := Hid.mk hP
  clear hPn hP
  have hP1 : -348 ≤ P := by omega
  have hP2 : P ≤ 348 := by omega
  obtain ⟨lp, hlp⟩ : ∃ lp, P * 108853 / 32768 = lp := ⟨_, rfl⟩
  have hl1 : -2000 ≤ lp := by omega
  have hl2 : lp ≤ 2000 := by omega
  have hs' : -(e + lp + 3) = (s : Int) := by rw [← hlp, hn]; exact hsX.out
  rw [← hs'] at hr1 hr2 hr3
  obtain ⟨k1, hk1⟩ : ∃ k1, r1 + od + 3 = k1 := ⟨_, rfl⟩
  obtain ⟨k2, hk2⟩ : ∃ k2, r2 - od = k2 := ⟨_, rfl⟩
  obtain ⟨k3, hk3⟩ : ∃ k3, r3 + 1 + r3 / 4 % 2 = k3 := ⟨_, rfl⟩
  have ek1 := k1_is r1 od b1 hod
  have ek2 := k2_is r2 od b2 b4 hod
  have ek3 := k3_is r3 b3
  rw [hk1] at ek1
  rw [hk2] at ek2
  rw [hk3] at ek3
  have hk1b : k1 < 18446744073709551616 := by rw [← hk1]; exact kb1 r1 od b1 hod
  have hk2b : k2 < 18446744073709551616 := by rw [← hk2]; exact kb2 r2 od b2
  have hk3b : k3 < 18446744073709551616 := by rw [← hk3]; exact kb3 r3 b3
  have hrn : Us.rnd r3 = k3 / 4 := by unfold Us.rnd; rw [hk3]
  unfold pickN at hr
  rw [hk1, hk2, hrn] at hr
  have ml := fun w => l2p_any P w (by omega) (by omega)
  rw [hlp] at ml
  have mlH := Hid.mk ml
  have hr1H := Hid.mk hr1
  have hr2H := Hid.mk hr2
  have hr3H := Hid.mk hr3
  clear ml hlp hr1 hr2 hr3 hsX hs' hk1 hk2 hk3 hrn b1 b2 b3 b4
  by_cases hA : k1 / 4 ≤ k2 / 4 / 10 * 10
  · have hAi : ((k1 : Int) / 4 ≤ (k2 : Int) / 4 / 10 * 10) = True := eq_true (by omega)
    rw [if_pos hA] at hr
    obtain ⟨rfl, rfl⟩ := Prod.mk.inj hr
    have hpe : 348 - (n : Int) + ((1 : Nat) : Int) = -(P - 1) := by omega
    rw [hpe]
    clear hr hpe
    intro w hT hN
    have hpre := pre_any Us.tHi Us.tLo N w.heap.size e n lp (w.alloc (.cells #[.int .u64 0, .int .u64 0, .int .i64 0] 91)) (hT.keep ((Below.refl _ _).alloc hN _)) hN hn6 (by omega) (by omega) (by omega) (by omega)
      (.int .u64 0) (.int .u64 0) (.int .i64 0) (by simp [World.cell?_alloc_new]) (by simp [World.cell?_alloc_new]) (by simp [World.cell?_alloc_new]) (by simp [World.frozen?_alloc_new]) (by simp [World.frozen?_alloc_new]) (by simp [World.frozen?_alloc_new])
    rw [← hn] at hpre
    have hprH := Hid.mk hpre
    have hnH := Hid.mk hn
    clear hpre hT hn
    have hP := hPX.out
    clear hPX
    go_enter Tryz.func47, Tryz.ntmps47
    go_wp2_with (first | (go_at_call 56; refine (skw_any _ _ (by omega) (by omega)).mono ?_; rintro x w' ⟨rfl, rfl⟩) | (go_at_call 42; refine (l10_any _ _ (by omega) (by omega)).mono ?_; rintro x w' ⟨rfl, rfl⟩) | (go_at_call 58; refine (mlH.out _).mono ?_; rintro x w' ⟨rfl, rfl⟩))
    go_at_call 57
    refine hprH.out.mono ?_
    rintro x w2 ⟨rfl, hPs, hO⟩
    have hB : Hid (Below w.heap.size w w2) := .mk (((Below.refl _ _).alloc (Nat.le_refl _) _).trans (hO.blw (Nat.le_refl _) (by simp)))
    have hPH := Hid.mk hPs
    clear hPs hO
    go_wp2_with (fail)
    go_at_call 59
    refine (hr1H.out _ w2 hPH.out).mono ?_
    rintro x w3 ⟨rfl, q, rfl⟩
    have hPH3 := Hid.mk (hPH.out.drewN q)
    have hB3 : Hid (Below w.heap.size w (w2.drewN q)) := .mk (hB.out.trans (blw_drewN _ _ q))
    obtain ⟨w3, hw3⟩ : ∃ w3, w2.drewN q = w3 := ⟨_, rfl⟩
    rw [hw3] at hB3 hPH3 ⊢
    clear hw3 hPH hB
    go_wp2_with (first | (go_at_call 60; refine (nud_any _ _ _).mono ?_; rintro x w' ⟨rfl, rfl⟩) | (go_at_call 61; refine (cei_any _ _).mono ?_; rintro x w' ⟨rfl, rfl⟩))
    go_at_call 59
    refine (hr2H.out _ w3 hPH3.out).mono ?_
    rintro x w4 ⟨rfl, q, rfl⟩
    have hPH4 := Hid.mk (hPH3.out.drewN q)
    have hB4 : Hid (Below w.heap.size w (w3.drewN q)) := .mk (hB3.out.trans (blw_drewN _ _ q))
    obtain ⟨w4, hw4⟩ : ∃ w4, w3.drewN q = w4 := ⟨_, rfl⟩
    rw [hw4] at hB4 hPH4 ⊢
    clear hw4 hPH3 hB3
    go_wp2_with (first | (go_at_call 60; refine (nud_any _ _ _).mono ?_; rintro x w' ⟨rfl, rfl⟩) | (go_at_call 62; refine (flo_any _ _).mono ?_; rintro x w' ⟨rfl, rfl⟩))
    go_ret2
    exact ⟨rfl, hB4.out⟩
  · have hAi : ((k1 : Int) / 4 ≤ (k2 : Int) / 4 / 10 * 10) = False := eq_false (by omega)
    have hAn : (k1 / 4 ≤ k2 / 4 / 10 * 10) = False := eq_false hA
    by_cases hC : k1 / 4 < k2 / 4
    · have hCi : ((k1 : Int) / 4 < (k2 : Int) / 4) = True := eq_true (by omega)
      rw [if_neg hA, if_pos hC] at hr
      obtain ⟨rfl, rfl⟩ := Prod.mk.inj hr
      have hpe : 348 - (n : Int) + ((0 : Nat) : Int) = -P := by omega
      rw [hpe]
      clear hr hpe
      intro w hT hN
      have hpre := pre_any Us.tHi Us.tLo N w.heap.size e n lp (w.alloc (.cells #[.int .u64 0, .int .u64 0, .int .i64 0] 91)) (hT.keep ((Below.refl _ _).alloc hN _)) hN hn6 (by omega) (by omega) (by omega) (by omega)
        (.int .u64 0) (.int .u64 0) (.int .i64 0) (by simp [World.cell?_alloc_new]) (by simp [World.cell?_alloc_new]) (by simp [World.cell?_alloc_new]) (by simp [World.frozen?_alloc_new]) (by simp [World.frozen?_alloc_new]) (by simp [World.frozen?_alloc_new])
      rw [← hn] at hpre
      have hprH := Hid.mk hpre
      have hnH := Hid.mk hn
      clear hpre hT hn
      have hP := hPX.out
      clear hPX
      go_enter Tryz.func47, Tryz.ntmps47
      go_wp2_with (first | (go_at_call 56; refine (skw_any _ _ (by omega) (by omega)).mono ?_; rintro x w' ⟨rfl, rfl⟩) | (go_at_call 42; refine (l10_any _ _ (by omega) (by omega)).mono ?_; rintro x w' ⟨rfl, rfl⟩) | (go_at_call 58; refine (mlH.out _).mono ?_; rintro x w' ⟨rfl, rfl⟩))
      go_at_call 57
      refine hprH.out.mono ?_
      rintro x w2 ⟨rfl, hPs, hO⟩
      have hB : Hid (Below w.heap.size w w2) := .mk (((Below.refl _ _).alloc (Nat.le_refl _) _).trans (hO.blw (Nat.le_refl _) (by simp)))
      have hPH := Hid.mk hPs
      clear hPs hO
      go_wp2_with (fail)
      go_at_call 59
      refine (hr1H.out _ w2 hPH.out).mono ?_
      rintro x w3 ⟨rfl, q, rfl⟩
      have hPH3 := Hid.mk (hPH.out.drewN q)
      have hB3 : Hid (Below w.heap.size w (w2.drewN q)) := .mk (hB.out.trans (blw_drewN _ _ q))
      obtain ⟨w3, hw3⟩ : ∃ w3, w2.drewN q = w3 := ⟨_, rfl⟩
      rw [hw3] at hB3 hPH3 ⊢
      clear hw3 hPH hB
      go_wp2_with (first | (go_at_call 60; refine (nud_any _ _ _).mono ?_; rintro x w' ⟨rfl, rfl⟩) | (go_at_call 61; refine (cei_any _ _).mono ?_; rintro x w' ⟨rfl, rfl⟩))
      go_at_call 59
      refine (hr2H.out _ w3 hPH3.out).mono ?_
      rintro x w4 ⟨rfl, q, rfl⟩
      have hPH4 := Hid.mk (hPH3.out.drewN q)
      have hB4 : Hid (Below w.heap.size w (w3.drewN q)) := .mk (hB3.out.trans (blw_drewN _ _ q))
      obtain ⟨w4, hw4⟩ : ∃ w4, w3.drewN q = w4 := ⟨_, rfl⟩
      rw [hw4] at hB4 hPH4 ⊢
      clear hw4 hPH3 hB3
      go_wp2_with (first | (go_at_call 60; refine (nud_any _ _ _).mono ?_; rintro x w' ⟨rfl, rfl⟩) | (go_at_call 62; refine (flo_any _ _).mono ?_; rintro x w' ⟨rfl, rfl⟩))
      go_at_call 59
      refine (hr3H.out _ w4 hPH4.out).mono ?_
      rintro x w5 ⟨rfl, q, rfl⟩
      have hB5 : Hid (Below w.heap.size w (w4.drewN q)) := .mk (hB4.out.trans (blw_drewN _ _ q))
      obtain ⟨w5, hw5⟩ : ∃ w5, w4.drewN q = w5 := ⟨_, rfl⟩
      rw [hw5] at hB5 ⊢
      clear hw5 hPH4 hB4
      go_wp2_with (first | (go_at_call 63; refine (rou_any _ _).mono ?_; rintro x w' ⟨rfl, rfl⟩))
      go_ret2
      exact ⟨rfl, hB5.out⟩
    · have hCi : ((k1 : Int) / 4 < (k2 : Int) / 4) = False := eq_false (by omega)
      have hCn : (k1 / 4 < k2 / 4) = False := eq_false hC
      rw [if_neg hA, if_neg hC] at hr
      obtain ⟨rfl, rfl⟩ := Prod.mk.inj hr
      have hpe : 348 - (n : Int) + ((0 : Nat) : Int) = -P := by omega
      rw [hpe]
      clear hr hpe
      intro w hT hN
      have hpre := pre_any Us.tHi Us.tLo N w.heap.size e n lp (w.alloc (.cells #[.int .u64 0, .int .u64 0, .int .i64 0] 91)) (hT.keep ((Below.refl _ _).alloc hN _)) hN hn6 (by omega) (by omega) (by omega) (by omega)
        (.int .u64 0) (.int .u64 0) (.int .i64 0) (by simp [World.cell?_alloc_new]) (by simp [World.cell?_alloc_new]) (by simp [World.cell?_alloc_new]) (by simp [World.frozen?_alloc_new]) (by simp [World.frozen?_alloc_new]) (by simp [World.frozen?_alloc_new])
      rw [← hn] at hpre
      have hprH := Hid.mk hpre
      have hnH := Hid.mk hn
      clear hpre hT hn
      have hP := hPX.out
      clear hPX
      go_enter Tryz.func47, Tryz.ntmps47
      go_wp2_with (first | (go_at_call 56; refine (skw_any _ _ (by omega) (by omega)).mono ?_; rintro x w' ⟨rfl, rfl⟩) | (go_at_call 42; refine (l10_any _ _ (by omega) (by omega)).mono ?_; rintro x w' ⟨rfl, rfl⟩) | (go_at_call 58; refine (mlH.out _).mono ?_; rintro x w' ⟨rfl, rfl⟩))
      go_at_call 57
      refine hprH.out.mono ?_
      rintro x w2 ⟨rfl, hPs, hO⟩
      have hB : Hid (Below w.heap.size w w2) := .mk (((Below.refl _ _).alloc (Nat.le_refl _) _).trans (hO.blw (Nat.le_refl _) (by simp)))
      have hPH := Hid.mk hPs
      clear hPs hO
      go_wp2_with (fail)
      go_at_call 59
      refine (hr1H.out _ w2 hPH.out).mono ?_
      rintro x w3 ⟨rfl, q, rfl⟩
      have hPH3 := Hid.mk (hPH.out.drewN q)
      have hB3 : Hid (Below w.heap.size w (w2.drewN q)) := .mk (hB.out.trans (blw_drewN _ _ q))
      obtain ⟨w3, hw3⟩ : ∃ w3, w2.drewN q = w3 := ⟨_, rfl⟩
      rw [hw3] at hB3 hPH3 ⊢
      clear hw3 hPH hB
      go_wp2_with (first | (go_at_call 60; refine (nud_any _ _ _).mono ?_; rintro x w' ⟨rfl, rfl⟩) | (go_at_call 61; refine (cei_any _ _).mono ?_; rintro x w' ⟨rfl, rfl⟩))
      go_at_call 59
      refine (hr2H.out _ w3 hPH3.out).mono ?_
      rintro x w4 ⟨rfl, q, rfl⟩
      have hPH4 := Hid.mk (hPH3.out.drewN q)
      have hB4 : Hid (Below w.heap.size w (w3.drewN q)) := .mk (hB3.out.trans (blw_drewN _ _ q))
      obtain ⟨w4, hw4⟩ : ∃ w4, w3.drewN q = w4 := ⟨_, rfl⟩
      rw [hw4] at hB4 hPH4 ⊢
      clear hw4 hPH3 hB3
      go_wp2_with (first | (go_at_call 60; refine (nud_any _ _ _).mono ?_; rintro x w' ⟨rfl, rfl⟩) | (go_at_call 62; refine (flo_any _ _).mono ?_; rintro x w' ⟨rfl, rfl⟩))
      go_ret2
      exact ⟨rfl, hB4.out⟩
end Go.Proofs.YthhmimlfiaboeaaGreatDoor
