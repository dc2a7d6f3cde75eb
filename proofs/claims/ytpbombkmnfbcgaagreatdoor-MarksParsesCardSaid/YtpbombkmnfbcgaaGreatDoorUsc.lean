/- A number by a power of ten and of two: what 'prescale' lays, what 'uscale' answers. -/
import Derived.Test.YtpbombkmnfbcgaaGreatDoorNum
namespace Go.Proofs.YtpbombkmnfbcgaaGreatDoor
open Go.RowKit

theorem and63 (x : Int) : ∃ k : Nat, k < 64 ∧ bits .and .i64 x 63 = (k : Int) := by
  refine ⟨(BitVec.ofInt 64 x).toNat &&& 63, ?_, ?_⟩
  · have := Nat.and_le_right (n := (BitVec.ofInt 64 x).toNat) (m := 63); omega
  · have h2 : (BitVec.ofInt 64 (63 : Int)).toNat = 63 := by decide
    show IntKind.i64.wrap ((BitVec.ofInt 64 x &&& BitVec.ofInt 64 63).toNat : Int) = _
    rw [BitVec.toNat_and, h2]
    have := Nat.and_le_right (n := (BitVec.ofInt 64 x).toNat) (m := 63)
    exact wi64 (by omega) (by omega)

/-- The powers of ten, in memory. -/
structure TabAt (tH tL : Nat → Nat) (N : Nat) (w : World) : Prop where
  hi : ∀ i, i < 696 → w.cell? ⟨10, i * 2, none⟩ = some (.int .u64 (tH i : Nat)) ∧ tH i < 18446744073709551616
  lo : ∀ i, i < 696 → w.cell? ⟨10, i * 2 + 1, none⟩ = some (.int .u64 (tL i : Nat)) ∧ tL i < 18446744073709551616
  lt : 10 < N
theorem TabAt.keep {tH tL : Nat → Nat} {N : Nat} {w w' : World} (h : TabAt tH tL N w) (hb : Below N w w') : TabAt tH tL N w' :=
  ⟨fun i hi => ⟨(hb.cell (by exact h.lt)).trans (h.hi i hi).1, (h.hi i hi).2⟩, fun i hi => ⟨(hb.cell (by exact h.lt)).trans (h.lo i hi).1, (h.lo i hi).2⟩, h.lt⟩

/-- A scaler in memory. -/
structure PreS (B : Nat) (hi lo : Nat) (s : Int) (w : World) : Prop where
  hi : w.cell? ⟨B, 0, none⟩ = some (.int .u64 (hi : Nat))
  lo : w.cell? ⟨B, 1, none⟩ = some (.int .u64 (lo : Nat))
  s : w.cell? ⟨B, 2, none⟩ = some (.int .i64 s)

set_option maxRecDepth 100000 in
set_option maxHeartbeats 1600000 in
theorem pre_any (tH tL : Nat → Nat) (N B : Nat) (e : Int) (p : Nat) (lp : Int) (w : World) (hT : TabAt tH tL N w) (hNB : N ≤ B) (hp : p < 696) (he1 : -100000 ≤ e) (he2 : e ≤ 100000) (hl1 : -100000 ≤ lp) (hl2 : lp ≤ 100000)
    (v0 v1 v2 : Value) (c0 : w.cell? ⟨B, 0, none⟩ = some v0) (c1 : w.cell? ⟨B, 1, none⟩ = some v1) (c2 : w.cell? ⟨B, 2, none⟩ = some v2) (f0 : w.frozen? ⟨B, 0, none⟩ = false) (f1 : w.frozen? ⟨B, 1, none⟩ = false) (f2 : w.frozen? ⟨B, 2, none⟩ = false) :
    Calls Tryz.prog 67 #[.pointer (some ⟨B, 0, none⟩), .int .i64 e, .int .i64 ((p : Int) - 348), .int .i64 lp] w fun r w' => r = .returned (.tuple #[]) ∧ PreS B (tH p) (tL p) (-(e + lp + 3)) w' ∧ Onl B w w' := by
  have hBg : B ≠ 10 := by have := hT.lt; omega
  have gh := (hT.hi p hp).1
  have gl := (hT.lo p hp).1
  have hpi : (p : Int) < 696 := by omega
  have hw := wi64 (z := e + lp + 3) (by omega) (by omega)
  clear hT
  go_enter Tryz.func67, Tryz.ntmps67
  go_wp2_with (fail)
  go_end0
  have k1 : (w.setCell ⟨B, 0, none⟩ (.int .u64 (tH p : Nat))).cell? ⟨B, 1, none⟩ = some v1 := (World.cell?_setCell_other _ _ _ _ (ne_off (by decide))).trans c1
  have k2 : ((w.setCell ⟨B, 0, none⟩ (.int .u64 (tH p : Nat))).setCell ⟨B, 1, none⟩ (.int .u64 (tL p : Nat))).cell? ⟨B, 2, none⟩ = some v2 := (World.cell?_setCell_other _ _ _ _ (ne_off (by decide))).trans ((World.cell?_setCell_other _ _ _ _ (ne_off (by decide))).trans c2)
  refine ⟨rfl, ⟨?_, ?_, World.cell?_setCell_same _ _ _ k2⟩, (((Onl.refl B w).setCell (p := ⟨B, 0, none⟩) rfl _).setCell (p := ⟨B, 1, none⟩) rfl _).setCell (p := ⟨B, 2, none⟩) rfl _⟩
  · exact (World.cell?_setCell_other _ _ _ _ (ne_off (by decide))).trans ((World.cell?_setCell_other _ _ _ _ (ne_off (by decide))).trans (World.cell?_setCell_same _ _ _ c0))
  · exact (World.cell?_setCell_other _ _ _ _ (ne_off (by decide))).trans (World.cell?_setCell_same _ _ _ k1)

/-- A call answers a word, the same in every world in which a scaler is so; and the world is as it was, but for draws. -/
def Says (x hi lo : Nat) (s : Int) (r : Int) : Prop := ∀ (B : Nat) (w : World), PreS B hi lo s w → Calls Tryz.prog 69 #[.int .u64 (x : Nat), .pointer (some ⟨B, 0, none⟩)] w fun e w' => e = .returned (.int .u64 r) ∧ ∃ n, w' = w.drewN n

set_option maxRecDepth 100000 in
set_option maxHeartbeats 1600000 in
theorem usc_any (x hi lo : Nat) (s : Int) (hx : x < 18446744073709551616) (hh : hi < 18446744073709551616) (hl : lo < 18446744073709551616) : ∃ r : Int, Says x hi lo s r := by
  obtain ⟨k, hk, ek⟩ := and63 s
  have hm : Tryz.prog.follows .mixedOrders = true := by kernel_rfl
  have hki : (k : Int) < 64 := by omega
  unfold Says
  obtain ⟨H, M, hH, hM, m1⟩ : ∃ H M : Nat, H < 18446744073709551616 ∧ M < 18446744073709551616 ∧ ∀ w, Calls Tryz.prog 94 #[.int .u64 (x : Nat), .int .u64 (hi : Nat)] w fun e w' => e = .returned (.tuple #[.int .u64 (H : Nat), .int .u64 (M : Nat)]) ∧ w' = w :=
    ⟨_, _, Nat.div_lt_of_lt_mul (Nat.mul_lt_mul'' hx hh), Nat.mod_lt _ (by decide), fun w => Tryz.bits_Mul64 x hi hx hh w⟩
  obtain ⟨H2, M2, hH2, hM2, m2⟩ : ∃ H M : Nat, H < 18446744073709551616 ∧ M < 18446744073709551616 ∧ ∀ w, Calls Tryz.prog 94 #[.int .u64 (x : Nat), .int .u64 (lo : Nat)] w fun e w' => e = .returned (.tuple #[.int .u64 (H : Nat), .int .u64 (M : Nat)]) ∧ w' = w :=
    ⟨_, _, Nat.div_lt_of_lt_mul (Nat.mul_lt_mul'' hx hl), Nat.mod_lt _ (by decide), fun w => Tryz.bits_Mul64 x lo hx hl w⟩
  clear hx hh hl
  by_cases hc : (IntKind.u64.wrap ((H : Int) / 2 ^ k * 2 ^ k) != (H : Int)) = true
  · refine ⟨bits .or .u64 ((H : Int) / 2 ^ k) 1, fun B w hP => ?_⟩
    have c0 := hP.hi
    have c1 := hP.lo
    have c2 := hP.s
    clear hP
    go_enter Tryz.func69, Tryz.ntmps69
    go_wp2_with (first | (go_at_call 94; (with_reducible refine (m1 _).mono ?_); rintro e w' ⟨rfl, rfl⟩) | (go_at_call 94; (with_reducible refine (m2 _).mono ?_); rintro e w' ⟨rfl, rfl⟩) | (go_at_call 58; refine (b2u_any _ _).mono ?_; rintro e w' ⟨rfl, rfl⟩))
    go_ret
    exact ⟨rfl, 0, rfl⟩
  · have hc : (IntKind.u64.wrap ((H : Int) / 2 ^ k * 2 ^ k) != (H : Int)) = false := by simpa using hc
    obtain ⟨W2, hW2⟩ : ∃ W2, IntKind.u64.wrap ((M : Int) - (H2 : Int)) = W2 := ⟨_, rfl⟩
    obtain ⟨c1v, hc1⟩ : ∃ c1v : Int, (if M < H2 then 1 else 0) = c1v := ⟨_, rfl⟩
    obtain ⟨c2v, hc2⟩ : ∃ c2v : Int, (if 1 < W2 then 1 else 0) = c2v := ⟨_, rfl⟩
    obtain ⟨W1, hW1⟩ : ∃ W1, IntKind.u64.wrap ((H : Int) - c1v) = W1 := ⟨_, rfl⟩
    refine ⟨bits .or .u64 (W1 / 2 ^ k) c2v, fun B w hP => ?_⟩
    by_cases h1 : M < H2
    · rw [if_pos h1] at hc1
      by_cases h2 : 1 < W2
      · rw [if_pos h2] at hc2
        subst hc1 hc2
        have c0 := hP.hi
        have c1 := hP.lo
        have c2 := hP.s
        clear hP
        go_enter Tryz.func69, Tryz.ntmps69
        go_wp2_with (first | (go_at_call 94; (with_reducible refine (m1 _).mono ?_); rintro e w' ⟨rfl, rfl⟩) | (go_at_call 94; (with_reducible refine (m2 _).mono ?_); rintro e w' ⟨rfl, rfl⟩) | (go_at_call 58; refine (b2u_any _ _).mono ?_; rintro e w' ⟨rfl, rfl⟩))
        refine Go.Ev.wp_region_planE (fun v => v = w'.drew) hm (by kernel_rfl) (by kernel_rfl) rfl ?_
        iterate 10
          refine Go.Ev.planE_cons _ (by rintro v K rfl hK; go_simp; first | exact hK _ rfl | (go_at_call 58; refine (b2u_any _ _).mono ?_; rintro e w'' ⟨rfl, rfl⟩; exact hK _ rfl)) ?_
          simp only [Act.put, List.setIfInBounds_toArray, List.set_cons_succ, List.set_cons_zero]
        rintro w1 rfl
        go_wp2_with (fail)
        go_ret
        exact ⟨rfl, 1, rfl⟩
      · rw [if_neg h2] at hc2
        have h2f : (1 < W2) = False := eq_false h2
        subst hc1 hc2
        have c0 := hP.hi
        have c1 := hP.lo
        have c2 := hP.s
        clear hP
        go_enter Tryz.func69, Tryz.ntmps69
        go_wp2_with (first | (go_at_call 94; (with_reducible refine (m1 _).mono ?_); rintro e w' ⟨rfl, rfl⟩) | (go_at_call 94; (with_reducible refine (m2 _).mono ?_); rintro e w' ⟨rfl, rfl⟩) | (go_at_call 58; refine (b2u_any _ _).mono ?_; rintro e w' ⟨rfl, rfl⟩))
        refine Go.Ev.wp_region_planE (fun v => v = w'.drew) hm (by kernel_rfl) (by kernel_rfl) rfl ?_
        iterate 10
          refine Go.Ev.planE_cons _ (by rintro v K rfl hK; go_simp; first | exact hK _ rfl | (go_at_call 58; refine (b2u_any _ _).mono ?_; rintro e w'' ⟨rfl, rfl⟩; exact hK _ rfl)) ?_
          simp only [Act.put, List.setIfInBounds_toArray, List.set_cons_succ, List.set_cons_zero]
        rintro w1 rfl
        go_wp2_with (fail)
        go_ret
        exact ⟨rfl, 1, rfl⟩
    · rw [if_neg h1] at hc1
      have h1f : (M < H2) = False := eq_false h1
      by_cases h2 : 1 < W2
      · rw [if_pos h2] at hc2
        subst hc1 hc2
        obtain rfl : W1 = (H : Int) := by rw [← hW1, Int.sub_zero]; exact wu64 (by omega) (by omega)
        have c0 := hP.hi
        have c1 := hP.lo
        have c2 := hP.s
        clear hP
        go_enter Tryz.func69, Tryz.ntmps69
        go_wp2_with (first | (go_at_call 94; (with_reducible refine (m1 _).mono ?_); rintro e w' ⟨rfl, rfl⟩) | (go_at_call 94; (with_reducible refine (m2 _).mono ?_); rintro e w' ⟨rfl, rfl⟩) | (go_at_call 58; refine (b2u_any _ _).mono ?_; rintro e w' ⟨rfl, rfl⟩))
        refine Go.Ev.wp_region_planE (fun v => v = w'.drew) hm (by kernel_rfl) (by kernel_rfl) rfl ?_
        iterate 10
          refine Go.Ev.planE_cons _ (by rintro v K rfl hK; go_simp; first | exact hK _ rfl | (go_at_call 58; refine (b2u_any _ _).mono ?_; rintro e w'' ⟨rfl, rfl⟩; exact hK _ rfl)) ?_
          simp only [Act.put, List.setIfInBounds_toArray, List.set_cons_succ, List.set_cons_zero]
        rintro w1 rfl
        go_wp2_with (fail)
        go_ret
        exact ⟨rfl, 1, rfl⟩
      · rw [if_neg h2] at hc2
        have h2f : (1 < W2) = False := eq_false h2
        subst hc1 hc2
        obtain rfl : W1 = (H : Int) := by rw [← hW1, Int.sub_zero]; exact wu64 (by omega) (by omega)
        have c0 := hP.hi
        have c1 := hP.lo
        have c2 := hP.s
        clear hP
        go_enter Tryz.func69, Tryz.ntmps69
        go_wp2_with (first | (go_at_call 94; (with_reducible refine (m1 _).mono ?_); rintro e w' ⟨rfl, rfl⟩) | (go_at_call 94; (with_reducible refine (m2 _).mono ?_); rintro e w' ⟨rfl, rfl⟩) | (go_at_call 58; refine (b2u_any _ _).mono ?_; rintro e w' ⟨rfl, rfl⟩))
        refine Go.Ev.wp_region_planE (fun v => v = w'.drew) hm (by kernel_rfl) (by kernel_rfl) rfl ?_
        iterate 10
          refine Go.Ev.planE_cons _ (by rintro v K rfl hK; go_simp; first | exact hK _ rfl | (go_at_call 58; refine (b2u_any _ _).mono ?_; rintro e w'' ⟨rfl, rfl⟩; exact hK _ rfl)) ?_
          simp only [Act.put, List.setIfInBounds_toArray, List.set_cons_succ, List.set_cons_zero]
        rintro w1 rfl
        go_wp2_with (fail)
        go_ret
        exact ⟨rfl, 1, rfl⟩
end Go.Proofs.YtpbombkmnfbcgaaGreatDoor
