/- A number by a power of ten and of two: what 'prescale' lays, what 'uscale' answers. -/
import Derived.Test.YthhmimlfiaboeaaGreatDoorHlp
import Derived.Test.YthhmimlfiaboeaaGreatDoorUm
namespace Go.Proofs.YthhmimlfiaboeaaGreatDoor
open Go.RowKit

theorem and63 (x : Int) : ∃ k : Nat, k < 64 ∧ bits .and .i64 x 63 = (k : Int) := by
  refine ⟨(BitVec.ofInt 64 x).toNat &&& 63, ?_, ?_⟩
  · have := Nat.and_le_right (n := (BitVec.ofInt 64 x).toNat) (m := 63); omega
  · have h2 : (BitVec.ofInt 64 (63 : Int)).toNat = 63 := by decide
    show IntKind.i64.wrap ((BitVec.ofInt 64 x &&& BitVec.ofInt 64 63).toNat : Int) = _
    rw [BitVec.toNat_and, h2]
    have := Nat.and_le_right (n := (BitVec.ofInt 64 x).toNat) (m := 63)
    exact wi64 (by omega) (by omega)

/-- The powers of ten, in memory. -/
structure TabAt (tH tL : Nat → Nat) (N : Nat) (w : World) : Prop where
  hi : ∀ i, i < 696 → w.cell? ⟨7, i * 2, none⟩ = some (.int .u64 (tH i : Nat)) ∧ tH i < 18446744073709551616
  lo : ∀ i, i < 696 → w.cell? ⟨7, i * 2 + 1, none⟩ = some (.int .u64 (tL i : Nat)) ∧ tL i < 18446744073709551616
  lt : 7 < N
theorem TabAt.keep {tH tL : Nat → Nat} {N : Nat} {w w' : World} (h : TabAt tH tL N w) (hb : Below N w w') : TabAt tH tL N w' :=
  ⟨fun i hi => ⟨(hb.cell (by exact h.lt)).trans (h.hi i hi).1, (h.hi i hi).2⟩, fun i hi => ⟨(hb.cell (by exact h.lt)).trans (h.lo i hi).1, (h.lo i hi).2⟩, h.lt⟩

/-- A scaler in memory. -/
structure PreS (B : Nat) (hi lo : Nat) (s : Int) (w : World) : Prop where
  hi : w.cell? ⟨B, 0, none⟩ = some (.int .u64 (hi : Nat))
  lo : w.cell? ⟨B, 1, none⟩ = some (.int .u64 (lo : Nat))
  s : w.cell? ⟨B, 2, none⟩ = some (.int .i64 s)

set_option maxRecDepth 100000 in
set_option maxHeartbeats 1600000 in
theorem pre_any (tH tL : Nat → Nat) (N B : Nat) (e : Int) (p : Nat) (lp : Int) (w : World) (hT : TabAt tH tL N w) (hNB : N ≤ B) (hp : p < 696) (he1 : -100000 ≤ e) (he2 : e ≤ 100000) (hl1 : -100000 ≤ lp) (hl2 : lp ≤ 100000)
    (v0 v1 v2 : Value) (c0 : w.cell? ⟨B, 0, none⟩ = some v0) (c1 : w.cell? ⟨B, 1, none⟩ = some v1) (c2 : w.cell? ⟨B, 2, none⟩ = some v2) (f0 : w.frozen? ⟨B, 0, none⟩ = false) (f1 : w.frozen? ⟨B, 1, none⟩ = false) (f2 : w.frozen? ⟨B, 2, none⟩ = false) :
    Calls Tryz.prog 57 #[.pointer (some ⟨B, 0, none⟩), .int .i64 e, .int .i64 ((p : Int) - 348), .int .i64 lp] w fun r w' => r = .returned (.tuple #[]) ∧ PreS B (tH p) (tL p) (-(e + lp + 3)) w' ∧ Onl B w w' := by
  have hBg : B ≠ 7 := by have := hT.lt; omega
  have gh := (hT.hi p hp).1
  have gl := (hT.lo p hp).1
  have hpi : (p : Int) < 696 := by omega
  have hw := wi64 (z := e + lp + 3) (by omega) (by omega)
  clear hT
  go_enter Tryz.func57, Tryz.ntmps57
  go_wp2_with (fail)
  go_end0
  have k1 : (w.setCell ⟨B, 0, none⟩ (.int .u64 (tH p : Nat))).cell? ⟨B, 1, none⟩ = some v1 := (World.cell?_setCell_other _ _ _ _ (ne_off (by decide))).trans c1
  have k2 : ((w.setCell ⟨B, 0, none⟩ (.int .u64 (tH p : Nat))).setCell ⟨B, 1, none⟩ (.int .u64 (tL p : Nat))).cell? ⟨B, 2, none⟩ = some v2 := (World.cell?_setCell_other _ _ _ _ (ne_off (by decide))).trans ((World.cell?_setCell_other _ _ _ _ (ne_off (by decide))).trans c2)
  refine ⟨rfl, ⟨?_, ?_, World.cell?_setCell_same _ _ _ k2⟩, (((Onl.refl B w).setCell (p := ⟨B, 0, none⟩) rfl _).setCell (p := ⟨B, 1, none⟩) rfl _).setCell (p := ⟨B, 2, none⟩) rfl _⟩
  · exact (World.cell?_setCell_other _ _ _ _ (ne_off (by decide))).trans ((World.cell?_setCell_other _ _ _ _ (ne_off (by decide))).trans (World.cell?_setCell_same _ _ _ c0))
  · exact (World.cell?_setCell_other _ _ _ _ (ne_off (by decide))).trans (World.cell?_setCell_same _ _ _ k1)

/-- A call answers a word, the same in every world in which a scaler is so; and the world is as it was, but for draws. -/
def Says (x hi lo : Nat) (s : Int) (r : Int) : Prop := ∀ (B : Nat) (w : World), PreS B hi lo s w → Calls Tryz.prog 59 #[.int .u64 (x : Nat), .pointer (some ⟨B, 0, none⟩)] w fun e w' => e = .returned (.int .u64 r) ∧ ∃ n, w' = w.drewN n

/-- What the code answers, of the two products' halves. -/
def uscI (H M H2 : Nat) (k : Nat) : Int :=
  if (IntKind.u64.wrap ((H : Int) / 2 ^ k * 2 ^ k) != (H : Int)) = true then bits .or .u64 ((H : Int) / 2 ^ k) 1
  else bits .or .u64 (IntKind.u64.wrap ((H : Int) - (if M < H2 then 1 else 0)) / 2 ^ k) (if 1 < IntKind.u64.wrap ((M : Int) - (H2 : Int)) then 1 else 0)

set_option maxRecDepth 100000 in
set_option maxHeartbeats 1600000 in
theorem usc_any (x hi lo : Nat) (s : Int) (k : Nat) (hk : k < 64) (ek : bits .and .i64 s 63 = (k : Int)) (hx : x < 18446744073709551616) (hh : hi < 18446744073709551616) (hl : lo < 18446744073709551616) :
    Says x hi lo s (uscI (x * hi / 18446744073709551616) (x * hi % 18446744073709551616) (x * lo / 18446744073709551616) k) := by
  have hm : Tryz.prog.follows .mixedOrders = true := by kernel_rfl
  have hki : (k : Int) < 64 := by omega
  unfold Says
  have hH : x * hi / 18446744073709551616 < 18446744073709551616 := Nat.div_lt_of_lt_mul (Nat.mul_lt_mul'' hx hh)
  have hM : x * hi % 18446744073709551616 < 18446744073709551616 := Nat.mod_lt _ (by decide)
  have hH2 : x * lo / 18446744073709551616 < 18446744073709551616 := Nat.div_lt_of_lt_mul (Nat.mul_lt_mul'' hx hl)
  have hM2 : x * lo % 18446744073709551616 < 18446744073709551616 := Nat.mod_lt _ (by decide)
  have m1 := fun w => Tryz.bits_Mul64 x hi hx hh w
  have m2 := fun w => Tryz.bits_Mul64 x lo hx hl w
  generalize x * hi / 18446744073709551616 = H at *
  generalize x * hi % 18446744073709551616 = M at *
  generalize x * lo / 18446744073709551616 = H2 at *
  generalize x * lo % 18446744073709551616 = M2 at *
  clear hx hh hl
  by_cases hc : (IntKind.u64.wrap ((H : Int) / 2 ^ k * 2 ^ k) != (H : Int)) = true
  · unfold uscI
    rw [if_pos hc]
    intro B w hP
    have c0 := hP.hi
    have c1 := hP.lo
    have c2 := hP.s
    clear hP
    go_enter Tryz.func59, Tryz.ntmps59
    go_wp2_with (first | (go_at_call 90; (with_reducible refine (m1 _).mono ?_); rintro e w' ⟨rfl, rfl⟩) | (go_at_call 90; (with_reducible refine (m2 _).mono ?_); rintro e w' ⟨rfl, rfl⟩) | (go_at_call 83; refine (b2u_any _ _).mono ?_; rintro e w' ⟨rfl, rfl⟩))
    go_ret
    exact ⟨rfl, 0, rfl⟩
  · unfold uscI
    rw [if_neg hc]
    have hc : (IntKind.u64.wrap ((H : Int) / 2 ^ k * 2 ^ k) != (H : Int)) = false := by simpa using hc
    obtain ⟨W2, hW2⟩ : ∃ W2, IntKind.u64.wrap ((M : Int) - (H2 : Int)) = W2 := ⟨_, rfl⟩
    rw [hW2]
    obtain ⟨c1v, hc1⟩ : ∃ c1v : Int, (if M < H2 then 1 else 0) = c1v := ⟨_, rfl⟩
    obtain ⟨c2v, hc2⟩ : ∃ c2v : Int, (if 1 < W2 then 1 else 0) = c2v := ⟨_, rfl⟩
    rw [hc1, hc2]
    obtain ⟨W1, hW1⟩ : ∃ W1, IntKind.u64.wrap ((H : Int) - c1v) = W1 := ⟨_, rfl⟩
    rw [hW1]
    intro B w hP
    by_cases h1 : M < H2
    · rw [if_pos h1] at hc1
      by_cases h2 : 1 < W2
      · rw [if_pos h2] at hc2
        subst hc1 hc2
        have c0 := hP.hi
        have c1 := hP.lo
        have c2 := hP.s
        clear hP
        go_enter Tryz.func59, Tryz.ntmps59
        go_wp2_with (first | (go_at_call 90; (with_reducible refine (m1 _).mono ?_); rintro e w' ⟨rfl, rfl⟩) | (go_at_call 90; (with_reducible refine (m2 _).mono ?_); rintro e w' ⟨rfl, rfl⟩) | (go_at_call 83; refine (b2u_any _ _).mono ?_; rintro e w' ⟨rfl, rfl⟩))
        refine Go.Ev.wp_region_planE (fun v => v = w'.drew) hm (by kernel_rfl) (by kernel_rfl) rfl ?_
        iterate 10
          refine Go.Ev.planE_cons _ (by rintro v K rfl hK; go_simp; first | exact hK _ rfl | (go_at_call 83; refine (b2u_any _ _).mono ?_; rintro e w'' ⟨rfl, rfl⟩; exact hK _ rfl)) ?_
          simp only [Act.put, List.setIfInBounds_toArray, List.set_cons_succ, List.set_cons_zero]
        rintro w1 rfl
        go_wp2_with (fail)
        go_ret
        exact ⟨rfl, 1, rfl⟩
      · rw [if_neg h2] at hc2
        have h2f : (1 < W2) = False := eq_false h2
        subst hc1 hc2
        have c0 := hP.hi
        have c1 := hP.lo
        have c2 := hP.s
        clear hP
        go_enter Tryz.func59, Tryz.ntmps59
        go_wp2_with (first | (go_at_call 90; (with_reducible refine (m1 _).mono ?_); rintro e w' ⟨rfl, rfl⟩) | (go_at_call 90; (with_reducible refine (m2 _).mono ?_); rintro e w' ⟨rfl, rfl⟩) | (go_at_call 83; refine (b2u_any _ _).mono ?_; rintro e w' ⟨rfl, rfl⟩))
        refine Go.Ev.wp_region_planE (fun v => v = w'.drew) hm (by kernel_rfl) (by kernel_rfl) rfl ?_
        iterate 10
          refine Go.Ev.planE_cons _ (by rintro v K rfl hK; go_simp; first | exact hK _ rfl | (go_at_call 83; refine (b2u_any _ _).mono ?_; rintro e w'' ⟨rfl, rfl⟩; exact hK _ rfl)) ?_
          simp only [Act.put, List.setIfInBounds_toArray, List.set_cons_succ, List.set_cons_zero]
        rintro w1 rfl
        go_wp2_with (fail)
        go_ret
        exact ⟨rfl, 1, rfl⟩
    · rw [if_neg h1] at hc1
      have h1f : (M < H2) = False := eq_false h1
      by_cases h2 : 1 < W2
      · rw [if_pos h2] at hc2
        subst hc1 hc2
        obtain rfl : W1 = (H : Int) := by rw [← hW1, Int.sub_zero]; exact wu64 (by omega) (by omega)
        have c0 := hP.hi
        have c1 := hP.lo
        have c2 := hP.s
        clear hP
        go_enter Tryz.func59, Tryz.ntmps59
        go_wp2_with (first | (go_at_call 90; (with_reducible refine (m1 _).mono ?_); rintro e w' ⟨rfl, rfl⟩) | (go_at_call 90; (with_reducible refine (m2 _).mono ?_); rintro e w' ⟨rfl, rfl⟩) | (go_at_call 83; refine (b2u_any _ _).mono ?_; rintro e w' ⟨rfl, rfl⟩))
        refine Go.Ev.wp_region_planE (fun v => v = w'.drew) hm (by kernel_rfl) (by kernel_rfl) rfl ?_
        iterate 10
          refine Go.Ev.planE_cons _ (by rintro v K rfl hK; go_simp; first | exact hK _ rfl | (go_at_call 83; refine (b2u_any _ _).mono ?_; rintro e w'' ⟨rfl, rfl⟩; exact hK _ rfl)) ?_
          simp only [Act.put, List.setIfInBounds_toArray, List.set_cons_succ, List.set_cons_zero]
        rintro w1 rfl
        go_wp2_with (fail)
        go_ret
        exact ⟨rfl, 1, rfl⟩
      · rw [if_neg h2] at hc2
        have h2f : (1 < W2) = False := eq_false h2
        subst hc1 hc2
        obtain rfl : W1 = (H : Int) := by rw [← hW1, Int.sub_zero]; exact wu64 (by omega) (by omega)
        have c0 := hP.hi
        have c1 := hP.lo
        have c2 := hP.s
        clear hP
        go_enter Tryz.func59, Tryz.ntmps59
        go_wp2_with (first | (go_at_call 90; (with_reducible refine (m1 _).mono ?_); rintro e w' ⟨rfl, rfl⟩) | (go_at_call 90; (with_reducible refine (m2 _).mono ?_); rintro e w' ⟨rfl, rfl⟩) | (go_at_call 83; refine (b2u_any _ _).mono ?_; rintro e w' ⟨rfl, rfl⟩))
        refine Go.Ev.wp_region_planE (fun v => v = w'.drew) hm (by kernel_rfl) (by kernel_rfl) rfl ?_
        iterate 10
          refine Go.Ev.planE_cons _ (by rintro v K rfl hK; go_simp; first | exact hK _ rfl | (go_at_call 83; refine (b2u_any _ _).mono ?_; rintro e w'' ⟨rfl, rfl⟩; exact hK _ rfl)) ?_
          simp only [Act.put, List.setIfInBounds_toArray, List.set_cons_succ, List.set_cons_zero]
        rintro w1 rfl
        go_wp2_with (fail)
        go_ret
        exact ⟨rfl, 1, rfl⟩

theorem bitsOr (a b : Nat) (ha : a < 18446744073709551616) (hb : b < 18446744073709551616) : bits .or .u64 (a : Int) (b : Int) = ((a ||| b : Nat) : Int) := by
  have h1 : (BitVec.ofInt 64 (a : Int)).toNat = a := by simp; omega
  have h2 : (BitVec.ofInt 64 (b : Int)).toNat = b := by simp; omega
  have hlt : a ||| b < 2 ^ 64 := Nat.or_lt_two_pow (n := 64) (by omega) (by omega)
  show IntKind.u64.wrap ((BitVec.ofInt 64 (a : Int) ||| BitVec.ofInt 64 (b : Int)).toNat : Int) = _
  rw [BitVec.toNat_or, h1, h2]
  exact wu64 (by omega) (by omega)
theorem and63_id (k : Nat) (hk : k < 64) : bits .and .i64 (k : Int) 63 = (k : Int) := by
  have h1 : (BitVec.ofInt 64 (k : Int)).toNat = k := by simp; omega
  have h2 : (BitVec.ofInt 64 (63 : Int)).toNat = 63 := by decide
  show IntKind.i64.wrap ((BitVec.ofInt 64 (k : Int) &&& BitVec.ofInt 64 63).toNat : Int) = _
  rw [BitVec.toNat_and, h1, h2, show (63 : Nat) = 2 ^ 6 - 1 from rfl, Nat.and_two_pow_sub_one_eq_mod, Nat.mod_eq_of_lt (by omega)]
  exact wi64 (by omega) (by omega)

theorem uscI_is (x hi lo k : Nat) (hk : k < 64) (hx : x < 18446744073709551616) (hh : hi < 18446744073709551616) (hl : lo < 18446744073709551616)
    (h0 : x * hi / 18446744073709551616 % 2 ^ k = 0 → x * hi % 18446744073709551616 < x * lo / 18446744073709551616 → 0 < x * hi / 18446744073709551616) :
    uscI (x * hi / 18446744073709551616) (x * hi % 18446744073709551616) (x * lo / 18446744073709551616) k = (Us.uscN x hi lo k : Nat) := by
  unfold Us.uscN
  have hH : x * hi / 18446744073709551616 < 18446744073709551616 := Nat.div_lt_of_lt_mul (Nat.mul_lt_mul'' hx hh)
  have hM : x * hi % 18446744073709551616 < 18446744073709551616 := Nat.mod_lt _ (by decide)
  have hH2 : x * lo / 18446744073709551616 + 1 < 18446744073709551616 := by
    have : x * lo ≤ 18446744073709551615 * 18446744073709551615 := Nat.mul_le_mul (by omega) (by omega)
    omega
  generalize x * hi / 18446744073709551616 = H at *
  generalize x * hi % 18446744073709551616 = M at *
  generalize x * lo / 18446744073709551616 = H2 at *
  have hp : 0 < 2 ^ k := Nat.two_pow_pos k
  have e1 : (H : Int) / 2 ^ k = ((H / 2 ^ k : Nat) : Int) := by push_cast; rfl
  have e2 : ((H / 2 ^ k : Nat) : Int) * 2 ^ k = ((H / 2 ^ k * 2 ^ k : Nat) : Int) := by push_cast; rfl
  have le := Nat.div_mul_le_self H (2 ^ k)
  have dm := Nat.div_add_mod H (2 ^ k)
  have hq : H / 2 ^ k ≤ H := Nat.div_le_self ..
  have hc : (IntKind.u64.wrap ((H : Int) / 2 ^ k * 2 ^ k) != (H : Int)) = true ↔ H % 2 ^ k ≠ 0 := by
    rw [e1, e2, wu64 (by omega) (by omega), bne_iff_ne]
    rw [Nat.mul_comm] at dm
    omega
  unfold uscI
  by_cases h1 : H % 2 ^ k ≠ 0
  · rw [if_pos (hc.2 h1), if_pos h1, e1]
    exact bitsOr _ 1 (by omega) (by decide)
  · rw [if_neg (fun h => h1 (hc.1 h)), if_neg h1]
    by_cases h2 : H2 ≤ M
    · rw [if_neg (by omega), if_pos h2, Int.sub_zero, wu64 (by omega) (by omega), e1, wu64 (by omega) (by omega)]
      by_cases h3 : M - H2 ≤ 1
      · rw [if_neg (by omega), if_pos h3]
        exact bitsOr _ 0 (by omega) (by decide)
      · rw [if_pos (by omega), if_neg h3]
        exact bitsOr _ 1 (by omega) (by decide)
    · have hH0 := h0 (by omega) (by omega)
      rw [if_pos (by omega), if_neg h2, wu64 (z := (H : Int) - 1) (by omega) (by omega)]
      have e3 : ((H : Int) - 1) / 2 ^ k = (((H - 1) / 2 ^ k : Nat) : Int) := by
        rw [show (H : Int) - 1 = ((H - 1 : Nat) : Int) by omega]; push_cast; rfl
      have hw : 1 < IntKind.u64.wrap ((M : Int) - (H2 : Int)) := by
        rw [IntKind.wrap_u64]; omega
      rw [if_pos hw, e3]
      have : (H - 1) / 2 ^ k ≤ H - 1 := Nat.div_le_self ..
      exact bitsOr _ 1 (by omega) (by decide)

/-- uscale, exact. -/
theorem usc_is (x hi lo k : Nat) (hk : k < 64) (hx : x < 18446744073709551616) (hh : hi < 18446744073709551616) (hl : lo < 18446744073709551616)
    (h0 : x * hi / 18446744073709551616 % 2 ^ k = 0 → x * hi % 18446744073709551616 < x * lo / 18446744073709551616 → 0 < x * hi / 18446744073709551616) : Says x hi lo (k : Int) (Us.uscN x hi lo k : Nat) := by
  have := usc_any x hi lo (k : Int) k hk (and63_id k hk) hx hh hl
  rwa [uscI_is x hi lo k hk hx hh hl h0] at this
end Go.Proofs.YthhmimlfiaboeaaGreatDoor
