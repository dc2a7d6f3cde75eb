/- atof64exact of a decimal in a number's rounding interval: that number, or no answer. -/
import Derived.Test.YthhmimlfiaboeaaGreatDoorPkn
namespace Go.Proofs.YthhmimlfiaboeaaGreatDoor
open Go.RowKit

theorem run_fneg (n : Nat) (w : World) : (Op.unary UnOp.neg (.float .f64 n)).run Tryz.prog w = .ok (.float .f64 (Op.negFloat .f64 n)) w := rfl
/-- The widths of floats, in memory. -/
structure FltAt (N : Nat) (w : World) : Prop where
  m : w.cell? ⟨6, 0, none⟩ = some (.int .u64 52)
  lt : 6 < N
theorem FltAt.keep {N : Nat} {w w' : World} (h : FltAt N w) (hb : Below N w w') : FltAt N w' := ⟨(hb.cell (by exact h.lt)).trans h.m, h.lt⟩
/-- Powers of ten as floats, in memory. -/
def P10At (N : Nat) (w : World) : Prop := ∃ pb off cap, w.cell? ⟨11, 0, none⟩ = some (.slice (some ⟨pb, off, none⟩) 23 cap) ∧ pb < N ∧ 11 < N ∧ ∀ i, i < 23 → w.cell? ⟨pb, off + i, none⟩ = some (.float .f64 (Us.w10.getD i 0))
theorem P10At.keep {N : Nat} {w w' : World} (h : P10At N w) (hb : Below N w w') : P10At N w' := by
  obtain ⟨pb, off, cap, h1, h2, h3, h4⟩ := h
  exact ⟨pb, off, cap, (hb.cell (by exact h3)).trans h1, h2, h3, fun i hi => (hb.cell (by exact h2)).trans (h4 i hi)⟩

/-- An answer: that float, or none. -/
def IsEx (k : Nat) (e : Ending) : Prop := (∃ j : Nat, e = .returned (.tuple #[.float .f64 j, .bool false])) ∨ e = .returned (.tuple #[.float .f64 k, .bool true])

theorem wrd_int (m : Nat) (h0 : 0 < m) (h : m < 9007199254740992) : FloatKind.f64.nearest (m : Int) = Us.wrd false m := by
  have h1 : decide ((m : Int) < 0) = false := by simp
  have : FloatKind.f64.nearest (m : Int) = Ieee.double.nearest (decide ((m : Int) < 0)) ((m : Int).natAbs) 0 := rfl
  rw [this, h1, Int.natAbs_natCast]
  exact Us.near_int_word m h0 h

set_option maxRecDepth 100000 in
set_option maxHeartbeats 3200000 in
theorem exa_is (N m J : Nat) (neg : Bool) (m0 n : Nat) (w : World) (hm0 : 0 < m) (hm : m < 18446744073709551616) (hF : FltAt N w) (hP : P10At N w) (hJ : J ≤ 700) (hf : Us.Fin64 m0 n) (hI : Us.Ins m0 n (m * 10 ^ J)) :
    Calls Tryz.prog 85 #[.int .u64 (m : Nat), .int .i64 ((J : Int) - 348), .bool neg] w fun e w' => IsEx (Ieee.double.word neg (Us.rung m0 n)) e ∧ w = w' := by
  have f0 := hF.m
  obtain ⟨pb, off, cap, g1, g2, g3, g4⟩ := hP
  have g4H := Hid.mk g4
  have hIH := Hid.mk hI
  have hfH := Hid.mk hf
  clear hF g4 hI hf
  have hneg := fun (n : Nat) (w : World) => run_fneg n w
  obtain ⟨p, hp⟩ : ∃ p : Int, (J : Int) - 348 = p := ⟨_, rfl⟩
  rw [hp]
  go_enter Tryz.func85, Tryz.ntmps85
  by_cases hbig : 4503599627370496 ≤ m
  · have hb : ((m : Int) / 4503599627370496 != 0) = true := by simp; omega
    go_wp2_with (fail)
    go_ret2
    exact ⟨.inl ⟨_, rfl⟩, rfl⟩
  have hb : ((m : Int) / 4503599627370496 != 0) = false := by simp; omega
  have hwi := Hid.mk (wrd_int m hm0 (by omega))
  have hwn := Hid.mk (Us.wrd_neg m hm0 (by omega))
  go_upto_if 15 with fail
  go_cut [6] (fun x wr => wr = w ∧ x = .float .f64 (Us.wrd neg m))
  case first =>
    cases neg
    all_goals
      go_wp2_with (fail)
      go_meet
    · exact ⟨rfl, congrArg _ hwi.out⟩
    · exact ⟨rfl, congrArg _ ((congrArg (Op.negFloat .f64) hwi.out).trans hwn.out)⟩
  case rest =>
    obtain ⟨hwr, rfl⟩ := hcut
    subst hwr
    obtain ⟨k, hk⟩ : ∃ k, Us.wrd neg m = k := ⟨_, rfl⟩
    obtain ⟨R, hR⟩ : ∃ R, Ieee.double.word neg (Us.rung m0 n) = R := ⟨_, rfl⟩
    by_cases h0 : p = 0
    · subst h0
      have hJ8 : J = 348 := by omega
      have hv : k = R := by
        have := hIH.out
        rw [hJ8, ← Us.TT_eq] at this
        rw [← hk, ← hR]
        exact Us.int_ok neg m m0 n hm0 (by omega) hfH.out this
      rw [hk]
      go_wp2_with (fail)
      go_ret2
      exact ⟨.inr (by rw [hR, ← hv]; rfl), rfl⟩
    have h0b : (p == 0) = false := beq_ne h0
    rw [hk]
    by_cases hpos : 0 < p
    · obtain ⟨j, rfl⟩ : ∃ j : Nat, p = (j : Int) := ⟨p.toNat, by omega⟩
      have hn0 : 0 < j := by omega
      have hJ8 : J = 348 + j := by omega
      by_cases h37 : j ≤ 37
      · have h37i : (j : Int) ≤ 37 := by omega
        by_cases h22 : j ≤ 22
        · have h22i : ((22 : Int) < (j : Int)) = False := eq_false (by omega)
          have h22n : (22 < j) = False := eq_false (by omega)
          have hv := g4H.out j (by omega)
          obtain ⟨v, hve⟩ : ∃ v, Us.w10.getD j 0 = v := ⟨_, rfl⟩
          have hmul : floatBits .mul .f64 k v = some R := by
            have := hIH.out
            rw [hJ8] at this
            rw [← hk, ← hve, ← hR]
            exact Us.mul_ok neg m j m0 n hm0 (by omega) h22 hfH.out this
          rw [hve] at hv
          have hrun := fun (w : World) => run_float_arith (P := Tryz.prog) w .mul 24 .f64 k v R hmul
          have hn23 : (j : Int) < 23 := by omega
          obtain ⟨c1, hc1⟩ : ∃ c, (FloatKind.f64.format.order k 4831355200913801216 == some Ordering.gt) = c := ⟨_, rfl⟩
          obtain ⟨c2, hc2⟩ : ∃ c, (FloatKind.f64.format.order k 14054727237768577024 == some Ordering.lt) = c := ⟨_, rfl⟩
          cases c1
          · cases c2
            · go_wp2_with (fail)
              go_ret2
              exact ⟨.inr (by first | rfl | (rw [hR]; rfl)), rfl⟩
            · go_wp2_with (fail)
              go_ret2
              exact ⟨.inl ⟨_, rfl⟩, rfl⟩
          · go_wp2_with (fail)
            go_ret2
            exact ⟨.inl ⟨_, rfl⟩, rfl⟩
        · have h22i : ((22 : Int) < (j : Int)) = True := eq_true (by omega)
          have h22n : (22 < j) = True := eq_true (by omega)
          have hv := g4H.out 22 (by omega)
          obtain ⟨i, hi⟩ : ∃ i : Nat, (j : Int) - 22 = (i : Int) := ⟨j - 22, by omega⟩
          have hi23 : (i : Int) < 23 := by omega
          have hv2 := g4H.out i (by omega)
          obtain ⟨v, hve⟩ : ∃ v, Us.w10.getD 22 0 = v := ⟨_, rfl⟩
          obtain ⟨v2, hve2⟩ : ∃ v, Us.w10.getD i 0 = v := ⟨_, rfl⟩
          rw [hve] at hv
          rw [hve2] at hv2
          -- the first product
          obtain ⟨r, hr, hsmall⟩ : ∃ r, floatBits .mul .f64 k v2 = some r ∧ ((FloatKind.f64.format.order r 4831355200913801216 == some Ordering.gt) = false → (FloatKind.f64.format.order r 14054727237768577024 == some Ordering.lt) = false → floatBits .mul .f64 r v = some R) := by
            rcases Nat.lt_or_ge (m * 10 ^ i) 9007199254740992 with hlt | hge
            · refine ⟨Us.wrd neg (m * 10 ^ i), by rw [← hk, ← hve2]; exact Us.mul_exact neg m i hm0 (by omega) hlt, fun _ _ => ?_⟩
              have := hIH.out
              rw [hJ8, show 348 + j = i + (348 + 22) by omega, Nat.pow_add 10 i, ← Nat.mul_assoc] at this
              rw [← hve, ← hR]
              exact Us.mul_ok neg (m * 10 ^ i) 22 m0 n (Nat.mul_pos hm0 (Nat.pow_pos (by decide))) hlt (by omega) hfH.out this
            · obtain ⟨q, hq1, hq2, hq3⟩ := Us.mul_big neg m i hm0 (by omega) (by omega) hge
              refine ⟨Ieee.double.word neg q, by rw [← hk, ← hve2]; exact hq1, fun ha hb => ?_⟩
              exfalso
              have ho := Us.order_big neg q hq2 hq3
              cases neg
              · have : (FloatKind.f64.format.order (Ieee.double.word false q) 4831355200913801216 == some Ordering.gt) = true := by
                  have h1 : FloatKind.f64.format.order (Ieee.double.word false q) 4831355200913801216 = some Ordering.gt := ho
                  rw [h1]; rfl
                rw [this] at ha; cases ha
              · have : (FloatKind.f64.format.order (Ieee.double.word true q) 14054727237768577024 == some Ordering.lt) = true := by
                  have h1 : FloatKind.f64.format.order (Ieee.double.word true q) 14054727237768577024 = some Ordering.lt := ho
                  rw [h1]; rfl
                rw [this] at hb; cases hb
          have hrun := fun (w : World) => run_float_arith (P := Tryz.prog) w .mul 24 .f64 k v2 r hr
          obtain ⟨c1, hc1⟩ : ∃ c, (FloatKind.f64.format.order r 4831355200913801216 == some Ordering.gt) = c := ⟨_, rfl⟩
          obtain ⟨c2, hc2⟩ : ∃ c, (FloatKind.f64.format.order r 14054727237768577024 == some Ordering.lt) = c := ⟨_, rfl⟩
          cases c1
          · cases c2
            · have hrun2 := fun (w : World) => run_float_arith (P := Tryz.prog) w .mul 24 .f64 r v R (hsmall hc1 hc2)
              clear hsmall
              go_wp2_with (fail)
              go_ret2
              exact ⟨.inr (by first | rfl | (rw [hR]; rfl)), rfl⟩
            · clear hsmall
              go_wp2_with (fail)
              go_ret2
              exact ⟨.inl ⟨_, rfl⟩, rfl⟩
          · clear hsmall
            go_wp2_with (fail)
            go_ret2
            exact ⟨.inl ⟨_, rfl⟩, rfl⟩
      · have h37i : ((j : Int) ≤ 37) = False := eq_false (by omega)
        have h37n : (j ≤ 37) = False := eq_false (by omega)
        have hneg0 : ((j : Int) < 0) = False := eq_false (by omega)
        go_wp2_with (fail)
        go_ret2
        exact ⟨.inl ⟨_, rfl⟩, rfl⟩
    · obtain ⟨j, rfl⟩ : ∃ j : Nat, p = -(j : Int) := ⟨(-p).toNat, by omega⟩
      have hn0 : 0 < j := by omega
      have hJ8 : J + j = 348 := by omega
      have hpo : ((0 : Int) < -(j : Int)) = False := eq_false (by omega)
      have hpn : (-(j : Int) < 0) = True := eq_true (by omega)
      by_cases h22 : j ≤ 22
      · have h22i : (-22 ≤ -(j : Int)) = True := eq_true (by omega)
        have hv := g4H.out j (by omega)
        obtain ⟨v, hve⟩ : ∃ v, Us.w10.getD j 0 = v := ⟨_, rfl⟩
        have hquo : floatBits .quo .f64 k v = some R := by
          have := hIH.out
          rw [show J = 348 - j by omega] at this
          rw [← hk, ← hve, ← hR]
          exact Us.quo_ok neg m j m0 n hm0 (by omega) h22 hfH.out this
        rw [hve] at hv
        have hrun := fun (w : World) => run_float_arith (P := Tryz.prog) w .quo 24 .f64 k v R hquo
        have hn23 : (j : Int) < 23 := by omega
        go_wp2_with (fail)
        go_ret2
        exact ⟨.inr (by first | rfl | (rw [hR]; rfl)), rfl⟩
      · have h22i : (-22 ≤ -(j : Int)) = False := eq_false (by omega)
        go_wp2_with (fail)
        go_ret2
        exact ⟨.inl ⟨_, rfl⟩, rfl⟩
end Go.Proofs.YthhmimlfiaboeaaGreatDoor
