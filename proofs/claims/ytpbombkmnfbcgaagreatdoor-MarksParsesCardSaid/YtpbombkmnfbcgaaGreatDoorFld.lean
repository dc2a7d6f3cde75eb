/- The bits of the float that a decimal near by is. Printed by genfld.py. -/
import Derived.Test.YtpbombkmnfbcgaaGreatDoorFla
import Derived.Test.YtpbombkmnfbcgaaGreatDoorPle
namespace Go.Proofs.YtpbombkmnfbcgaaGreatDoor
open Go.RowKit

theorem Onl.below {N B : Nat} {w w' : World} (h : Onl B w w') (h1 : N ≤ B) (h2 : N ≤ w.heap.size) : Below N w w' :=
  let ⟨a, b, c, d, e⟩ := h
  ⟨a, b, c, d, fun i hi => e i (by omega) (by intro e; cases e; omega)⟩
theorem isUB_bits (op : BinOp) (x y : Int) (b : Bool) : IsUB (.returned (.tuple #[.int .u64 (bits op .u64 x y), .bool b])) := by
  obtain ⟨n, hn, he⟩ := bitsU op x y
  exact ⟨n, b, hn, by rw [he]⟩
theorem pw_in {m : Nat} (h1 : 1 ≤ m) (h2 : m ≤ 8) : 1 ≤ pw m ∧ pw m ≤ 26 := by
  have hm : m = 1 ∨ m = 2 ∨ m = 3 ∨ m = 4 ∨ m = 5 ∨ m = 6 ∨ m = 7 ∨ m = 8 := by omega
  rcases hm with rfl | rfl | rfl | rfl | rfl | rfl | rfl | rfl <;> decide
theorem chD_pw {m : Nat} (h1 : 1 ≤ m) (h2 : m ≤ 8) : chD (pw m) ≤ m := by
  have hm : m = 1 ∨ m = 2 ∨ m = 3 ∨ m = 4 ∨ m = 5 ∨ m = 6 ∨ m = 7 ∨ m = 8 := by omega
  rcases hm with rfl | rfl | rfl | rfl | rfl | rfl | rfl | rfl <;> decide
theorem chD_27 : chD 27 = 9 := by rfl
/-- Less than a half has no new digit when doubled. -/
theorem low_half {D : Nat → Nat} {nd : Nat} (hD : Digs D nd) (h1 : 1 ≤ nd) (h5 : D 0 < 53) : ¬ (5 ^ 1 * 10 ^ nd ≤ num D nd * 10 ^ (chC 1).length) := by
  obtain ⟨m, rfl⟩ : ∃ m, nd = m + 1 := ⟨nd - 1, by omega⟩
  have hr : num (fun i => D (1 + i)) m < 10 ^ m := num_lt fun i hi => hD _ (by omega)
  have hc : (chC 1).length = 1 := by rfl
  have hf := num_first D m
  have hd : (D 0 - 48) * 10 ^ m ≤ 4 * 10 ^ m := Nat.mul_le_mul_right _ (by omega)
  have hp : 10 ^ (m + 1) = 10 * 10 ^ m := by rw [Nat.pow_succ]; omega
  rw [hc, hp]
  omega

/-- Where the loops stand. -/
structure FlS (B : Nat) (neg : Bool) (w : World) (wr : World) (D1 : Nat → Nat) (nd1 : Nat) (dp1 : Int) (tr1 : Bool) : Prop where
  dec : DecS B D1 nd1 dp1 neg tr1 wr
  dg : Digs D1 nd1
  d0 : D1 0 ≠ 48
  n1 : 1 ≤ nd1
  n8 : nd1 ≤ 800
  only : Onl B w wr

set_option maxRecDepth 100000 in
set_option maxHeartbeats 20000000 in
theorem flb_near (N B : Nat) (D : Nat → Nat) (nd : Nat) (dp : Int) (neg tr : Bool) (w : World) (hS : DecS B D nd dp neg tr w) (hF : FltAt N w) (hP : PowAt N w) (hC : CheatsAt N w) (hNB : N ≤ B) (hD : Digs D nd) (h0 : D 0 ≠ 48) (h1 : 1 ≤ nd) (h8 : nd ≤ 800) (hn1 : -330 ≤ dp) (hn2 : dp ≤ 310) :
    Calls Tryz.prog 57 #[.pointer (some ⟨B, 0, none⟩), .pointer (some ⟨5, 0, none⟩)] w fun e w' => IsUB e ∧ Onl B w w' := by
  have cN := hS.nd
  have cP := hS.dp
  have hlt := hS.lt
  have hm : Tryz.prog.follows .mixedOrders = true := by kernel_rfl
  have hnz : ((nd : Int) == 0) = false := beq_ne (by omega)
  have ha : (310 < dp) = False := by simp; omega
  have hb : (dp < -330) = False := by simp; omega
  have hFL : Hid (FlS B neg w w D nd dp tr) := .mk ⟨hS, hD, h0, h1, h8, Onl.refl _ _⟩
  have hFH : Hid (FltAt N w) := .mk hF
  have hPH : Hid (PowAt N w) := .mk hP
  have hCH : Hid (CheatsAt N w) := .mk hC
  clear hS hF hP hC hD
  go_enter Tryz.func57, Tryz.ntmps57
  go_wp2_with (refine wp_scope_inline 2 ?_)
  go_loopw [6] (fun x wr => ∃ (D1 : Nat → Nat) (nd1 : Nat) (dp1 : Int) (tr1 : Bool) (z : Nat), x = .int .i64 (z : Nat) ∧ FlS B neg w wr D1 nd1 dp1 tr1 ∧ -330 ≤ dp1 ∧ dp1 ≤ 310 ∧ z + 27 * mu1 dp1 (D1 0) ≤ 27 * 700) (fun _ wr => mu1 (dpOf B wr) (d0Of B wr))
  case atStart => exact ⟨D, nd, dp, tr, 0, rfl, hFL.out, hn1, hn2, by unfold mu1; split <;> omega⟩
  case round =>
    obtain ⟨D1, nd1, dp1, tr1, z, rfl, hL, hd1, hd2, hz⟩ := hrel
    have cP1 := hL.dec.dp
    have hLH : Hid (FlS B neg w wr D1 nd1 dp1 tr1) := .mk hL
    have hPw : Hid (PowAt N wr) := .mk (hPH.out.keep (hL.only.below hNB (by omega)))
    obtain ⟨pb, off, cap, g1, g2, g3, g4⟩ := hPw.out
    have hmu0 : mu1 dp1 (D1 0) = mu1 (dpOf B wr) (d0Of B wr) := by rw [hL.dec.dpOf, hL.dec.d0Of]
    have hdg0 := hL.dg 0 (by have := hL.n1; omega)
    have hmuH := Hid.mk hmu0
    clear hmu0
    by_cases hpos : 0 < dp1
    · by_cases h9 : 9 ≤ dp1
      · have hcall : Hid _ := .mk (shr1_any B D1 nd1 dp1 neg tr1 27 wr.drew hL.dec.drew hL.dg hL.d0 hL.n1 hL.n8 (by omega) (by omega) (by omega) (by omega))
        clear hL g4
        go_wp2_with (fail)
        refine Go.Ev.wp_region_planE (fun v => v = wr.drew) hm (by kernel_rfl) (by kernel_rfl) rfl ?_
        iterate 7
          refine Go.Ev.planE_cons _ (by rintro v K rfl hK; go_simp; exact hK _ rfl) ?_
          simp only [Act.put, List.setIfInBounds_toArray, List.set_cons_succ, List.set_cons_zero]
        rintro w1 rfl
        go_wp2_with (fail)
        go_at_call 46
        refine hcall.out.mono ?_
        rintro e w2 ⟨rfl, D2, nd2, r, n, tr2, hD2, hg2, h02, h12, h82, hr1, hr30, hn2', hn10, hone, hd0, hO2⟩
        have hmu := mu1_lt (k := 27) hpos (by rw [if_pos h9]) hr1 hn2' hn10 hone hdg0.2 hd0
        have hL2 : FlS B neg w w2 D2 nd2 (dp1 - ((r : Nat) - 1)) tr2 := ⟨hD2, hg2, h02, h12, h82, (hLH.out.only.drew).trans hO2⟩
        have hmu2 : mu1 (dpOf B w2) (d0Of B w2) < mu1 (dpOf B wr) (d0Of B wr) := by rw [← hmuH.out, hD2.dpOf, hD2.d0Of]; exact hmu
        have hL2H := Hid.mk hL2
        have hmu2H := Hid.mk hmu2
        clear hL2 hmu2 hD2 hO2 hg2 hn2' hn10 hone hd0
        go_wp2_with (fail)
        exact ⟨⟨D2, nd2, _, tr2, z + 27, congrArg _ (by omega), hL2H.out, by omega, by omega, by omega⟩, hmu2H.out⟩
      · obtain ⟨m, rfl⟩ : ∃ m : Nat, dp1 = (m : Int) := ⟨dp1.toNat, by omega⟩
        have h9' : ((9 : Int) ≤ (m : Int)) = False := by simp; omega
        have hm0 : 0 < m := by omega
        have hm1 : 1 ≤ m := hm0
        have hm8 : m ≤ 8 := by omega
        have hmi : (m : Int) < 9 := by omega
        have gm := g4 m (by omega)
        obtain ⟨hk1, hk26⟩ := pw_in hm1 hm8
        have hkk : Hid (pw m = if 9 ≤ (m : Int) then 27 else pw (m : Int).toNat) := .mk (by rw [if_neg (by omega), Int.toNat_natCast])
        obtain ⟨k, hk⟩ : ∃ k, pw m = k := ⟨_, rfl⟩
        rw [hk] at gm hk1 hk26 hkk
        have hki : (k : Int) ≤ 26 := by omega
        have hcall : Hid _ := .mk (shr1_any B D1 nd1 m neg tr1 k wr.drew.drew hL.dec.drew.drew hL.dg hL.d0 hL.n1 hL.n8 (by omega) (by omega) (by omega) (by omega))
        clear hL g4 hk h9
        go_wp2_with (fail)
        refine Go.Ev.wp_region_planE (fun v => v = wr.drew) hm (by kernel_rfl) (by kernel_rfl) rfl ?_
        iterate 7
          refine Go.Ev.planE_cons _ (by rintro v K rfl hK; go_simp; exact hK _ rfl) ?_
          simp only [Act.put, List.setIfInBounds_toArray, List.set_cons_succ, List.set_cons_zero]
        rintro w1 rfl
        go_wp2_with (fail)
        refine Go.Ev.wp_region_planE (fun v => v = wr.drew.drew) hm (by kernel_rfl) (by kernel_rfl) rfl ?_
        iterate 8
          refine Go.Ev.planE_cons _ (by rintro v K rfl hK; go_simp; exact hK _ rfl) ?_
          simp only [Act.put, List.setIfInBounds_toArray, List.set_cons_succ, List.set_cons_zero]
        rintro w1 rfl
        go_wp2_with (fail)
        go_at_call 46
        refine hcall.out.mono ?_
        rintro e w2 ⟨rfl, D2, nd2, r, n, tr2, hD2, hg2, h02, h12, h82, hr1, hr30, hn2', hn10, hone, hd0, hO2⟩
        have hmu := mu1_lt (k := k) hpos hkk.out hr1 hn2' hn10 hone hdg0.2 hd0
        have hL2 : FlS B neg w w2 D2 nd2 ((m : Int) - ((r : Nat) - 1)) tr2 := ⟨hD2, hg2, h02, h12, h82, (hLH.out.only.drew.drew).trans hO2⟩
        have hmu2 : mu1 (dpOf B w2) (d0Of B w2) < mu1 (dpOf B wr) (d0Of B wr) := by rw [← hmuH.out, hD2.dpOf, hD2.d0Of]; exact hmu
        have hL2H := Hid.mk hL2
        have hmu2H := Hid.mk hmu2
        clear hL2 hmu2 hD2 hO2 hg2 hn2' hn10 hone hd0
        go_wp2_with (fail)
        exact ⟨⟨D2, nd2, _, tr2, z + k, congrArg _ (by omega), hL2H.out, by omega, by omega, by omega⟩, hmu2H.out⟩
    · have hp0 : (0 < dp1) = False := by simp; omega
      have hz9 : z ≤ 18900 := by omega
      clear g4 hL
      go_wp2_with (fail)
      obtain ⟨wz, hwz⟩ : ∃ wz : World, wz = wr := ⟨wr, rfl⟩
      subst hwz
      go_loopw [6] (fun x wr => ∃ (D1 : Nat → Nat) (nd1 : Nat) (dp1 : Int) (tr1 : Bool) (z : Int), x = .int .i64 z ∧ FlS B neg w wr D1 nd1 dp1 tr1 ∧ -330 ≤ dp1 ∧ dp1 ≤ 0 ∧ z ≤ 18900 ∧ -200000 + 27 * (mu2 dp1 (D1 0) : Nat) ≤ z) (fun _ wr => mu2 (dpOf B wr) (d0Of B wr))
      case atStart => exact ⟨D1, nd1, dp1, tr1, (z : Int), rfl, hLH.out, hd1, by omega, by omega, by unfold mu2; omega⟩
      case round =>
        clear hLH hPw hmuH
        obtain ⟨D2, nd2, dp2, tr2, z2, rfl, hL, hd1', hd2', hz1, hz2⟩ := hrel
        have cP2 := hL.dec.dp
        have c02 := hL.dec.dig 0 (by omega)
        have hLH : Hid (FlS B neg w wr D2 nd2 dp2 tr2) := .mk hL
        have hPw : Hid (PowAt N wr) := .mk (hPH.out.keep (hL.only.below hNB (by omega)))
        have hCw : Hid (CheatsAt N wr) := .mk (hCH.out.keep (hL.only.below hNB (by omega)))
        obtain ⟨pb, off, cap, g1, g2, g3, g4⟩ := hPw.out
        have hmuH : Hid (mu2 dp2 (D2 0) = mu2 (dpOf B wr) (d0Of B wr)) := .mk (by rw [hL.dec.dpOf, hL.dec.d0Of])
        have hdg0 := hL.dg 0 (by have := hL.n1; omega)
        have hne0 := hL.d0
        have hb9 : (mu2 dp2 (D2 0) : Int) ≤ 7000 := by unfold mu2; omega
        obtain ⟨m, rfl⟩ : ∃ m : Nat, dp2 = -(m : Int) := ⟨(-dp2).toNat, by omega⟩
        by_cases hm0 : 0 < m
        · have hng : (-(m : Int) < 0) = True := by simp; omega
          have hwm : IntKind.i64.wrap (m : Int) = (m : Int) := wi64 (by omega) (by omega)
          by_cases h9 : 9 ≤ m
          · have h9i : (9 : Int) ≤ (m : Int) := by omega
            have hcall : Hid _ := .mk (shl_any N B D2 nd2 (-(m : Int)) neg tr2 27 wr.drew hL.dec.drew (hCw.out.keep (Below.refl _ _).drew) hNB hL.dg hL.d0 hL.n1 hL.n8 (by omega) (by omega) (by omega) (by omega))
            clear hL g4
            go_wp2_with (fail)
            refine Go.Ev.wp_region_planE (fun v => v = wr.drew) hm (by kernel_rfl) (by kernel_rfl) rfl ?_
            iterate 8
              refine Go.Ev.planE_cons _ (by rintro v K rfl hK; go_simp; exact hK _ rfl) ?_
              simp only [Act.put, List.setIfInBounds_toArray, List.set_cons_succ, List.set_cons_zero]
            rintro w1 rfl
            go_wp2_with (fail)
            go_at_call 46
            refine hcall.out.mono ?_
            rintro e w2 ⟨rfl, D3, nd3, e3, tr3, hD3, hg3, h03, h13, h83, hee, hff, hO3⟩
            have hd3 := hg3 0 (by omega)
            have he1 : e3 = chD 27 ∨ e3 + 1 = chD 27 := by rcases hee with h | h <;> omega
            have hle : e3 ≤ m := by rw [chD_27] at he1; omega
            have hmu := mu2_lt (k := 27) (e := e3) hd2' (by rw [if_pos (by omega)]) he1 hff (by omega) (by omega) (by intro h3 h4; have := hff h4; rw [h3] at this; omega) (by intro h; omega)
            have hL3 : FlS B neg w w2 D3 nd3 (-(m : Int) + (e3 : Nat)) tr3 := ⟨hD3, hg3, h03, h13, h83, (hLH.out.only.drew).trans hO3⟩
            have hmu2 : mu2 (dpOf B w2) (d0Of B w2) < mu2 (dpOf B wr) (d0Of B wr) := by rw [← hmuH.out, hD3.dpOf, hD3.d0Of]; exact hmu
            have hL3H := Hid.mk hL3
            have hmu2H := Hid.mk hmu2
            clear hL3 hmu2 hD3 hO3 hg3 hff hee he1
            go_wp2_with (fail)
            exact ⟨⟨D3, nd3, _, tr3, z2 - 27, congrArg _ (by omega), hL3H.out, by omega, by omega, by omega, by omega⟩, hmu2H.out⟩
          · have h9' : ((9 : Int) ≤ (m : Int)) = False := by simp; omega
            have hm8 : m ≤ 8 := by omega
            have hm1 : 1 ≤ m := hm0
            have hmi : (m : Int) < 9 := by omega
            have gm := g4 m (by omega)
            obtain ⟨hk1, hk26⟩ := pw_in hm1 hm8
            have hck := chD_pw hm1 hm8
            have hkk : Hid (pw m = if 9 ≤ -(-(m : Int)) then 27 else pw (-(-(m : Int))).toNat) := .mk (by rw [if_neg (by omega), Int.neg_neg, Int.toNat_natCast])
            obtain ⟨k, hk⟩ : ∃ k, pw m = k := ⟨_, rfl⟩
            rw [hk] at gm hk1 hk26 hkk hck
            have hki : (k : Int) ≤ 26 := by omega
            have hcall : Hid _ := .mk (shl_any N B D2 nd2 (-(m : Int)) neg tr2 k wr.drew.drew hL.dec.drew.drew (hCw.out.keep (Below.refl _ _).drew.drew) hNB hL.dg hL.d0 hL.n1 hL.n8 (by omega) (by omega) (by omega) (by omega))
            clear hL g4 hk h9
            go_wp2_with (fail)
            refine Go.Ev.wp_region_planE (fun v => v = wr.drew) hm (by kernel_rfl) (by kernel_rfl) rfl ?_
            iterate 8
              refine Go.Ev.planE_cons _ (by rintro v K rfl hK; go_simp; exact hK _ rfl) ?_
              simp only [Act.put, List.setIfInBounds_toArray, List.set_cons_succ, List.set_cons_zero]
            rintro w1 rfl
            go_wp2_with (fail)
            refine Go.Ev.wp_region_planE (fun v => v = wr.drew.drew) hm (by kernel_rfl) (by kernel_rfl) rfl ?_
            iterate 9
              refine Go.Ev.planE_cons _ (by rintro v K rfl hK; go_simp; exact hK _ rfl) ?_
              simp only [Act.put, List.setIfInBounds_toArray, List.set_cons_succ, List.set_cons_zero]
            rintro w1 rfl
            go_wp2_with (fail)
            go_at_call 46
            refine hcall.out.mono ?_
            rintro e w2 ⟨rfl, D3, nd3, e3, tr3, hD3, hg3, h03, h13, h83, hee, hff, hO3⟩
            have hd3 := hg3 0 (by omega)
            have he1 : e3 = chD k ∨ e3 + 1 = chD k := by rcases hee with h | h <;> omega
            have hle : e3 ≤ m := by rcases he1 with h | h <;> omega
            have hmu := mu2_lt (k := k) (e := e3) hd2' hkk.out he1 hff (by omega) (by omega) (by intro h3 h4; have := hff h4; rw [h3] at this; omega) (by intro h; omega)
            have hL3 : FlS B neg w w2 D3 nd3 (-(m : Int) + (e3 : Nat)) tr3 := ⟨hD3, hg3, h03, h13, h83, (hLH.out.only.drew.drew).trans hO3⟩
            have hmu2 : mu2 (dpOf B w2) (d0Of B w2) < mu2 (dpOf B wr) (d0Of B wr) := by rw [← hmuH.out, hD3.dpOf, hD3.d0Of]; exact hmu
            have hL3H := Hid.mk hL3
            have hmu2H := Hid.mk hmu2
            clear hL3 hmu2 hD3 hO3 hg3 hff hee he1
            go_wp2_with (fail)
            exact ⟨⟨D3, nd3, _, tr3, z2 - k, congrArg _ (by omega), hL3H.out, by omega, by omega, by omega, by omega⟩, hmu2H.out⟩
        · obtain rfl : m = 0 := by omega
          have hL0 : FlS B neg w wr D2 nd2 0 tr2 := hL
          have cP3 : wr.cell? ⟨B, 801, none⟩ = some (.int .i64 0) := cP2
          have gm : wr.cell? ⟨pb, off, none⟩ = some (.int .i64 1) := g4 0 (by omega)
          by_cases h53 : D2 0 < 53
          · have h53i : ((D2 0 : Nat) : Int) < 53 := by omega
            have hcall : Hid _ := .mk (shl_any N B D2 nd2 0 neg tr2 1 wr.drew.drew hL0.dec.drew.drew (hCw.out.keep (Below.refl _ _).drew.drew) hNB hL.dg hL.d0 hL.n1 hL.n8 (by omega) (by omega) (by omega) (by omega))
            have hlow := low_half hL.dg hL.n1 h53
            have hlowH := Hid.mk hlow
            have hw0 : IntKind.i64.wrap 0 = 0 := by rfl
            clear hL g4 cP2 hL0 hlow
            go_wp2_with (fail)
            refine Go.Ev.wp_region_planE (fun v => v = wr.drew) hm (by kernel_rfl) (by kernel_rfl) rfl ?_
            iterate 8
              refine Go.Ev.planE_cons _ (by rintro v K rfl hK; go_simp; exact hK _ rfl) ?_
              simp only [Act.put, List.setIfInBounds_toArray, List.set_cons_succ, List.set_cons_zero]
            rintro w1 rfl
            go_wp2_with (fail)
            refine Go.Ev.wp_region_planE (fun v => v = wr.drew.drew) hm (by kernel_rfl) (by kernel_rfl) rfl ?_
            iterate 9
              refine Go.Ev.planE_cons _ (by rintro v K rfl hK; go_simp; exact hK _ rfl) ?_
              simp only [Act.put, List.setIfInBounds_toArray, List.set_cons_succ, List.set_cons_zero]
            rintro w1 rfl
            go_wp2_with (fail)
            go_at_call 46
            refine hcall.out.mono ?_
            rintro e w2 ⟨rfl, D3, nd3, e3, tr3, hD3, hg3, h03, h13, h83, hee, hff, hO3⟩
            have hd3 := hg3 0 (by omega)
            have he0 : e3 = 0 := by
              have hc1 : chD 1 = 1 := by rfl
              rcases hee with h | h
              · exact absurd h.2 hlowH.out
              · omega
            subst he0
            have hmu := mu2_lt (k := 1) (e := 0) (dp := 0) (Int.le_refl _) (by rfl) (.inr rfl) hff (by omega) (by omega) (by intro h3 h4; omega) (fun _ => rfl)
            have hL3 : FlS B neg w w2 D3 nd3 0 tr3 := ⟨hD3, hg3, h03, h13, h83, (hLH.out.only.drew.drew).trans hO3⟩
            have hmu2 : mu2 (dpOf B w2) (d0Of B w2) < mu2 (dpOf B wr) (d0Of B wr) := by rw [← hmuH.out, hL3.dec.dpOf, hL3.dec.d0Of]; exact hmu
            have hL3H := Hid.mk hL3
            have hmu2H := Hid.mk hmu2
            clear hL3 hmu2 hD3 hO3 hg3 hff hee
            have hz2' : -200000 + 27 * (mu2 0 (D2 0) : Int) ≤ z2 := hz2
            have hmu' : mu2 0 (D3 0) < mu2 0 (D2 0) := hmu
            clear hz2 hmu
            go_wp2_with (fail)
            exact ⟨⟨D3, nd3, 0, tr3, z2 - 1, congrArg _ (by omega), hL3H.out, by omega, by omega, by omega, by omega⟩, hmu2H.out⟩
          · have h53i : (((D2 0 : Nat) : Int) < 53) = False := by simp; omega
            have h53n : (D2 0 < 53) = False := by simp; omega
            have hwz : -200000 ≤ z2 := by have : (0 : Int) ≤ (mu2 (-((0 : Nat) : Int)) (D2 0) : Int) := Int.natCast_nonneg _; omega
            have hLH0 : Hid (FlS B neg w wr D2 nd2 0 tr2) := .mk hL0
            have hFw : Hid (FltAt N wr) := .mk (hFH.out.keep (hL.only.below hNB (by omega)))
            have f0 := hFw.out.m
            have f1 := hFw.out.e
            have f2 := hFw.out.b
            clear hL hLH g4 cP2 hL0 hmuH hb9 hz2 h53 hd1' hd2'
            obtain ⟨x, rfl⟩ : ∃ x : Int, z2 = x + 1 := ⟨z2 - 1, by omega⟩
            have hx1 : x ≤ 18899 := by omega
            have hx2 : -200001 ≤ x := by omega
            have hw1 : IntKind.i64.wrap 2048 = 2048 := by rfl
            have hw2 : IntKind.i64.wrap 2047 = 2047 := by rfl
            have hw3 : IntKind.i64.wrap (x + 1023) = x + 1023 := wi64 (by omega) (by omega)
            have hw4 : IntKind.i64.wrap (x + 1 + 1023) = x + 1 + 1023 := wi64 (by omega) (by omega)
            have hw5 : IntKind.i64.wrap (x + 1024) = x + 1024 := wi64 (by omega) (by omega)
            have and0 : bits .and .u64 4503599627370496 4503599627370496 = 4503599627370496 := by rfl
            clear hz1 hwz
            by_cases hsm : x < -1022
            · clear hw3 hw4 hw5
              have hw6 : IntKind.i64.wrap 1 = 1 := by rfl
              have hw7 : IntKind.i64.wrap 2 = 2 := by rfl
              have hsm1 : x ≤ -1023 := by omega
              obtain ⟨k, hk⟩ : ∃ k : Nat, -1022 - x = (k : Int) := ⟨(-1022 - x).toNat, by omega⟩
              have hk1 : 1 ≤ k := by omega
              have hk2 : k ≤ 200000 := by omega
              have hxk : x + (k : Int) = -1022 := by omega
              have hwk : IntKind.i64.wrap (k : Int) = (k : Int) := wi64 (by omega) (by omega)
              have hcallN : Hid _ := .mk (shrN_any B D2 nd2 0 neg tr2 k wr hLH0.out.dec hLH0.out.dg hLH0.out.d0 hLH0.out.n1 hLH0.out.n8 hk1 (by omega) (by omega) (by omega))
              have hxkH := Hid.mk hxk
              clear hxk
              go_wp2_with (fail)
              go_at_call 46
              refine hcallN.out.mono ?_
              rintro e w4 ⟨rfl, D4, nd4, dp4, tr4, hD4, hg4, h04, h14, h84, hdp1, hdp2, hO4⟩
              have hOn : Hid (Onl B w w4) := .mk (hLH0.out.only.trans hO4)
              have hlt4 : B < w4.heap.size := by have := hOn.out.size; omega
              have hDe := Hid.mk hD4
              have hC4 : Hid (CheatsAt N w4) := .mk (hCH.out.keep (hOn.out.below hNB (by omega)))
              have hcall : Hid _ := .mk (shl_any N B D4 nd4 dp4 neg tr4 53 w4.drew hD4.drew (hC4.out.keep (Below.refl _ _).drew) hNB hg4 h04 h14 h84 (by omega) (by omega) (by omega) (by omega))
              clear hO4 hD4 hFw f0 f1 f2 hg4 hcallN
              have hxk := hxkH.out
              have hFw : Hid (FltAt N w4) := .mk (hFH.out.keep (hOn.out.below hNB (by omega)))
              have f0 := hFw.out.m
              have f1 := hFw.out.e
              have f2 := hFw.out.b
              have cG := hDe.out.neg
              go_wp2_with (fail)
              refine Go.Ev.wp_region_planE (fun v => v = w4.drew) hm (by kernel_rfl) (by kernel_rfl) rfl ?_
              iterate 13
                refine Go.Ev.planE_cons _ (by rintro v K rfl hK; go_simp; exact hK _ rfl) ?_
                simp only [Act.put, List.setIfInBounds_toArray, List.set_cons_succ, List.set_cons_zero]
              rintro w1 rfl
              go_wp2_with (fail)
              go_at_call 46
              refine hcall.out.mono ?_
              rintro e w5 ⟨rfl, D5, nd5, e5, tr5, hD5, hg5, h05, h15, h85, hee, hff, hO5⟩
              have hle : e5 ≤ 53 := by have hc : chD 53 = 16 := by rfl
                                       rcases hee with h | h <;> omega
              have hO5H : Hid (Onl B w w5) := .mk (hOn.out.drew.trans hO5)
              have hlt5 : B < w5.heap.size := by have := hO5H.out.size; omega
              have hF5 : Hid (FltAt N w5) := .mk (hFH.out.keep (hO5H.out.below hNB (by omega)))
              have hcall2 : Hid _ := .mk (rint_any B D5 nd5 _ neg tr5 w5 hD5 h85 (by omega) (by omega))
              have hD5H := Hid.mk hD5
              clear hD5 hO5 hff hee hg5 hOn hDe hcall f0 f1 f2 cG hFw
              go_wp2_with (fail)
              go_at_call 89
              refine hcall2.out.mono ?_
              rintro e w6 ⟨⟨n, hn, rfl⟩, hB6⟩
              have hOn : Hid (Onl B w w6) := .mk (hO5H.out.trans (Onl.of B hB6))
              have hDe := Hid.mk (hD5H.out.keep hB6)
              clear hB6 hO5H hD5H hF5 hcall2
              have hFw : Hid (FltAt N w6) := .mk (hFH.out.keep (hOn.out.below hNB (by omega)))
              have f0 := hFw.out.m
              have f1 := hFw.out.e
              have f2 := hFw.out.b
              have cG := hDe.out.neg
              by_cases hn2 : n = 9007199254740992
              · subst hn2
                go_wp2_with (fail)
                refine Go.Ev.wp_region_planE (fun v => v = w6.drew) hm (by kernel_rfl) (by kernel_rfl) rfl ?_
                iterate 13
                  refine Go.Ev.planE_cons _ (by rintro v K rfl hK; go_simp; exact hK _ rfl) ?_
                  simp only [Act.put, List.setIfInBounds_toArray, List.set_cons_succ, List.set_cons_zero]
                rintro w1 rfl
                go_wp2_with (fail)
                refine wp_goto ?_
                refine ⟨_, rfl, ?_⟩
                go_wp2_with (fail)
                refine Go.Ev.wp_region_planE (fun v => v = w6.drew.drew) hm (by kernel_rfl) (by kernel_rfl) rfl ?_
                iterate 22
                  refine Go.Ev.planE_cons _ (by rintro v K rfl hK; go_simp; exact hK _ rfl) ?_
                  simp only [Act.put, List.setIfInBounds_toArray, List.set_cons_succ, List.set_cons_zero]
                rintro w1 rfl
                cases neg
                all_goals go_wp2_with (fail)
                · refine jumps_ret ?_
                  go_ret2
                  exact ⟨isUB_bits _ _ _ _, by repeat (first | exact hOn.out | refine Onl.drew ?_)⟩
                · skip
                  refine Go.Ev.wp_region_planE (fun v => v = w6.drew.drew.drew) hm (by kernel_rfl) (by kernel_rfl) rfl ?_
                  iterate 13
                    refine Go.Ev.planE_cons _ (by rintro v K rfl hK; go_simp; exact hK _ rfl) ?_
                    simp only [Act.put, List.setIfInBounds_toArray, List.set_cons_succ, List.set_cons_zero]
                  rintro w1 rfl
                  go_wp2_with (fail)
                  refine jumps_ret ?_
                  go_ret2
                  exact ⟨isUB_bits _ _ _ _, by repeat (first | exact hOn.out | refine Onl.drew ?_)⟩
              · have hne : ((n : Int) == 9007199254740992) = false := beq_ne (by omega)
                by_cases hz : bits .and .u64 (n : Int) 4503599627370496 = 0
                · go_wp2_with (fail)
                  refine wp_goto ?_
                  refine ⟨_, rfl, ?_⟩
                  go_wp2_with (fail)
                  refine Go.Ev.wp_region_planE (fun v => v = w6.drew) hm (by kernel_rfl) (by kernel_rfl) rfl ?_
                  iterate 22
                    refine Go.Ev.planE_cons _ (by rintro v K rfl hK; go_simp; exact hK _ rfl) ?_
                    simp only [Act.put, List.setIfInBounds_toArray, List.set_cons_succ, List.set_cons_zero]
                  rintro w1 rfl
                  cases neg
                  all_goals go_wp2_with (fail)
                  · refine jumps_ret ?_
                    go_ret2
                    exact ⟨isUB_bits _ _ _ _, by repeat (first | exact hOn.out | refine Onl.drew ?_)⟩
                  · skip
                    refine Go.Ev.wp_region_planE (fun v => v = w6.drew.drew) hm (by kernel_rfl) (by kernel_rfl) rfl ?_
                    iterate 13
                      refine Go.Ev.planE_cons _ (by rintro v K rfl hK; go_simp; exact hK _ rfl) ?_
                      simp only [Act.put, List.setIfInBounds_toArray, List.set_cons_succ, List.set_cons_zero]
                    rintro w1 rfl
                    go_wp2_with (fail)
                    refine jumps_ret ?_
                    go_ret2
                    exact ⟨isUB_bits _ _ _ _, by repeat (first | exact hOn.out | refine Onl.drew ?_)⟩
                · have hzb := beq_ne hz
                  go_wp2_with (fail)
                  refine wp_goto ?_
                  refine ⟨_, rfl, ?_⟩
                  go_wp2_with (fail)
                  refine Go.Ev.wp_region_planE (fun v => v = w6.drew) hm (by kernel_rfl) (by kernel_rfl) rfl ?_
                  iterate 22
                    refine Go.Ev.planE_cons _ (by rintro v K rfl hK; go_simp; exact hK _ rfl) ?_
                    simp only [Act.put, List.setIfInBounds_toArray, List.set_cons_succ, List.set_cons_zero]
                  rintro w1 rfl
                  cases neg
                  all_goals go_wp2_with (fail)
                  · refine jumps_ret ?_
                    go_ret2
                    exact ⟨isUB_bits _ _ _ _, by repeat (first | exact hOn.out | refine Onl.drew ?_)⟩
                  · skip
                    refine Go.Ev.wp_region_planE (fun v => v = w6.drew.drew) hm (by kernel_rfl) (by kernel_rfl) rfl ?_
                    iterate 13
                      refine Go.Ev.planE_cons _ (by rintro v K rfl hK; go_simp; exact hK _ rfl) ?_
                      simp only [Act.put, List.setIfInBounds_toArray, List.set_cons_succ, List.set_cons_zero]
                    rintro w1 rfl
                    go_wp2_with (fail)
                    refine jumps_ret ?_
                    go_ret2
                    exact ⟨isUB_bits _ _ _ _, by repeat (first | exact hOn.out | refine Onl.drew ?_)⟩
            · by_cases hov : 1024 ≤ x
              · have ho1 : (2047 ≤ x + 1023) = True := by simp; omega
                have ho2 : (2047 ≤ x - -1023) = True := by simp; omega
                have hDe := Hid.mk hLH0.out.dec
                have hOn := Hid.mk hLH0.out.only
                have hFw : Hid (FltAt N wr) := .mk (hFH.out.keep (hOn.out.below hNB (by omega)))
                have f0 := hFw.out.m
                have f1 := hFw.out.e
                have f2 := hFw.out.b
                have cG := hDe.out.neg
                go_wp2_with (fail)
                refine Go.Ev.wp_region_planE (fun v => v = wr.drew) hm (by kernel_rfl) (by kernel_rfl) rfl ?_
                iterate 13
                  refine Go.Ev.planE_cons _ (by rintro v K rfl hK; go_simp; exact hK _ rfl) ?_
                  simp only [Act.put, List.setIfInBounds_toArray, List.set_cons_succ, List.set_cons_zero]
                rintro w1 rfl
                go_wp2_with (fail)
                refine wp_goto ?_
                refine ⟨_, rfl, ?_⟩
                go_wp2_with (fail)
                refine Go.Ev.wp_region_planE (fun v => v = wr.drew.drew) hm (by kernel_rfl) (by kernel_rfl) rfl ?_
                iterate 12
                  refine Go.Ev.planE_cons _ (by rintro v K rfl hK; go_simp; exact hK _ rfl) ?_
                  simp only [Act.put, List.setIfInBounds_toArray, List.set_cons_succ, List.set_cons_zero]
                rintro w1 rfl
                go_wp2_with (fail)
                refine wp_label ?_
                go_wp2_with (fail)
                refine Go.Ev.wp_region_planE (fun v => v = wr.drew.drew.drew) hm (by kernel_rfl) (by kernel_rfl) rfl ?_
                iterate 22
                  refine Go.Ev.planE_cons _ (by rintro v K rfl hK; go_simp; exact hK _ rfl) ?_
                  simp only [Act.put, List.setIfInBounds_toArray, List.set_cons_succ, List.set_cons_zero]
                rintro w1 rfl
                cases neg
                all_goals go_wp2_with (fail)
                · refine jumps_ret ?_
                  go_ret2
                  exact ⟨isUB_bits _ _ _ _, by repeat (first | exact hOn.out | refine Onl.drew ?_)⟩
                · skip
                  refine Go.Ev.wp_region_planE (fun v => v = wr.drew.drew.drew.drew) hm (by kernel_rfl) (by kernel_rfl) rfl ?_
                  iterate 13
                    refine Go.Ev.planE_cons _ (by rintro v K rfl hK; go_simp; exact hK _ rfl) ?_
                    simp only [Act.put, List.setIfInBounds_toArray, List.set_cons_succ, List.set_cons_zero]
                  rintro w1 rfl
                  go_wp2_with (fail)
                  refine jumps_ret ?_
                  go_ret2
                  exact ⟨isUB_bits _ _ _ _, by repeat (first | exact hOn.out | refine Onl.drew ?_)⟩
              · have ho1 : (2047 ≤ x + 1023) = False := by simp; omega
                have ho2 : (2047 ≤ x - -1023) = False := by simp; omega
                have hDe := Hid.mk hLH0.out.dec
                have hOn := Hid.mk hLH0.out.only
                have hcall : Hid _ := .mk (shl_any N B D2 nd2 0 neg tr2 53 wr.drew hLH0.out.dec.drew (hCw.out.keep (Below.refl _ _).drew) hNB hLH0.out.dg hLH0.out.d0 hLH0.out.n1 hLH0.out.n8 (by omega) (by omega) (by omega) (by omega))
                have hFw : Hid (FltAt N wr) := .mk (hFH.out.keep (hOn.out.below hNB (by omega)))
                have f0 := hFw.out.m
                have f1 := hFw.out.e
                have f2 := hFw.out.b
                have cG := hDe.out.neg
                go_wp2_with (fail)
                refine Go.Ev.wp_region_planE (fun v => v = wr.drew) hm (by kernel_rfl) (by kernel_rfl) rfl ?_
                iterate 13
                  refine Go.Ev.planE_cons _ (by rintro v K rfl hK; go_simp; exact hK _ rfl) ?_
                  simp only [Act.put, List.setIfInBounds_toArray, List.set_cons_succ, List.set_cons_zero]
                rintro w1 rfl
                go_wp2_with (fail)
                go_at_call 46
                refine hcall.out.mono ?_
                rintro e w5 ⟨rfl, D5, nd5, e5, tr5, hD5, hg5, h05, h15, h85, hee, hff, hO5⟩
                have hle : e5 ≤ 53 := by have hc : chD 53 = 16 := by rfl
                                         rcases hee with h | h <;> omega
                have hO5H : Hid (Onl B w w5) := .mk (hOn.out.drew.trans hO5)
                have hlt5 : B < w5.heap.size := by have := hO5H.out.size; omega
                have hF5 : Hid (FltAt N w5) := .mk (hFH.out.keep (hO5H.out.below hNB (by omega)))
                have hcall2 : Hid _ := .mk (rint_any B D5 nd5 _ neg tr5 w5 hD5 h85 (by omega) (by omega))
                have hD5H := Hid.mk hD5
                clear hD5 hO5 hff hee hg5 hOn hDe hcall f0 f1 f2 cG hFw
                go_wp2_with (fail)
                go_at_call 89
                refine hcall2.out.mono ?_
                rintro e w6 ⟨⟨n, hn, rfl⟩, hB6⟩
                have hOn : Hid (Onl B w w6) := .mk (hO5H.out.trans (Onl.of B hB6))
                have hDe := Hid.mk (hD5H.out.keep hB6)
                clear hB6 hO5H hD5H hF5 hcall2
                have hFw : Hid (FltAt N w6) := .mk (hFH.out.keep (hOn.out.below hNB (by omega)))
                have f0 := hFw.out.m
                have f1 := hFw.out.e
                have f2 := hFw.out.b
                have cG := hDe.out.neg
                by_cases hn2 : n = 9007199254740992
                · subst hn2
                  by_cases hov : 1024 ≤ x + 1
                  · have hp1 : (2047 ≤ x + 1 + 1023) = True := by simp; omega
                    have hp2 : (2047 ≤ x + 1 - -1023) = True := by simp; omega
                    have hp3 : (2047 ≤ x + 1024) = True := by simp; omega
                    go_wp2_with (fail)
                    refine Go.Ev.wp_region_planE (fun v => v = w6.drew) hm (by kernel_rfl) (by kernel_rfl) rfl ?_
                    iterate 13
                      refine Go.Ev.planE_cons _ (by rintro v K rfl hK; go_simp; exact hK _ rfl) ?_
                      simp only [Act.put, List.setIfInBounds_toArray, List.set_cons_succ, List.set_cons_zero]
                    rintro w1 rfl
                    go_wp2_with (fail)
                    refine wp_goto ?_
                    refine ⟨_, rfl, ?_⟩
                    go_wp2_with (fail)
                    refine Go.Ev.wp_region_planE (fun v => v = w6.drew.drew) hm (by kernel_rfl) (by kernel_rfl) rfl ?_
                    iterate 12
                      refine Go.Ev.planE_cons _ (by rintro v K rfl hK; go_simp; exact hK _ rfl) ?_
                      simp only [Act.put, List.setIfInBounds_toArray, List.set_cons_succ, List.set_cons_zero]
                    rintro w1 rfl
                    go_wp2_with (fail)
                    refine wp_label ?_
                    go_wp2_with (fail)
                    refine Go.Ev.wp_region_planE (fun v => v = w6.drew.drew.drew) hm (by kernel_rfl) (by kernel_rfl) rfl ?_
                    iterate 22
                      refine Go.Ev.planE_cons _ (by rintro v K rfl hK; go_simp; exact hK _ rfl) ?_
                      simp only [Act.put, List.setIfInBounds_toArray, List.set_cons_succ, List.set_cons_zero]
                    rintro w1 rfl
                    cases neg
                    all_goals go_wp2_with (fail)
                    · refine jumps_ret ?_
                      go_ret2
                      exact ⟨isUB_bits _ _ _ _, by repeat (first | exact hOn.out | refine Onl.drew ?_)⟩
                    · skip
                      refine Go.Ev.wp_region_planE (fun v => v = w6.drew.drew.drew.drew) hm (by kernel_rfl) (by kernel_rfl) rfl ?_
                      iterate 13
                        refine Go.Ev.planE_cons _ (by rintro v K rfl hK; go_simp; exact hK _ rfl) ?_
                        simp only [Act.put, List.setIfInBounds_toArray, List.set_cons_succ, List.set_cons_zero]
                      rintro w1 rfl
                      go_wp2_with (fail)
                      refine jumps_ret ?_
                      go_ret2
                      exact ⟨isUB_bits _ _ _ _, by repeat (first | exact hOn.out | refine Onl.drew ?_)⟩
                  · have hp1 : (2047 ≤ x + 1 + 1023) = False := by simp; omega
                    have hp2 : (2047 ≤ x + 1 - -1023) = False := by simp; omega
                    have hp3 : (2047 ≤ x + 1024) = False := by simp; omega
                    go_wp2_with (fail)
                    refine Go.Ev.wp_region_planE (fun v => v = w6.drew) hm (by kernel_rfl) (by kernel_rfl) rfl ?_
                    iterate 13
                      refine Go.Ev.planE_cons _ (by rintro v K rfl hK; go_simp; exact hK _ rfl) ?_
                      simp only [Act.put, List.setIfInBounds_toArray, List.set_cons_succ, List.set_cons_zero]
                    rintro w1 rfl
                    go_wp2_with (fail)
                    refine wp_goto ?_
                    refine ⟨_, rfl, ?_⟩
                    go_wp2_with (fail)
                    refine Go.Ev.wp_region_planE (fun v => v = w6.drew.drew) hm (by kernel_rfl) (by kernel_rfl) rfl ?_
                    iterate 22
                      refine Go.Ev.planE_cons _ (by rintro v K rfl hK; go_simp; exact hK _ rfl) ?_
                      simp only [Act.put, List.setIfInBounds_toArray, List.set_cons_succ, List.set_cons_zero]
                    rintro w1 rfl
                    cases neg
                    all_goals go_wp2_with (fail)
                    · refine jumps_ret ?_
                      go_ret2
                      exact ⟨isUB_bits _ _ _ _, by repeat (first | exact hOn.out | refine Onl.drew ?_)⟩
                    · skip
                      refine Go.Ev.wp_region_planE (fun v => v = w6.drew.drew.drew) hm (by kernel_rfl) (by kernel_rfl) rfl ?_
                      iterate 13
                        refine Go.Ev.planE_cons _ (by rintro v K rfl hK; go_simp; exact hK _ rfl) ?_
                        simp only [Act.put, List.setIfInBounds_toArray, List.set_cons_succ, List.set_cons_zero]
                      rintro w1 rfl
                      go_wp2_with (fail)
                      refine jumps_ret ?_
                      go_ret2
                      exact ⟨isUB_bits _ _ _ _, by repeat (first | exact hOn.out | refine Onl.drew ?_)⟩
                · have hne : ((n : Int) == 9007199254740992) = false := beq_ne (by omega)
                  by_cases hz : bits .and .u64 (n : Int) 4503599627370496 = 0
                  · go_wp2_with (fail)
                    refine wp_goto ?_
                    refine ⟨_, rfl, ?_⟩
                    go_wp2_with (fail)
                    refine Go.Ev.wp_region_planE (fun v => v = w6.drew) hm (by kernel_rfl) (by kernel_rfl) rfl ?_
                    iterate 22
                      refine Go.Ev.planE_cons _ (by rintro v K rfl hK; go_simp; exact hK _ rfl) ?_
                      simp only [Act.put, List.setIfInBounds_toArray, List.set_cons_succ, List.set_cons_zero]
                    rintro w1 rfl
                    cases neg
                    all_goals go_wp2_with (fail)
                    · refine jumps_ret ?_
                      go_ret2
                      exact ⟨isUB_bits _ _ _ _, by repeat (first | exact hOn.out | refine Onl.drew ?_)⟩
                    · skip
                      refine Go.Ev.wp_region_planE (fun v => v = w6.drew.drew) hm (by kernel_rfl) (by kernel_rfl) rfl ?_
                      iterate 13
                        refine Go.Ev.planE_cons _ (by rintro v K rfl hK; go_simp; exact hK _ rfl) ?_
                        simp only [Act.put, List.setIfInBounds_toArray, List.set_cons_succ, List.set_cons_zero]
                      rintro w1 rfl
                      go_wp2_with (fail)
                      refine jumps_ret ?_
                      go_ret2
                      exact ⟨isUB_bits _ _ _ _, by repeat (first | exact hOn.out | refine Onl.drew ?_)⟩
                  · have hzb := beq_ne hz
                    go_wp2_with (fail)
                    refine wp_goto ?_
                    refine ⟨_, rfl, ?_⟩
                    go_wp2_with (fail)
                    refine Go.Ev.wp_region_planE (fun v => v = w6.drew) hm (by kernel_rfl) (by kernel_rfl) rfl ?_
                    iterate 22
                      refine Go.Ev.planE_cons _ (by rintro v K rfl hK; go_simp; exact hK _ rfl) ?_
                      simp only [Act.put, List.setIfInBounds_toArray, List.set_cons_succ, List.set_cons_zero]
                    rintro w1 rfl
                    cases neg
                    all_goals go_wp2_with (fail)
                    · refine jumps_ret ?_
                      go_ret2
                      exact ⟨isUB_bits _ _ _ _, by repeat (first | exact hOn.out | refine Onl.drew ?_)⟩
                    · skip
                      refine Go.Ev.wp_region_planE (fun v => v = w6.drew.drew) hm (by kernel_rfl) (by kernel_rfl) rfl ?_
                      iterate 13
                        refine Go.Ev.planE_cons _ (by rintro v K rfl hK; go_simp; exact hK _ rfl) ?_
                        simp only [Act.put, List.setIfInBounds_toArray, List.set_cons_succ, List.set_cons_zero]
                      rintro w1 rfl
                      go_wp2_with (fail)
                      refine jumps_ret ?_
                      go_ret2
                      exact ⟨isUB_bits _ _ _ _, by repeat (first | exact hOn.out | refine Onl.drew ?_)⟩
end Go.Proofs.YtpbombkmnfbcgaaGreatDoor

