/- A decimal is shifted right. -/
import Derived.Test.YtpbombkmnfbcgaaGreatDoorLsh
namespace Go.Proofs.YtpbombkmnfbcgaaGreatDoor
open Go.RowKit

/-- The largest power of two, up to the k-th, that divides. -/
def tz : Nat → Nat → Nat
  | 0, _ => 0
  | k + 1, n => if 2 ^ (k + 1) ∣ n then k + 1 else tz k n
theorem tz_le : ∀ k n, tz k n ≤ k
  | 0, _ => Nat.le_refl _
  | k + 1, n => by
    unfold tz
    split
    · omega
    · have := tz_le k n; omega
theorem tz_dvd : ∀ k n, 2 ^ tz k n ∣ n
  | 0, n => by simp [tz]
  | k + 1, n => by
    unfold tz
    split
    · assumption
    · exact tz_dvd k n
theorem tz_max : ∀ {k n i : Nat}, i ≤ k → 2 ^ i ∣ n → i ≤ tz k n
  | 0, _, i, h, _ => by omega
  | k + 1, n, i, h, hd => by
    unfold tz
    split
    · exact h
    · rename_i hn
      by_cases e : i = k + 1
      · subst e; exact absurd hd hn
      · exact tz_max (by omega) hd
/-- How many rounds are left at most. -/
def mu (k n : Nat) : Nat := if n = 0 then 0 else k + 1 - tz k n
theorem mu_lt {k n : Nat} (h : 0 < n) : mu k (n % 2 ^ k * 10) < mu k n := by
  have hk := tz_le k n
  have hd := tz_dvd k n
  unfold mu
  rw [if_neg (show n ≠ 0 by omega)]
  split
  · omega
  · rename_i h0
    have h1 : 2 ^ (tz k n + 1) ∣ n % 2 ^ k * 10 := by
      have h2 : 2 ^ tz k n ∣ n % 2 ^ k := (Nat.dvd_mod_iff (Nat.pow_dvd_pow 2 hk)).2 hd
      rw [Nat.pow_succ]
      exact Nat.mul_dvd_mul h2 (by decide)
    by_cases e : tz k n = k
    · exfalso
      apply h0
      rw [e] at hd
      rw [Nat.mod_eq_zero_of_dvd hd, Nat.zero_mul]
    · have := tz_max (k := k) (by omega) h1
      omega
theorem pow_cast (k : Nat) : (2 : Int) ^ k = ((2 ^ k : Nat) : Int) := by push_cast; rfl
theorem shr_cast (n k : Nat) : (n : Int) / 2 ^ k = ((n / 2 ^ k : Nat) : Int) := by push_cast; rfl
theorem shr_zero {n k : Nat} (h : n < 2 ^ k) : ((n : Int) / 2 ^ k == 0) = true := by rw [shr_cast, Nat.div_eq_of_lt h]; rfl
theorem shr_some {n k : Nat} (h : 2 ^ k ≤ n) : ((n : Int) / 2 ^ k == 0) = false := by
  rw [shr_cast]
  have : 1 ≤ n / 2 ^ k := (Nat.le_div_iff_mul_le (Nat.pow_pos (by omega))).2 (by omega)
  exact beq_ne (by omega)
theorem num_pos {D : Nat → Nat} {r : Nat} (hD : 48 < D 0) (h : 1 ≤ r) : 10 ^ (r - 1) ≤ num D r :=
  Nat.le_trans (Nat.le_trans (by omega) (Nat.mul_le_mul_right _ (show 1 ≤ D 0 - 48 by omega))) (num_ge_first D h)

theorem and_mask {m M k : Nat} (hM : M = 2 ^ k - 1) (h1 : m < 18446744073709551616) (h2 : M < 18446744073709551616) : bits .and .u64 (m : Int) (M : Int) = ((m % 2 ^ k : Nat) : Int) := by
  rw [bits_and_u64_nat _ _ h1 h2, hM, Nat.and_two_pow_sub_one_eq_mod]
/-- The digit that is laid down. -/
theorem dig_cast {m k : Nat} (h : m < 10 * 2 ^ k) : IntKind.u64.wrap ((m : Int) / 2 ^ k + 48) % 256 = ((m / 2 ^ k + 48 : Nat) : Int) := by
  have h1 : m / 2 ^ k < 10 := (Nat.div_lt_iff_lt_mul (Nat.pow_pos (by omega))).2 h
  rw [shr_cast]
  generalize m / 2 ^ k = q at *
  rw [wu64 (by omega) (by omega)]
  omega
/-- Where the second loop of a right shift stands: j digits are laid down. -/
structure RshS (B : Nat) (D : Nat → Nat) (nd : Nat) (dp : Int) (neg : Bool) (c0 j : Nat) (w : World) : Prop where
  ex : ∃ D1 tr1, DecS B D1 nd dp neg tr1 w ∧ (∀ i, j ≤ i → D1 i = D i) ∧ (∀ i, i < j → 48 ≤ D1 i ∧ D1 i ≤ 57) ∧ (1 ≤ j → D1 0 = c0)

set_option maxRecDepth 100000 in
set_option maxHeartbeats 1600000 in
theorem rsh_any (B : Nat) (D : Nat → Nat) (nd : Nat) (dp : Int) (neg tr : Bool) (k : Nat) (w : World) (hS : DecS B D nd dp neg tr w) (hD : Digs D nd) (h0 : D 0 ≠ 48) (h1 : 1 ≤ nd) (h8 : nd ≤ 800) (hk : 1 ≤ k) (hk60 : k ≤ 60) (hdp1 : -1000000000 ≤ dp) (hdp2 : dp ≤ 1000000000) :
    Calls Tryz.prog 80 #[.pointer (some ⟨B, 0, none⟩), .int .u64 (k : Nat)] w fun e w' => e = .returned (.tuple #[]) ∧ ∃ D' nd' r n tr', DecS B D' nd' (dp - ((r : Nat) - 1)) neg tr' w' ∧ Digs D' nd' ∧ D' 0 ≠ 48 ∧ 1 ≤ nd' ∧ nd' ≤ 800 ∧
      1 ≤ r ∧ r ≤ 30 ∧ 2 ^ k ≤ n ∧ n < 10 ^ r ∧ (r = 1 → n + 48 = D 0) ∧ D' 0 = 48 + n / 2 ^ k ∧ Onl B w w' := by
  have hSH : Hid (DecS B D nd dp neg tr w) := hS
  have hDH : Hid (Digs D nd) := hD
  have cN := hS.nd
  have h48 : 48 < D 0 := by have := (hD 0 (by omega)).1; omega
  have hK2 : (2 : Nat) ^ k ≤ 2 ^ 60 := Nat.pow_le_pow_right (by omega) hk60
  have hK0 : 0 < 2 ^ k := Nat.pow_pos (by omega)
  obtain ⟨K, hK⟩ : ∃ K, 2 ^ k = K := ⟨_, rfl⟩
  clear hS hD
  go_enter Tryz.func80, Tryz.ntmps80
  go_wp2_with (fail)
  go_loopw [4, 6] (fun x y wr => wr = w ∧ ∃ r : Nat, r ≤ nd ∧ x = .int .i64 (r : Nat) ∧ y = .int .u64 (num D r : Nat) ∧ num D r < 10 * 2 ^ k) (fun x _ _ => nd - (intOf x).toNat)
  case atStart => exact ⟨rfl, 0, Nat.zero_le _, rfl, rfl, by simp [num]; omega⟩
  case round =>
    obtain ⟨rfl, r, hr, rfl, rfl, hn⟩ := hrel
    by_cases hlt : num D r < 2 ^ k
    · by_cases hrn : r < nd
      · have hri : ((nd : Int) ≤ (r : Int)) = False := by simp; omega
        have cr := hSH.out.dig r (by omega)
        have hrl : (r : Int) < 800 := by omega
        have hdr := hDH.out r hrn
        have hnn : Hid (num D (r + 1) = num D r * 10 + (D r - 48)) := .mk rfl
        generalize num D r = n at *
        have hz := shr_zero hlt
        obtain ⟨d, hd⟩ : ∃ d, D r = d + 48 := ⟨D r - 48, by omega⟩
        rw [hd] at cr
        have hw1 : IntKind.u64.wrap ((n : Int) * 10) = (n : Int) * 10 := wu64 (by omega) (by omega)
        have hw2 : IntKind.u64.wrap ((n : Int) * 10 + ((d : Int) + 48)) = (n : Int) * 10 + ((d : Int) + 48) := wu64 (by omega) (by omega)
        have hw3 : IntKind.u64.wrap ((n : Int) * 10 + ((d : Int) + 48) - 48) = ((n * 10 + d : Nat) : Int) := by rw [wu64 (by omega) (by omega)]; omega
        go_wp2_with (fail)
        refine ⟨⟨trivial, r + 1, by omega, rfl, ?_, ?_⟩, by simp [intOf]; omega⟩
        · rw [hnn.out, hd, Nat.add_sub_cancel]; exact congrArg _ (by omega)
        · rw [hnn.out, hd, Nat.add_sub_cancel]; omega
      · have hre : nd = r := by omega
        subst hre
        have hpos := num_pos h48 h1
        have hz := shr_zero hlt
        have hnz : 0 < num D nd := by have := Nat.pow_pos (n := nd - 1) (show 0 < 10 by omega); omega
        have hlt10 := num_lt hDH.out
        have hone : Hid (nd = 1 → num D nd + 48 = D 0) := .mk fun h => by subst h; rw [num_one]; omega
        generalize num D nd = n0 at *
        go_wp2_with (fail)
        go_loopw [4, 6] (fun x y wq => wq = wr ∧ ∃ r n : Nat, nd ≤ r ∧ x = .int .i64 (r : Nat) ∧ y = .int .u64 (n : Nat) ∧ n < 10 * 2 ^ k ∧ n < 10 ^ r ∧ 10 ^ (r - 1) ≤ n ∧ (r = 1 → n + 48 = D 0)) (fun _ y _ => 10 * 2 ^ k - (intOf y).toNat)
        case atStart => exact ⟨rfl, nd, n0, Nat.le_refl _, rfl, rfl, hn, hlt10, hpos, hone.out⟩
        case round =>
          obtain ⟨rfl, r, n, hr2, rfl, rfl, hm2, hl2, hp2, ho2⟩ := hrel
          have ho2H : Hid (r = 1 → n + 48 = D 0) := .mk ho2
          clear ho2 hone
          by_cases hlt2 : n < 2 ^ k
          · have hz2 := shr_zero hlt2
            have hpw : 10 ^ (r + 1) = 10 ^ r * 10 := Nat.pow_succ _ _
            have hpw2 : 10 ^ r = 10 ^ (r - 1) * 10 := by rw [← Nat.pow_succ]; congr 1; omega
            have hw1 : IntKind.u64.wrap ((n : Int) * 10) = (n : Int) * 10 := wu64 (by omega) (by omega)
            have hr30 : r ≤ 19 := by
              rcases Nat.lt_or_ge 19 r with h | h
              · exfalso
                have h4 : 10 ^ 19 ≤ 10 ^ (r - 1) := Nat.pow_le_pow_right (by omega) (by omega)
                omega
              · exact h
            go_wp2_with (fail)
            refine ⟨⟨trivial, r + 1, n * 10, by omega, congrArg _ (by omega), congrArg _ (by omega), by omega, by omega, ?_, fun h => by omega⟩, by simp [intOf]; omega⟩
            rw [Nat.add_sub_cancel]; omega
          · have hge : 2 ^ k ≤ n := by omega
            have hr1 : 1 ≤ r := by omega
            have hr30 : r ≤ 30 := by
              rcases Nat.lt_or_ge 30 r with h | h
              · exfalso
                have h4 : 10 ^ 30 ≤ 10 ^ (r - 1) := Nat.pow_le_pow_right (by omega) (by omega)
                omega
              · exact h
            have hz := shr_some hge
            have hn10 := hl2
            have hone := ho2H
            clear hn hlt10 hpos hnz hlt hl2 hp2
            have hn := hm2
            obtain ⟨wz, hwz⟩ : ∃ wz : World, wz = wr := ⟨wr, rfl⟩
            subst hwz
            have cP := hSH.out.dp
            have fP := hSH.out.fr 801
            have cN := hSH.out.nd
            have hge' := shr_some hge
            have hr100 : (r : Int) ≤ 100 := by omega
            obtain ⟨M, hM⟩ : ∃ M, M = 2 ^ k - 1 := ⟨_, rfl⟩
            have hm1 : IntKind.u64.wrap ((2 : Int) ^ k) = (2 : Int) ^ k := by rw [pow_cast, wu64 (by omega) (by omega)]
            have hm2 : IntKind.u64.wrap ((2 : Int) ^ k - 1) = (M : Int) := by rw [pow_cast, wu64 (by omega) (by omega)]; omega
            have hD1 : Hid (DecS B D nd (dp - ((r : Int) - 1)) neg tr (wz.setCell ⟨B, 801, none⟩ (.int .i64 (dp - ((r : Int) - 1))))) := .mk (hSH.out.setDp _)
            have hMH : Hid (M = 2 ^ k - 1) := .mk hM
            have hOW0 : Hid (Onl B wz (wz.setCell ⟨B, 801, none⟩ (.int .i64 (dp - ((r : Int) - 1))))) := .mk ((Onl.refl B wz).setCell rfl _)
            clear hz hM
            go_wp2_with (fail)
            generalize hwx : World.setCell wz _ _ = wx at *
            have hOW : Hid (Onl B wz wx) := hOW0
            clear hwx hOW0
            go_loopw [4, 5, 6] (fun x y z wq => ∃ j m : Nat, (nd ≤ r ∧ j = 0 ∨ r + j ≤ nd) ∧ x = .int .i64 ((r : Int) + (j : Int)) ∧ y = .int .i64 (j : Nat) ∧ z = .int .u64 (m : Nat) ∧ m < 10 * 2 ^ k ∧ (j = 0 → m = n) ∧ RshS B D nd (dp - ((r : Int) - 1)) neg (48 + n / 2 ^ k) j wq ∧ Onl B wx wq) (fun x _ _ _ => nd - (intOf x).toNat)
            case atStart => exact ⟨0, n, by omega, by simp, rfl, rfl, hn, fun _ => rfl, ⟨D, tr, hD1.out, fun i _ => rfl, fun i hi => by omega, fun h => by omega⟩, Onl.refl _ _⟩
            case round =>
              obtain ⟨j, m, hj, rfl, rfl, rfl, hm10, hmn, hR, hO⟩ := hrel
              obtain ⟨D2, tr2, hD2, hsame, hval, hfst⟩ := hR.ex
              have hD2H : Hid (DecS B D2 nd (dp - ((r : Int) - 1)) neg tr2 wr) := .mk hD2
              have hO2H : Hid (Onl B wx wr) := .mk hO
              clear hD2 hO hR
              have cN2 := hD2H.out.nd
              by_cases hlt2 : r + j < nd
              · exfalso; omega
              · have hji : ((r : Int) + (j : Int) < (nd : Int)) = False := by simp; omega
                have hj8 : j ≤ 800 := by omega
                have hc0 : 48 < 48 + n / 2 ^ k ∧ 48 + n / 2 ^ k ≤ 57 := by
                  have h1 : n / 2 ^ k < 10 := (Nat.div_lt_iff_lt_mul hK0).2 hn
                  have h2 : 1 ≤ n / 2 ^ k := (Nat.le_div_iff_mul_le hK0).2 (by omega)
                  omega
                have hvalH : Hid (∀ i, i < j → 48 ≤ D2 i ∧ D2 i ≤ 57) := .mk hval
                have hfstH : Hid (1 ≤ j → D2 0 = 48 + n / 2 ^ k) := .mk hfst
                have hmnH : Hid (j = 0 → m = n) := .mk hmn
                clear hsame hval hfst hmn
                obtain ⟨wy, hwy⟩ : ∃ wy : World, wy = wr := ⟨wr, rfl⟩
                subst hwy
                go_wp2_with (fail)
                go_loopw [5, 6] (fun y z wq => ∃ i t : Nat, i ≤ 800 ∧ y = .int .i64 (i : Nat) ∧ z = .int .u64 (t : Nat) ∧ t < 10 * 2 ^ k ∧ (i = 0 → t = n) ∧ (∃ D1 tr1, DecS B D1 nd (dp - ((r : Int) - 1)) neg tr1 wq ∧ (∀ a, a < i → 48 ≤ D1 a ∧ D1 a ≤ 57) ∧ (1 ≤ i → D1 0 = 48 + n / 2 ^ k)) ∧ Onl B wy wq) (fun _ z _ => mu k (intOf z).toNat)
                case atStart => exact ⟨j, m, hj8, rfl, rfl, hm10, hmnH.out, ⟨D2, tr2, hD2H.out, hvalH.out, hfstH.out⟩, Onl.refl _ _⟩
                case round =>
                  obtain ⟨i, t, hi8, rfl, rfl, ht10, htn, ⟨D3, tr3, hD3, hv3, hf3⟩, hO3⟩ := hrel
                  have hD3H : Hid (DecS B D3 nd (dp - ((r : Int) - 1)) neg tr3 wr) := .mk hD3
                  have hO3H : Hid (Onl B wy wr) := .mk hO3
                  clear hD3 hO3
                  have cN3 := hD3H.out.nd
                  have fN3 := hD3H.out.fr 800
                  rcases Nat.eq_zero_or_pos t with rfl | htp
                  · have hi1 : 1 ≤ i := by
                      rcases Nat.eq_zero_or_pos i with h | h
                      · have := htn h; omega
                      · exact h
                    have hfin : Hid (DecS B D3 i (dp - ((r : Int) - 1)) neg tr3 (wr.setCell ⟨B, 800, none⟩ (.int .i64 (i : Nat)))) := .mk (hD3H.out.setNd i)
                    have hOF : Hid (Onl B wz (wr.setCell ⟨B, 800, none⟩ (.int .i64 (i : Nat)))) := .mk ((hOW.out.trans (hO2H.out.trans hO3H.out)).setCell rfl _)
                    have hvH : Hid (Digs D3 i) := .mk hv3
                    have hfH : Hid (D3 0 = 48 + n / 2 ^ k) := .mk (hf3 hi1)
                    go_wp2_with (fail)
                    go_at_call 78
                    refine (trim_any B D3 i _ neg tr3 _ hfin.out hi8).mono ?_
                    rintro x w9 ⟨rfl, nd9, dp9, hD9, hle9, hge9, hO9⟩
                    obtain ⟨hg1', rfl⟩ := hge9 hi1 (by rw [hfH.out]; omega)
                    go_wp2_with (fail)
                    go_end0
                    exact ⟨rfl, D3, nd9, r, n, tr3, hD9, fun a ha => hvH.out a (by omega), by rw [hfH.out]; omega, hg1', by omega, hr1, hr30, hge, hn10, hone.out, hfH.out, hOF.out.trans hO9⟩
                  · have hand := and_mask (m := t) hMH.out (by omega) (by have := hMH.out; omega)
                    have hdig := dig_cast (m := t) (k := k) ht10
                    have hmu := mu_lt (k := k) htp
                    obtain ⟨q, hq⟩ : ∃ q, t / 2 ^ k = q := ⟨_, rfl⟩
                    obtain ⟨u, hu⟩ : ∃ u, t % 2 ^ k = u := ⟨_, rfl⟩
                    have hq9 : q ≤ 9 := by have := (Nat.div_lt_iff_lt_mul hK0).2 ht10; omega
                    have hul : u < 2 ^ k := by rw [← hu]; exact Nat.mod_lt _ hK0
                    have hsh : (t : Int) / 2 ^ k = (q : Int) := by rw [shr_cast, hq]
                    rw [hu] at hmu
                    rw [hq] at hdig
                    rw [hu] at hand
                    have hw1 : IntKind.u64.wrap ((u : Int) * 10) = (u : Int) * 10 := wu64 (by omega) (by omega)
                    have hqn : Hid (i = 0 → q = n / 2 ^ k) := .mk fun h => by rw [← hq, htn h]
                    have htH : Hid (0 < t) := .mk htp
                    clear hq hu
                    by_cases hi : i < 800
                    · have hil : (i : Int) < 800 := by omega
                      have cw := hD3H.out.dig i hi
                      have fw := hD3H.out.fr i
                      rw [hsh] at hdig
                      go_wp2_with (fail)
                      rw [show (q : Int) + 48 = ((q + 48 : Nat) : Int) by omega]
                      refine ⟨⟨i + 1, u * 10, by omega, congrArg _ (by omega), congrArg _ (by omega), by omega, fun h => by omega, ⟨put D3 i (q + 48), tr3, hD3H.out.setD hi (by omega), fun a ha => ?_, fun _ => ?_⟩, hO3H.out.setCell rfl _⟩, by simp only [intOf]; rw [show ((u : Int) * 10).toNat = u * 10 by omega, show ((t : Nat) : Int).toNat = t by omega]; exact hmu⟩
                      · by_cases ea : a = i
                        · subst ea; rw [put_same]; omega
                        · rw [put_other _ _ ea]; exact hv3 a (by omega)
                      · rcases Nat.eq_zero_or_pos i with h | h
                        · subst h; rw [put_same, hqn.out rfl]; omega
                        · rw [put_other _ _ (by omega)]; exact hf3 h
                    · have hil : ((i : Int) < 800) = False := by simp; omega
                      have cT := hD3H.out.tr
                      have fT := hD3H.out.fr 803
                      rcases Nat.eq_zero_or_pos q with rfl | hq0
                      · go_wp2_with (fail)
                        exact ⟨⟨i, u * 10, hi8, rfl, congrArg _ (by omega), by omega, fun h => by omega, ⟨D3, tr3, hD3H.out, hv3, hf3⟩, hO3H.out⟩, by simp only [intOf]; rw [show ((u : Int) * 10).toNat = u * 10 by omega, show ((t : Nat) : Int).toNat = t by omega]; exact hmu⟩
                      · go_wp2_with (fail)
                        exact ⟨⟨i, u * 10, hi8, rfl, congrArg _ (by omega), by omega, fun h => by omega, ⟨D3, true, hD3H.out.setTr true, hv3, hf3⟩, hO3H.out.setCell rfl _⟩, by simp only [intOf]; rw [show ((u : Int) * 10).toNat = u * 10 by omega, show ((t : Nat) : Int).toNat = t by omega]; exact hmu⟩
    · have hz := shr_some (show 2 ^ k ≤ num D r by omega)
      have hr1 : 1 ≤ r := by
        rcases Nat.eq_zero_or_pos r with h | h
        · exfalso; subst h; rw [num] at hlt; omega
        · exact h
      have hge : 2 ^ k ≤ num D r := by omega
      have hn10 : num D r < 10 ^ r := num_lt fun i hi => hDH.out i (by omega)
      have hone : Hid (r = 1 → num D r + 48 = D 0) := .mk fun h => by subst h; rw [num_one]; omega
      have hp := num_pos h48 hr1
      have hr30 : r ≤ 30 := by
        rcases Nat.lt_or_ge 30 r with h | h
        · exfalso
          have h4 : 10 ^ 30 ≤ 10 ^ (r - 1) := Nat.pow_le_pow_right (by omega) (by omega)
          omega
        · exact h
      clear hp
      generalize num D r = n at *
      obtain ⟨wz, hwz⟩ : ∃ wz : World, wz = wr := ⟨wr, rfl⟩
      subst hwz
      have cP := hSH.out.dp
      have fP := hSH.out.fr 801
      have cN := hSH.out.nd
      have hge' := shr_some hge
      have hr100 : (r : Int) ≤ 100 := by omega
      obtain ⟨M, hM⟩ : ∃ M, M = 2 ^ k - 1 := ⟨_, rfl⟩
      have hm1 : IntKind.u64.wrap ((2 : Int) ^ k) = (2 : Int) ^ k := by rw [pow_cast, wu64 (by omega) (by omega)]
      have hm2 : IntKind.u64.wrap ((2 : Int) ^ k - 1) = (M : Int) := by rw [pow_cast, wu64 (by omega) (by omega)]; omega
      have hD1 : Hid (DecS B D nd (dp - ((r : Int) - 1)) neg tr (wz.setCell ⟨B, 801, none⟩ (.int .i64 (dp - ((r : Int) - 1))))) := .mk (hSH.out.setDp _)
      have hMH : Hid (M = 2 ^ k - 1) := .mk hM
      have hOW0 : Hid (Onl B wz (wz.setCell ⟨B, 801, none⟩ (.int .i64 (dp - ((r : Int) - 1))))) := .mk ((Onl.refl B wz).setCell rfl _)
      clear hz hM
      go_wp2_with (fail)
      generalize hwx : World.setCell wz _ _ = wx at *
      have hOW : Hid (Onl B wz wx) := hOW0
      clear hwx hOW0
      go_loopw [4, 5, 6] (fun x y z wq => ∃ j m : Nat, (nd ≤ r ∧ j = 0 ∨ r + j ≤ nd) ∧ x = .int .i64 ((r : Int) + (j : Int)) ∧ y = .int .i64 (j : Nat) ∧ z = .int .u64 (m : Nat) ∧ m < 10 * 2 ^ k ∧ (j = 0 → m = n) ∧ RshS B D nd (dp - ((r : Int) - 1)) neg (48 + n / 2 ^ k) j wq ∧ Onl B wx wq) (fun x _ _ _ => nd - (intOf x).toNat)
      case atStart => exact ⟨0, n, by omega, by simp, rfl, rfl, hn, fun _ => rfl, ⟨D, tr, hD1.out, fun i _ => rfl, fun i hi => by omega, fun h => by omega⟩, Onl.refl _ _⟩
      case round =>
        obtain ⟨j, m, hj, rfl, rfl, rfl, hm10, hmn, hR, hO⟩ := hrel
        obtain ⟨D2, tr2, hD2, hsame, hval, hfst⟩ := hR.ex
        have hD2H : Hid (DecS B D2 nd (dp - ((r : Int) - 1)) neg tr2 wr) := .mk hD2
        have hO2H : Hid (Onl B wx wr) := .mk hO
        clear hD2 hO hR
        have cN2 := hD2H.out.nd
        by_cases hlt2 : r + j < nd
        · have hji : ((r : Int) + (j : Int) < (nd : Int)) = True := by simp; omega
          have cr := hD2H.out.dig (r + j) (by omega)
          rw [hsame (r + j) (by omega)] at cr
          have hdr := hDH.out (r + j) hlt2
          obtain ⟨d, hd⟩ : ∃ d, D (r + j) = d + 48 := ⟨D (r + j) - 48, by omega⟩
          rw [hd] at cr
          have cw := hD2H.out.dig j (by omega)
          have fw := hD2H.out.fr j
          have hrl : (r : Int) + (j : Int) < 800 := by omega
          have hjl : (j : Int) < 800 := by omega
          have hand := and_mask (m := m) hMH.out (by omega) (by have := hMH.out; omega)
          have hdig := dig_cast (m := m) (k := k) hm10
          obtain ⟨q, hq⟩ : ∃ q, m / 2 ^ k = q := ⟨_, rfl⟩
          obtain ⟨u, hu⟩ : ∃ u, m % 2 ^ k = u := ⟨_, rfl⟩
          have hq9 : q ≤ 9 := by have := (Nat.div_lt_iff_lt_mul hK0).2 hm10; omega
          have hul : u < 2 ^ k := by rw [← hu]; exact Nat.mod_lt _ hK0
          rw [hq] at hdig
          rw [hu] at hand
          have hw1 : IntKind.u64.wrap ((u : Int) * 10) = (u : Int) * 10 := wu64 (by omega) (by omega)
          have hw2 : IntKind.u64.wrap ((u : Int) * 10 + ((d : Int) + 48)) = (u : Int) * 10 + ((d : Int) + 48) := wu64 (by omega) (by omega)
          have hw3 : IntKind.u64.wrap ((u : Int) * 10 + ((d : Int) + 48) - 48) = ((u * 10 + d : Nat) : Int) := by rw [wu64 (by omega) (by omega)]; omega
          go_wp2_with (fail)
          rw [show (q : Int) + 48 = ((q + 48 : Nat) : Int) by omega]
          refine ⟨⟨j + 1, u * 10 + d, .inr (by omega), congrArg _ (by omega), congrArg _ (by omega), congrArg _ (by omega), by omega, fun h => by omega, ⟨put D2 j (q + 48), tr2, hD2H.out.setD (by omega) (by omega), fun i hi => ?_, fun i hi => ?_, fun _ => ?_⟩, hO2H.out.setCell rfl _⟩, by simp [intOf]; omega⟩
          · rw [put_other _ _ (by omega)]; exact hsame i (by omega)
          · by_cases ei : i = j
            · subst ei; rw [put_same]; omega
            · rw [put_other _ _ ei]; exact hval i (by omega)
          · rcases Nat.eq_zero_or_pos j with h | h
            · subst h; rw [put_same, ← hq, hmn rfl]; omega
            · rw [put_other _ _ (by omega)]; exact hfst h
        · have hji : ((r : Int) + (j : Int) < (nd : Int)) = False := by simp; omega
          have hj8 : j ≤ 800 := by omega
          have hc0 : 48 < 48 + n / 2 ^ k ∧ 48 + n / 2 ^ k ≤ 57 := by
            have h1 : n / 2 ^ k < 10 := (Nat.div_lt_iff_lt_mul hK0).2 hn
            have h2 : 1 ≤ n / 2 ^ k := (Nat.le_div_iff_mul_le hK0).2 (by omega)
            omega
          have hvalH : Hid (∀ i, i < j → 48 ≤ D2 i ∧ D2 i ≤ 57) := .mk hval
          have hfstH : Hid (1 ≤ j → D2 0 = 48 + n / 2 ^ k) := .mk hfst
          have hmnH : Hid (j = 0 → m = n) := .mk hmn
          clear hsame hval hfst hmn
          obtain ⟨wy, hwy⟩ : ∃ wy : World, wy = wr := ⟨wr, rfl⟩
          subst hwy
          go_wp2_with (fail)
          go_loopw [5, 6] (fun y z wq => ∃ i t : Nat, i ≤ 800 ∧ y = .int .i64 (i : Nat) ∧ z = .int .u64 (t : Nat) ∧ t < 10 * 2 ^ k ∧ (i = 0 → t = n) ∧ (∃ D1 tr1, DecS B D1 nd (dp - ((r : Int) - 1)) neg tr1 wq ∧ (∀ a, a < i → 48 ≤ D1 a ∧ D1 a ≤ 57) ∧ (1 ≤ i → D1 0 = 48 + n / 2 ^ k)) ∧ Onl B wy wq) (fun _ z _ => mu k (intOf z).toNat)
          case atStart => exact ⟨j, m, hj8, rfl, rfl, hm10, hmnH.out, ⟨D2, tr2, hD2H.out, hvalH.out, hfstH.out⟩, Onl.refl _ _⟩
          case round =>
            obtain ⟨i, t, hi8, rfl, rfl, ht10, htn, ⟨D3, tr3, hD3, hv3, hf3⟩, hO3⟩ := hrel
            have hD3H : Hid (DecS B D3 nd (dp - ((r : Int) - 1)) neg tr3 wr) := .mk hD3
            have hO3H : Hid (Onl B wy wr) := .mk hO3
            clear hD3 hO3
            have cN3 := hD3H.out.nd
            have fN3 := hD3H.out.fr 800
            rcases Nat.eq_zero_or_pos t with rfl | htp
            · have hi1 : 1 ≤ i := by
                rcases Nat.eq_zero_or_pos i with h | h
                · have := htn h; omega
                · exact h
              have hfin : Hid (DecS B D3 i (dp - ((r : Int) - 1)) neg tr3 (wr.setCell ⟨B, 800, none⟩ (.int .i64 (i : Nat)))) := .mk (hD3H.out.setNd i)
              have hOF : Hid (Onl B wz (wr.setCell ⟨B, 800, none⟩ (.int .i64 (i : Nat)))) := .mk ((hOW.out.trans (hO2H.out.trans hO3H.out)).setCell rfl _)
              have hvH : Hid (Digs D3 i) := .mk hv3
              have hfH : Hid (D3 0 = 48 + n / 2 ^ k) := .mk (hf3 hi1)
              go_wp2_with (fail)
              go_at_call 78
              refine (trim_any B D3 i _ neg tr3 _ hfin.out hi8).mono ?_
              rintro x w9 ⟨rfl, nd9, dp9, hD9, hle9, hge9, hO9⟩
              obtain ⟨hg1', rfl⟩ := hge9 hi1 (by rw [hfH.out]; omega)
              go_wp2_with (fail)
              go_end0
              exact ⟨rfl, D3, nd9, r, n, tr3, hD9, fun a ha => hvH.out a (by omega), by rw [hfH.out]; omega, hg1', by omega, hr1, hr30, hge, hn10, hone.out, hfH.out, hOF.out.trans hO9⟩
            · have hand := and_mask (m := t) hMH.out (by omega) (by have := hMH.out; omega)
              have hdig := dig_cast (m := t) (k := k) ht10
              have hmu := mu_lt (k := k) htp
              obtain ⟨q, hq⟩ : ∃ q, t / 2 ^ k = q := ⟨_, rfl⟩
              obtain ⟨u, hu⟩ : ∃ u, t % 2 ^ k = u := ⟨_, rfl⟩
              have hq9 : q ≤ 9 := by have := (Nat.div_lt_iff_lt_mul hK0).2 ht10; omega
              have hul : u < 2 ^ k := by rw [← hu]; exact Nat.mod_lt _ hK0
              have hsh : (t : Int) / 2 ^ k = (q : Int) := by rw [shr_cast, hq]
              rw [hu] at hmu
              rw [hq] at hdig
              rw [hu] at hand
              have hw1 : IntKind.u64.wrap ((u : Int) * 10) = (u : Int) * 10 := wu64 (by omega) (by omega)
              have hqn : Hid (i = 0 → q = n / 2 ^ k) := .mk fun h => by rw [← hq, htn h]
              have htH : Hid (0 < t) := .mk htp
              clear hq hu
              by_cases hi : i < 800
              · have hil : (i : Int) < 800 := by omega
                have cw := hD3H.out.dig i hi
                have fw := hD3H.out.fr i
                rw [hsh] at hdig
                go_wp2_with (fail)
                rw [show (q : Int) + 48 = ((q + 48 : Nat) : Int) by omega]
                refine ⟨⟨i + 1, u * 10, by omega, congrArg _ (by omega), congrArg _ (by omega), by omega, fun h => by omega, ⟨put D3 i (q + 48), tr3, hD3H.out.setD hi (by omega), fun a ha => ?_, fun _ => ?_⟩, hO3H.out.setCell rfl _⟩, by simp only [intOf]; rw [show ((u : Int) * 10).toNat = u * 10 by omega, show ((t : Nat) : Int).toNat = t by omega]; exact hmu⟩
                · by_cases ea : a = i
                  · subst ea; rw [put_same]; omega
                  · rw [put_other _ _ ea]; exact hv3 a (by omega)
                · rcases Nat.eq_zero_or_pos i with h | h
                  · subst h; rw [put_same, hqn.out rfl]; omega
                  · rw [put_other _ _ (by omega)]; exact hf3 h
              · have hil : ((i : Int) < 800) = False := by simp; omega
                have cT := hD3H.out.tr
                have fT := hD3H.out.fr 803
                rcases Nat.eq_zero_or_pos q with rfl | hq0
                · go_wp2_with (fail)
                  exact ⟨⟨i, u * 10, hi8, rfl, congrArg _ (by omega), by omega, fun h => by omega, ⟨D3, tr3, hD3H.out, hv3, hf3⟩, hO3H.out⟩, by simp only [intOf]; rw [show ((u : Int) * 10).toNat = u * 10 by omega, show ((t : Nat) : Int).toNat = t by omega]; exact hmu⟩
                · go_wp2_with (fail)
                  exact ⟨⟨i, u * 10, hi8, rfl, congrArg _ (by omega), by omega, fun h => by omega, ⟨D3, true, hD3H.out.setTr true, hv3, hf3⟩, hO3H.out.setCell rfl _⟩, by simp only [intOf]; rw [show ((u : Int) * 10).toNat = u * 10 by omega, show ((t : Nat) : Int).toNat = t by omega]; exact hmu⟩
end Go.Proofs.YtpbombkmnfbcgaaGreatDoor
