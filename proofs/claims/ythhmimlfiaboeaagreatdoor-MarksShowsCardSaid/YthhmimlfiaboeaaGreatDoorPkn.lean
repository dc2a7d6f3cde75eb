/- pack64: a significand and an exponent, as a float; exact. parseFloat64 of a decimal in a number's rounding interval: that number. -/
import Derived.Test.YthhmimlfiaboeaaGreatDoorUsn
import Derived.Test.YthhmimlfiaboeaaGreatDoorNea
import Derived.Laws.FloatArith
import Derived.WalkLawsBesides
import Derived.Test.YthhmimlfiaboeaaGreatDoorSht
import Derived.Lib.BitFns
namespace Go.Proofs.YthhmimlfiaboeaaGreatDoor
open Go.RowKit

theorem run_ff (z : Int) (w : World) : (callFunc 84 #[.int .u64 z]).run Tryz.prog w = .ok (.value (.float .f64 z.toNat)) w := by kernel_rfl
theorem run_fb (n : Nat) (w : World) : (callFunc 34 #[.float .f64 n]).run Tryz.prog w = .ok (.value (.int .u64 n)) w := by kernel_rfl

/-- The sign bit. -/
def sgb (neg : Bool) : Nat := if neg then 9223372036854775808 else 0
theorem sgb_or (neg : Bool) (x : Nat) (h : x < 9223372036854775808) : sgb neg ||| x = sgb neg + x := by
  cases neg
  · show 0 ||| x = 0 + x
    rw [Nat.zero_or, Nat.zero_add]
  · have := Nat.two_pow_add_eq_or_of_lt (i := 63) h 1
    rw [Nat.mul_one] at this
    exact this.symm
/-- The 52nd bit of a significand. -/
theorem and52b (neg : Bool) (r : Nat) (h : r < 9007199254740992) : (sgb neg + r) &&& 4503599627370496 = if r < 4503599627370496 then 0 else 4503599627370496 := by
  have e : (4503599627370496 : Nat) = 2 ^ 52 := rfl
  have t52 : (sgb neg + r).testBit 52 = decide (¬ r < 4503599627370496) := by
    rw [Nat.testBit_eq_decide_div_mod_eq, ← e]
    have : (sgb neg + r) / 4503599627370496 % 2 = 1 ↔ ¬ r < 4503599627370496 := by unfold sgb; split <;> omega
    exact decide_eq_decide.2 this
  apply Nat.eq_of_testBit_eq
  intro i
  rw [Nat.testBit_and, e, Nat.testBit_two_pow]
  by_cases hi : 52 = i
  · subst hi
    rw [t52, ← e]
    split <;> rename_i h1
    · simp [h1]
    · rw [e, Nat.testBit_two_pow]; simp [h1]
  · simp only [hi, decide_false, Bool.and_false]
    split
    · simp
    · rw [Nat.testBit_two_pow]; simp [hi]
theorem clr52 (neg : Bool) (f : Nat) (h : f < 4503599627370496) : (BitVec.ofInt 64 ((sgb neg + (4503599627370496 + f) : Nat) : Int) &&& ~~~ BitVec.ofInt 64 4503599627370496).toNat = sgb neg + f := by
  have hs : sgb neg = 2 ^ 53 * (sgb neg / 9007199254740992) := by cases neg <;> rfl
  have hs2 : sgb neg / 9007199254740992 < 2 ^ 11 := by cases neg <;> decide
  generalize sgb neg / 9007199254740992 = a at *
  have h1 : (BitVec.ofInt 64 ((sgb neg + (4503599627370496 + f) : Nat) : Int)).toNat = sgb neg + (4503599627370496 + f) := by simp; omega
  have h2 : (BitVec.ofInt 64 (4503599627370496 : Int)).toNat = 2 ^ 52 := by decide
  rw [BitVec.toNat_and, BitVec.toNat_not, h1, h2, hs]
  apply Nat.eq_of_testBit_eq
  intro i
  rw [Nat.testBit_and]
  have t1 := Nat.testBit_two_pow_mul_add a (i := 53) (show 4503599627370496 + f < 2 ^ 53 by omega) i
  have t2 := Nat.testBit_two_pow_mul_add a (i := 53) (show f < 2 ^ 53 by omega) i
  have t3 : (2 ^ 64 - 1 - 2 ^ 52).testBit i = (decide (i < 64) && !(2 ^ 52 : Nat).testBit i) := by
    have := Nat.testBit_two_pow_sub_succ (n := 64) (x := 2 ^ 52) (by decide) i
    rw [← this]
  rw [t1, t2, t3, Nat.testBit_two_pow]
  by_cases h53 : i < 53
  · rw [if_pos h53, if_pos h53]
    by_cases h52 : i = 52
    · subst h52
      have : f.testBit 52 = false := Nat.testBit_lt_two_pow (by omega)
      rw [this]; simp
    · have : (4503599627370496 + f).testBit i = f.testBit i := Nat.testBit_two_pow_add_gt (i := 52) (by omega) f
      rw [this]
      have : ¬ 52 = i := fun e => h52 e.symm
      simp [this]; omega
  · rw [if_neg h53, if_neg h53]
    by_cases h64 : i < 64
    · have : ¬ 52 = i := by omega
      simp [h64, this]
    · have : a.testBit (i - 53) = false := Nat.testBit_lt_two_pow (Nat.lt_of_lt_of_le hs2 (Nat.pow_le_pow_right (by decide) (by omega)))
      rw [this]; simp
theorem orexp (neg : Bool) (f n : Nat) (h : f < 4503599627370496) (hn : n ≤ 2046) : (sgb neg + f) ||| n * 4503599627370496 = sgb neg + f + n * 4503599627370496 := by
  have h1 : sgb neg + f = 2 ^ 52 * (if neg then 2048 else 0) + f := by cases neg <;> simp [sgb]
  have h2 : n * 4503599627370496 = 2 ^ 52 * n + 0 := by omega
  rw [h1, h2]
  apply Nat.eq_of_testBit_eq
  intro i
  have e : 2 ^ 52 * (if neg then 2048 else 0) + f + (2 ^ 52 * n + 0) = 2 ^ 52 * ((if neg then 2048 else 0) + n) + f := by rw [Nat.mul_add]; omega
  rw [e, Nat.testBit_or, Nat.testBit_two_pow_mul_add _ (by omega), Nat.testBit_two_pow_mul_add _ (by decide), Nat.testBit_two_pow_mul_add _ (by omega)]
  by_cases hi : i < 52
  · rw [if_pos hi, if_pos hi, if_pos hi]; simp
  · rw [if_neg hi, if_neg hi, if_neg hi]
    cases neg
    · simp
    · have := Nat.two_pow_add_eq_or_of_lt (i := 11) (show n < 2 ^ 11 by omega) 1
      rw [Nat.mul_one] at this
      rw [if_pos rfl, show (2048 : Nat) = 2 ^ 11 from rfl, this, Nat.testBit_or]

open Ieee in
theorem word_sgb (neg : Bool) (r : Nat) : Ieee.double.word neg r = sgb neg + r := by
  cases neg
  · exact (Nat.zero_add r).symm
  · rfl

set_option maxRecDepth 100000 in
theorem pk_is (neg : Bool) (m0 n : Nat) (hf : Us.Fin64 m0 n) (w : World) : Calls Tryz.prog 99 #[.int .u64 ((sgb neg ||| m0 : Nat) : Int), .int .i64 ((n : Int) - 1074)] w fun e w' =>
    e = .returned (.tuple #[.float .f64 (Ieee.double.word neg (Us.rung m0 n)), .nilIface]) ∧ w = w' := by
  have hff := fun (z : Int) (w : World) => run_ff z w
  obtain ⟨p1, p2, p3, p4⟩ := hf
  have hs : sgb neg ≤ 9223372036854775808 := by cases neg <;> decide
  rw [sgb_or neg m0 (by omega), word_sgb]
  have ha : bits .and .u64 ((sgb neg + m0 : Nat) : Int) 4503599627370496 = (((if m0 < 4503599627370496 then 0 else 4503599627370496 : Nat)) : Int) := by
    have := bits_and_u64_nat (sgb neg + m0) 4503599627370496 (by omega) (by omega)
    rw [and52b neg m0 p2] at this
    exact this
  have hni : (n : Int) ≤ 2045 := by omega
  by_cases hm : m0 < 4503599627370496
  · rw [if_pos hm] at ha
    have ha : bits .and .u64 ((sgb neg + m0 : Nat) : Int) 4503599627370496 = 0 := ha
    have hn : n = 0 := by
      rcases Nat.eq_zero_or_pos n with h | h
      · exact h
      · have := p4 h; omega
    subst hn
    have er : sgb neg + Us.rung m0 0 = sgb neg + m0 := by unfold Us.rung; omega
    rw [er]
    generalize sgb neg + m0 = x at *
    go_enter Tryz.func99, Tryz.ntmps99
    go_wp2_with (fail)
    go_ret2
    exact ⟨by simp, rfl⟩
  · rw [if_neg hm] at ha
    have ha : bits .and .u64 ((sgb neg + m0 : Nat) : Int) 4503599627370496 = 4503599627370496 := ha
    obtain ⟨f, rfl⟩ : ∃ f, m0 = 4503599627370496 + f := ⟨m0 - 4503599627370496, by omega⟩
    have hc := clr52 neg f (by omega)
    have hcl : bits .andNot .u64 ((sgb neg + (4503599627370496 + f) : Nat) : Int) 4503599627370496 = ((sgb neg + f : Nat) : Int) := by
      show IntKind.u64.wrap ((BitVec.ofInt 64 ((sgb neg + (4503599627370496 + f) : Nat) : Int) &&& ~~~ BitVec.ofInt 64 4503599627370496).toNat : Int) = _
      rw [hc]; exact wu64 (by omega) (by omega)
    have ho : bits .or .u64 ((sgb neg + f : Nat) : Int) (((n + 1) * 4503599627370496 : Nat) : Int) = ((sgb neg + f + (n + 1) * 4503599627370496 : Nat) : Int) := by
      have := bits_or_u64_nat (sgb neg + f) ((n + 1) * 4503599627370496) (by omega) (by omega)
      rw [orexp neg f (n + 1) (by omega) (by omega)] at this
      exact this
    have er : sgb neg + Us.rung (4503599627370496 + f) n = sgb neg + f + (n + 1) * 4503599627370496 := by unfold Us.rung; omega
    rw [er]
    have ez : (((n + 1) * 4503599627370496 : Nat) : Int) = ((n : Int) + 1) * 4503599627370496 := by omega
    rw [ez] at ho
    have hgt : (972 ≤ (n : Int) - 1074) = False := eq_false (by omega)
    clear hc er ez p4 p1 p2 hs
    generalize sgb neg + f + (n + 1) * 4503599627370496 = Z at *
    generalize sgb neg + (4503599627370496 + f) = X at *
    generalize sgb neg + f = Y at *
    go_enter Tryz.func99, Tryz.ntmps99
    go_wp2_with (fail)
    go_ret2
    have e9 : (1075 + ((n : Int) - 1074)) = (n : Int) + 1 := by omega
    exact ⟨by rw [e9, ho]; rfl, rfl⟩
end Go.Proofs.YthhmimlfiaboeaaGreatDoor

namespace Go.Proofs.YthhmimlfiaboeaaGreatDoor
open Go.RowKit

theorem bl_zero : Lib.bitLen 0 = 0 := by unfold Lib.bitLen; exact Lib.bitLenAux_zero _
theorem bl_norm : ∀ x : Nat, x ≠ 0 → x < 2 ^ 64 → 1 ≤ Lib.bitLen x ∧ 2 ^ (Lib.bitLen x - 1) ≤ x ∧ x < 2 ^ Lib.bitLen x := by
  intro x
  induction x using Nat.strongRecOn with
  | ind x ih =>
    intro h0 hx
    have hb := Lib.bitLen_half x h0 hx
    by_cases h1 : x / 2 = 0
    · rw [h1, bl_zero] at hb
      rw [hb]
      have : x = 1 := by omega
      subst this
      decide
    · obtain ⟨a, b, c⟩ := ih (x / 2) (by omega) h1 (by omega)
      rw [hb]
      generalize Lib.bitLen (x / 2) = k at *
      have e : 2 ^ (k + 1) = 2 * 2 ^ k := by rw [Nat.pow_succ, Nat.mul_comm]
      have e2 : 2 ^ k = 2 * 2 ^ (k - 1) := by rw [← Nat.pow_succ']; congr 1; omega
      have e3 : 2 ^ (1 + k) = 2 * 2 ^ k := by rw [Nat.add_comm, e]
      rw [show 1 + k - 1 = k by omega, e3]
      omega

/-- What the rounding says in the code's own words. -/
theorem rou_is (u : Nat) (hu : u ≤ 576460752303423488) (w : World) : Calls Tryz.prog 63 #[.int .u64 (u : Nat)] w fun e w' => e = .returned (.int .u64 (Us.rnd u : Nat)) ∧ w = w' := by
  refine (rou_any (u : Int) w).mono fun e w' h => ⟨h.1.trans ?_, h.2⟩
  congr 2
  have e1 : (u : Int) / 4 = ((u / 4 : Nat) : Int) := by omega
  have h1 := bits_and_u64_nat (u / 4) 1 (by omega) (by decide)
  have h2 : u / 4 &&& 1 = u / 4 % 2 := Nat.and_one_is_mod _
  rw [h2] at h1
  have h1' : bits .and .u64 (((u / 4 : Nat)) : Int) 1 = ((u / 4 % 2 : Nat) : Int) := h1
  rw [e1, h1', wu64 (z := (u : Int) + 1) (by omega) (by omega), wu64 (by omega) (by omega)]
  unfold Us.rnd
  omega
theorem and1_is (u : Nat) (hu : u < 18446744073709551616) : bits .and .u64 (u : Int) 1 = ((u % 2 : Nat) : Int) := by
  have h1 := bits_and_u64_nat u 1 hu (by decide)
  rw [Nat.and_one_is_mod] at h1
  exact h1

set_option maxRecDepth 100000 in
set_option maxHeartbeats 3200000 in
theorem pfl_is (N : Nat) (d J : Nat) (neg : Bool) (m0 n : Nat) (w : World) (hd0 : 0 < d) (hd : d < 144115188075855872) (hT : TabAt Us.tHi Us.tLo N w) (hN : N ≤ w.heap.size) (hJ1 : 3 ≤ J) (hJ2 : J ≤ 658) (hf : Us.Fin64 m0 n) (hI : Us.Ins m0 n (d * 10 ^ J)) :
    Calls Tryz.prog 86 #[.int .u64 (d : Nat), .int .i64 ((J : Int) - 348), .int .u64 (sgb neg : Nat)] w fun e w' => e = .returned (.tuple #[.float .f64 (Ieee.double.word neg (Us.rung m0 n)), .nilIface]) ∧ Below w.heap.size w w' := by
  obtain ⟨b1, b2, b3⟩ := bl_norm d (by omega) (by omega)
  have m0' := (Tryz.bits_Len64 (d : Int) w (by omega) (by omega)).mono fun _ _ h => (⟨h.1, h.2.symm⟩ : _ ∧ w = _)
  rw [Int.toNat_natCast] at m0'
  obtain ⟨b, hb⟩ : ∃ b, Lib.bitLen d = b := ⟨_, rfl⟩
  rw [hb] at b1 b2 b3 m0'
  have hb57 : b ≤ 57 := by
    have h1 : 2 ^ (b - 1) < 2 ^ 57 := Nat.lt_of_le_of_lt b2 (by omega)
    have := (Nat.pow_lt_pow_iff_right (by decide : 1 < 2)).1 h1
    omega
  have hrow := Us.row_ok J (by omega)
  have ml := l2p_any ((J : Int) - 348) w (by omega) (by omega)
  rw [Us.lp_int] at ml
  have hs84 := Us.read_s d J b n m0 _ _ b2 b3 b1 hrow hf hI
  obtain ⟨L, hL⟩ : ∃ L, Us.lpN J = L := ⟨_, rfl⟩
  have hL1 : 3 ≤ L := by rw [← hL]; unfold Us.lpN; omega
  have hL2 : L ≤ 2330 := by rw [← hL]; unfold Us.lpN; omega
  obtain ⟨s, hs⟩ : ∃ s, b + L + s = 147 + (b + L - 139) := ⟨147 + (b + L - 139) - b - L, by omega⟩
  have hs8 : 8 ≤ s := by omega
  rw [hL] at hs84 ml
  have hs64 : s < 64 := by omega
  -- the scaled number
  obtain ⟨x, hx⟩ : ∃ x, x = d * 2 ^ (64 - b) := ⟨_, rfl⟩
  have hx2 : x < 18446744073709551616 := by
    have := Nat.mul_lt_mul_of_pos_right b3 (Nat.two_pow_pos (64 - b))
    rw [← Nat.pow_add, show b + (64 - b) = 64 by omega] at this
    rw [hx]; exact this
  have hx0 : 0 < x := by rw [hx]; exact Nat.mul_pos hd0 (Nat.two_pow_pos _)
  have hxD : x = 128 * (d * 2 ^ (57 - b)) := by
    rw [hx, show (128 : Nat) = 2 ^ 7 from rfl, Nat.mul_left_comm, ← Nat.pow_add, show 7 + (57 - b) = 64 - b by omega]
  have hF : Us.Far (2 * x * Us.nA J) (Us.nM J) (2 ^ s) := by
    have h1 := Us.far_of_gap (Us.nA J) (Us.nM J) (2 ^ 57) 71 (d * 2 ^ (57 - b)) s 8 (by omega) hs8 (Nat.mul_pos hd0 (Nat.two_pow_pos _)) (by
      have := Nat.mul_lt_mul_of_pos_right b3 (Nat.two_pow_pos (57 - b))
      rwa [← Nat.pow_add, show b + (57 - b) = 57 by omega] at this) hrow.g1
    have e : 2 * x * Us.nA J = 2 ^ 8 * (d * 2 ^ (57 - b) * Us.nA J) := by
      rw [hxD]; generalize d * 2 ^ (57 - b) = y; generalize Us.nA J = z; grind
    rw [e]; exact h1
  obtain ⟨hU, hpos⟩ := Us.uscN_is (Us.nA J) (Us.nM J) _ _ s (Us.nM_pos _) (Us.nA_pos _) hrow.lo64 hrow.le hrow.b1 hrow.b2 x hx0 hx2 hF
  have hsay := usc_is x (Us.tHi J) (Us.tLo J) s hs64 hx2 hrow.hi64 hrow.lo64 hpos
  have hUlt := Us.uscN_lt x (Us.tHi J) (Us.tLo J) s hx2 hrow.hi64 (by omega)
  obtain ⟨U, hUe⟩ : ∃ U, Us.uscN x (Us.tHi J) (Us.tLo J) s = U := ⟨_, rfl⟩
  rw [hUe] at hU hsay hUlt
  have hcases := Us.read_cases d J b n m0 _ _ b2 b3 b1 hb57 hrow hf hI s (by rw [hL]; exact hs) U (by rw [hU, hx])
  rw [hL] at hcases
  obtain ⟨e0, he0⟩ : ∃ e0 : Int, min 1074 (53 - (b : Int) - ((L : Int) - 1160)) = e0 := ⟨_, rfl⟩
  have he1 : e0 = 1074 - ((b + L - 139 : Nat) : Int) := by omega
  have hpre := pre_any Us.tHi Us.tLo N w.heap.size (e0 - ((64 - b : Nat) : Int)) J ((L : Int) - 1160) (w.alloc (.cells #[.int .u64 0, .int .u64 0, .int .i64 0] 91)) (hT.keep ((Below.refl _ _).alloc hN _)) hN (by omega) (by omega) (by omega) (by omega) (by omega)
    (.int .u64 0) (.int .u64 0) (.int .i64 0) (by simp [World.cell?_alloc_new]) (by simp [World.cell?_alloc_new]) (by simp [World.cell?_alloc_new]) (by simp [World.frozen?_alloc_new]) (by simp [World.frozen?_alloc_new]) (by simp [World.frozen?_alloc_new])
  have hsv : -(e0 - ((64 - b : Nat) : Int) + ((L : Int) - 1160) + 3) = (s : Int) := by omega
  rw [hsv] at hpre
  obtain ⟨q, hq⟩ : ∃ q : Nat, 64 - b = q := ⟨_, rfl⟩
  have hqi : (64 : Int) - (b : Int) = (q : Int) := by omega
  have en1 : IntKind.u64.wrap ((d : Int) * 2 ^ q) = (x : Int) := by
    have : (d : Int) * 2 ^ q = (x : Int) := by rw [hx, hq]; push_cast; rfl
    rw [this]; exact wu64 (by omega) (by omega)
  rw [hq] at hpre
  obtain ⟨lp, hlp⟩ : ∃ lp : Int, (L : Int) - 1160 = lp := ⟨_, rfl⟩
  rw [hlp] at ml he0 hpre hsv
  have hlpb1 : -1160 ≤ lp := by omega
  have hlpb2 : lp ≤ 1170 := by omega
  have hbi : (b : Int) ≤ 57 := by omega
  have hbi1 : 1 ≤ (b : Int) := by omega
  have he4 : -2000 ≤ e0 := by omega
  have he5 : e0 ≤ 1074 := by omega
  have hs64i : (64 ≤ (s : Int)) = False := eq_false (by omega)
  have hprH := Hid.mk hpre
  have hrH := Hid.mk hsay
  have m0H := Hid.mk m0'
  have mlH := Hid.mk ml
  have hcH := Hid.mk hcases
  have heH := Hid.mk he1
  have hfH := Hid.mk hf
  clear m0' ml hT hpre hsay hU hpos hF hxD hx hs84 hrow hI b2 b3 hUe hcases hsv hlp hL hs he1 hb hf hq
  go_enter Tryz.func86, Tryz.ntmps86
  go_wp2_with (first | (go_at_call 38; refine m0H.out.mono ?_; rintro e w' ⟨rfl, rfl⟩) | (go_at_call 58; refine mlH.out.mono ?_; rintro e w' ⟨rfl, rfl⟩))
  go_at_call 57
  refine hprH.out.mono ?_
  rintro e w2 ⟨rfl, hP, hO⟩
  have hB : Hid (Below w.heap.size w w2) := .mk (((Below.refl _ _).alloc (Nat.le_refl _) _).trans (hO.blw (Nat.le_refl _) (by simp)))
  have c2 := hP.s
  have hPH := Hid.mk hP
  clear hP hO
  go_wp2_with (fail)
  go_at_call 59
  refine (hrH.out _ w2 hPH.out).mono ?_
  rintro e w3 ⟨rfl, k, rfl⟩
  have hB3 : Hid (Below w.heap.size w (w2.drewN k)) := .mk (hB.out.trans (blw_drewN _ _ k))
  obtain ⟨w3, hw3⟩ : ∃ w3, w2.drewN k = w3 := ⟨_, rfl⟩
  rw [hw3] at hB3 ⊢
  clear hw3 c2 hPH hB
  have hr4 : (9007199254740992 : Nat) ≤ 9007199254740992 := Nat.le_refl _
  have hu4 : IntKind.u64.wrap (36028797018963966) = 36028797018963966 := by decide
  have hand := and1_is U (by omega)
  have hum := umn_any 9007199254740992 w3 hr4
  have e4 : (((9007199254740992 : Nat) : Int) * 4 - 2) = 36028797018963966 := by decide
  rw [e4, hu4] at hum
  have humH := Hid.mk hum
  have hff : ∀ k : Nat, Us.rnd k = m0 → k ≤ 576460752303423488 → ∀ w : World, Calls Tryz.prog 63 #[.int .u64 (k : Nat)] w fun e w' => e = .returned (.int .u64 (m0 : Nat)) ∧ w = w' := fun k hk hk2 w => by
    have := rou_is k hk2 w
    rwa [hk] at this
  have hsg : bits .or .u64 ((sgb neg : Nat) : Int) (m0 : Int) = ((sgb neg ||| m0 : Nat) : Int) := by
    have := hfH.out.lt
    exact bits_or_u64_nat _ _ (by cases neg <;> decide) (by omega)
  have hpk := Hid.mk (fun w => pk_is neg m0 n hfH.out w)
  clear hum hfH e4 hr4
  obtain ⟨X, hX⟩ : ∃ X, sgb neg ||| m0 = X := ⟨_, rfl⟩
  rw [hX] at hsg hpk
  generalize hS : sgb neg = S at *
  obtain ⟨V, hV⟩ : ∃ V, U % 2 = V := ⟨_, rfl⟩
  rw [hV] at hand
  have hV1 : V ≤ 1 := by omega
  rcases hcH.out with ⟨g1, g2, g3⟩ | ⟨g1, g2, g3⟩
  · have hlt : (36028797018963966 ≤ (U : Int)) = False := eq_false (by omega)
    have hor : bits .or .u64 (U : Int) (V : Int) = (U : Int) := by
      have := bits_or_u64_nat U V (by omega) (by omega)
      rw [← hV, Us.or_mod2] at this
      rwa [hV] at this
    have hrd := Hid.mk (hff U g3 hUlt)
    have hee : -e0 = (n : Int) - 1074 := by have := heH.out; omega
    clear hff g3 g2 hcH heH g1 hV hUlt
    go_wp2_with (first | (go_at_call 66; refine humH.out.mono ?_; rintro e w' ⟨rfl, rfl⟩) | (go_at_call 65; refine (b2i_any _ _).mono ?_; rintro e w' ⟨rfl, rfl⟩) | (go_at_call 63; refine (hrd.out _).mono ?_; rintro e w' ⟨rfl, rfl⟩) | (go_at_call 99; refine (hpk.out _).mono ?_; rintro e w' ⟨rfl, rfl⟩))
    go_ret2
    exact ⟨rfl, hB3.out⟩
  · have hlt : (36028797018963966 ≤ (U : Int)) = True := eq_true (by omega)
    obtain ⟨Hf, hHf⟩ : ∃ Hf, U / 2 = Hf := ⟨_, rfl⟩
    have hdv : (U : Int) / 2 = (Hf : Int) := by omega
    obtain ⟨Z, hZ⟩ : ∃ Z, Hf ||| V = Z := ⟨_, rfl⟩
    have hor : bits .or .u64 (Hf : Int) (V : Int) = (Z : Int) := by
      rw [← hZ]; exact bits_or_u64_nat Hf V (by omega) (by omega)
    have hZ1 : Z ≤ 576460752303423488 := by
      have : Hf ||| V ≤ Hf + 1 := by
        rcases (show V = 0 ∨ V = 1 by omega) with h | h
        · rw [h, Nat.or_zero]; omega
        · rw [h]; exact Us.or_one_le _
      omega
    rw [hV, hHf, hZ] at g3
    have hrd := Hid.mk (hff Z g3 hZ1)
    have hee : -(e0 - 1) = (n : Int) - 1074 := by have := heH.out; omega
    clear hff g3 g2 hcH heH g1 hV hUlt hZ hZ1 hHf
    go_wp2_with (first | (go_at_call 66; refine humH.out.mono ?_; rintro e w' ⟨rfl, rfl⟩) | (go_at_call 65; refine (b2i_any _ _).mono ?_; rintro e w' ⟨rfl, rfl⟩) | (go_at_call 63; refine (hrd.out _).mono ?_; rintro e w' ⟨rfl, rfl⟩) | (go_at_call 99; refine (hpk.out _).mono ?_; rintro e w' ⟨rfl, rfl⟩))
    go_ret2
    exact ⟨rfl, hB3.out⟩
end Go.Proofs.YthhmimlfiaboeaaGreatDoor
