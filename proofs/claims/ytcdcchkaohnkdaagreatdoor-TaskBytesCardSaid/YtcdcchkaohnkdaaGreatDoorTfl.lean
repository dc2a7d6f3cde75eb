/- The order of floats that are numbers is the order of certain whole numbers; what the program calls infinite. -/
import Derived.Test.YtcdcchkaohnkdaaGreatDoorMrk
namespace Go.Proofs.YtcdcchkaohnkdaaGreatDoor
open Go.RowKit

/-- A rung's height, counted in least steps. -/
def rungV (r : Nat) : Nat := if r / 4503599627370496 = 0 then r % 4503599627370496 else (4503599627370496 + r % 4503599627370496) * 2 ^ (r / 4503599627370496 - 1)

theorem rungV_step (r : Nat) : rungV r < rungV (r + 1) := by
  unfold rungV
  have hd := Nat.div_add_mod r 4503599627370496
  have hm := Nat.mod_lt r (y := 4503599627370496) (by omega)
  generalize r / 4503599627370496 = q at *
  generalize r % 4503599627370496 = f at *
  subst hd
  by_cases h : f + 1 < 4503599627370496
  · have e1 : (4503599627370496 * q + f + 1) / 4503599627370496 = q := by omega
    have e2 : (4503599627370496 * q + f + 1) % 4503599627370496 = f + 1 := by omega
    rw [e1, e2]
    split
    · omega
    · exact Nat.mul_lt_mul_of_pos_right (by omega) (Nat.pow_pos (by omega))
  · have e1 : (4503599627370496 * q + f + 1) / 4503599627370496 = q + 1 := by omega
    have e2 : (4503599627370496 * q + f + 1) % 4503599627370496 = 0 := by omega
    rw [e1, e2, if_neg (by omega : ¬ q + 1 = 0)]
    split
    · rename_i h0; subst h0; simp; omega
    · rename_i h0
      obtain ⟨p, rfl⟩ : ∃ p, q = p + 1 := ⟨q - 1, by omega⟩
      simp only [Nat.add_sub_cancel]
      have hp : 0 < 2 ^ p := Nat.pow_pos (by omega)
      calc (4503599627370496 + f) * 2 ^ p < 9007199254740992 * 2 ^ p := Nat.mul_lt_mul_of_pos_right (by omega) hp
        _ = (4503599627370496 + 0) * 2 ^ (p + 1) := by rw [Nat.pow_succ]; omega

theorem rungV_mono {a b : Nat} (h : a < b) : rungV a < rungV b := by
  induction b with
  | zero => omega
  | succ b ih =>
    rcases Nat.lt_or_ge a b with h' | h'
    · exact Nat.lt_trans (ih h') (rungV_step b)
    · obtain rfl : a = b := by omega
      exact rungV_step a

/-- A word's place in the order. -/
def keyN (n : Nat) : Int := if n / 9223372036854775808 % 2 = 1 then -((n % 9223372036854775808 : Nat) : Int) else ((n % 9223372036854775808 : Nat) : Int)
def valN (n : Nat) : Int := if n / 9223372036854775808 % 2 = 1 then -((rungV (n % 9223372036854775808) : Nat) : Int) else ((rungV (n % 9223372036854775808) : Nat) : Int)

theorem rungV_zero : rungV 0 = 0 := rfl

theorem rungV_le {a b : Nat} : rungV a ≤ rungV b ↔ a ≤ b := by
  constructor
  · intro h
    rcases Nat.lt_or_ge b a with h' | h'
    · have := rungV_mono h'; omega
    · exact h'
  · intro h
    rcases Nat.lt_or_ge a b with h' | h'
    · exact Nat.le_of_lt (rungV_mono h')
    · obtain rfl : a = b := by omega
      exact Nat.le_refl _

theorem val_lt_key (x y : Nat) : valN x < valN y ↔ keyN x < keyN y := by
  unfold valN keyN
  generalize x % 9223372036854775808 = a
  generalize y % 9223372036854775808 = b
  have h1 := @rungV_le a b
  have h2 := @rungV_le b a
  have h3 := @rungV_le a 0
  have h4 := @rungV_le b 0
  rw [rungV_zero] at h3 h4
  split <;> split <;> omega

theorem cmp_iff {a b c d : Int} (h : a < b ↔ c < d) (h' : b < a ↔ d < c) : compare a b = compare c d := by
  show compareOfLessAndEq a b = compareOfLessAndEq c d
  unfold compareOfLessAndEq
  by_cases h1 : a < b
  · rw [if_pos h1, if_pos (h.1 h1)]
  · rw [if_neg h1, if_neg (fun k => h1 (h.2 k))]
    by_cases h2 : a = b
    · rw [if_pos h2, if_pos (by omega)]
    · rw [if_neg h2, if_neg (by omega)]

theorem read_is {n : Nat} (h : nanN n = false) : (n % 9223372036854775808 = 9218868437227405312 ∧ fmt.read n = .infinity (n / 9223372036854775808 % 2 == 1)) ∨
    (n % 9223372036854775808 < 9218868437227405312 ∧ ∃ m p, fmt.read n = .number (n / 9223372036854775808 % 2 == 1) m p ∧ fmt.leastPlace ≤ p ∧ m * 2 ^ (p - fmt.leastPlace).toNat = rungV (n % 9223372036854775808)) := by
  have hn : n % 9223372036854775808 ≤ 9218868437227405312 := by
    unfold nanN at h; simpa using h
  unfold Ieee.Format.read
  simp only [sw, bin, inf]
  generalize n % 9223372036854775808 = r at *
  by_cases h1 : r < 4503599627370496
  · rw [if_pos h1]
    refine .inr ⟨by omega, _, _, rfl, Int.le_refl _, ?_⟩
    unfold rungV
    rw [if_pos (by omega)]
    simp; omega
  · rw [if_neg h1]
    by_cases h2 : r < 9218868437227405312
    · rw [if_pos h2]
      refine .inr ⟨h2, _, _, rfl, by omega, ?_⟩
      unfold rungV
      rw [if_neg (by omega)]
      have : (fmt.leastPlace + ((r / 4503599627370496 - 1 : Nat) : Int) - fmt.leastPlace).toNat = r / 4503599627370496 - 1 := by omega
      rw [this]
    · rw [if_neg h2]
      have h3 : r = 9218868437227405312 := by omega
      rw [if_pos h3]
      exact .inl ⟨h3, rfl⟩

theorem signed_scale (s : Bool) (m k d : Nat) : Ieee.signed s m (k + d) = Ieee.signed s m k * ((2 ^ d : Nat) : Int) := by
  unfold Ieee.signed
  have : m <<< (k + d) = m <<< k * 2 ^ d := by rw [Nat.shiftLeft_eq, Nat.shiftLeft_eq, Nat.pow_add, Nat.mul_assoc]
  rw [this]
  cases s
  · simp
  · simp [Int.neg_mul]

theorem order_key {x y : Nat} (hx : nanN x = false) (hy : nanN y = false) : FloatKind.f64.format.order x y = some (compare (keyN x) (keyN y)) := by
  show (fmt.read x).order (fmt.read y) = _
  rw [← cmp_iff (val_lt_key x y) (val_lt_key y x)]
  rcases read_is hx with ⟨ex, rx⟩ | ⟨lx, m, i, rx, li, vx⟩ <;> rcases read_is hy with ⟨ey, ry⟩ | ⟨ly, n, j, ry, lj, vy⟩
  · rw [rx, ry]
    unfold valN
    rw [ex, ey]
    have : 0 < rungV 9218868437227405312 := by have := @rungV_mono 0 9218868437227405312 (by omega); omega
    generalize rungV 9218868437227405312 = v at *
    by_cases h1 : x / 9223372036854775808 % 2 = 1 <;> by_cases h2 : y / 9223372036854775808 % 2 = 1
    · simp only [h1, h2, Ieee.Datum.order]; simp [compare, compareOfLessAndEq]
    · simp only [h1, h2, Ieee.Datum.order, if_true, if_false]
      rw [show ((y / 9223372036854775808 % 2 == 1) = false) by simpa using h2]
      simp [compare, compareOfLessAndEq]; omega
    · simp only [h1, h2, Ieee.Datum.order, if_true, if_false]
      rw [show ((x / 9223372036854775808 % 2 == 1) = false) by simpa using h1]
      simp [compare, compareOfLessAndEq]; rw [if_neg (by omega), if_neg (by omega)]
    · simp only [h1, h2, Ieee.Datum.order, if_false]
      rw [show ((x / 9223372036854775808 % 2 == 1) = false) by simpa using h1, show ((y / 9223372036854775808 % 2 == 1) = false) by simpa using h2]
      simp [compare, compareOfLessAndEq]
  · rw [rx, ry]
    unfold valN
    rw [ex]
    have := rungV_mono ly
    generalize rungV 9218868437227405312 = v at *
    generalize rungV (y % 9223372036854775808) = u at *
    simp only [Ieee.Datum.order]
    show some _ = some (compareOfLessAndEq _ _)
    unfold compareOfLessAndEq
    congr 1
    by_cases h1 : x / 9223372036854775808 % 2 = 1
    · rw [if_pos (by simpa using h1), if_pos h1, if_pos (by split <;> omega)]
    · rw [if_neg (by simpa using h1), if_neg h1, if_neg (by split <;> omega), if_neg (by split <;> omega)]
  · rw [rx, ry]
    unfold valN
    rw [ey]
    have := rungV_mono lx
    generalize rungV 9218868437227405312 = v at *
    generalize rungV (x % 9223372036854775808) = u at *
    simp only [Ieee.Datum.order]
    show some _ = some (compareOfLessAndEq _ _)
    unfold compareOfLessAndEq
    congr 1
    by_cases h1 : y / 9223372036854775808 % 2 = 1
    · rw [if_pos (by simpa using h1), if_pos h1, if_neg (by split <;> omega), if_neg (by split <;> omega)]
    · rw [if_neg (by simpa using h1), if_neg h1, if_pos (by split <;> omega)]
  · rw [rx, ry]
    have sx : valN x = Ieee.signed (x / 9223372036854775808 % 2 == 1) m (i - fmt.leastPlace).toNat := by
      unfold valN Ieee.signed
      rw [Nat.shiftLeft_eq, vx]
      by_cases h : x / 9223372036854775808 % 2 = 1 <;> simp [h]
    have sy : valN y = Ieee.signed (y / 9223372036854775808 % 2 == 1) n (j - fmt.leastPlace).toNat := by
      unfold valN Ieee.signed
      rw [Nat.shiftLeft_eq, vy]
      by_cases h : y / 9223372036854775808 % 2 = 1 <;> simp [h]
    rw [sx, sy]
    simp only [Ieee.Datum.order]
    generalize fmt.leastPlace = b at *
    obtain ⟨d, hd⟩ : ∃ d : Nat, min i j = b + d := ⟨(min i j - b).toNat, by omega⟩
    have e1 : (i - b).toNat = (i - min i j).toNat + d := by omega
    have e2 : (j - b).toNat = (j - min i j).toNat + d := by omega
    rw [e1, e2, signed_scale, signed_scale]
    congr 1
    have hp : (0 : Int) < ((2 ^ d : Nat) : Int) := by have : 0 < 2 ^ d := Nat.pow_pos (by omega); omega
    exact cmp_iff (Int.mul_lt_mul_right hp).symm (Int.mul_lt_mul_right hp).symm

theorem order_nan {x y : Nat} (h : nanN x = true ∨ nanN y = true) : FloatKind.f64.format.order x y = none := by
  show (fmt.read x).order (fmt.read y) = none
  rcases h with h | h
  · rcases read_cases x with ⟨_, s, t, hr⟩ | ⟨h', _⟩
    · rw [hr]; rfl
    · rw [h] at h'; cases h'
  · rcases read_cases y with ⟨_, s, t, hr⟩ | ⟨h', _⟩
    · rw [hr]; cases fmt.read x <;> rfl
    · rw [h] at h'; cases h'

theorem order_lt (x y : Nat) : (FloatKind.f64.format.order x y == some Ordering.lt) = (!nanN x && !nanN y && decide (keyN x < keyN y)) := by
  cases hx : nanN x
  · cases hy : nanN y
    · rw [order_key hx hy]
      by_cases h : keyN x < keyN y <;> simp [compare, compareOfLessAndEq, h]
      split <;> simp
    · rw [order_nan (.inr hy)]; rfl
  · rw [order_nan (.inl hx)]; rfl

theorem order_gt (x y : Nat) : (FloatKind.f64.format.order x y == some Ordering.gt) = (!nanN x && !nanN y && decide (keyN y < keyN x)) := by
  cases hx : nanN x
  · cases hy : nanN y
    · rw [order_key hx hy]
      by_cases h : keyN y < keyN x
      · simp [compare, compareOfLessAndEq, h, show ¬ keyN x < keyN y by omega, show ¬ keyN x = keyN y by omega]
      · by_cases h2 : keyN x < keyN y
        · simp [compare, compareOfLessAndEq, h, h2]
        · simp [compare, compareOfLessAndEq, show keyN x = keyN y by omega]
    · rw [order_nan (.inr hy)]; rfl
  · rw [order_nan (.inl hx)]; rfl

theorem order_eq (x y : Nat) : (FloatKind.f64.format.order x y == some Ordering.eq) = (!nanN x && !nanN y && decide (keyN x = keyN y)) := by
  cases hx : nanN x
  · cases hy : nanN y
    · rw [order_key hx hy]
      by_cases h : keyN x = keyN y
      · simp [compare, compareOfLessAndEq, h]
      · by_cases h2 : keyN x < keyN y <;> simp [compare, compareOfLessAndEq, h, h2]
    · rw [order_nan (.inr hy)]; rfl
  · rw [order_nan (.inl hx)]; rfl

/- What '+', '*', '/' of floats give, where all NaNs count as one. -/
open Go.RowKit



def bigN (f : Nat) : Bool := FloatKind.f64.format.order f 9218868437227405311 == some Ordering.gt
def badN (f : Nat) : Bool := nanN f || (FloatKind.f64.format.order f 0 == some Ordering.lt) || bigN f

set_option maxRecDepth 100000 in
theorem isinf_any (f : Nat) (w : World) : Calls Tryz.prog 37 #[.float .f64 f, .int .i64 1] w fun e w' => e = .returned (.bool (bigN f)) ∧ w = w' := by
  have hb : Hid (bigN f = (FloatKind.f64.format.order f 9218868437227405311 == some Ordering.gt)) := rfl
  go_enter Tryz.func37, Tryz.ntmps37
  go_wp2_with fail
  all_goals go_ret
  all_goals exact ⟨by rw [hb.out]; simp_all, rfl⟩


/-- Which weights a task may have. -/
theorem wt_good {n : Nat} (hn : n < 18446744073709551616) : decide (n < 9218868437227405312) = (((FloatKind.f64.format.order n 0 == some Ordering.gt) || (FloatKind.f64.format.order n 0 == some Ordering.eq)) && (!bigN n && decide (canN n = n))) := by
  have hz : nanN 0 = false := by decide
  have hm : nanN 9218868437227405311 = false := by decide
  have kz : keyN 0 = 0 := by decide
  have km : keyN 9218868437227405311 = 9218868437227405311 := by decide
  unfold bigN
  rw [order_gt, order_eq, order_gt, hz, hm, kz, km]
  cases hN : nanN n with
  | true =>
    simp only [Bool.not_true, Bool.false_and, Bool.or_self, decide_eq_false_iff_not]
    unfold nanN at hN
    rw [decide_eq_true_eq] at hN
    omega
  | false =>
    have hc : canN n = if n % 9223372036854775808 = 0 then 0 else n := by unfold canN; rw [hN]; rfl
    rw [hc]
    unfold nanN at hN
    rw [decide_eq_false_iff_not] at hN
    simp only [Bool.not_false, Bool.true_and]
    rw [Bool.eq_iff_iff]
    simp only [Bool.and_eq_true, Bool.or_eq_true, decide_eq_true_eq, Bool.not_eq_true', decide_eq_false_iff_not]
    unfold keyN
    split <;> split <;> omega
#print axioms wt_good
end Go.Proofs.YtcdcchkaohnkdaaGreatDoor
