/- Plain facts on the words of floats, and on the eight bytes of a number. No program in sight. The order of floats that are numbers is the order of certain whole numbers: a total order. -/
import Derived.Laws.Bits64b
import Derived.Laws.Wrap64
import GoSem.Core.Float
import Derived.WalkKit
namespace Go.Proofs.YthhmimlfiaboeaaGreatDoor

/-! ## Eight bytes -/
def beN (l : List UInt8) : Nat := l.foldl (fun a b => 256 * a + b.toNat) 0

theorem foldl_be (l : List UInt8) : ∀ (a : Nat), l.foldl (fun a b => 256 * a + b.toNat) a = a * 256 ^ l.length + beN l := by
  induction l with
  | nil => intro a; simp [beN]
  | cons b l ih =>
    intro a
    have h1 := ih (256 * a + b.toNat)
    have h2 := ih b.toNat
    have h3 : beN (b :: l) = b.toNat * 256 ^ l.length + beN l := by
      show l.foldl _ (256 * 0 + b.toNat) = _
      rw [Nat.mul_zero, Nat.zero_add]; exact h2
    rw [List.foldl_cons, h1, h3, List.length_cons, Nat.pow_succ, Nat.add_mul, ← Nat.add_assoc]
    congr 2
    rw [Nat.mul_comm 256 a, Nat.mul_assoc, Nat.mul_comm 256]

theorem beN_cons (b : UInt8) (l : List UInt8) : beN (b :: l) = b.toNat * 256 ^ l.length + beN l := by
  show l.foldl _ (256 * 0 + b.toNat) = _
  rw [Nat.mul_zero, Nat.zero_add]; exact foldl_be l _

theorem beN_snoc (l : List UInt8) (b : UInt8) : beN (l ++ [b]) = 256 * beN l + b.toNat := by simp [beN]

theorem beN_lt : ∀ (l : List UInt8), beN l < 256 ^ l.length
  | [] => by simp [beN]
  | b :: l => by
    rw [beN_cons, List.length_cons, Nat.pow_succ]
    have h1 := beN_lt l
    have h2 := b.toNat_lt
    have h3 : (b.toNat + 1) * 256 ^ l.length ≤ 256 * 256 ^ l.length := Nat.mul_le_mul_right _ (by omega)
    rw [Nat.add_mul] at h3
    rw [Nat.mul_comm _ 256]
    omega

theorem beN_inj : ∀ (l m : List UInt8), l.length = m.length → beN l = beN m → l = m
  | [], [], _, _ => rfl
  | b :: l, c :: m, hl, h => by
    simp only [List.length_cons, Nat.add_right_cancel_iff] at hl
    rw [beN_cons, beN_cons, hl] at h
    have h1 := beN_lt l
    have h2 := beN_lt m
    rw [hl] at h1
    have hp : 0 < 256 ^ m.length := Nat.pow_pos (by omega)
    have e1 : b.toNat = c.toNat := by
      have k1 : (b.toNat * 256 ^ m.length + beN l) / 256 ^ m.length = b.toNat := by rw [Nat.mul_comm, Nat.mul_add_div hp, Nat.div_eq_of_lt h1]; omega
      have k2 : (c.toNat * 256 ^ m.length + beN m) / 256 ^ m.length = c.toNat := by rw [Nat.mul_comm, Nat.mul_add_div hp, Nat.div_eq_of_lt h2]; omega
      rw [← k1, ← k2, h]
    have e2 : beN l = beN m := by rw [e1] at h; omega
    rw [UInt8.toNat_inj.1 e1, beN_inj l m hl e2]
  | [], _ :: _, hl, _ => by simp at hl
  | _ :: _, [], hl, _ => by simp at hl

/-- The low k bytes of a number, the highest one first. -/
def beL : Nat → Nat → List UInt8
  | 0, _ => []
  | k + 1, n => UInt8.ofNat (n / 256 ^ k) :: beL k n

theorem beL_length : ∀ k n, (beL k n).length = k
  | 0, _ => rfl
  | k + 1, n => by simp [beL, beL_length k n]

theorem beN_beL : ∀ k n, beN (beL k n) = n % 256 ^ k
  | 0, n => by simp [beL, beN, Nat.mod_one]
  | k + 1, n => by
    rw [beL, beN_cons, beL_length, beN_beL k n, Nat.pow_succ, Nat.mod_mul]
    have h : (UInt8.ofNat (n / 256 ^ k)).toNat = n / 256 ^ k % 256 := by simp
    rw [h, Nat.mul_comm, Nat.add_comm]

theorem beL_eq_iff {n : Nat} {l : List UInt8} (hn : n < 18446744073709551616) (hl : l.length = 8) : beL 8 n = l ↔ n = beN l := by
  constructor
  · intro h
    have := beN_beL 8 n
    rw [h, Nat.mod_eq_of_lt (by simpa using hn)] at this
    exact this.symm
  · intro h
    refine beN_inj _ _ (by rw [beL_length, hl]) ?_
    rw [beN_beL, Nat.mod_eq_of_lt (by simpa using hn), h]

theorem beN_lt8 {l : List UInt8} (hl : l.length ≤ 8) : beN l < 18446744073709551616 := by
  have h1 := beN_lt l
  have h2 : (256 : Nat) ^ l.length ≤ 256 ^ 8 := Nat.pow_le_pow_right (by omega) hl
  have h3 : (256 : Nat) ^ 8 = 18446744073709551616 := by decide
  omega

/-- One round of reading. -/
theorem shl_or {a b : Nat} (ha : a < 72057594037927936) (hb : b < 256) : bits .or .u64 (IntKind.u64.wrap ((a : Int) * 256)) (IntKind.u64.wrap (b : Int)) = ((256 * a + b : Nat) : Int) := by
  have h1 : IntKind.u64.wrap ((a : Int) * 256) = ((a * 256 : Nat) : Int) := by simp [IntKind.wrap, IntKind.bits, IntKind.signed]; omega
  have h2 : IntKind.u64.wrap (b : Int) = (b : Int) := by simp [IntKind.wrap, IntKind.bits, IntKind.signed]; omega
  have h4 : a * 256 ||| b = 256 * a + b := by
    have h3 : a * 256 = a <<< 8 := by rw [Nat.shiftLeft_eq]
    have h5 : a <<< 8 + b = a <<< 8 ||| b := Nat.shiftLeft_add_eq_or_of_lt (by omega : b < 2 ^ 8) a
    rw [h3, ← h5, ← h3, Nat.mul_comm]
  rw [h1, h2, bits_or_u64_nat _ _ (by omega) (by omega), h4]

/-! ## Words of floats -/
/-- No number? -/
def nanN (n : Nat) : Bool := decide (9218868437227405312 < n % 9223372036854775808)

/-- The word as which a word counts. -/
def canN (n : Nat) : Nat := if nanN n = true then 9221120237041090561 else if n % 9223372036854775808 = 0 then 0 else n

def fmt : Ieee.Format := FloatKind.f64.format

theorem sw : fmt.signWeight = 9223372036854775808 := by decide
theorem bin : fmt.binade = 4503599627370496 := by decide
theorem inf : fmt.infRung = 9218868437227405312 := by decide

theorem read_cases (n : Nat) : (nanN n = true ∧ ∃ s t, fmt.read n = .nan s t) ∨ (nanN n = false ∧ ((∃ s, fmt.read n = .infinity s) ∨
    (n % 9223372036854775808 = 0 ∧ ∃ s, fmt.read n = .number s 0 fmt.leastPlace) ∨ (n % 9223372036854775808 ≠ 0 ∧ ∃ s m p, fmt.read n = .number s (m + 1) p ∧ fmt.leastPlace ≤ p))) := by
  unfold Ieee.Format.read nanN
  simp only [sw, bin, inf]
  generalize n % 9223372036854775808 = r
  by_cases h1 : r < 4503599627370496
  · right
    refine ⟨by simp; omega, .inr ?_⟩
    rw [if_pos h1]
    by_cases h0 : r = 0
    · subst h0; exact .inl ⟨rfl, _, rfl⟩
    · refine .inr ⟨h0, n / 9223372036854775808 % 2 == 1, r - 1, fmt.leastPlace, ?_, Int.le_refl _⟩
      rw [show r - 1 + 1 = r by omega]
  · rw [if_neg h1]
    by_cases h2 : r < 9218868437227405312
    · right
      rw [if_pos h2]
      refine ⟨by simp; omega, .inr (.inr ⟨by omega, n / 9223372036854775808 % 2 == 1, 4503599627370496 + r % 4503599627370496 - 1, fmt.leastPlace + (r / 4503599627370496 - 1 : Nat), ?_, by omega⟩)⟩
      rw [show 4503599627370496 + r % 4503599627370496 - 1 + 1 = 4503599627370496 + r % 4503599627370496 by omega]
    · rw [if_neg h2]
      by_cases h3 : r = 9218868437227405312
      · right
        rw [if_pos h3]
        exact ⟨by simp; omega, .inl ⟨_, rfl⟩⟩
      · left
        rw [if_neg h3]
        exact ⟨by simp; omega, _, _, rfl⟩

theorem order_self (n : Nat) : (FloatKind.f64.format.order n n != some Ordering.eq) = nanN n := by
  show (((fmt.read n).order (fmt.read n)) != some Ordering.eq) = nanN n
  rcases read_cases n with ⟨h, s, t, hr⟩ | ⟨h, ⟨s, hr⟩ | ⟨_, s, hr⟩ | ⟨_, s, m, p, hr, _⟩⟩
  · rw [hr, h]; rfl
  · rw [hr, h]; cases s <;> rfl
  · rw [hr, h]
    simp [Ieee.Datum.order, compare, compareOfLessAndEq]
  · rw [hr, h]
    simp [Ieee.Datum.order, compare, compareOfLessAndEq]


theorem read_zero : fmt.read 0 = .number false 0 fmt.leastPlace := by decide

theorem order_zero {n : Nat} (h : nanN n = false) : (FloatKind.f64.format.order n 0 == some Ordering.eq) = decide (n % 9223372036854775808 = 0) := by
  show (((fmt.read n).order (fmt.read 0)) == some Ordering.eq) = _
  rw [read_zero]
  rcases read_cases n with ⟨h', _⟩ | ⟨_, ⟨s, hr⟩ | ⟨h0, s, hr⟩ | ⟨h0, s, m, p, hr, hp⟩⟩
  · rw [h] at h'; cases h'
  · have h0 : n % 9223372036854775808 ≠ 0 := by
      intro h0
      unfold Ieee.Format.read at hr
      simp only [sw, bin, h0] at hr
      rw [if_pos (by omega)] at hr
      cases hr
    rw [hr]
    cases s <;> simp [Ieee.Datum.order, h0]
  · rw [hr]
    cases s <;> simp [Ieee.Datum.order, Ieee.signed, h0, compare, compareOfLessAndEq]
  · rw [hr]
    have e : (fmt.leastPlace - min p fmt.leastPlace).toNat = 0 := by omega
    have hpos : 0 < (m + 1) <<< (p - min p fmt.leastPlace).toNat := by
      rw [Nat.shiftLeft_eq]; exact Nat.mul_pos (by omega) (Nat.pow_pos (by omega))
    generalize hq : (m + 1) <<< (p - min p fmt.leastPlace).toNat = q at hpos
    cases s
    · have hc : compare (q : Int) ((0 : Nat) : Int) = Ordering.gt := by
        show compareOfLessAndEq _ _ = _
        unfold compareOfLessAndEq
        rw [if_neg (by omega), if_neg (by omega)]
      simp only [Ieee.Datum.order, Ieee.signed, hq, Bool.false_eq_true, if_false, Nat.zero_shiftLeft, hc]
      simp [h0]
    · have hc : compare (-(q : Int)) ((0 : Nat) : Int) = Ordering.lt := by
        show compareOfLessAndEq _ _ = _
        unfold compareOfLessAndEq
        rw [if_pos (by omega)]
      simp only [Ieee.Datum.order, Ieee.signed, hq, if_true, Bool.false_eq_true, if_false, Nat.zero_shiftLeft, hc]
      simp [h0]

/-- The exponent's bits all set, and one of the fraction's. -/
theorem and_high {n : Nat} : n &&& 9218868437227405312 = (n / 4503599627370496 % 2048) * 4503599627370496 := by
  have e1 : (9218868437227405312 : Nat) = 2047 <<< 52 := by decide
  have e2 : n &&& (2047 <<< 52) = ((n >>> 52) &&& 2047) <<< 52 := by
    apply Nat.eq_of_testBit_eq
    intro i
    simp only [Nat.testBit_and, Nat.testBit_shiftLeft, Nat.testBit_shiftRight]
    by_cases hi : 52 ≤ i
    · simp [hi, show 52 + (i - 52) = i by omega]
    · simp [hi]
  have e3 : (n >>> 52) &&& 2047 = (n >>> 52) % 2048 := Nat.and_two_pow_sub_one_eq_mod (n >>> 52) 11
  rw [e1, e2, e3, Nat.shiftRight_eq_div_pow, Nat.shiftLeft_eq]

theorem and_low {n : Nat} : n &&& 4503599627370495 = n % 4503599627370496 := Nat.and_two_pow_sub_one_eq_mod n 52

theorem nan_bits {n : Nat} (hn : n < 18446744073709551616) :
    (decide (bits .and .u64 (n : Int) 9218868437227405312 = 9218868437227405312) && (bits .and .u64 (n : Int) 4503599627370495 != 0)) = nanN n := by
  have h1 : bits .and .u64 (n : Int) 9218868437227405312 = ((n &&& 9218868437227405312 : Nat) : Int) := bits_and_u64_nat n 9218868437227405312 hn (by omega)
  have h2 : bits .and .u64 (n : Int) 4503599627370495 = ((n &&& 4503599627370495 : Nat) : Int) := bits_and_u64_nat n 4503599627370495 hn (by omega)
  rw [h1, h2, and_high, and_low]
  unfold nanN
  rw [Bool.eq_iff_iff]
  simp only [Bool.and_eq_true, decide_eq_true_eq, bne_iff_ne, ne_eq]
  omega

/-- As the reference has it. -/
theorem canN_ref {n : Nat} (hn : n < 18446744073709551616) : canN n = if nanN n = true then 9221120237041090561 else if n = 9223372036854775808 then 0 else n := by
  unfold canN
  split
  · rfl
  · by_cases h0 : n % 9223372036854775808 = 0
    · rw [if_pos h0]
      split <;> omega
    · rw [if_neg h0, if_neg (by omega)]

theorem canN_lt {n : Nat} (hn : n < 18446744073709551616) : canN n < 18446744073709551616 := by
  unfold canN; split
  · omega
  · split <;> omega

end Go.Proofs.YthhmimlfiaboeaaGreatDoor

namespace Go.Proofs.YthhmimlfiaboeaaGreatDoor

/-- A rung's height, counted in least steps. -/
def rungV (r : Nat) : Nat := if r / 4503599627370496 = 0 then r % 4503599627370496 else (4503599627370496 + r % 4503599627370496) * 2 ^ (r / 4503599627370496 - 1)

theorem rungV_step (r : Nat) : rungV r < rungV (r + 1) := by
  unfold rungV
  have hd := Nat.div_add_mod r 4503599627370496
  have hm := Nat.mod_lt r (y := 4503599627370496) (by omega)
  generalize r / 4503599627370496 = q at *
  generalize r % 4503599627370496 = f at *
  subst hd
  by_cases h : f + 1 < 4503599627370496
  · have e1 : (4503599627370496 * q + f + 1) / 4503599627370496 = q := by omega
    have e2 : (4503599627370496 * q + f + 1) % 4503599627370496 = f + 1 := by omega
    rw [e1, e2]
    split
    · omega
    · exact Nat.mul_lt_mul_of_pos_right (by omega) (Nat.pow_pos (by omega))
  · have e1 : (4503599627370496 * q + f + 1) / 4503599627370496 = q + 1 := by omega
    have e2 : (4503599627370496 * q + f + 1) % 4503599627370496 = 0 := by omega
    rw [e1, e2, if_neg (by omega : ¬ q + 1 = 0)]
    split
    · rename_i h0; subst h0; simp; omega
    · rename_i h0
      obtain ⟨p, rfl⟩ : ∃ p, q = p + 1 := ⟨q - 1, by omega⟩
      simp only [Nat.add_sub_cancel]
      have hp : 0 < 2 ^ p := Nat.pow_pos (by omega)
      calc (4503599627370496 + f) * 2 ^ p < 9007199254740992 * 2 ^ p := Nat.mul_lt_mul_of_pos_right (by omega) hp
        _ = (4503599627370496 + 0) * 2 ^ (p + 1) := by rw [Nat.pow_succ]; omega

theorem rungV_mono {a b : Nat} (h : a < b) : rungV a < rungV b := by
  induction b with
  | zero => omega
  | succ b ih =>
    rcases Nat.lt_or_ge a b with h' | h'
    · exact Nat.lt_trans (ih h') (rungV_step b)
    · obtain rfl : a = b := by omega
      exact rungV_step a

/-- A word's place in the order. -/
def keyN (n : Nat) : Int := if n / 9223372036854775808 % 2 = 1 then -((n % 9223372036854775808 : Nat) : Int) else ((n % 9223372036854775808 : Nat) : Int)
def valN (n : Nat) : Int := if n / 9223372036854775808 % 2 = 1 then -((rungV (n % 9223372036854775808) : Nat) : Int) else ((rungV (n % 9223372036854775808) : Nat) : Int)

theorem rungV_zero : rungV 0 = 0 := rfl

theorem rungV_le {a b : Nat} : rungV a ≤ rungV b ↔ a ≤ b := by
  constructor
  · intro h
    rcases Nat.lt_or_ge b a with h' | h'
    · have := rungV_mono h'; omega
    · exact h'
  · intro h
    rcases Nat.lt_or_ge a b with h' | h'
    · exact Nat.le_of_lt (rungV_mono h')
    · obtain rfl : a = b := by omega
      exact Nat.le_refl _

theorem val_lt_key (x y : Nat) : valN x < valN y ↔ keyN x < keyN y := by
  unfold valN keyN
  generalize x % 9223372036854775808 = a
  generalize y % 9223372036854775808 = b
  have h1 := @rungV_le a b
  have h2 := @rungV_le b a
  have h3 := @rungV_le a 0
  have h4 := @rungV_le b 0
  rw [rungV_zero] at h3 h4
  split <;> split <;> omega

theorem cmp_iff {a b c d : Int} (h : a < b ↔ c < d) (h' : b < a ↔ d < c) : compare a b = compare c d := by
  show compareOfLessAndEq a b = compareOfLessAndEq c d
  unfold compareOfLessAndEq
  by_cases h1 : a < b
  · rw [if_pos h1, if_pos (h.1 h1)]
  · rw [if_neg h1, if_neg (fun k => h1 (h.2 k))]
    by_cases h2 : a = b
    · rw [if_pos h2, if_pos (by omega)]
    · rw [if_neg h2, if_neg (by omega)]

theorem read_is {n : Nat} (h : nanN n = false) : (n % 9223372036854775808 = 9218868437227405312 ∧ fmt.read n = .infinity (n / 9223372036854775808 % 2 == 1)) ∨
    (n % 9223372036854775808 < 9218868437227405312 ∧ ∃ m p, fmt.read n = .number (n / 9223372036854775808 % 2 == 1) m p ∧ fmt.leastPlace ≤ p ∧ m * 2 ^ (p - fmt.leastPlace).toNat = rungV (n % 9223372036854775808)) := by
  have hn : n % 9223372036854775808 ≤ 9218868437227405312 := by
    unfold nanN at h; simpa using h
  unfold Ieee.Format.read
  simp only [sw, bin, inf]
  generalize n % 9223372036854775808 = r at *
  by_cases h1 : r < 4503599627370496
  · rw [if_pos h1]
    refine .inr ⟨by omega, _, _, rfl, Int.le_refl _, ?_⟩
    unfold rungV
    rw [if_pos (by omega)]
    simp; omega
  · rw [if_neg h1]
    by_cases h2 : r < 9218868437227405312
    · rw [if_pos h2]
      refine .inr ⟨h2, _, _, rfl, by omega, ?_⟩
      unfold rungV
      rw [if_neg (by omega)]
      have : (fmt.leastPlace + ((r / 4503599627370496 - 1 : Nat) : Int) - fmt.leastPlace).toNat = r / 4503599627370496 - 1 := by omega
      rw [this]
    · rw [if_neg h2]
      have h3 : r = 9218868437227405312 := by omega
      rw [if_pos h3]
      exact .inl ⟨h3, rfl⟩

theorem signed_scale (s : Bool) (m k d : Nat) : Ieee.signed s m (k + d) = Ieee.signed s m k * ((2 ^ d : Nat) : Int) := by
  unfold Ieee.signed
  have : m <<< (k + d) = m <<< k * 2 ^ d := by rw [Nat.shiftLeft_eq, Nat.shiftLeft_eq, Nat.pow_add, Nat.mul_assoc]
  rw [this]
  cases s
  · simp
  · simp [Int.neg_mul]

theorem order_key {x y : Nat} (hx : nanN x = false) (hy : nanN y = false) : FloatKind.f64.format.order x y = some (compare (keyN x) (keyN y)) := by
  show (fmt.read x).order (fmt.read y) = _
  rw [← cmp_iff (val_lt_key x y) (val_lt_key y x)]
  rcases read_is hx with ⟨ex, rx⟩ | ⟨lx, m, i, rx, li, vx⟩ <;> rcases read_is hy with ⟨ey, ry⟩ | ⟨ly, n, j, ry, lj, vy⟩
  · rw [rx, ry]
    unfold valN
    rw [ex, ey]
    have : 0 < rungV 9218868437227405312 := by have := @rungV_mono 0 9218868437227405312 (by omega); omega
    generalize rungV 9218868437227405312 = v at *
    by_cases h1 : x / 9223372036854775808 % 2 = 1 <;> by_cases h2 : y / 9223372036854775808 % 2 = 1
    · simp only [h1, h2, Ieee.Datum.order]; simp [compare, compareOfLessAndEq]
    · simp only [h1, h2, Ieee.Datum.order, if_true, if_false]
      rw [show ((y / 9223372036854775808 % 2 == 1) = false) by simpa using h2]
      simp [compare, compareOfLessAndEq]; omega
    · simp only [h1, h2, Ieee.Datum.order, if_true, if_false]
      rw [show ((x / 9223372036854775808 % 2 == 1) = false) by simpa using h1]
      simp [compare, compareOfLessAndEq]; rw [if_neg (by omega), if_neg (by omega)]
    · simp only [h1, h2, Ieee.Datum.order, if_false]
      rw [show ((x / 9223372036854775808 % 2 == 1) = false) by simpa using h1, show ((y / 9223372036854775808 % 2 == 1) = false) by simpa using h2]
      simp [compare, compareOfLessAndEq]
  · rw [rx, ry]
    unfold valN
    rw [ex]
    have := rungV_mono ly
    generalize rungV 9218868437227405312 = v at *
    generalize rungV (y % 9223372036854775808) = u at *
    simp only [Ieee.Datum.order]
    show some _ = some (compareOfLessAndEq _ _)
    unfold compareOfLessAndEq
    congr 1
    by_cases h1 : x / 9223372036854775808 % 2 = 1
    · rw [if_pos (by simpa using h1), if_pos h1, if_pos (by split <;> omega)]
    · rw [if_neg (by simpa using h1), if_neg h1, if_neg (by split <;> omega), if_neg (by split <;> omega)]
  · rw [rx, ry]
    unfold valN
    rw [ey]
    have := rungV_mono lx
    generalize rungV 9218868437227405312 = v at *
    generalize rungV (x % 9223372036854775808) = u at *
    simp only [Ieee.Datum.order]
    show some _ = some (compareOfLessAndEq _ _)
    unfold compareOfLessAndEq
    congr 1
    by_cases h1 : y / 9223372036854775808 % 2 = 1
    · rw [if_pos (by simpa using h1), if_pos h1, if_neg (by split <;> omega), if_neg (by split <;> omega)]
    · rw [if_neg (by simpa using h1), if_neg h1, if_pos (by split <;> omega)]
  · rw [rx, ry]
    have sx : valN x = Ieee.signed (x / 9223372036854775808 % 2 == 1) m (i - fmt.leastPlace).toNat := by
      unfold valN Ieee.signed
      rw [Nat.shiftLeft_eq, vx]
      by_cases h : x / 9223372036854775808 % 2 = 1 <;> simp [h]
    have sy : valN y = Ieee.signed (y / 9223372036854775808 % 2 == 1) n (j - fmt.leastPlace).toNat := by
      unfold valN Ieee.signed
      rw [Nat.shiftLeft_eq, vy]
      by_cases h : y / 9223372036854775808 % 2 = 1 <;> simp [h]
    rw [sx, sy]
    simp only [Ieee.Datum.order]
    generalize fmt.leastPlace = b at *
    obtain ⟨d, hd⟩ : ∃ d : Nat, min i j = b + d := ⟨(min i j - b).toNat, by omega⟩
    have e1 : (i - b).toNat = (i - min i j).toNat + d := by omega
    have e2 : (j - b).toNat = (j - min i j).toNat + d := by omega
    rw [e1, e2, signed_scale, signed_scale]
    congr 1
    have hp : (0 : Int) < ((2 ^ d : Nat) : Int) := by have : 0 < 2 ^ d := Nat.pow_pos (by omega); omega
    exact cmp_iff (Int.mul_lt_mul_right hp).symm (Int.mul_lt_mul_right hp).symm

theorem order_nan {x y : Nat} (h : nanN x = true ∨ nanN y = true) : FloatKind.f64.format.order x y = none := by
  show (fmt.read x).order (fmt.read y) = none
  rcases h with h | h
  · rcases read_cases x with ⟨_, s, t, hr⟩ | ⟨h', _⟩
    · rw [hr]; rfl
    · rw [h] at h'; cases h'
  · rcases read_cases y with ⟨_, s, t, hr⟩ | ⟨h', _⟩
    · rw [hr]; cases fmt.read x <;> rfl
    · rw [h] at h'; cases h'

theorem order_lt (x y : Nat) : (FloatKind.f64.format.order x y == some Ordering.lt) = (!nanN x && !nanN y && decide (keyN x < keyN y)) := by
  cases hx : nanN x
  · cases hy : nanN y
    · rw [order_key hx hy]
      by_cases h : keyN x < keyN y <;> simp [compare, compareOfLessAndEq, h]
      split <;> simp
    · rw [order_nan (.inr hy)]; rfl
  · rw [order_nan (.inl hx)]; rfl

theorem order_gt (x y : Nat) : (FloatKind.f64.format.order x y == some Ordering.gt) = (!nanN x && !nanN y && decide (keyN y < keyN x)) := by
  cases hx : nanN x
  · cases hy : nanN y
    · rw [order_key hx hy]
      by_cases h : keyN y < keyN x
      · simp [compare, compareOfLessAndEq, h, show ¬ keyN x < keyN y by omega, show ¬ keyN x = keyN y by omega]
      · by_cases h2 : keyN x < keyN y
        · simp [compare, compareOfLessAndEq, h, h2]
        · simp [compare, compareOfLessAndEq, show keyN x = keyN y by omega]
    · rw [order_nan (.inr hy)]; rfl
  · rw [order_nan (.inl hx)]; rfl

theorem order_eq (x y : Nat) : (FloatKind.f64.format.order x y == some Ordering.eq) = (!nanN x && !nanN y && decide (keyN x = keyN y)) := by
  cases hx : nanN x
  · cases hy : nanN y
    · rw [order_key hx hy]
      by_cases h : keyN x = keyN y
      · simp [compare, compareOfLessAndEq, h]
      · by_cases h2 : keyN x < keyN y <;> simp [compare, compareOfLessAndEq, h, h2]
    · rw [order_nan (.inr hy)]; rfl
  · rw [order_nan (.inl hx)]; rfl
end Go.Proofs.YthhmimlfiaboeaaGreatDoor
