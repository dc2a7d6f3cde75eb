/- Both 'Weigh's: what they return. -/
import Derived.Test.YtlkcpjekiplhbaaGreatDoorExt
import Derived.Laws.Bits64b
import Derived.Laws.Wrap64
import GoSem.Core.Float
import Derived.WalkKit
import Derived.OwnWalk
import Derived.WalkLawsBesides
import Derived.WalkSpells
import Derived.LoopTactic
import Derived.Laws.FloatArith
import Derived.Outline
namespace Go.Proofs.YtlkcpjekiplhbaaGreatDoor
open Go.RowKit
theorem run_of12 (n : Nat) (w : World) : (callFunc 5 #[.int .u64 (n : Int)]).run Tryz.prog w = .ok (.value (.float .f64 n)) w := run_float n w
theorem run_bits31 (n : Nat) (w : World) : (callFunc 8 #[.float .f64 n]).run Tryz.prog w = .ok (.value (.int .u64 n)) w := run_bits n w

/- Plain facts on the words of floats, and on the eight bytes of a number. No program in sight. -/

/-! ## Eight bytes -/
def beN (l : List UInt8) : Nat := l.foldl (fun a b => 256 * a + b.toNat) 0

theorem foldl_be (l : List UInt8) : ∀ (a : Nat), l.foldl (fun a b => 256 * a + b.toNat) a = a * 256 ^ l.length + beN l := by
  induction l with
  | nil => intro a; simp [beN]
  | cons b l ih =>
    intro a
    have h1 := ih (256 * a + b.toNat)
    have h2 := ih b.toNat
    have h3 : beN (b :: l) = b.toNat * 256 ^ l.length + beN l := by
      show l.foldl _ (256 * 0 + b.toNat) = _
      rw [Nat.mul_zero, Nat.zero_add]; exact h2
    rw [List.foldl_cons, h1, h3, List.length_cons, Nat.pow_succ, Nat.add_mul, ← Nat.add_assoc]
    congr 2
    rw [Nat.mul_comm 256 a, Nat.mul_assoc, Nat.mul_comm 256]

theorem beN_cons (b : UInt8) (l : List UInt8) : beN (b :: l) = b.toNat * 256 ^ l.length + beN l := by
  show l.foldl _ (256 * 0 + b.toNat) = _
  rw [Nat.mul_zero, Nat.zero_add]; exact foldl_be l _

theorem beN_snoc (l : List UInt8) (b : UInt8) : beN (l ++ [b]) = 256 * beN l + b.toNat := by simp [beN]

theorem beN_lt : ∀ (l : List UInt8), beN l < 256 ^ l.length
  | [] => by simp [beN]
  | b :: l => by
    rw [beN_cons, List.length_cons, Nat.pow_succ]
    have h1 := beN_lt l
    have h2 := b.toNat_lt
    have h3 : (b.toNat + 1) * 256 ^ l.length ≤ 256 * 256 ^ l.length := Nat.mul_le_mul_right _ (by omega)
    rw [Nat.add_mul] at h3
    rw [Nat.mul_comm _ 256]
    omega

theorem beN_inj : ∀ (l m : List UInt8), l.length = m.length → beN l = beN m → l = m
  | [], [], _, _ => rfl
  | b :: l, c :: m, hl, h => by
    simp only [List.length_cons, Nat.add_right_cancel_iff] at hl
    rw [beN_cons, beN_cons, hl] at h
    have h1 := beN_lt l
    have h2 := beN_lt m
    rw [hl] at h1
    have hp : 0 < 256 ^ m.length := Nat.pow_pos (by omega)
    have e1 : b.toNat = c.toNat := by
      have k1 : (b.toNat * 256 ^ m.length + beN l) / 256 ^ m.length = b.toNat := by rw [Nat.mul_comm, Nat.mul_add_div hp, Nat.div_eq_of_lt h1]; omega
      have k2 : (c.toNat * 256 ^ m.length + beN m) / 256 ^ m.length = c.toNat := by rw [Nat.mul_comm, Nat.mul_add_div hp, Nat.div_eq_of_lt h2]; omega
      rw [← k1, ← k2, h]
    have e2 : beN l = beN m := by rw [e1] at h; omega
    rw [UInt8.toNat_inj.1 e1, beN_inj l m hl e2]
  | [], _ :: _, hl, _ => by simp at hl
  | _ :: _, [], hl, _ => by simp at hl

/-- The low k bytes of a number, the highest one first. -/
def beL : Nat → Nat → List UInt8
  | 0, _ => []
  | k + 1, n => UInt8.ofNat (n / 256 ^ k) :: beL k n

theorem beL_length : ∀ k n, (beL k n).length = k
  | 0, _ => rfl
  | k + 1, n => by simp [beL, beL_length k n]

theorem beN_beL : ∀ k n, beN (beL k n) = n % 256 ^ k
  | 0, n => by simp [beL, beN, Nat.mod_one]
  | k + 1, n => by
    rw [beL, beN_cons, beL_length, beN_beL k n, Nat.pow_succ, Nat.mod_mul]
    have h : (UInt8.ofNat (n / 256 ^ k)).toNat = n / 256 ^ k % 256 := by simp
    rw [h, Nat.mul_comm, Nat.add_comm]

theorem beL_eq_iff {n : Nat} {l : List UInt8} (hn : n < 18446744073709551616) (hl : l.length = 8) : beL 8 n = l ↔ n = beN l := by
  constructor
  · intro h
    have := beN_beL 8 n
    rw [h, Nat.mod_eq_of_lt (by simpa using hn)] at this
    exact this.symm
  · intro h
    refine beN_inj _ _ (by rw [beL_length, hl]) ?_
    rw [beN_beL, Nat.mod_eq_of_lt (by simpa using hn), h]

theorem beN_lt8 {l : List UInt8} (hl : l.length ≤ 8) : beN l < 18446744073709551616 := by
  have h1 := beN_lt l
  have h2 : (256 : Nat) ^ l.length ≤ 256 ^ 8 := Nat.pow_le_pow_right (by omega) hl
  have h3 : (256 : Nat) ^ 8 = 18446744073709551616 := by decide
  omega

/-- One round of reading. -/
theorem shl_or {a b : Nat} (ha : a < 72057594037927936) (hb : b < 256) : bits .or .u64 (IntKind.u64.wrap ((a : Int) * 256)) (IntKind.u64.wrap (b : Int)) = ((256 * a + b : Nat) : Int) := by
  have h1 : IntKind.u64.wrap ((a : Int) * 256) = ((a * 256 : Nat) : Int) := by simp [IntKind.wrap, IntKind.bits, IntKind.signed]; omega
  have h2 : IntKind.u64.wrap (b : Int) = (b : Int) := by simp [IntKind.wrap, IntKind.bits, IntKind.signed]; omega
  have h4 : a * 256 ||| b = 256 * a + b := by
    have h3 : a * 256 = a <<< 8 := by rw [Nat.shiftLeft_eq]
    have h5 : a <<< 8 + b = a <<< 8 ||| b := Nat.shiftLeft_add_eq_or_of_lt (by omega : b < 2 ^ 8) a
    rw [h3, ← h5, ← h3, Nat.mul_comm]
  rw [h1, h2, bits_or_u64_nat _ _ (by omega) (by omega), h4]

/-! ## Words of floats -/
/-- No number? -/
def nanN (n : Nat) : Bool := decide (9218868437227405312 < n % 9223372036854775808)

/-- The word as which a word counts. -/
def canN (n : Nat) : Nat := if nanN n = true then 9221120237041090561 else if n % 9223372036854775808 = 0 then 0 else n

def fmt : Ieee.Format := FloatKind.f64.format

theorem sw : fmt.signWeight = 9223372036854775808 := by decide
theorem bin : fmt.binade = 4503599627370496 := by decide
theorem inf : fmt.infRung = 9218868437227405312 := by decide

theorem read_cases (n : Nat) : (nanN n = true ∧ ∃ s t, fmt.read n = .nan s t) ∨ (nanN n = false ∧ ((∃ s, fmt.read n = .infinity s) ∨
    (n % 9223372036854775808 = 0 ∧ ∃ s, fmt.read n = .number s 0 fmt.leastPlace) ∨ (n % 9223372036854775808 ≠ 0 ∧ ∃ s m p, fmt.read n = .number s (m + 1) p ∧ fmt.leastPlace ≤ p))) := by
  unfold Ieee.Format.read nanN
  simp only [sw, bin, inf]
  generalize n % 9223372036854775808 = r
  by_cases h1 : r < 4503599627370496
  · right
    refine ⟨by simp; omega, .inr ?_⟩
    rw [if_pos h1]
    by_cases h0 : r = 0
    · subst h0; exact .inl ⟨rfl, _, rfl⟩
    · refine .inr ⟨h0, n / 9223372036854775808 % 2 == 1, r - 1, fmt.leastPlace, ?_, Int.le_refl _⟩
      rw [show r - 1 + 1 = r by omega]
  · rw [if_neg h1]
    by_cases h2 : r < 9218868437227405312
    · right
      rw [if_pos h2]
      refine ⟨by simp; omega, .inr (.inr ⟨by omega, n / 9223372036854775808 % 2 == 1, 4503599627370496 + r % 4503599627370496 - 1, fmt.leastPlace + (r / 4503599627370496 - 1 : Nat), ?_, by omega⟩)⟩
      rw [show 4503599627370496 + r % 4503599627370496 - 1 + 1 = 4503599627370496 + r % 4503599627370496 by omega]
    · rw [if_neg h2]
      by_cases h3 : r = 9218868437227405312
      · right
        rw [if_pos h3]
        exact ⟨by simp; omega, .inl ⟨_, rfl⟩⟩
      · left
        rw [if_neg h3]
        exact ⟨by simp; omega, _, _, rfl⟩

theorem order_self (n : Nat) : (FloatKind.f64.format.order n n != some Ordering.eq) = nanN n := by
  show (((fmt.read n).order (fmt.read n)) != some Ordering.eq) = nanN n
  rcases read_cases n with ⟨h, s, t, hr⟩ | ⟨h, ⟨s, hr⟩ | ⟨_, s, hr⟩ | ⟨_, s, m, p, hr, _⟩⟩
  · rw [hr, h]; rfl
  · rw [hr, h]; cases s <;> rfl
  · rw [hr, h]
    simp [Ieee.Datum.order, compare, compareOfLessAndEq]
  · rw [hr, h]
    simp [Ieee.Datum.order, compare, compareOfLessAndEq]


theorem read_zero : fmt.read 0 = .number false 0 fmt.leastPlace := by decide

theorem order_zero {n : Nat} (h : nanN n = false) : (FloatKind.f64.format.order n 0 == some Ordering.eq) = decide (n % 9223372036854775808 = 0) := by
  show (((fmt.read n).order (fmt.read 0)) == some Ordering.eq) = _
  rw [read_zero]
  rcases read_cases n with ⟨h', _⟩ | ⟨_, ⟨s, hr⟩ | ⟨h0, s, hr⟩ | ⟨h0, s, m, p, hr, hp⟩⟩
  · rw [h] at h'; cases h'
  · have h0 : n % 9223372036854775808 ≠ 0 := by
      intro h0
      unfold Ieee.Format.read at hr
      simp only [sw, bin, h0] at hr
      rw [if_pos (by omega)] at hr
      cases hr
    rw [hr]
    cases s <;> simp [Ieee.Datum.order, h0]
  · rw [hr]
    cases s <;> simp [Ieee.Datum.order, Ieee.signed, h0, compare, compareOfLessAndEq]
  · rw [hr]
    have e : (fmt.leastPlace - min p fmt.leastPlace).toNat = 0 := by omega
    have hpos : 0 < (m + 1) <<< (p - min p fmt.leastPlace).toNat := by
      rw [Nat.shiftLeft_eq]; exact Nat.mul_pos (by omega) (Nat.pow_pos (by omega))
    generalize hq : (m + 1) <<< (p - min p fmt.leastPlace).toNat = q at hpos
    cases s
    · have hc : compare (q : Int) ((0 : Nat) : Int) = Ordering.gt := by
        show compareOfLessAndEq _ _ = _
        unfold compareOfLessAndEq
        rw [if_neg (by omega), if_neg (by omega)]
      simp only [Ieee.Datum.order, Ieee.signed, hq, Bool.false_eq_true, if_false, Nat.zero_shiftLeft, hc]
      simp [h0]
    · have hc : compare (-(q : Int)) ((0 : Nat) : Int) = Ordering.lt := by
        show compareOfLessAndEq _ _ = _
        unfold compareOfLessAndEq
        rw [if_pos (by omega)]
      simp only [Ieee.Datum.order, Ieee.signed, hq, if_true, Bool.false_eq_true, if_false, Nat.zero_shiftLeft, hc]
      simp [h0]

/-- The exponent's bits all set, and one of the fraction's. -/
theorem and_high {n : Nat} : n &&& 9218868437227405312 = (n / 4503599627370496 % 2048) * 4503599627370496 := by
  have e1 : (9218868437227405312 : Nat) = 2047 <<< 52 := by decide
  have e2 : n &&& (2047 <<< 52) = ((n >>> 52) &&& 2047) <<< 52 := by
    apply Nat.eq_of_testBit_eq
    intro i
    simp only [Nat.testBit_and, Nat.testBit_shiftLeft, Nat.testBit_shiftRight]
    by_cases hi : 52 ≤ i
    · simp [hi, show 52 + (i - 52) = i by omega]
    · simp [hi]
  have e3 : (n >>> 52) &&& 2047 = (n >>> 52) % 2048 := Nat.and_two_pow_sub_one_eq_mod (n >>> 52) 11
  rw [e1, e2, e3, Nat.shiftRight_eq_div_pow, Nat.shiftLeft_eq]

theorem and_low {n : Nat} : n &&& 4503599627370495 = n % 4503599627370496 := Nat.and_two_pow_sub_one_eq_mod n 52

theorem nan_bits {n : Nat} (hn : n < 18446744073709551616) :
    (decide (bits .and .u64 (n : Int) 9218868437227405312 = 9218868437227405312) && (bits .and .u64 (n : Int) 4503599627370495 != 0)) = nanN n := by
  have h1 : bits .and .u64 (n : Int) 9218868437227405312 = ((n &&& 9218868437227405312 : Nat) : Int) := bits_and_u64_nat n 9218868437227405312 hn (by omega)
  have h2 : bits .and .u64 (n : Int) 4503599627370495 = ((n &&& 4503599627370495 : Nat) : Int) := bits_and_u64_nat n 4503599627370495 hn (by omega)
  rw [h1, h2, and_high, and_low]
  unfold nanN
  rw [Bool.eq_iff_iff]
  simp only [Bool.and_eq_true, decide_eq_true_eq, bne_iff_ne, ne_eq]
  omega

/-- As the reference has it. -/
theorem canN_ref {n : Nat} (hn : n < 18446744073709551616) : canN n = if nanN n = true then 9221120237041090561 else if n = 9223372036854775808 then 0 else n := by
  unfold canN
  split
  · rfl
  · by_cases h0 : n % 9223372036854775808 = 0
    · rw [if_pos h0]
      split <;> omega
    · rw [if_neg h0, if_neg (by omega)]

theorem canN_lt {n : Nat} (hn : n < 18446744073709551616) : canN n < 18446744073709551616 := by
  unfold canN; split
  · omega
  · split <;> omega


theorem run_of12' (n : Nat) (w : World) : (callFunc 5 #[.int .u64 (n : Int)]).run Tryz.prog w = .ok (.value (.float .f64 n)) w := run_of12 n w

set_option maxRecDepth 100000 in
theorem none_any (w : World) : Calls Tryz.prog 32 #[] w fun e w' => e = .returned (.float .f64 9221120237041090561) ∧ w = w' := by
  have r12 : ∀ w, (callFunc 5 #[.int .u64 9221120237041090561]).run Tryz.prog w = .ok (.value (.float .f64 9221120237041090561)) w := run_of12 9221120237041090561
  go_enter Tryz.func32, Tryz.ntmps32
  go_wp2_with fail
  go_ret
  exact ⟨rfl, rfl⟩

set_option maxRecDepth 100000 in
theorem rnone_any (w : World) : Calls Tryz.prog 13 #[] w fun e w' => e = .returned (.float .f64 9221120237041090561) ∧ w = w' := by
  have r12 : ∀ w, (callFunc 5 #[.int .u64 9221120237041090561]).run Tryz.prog w = .ok (.value (.float .f64 9221120237041090561)) w := run_of12 9221120237041090561
  go_enter Tryz.func13, Tryz.ntmps13
  go_wp2_with fail
  go_ret
  exact ⟨rfl, rfl⟩

set_option maxRecDepth 100000 in
set_option maxHeartbeats 400000 in
theorem canon_any (n : Nat) (w : World) : Calls Tryz.prog 33 #[.float .f64 n] w fun e w' => e = .returned (.float .f64 (canN n)) ∧ w = w' := by
  have hs := order_self n
  cases hn : nanN n with
  | true =>
    have hc : Hid (canN n = 9221120237041090561) := by unfold canN Hid; rw [if_pos hn]
    rw [hn] at hs
    clear hn
    go_enter Tryz.func33, Tryz.ntmps33
    go_wp2_with (go_at_call 32; refine (none_any _).mono ?_; rintro e w' ⟨rfl, rfl⟩)
    go_ret
    exact ⟨by rw [hc.out]; rfl, rfl⟩
  | false =>
    have hz := order_zero hn
    by_cases h0 : n % 9223372036854775808 = 0
    · have hc : Hid (canN n = 0) := by unfold canN Hid; rw [if_neg (by rw [hn]; simp), if_pos h0]
      rw [hn] at hs
      have hz' : (FloatKind.f64.format.order n 0 == some Ordering.eq) = true := by rw [hz]; simp [h0]
      clear hn hz h0
      go_enter Tryz.func33, Tryz.ntmps33
      go_wp2_with fail
      go_ret
      exact ⟨by rw [hc.out]; rfl, rfl⟩
    · have hc : Hid (canN n = n) := by unfold canN Hid; rw [if_neg (by rw [hn]; simp), if_neg h0]
      rw [hn] at hs
      have hz' : (FloatKind.f64.format.order n 0 == some Ordering.eq) = false := by rw [hz]; simp [h0]
      clear hn hz h0
      go_enter Tryz.func33, Tryz.ntmps33
      go_wp2_with fail
      go_ret
      exact ⟨by rw [hc.out]; rfl, rfl⟩

set_option maxRecDepth 100000 in
set_option maxHeartbeats 400000 in
theorem nan_any (n : Nat) (hn : n < 18446744073709551616) (w : World) : Calls Tryz.prog 12 #[.float .f64 n] w fun e w' => e = .returned (.bool (nanN n)) ∧ w = w' := by
  have hb : Hid ((decide (bits .and .u64 (n : Int) 9218868437227405312 = 9218868437227405312) && (bits .and .u64 (n : Int) 4503599627370495 != 0)) = nanN n) := nan_bits hn
  have e31 := run_bits31
  clear hn
  go_enter Tryz.func12, Tryz.ntmps12
  go_wp2_with fail
  all_goals go_ret
  · have h : bits .and .u64 (n : Int) 9218868437227405312 = 9218868437227405312 := by assumption
    exact ⟨by rw [← hb.out, h]; simp, rfl⟩
  · have h : ¬ bits .and .u64 (n : Int) 9218868437227405312 = 9218868437227405312 := by assumption
    exact ⟨by rw [← hb.out]; simp [h], rfl⟩

set_option maxRecDepth 100000 in
set_option maxHeartbeats 400000 in
theorem rcanon_any (n : Nat) (hn : n < 18446744073709551616) (w : World) : Calls Tryz.prog 14 #[.float .f64 n] w fun e w' => e = .returned (.float .f64 (canN n)) ∧ w = w' := by
  have hc : Hid (canN n = if nanN n = true then 9221120237041090561 else if n = 9223372036854775808 then 0 else n) := canN_ref hn
  have hcall : Hid (∀ w, Calls Tryz.prog 12 #[.float .f64 n] w fun e w' => e = .returned (.bool (nanN n)) ∧ w = w') := fun w => nan_any n hn w
  have e31 := run_bits31
  cases hb : nanN n with
  | true =>
    rw [hb] at hc hcall
    clear hb hn
    go_enter Tryz.func14, Tryz.ntmps14
    go_wp2_with (first | (go_at_call 12; refine (hcall.out _).mono ?_; rintro e w' ⟨rfl, rfl⟩) | (go_at_call 13; refine (rnone_any _).mono ?_; rintro e w' ⟨rfl, rfl⟩))
    go_ret
    exact ⟨by rw [hc.out]; rfl, rfl⟩
  | false =>
    rw [hb] at hc hcall
    clear hb hn
    go_enter Tryz.func14, Tryz.ntmps14
    go_wp2_with (go_at_call 12; refine (hcall.out _).mono ?_; rintro e w' ⟨rfl, rfl⟩)
    all_goals go_ret
    · have h : n = 9223372036854775808 := by have h := beq_iff_eq.1 (show ((n : Int) == 9223372036854775808) = true by assumption)
                                             omega
      exact ⟨by rw [hc.out, if_neg (by simp), if_pos h]; rfl, rfl⟩
    · have h : ¬ n = 9223372036854775808 := by have h := beq_eq_false_iff_ne.1 (show ((n : Int) == 9223372036854775808) = false by assumption)
                                               omega
      exact ⟨by rw [hc.out, if_neg (by simp), if_neg h]; rfl, rfl⟩


/- The order of floats that are numbers is the order of certain whole numbers: a total order. -/

/-- A rung's height, counted in least steps. -/
def rungV (r : Nat) : Nat := if r / 4503599627370496 = 0 then r % 4503599627370496 else (4503599627370496 + r % 4503599627370496) * 2 ^ (r / 4503599627370496 - 1)

theorem rungV_step (r : Nat) : rungV r < rungV (r + 1) := by
  unfold rungV
  have hd := Nat.div_add_mod r 4503599627370496
  have hm := Nat.mod_lt r (y := 4503599627370496) (by omega)
  generalize r / 4503599627370496 = q at *
  generalize r % 4503599627370496 = f at *
  subst hd
  by_cases h : f + 1 < 4503599627370496
  · have e1 : (4503599627370496 * q + f + 1) / 4503599627370496 = q := by omega
    have e2 : (4503599627370496 * q + f + 1) % 4503599627370496 = f + 1 := by omega
    rw [e1, e2]
    split
    · omega
    · exact Nat.mul_lt_mul_of_pos_right (by omega) (Nat.pow_pos (by omega))
  · have e1 : (4503599627370496 * q + f + 1) / 4503599627370496 = q + 1 := by omega
    have e2 : (4503599627370496 * q + f + 1) % 4503599627370496 = 0 := by omega
    rw [e1, e2, if_neg (by omega : ¬ q + 1 = 0)]
    split
    · rename_i h0; subst h0; simp; omega
    · rename_i h0
      obtain ⟨p, rfl⟩ : ∃ p, q = p + 1 := ⟨q - 1, by omega⟩
      simp only [Nat.add_sub_cancel]
      have hp : 0 < 2 ^ p := Nat.pow_pos (by omega)
      calc (4503599627370496 + f) * 2 ^ p < 9007199254740992 * 2 ^ p := Nat.mul_lt_mul_of_pos_right (by omega) hp
        _ = (4503599627370496 + 0) * 2 ^ (p + 1) := by rw [Nat.pow_succ]; omega

theorem rungV_mono {a b : Nat} (h : a < b) : rungV a < rungV b := by
  induction b with
  | zero => omega
  | succ b ih =>
    rcases Nat.lt_or_ge a b with h' | h'
    · exact Nat.lt_trans (ih h') (rungV_step b)
    · obtain rfl : a = b := by omega
      exact rungV_step a

/-- A word's place in the order. -/
def keyN (n : Nat) : Int := if n / 9223372036854775808 % 2 = 1 then -((n % 9223372036854775808 : Nat) : Int) else ((n % 9223372036854775808 : Nat) : Int)
def valN (n : Nat) : Int := if n / 9223372036854775808 % 2 = 1 then -((rungV (n % 9223372036854775808) : Nat) : Int) else ((rungV (n % 9223372036854775808) : Nat) : Int)

theorem rungV_zero : rungV 0 = 0 := rfl

theorem rungV_le {a b : Nat} : rungV a ≤ rungV b ↔ a ≤ b := by
  constructor
  · intro h
    rcases Nat.lt_or_ge b a with h' | h'
    · have := rungV_mono h'; omega
    · exact h'
  · intro h
    rcases Nat.lt_or_ge a b with h' | h'
    · exact Nat.le_of_lt (rungV_mono h')
    · obtain rfl : a = b := by omega
      exact Nat.le_refl _

theorem val_lt_key (x y : Nat) : valN x < valN y ↔ keyN x < keyN y := by
  unfold valN keyN
  generalize x % 9223372036854775808 = a
  generalize y % 9223372036854775808 = b
  have h1 := @rungV_le a b
  have h2 := @rungV_le b a
  have h3 := @rungV_le a 0
  have h4 := @rungV_le b 0
  rw [rungV_zero] at h3 h4
  split <;> split <;> omega

theorem cmp_iff {a b c d : Int} (h : a < b ↔ c < d) (h' : b < a ↔ d < c) : compare a b = compare c d := by
  show compareOfLessAndEq a b = compareOfLessAndEq c d
  unfold compareOfLessAndEq
  by_cases h1 : a < b
  · rw [if_pos h1, if_pos (h.1 h1)]
  · rw [if_neg h1, if_neg (fun k => h1 (h.2 k))]
    by_cases h2 : a = b
    · rw [if_pos h2, if_pos (by omega)]
    · rw [if_neg h2, if_neg (by omega)]

theorem read_is {n : Nat} (h : nanN n = false) : (n % 9223372036854775808 = 9218868437227405312 ∧ fmt.read n = .infinity (n / 9223372036854775808 % 2 == 1)) ∨
    (n % 9223372036854775808 < 9218868437227405312 ∧ ∃ m p, fmt.read n = .number (n / 9223372036854775808 % 2 == 1) m p ∧ fmt.leastPlace ≤ p ∧ m * 2 ^ (p - fmt.leastPlace).toNat = rungV (n % 9223372036854775808)) := by
  have hn : n % 9223372036854775808 ≤ 9218868437227405312 := by
    unfold nanN at h; simpa using h
  unfold Ieee.Format.read
  simp only [sw, bin, inf]
  generalize n % 9223372036854775808 = r at *
  by_cases h1 : r < 4503599627370496
  · rw [if_pos h1]
    refine .inr ⟨by omega, _, _, rfl, Int.le_refl _, ?_⟩
    unfold rungV
    rw [if_pos (by omega)]
    simp; omega
  · rw [if_neg h1]
    by_cases h2 : r < 9218868437227405312
    · rw [if_pos h2]
      refine .inr ⟨h2, _, _, rfl, by omega, ?_⟩
      unfold rungV
      rw [if_neg (by omega)]
      have : (fmt.leastPlace + ((r / 4503599627370496 - 1 : Nat) : Int) - fmt.leastPlace).toNat = r / 4503599627370496 - 1 := by omega
      rw [this]
    · rw [if_neg h2]
      have h3 : r = 9218868437227405312 := by omega
      rw [if_pos h3]
      exact .inl ⟨h3, rfl⟩

theorem signed_scale (s : Bool) (m k d : Nat) : Ieee.signed s m (k + d) = Ieee.signed s m k * ((2 ^ d : Nat) : Int) := by
  unfold Ieee.signed
  have : m <<< (k + d) = m <<< k * 2 ^ d := by rw [Nat.shiftLeft_eq, Nat.shiftLeft_eq, Nat.pow_add, Nat.mul_assoc]
  rw [this]
  cases s
  · simp
  · simp [Int.neg_mul]

theorem order_key {x y : Nat} (hx : nanN x = false) (hy : nanN y = false) : FloatKind.f64.format.order x y = some (compare (keyN x) (keyN y)) := by
  show (fmt.read x).order (fmt.read y) = _
  rw [← cmp_iff (val_lt_key x y) (val_lt_key y x)]
  rcases read_is hx with ⟨ex, rx⟩ | ⟨lx, m, i, rx, li, vx⟩ <;> rcases read_is hy with ⟨ey, ry⟩ | ⟨ly, n, j, ry, lj, vy⟩
  · rw [rx, ry]
    unfold valN
    rw [ex, ey]
    have : 0 < rungV 9218868437227405312 := by have := @rungV_mono 0 9218868437227405312 (by omega); omega
    generalize rungV 9218868437227405312 = v at *
    by_cases h1 : x / 9223372036854775808 % 2 = 1 <;> by_cases h2 : y / 9223372036854775808 % 2 = 1
    · simp only [h1, h2, Ieee.Datum.order]; simp [compare, compareOfLessAndEq]
    · simp only [h1, h2, Ieee.Datum.order, if_true, if_false]
      rw [show ((y / 9223372036854775808 % 2 == 1) = false) by simpa using h2]
      simp [compare, compareOfLessAndEq]; omega
    · simp only [h1, h2, Ieee.Datum.order, if_true, if_false]
      rw [show ((x / 9223372036854775808 % 2 == 1) = false) by simpa using h1]
      simp [compare, compareOfLessAndEq]; rw [if_neg (by omega), if_neg (by omega)]
    · simp only [h1, h2, Ieee.Datum.order, if_false]
      rw [show ((x / 9223372036854775808 % 2 == 1) = false) by simpa using h1, show ((y / 9223372036854775808 % 2 == 1) = false) by simpa using h2]
      simp [compare, compareOfLessAndEq]
  · rw [rx, ry]
    unfold valN
    rw [ex]
    have := rungV_mono ly
    generalize rungV 9218868437227405312 = v at *
    generalize rungV (y % 9223372036854775808) = u at *
    simp only [Ieee.Datum.order]
    show some _ = some (compareOfLessAndEq _ _)
    unfold compareOfLessAndEq
    congr 1
    by_cases h1 : x / 9223372036854775808 % 2 = 1
    · rw [if_pos (by simpa using h1), if_pos h1, if_pos (by split <;> omega)]
    · rw [if_neg (by simpa using h1), if_neg h1, if_neg (by split <;> omega), if_neg (by split <;> omega)]
  · rw [rx, ry]
    unfold valN
    rw [ey]
    have := rungV_mono lx
    generalize rungV 9218868437227405312 = v at *
    generalize rungV (x % 9223372036854775808) = u at *
    simp only [Ieee.Datum.order]
    show some _ = some (compareOfLessAndEq _ _)
    unfold compareOfLessAndEq
    congr 1
    by_cases h1 : y / 9223372036854775808 % 2 = 1
    · rw [if_pos (by simpa using h1), if_pos h1, if_neg (by split <;> omega), if_neg (by split <;> omega)]
    · rw [if_neg (by simpa using h1), if_neg h1, if_pos (by split <;> omega)]
  · rw [rx, ry]
    have sx : valN x = Ieee.signed (x / 9223372036854775808 % 2 == 1) m (i - fmt.leastPlace).toNat := by
      unfold valN Ieee.signed
      rw [Nat.shiftLeft_eq, vx]
      by_cases h : x / 9223372036854775808 % 2 = 1 <;> simp [h]
    have sy : valN y = Ieee.signed (y / 9223372036854775808 % 2 == 1) n (j - fmt.leastPlace).toNat := by
      unfold valN Ieee.signed
      rw [Nat.shiftLeft_eq, vy]
      by_cases h : y / 9223372036854775808 % 2 = 1 <;> simp [h]
    rw [sx, sy]
    simp only [Ieee.Datum.order]
    generalize fmt.leastPlace = b at *
    obtain ⟨d, hd⟩ : ∃ d : Nat, min i j = b + d := ⟨(min i j - b).toNat, by omega⟩
    have e1 : (i - b).toNat = (i - min i j).toNat + d := by omega
    have e2 : (j - b).toNat = (j - min i j).toNat + d := by omega
    rw [e1, e2, signed_scale, signed_scale]
    congr 1
    have hp : (0 : Int) < ((2 ^ d : Nat) : Int) := by have : 0 < 2 ^ d := Nat.pow_pos (by omega); omega
    exact cmp_iff (Int.mul_lt_mul_right hp).symm (Int.mul_lt_mul_right hp).symm

theorem order_nan {x y : Nat} (h : nanN x = true ∨ nanN y = true) : FloatKind.f64.format.order x y = none := by
  show (fmt.read x).order (fmt.read y) = none
  rcases h with h | h
  · rcases read_cases x with ⟨_, s, t, hr⟩ | ⟨h', _⟩
    · rw [hr]; rfl
    · rw [h] at h'; cases h'
  · rcases read_cases y with ⟨_, s, t, hr⟩ | ⟨h', _⟩
    · rw [hr]; cases fmt.read x <;> rfl
    · rw [h] at h'; cases h'

theorem order_lt (x y : Nat) : (FloatKind.f64.format.order x y == some Ordering.lt) = (!nanN x && !nanN y && decide (keyN x < keyN y)) := by
  cases hx : nanN x
  · cases hy : nanN y
    · rw [order_key hx hy]
      by_cases h : keyN x < keyN y <;> simp [compare, compareOfLessAndEq, h]
      split <;> simp
    · rw [order_nan (.inr hy)]; rfl
  · rw [order_nan (.inl hx)]; rfl

theorem order_gt (x y : Nat) : (FloatKind.f64.format.order x y == some Ordering.gt) = (!nanN x && !nanN y && decide (keyN y < keyN x)) := by
  cases hx : nanN x
  · cases hy : nanN y
    · rw [order_key hx hy]
      by_cases h : keyN y < keyN x
      · simp [compare, compareOfLessAndEq, h, show ¬ keyN x < keyN y by omega, show ¬ keyN x = keyN y by omega]
      · by_cases h2 : keyN x < keyN y
        · simp [compare, compareOfLessAndEq, h, h2]
        · simp [compare, compareOfLessAndEq, show keyN x = keyN y by omega]
    · rw [order_nan (.inr hy)]; rfl
  · rw [order_nan (.inl hx)]; rfl

theorem order_eq (x y : Nat) : (FloatKind.f64.format.order x y == some Ordering.eq) = (!nanN x && !nanN y && decide (keyN x = keyN y)) := by
  cases hx : nanN x
  · cases hy : nanN y
    · rw [order_key hx hy]
      by_cases h : keyN x = keyN y
      · simp [compare, compareOfLessAndEq, h]
      · by_cases h2 : keyN x < keyN y <;> simp [compare, compareOfLessAndEq, h, h2]
    · rw [order_nan (.inr hy)]; rfl
  · rw [order_nan (.inl hx)]; rfl

/- What '+', '*', '/' of floats give, where all NaNs count as one. -/
open Go.RowKit

/-- A word as a number, or none. -/
def absF (n : Nat) : Option Nat := if nanN n = true then none else some n

/-- An operation where NaNs count as one. -/
def opO (op : BinOp) (a b : Option Nat) : Option Nat := a.bind fun x => b.bind fun y => (floatBits op .f64 x y).bind absF

theorem nan_read {n : Nat} (h : nanN n = true) : ∃ s t, fmt.read n = .nan s t := by
  rcases read_cases n with ⟨_, h'⟩ | ⟨h', _⟩
  · exact h'
  · rw [h] at h'; cases h'

theorem floatBits_nan {op : BinOp} {x y : Nat} (h : nanN x = true ∨ nanN y = true) (ho : op = .add ∨ op = .mul ∨ op = .quo) : floatBits op .f64 x y = none := by
  rcases ho with rfl | rfl | rfl
  · show ((fmt.read x).sum (fmt.read y)).map _ = none
    rcases h with h | h
    · obtain ⟨s, t, e⟩ := nan_read h; rw [e]; rfl
    · obtain ⟨s, t, e⟩ := nan_read h; rw [e]; cases fmt.read x <;> rfl
  · show ((fmt.read x).product (fmt.read y)).map _ = none
    rcases h with h | h
    · obtain ⟨s, t, e⟩ := nan_read h; rw [e]; rfl
    · obtain ⟨s, t, e⟩ := nan_read h; rw [e]; cases fmt.read x <;> rfl
  · show ((fmt.read x).quotient _ (fmt.read y)).map _ = none
    rcases h with h | h
    · obtain ⟨s, t, e⟩ := nan_read h; rw [e]; rfl
    · obtain ⟨s, t, e⟩ := nan_read h; rw [e]; cases fmt.read x <;> rfl

theorem opO_abs {op : BinOp} {x y : Nat} (ho : op = .add ∨ op = .mul ∨ op = .quo) : opO op (absF x) (absF y) = (floatBits op .f64 x y).bind absF := by
  unfold opO
  cases hx : nanN x
  · cases hy : nanN y
    · simp [absF, hx, hy]
    · rw [floatBits_nan (.inr hy) ho]; simp [absF, hx, hy]
  · rw [floatBits_nan (.inl hx) ho]; simp [absF, hx]

theorem cut_nan (t a b : Nat) : nanN (Question.cut (.nanBits .f64 a b) t) = true ∧ Question.cut (.nanBits .f64 a b) t < 18446744073709551616 := by
  show nanN ((t % 2) * 2 ^ 63 + 0x7ff0000000000000 + 1 + (t / 2) % (2 ^ 52 - 1)) = true ∧ (t % 2) * 2 ^ 63 + 0x7ff0000000000000 + 1 + (t / 2) % (2 ^ 52 - 1) < 18446744073709551616
  unfold nanN
  have h1 : (2 : Nat) ^ 63 = 9223372036854775808 := by decide
  have h2 : (2 : Nat) ^ 52 - 1 = 4503599627370495 := by decide
  rw [h1, h2]
  have h3 := Nat.mod_lt (t / 2) (y := 4503599627370495) (by omega)
  generalize t / 2 % 4503599627370495 = u at *
  rw [decide_eq_true_eq]
  omega

set_option maxRecDepth 10000 in
theorem float_op (op : BinOp) (ho : op = .add ∨ op = .mul ∨ op = .quo) (t : TypeId) (x y : Nat) (w : World) :
    ∃ r w1, (binOp op t (.float .f64 x) (.float .f64 y)).run Tryz.prog w = .ok (.float .f64 r) w1 ∧ Below w.heap.size w w1 ∧ w1.heap = w.heap ∧ absF r = opO op (absF x) (absF y) ∧ r < 18446744073709551616 := by
  rw [opO_abs ho]
  cases h : floatBits op .f64 x y with
  | some r =>
    have hw := floatBits_wf h
    exact ⟨r, w, run_float_arith w op t .f64 x y r h, Below.refl _ _, rfl, rfl, by simpa [Lit.wf] using hw⟩
  | none =>
    have hrun : (binOp op t (.float .f64 x) (.float .f64 y)).run Tryz.prog w = .ok (.float .f64 (Question.cut (.nanBits .f64 x y) (w.tape w.drawn (.nanBits .f64 x y)))) w.drew := by
      rcases ho with rfl | rfl | rfl <;> (unfold floatBits at h; simp only at h; simp [binOp, Op.floatArith, h, choose, Sem.run, Question.forced])
    have hc := cut_nan (w.tape w.drawn (.nanBits .f64 x y)) x y
    refine ⟨_, _, hrun, (Below.refl _ _).drew, rfl, ?_, hc.2⟩
    unfold absF
    rw [if_pos hc.1]; rfl

/-- 'Canon', of a number or none. -/
def canO : Option Nat → Nat
  | none => 9221120237041090561
  | some r => if r % 9223372036854775808 = 0 then 0 else r

theorem canO_abs (n : Nat) : canN n = canO (absF n) := by
  unfold canN absF
  split <;> rfl

/-- The sum of the numbers in a list, and how many they are. -/
def sumO (fs : List Nat) : Option Nat × Nat := fs.foldl (fun p f => if nanN f = true then p else (opO .add p.1 (some f), p.2 + 1)) (some 0, 0)

theorem sumO_succ (fs : List Nat) (k : Nat) (hk : k < fs.length) :
    sumO (fs.take (k + 1)) = if nanN fs[k] = true then sumO (fs.take k) else (opO .add (sumO (fs.take k)).1 (some fs[k]), (sumO (fs.take k)).2 + 1) := by
  rw [List.take_succ_eq_append_getElem hk]
  unfold sumO
  rw [List.foldl_append]
  rfl

theorem sumO_le (fs : List Nat) (k : Nat) (hk : k ≤ fs.length) : (sumO (fs.take k)).2 ≤ k := by
  induction k with
  | zero => simp [sumO]
  | succ k ih =>
    rw [sumO_succ fs k (by omega)]
    have := ih (by omega)
    split
    · omega
    · show _ + 1 ≤ k + 1
      omega

/-- What 'Mean' comes to. -/
def meanE (fs : List Nat) : Nat × Nat := if (sumO fs).2 = 0 then (9221120237041090561, 0) else (canO (opO .quo (sumO fs).1 (absF (floatOfInt .f64 ((sumO fs).2 : Int)))), (sumO fs).2)

theorem absF_some {n : Nat} (h : nanN n = false) : absF n = some n := by unfold absF; rw [if_neg (by rw [h]; simp)]

theorem order_refl (n : Nat) : (FloatKind.f64.format.order n n == some Ordering.eq) = !nanN n := by
  have := order_self n
  rw [← this]; simp [bne]


/- What 'Weigh' asks of its weights. -/

def bigN (f : Nat) : Bool := FloatKind.f64.format.order f 9218868437227405311 == some Ordering.gt
def badN (f : Nat) : Bool := nanN f || (FloatKind.f64.format.order f 0 == some Ordering.lt) || bigN f

set_option maxRecDepth 100000 in
theorem isinf_any (f : Nat) (w : World) : Calls Tryz.prog 31 #[.float .f64 f, .int .i64 1] w fun e w' => e = .returned (.bool (bigN f)) ∧ w = w' := by
  have hb : Hid (bigN f = (FloatKind.f64.format.order f 9218868437227405311 == some Ordering.gt)) := rfl
  go_enter Tryz.func31, Tryz.ntmps31
  go_wp2_with fail
  all_goals go_ret
  all_goals exact ⟨by rw [hb.out]; simp_all, rfl⟩

set_option maxRecDepth 100000 in
theorem bad_any (f : Nat) (w : World) : Calls Tryz.prog 30 #[.float .f64 f] w fun e w' => e = .returned (.bool (badN f)) ∧ w = w' := by
  have hn := order_self f
  cases h1 : nanN f with
  | true =>
    have hb : Hid (badN f = true) := by unfold badN Hid; rw [h1]; rfl
    rw [h1] at hn
    go_enter Tryz.func30, Tryz.ntmps30
    go_wp2_with (go_at_call 31; refine (isinf_any _ _).mono ?_; rintro e w' ⟨rfl, rfl⟩)
    all_goals go_ret
    all_goals exact ⟨by rw [hb.out]; rfl, rfl⟩
  | false =>
    rw [h1] at hn
    cases h2 : (FloatKind.f64.format.order f 0 == some Ordering.lt) with
    | true =>
      have hb : Hid (badN f = true) := by unfold badN Hid; rw [h1, h2]; rfl
      go_enter Tryz.func30, Tryz.ntmps30
      go_wp2_with (go_at_call 31; refine (isinf_any _ _).mono ?_; rintro e w' ⟨rfl, rfl⟩)
      all_goals go_ret
      all_goals exact ⟨by rw [hb.out]; rfl, rfl⟩
    | false =>
      have hb : Hid (badN f = bigN f) := by unfold badN Hid; rw [h1, h2]; rfl
      go_enter Tryz.func30, Tryz.ntmps30
      go_wp2_with (go_at_call 31; refine (isinf_any _ _).mono ?_; rintro e w' ⟨rfl, rfl⟩)
      all_goals go_ret
      all_goals exact ⟨by rw [hb.out]; rfl, rfl⟩

set_option maxRecDepth 100000 in
set_option maxHeartbeats 800000 in
theorem index_any (a : Option Addr) (cap : Nat) (fs : List Nat) (w : World) (h40 : fs.length ≤ 40)
    (hc : ∀ j, j < fs.length → ∃ b off, a = some ⟨b, off, none⟩ ∧ b < w.heap.size ∧ w.cell? ⟨b, off + j, none⟩ = some (.float .f64 (fs.getD j 0))) :
    Calls Tryz.prog 63 #[.slice a fs.length cap, .func (.func 30) #[] #[]] w fun e w' => (∃ n : Int, e = .returned (.int .i64 n) ∧ decide (0 ≤ n) = fs.any badN) ∧ w = w' := by
  go_enter Tryz.func63, Tryz.ntmps63
  go_wp2
  go_loop [8] (fun i => ∃ k : Nat, k ≤ fs.length ∧ i = .int .i64 k ∧ (fs.take k).any badN = false)
    (fun i => fs.length - (intOf i).toNat)
  case atStart => exact ⟨0, by omega, rfl, rfl⟩
  case round =>
    obtain ⟨k, hk, rfl, hx⟩ := hrel
    have hx' : Hid ((fs.take k).any badN = false) := hx
    clear hx
    by_cases hlt : k < fs.length
    · obtain ⟨b, off, rfl, hbw, hcell⟩ := hc k hlt
      have hcellr : w.cell? ⟨b, off + k, none⟩ = some (.float .f64 fs[k]) := by
        rw [hcell, List.getD, List.getElem?_eq_getElem hlt]; rfl
      clear hc hcell
      have hany : Hid ((fs.take (k + 1)).any badN = badN fs[k]) := by
        unfold Hid; rw [List.take_succ_eq_append_getElem hlt, List.any_append, hx'.out]; simp
      have hall : Hid (badN fs[k] = true → fs.any badN = true) := fun h => List.any_eq_true.2 ⟨_, List.getElem_mem _, h⟩
      have hcall : Hid (∀ w, Calls Tryz.prog 30 #[.float .f64 fs[k]] w fun e w' => e = .returned (.bool (badN fs[k])) ∧ w = w') := fun w => bad_any fs[k] w
      cases hbad : badN fs[k] with
      | true =>
        rw [hbad] at hcall
        have hT := hall.out hbad
        clear hbad
        go_wp2_with (go_at_call 30; refine (hcall.out _).mono ?_; rintro e w' ⟨rfl, rfl⟩)
        go_ret
        exact ⟨⟨_, rfl, by rw [hT]; simp⟩, rfl⟩
      | false =>
        rw [hbad] at hcall hany
        clear hbad hall
        go_wp2_with (go_at_call 30; refine (hcall.out _).mono ?_; rintro e w' ⟨rfl, rfl⟩)
        go_round
        case rel => exact ⟨k + 1, by omega, by go_num, hany.out⟩
        case measure => simp [intOf]; omega
    · have hk' : k = fs.length := by omega
      have hF : fs.any badN = false := by have := hx'.out; rwa [hk', List.take_length] at this
      have hFh : Hid (fs.any badN = false) := hF
      clear hF hc
      go_wp2
      go_ret
      exact ⟨⟨_, rfl, by rw [hFh.out]; rfl⟩, rfl⟩

set_option maxRecDepth 100000 in
theorem contains_any (a : Option Addr) (cap : Nat) (fs : List Nat) (w : World) (h40 : fs.length ≤ 40)
    (hc : ∀ j, j < fs.length → ∃ b off, a = some ⟨b, off, none⟩ ∧ b < w.heap.size ∧ w.cell? ⟨b, off + j, none⟩ = some (.float .f64 (fs.getD j 0))) :
    Calls Tryz.prog 29 #[.slice a fs.length cap, .func (.func 30) #[] #[]] w fun e w' => e = .returned (.bool (fs.any badN)) ∧ w = w' := by
  have hi : Hid (Calls Tryz.prog 63 #[.slice a fs.length cap, .func (.func 30) #[] #[]] w fun e w' => (∃ n : Int, e = .returned (.int .i64 n) ∧ decide (0 ≤ n) = fs.any badN) ∧ w = w') := index_any a cap fs w h40 hc
  clear hc
  go_enter Tryz.func29, Tryz.ntmps29
  go_wp2_with (go_at_call 63; refine (hi.out).mono ?_; rintro e w' ⟨⟨n, rfl, hn⟩, rfl⟩)
  go_ret
  rw [← hn]
  exact ⟨by simp, rfl⟩

/- The program's 'Weigh': what it returns. -/

/-- The sums that 'Weigh' makes. -/
def weighO (vs ws : List Nat) : Nat → Option Nat × Option Nat
  | 0 => (some 0, some 0)
  | k + 1 => if nanN (vs.getD k 0) = true then weighO vs ws k else (opO .add (weighO vs ws k).1 (opO .mul (absF (vs.getD k 0)) (absF (ws.getD k 0))), opO .add (weighO vs ws k).2 (absF (ws.getD k 0)))

def zeroO : Option Nat → Bool
  | none => false
  | some r => decide (r % 9223372036854775808 = 0)

theorem zeroO_abs (y : Nat) : (FloatKind.f64.format.order y 0 == some Ordering.eq) = zeroO (absF y) := by
  cases h : nanN y with
  | true => rw [order_nan (.inl h)]; unfold absF; rw [if_pos h]; rfl
  | false => rw [order_zero h, absF_some h]; rfl

/-- What 'Weigh' comes to. -/
def weighE (vs ws : List Nat) : Nat × Nat :=
  if vs.length ≠ ws.length then (0, 1) else if ws.any badN = true then (0, 18) else
  if zeroO (weighO vs ws vs.length).2 = true then (9221120237041090561, 0) else (canO (opO .quo (weighO vs ws vs.length).1 (weighO vs ws vs.length).2), 0)

set_option maxRecDepth 100000 in
set_option maxHeartbeats 1600000 in
theorem weigh_any (a a' : Option Addr) (cap cap' : Nat) (vs ws : List Nat) (w : World) (h40 : vs.length ≤ 40) (h40' : ws.length ≤ 40)
    (hc : ∀ j, j < vs.length → ∃ b off, a = some ⟨b, off, none⟩ ∧ b < w.heap.size ∧ w.cell? ⟨b, off + j, none⟩ = some (.float .f64 (vs.getD j 0)))
    (hc' : ∀ j, j < ws.length → ∃ b off, a' = some ⟨b, off, none⟩ ∧ b < w.heap.size ∧ w.cell? ⟨b, off + j, none⟩ = some (.float .f64 (ws.getD j 0))) :
    Calls Tryz.prog 11 #[.slice a vs.length cap, .slice a' ws.length cap'] w fun e w' => e = .returned (.tuple #[.float .f64 (weighE vs ws).1, .int .i64 (weighE vs ws).2]) ∧ Below w.heap.size w w' := by
  by_cases hl : vs.length = ws.length
  · have hmf : ∀ (fn : Fn) (first cap : Array Value) (w : World), (Instr.makeFunc fn first cap).run Tryz.prog w = .ok (.func fn first cap) w := fun _ _ _ _ => rfl
    have hcon : Hid (Calls Tryz.prog 29 #[.slice a' ws.length cap', .func (.func 30) #[] #[]] w fun e w' => e = .returned (.bool (ws.any badN)) ∧ w = w') := contains_any a' cap' ws w h40' hc'
    cases hbad : ws.any badN with
    | true =>
      rw [hbad] at hcon
      have he : Hid (weighE vs ws = (0, 18)) := by unfold weighE Hid; rw [if_neg (by simpa using hl), if_pos hbad]
      clear hc hc' hbad
      go_enter Tryz.func11, Tryz.ntmps11
      go_wp2_with (go_at_call 29; refine (hcon.out).mono ?_; rintro e w' ⟨rfl, rfl⟩)
      all_goals first | (go_ret2; exact ⟨by rw [he.out]; rfl, Below.refl _ _⟩) | (exfalso; omega)
    | false =>
      rw [hbad] at hcon
      have he : Hid (weighE vs ws = if zeroO (weighO vs ws vs.length).2 = true then (9221120237041090561, 0) else (canO (opO .quo (weighO vs ws vs.length).1 (weighO vs ws vs.length).2), 0)) := by
        unfold weighE Hid; rw [if_neg (by simpa using hl), if_neg (by rw [hbad]; simp)]
      clear hbad
      go_enter Tryz.func11, Tryz.ntmps11
      go_wp2_with (go_at_call 29; refine (hcon.out).mono ?_; rintro e w' ⟨rfl, rfl⟩)
      go_loopw [6, 7, 19] (fun s t i wr => ∃ (k x y : Nat), k ≤ ws.length ∧ i = .int .i64 k ∧ s = .float .f64 x ∧ t = .float .f64 y ∧ absF x = (weighO vs ws k).1 ∧ absF y = (weighO vs ws k).2 ∧ Below w.heap.size w wr)
        (fun _ _ i _ => ws.length - (intOf i).toNat)
      case atStart => exact ⟨0, 0, 0, by omega, rfl, rfl, rfl, rfl, rfl, Below.refl _ _⟩
      case round =>
        obtain ⟨k, x, y, hk, rfl, rfl, rfl, hx, hy, hb⟩ := hrel
        by_cases hlt : k < ws.length
        · obtain ⟨b, off, rfl, hbw, hcell⟩ := hc k (by omega)
          obtain ⟨b', off', rfl, hbw', hcell'⟩ := hc' k hlt
          have hcr : wr.cell? ⟨b, off + k, none⟩ = some (.float .f64 (vs.getD k 0)) := by rw [hb.cell (by exact hbw), hcell]
          have hcr' : wr.cell? ⟨b', off' + k, none⟩ = some (.float .f64 (ws.getD k 0)) := by rw [hb.cell (by exact hbw'), hcell']
          have hs : Hid (weighO vs ws (k + 1) = if nanN (vs.getD k 0) = true then weighO vs ws k else (opO .add (weighO vs ws k).1 (opO .mul (absF (vs.getD k 0)) (absF (ws.getD k 0))), opO .add (weighO vs ws k).2 (absF (ws.getD k 0)))) := rfl
          clear hc hc' hcell hcell'
          generalize vs.getD k 0 = f at *
          generalize ws.getD k 0 = g at *
          have hn := order_refl f
          cases hnan : nanN f with
          | true =>
            rw [hnan] at hs hn
            go_wp2_with fail
            go_roundw
            case rel => exact ⟨k + 1, x, y, by omega, by go_num, rfl, rfl, by rw [hs.out]; exact hx, by rw [hs.out]; exact hy, hb⟩
            case measure => simp [intOf]; omega
          | false =>
            rw [hnan] at hs hn
            obtain ⟨r1, w1, hrun1, hb1, hh1, habs1, _⟩ := float_op .mul (.inr (.inl rfl)) 26 f g wr
            obtain ⟨r2, w2, hrun2, hb2, hh2, habs2, _⟩ := float_op .add (.inl rfl) 26 x r1 w1
            obtain ⟨r3, w3, hrun3, hb3, hh3, habs3, _⟩ := float_op .add (.inl rfl) 26 y g w2
            have hcr2 : w2.cell? ⟨b', off' + k, none⟩ = some (.float .f64 g) := by
              rw [← hcr']; simp only [World.cell?, hh2, hh1]
            have e1 : Hid (absF r2 = (weighO vs ws (k + 1)).1) := by unfold Hid; rw [habs2, habs1, hx, hs.out]; simp
            have e2 : Hid (absF r3 = (weighO vs ws (k + 1)).2) := by unfold Hid; rw [habs3, hy, hs.out]; simp
            have hbz : Below w.heap.size w w3 := hb.trans (((hb1.trans (hb2.mono hb1.size)).trans (hb3.mono (Nat.le_trans hb1.size hb2.size))).mono hb.size)
            clear habs1 habs2 habs3 hx hy hnan hh1 hh2 hh3
            go_wp2_with fail
            go_roundw
            case rel => exact ⟨k + 1, r2, r3, by omega, by go_num, rfl, rfl, e1.out, e2.out, hbz⟩
            case measure => simp [intOf]; omega
        · have hk' : k = vs.length := by omega
          rw [hk'] at hx hy
          have hz := zeroO_abs y
          rw [hy] at hz
          clear hc hc'
          generalize weighO vs ws vs.length = t at *
          cases hz0 : zeroO t.2 with
          | true =>
            rw [hz0] at hz he
            go_wp2_with (go_at_call 32; refine (none_any _).mono ?_; rintro e w' ⟨rfl, rfl⟩)
            go_ret2
            exact ⟨by rw [he.out]; rfl, hb⟩
          | false =>
            rw [hz0] at hz he
            obtain ⟨r, w1, hrun, hb1, _, habs, hr64⟩ := float_op .quo (.inr (.inr rfl)) 26 x y wr
            have hr : Hid (canN r = canO (opO .quo t.1 t.2)) := by unfold Hid; rw [canO_abs, habs, hx, hy]
            clear habs hx hy
            have hcan : Hid (∀ w, Calls Tryz.prog 33 #[.float .f64 r] w fun e w' => e = .returned (.float .f64 (canN r)) ∧ w = w') := fun w => canon_any r w
            have hb' : Below w.heap.size w w1 := hb.trans (hb1.mono hb.size)
            go_wp2_with (go_at_call 33; refine (hcan.out _).mono ?_; rintro e w' ⟨rfl, rfl⟩)
            go_ret2
            exact ⟨by rw [he.out, ← hr.out]; rfl, hb'⟩
  · have he : Hid (weighE vs ws = (0, 1)) := by unfold weighE Hid; rw [if_pos hl]
    clear hc hc'
    go_enter Tryz.func11, Tryz.ntmps11
    go_wp2_with fail
    all_goals first | (go_ret2; exact ⟨by rw [he.out]; rfl, Below.refl _ _⟩) | (exfalso; omega)

/- The reference's 'Weigh': what it returns. -/

inductive WSame (w : World) : World → Prop
  | mk : WSame w w

set_option maxRecDepth 100000 in
set_option maxHeartbeats 1600000 in
theorem rweigh_any (a a' : Option Addr) (cap cap' : Nat) (vs ws : List Nat) (w : World) (h40 : vs.length ≤ 40) (h40' : ws.length ≤ 40) (hv64 : ∀ f ∈ vs, f < 18446744073709551616) (hw64 : ∀ f ∈ ws, f < 18446744073709551616)
    (hc : ∀ j, j < vs.length → ∃ b off, a = some ⟨b, off, none⟩ ∧ b < w.heap.size ∧ w.cell? ⟨b, off + j, none⟩ = some (.float .f64 (vs.getD j 0)))
    (hc' : ∀ j, j < ws.length → ∃ b off, a' = some ⟨b, off, none⟩ ∧ b < w.heap.size ∧ w.cell? ⟨b, off + j, none⟩ = some (.float .f64 (ws.getD j 0))) :
    Calls Tryz.prog 7 #[.slice a vs.length cap, .slice a' ws.length cap'] w fun e w' => e = .returned (.tuple #[.float .f64 (weighE vs ws).1, .int .i64 (weighE vs ws).2]) ∧ Below w.heap.size w w' := by
  by_cases hl : vs.length = ws.length
  · have hlH : Hid (vs.length = ws.length) := hl
    rw [hl]
    clear hl
    go_enter Tryz.func7, Tryz.ntmps7
    go_wp2_with fail
    go_loopw [6] (fun i wr => ∃ k : Nat, k ≤ ws.length ∧ i = .int .i64 k ∧ (ws.take k).any badN = false ∧ WSame w wr)
      (fun i _ => ws.length - (intOf i).toNat)
    case atStart => exact ⟨0, by omega, rfl, rfl, .mk⟩
    case round =>
      obtain ⟨k, hk, rfl, hx, hwr⟩ := hrel
      cases hwr
      have hx' : Hid ((ws.take k).any badN = false) := hx
      clear hx
      by_cases hlt : k < ws.length
      · obtain ⟨b, off, rfl, hbw, hcell⟩ := hc' k hlt
        have hcellr : w.cell? ⟨b, off + k, none⟩ = some (.float .f64 ws[k]) := by
          rw [hcell, List.getD, List.getElem?_eq_getElem hlt]; rfl
        clear hc hc' hcell
        have hany : Hid ((ws.take (k + 1)).any badN = badN ws[k]) := by
          unfold Hid; rw [List.take_succ_eq_append_getElem hlt, List.any_append, hx'.out]; simp
        have hall : Hid (badN ws[k] = true → ws.any badN = true) := fun h => List.any_eq_true.2 ⟨_, List.getElem_mem _, h⟩
        have hcall : Hid (∀ w, Calls Tryz.prog 12 #[.float .f64 ws[k]] w fun e w' => e = .returned (.bool (nanN ws[k])) ∧ w = w') := fun w => nan_any _ (hw64 _ (List.getElem_mem _)) w
        generalize ws[k] = f at *
        have hbadE : Hid (badN f = (nanN f || (FloatKind.f64.format.order f 0 == some Ordering.lt) || bigN f)) := rfl
        cases h1 : nanN f with
        | true =>
          rw [h1] at hbadE hcall
          have hT := hall.out (by rw [hbadE.out]; rfl)
          have he : Hid (weighE vs ws = (0, 18)) := by unfold weighE Hid; rw [if_neg (by simpa using hlH.out), if_pos hT]
          clear h1 hT hall hany
          go_wp2_with (go_at_call 12; refine (hcall.out _).mono ?_; rintro e w' ⟨rfl, rfl⟩)
          go_ret2
          exact ⟨by rw [he.out]; rfl, Below.refl _ _⟩
        | false =>
          rw [h1] at hbadE hcall
          cases h2 : (FloatKind.f64.format.order f 0 == some Ordering.lt) with
          | true =>
            rw [h2] at hbadE
            have hT := hall.out (by rw [hbadE.out]; rfl)
            have he : Hid (weighE vs ws = (0, 18)) := by unfold weighE Hid; rw [if_neg (by simpa using hlH.out), if_pos hT]
            clear h1 hT hall hany
            go_wp2_with (go_at_call 12; refine (hcall.out _).mono ?_; rintro e w' ⟨rfl, rfl⟩)
            go_ret2
            exact ⟨by rw [he.out]; rfl, Below.refl _ _⟩
          | false =>
            rw [h2] at hbadE
            cases h3 : (FloatKind.f64.format.order f 9218868437227405311 == some Ordering.gt) with
            | true =>
              have hT := hall.out (by rw [hbadE.out]; unfold bigN; rw [h3]; rfl)
              have he : Hid (weighE vs ws = (0, 18)) := by unfold weighE Hid; rw [if_neg (by simpa using hlH.out), if_pos hT]
              clear h1 hT hall hany
              go_wp2_with (go_at_call 12; refine (hcall.out _).mono ?_; rintro e w' ⟨rfl, rfl⟩)
              go_ret2
              exact ⟨by rw [he.out]; rfl, Below.refl _ _⟩
            | false =>
              have hF : Hid (badN f = false) := by unfold Hid; rw [hbadE.out]; unfold bigN; rw [h3]; rfl
              clear h1 hall
              go_wp2_with (go_at_call 12; refine (hcall.out _).mono ?_; rintro e w' ⟨rfl, rfl⟩)
              go_roundw
              case rel => exact ⟨k + 1, by omega, by go_num, by rw [hany.out, hF.out], .mk⟩
              case measure => simp [intOf]; omega
      · have hk' : k = ws.length := by omega
        subst hk'
        have hF : ws.any badN = false := by have := hx'.out; rwa [List.take_length] at this
        have hFh : Hid (ws.any badN = false) := hF
        clear hF hx' hlt hk
        go_wp2_with fail

        go_loopw [7, 8, 9] (fun s t i wr => ∃ (k x y : Nat), k ≤ ws.length ∧ i = .int .i64 k ∧ s = .float .f64 x ∧ t = .float .f64 y ∧ absF x = (weighO vs ws k).1 ∧ absF y = (weighO vs ws k).2 ∧ Below w.heap.size w wr)
          (fun _ _ i _ => ws.length - (intOf i).toNat)
        case atStart => exact ⟨0, 0, 0, by omega, rfl, rfl, rfl, rfl, rfl, Below.refl _ _⟩
        case round =>
          obtain ⟨k, x, y, hk, rfl, rfl, rfl, hx, hy, hb⟩ := hrel
          by_cases hlt : k < ws.length
          · obtain ⟨b, off, rfl, hbw, hcell⟩ := hc k (by rw [hlH.out]; exact hlt)
            obtain ⟨b', off', rfl, hbw', hcell'⟩ := hc' k hlt
            have hf64 : Hid (vs.getD k 0 < 18446744073709551616) := by
              unfold Hid; rw [List.getD, List.getElem?_eq_getElem (by rw [hlH.out]; exact hlt)]; exact hv64 _ (List.getElem_mem _)
            have hcr : wr.cell? ⟨b, off + k, none⟩ = some (.float .f64 (vs.getD k 0)) := by rw [hb.cell (by exact hbw), hcell]
            have hcr' : wr.cell? ⟨b', off' + k, none⟩ = some (.float .f64 (ws.getD k 0)) := by rw [hb.cell (by exact hbw'), hcell']
            have hs : Hid (weighO vs ws (k + 1) = if nanN (vs.getD k 0) = true then weighO vs ws k else (opO .add (weighO vs ws k).1 (opO .mul (absF (vs.getD k 0)) (absF (ws.getD k 0))), opO .add (weighO vs ws k).2 (absF (ws.getD k 0)))) := rfl
            clear hc hc' hcell hcell' hv64 hw64 hFh
            generalize vs.getD k 0 = f at *
            generalize ws.getD k 0 = g at *
            have hcall : Hid (∀ w, Calls Tryz.prog 12 #[.float .f64 f] w fun e w' => e = .returned (.bool (nanN f)) ∧ w = w') := fun w => nan_any _ hf64.out w
            cases hnan : nanN f with
            | true =>
              rw [hnan] at hs hcall
              go_wp2_with (go_at_call 12; refine (hcall.out _).mono ?_; rintro e w' ⟨rfl, rfl⟩)
              go_roundw
              case rel => exact ⟨k + 1, x, y, by omega, by go_num, rfl, rfl, by rw [hs.out]; exact hx, by rw [hs.out]; exact hy, hb⟩
              case measure => simp [intOf]; omega
            | false =>
              rw [hnan] at hs hcall
              obtain ⟨r1, w1, hrun1, hb1, hh1, habs1, _⟩ := float_op .mul (.inr (.inl rfl)) 26 f g wr.drew
              obtain ⟨r2, w2, hrun2, hb2, hh2, habs2, _⟩ := float_op .add (.inl rfl) 26 x r1 w1
              obtain ⟨r3, w3, hrun3, hb3, hh3, habs3, _⟩ := float_op .add (.inl rfl) 26 y g w2
              have hcr2 : w2.cell? ⟨b', off' + k, none⟩ = some (.float .f64 g) := by
                rw [← hcr']; simp only [World.cell?, hh2, hh1]; rfl
              have e1 : Hid (absF r2 = (weighO vs ws (k + 1)).1) := by unfold Hid; rw [habs2, habs1, hx, hs.out]; simp
              have e2 : Hid (absF r3 = (weighO vs ws (k + 1)).2) := by unfold Hid; rw [habs3, hy, hs.out]; simp
              have hbz : Below w.heap.size w w3 := hb.drew.trans (((hb1.trans (hb2.mono hb1.size)).trans (hb3.mono (Nat.le_trans hb1.size hb2.size))).mono hb.size)
              clear habs1 habs2 habs3 hx hy hnan hh1 hh2 hh3
              go_wp2_with (go_at_call 12; refine (hcall.out _).mono ?_; rintro e w' ⟨rfl, rfl⟩)
              go_region
              go_wp2_with fail
              go_roundw
              case rel => exact ⟨k + 1, r2, r3, by omega, by go_num, rfl, rfl, e1.out, e2.out, hbz⟩
              case measure => simp [intOf]; omega
          · have hk' : k = vs.length := by rw [hlH.out]; omega
            rw [hk'] at hx hy
            have hz := zeroO_abs y
            rw [hy] at hz
            have he : Hid (weighE vs ws = if zeroO (weighO vs ws vs.length).2 = true then (9221120237041090561, 0) else (canO (opO .quo (weighO vs ws vs.length).1 (weighO vs ws vs.length).2), 0)) := by
              unfold weighE Hid; rw [if_neg (by simpa using hlH.out), if_neg (by rw [hFh.out]; simp)]
            clear hc hc' hFh hv64 hw64
            generalize weighO vs ws vs.length = t at *
            cases hz0 : zeroO t.2 with
            | true =>
              rw [hz0] at hz he
              go_wp2_with (go_at_call 13; refine (rnone_any _).mono ?_; rintro e w' ⟨rfl, rfl⟩)
              go_ret2
              exact ⟨by rw [he.out]; rfl, hb⟩
            | false =>
              rw [hz0] at hz he
              obtain ⟨r, w1, hrun, hb1, _, habs, hr64⟩ := float_op .quo (.inr (.inr rfl)) 26 x y wr
              have hr : Hid (canN r = canO (opO .quo t.1 t.2)) := by unfold Hid; rw [canO_abs, habs, hx, hy]
              clear habs hx hy
              have hcan : Hid (∀ w, Calls Tryz.prog 14 #[.float .f64 r] w fun e w' => e = .returned (.float .f64 (canN r)) ∧ w = w') := fun w => rcanon_any r hr64 w
              have hb' : Below w.heap.size w w1 := hb.trans (hb1.mono hb.size)
              go_wp2_with (go_at_call 14; refine (hcan.out _).mono ?_; rintro e w' ⟨rfl, rfl⟩)
              go_ret2
              exact ⟨by rw [he.out, ← hr.out]; rfl, hb'⟩
  · have he : Hid (weighE vs ws = (0, 1)) := by unfold weighE Hid; rw [if_pos hl]
    clear hc hc'
    go_enter Tryz.func7, Tryz.ntmps7
    go_wp2_with fail
    all_goals first | (go_ret2; exact ⟨by rw [he.out]; rfl, Below.refl _ _⟩) | (exfalso; omega)

end Go.Proofs.YtlkcpjekiplhbaaGreatDoor
