/- Marks: their bytes, and what 'Canon', 'Put' and 'Get' come to, of the program and of the reference. -/
import Derived.Test.YtcdcchkaohnkdaaGreatDoorExt
import Derived.Laws.Bits64b
import Derived.Laws.Wrap64
import GoSem.Core.Float
import Derived.WalkKit
import Derived.OwnWalk
import Derived.WalkLawsBesides
import Derived.WalkSpells
import Derived.LoopTactic
import Derived.Laws.FloatArith
import Derived.Outline
import Derived.Laws.BytesString
import Derived.Laws.Cells
namespace Go.Proofs.YtcdcchkaohnkdaaGreatDoor
open Go.RowKit
theorem run_of12 (n : Nat) (w : World) : (callFunc 15 #[.int .u64 (n : Int)]).run Tryz.prog w = .ok (.value (.float .f64 n)) w := run_float n w
theorem run_bits31 (n : Nat) (w : World) : (callFunc 38 #[.float .f64 n]).run Tryz.prog w = .ok (.value (.int .u64 n)) w := run_bits n w

/- Plain facts on the words of floats, and on the eight bytes of a number. No program in sight. -/

/-! ## Eight bytes -/
def beN (l : List UInt8) : Nat := l.foldl (fun a b => 256 * a + b.toNat) 0

theorem foldl_be (l : List UInt8) : ∀ (a : Nat), l.foldl (fun a b => 256 * a + b.toNat) a = a * 256 ^ l.length + beN l := by
  induction l with
  | nil => intro a; simp [beN]
  | cons b l ih =>
    intro a
    have h1 := ih (256 * a + b.toNat)
    have h2 := ih b.toNat
    have h3 : beN (b :: l) = b.toNat * 256 ^ l.length + beN l := by
      show l.foldl _ (256 * 0 + b.toNat) = _
      rw [Nat.mul_zero, Nat.zero_add]; exact h2
    rw [List.foldl_cons, h1, h3, List.length_cons, Nat.pow_succ, Nat.add_mul, ← Nat.add_assoc]
    congr 2
    rw [Nat.mul_comm 256 a, Nat.mul_assoc, Nat.mul_comm 256]

theorem beN_cons (b : UInt8) (l : List UInt8) : beN (b :: l) = b.toNat * 256 ^ l.length + beN l := by
  show l.foldl _ (256 * 0 + b.toNat) = _
  rw [Nat.mul_zero, Nat.zero_add]; exact foldl_be l _

theorem beN_snoc (l : List UInt8) (b : UInt8) : beN (l ++ [b]) = 256 * beN l + b.toNat := by simp [beN]

theorem beN_lt : ∀ (l : List UInt8), beN l < 256 ^ l.length
  | [] => by simp [beN]
  | b :: l => by
    rw [beN_cons, List.length_cons, Nat.pow_succ]
    have h1 := beN_lt l
    have h2 := b.toNat_lt
    have h3 : (b.toNat + 1) * 256 ^ l.length ≤ 256 * 256 ^ l.length := Nat.mul_le_mul_right _ (by omega)
    rw [Nat.add_mul] at h3
    rw [Nat.mul_comm _ 256]
    omega

theorem beN_inj : ∀ (l m : List UInt8), l.length = m.length → beN l = beN m → l = m
  | [], [], _, _ => rfl
  | b :: l, c :: m, hl, h => by
    simp only [List.length_cons, Nat.add_right_cancel_iff] at hl
    rw [beN_cons, beN_cons, hl] at h
    have h1 := beN_lt l
    have h2 := beN_lt m
    rw [hl] at h1
    have hp : 0 < 256 ^ m.length := Nat.pow_pos (by omega)
    have e1 : b.toNat = c.toNat := by
      have k1 : (b.toNat * 256 ^ m.length + beN l) / 256 ^ m.length = b.toNat := by rw [Nat.mul_comm, Nat.mul_add_div hp, Nat.div_eq_of_lt h1]; omega
      have k2 : (c.toNat * 256 ^ m.length + beN m) / 256 ^ m.length = c.toNat := by rw [Nat.mul_comm, Nat.mul_add_div hp, Nat.div_eq_of_lt h2]; omega
      rw [← k1, ← k2, h]
    have e2 : beN l = beN m := by rw [e1] at h; omega
    rw [UInt8.toNat_inj.1 e1, beN_inj l m hl e2]
  | [], _ :: _, hl, _ => by simp at hl
  | _ :: _, [], hl, _ => by simp at hl

/-- The low k bytes of a number, the highest one first. -/
def beL : Nat → Nat → List UInt8
  | 0, _ => []
  | k + 1, n => UInt8.ofNat (n / 256 ^ k) :: beL k n

theorem beL_length : ∀ k n, (beL k n).length = k
  | 0, _ => rfl
  | k + 1, n => by simp [beL, beL_length k n]

theorem beN_beL : ∀ k n, beN (beL k n) = n % 256 ^ k
  | 0, n => by simp [beL, beN, Nat.mod_one]
  | k + 1, n => by
    rw [beL, beN_cons, beL_length, beN_beL k n, Nat.pow_succ, Nat.mod_mul]
    have h : (UInt8.ofNat (n / 256 ^ k)).toNat = n / 256 ^ k % 256 := by simp
    rw [h, Nat.mul_comm, Nat.add_comm]

theorem beL_eq_iff {n : Nat} {l : List UInt8} (hn : n < 18446744073709551616) (hl : l.length = 8) : beL 8 n = l ↔ n = beN l := by
  constructor
  · intro h
    have := beN_beL 8 n
    rw [h, Nat.mod_eq_of_lt (by simpa using hn)] at this
    exact this.symm
  · intro h
    refine beN_inj _ _ (by rw [beL_length, hl]) ?_
    rw [beN_beL, Nat.mod_eq_of_lt (by simpa using hn), h]

theorem beN_lt8 {l : List UInt8} (hl : l.length ≤ 8) : beN l < 18446744073709551616 := by
  have h1 := beN_lt l
  have h2 : (256 : Nat) ^ l.length ≤ 256 ^ 8 := Nat.pow_le_pow_right (by omega) hl
  have h3 : (256 : Nat) ^ 8 = 18446744073709551616 := by decide
  omega

/-- One round of reading. -/
theorem shl_or {a b : Nat} (ha : a < 72057594037927936) (hb : b < 256) : bits .or .u64 (IntKind.u64.wrap ((a : Int) * 256)) (IntKind.u64.wrap (b : Int)) = ((256 * a + b : Nat) : Int) := by
  have h1 : IntKind.u64.wrap ((a : Int) * 256) = ((a * 256 : Nat) : Int) := by simp [IntKind.wrap, IntKind.bits, IntKind.signed]; omega
  have h2 : IntKind.u64.wrap (b : Int) = (b : Int) := by simp [IntKind.wrap, IntKind.bits, IntKind.signed]; omega
  have h4 : a * 256 ||| b = 256 * a + b := by
    have h3 : a * 256 = a <<< 8 := by rw [Nat.shiftLeft_eq]
    have h5 : a <<< 8 + b = a <<< 8 ||| b := Nat.shiftLeft_add_eq_or_of_lt (by omega : b < 2 ^ 8) a
    rw [h3, ← h5, ← h3, Nat.mul_comm]
  rw [h1, h2, bits_or_u64_nat _ _ (by omega) (by omega), h4]

/-! ## Words of floats -/
/-- No number? -/
def nanN (n : Nat) : Bool := decide (9218868437227405312 < n % 9223372036854775808)

/-- The word as which a word counts. -/
def canN (n : Nat) : Nat := if nanN n = true then 9221120237041090561 else if n % 9223372036854775808 = 0 then 0 else n

def fmt : Ieee.Format := FloatKind.f64.format

theorem sw : fmt.signWeight = 9223372036854775808 := by decide
theorem bin : fmt.binade = 4503599627370496 := by decide
theorem inf : fmt.infRung = 9218868437227405312 := by decide

theorem read_cases (n : Nat) : (nanN n = true ∧ ∃ s t, fmt.read n = .nan s t) ∨ (nanN n = false ∧ ((∃ s, fmt.read n = .infinity s) ∨
    (n % 9223372036854775808 = 0 ∧ ∃ s, fmt.read n = .number s 0 fmt.leastPlace) ∨ (n % 9223372036854775808 ≠ 0 ∧ ∃ s m p, fmt.read n = .number s (m + 1) p ∧ fmt.leastPlace ≤ p))) := by
  unfold Ieee.Format.read nanN
  simp only [sw, bin, inf]
  generalize n % 9223372036854775808 = r
  by_cases h1 : r < 4503599627370496
  · right
    refine ⟨by simp; omega, .inr ?_⟩
    rw [if_pos h1]
    by_cases h0 : r = 0
    · subst h0; exact .inl ⟨rfl, _, rfl⟩
    · refine .inr ⟨h0, n / 9223372036854775808 % 2 == 1, r - 1, fmt.leastPlace, ?_, Int.le_refl _⟩
      rw [show r - 1 + 1 = r by omega]
  · rw [if_neg h1]
    by_cases h2 : r < 9218868437227405312
    · right
      rw [if_pos h2]
      refine ⟨by simp; omega, .inr (.inr ⟨by omega, n / 9223372036854775808 % 2 == 1, 4503599627370496 + r % 4503599627370496 - 1, fmt.leastPlace + (r / 4503599627370496 - 1 : Nat), ?_, by omega⟩)⟩
      rw [show 4503599627370496 + r % 4503599627370496 - 1 + 1 = 4503599627370496 + r % 4503599627370496 by omega]
    · rw [if_neg h2]
      by_cases h3 : r = 9218868437227405312
      · right
        rw [if_pos h3]
        exact ⟨by simp; omega, .inl ⟨_, rfl⟩⟩
      · left
        rw [if_neg h3]
        exact ⟨by simp; omega, _, _, rfl⟩

theorem order_self (n : Nat) : (FloatKind.f64.format.order n n != some Ordering.eq) = nanN n := by
  show (((fmt.read n).order (fmt.read n)) != some Ordering.eq) = nanN n
  rcases read_cases n with ⟨h, s, t, hr⟩ | ⟨h, ⟨s, hr⟩ | ⟨_, s, hr⟩ | ⟨_, s, m, p, hr, _⟩⟩
  · rw [hr, h]; rfl
  · rw [hr, h]; cases s <;> rfl
  · rw [hr, h]
    simp [Ieee.Datum.order, compare, compareOfLessAndEq]
  · rw [hr, h]
    simp [Ieee.Datum.order, compare, compareOfLessAndEq]


theorem read_zero : fmt.read 0 = .number false 0 fmt.leastPlace := by decide

theorem order_zero {n : Nat} (h : nanN n = false) : (FloatKind.f64.format.order n 0 == some Ordering.eq) = decide (n % 9223372036854775808 = 0) := by
  show (((fmt.read n).order (fmt.read 0)) == some Ordering.eq) = _
  rw [read_zero]
  rcases read_cases n with ⟨h', _⟩ | ⟨_, ⟨s, hr⟩ | ⟨h0, s, hr⟩ | ⟨h0, s, m, p, hr, hp⟩⟩
  · rw [h] at h'; cases h'
  · have h0 : n % 9223372036854775808 ≠ 0 := by
      intro h0
      unfold Ieee.Format.read at hr
      simp only [sw, bin, h0] at hr
      rw [if_pos (by omega)] at hr
      cases hr
    rw [hr]
    cases s <;> simp [Ieee.Datum.order, h0]
  · rw [hr]
    cases s <;> simp [Ieee.Datum.order, Ieee.signed, h0, compare, compareOfLessAndEq]
  · rw [hr]
    have e : (fmt.leastPlace - min p fmt.leastPlace).toNat = 0 := by omega
    have hpos : 0 < (m + 1) <<< (p - min p fmt.leastPlace).toNat := by
      rw [Nat.shiftLeft_eq]; exact Nat.mul_pos (by omega) (Nat.pow_pos (by omega))
    generalize hq : (m + 1) <<< (p - min p fmt.leastPlace).toNat = q at hpos
    cases s
    · have hc : compare (q : Int) ((0 : Nat) : Int) = Ordering.gt := by
        show compareOfLessAndEq _ _ = _
        unfold compareOfLessAndEq
        rw [if_neg (by omega), if_neg (by omega)]
      simp only [Ieee.Datum.order, Ieee.signed, hq, Bool.false_eq_true, if_false, Nat.zero_shiftLeft, hc]
      simp [h0]
    · have hc : compare (-(q : Int)) ((0 : Nat) : Int) = Ordering.lt := by
        show compareOfLessAndEq _ _ = _
        unfold compareOfLessAndEq
        rw [if_pos (by omega)]
      simp only [Ieee.Datum.order, Ieee.signed, hq, if_true, Bool.false_eq_true, if_false, Nat.zero_shiftLeft, hc]
      simp [h0]

/-- The exponent's bits all set, and one of the fraction's. -/
theorem and_high {n : Nat} : n &&& 9218868437227405312 = (n / 4503599627370496 % 2048) * 4503599627370496 := by
  have e1 : (9218868437227405312 : Nat) = 2047 <<< 52 := by decide
  have e2 : n &&& (2047 <<< 52) = ((n >>> 52) &&& 2047) <<< 52 := by
    apply Nat.eq_of_testBit_eq
    intro i
    simp only [Nat.testBit_and, Nat.testBit_shiftLeft, Nat.testBit_shiftRight]
    by_cases hi : 52 ≤ i
    · simp [hi, show 52 + (i - 52) = i by omega]
    · simp [hi]
  have e3 : (n >>> 52) &&& 2047 = (n >>> 52) % 2048 := Nat.and_two_pow_sub_one_eq_mod (n >>> 52) 11
  rw [e1, e2, e3, Nat.shiftRight_eq_div_pow, Nat.shiftLeft_eq]

theorem and_low {n : Nat} : n &&& 4503599627370495 = n % 4503599627370496 := Nat.and_two_pow_sub_one_eq_mod n 52

theorem nan_bits {n : Nat} (hn : n < 18446744073709551616) :
    (decide (bits .and .u64 (n : Int) 9218868437227405312 = 9218868437227405312) && (bits .and .u64 (n : Int) 4503599627370495 != 0)) = nanN n := by
  have h1 : bits .and .u64 (n : Int) 9218868437227405312 = ((n &&& 9218868437227405312 : Nat) : Int) := bits_and_u64_nat n 9218868437227405312 hn (by omega)
  have h2 : bits .and .u64 (n : Int) 4503599627370495 = ((n &&& 4503599627370495 : Nat) : Int) := bits_and_u64_nat n 4503599627370495 hn (by omega)
  rw [h1, h2, and_high, and_low]
  unfold nanN
  rw [Bool.eq_iff_iff]
  simp only [Bool.and_eq_true, decide_eq_true_eq, bne_iff_ne, ne_eq]
  omega

/-- As the reference has it. -/
theorem canN_ref {n : Nat} (hn : n < 18446744073709551616) : canN n = if nanN n = true then 9221120237041090561 else if n = 9223372036854775808 then 0 else n := by
  unfold canN
  split
  · rfl
  · by_cases h0 : n % 9223372036854775808 = 0
    · rw [if_pos h0]
      split <;> omega
    · rw [if_neg h0, if_neg (by omega)]

theorem canN_lt {n : Nat} (hn : n < 18446744073709551616) : canN n < 18446744073709551616 := by
  unfold canN; split
  · omega
  · split <;> omega


theorem run_of12' (n : Nat) (w : World) : (callFunc 15 #[.int .u64 (n : Int)]).run Tryz.prog w = .ok (.value (.float .f64 n)) w := run_of12 n w

set_option maxRecDepth 100000 in
theorem none_any (w : World) : Calls Tryz.prog 78 #[] w fun e w' => e = .returned (.float .f64 9221120237041090561) ∧ w = w' := by
  have r12 : ∀ w, (callFunc 15 #[.int .u64 9221120237041090561]).run Tryz.prog w = .ok (.value (.float .f64 9221120237041090561)) w := run_of12 9221120237041090561
  go_enter Tryz.func78, Tryz.ntmps78
  go_wp2_with fail
  go_ret
  exact ⟨rfl, rfl⟩

set_option maxRecDepth 100000 in
theorem rnone_any (w : World) : Calls Tryz.prog 112 #[] w fun e w' => e = .returned (.float .f64 9221120237041090561) ∧ w = w' := by
  have r12 : ∀ w, (callFunc 15 #[.int .u64 9221120237041090561]).run Tryz.prog w = .ok (.value (.float .f64 9221120237041090561)) w := run_of12 9221120237041090561
  go_enter Tryz.func112, Tryz.ntmps112
  go_wp2_with fail
  go_ret
  exact ⟨rfl, rfl⟩

set_option maxRecDepth 100000 in
set_option maxHeartbeats 400000 in
theorem canon_any (n : Nat) (w : World) : Calls Tryz.prog 39 #[.float .f64 n] w fun e w' => e = .returned (.float .f64 (canN n)) ∧ w = w' := by
  have hs := order_self n
  cases hn : nanN n with
  | true =>
    have hc : Hid (canN n = 9221120237041090561) := by unfold canN Hid; rw [if_pos hn]
    rw [hn] at hs
    clear hn
    go_enter Tryz.func39, Tryz.ntmps39
    go_wp2_with (go_at_call 78; refine (none_any _).mono ?_; rintro e w' ⟨rfl, rfl⟩)
    go_ret
    exact ⟨by rw [hc.out]; rfl, rfl⟩
  | false =>
    have hz := order_zero hn
    by_cases h0 : n % 9223372036854775808 = 0
    · have hc : Hid (canN n = 0) := by unfold canN Hid; rw [if_neg (by rw [hn]; simp), if_pos h0]
      rw [hn] at hs
      have hz' : (FloatKind.f64.format.order n 0 == some Ordering.eq) = true := by rw [hz]; simp [h0]
      clear hn hz h0
      go_enter Tryz.func39, Tryz.ntmps39
      go_wp2_with fail
      go_ret
      exact ⟨by rw [hc.out]; rfl, rfl⟩
    · have hc : Hid (canN n = n) := by unfold canN Hid; rw [if_neg (by rw [hn]; simp), if_neg h0]
      rw [hn] at hs
      have hz' : (FloatKind.f64.format.order n 0 == some Ordering.eq) = false := by rw [hz]; simp [h0]
      clear hn hz h0
      go_enter Tryz.func39, Tryz.ntmps39
      go_wp2_with fail
      go_ret
      exact ⟨by rw [hc.out]; rfl, rfl⟩

set_option maxRecDepth 100000 in
set_option maxHeartbeats 400000 in
theorem nan_any (n : Nat) (hn : n < 18446744073709551616) (w : World) : Calls Tryz.prog 111 #[.float .f64 n] w fun e w' => e = .returned (.bool (nanN n)) ∧ w = w' := by
  have hb : Hid ((decide (bits .and .u64 (n : Int) 9218868437227405312 = 9218868437227405312) && (bits .and .u64 (n : Int) 4503599627370495 != 0)) = nanN n) := nan_bits hn
  have e31 := run_bits31
  clear hn
  go_enter Tryz.func111, Tryz.ntmps111
  go_wp2_with fail
  all_goals go_ret
  · have h : bits .and .u64 (n : Int) 9218868437227405312 = 9218868437227405312 := by assumption
    exact ⟨by rw [← hb.out, h]; simp, rfl⟩
  · have h : ¬ bits .and .u64 (n : Int) 9218868437227405312 = 9218868437227405312 := by assumption
    exact ⟨by rw [← hb.out]; simp [h], rfl⟩

set_option maxRecDepth 100000 in
set_option maxHeartbeats 400000 in
theorem rcanon_any (n : Nat) (hn : n < 18446744073709551616) (w : World) : Calls Tryz.prog 70 #[.float .f64 n] w fun e w' => e = .returned (.float .f64 (canN n)) ∧ w = w' := by
  have hc : Hid (canN n = if nanN n = true then 9221120237041090561 else if n = 9223372036854775808 then 0 else n) := canN_ref hn
  have hcall : Hid (∀ w, Calls Tryz.prog 111 #[.float .f64 n] w fun e w' => e = .returned (.bool (nanN n)) ∧ w = w') := fun w => nan_any n hn w
  have e31 := run_bits31
  cases hb : nanN n with
  | true =>
    rw [hb] at hc hcall
    clear hb hn
    go_enter Tryz.func70, Tryz.ntmps70
    go_wp2_with (first | (go_at_call 111; refine (hcall.out _).mono ?_; rintro e w' ⟨rfl, rfl⟩) | (go_at_call 112; refine (rnone_any _).mono ?_; rintro e w' ⟨rfl, rfl⟩))
    go_ret
    exact ⟨by rw [hc.out]; rfl, rfl⟩
  | false =>
    rw [hb] at hc hcall
    clear hb hn
    go_enter Tryz.func70, Tryz.ntmps70
    go_wp2_with (go_at_call 111; refine (hcall.out _).mono ?_; rintro e w' ⟨rfl, rfl⟩)
    all_goals go_ret
    · have h : n = 9223372036854775808 := by have h := beq_iff_eq.1 (show ((n : Int) == 9223372036854775808) = true by assumption)
                                             omega
      exact ⟨by rw [hc.out, if_neg (by simp), if_pos h]; rfl, rfl⟩
    · have h : ¬ n = 9223372036854775808 := by have h := beq_eq_false_iff_ne.1 (show ((n : Int) == 9223372036854775808) = false by assumption)
                                               omega
      exact ⟨by rw [hc.out, if_neg (by simp), if_neg h]; rfl, rfl⟩


theorem take_snoc (s : ByteArray) (k : Nat) (h : k < s.size) : s.data.toList.take (k + 1) = s.data.toList.take k ++ [s[k]] := by
  rw [List.take_succ_eq_append_getElem (by simpa using h)]; rfl

/-- What 'Get' comes to. -/
def getE (s : ByteArray) : Nat × Int :=
  if s.size < 8 then (0, 3) else if 8 < s.size then (0, 4) else if canN (beN s.data.toList) = beN s.data.toList then (beN s.data.toList, 0) else (0, 2)

set_option maxRecDepth 100000 in
set_option maxHeartbeats 400000 in
theorem mget_any (s : ByteArray) (w : World) : Calls Tryz.prog 26 #[.string s] w fun e w' => e = .returned (.tuple #[.float .f64 (getE s).1, .int .i64 (getE s).2]) ∧ w = w' := by
  rcases Nat.lt_trichotomy s.size 8 with h | h | h
  · have he : Hid (getE s = (0, 3)) := by unfold getE Hid; rw [if_pos h]
    have l1 : decide ((s.size : Int) < 8) = true := by simp; omega
    clear h
    go_enter Tryz.func26, Tryz.ntmps26
    go_wp2_with fail
    go_ret2
    exact ⟨by rw [he.out]; rfl, rfl⟩
  · have l1 : decide ((s.size : Int) < 8) = false := by simp; omega
    have l2 : decide ((8 : Int) < (s.size : Int)) = false := by simp; omega
    have b8 : 8 ≤ s.size := by omega
    have hl : s.data.toList.length = 8 := by rw [Array.length_toList]; exact h
    have hbe : Hid (s.data.toList.take 8 = s.data.toList) := List.take_of_length_le (by omega)
    have hlt8 := beN_lt8 (l := s.data.toList) (by omega)
    have he : Hid (getE s = if canN (beN s.data.toList) = beN s.data.toList then (beN s.data.toList, 0) else (0, 2)) := by unfold getE Hid; rw [if_neg (by omega), if_neg (by omega)]
    clear h hl
    have r12 := run_of12'
    have r31 := run_bits31
    go_enter Tryz.func26, Tryz.ntmps26
    go_wp2_with fail
    go_loop [4, 15] (fun n i => ∃ k : Nat, k ≤ 8 ∧ i = .int .i64 k ∧ n = .int .u64 (beN (s.data.toList.take k))) (fun _ i => 8 - (intOf i).toNat)
    case atStart => exact ⟨0, by omega, rfl, rfl⟩
    case round =>
      obtain ⟨k, hk, rfl, rfl⟩ := hrel
      by_cases hlt : k < 8
      · have hks : k < s.size := by omega
        have hround : Hid (bits .or .u64 (IntKind.u64.wrap ((beN (s.data.toList.take k) : Nat) * 256)) (IntKind.u64.wrap (s[k].toNat : Int)) = ((beN (s.data.toList.take (k + 1)) : Nat) : Int)) := by
          have h1 := beN_lt (s.data.toList.take k)
          have h2 : (256 : Nat) ^ (s.data.toList.take k).length ≤ 256 ^ 7 := Nat.pow_le_pow_right (by omega) (by rw [List.length_take]; omega)
          have h3 : (256 : Nat) ^ 7 = 72057594037927936 := by decide
          unfold Hid
          rw [shl_or (by omega) s[k].toNat_lt, take_snoc s k hks, beN_snoc]
        go_wp2_with fail
        go_round
        case rel => exact ⟨k + 1, by omega, by go_num, by rw [hround.out]⟩
        case measure => simp [intOf]; omega
      · have hk8 : k = 8 := by omega
        have hx : Hid (beN (s.data.toList.take k) = beN s.data.toList) := by unfold Hid; rw [hk8, hbe.out]
        generalize hb : beN (s.data.toList.take k) = n at *
        have hn : Hid (beN s.data.toList = n) := hx.out.symm
        clear hb hk8 hx
        have hcan : Hid (∀ w, Calls Tryz.prog 39 #[.float .f64 n] w fun e w' => e = .returned (.float .f64 (canN n)) ∧ w = w') := fun w => canon_any n w
        go_wp2_with (go_at_call 39; refine (hcan.out _).mono ?_; rintro e w' ⟨rfl, rfl⟩)
        all_goals go_ret2
        · have h := bne_iff_ne.1 (show ((canN n : Int) != (n : Int)) = true by assumption)
          exact ⟨by rw [he.out, hn.out, if_neg (by omega)]; rfl, rfl⟩
        · have h : canN n = n := by
            have h0 : ((canN n : Int) != (n : Int)) = false := by assumption
            rw [bne_eq_false_iff_eq] at h0; omega
          exact ⟨by rw [he.out, hn.out, if_pos h]; rfl, rfl⟩
  · have he : Hid (getE s = (0, 4)) := by unfold getE Hid; rw [if_neg (by omega), if_pos h]
    have l1 : decide ((s.size : Int) < 8) = false := by simp; omega
    have l2 : decide ((8 : Int) < (s.size : Int)) = true := by simp; omega
    clear h
    go_enter Tryz.func26, Tryz.ntmps26
    go_wp2_with fail
    go_ret2
    exact ⟨by rw [he.out]; rfl, rfl⟩

theorem run_conv1 (w : World) (m : Int) : (convert 66 9 (.slice (some ⟨w.heap.size, 0, none⟩) 1 1)).run Tryz.prog (w.alloc (.cells #[.int .u8 m] 5)) = .ok (.string ⟨⟨[UInt8.ofNat m.toNat]⟩⟩) (w.alloc (.cells #[.int .u8 m] 5)) := by
  have h1 : Tryz.prog.underlying 66 = some (.slice 5) := by kernel_rfl
  have h2 : Tryz.prog.underlying 9 = some .string := by kernel_rfl
  have h5 : Tryz.prog.underlying 5 = some (.int .u8) := by kernel_rfl
  simp only [convert, Sem.run_bind, run_underlying h1, run_underlying h2, run_underlying h5, Result.andThen_ok]
  refine run_bytesToString _ _ 1 1 [m] (run_loadCells_list (P := Tryz.prog) (w := w.alloc (.cells #[.int .u8 m] 5)) ⟨w.heap.size, 0, none⟩ [Value.int .u8 m] ?_)
  intro j v hj
  match j with
  | 0 => cases hj; simp only [World.cell?, Addr.add]; rw [Ev.heap_alloc, if_pos (by simp)]; rfl
  | j + 1 => simp at hj
theorem cat_one (x : UInt8) (l : List UInt8) : (⟨⟨[x]⟩⟩ : ByteArray) ++ ⟨⟨l⟩⟩ = ⟨⟨x :: l⟩⟩ := by
  apply ByteArray.ext
  simp [ByteArray.data_append]

theorem byte_mod (n : Nat) : UInt8.ofNat (n % 256) = UInt8.ofNat n := by
  apply UInt8.toNat_inj.1; simp

theorem wrap_u64 {n : Nat} (h : n < 18446744073709551616) : IntKind.u64.wrap (n : Int) = n := by
  have : (n : Int) < 18446744073709551616 := by omega
  simp [IntKind.wrap, IntKind.bits, IntKind.signed]; omega

set_option maxRecDepth 100000 in
set_option maxHeartbeats 400000 in
theorem rput_any (n : Nat) (hn : n < 18446744073709551616) (w : World) : Calls Tryz.prog 31 #[.float .f64 n] w fun e w' => e = .returned (.string ⟨⟨beL 8 (canN n)⟩⟩) ∧ Below w.heap.size w w' := by
  have hcan : Hid (∀ w, Calls Tryz.prog 70 #[.float .f64 n] w fun e w' => e = .returned (.float .f64 (canN n)) ∧ w = w') := fun w => rcanon_any n hn w
  have hc := canN_lt hn
  clear hn
  generalize canN n = c at *
  have r31 := run_bits31
  have r52 := run_conv1
  go_enter Tryz.func31, Tryz.ntmps31
  go_wp2_with (go_at_call 70; refine (hcan.out _).mono ?_; rintro e w' ⟨rfl, rfl⟩)
  go_loopw [3, 4, 5] (fun nn s i wr => ∃ k : Nat, k ≤ 8 ∧ i = .int .i64 k ∧ nn = .int .u64 ((c / 256 ^ k : Nat) : Int) ∧ s = .string ⟨⟨beL k c⟩⟩ ∧ Below w.heap.size w wr) (fun _ _ i _ => 8 - (intOf i).toNat)
  case atStart => exact ⟨0, by omega, rfl, by simp, rfl, Below.refl _ _⟩
  case round =>
    obtain ⟨k, hk, rfl, rfl, rfl, hb⟩ := hrel
    have hl := beL_length k c
    have hd : c / 256 ^ k < 18446744073709551616 := Nat.lt_of_le_of_lt (Nat.div_le_self _ _) hc
    by_cases hlt : k < 8
    · have hsz : (⟨⟨beL k c⟩⟩ : ByteArray).size = k := hl
      go_wp2_with fail
      have hcat : (⟨⟨[UInt8.ofNat ((c : Int) / 256 ^ k % 256).toNat]⟩⟩ : ByteArray) ++ ⟨⟨beL k c⟩⟩ = ⟨⟨beL (k + 1) c⟩⟩ := by
        have h1 : ((c : Int) / 256 ^ k % 256).toNat = c / 256 ^ k % 256 := by
          have : ((c : Int) / 256 ^ k % 256) = ((c / 256 ^ k % 256 : Nat) : Int) := by simp
          rw [this, Int.toNat_natCast]
        rw [h1, byte_mod]
        exact cat_one _ _
      have hquo : IntKind.u64.wrap (((c : Int) / 256 ^ k).tdiv 256) = ((c / 256 ^ (k + 1) : Nat) : Int) := by
        have h1 : ((c : Int) / 256 ^ k) = ((c / 256 ^ k : Nat) : Int) := by simp
        have h2 : ((c / 256 ^ k : Nat) : Int).tdiv 256 = ((c / 256 ^ (k + 1) : Nat) : Int) := by
          rw [Nat.pow_succ, ← Nat.div_div_eq_div_mul]; rfl
        have h3 : c / 256 ^ (k + 1) ≤ c := Nat.div_le_self _ _
        rw [h1, h2, wrap_u64 (by omega)]
      exact ⟨⟨k + 1, by omega, rfl, by rw [hquo], by rw [hcat], hb.alloc hb.size _⟩, by simp [intOf]; omega⟩
    · have hk8 : k = 8 := by omega
      subst hk8
      go_wp2_with fail
      go_ret
      exact ⟨rfl, hb⟩

theorem mul_add_u64 {n b : Nat} (h : 256 * n + b < 18446744073709551616) : IntKind.u64.wrap (IntKind.u64.wrap (256 * (n : Int)) + IntKind.u64.wrap (b : Int)) = ((256 * n + b : Nat) : Int) := by
  have h1 : (256 * (n : Int)) = ((256 * n : Nat) : Int) := by simp
  rw [h1, wrap_u64 (by omega), wrap_u64 (by omega), ← wrap_u64 h]; rfl

set_option maxRecDepth 100000 in
set_option maxHeartbeats 400000 in
theorem rget_any (s : ByteArray) (w : World) : Calls Tryz.prog 46 #[.string s] w fun e w' => e = .returned (.tuple #[.float .f64 (getE s).1, .int .i64 (getE s).2]) ∧ Below w.heap.size w w' := by
  rcases Nat.lt_trichotomy s.size 8 with h | h | h
  · have he : Hid (getE s = (0, 3)) := by unfold getE Hid; rw [if_pos h]
    have l1 : decide ((s.size : Int) < 8) = true := by simp; omega
    clear h
    go_enter Tryz.func46, Tryz.ntmps46
    go_wp2_with fail
    go_ret2
    exact ⟨by rw [he.out]; rfl, Below.refl _ _⟩
  · have l1 : decide ((s.size : Int) < 8) = false := by simp; omega
    have l2 : decide ((8 : Int) < (s.size : Int)) = false := by simp; omega
    have b8 : 8 ≤ s.size := by omega
    have hl8 : Hid (s.data.toList.length = 8) := by unfold Hid; rw [Array.length_toList]; exact h
    have hl : s.data.toList.length = 8 := by rw [Array.length_toList]; exact h
    have hbe : Hid (s.data.toList.take 8 = s.data.toList) := List.take_of_length_le (by omega)
    have hlt8 := beN_lt8 (l := s.data.toList) (by omega)
    have he : Hid (getE s = if canN (beN s.data.toList) = beN s.data.toList then (beN s.data.toList, 0) else (0, 2)) := by unfold getE Hid; rw [if_neg (by omega), if_neg (by omega)]
    clear h hl
    have r12 := run_of12'
    go_enter Tryz.func46, Tryz.ntmps46
    go_wp2_with fail
    go_loop [4, 5] (fun n i => ∃ k : Nat, k ≤ 8 ∧ i = .int .i64 k ∧ n = .int .u64 (beN (s.data.toList.take k))) (fun _ i => 8 - (intOf i).toNat)
    case atStart => exact ⟨0, by omega, rfl, rfl⟩
    case round =>
      obtain ⟨k, hk, rfl, rfl⟩ := hrel
      by_cases hlt : k < 8
      · have hks : k < s.size := by omega
        have hround : Hid (IntKind.u64.wrap (IntKind.u64.wrap (256 * ((beN (s.data.toList.take k) : Nat) : Int)) + IntKind.u64.wrap (s[k].toNat : Int)) = ((beN (s.data.toList.take (k + 1)) : Nat) : Int)) := by
          have h1 := beN_lt (s.data.toList.take k)
          have h2 : (256 : Nat) ^ (s.data.toList.take k).length ≤ 256 ^ 7 := Nat.pow_le_pow_right (by omega) (by rw [List.length_take]; omega)
          have h3 : (256 : Nat) ^ 7 = 72057594037927936 := by decide
          have h4 := s[k].toNat_lt
          unfold Hid
          rw [mul_add_u64 (by omega), take_snoc s k hks, beN_snoc]
        go_wp2_with fail
        go_round
        case rel => exact ⟨k + 1, by omega, by go_num, by rw [hround.out]⟩
        case measure => simp [intOf]; omega
      · have hk8 : k = 8 := by omega
        have hx : Hid (beN (s.data.toList.take k) = beN s.data.toList) := by unfold Hid; rw [hk8, hbe.out]
        generalize hb : beN (s.data.toList.take k) = n at *
        have hn : Hid (beN s.data.toList = n) := hx.out.symm
        have hnlt : Hid (n < 18446744073709551616) := by unfold Hid; rw [← hn.out]; exact hlt8
        clear hb hk8 hx
        have hput : Hid (∀ w, Calls Tryz.prog 31 #[.float .f64 n] w fun e w' => e = .returned (.string ⟨⟨beL 8 (canN n)⟩⟩) ∧ Below w.heap.size w w') := fun w => rput_any n hnlt.out w
        go_wp2_with (go_at_call 31; refine (hput.out _).mono ?_; rintro e w' ⟨rfl, hB⟩)
        all_goals go_ret2
        · have h : (!beL 8 (canN n) == s.toList) = true := by assumption
          rw [Go.ByteArray.toList_eq, Bool.not_eq_true', beq_eq_false_iff_ne] at h
          have h' : ¬ canN n = n := fun hh => h ((beL_eq_iff (canN_lt hnlt.out) hl8.out).2 (by rw [hn.out]; exact hh))
          exact ⟨by rw [he.out, hn.out, if_neg h']; rfl, by assumption⟩
        · have h : (!beL 8 (canN n) == s.toList) = false := by assumption
          rw [Go.ByteArray.toList_eq, Bool.not_eq_false', beq_iff_eq, beL_eq_iff (canN_lt hnlt.out) hl8.out, hn.out] at h
          exact ⟨by rw [he.out, hn.out, if_pos h]; rfl, by assumption⟩
  · have he : Hid (getE s = (0, 4)) := by unfold getE Hid; rw [if_neg (by omega), if_pos h]
    have l1 : decide ((s.size : Int) < 8) = false := by simp; omega
    have l2 : decide ((8 : Int) < (s.size : Int)) = true := by simp; omega
    clear h
    go_enter Tryz.func46, Tryz.ntmps46
    go_wp2_with fail
    go_ret2
    exact ⟨by rw [he.out]; rfl, Below.refl _ _⟩
theorem run_conv8 (w : World) (B c : Nat) (h : ∀ j, j < 8 → w.cell? ⟨B, j, none⟩ = some (.int .u8 ((c / 256 ^ (7 - j) % 256 : Nat) : Int))) :
    (convert 66 9 (.slice (some ⟨B, 0, none⟩) 8 8)).run Tryz.prog w = .ok (.string ⟨⟨beL 8 c⟩⟩) w := by
  have h1 : Tryz.prog.underlying 66 = some (.slice 5) := by kernel_rfl
  have h2 : Tryz.prog.underlying 9 = some .string := by kernel_rfl
  have h5 : Tryz.prog.underlying 5 = some (.int .u8) := by kernel_rfl
  have hrun := run_loadCells_list (P := Tryz.prog) (w := w) ⟨B, 0, none⟩ (((List.range 8).map fun j => ((c / 256 ^ (7 - j) % 256 : Nat) : Int)).map (Value.int .u8)) (fun j v hj => by
    rw [List.map_map, List.getElem?_map] at hj
    by_cases h8 : j < 8
    · rw [List.getElem?_range h8] at hj
      cases hj
      rw [show (⟨B, 0, none⟩ : Addr).add j = ⟨B, j, none⟩ by cases j <;> simp [Addr.add]]
      exact h j h8
    · rw [List.getElem?_eq_none (by simpa using h8)] at hj
      cases hj)
  rw [List.length_map, List.length_map, List.length_range] at hrun
  simp only [convert, Sem.run_bind, run_underlying h1, run_underlying h2, run_underlying h5, Result.andThen_ok]
  rw [run_bytesToString w ⟨B, 0, none⟩ 8 8 _ hrun, Ev.fold_push]
  refine congrArg (fun l => Result.ok (Value.string ⟨⟨l⟩⟩) w) ?_
  rw [List.map_map]
  have e : ((fun n : Int => UInt8.ofNat n.toNat) ∘ fun j => ((c / 256 ^ (7 - j) % 256 : Nat) : Int)) = fun j => UInt8.ofNat (c / 256 ^ (7 - j)) := by
    funext j
    show UInt8.ofNat (((c / 256 ^ (7 - j) % 256 : Nat) : Int)).toNat = _
    rw [Int.toNat_natCast, byte_mod]
  rw [e]
  simp [List.range, List.range.loop, beL]

set_option maxRecDepth 100000 in
set_option maxHeartbeats 800000 in
theorem mput_any (n : Nat) (hn : n < 18446744073709551616) (w : World) : Calls Tryz.prog 20 #[.float .f64 n] w fun e w' => e = .returned (.string ⟨⟨beL 8 (canN n)⟩⟩) ∧ Below w.heap.size w w' := by
  have hcan : Hid (∀ w, Calls Tryz.prog 39 #[.float .f64 n] w fun e w' => e = .returned (.float .f64 (canN n)) ∧ w = w') := fun w => canon_any n w
  have hc := canN_lt hn
  clear hn
  generalize canN n = c at *
  have r31 := run_bits31
  go_enter Tryz.func20, Tryz.ntmps20
  go_wp2_with (go_at_call 39; refine (hcan.out _).mono ?_; rintro e w' ⟨rfl, rfl⟩)
  go_loopw [5, 9] (fun u i wr => ∃ k : Nat, k ≤ 8 ∧ i = .int .i64 k ∧ (∀ j, j < 8 → wr.frozen? ⟨w.heap.size, j, none⟩ = false ∧ ∃ b, wr.cell? ⟨w.heap.size, j, none⟩ = some (.int .u8 b) ∧ (j < k → b = ((c / 256 ^ (7 - j) % 256 : Nat) : Int))) ∧ Below w.heap.size w wr) (fun _ i _ => 8 - (intOf i).toNat)
  case atStart =>
    refine ⟨0, by omega, rfl, fun j hj => ⟨?_, 0, ?_, fun h => by omega⟩, (Below.refl _ _).alloc (Nat.le_refl _) _⟩
    · simp only [World.frozen?, Ev.heap_alloc, if_pos]
      rfl
    · simp only [World.cell?, Ev.heap_alloc, if_pos]
      match j, hj with
      | 0, _ => rfl
      | 1, _ => rfl
      | 2, _ => rfl
      | 3, _ => rfl
      | 4, _ => rfl
      | 5, _ => rfl
      | 6, _ => rfl
      | 7, _ => rfl
  case round =>
    obtain ⟨k, hk, rfl, hrow, hb⟩ := hrel
    by_cases hlt : k < 8
    · obtain ⟨hfz, b, hcell, _⟩ := hrow k hlt
      have hrow' : Hid (∀ j, j < 8 → wr.frozen? ⟨w.heap.size, j, none⟩ = false ∧ ∃ b, wr.cell? ⟨w.heap.size, j, none⟩ = some (.int .u8 b) ∧ (j < k → b = ((c / 256 ^ (7 - j) % 256 : Nat) : Int))) := hrow
      clear hrow
      go_wp2_with fail
      have hval : ((c : Int) / 2 ^ (8 * (7 - k)) % 256) = ((c / 256 ^ (7 - k) % 256 : Nat) : Int) := by
        have : (2 : Int) ^ (8 * (7 - k)) = ((256 ^ (7 - k) : Nat) : Int) := by rw [Int.pow_mul]; simp
        rw [this]; rfl
      rw [hval]
      refine ⟨⟨k + 1, by omega, rfl, fun j hj => ?_, hb.setCell (Nat.le_refl _) _⟩, by simp [intOf]; omega⟩
      obtain ⟨h1, b', h2, h3⟩ := hrow'.out j hj
      refine ⟨by rw [World.frozen?_setCell]; exact h1, ?_⟩
      by_cases hjk : j = k
      · subst hjk
        exact ⟨_, World.cell?_setCell_same _ _ _ hcell, fun _ => rfl⟩
      · exact ⟨b', by rw [World.cell?_setCell_other _ _ _ _ (fun e => hjk (Addr.mk.inj e).2.1.symm)]; exact h2, fun h => h3 (by omega)⟩
    · have hk8 : k = 8 := by omega
      subst hk8
      have hconv := run_conv8 wr w.heap.size c (fun j hj => by
        obtain ⟨_, b, h2, h3⟩ := hrow j hj
        rw [h2, h3 hj])
      have hrow' : Hid (∀ j, j < 8 → wr.frozen? ⟨w.heap.size, j, none⟩ = false ∧ ∃ b, wr.cell? ⟨w.heap.size, j, none⟩ = some (.int .u8 b) ∧ (j < 8 → b = ((c / 256 ^ (7 - j) % 256 : Nat) : Int))) := hrow
      clear hrow
      go_wp2_with fail
      go_ret
      exact ⟨rfl, hb⟩

set_option maxRecDepth 100000 in
theorem canN_canN (n : Nat) : canN (canN n) = canN n := by
  have h1 : canN 9221120237041090561 = 9221120237041090561 := by decide
  have h2 : canN 0 = 0 := by decide
  cases h : nanN n with
  | true => rw [show canN n = 9221120237041090561 by unfold canN; rw [if_pos h], h1]
  | false =>
    by_cases h0 : n % 9223372036854775808 = 0
    · rw [show canN n = 0 by unfold canN; rw [if_neg (by rw [h]; simp), if_pos h0], h2]
    · have : canN n = n := by unfold canN; rw [if_neg (by rw [h]; simp), if_neg h0]
      rw [this, this]

theorem getE_put {n : Nat} (hn : n < 18446744073709551616) : getE ⟨⟨beL 8 (canN n)⟩⟩ = (canN n, 0) := by
  have hs : (⟨⟨beL 8 (canN n)⟩⟩ : ByteArray).size = 8 := beL_length 8 _
  have hb : beN (beL 8 (canN n)) = canN n := by rw [beN_beL, Nat.mod_eq_of_lt (by simpa using canN_lt hn)]
  unfold getE
  rw [if_neg (by omega), if_neg (by omega)]
  show (if canN (beN (beL 8 (canN n))) = beN (beL 8 (canN n)) then (beN (beL 8 (canN n)), 0) else (0, 2)) = _
  rw [hb, canN_canN, if_pos rfl]
end Go.Proofs.YtcdcchkaohnkdaaGreatDoor
