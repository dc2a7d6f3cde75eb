/- Plain facts on the words of floats. No program in sight. -/
import GoSem.Core.Float
import Derived.WalkKit
namespace Go.Proofs.YtpbombkmnfbcgaaGreatDoor

/-! ## Words of floats -/
/-- No number? -/
def nanN (n : Nat) : Bool := decide (9218868437227405312 < n % 9223372036854775808)

/-- The word as which a word counts. -/
def canN (n : Nat) : Nat := if nanN n = true then 9221120237041090561 else if n % 9223372036854775808 = 0 then 0 else n

def fmt : Ieee.Format := FloatKind.f64.format

theorem sw : fmt.signWeight = 9223372036854775808 := by decide
theorem bin : fmt.binade = 4503599627370496 := by decide
theorem inf : fmt.infRung = 9218868437227405312 := by decide

theorem read_cases (n : Nat) : (nanN n = true ∧ ∃ s t, fmt.read n = .nan s t) ∨ (nanN n = false ∧ ((∃ s, fmt.read n = .infinity s) ∨
    (n % 9223372036854775808 = 0 ∧ ∃ s, fmt.read n = .number s 0 fmt.leastPlace) ∨ (n % 9223372036854775808 ≠ 0 ∧ ∃ s m p, fmt.read n = .number s (m + 1) p ∧ fmt.leastPlace ≤ p))) := by
  unfold Ieee.Format.read nanN
  simp only [sw, bin, inf]
  generalize n % 9223372036854775808 = r
  by_cases h1 : r < 4503599627370496
  · right
    refine ⟨by simp; omega, .inr ?_⟩
    rw [if_pos h1]
    by_cases h0 : r = 0
    · subst h0; exact .inl ⟨rfl, _, rfl⟩
    · refine .inr ⟨h0, n / 9223372036854775808 % 2 == 1, r - 1, fmt.leastPlace, ?_, Int.le_refl _⟩
      rw [show r - 1 + 1 = r by omega]
  · rw [if_neg h1]
    by_cases h2 : r < 9218868437227405312
    · right
      rw [if_pos h2]
      refine ⟨by simp; omega, .inr (.inr ⟨by omega, n / 9223372036854775808 % 2 == 1, 4503599627370496 + r % 4503599627370496 - 1, fmt.leastPlace + (r / 4503599627370496 - 1 : Nat), ?_, by omega⟩)⟩
      rw [show 4503599627370496 + r % 4503599627370496 - 1 + 1 = 4503599627370496 + r % 4503599627370496 by omega]
    · rw [if_neg h2]
      by_cases h3 : r = 9218868437227405312
      · right
        rw [if_pos h3]
        exact ⟨by simp; omega, .inl ⟨_, rfl⟩⟩
      · left
        rw [if_neg h3]
        exact ⟨by simp; omega, _, _, rfl⟩

theorem order_self (n : Nat) : (FloatKind.f64.format.order n n != some Ordering.eq) = nanN n := by
  show (((fmt.read n).order (fmt.read n)) != some Ordering.eq) = nanN n
  rcases read_cases n with ⟨h, s, t, hr⟩ | ⟨h, ⟨s, hr⟩ | ⟨_, s, hr⟩ | ⟨_, s, m, p, hr, _⟩⟩
  · rw [hr, h]; rfl
  · rw [hr, h]; cases s <;> rfl
  · rw [hr, h]
    simp [Ieee.Datum.order, compare, compareOfLessAndEq]
  · rw [hr, h]
    simp [Ieee.Datum.order, compare, compareOfLessAndEq]


theorem read_zero : fmt.read 0 = .number false 0 fmt.leastPlace := by decide

theorem order_zero {n : Nat} (h : nanN n = false) : (FloatKind.f64.format.order n 0 == some Ordering.eq) = decide (n % 9223372036854775808 = 0) := by
  show (((fmt.read n).order (fmt.read 0)) == some Ordering.eq) = _
  rw [read_zero]
  rcases read_cases n with ⟨h', _⟩ | ⟨_, ⟨s, hr⟩ | ⟨h0, s, hr⟩ | ⟨h0, s, m, p, hr, hp⟩⟩
  · rw [h] at h'; cases h'
  · have h0 : n % 9223372036854775808 ≠ 0 := by
      intro h0
      unfold Ieee.Format.read at hr
      simp only [sw, bin, h0] at hr
      rw [if_pos (by omega)] at hr
      cases hr
    rw [hr]
    cases s <;> simp [Ieee.Datum.order, h0]
  · rw [hr]
    cases s <;> simp [Ieee.Datum.order, Ieee.signed, h0, compare, compareOfLessAndEq]
  · rw [hr]
    have e : (fmt.leastPlace - min p fmt.leastPlace).toNat = 0 := by omega
    have hpos : 0 < (m + 1) <<< (p - min p fmt.leastPlace).toNat := by
      rw [Nat.shiftLeft_eq]; exact Nat.mul_pos (by omega) (Nat.pow_pos (by omega))
    generalize hq : (m + 1) <<< (p - min p fmt.leastPlace).toNat = q at hpos
    cases s
    · have hc : compare (q : Int) ((0 : Nat) : Int) = Ordering.gt := by
        show compareOfLessAndEq _ _ = _
        unfold compareOfLessAndEq
        rw [if_neg (by omega), if_neg (by omega)]
      simp only [Ieee.Datum.order, Ieee.signed, hq, Bool.false_eq_true, if_false, Nat.zero_shiftLeft, hc]
      simp [h0]
    · have hc : compare (-(q : Int)) ((0 : Nat) : Int) = Ordering.lt := by
        show compareOfLessAndEq _ _ = _
        unfold compareOfLessAndEq
        rw [if_pos (by omega)]
      simp only [Ieee.Datum.order, Ieee.signed, hq, if_true, Bool.false_eq_true, if_false, Nat.zero_shiftLeft, hc]
      simp [h0]

theorem canN_canN (n : Nat) : canN (canN n) = canN n := by
  have h1 : canN 9221120237041090561 = 9221120237041090561 := by decide
  have h2 : canN 0 = 0 := by decide
  cases h : nanN n with
  | true => rw [show canN n = 9221120237041090561 by unfold canN; rw [if_pos h], h1]
  | false =>
    by_cases h0 : n % 9223372036854775808 = 0
    · rw [show canN n = 0 by unfold canN; rw [if_neg (by rw [h]; simp), if_pos h0], h2]
    · have : canN n = n := by unfold canN; rw [if_neg (by rw [h]; simp), if_neg h0]
      rw [this, this]

end Go.Proofs.YtpbombkmnfbcgaaGreatDoor
