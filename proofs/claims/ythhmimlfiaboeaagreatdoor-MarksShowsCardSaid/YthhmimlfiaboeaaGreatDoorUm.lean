/- a number times a power of ten, scaled: what the two products say of it numbers with two bits more: how they round reading: a decimal in the rounding interval of a number rounds to it -/
import Derived.Test.YthhmimlfiaboeaaGreatDoorGap
namespace Go.Proofs.YthhmimlfiaboeaaGreatDoor.Us

/-- Where a value lies by its approximation from above. -/
theorem usc_core (A M pm : Nat) (x l2 Y : Int) (hM : 0 < M) (hx0 : 0 < x) (hx2 : x < 18446744073709551616)
    (hb1 : (A : Int) * 680564733841876926926749214863536422912 ≤ pm * M) (hb2 : (pm : Int) * M < A * 680564733841876926926749214863536422912 + M)
    (hK : x * pm = Y * 18446744073709551616 - l2) (hl1 : 0 ≤ l2) (hl2 : l2 < 18446744073709551616) :
    2 * x * A * 18446744073709551616 ≤ Y * M ∧ (Y - 2) * M < 2 * x * A * 18446744073709551616 := by
  have hMi : (0 : Int) < M := by exact_mod_cast hM
  have k1 := Int.mul_le_mul_of_nonneg_left hb1 (Int.le_of_lt hx0)
  have k2 := Int.mul_lt_mul_of_pos_left hb2 hx0
  have k3 : x * (pm * M) = (Y * 18446744073709551616 - l2) * M := by rw [← hK]; grind
  rw [k3] at k1 k2
  have k4 : 0 ≤ l2 * M := Int.mul_nonneg hl1 (Int.le_of_lt hMi)
  have k5 : l2 * M + M ≤ 18446744073709551616 * M := by
    have := Int.mul_le_mul_of_nonneg_right (show l2 + 1 ≤ 18446744073709551616 by omega) (Int.le_of_lt hMi)
    grind
  have k6 : x * M + M ≤ 18446744073709551616 * M := by
    have := Int.mul_le_mul_of_nonneg_right (show x + 1 ≤ 18446744073709551616 by omega) (Int.le_of_lt hMi)
    grind
  exact ⟨by grind, by grind⟩

/-- No multiple lies near the value, but where they meet. -/
def Far (T M S : Nat) : Prop := ∀ N : Int, (T : Int) * 18446744073709551616 = N * (S * 18446744073709551616) * M ∨ N * (S * 18446744073709551616) * M + 2 * M ≤ (T : Int) * 18446744073709551616 ∨ (T : Int) * 18446744073709551616 + 2 * M ≤ N * (S * 18446744073709551616) * M

theorem far_of_gap (A M B E X s t : Nat) (ht : E ≤ t + 63) (hs : t ≤ s) (hX : 0 < X) (hX2 : X < B) (hG : Gap A M B E) : Far (2 ^ t * (X * A)) M (2 ^ s) := by
  intro N
  have hN := hG X (N * 2 ^ (s - t)) hX hX2
  have e1 : N * (((2 ^ s : Nat) : Int) * 18446744073709551616) * M = (N * 2 ^ (s - t) * M) * 2 ^ t * 18446744073709551616 := by
    have : (2 : Int) ^ s = 2 ^ (s - t) * 2 ^ t := by rw [← Int.pow_add]; congr 1; omega
    rw [show ((2 ^ s : Nat) : Int) = 2 ^ s from by push_cast; rfl, this]; grind
  rw [e1]
  have e2 : ((2 ^ t * (X * A) : Nat) : Int) = 2 ^ t * ((X : Int) * A) := by push_cast; rfl
  rw [e2]
  have e3 : (2 : Int) ^ t * 18446744073709551616 = 2 ^ E * (2 ^ (t + 63 - E) * 2) := by
    rw [show (18446744073709551616 : Int) = 2 ^ 63 * 2 from rfl, ← Int.mul_assoc, ← Int.pow_add, ← Int.mul_assoc, ← Int.pow_add]; congr 2; omega
  have hp : (1 : Int) ≤ 2 ^ (t + 63 - E) := by
    have : (1 : Nat) ≤ 2 ^ (t + 63 - E) := Nat.one_le_two_pow
    exact_mod_cast this
  generalize N * 2 ^ (s - t) * (M : Int) = z at *
  generalize (X : Int) * A = y at *
  have w1 : z * 2 ^ t * 18446744073709551616 = z * (2 ^ E * (2 ^ (t + 63 - E) * 2)) := by rw [← e3]; grind
  have w2 : 2 ^ t * y * 18446744073709551616 = y * (2 ^ E * (2 ^ (t + 63 - E) * 2)) := by rw [← e3]; grind
  rw [w1, w2]
  generalize (2 : Int) ^ (t + 63 - E) = u at *
  generalize (2 : Int) ^ E = v at *
  have hM : (0 : Int) ≤ M := Int.natCast_nonneg M
  have k1 : (M : Int) ≤ M * u := by
    have := Int.mul_le_mul_of_nonneg_left hp hM
    rwa [Int.mul_one] at this
  rcases hN with h1 | h1 | h1
  · left
    have : y = z := by omega
    rw [this]
  · right; left
    have := Int.mul_le_mul_of_nonneg_right h1 (show 0 ≤ u by omega)
    grind
  · right; right
    have := Int.mul_le_mul_of_nonneg_right h1 (show 0 ≤ u by omega)
    grind

theorem mono {M : Int} (hM : 0 < M) (a b : Int) (hab : a ≤ b) : a * M ≤ b * M := Int.mul_le_mul_of_nonneg_right hab (Int.le_of_lt hM)
/-- The three cases. -/
theorem usc_cases (M S h N r mid m2 Y t : Int) (hM : 0 < M) (hS0 : 0 < S) (hh : h = S * N + r) (hr1 : 0 ≤ r) (hr2 : r < S) (hm1 : 0 ≤ mid) (hm2 : mid < 18446744073709551616) (hq1 : 0 ≤ m2) (hq2 : m2 + 2 ≤ 18446744073709551616) (hY : Y = h * 18446744073709551616 + mid - m2)
    (c1 : t ≤ Y * M) (c2 : (Y - 2) * M < t) (c3 : ∀ N : Int, t = N * (S * 18446744073709551616) * M ∨ N * (S * 18446744073709551616) * M + 2 * M ≤ t ∨ t + 2 * M ≤ N * (S * 18446744073709551616) * M) :
    (r ≠ 0 → N * (S * 18446744073709551616) * M < t ∧ t < (N + 1) * (S * 18446744073709551616) * M) ∧
    (r = 0 → m2 ≤ mid → N * (S * 18446744073709551616) * M ≤ t ∧ t < (N + 1) * (S * 18446744073709551616) * M ∧ (t = N * (S * 18446744073709551616) * M ↔ mid - m2 ≤ 1)) ∧
    (r = 0 → mid < m2 → (N - 1) * (S * 18446744073709551616) * M < t ∧ t < N * (S * 18446744073709551616) * M) := by
  have cN := c3 N
  have e1 : (N + 1) * (S * 18446744073709551616) = N * (S * 18446744073709551616) + S * 18446744073709551616 := by rw [Int.add_mul, Int.one_mul]
  have e2 : (N - 1) * (S * 18446744073709551616) = N * (S * 18446744073709551616) - S * 18446744073709551616 := by rw [Int.sub_mul, Int.one_mul]
  rw [e1, e2]
  have hYZ : Y = N * (S * 18446744073709551616) + r * 18446744073709551616 + mid - m2 := by rw [hY, hh]; clear cN c1 c2 c3 e1 e2; grind
  clear e1 e2 c3 hY hh
  generalize N * (S * 18446744073709551616) = Z at *
  refine ⟨fun h0 => ?_, fun h0 h1 => ?_, fun h0 h1 => ?_⟩
  · have g1 := mono hM (Z + 1) Y (by omega)
    have g2 := mono hM Y (Z + S * 18446744073709551616 - 1) (by omega)
    have g3 := mono hM (Z - 1) (Y - 2) (by omega)
    refine ⟨?_, by grind⟩
    rcases cN with e | e | e
    · exfalso
      -- exact, though the low bits say otherwise
      have : ¬ (Z + 2 ≤ Y) := by
        intro hc
        have := mono hM Z (Y - 2) (by omega)
        grind
      omega
    · grind
    · exfalso; grind
  · subst h0
    have g3 := mono hM (Z - 2) (Y - 2) (by omega)
    have g2 := mono hM Y (Z + S * 18446744073709551616 - 1) (by omega)
    refine ⟨?_, by grind, ?_, ?_⟩
    · rcases cN with e | e | e
      · grind
      · grind
      · exfalso; grind
    · intro e
      have : ¬ (Z + 2 ≤ Y) := by
        intro hc
        have := mono hM Z (Y - 2) (by omega)
        grind
      omega
    · intro e
      have g4 := mono hM Y (Z + 1) (by omega)
      rcases cN with e | e | e
      · exact e
      · exfalso; grind
      · exfalso; grind
  · subst h0
    have g1 := mono hM Y (Z - 1) (by omega)
    have g2 := mono hM (Z - S * 18446744073709551616) (Y - 2) (by omega)
    exact ⟨by grind, by grind⟩

theorem div_is {T B q : Nat} (h1 : q * B ≤ T) (h2 : T < (q + 1) * B) : T / B = q := Nat.div_eq_of_lt_le h1 h2

theorem to_nat (M S n T : Nat) (t : Int) (ht : t = T * 18446744073709551616) : ((n : Int) * (S * 18446744073709551616) * M ≤ t ↔ n * (M * S) ≤ T) ∧ (t < (n : Int) * (S * 18446744073709551616) * M ↔ T < n * (M * S)) ∧ (t = (n : Int) * (S * 18446744073709551616) * M ↔ T = n * (M * S)) := by
  have e : (n : Int) * (S * 18446744073709551616) * M = ((n * (M * S) : Nat) : Int) * 18446744073709551616 := by push_cast; grind
  rw [e, ht]
  refine ⟨?_, ?_, ?_⟩ <;> omega

set_option maxRecDepth 10000 in
/-- What the two halves of the product say of the scaled number. -/
theorem usc_says (A M hi lo s : Nat) (hM : 0 < M) (hA : 0 < A) (hlo : lo < 18446744073709551616) (hle : lo ≤ hi * 18446744073709551616)
    (hb1 : A * 680564733841876926926749214863536422912 ≤ (hi * 18446744073709551616 - lo) * M) (hb2 : (hi * 18446744073709551616 - lo) * M < A * 680564733841876926926749214863536422912 + M) (x : Nat) (hx0 : 0 < x) (hx2 : x < 18446744073709551616) (hF : Far (2 * x * A) M (2 ^ s))
    (h mid m2 q : Nat) (eh : x * hi / 18446744073709551616 = h) (em : x * hi % 18446744073709551616 = mid) (e2 : x * lo / 18446744073709551616 = m2) (eq : 2 * x * A / (M * 2 ^ s) = q) :
    (h % 2 ^ s ≠ 0 → q = h / 2 ^ s ∧ 2 * x * A % (M * 2 ^ s) ≠ 0) ∧
    (h % 2 ^ s = 0 → m2 ≤ mid → q = h / 2 ^ s ∧ (2 * x * A % (M * 2 ^ s) = 0 ↔ mid - m2 ≤ 1)) ∧
    (h % 2 ^ s = 0 → mid < m2 → 0 < h ∧ q = (h - 1) / 2 ^ s ∧ 2 * x * A % (M * 2 ^ s) ≠ 0 ∧ m2 + 2 ≤ mid + 18446744073709551616) := by
  have hS0 : 0 < 2 ^ s := Nat.two_pow_pos s
  have dW := Nat.div_add_mod (x * hi) (18446744073709551616)
  have dL := Nat.div_add_mod (x * lo) (18446744073709551616)
  have lL := Nat.mod_lt (x * lo) (show 0 < 18446744073709551616 by decide)
  have lm := Nat.mod_lt (x * hi) (show 0 < 18446744073709551616 by decide)
  -- m2 is at most 2^64 - 2
  have hm2 : m2 + 2 ≤ 18446744073709551616 := by
    have : x * lo ≤ (18446744073709551616 - 1) * (18446744073709551616 - 1) := Nat.mul_le_mul (by omega) (by omega)
    rw [← e2]
    have : x * lo / 18446744073709551616 < 18446744073709551616 - 1 := by
      apply Nat.div_lt_of_lt_mul
      omega
    omega
  rw [eh, em] at dW
  rw [e2] at dL
  rw [em] at lm
  generalize x * lo % 18446744073709551616 = l2 at *
  have hcast : ((hi * 18446744073709551616 - lo : Nat) : Int) = (hi : Int) * 18446744073709551616 - lo := by
    omega
  obtain ⟨Y, hY⟩ : ∃ Y : Int, Y = (h : Int) * 18446744073709551616 + mid - m2 := ⟨_, rfl⟩
  have hK : (x : Int) * ((hi * 18446744073709551616 - lo : Nat) : Int) = Y * 18446744073709551616 - l2 := by
    rw [hcast, hY]
    have w1 : ((18446744073709551616 * h + mid : Nat) : Int) = ((x * hi : Nat) : Int) := by rw [dW]
    have w2 : ((18446744073709551616 * m2 + l2 : Nat) : Int) = ((x * lo : Nat) : Int) := by rw [dL]
    rw [Int.natCast_add, Int.natCast_mul, Int.natCast_mul] at w1 w2
    simp only [Int.cast_ofNat_Int] at w1 w2
    clear eh em e2
    grind
  have hb1' : (A : Int) * 680564733841876926926749214863536422912 ≤ ((hi * 18446744073709551616 - lo : Nat) : Int) * M := by (have := Int.ofNat_le.2 hb1; rw [Int.natCast_mul, Int.natCast_mul] at this; exact this)
  have hb2' : ((hi * 18446744073709551616 - lo : Nat) : Int) * M < (A : Int) * 680564733841876926926749214863536422912 + M := by (have := Int.ofNat_lt.2 hb2; rw [Int.natCast_mul, Int.natCast_add, Int.natCast_mul] at this; exact this)
  obtain ⟨c1, c2⟩ := usc_core A M (hi * 18446744073709551616 - lo) x l2 Y hM (by omega) (by omega) hb1' hb2' hK (Int.natCast_nonneg _) (by omega)
  have c3 := hF
  have hMi : (0 : Int) < M := by exact_mod_cast hM
  have hT0 : 0 < 2 * x * A := Nat.mul_pos (by omega) hA
  have ht : (2 : Int) * x * A * 18446744073709551616 = ((2 * x * A : Nat) : Int) * 18446744073709551616 := by push_cast; rfl
  rw [ht] at c1 c2
  clear ht hK hb1' hb2' hcast hb1 hb2 hF
  unfold Far at c3
  generalize 2 * x * A = T at *
  have dh := Nat.div_add_mod h (2 ^ s)
  have lh := Nat.mod_lt h hS0
  generalize 2 ^ s = S at *
  generalize hN : h / S = N at *
  generalize hr : h % S = r at *
  have hQ := usc_cases M S h N r mid m2 Y ((T : Int) * 18446744073709551616) hMi (by omega) (by rw [← dh]; push_cast; rfl) (by omega) (by omega) (by omega) (by omega) (by omega) (by omega) hY c1 c2 c3
  have tn := fun n => to_nat M S n T ((T : Int) * 18446744073709551616) rfl
  have c2' : ((N : Int) + 1) = ((N + 1 : Nat) : Int) := by push_cast; rfl
  rw [c2'] at hQ
  have ex : ∀ n, T / (M * S) = n → (T % (M * S) = 0 ↔ T = n * (M * S)) := by
    intro n hn
    have := Nat.div_add_mod T (M * S)
    rw [hn, Nat.mul_comm] at this
    omega
  refine ⟨fun h0 => ?_, fun h0 h1 => ?_, fun h0 h1 => ?_⟩
  · obtain ⟨a1, a2⟩ := hQ.1 (by omega)
    have b1 := (tn N).1.1 (Int.le_of_lt a1)
    have b2 := (tn (N + 1)).2.1.1 a2
    have b3 := div_is b1 b2
    refine ⟨eq.symm.trans b3, fun hz => ?_⟩
    have := (tn N).2.2.2 ((ex N b3).1 hz)
    omega
  · obtain ⟨a1, a2, a3⟩ := hQ.2.1 (by omega) (by omega)
    have b1 := (tn N).1.1 a1
    have b2 := (tn (N + 1)).2.1.1 a2
    have b3 := div_is b1 b2
    refine ⟨eq.symm.trans b3, ?_⟩
    rw [ex N b3, ← (tn N).2.2, a3]
    omega
  · obtain ⟨a1, a2⟩ := hQ.2.2 (by omega) (by omega)
    have b2 := (tn N).2.1.1 a2
    have hN0 : 0 < N := by
      rcases Nat.eq_zero_or_pos N with h | h
      · rw [h, Nat.zero_mul] at b2; omega
      · exact h
    have c4 : ((N : Int) - 1) = ((N - 1 : Nat) : Int) := by omega
    rw [c4] at a1
    have b1 := (tn (N - 1)).1.1 (Int.le_of_lt a1)
    have b3 := div_is b1 (by rw [Nat.sub_add_cancel hN0]; exact b2)
    have hS1 : 0 < S := hS0
    have hh : h = S * N := by omega
    have hpos : 0 < h := by rw [hh]; exact Nat.mul_pos hS1 hN0
    refine ⟨hpos, (eq.symm.trans b3).trans ?_, fun hz => ?_, by omega⟩
    · symm
      refine div_is ?_ ?_
      · rw [hh, Nat.sub_mul, Nat.one_mul, Nat.mul_comm]; omega
      · rw [Nat.sub_add_cancel hN0, hh, Nat.mul_comm]; have := Nat.mul_pos hN0 hS1; omega
    · have := (tn (N - 1)).2.2.2 ((ex (N - 1) b3).1 hz)
      omega
end Go.Proofs.YthhmimlfiaboeaaGreatDoor.Us

namespace Go.Proofs.YthhmimlfiaboeaaGreatDoor.Us

theorem or_one (n : Nat) : n ||| 1 = 2 * (n / 2) + 1 := by
  have h1 : (n ||| 1) / 2 = n / 2 := by rw [Nat.or_div_two]; simp
  have h2 : (n ||| 1) % 2 = 1 := by rw [Nat.or_mod_two_eq_one]; right; rfl
  omega

/-- A fraction's floor, with its last bit set where something is left. -/
def unr (a b : Nat) : Nat := a / b ||| (if a % b = 0 then 0 else 1)
theorem unr_exact {a b : Nat} (h : a % b = 0) : unr a b = a / b := by unfold unr; rw [if_pos h, Nat.or_zero]
theorem unr_rest {a b : Nat} (h : a % b ≠ 0) : unr a b = 2 * (a / b / 2) + 1 := by unfold unr; rw [if_neg h, or_one]

theorem unr_le {a b : Nat} (hb : 0 < b) (k : Nat) : unr a b ≤ 2 * k ↔ a ≤ 2 * k * b := by
  have d := Nat.div_add_mod a b
  have l := Nat.mod_lt a hb
  by_cases h : a % b = 0
  · rw [unr_exact h]
    rw [h, Nat.add_zero] at d
    constructor
    · intro h1
      have := Nat.mul_le_mul_left b h1
      rw [d, Nat.mul_comm] at this; exact this
    · intro h1
      rw [← d, Nat.mul_comm] at h1
      exact Nat.le_of_mul_le_mul_right h1 hb
  · rw [unr_rest h]
    generalize a / b = q at *
    constructor
    · intro h1
      have h2 : q + 1 ≤ 2 * k := by omega
      have := Nat.mul_le_mul_left b h2
      rw [Nat.mul_add, Nat.mul_one] at this
      rw [Nat.mul_comm (2 * k)]
      omega
    · intro h1
      have h2 : q < 2 * k := by
        apply Nat.lt_of_mul_lt_mul_left (a := b)
        rw [Nat.mul_comm b (2 * k)]
        omega
      omega

theorem unr_lt {a b : Nat} (hb : 0 < b) (k : Nat) : unr a b < 2 * k ↔ a < 2 * k * b := by
  have d := Nat.div_add_mod a b
  have l := Nat.mod_lt a hb
  by_cases h : a % b = 0
  · rw [unr_exact h]
    rw [h, Nat.add_zero] at d
    constructor
    · intro h1
      have := Nat.mul_lt_mul_of_pos_left h1 hb
      rw [d, Nat.mul_comm] at this; exact this
    · intro h1
      rw [← d, Nat.mul_comm] at h1
      exact Nat.lt_of_mul_lt_mul_right h1
  · rw [unr_rest h]
    have h3 : a < 2 * k * b ↔ a ≤ 2 * k * b := by
      constructor
      · exact Nat.le_of_lt
      · intro h1
        rcases Nat.lt_or_eq_of_le h1 with h2 | h2
        · exact h2
        · exfalso; apply h; rw [h2]; exact Nat.mul_mod_left _ _
    have := unr_le hb k (a := a)
    rw [unr_rest h] at this
    rw [h3, ← this]
    omega

/-- Half of it. -/
theorem unr_half (a b : Nat) (hb : 0 < b) : unr a b / 2 ||| unr a b % 2 = unr a (2 * b) := by
  have d := Nat.div_add_mod a b
  have e1 : a / (2 * b) = a / b / 2 := by rw [Nat.div_div_eq_div_mul, Nat.mul_comm]
  have e2 : a % (2 * b) = 0 ↔ a % b = 0 ∧ a / b % 2 = 0 := by
    have d2 := Nat.div_add_mod a (2 * b)
    rw [e1] at d2
    have d3 := Nat.div_add_mod (a / b) 2
    have l := Nat.mod_lt a hb
    have e : a % (2 * b) = b * (a / b % 2) + a % b := by
      have : 2 * b * (a / b / 2) + (b * (a / b % 2) + a % b) = a := by
        rw [← Nat.add_assoc, show 2 * b * (a / b / 2) = b * (2 * (a / b / 2)) from by rw [Nat.mul_comm 2 b, Nat.mul_assoc], ← Nat.mul_add, d3, d]
      omega
    rw [e]
    constructor
    · intro h
      have h1 : b * (a / b % 2) = 0 := by omega
      refine ⟨by omega, ?_⟩
      rcases Nat.mul_eq_zero.1 h1 with h2 | h2
      · omega
      · exact h2
    · rintro ⟨h1, h2⟩
      rw [h1, h2]; rfl
  by_cases h : a % b = 0
  · rw [unr_exact h]
    by_cases h2 : a / b % 2 = 0
    · rw [unr_exact (e2.2 ⟨h, h2⟩), e1, h2, Nat.or_zero]
    · rw [unr_rest (fun hc => h2 (e2.1 hc).2), e1, show a / b % 2 = 1 by omega, or_one]
  · rw [unr_rest h, unr_rest (fun hc => h (e2.1 hc).1), e1]
    rw [show (2 * (a / b / 2) + 1) / 2 = a / b / 2 by omega, show (2 * (a / b / 2) + 1) % 2 = 1 by omega, or_one]

/-- Rounded, between two to the even one. -/
def rnd (u : Nat) : Nat := (u + 1 + u / 4 % 2) / 4
theorem rnd_le {a b : Nat} (hb : 0 < b) (n : Nat) : rnd (unr a b) ≤ n ↔ if n % 2 = 0 then a ≤ (4 * n + 2) * b else a < (4 * n + 2) * b := by
  have h1 := unr_le hb (2 * n + 1) (a := a)
  have h2 := unr_lt hb (2 * n + 1) (a := a)
  rw [show 2 * (2 * n + 1) = 4 * n + 2 by omega] at h1 h2
  unfold rnd
  split
  · rw [← h1]; omega
  · rw [← h2]; omega
/-- What a number within the half unit around n rounds to. -/
theorem rnd_eq {a b n : Nat} (hb : 0 < b) (hl : if n % 2 = 0 then 4 * n * b ≤ a + 2 * b else 4 * n * b < a + 2 * b) (hu : if n % 2 = 0 then a ≤ (4 * n + 2) * b else a < (4 * n + 2) * b) : rnd (unr a b) = n := by
  have h1 := (rnd_le hb n).2 hu
  rcases Nat.eq_zero_or_pos n with h0 | h0
  · omega
  · have h2 := rnd_le hb (n - 1) (a := a)
    have e : (4 * (n - 1) + 2) * b + 2 * b = 4 * n * b := by rw [← Nat.add_mul]; congr 1; omega
    have : ¬ rnd (unr a b) ≤ n - 1 := by
      rw [h2]
      by_cases hn : n % 2 = 0
      · rw [if_pos hn] at hl
        rw [if_neg (by omega)]; omega
      · rw [if_neg hn] at hl
        rw [if_pos (by omega)]; omega
    omega

theorem ceil_le {a b : Nat} (hb : 0 < b) (odd n : Nat) (ho : odd ≤ 1) : (unr a b + odd + 3) / 4 ≤ n ↔ if odd = 0 then a ≤ 4 * n * b else a < 4 * n * b := by
  have h1 := unr_le hb (2 * n) (a := a)
  have h2 := unr_lt hb (2 * n) (a := a)
  rw [show 2 * (2 * n) = 4 * n by omega] at h1 h2
  split
  · rw [← h1]; omega
  · rw [← h2]; omega
theorem floor_ge {a b : Nat} (hb : 0 < b) (odd n : Nat) (ho : odd ≤ 1) (hn : 0 < n) : n ≤ (unr a b - odd) / 4 ↔ if odd = 0 then 4 * n * b ≤ a else 4 * n * b < a := by
  have h1 := unr_le hb (2 * n) (a := a)
  have h2 := unr_lt hb (2 * n) (a := a)
  rw [show 2 * (2 * n) = 4 * n by omega] at h1 h2
  split
  · have : ¬ (unr a b < 4 * n) ↔ 4 * n * b ≤ a := by rw [h2]; omega
    rw [← this]; omega
  · have : ¬ (unr a b ≤ 4 * n) ↔ 4 * n * b < a := by rw [h1]; omega
    rw [← this]; omega

/-- The code's way to it. -/
def uscN (x hi lo s : Nat) : Nat :=
  if x * hi / 18446744073709551616 % 2 ^ s ≠ 0 then x * hi / 18446744073709551616 / 2 ^ s ||| 1
  else if x * lo / 18446744073709551616 ≤ x * hi % 18446744073709551616 then
    x * hi / 18446744073709551616 / 2 ^ s ||| (if x * hi % 18446744073709551616 - x * lo / 18446744073709551616 ≤ 1 then 0 else 1)
  else (x * hi / 18446744073709551616 - 1) / 2 ^ s ||| 1

theorem uscN_is (A M hi lo s : Nat) (hM : 0 < M) (hA : 0 < A) (hlo : lo < 18446744073709551616) (hle : lo ≤ hi * 18446744073709551616)
    (hb1 : A * 680564733841876926926749214863536422912 ≤ (hi * 18446744073709551616 - lo) * M) (hb2 : (hi * 18446744073709551616 - lo) * M < A * 680564733841876926926749214863536422912 + M) (x : Nat) (hx0 : 0 < x) (hx2 : x < 18446744073709551616) (hF : Far (2 * x * A) M (2 ^ s)) :
    uscN x hi lo s = unr (2 * x * A) (M * 2 ^ s) ∧ (x * hi / 18446744073709551616 % 2 ^ s = 0 → x * hi % 18446744073709551616 < x * lo / 18446744073709551616 → 0 < x * hi / 18446744073709551616) := by
  obtain ⟨c1, c2, c3⟩ := usc_says A M hi lo s hM hA hlo hle hb1 hb2 x hx0 hx2 hF _ _ _ _ rfl rfl rfl rfl
  refine ⟨?_, fun h1 h2 => (c3 h1 h2).1⟩
  unfold uscN unr
  split
  · rename_i h
    obtain ⟨e1, e2⟩ := c1 h
    rw [e1, if_neg e2]
  · rename_i h
    have h := Decidable.of_not_not h
    split
    · rename_i h1
      obtain ⟨e1, e2⟩ := c2 h h1
      rw [e1]
      congr 1
      split <;> rename_i h3
      · rw [if_pos (e2.2 h3)]
      · rw [if_neg (fun hc => h3 (e2.1 hc))]
    · rename_i h1
      obtain ⟨_, e1, e2, _⟩ := c3 h (by omega)
      rw [e1, if_neg e2]
theorem or_one_le (n : Nat) : n ||| 1 ≤ n + 1 := by rw [or_one]; omega
theorem uscN_lt (x hi lo s : Nat) (hx : x < 18446744073709551616) (hh : hi < 18446744073709551616) (hs : 5 ≤ s) : uscN x hi lo s ≤ 576460752303423488 := by
  have hH : x * hi / 18446744073709551616 < 18446744073709551616 := Nat.div_lt_of_lt_mul (Nat.mul_lt_mul'' hx hh)
  have h32 : 2 ^ 5 ≤ 2 ^ s := Nat.pow_le_pow_right (by decide) hs
  have d : ∀ y, y < 18446744073709551616 → y / 2 ^ s < 576460752303423488 := by
    intro y hy
    rw [Nat.div_lt_iff_lt_mul (by omega)]
    have := Nat.mul_le_mul_left 576460752303423488 h32
    omega
  unfold uscN
  split
  · exact Nat.le_trans (or_one_le _) (d _ hH)
  · split
    · split
      · rw [Nat.or_zero]; exact Nat.le_of_lt (d _ hH)
      · exact Nat.le_trans (or_one_le _) (d _ hH)
    · exact Nat.le_trans (or_one_le _) (d _ (by omega))
theorem uscN_pos (x hi lo s : Nat) (hx : 4611686018427387904 ≤ x) (hh : 9223372036854775808 ≤ hi) (hs : s ≤ 60) : 1 ≤ uscN x hi lo s := by
  have h1 : 4611686018427387904 * 9223372036854775808 ≤ x * hi := Nat.mul_le_mul hx hh
  have h2 : 2305843009213693952 ≤ x * hi / 18446744073709551616 := by omega
  have hp : 2 ^ s ≤ 2 ^ 60 := Nat.pow_le_pow_right (by decide) hs
  have h3 : 1 ≤ x * hi / 18446744073709551616 / 2 ^ s := by
    rw [Nat.le_div_iff_mul_le (Nat.two_pow_pos s)]
    omega
  have o1 : ∀ y, 1 ≤ y ||| 1 := fun y => by rw [or_one]; omega
  unfold uscN
  split
  · exact o1 _
  · split
    · split
      · rw [Nat.or_zero]; exact h3
      · exact o1 _
    · exact o1 _
end Go.Proofs.YthhmimlfiaboeaaGreatDoor.Us

namespace Go.Proofs.YthhmimlfiaboeaaGreatDoor.Us

def TT : Nat := 10 ^ 348
theorem TT_pos : 0 < TT := by unfold TT; exact ppos 348
theorem pw_eq {a b c : Nat} (h : a = b + c) : 2 ^ a = 2 ^ b * 2 ^ c := by rw [h, Nat.pow_add]
theorem p1160 : (2 : Nat) ^ 1160 = 2 ^ 1076 * 2 ^ 84 := pw_eq (a := 1160) (b := 1076) (c := 84) (by omega)
theorem as6 (d t p : Nat) : d * t * p * 2048 = d * (2048 * (t * p)) := by grind
theorem dbl (T b n : Nat) (h : b + 1 = n) : 2 * (T * 2 ^ b) = T * 2 ^ n := by rw [← h, Nat.pow_succ]; generalize 2 ^ b = x; grind
theorem q4 (v l : Nat) : v * 2 ^ (l + 2) = 4 * (v * 2 ^ l) := by rw [Nat.pow_add]; generalize 2 ^ l = w; grind
theorem as5 (d u w v : Nat) : 2 * (d * u) * (w * v) = d * w * (2 * u * v) := by grind

/-- The decimal R / 10^348 lies in the rounding interval of m0 * 2^(n - 1074). -/
structure Ins (m0 n R : Nat) : Prop where
  lo : if m0 = 4503599627370496 ∧ 0 < n then (4 * m0 - 1) * (TT * 2 ^ n) ≤ R * 2 ^ 1076 else if m0 % 2 = 0 then (4 * m0 - 2) * (TT * 2 ^ n) ≤ R * 2 ^ 1076 else (4 * m0 - 2) * (TT * 2 ^ n) < R * 2 ^ 1076
  hi : if m0 % 2 = 0 then R * 2 ^ 1076 ≤ (4 * m0 + 2) * (TT * 2 ^ n) else R * 2 ^ 1076 < (4 * m0 + 2) * (TT * 2 ^ n)
/-- A finite number that is not zero: its significand and its place. -/
structure Fin64 (m0 n : Nat) : Prop where
  pos : 0 < m0
  lt : m0 < 9007199254740992
  le : n ≤ 2045
  norm : 0 < n → 4503599627370496 ≤ m0

/-- The shift of the first word: how the fraction's two sides are to each other. -/
theorem scale_eq (d J b g : Nat) (hb1 : 1 ≤ b) (hb2 : b ≤ 57) (s : Nat) (hs : b + lpN J + s = 147 + g) :
    2 * (d * 2 ^ (64 - b)) * nA J = d * 10 ^ J * 2 ^ 1076 * 2 ^ (149 - b) ∧ nM J * 2 ^ s = TT * 2 ^ g * 2 ^ (149 - b) := by
  constructor
  · unfold nA
    have e : 2 * 2 ^ (64 - b) * 2 ^ 1160 = 2 ^ 1076 * 2 ^ (149 - b) := by
      obtain ⟨z, hz⟩ : ∃ z : Nat, z = 1076 := ⟨_, rfl⟩
      obtain ⟨y, hy⟩ : ∃ y : Nat, y = 1160 := ⟨_, rfl⟩
      rw [← hz, ← hy, show 2 * 2 ^ (64 - b) = 2 ^ (65 - b) from by rw [show 65 - b = (64 - b) + 1 by omega, Nat.pow_succ, Nat.mul_comm], ← Nat.pow_add, ← Nat.pow_add]
      congr 1; omega
    calc 2 * (d * 2 ^ (64 - b)) * (10 ^ J * 2 ^ 1160) = d * 10 ^ J * (2 * 2 ^ (64 - b) * 2 ^ 1160) := as5 d (2 ^ (64 - b)) (10 ^ J) _
      _ = _ := by rw [e, Nat.mul_assoc, Nat.mul_assoc, Nat.mul_assoc]
  · unfold nM TT
    generalize 348 = k
    rw [Nat.mul_assoc, Nat.mul_assoc, ← Nat.pow_add, ← Nat.pow_add]
    congr 2; omega

theorem unr_scale (a b c : Nat) (hc : 0 < c) : unr (a * c) (b * c) = unr a b := by
  unfold unr
  rw [Nat.mul_div_mul_right a b hc, Nat.mul_mod_mul_right c a b]
  have : a % b * c = 0 ↔ a % b = 0 := by
    constructor
    · intro h
      rcases Nat.mul_eq_zero.1 h with h | h
      · exact h
      · omega
    · intro h; rw [h, Nat.zero_mul]
  simp only [this]

theorem pow_lt_of {a b : Nat} (c : Nat) (h : 2 ^ a * c < 2 ^ b * c) : a < b := by
  have := Nat.lt_of_mul_lt_mul_right h
  exact (Nat.pow_lt_pow_iff_right (by decide)).1 this

/-- How the decimal's size bounds it. -/
theorem size_bounds (d J b hi lo : Nat) (h1 : 2 ^ (b - 1) ≤ d) (h2 : d < 2 ^ b) (hb1 : 1 ≤ b) (hr : RowOk J hi lo) :
    2 ^ (b - 1) * (TT * 2 ^ lpN J) ≤ d * 10 ^ J * 2 ^ 1160 ∧ d * 10 ^ J * 2 ^ 1160 * 2048 < 2 ^ b * (4095 * (TT * 2 ^ lpN J)) := by
  have l := hr.lb
  have u := hr.ub
  unfold nM nA at l u
  have e : 10 ^ 348 * 2 ^ (lpN J + 2) = 4 * (TT * 2 ^ lpN J) := by
    unfold TT
    generalize 348 = k
    exact q4 _ _
  rw [e] at l u
  generalize 2 ^ 1160 = p at *
  generalize TT * 2 ^ lpN J = q at *
  generalize 10 ^ J = t at *
  have l' : q ≤ t * p := by omega
  have u' : 2048 * (t * p) ≤ 4095 * q := by omega
  have hq : 0 < q := by
    have := hr.b2
    rcases Nat.eq_zero_or_pos q with h | h
    · exfalso
      have hm := nM_pos J
      unfold nM at hm
      rw [e, h] at hm
      omega
    · exact h
  constructor
  · rw [Nat.mul_assoc d]; exact Nat.mul_le_mul h1 l'
  · have k1 : d * (2048 * (t * p)) ≤ d * (4095 * q) := Nat.mul_le_mul_left d u'
    have k2 : d * (4095 * q) < 2 ^ b * (4095 * q) := Nat.mul_lt_mul_of_pos_right h2 (by omega)
    calc d * t * p * 2048 = d * (2048 * (t * p)) := as6 d t p
      _ < _ := Nat.lt_of_le_of_lt k1 k2

/-- The place of the number read. -/
theorem place_of (d J b n m0 hi lo : Nat) (h1 : 2 ^ (b - 1) ≤ d) (h2 : d < 2 ^ b) (hb1 : 1 ≤ b) (hr : RowOk J hi lo) (hf : Fin64 m0 n) (hI : Ins m0 n (d * 10 ^ J)) :
    (b + lpN J - 139 = n ∧ d * 10 ^ J * 2 ^ 1076 < 36028797018963966 * (TT * 2 ^ n)) ∨ (b + lpN J - 139 + 1 = n ∧ 36028797018963966 * (TT * 2 ^ (b + lpN J - 139)) ≤ d * 10 ^ J * 2 ^ 1076) := by
  obtain ⟨k1, k2⟩ := size_bounds d J b hi lo h1 h2 hb1 hr
  obtain ⟨p1, p2, p3, p4⟩ := hf
  obtain ⟨i1, i2⟩ := hI
  have e84 := p1160
  generalize 1076 = z1 at *
  generalize 1160 = z2 at *
  rw [e84, ← Nat.mul_assoc (d * 10 ^ J)] at k1 k2
  obtain ⟨Q, hQ⟩ : ∃ Q, Q = d * 10 ^ J * 2 ^ z1 := ⟨_, rfl⟩
  rw [← hQ] at k1 k2 i1 i2
  rw [← hQ]
  obtain ⟨g, hg⟩ : ∃ g, g = b + lpN J - 139 := ⟨_, rfl⟩
  rw [← hg]
  have hT := TT_pos
  -- the upper bound by the place
  have up : Q * 2048 < 147537923792657448960 * (TT * 2 ^ g) := by
    have hle : 2 ^ b * 2 ^ lpN J ≤ 2 ^ (g + 139) := by
      rw [← Nat.pow_add]; exact Nat.pow_le_pow_right (by decide) (by omega)
    have e1 : 2 ^ b * (4095 * (TT * 2 ^ lpN J)) = 4095 * TT * (2 ^ b * 2 ^ lpN J) := by generalize 2 ^ b = x; generalize 2 ^ lpN J = y; grind
    have e2 := Nat.mul_le_mul_left (4095 * TT) hle
    have e3 : 4095 * TT * 2 ^ (g + 139) = 147537923792657448960 * (TT * 2 ^ g) * 2 ^ 84 := by
      rw [Nat.pow_add]; generalize 2 ^ g = x; generalize TT = y
      rw [show (2 : Nat) ^ 139 = 36028797018963968 * 2 ^ 84 from by decide]; generalize (2 : Nat) ^ 84 = z; grind
    have e4 : Q * 2 ^ 84 * 2048 = Q * 2048 * 2 ^ 84 := by generalize (2 : Nat) ^ 84 = z; grind
    rw [e4, e1] at k2
    have := Nat.lt_of_lt_of_le k2 e2
    rw [e3] at this
    exact Nat.lt_of_mul_lt_mul_right this
  -- the lower one
  have low : 0 < g → 18014398509481984 * (TT * 2 ^ g) ≤ Q := by
    intro h0
    have e1 : 2 ^ (b - 1) * (TT * 2 ^ lpN J) = TT * 2 ^ (g + 138) := by
      rw [show g + 138 = (b - 1) + lpN J by omega, Nat.pow_add]; generalize 2 ^ (b - 1) = x; generalize 2 ^ lpN J = y; grind
    have e2 : TT * 2 ^ (g + 138) = 18014398509481984 * (TT * 2 ^ g) * 2 ^ 84 := by
      rw [Nat.pow_add, show (2 : Nat) ^ 138 = 18014398509481984 * 2 ^ 84 from by decide]; generalize 2 ^ g = x; generalize (2 : Nat) ^ 84 = z; grind
    rw [e1, e2] at k1
    exact Nat.le_of_mul_le_mul_right k1 (Nat.two_pow_pos 84)
  have hWn : 0 < TT * 2 ^ n := Nat.mul_pos hT (Nat.two_pow_pos n)
  -- Q's upper bound by m0
  have iu : Q ≤ (4 * m0 + 2) * (TT * 2 ^ n) := by split at i2 <;> omega
  have gle : g ≤ n := by
    rcases Nat.eq_zero_or_pos g with h0 | h0
    · omega
    · have a1 := Nat.le_trans (low h0) iu
      have a2 : (4 * m0 + 2) * (TT * 2 ^ n) < 36028797018963968 * (TT * 2 ^ n) := Nat.mul_lt_mul_of_pos_right (by omega) hWn
      have a3 := Nat.lt_of_le_of_lt a1 a2
      have a4 : 2 ^ g * (TT * 18014398509481984) < 2 ^ (n + 1) * (TT * 18014398509481984) := by
        rw [Nat.pow_succ]; generalize 2 ^ g = x at *; generalize 2 ^ n = y at *; generalize TT = z at *; grind
      have := pow_lt_of _ a4
      omega
  rcases Nat.lt_or_ge (g + 1) n with hlt | hge
  · exfalso
    -- too far
    have hn0 : 0 < n := by omega
    have hm := p4 hn0
    have il : 18014398509481983 * (TT * 2 ^ n) ≤ Q := by
      split at i1
      · rename_i h; rw [h.1] at i1; exact i1
      · rename_i h
        have : 18014398509481983 * (TT * 2 ^ n) ≤ (4 * m0 - 2) * (TT * 2 ^ n) := Nat.mul_le_mul_right _ (by omega)
        split at i1 <;> omega
    have e1 : 4 * (TT * 2 ^ g) ≤ TT * 2 ^ n := by
      have : 2 ^ (g + 2) ≤ 2 ^ n := Nat.pow_le_pow_right (by decide) (by omega)
      rw [Nat.pow_add] at this
      have := Nat.mul_le_mul_left TT this
      generalize 2 ^ g = x at *; generalize 2 ^ n = y at *; generalize TT = z at *; grind
    have hU : 0 < TT * 2 ^ g := Nat.mul_pos hT (Nat.two_pow_pos g)
    have e2 := Nat.mul_le_mul_left 18014398509481983 e1
    omega
  · have il : ∀ k, k ≤ 4 * m0 - 2 → k * (TT * 2 ^ n) ≤ Q := by
      intro k hk
      have : k * (TT * 2 ^ n) ≤ (4 * m0 - 2) * (TT * 2 ^ n) := Nat.mul_le_mul_right _ hk
      split at i1
      · have : (4 * m0 - 2) * (TT * 2 ^ n) ≤ (4 * m0 - 1) * (TT * 2 ^ n) := Nat.mul_le_mul_right _ (by omega)
        omega
      · split at i1 <;> omega
    rcases Nat.lt_or_ge g n with h3 | h3
    · right
      refine ⟨by omega, ?_⟩
      have hn0 : 0 < n := by omega
      have hm := p4 hn0
      have e1 : TT * 2 ^ n = 2 * (TT * 2 ^ g) := by
        rw [show n = g + 1 by omega, Nat.pow_succ]; generalize 2 ^ g = x; generalize TT = z; grind
      split at i1
      · rename_i h
        rw [h.1, e1] at i1; omega
      · rename_i h
        have := il 18014398509481984 (by omega)
        rw [e1] at this; omega
    · left
      refine ⟨by omega, ?_⟩
      split at i2
      · have : (4 * m0 + 2) * (TT * 2 ^ n) ≤ 36028797018963962 * (TT * 2 ^ n) := Nat.mul_le_mul_right _ (by omega)
        omega
      · have : (4 * m0 + 2) * (TT * 2 ^ n) ≤ 36028797018963966 * (TT * 2 ^ n) := Nat.mul_le_mul_right _ (by omega)
        omega

theorem rnd_in {m0 n R : Nat} (hf : Fin64 m0 n) (hI : Ins m0 n R) : rnd (unr (R * 2 ^ 1076) (TT * 2 ^ n)) = m0 := by
  obtain ⟨i1, i2⟩ := hI
  have hm := hf.pos
  have e : (4 * m0 - 2) * (TT * 2 ^ n) + 2 * (TT * 2 ^ n) = 4 * m0 * (TT * 2 ^ n) := by rw [← Nat.add_mul]; congr 1; omega
  have e' : (4 * m0 - 1) * (TT * 2 ^ n) = (4 * m0 - 2) * (TT * 2 ^ n) + (TT * 2 ^ n) := by
    rw [show 4 * m0 - 1 = 4 * m0 - 2 + 1 by omega, Nat.add_mul, Nat.one_mul]
  refine rnd_eq (Nat.mul_pos TT_pos (Nat.two_pow_pos n)) ?_ i2
  split at i1
  · rename_i h; rw [if_pos (by omega)]; omega
  · split at i1 <;> rename_i h
    · rw [if_pos h]; omega
    · rw [if_neg h]; omega

/-- The word of a number, but for its sign. -/
def rung (m0 n : Nat) : Nat := n * 4503599627370496 + m0

/-- The code's reading, by its two words: first unrounded, then halved where it has a bit too many; then put together. -/
def readN (u g : Nat) : Nat :=
  let c := if 36028797018963966 ≤ u then 1 else 0
  let r := rnd (u / 2 ^ c ||| u % 2)
  if r % 9007199254740992 / 4503599627370496 = 0 then r else if 2046 ≤ g + c then 9218868437227405312 else r - 4503599627370496 + (g + c + 1) * 4503599627370496

theorem or_mod2 (u : Nat) : u ||| u % 2 = u := by
  rcases Nat.mod_two_eq_zero_or_one u with h | h
  · rw [h, Nat.or_zero]
  · rw [h, or_one]; omega

theorem read_ok (d J b n m0 hi lo : Nat) (h1 : 2 ^ (b - 1) ≤ d) (h2 : d < 2 ^ b) (hb1 : 1 ≤ b) (hb2 : b ≤ 57) (hr : RowOk J hi lo) (hf : Fin64 m0 n) (hI : Ins m0 n (d * 10 ^ J)) (s : Nat) (hs : b + lpN J + s = 147 + (b + lpN J - 139)) :
    readN (unr (2 * (d * 2 ^ (64 - b)) * nA J) (nM J * 2 ^ s)) (b + lpN J - 139) = rung m0 n := by
  obtain ⟨e1, e2⟩ := scale_eq d J b (b + lpN J - 139) hb1 hb2 s hs
  rw [e1, e2, unr_scale _ _ _ (Nat.two_pow_pos _)]
  have hm := rnd_in hf hI
  have hlt := hf.lt
  have hn := hf.le
  have hU : ∀ g, 0 < TT * 2 ^ g := fun g => Nat.mul_pos TT_pos (Nat.two_pow_pos g)
  have fin : ∀ g c, g + c = n → (if m0 % 9007199254740992 / 4503599627370496 = 0 then m0 else if 2046 ≤ g + c then 9218868437227405312 else m0 - 4503599627370496 + (g + c + 1) * 4503599627370496) = rung m0 n := by
    intro g c hg
    unfold rung
    have e : m0 % 9007199254740992 = m0 := Nat.mod_eq_of_lt hlt
    rw [e, hg]
    by_cases h : m0 / 4503599627370496 = 0
    · rw [if_pos h]
      have : n = 0 := by
        rcases Nat.eq_zero_or_pos n with h0 | h0
        · exact h0
        · have := hf.norm h0; omega
      omega
    · rw [if_neg h, if_neg (by omega)]
      omega
  unfold readN
  rcases place_of d J b n m0 hi lo h1 h2 hb1 hr hf hI with ⟨hg, hq⟩ | ⟨hg, hq⟩
  · rw [hg]
    have : ¬ 36028797018963966 ≤ unr (d * 10 ^ J * 2 ^ 1076) (TT * 2 ^ n) := by
      have := (unr_lt (hU n) 18014398509481983).2 hq
      omega
    simp only [if_neg this, Nat.pow_zero, Nat.div_one, or_mod2, hm]
    exact fin n 0 rfl
  · have : 36028797018963966 ≤ unr (d * 10 ^ J * 2 ^ 1076) (TT * 2 ^ (b + lpN J - 139)) := by
      have := unr_lt (hU (b + lpN J - 139)) 18014398509481983 (a := d * 10 ^ J * 2 ^ 1076)
      omega
    have e3 : 2 * (TT * 2 ^ (b + lpN J - 139)) = TT * 2 ^ n := by
      exact dbl _ _ _ hg
    simp only [if_pos this, Nat.pow_one, unr_half _ _ (hU _), e3, hm]
    exact fin _ 1 hg
/-- The same, told by cases. -/
theorem read_cases (d J b n m0 hi lo : Nat) (h1 : 2 ^ (b - 1) ≤ d) (h2 : d < 2 ^ b) (hb1 : 1 ≤ b) (hb2 : b ≤ 57) (hr : RowOk J hi lo) (hf : Fin64 m0 n) (hI : Ins m0 n (d * 10 ^ J)) (s : Nat) (hs : b + lpN J + s = 147 + (b + lpN J - 139)) (U : Nat) (hU : U = unr (2 * (d * 2 ^ (64 - b)) * nA J) (nM J * 2 ^ s)) :
    (b + lpN J - 139 = n ∧ U < 36028797018963966 ∧ rnd U = m0) ∨ (b + lpN J - 139 + 1 = n ∧ 36028797018963966 ≤ U ∧ rnd (U / 2 ||| U % 2) = m0) := by
  obtain ⟨e1, e2⟩ := scale_eq d J b (b + lpN J - 139) hb1 hb2 s hs
  rw [e1, e2, unr_scale _ _ _ (Nat.two_pow_pos _)] at hU
  have hm := rnd_in hf hI
  have hW : ∀ g, 0 < TT * 2 ^ g := fun g => Nat.mul_pos TT_pos (Nat.two_pow_pos g)
  rcases place_of d J b n m0 hi lo h1 h2 hb1 hr hf hI with ⟨hg, hq⟩ | ⟨hg, hq⟩
  · left
    rw [hg] at hU
    rw [hU]
    refine ⟨hg, ?_, hm⟩
    exact (unr_lt (hW n) 18014398509481983).2 hq
  · right
    have e3 : 2 * (TT * 2 ^ (b + lpN J - 139)) = TT * 2 ^ n := by
      exact dbl _ _ _ hg
    rw [hU]
    refine ⟨hg, ?_, ?_⟩
    · have := unr_lt (hW (b + lpN J - 139)) 18014398509481983 (a := d * 10 ^ J * 2 ^ 1076)
      omega
    · rw [unr_half _ _ (hW _), e3, hm]
/-- The number is not so small that the code answers zero at once. -/
theorem read_s (d J b n m0 hi lo : Nat) (h1 : 2 ^ (b - 1) ≤ d) (h2 : d < 2 ^ b) (hb1 : 1 ≤ b) (hr : RowOk J hi lo) (hf : Fin64 m0 n) (hI : Ins m0 n (d * 10 ^ J)) : 84 ≤ b + lpN J := by
  obtain ⟨_, k2⟩ := size_bounds d J b hi lo h1 h2 hb1 hr
  have hl : 2 * TT ≤ d * 10 ^ J * 2 ^ 1076 := by
    have p := hf.pos
    have h2n : TT ≤ TT * 2 ^ n := Nat.le_mul_of_pos_right _ (Nat.two_pow_pos n)
    have hk : ∀ k, 2 ≤ k → 2 * TT ≤ k * (TT * 2 ^ n) := fun k hk => Nat.mul_le_mul hk h2n
    have i1 := hI.lo
    split at i1
    · exact Nat.le_trans (hk _ (by omega)) i1
    · split at i1
      · exact Nat.le_trans (hk _ (by omega)) i1
      · exact Nat.le_of_lt (Nat.lt_of_le_of_lt (hk _ (by omega)) i1)
  have e84 := p1160
  generalize 1076 = z1 at *
  generalize 1160 = z2 at *
  rw [e84, ← Nat.mul_assoc (d * 10 ^ J)] at k2
  clear e84
  obtain ⟨Q, hQ⟩ : ∃ Q, Q = d * 10 ^ J * 2 ^ z1 := ⟨_, rfl⟩
  rw [← hQ] at k2 hl
  clear hQ
  have e1 : 2 ^ b * (4095 * (TT * 2 ^ lpN J)) = 2 ^ (b + lpN J) * (4095 * TT) := by
    rw [Nat.pow_add]; generalize 2 ^ b = x; generalize 2 ^ lpN J = y; generalize TT = t; grind
  have e2 : 2 * TT * 2 ^ 84 * 2048 ≤ Q * 2 ^ 84 * 2048 := Nat.mul_le_mul_right _ (Nat.mul_le_mul_right _ hl)
  have e3 : 2 ^ 84 * (4095 * TT) ≤ 2 * TT * 2 ^ 84 * 2048 := by
    generalize (2 : Nat) ^ 84 = x; generalize TT = t
    have : x * (4095 * t) ≤ x * (4096 * t) := Nat.mul_le_mul_left x (Nat.mul_le_mul_right t (by decide))
    calc x * (4095 * t) ≤ x * (4096 * t) := this
      _ = 2 * t * x * 2048 := by grind
  rw [e1] at k2
  have h9 : 84 < b + lpN J := pow_lt_of _ (Nat.lt_of_le_of_lt (Nat.le_trans e3 e2) k2)
  exact Nat.le_of_lt h9
theorem lp_int (J : Nat) : ((J : Int) - 348) * 108853 / 32768 = (lpN J : Int) - 1160 := by unfold lpN; omega
end Go.Proofs.YthhmimlfiaboeaaGreatDoor.Us
