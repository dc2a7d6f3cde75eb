/- the shortest decimal: it lies in the rounding interval -/
import Derived.Test.YthhmimlfiaboeaaGreatDoorUm
namespace Go.Proofs.YthhmimlfiaboeaaGreatDoor.Us

def idx (n : Nat) : Nat := 1348 - (n * 78913 + 177391438) / 262144
def idk (n : Nat) : Nat := 1348 - (n * 631305 + 1418868767) / 2097152

/-- The code's way to the shortest decimal: its digits, and how many of them were dropped. -/
def shortN (mn m mx odd hi lo s : Nat) : Nat × Nat :=
  let dmin := (uscN mn hi lo s + odd + 3) / 4
  let dmax := (uscN mx hi lo s - odd) / 4
  if dmin ≤ dmax / 10 * 10 then (dmax / 10, 1) else if dmin < dmax then (rnd (uscN m hi lo s), 0) else (dmin, 0)

def kB (n : Nat) : Bool :=
  Nat.ble (idx n) 672 && (Nat.ble 56 (idx n) && (Nat.ble (n + lpN (idx n) + 5) 2242 && (Nat.ble 2242 (n + lpN (idx n) + 8) && (Nat.ble (TT * 2 ^ 1100) (10 ^ (idx n) * 2 ^ (n + 26)) && Nat.blt (10 ^ (idx n) * 2 ^ (n + 26)) (10 * (TT * 2 ^ 1100))))))
/-- A check from 0 up to a bound, by halves. -/
def allB (p : Nat → Bool) : Nat → Nat → Bool
  | 0, a => p a
  | k + 1, a => allB p k a && allB p k (a + 2 ^ k)
theorem allB_get (p : Nat → Bool) : ∀ k a, allB p k a = true → ∀ i, i < 2 ^ k → p (a + i) = true
  | 0, a, h, i, hi => by
    have : i = 0 := by simpa using hi
    subst this; exact h
  | k + 1, a, h, i, hi => by
    unfold allB at h
    rw [Bool.and_eq_true] at h
    rw [Nat.pow_succ] at hi
    rcases Nat.lt_or_ge i (2 ^ k) with h1 | h1
    · exact allB_get p k a h.1 i h1
    · have := allB_get p k _ h.2 (i - 2 ^ k) (by omega)
      rwa [show a + 2 ^ k + (i - 2 ^ k) = a + i by omega] at this
def kBs (n : Nat) : Bool := Nat.ble 2046 n || kB n
set_option maxRecDepth 100000 in
theorem kBs_all : allB kBs 11 0 = true := by kernel_rfl
structure KOk (n : Nat) : Prop where
  le : idx n ≤ 672
  ge : 56 ≤ idx n
  s5 : n + lpN (idx n) + 5 ≤ 2242
  s8 : 2242 ≤ n + lpN (idx n) + 8
  lo : TT * 2 ^ 1100 ≤ 10 ^ (idx n) * 2 ^ (n + 26)
  hi : 10 ^ (idx n) * 2 ^ (n + 26) < 10 * (TT * 2 ^ 1100)
theorem k_ok (n : Nat) (hn : n ≤ 2045) : KOk n := by
  have h := allB_get _ _ _ kBs_all n (by omega)
  rw [Nat.zero_add] at h
  unfold kBs at h
  rw [Bool.or_eq_true] at h
  rcases h with h | h
  · have := Nat.le_of_ble_eq_true h; omega
  · unfold kB at h
    simp only [Bool.and_eq_true] at h
    obtain ⟨a1, a2, a3, a4, a5, a6⟩ := h
    exact ⟨Nat.le_of_ble_eq_true a1, Nat.le_of_ble_eq_true a2, Nat.le_of_ble_eq_true a3, Nat.le_of_ble_eq_true a4, Nat.le_of_ble_eq_true a5, Nat.le_of_ble_eq_true a6⟩

/-- The three decimals in a fraction of their own. -/
theorem short_core (m0 w b odd : Nat) (hm : 0 < m0) (hm2 : m0 < 9007199254740992) (ho : odd = m0 % 2) (hb : 0 < b) (hl : 2 * b ≤ w) (hu : w < 20 * b) (dmin dmax mid : Nat) (e1 : dmin = (unr ((2 * m0 - 1) * w) b + odd + 3) / 4) (e2 : dmax = (unr ((2 * m0 + 1) * w) b - odd) / 4) (e3 : mid = rnd (unr (2 * m0 * w) b))
    (r : Nat × Nat) (hr : r = if dmin ≤ dmax / 10 * 10 then (dmax / 10, 1) else if dmin < dmax then (mid, 0) else (dmin, 0)) :
    0 < r.1 ∧ r.1 < 100000000000000000 ∧ r.2 ≤ 1 ∧ (if m0 % 2 = 0 then (2 * m0 - 1) * w ≤ 4 * (r.1 * 10 ^ r.2) * b ∧ 4 * (r.1 * 10 ^ r.2) * b ≤ (2 * m0 + 1) * w else (2 * m0 - 1) * w < 4 * (r.1 * 10 ^ r.2) * b ∧ 4 * (r.1 * 10 ^ r.2) * b < (2 * m0 + 1) * w) := by
  have ho1 : odd ≤ 1 := by omega
  have f1 := fun n => ceil_le hb odd n ho1 (a := (2 * m0 - 1) * w)
  have f2 := fun n hn => floor_ge hb odd n ho1 hn (a := (2 * m0 + 1) * w)
  have f3 := fun n => rnd_le hb n (a := 2 * m0 * w)
  simp only [← e1] at f1
  simp only [← e2] at f2
  simp only [← e3] at f3
  have x1 : (2 * m0 - 1) * w = 2 * m0 * w - w := by rw [Nat.sub_mul, Nat.one_mul]
  have x2 : (2 * m0 + 1) * w = 2 * m0 * w + w := by rw [Nat.add_mul, Nat.one_mul]
  have x3 : 2 * w ≤ 2 * m0 * w := Nat.mul_le_mul_right w (by omega)
  rw [x1, x2]
  simp only [x1] at f1
  simp only [x2] at f2
  have par : w = 2 * b → 2 * m0 * w = 4 * m0 * b := by intro h; rw [h]; grind
  have big : 2 * m0 * w + w < 360287970189639680 * b := by
    have k1 : (2 * m0 + 1) * w ≤ 18014398509481984 * w := Nat.mul_le_mul_right w (by omega)
    omega
  generalize 2 * m0 * w = v at *
  have mid0 : 0 < mid := by
    rcases Nat.eq_zero_or_pos mid with h | h
    · have := (f3 0).1 (by omega)
      simp at this; omega
    · exact h
  have g1 := (f3 mid).1 (Nat.le_refl _)
  have g2 : ¬ mid ≤ mid - 1 := by omega
  rw [f3] at g2
  have e4 : (4 * (mid - 1) + 2) * b + 4 * b = (4 * mid + 2) * b := by rw [← Nat.add_mul]; congr 1; omega
  have e5 : (4 * mid + 2) * b = 4 * mid * b + 2 * b := by rw [Nat.add_mul]
  -- at an exact half with w = 2 b the parities differ
  have noeq : w = 2 * b → v = (4 * mid + 2) * b → False := by
    intro h1 h2
    have h3 := par h1
    rw [h3] at h2
    have := Nat.eq_of_mul_eq_mul_right hb h2
    omega
  have noeq2 : w = 2 * b → v = (4 * (mid - 1) + 2) * b → False := by
    intro h1 h2
    have h3 := par h1
    rw [h3] at h2
    have := Nat.eq_of_mul_eq_mul_right hb h2
    omega
  have dm : dmin ≤ mid := by
    rw [f1]
    split
    · split at g1 <;> omega
    · by_cases h1 : w = 2 * b
      · have h9 : v ≠ (4 * mid + 2) * b := noeq h1
        split at g1 <;> omega
      · split at g1 <;> omega
  have dx : mid ≤ dmax := by
    rw [f2 mid mid0]
    split
    · split at g2 <;> omega
    · by_cases h1 : w = 2 * b
      · have h9 : v ≠ (4 * (mid - 1) + 2) * b := noeq2 h1
        split at g2 <;> omega
      · split at g2 <;> omega
  -- any integer between them will do
  have any : ∀ k, 0 < k → dmin ≤ k → k ≤ dmax → (k < 100000000000000000 ∧ if m0 % 2 = 0 then v - w ≤ 4 * k * b ∧ 4 * k * b ≤ v + w else v - w < 4 * k * b ∧ 4 * k * b < v + w) := by
    intro k k0 h1 h2
    have h1 := (f1 k).1 h1
    have h2 := (f2 k k0).1 h2
    have hk : 4 * k * b ≤ v + w := by split at h2 <;> omega
    refine ⟨?_, ?_⟩
    · have : 4 * k * b < 360287970189639680 * b := Nat.lt_of_le_of_lt hk big
      have := Nat.lt_of_mul_lt_mul_right this
      omega
    · by_cases h3 : m0 % 2 = 0
      · rw [if_pos (by omega)] at h1 h2
        rw [if_pos h3]; exact ⟨h1, h2⟩
      · rw [if_neg (by omega)] at h1 h2
        rw [if_neg h3]; exact ⟨h1, h2⟩
  have dmin0 : 0 < dmin := by
    rcases Nat.eq_zero_or_pos dmin with h | h
    · have := (f1 0).1 (by omega)
      simp at this
      omega
    · exact h
  subst hr
  split
  · rename_i h
    have := any (dmax / 10 * 10) (by omega) h (by omega)
    exact ⟨by show 0 < dmax / 10; omega, by show dmax / 10 < _; omega, Nat.le_refl 1, this.2⟩
  · split
    · have := any mid mid0 dm dx
      refine ⟨mid0, this.1, Nat.zero_le 1, ?_⟩
      show (if m0 % 2 = 0 then v - w ≤ 4 * (mid * 10 ^ 0) * b ∧ 4 * (mid * 10 ^ 0) * b ≤ v + w else v - w < 4 * (mid * 10 ^ 0) * b ∧ 4 * (mid * 10 ^ 0) * b < v + w)
      rw [Nat.pow_zero, Nat.mul_one]; exact this.2
    · have := any dmin dmin0 (Nat.le_refl _) (by omega)
      refine ⟨dmin0, this.1, Nat.zero_le 1, ?_⟩
      show (if m0 % 2 = 0 then v - w ≤ 4 * (dmin * 10 ^ 0) * b ∧ 4 * (dmin * 10 ^ 0) * b ≤ v + w else v - w < 4 * (dmin * 10 ^ 0) * b ∧ 4 * (dmin * 10 ^ 0) * b < v + w)
      rw [Nat.pow_zero, Nat.mul_one]; exact this.2

theorem as7 (p X A : Nat) : 2 * (p * X) * A = 2 * p * X * A := by grind
theorem as8 (q X A : Nat) : q * 64 * X * A = q * (X * (64 * A)) := by grind
theorem as9 (k t y q x : Nat) : 2 * k * (t * y) * (q * x) = k * (q * (y * (2 * x))) * t := by grind
theorem bpos {b k : Nat} (h : b = TT * 2 ^ k) : 0 < b := by rw [h]; exact Nat.mul_pos TT_pos (Nat.two_pow_pos k)
theorem pw (a b : Nat) (h : a = b) : 2 ^ a = 2 ^ b := by rw [h]
theorem p1134 (z n y : Nat) (hz : 6 ≤ z) (hy : y = 1160) : 2 ^ (z - 6) * 64 * 2 ^ y * 2 ^ n = 2 ^ (n + 26) * 2 ^ (z + 1134) := by
  rw [show (64 : Nat) = 2 ^ 6 from rfl, ← Nat.pow_add, ← Nat.pow_add, ← Nat.pow_add, ← Nat.pow_add]; exact pw _ _ (by omega)
theorem tenadd (a b c d : Nat) (h : a + b = c + d) : 10 ^ a * 10 ^ b = 10 ^ c * 10 ^ d := by rw [← Nat.pow_add, ← Nat.pow_add, h]
theorem p1099 (l s n z y : Nat) (h : l + 2 + s + n = y + (z + 1134)) : 2 ^ (l + 2) * 2 ^ s * 2 ^ n = 2 ^ y * 2 ^ (z + 1134) := by
  rw [← Nat.pow_add, ← Nat.pow_add, ← Nat.pow_add]; exact pw _ _ (by omega)
theorem e25 (a b : Nat) (h : a + 25 = 2 + b) : (2 : Nat) ^ a * 2 ^ 25 = 4 * 2 ^ b := by rw [show (4 : Nat) = 2 ^ 2 from rfl, ← Nat.pow_add, ← Nat.pow_add, h]
theorem as10 (D r s p q : Nat) : D * r * p * (s * q) = D * (r * s) * (p * q) := by grind
theorem as11 (D t p : Nat) : D * (t * t) * (4 * p) = 4 * D * (t * p) * t := by grind
theorem p1100 (t y z : Nat) (h : z = y + 1) : t * 2 ^ z = 2 * (t * 2 ^ y) := by rw [h, Nat.pow_succ]; generalize 2 ^ y = x; grind
theorem re1 (X q a b c A B : Nat) (h : a * 64 * b * c = A * B) : a * (X * (64 * (q * b))) * c = X * (q * A) * B := by
  have : a * (X * (64 * (q * b))) * c = X * q * (a * 64 * b * c) := by grind
  rw [this, h]; grind
theorem re2 (t a b c A B : Nat) (h : a * b * c = A * B) : t * a * b * c = t * A * B := by
  rw [Nat.mul_assoc, Nat.mul_assoc, ← Nat.mul_assoc a, h, Nat.mul_assoc]
/-- Each of the three products, as a fraction of its own. -/
theorem usc_at (n z X hi lo : Nat) (hn : n ≤ 2045) (hz : 11 ≤ z) (hX : 0 < X) (hX2 : X < 18014398509481984) (hx : 2 ^ (z - 1) * X < 18446744073709551616) (hr : RowOk (idx n) hi lo) (s : Nat) (hs : n + lpN (idx n) + s + 11 = 2242 + z)
    (w b : Nat) (hw : w = 10 ^ (idx n) * 2 ^ (n + 26)) (hb : b = TT * 2 ^ 1099) :
    uscN (2 ^ (z - 1) * X) hi lo s = unr (X * w) b := by
  have s5 := (k_ok n hn).s5
  have e : 2 * (2 ^ (z - 1) * X) * nA (idx n) = 2 ^ (z - 6) * (X * (64 * nA (idx n))) := by
    have : 2 * 2 ^ (z - 1) = 2 ^ (z - 6) * 64 := by
      rw [show (64 : Nat) = 2 ^ 6 from rfl, ← Nat.pow_add, Nat.mul_comm, ← Nat.pow_succ]; congr 1; omega
    generalize nA (idx n) = A
    calc 2 * (2 ^ (z - 1) * X) * A = (2 * 2 ^ (z - 1)) * X * A := as7 (2 ^ (z - 1)) X A
      _ = _ := by rw [this]; exact as8 _ X A
  have hF : Far (2 * (2 ^ (z - 1) * X) * nA (idx n)) (nM (idx n)) (2 ^ s) := by
    rw [e]
    exact far_of_gap _ _ (2 ^ 54) 68 X s (z - 6) (by omega) (by omega) hX hX2 hr.g2
  have h1 := (uscN_is (nA (idx n)) (nM (idx n)) hi lo s (nM_pos _) (nA_pos _) hr.lo64 hr.le hr.b1 hr.b2 _ (Nat.mul_pos (Nat.two_pow_pos _) hX) hx hF).1
  rw [h1, e, ← unr_scale _ _ (2 ^ n) (Nat.two_pow_pos n), ← unr_scale (X * w) b (2 ^ (z + 1134)) (Nat.two_pow_pos _)]
  have g1 : 2 ^ (z - 6) * (X * (64 * nA (idx n))) * 2 ^ n = X * w * 2 ^ (z + 1134) := by
    unfold nA
    have : 2 ^ (z - 6) * 64 * 2 ^ 1160 * 2 ^ n = 2 ^ (n + 26) * 2 ^ (z + 1134) := by
      exact p1134 z n 1160 (by omega) rfl
    rw [hw]
    exact re1 _ _ _ _ _ _ _ this
  have g2 : nM (idx n) * 2 ^ s * 2 ^ n = b * 2 ^ (z + 1134) := by
    rw [hb]
    unfold nM TT
    have : 2 ^ (lpN (idx n) + 2) * 2 ^ s * 2 ^ n = 2 ^ 1099 * 2 ^ (z + 1134) := by
      exact p1099 (lpN (idx n)) s n z 1099 (by omega)
    generalize 348 = k
    exact re2 _ _ _ _ _ _ this
  rw [g1, g2]

/-- From the fraction of its own to the interval. -/
theorem ins_of (m0 n D w b : Nat) (hm : 0 < m0) (hn : n ≤ 2045) (hsk : ¬ (m0 = 4503599627370496 ∧ 0 < n)) (hw : w = 10 ^ (idx n) * 2 ^ (n + 26)) (hb : b = TT * 2 ^ 1099)
    (h : if m0 % 2 = 0 then (2 * m0 - 1) * w ≤ 4 * D * b ∧ 4 * D * b ≤ (2 * m0 + 1) * w else (2 * m0 - 1) * w < 4 * D * b ∧ 4 * D * b < (2 * m0 + 1) * w) :
    Ins m0 n (D * 10 ^ (696 - idx n)) := by
  have hle := (k_ok n hn).le
  -- both sides times 2^25 * 10^idx
  obtain ⟨c, hc⟩ : ∃ c, c = 10 ^ (idx n) * 2 ^ 25 := ⟨_, rfl⟩
  have c0 : 0 < c := by rw [hc]; exact Nat.mul_pos (Nat.pow_pos (by decide)) (by decide)
  have side : ∀ k, 2 * k * (TT * 2 ^ n) * c = k * w * TT := by
    intro k
    rw [hw, hc, Nat.pow_add, show (2 : Nat) ^ 26 = 2 * 2 ^ 25 from rfl]; exact as9 k _ _ _ _
  have mid : D * 10 ^ (696 - idx n) * 2 ^ 1076 * c = 4 * D * b * TT := by
    have e1 : 10 ^ (696 - idx n) * 10 ^ (idx n) = TT * TT := by
      unfold TT; exact tenadd (696 - idx n) (idx n) 348 348 (by omega)
    have e2 : (2 : Nat) ^ 1076 * 2 ^ 25 = 4 * 2 ^ 1099 := e25 1076 1099 rfl
    rw [hc, hb]
    calc D * 10 ^ (696 - idx n) * 2 ^ 1076 * (10 ^ (idx n) * 2 ^ 25) = D * (10 ^ (696 - idx n) * 10 ^ (idx n)) * (2 ^ 1076 * 2 ^ 25) := as10 _ _ _ _ _
      _ = _ := by rw [e1, e2]; generalize 1099 = y; exact as11 _ _ _
  have a1 : 4 * m0 - 2 = 2 * (2 * m0 - 1) := by omega
  have a2 : 4 * m0 + 2 = 2 * (2 * m0 + 1) := by omega
  have hT := TT_pos
  constructor
  · rw [if_neg hsk]
    split at h <;> rename_i h0
    · rw [if_pos h0, a1]
      apply Nat.le_of_mul_le_mul_right _ c0
      rw [side, mid]; exact Nat.mul_le_mul_right _ h.1
    · rw [if_neg h0, a1]
      apply Nat.lt_of_mul_lt_mul_right (a := c)
      rw [side, mid]; exact Nat.mul_lt_mul_of_pos_right h.1 hT
  · split at h <;> rename_i h0
    · rw [if_pos h0, a2]
      apply Nat.le_of_mul_le_mul_right _ c0
      rw [side, mid]; exact Nat.mul_le_mul_right _ h.2
    · rw [if_neg h0, a2]
      apply Nat.lt_of_mul_lt_mul_right (a := c)
      rw [side, mid]; exact Nat.mul_lt_mul_of_pos_right h.2 hT

/-- The shortest decimal of a number that is no power of two's first. -/
theorem short_ok (m0 n z s : Nat) (hf : Fin64 m0 n) (hz : 11 ≤ z) (hsk : ¬ (m0 = 4503599627370496 ∧ 0 < n)) (hm : 2 ^ (z - 1) * (2 * m0 + 1) < 18446744073709551616) (hs : n + lpN (idx n) + s + 11 = 2242 + z) (d q : Nat)
    (hr : shortN (2 ^ (z - 1) * (2 * m0 - 1)) (2 ^ (z - 1) * (2 * m0)) (2 ^ (z - 1) * (2 * m0 + 1)) (m0 % 2) (tHi (idx n)) (tLo (idx n)) s = (d, q)) :
    0 < d ∧ d < 100000000000000000 ∧ q ≤ 1 ∧ Ins m0 n (d * 10 ^ (696 - idx n + q)) := by
  have hk := k_ok n hf.le
  have hle := hk.le
  have hrow := row_ok (idx n) (by omega)
  have p := hf.pos
  have l := hf.lt
  obtain ⟨w, hw⟩ : ∃ w, w = 10 ^ (idx n) * 2 ^ (n + 26) := ⟨_, rfl⟩
  obtain ⟨b, hb⟩ : ∃ b, b = TT * 2 ^ 1099 := ⟨_, rfl⟩
  have mono : ∀ X, X ≤ 2 * m0 + 1 → 2 ^ (z - 1) * X < 18446744073709551616 := fun X hX => Nat.lt_of_le_of_lt (Nat.mul_le_mul_left _ hX) hm
  have u1 := usc_at n z (2 * m0 - 1) _ _ hf.le hz (by omega) (by omega) (mono _ (by omega)) hrow s hs w b hw hb
  have u2 := usc_at n z (2 * m0) _ _ hf.le hz (by omega) (by omega) (mono _ (by omega)) hrow s hs w b hw hb
  have u3 := usc_at n z (2 * m0 + 1) _ _ hf.le hz (by omega) (by omega) (mono _ (by omega)) hrow s hs w b hw hb
  unfold shortN at hr
  rw [u1, u2, u3] at hr
  have hb0 : 0 < b := bpos hb
  have e : TT * 2 ^ 1100 = 2 * b := by
    rw [hb]; exact p1100 TT 1099 1100 rfl
  have lo := hk.lo
  have hi := hk.hi
  rw [e, ← hw] at lo hi
  clear e hk u1 u2 u3 mono hrow hs hm
  obtain ⟨c1, c2, c3, c4⟩ := short_core m0 w b (m0 % 2) p l rfl hb0 lo (by omega) _ _ _ rfl rfl rfl _ rfl
  rw [hr] at c1 c2 c3 c4
  refine ⟨c1, c2, c3, ?_⟩
  have := ins_of m0 n (d * 10 ^ q) w b p hf.le hsk hw hb c4
  rw [Nat.mul_assoc, ← Nat.pow_add, Nat.add_comm q] at this
  exact this

/-- A power of two's first number: each of them, by a run. -/
def skB (n : Nat) : Bool :=
  let i := idk n
  let r := shortN 9223372036854775296 9223372036854775808 9223372036854776832 0 (tHi i) (tLo i) (2242 - (n + lpN i))
  let R := r.1 * 10 ^ (696 - i + r.2) * 2 ^ 1076
  Nat.ble i 672 && (Nat.ble 56 i && (Nat.ble (n + lpN i + 5) 2242 && (Nat.ble 2242 (n + lpN i + 60) && (Nat.ble r.2 1 && (Nat.ble 1 r.1 && (Nat.blt r.1 100000000000000000 && (Nat.ble (18014398509481983 * (TT * 2 ^ n)) R && Nat.ble R (18014398509481986 * (TT * 2 ^ n)))))))))
def skBs (n : Nat) : Bool := Nat.beq n 0 || (Nat.ble 2046 n || skB n)
set_option maxRecDepth 100000 in
theorem skBs_all : allB skBs 11 0 = true := by kernel_rfl
theorem short_skew (n : Nat) (h0 : 0 < n) (hn : n ≤ 2045) (d q : Nat) (hr : shortN 9223372036854775296 9223372036854775808 9223372036854776832 0 (tHi (idk n)) (tLo (idk n)) (2242 - (n + lpN (idk n))) = (d, q)) :
    (56 ≤ idk n ∧ idk n ≤ 672 ∧ n + lpN (idk n) + 5 ≤ 2242 ∧ 2242 ≤ n + lpN (idk n) + 60) ∧ 0 < d ∧ d < 100000000000000000 ∧ q ≤ 1 ∧ Ins 4503599627370496 n (d * 10 ^ (696 - idk n + q)) := by
  have h := allB_get _ _ _ skBs_all n (by omega)
  rw [Nat.zero_add] at h
  unfold skBs at h
  rw [Bool.or_eq_true, Bool.or_eq_true] at h
  rcases h with h | h | h
  · have := Nat.eq_of_beq_eq_true h; omega
  · have := Nat.le_of_ble_eq_true h; omega
  · unfold skB at h
    simp only [hr, Bool.and_eq_true] at h
    obtain ⟨a1, a2, a3, a4, a5, a6, a7, a8, a9⟩ := h
    refine ⟨⟨Nat.le_of_ble_eq_true a2, Nat.le_of_ble_eq_true a1, Nat.le_of_ble_eq_true a3, Nat.le_of_ble_eq_true a4⟩, Nat.le_of_ble_eq_true a6, Nat.le_of_ble_eq_true a7, Nat.le_of_ble_eq_true a5, ?_, ?_⟩
    · rw [if_pos ⟨rfl, h0⟩]; exact Nat.le_of_ble_eq_true a8
    · rw [if_pos (by decide)]; exact Nat.le_of_ble_eq_true a9
end Go.Proofs.YthhmimlfiaboeaaGreatDoor.Us
