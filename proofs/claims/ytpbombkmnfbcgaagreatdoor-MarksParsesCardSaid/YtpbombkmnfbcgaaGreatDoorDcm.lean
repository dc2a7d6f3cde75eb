/- Plain facts on rows of decimal digits that are shifted by bits. No program in sight. -/
namespace Go.Proofs.YtpbombkmnfbcgaaGreatDoor

/-- The number that the first digits make. -/
def num (D : Nat → Nat) : Nat → Nat
  | 0 => 0
  | r + 1 => num D r * 10 + (D r - 48)
def Digs (D : Nat → Nat) (nd : Nat) : Prop := ∀ i, i < nd → 48 ≤ D i ∧ D i ≤ 57

theorem num_lt {D : Nat → Nat} : ∀ {r : Nat}, Digs D r → num D r < 10 ^ r
  | 0, _ => by simp [num]
  | r + 1, h => by
    have ih := num_lt (D := D) (r := r) fun i hi => h i (by omega)
    have hd := h r (by omega)
    rw [num, Nat.pow_succ]
    omega
theorem num_congr {D E : Nat → Nat} : ∀ {r : Nat}, (∀ i, i < r → D i = E i) → num D r = num E r
  | 0, _ => rfl
  | r + 1, h => by rw [num, num, num_congr (r := r) fun i hi => h i (by omega), h r (by omega)]
theorem num_add (D : Nat → Nat) (r : Nat) : ∀ m, num D (r + m) = num D r * 10 ^ m + num (fun i => D (r + i)) m
  | 0 => by simp [num]
  | m + 1 => by
    rw [← Nat.add_assoc, num, num_add D r m, num, Nat.pow_succ, Nat.add_mul, Nat.mul_assoc]
    omega
theorem num_one (D : Nat → Nat) : num D 1 = D 0 - 48 := by simp [num]
theorem num_first (D : Nat → Nat) (m : Nat) : num D (m + 1) = (D 0 - 48) * 10 ^ m + num (fun i => D (1 + i)) m := by
  rw [Nat.add_comm m 1, num_add, num_one]
theorem num_ge_first (D : Nat → Nat) {nd : Nat} (h : 1 ≤ nd) : (D 0 - 48) * 10 ^ (nd - 1) ≤ num D nd := by
  obtain ⟨m, rfl⟩ : ∃ m, nd = m + 1 := ⟨nd - 1, by omega⟩
  rw [num_first]
  simp
theorem num_last {D : Nat → Nat} {m : Nat} (h : 1 ≤ m) (hl : 48 < D (m - 1)) : 1 ≤ num D m := by
  obtain ⟨k, rfl⟩ : ∃ k, m = k + 1 := ⟨m - 1, by omega⟩
  rw [num]
  simp at hl
  omega

/-! ## The carry of a left shift -/
theorem carry_step (S d K m : Nat) : (S * K / 10 ^ m + d * K) / 10 = (d * 10 ^ m + S) * K / 10 ^ (m + 1) := by
  have hp : 0 < 10 ^ m := Nat.pow_pos (by omega)
  rw [Nat.pow_succ, ← Nat.div_div_eq_div_mul]
  congr 1
  rw [Nat.add_mul, show d * 10 ^ m * K = d * K * 10 ^ m by rw [Nat.mul_assoc, Nat.mul_comm (10 ^ m), ← Nat.mul_assoc], Nat.add_comm (d * K * 10 ^ m), Nat.add_mul_div_right _ _ hp]
theorem carry_lt {S K m : Nat} (h : S < 10 ^ m) (hK : 0 < K) : S * K / 10 ^ m < K := by
  rw [Nat.div_lt_iff_lt_mul (Nat.pow_pos (by omega)), Nat.mul_comm K]
  exact Nat.mul_lt_mul_of_lt_of_le h (Nat.le_refl _) hK

/-! ## A prefix that is compared -/
theorem lex_short {D E : Nat → Nat} {nd L : Nat} (heq : ∀ j, j < nd → D j = E j) (hL : nd < L) (hE : 48 < E (L - 1)) : num D nd * 10 ^ L < num E L * 10 ^ nd := by
  obtain ⟨m, rfl⟩ : ∃ m, L = nd + m := ⟨L - nd, by omega⟩
  have hs : 1 ≤ num (fun i => E (nd + i)) m := num_last (by omega) (by show 48 < E (nd + (m - 1)); rwa [show nd + (m - 1) = nd + m - 1 by omega])
  rw [num_congr heq, num_add, Nat.pow_add, ← Nat.mul_assoc, Nat.mul_right_comm]
  exact Nat.mul_lt_mul_of_lt_of_le (by omega) (Nat.le_refl _) (Nat.pow_pos (by omega))
theorem pow_swap {a b i : Nat} (h1 : i ≤ a) (h2 : i ≤ b) : 10 ^ (a - i) * 10 ^ b = 10 ^ (b - i) * 10 ^ a := by
  rw [← Nat.pow_add, ← Nat.pow_add]; congr 1; omega
/-- Where two rows part. -/
theorem lex_part {D E : Nat → Nat} {nd L i : Nat} (hD : Digs D nd) (hn : i < nd) (hL : i < L) (heq : ∀ j, j < i → D j = E j) (hlt : D i < E i) (h48 : 48 ≤ D i) : num D nd * 10 ^ L < num E L * 10 ^ nd := by
  have h1 : num D nd < num E (i + 1) * 10 ^ (nd - (i + 1)) := by
    obtain ⟨m, rfl⟩ : ∃ m, nd = i + 1 + m := ⟨nd - (i + 1), by omega⟩
    rw [num_add, show i + 1 + m - (i + 1) = m by omega]
    have hs : num (fun j => D (i + 1 + j)) m < 10 ^ m := num_lt fun j hj => hD _ (by omega)
    have hh : num D (i + 1) + 1 ≤ num E (i + 1) := by rw [num, num, num_congr heq]; omega
    calc _ < num D (i + 1) * 10 ^ m + 10 ^ m := by omega
      _ = (num D (i + 1) + 1) * 10 ^ m := by rw [Nat.add_mul]; omega
      _ ≤ _ := Nat.mul_le_mul_right _ hh
  have h2 : num E (i + 1) * 10 ^ (L - (i + 1)) ≤ num E L := by
    obtain ⟨m, rfl⟩ : ∃ m, L = i + 1 + m := ⟨L - (i + 1), by omega⟩
    rw [num_add E (i + 1) m, show i + 1 + m - (i + 1) = m by omega]
    exact Nat.le_add_right _ _
  have hp : 0 < 10 ^ L := Nat.pow_pos (by omega)
  calc _ < num E (i + 1) * 10 ^ (nd - (i + 1)) * 10 ^ L := Nat.mul_lt_mul_of_lt_of_le h1 (Nat.le_refl _) hp
    _ = num E (i + 1) * 10 ^ (L - (i + 1)) * 10 ^ nd := by rw [Nat.mul_assoc, pow_swap (by omega) (by omega), Nat.mul_assoc]
    _ ≤ _ := Nat.mul_le_mul_right _ h2
theorem lex_same {D E : Nat → Nat} {nd L : Nat} (heq : ∀ j, j < L → D j = E j) (h : L ≤ nd) : num E L * 10 ^ nd ≤ num D nd * 10 ^ L := by
  obtain ⟨m, rfl⟩ : ∃ m, nd = L + m := ⟨nd - L, by omega⟩
  rw [num_add, num_congr heq, Nat.pow_add, ← Nat.mul_assoc, Nat.mul_right_comm]
  exact Nat.mul_le_mul_right _ (Nat.le_add_right _ _)

/-! ## How many digits a left shift adds -/
/-- What the table says of a shift. -/
structure Cheat (k L delta : Nat) : Prop where
  L1 : 1 ≤ L
  eq : k = L + (delta - 1)
  d1 : 1 ≤ delta
  d20 : delta ≤ 20
  lo : 10 ^ (delta - 1) ≤ 2 ^ k
  hi : 2 ^ k < 10 ^ delta
/-- What is known of the digits that are added. -/
def Adds (N nd k e : Nat) : Prop := N * 2 ^ k / 10 ^ nd < 10 ^ e ∧ (1 ≤ e → 10 ^ (e - 1) ≤ N * 2 ^ k / 10 ^ nd)

theorem ten (k : Nat) : 5 ^ k * 2 ^ k = 10 ^ k := by rw [← Nat.mul_pow]
theorem adds_less {N nd k L delta : Nat} (hc : Cheat k L delta) (hn : 1 ≤ nd) (hN : 10 ^ (nd - 1) ≤ N) (h : N * 10 ^ L < 5 ^ k * 10 ^ nd) : Adds N nd k (delta - 1) := by
  have hpL : 0 < 10 ^ L := Nat.pow_pos (by omega)
  have h2 : 0 < 2 ^ k := Nat.pow_pos (by omega)
  have hk : N * 2 ^ k < 10 ^ (delta - 1) * 10 ^ nd := by
    have h3 : N * 10 ^ L * 2 ^ k < 5 ^ k * 10 ^ nd * 2 ^ k := Nat.mul_lt_mul_of_lt_of_le h (Nat.le_refl _) h2
    rw [Nat.mul_right_comm (5 ^ k), ten, show 10 ^ k = 10 ^ (delta - 1) * 10 ^ L by rw [← Nat.pow_add]; congr 1; have := hc.eq; omega, Nat.mul_right_comm N, Nat.mul_right_comm (10 ^ (delta - 1))] at h3
    exact Nat.lt_of_mul_lt_mul_right h3
  refine ⟨(Nat.div_lt_iff_lt_mul (Nat.pow_pos (by omega))).2 hk, fun he => ?_⟩
  rw [Nat.le_div_iff_mul_le (Nat.pow_pos (by omega))]
  obtain ⟨m, rfl⟩ : ∃ m, nd = m + 1 := ⟨nd - 1, by omega⟩
  obtain ⟨e, rfl⟩ : ∃ e, delta = e + 2 := ⟨delta - 2, by omega⟩
  have hlo := hc.lo
  simp only [Nat.add_sub_cancel] at hN ⊢ hlo
  have : 10 ^ e * 10 ^ (m + 1) = 10 ^ m * 10 ^ (e + 1) := by rw [← Nat.pow_add, ← Nat.pow_add]; congr 1; omega
  rw [show e + 2 - 1 - 1 = e by omega, this]
  rw [show e + 2 - 1 = e + 1 by omega] at hlo
  exact Nat.mul_le_mul hN hlo
theorem adds_more {N nd k L delta : Nat} (hc : Cheat k L delta) (hN : N < 10 ^ nd) (h : 5 ^ k * 10 ^ nd ≤ N * 10 ^ L) : Adds N nd k delta := by
  have hpL : 0 < 10 ^ L := Nat.pow_pos (by omega)
  have h2 : 0 < 2 ^ k := Nat.pow_pos (by omega)
  refine ⟨Nat.lt_trans (carry_lt hN h2) hc.hi, fun _ => ?_⟩
  rw [Nat.le_div_iff_mul_le (Nat.pow_pos (by omega))]
  have h3 : 5 ^ k * 10 ^ nd * 2 ^ k ≤ N * 10 ^ L * 2 ^ k := Nat.mul_le_mul_right _ h
  rw [Nat.mul_right_comm (5 ^ k), ten, show 10 ^ k = 10 ^ (delta - 1) * 10 ^ L by rw [← Nat.pow_add]; congr 1; have := hc.eq; omega, Nat.mul_right_comm N, Nat.mul_right_comm (10 ^ (delta - 1))] at h3
  exact Nat.le_of_mul_le_mul_right h3 hpL
end Go.Proofs.YtpbombkmnfbcgaaGreatDoor
