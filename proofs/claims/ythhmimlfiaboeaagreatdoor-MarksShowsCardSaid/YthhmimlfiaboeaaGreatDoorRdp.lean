/- reading a decimal text: what its digits come to the digits of a number as a text, and what is read of it -/

namespace Go.Proofs.YthhmimlfiaboeaaGreatDoor.Us

/-- How far a decimal text is read: the digits as a number, how many, where the point is, whether there was one, whether there was a digit. -/
structure RS where
  m : Nat
  nd : Nat
  dp : Int
  dot : Bool
  dig : Bool
def r0 : RS := ⟨0, 0, 0, false, false⟩
def rstep (r : RS) (c : Nat) : RS :=
  if c = 46 then ⟨r.m, r.nd, (r.nd : Int), true, r.dig⟩
  else if c = 48 ∧ r.nd = 0 then ⟨r.m, r.nd, r.dp - 1, r.dot, true⟩
  else ⟨r.m * 10 + (c - 48), r.nd + 1, r.dp, r.dot, true⟩
def rrun (l : List Nat) : RS := l.foldl rstep r0

theorem rrun_take (B : List Nat) (j : Nat) (c : Nat) (h : B[j]? = some c) : rrun (B.take (j + 1)) = rstep (rrun (B.take j)) c := by
  unfold rrun
  rw [List.take_add_one, h, List.foldl_append]; rfl
theorem rrun_all (B : List Nat) (j : Nat) (h : B.length ≤ j) : rrun (B.take j) = rrun B := by rw [List.take_of_length_le h]

/-- A body: digits and one point at the most. -/
structure Body (B : List Nat) : Prop where
  ch : ∀ c, c ∈ B → c = 46 ∨ 48 ≤ c ∧ c ≤ 57
  dot : ∀ j, B[j]? = some 46 → (rrun (B.take j)).dot = false
  nd : ∀ j, (rrun (B.take j)).nd ≤ 18
  len : B.length ≤ 40

theorem rstep_m (r : RS) (c : Nat) (h : r.m < 10 ^ r.nd) (hc : c ≤ 57) : (rstep r c).m < 10 ^ (rstep r c).nd := by
  unfold rstep
  split
  · exact h
  · split
    · exact h
    · show r.m * 10 + (c - 48) < 10 ^ (r.nd + 1)
      rw [Nat.pow_succ]
      omega
theorem rrun_m (B : List Nat) (h : ∀ c, c ∈ B → c ≤ 57) : (rrun B).m < 10 ^ (rrun B).nd := by
  unfold rrun
  have : ∀ (l : List Nat) (r : RS), (∀ c, c ∈ l → c ≤ 57) → r.m < 10 ^ r.nd → (l.foldl rstep r).m < 10 ^ (l.foldl rstep r).nd := by
    intro l
    induction l with
    | nil => intro r _ h; exact h
    | cons c l ih => intro r hl h; exact ih _ (fun x hx => hl x (List.mem_cons_of_mem _ hx)) (rstep_m r c h (hl c (List.mem_cons_self ..)))
  exact this B r0 h (by decide)
theorem rrun_dp (B : List Nat) : -((B.length : Int)) ≤ (rrun B).dp ∧ (rrun B).dp ≤ (B.length : Int) ∧ (rrun B).nd ≤ B.length := by
  unfold rrun
  have : ∀ (l : List Nat) (r : RS) (k : Nat), -(k : Int) ≤ r.dp → r.dp ≤ (k : Int) → r.nd ≤ k → -((k + l.length : Nat) : Int) ≤ (l.foldl rstep r).dp ∧ (l.foldl rstep r).dp ≤ ((k + l.length : Nat) : Int) ∧ (l.foldl rstep r).nd ≤ k + l.length := by
    intro l
    induction l with
    | nil => intro r k h1 h2 h3; exact ⟨h1, h2, h3⟩
    | cons c l ih =>
      intro r k h1 h2 h3
      have hs : -((k + 1 : Nat) : Int) ≤ (rstep r c).dp ∧ (rstep r c).dp ≤ ((k + 1 : Nat) : Int) ∧ (rstep r c).nd ≤ k + 1 := by
        unfold rstep
        split
        · simp only; omega
        · split
          · simp only; omega
          · simp only; omega
      have := ih (rstep r c) (k + 1) hs.1 hs.2.1 hs.2.2
      simp only [List.foldl_cons, List.length_cons]
      rw [show k + (l.length + 1) = k + 1 + l.length by omega]
      exact this
  have := this B r0 0 (by decide) (by decide) (by decide)
  simpa using this

/-- The exponent's digits as a number. -/
def dval (l : List Nat) : Nat := l.foldl (fun e c => e * 10 + (c - 48)) 0
theorem dval_take (l : List Nat) (j c : Nat) (h : l[j]? = some c) : dval (l.take (j + 1)) = dval (l.take j) * 10 + (c - 48) := by
  unfold dval
  rw [List.take_add_one, h, List.foldl_append]; rfl
/-- The exponent that is read. -/
def expOf (r : RS) (E : Int) : Int := if r.m = 0 then 0 else (if r.dot then r.dp else (r.nd : Int)) + E - r.nd
end Go.Proofs.YthhmimlfiaboeaaGreatDoor.Us

namespace Go.Proofs.YthhmimlfiaboeaaGreatDoor.Us

/-- The t-th digit of a number of N digits, as a byte. -/
def dgt (d N t : Nat) : Nat := 48 + d / 10 ^ (N - 1 - t) % 10
/-- So many digits, from the j-th on. -/
def dgs (d N j k : Nat) : List Nat := (List.range k).map fun t => dgt d N (j + t)
def isD (c : Nat) : Prop := 48 ≤ c ∧ c ≤ 57
theorem dgt_isD (d N t : Nat) : isD (dgt d N t) := by
  have := Nat.mod_lt (d / 10 ^ (N - 1 - t)) (show 0 < 10 by decide)
  unfold dgt isD; omega
theorem dgs_isD {d N j k c : Nat} (h : c ∈ dgs d N j k) : isD c := by
  obtain ⟨t, _, rfl⟩ := List.mem_map.1 h
  exact dgt_isD ..
theorem dgs_len (d N j k : Nat) : (dgs d N j k).length = k := by simp [dgs]
theorem dgs_succ (d N j k : Nat) : dgs d N j (k + 1) = dgs d N j k ++ [dgt d N (j + k)] := by
  unfold dgs; rw [List.range_succ, List.map_append]; rfl
theorem rep_isD {k c : Nat} (h : c ∈ List.replicate k 48) : isD c := by
  rw [List.mem_replicate] at h; unfold isD; omega

theorem step_digit (r : RS) (c : Nat) (hc : isD c) (h0 : c = 48 → r.nd ≠ 0) : rstep r c = ⟨r.m * 10 + (c - 48), r.nd + 1, r.dp, r.dot, true⟩ := by
  unfold isD at hc
  unfold rstep
  rw [if_neg (by omega), if_neg (by intro h; exact h0 h.1 h.2)]

theorem div_digit (d n : Nat) : d / 10 ^ (n + 1) * 10 + d / 10 ^ n % 10 = d / 10 ^ n := by
  rw [Nat.pow_succ, ← Nat.div_div_eq_div_mul]
  omega

theorem dgs_fold (d N j : Nat) (r : RS) (hm : r.m = d / 10 ^ (N - j)) (hn : r.nd = j) (hl : 10 ^ (N - 1) ≤ d) (hN : 1 ≤ N) (hd : d < 10 ^ N) : ∀ k, j + k ≤ N →
    (dgs d N j k).foldl rstep r = ⟨d / 10 ^ (N - (j + k)), j + k, r.dp, r.dot, r.dig || decide (0 < k)⟩
  | 0, _ => by
    obtain ⟨m, nd, dp, dot, dig⟩ := r
    simp only at hm hn
    simp [dgs, hm, hn]
  | k + 1, h => by
    rw [dgs_succ, List.foldl_append, dgs_fold d N j r hm hn hl hN hd k (by omega)]
    simp only [List.foldl_cons, List.foldl_nil]
    rw [step_digit _ _ (dgt_isD ..)]
    · have e := div_digit d (N - (j + (k + 1)))
      rw [show N - (j + (k + 1)) + 1 = N - (j + k) by omega] at e
      simp only [RS.mk.injEq]
      refine ⟨?_, by omega, trivial, trivial, by simp⟩
      unfold dgt
      rw [show N - 1 - (j + k) = N - (j + (k + 1)) by omega]
      omega
    · simp only
      intro h48 h0
      obtain ⟨rfl, rfl⟩ : j = 0 ∧ k = 0 := by omega
      unfold dgt at h48
      simp only [Nat.add_zero, Nat.sub_zero] at h48
      have h1 : 0 < d / 10 ^ (N - 1) := Nat.div_pos hl (Nat.pow_pos (by decide))
      have h2 : d / 10 ^ (N - 1) < 10 := by
        rw [Nat.div_lt_iff_lt_mul (Nat.pow_pos (by decide)), Nat.mul_comm, ← Nat.pow_succ, show (N - 1).succ = N by omega]
        exact hd
      omega

theorem lead_zeros (dp : Int) (dot dig : Bool) : ∀ k, (List.replicate k 48).foldl rstep ⟨0, 0, dp, dot, dig⟩ = ⟨0, 0, dp - (k : Int), dot, dig || decide (0 < k)⟩
  | 0 => by simp
  | k + 1 => by
    rw [List.replicate_succ', List.foldl_append, lead_zeros dp dot dig k]
    simp [rstep]
    omega
theorem tail_zeros (r : RS) (h : 0 < r.nd) : ∀ k, (List.replicate k 48).foldl rstep r = ⟨r.m * 10 ^ k, r.nd + k, r.dp, r.dot, r.dig || decide (0 < k)⟩
  | 0 => by simp
  | k + 1 => by
    rw [List.replicate_succ', List.foldl_append, tail_zeros r h k]
    simp only [List.foldl_cons, List.foldl_nil]
    rw [step_digit _ _ (by unfold isD; omega) (by simp; omega)]
    simp only [RS.mk.injEq]
    refine ⟨?_, by omega, trivial, trivial, by simp⟩
    rw [Nat.pow_succ, ← Nat.mul_assoc]; omega

theorem fold_dot : ∀ (l : List Nat) (r : RS), (∀ c, c ∈ l → isD c) → (l.foldl rstep r).dot = r.dot
  | [], r, _ => rfl
  | c :: l, r, h => by
    have hc := h c (List.mem_cons_self ..)
    unfold isD at hc
    rw [List.foldl_cons, fold_dot l _ (fun x hx => h x (List.mem_cons_of_mem _ hx))]
    unfold rstep
    rw [if_neg (by omega)]
    split <;> rfl
theorem fold_nd : ∀ (l : List Nat) (r : RS), r.nd ≤ (l.foldl rstep r).nd
  | [], r => Nat.le_refl _
  | c :: l, r => by
    rw [List.foldl_cons]
    refine Nat.le_trans ?_ (fold_nd l _)
    unfold rstep
    split
    · exact Nat.le_refl _
    · split
      · exact Nat.le_refl _
      · simp
theorem take_nd (B : List Nat) (j : Nat) : (rrun (B.take j)).nd ≤ (rrun B).nd := by
  have h := fold_nd (B.drop j) (rrun (B.take j))
  unfold rrun at h ⊢
  rw [← List.foldl_append, List.take_append_drop] at h
  exact h

theorem body_plain (A : List Nat) (hA : ∀ c, c ∈ A → isD c) (hn : (rrun A).nd ≤ 18) (hl : A.length ≤ 40) : Body A where
  ch c h := .inr (hA c h)
  dot j h := by
    have := hA 46 (List.mem_of_getElem? h)
    unfold isD at this; omega
  nd j := Nat.le_trans (take_nd A j) hn
  len := hl
theorem body_dot (A C : List Nat) (hA : ∀ c, c ∈ A → isD c) (hC : ∀ c, c ∈ C → isD c) (hn : (rrun (A ++ 46 :: C)).nd ≤ 18) (hl : (A ++ 46 :: C).length ≤ 40) : Body (A ++ 46 :: C) where
  ch c h := by
    rcases List.mem_append.1 h with h | h
    · exact .inr (hA c h)
    · rcases List.mem_cons.1 h with h | h
      · exact .inl h
      · exact .inr (hC c h)
  dot j h := by
    have hj : j ≤ A.length := by
      rcases Nat.lt_or_ge A.length j with h1 | h1
      · rw [List.getElem?_append_right (by omega)] at h
        obtain ⟨i, hi⟩ : ∃ i, j - A.length = i + 1 := ⟨j - A.length - 1, by omega⟩
        rw [hi, List.getElem?_cons_succ] at h
        have := hC 46 (List.mem_of_getElem? h)
        unfold isD at this; omega
      · exact h1
    rw [List.take_append_of_le_length hj]
    unfold rrun
    rw [fold_dot _ _ fun c hc => hA c (List.mem_of_mem_take hc)]
    rfl
  nd j := Nat.le_trans (take_nd _ j) hn
  len := hl

/-! ## The texts -/
/-- What the number is: N digits, of which those from the nd-th on are zeros. -/
structure Dd (d N nd : Nat) : Prop where
  n1 : 1 ≤ nd
  n2 : nd ≤ N
  n3 : N ≤ 17
  lo : 10 ^ (N - 1) ≤ d
  hi : d < 10 ^ N
  tz : d % 10 ^ (N - nd) = 0
theorem Dd.stripped {d N nd : Nat} (h : Dd d N nd) : d / 10 ^ (N - nd) * 10 ^ (N - nd) = d := by
  have := Nat.div_add_mod d (10 ^ (N - nd))
  rw [h.tz, Nat.mul_comm] at this
  omega
theorem Dd.mpos {d N nd : Nat} (h : Dd d N nd) : 0 < d / 10 ^ (N - nd) := by
  rcases Nat.eq_zero_or_pos (d / 10 ^ (N - nd)) with h0 | h0
  · have h1 := h.stripped
    rw [h0, Nat.zero_mul] at h1
    have := h.lo
    have : 0 < 10 ^ (N - 1) := Nat.pow_pos (by decide)
    omega
  · exact h0
theorem Dd.fold {d N nd : Nat} (h : Dd d N nd) (r : RS) (j k : Nat) (hm : r.m = d / 10 ^ (N - j)) (hn : r.nd = j) (hk : j + k ≤ nd) :
    (dgs d N j k).foldl rstep r = ⟨d / 10 ^ (N - (j + k)), j + k, r.dp, r.dot, r.dig || decide (0 < k)⟩ :=
  dgs_fold d N j r hm hn h.lo (Nat.le_trans h.n1 h.n2) h.hi k (Nat.le_trans hk h.n2)
theorem Dd.zero {d N nd : Nat} (h : Dd d N nd) : (0 : Nat) = d / 10 ^ (N - 0) := by
  rw [Nat.sub_zero, Nat.div_eq_of_lt h.hi]

/-- What is read of a body: so the number, whatever the exponent behind it. -/
structure Got (d : Nat) (B : List Nat) (dd : Int) (E : Int) : Prop where
  body : Body B
  head : ∃ c l, B = c :: l ∧ 48 ≤ c ∧ c ≤ 57
  dig : (rrun B).dig = true
  pos : 0 < (rrun B).m
  lt : (rrun B).m < 144115188075855872
  /-- the number read is d * 10^(expOf + k) -/
  exp : ∃ z : Nat, z ≤ 16 ∧ (rrun B).m * 10 ^ z = d ∧ expOf (rrun B) E = dd + (z : Int) ∨ (∃ z : Nat, z ≤ 16 ∧ (rrun B).m = d / 10 ^ z * 10 ^ (dd + (z : Int)).toNat ∧ d / 10 ^ z * 10 ^ z = d ∧ 0 ≤ dd + (z : Int) ∧ dd + (z : Int) ≤ 16 ∧ expOf (rrun B) E = 0)

theorem pow17 {d N : Nat} (h : d < 10 ^ N) (hN : N ≤ 17) : d < 144115188075855872 := by
  have : 10 ^ N ≤ 10 ^ 17 := Nat.pow_le_pow_right (by decide) hN
  omega

/-- The body of a text with an exponent: a digit, the point, the others. -/
def bodyE (d N nd : Nat) : List Nat := dgs d N 0 1 ++ (if 2 ≤ nd then 46 :: dgs d N 1 (nd - 1) else [])
/-- The body of a text without one. -/
def bodyF (d N nd : Nat) (dp : Int) : List Nat :=
  if dp ≤ 0 then [48] ++ 46 :: (List.replicate (-dp).toNat 48 ++ dgs d N 0 nd)
  else if (nd : Int) ≤ dp then dgs d N 0 nd ++ List.replicate (dp.toNat - nd) 48
  else dgs d N 0 dp.toNat ++ 46 :: dgs d N dp.toNat (nd - dp.toNat)

theorem run_E {d N nd : Nat} (h : Dd d N nd) : rrun (bodyE d N nd) = ⟨d / 10 ^ (N - nd), nd, if 2 ≤ nd then 1 else 0, decide (2 ≤ nd), true⟩ := by
  unfold rrun bodyE
  rw [List.foldl_append, h.fold r0 0 1 h.zero rfl h.n1]
  split
  · rename_i h2
    rw [List.foldl_cons]
    rw [show rstep ⟨d / 10 ^ (N - (0 + 1)), 0 + 1, r0.dp, r0.dot, r0.dig || decide (0 < 1)⟩ 46 = ⟨d / 10 ^ (N - 1), 1, 1, true, true⟩ from rfl]
    rw [h.fold _ 1 (nd - 1) rfl rfl (by omega)]
    simp only [RS.mk.injEq]
    refine ⟨by rw [show 1 + (nd - 1) = nd by omega], by omega, trivial, by simp [h2], by simp⟩
  · rename_i h2
    have : nd = 1 := by have := h.n1; omega
    subst this
    rfl

theorem got_E {d N nd : Nat} (h : Dd d N nd) (dp : Int) : Got d (bodyE d N nd) (dp - N) (dp - 1) := by
  have hr := run_E h
  have hn1 := h.n1
  have hn2 := h.n2
  have hn3 := h.n3
  refine ⟨?_, ?_, by rw [hr], by rw [hr]; exact h.mpos, ?_, ⟨N - nd, .inl ⟨by omega, by rw [hr]; exact h.stripped, ?_⟩⟩⟩
  · unfold bodyE at hr ⊢
    split
    · rename_i h2
      rw [if_pos h2] at hr
      exact body_dot _ _ (fun c => dgs_isD) (fun c => dgs_isD) (by rw [hr]; show nd ≤ 18; omega) (by simp [dgs_len]; omega)
    · rename_i h2
      rw [if_neg h2] at hr
      rw [List.append_nil] at hr ⊢
      exact body_plain _ (fun c => dgs_isD) (by rw [hr]; show nd ≤ 18; omega) (by simp [dgs_len])
  · refine ⟨dgt d N 0, _, rfl, (dgt_isD ..).1, (dgt_isD ..).2⟩
  · rw [hr]; exact Nat.lt_of_le_of_lt (Nat.div_le_self ..) (pow17 h.hi h.n3)
  · rw [hr]
    unfold expOf
    rw [if_neg (by have := h.mpos; simp only; omega)]
    by_cases h2 : 2 ≤ nd
    · simp only [h2, if_true, decide_true]; omega
    · simp only [h2, if_false, decide_false, Bool.false_eq_true]; omega

theorem got_F {d N nd : Nat} (h : Dd d N nd) (dp : Int) (h1 : -3 ≤ dp) (h2 : dp ≤ 16) : Got d (bodyF d N nd dp) (dp - N) 0 := by
  have hn1 := h.n1
  have hn2 := h.n2
  have hn3 := h.n3
  have hmp := h.mpos
  have hml : d / 10 ^ (N - nd) < 144115188075855872 := Nat.lt_of_le_of_lt (Nat.div_le_self ..) (pow17 h.hi h.n3)
  unfold bodyF
  by_cases c1 : dp ≤ 0
  · rw [if_pos c1]
    obtain ⟨k, hk⟩ : ∃ k : Nat, (-dp).toNat = k := ⟨_, rfl⟩
    rw [hk]
    have hr : rrun ([48] ++ 46 :: (List.replicate k 48 ++ dgs d N 0 nd)) = ⟨d / 10 ^ (N - nd), nd, -(k : Int), true, true⟩ := by
      unfold rrun
      rw [List.foldl_append, List.foldl_cons, List.foldl_append, List.foldl_cons, List.foldl_nil]
      rw [show rstep (rstep r0 48) 46 = ⟨0, 0, 0, true, true⟩ from rfl, lead_zeros, h.fold _ 0 nd h.zero rfl (by omega)]
      simp only [RS.mk.injEq]
      refine ⟨by rw [Nat.zero_add], by omega, by omega, trivial, by simp⟩
    refine ⟨body_dot _ _ (fun c hc => by rw [List.mem_singleton] at hc; subst hc; exact ⟨by decide, by decide⟩) (fun c hc => ?_) (by rw [hr]; show nd ≤ 18; omega) (by simp [dgs_len]; omega), ⟨48, _, rfl, by decide, by decide⟩, by rw [hr], by rw [hr]; exact hmp, by rw [hr]; exact hml, ⟨N - nd, .inl ⟨by omega, by rw [hr]; exact h.stripped, ?_⟩⟩⟩
    · rcases List.mem_append.1 hc with hc | hc
      · exact rep_isD hc
      · exact dgs_isD hc
    · rw [hr]
      unfold expOf
      rw [if_neg (by simp only; omega)]
      simp only [if_true]
      omega
  · rw [if_neg c1]
    obtain ⟨e, he⟩ : ∃ e : Nat, dp = (e : Int) := ⟨dp.toNat, by omega⟩
    subst he
    rw [Int.toNat_natCast]
    by_cases c2 : (nd : Int) ≤ (e : Int)
    · rw [if_pos c2]
      have hr : rrun (dgs d N 0 nd ++ List.replicate (e - nd) 48) = ⟨d / 10 ^ (N - nd) * 10 ^ (e - nd), e, 0, false, true⟩ := by
        unfold rrun
        rw [List.foldl_append, h.fold r0 0 nd h.zero rfl (by omega), tail_zeros _ (by simp only; omega)]
        simp only [RS.mk.injEq]
        refine ⟨by rw [Nat.zero_add], by omega, rfl, rfl, ?_⟩
        simp; omega
      have hp : 0 < 10 ^ (e - nd) := Nat.pow_pos (by decide)
      have hrun := rrun_m (dgs d N 0 nd ++ List.replicate (e - nd) 48) (fun c hc => by
        rcases List.mem_append.1 hc with hc | hc
        · exact (dgs_isD hc).2
        · exact (rep_isD hc).2)
      refine ⟨body_plain _ (fun c hc => ?_) (by rw [hr]; show e ≤ 18; omega) (by simp [dgs_len]; omega), ?_, by rw [hr], by rw [hr]; exact Nat.mul_pos hmp hp, ?_, ⟨N - nd, .inr ⟨N - nd, by omega, ?_, h.stripped, by omega, by omega, ?_⟩⟩⟩
      · rcases List.mem_append.1 hc with hc | hc
        · exact dgs_isD hc
        · exact rep_isD hc
      · obtain ⟨k, hk⟩ : ∃ k, nd = k + 1 := ⟨nd - 1, by omega⟩
        have hd := dgs_len d N 0 nd
        cases hq : dgs d N 0 nd with
        | nil => rw [hq] at hd; simp at hd; omega
        | cons c l =>
          have := dgs_isD (show c ∈ dgs d N 0 nd by rw [hq]; exact List.mem_cons_self ..)
          exact ⟨c, _, rfl, this.1, this.2⟩
      · rw [hr] at hrun ⊢
        exact pow17 hrun (by show e ≤ 17; omega)
      · rw [hr]
        show d / 10 ^ (N - nd) * 10 ^ (e - nd) = _
        rw [show ((e : Int) - N + (N - nd : Nat)).toNat = e - nd by omega]
      · rw [hr]
        unfold expOf
        rw [if_neg (by have := Nat.mul_pos hmp hp; simp only; omega)]
        simp only [Bool.false_eq_true, if_false]
        omega
    · rw [if_neg c2]
      have hr : rrun (dgs d N 0 e ++ 46 :: dgs d N e (nd - e)) = ⟨d / 10 ^ (N - nd), nd, e, true, true⟩ := by
        unfold rrun
        rw [List.foldl_append, h.fold r0 0 e h.zero rfl (by omega), List.foldl_cons]
        rw [show rstep ⟨d / 10 ^ (N - (0 + e)), 0 + e, r0.dp, r0.dot, r0.dig || decide (0 < e)⟩ 46 = ⟨d / 10 ^ (N - (0 + e)), 0 + e, ((0 + e : Nat) : Int), true, r0.dig || decide (0 < e)⟩ from rfl]
        rw [h.fold _ e (nd - e) (by rw [Nat.zero_add]) (by simp only; omega) (by omega)]
        simp only [RS.mk.injEq]
        refine ⟨by rw [show e + (nd - e) = nd by omega], by omega, by omega, trivial, ?_⟩
        simp; omega
      refine ⟨body_dot _ _ (fun c => dgs_isD) (fun c => dgs_isD) (by rw [hr]; show nd ≤ 18; omega) (by simp [dgs_len]; omega), ?_, by rw [hr], by rw [hr]; exact hmp, by rw [hr]; exact hml, ⟨N - nd, .inl ⟨by omega, by rw [hr]; exact h.stripped, ?_⟩⟩⟩
      · have hd := dgs_len d N 0 e
        cases hq : dgs d N 0 e with
        | nil => rw [hq] at hd; simp at hd; omega
        | cons c l =>
          have := dgs_isD (show c ∈ dgs d N 0 e by rw [hq]; exact List.mem_cons_self ..)
          exact ⟨c, _, rfl, this.1, this.2⟩
      · rw [hr]
        unfold expOf
        rw [if_neg (by simp only; omega)]
        simp only [if_true]
        omega

/-- The number read: m * 10^J is d * 10^(348 + p). -/
theorem Got.num {d : Nat} {B : List Nat} {p E : Int} (h : Got d B p E) (h1 : -324 ≤ p) (h2 : p ≤ 293) :
    ∃ J : Nat, expOf (rrun B) E = (J : Int) - 348 ∧ 3 ≤ J ∧ J ≤ 658 ∧ (rrun B).m * 10 ^ J = d * 10 ^ (348 + p).toNat := by
  obtain ⟨z, ⟨hz, he, hx⟩ | ⟨z, hz, hm, he, h0, h16, hx⟩⟩ := h.exp
  · refine ⟨(348 + p).toNat + z, by omega, by omega, by omega, ?_⟩
    rw [Nat.add_comm, Nat.pow_add, ← Nat.mul_assoc, he]
  · obtain ⟨k, hk⟩ : ∃ k : Nat, k = 348 := ⟨_, rfl⟩
    refine ⟨k, by omega, by omega, by omega, ?_⟩
    rw [hm, Nat.mul_assoc, ← Nat.pow_add]
    obtain ⟨g, hg⟩ : ∃ g, d / 10 ^ z = g := ⟨_, rfl⟩
    rw [hg] at he ⊢
    rw [← he, Nat.mul_assoc, ← Nat.pow_add]
    rw [show (p + (z : Int)).toNat + k = z + (348 + p).toNat by omega]
end Go.Proofs.YthhmimlfiaboeaaGreatDoor.Us
