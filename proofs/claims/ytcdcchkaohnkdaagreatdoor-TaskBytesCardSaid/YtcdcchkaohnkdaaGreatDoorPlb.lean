/- Plain facts on numbers, texts and tasks as bytes: what is written is read again, and what is read is what would be written. No program in sight. -/
import Derived.Test.YtcdcchkaohnkdaaGreatDoorMrk
namespace Go.Proofs.YtcdcchkaohnkdaaGreatDoor

/-! ## Numbers -/
/-- The digits of a number by 256, the highest one first, none of nothing. -/
def digs (n : Nat) : List UInt8 := if h : n = 0 then [] else digs (n / 256) ++ [UInt8.ofNat (n % 256)]
termination_by n
decreasing_by omega

theorem digs_zero : digs 0 = [] := by rw [digs]; simp
theorem digs_pos {n : Nat} (h : n ≠ 0) : digs n = digs (n / 256) ++ [UInt8.ofNat (n % 256)] := by rw [digs, dif_neg h]

theorem beN_digs (n : Nat) : beN (digs n) = n := by
  induction n using Nat.strongRecOn with
  | ind n ih =>
    by_cases h : n = 0
    · subst h; rw [digs_zero]; rfl
    · rw [digs_pos h, beN_snoc, ih (n / 256) (by omega)]
      have : (UInt8.ofNat (n % 256)).toNat = n % 256 := by simp
      omega

theorem digs_head (n : Nat) : (digs n).head? ≠ some 0 := by
  induction n using Nat.strongRecOn with
  | ind n ih =>
    by_cases h : n = 0
    · subst h; rw [digs_zero]; simp
    · rw [digs_pos h]
      by_cases h' : n / 256 = 0
      · rw [h', digs_zero]
        simp only [List.nil_append, List.head?_cons, ne_eq, Option.some.injEq]
        intro he
        have := congrArg UInt8.toNat he
        simp at this
        omega
      · rw [List.head?_append]
        cases hd : digs (n / 256) with
        | nil =>
          have := beN_digs (n / 256)
          rw [hd] at this
          exact absurd this.symm h'
        | cons b l =>
          have := ih (n / 256) (by omega)
          rw [hd] at this
          exact this

theorem beN_zero : ∀ (l : List UInt8), beN l = 0 → l.head? ≠ some 0 → l = []
  | [], _, _ => rfl
  | b :: l, h, hh => by
    rw [beN_cons] at h
    have hp : 0 < 256 ^ l.length := Nat.pow_pos (by omega)
    exfalso
    apply hh
    have hb : b.toNat = 0 := by
      rcases Nat.eq_zero_or_pos b.toNat with h0 | h0
      · exact h0
      · have := Nat.mul_pos h0 hp; omega
    have : b = 0 := UInt8.toNat_inj.1 (by rw [hb]; rfl)
    rw [this]; rfl

theorem digs_beN (l : List UInt8) (h : l.head? ≠ some 0) : digs (beN l) = l := by
  have key : ∀ (n : Nat) (l : List UInt8), l.length = n → l.head? ≠ some 0 → digs (beN l) = l := by
    intro n
    induction n with
    | zero => intro l hl _; rw [List.eq_nil_of_length_eq_zero hl]; exact digs_zero
    | succ n ih =>
      intro l hl hh
      have hne : l ≠ [] := by intro h0; rw [h0] at hl; simp at hl
      have hsp := (List.dropLast_concat_getLast hne).symm
      have hd : l.dropLast.head? ≠ some 0 := by
        intro h0
        apply hh
        rw [hsp, List.head?_append, h0]; rfl
      have hb := beN_snoc l.dropLast (l.getLast hne)
      rw [← hsp] at hb
      have hx := (l.getLast hne).toNat_lt
      have hn0 : beN l ≠ 0 := by
        intro h0
        exact hne (beN_zero l h0 hh)
      rw [digs_pos hn0, show beN l / 256 = beN l.dropLast by omega, show beN l % 256 = (l.getLast hne).toNat by omega, ih l.dropLast (by simp [hl]) hd]
      rw [show UInt8.ofNat (l.getLast hne).toNat = l.getLast hne by simp]
      exact hsp.symm
  exact key _ l rfl h

theorem digs_length : ∀ (k n : Nat), n < 256 ^ k → (digs n).length ≤ k
  | 0, n, h => by
    have : n = 0 := by simpa using h
    subst this; rw [digs_zero]; simp
  | k + 1, n, h => by
    by_cases h0 : n = 0
    · subst h0; rw [digs_zero]; simp
    · rw [digs_pos h0, List.length_append]
      have := digs_length k (n / 256) (by rw [Nat.pow_succ] at h; exact Nat.div_lt_of_lt_mul (by rw [Nat.mul_comm]; exact h))
      simp; omega

/-- A number's bytes. -/
def putN (n : Nat) : List UInt8 := UInt8.ofNat (digs n).length :: digs n

/-- The number at the beginning of bytes, how many bytes it takes, the error. -/
def getN : List UInt8 → Int × Nat × Nat
  | [] => (0, 0, 3)
  | c :: t =>
    if 7 < c.toNat % 128 ∨ c.toNat = 128 then (0, 0, 2)
    else if t.length < c.toNat % 128 then (0, 0, 3)
    else if 9007199254740992 < beN (t.take (c.toNat % 128)) ∨ (t.take (c.toNat % 128)).head? = some 0 then (0, 0, 2)
    else (if 128 ≤ c.toNat then -(beN (t.take (c.toNat % 128)) : Int) else (beN (t.take (c.toNat % 128)) : Int), c.toNat % 128 + 1, 0)

theorem digs_len7 {n : Nat} (h : n ≤ 9007199254740992) : (digs n).length ≤ 7 := digs_length 7 n (by
  have : (256 : Nat) ^ 7 = 72057594037927936 := by decide
  omega)

theorem getN_cons (c : UInt8) (t : List UInt8) : getN (c :: t) = if 7 < c.toNat % 128 ∨ c.toNat = 128 then (0, 0, 2)
    else if t.length < c.toNat % 128 then (0, 0, 3)
    else if 9007199254740992 < beN (t.take (c.toNat % 128)) ∨ (t.take (c.toNat % 128)).head? = some 0 then (0, 0, 2)
    else (if 128 ≤ c.toNat then -(beN (t.take (c.toNat % 128)) : Int) else (beN (t.take (c.toNat % 128)) : Int), c.toNat % 128 + 1, 0) := rfl

theorem get_put {n : Nat} (h : n ≤ 9007199254740992) (r : List UInt8) : getN (putN n ++ r) = ((n : Int), (putN n).length, 0) := by
  have h7 := digs_len7 h
  have hc : (UInt8.ofNat (digs n).length).toNat = (digs n).length := by simp; omega
  have htk : (digs n ++ r).take (digs n).length = digs n := by simp
  unfold putN
  rw [List.cons_append, getN_cons]
  rw [hc, Nat.mod_eq_of_lt (show (digs n).length < 128 by omega), htk, beN_digs, if_neg (by omega), if_neg (by simp), if_neg (by
    intro hh
    rcases hh with hh | hh
    · omega
    · exact digs_head n hh), if_neg (by omega)]
  rfl

theorem put_get {s : List UInt8} {n : Int} {k : Nat} (h : getN s = (n, k, 0)) (hn : 0 ≤ n) : s = putN n.toNat ++ s.drop k ∧ n ≤ 9007199254740992 := by
  match s with
  | [] => simp [getN] at h
  | c :: t =>
    rw [getN_cons] at h
    split at h
    · simp at h
    · rename_i h1
      split at h
      · simp at h
      · rename_i h2
        split at h
        · simp at h
        · rename_i h3
          have hc := c.toNat_lt
          simp only [Prod.mk.injEq, and_true] at h
          obtain ⟨e1, e2⟩ := h
          have hlen : (t.take (c.toNat % 128)).length = c.toNat % 128 := by rw [List.length_take]; omega
          have hhd : (t.take (c.toNat % 128)).head? ≠ some 0 := fun hh => h3 (.inr hh)
          have hlow : c.toNat < 128 := by
            rcases Nat.lt_or_ge c.toNat 128 with hlt | hge
            · exact hlt
            · rw [if_pos hge] at e1
              have hz : beN (t.take (c.toNat % 128)) = 0 := by omega
              have := beN_zero _ hz hhd
              rw [this] at hlen
              simp at hlen
              omega
          rw [if_neg (by omega)] at e1
          have hm : c.toNat % 128 = c.toNat := Nat.mod_eq_of_lt hlow
          rw [hm] at e1 e2 hlen hhd h3
          have hN : n.toNat = beN (t.take c.toNat) := by omega
          refine ⟨?_, by omega⟩
          rw [hN]
          unfold putN
          rw [digs_beN _ hhd, hlen, ← e2, List.drop_succ_cons, List.cons_append, List.take_append_drop]
          congr 1
          simp

/-! ## What is read, one by one: what is left, and the first error -/
abbrev Inp := List UInt8 × Nat

def failS (st : Inp) (e : Nat) : Inp := if st.2 = 0 then (st.1, e) else st
def intS (st : Inp) : Int × Inp := if st.2 = 0 then (if (getN st.1).2.2 = 0 then ((getN st.1).1, (st.1.drop (getN st.1).2.1, 0)) else (0, (st.1, (getN st.1).2.2))) else (0, st)
def boolS (st : Inp) : Bool × Inp :=
  if st.2 = 0 then match st.1 with
    | [] => (false, (st.1, 3))
    | c :: t => if 1 < c.toNat then (false, (st.1, 2)) else (decide (c.toNat = 1), (t, 0))
  else (false, st)
/-- A length or a count: behind the number. -/
def sizedS (most : Nat) (n : Int) (st : Inp) : Nat × Inp :=
  if n < 0 then (0, failS st 2) else if (most : Int) < n ∨ 65536 < n then (0, failS st 6) else if st.2 = 0 then (n.toNat, st) else (0, st)
def sizeS (most : Nat) (st : Inp) : Nat × Inp := sizedS most (intS st).1 (intS st).2
def textS (st : Inp) : List UInt8 × Inp :=
  if (sizeS 65536 st).2.2 = 0 then
    if (sizeS 65536 st).2.1.length < (sizeS 65536 st).1 then ([], ((sizeS 65536 st).2.1, 3))
    else ((sizeS 65536 st).2.1.take (sizeS 65536 st).1, ((sizeS 65536 st).2.1.drop (sizeS 65536 st).1, 0))
  else ([], (sizeS 65536 st).2)
def textsGo : Nat → List (List UInt8) → Inp → List (List UInt8) × Inp
  | 0, acc, st => (acc, st)
  | n + 1, acc, st => if (textS st).2.2 = 0 then textsGo n (acc ++ [(textS st).1]) (textS st).2 else ([], (textS st).2)
def textsS (most : Nat) (st : Inp) : List (List UInt8) × Inp := textsGo (sizeS most st).1 [] (sizeS most st).2
def listGo : Nat → List (List (List UInt8)) → Inp → List (List (List UInt8)) × Inp
  | 0, acc, st => (acc, st)
  | n + 1, acc, st => if st.2 = 0 then listGo n (acc ++ [(textsS 64 st).1]) (textsS 64 st).2 else (acc, st)
def listS (st : Inp) : Option (List (List (List UInt8))) × Inp :=
  if (intS st).1 < 0 ∨ 64 < (intS st).1 then (none, (intS st).2) else (some (listGo (intS st).1.toNat [] (intS st).2).1, (listGo (intS st).1.toNat [] (intS st).2).2)

/-! ## What is written -/
def textP (s : List UInt8) : List UInt8 := putN s.length ++ s
def textsP (l : List (List UInt8)) : List UInt8 := putN l.length ++ l.flatMap textP
def listP (l : List (List (List UInt8))) : List UInt8 := putN l.length ++ l.flatMap textsP

/-! ## What is written is read again -/
theorem int_put {n : Nat} (h : n ≤ 9007199254740992) (r : List UInt8) : intS (putN n ++ r, 0) = ((n : Int), (r, 0)) := by
  unfold intS
  simp only [get_put h]
  simp

theorem size_put {n most : Nat} (h : n ≤ most) (h' : n ≤ 65536) (r : List UInt8) : sizeS most (putN n ++ r, 0) = (n, (r, 0)) := by
  unfold sizeS sizedS
  rw [int_put (by omega)]
  simp only
  rw [if_neg (by omega), if_neg (by omega)]
  simp

theorem text_put {s : List UInt8} (h : s.length ≤ 65536) (r : List UInt8) : textS (textP s ++ r, 0) = (s, (r, 0)) := by
  unfold textS textP
  rw [List.append_assoc, size_put h h]
  simp

theorem textsGo_put : ∀ (l : List (List UInt8)) (acc : List (List UInt8)) (r : List UInt8), (∀ s ∈ l, s.length ≤ 65536) → textsGo l.length acc (l.flatMap textP ++ r, 0) = (acc ++ l, (r, 0))
  | [], acc, r, _ => by simp [textsGo]
  | s :: l, acc, r, h => by
    rw [List.length_cons, textsGo, List.flatMap_cons, List.append_assoc, text_put (h s (by simp)), if_pos rfl]
    rw [textsGo_put l _ r (fun s hs => h s (by simp [hs]))]
    simp

theorem texts_put {l : List (List UInt8)} {most : Nat} (hl : l.length ≤ most) (hm : most ≤ 65536) (h : ∀ s ∈ l, s.length ≤ 65536) (r : List UInt8) : textsS most (textsP l ++ r, 0) = (l, (r, 0)) := by
  unfold textsS textsP
  rw [List.append_assoc, size_put hl (by omega)]
  simp only
  rw [textsGo_put l [] r h]
  simp

theorem listGo_put : ∀ (l : List (List (List UInt8))) (acc : List (List (List UInt8))) (r : List UInt8), (∀ t ∈ l, t.length ≤ 64 ∧ ∀ s ∈ t, s.length ≤ 65536) → listGo l.length acc (l.flatMap textsP ++ r, 0) = (acc ++ l, (r, 0))
  | [], acc, r, _ => by simp [listGo]
  | t :: l, acc, r, h => by
    rw [List.length_cons, listGo, if_pos rfl, List.flatMap_cons, List.append_assoc, texts_put (h t (by simp)).1 (by omega) (h t (by simp)).2]
    rw [listGo_put l _ r (fun s hs => h s (by simp [hs]))]
    simp

theorem list_put {l : List (List (List UInt8))} (hl : l.length ≤ 64) (h : ∀ t ∈ l, t.length ≤ 64 ∧ ∀ s ∈ t, s.length ≤ 65536) (r : List UInt8) : listS (listP l ++ r, 0) = (some l, (r, 0)) := by
  unfold listS listP
  rw [List.append_assoc, int_put (by omega)]
  simp only
  rw [if_neg (by omega), Int.toNat_natCast, listGo_put l [] r h]
  simp

/-! ## What is read is what would be written -/
theorem int_err {st : Inp} (h : (intS st).2.2 = 0) : st.2 = 0 ∧ (getN st.1).2.2 = 0 ∧ (intS st).1 = (getN st.1).1 ∧ (intS st).2.1 = st.1.drop (getN st.1).2.1 := by
  unfold intS at h ⊢
  split at h
  · rename_i h0
    split at h
    · rename_i h1
      rw [if_pos h0, if_pos h1]
      exact ⟨h0, h1, rfl, rfl⟩
    · rename_i h1; exact absurd h h1
  · rename_i h0; exact absurd h h0

theorem put_int {st : Inp} (h : (intS st).2.2 = 0) (hn : 0 ≤ (intS st).1) : st = (putN (intS st).1.toNat ++ (intS st).2.1, 0) ∧ (intS st).1 ≤ 9007199254740992 := by
  obtain ⟨h0, h1, h2, h3⟩ := int_err h
  rw [h2] at hn ⊢
  rw [h3]
  have := put_get (s := st.1) (n := (getN st.1).1) (k := (getN st.1).2.1) (by rw [← h1]) hn
  refine ⟨?_, this.2⟩
  rw [← this.1, ← h0]

theorem size_err {most : Nat} {st : Inp} (h : (sizeS most st).2.2 = 0) : (intS st).2.2 = 0 ∧ 0 ≤ (intS st).1 ∧ (intS st).1 ≤ most ∧ (intS st).1 ≤ 65536 ∧ (sizeS most st) = ((intS st).1.toNat, (intS st).2) := by
  unfold sizeS sizedS at h ⊢
  split at h
  · rename_i hc
    simp only [failS] at h
    split at h
    · simp at h
    · rename_i h0; exact absurd h h0
  · rename_i hc
    split at h
    · rename_i hc2
      simp only [failS] at h
      split at h
      · simp at h
      · rename_i h0; exact absurd h h0
    · rename_i hc2
      rw [if_neg hc, if_neg hc2]
      split at h
      · rename_i h0
        rw [if_pos h0]
        exact ⟨h0, by omega, by omega, by omega, rfl⟩
      · rename_i h0; exact absurd h h0

theorem put_size {most : Nat} {st : Inp} (h : (sizeS most st).2.2 = 0) : st = (putN (sizeS most st).1 ++ (sizeS most st).2.1, 0) ∧ (sizeS most st).1 ≤ most ∧ (sizeS most st).1 ≤ 65536 := by
  obtain ⟨h1, h2, h3, h4, h5⟩ := size_err h
  rw [h5]
  exact ⟨(put_int h1 h2).1, by show (intS st).1.toNat ≤ most; omega, by show (intS st).1.toNat ≤ 65536; omega⟩

theorem put_text {st : Inp} (h : (textS st).2.2 = 0) : st = (textP (textS st).1 ++ (textS st).2.1, 0) ∧ (textS st).1.length ≤ 65536 := by
  unfold textS at h ⊢
  split at h
  · rename_i h0
    split at h
    · simp at h
    · rename_i h1
      rw [if_pos h0, if_neg h1]
      obtain ⟨h2, h3, h4⟩ := put_size h0
      have hl : ((sizeS 65536 st).2.1.take (sizeS 65536 st).1).length = (sizeS 65536 st).1 := by rw [List.length_take]; omega
      refine ⟨?_, by show ((sizeS 65536 st).2.1.take (sizeS 65536 st).1).length ≤ 65536; omega⟩
      simp only [textP]
      rw [hl, List.append_assoc, List.take_append_drop]
      exact h2
  · rename_i h0; exact absurd h h0

theorem put_textsGo : ∀ (n : Nat) (acc : List (List UInt8)) (st : Inp), st.2 = 0 → (textsGo n acc st).2.2 = 0 →
    ∃ l : List (List UInt8), (textsGo n acc st).1 = acc ++ l ∧ l.length = n ∧ st = (l.flatMap textP ++ (textsGo n acc st).2.1, 0)
  | 0, acc, st, h0, h => ⟨[], by simp [textsGo], rfl, by simp only [textsGo, List.flatMap_nil, List.nil_append]; rw [← h0]⟩
  | n + 1, acc, st, h0, h => by
    unfold textsGo at h ⊢
    split at h
    · rename_i h1
      rw [if_pos h1]
      obtain ⟨l, e1, e2, e3⟩ := put_textsGo n (acc ++ [(textS st).1]) (textS st).2 h1 h
      refine ⟨(textS st).1 :: l, by rw [e1]; simp, by simp [e2], ?_⟩
      have := (put_text h1).1
      rw [List.flatMap_cons, List.append_assoc]
      have e4 : (textS st).2.1 = l.flatMap textP ++ (textsGo n (acc ++ [(textS st).1]) (textS st).2).2.1 := congrArg Prod.fst e3
      rw [← e4]
      exact this
    · rename_i h1; exact absurd h h1

theorem put_texts {most : Nat} {st : Inp} (h : (textsS most st).2.2 = 0) : st = (textsP (textsS most st).1 ++ (textsS most st).2.1, 0) ∧ (textsS most st).1.length ≤ most := by
  unfold textsS at h ⊢
  have hs : (sizeS most st).2.2 = 0 := by
    rcases Nat.eq_zero_or_pos (sizeS most st).2.2 with h0 | h0
    · exact h0
    · exfalso
      have hz : (sizeS most st).1 = 0 := by
        unfold sizeS sizedS at h0 ⊢
        split
        · rfl
        · split
          · rfl
          · split
            · rename_i a b c
              rw [if_neg a, if_neg b, if_pos c] at h0
              simp only at h0
              rw [c] at h0
              exact absurd h0 (Nat.lt_irrefl 0)
            · rfl
      rw [hz] at h
      exact absurd h (Nat.pos_iff_ne_zero.1 h0)
  obtain ⟨l, e1, e2, e3⟩ := put_textsGo _ [] _ hs h
  obtain ⟨h2, h3, h4⟩ := put_size hs
  rw [e1]
  simp only [List.nil_append]
  refine ⟨?_, by rw [e2]; exact h3⟩
  unfold textsP
  rw [e2, List.append_assoc]
  have e4 : (sizeS most st).2.1 = l.flatMap textP ++ (textsGo (sizeS most st).1 [] (sizeS most st).2).2.1 := congrArg Prod.fst e3
  rw [← e4]
  exact h2

theorem put_listGo : ∀ (n : Nat) (acc : List (List (List UInt8))) (st : Inp), st.2 = 0 → (listGo n acc st).2.2 = 0 →
    ∃ l : List (List (List UInt8)), (listGo n acc st).1 = acc ++ l ∧ l.length = n ∧ (∀ t ∈ l, t.length ≤ 64) ∧ st = (l.flatMap textsP ++ (listGo n acc st).2.1, 0)
  | 0, acc, st, h0, h => ⟨[], by simp [listGo], rfl, by simp, by simp only [listGo, List.flatMap_nil, List.nil_append]; rw [← h0]⟩
  | n + 1, acc, st, h0, h => by
    unfold listGo at h ⊢
    rw [if_pos h0] at h ⊢
    have h1 : (textsS 64 st).2.2 = 0 := by
      rcases Nat.eq_zero_or_pos (textsS 64 st).2.2 with hz | hz
      · exact hz
      · exfalso
        have : listGo n (acc ++ [(textsS 64 st).1]) (textsS 64 st).2 = (acc ++ [(textsS 64 st).1], (textsS 64 st).2) := by
          cases n with
          | zero => rfl
          | succ n => rw [listGo, if_neg (by omega)]
        rw [this] at h
        exact absurd h (Nat.pos_iff_ne_zero.1 hz)
    obtain ⟨l, e1, e2, e3, e4⟩ := put_listGo n (acc ++ [(textsS 64 st).1]) (textsS 64 st).2 h1 h
    obtain ⟨k1, k2⟩ := put_texts h1
    refine ⟨(textsS 64 st).1 :: l, by rw [e1]; simp, by simp [e2], ?_, ?_⟩
    · intro t ht
      rcases List.mem_cons.1 ht with rfl | ht
      · exact k2
      · exact e3 t ht
    · rw [List.flatMap_cons, List.append_assoc]
      have e5 : (textsS 64 st).2.1 = l.flatMap textsP ++ (listGo n (acc ++ [(textsS 64 st).1]) (textsS 64 st).2).2.1 := congrArg Prod.fst e4
      rw [← e5]
      exact k1

theorem put_list {st : Inp} {l : List (List (List UInt8))} (hl : (listS st).1 = some l) (h : (listS st).2.2 = 0) : st = (listP l ++ (listS st).2.1, 0) ∧ l.length ≤ 64 ∧ ∀ t ∈ l, t.length ≤ 64 := by
  unfold listS at hl h ⊢
  split at hl
  · cases hl
  · rename_i hc
    rw [if_neg hc] at h ⊢
    simp only [Option.some.injEq] at hl h ⊢
    have hi : (intS st).2.2 = 0 := by
      rcases Nat.eq_zero_or_pos (intS st).2.2 with hz | hz
      · exact hz
      · exfalso
        have : listGo (intS st).1.toNat [] (intS st).2 = ([], (intS st).2) := by
          cases (intS st).1.toNat with
          | zero => rfl
          | succ n => rw [listGo, if_neg (by omega)]
        rw [this] at h
        exact absurd h (Nat.pos_iff_ne_zero.1 hz)
    obtain ⟨m, e1, e2, e3, e4⟩ := put_listGo _ [] _ hi h
    obtain ⟨k1, k2⟩ := put_int hi (by omega)
    rw [hl] at e1
    simp only [List.nil_append] at e1
    subst e1
    refine ⟨?_, by omega, e3⟩
    unfold listP
    rw [e2, List.append_assoc]
    have e5 : (intS st).2.1 = l.flatMap textsP ++ (listGo (intS st).1.toNat [] (intS st).2).2.1 := congrArg Prod.fst e4
    rw [← e5]
    exact k1

theorem put_bool {st : Inp} (h : (boolS st).2.2 = 0) : st = ((if (boolS st).1 = true then 1 else 0) :: (boolS st).2.1, 0) := by
  obtain ⟨l, e⟩ := st
  unfold boolS at h ⊢
  simp only at h ⊢
  split at h
  · rename_i h0
    subst h0
    cases l with
    | nil => simp at h
    | cons c t =>
      simp only [if_true] at h ⊢
      split at h
      · simp at h
      · rename_i h1
        rw [if_neg h1]
        simp only [decide_eq_true_eq]
        have hc : c = if c.toNat = 1 then 1 else 0 := by
          apply UInt8.toNat_inj.1
          split
          · rename_i h2; rw [h2]; rfl
          · rename_i h2
            have : c.toNat = 0 := by omega
            rw [this]; rfl
        rw [← hc]
  · rename_i h0; exact absurd h h0

theorem bool_put (b : Bool) (r : List UInt8) : boolS ((if b = true then 1 else 0) :: r, 0) = (b, (r, 0)) := by
  cases b <;> simp [boolS]

/-! ## Tasks -/
structure Tk where
  name : List UInt8
  yes : List (List (List UInt8))
  no : List (List (List UInt8))
  clear : Bool
  wt : Nat

def Tk.none : Tk := ⟨[], [], [], false, 0⟩

def letterC (c : UInt8) : Bool := (decide (97 ≤ c.toNat) && decide (c.toNat ≤ 122)) || (decide (65 ≤ c.toNat) && decide (c.toNat ≤ 90))
def restC (c : UInt8) : Bool := letterC c || (decide (48 ≤ c.toNat) && decide (c.toNat ≤ 57)) || decide (c.toNat = 95) || decide (c.toNat = 45)
def goodName (s : List UInt8) : Bool := (match s with | [] => false | c :: _ => letterC c) && (decide (s.length ≤ 32) && s.all restC)
def goodWord (l : List (List UInt8)) : Bool := decide (l.length ≤ 64) && l.all fun s => !s.isEmpty && decide (s.length ≤ 16)
def goodT (t : Tk) : Bool := goodName t.name && (decide (1 ≤ t.yes.length + t.no.length) && (decide (t.yes.length + t.no.length ≤ 64) && ((t.yes.all goodWord && t.no.all goodWord) && decide (t.wt < 9218868437227405312))))

/-- A task's bytes; its weight by the bytes of a mark. -/
def putT (t : Tk) : List UInt8 := textP t.name ++ (listP t.yes ++ (listP t.no ++ ((if t.clear = true then 1 else 0) :: textP (beL 8 (canN t.wt)))))

/-- What a mark's bytes come to. -/
def getM (s : List UInt8) : Nat × Nat :=
  if s.length < 8 then (0, 3) else if 8 < s.length then (0, 4) else if canN (beN s) = beN s then (beN s, 0) else (0, 2)

/-- The task of bytes, or what is wrong with them. -/
def getT (s : List UInt8) : Tk × Nat :=
  match textS (s, 0) with
  | (name, s1) => match listS s1 with
    | (none, _) => (Tk.none, 2)
    | (some yes, s2) => match listS s2 with
      | (none, _) => (Tk.none, 2)
      | (some no, s3) => match boolS s3 with
        | (clear, s4) => match textS s4 with
          | (m, s5) =>
            if s5.2 ≠ 0 then (Tk.none, s5.2)
            else if (getM m).2 ≠ 0 ∨ goodT ⟨name, yes, no, clear, (getM m).1⟩ = false then (Tk.none, 2)
            else if s5.1 ≠ [] then (Tk.none, 4)
            else (⟨name, yes, no, clear, (getM m).1⟩, 0)

theorem goodWord_len {l : List (List UInt8)} (h : goodWord l = true) : l.length ≤ 64 ∧ ∀ s ∈ l, s.length ≤ 65536 := by
  unfold goodWord at h
  rw [Bool.and_eq_true, decide_eq_true_eq, List.all_eq_true] at h
  refine ⟨h.1, fun s hs => ?_⟩
  have := h.2 s hs
  rw [Bool.and_eq_true, decide_eq_true_eq] at this
  omega

theorem canN_good {n : Nat} (h : n < 9218868437227405312) : canN n = n := by
  unfold canN nanN
  rw [if_neg (by rw [decide_eq_true_eq]; omega)]
  split
  · omega
  · rfl

theorem getM_put {n : Nat} (h : n < 9218868437227405312) : getM (beL 8 (canN n)) = (n, 0) := by
  have hb : beN (beL 8 n) = n := by
    rw [beN_beL, Nat.mod_eq_of_lt]
    have : (256 : Nat) ^ 8 = 18446744073709551616 := by decide
    omega
  unfold getM
  rw [canN_good h, beL_length, if_neg (by omega), if_neg (by omega), hb, if_pos (canN_good h)]

/-- What is written of a good task is read again. -/
theorem getT_put {t : Tk} (h : goodT t = true) : getT (putT t) = (t, 0) := by
  have hg := h
  unfold goodT at h
  simp only [Bool.and_eq_true, decide_eq_true_eq, List.all_eq_true] at h
  obtain ⟨h1, h2, h3, ⟨h4, h5⟩, h6⟩ := h
  have hname : t.name.length ≤ 65536 := by
    unfold goodName at h1
    simp only [Bool.and_eq_true, decide_eq_true_eq] at h1
    omega
  unfold getT putT
  rw [text_put hname]
  simp only
  rw [list_put (by omega) (fun w hw => goodWord_len (h4 w hw))]
  simp only
  rw [list_put (by omega) (fun w hw => goodWord_len (h5 w hw))]
  simp only
  rw [bool_put]
  simp only
  have := text_put (s := beL 8 (canN t.wt)) (by rw [beL_length]; omega) []
  rw [List.append_nil] at this
  rw [this]
  simp only
  rw [getM_put h6, if_neg (by simp)]
  have ht : (⟨t.name, t.yes, t.no, t.clear, t.wt⟩ : Tk) = t := rfl
  simp only [ht]
  rw [if_neg (by rw [hg]; simp), if_neg (by simp)]

/-- What is read without an error is good, and is what would be written. -/
theorem put_getT {s : List UInt8} (h : (getT s).2 = 0) : goodT (getT s).1 = true ∧ putT (getT s).1 = s := by
  unfold getT at h ⊢
  cases e1 : textS (s, 0) with
  | mk name s1 =>
  rw [e1] at h
  simp only at h ⊢
  cases e2 : listS s1 with
  | mk oy s2 =>
  rw [e2] at h
  cases oy with
  | none => simp at h
  | some yes =>
  simp only at h ⊢
  cases e3 : listS s2 with
  | mk on s3 =>
  rw [e3] at h
  cases on with
  | none => simp at h
  | some no =>
  simp only at h ⊢
  cases e4 : boolS s3 with
  | mk clear s4 =>
  rw [e4] at h
  simp only at h ⊢
  cases e5 : textS s4 with
  | mk m s5 =>
  rw [e5] at h
  simp only at h ⊢
  split at h
  · rename_i hc; exact absurd h hc
  rename_i hc
  split at h
  · simp at h
  rename_i hc2
  split at h
  · simp at h
  rename_i hc3
  rw [if_neg hc, if_neg hc2, if_neg hc3]
  have z5 : s5.2 = 0 := by simpa using hc
  have n5 : s5.1 = [] := by simpa using hc3
  rw [not_or, Bool.not_eq_false] at hc2
  have zm : (getM m).2 = 0 := by simpa using hc2.1
  refine ⟨hc2.2, ?_⟩
  -- back, one by one
  have q5 := put_text (st := s4) (by rw [e5]; exact z5)
  rw [e5] at q5
  have z4 : s4.2 = 0 := by rw [q5.1]
  have q4 := put_bool (st := s3) (by rw [e4]; exact z4)
  rw [e4] at q4
  have z3 : s3.2 = 0 := by rw [q4]
  have q3 := put_list (st := s2) (l := no) (by rw [e3]) (by rw [e3]; exact z3)
  rw [e3] at q3
  have z2 : s2.2 = 0 := by rw [q3.1]
  have q2 := put_list (st := s1) (l := yes) (by rw [e2]) (by rw [e2]; exact z2)
  rw [e2] at q2
  have z1 : s1.2 = 0 := by rw [q2.1]
  have q1 := put_text (st := (s, 0)) (by rw [e1]; exact z1)
  rw [e1] at q1
  have hm : beL 8 (canN (getM m).1) = m := by
    have hg := hc2.2
    unfold goodT at hg
    simp only [Bool.and_eq_true, decide_eq_true_eq] at hg
    have hw := hg.2.2.2.2
    unfold getM at zm hw ⊢
    split at zm
    · simp at zm
    split at zm
    · simp at zm
    rename_i a b
    split at zm
    · rename_i c
      rw [if_neg a, if_neg b, if_pos c] at hw ⊢
      simp only at hw ⊢
      rw [c]
      have hl : m.length = 8 := by omega
      exact (beL_eq_iff (by omega) hl).2 rfl
    · simp at zm
  unfold putT
  simp only
  rw [hm]
  have f1 := congrArg Prod.fst q1.1
  have f2 := congrArg Prod.fst q2.1
  have f3 := congrArg Prod.fst q3.1
  have f4 := congrArg Prod.fst q4
  have f5 := congrArg Prod.fst q5.1
  simp only at f1 f2 f3 f4 f5
  rw [n5, List.append_nil] at f5
  rw [f1, f2, f3, f4, f5]
#print axioms getT_put
#print axioms put_getT
end Go.Proofs.YtcdcchkaohnkdaaGreatDoor
