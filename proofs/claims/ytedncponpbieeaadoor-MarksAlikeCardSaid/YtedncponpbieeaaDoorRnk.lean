/- The order of marks and their ranks, in plain words. -/
import Derived.Test.YtedncponpbieeaaDoorMnA
namespace Go.Proofs.YtedncponpbieeaaDoor

theorem keyN_lt (n : Nat) : keyN n < 9223372036854775808 ∧ -9223372036854775808 < keyN n := by
  unfold keyN
  have : n % 9223372036854775808 < 9223372036854775808 := Nat.mod_lt _ (by omega)
  split <;> omega

/-- A mark's place: no number comes last. -/
def placeN (f : Nat) : Int := if nanN f = true then 18446744073709551616 else keyN f

/-- What comparing two marks comes to. -/
def cmpE (a b : Nat) : Int := if placeN a < placeN b then -1 else if placeN b < placeN a then 1 else 0

theorem placeN_nan {f : Nat} (h : nanN f = true) : placeN f = 18446744073709551616 := by unfold placeN; rw [if_pos h]
theorem placeN_key {f : Nat} (h : nanN f = false) : placeN f = keyN f := by unfold placeN; simp [h]

theorem cmpE_nn {a b : Nat} (ha : nanN a = true) (hb : nanN b = true) : cmpE a b = 0 := by
  unfold cmpE; rw [placeN_nan ha, placeN_nan hb]; rfl
theorem cmpE_n {a b : Nat} (ha : nanN a = true) (hb : nanN b = false) : cmpE a b = 1 := by
  have := keyN_lt b
  unfold cmpE; rw [placeN_nan ha, placeN_key hb]
  split
  · omega
  · split
    · rfl
    · omega
theorem cmpE_y {a b : Nat} (ha : nanN a = false) (hb : nanN b = true) : cmpE a b = -1 := by
  have := keyN_lt a
  unfold cmpE; rw [placeN_nan hb, placeN_key ha]
  split
  · rfl
  · omega
theorem cmpE_k {a b : Nat} (ha : nanN a = false) (hb : nanN b = false) : cmpE a b = if keyN a < keyN b then -1 else if keyN b < keyN a then 1 else 0 := by
  unfold cmpE; rw [placeN_key ha, placeN_key hb]

theorem cmpE_neg (a b : Nat) : cmpE a b = -cmpE b a := by
  unfold cmpE
  split
  · split
    · omega
    · rfl
  · split
    · rfl
    · rfl

theorem cmpE_le (a b : Nat) : cmpE a b ≤ 0 ↔ placeN a ≤ placeN b := by
  unfold cmpE
  split
  · constructor <;> omega
  · split <;> constructor <;> omega

theorem cmpE_trans {a b c : Nat} (h1 : cmpE a b ≤ 0) (h2 : cmpE b c ≤ 0) : ¬ (0 < cmpE a c) := by
  have := (cmpE_le a c).2 (by have := (cmpE_le a b).1 h1; have := (cmpE_le b c).1 h2; omega)
  omega

/-- A mark's place in the rank: the best first, no number last. -/
def rankN (f : Nat) : Int := if nanN f = true then 18446744073709551616 else -keyN f

def ltR (fs : List Nat) (i j : Nat) : Bool := decide (rankN (fs.getD i 0) < rankN (fs.getD j 0)) || (decide (rankN (fs.getD i 0) = rankN (fs.getD j 0)) && decide (i < j))

theorem ltR_iff {fs : List Nat} {i j : Nat} : ltR fs i j = true ↔ rankN (fs.getD i 0) < rankN (fs.getD j 0) ∨ (rankN (fs.getD i 0) = rankN (fs.getD j 0) ∧ i < j) := by
  unfold ltR; simp

theorem ltR_irrefl (fs : List Nat) (i : Nat) : ltR fs i i = false := by
  cases h : ltR fs i i with
  | false => rfl
  | true => rw [ltR_iff] at h; omega

theorem ltR_trans {fs : List Nat} {i j k : Nat} (h1 : ltR fs i j = true) (h2 : ltR fs j k = true) : ltR fs i k = true := by
  rw [ltR_iff] at *; omega

theorem ltR_total {fs : List Nat} {i j : Nat} (h : i ≠ j) (hf : ltR fs j i = false) : ltR fs i j = true := by
  have : ¬ (ltR fs j i = true) := by rw [hf]; simp
  rw [ltR_iff] at *; omega

theorem ltR_ntrans {fs : List Nat} {i j k : Nat} (h1 : ltR fs i j = false) (h2 : ltR fs j k = false) : ltR fs i k = false := by
  have a1 : ¬ (ltR fs i j = true) := by rw [h1]; simp
  have a2 : ¬ (ltR fs j k = true) := by rw [h2]; simp
  cases h : ltR fs i k with
  | false => rfl
  | true => rw [ltR_iff] at *; omega

/-- How many stand ahead. -/
def cntR (fs : List Nat) (n i : Nat) : Nat := ((List.range n).filter fun k => ltR fs k i).length

theorem cnt_of_sorted {fs l : List Nat} {n : Nat} (hp : l.Perm (List.range n)) (hs : ∀ i j (hj : j < l.length) (h : i < j), ltR fs l[j] (l[i]'(by omega)) = false) (p : Nat) (h : p < l.length) : cntR fs n l[p] = p := by
  unfold cntR
  rw [← (hp.filter (fun k => ltR fs k l[p])).length_eq]
  have hnd : l.Nodup := hp.nodup_iff.2 List.nodup_range
  have hsplit : l = l.take p ++ l[p] :: l.drop (p + 1) := by rw [List.getElem_cons_drop, List.take_append_drop]
  have h1 : (l.take p).filter (fun k => ltR fs k l[p]) = l.take p := by
    rw [List.filter_eq_self]
    intro x hx
    obtain ⟨i, hi, rfl⟩ := List.mem_iff_getElem.1 hx
    simp only [List.length_take] at hi
    rw [List.getElem_take]
    refine ltR_total (fun e => ?_) (hs i p h (by omega))
    have := (List.getElem_inj hnd).1 e
    omega
  have h2 : (l.drop (p + 1)).filter (fun k => ltR fs k l[p]) = [] := by
    rw [List.filter_eq_nil_iff]
    intro x hx
    obtain ⟨i, hi, rfl⟩ := List.mem_iff_getElem.1 hx
    simp only [List.length_drop] at hi
    rw [List.getElem_drop, hs p (p + 1 + i) (by omega) (by omega)]
    simp
  have h3 : l.filter (fun k => ltR fs k l[p]) = l.take p := by
    have h4 : l.filter (fun k => ltR fs k l[p]) = (l.take p ++ l[p] :: l.drop (p + 1)).filter (fun k => ltR fs k l[p]) := congrArg _ hsplit
    rw [h4, List.filter_append, h1, List.filter_cons, ltR_irrefl, h2]
    simp
  rw [h3, List.length_take]
  omega

/-- What a rank is. -/
def RankOk (fs L : List Nat) (n : Nat) : Prop := L.length = n ∧ ∀ p, p < n → L.getD p 0 < n ∧ cntR fs n (L.getD p 0) = p

theorem rankOk_of_sorted {fs l : List Nat} {n : Nat} (hp : l.Perm (List.range n)) (hs : ∀ i j (hj : j < l.length) (h : i < j), ltR fs l[j] (l[i]'(by omega)) = false) : RankOk fs l n := by
  have hl : l.length = n := by rw [hp.length_eq, List.length_range]
  refine ⟨hl, fun p h => ?_⟩
  have hpl : p < l.length := by omega
  rw [List.getD, List.getElem?_eq_getElem hpl]
  exact ⟨by have := (hp.mem_iff (a := l[p])).1 (List.getElem_mem _); simpa using this, cnt_of_sorted hp hs p hpl⟩

theorem sorted_exists (fs : List Nat) (n : Nat) : ∃ l : List Nat, l.Perm (List.range n) ∧ ∀ i j (hj : j < l.length) (h : i < j), ltR fs l[j] (l[i]'(by omega)) = false := by
  refine ⟨(List.range n).mergeSort (fun x y => !ltR fs y x), List.mergeSort_perm _ _, ?_⟩
  have hpw := List.pairwise_mergeSort (le := fun x y => !ltR fs y x) (fun a b c h1 h2 => by
    simp only [Bool.not_eq_true'] at *
    exact ltR_ntrans h2 h1) (fun a b => by
    cases h : ltR fs b a with
    | false => simp
    | true =>
      have : ltR fs a b = false := by
        cases h2 : ltR fs a b with
        | false => rfl
        | true => have := ltR_trans h h2; rw [ltR_irrefl] at this; cases this
      simp [this]) (List.range n)
  intro i j hj h
  have := List.pairwise_iff_getElem.1 hpw i j (by omega) hj h
  simpa using this

theorem cnt_facts (fs : List Nat) (n : Nat) : (∀ i, i < n → cntR fs n i < n) ∧ (∀ i j, i < n → j < n → cntR fs n i = cntR fs n j → i = j) ∧ (∀ p, p < n → ∃ i, i < n ∧ cntR fs n i = p) := by
  obtain ⟨l, hp, hs⟩ := sorted_exists fs n
  have hl : l.length = n := by rw [hp.length_eq, List.length_range]
  have at_ : ∀ i, i < n → ∃ p, ∃ h : p < l.length, l[p] = i := fun i hi => List.mem_iff_getElem.1 ((hp.mem_iff (a := i)).2 (by simpa using hi))
  refine ⟨fun i hi => ?_, fun i j hi hj he => ?_, fun p h => ?_⟩
  · obtain ⟨p, h, rfl⟩ := at_ i hi
    rw [cnt_of_sorted hp hs p h]; omega
  · obtain ⟨p, h, rfl⟩ := at_ i hi
    obtain ⟨q, h', rfl⟩ := at_ j hj
    rw [cnt_of_sorted hp hs p h, cnt_of_sorted hp hs q h'] at he
    subst he; rfl
  · have hpl : p < l.length := by omega
    exact ⟨l[p], by have := (hp.mem_iff (a := l[p])).1 (List.getElem_mem _); simpa using this, cnt_of_sorted hp hs p hpl⟩

theorem rank_one {fs L M : List Nat} {n : Nat} (hL : RankOk fs L n) (hM : RankOk fs M n) (p : Nat) (hp : p < n) : L.getD p 0 = M.getD p 0 := by
  have h1 := hL.2 p hp
  have h2 := hM.2 p hp
  exact (cnt_facts fs n).2.1 _ _ h1.1 h2.1 (by rw [h1.2, h2.2])

/-- A rank goes down. -/
theorem rank_down {fs L : List Nat} {n : Nat} (hL : RankOk fs L n) {p q : Nat} (hpq : p < q) (hq : q < n) : ltR fs (L.getD q 0) (L.getD p 0) = false := by
  have h1 := hL.2 p (by omega)
  have h2 := hL.2 q hq
  cases h : ltR fs (L.getD q 0) (L.getD p 0) with
  | false => rfl
  | true =>
    exfalso
    have : cntR fs n (L.getD q 0) ≤ cntR fs n (L.getD p 0) := by
      unfold cntR
      rw [← List.countP_eq_length_filter, ← List.countP_eq_length_filter]
      exact List.countP_mono_left fun x _ hx => ltR_trans hx h
    rw [h1.2, h2.2] at this
    omega
end Go.Proofs.YtedncponpbieeaaDoor
