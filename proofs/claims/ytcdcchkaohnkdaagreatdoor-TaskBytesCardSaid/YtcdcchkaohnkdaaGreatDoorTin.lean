/- Readers of bytes, the program's: what each step returns, and what is left. -/
import Derived.Test.YtcdcchkaohnkdaaGreatDoorTmm
import Derived.Laws.Rows
import Derived.Lib.Walk
namespace Go.Proofs.YtcdcchkaohnkdaaGreatDoor
open Go.RowKit

/-! ## How much a step takes -/
theorem getN_le {s : Str} (h : (getN s).2.2 = 0) : (getN s).2.1 ≤ s.length := by
  cases s with
  | nil => simp [getN] at h
  | cons c t =>
    rw [getN_cons] at h ⊢
    split at h
    · simp at h
    · split at h
      · simp at h
      · split at h
        · simp at h
        · rename_i h1 h2 h3
          rw [if_neg h1, if_neg h2, if_neg h3]
          simp only [List.length_cons]
          omega

theorem intS_len (st : Inp) : (intS st).2.1.length ≤ st.1.length := by
  unfold intS
  split
  · split
    · simp
    · exact Nat.le_refl _
  · exact Nat.le_refl _
theorem failS_fst (st : Inp) (e : Nat) : (failS st e).1 = st.1 := by unfold failS; split <;> rfl
theorem sizeS_len (most : Nat) (st : Inp) : (sizeS most st).2.1.length ≤ st.1.length := by
  have h := intS_len st
  unfold sizeS sizedS
  split
  · rw [failS_fst]; exact h
  · split
    · rw [failS_fst]; exact h
    · split <;> exact h
theorem textS_len (st : Inp) : (textS st).2.1.length ≤ st.1.length := by
  have h := sizeS_len 65536 st
  unfold textS
  split
  · split
    · exact h
    · simp only [List.length_drop]; omega
  · exact h
theorem textsGo_len : ∀ (n : Nat) (acc : List Str) (st : Inp), (textsGo n acc st).2.1.length ≤ st.1.length
  | 0, acc, st => Nat.le_refl _
  | n + 1, acc, st => by
    unfold textsGo
    split
    · exact Nat.le_trans (textsGo_len n _ _) (textS_len st)
    · exact textS_len st
theorem textsS_len (most : Nat) (st : Inp) : (textsS most st).2.1.length ≤ st.1.length := Nat.le_trans (textsGo_len _ _ _) (sizeS_len most st)
theorem listGo_len : ∀ (n : Nat) (acc : List (List Str)) (st : Inp), (listGo n acc st).2.1.length ≤ st.1.length
  | 0, acc, st => Nat.le_refl _
  | n + 1, acc, st => by
    unfold listGo
    split
    · exact Nat.le_trans (listGo_len n _ _) (textsS_len 64 st)
    · exact Nat.le_refl _
theorem listS_len (st : Inp) : (listS st).2.1.length ≤ st.1.length := by
  unfold listS
  split
  · exact intS_len st
  · exact Nat.le_trans (listGo_len _ _ _) (intS_len st)
theorem boolS_len (st : Inp) : (boolS st).2.1.length ≤ st.1.length := by
  obtain ⟨l, e⟩ := st
  unfold boolS
  simp only
  split
  · cases l with
    | nil => exact Nat.le_refl _
    | cons c t => simp only; split <;> simp
  · exact Nat.le_refl _

/-! ## Where a reader stands -/
def InS (t : TypeId) (B : Nat) (st : Inp) (w : World) : Prop := w.heap[B]? = some (.cells #[.string (bs st.1), .int .i64 (st.2 : Nat)] t (0, 0))
theorem InS.lt {t B : Nat} {st : Inp} {w : World} (h : InS t B st w) : B < w.heap.size := (Array.getElem?_eq_some_iff.1 h).1
theorem InS.c0 {t B : Nat} {st : Inp} {w : World} (h : InS t B st w) : w.cell? ⟨B, 0, none⟩ = some (.string (bs st.1)) := by rw [cell_of_row _ _ _ _ _ _ h]; rfl
theorem InS.c1 {t B : Nat} {st : Inp} {w : World} (h : InS t B st w) : w.cell? ⟨B, 1, none⟩ = some (.int .i64 (st.2 : Nat)) := by rw [cell_of_row _ _ _ _ _ _ h]; rfl
theorem InS.f0 {t B : Nat} {st : Inp} {w : World} (h : InS t B st w) : w.frozen? ⟨B, 0, none⟩ = false := frozen_of_row w B 0 _ _ h
theorem InS.f1 {t B : Nat} {st : Inp} {w : World} (h : InS t B st w) : w.frozen? ⟨B, 1, none⟩ = false := frozen_of_row w B 1 _ _ h
theorem InS.below {t B : Nat} {st : Inp} {w w' : World} (h : InS t B st w) (hb : Below w.heap.size w w') : InS t B st w' := (hb.block B h.lt).trans h
theorem InS.onl {t B : Nat} {st : Inp} {w w' : World} (h : InS t B st w) {row : Option Nat} (hg : w.grownBy w' row) (hr : some B ≠ row) : InS t B st w' := (hg.block B h.lt hr).trans h
theorem InS.alloc {t B : Nat} {st : Inp} {w : World} (h : InS t B st w) (o : Obj) : InS t B st (w.alloc o) := h.below ((Below.refl _ w).alloc (Nat.le_refl _) o)
theorem InS.set0 {t B : Nat} {st : Inp} {r : Str} {w : World} (h : InS t B st w) : InS t B (r, st.2) (w.setCell ⟨B, 0, none⟩ (.string (bs r))) := by
  unfold InS at h ⊢
  rw [heap_setCell_same w B 0 _ _ _ h]
  rfl
theorem InS.set1 {t B : Nat} {st : Inp} {e : Nat} {w : World} (h : InS t B st w) : InS t B (st.1, e) (w.setCell ⟨B, 1, none⟩ (.int .i64 (e : Nat))) := by
  unfold InS at h ⊢
  rw [heap_setCell_same w B 1 _ _ _ h]
  rfl

theorem bs_drop (r : Str) (k : Nat) : (bs r).extract k r.length = bs (r.drop k) := by
  unfold bs
  apply ByteArray.ext
  simp [ByteArray.data_extract]
  exact List.take_of_length_le (by simp)
theorem bs_take (r : Str) (k : Nat) : (bs r).extract 0 k = bs (r.take k) := by
  unfold bs
  apply ByteArray.ext
  simp [ByteArray.data_extract]

theorem eq0_nat (e : Nat) : ((e : Int) == 0) = decide (e = 0) := by
  by_cases h : e = 0
  · subst h; rfl
  · rw [decide_eq_false h]; simp; omega
theorem ne0_nat (e : Nat) : ((e : Int) != 0) = !decide (e = 0) := by unfold bne; rw [eq0_nat]

/-! ## The steps -/
set_option maxRecDepth 100000 in
set_option maxHeartbeats 1600000 in
theorem iready_any (B : Nat) (st : Inp) (w : World) (hI : InS 129 B st w) : Calls Tryz.prog 64 #[.pointer (some ⟨B, 0, none⟩)] w fun e w' => e = .returned (.bool (decide (st.2 = 0))) ∧ w' = w := by
  have c1 := hI.c1
  have he := eq0_nat st.2
  clear hI
  obtain ⟨r, e⟩ := st
  simp only at c1 he
  go_enter Tryz.func64, Tryz.ntmps64
  go_wp2
  go_ret
  exact ⟨rfl, rfl⟩

set_option maxRecDepth 100000 in
set_option maxHeartbeats 1600000 in
theorem ierr_any (B : Nat) (st : Inp) (w : World) (hI : InS 129 B st w) : Calls Tryz.prog 27 #[.pointer (some ⟨B, 0, none⟩)] w fun e w' => e = .returned (.int .i64 (st.2 : Nat)) ∧ w' = w := by
  have c1 := hI.c1
  go_enter Tryz.func27, Tryz.ntmps27
  go_wp2
  go_ret
  exact ⟨rfl, rfl⟩

set_option maxRecDepth 100000 in
set_option maxHeartbeats 1600000 in
theorem ifail_any (B : Nat) (st : Inp) (k : Nat) (w : World) (hI : InS 129 B st w) : Calls Tryz.prog 66 #[.pointer (some ⟨B, 0, none⟩), .int .i64 (k : Nat)] w fun e w' => e = .returned (.tuple #[]) ∧ InS 129 B (failS st k) w' ∧ Onl B w w' := by
  have c1 := hI.c1
  have f1 := hI.f1
  have hIH : Hid (InS 129 B st w) := hI
  clear hI
  obtain ⟨r, e⟩ := st
  simp only at c1
  by_cases h0 : e = 0
  · have hres : Hid (failS (r, e) k = (r, k)) := by unfold Hid failS; rw [if_pos h0]
    have he : ((e : Int) == 0) = true := by rw [eq0_nat]; simp [h0]
    clear h0
    go_enter Tryz.func66, Tryz.ntmps66
    go_wp2
    go_end0
    exact ⟨rfl, by rw [hres.out]; exact hIH.out.set1, (Onl.refl B w).setCell rfl _⟩
  · have hres : Hid (failS (r, e) k = (r, e)) := by unfold Hid failS; rw [if_neg h0]
    have he : ((e : Int) == 0) = false := by rw [eq0_nat]; simp [h0]
    clear h0
    go_enter Tryz.func66, Tryz.ntmps66
    go_wp2
    go_end0
    exact ⟨rfl, by rw [hres.out]; exact hIH.out, Onl.refl B w⟩

set_option maxRecDepth 100000 in
set_option maxHeartbeats 3200000 in
theorem iint_any (B : Nat) (st : Inp) (hr : st.1.length ≤ 1000000) (w : World) (hI : InS 129 B st w) :
    Calls Tryz.prog 67 #[.pointer (some ⟨B, 0, none⟩)] w fun e w' => e = .returned (.int .i64 (intS st).1) ∧ InS 129 B (intS st).2 w' ∧ Onl B w w' := by
  have hIH : Hid (InS 129 B st w) := hI
  have hlt := hI.lt
  clear hI
  obtain ⟨r, e⟩ := st
  by_cases h0 : e = 0
  · subst h0
    have hrd : Hid (Calls Tryz.prog 64 #[.pointer (some ⟨B, 0, none⟩)] w fun e w' => e = .returned (.bool true) ∧ w' = w) := iready_any B (r, 0) w hIH.out
    have hget : Hid (∀ w, Calls Tryz.prog 110 #[.string (bs r)] w fun e w' => e = .returned (.tuple #[.int .i64 (getN r).1, .int .i64 ((getN r).2.1 : Nat), .int .i64 ((getN r).2.2 : Nat)]) ∧ Below w.heap.size w w') := fun w => oget_any (bs r) (by rw [bs_size]; simp only at hr; omega) w
    have hsz : (bs r).size = r.length := bs_size r
    have hres : Hid (intS (r, 0) = if (getN r).2.2 = 0 then ((getN r).1, (r.drop (getN r).2.1, 0)) else (0, (r, (getN r).2.2))) := by unfold Hid intS; rw [if_pos rfl]
    have hkle : Hid ((getN r).2.2 = 0 → (getN r).2.1 ≤ r.length) := getN_le
    clear hr
    generalize getN r = g at *
    obtain ⟨n, k, f⟩ := g
    simp only at hget hres hkle
    by_cases hf : f = 0
    · have hk : k ≤ r.length := hkle.out hf
      have hext : Hid ((bs r).extract k r.length = bs (r.drop k)) := bs_drop r k
      have hfe : ((f : Int) != 0) = false := by rw [ne0_nat]; simp [hf]
      rw [if_pos hf] at hres
      clear hf hkle
      go_enter Tryz.func67, Tryz.ntmps67
      go_wp2_with (fail)
      go_at_call 64
      refine hrd.out.mono ?_
      rintro e w' ⟨rfl, rfl⟩
      have c0 := hIH.out.c0
      simp only at c0
      go_wp2_with (fail)
      go_at_call 110
      refine (hget.out _).mono ?_
      rintro e w1 ⟨rfl, hB1⟩
      have hI1 : Hid (InS 129 B (r, 0) w1) := hIH.out.below hB1
      have d0 := hI1.out.c0
      have e0 := hI1.out.f0
      simp only at d0
      clear c0
      go_wp2_with (fail)
      go_ret
      rw [hext.out]
      exact ⟨by first | (rw [hres.out]; done) | (rw [hres.out]; rfl), by rw [hres.out]; exact hI1.out.set0, (Onl.of B hB1).setCell rfl _⟩
    · have hfe : ((f : Int) != 0) = true := by rw [ne0_nat]; simp [hf]
      rw [if_neg hf] at hres
      clear hf hkle
      go_enter Tryz.func67, Tryz.ntmps67
      go_wp2_with (fail)
      go_at_call 64
      refine hrd.out.mono ?_
      rintro e w' ⟨rfl, rfl⟩
      have c0 := hIH.out.c0
      simp only at c0
      go_wp2_with (fail)
      go_at_call 110
      refine (hget.out _).mono ?_
      rintro e w1 ⟨rfl, hB1⟩
      have hI1 : Hid (InS 129 B (r, 0) w1) := hIH.out.below hB1
      clear c0
      go_wp2_with (fail)
      go_at_call 66
      refine (ifail_any B (r, 0) f w1 hI1.out).mono ?_
      rintro e w2 ⟨rfl, hI2, hB2⟩
      go_wp2_with (fail)
      go_ret
      exact ⟨by first | (rw [hres.out]; done) | (rw [hres.out]; rfl), by rw [hres.out]; exact hI2, (Onl.of B hB1).trans hB2⟩
  · have hrd : Hid (Calls Tryz.prog 64 #[.pointer (some ⟨B, 0, none⟩)] w fun e w' => e = .returned (.bool false) ∧ w' = w) := by
      have := iready_any B (r, e) w hIH.out
      unfold Hid
      simpa [h0] using this
    have hres : Hid (intS (r, e) = (0, (r, e))) := by unfold Hid intS; rw [if_neg h0]
    clear h0 hr
    go_enter Tryz.func67, Tryz.ntmps67
    go_wp2_with (fail)
    go_at_call 64
    refine hrd.out.mono ?_
    rintro e' w' ⟨rfl, rfl⟩
    go_wp2_with (fail)
    go_ret
    exact ⟨by first | (rw [hres.out]; done) | (rw [hres.out]; rfl), by rw [hres.out]; exact hIH.out, Onl.refl B _⟩

set_option maxRecDepth 100000 in
set_option maxHeartbeats 3200000 in
theorem isize_any (B most : Nat) (hm : most ≤ 65536) (st : Inp) (hr : st.1.length ≤ 1000000) (w : World) (hI : InS 129 B st w) :
    Calls Tryz.prog 65 #[.pointer (some ⟨B, 0, none⟩), .int .i64 (most : Nat)] w fun e w' => e = .returned (.int .i64 ((sizeS most st).1 : Nat)) ∧ InS 129 B (sizeS most st).2 w' ∧ Onl B w w' := by
  have hint : Hid (Calls Tryz.prog 67 #[.pointer (some ⟨B, 0, none⟩)] w fun e w' => e = .returned (.int .i64 (intS st).1) ∧ InS 129 B (intS st).2 w' ∧ Onl B w w') := iint_any B st hr w hI
  have hres : Hid (sizeS most st = sizedS most (intS st).1 (intS st).2) := rfl
  clear hI hr
  generalize intS st = g at *
  obtain ⟨n, s1⟩ := g
  simp only at hint hres
  by_cases hn : n < 0
  · have h2 : Hid (sizeS most st = (0, failS s1 2)) := by unfold Hid; rw [hres.out]; unfold sizedS; rw [if_pos hn]
    have hf2 : Hid ((failS s1 2).2 ≠ 0) := by unfold Hid failS; split <;> simp_all
    clear hres hm
    go_enter Tryz.func65, Tryz.ntmps65
    go_wp2_with (fail)
    go_at_call 67
    refine hint.out.mono ?_
    rintro e w1 ⟨rfl, hI1, hB1⟩
    have hI1H : Hid (InS 129 B s1 w1) := hI1
    clear hI1
    go_wp2_with (fail)
    go_at_call 66
    refine (ifail_any B s1 2 w1 hI1H.out).mono ?_
    rintro e w2 ⟨rfl, hI2, hB2⟩
    have hI2H : Hid (InS 129 B (failS s1 2) w2) := hI2
    clear hI2
    go_wp2_with (fail)
    go_at_call 64
    have hrd := iready_any B (failS s1 2) w2 hI2H.out
    rw [decide_eq_false hf2.out] at hrd
    refine hrd.mono ?_
    rintro e w3 ⟨rfl, rfl⟩
    go_wp2_with (fail)
    go_ret
    exact ⟨by first | (rw [h2.out]; done) | (rw [h2.out]; rfl), by rw [h2.out]; exact hI2H.out, hB1.trans hB2⟩
  · by_cases hbig : (most : Int) < n ∨ 65536 < n
    · have h2 : Hid (sizeS most st = (0, failS s1 6)) := by unfold Hid; rw [hres.out]; unfold sizedS; rw [if_neg hn, if_pos hbig]
      have hf2 : Hid ((failS s1 6).2 ≠ 0) := by unfold Hid failS; split <;> simp_all
      have hb1 : (most : Int) < n := by omega
      clear hres hm hbig
      go_enter Tryz.func65, Tryz.ntmps65
      go_wp2_with (fail)
      go_at_call 67
      refine hint.out.mono ?_
      rintro e w1 ⟨rfl, hI1, hB1⟩
      have hI1H : Hid (InS 129 B s1 w1) := hI1
      clear hI1
      go_wp2_with (fail)
      go_at_call 66
      refine (ifail_any B s1 6 w1 hI1H.out).mono ?_
      rintro e w2 ⟨rfl, hI2, hB2⟩
      have hI2H : Hid (InS 129 B (failS s1 6) w2) := hI2
      clear hI2
      go_wp2_with (fail)
      go_at_call 64
      have hrd := iready_any B (failS s1 6) w2 hI2H.out
      rw [decide_eq_false hf2.out] at hrd
      refine hrd.mono ?_
      rintro e w3 ⟨rfl, rfl⟩
      go_wp2_with (fail)
      go_ret
      exact ⟨by first | (rw [h2.out]; done) | (rw [h2.out]; rfl), by rw [h2.out]; exact hI2H.out, hB1.trans hB2⟩
    · have hb1 : ¬ ((most : Int) < n) := fun h => hbig (.inl h)
      have hb2 : ¬ (65536 < n) := fun h => hbig (.inr h)
      obtain ⟨m, rfl⟩ : ∃ m : Nat, n = (m : Int) := ⟨n.toNat, by omega⟩
      have h2 : Hid (sizeS most st = if s1.2 = 0 then (m, s1) else (0, s1)) := by unfold Hid; rw [hres.out]; unfold sizedS; rw [if_neg hn, if_neg hbig]; simp
      clear hres hm hbig
      by_cases h0 : s1.2 = 0
      · rw [if_pos h0] at h2
        have hz : Hid (decide (s1.2 = 0) = true) := decide_eq_true h0
        clear h0
        go_enter Tryz.func65, Tryz.ntmps65
        go_wp2_with (fail)
        go_at_call 67
        refine hint.out.mono ?_
        rintro e w1 ⟨rfl, hI1, hB1⟩
        have hI1H : Hid (InS 129 B s1 w1) := hI1
        clear hI1
        go_wp2_with (fail)
        go_at_call 64
        have hrd := iready_any B s1 w1 hI1H.out
        rw [hz.out] at hrd
        refine hrd.mono ?_
        rintro e w3 ⟨rfl, rfl⟩
        go_wp2_with (fail)
        go_ret
        exact ⟨by first | (rw [h2.out]; done) | (rw [h2.out]; rfl), by rw [h2.out]; exact hI1H.out, hB1⟩
      · rw [if_neg h0] at h2
        have hz : Hid (decide (s1.2 = 0) = false) := decide_eq_false h0
        clear h0
        go_enter Tryz.func65, Tryz.ntmps65
        go_wp2_with (fail)
        go_at_call 67
        refine hint.out.mono ?_
        rintro e w1 ⟨rfl, hI1, hB1⟩
        have hI1H : Hid (InS 129 B s1 w1) := hI1
        clear hI1
        go_wp2_with (fail)
        go_at_call 64
        have hrd := iready_any B s1 w1 hI1H.out
        rw [hz.out] at hrd
        refine hrd.mono ?_
        rintro e w3 ⟨rfl, rfl⟩
        go_wp2_with (fail)
        go_ret
        exact ⟨by first | (rw [h2.out]; done) | (rw [h2.out]; rfl), by rw [h2.out]; exact hI1H.out, hB1⟩
end Go.Proofs.YtcdcchkaohnkdaaGreatDoor
