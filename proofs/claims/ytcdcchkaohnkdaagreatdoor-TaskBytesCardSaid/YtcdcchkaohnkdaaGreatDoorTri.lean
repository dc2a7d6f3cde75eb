/- Readers of bytes, the reference's: numbers, lengths, texts, yes or no, lists of texts, lists of words. -/
import Derived.Test.YtcdcchkaohnkdaaGreatDoorTrn
import Derived.Test.YtcdcchkaohnkdaaGreatDoorTix
import Derived.Laws.AppendOwn
import Derived.LoopTactic
namespace Go.Proofs.YtcdcchkaohnkdaaGreatDoor
open Go.RowKit

set_option maxRecDepth 100000 in
set_option maxHeartbeats 3200000 in
theorem rint_any (B : Nat) (st : Inp) (hr : st.1.length ≤ 1000000) (w : World) (hI : InS 97 B st w) :
    Calls Tryz.prog 82 #[.pointer (some ⟨B, 0, none⟩)] w fun e w' => e = .returned (.int .i64 (intS st).1) ∧ InS 97 B (intS st).2 w' ∧ Onl B w w' := by
  have hIH : Hid (InS 97 B st w) := hI
  have hlt := hI.lt
  have c0 := hI.c0
  have c1 := hI.c1
  clear hI
  obtain ⟨r, e⟩ := st
  simp only at c0 c1 hr
  by_cases h0 : e = 0
  · subst h0
    have hget : Hid (∀ w, Calls Tryz.prog 114 #[.string (bs r)] w fun e w' => e = .returned (.tuple #[.int .i64 (getN r).1, .int .i64 ((getN r).2.1 : Nat), .int .i64 ((getN r).2.2 : Nat)]) ∧ Below w.heap.size w w') := fun w => r1get_any (bs r) (by rw [bs_size]; omega) w
    have hsz : (bs r).size = r.length := bs_size r
    have hres : Hid (intS (r, 0) = if (getN r).2.2 = 0 then ((getN r).1, (r.drop (getN r).2.1, 0)) else (0, (r, (getN r).2.2))) := by unfold Hid intS; rw [if_pos rfl]
    have hkle : Hid ((getN r).2.2 = 0 → (getN r).2.1 ≤ r.length) := getN_le
    clear hr
    generalize getN r = g at *
    obtain ⟨n, k, f⟩ := g
    simp only at hget hres hkle
    by_cases hf : f = 0
    · have hk : k ≤ r.length := hkle.out hf
      have hext : Hid ((bs r).extract k r.length = bs (r.drop k)) := bs_drop r k
      have hfe : ((f : Int) != 0) = false := by rw [ne0_nat]; simp [hf]
      rw [if_pos hf] at hres
      clear hf hkle
      go_enter Tryz.func82, Tryz.ntmps82
      go_wp2_with (fail)
      go_at_call 114
      refine (hget.out _).mono ?_
      rintro e w1 ⟨rfl, hB1⟩
      have hI1 : Hid (InS 97 B (r, 0) w1) := hIH.out.below hB1
      have d0 := hI1.out.c0
      have e0 := hI1.out.f0
      simp only at d0
      clear c0 c1
      go_wp2_with (fail)
      go_ret
      rw [hext.out]
      exact ⟨by first | (rw [hres.out]; done) | (rw [hres.out]; rfl), by rw [hres.out]; exact hI1.out.set0, (Onl.of B hB1).setCell rfl _⟩
    · have hfe : ((f : Int) != 0) = true := by rw [ne0_nat]; simp [hf]
      rw [if_neg hf] at hres
      clear hf hkle
      go_enter Tryz.func82, Tryz.ntmps82
      go_wp2_with (fail)
      go_at_call 114
      refine (hget.out _).mono ?_
      rintro e w1 ⟨rfl, hB1⟩
      have hI1 : Hid (InS 97 B (r, 0) w1) := hIH.out.below hB1
      have d1 := hI1.out.c1
      have e1 := hI1.out.f1
      simp only at d1
      clear c0 c1
      go_wp2_with (fail)
      go_ret
      exact ⟨by first | (rw [hres.out]; done) | (rw [hres.out]; rfl), by rw [hres.out]; exact hI1.out.set1, (Onl.of B hB1).setCell rfl _⟩
  · have he : ((e : Int) != 0) = true := by rw [ne0_nat]; simp [h0]
    have hres : Hid (intS (r, e) = (0, (r, e))) := by unfold Hid intS; rw [if_neg h0]
    clear h0 hr
    go_enter Tryz.func82, Tryz.ntmps82
    go_wp2_with (fail)
    go_ret
    exact ⟨by first | (rw [hres.out]; done) | (rw [hres.out]; rfl), by rw [hres.out]; exact hIH.out, Onl.refl B _⟩

/-- What the reference's lengths come to. -/
theorem sizedS_ok {most : Nat} {n : Int} {st : Inp} (h : st.2 ≠ 0) : sizedS most n st = (0, st) := by
  unfold sizedS failS
  rw [if_neg h, if_neg h, if_neg h]
  split
  · rfl
  · split <;> rfl
theorem sizeS_zero (most : Nat) (st : Inp) (h : (sizeS most st).2.2 ≠ 0) : (sizeS most st).1 = 0 := by
  unfold sizeS sizedS at h ⊢
  split
  · rfl
  · split
    · rfl
    · split
      · rename_i a b c
        rw [if_neg a, if_neg b, if_pos c] at h
        exact absurd c h
      · rfl
theorem intS_zero {st : Inp} (h : (intS st).2.2 ≠ 0) : (intS st).1 = 0 := by
  unfold intS at h ⊢
  split at h
  · split at h
    · simp at h
    · rename_i h0 h1; rw [if_pos h0, if_neg h1]
  · rename_i h0; rw [if_neg h0]

set_option maxRecDepth 100000 in
set_option maxHeartbeats 3200000 in
theorem rsize_any (B most : Nat) (hm : most ≤ 65536) (st : Inp) (hr : st.1.length ≤ 1000000) (w : World) (hI : InS 97 B st w) :
    Calls Tryz.prog 81 #[.pointer (some ⟨B, 0, none⟩), .int .i64 (most : Nat)] w fun e w' => e = .returned (.int .i64 ((sizeS most st).1 : Nat)) ∧ InS 97 B (sizeS most st).2 w' ∧ Onl B w w' := by
  have hint : Hid (Calls Tryz.prog 82 #[.pointer (some ⟨B, 0, none⟩)] w fun e w' => e = .returned (.int .i64 (intS st).1) ∧ InS 97 B (intS st).2 w' ∧ Onl B w w') := rint_any B st hr w hI
  have hres : Hid (sizeS most st = sizedS most (intS st).1 (intS st).2) := rfl
  clear hI hr
  generalize intS st = g at *
  obtain ⟨n, r1, e1⟩ := g
  simp only at hint hres
  by_cases h0 : e1 = 0
  · subst h0
    by_cases hn : n < 0
    · have h2 : Hid (sizeS most st = (0, (r1, 2))) := by unfold Hid; rw [hres.out]; unfold sizedS failS; rw [if_pos hn, if_pos rfl]
      clear hres hm
      go_enter Tryz.func81, Tryz.ntmps81
      go_wp2_with (fail)
      go_at_call 82
      refine hint.out.mono ?_
      rintro e w1 ⟨rfl, hI1, hB1⟩
      have hI1H : Hid (InS 97 B (r1, 0) w1) := hI1
      have c1 := hI1.c1
      have f1 := hI1.f1
      simp only at c1
      clear hI1
      go_wp2_with (fail)
      go_ret
      exact ⟨by first | (rw [h2.out]; done) | (rw [h2.out]; rfl), by rw [h2.out]; exact hI1H.out.set1, hB1.setCell rfl _⟩
    · by_cases hbig : (most : Int) < n ∨ 65536 < n
      · have h2 : Hid (sizeS most st = (0, (r1, 6))) := by unfold Hid; rw [hres.out]; unfold sizedS failS; rw [if_neg hn, if_pos hbig, if_pos rfl]
        have hb1 : (most : Int) < n := by omega
        clear hres hm hbig
        go_enter Tryz.func81, Tryz.ntmps81
        go_wp2_with (fail)
        go_at_call 82
        refine hint.out.mono ?_
        rintro e w1 ⟨rfl, hI1, hB1⟩
        have hI1H : Hid (InS 97 B (r1, 0) w1) := hI1
        have c1 := hI1.c1
        have f1 := hI1.f1
        simp only at c1
        clear hI1
        go_wp2_with (fail)
        go_ret
        exact ⟨by first | (rw [h2.out]; done) | (rw [h2.out]; rfl), by rw [h2.out]; exact hI1H.out.set1, hB1.setCell rfl _⟩
      · have hb1 : ¬ ((most : Int) < n) := fun h => hbig (.inl h)
        have hb2 : ¬ (65536 < n) := fun h => hbig (.inr h)
        obtain ⟨m, rfl⟩ : ∃ m : Nat, n = (m : Int) := ⟨n.toNat, by omega⟩
        have h2 : Hid (sizeS most st = (m, (r1, 0))) := by unfold Hid; rw [hres.out]; unfold sizedS; rw [if_neg hn, if_neg hbig, if_pos rfl]; simp
        clear hres hm hbig
        go_enter Tryz.func81, Tryz.ntmps81
        go_wp2_with (fail)
        go_at_call 82
        refine hint.out.mono ?_
        rintro e w1 ⟨rfl, hI1, hB1⟩
        have hI1H : Hid (InS 97 B (r1, 0) w1) := hI1
        have c1 := hI1.c1
        simp only at c1
        clear hI1
        go_wp2_with (fail)
        go_ret
        exact ⟨by first | (rw [h2.out]; done) | (rw [h2.out]; rfl), by rw [h2.out]; exact hI1H.out, hB1⟩
  · have h2 : Hid (sizeS most st = (0, (r1, e1))) := by unfold Hid; rw [hres.out]; exact sizedS_ok h0
    have he : ((e1 : Int) == 0) = false := by rw [eq0_nat]; simp [h0]
    have he2 : ((e1 : Int) != 0) = true := by rw [ne0_nat]; simp [h0]
    clear hres hm h0
    go_enter Tryz.func81, Tryz.ntmps81
    go_wp2_with (fail)
    go_at_call 82
    refine hint.out.mono ?_
    rintro e w1 ⟨rfl, hI1, hB1⟩
    have hI1H : Hid (InS 97 B (r1, e1) w1) := hI1
    have c1 := hI1.c1
    simp only at c1
    clear hI1
    go_wp2_with (fail)
    go_ret
    exact ⟨by first | (rw [h2.out]; done) | (rw [h2.out]; rfl), by rw [h2.out]; exact hI1H.out, hB1⟩

set_option maxRecDepth 100000 in
set_option maxHeartbeats 3200000 in
theorem rtext_any (B : Nat) (st : Inp) (hr : st.1.length ≤ 1000000) (w : World) (hI : InS 97 B st w) :
    Calls Tryz.prog 43 #[.pointer (some ⟨B, 0, none⟩)] w fun e w' => e = .returned (.string (bs (textS st).1)) ∧ InS 97 B (textS st).2 w' ∧ Onl B w w' := by
  have hsize : Hid (Calls Tryz.prog 81 #[.pointer (some ⟨B, 0, none⟩), .int .i64 65536] w fun e w' => e = .returned (.int .i64 ((sizeS 65536 st).1 : Nat)) ∧ InS 97 B (sizeS 65536 st).2 w' ∧ Onl B w w') := rsize_any B 65536 (Nat.le_refl _) st hr w hI
  have hres : Hid (textS st = if (sizeS 65536 st).2.2 = 0 then (if (sizeS 65536 st).2.1.length < (sizeS 65536 st).1 then ([], ((sizeS 65536 st).2.1, 3)) else ((sizeS 65536 st).2.1.take (sizeS 65536 st).1, ((sizeS 65536 st).2.1.drop (sizeS 65536 st).1, 0))) else ([], (sizeS 65536 st).2)) := rfl
  clear hI hr
  generalize sizeS 65536 st = g at *
  obtain ⟨m, r1, e1⟩ := g
  simp only at hsize hres
  by_cases h1 : e1 = 0
  · subst h1
    rw [if_pos rfl] at hres
    have hsz : (bs r1).size = r1.length := bs_size r1
    by_cases h2 : r1.length < m
    · rw [if_pos h2] at hres
      have hlt : (r1.length : Int) < (m : Int) := by omega
      clear h2
      go_enter Tryz.func43, Tryz.ntmps43
      go_wp2_with (fail)
      go_at_call 81
      refine hsize.out.mono ?_
      rintro e w1 ⟨rfl, hI1, hB1⟩
      have hI1H : Hid (InS 97 B (r1, 0) w1) := hI1
      have c0 := hI1.c0
      have c1 := hI1.c1
      have f1 := hI1.f1
      simp only at c0 c1
      clear hI1
      go_wp2_with (fail)
      go_ret
      exact ⟨by first | (rw [hres.out]; done) | (rw [hres.out]; rfl), by rw [hres.out]; exact hI1H.out.set1, hB1.setCell rfl _⟩
    · rw [if_neg h2] at hres
      have hlt : ¬ ((r1.length : Int) < (m : Int)) := by omega
      have hm : m ≤ r1.length := by omega
      have hx0 : Hid ((bs r1).extract 0 m = bs (r1.take m)) := bs_take r1 m
      have hx1 : Hid ((bs r1).extract m r1.length = bs (r1.drop m)) := bs_drop r1 m
      clear h2
      go_enter Tryz.func43, Tryz.ntmps43
      go_wp2_with (fail)
      go_at_call 81
      refine hsize.out.mono ?_
      rintro e w1 ⟨rfl, hI1, hB1⟩
      have hI1H : Hid (InS 97 B (r1, 0) w1) := hI1
      have c0 := hI1.c0
      have c1 := hI1.c1
      have f0 := hI1.f0
      simp only at c0 c1
      clear hI1
      go_wp2_with (fail)
      go_ret
      rw [hx0.out, hx1.out]
      exact ⟨by first | (rw [hres.out]; done) | (rw [hres.out]; rfl), by rw [hres.out]; exact hI1H.out.set0, hB1.setCell rfl _⟩
  · rw [if_neg h1] at hres
    have he : ((e1 : Int) == 0) = false := by rw [eq0_nat]; simp [h1]
    have he2 : ((e1 : Int) != 0) = true := by rw [ne0_nat]; simp [h1]
    clear h1
    go_enter Tryz.func43, Tryz.ntmps43
    go_wp2_with (fail)
    go_at_call 81
    refine hsize.out.mono ?_
    rintro e w1 ⟨rfl, hI1, hB1⟩
    have hI1H : Hid (InS 97 B (r1, e1) w1) := hI1
    have c1 := hI1.c1
    simp only at c1
    clear hI1
    go_wp2_with (fail)
    go_ret
    exact ⟨by first | (rw [hres.out]; done) | (rw [hres.out]; rfl), by rw [hres.out]; exact hI1H.out, hB1⟩

set_option maxRecDepth 100000 in
set_option maxHeartbeats 3200000 in
theorem rbool_any (B : Nat) (st : Inp) (w : World) (hI : InS 97 B st w) :
    Calls Tryz.prog 45 #[.pointer (some ⟨B, 0, none⟩)] w fun e w' => e = .returned (.bool (boolS st).1) ∧ InS 97 B (boolS st).2 w' ∧ Onl B w w' := by
  have hIH : Hid (InS 97 B st w) := hI
  have c0 := hI.c0
  have c1 := hI.c1
  have f0 := hI.f0
  have f1 := hI.f1
  clear hI
  obtain ⟨r, e⟩ := st
  simp only at c0 c1
  by_cases h0 : e = 0
  · subst h0
    cases r with
    | nil =>
      have hres : Hid (boolS (([] : Str), 0) = (false, ([], 3))) := rfl
      have hne : (bs []).toList.isEmpty = true := by rw [bs_empty]; rfl
      go_enter Tryz.func45, Tryz.ntmps45
      go_wp2_with (fail)
      go_ret
      exact ⟨by first | (rw [hres.out]; done) | (rw [hres.out]; rfl), by rw [hres.out]; exact hIH.out.set1, (Onl.refl B w).setCell rfl _⟩
    | cons c t =>
      have hne : (bs (c :: t)).toList.isEmpty = false := by rw [bs_empty]; rfl
      have hsz : (bs (c :: t)).size = t.length + 1 := rfl
      have h00 : 0 < (bs (c :: t)).size := by omega
      have hz0 : (bs (c :: t))[0] = c := rfl
      have hx1 : Hid ((bs (c :: t)).extract 1 (t.length + 1) = bs t) := bs_drop (c :: t) 1
      by_cases h1 : 1 < c.toNat
      · have hres : Hid (boolS (c :: t, 0) = (false, (c :: t, 2))) := by unfold Hid boolS; simp [h1]
        have h1i : (1 : Int) < (c.toNat : Int) := by omega
        clear h1
        go_enter Tryz.func45, Tryz.ntmps45
        go_wp2_with (fail)
        go_ret
        exact ⟨by first | (rw [hres.out]; done) | (rw [hres.out]; rfl), by rw [hres.out]; exact hIH.out.set1, (Onl.refl B w).setCell rfl _⟩
      · have hres : Hid (boolS (c :: t, 0) = (decide ((c.toNat : Int) = 1), (t, 0))) := by
          unfold Hid boolS
          simp only [if_true]
          rw [if_neg h1]
          congr 1
          rw [decide_eq_decide]; omega
        have h1i : ¬ ((1 : Int) < (c.toNat : Int)) := by omega
        clear h1
        go_enter Tryz.func45, Tryz.ntmps45
        go_wp2_with (fail)
        go_ret
        rw [hx1.out]
        exact ⟨by first | (rw [hres.out]; done) | (rw [hres.out]; rfl), by rw [hres.out]; exact hIH.out.set0, (Onl.refl B w).setCell rfl _⟩
  · have he2 : ((e : Int) != 0) = true := by rw [ne0_nat]; simp [h0]
    have hres : Hid (boolS (r, e) = (false, (r, e))) := by unfold Hid boolS; simp [h0]
    clear h0
    go_enter Tryz.func45, Tryz.ntmps45
    go_wp2_with (fail)
    go_ret
    exact ⟨by first | (rw [hres.out]; done) | (rw [hres.out]; rfl), by rw [hres.out]; exact hIH.out, Onl.refl B _⟩
set_option maxRecDepth 100000 in
set_option maxHeartbeats 6400000 in
theorem rtexts_any (B most : Nat) (hm : most ≤ 65536) (st : Inp) (hr : st.1.length ≤ 1000000) (w : World) (hI : InS 97 B st w) :
    Calls Tryz.prog 83 #[.pointer (some ⟨B, 0, none⟩), .int .i64 (most : Nat)] w fun e w' => ∃ v, e = .returned v ∧ w'.ownsRow w.heap.size 9 1 v (textsS most st).1.length (strVals (textsS most st).1) ∧ InS 97 B (textsS most st).2 w' ∧ Onl B w w' := by
  obtain ⟨i0, z0, hInf⟩ := strInfo
  have hlt := hI.lt
  have hsize : Hid (Calls Tryz.prog 81 #[.pointer (some ⟨B, 0, none⟩), .int .i64 (most : Nat)] w fun e w' => e = .returned (.int .i64 ((sizeS most st).1 : Nat)) ∧ InS 97 B (sizeS most st).2 w' ∧ Onl B w w') := rsize_any B most hm st hr w hI
  have hres : Hid (textsS most st = textsGo (sizeS most st).1 [] (sizeS most st).2) := rfl
  have hlen : Hid ((sizeS most st).2.1.length ≤ 1000000) := Nat.le_trans (sizeS_len most st) hr
  have hn16 : Hid ((sizeS most st).1 ≤ 65536) := sizeS_16 most st
  have hnE : Hid ((sizeS most st).2.2 ≠ 0 → (sizeS most st).1 = 0) := sizeS_zero most st
  clear hI hr hm
  generalize sizeS most st = g at *
  obtain ⟨n, s1⟩ := g
  simp only at hsize hres hlen hn16 hnE
  go_enter Tryz.func83, Tryz.ntmps83
  go_wp2_with (fail)
  go_at_call 81
  refine hsize.out.mono ?_
  rintro e w1 ⟨rfl, hI1, hO1⟩
  have hI1H : Hid (InS 97 B s1 w1) := hI1
  have hO1H : Hid (Onl B w w1) := hO1
  clear hI1 hO1
  go_wp2_with (fail)
  go_loopw [6, 7] (fun v i wr => ∃ (k : Nat) (acc : List Str) (s : Inp), k ≤ n ∧ i = .int .i64 k ∧ acc.length = k ∧ wr.ownsRow w.heap.size 9 1 v k (strVals acc) ∧ InS 97 B s wr ∧ Onl B w wr ∧ s.1.length ≤ 1000000 ∧
    (s.2 = 0 → textsS most st = textsGo (n - k) acc s) ∧ (s.2 ≠ 0 → textsS most st = ([], s))) (fun _ i _ => n - (intOf i).toNat)
  case atStart =>
    refine ⟨0, [], s1, Nat.zero_le _, rfl, rfl, World.ownsRow_nil _ _ _ _, hI1H.out, hO1H.out, hlen.out, fun _ => hres.out, fun h => ?_⟩
    rw [hres.out, hnE.out h]; rfl
  case round =>
    obtain ⟨k, acc, s, hk, rfl, hacc, hown, hIk, hOk, hsl, hgo, hge⟩ := hrel
    have hIkH : Hid (InS 97 B s wr) := hIk
    have hOkH : Hid (Onl B w wr) := hOk
    have c1 := hIk.c1
    have hk16 : k ≤ 65536 := by have := hn16.out; omega
    by_cases he : s.2 = 0
    · have hgoH : Hid (textsS most st = textsGo (n - k) acc s) := hgo he
      have heb : ((s.2 : Int) == 0) = true := by rw [eq0_nat]; simp [he]
      have hen : ((s.2 : Int) != 0) = false := by rw [ne0_nat]; simp [he]
      clear hgo hge hIk hOk
      by_cases hlt2 : k < n
      · have htext : Hid (Calls Tryz.prog 43 #[.pointer (some ⟨B, 0, none⟩)] wr fun e w' => e = .returned (.string (bs (textS s).1)) ∧ InS 97 B (textS s).2 w' ∧ Onl B wr w') := rtext_any B s hsl wr hIkH.out
        have htl : Hid ((textS s).2.1.length ≤ 1000000) := Nat.le_trans (textS_len s) hsl
        have hgoE : Hid ((textS s).2.2 ≠ 0 → textsS most st = ([], (textS s).2)) := fun h => by rw [hgoH.out, show n - k = (n - k - 1) + 1 by omega, textsGo_err _ _ _ h]
        have hgoO : Hid ((textS s).2.2 = 0 → textsS most st = textsGo (n - (k + 1)) (acc ++ [(textS s).1]) (textS s).2) := fun h => by rw [hgoH.out, show n - k = (n - (k + 1)) + 1 by omega, textsGo_ok _ _ _ h]
        clear hsl hgoH he
        generalize textS s = g at *
        obtain ⟨t, s2⟩ := g
        simp only at htext htl hgoE hgoO
        go_wp2_with (fail)
        go_at_call 43
        refine htext.out.mono ?_
        rintro e w2 ⟨rfl, hI2, hO2⟩
        have hown2 := own_onl hown hO2 hlt
        have hI2H : Hid (InS 97 B s2 w2) := hI2
        have hO2H : Hid (Onl B w w2) := hOkH.out.trans hO2
        have hsz2 : w.heap.size ≤ w2.heap.size := (hOkH.out.trans hO2).size
        clear hI2 hO2 hown c1
        go_wp2_with (first
          | (at_builtin; refine wpList_append_own _ rfl _ _ 47 rfl w.heap.size 9 i0 z0 1 16 hInf.sl hInf.info hInf.zero hInf.hsz hInf.hby hInf.hcl (by decide) _ _ _ rfl (hown2.alloc _) ⟨w2.heap.size, 0, none⟩ 1 1 [.string (bs t)] rfl rfl ?c1 ?c2 ?c3 ?c4 ?c5 ?_)
          | fail)
        case c1 =>
          intro j u hj
          match j, hj with
          | 0, hj => simp at hj; subst hj; simp [Addr.add]
        case c2 => intro u hu; simp at hu; subst hu; rfl
        case c3 => have := hn16.out; unfold maxLen; omega
        case c4 => have := hn16.out; omega
        case c5 => simp; omega
        intro v' w3 hown3 hg3 _
        have hrow : ∀ j, u6.ownBlock = some j → w.heap.size ≤ j := fun j hj => (hown2.lt j hj).1
        have hI3H : Hid (InS 97 B s2 w3) := (hI2H.out.alloc _).onl hg3 (fun e => by have := hrow B e.symm; omega)
        have hO3H : Hid (Onl B w w3) := (hO2H.out.alloc _).grown hg3 hrow
        clear hg3 hown2 hI2H hO2H hrow
        go_wp2_with (fail)
        go_roundw
        case rel => exact ⟨k + 1, acc ++ [t], s2, by omega, by go_num, by simp [hacc], by rw [strVals_append, strVals_one]; exact hown3, hI3H.out, hO3H.out, htl.out, hgoO.out, hgoE.out⟩
        case measure => simp [intOf]; omega
      · have hkn : k = n := by omega
        have hgo' : Hid (textsS most st = (acc, s)) := by unfold Hid; rw [hgoH.out, hkn, Nat.sub_self]; rfl
        have hownH : Hid (wr.ownsRow w.heap.size 9 1 u6 acc.length (strVals acc)) := by unfold Hid; rw [hacc]; exact hown
        clear hgoH hown hsl he
        go_wp2_with (fail)
        go_ret
        exact ⟨_, rfl, by rw [hgo'.out]; exact hownH.out, by rw [hgo'.out]; exact hIkH.out, hOkH.out⟩
    · have hgo' : Hid (textsS most st = ([], s)) := hge he
      have heb : ((s.2 : Int) == 0) = false := by rw [eq0_nat]; simp [he]
      have hen : ((s.2 : Int) != 0) = true := by rw [ne0_nat]; simp [he]
      clear hgo hge hIk hOk hown hsl he
      by_cases hlt2 : k < n
      all_goals
        go_wp2_with (fail)
        go_ret
        exact ⟨_, rfl, by rw [hgo'.out]; exact World.ownsRow_nil _ _ _ _, by rw [hgo'.out]; exact hIkH.out, hOkH.out⟩

set_option maxRecDepth 100000 in
set_option maxHeartbeats 6400000 in
theorem rlist_any (B : Nat) (st : Inp) (hr : st.1.length ≤ 1000000) (w : World) (hI : InS 97 B st w) :
    Calls Tryz.prog 44 #[.pointer (some ⟨B, 0, none⟩)] w fun e w' => ∃ v ok, e = .returned (.tuple #[v, .bool ok]) ∧ ListR w.heap.size w' v ok (listS st).1 ∧ InS 97 B (listS st).2 w' ∧ Onl B w w' := by
  obtain ⟨i0, z0, hInf⟩ := lstInfo
  have hlt := hI.lt
  have hint : Hid (Calls Tryz.prog 82 #[.pointer (some ⟨B, 0, none⟩)] w fun e w' => e = .returned (.int .i64 (intS st).1) ∧ InS 97 B (intS st).2 w' ∧ Onl B w w') := rint_any B st hr w hI
  have hres : Hid (listS st = if (intS st).1 < 0 ∨ 64 < (intS st).1 then (none, (intS st).2) else (some (listGo (intS st).1.toNat [] (intS st).2).1, (listGo (intS st).1.toNat [] (intS st).2).2)) := rfl
  have hlen : Hid ((intS st).2.1.length ≤ 1000000) := Nat.le_trans (intS_len st) hr
  have hz : Hid ((intS st).2.2 ≠ 0 → (intS st).1 = 0) := intS_zero
  clear hI hr
  generalize intS st = g at *
  obtain ⟨n, s1⟩ := g
  simp only at hint hres hlen hz
  by_cases hbad : n < 0 ∨ 64 < n
  · rw [if_pos hbad] at hres
    have he1 : s1.2 = 0 := by
      rcases Nat.eq_zero_or_pos s1.2 with h | h
      · exact h
      · have := hz.out (by omega); omega
    have heb : ((s1.2 : Int) == 0) = true := by rw [eq0_nat]; simp [he1]
    by_cases hn : n < 0
    all_goals
      first | have h64 : (64 : Int) < n := by omega | skip
      clear hbad hz
      go_enter Tryz.func44, Tryz.ntmps44
      go_wp2_with (fail)
      go_at_call 82
      refine hint.out.mono ?_
      rintro e w1 ⟨rfl, hI1, hO1⟩
      have c1 := hI1.c1
      have hI1H : Hid (InS 97 B s1 w1) := hI1
      clear hI1
      go_wp2_with (fail)
      go_ret2
      exact ⟨_, _, rfl, by rw [hres.out]; exact .inl ⟨rfl, rfl, rfl⟩, by rw [hres.out]; exact hI1H.out, hO1⟩
  · rw [if_neg hbad] at hres
    obtain ⟨m, rfl⟩ : ∃ m : Nat, n = (m : Int) := ⟨n.toNat, by omega⟩
    have hn1 : ¬ ((m : Int) < 0) := by omega
    have hn2 : ¬ ((64 : Int) < (m : Int)) := by omega
    have hm64 : m ≤ 64 := by omega
    rw [Int.toNat_natCast] at hres
    clear hbad hz
    by_cases he1 : s1.2 = 0
    all_goals
      first
        | have heb1 : ((s1.2 : Int) == 0) = true := by rw [eq0_nat]; simp [he1]
        | have heb1 : ((s1.2 : Int) == 0) = false := by rw [eq0_nat]; simp [he1]
      clear he1
      go_enter Tryz.func44, Tryz.ntmps44
      go_wp2_with (fail)
      go_at_call 82
      refine hint.out.mono ?_
      rintro e w1 ⟨rfl, hI1, hO1⟩
      have hI1H : Hid (InS 97 B s1 w1) := hI1
      have hO1H : Hid (Onl B w w1) := hO1
      have c1 := hI1.c1
      clear hI1 hO1
      go_wp2_with (fail)
      go_loopw [5, 6] (fun v i wr => ∃ (k : Nat) (acc : List (List Str)) (vs : List Value) (s : Inp), k ≤ m ∧ i = .int .i64 k ∧ acc.length = k ∧ wr.ownsRow w.heap.size 47 1 v k vs ∧ WordsOwn w.heap.size wr vs acc ∧ InS 97 B s wr ∧ Onl B w wr ∧ s.1.length ≤ 1000000 ∧ listGo m [] s1 = listGo (m - k) acc s) (fun _ i _ => m - (intOf i).toNat)
      case atStart => exact ⟨0, [], [], s1, Nat.zero_le _, rfl, rfl, World.ownsRow_nil _ _ _ _, WordsOwn.nil _ _, hI1H.out, hO1H.out, hlen.out, rfl⟩
      case round =>
        clear c1
        obtain ⟨k, acc, vs, s, hk, rfl, hacc, hown, hwo, hIk, hOk, hsl, hgo⟩ := hrel
        have hIkH : Hid (InS 97 B s wr) := hIk
        have hOkH : Hid (Onl B w wr) := hOk
        have hwoH : Hid (WordsOwn w.heap.size wr vs acc) := hwo
        have c1 := hIk.c1
        have hgoH : Hid (listGo m [] s1 = listGo (m - k) acc s) := hgo
        clear hIk hOk hwo hgo
        have hfin : Hid (listGo m [] s1 = (acc, s) → ListR w.heap.size wr u5 true (listS st).1 ∧ InS 97 B (listS st).2 wr ∧ Onl B w wr) := fun h => by
          rw [hres.out, h]
          exact ⟨.inr ⟨acc, rfl, rfl, vs, by rw [hacc]; exact hown, hwoH.out⟩, hIkH.out, hOkH.out⟩
        by_cases hlt2 : k < m
        · by_cases he : s.2 = 0
          · have htexts : Hid (Calls Tryz.prog 83 #[.pointer (some ⟨B, 0, none⟩), .int .i64 64] wr fun e w' => ∃ v, e = .returned v ∧ w'.ownsRow wr.heap.size 9 1 v (textsS 64 s).1.length (strVals (textsS 64 s).1) ∧ InS 97 B (textsS 64 s).2 w' ∧ Onl B wr w') := rtexts_any B 64 (by omega) s hsl wr hIkH.out
            have htl : Hid ((textsS 64 s).2.1.length ≤ 1000000) := Nat.le_trans (textsS_len 64 s) hsl
            have hgo' : Hid (listGo m [] s1 = listGo (m - (k + 1)) (acc ++ [(textsS 64 s).1]) (textsS 64 s).2) := by
              unfold Hid; rw [hgoH.out, show m - k = (m - (k + 1)) + 1 by omega, listGo_ok _ _ _ he]
            have heb : ((s.2 : Int) == 0) = true := by rw [eq0_nat]; simp [he]
            clear hfin hgoH hsl he
            generalize textsS 64 s = g at *
            obtain ⟨l, s2⟩ := g
            simp only at htexts htl hgo'
            go_wp2_with (fail)
            go_at_call 83
            refine htexts.out.mono ?_
            rintro e w2 ⟨u, rfl, hu, hI2, hO2⟩
            have hown2 := own_onl hown hO2 hlt
            have hwo2H : Hid (WordsOwn w.heap.size w2 vs acc) := hwoH.out.onl hO2 hlt
            have huH : Hid (w2.ownsRow w.heap.size 9 1 u l.length (strVals l)) := own_base hu hOkH.out.size
            have hI2H : Hid (InS 97 B s2 w2) := hI2
            have hO2H : Hid (Onl B w w2) := hOkH.out.trans hO2
            have hsz2 : w.heap.size ≤ w2.heap.size := (hOkH.out.trans hO2).size
            obtain ⟨ua, uc, rfl⟩ : ∃ a c, u = .slice a l.length c := by
              rcases hu.2 with ⟨rfl, h0⟩ | ⟨g, cap, cur, rfl, _⟩
              · exact ⟨none, 0, by rw [h0]⟩
              · exact ⟨_, _, rfl⟩
            clear hI2 hO2 hown hu htexts c1
            go_wp2_with (first
              | (at_builtin; refine wpList_append_own _ rfl _ _ 22 rfl w.heap.size 47 i0 z0 1 24 hInf.sl hInf.info hInf.zero hInf.hsz hInf.hby hInf.hcl (by decide) _ _ _ rfl (hown2.alloc _) ⟨w2.heap.size, 0, none⟩ 1 1 [.slice ua l.length uc] rfl rfl ?c1 ?c2 ?c3 ?c4 ?c5 ?_)
              | fail)
            case c1 =>
              intro j u hj
              match j, hj with
              | 0, hj => simp at hj; subst hj; simp [Addr.add]
            case c2 => intro u hu; simp at hu; subst hu; rfl
            case c3 => unfold maxLen; omega
            case c4 => omega
            case c5 => simp; omega
            intro v' w3 hown3 hg3 _
            have hrow : ∀ j, u5.ownBlock = some j → w.heap.size ≤ j := fun j hj => (hown2.lt j hj).1
            have hI3H : Hid (InS 97 B s2 w3) := (hI2H.out.alloc _).onl hg3 (fun e => by have := hrow B e.symm; omega)
            have hO3H : Hid (Onl B w w3) := (hO2H.out.alloc _).grown hg3 hrow
            have hwo3H : Hid (WordsOwn w.heap.size w3 (vs ++ [.slice ua l.length uc]) (acc ++ [l])) :=
              ((hwo2H.out.snoc huH.out).alloc _).grown (hown2.alloc _) hg3 (by decide)
            clear hg3 hown2 hI2H hO2H hrow hwo2H huH
            go_wp2_with (fail)
            go_roundw
            case rel => exact ⟨k + 1, acc ++ [l], vs ++ [.slice ua l.length uc], s2, by omega, by go_num, by simp [hacc], hown3, hwo3H.out, hI3H.out, hO3H.out, htl.out, hgo'.out⟩
            case measure => simp [intOf]; omega
          · have hF : Hid (ListR w.heap.size wr u5 true (listS st).1 ∧ InS 97 B (listS st).2 wr ∧ Onl B w wr) := hfin.out (by rw [hgoH.out]; exact listGo_err _ _ _ he)
            have heb : ((s.2 : Int) == 0) = false := by rw [eq0_nat]; simp [he]
            clear hfin he hown hsl
            go_wp2_with (fail)
            go_ret2
            exact ⟨_, _, rfl, hF.out⟩
        · have hF : Hid (ListR w.heap.size wr u5 true (listS st).1 ∧ InS 97 B (listS st).2 wr ∧ Onl B w wr) := hfin.out (by rw [hgoH.out, show m - k = 0 by omega]; rfl)
          clear hfin hown hsl
          go_wp2_with (fail)
          go_ret2
          exact ⟨_, _, rfl, hF.out⟩
end Go.Proofs.YtcdcchkaohnkdaaGreatDoor
