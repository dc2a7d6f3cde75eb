/- Readers of bytes, the program's: texts, yes or no, lists of texts, lists of words. -/
import Derived.Test.YtcdcchkaohnkdaaGreatDoorTin
import Derived.Laws.AppendOwn
import Derived.LoopTactic
namespace Go.Proofs.YtcdcchkaohnkdaaGreatDoor
open Go.RowKit

set_option maxRecDepth 100000 in
set_option maxHeartbeats 3200000 in
theorem itext_any (B : Nat) (st : Inp) (hr : st.1.length ≤ 1000000) (w : World) (hI : InS 129 B st w) :
    Calls Tryz.prog 23 #[.pointer (some ⟨B, 0, none⟩)] w fun e w' => e = .returned (.string (bs (textS st).1)) ∧ InS 129 B (textS st).2 w' ∧ Onl B w w' := by
  have hsize : Hid (Calls Tryz.prog 65 #[.pointer (some ⟨B, 0, none⟩), .int .i64 65536] w fun e w' => e = .returned (.int .i64 ((sizeS 65536 st).1 : Nat)) ∧ InS 129 B (sizeS 65536 st).2 w' ∧ Onl B w w') := isize_any B 65536 (Nat.le_refl _) st hr w hI
  have hIH : Hid (InS 129 B st w) := hI
  clear hI hr
  by_cases h0 : st.2 = 0
  · have hrd : Hid (Calls Tryz.prog 64 #[.pointer (some ⟨B, 0, none⟩)] w fun e w' => e = .returned (.bool true) ∧ w' = w) := by
      have := iready_any B st w hIH.out
      rwa [decide_eq_true h0] at this
    have hres : Hid (textS st = if (sizeS 65536 st).2.2 = 0 then (if (sizeS 65536 st).2.1.length < (sizeS 65536 st).1 then ([], ((sizeS 65536 st).2.1, 3)) else ((sizeS 65536 st).2.1.take (sizeS 65536 st).1, ((sizeS 65536 st).2.1.drop (sizeS 65536 st).1, 0))) else ([], (sizeS 65536 st).2)) := rfl
    clear h0
    generalize sizeS 65536 st = g at *
    obtain ⟨m, r1, e1⟩ := g
    simp only at hsize hres
    by_cases h1 : e1 = 0
    · subst h1
      rw [if_pos rfl] at hres
      have hsz : (bs r1).size = r1.length := bs_size r1
      by_cases h2 : r1.length < m
      · rw [if_pos h2] at hres
        have hlt : (r1.length : Int) < (m : Int) := by omega
        clear h2
        go_enter Tryz.func23, Tryz.ntmps23
        go_wp2_with (fail)
        go_at_call 64
        refine hrd.out.mono ?_
        rintro e w' ⟨rfl, rfl⟩
        go_wp2_with (fail)
        go_at_call 65
        refine hsize.out.mono ?_
        rintro e w1 ⟨rfl, hI1, hB1⟩
        have hI1H : Hid (InS 129 B (r1, 0) w1) := hI1
        clear hI1
        go_wp2_with (fail)
        go_at_call 64
        refine (iready_any B (r1, 0) w1 hI1H.out).mono ?_
        rintro e w' ⟨rfl, rfl⟩
        have c0 := hI1H.out.c0
        simp only at c0
        go_wp2_with (fail)
        go_at_call 66
        refine (ifail_any B (r1, 0) 3 _ hI1H.out).mono ?_
        rintro e w2 ⟨rfl, hI2, hB2⟩
        go_wp2_with (fail)
        go_ret
        exact ⟨by first | (rw [hres.out]; done) | (rw [hres.out]; rfl), by rw [hres.out]; exact hI2, hB1.trans hB2⟩
      · rw [if_neg h2] at hres
        have hlt : ¬ ((r1.length : Int) < (m : Int)) := by omega
        have hm : m ≤ r1.length := by omega
        have hx0 : Hid ((bs r1).extract 0 m = bs (r1.take m)) := bs_take r1 m
        have hx1 : Hid ((bs r1).extract m r1.length = bs (r1.drop m)) := bs_drop r1 m
        clear h2
        go_enter Tryz.func23, Tryz.ntmps23
        go_wp2_with (fail)
        go_at_call 64
        refine hrd.out.mono ?_
        rintro e w' ⟨rfl, rfl⟩
        go_wp2_with (fail)
        go_at_call 65
        refine hsize.out.mono ?_
        rintro e w1 ⟨rfl, hI1, hB1⟩
        have hI1H : Hid (InS 129 B (r1, 0) w1) := hI1
        clear hI1
        go_wp2_with (fail)
        go_at_call 64
        refine (iready_any B (r1, 0) w1 hI1H.out).mono ?_
        rintro e w' ⟨rfl, rfl⟩
        have c0 := hI1H.out.c0
        have f0 := hI1H.out.f0
        simp only at c0
        go_wp2_with (fail)
        go_ret
        rw [hx0.out, hx1.out]
        exact ⟨by first | (rw [hres.out]; done) | (rw [hres.out]; rfl), by rw [hres.out]; exact hI1H.out.set0, hB1.setCell rfl _⟩
    · rw [if_neg h1] at hres
      have hz : Hid (decide (e1 = 0) = false) := decide_eq_false h1
      clear h1
      go_enter Tryz.func23, Tryz.ntmps23
      go_wp2_with (fail)
      go_at_call 64
      refine hrd.out.mono ?_
      rintro e w' ⟨rfl, rfl⟩
      go_wp2_with (fail)
      go_at_call 65
      refine hsize.out.mono ?_
      rintro e w1 ⟨rfl, hI1, hB1⟩
      have hI1H : Hid (InS 129 B (r1, e1) w1) := hI1
      clear hI1
      go_wp2_with (fail)
      go_at_call 64
      have hrd1 := iready_any B (r1, e1) w1 hI1H.out
      rw [hz.out] at hrd1
      refine hrd1.mono ?_
      rintro e w' ⟨rfl, rfl⟩
      go_wp2_with (fail)
      go_ret
      exact ⟨by first | (rw [hres.out]; done) | (rw [hres.out]; rfl), by rw [hres.out]; exact hI1H.out, hB1⟩
  · have hrd : Hid (Calls Tryz.prog 64 #[.pointer (some ⟨B, 0, none⟩)] w fun e w' => e = .returned (.bool false) ∧ w' = w) := by
      have := iready_any B st w hIH.out
      rwa [decide_eq_false h0] at this
    have hres : Hid (textS st = ([], st)) := by
      have h1 : intS st = (0, st) := by unfold intS; rw [if_neg h0]
      have h2 : sizeS 65536 st = (0, st) := by unfold sizeS sizedS; rw [h1]; simp [h0]
      unfold Hid textS
      rw [h2, if_neg h0]
    clear h0 hsize
    go_enter Tryz.func23, Tryz.ntmps23
    go_wp2_with (fail)
    go_at_call 64
    refine hrd.out.mono ?_
    rintro e w' ⟨rfl, rfl⟩
    go_wp2_with (fail)
    go_at_call 64
    refine hrd.out.mono ?_
    rintro e w' ⟨rfl, rfl⟩
    go_wp2_with (fail)
    go_ret
    exact ⟨by first | (rw [hres.out]; done) | (rw [hres.out]; rfl), by rw [hres.out]; exact hIH.out, Onl.refl B _⟩

theorem textsGo_err (n : Nat) (acc : List Str) (st : Inp) (h : (textS st).2.2 ≠ 0) : textsGo (n + 1) acc st = ([], (textS st).2) := by rw [textsGo, if_neg h]
theorem textsGo_ok (n : Nat) (acc : List Str) (st : Inp) (h : (textS st).2.2 = 0) : textsGo (n + 1) acc st = textsGo n (acc ++ [(textS st).1]) (textS st).2 := by rw [textsGo, if_pos h]
theorem textsS_err {most : Nat} {st : Inp} (h : st.2 ≠ 0) : textsS most st = ([], st) := by
  have h1 : intS st = (0, st) := by unfold intS; rw [if_neg h]
  have h2 : sizeS most st = (0, st) := by
    unfold sizeS sizedS
    rw [h1]
    simp [h]
    omega
  unfold textsS
  rw [h2]
  rfl

theorem strVals_append (a b : List Str) : strVals (a ++ b) = strVals a ++ strVals b := List.map_append
theorem strVals_one (s : Str) : strVals [s] = [.string (bs s)] := rfl
theorem strVals_len (l : List Str) : (strVals l).length = l.length := List.length_map _

theorem sizeS_16 (most : Nat) (st : Inp) : (sizeS most st).1 ≤ 65536 := by
  unfold sizeS sizedS
  split
  · exact Nat.zero_le _
  · split
    · exact Nat.zero_le _
    · split
      · show (intS st).1.toNat ≤ 65536
        omega
      · exact Nat.zero_le _

set_option maxRecDepth 100000 in
set_option maxHeartbeats 6400000 in
theorem itexts_any (B most : Nat) (hm : most ≤ 65536) (st : Inp) (hr : st.1.length ≤ 1000000) (w : World) (hI : InS 129 B st w) :
    Calls Tryz.prog 68 #[.pointer (some ⟨B, 0, none⟩), .int .i64 (most : Nat)] w fun e w' => ∃ v, e = .returned v ∧ w'.ownsRow w.heap.size 9 1 v (textsS most st).1.length (strVals (textsS most st).1) ∧ InS 129 B (textsS most st).2 w' ∧ Onl B w w' := by
  obtain ⟨i0, z0, hInf⟩ := strInfo
  have hIH : Hid (InS 129 B st w) := hI
  have hlt := hI.lt
  by_cases h0 : st.2 = 0
  · have hrd : Hid (Calls Tryz.prog 64 #[.pointer (some ⟨B, 0, none⟩)] w fun e w' => e = .returned (.bool true) ∧ w' = w) := by
      have := iready_any B st w hIH.out
      rwa [decide_eq_true h0] at this
    have hsize : Hid (Calls Tryz.prog 65 #[.pointer (some ⟨B, 0, none⟩), .int .i64 (most : Nat)] w fun e w' => e = .returned (.int .i64 ((sizeS most st).1 : Nat)) ∧ InS 129 B (sizeS most st).2 w' ∧ Onl B w w') := isize_any B most hm st hr w hI
    have hres : Hid (textsS most st = textsGo (sizeS most st).1 [] (sizeS most st).2) := rfl
    have hlen : Hid ((sizeS most st).2.1.length ≤ 1000000) := Nat.le_trans (sizeS_len most st) hr
    have hn16 : Hid ((sizeS most st).1 ≤ 65536) := sizeS_16 most st
    clear hI hr h0 hm
    generalize sizeS most st = g at *
    obtain ⟨n, s1⟩ := g
    simp only at hsize hres hlen hn16
    go_enter Tryz.func68, Tryz.ntmps68
    go_wp2_with (fail)
    go_at_call 64
    refine hrd.out.mono ?_
    rintro e w' ⟨rfl, rfl⟩
    go_wp2_with (fail)
    go_at_call 65
    refine hsize.out.mono ?_
    rintro e w1 ⟨rfl, hI1, hO1⟩
    have hI1H : Hid (InS 129 B s1 w1) := hI1
    have hO1H : Hid (Onl B w' w1) := hO1
    clear hI1 hO1
    go_wp2_with (fail)
    go_loopw [5, 12] (fun v i wr => ∃ (k : Nat) (acc : List Str) (s : Inp), k ≤ n ∧ i = .int .i64 k ∧ acc.length = k ∧ wr.ownsRow w'.heap.size 9 1 v k (strVals acc) ∧ InS 129 B s wr ∧ Onl B w' wr ∧ s.1.length ≤ 1000000 ∧ textsS most st = textsGo (n - k) acc s) (fun _ i _ => n - (intOf i).toNat)
    case atStart => exact ⟨0, [], s1, Nat.zero_le _, rfl, rfl, World.ownsRow_nil _ _ _ _, hI1H.out, hO1H.out, hlen.out, hres.out⟩
    case round =>
      obtain ⟨k, acc, s, hk, rfl, hacc, hown, hIk, hOk, hsl, hgo⟩ := hrel
      have hIkH : Hid (InS 129 B s wr) := hIk
      have hOkH : Hid (Onl B w' wr) := hOk
      have hk16 : k ≤ 65536 := by have := hn16.out; omega
      by_cases hlt2 : k < n
      · have htext : Hid (Calls Tryz.prog 23 #[.pointer (some ⟨B, 0, none⟩)] wr fun e w' => e = .returned (.string (bs (textS s).1)) ∧ InS 129 B (textS s).2 w' ∧ Onl B wr w') := itext_any B s hsl wr hIkH.out
        have htl : Hid ((textS s).2.1.length ≤ 1000000) := Nat.le_trans (textS_len s) hsl
        have hgoE : Hid ((textS s).2.2 ≠ 0 → textsS most st = ([], (textS s).2)) := fun h => by rw [hgo, show n - k = (n - k - 1) + 1 by omega, textsGo_err _ _ _ h]
        have hgoO : Hid ((textS s).2.2 = 0 → textsS most st = textsGo (n - (k + 1)) (acc ++ [(textS s).1]) (textS s).2) := fun h => by rw [hgo, show n - k = (n - (k + 1)) + 1 by omega, textsGo_ok _ _ _ h]
        clear hIk hOk hsl hgo
        generalize textS s = g at *
        obtain ⟨t, s2⟩ := g
        simp only at htext htl hgoE hgoO
        go_wp2_with (fail)
        go_at_call 23
        refine htext.out.mono ?_
        rintro e w2 ⟨rfl, hI2, hO2⟩
        have hown2 := own_onl hown hO2 hlt
        have hI2H : Hid (InS 129 B s2 w2) := hI2
        have hO2H : Hid (Onl B w' w2) := hOkH.out.trans hO2
        have hsz2 : w'.heap.size ≤ w2.heap.size := (hOkH.out.trans hO2).size
        clear hI2 hO2 hown
        go_wp2_with (first
          | (at_builtin; refine wpList_append_own _ rfl _ _ 47 rfl w'.heap.size 9 i0 z0 1 16 hInf.sl hInf.info hInf.zero hInf.hsz hInf.hby hInf.hcl (by decide) _ _ _ rfl (hown2.alloc _) ⟨w2.heap.size, 0, none⟩ 1 1 [.string (bs t)] rfl rfl ?c1 ?c2 ?c3 ?c4 ?c5 ?_)
          | fail)
        case c1 =>
          intro j u hj
          match j, hj with
          | 0, hj => simp at hj; subst hj; simp [Addr.add]
        case c2 => intro u hu; simp at hu; subst hu; rfl
        case c3 => have := hn16.out; unfold maxLen; omega
        case c4 => have := hn16.out; omega
        case c5 => simp; omega
        intro v' w3 hown3 hg3 _
        have hrow : ∀ j, u5.ownBlock = some j → w'.heap.size ≤ j := fun j hj => (hown2.lt j hj).1
        have hI3H : Hid (InS 129 B s2 w3) := (hI2H.out.alloc _).onl hg3 (fun e => by have := hrow B e.symm; omega)
        have hO3H : Hid (Onl B w' w3) := (hO2H.out.alloc _).grown hg3 hrow
        clear hg3 hown2 hI2H hO2H hrow
        go_wp2_with (fail)
        go_at_call 64
        have hrd3 := iready_any B s2 w3 hI3H.out
        by_cases he : s2.2 = 0
        · rw [decide_eq_true he] at hrd3
          refine hrd3.mono ?_
          rintro e w4 ⟨rfl, rfl⟩
          have hgo' : Hid (textsS most st = textsGo (n - (k + 1)) (acc ++ [t]) s2) := hgoO.out he
          clear hrd3 he
          go_wp2_with (fail)
          go_roundw
          case rel => exact ⟨k + 1, acc ++ [t], s2, by omega, by go_num, by simp [hacc], by rw [strVals_append, strVals_one]; exact hown3, hI3H.out, hO3H.out, htl.out, hgo'.out⟩
          case measure => simp [intOf]; omega
        · rw [decide_eq_false he] at hrd3
          refine hrd3.mono ?_
          rintro e w4 ⟨rfl, rfl⟩
          have hgo' : Hid (textsS most st = ([], s2)) := hgoE.out he
          clear hrd3 he
          go_wp2_with (fail)
          go_ret
          exact ⟨_, rfl, by rw [hgo'.out]; exact World.ownsRow_nil _ _ _ _, by rw [hgo'.out]; exact hI3H.out, hO3H.out⟩
      · have hkn : k = n := by omega
        have hgo' : Hid (textsS most st = (acc, s)) := by unfold Hid; rw [hgo, hkn, Nat.sub_self]; rfl
        have hownH : Hid (wr.ownsRow w'.heap.size 9 1 u5 acc.length (strVals acc)) := by unfold Hid; rw [hacc]; exact hown
        clear hgo hIk hOk hown
        go_wp2_with (fail)
        go_ret
        exact ⟨_, rfl, by rw [hgo'.out]; exact hownH.out, by rw [hgo'.out]; exact hIkH.out, hOkH.out⟩
  · have hrd : Hid (Calls Tryz.prog 64 #[.pointer (some ⟨B, 0, none⟩)] w fun e w' => e = .returned (.bool false) ∧ w' = w) := by
      have := iready_any B st w hIH.out
      rwa [decide_eq_false h0] at this
    have hres : Hid (textsS most st = ([], st)) := textsS_err h0
    clear h0 hI hr hm
    go_enter Tryz.func68, Tryz.ntmps68
    go_wp2_with (fail)
    go_at_call 64
    refine hrd.out.mono ?_
    rintro e w' ⟨rfl, rfl⟩
    go_wp2_with (fail)
    go_ret
    exact ⟨_, rfl, by rw [hres.out]; exact World.ownsRow_nil _ _ _ _, by rw [hres.out]; exact hIH.out, Onl.refl B _⟩

set_option maxRecDepth 100000 in
set_option maxHeartbeats 3200000 in
theorem ibool_any (B : Nat) (st : Inp) (w : World) (hI : InS 129 B st w) :
    Calls Tryz.prog 25 #[.pointer (some ⟨B, 0, none⟩)] w fun e w' => e = .returned (.bool (boolS st).1) ∧ InS 129 B (boolS st).2 w' ∧ Onl B w w' := by
  have hIH : Hid (InS 129 B st w) := hI
  have c0 := hI.c0
  have f0 := hI.f0
  have hrd := iready_any B st w hI
  clear hI
  obtain ⟨r, e⟩ := st
  simp only at c0 hrd
  by_cases h0 : e = 0
  · subst h0
    have hrdH : Hid (Calls Tryz.prog 64 #[.pointer (some ⟨B, 0, none⟩)] w fun e w' => e = .returned (.bool true) ∧ w' = w) := hrd
    clear hrd
    cases r with
    | nil =>
      have hres : Hid (boolS (([] : Str), 0) = (false, ([], 3))) := rfl
      have hne : (bs []).toList.isEmpty = true := by rw [bs_empty]; rfl
      go_enter Tryz.func25, Tryz.ntmps25
      go_wp2_with (fail)
      go_at_call 64
      refine hrdH.out.mono ?_
      rintro e w' ⟨rfl, rfl⟩
      go_wp2_with (fail)
      go_at_call 66
      refine (ifail_any B ([], 0) 3 _ hIH.out).mono ?_
      rintro e w2 ⟨rfl, hI2, hO2⟩
      go_wp2_with (fail)
      go_ret
      exact ⟨by first | (rw [hres.out]; done) | (rw [hres.out]; rfl), by rw [hres.out]; exact hI2, hO2⟩
    | cons c t =>
      have hne : (bs (c :: t)).toList.isEmpty = false := by rw [bs_empty]; rfl
      have hsz : (bs (c :: t)).size = t.length + 1 := rfl
      have h00 : 0 < (bs (c :: t)).size := by omega
      have hz0 : (bs (c :: t))[0] = c := rfl
      have hx1 : Hid ((bs (c :: t)).extract 1 (t.length + 1) = bs t) := bs_drop (c :: t) 1
      by_cases h1 : 1 < c.toNat
      · have hres : Hid (boolS (c :: t, 0) = (false, (c :: t, 2))) := by unfold Hid boolS; simp [h1]
        have h1i : (1 : Int) < (c.toNat : Int) := by omega
        clear h1
        go_enter Tryz.func25, Tryz.ntmps25
        go_wp2_with (fail)
        go_at_call 64
        refine hrdH.out.mono ?_
        rintro e w' ⟨rfl, rfl⟩
        go_wp2_with (fail)
        go_at_call 66
        refine (ifail_any B (c :: t, 0) 2 _ hIH.out).mono ?_
        rintro e w2 ⟨rfl, hI2, hO2⟩
        go_wp2_with (fail)
        go_ret
        exact ⟨by first | (rw [hres.out]; done) | (rw [hres.out]; rfl), by rw [hres.out]; exact hI2, hO2⟩
      · have hres : Hid (boolS (c :: t, 0) = (decide ((c.toNat : Int) = 1), (t, 0))) := by
          unfold Hid boolS
          simp only [if_true]
          rw [if_neg h1]
          congr 1
          rw [decide_eq_decide]; omega
        have h1i : ¬ ((1 : Int) < (c.toNat : Int)) := by omega
        clear h1
        go_enter Tryz.func25, Tryz.ntmps25
        go_wp2_with (fail)
        go_at_call 64
        refine hrdH.out.mono ?_
        rintro e w' ⟨rfl, rfl⟩
        go_wp2_with (fail)
        go_ret
        rw [hx1.out]
        exact ⟨by first | (rw [hres.out]; done) | (rw [hres.out]; rfl), by rw [hres.out]; exact hIH.out.set0, (Onl.refl B _).setCell rfl _⟩
  · have hrdH : Hid (Calls Tryz.prog 64 #[.pointer (some ⟨B, 0, none⟩)] w fun e w' => e = .returned (.bool false) ∧ w' = w) := by
      rwa [decide_eq_false h0] at hrd
    have hres : Hid (boolS (r, e) = (false, (r, e))) := by unfold Hid boolS; simp [h0]
    clear h0 hrd
    go_enter Tryz.func25, Tryz.ntmps25
    go_wp2_with (fail)
    go_at_call 64
    refine hrdH.out.mono ?_
    rintro e' w' ⟨rfl, rfl⟩
    go_wp2_with (fail)
    go_ret
    exact ⟨by first | (rw [hres.out]; done) | (rw [hres.out]; rfl), by rw [hres.out]; exact hIH.out, Onl.refl B _⟩

def endE (st : Inp) : Nat := if st.2 ≠ 0 then st.2 else if st.1 ≠ [] then 4 else 0
set_option maxRecDepth 100000 in
set_option maxHeartbeats 1600000 in
theorem iend_any (B : Nat) (st : Inp) (w : World) (hI : InS 129 B st w) :
    Calls Tryz.prog 28 #[.pointer (some ⟨B, 0, none⟩)] w fun e w' => e = .returned (.int .i64 (endE st : Nat)) ∧ w' = w := by
  have herr : Hid (Calls Tryz.prog 27 #[.pointer (some ⟨B, 0, none⟩)] w fun e w' => e = .returned (.int .i64 (st.2 : Nat)) ∧ w' = w) := ierr_any B st w hI
  have c0 := hI.c0
  clear hI
  obtain ⟨r, e⟩ := st
  simp only at c0 herr
  by_cases h0 : e = 0
  · subst h0
    cases r with
    | nil =>
      have hif : Hid (endE (([] : Str), 0) = 0) := rfl
      have hne : (bs []).toList.isEmpty = true := by rw [bs_empty]; rfl
      generalize endE (([] : Str), 0) = q at *
      go_enter Tryz.func28, Tryz.ntmps28
      go_wp2_with (fail)
      go_at_call 27
      refine herr.out.mono ?_
      rintro e w' ⟨rfl, rfl⟩
      go_wp2_with (fail)
      go_ret
      exact ⟨by rw [hif.out]; rfl, rfl⟩
    | cons c t =>
      have hif : Hid (endE ((c :: t : Str), 0) = 4) := rfl
      have hne : (bs (c :: t)).toList.isEmpty = false := by rw [bs_empty]; rfl
      generalize endE ((c :: t : Str), 0) = q at *
      go_enter Tryz.func28, Tryz.ntmps28
      go_wp2_with (fail)
      go_at_call 27
      refine herr.out.mono ?_
      rintro e w' ⟨rfl, rfl⟩
      go_wp2_with (fail)
      go_ret
      exact ⟨by rw [hif.out]; rfl, rfl⟩
  · have he2 : ((e : Int) != 0) = true := by rw [ne0_nat]; simp [h0]
    have hif : Hid (endE (r, e) = e) := if_pos h0
    generalize endE (r, e) = q at *
    clear h0
    go_enter Tryz.func28, Tryz.ntmps28
    go_wp2_with (fail)
    go_at_call 27
    refine herr.out.mono ?_
    rintro e' w' ⟨rfl, rfl⟩
    go_wp2_with (fail)
    go_ret
    exact ⟨by rw [hif.out]; rfl, rfl⟩

theorem listGo_err (n : Nat) (acc : List (List Str)) (st : Inp) (h : st.2 ≠ 0) : listGo n acc st = (acc, st) := by
  cases n with
  | zero => rfl
  | succ n => rw [listGo, if_neg h]
theorem listGo_ok (n : Nat) (acc : List (List Str)) (st : Inp) (h : st.2 = 0) : listGo (n + 1) acc st = listGo n (acc ++ [(textsS 64 st).1]) (textsS 64 st).2 := by rw [listGo, if_pos h]

/-- A list of words in rows of its own. -/
def ListO (N : Nat) (w : World) (v : Value) (ll : List (List Str)) : Prop := ∃ vs, w.ownsRow N 47 1 v ll.length vs ∧ WordsOwn N w vs ll
theorem ListO.onl {N B : Nat} {w w' : World} {v : Value} {ll : List (List Str)} (h : ListO N w v ll) (ho : Onl B w w') (hB : B < N) : ListO N w' v ll := by
  obtain ⟨vs, h1, h2⟩ := h
  exact ⟨vs, own_onl h1 ho hB, h2.onl ho hB⟩
theorem ListO.below {N : Nat} {w w' : World} {v : Value} {ll : List (List Str)} (h : ListO N w v ll) (hb : Below w.heap.size w w') : ListO N w' v ll := by
  obtain ⟨vs, h1, h2⟩ := h
  exact ⟨vs, ownsRow_below h1 hb, h2.1, fun j hj => ownsRow_below (h2.2 j hj) hb⟩
theorem ListO.lists {N : Nat} {w : World} {v : Value} {ll : List (List Str)} (h : ListO N w v ll) : ListsV w.heap.size w v ll := by
  obtain ⟨vs, h1, h2⟩ := h
  exact lists_own h1 h2
theorem ListO.base {N N' : Nat} {w : World} {v : Value} {ll : List (List Str)} (h : ListO N w v ll) (hN : N' ≤ N) : ListO N' w v ll := by
  obtain ⟨vs, h1, h2⟩ := h
  exact ⟨vs, own_base h1 hN, h2.1, fun j hj => own_base (h2.2 j hj) hN⟩
theorem ListO.slice {N : Nat} {w : World} {v : Value} {ll : List (List Str)} (h : ListO N w v ll) : ∃ a l c, v = .slice a l c := by
  obtain ⟨vs, h1, _⟩ := h
  rcases h1.2 with ⟨rfl, _⟩ | ⟨g, cap, cur, rfl, _⟩
  · exact ⟨_, _, _, rfl⟩
  · exact ⟨_, _, _, rfl⟩
/-- What 'list' hands back. -/
def ListR (N : Nat) (w : World) (v : Value) (ok : Bool) (o : Option (List (List Str))) : Prop := (o = none ∧ v = .slice none 0 0 ∧ ok = false) ∨ ∃ ll, o = some ll ∧ ok = true ∧ ListO N w v ll

set_option maxRecDepth 100000 in
set_option maxHeartbeats 6400000 in
theorem ilist_any (B : Nat) (st : Inp) (hr : st.1.length ≤ 1000000) (w : World) (hI : InS 129 B st w) :
    Calls Tryz.prog 24 #[.pointer (some ⟨B, 0, none⟩)] w fun e w' => ∃ v ok, e = .returned (.tuple #[v, .bool ok]) ∧ ListR w.heap.size w' v ok (listS st).1 ∧ InS 129 B (listS st).2 w' ∧ Onl B w w' := by
  obtain ⟨i0, z0, hInf⟩ := lstInfo
  have hlt := hI.lt
  have hint : Hid (Calls Tryz.prog 67 #[.pointer (some ⟨B, 0, none⟩)] w fun e w' => e = .returned (.int .i64 (intS st).1) ∧ InS 129 B (intS st).2 w' ∧ Onl B w w') := iint_any B st hr w hI
  have hres : Hid (listS st = if (intS st).1 < 0 ∨ 64 < (intS st).1 then (none, (intS st).2) else (some (listGo (intS st).1.toNat [] (intS st).2).1, (listGo (intS st).1.toNat [] (intS st).2).2)) := rfl
  have hlen : Hid ((intS st).2.1.length ≤ 1000000) := Nat.le_trans (intS_len st) hr
  clear hI hr
  generalize intS st = g at *
  obtain ⟨n, s1⟩ := g
  simp only at hint hres hlen
  by_cases hbad : n < 0 ∨ 64 < n
  · rw [if_pos hbad] at hres
    by_cases hn : n < 0
    all_goals
      first | have h64 : (64 : Int) < n := by omega | skip
      clear hbad
      go_enter Tryz.func24, Tryz.ntmps24
      go_wp2_with (fail)
      go_at_call 67
      refine hint.out.mono ?_
      rintro e w1 ⟨rfl, hI1, hO1⟩
      go_wp2_with (fail)
      go_ret2
      exact ⟨_, _, rfl, by rw [hres.out]; exact .inl ⟨rfl, rfl, rfl⟩, by rw [hres.out]; exact hI1, hO1⟩
  · rw [if_neg hbad] at hres
    obtain ⟨m, rfl⟩ : ∃ m : Nat, n = (m : Int) := ⟨n.toNat, by omega⟩
    have hn1 : ¬ ((m : Int) < 0) := by omega
    have hn2 : ¬ ((64 : Int) < (m : Int)) := by omega
    have hm64 : m ≤ 64 := by omega
    rw [Int.toNat_natCast] at hres
    clear hbad
    go_enter Tryz.func24, Tryz.ntmps24
    go_wp2_with (fail)
    go_at_call 67
    refine hint.out.mono ?_
    rintro e w1 ⟨rfl, hI1, hO1⟩
    have hI1H : Hid (InS 129 B s1 w1) := hI1
    have hO1H : Hid (Onl B w w1) := hO1
    clear hI1 hO1
    go_wp2_with (fail)
    go_loopw [5, 6] (fun v i wr => ∃ (k : Nat) (acc : List (List Str)) (vs : List Value) (s : Inp), k ≤ m ∧ i = .int .i64 k ∧ acc.length = k ∧ wr.ownsRow w.heap.size 47 1 v k vs ∧ WordsOwn w.heap.size wr vs acc ∧ InS 129 B s wr ∧ Onl B w wr ∧ s.1.length ≤ 1000000 ∧ listGo m [] s1 = listGo (m - k) acc s) (fun _ i _ => m - (intOf i).toNat)
    case atStart => exact ⟨0, [], [], s1, Nat.zero_le _, rfl, rfl, World.ownsRow_nil _ _ _ _, WordsOwn.nil _ _, hI1H.out, hO1H.out, hlen.out, rfl⟩
    case round =>
      obtain ⟨k, acc, vs, s, hk, rfl, hacc, hown, hwo, hIk, hOk, hsl, hgo⟩ := hrel
      have hIkH : Hid (InS 129 B s wr) := hIk
      have hOkH : Hid (Onl B w wr) := hOk
      have hwoH : Hid (WordsOwn w.heap.size wr vs acc) := hwo
      have herr : Hid (Calls Tryz.prog 27 #[.pointer (some ⟨B, 0, none⟩)] wr fun e w' => e = .returned (.int .i64 (s.2 : Nat)) ∧ w' = wr) := ierr_any B s wr hIk
      have hgoH : Hid (listGo m [] s1 = listGo (m - k) acc s) := hgo
      clear hIk hOk hwo hgo
      -- the end, alike from two places
      have hfin : Hid (listGo m [] s1 = (acc, s) → ListR w.heap.size wr u5 true (listS st).1 ∧ InS 129 B (listS st).2 wr ∧ Onl B w wr) := fun h => by
        rw [hres.out, h]
        exact ⟨.inr ⟨acc, rfl, rfl, vs, by rw [hacc]; exact hown, hwoH.out⟩, hIkH.out, hOkH.out⟩
      by_cases hlt2 : k < m
      · by_cases he : s.2 = 0
        · have htexts : Hid (Calls Tryz.prog 68 #[.pointer (some ⟨B, 0, none⟩), .int .i64 64] wr fun e w' => ∃ v, e = .returned v ∧ w'.ownsRow wr.heap.size 9 1 v (textsS 64 s).1.length (strVals (textsS 64 s).1) ∧ InS 129 B (textsS 64 s).2 w' ∧ Onl B wr w') := itexts_any B 64 (by omega) s hsl wr hIkH.out
          have htl : Hid ((textsS 64 s).2.1.length ≤ 1000000) := Nat.le_trans (textsS_len 64 s) hsl
          have hgo' : Hid (listGo m [] s1 = listGo (m - (k + 1)) (acc ++ [(textsS 64 s).1]) (textsS 64 s).2) := by
            unfold Hid; rw [hgoH.out, show m - k = (m - (k + 1)) + 1 by omega, listGo_ok _ _ _ he]
          have heb : ((s.2 : Int) == 0) = true := by rw [eq0_nat]; simp [he]
          clear hfin hgoH hsl he
          generalize textsS 64 s = g at *
          obtain ⟨l, s2⟩ := g
          simp only at htexts htl hgo'
          go_wp2_with (fail)
          go_at_call 27
          refine herr.out.mono ?_
          rintro e w4 ⟨rfl, rfl⟩
          go_wp2_with (fail)
          go_at_call 68
          refine htexts.out.mono ?_
          rintro e w2 ⟨u, rfl, hu, hI2, hO2⟩
          have hown2 := own_onl hown hO2 hlt
          have hwo2H : Hid (WordsOwn w.heap.size w2 vs acc) := hwoH.out.onl hO2 hlt
          have huH : Hid (w2.ownsRow w.heap.size 9 1 u l.length (strVals l)) := own_base hu hOkH.out.size
          have hI2H : Hid (InS 129 B s2 w2) := hI2
          have hO2H : Hid (Onl B w w2) := hOkH.out.trans hO2
          have hsz2 : w.heap.size ≤ w2.heap.size := (hOkH.out.trans hO2).size
          obtain ⟨ua, uc, rfl⟩ : ∃ a c, u = .slice a l.length c := by
            rcases hu.2 with ⟨rfl, h0⟩ | ⟨g, cap, cur, rfl, _⟩
            · exact ⟨none, 0, by rw [h0]⟩
            · exact ⟨_, _, rfl⟩
          clear hI2 hO2 hown hu htexts herr
          go_wp2_with (first
            | (at_builtin; refine wpList_append_own _ rfl _ _ 22 rfl w.heap.size 47 i0 z0 1 24 hInf.sl hInf.info hInf.zero hInf.hsz hInf.hby hInf.hcl (by decide) _ _ _ rfl (hown2.alloc _) ⟨w2.heap.size, 0, none⟩ 1 1 [.slice ua l.length uc] rfl rfl ?c1 ?c2 ?c3 ?c4 ?c5 ?_)
            | fail)
          case c1 =>
            intro j u hj
            match j, hj with
            | 0, hj => simp at hj; subst hj; simp [Addr.add]
          case c2 => intro u hu; simp at hu; subst hu; rfl
          case c3 => unfold maxLen; omega
          case c4 => omega
          case c5 => simp; omega
          intro v' w3 hown3 hg3 _
          have hrow : ∀ j, u5.ownBlock = some j → w.heap.size ≤ j := fun j hj => (hown2.lt j hj).1
          have hI3H : Hid (InS 129 B s2 w3) := (hI2H.out.alloc _).onl hg3 (fun e => by have := hrow B e.symm; omega)
          have hO3H : Hid (Onl B w w3) := (hO2H.out.alloc _).grown hg3 hrow
          have hwo3H : Hid (WordsOwn w.heap.size w3 (vs ++ [.slice ua l.length uc]) (acc ++ [l])) :=
            ((hwo2H.out.snoc huH.out).alloc _).grown (hown2.alloc _) hg3 (by decide)
          clear hg3 hown2 hI2H hO2H hrow hwo2H huH
          go_wp2_with (fail)
          go_roundw
          case rel => exact ⟨k + 1, acc ++ [l], vs ++ [.slice ua l.length uc], s2, by omega, by go_num, by simp [hacc], hown3, hwo3H.out, hI3H.out, hO3H.out, htl.out, hgo'.out⟩
          case measure => simp [intOf]; omega
        · have hF : Hid (ListR w.heap.size wr u5 true (listS st).1 ∧ InS 129 B (listS st).2 wr ∧ Onl B w wr) := hfin.out (by rw [hgoH.out]; exact listGo_err _ _ _ he)
          have heb : ((s.2 : Int) == 0) = false := by rw [eq0_nat]; simp [he]
          clear hfin he hown hsl
          go_wp2_with (fail)
          go_at_call 27
          refine herr.out.mono ?_
          rintro e w4 ⟨rfl, rfl⟩
          go_wp2_with (fail)
          go_ret2
          exact ⟨_, _, rfl, hF.out⟩
      · have hF : Hid (ListR w.heap.size wr u5 true (listS st).1 ∧ InS 129 B (listS st).2 wr ∧ Onl B w wr) := hfin.out (by rw [hgoH.out, show m - k = 0 by omega]; rfl)
        clear hfin hown hsl
        go_wp2_with (fail)
        go_ret2
        exact ⟨_, _, rfl, hF.out⟩
end Go.Proofs.YtcdcchkaohnkdaaGreatDoor
