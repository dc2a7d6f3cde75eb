/- Which tasks are good: the program's answer, and the reference's. -/
import Derived.Test.YtcdcchkaohnkdaaGreatDoorTcc
namespace Go.Proofs.YtcdcchkaohnkdaaGreatDoor
open Go.RowKit

set_option maxRecDepth 100000 in
set_option maxHeartbeats 6400000 in
theorem rwordsg_any (a : Option Addr) (ll : List (List Str)) (cap : Nat) (hb1 : ll.length ≤ 1000) (w : World) (hL : ListsAt w.heap.size w a ll) :
    Calls Tryz.prog 41 #[.slice a ll.length cap] w fun e w' => e = .returned (.bool (ll.all goodWord)) ∧ Below w.heap.size w w' := by
  have hLH : Hid (ListsAt w.heap.size w a ll) := hL
  clear hL
  go_enter Tryz.func41, Tryz.ntmps41
  go_wp2_with (fail)
  go_loopw [3, 4] (fun i _ wr => ∃ k : Nat, k ≤ ll.length ∧ i = .int .i64 k ∧ (ll.take k).all goodWord = true ∧ Below w.heap.size w wr) (fun i _ _ => ll.length - (intOf i).toNat)
  case atStart => exact ⟨0, Nat.zero_le _, rfl, rfl, Below.refl _ _⟩
  case round =>
    obtain ⟨k, hk, rfl, hall, hB⟩ := hrel
    by_cases hlt : k < ll.length
    · obtain ⟨b, off, v, rfl, hbN, hcell, a', cap', rfl, hS⟩ := hLH.out k hlt
      have hSH : Hid (StrsAt w.heap.size w a' (ll.getD k [])) := hS
      have hc := (hB.cell (p := ⟨b, off + k, none⟩) (by exact hbN)).trans hcell
      have hsn : Hid ((ll.take (k + 1)).all goodWord = goodWord (ll.getD k [])) := by
        unfold Hid
        rw [List.take_add_one, List.getElem?_eq_getElem hlt, List.all_append, hall, List.getD, List.getElem?_eq_getElem hlt]
        simp
      have hf : Hid (goodWord (ll.getD k []) = false → ll.all goodWord = false) := fun h => by
        rw [List.all_eq_false]
        refine ⟨ll.getD k [], ?_, by rw [h]; simp⟩
        rw [List.getD, List.getElem?_eq_getElem hlt]
        exact List.getElem_mem _
      have hgw : Hid (goodWord (ll.getD k []) = (decide ((ll.getD k []).length ≤ 64) && !(ll.getD k []).any badS)) := goodWord_eq _
      have hBH : Hid (Below w.heap.size w wr) := hB
      have hk1000 : k < 1000 := by omega
      clear hS hall hB
      generalize ll.getD k [] = l at *
      by_cases h64 : l.length ≤ 64
      · have h64i : ¬ ((64 : Int) < (l.length : Int)) := by omega
        have hgw' : Hid (goodWord l = !l.any badS) := by unfold Hid; rw [hgw.out, decide_eq_true h64, Bool.true_and]
        clear hgw
        go_wp2_with (fail)
        clear hc
        go_loopw [4] (fun j wq => ∃ q : Nat, q ≤ l.length ∧ j = .int .i64 q ∧ (l.take q).any badS = false ∧ Below w.heap.size w wq) (fun j _ => l.length - (intOf j).toNat)
        case atStart => exact ⟨0, Nat.zero_le _, rfl, rfl, hBH.out⟩
        case round =>
          obtain ⟨q, hq, rfl, hany, hB⟩ := hrel
          have hc := (hB.cell (p := ⟨b, off + k, none⟩) (by exact hbN)).trans hcell
          by_cases hlq : q < l.length
          · obtain ⟨b', off', rfl, hbN', hcell'⟩ := hSH.out q hlq
            have hc' := (hB.cell (p := ⟨b', off' + q, none⟩) (by exact hbN')).trans hcell'
            have hsq : Hid ((l.take (q + 1)).any badS = badS (l.getD q [])) := by unfold Hid; rw [any_snoc _ _ _ [] hlq, hany]; rfl
            have hfq : Hid (badS (l.getD q []) = true → l.any badS = true) := fun h => any_true hlq h
            have hBH2 : Hid (Below w.heap.size w wr) := hB
            clear hany hB
            generalize l.getD q [] = s at *
            have hsz : (bs s).size = s.length := bs_size s
            have hem := bs_empty s
            cases he : s.isEmpty with
            | true =>
              rw [he] at hem
              have hbd : badS s = true := by unfold badS; rw [he]; rfl
              have hres : Hid (ll.all goodWord = false) := hf.out (by rw [hgw'.out, hfq.out hbd]; rfl)
              go_wp2_with (fail)
              go_ret
              exact ⟨by first | (rw [hres.out]; done) | (rw [hres.out]; rfl), hBH2.out⟩
            | false =>
              rw [he] at hem
              by_cases h16 : 16 < s.length
              · have h16i : (16 : Int) < (s.length : Int) := by omega
                have hbd : badS s = true := by unfold badS; rw [he, decide_eq_true h16]; rfl
                have hres : Hid (ll.all goodWord = false) := hf.out (by rw [hgw'.out, hfq.out hbd]; rfl)
                clear h16
                go_wp2_with (fail)
                go_ret
                exact ⟨by first | (rw [hres.out]; done) | (rw [hres.out]; rfl), hBH2.out⟩
              · have h16i : ¬ ((16 : Int) < (s.length : Int)) := by omega
                have hbd : Hid (badS s = false) := by unfold Hid badS; rw [he, decide_eq_false h16]; rfl
                clear h16
                go_wp2_with (fail)
                go_roundw
                case rel => exact ⟨q + 1, by omega, by go_num, by rw [hsq.out, hbd.out], hBH2.out⟩
                case measure => simp [intOf]; omega
          · have hq' : q = l.length := by omega
            rw [hq', List.take_length] at hany
            have hBH2 : Hid (Below w.heap.size w wr) := hB
            have hgd : Hid (goodWord l = true) := by unfold Hid; rw [hgw'.out, hany]; rfl
            clear hany hB
            go_wp2_with (fail)
            go_roundw
            case rel => exact ⟨k + 1, by omega, by go_num, by rw [hsn.out, hgd.out], hBH2.out⟩
            case measure => simp [intOf]; omega
      · have h64i : (64 : Int) < (l.length : Int) := by omega
        have hres : Hid (ll.all goodWord = false) := hf.out (by rw [hgw.out, decide_eq_false h64]; rfl)
        clear h64 hf hsn hgw
        go_wp2_with (fail)
        go_ret
        exact ⟨by first | (rw [hres.out]; done) | (rw [hres.out]; rfl), hBH.out⟩
    · have hkl : k = ll.length := by omega
      rw [hkl, List.take_length] at hall
      have hres : Hid (ll.all goodWord = true) := hall
      clear hall
      go_wp2_with (fail)
      go_ret
      exact ⟨by first | (rw [hres.out]; done) | (rw [hres.out]; rfl), hB⟩


set_option maxRecDepth 100000 in
set_option maxHeartbeats 6400000 in
theorem rtgood_any (t : Tk) (v : Value) (hok : t.ok) (w : World) (hv : TkV w v t) : Calls Tryz.prog 10 #[v] w fun e w' => e = .returned (.bool (goodT t)) ∧ Below w.heap.size w w' := by
  obtain ⟨name, yes, no, clear, wt⟩ := t
  obtain ⟨⟨vy, vn, rfl, ⟨ay, cy, rfl, hy⟩, ⟨an, cn, rfl, hn⟩⟩, hw⟩ := hv
  obtain ⟨s1, ⟨s2, s3⟩, ⟨s4, s5⟩⟩ := hok
  simp only at hw hy hn s1 s2 s3 s4 s5
  have r31 := run_bits31
  have hle : ∀ {v : World} {o : Obj}, Below (w.heap.size + 1) (w.alloc o) v → Below w.heap.size w v := fun h => ((Below.refl _ w).alloc (Nat.le_refl _) _).trans (h.mono (by omega))
  have hW : Below w.heap.size w w := Below.refl _ _
  have hgt : Hid (goodT ⟨name, yes, no, clear, wt⟩ = (goodName name && (decide (1 ≤ yes.length + no.length) && (decide (yes.length + no.length ≤ 64) && ((yes.all goodWord && no.all goodWord) && decide (wt < 9218868437227405312)))))) := rfl
  have hN : Hid (∀ w, Calls Tryz.prog 40 #[.string (bs name)] w fun e w' => e = .returned (.bool (goodName name)) ∧ Below w.heap.size w w') := fun w => rlgood_any name s1 w
  have hY : Hid (∀ v, Below w.heap.size w v → Calls Tryz.prog 41 #[.slice ay yes.length cy] v fun e w' => e = .returned (.bool (yes.all goodWord)) ∧ Below v.heap.size v w') := fun v h => rwordsg_any ay yes cy s2 v ((hy.below h).mono h.size)
  have hO : Hid (∀ v, Below w.heap.size w v → Calls Tryz.prog 41 #[.slice an no.length cn] v fun e w' => e = .returned (.bool (no.all goodWord)) ∧ Below v.heap.size v w') := fun v h => rwordsg_any an no cn s4 v ((hn.below h).mono h.size)
  have hwt : (wt : Int) < 18446744073709551616 := by omega
  clear hy hn hle hw hW s3 s5
  generalize goodName name = g1 at *
  generalize yes.all goodWord = g4 at *
  generalize no.all goodWord = g5 at *
  generalize yes.length = ny at *
  generalize no.length = nn at *
  obtain ⟨z, hz⟩ : ∃ z : Nat, ny + nn = z := ⟨_, rfl⟩
  have hsum : (ny : Int) + (nn : Int) = (z : Int) := by omega
  have hzw : wrap64 (z : Int) = (z : Int) := wrap64_nat (by omega)
  have hzv : Hid ((z : Int) = (ny : Int) + (nn : Int)) := hsum.symm
  clear hz s2 s4 s1
  have hB0 : Hid (Below w.heap.size w (w.alloc (.cells #[.string (bs name), .slice ay ny cy, .slice an nn cn, .bool clear, .float .f64 wt] 30))) := (Below.refl _ w).alloc (Nat.le_refl _) _
  cases g1 with
  | false =>
    have hres : Hid (goodT ⟨name, yes, no, clear, wt⟩ = false) := by unfold Hid; rw [hgt.out]; rfl
    go_enter Tryz.func10, Tryz.ntmps10
    go_wp2_with (fail)
    go_at_call 40
    refine (hN.out _).mono ?_
    rintro e w1 ⟨rfl, hB1⟩
    have hB2 := hB0.out.trans (hB1.mono hB0.out.size)
    have c1 := hB1.cell (p := ⟨w.heap.size, 1, none⟩) (by simp)
    have c2 := hB1.cell (p := ⟨w.heap.size, 2, none⟩) (by simp)
    rw [cell_of_row _ _ _ _ _ _ (heap_alloc_new w _)] at c1 c2
    simp only [List.getElem?_toArray, List.getElem?_cons_succ, List.getElem?_cons_zero] at c1 c2
    go_wp2_with (fail)
    go_ret
    exact ⟨by first | (rw [hres.out]; done) | (rw [hres.out]; rfl), hB2⟩
  | true =>
    by_cases h1 : 1 ≤ ny + nn
    · by_cases h2 : ny + nn ≤ 64
      · have h1i : 0 < z := by have := hzv.out; omega
        have h2i : (z : Int) < 65 := by rw [hzv.out]; omega
        cases g4 with
        | false =>
          have hres : Hid (goodT ⟨name, yes, no, clear, wt⟩ = false) := by unfold Hid; rw [hgt.out]; simp
          clear h1 h2 hgt
          go_enter Tryz.func10, Tryz.ntmps10
          go_wp2_with (fail)
          go_at_call 40
          refine (hN.out _).mono ?_
          rintro e w1 ⟨rfl, hB1⟩
          have hB2 := hB0.out.trans (hB1.mono hB0.out.size)
          have c1 := hB1.cell (p := ⟨w.heap.size, 1, none⟩) (by simp)
          have c2 := hB1.cell (p := ⟨w.heap.size, 2, none⟩) (by simp)
          rw [cell_of_row _ _ _ _ _ _ (heap_alloc_new w _)] at c1 c2
          simp only [List.getElem?_toArray, List.getElem?_cons_succ, List.getElem?_cons_zero] at c1 c2
          go_wp2_with (fail)
          go_at_call 41
          refine (hY.out _ hB2).mono ?_
          rintro e w2 ⟨rfl, hB3⟩
          have hB4 := hB2.trans (hB3.mono hB2.size)
          have c3 := (hB3.cell (p := ⟨w.heap.size, 2, none⟩) (by have := hB1.size; simp at this ⊢; omega)).trans c2
          go_wp2_with (fail)
          go_ret
          exact ⟨by first | (rw [hres.out]; done) | (rw [hres.out]; rfl), hB4⟩
        | true =>
          cases g5 with
          | false =>
            have hres : Hid (goodT ⟨name, yes, no, clear, wt⟩ = false) := by unfold Hid; rw [hgt.out]; simp
            clear h1 h2 hgt
            go_enter Tryz.func10, Tryz.ntmps10
            go_wp2_with (fail)
            go_at_call 40
            refine (hN.out _).mono ?_
            rintro e w1 ⟨rfl, hB1⟩
            have hB2 := hB0.out.trans (hB1.mono hB0.out.size)
            have c1 := hB1.cell (p := ⟨w.heap.size, 1, none⟩) (by simp)
            have c2 := hB1.cell (p := ⟨w.heap.size, 2, none⟩) (by simp)
            rw [cell_of_row _ _ _ _ _ _ (heap_alloc_new w _)] at c1 c2
            simp only [List.getElem?_toArray, List.getElem?_cons_succ, List.getElem?_cons_zero] at c1 c2
            go_wp2_with (fail)
            go_at_call 41
            refine (hY.out _ hB2).mono ?_
            rintro e w2 ⟨rfl, hB3⟩
            have hB4 := hB2.trans (hB3.mono hB2.size)
            have c3 := (hB3.cell (p := ⟨w.heap.size, 2, none⟩) (by have := hB1.size; simp at this ⊢; omega)).trans c2
            go_wp2_with (fail)
            go_at_call 41
            refine (hO.out _ hB4).mono ?_
            rintro e w3 ⟨rfl, hB5⟩
            have hB6 := hB4.trans (hB5.mono hB4.size)
            go_wp2_with (fail)
            go_ret
            exact ⟨by first | (rw [hres.out]; done) | (rw [hres.out]; rfl), hB6⟩
          | true =>
            have hres : Hid (goodT ⟨name, yes, no, clear, wt⟩ = decide ((wt : Int) < 9218868437227405312)) := by
              unfold Hid; rw [hgt.out, decide_eq_true h1, decide_eq_true h2]
              simp only [Bool.true_and, Bool.and_true, decide_eq_decide]
              omega
            clear h1 h2 hgt
            go_enter Tryz.func10, Tryz.ntmps10
            go_wp2_with (fail)
            go_at_call 40
            refine (hN.out _).mono ?_
            rintro e w1 ⟨rfl, hB1⟩
            have hB2 := hB0.out.trans (hB1.mono hB0.out.size)
            have c1 := hB1.cell (p := ⟨w.heap.size, 1, none⟩) (by simp)
            have c2 := hB1.cell (p := ⟨w.heap.size, 2, none⟩) (by simp)
            rw [cell_of_row _ _ _ _ _ _ (heap_alloc_new w _)] at c1 c2
            simp only [List.getElem?_toArray, List.getElem?_cons_succ, List.getElem?_cons_zero] at c1 c2
            go_wp2_with (fail)
            go_at_call 41
            refine (hY.out _ hB2).mono ?_
            rintro e w2 ⟨rfl, hB3⟩
            have hB4 := hB2.trans (hB3.mono hB2.size)
            have c3 := (hB3.cell (p := ⟨w.heap.size, 2, none⟩) (by have := hB1.size; simp at this ⊢; omega)).trans c2
            go_wp2_with (fail)
            go_at_call 41
            refine (hO.out _ hB4).mono ?_
            rintro e w3 ⟨rfl, hB5⟩
            have hB6 := hB4.trans (hB5.mono hB4.size)
            go_wp2_with (fail)
            go_ret
            exact ⟨by first | (rw [hres.out]; done) | (rw [hres.out]; rfl), hB6⟩
      · have h1i : 0 < z := by have := hzv.out; omega
        have h2i : ((z : Int) < 65) = False := by have := hzv.out; rw [eq_iff_iff, iff_false]; omega
        have hres : Hid (goodT ⟨name, yes, no, clear, wt⟩ = false) := by unfold Hid; rw [hgt.out, decide_eq_false h2]; simp
        clear h1 h2 hgt
        go_enter Tryz.func10, Tryz.ntmps10
        go_wp2_with (fail)
        go_at_call 40
        refine (hN.out _).mono ?_
        rintro e w1 ⟨rfl, hB1⟩
        have hB2 := hB0.out.trans (hB1.mono hB0.out.size)
        have c1 := hB1.cell (p := ⟨w.heap.size, 1, none⟩) (by simp)
        have c2 := hB1.cell (p := ⟨w.heap.size, 2, none⟩) (by simp)
        rw [cell_of_row _ _ _ _ _ _ (heap_alloc_new w _)] at c1 c2
        simp only [List.getElem?_toArray, List.getElem?_cons_succ, List.getElem?_cons_zero] at c1 c2
        go_wp2_with (fail)
        go_ret
        exact ⟨by first | (rw [hres.out]; done) | (rw [hres.out]; rfl), hB2⟩
    · have h1i : ¬ (0 < z) := by have := hzv.out; omega
      have hres : Hid (goodT ⟨name, yes, no, clear, wt⟩ = false) := by unfold Hid; rw [hgt.out, decide_eq_false h1]; simp
      clear h1 hgt
      go_enter Tryz.func10, Tryz.ntmps10
      go_wp2_with (fail)
      go_at_call 40
      refine (hN.out _).mono ?_
      rintro e w1 ⟨rfl, hB1⟩
      have hB2 := hB0.out.trans (hB1.mono hB0.out.size)
      have c1 := hB1.cell (p := ⟨w.heap.size, 1, none⟩) (by simp)
      have c2 := hB1.cell (p := ⟨w.heap.size, 2, none⟩) (by simp)
      rw [cell_of_row _ _ _ _ _ _ (heap_alloc_new w _)] at c1 c2
      simp only [List.getElem?_toArray, List.getElem?_cons_succ, List.getElem?_cons_zero] at c1 c2
      go_wp2_with (fail)
      go_ret
      exact ⟨by first | (rw [hres.out]; done) | (rw [hres.out]; rfl), hB2⟩
end Go.Proofs.YtcdcchkaohnkdaaGreatDoor
