/- What the reference writes: a text, lists of words, a task. -/
import Derived.Test.YtcdcchkaohnkdaaGreatDoorTrn
import Derived.Test.YtcdcchkaohnkdaaGreatDoorTcc
import Derived.LoopTactic
namespace Go.Proofs.YtcdcchkaohnkdaaGreatDoor
open Go.RowKit

set_option maxRecDepth 100000 in
set_option maxHeartbeats 1600000 in
theorem rtextp_any (s : Str) (hs : s.length ≤ 70) (w : World) : Calls Tryz.prog 29 #[.string (bs s)] w fun e w' => e = .returned (.string (bs (textP s))) ∧ Below w.heap.size w w' := by
  have hput : Hid (∀ w, Calls Tryz.prog 69 #[.int .i64 (s.length : Nat)] w fun e w' => e = .returned (.string (bs (putN s.length))) ∧ Below w.heap.size w w') := fun w => r1put_pos s.length (by omega) w
  have hsz : (bs s).size = s.length := bs_size s
  have hcat : Hid (bs (putN s.length) ++ bs s = bs (textP s)) := bs_cat _ _
  have hl2 : (putN s.length).length ≤ 8 := putN_len8 _ (by omega)
  have hz2 : (bs (putN s.length)).size = (putN s.length).length := bs_size _
  go_enter Tryz.func29, Tryz.ntmps29
  go_wp2_with (fail)
  go_at_call 69
  refine (hput.out _).mono ?_
  rintro e w1 ⟨rfl, hB1⟩
  generalize putN s.length = p at *
  go_wp2_with (fail)
  go_ret
  exact ⟨by first | (rw [hcat.out]; done) | (rw [hcat.out]; rfl), hB1⟩

set_option maxRecDepth 100000 in
set_option maxHeartbeats 6400000 in
theorem rwords_any (a : Option Addr) (ll : List (List Str)) (cap : Nat) (hll : ll.length ≤ 70) (hs : ∀ ts ∈ ll, ts.length ≤ 70 ∧ ∀ s ∈ ts, s.length ≤ 70) (w : World) (hL : ListsAt w.heap.size w a ll) :
    Calls Tryz.prog 30 #[.slice a ll.length cap] w fun e w' => e = .returned (.string (bs (listP ll))) ∧ Below w.heap.size w w' := by
  have hput : Hid (∀ n w, n ≤ 70 → Calls Tryz.prog 69 #[.int .i64 (n : Nat)] w fun e w' => e = .returned (.string (bs (putN n))) ∧ Below w.heap.size w w') := fun n w h => r1put_pos n (by omega) w
  have hLH : Hid (ListsAt w.heap.size w a ll) := hL
  have hsH : Hid (∀ ts ∈ ll, ts.length ≤ 70 ∧ ∀ s ∈ ts, s.length ≤ 70) := hs
  have hbnd : Hid (∀ k, (putN ll.length ++ (ll.take k).flatMap textsP).length ≤ 400000) := fun k => by
    have h1 := lists_le ll hs k
    have h2 := putN_len8 ll.length (by omega)
    have h3 : 5468 * ll.length ≤ 5468 * 70 := Nat.mul_le_mul_left _ hll
    simp only [List.length_append]
    omega
  clear hL hs
  go_enter Tryz.func30, Tryz.ntmps30
  go_wp2_with (fail)
  go_at_call 69
  refine (hput.out ll.length _ hll).mono ?_
  rintro e w1 ⟨rfl, hB1⟩
  go_wp2_with (fail)
  go_loopw [3, 4, 5] (fun s i _ wr => ∃ k : Nat, k ≤ ll.length ∧ i = .int .i64 k ∧ s = .string (bs (putN ll.length ++ (ll.take k).flatMap textsP)) ∧ Below w.heap.size w wr) (fun _ i _ _ => ll.length - (intOf i).toNat)
  case atStart => exact ⟨0, Nat.zero_le _, rfl, by simp, hB1⟩
  case round =>
    obtain ⟨k, hk, rfl, rfl, hB⟩ := hrel
    by_cases hlt : k < ll.length
    · obtain ⟨b, off, v, rfl, hbN, hcell, a', cap', rfl, hS⟩ := hLH.out k hlt
      have hSH : Hid (StrsAt w.heap.size w a' (ll.getD k [])) := hS
      have hc := (hB.cell (p := ⟨b, off + k, none⟩) (by exact hbN)).trans hcell
      have htk : Hid ((ll.take (k + 1)).flatMap textsP = (ll.take k).flatMap textsP ++ textsP (ll.getD k [])) := take_flat textsP ll k [] hlt
      have ht70 : Hid ((ll.getD k []).length ≤ 70 ∧ ∀ s ∈ ll.getD k [], s.length ≤ 70) := hsH.out _ (by rw [List.getD, List.getElem?_eq_getElem hlt]; exact List.getElem_mem _)
      have hb0 : Hid ((putN ll.length ++ (ll.take k).flatMap textsP).length ≤ 400000) := hbnd.out k
      clear hS
      generalize hL0 : putN ll.length ++ (ll.take k).flatMap textsP = L0 at *
      have hL1 : Hid (putN ll.length ++ (ll.take (k + 1)).flatMap textsP = L0 ++ textsP (ll.getD k [])) := by unfold Hid; rw [htk.out, ← List.append_assoc, hL0]
      clear hL0 htk
      generalize ll.getD k [] = l at *
      have hz0 : (bs L0).size = L0.length := bs_size L0
      have hl0 : L0.length ≤ 400000 := hb0.out
      have hlz : (l.length : Int) ≤ 70 := by have := ht70.out.1; omega
      have hBH : Hid (Below w.heap.size w wr) := hB
      clear hb0 hB
      go_wp2_with (fail)
      go_at_call 69
      refine (hput.out l.length _ ht70.out.1).mono ?_
      rintro e w2 ⟨rfl, hB2⟩
      have hz2 : (bs (putN l.length)).size = (putN l.length).length := bs_size _
      have hl2 : (putN l.length).length ≤ 8 := putN_len8 _ (by have := ht70.out.1; omega)
      have hcat : Hid (bs L0 ++ bs (putN l.length) = bs (L0 ++ putN l.length)) := bs_cat _ _
      have hBq : Hid (Below w.heap.size w w2) := hBH.out.trans (hB2.mono hBH.out.size)
      clear hB2 hc
      go_wp2_with (fail)
      go_loopw [3, 5] (fun s j wq => ∃ q : Nat, q ≤ l.length ∧ j = .int .i64 q ∧ s = .string (bs (L0 ++ (putN l.length ++ (l.take q).flatMap textP))) ∧ Below w.heap.size w wq) (fun _ j _ => l.length - (intOf j).toNat)
      case atStart => exact ⟨0, Nat.zero_le _, rfl, by rw [hcat.out]; simp, hBq.out⟩
      case round =>
        clear hBq hcat
        obtain ⟨q, hq, rfl, rfl, hB⟩ := hrel
        have hc := (hB.cell (p := ⟨b, off + k, none⟩) (by exact hbN)).trans hcell
        by_cases hlq : q < l.length
        · obtain ⟨b', off', rfl, hbN', hcell'⟩ := hSH.out q hlq
          have hc' := (hB.cell (p := ⟨b', off' + q, none⟩) (by exact hbN')).trans hcell'
          have htq : Hid ((l.take (q + 1)).flatMap textP = (l.take q).flatMap textP ++ textP (l.getD q [])) := take_flat textP l q [] hlq
          have hs70 : Hid ((l.getD q []).length ≤ 70) := ht70.out.2 _ (by rw [List.getD, List.getElem?_eq_getElem hlq]; exact List.getElem_mem _)
          have hb1 : Hid ((L0 ++ (putN l.length ++ (l.take q).flatMap textP)).length ≤ 410000) := by
            have h1 := flat_le l 0 ht70.out.2 q
            have h3 := ht70.out.1
            have h4 : 78 * l.length ≤ 78 * 70 := Nat.mul_le_mul_left _ h3
            unfold Hid
            simp only [List.length_append]
            omega
          generalize hM0 : L0 ++ (putN l.length ++ (l.take q).flatMap textP) = M0 at *
          have hM1 : Hid (L0 ++ (putN l.length ++ (l.take (q + 1)).flatMap textP) = M0 ++ textP (l.getD q [])) := by unfold Hid; rw [htq.out, ← hM0]; simp [List.append_assoc]
          clear hM0 htq
          generalize l.getD q [] = s at *
          have hz3 : (bs M0).size = M0.length := bs_size M0
          have hl3 : M0.length ≤ 410000 := hb1.out
          have hBH2 : Hid (Below w.heap.size w wr) := hB
          clear hb1 hB
          go_wp2_with (fail)
          go_at_call 29
          refine (rtextp_any s hs70.out _).mono ?_
          rintro e w3 ⟨rfl, hB3⟩
          have hz4 : (bs (textP s)).size = (textP s).length := bs_size _
          have hl4 : (textP s).length ≤ 78 := textP_le s hs70.out
          have hcat : Hid (bs M0 ++ bs (textP s) = bs (M0 ++ textP s)) := bs_cat _ _
          have hB4 : Hid (Below w.heap.size w w3) := hBH2.out.trans (hB3.mono hBH2.out.size)
          clear hB3 hc hc'
          go_wp2_with (fail)
          go_roundw
          case rel => exact ⟨q + 1, by omega, by go_num, by rw [hcat.out, hM1.out], hB4.out⟩
          case measure => simp [intOf]; omega
        · have hq' : q = l.length := by omega
          have hBH2 : Hid (Below w.heap.size w wr) := hB
          have hL2 : Hid (L0 ++ (putN l.length ++ (l.take q).flatMap textP) = putN ll.length ++ (ll.take (k + 1)).flatMap textsP) := by
            unfold Hid; rw [hL1.out, hq', List.take_length]; rfl
          rw [hL2.out]
          clear hB hL2
          go_wp2_with (fail)
          go_roundw
          case rel => exact ⟨k + 1, by omega, by go_num, rfl, hBH2.out⟩
          case measure => simp [intOf]; omega
    · have hk' : k = ll.length := by omega
      have hres : Hid (putN ll.length ++ (ll.take k).flatMap textsP = listP ll) := by unfold Hid listP; rw [hk', List.take_length]
      rw [hres.out]
      clear hres
      go_wp2_with (fail)
      go_ret
      exact ⟨rfl, hB⟩


set_option maxRecDepth 100000 in
set_option maxHeartbeats 6400000 in
theorem rtput_any (t : Tk) (v : Value) (w : World) (hv : TkV w v t) (hs : t.small) : Calls Tryz.prog 8 #[v] w fun e w' => e = .returned (.string (bs (putT t))) ∧ Below w.heap.size w w' := by
  obtain ⟨name, yes, no, clear, wt⟩ := t
  obtain ⟨⟨vy, vn, rfl, ⟨ay, cy, rfl, hy⟩, ⟨an, cn, rfl, hn⟩⟩, hw⟩ := hv
  obtain ⟨s1, ⟨s2, s3⟩, ⟨s4, s5⟩, _⟩ := hs
  simp only at hw s1 s2 s3 s4 s5 hy hn
  have hm : Tryz.prog.follows .mixedOrders = true := by kernel_rfl
  have hlt : w.heap.size < w.heap.size + 1 := by omega
  have hle : ∀ {v : World} {o : Obj}, Below (w.heap.size + 1) (w.alloc o) v → Below w.heap.size w v := fun h => ((Below.refl _ w).alloc (Nat.le_refl _) _).trans (h.mono (by omega))
  have hA : Hid (∀ w, Calls Tryz.prog 29 #[.string (bs name)] w fun e w' => e = .returned (.string (bs (textP name))) ∧ Below w.heap.size w w') := fun w => rtextp_any name s1 w
  have hB : Hid (∀ (o : Obj) (v : World), Below (w.heap.size + 1) (w.alloc o) v → Calls Tryz.prog 30 #[.slice ay yes.length cy] v fun e w' => e = .returned (.string (bs (listP yes))) ∧ Below v.heap.size v w') := fun o v h => rwords_any ay yes cy s2 s3 v ((hy.below (hle h)).mono (hle h).size)
  have hC : Hid (∀ (o : Obj) (v : World), Below (w.heap.size + 1) (w.alloc o) v → Calls Tryz.prog 30 #[.slice an no.length cn] v fun e w' => e = .returned (.string (bs (listP no))) ∧ Below v.heap.size v w') := fun o v h => rwords_any an no cn s4 s5 v ((hn.below (hle h)).mono (hle h).size)
  have hmk : Hid (∀ w, Calls Tryz.prog 31 #[.float .f64 wt] w fun e w' => e = .returned (.string (bs (beL 8 (canN wt)))) ∧ Below w.heap.size w w') := fun w => rput_any wt hw w
  have hE : Hid (∀ w, Calls Tryz.prog 29 #[.string (bs (beL 8 (canN wt)))] w fun e w' => e = .returned (.string (bs (textP (beL 8 (canN wt))))) ∧ Below w.heap.size w w') := fun w => rtextp_any _ (by rw [beL_length]; omega) w
  have lA : (textP name).length ≤ 78 := textP_le name s1
  have lB : (listP yes).length ≤ 390000 := listP_le yes s2 s3
  have lC : (listP no).length ≤ 390000 := listP_le no s4 s5
  have lE : (textP (beL 8 (canN wt))).length ≤ 78 := textP_le _ (by rw [beL_length]; omega)
  have hRes : Hid (putT ⟨name, yes, no, clear, wt⟩ = textP name ++ listP yes ++ listP no ++ [if clear = true then 1 else 0] ++ textP (beL 8 (canN wt))) := by unfold Hid putT; simp
  clear s1 s2 s3 s4 s5 hy hn hw hle
  generalize textP (beL 8 (canN wt)) = E at *
  generalize beL 8 (canN wt) = mk at *
  generalize textP name = A at *
  generalize listP yes = B at *
  generalize listP no = C at *
  generalize yes.length = ny at *
  generalize no.length = nn at *
  have zA := bs_size A
  have zB := bs_size B
  have zC := bs_size C
  have zE := bs_size E
  have hAB : Hid (bs A ++ bs B = bs (A ++ B)) := bs_cat A B
  have hABC : Hid (bs (A ++ B) ++ bs C = bs (A ++ B ++ C)) := bs_cat _ C
  have lAB : (A ++ B).length ≤ 390078 := by rw [List.length_append]; omega
  have lABC : (A ++ B ++ C).length ≤ 780078 := by rw [List.length_append, List.length_append]; omega
  have zAB := bs_size (A ++ B)
  have zABC := bs_size (A ++ B ++ C)
  have fAB : (9223372036854775807 < A.length + B.length) = False := by rw [eq_iff_iff, iff_false]; omega
  generalize hgAB : A ++ B = AB at *
  generalize hgABC : AB ++ C = ABC at *
  have fABC : (9223372036854775807 < AB.length + C.length) = False := by rw [eq_iff_iff, iff_false]; omega
  have fABCD : (9223372036854775807 < ABC.length + 1) = False := by rw [eq_iff_iff, iff_false]; omega
  cases clear
  · have hABCD : Hid (bs ABC ++ bs [0] = bs (ABC ++ [0])) := bs_cat ABC [0]
    have z1 : (bs [0]).size = 1 := rfl
    have lABCD : (ABC ++ [0]).length ≤ 780079 := by rw [List.length_append]; simp; omega
    have zABCD := bs_size (ABC ++ [0])
    have hR : Hid (bs (ABC ++ [0]) ++ bs E = bs (ABC ++ [0] ++ E)) := bs_cat _ E
    have hRes' : Hid (bs (putT ⟨name, yes, no, false, wt⟩) = bs (ABC ++ [0] ++ E)) := by unfold Hid; rw [hRes.out]; rfl
    clear hRes hgAB hgABC
    generalize ABC ++ [0] = ABCD at *
    have fR : (9223372036854775807 < ABCD.length + E.length) = False := by rw [eq_iff_iff, iff_false]; omega
    generalize ABCD ++ E = R at *
    go_enter Tryz.func8, Tryz.ntmps8
    go_wp2_with (fail)
    have c0 : (w.alloc (.cells #[.string (bs name), .slice ay ny cy, .slice an nn cn, .bool false, .float .f64 wt] 30)).cell? ⟨w.heap.size, 0, none⟩ = some (.string (bs name)) := by rw [cell_of_row _ _ _ _ _ _ (heap_alloc_new w _)]; rfl
    have c1 : (w.alloc (.cells #[.string (bs name), .slice ay ny cy, .slice an nn cn, .bool false, .float .f64 wt] 30)).cell? ⟨w.heap.size, 1, none⟩ = some (.slice ay ny cy) := by rw [cell_of_row _ _ _ _ _ _ (heap_alloc_new w _)]; rfl
    have c2 : (w.alloc (.cells #[.string (bs name), .slice ay ny cy, .slice an nn cn, .bool false, .float .f64 wt] 30)).cell? ⟨w.heap.size, 2, none⟩ = some (.slice an nn cn) := by rw [cell_of_row _ _ _ _ _ _ (heap_alloc_new w _)]; rfl
    have c4 : (w.alloc (.cells #[.string (bs name), .slice ay ny cy, .slice an nn cn, .bool false, .float .f64 wt] 30)).cell? ⟨w.heap.size, 4, none⟩ = some (.float .f64 wt) := by rw [cell_of_row _ _ _ _ _ _ (heap_alloc_new w _)]; rfl
    have hB := hB.out (.cells #[.string (bs name), .slice ay ny cy, .slice an nn cn, .bool false, .float .f64 wt] 30)
    have hC := hC.out (.cells #[.string (bs name), .slice ay ny cy, .slice an nn cn, .bool false, .float .f64 wt] 30)
    refine Go.Ev.wp_region_plan (fun v => Below (w.heap.size + 1) (w.alloc (.cells #[.string (bs name), .slice ay ny cy, .slice an nn cn, .bool false, .float .f64 wt] 30)) v) [.pointer (some ⟨w.heap.size, 0, none⟩), .string (bs name), .string (bs A), .pointer (some ⟨w.heap.size, 1, none⟩), .slice ay ny cy, .string (bs B), .string (bs AB), .pointer (some ⟨w.heap.size, 2, none⟩), .slice an nn cn, .string (bs C), .string (bs ABC), .string (bs [0]), .string (bs ABCD), .pointer (some ⟨w.heap.size, 4, none⟩), .float .f64 wt, .string (bs mk), .string (bs E), .string (bs R), .string (bs R)] hm (by kernel_rfl) (by kernel_rfl) ((Below.refl _ _).drew) ?_
    refine ⟨fun v K hv hK => ?_, ?_⟩
    · go_simp; exact hK _ hv
    simp only [Act.put, List.setIfInBounds_toArray, List.set_cons_succ, List.set_cons_zero, List.headD_cons, List.tail_cons]
    refine ⟨fun v K hv hK => ?_, ?_⟩
    · have hc := (hv.cell (by exact hlt)).trans c0; go_simp; exact hK _ hv
    simp only [Act.put, List.setIfInBounds_toArray, List.set_cons_succ, List.set_cons_zero, List.headD_cons, List.tail_cons]
    refine ⟨fun v K hv hK => ?_, ?_⟩
    · go_simp; refine (hA.out _).mono ?_; rintro e w' ⟨rfl, hB⟩; exact hK _ (hv.trans (hB.mono (by have := hv.size; simp at this ⊢; omega)))
    simp only [Act.put, List.setIfInBounds_toArray, List.set_cons_succ, List.set_cons_zero, List.headD_cons, List.tail_cons]
    refine ⟨fun v K hv hK => ?_, ?_⟩
    · go_simp; exact hK _ hv
    simp only [Act.put, List.setIfInBounds_toArray, List.set_cons_succ, List.set_cons_zero, List.headD_cons, List.tail_cons]
    refine ⟨fun v K hv hK => ?_, ?_⟩
    · have hc := (hv.cell (by exact hlt)).trans c1; go_simp; exact hK _ hv
    simp only [Act.put, List.setIfInBounds_toArray, List.set_cons_succ, List.set_cons_zero, List.headD_cons, List.tail_cons]
    refine ⟨fun v K hv hK => ?_, ?_⟩
    · go_simp; refine (hB _ hv).mono ?_; rintro e w' ⟨rfl, hB⟩; exact hK _ (hv.trans (hB.mono (by have := hv.size; simp at this ⊢; omega)))
    simp only [Act.put, List.setIfInBounds_toArray, List.set_cons_succ, List.set_cons_zero, List.headD_cons, List.tail_cons]
    refine ⟨fun v K hv hK => ?_, ?_⟩
    · go_simp; rw [hAB.out]; exact hK _ hv
    simp only [Act.put, List.setIfInBounds_toArray, List.set_cons_succ, List.set_cons_zero, List.headD_cons, List.tail_cons]
    refine ⟨fun v K hv hK => ?_, ?_⟩
    · go_simp; exact hK _ hv
    simp only [Act.put, List.setIfInBounds_toArray, List.set_cons_succ, List.set_cons_zero, List.headD_cons, List.tail_cons]
    refine ⟨fun v K hv hK => ?_, ?_⟩
    · have hc := (hv.cell (by exact hlt)).trans c2; go_simp; exact hK _ hv
    simp only [Act.put, List.setIfInBounds_toArray, List.set_cons_succ, List.set_cons_zero, List.headD_cons, List.tail_cons]
    refine ⟨fun v K hv hK => ?_, ?_⟩
    · go_simp; refine (hC _ hv).mono ?_; rintro e w' ⟨rfl, hB⟩; exact hK _ (hv.trans (hB.mono (by have := hv.size; simp at this ⊢; omega)))
    simp only [Act.put, List.setIfInBounds_toArray, List.set_cons_succ, List.set_cons_zero, List.headD_cons, List.tail_cons]
    refine ⟨fun v K hv hK => ?_, ?_⟩
    · go_simp; rw [hABC.out]; exact hK _ hv
    simp only [Act.put, List.setIfInBounds_toArray, List.set_cons_succ, List.set_cons_zero, List.headD_cons, List.tail_cons]
    refine ⟨fun v K hv hK => ?_, ?_⟩
    · go_simp; exact hK _ hv
    simp only [Act.put, List.setIfInBounds_toArray, List.set_cons_succ, List.set_cons_zero, List.headD_cons, List.tail_cons]
    refine ⟨fun v K hv hK => ?_, ?_⟩
    · go_simp; rw [hABCD.out]; exact hK _ hv
    simp only [Act.put, List.setIfInBounds_toArray, List.set_cons_succ, List.set_cons_zero, List.headD_cons, List.tail_cons]
    refine ⟨fun v K hv hK => ?_, ?_⟩
    · go_simp; exact hK _ hv
    simp only [Act.put, List.setIfInBounds_toArray, List.set_cons_succ, List.set_cons_zero, List.headD_cons, List.tail_cons]
    refine ⟨fun v K hv hK => ?_, ?_⟩
    · have hc := (hv.cell (by exact hlt)).trans c4; go_simp; exact hK _ hv
    simp only [Act.put, List.setIfInBounds_toArray, List.set_cons_succ, List.set_cons_zero, List.headD_cons, List.tail_cons]
    refine ⟨fun v K hv hK => ?_, ?_⟩
    · go_simp; refine (hmk.out _).mono ?_; rintro e w' ⟨rfl, hB⟩; exact hK _ (hv.trans (hB.mono (by have := hv.size; simp at this ⊢; omega)))
    simp only [Act.put, List.setIfInBounds_toArray, List.set_cons_succ, List.set_cons_zero, List.headD_cons, List.tail_cons]
    refine ⟨fun v K hv hK => ?_, ?_⟩
    · go_simp; refine (hE.out _).mono ?_; rintro e w' ⟨rfl, hB⟩; exact hK _ (hv.trans (hB.mono (by have := hv.size; simp at this ⊢; omega)))
    simp only [Act.put, List.setIfInBounds_toArray, List.set_cons_succ, List.set_cons_zero, List.headD_cons, List.tail_cons]
    refine ⟨fun v K hv hK => ?_, ?_⟩
    · go_simp; rw [hR.out]; exact hK _ hv
    simp only [Act.put, List.setIfInBounds_toArray, List.set_cons_succ, List.set_cons_zero, List.headD_cons, List.tail_cons]
    refine ⟨fun v K hv hK => ?_, ?_⟩
    · go_simp; exact hK _ hv
    simp only [Act.put, List.setIfInBounds_toArray, List.set_cons_succ, List.set_cons_zero, List.headD_cons, List.tail_cons]
    intro w' hv
    go_wp2_with (fail)
    go_ret
    exact ⟨by first | (rw [hRes'.out]; done) | (rw [hRes'.out]; rfl), ((Below.refl _ w).alloc (Nat.le_refl _) _).trans (hv.mono (by omega))⟩
  · have hABCD : Hid (bs ABC ++ bs [1] = bs (ABC ++ [1])) := bs_cat ABC [1]
    have z1 : (bs [1]).size = 1 := rfl
    have lABCD : (ABC ++ [1]).length ≤ 780079 := by rw [List.length_append]; simp; omega
    have zABCD := bs_size (ABC ++ [1])
    have hR : Hid (bs (ABC ++ [1]) ++ bs E = bs (ABC ++ [1] ++ E)) := bs_cat _ E
    have hRes' : Hid (bs (putT ⟨name, yes, no, true, wt⟩) = bs (ABC ++ [1] ++ E)) := by unfold Hid; rw [hRes.out]; rfl
    clear hRes hgAB hgABC
    generalize ABC ++ [1] = ABCD at *
    have fR : (9223372036854775807 < ABCD.length + E.length) = False := by rw [eq_iff_iff, iff_false]; omega
    generalize ABCD ++ E = R at *
    go_enter Tryz.func8, Tryz.ntmps8
    go_wp2_with (fail)
    have c0 : (w.alloc (.cells #[.string (bs name), .slice ay ny cy, .slice an nn cn, .bool true, .float .f64 wt] 30)).cell? ⟨w.heap.size, 0, none⟩ = some (.string (bs name)) := by rw [cell_of_row _ _ _ _ _ _ (heap_alloc_new w _)]; rfl
    have c1 : (w.alloc (.cells #[.string (bs name), .slice ay ny cy, .slice an nn cn, .bool true, .float .f64 wt] 30)).cell? ⟨w.heap.size, 1, none⟩ = some (.slice ay ny cy) := by rw [cell_of_row _ _ _ _ _ _ (heap_alloc_new w _)]; rfl
    have c2 : (w.alloc (.cells #[.string (bs name), .slice ay ny cy, .slice an nn cn, .bool true, .float .f64 wt] 30)).cell? ⟨w.heap.size, 2, none⟩ = some (.slice an nn cn) := by rw [cell_of_row _ _ _ _ _ _ (heap_alloc_new w _)]; rfl
    have c4 : (w.alloc (.cells #[.string (bs name), .slice ay ny cy, .slice an nn cn, .bool true, .float .f64 wt] 30)).cell? ⟨w.heap.size, 4, none⟩ = some (.float .f64 wt) := by rw [cell_of_row _ _ _ _ _ _ (heap_alloc_new w _)]; rfl
    have hB := hB.out (.cells #[.string (bs name), .slice ay ny cy, .slice an nn cn, .bool true, .float .f64 wt] 30)
    have hC := hC.out (.cells #[.string (bs name), .slice ay ny cy, .slice an nn cn, .bool true, .float .f64 wt] 30)
    refine Go.Ev.wp_region_plan (fun v => Below (w.heap.size + 1) (w.alloc (.cells #[.string (bs name), .slice ay ny cy, .slice an nn cn, .bool true, .float .f64 wt] 30)) v) [.pointer (some ⟨w.heap.size, 0, none⟩), .string (bs name), .string (bs A), .pointer (some ⟨w.heap.size, 1, none⟩), .slice ay ny cy, .string (bs B), .string (bs AB), .pointer (some ⟨w.heap.size, 2, none⟩), .slice an nn cn, .string (bs C), .string (bs ABC), .string (bs [1]), .string (bs ABCD), .pointer (some ⟨w.heap.size, 4, none⟩), .float .f64 wt, .string (bs mk), .string (bs E), .string (bs R), .string (bs R)] hm (by kernel_rfl) (by kernel_rfl) ((Below.refl _ _).drew) ?_
    refine ⟨fun v K hv hK => ?_, ?_⟩
    · go_simp; exact hK _ hv
    simp only [Act.put, List.setIfInBounds_toArray, List.set_cons_succ, List.set_cons_zero, List.headD_cons, List.tail_cons]
    refine ⟨fun v K hv hK => ?_, ?_⟩
    · have hc := (hv.cell (by exact hlt)).trans c0; go_simp; exact hK _ hv
    simp only [Act.put, List.setIfInBounds_toArray, List.set_cons_succ, List.set_cons_zero, List.headD_cons, List.tail_cons]
    refine ⟨fun v K hv hK => ?_, ?_⟩
    · go_simp; refine (hA.out _).mono ?_; rintro e w' ⟨rfl, hB⟩; exact hK _ (hv.trans (hB.mono (by have := hv.size; simp at this ⊢; omega)))
    simp only [Act.put, List.setIfInBounds_toArray, List.set_cons_succ, List.set_cons_zero, List.headD_cons, List.tail_cons]
    refine ⟨fun v K hv hK => ?_, ?_⟩
    · go_simp; exact hK _ hv
    simp only [Act.put, List.setIfInBounds_toArray, List.set_cons_succ, List.set_cons_zero, List.headD_cons, List.tail_cons]
    refine ⟨fun v K hv hK => ?_, ?_⟩
    · have hc := (hv.cell (by exact hlt)).trans c1; go_simp; exact hK _ hv
    simp only [Act.put, List.setIfInBounds_toArray, List.set_cons_succ, List.set_cons_zero, List.headD_cons, List.tail_cons]
    refine ⟨fun v K hv hK => ?_, ?_⟩
    · go_simp; refine (hB _ hv).mono ?_; rintro e w' ⟨rfl, hB⟩; exact hK _ (hv.trans (hB.mono (by have := hv.size; simp at this ⊢; omega)))
    simp only [Act.put, List.setIfInBounds_toArray, List.set_cons_succ, List.set_cons_zero, List.headD_cons, List.tail_cons]
    refine ⟨fun v K hv hK => ?_, ?_⟩
    · go_simp; rw [hAB.out]; exact hK _ hv
    simp only [Act.put, List.setIfInBounds_toArray, List.set_cons_succ, List.set_cons_zero, List.headD_cons, List.tail_cons]
    refine ⟨fun v K hv hK => ?_, ?_⟩
    · go_simp; exact hK _ hv
    simp only [Act.put, List.setIfInBounds_toArray, List.set_cons_succ, List.set_cons_zero, List.headD_cons, List.tail_cons]
    refine ⟨fun v K hv hK => ?_, ?_⟩
    · have hc := (hv.cell (by exact hlt)).trans c2; go_simp; exact hK _ hv
    simp only [Act.put, List.setIfInBounds_toArray, List.set_cons_succ, List.set_cons_zero, List.headD_cons, List.tail_cons]
    refine ⟨fun v K hv hK => ?_, ?_⟩
    · go_simp; refine (hC _ hv).mono ?_; rintro e w' ⟨rfl, hB⟩; exact hK _ (hv.trans (hB.mono (by have := hv.size; simp at this ⊢; omega)))
    simp only [Act.put, List.setIfInBounds_toArray, List.set_cons_succ, List.set_cons_zero, List.headD_cons, List.tail_cons]
    refine ⟨fun v K hv hK => ?_, ?_⟩
    · go_simp; rw [hABC.out]; exact hK _ hv
    simp only [Act.put, List.setIfInBounds_toArray, List.set_cons_succ, List.set_cons_zero, List.headD_cons, List.tail_cons]
    refine ⟨fun v K hv hK => ?_, ?_⟩
    · go_simp; exact hK _ hv
    simp only [Act.put, List.setIfInBounds_toArray, List.set_cons_succ, List.set_cons_zero, List.headD_cons, List.tail_cons]
    refine ⟨fun v K hv hK => ?_, ?_⟩
    · go_simp; rw [hABCD.out]; exact hK _ hv
    simp only [Act.put, List.setIfInBounds_toArray, List.set_cons_succ, List.set_cons_zero, List.headD_cons, List.tail_cons]
    refine ⟨fun v K hv hK => ?_, ?_⟩
    · go_simp; exact hK _ hv
    simp only [Act.put, List.setIfInBounds_toArray, List.set_cons_succ, List.set_cons_zero, List.headD_cons, List.tail_cons]
    refine ⟨fun v K hv hK => ?_, ?_⟩
    · have hc := (hv.cell (by exact hlt)).trans c4; go_simp; exact hK _ hv
    simp only [Act.put, List.setIfInBounds_toArray, List.set_cons_succ, List.set_cons_zero, List.headD_cons, List.tail_cons]
    refine ⟨fun v K hv hK => ?_, ?_⟩
    · go_simp; refine (hmk.out _).mono ?_; rintro e w' ⟨rfl, hB⟩; exact hK _ (hv.trans (hB.mono (by have := hv.size; simp at this ⊢; omega)))
    simp only [Act.put, List.setIfInBounds_toArray, List.set_cons_succ, List.set_cons_zero, List.headD_cons, List.tail_cons]
    refine ⟨fun v K hv hK => ?_, ?_⟩
    · go_simp; refine (hE.out _).mono ?_; rintro e w' ⟨rfl, hB⟩; exact hK _ (hv.trans (hB.mono (by have := hv.size; simp at this ⊢; omega)))
    simp only [Act.put, List.setIfInBounds_toArray, List.set_cons_succ, List.set_cons_zero, List.headD_cons, List.tail_cons]
    refine ⟨fun v K hv hK => ?_, ?_⟩
    · go_simp; rw [hR.out]; exact hK _ hv
    simp only [Act.put, List.setIfInBounds_toArray, List.set_cons_succ, List.set_cons_zero, List.headD_cons, List.tail_cons]
    refine ⟨fun v K hv hK => ?_, ?_⟩
    · go_simp; exact hK _ hv
    simp only [Act.put, List.setIfInBounds_toArray, List.set_cons_succ, List.set_cons_zero, List.headD_cons, List.tail_cons]
    intro w' hv
    go_wp2_with (fail)
    go_ret
    exact ⟨by first | (rw [hRes'.out]; done) | (rw [hRes'.out]; rfl), ((Below.refl _ w).alloc (Nat.le_refl _) _).trans (hv.mono (by omega))⟩
end Go.Proofs.YtcdcchkaohnkdaaGreatDoor
