/- The task that the reference reads of bytes. -/
import Derived.Test.YtcdcchkaohnkdaaGreatDoorTgt
import Derived.Test.YtcdcchkaohnkdaaGreatDoorTri
namespace Go.Proofs.YtcdcchkaohnkdaaGreatDoor
open Go.RowKit

set_option maxRecDepth 100000 in
set_option maxHeartbeats 6400000 in
theorem rtget_any (s : Str) (hs : s.length ≤ 1000000) (w : World) : Calls Tryz.prog 12 #[.string (bs s)] w fun e w' => ∃ v, e = .returned (.tuple #[v, .int .i64 ((getT s).2 : Nat)]) ∧ TkV w' v (getT s).1 ∧ Below w.heap.size w w' := by
  have rsf := run_store_float
  have hmg : Hid (∀ (m : Str) (w : World), Calls Tryz.prog 46 #[.string (bs m)] w fun e w' => e = .returned (.tuple #[.float .f64 (getE (bs m)).1, .int .i64 (getE (bs m)).2]) ∧ Below w.heap.size w w') := fun m w => rget_any (bs m) w
  go_enter Tryz.func12, Tryz.ntmps12
  go_wp2_with (fail)
  go_at_call 43
  have hz1 : ((w.alloc (.cells #[.string ⟨#[]⟩, .slice none 0 0, .slice none 0 0, .bool false, .float .f64 0] 30)).alloc (.cells #[.string (bs s), .int .i64 0] 97)).heap.size = w.heap.size + 2 := by simp
  have hR1H : Hid (((w.alloc (.cells #[.string ⟨#[]⟩, .slice none 0 0, .slice none 0 0, .bool false, .float .f64 0] 30)).alloc (.cells #[.string (bs s), .int .i64 0] 97)).heap[w.heap.size]? = some (.cells #[.string ⟨#[]⟩, .slice none 0 0, .slice none 0 0, .bool false, .float .f64 0] 30 (0, 0))) := by unfold Hid; rw [heap_alloc_old _ _ (by simp), heap_alloc_new]
  have hI1H : Hid (InS 97 (w.heap.size + 1) (s, 0) ((w.alloc (.cells #[.string ⟨#[]⟩, .slice none 0 0, .slice none 0 0, .bool false, .float .f64 0] 30)).alloc (.cells #[.string (bs s), .int .i64 0] 97))) := by
    have h := heap_alloc_new (w.alloc (.cells #[.string ⟨#[]⟩, .slice none 0 0, .slice none 0 0, .bool false, .float .f64 0] 30)) (.cells #[.string (bs s), .int .i64 0] 97)
    unfold Hid InS
    simpa using h
  have hW1 : Hid (Below w.heap.size w ((w.alloc (.cells #[.string ⟨#[]⟩, .slice none 0 0, .slice none 0 0, .bool false, .float .f64 0] 30)).alloc (.cells #[.string (bs s), .int .i64 0] 97))) := ((Below.refl _ w).alloc (Nat.le_refl _) _).alloc (by simp) _
  generalize ((w.alloc (.cells #[.string ⟨#[]⟩, .slice none 0 0, .slice none 0 0, .bool false, .float .f64 0] 30)).alloc (.cells #[.string (bs s), .int .i64 0] 97)) = w1 at *
  refine (rtext_any (w.heap.size + 1) (s, 0) hs w1 hI1H.out).mono ?_
  rintro e w2 ⟨rfl, hI2, hO2⟩
  have hI2H : Hid (InS 97 (w.heap.size + 1) (textS (s, 0)).2 w2) := hI2
  have hR2H : Hid (w2.heap[w.heap.size]? = some (.cells #[.string ⟨#[]⟩, .slice none 0 0, .slice none 0 0, .bool false, .float .f64 0] 30 (0, 0))) := (World.grownBy.block hO2 w.heap.size (by omega) (by simp)).trans hR1H.out
  have hW2 : Hid (Below w.heap.size w w2) := hW1.out.trans (hO2.below (by omega) (by omega))
  have hz2 : w.heap.size + 2 ≤ w2.heap.size := by have := hO2.size; omega
  have l1 : Hid ((textS (s, 0)).2.1.length ≤ 1000000) := Nat.le_trans (textS_len (s, 0)) hs
  clear hI2 hO2 hI1H hR1H hW1 hz1
  cases h1 : textS (s, 0) with
  | mk name st1 =>
  rw [h1] at hI2H l1
  simp only at hI2H l1
  have h1H : Hid (textS (s, 0) = (name, st1)) := h1
  clear h1
  go_wp2_with (fail)
  go_at_call 44
  have hS3 : Hid (GetS 97 30 w.heap.size (w.heap.size + 1) w2.heap.size st1 (.slice none 0 0) (.slice none 0 0) name false 0 (w2.alloc (.cells #[.string (bs name), .slice none 0 0, .slice none 0 0, .bool false, .float .f64 0] 30))) :=
    ⟨hI2H.out.alloc _, (heap_alloc_old _ _ (by omega)).trans hR2H.out, heap_alloc_new _ _, by omega, by omega, by omega⟩
  have hW3 : Hid (Below w.heap.size w (w2.alloc (.cells #[.string (bs name), .slice none 0 0, .slice none 0 0, .bool false, .float .f64 0] 30))) := hW2.out.alloc (by omega) _
  refine (rlist_any (w.heap.size + 1) st1 l1.out _ hS3.out.inp).mono ?_
  rintro e w3 ⟨vy, oky, rfl, hLy, hI3, hO3⟩
  have hS4 : Hid (GetS 97 30 w.heap.size (w.heap.size + 1) w2.heap.size (listS st1).2 (.slice none 0 0) (.slice none 0 0) name false 0 w3) := hS3.out.read hO3 hI3
  have hW4 : Hid (Below w.heap.size w w3) := hW3.out.trans (hO3.below (by omega) (by simp; omega))
  have hz3 : w2.heap.size + 1 ≤ w3.heap.size := by have := hO3.size; simpa using this
  have l2 : Hid ((listS st1).2.1.length ≤ 1000000) := Nat.le_trans (listS_len st1) l1.out
  have hLyH : Hid (ListR (w2.heap.size + 1) w3 vy oky (listS st1).1) := by unfold Hid; simpa using hLy
  clear hLy hI3 hO3 hS3 hW3 hI2H hR2H hW2 l1
  cases h2 : listS st1 with
  | mk oy st2 =>
  rw [h2] at hS4 l2 hLyH
  simp only at hS4 l2 hLyH
  have h2H : Hid (listS st1 = (oy, st2)) := h2
  have cT1 : w3.cell? ⟨w2.heap.size, 1, none⟩ = some (.slice none 0 0) := hS4.out.cell 1
  have fT1 := hS4.out.froz 1
  clear h2
  rcases hLyH.out with ⟨rfl, rfl, rfl⟩ | ⟨yes, rfl, rfl, hOy⟩
  · -- no list
    have hres : Hid (getT s = (Tk.none, 2)) := by unfold Hid getT; rw [h1H.out]; simp only; rw [h2H.out]
    have r0 : w3.cell? ⟨w.heap.size, 0, none⟩ = some (.string ⟨#[]⟩) := hS4.out.cellR 0
    have g0 := hS4.out.frozR 0
    have r1 : w3.cell? ⟨w.heap.size, 1, none⟩ = some (.slice none 0 0) := hS4.out.cellR 1
    have g1 := hS4.out.frozR 1
    have r2 : w3.cell? ⟨w.heap.size, 2, none⟩ = some (.slice none 0 0) := hS4.out.cellR 2
    have g2 := hS4.out.frozR 2
    have r3 : w3.cell? ⟨w.heap.size, 3, none⟩ = some (.bool false) := hS4.out.cellR 3
    have g3 := hS4.out.frozR 3
    have r4 : w3.cell? ⟨w.heap.size, 4, none⟩ = some (.float .f64 0) := hS4.out.cellR 4
    have g4 := hS4.out.frozR 4
    have hS5 : Hid (GetS 97 30 w.heap.size (w.heap.size + 1) w2.heap.size st2 (.slice none 0 0) (.slice none 0 0) name false 0 (w3.setCell ⟨w2.heap.size, 1, none⟩ (.slice none 0 0))) := hS4.out.store (by omega) rfl
    have hW5 : Hid (Below w.heap.size w (w3.setCell ⟨w2.heap.size, 1, none⟩ (.slice none 0 0))) := hW4.out.setCell (by show w.heap.size ≤ w2.heap.size; omega) _
    clear hS4 hW4 hLyH
    go_wp2_with (fail)
    refine bodyPost_ret (res_row2 rfl _ _ w.heap.size 30 _ (0, 0) _ rfl (row5 hS5.out.res) Tryz.underlying30 rfl (by kernel_rfl)) rfl ?_
    exact ⟨_, by rw [hres.out]; rfl, by rw [hres.out]; exact tk_none _, below5 hW5.out (Nat.le_refl _)⟩
  · obtain ⟨ya, yl, yc, rfl⟩ : ∃ a l c, vy = .slice a l c := hOy.slice
    have hS5 : Hid (GetS 97 30 w.heap.size (w.heap.size + 1) w2.heap.size st2 (.slice ya yl yc) (.slice none 0 0) name false 0 (w3.setCell ⟨w2.heap.size, 1, none⟩ (.slice ya yl yc))) := hS4.out.store (by omega) rfl
    have hW5 : Hid (Below w.heap.size w (w3.setCell ⟨w2.heap.size, 1, none⟩ (.slice ya yl yc))) := hW4.out.setCell (by show w.heap.size ≤ w2.heap.size; omega) _
    have hY5 : Hid (ListO (w2.heap.size + 1) (w3.setCell ⟨w2.heap.size, 1, none⟩ (.slice ya yl yc)) (.slice ya yl yc) yes) := hOy.onl ((Onl.refl w2.heap.size w3).setCell rfl _) (by omega)
    have hz5 : (w3.setCell ⟨w2.heap.size, 1, none⟩ (.slice ya yl yc)).heap.size = w3.heap.size := by simp
    clear hS4 hW4 hLyH hOy
    go_wp2_with (fail)
    go_at_call 44
    generalize hw5 : w3.setCell ⟨w2.heap.size, 1, none⟩ (.slice ya yl yc) = w5 at *
    clear hw5 cT1 fT1
    refine (rlist_any (w.heap.size + 1) st2 l2.out w5 hS5.out.inp).mono ?_
    rintro e w6 ⟨vn, okn, rfl, hLn, hI6, hO6⟩
    have hS6 : Hid (GetS 97 30 w.heap.size (w.heap.size + 1) w2.heap.size (listS st2).2 (.slice ya yl yc) (.slice none 0 0) name false 0 w6) := hS5.out.read hO6 hI6
    have hW6 : Hid (Below w.heap.size w w6) := hW5.out.trans (hO6.below (by omega) (by omega))
    have hY6 : Hid (ListO (w2.heap.size + 1) w6 (.slice ya yl yc) yes) := hY5.out.onl hO6 (by omega)
    have hz6 : w5.heap.size ≤ w6.heap.size := hO6.size
    have l3 : Hid ((listS st2).2.1.length ≤ 1000000) := Nat.le_trans (listS_len st2) l2.out
    have hLnH : Hid (ListR w5.heap.size w6 vn okn (listS st2).1) := hLn
    clear hLn hI6 hO6 hS5 hW5 hY5 l2
    cases h3 : listS st2 with
    | mk on st3 =>
    rw [h3] at hS6 l3 hLnH
    simp only at hS6 l3 hLnH
    have h3H : Hid (listS st2 = (on, st3)) := h3
    have cT2 : w6.cell? ⟨w2.heap.size, 2, none⟩ = some (.slice none 0 0) := hS6.out.cell 2
    have fT2 := hS6.out.froz 2
    clear h3
    rcases hLnH.out with ⟨rfl, rfl, rfl⟩ | ⟨no, rfl, rfl, hOn⟩
    · have hres : Hid (getT s = (Tk.none, 2)) := by unfold Hid getT; rw [h1H.out]; simp only; rw [h2H.out]; simp only; rw [h3H.out]
      have r0 : w6.cell? ⟨w.heap.size, 0, none⟩ = some (.string ⟨#[]⟩) := hS6.out.cellR 0
      have g0 := hS6.out.frozR 0
      have r1 : w6.cell? ⟨w.heap.size, 1, none⟩ = some (.slice none 0 0) := hS6.out.cellR 1
      have g1 := hS6.out.frozR 1
      have r2 : w6.cell? ⟨w.heap.size, 2, none⟩ = some (.slice none 0 0) := hS6.out.cellR 2
      have g2 := hS6.out.frozR 2
      have r3 : w6.cell? ⟨w.heap.size, 3, none⟩ = some (.bool false) := hS6.out.cellR 3
      have g3 := hS6.out.frozR 3
      have r4 : w6.cell? ⟨w.heap.size, 4, none⟩ = some (.float .f64 0) := hS6.out.cellR 4
      have g4 := hS6.out.frozR 4
      have hS7 : Hid (GetS 97 30 w.heap.size (w.heap.size + 1) w2.heap.size st3 (.slice ya yl yc) (.slice none 0 0) name false 0 (w6.setCell ⟨w2.heap.size, 2, none⟩ (.slice none 0 0))) := hS6.out.store (by omega) rfl
      have hW7 : Hid (Below w.heap.size w (w6.setCell ⟨w2.heap.size, 2, none⟩ (.slice none 0 0))) := hW6.out.setCell (by show w.heap.size ≤ w2.heap.size; omega) _
      clear hS6 hW6 hLnH
      go_wp2_with (fail)
      refine bodyPost_ret (res_row2 rfl _ _ w.heap.size 30 _ (0, 0) _ rfl (row5 hS7.out.res) Tryz.underlying30 rfl (by kernel_rfl)) rfl ?_
      exact ⟨_, by rw [hres.out]; rfl, by rw [hres.out]; exact tk_none _, below5 hW7.out (Nat.le_refl _)⟩
    · obtain ⟨na, nl, nc, rfl⟩ : ∃ a l c, vn = .slice a l c := hOn.slice
      have hS7 : Hid (GetS 97 30 w.heap.size (w.heap.size + 1) w2.heap.size st3 (.slice ya yl yc) (.slice na nl nc) name false 0 (w6.setCell ⟨w2.heap.size, 2, none⟩ (.slice na nl nc))) := hS6.out.store (by omega) rfl
      have hW7 : Hid (Below w.heap.size w (w6.setCell ⟨w2.heap.size, 2, none⟩ (.slice na nl nc))) := hW6.out.setCell (by show w.heap.size ≤ w2.heap.size; omega) _
      have hY7 : Hid (ListO (w2.heap.size + 1) (w6.setCell ⟨w2.heap.size, 2, none⟩ (.slice na nl nc)) (.slice ya yl yc) yes) := hY6.out.onl ((Onl.refl w2.heap.size w6).setCell rfl _) (by omega)
      have hN7 : Hid (ListO (w2.heap.size + 1) (w6.setCell ⟨w2.heap.size, 2, none⟩ (.slice na nl nc)) (.slice na nl nc) no) := (hOn.base (by omega)).onl ((Onl.refl w2.heap.size w6).setCell rfl _) (by omega)
      have hz7 : (w6.setCell ⟨w2.heap.size, 2, none⟩ (.slice na nl nc)).heap.size = w6.heap.size := by simp
      clear hS6 hW6 hLnH hOn hY6
      go_wp2_with (fail)
      go_at_call 45
      generalize hw7 : w6.setCell ⟨w2.heap.size, 2, none⟩ (.slice na nl nc) = w7 at *
      clear hw7 cT2 fT2
      refine (rbool_any (w.heap.size + 1) st3 w7 hS7.out.inp).mono ?_
      rintro e w8 ⟨rfl, hI8, hO8⟩
      have hS8 : Hid (GetS 97 30 w.heap.size (w.heap.size + 1) w2.heap.size (boolS st3).2 (.slice ya yl yc) (.slice na nl nc) name false 0 w8) := hS7.out.read hO8 hI8
      have hW8 : Hid (Below w.heap.size w w8) := hW7.out.trans (hO8.below (by omega) (by omega))
      have hY8 : Hid (ListO (w2.heap.size + 1) w8 (.slice ya yl yc) yes) := hY7.out.onl hO8 (by omega)
      have hN8 : Hid (ListO (w2.heap.size + 1) w8 (.slice na nl nc) no) := hN7.out.onl hO8 (by omega)
      have hz8 : w7.heap.size ≤ w8.heap.size := hO8.size
      have l4 : Hid ((boolS st3).2.1.length ≤ 1000000) := Nat.le_trans (boolS_len st3) l3.out
      clear hI8 hO8 hS7 hW7 hY7 hN7 l3
      cases h4 : boolS st3 with
      | mk b st4 =>
      rw [h4] at hS8 l4
      simp only at hS8 l4
      have h4H : Hid (boolS st3 = (b, st4)) := h4
      clear h4
      have cT3 : w8.cell? ⟨w2.heap.size, 3, none⟩ = some (.bool false) := hS8.out.cell 3
      have fT3 := hS8.out.froz 3
      have hS9 : Hid (GetS 97 30 w.heap.size (w.heap.size + 1) w2.heap.size st4 (.slice ya yl yc) (.slice na nl nc) name b 0 (w8.setCell ⟨w2.heap.size, 3, none⟩ (.bool b))) := hS8.out.store (by omega) rfl
      have hW9 : Hid (Below w.heap.size w (w8.setCell ⟨w2.heap.size, 3, none⟩ (.bool b))) := hW8.out.setCell (by show w.heap.size ≤ w2.heap.size; omega) _
      have hY9 : Hid (ListO (w2.heap.size + 1) (w8.setCell ⟨w2.heap.size, 3, none⟩ (.bool b)) (.slice ya yl yc) yes) := hY8.out.onl ((Onl.refl w2.heap.size w8).setCell rfl _) (by omega)
      have hN9 : Hid (ListO (w2.heap.size + 1) (w8.setCell ⟨w2.heap.size, 3, none⟩ (.bool b)) (.slice na nl nc) no) := hN8.out.onl ((Onl.refl w2.heap.size w8).setCell rfl _) (by omega)
      have hz9 : (w8.setCell ⟨w2.heap.size, 3, none⟩ (.bool b)).heap.size = w8.heap.size := by simp
      clear hS8 hW8 hY8 hN8
      go_wp2_with (fail)
      go_at_call 43
      generalize hw9 : w8.setCell ⟨w2.heap.size, 3, none⟩ (.bool b) = w9 at *
      clear hw9 cT3 fT3
      refine (rtext_any (w.heap.size + 1) st4 l4.out w9 hS9.out.inp).mono ?_
      rintro e wa ⟨rfl, hIa, hOa⟩
      have hSa : Hid (GetS 97 30 w.heap.size (w.heap.size + 1) w2.heap.size (textS st4).2 (.slice ya yl yc) (.slice na nl nc) name b 0 wa) := hS9.out.read hOa hIa
      have hWa : Hid (Below w.heap.size w wa) := hW9.out.trans (hOa.below (by omega) (by omega))
      have hYa : Hid (ListO (w2.heap.size + 1) wa (.slice ya yl yc) yes) := hY9.out.onl hOa (by omega)
      have hNa : Hid (ListO (w2.heap.size + 1) wa (.slice na nl nc) no) := hN9.out.onl hOa (by omega)
      have hza : w9.heap.size ≤ wa.heap.size := hOa.size
      clear hIa hOa hS9 hW9 hY9 hN9 l4
      cases h5 : textS st4 with
      | mk m st5 =>
      rw [h5] at hSa
      simp only at hSa
      have h5H : Hid (textS st4 = (m, st5)) := h5
      clear h5
      go_wp2_with (fail)
      go_at_call 46
      refine (hmg.out m _).mono ?_
      rintro e wb ⟨rfl, hBm⟩
      rw [getE_M]
      have hSb0 : Hid (GetS 97 30 w.heap.size (w.heap.size + 1) w2.heap.size st5 (.slice ya yl yc) (.slice na nl nc) name b 0 wb) := hSa.out.below hBm
      have hWb0 : Hid (Below w.heap.size w wb) := hWa.out.trans (hBm.mono hWa.out.size)
      have hYb0 : Hid (ListO (w2.heap.size + 1) wb (.slice ya yl yc) yes) := hYa.out.below hBm
      have hNb0 : Hid (ListO (w2.heap.size + 1) wb (.slice na nl nc) no) := hNa.out.below hBm
      have hzb0 : wa.heap.size ≤ wb.heap.size := hBm.size
      have cE : wb.cell? ⟨w.heap.size + 1, 1, none⟩ = some (.int .i64 (st5.2 : Nat)) := hSb0.out.inp.c1
      have cS : wb.cell? ⟨w.heap.size + 1, 0, none⟩ = some (.string (bs st5.1)) := hSb0.out.inp.c0
      have hwtM : Hid ((getM m).1 < 18446744073709551616) := getM_lt m
      obtain ⟨x, hx⟩ : ∃ x, (getM m).1 = x := ⟨_, rfl⟩
      obtain ⟨y, hy⟩ : ∃ y, (getM m).2 = y := ⟨_, rfl⟩
      have hgmH : Hid (getM m = (x, y)) := by unfold Hid; rw [← hx, ← hy]
      rw [hx] at hwtM
      simp only [hx, hy]
      clear hx hy hBm hSa hWa hYa hNa
      have r0 : wb.cell? ⟨w.heap.size, 0, none⟩ = some (.string ⟨#[]⟩) := hSb0.out.cellR 0
      have g0 := hSb0.out.frozR 0
      have r1 : wb.cell? ⟨w.heap.size, 1, none⟩ = some (.slice none 0 0) := hSb0.out.cellR 1
      have g1 := hSb0.out.frozR 1
      have r2 : wb.cell? ⟨w.heap.size, 2, none⟩ = some (.slice none 0 0) := hSb0.out.cellR 2
      have g2 := hSb0.out.frozR 2
      have r3 : wb.cell? ⟨w.heap.size, 3, none⟩ = some (.bool false) := hSb0.out.cellR 3
      have g3 := hSb0.out.frozR 3
      have r4 : wb.cell? ⟨w.heap.size, 4, none⟩ = some (.float .f64 0) := hSb0.out.cellR 4
      have g4 := hSb0.out.frozR 4
      by_cases he5 : st5.2 = 0
      · have he5i : ((st5.2 : Int) != 0) = false := by rw [ne0_nat]; simp [he5]
        have he5H : Hid (st5.2 = 0) := he5
        have cT4 : wb.cell? ⟨w2.heap.size, 4, none⟩ = some (.float .f64 0) := hSb0.out.cell 4
        have fT4 := hSb0.out.froz 4
        have u0 : wb.cell? ⟨w2.heap.size, 0, none⟩ = some (.string (bs name)) := hSb0.out.cell 0
        have u1 : wb.cell? ⟨w2.heap.size, 1, none⟩ = some (.slice ya yl yc) := hSb0.out.cell 1
        have u2 : wb.cell? ⟨w2.heap.size, 2, none⟩ = some (.slice na nl nc) := hSb0.out.cell 2
        have u3 : wb.cell? ⟨w2.heap.size, 3, none⟩ = some (.bool b) := hSb0.out.cell 3
        have hSb : Hid (GetS 97 30 w.heap.size (w.heap.size + 1) w2.heap.size st5 (.slice ya yl yc) (.slice na nl nc) name b x (wb.setCell ⟨w2.heap.size, 4, none⟩ (.float .f64 x))) := hSb0.out.store (by omega) rfl
        have hWb : Hid (Below w.heap.size w (wb.setCell ⟨w2.heap.size, 4, none⟩ (.float .f64 x))) := hWb0.out.setCell (by show w.heap.size ≤ w2.heap.size; omega) _
        have hYb : Hid (ListO (w2.heap.size + 1) (wb.setCell ⟨w2.heap.size, 4, none⟩ (.float .f64 x)) (.slice ya yl yc) yes) := hYb0.out.onl ((Onl.refl w2.heap.size wb).setCell rfl _) (by omega)
        have hNb : Hid (ListO (w2.heap.size + 1) (wb.setCell ⟨w2.heap.size, 4, none⟩ (.float .f64 x)) (.slice na nl nc) no) := hNb0.out.onl ((Onl.refl w2.heap.size wb).setCell rfl _) (by omega)
        have hzb : (wb.setCell ⟨w2.heap.size, 4, none⟩ (.float .f64 x)).heap.size = wb.heap.size := by simp
        clear hSb0 hWb0 hYb0 hNb0
        by_cases hy0 : y = 0
        · have hyi : ((y : Int) != 0) = false := by rw [ne0_nat]; simp [hy0]
          have hy0H : Hid (y = 0) := hy0
          -- how long all is
          have q5 := put_text (st := st4) (by rw [h5H.out]; exact he5)
          rw [h5H.out] at q5
          have z4 : st4.2 = 0 := by rw [q5.1]
          have q4 := put_bool (st := st3) (by rw [h4H.out]; exact z4)
          rw [h4H.out] at q4
          have z3 : st3.2 = 0 := by rw [q4]
          have q3 := put_list (st := st2) (l := no) (by rw [h3H.out]) (by rw [h3H.out]; exact z3)
          rw [h3H.out] at q3
          have z2 : st2.2 = 0 := by rw [q3.1]
          have q2 := put_list (st := st1) (l := yes) (by rw [h2H.out]) (by rw [h2H.out]; exact z2)
          rw [h2H.out] at q2
          have z1 : st1.2 = 0 := by rw [q2.1]
          have q1 := put_text (st := (s, 0)) (by rw [h1H.out]; exact z1)
          rw [h1H.out] at q1
          have hok : Hid (Tk.ok ⟨name, yes, no, b, x⟩) := ⟨Nat.le_trans q1.2 (by omega), ⟨Nat.le_trans q2.2.1 (by omega), fun ts hts => Nat.le_trans (q2.2.2 ts hts) (by omega)⟩, ⟨Nat.le_trans q3.2.1 (by omega), fun ts hts => Nat.le_trans (q3.2.2 ts hts) (by omega)⟩⟩
          have hTv : Hid (TkV (wb.setCell ⟨w2.heap.size, 4, none⟩ (.float .f64 x)) (.agg #[.string (bs name), .slice ya yl yc, .slice na nl nc, .bool b, .float .f64 x]) ⟨name, yes, no, b, x⟩) := ⟨⟨_, _, rfl, hYb.out.lists, hNb.out.lists⟩, hwtM.out⟩
          clear q5 z4 q4 z3 q3 z2 q2 z1 q1 hy0 he5
          go_wp2_with (fail)
          go_at_call 10
          generalize hwc : wb.setCell ⟨w2.heap.size, 4, none⟩ (.float .f64 x) = wc at *
          clear hwc cT4 fT4 u0 u1 u2 u3 r0 r1 r2 r3 r4 g0 g1 g2 g3 g4 cE cS
          refine (rtgood_any _ _ hok.out wc hTv.out).mono ?_
          rintro e wd ⟨rfl, hBd⟩
          have hSd : Hid (GetS 97 30 w.heap.size (w.heap.size + 1) w2.heap.size st5 (.slice ya yl yc) (.slice na nl nc) name b x wd) := hSb.out.below hBd
          have hWd : Hid (Below w.heap.size w wd) := hWb.out.trans (hBd.mono (by omega))
          have hzd : wc.heap.size ≤ wd.heap.size := hBd.size
          have hYd : Hid (ListO (w2.heap.size + 1) wd (.slice ya yl yc) yes) := hYb.out.below hBd
          have hNd : Hid (ListO (w2.heap.size + 1) wd (.slice na nl nc) no) := hNb.out.below hBd
          clear hBd hSb hWb hTv hYb hNb
          have r0 : wd.cell? ⟨w.heap.size, 0, none⟩ = some (.string ⟨#[]⟩) := hSd.out.cellR 0
          have g0 := hSd.out.frozR 0
          have r1 : wd.cell? ⟨w.heap.size, 1, none⟩ = some (.slice none 0 0) := hSd.out.cellR 1
          have g1 := hSd.out.frozR 1
          have r2 : wd.cell? ⟨w.heap.size, 2, none⟩ = some (.slice none 0 0) := hSd.out.cellR 2
          have g2 := hSd.out.frozR 2
          have r3 : wd.cell? ⟨w.heap.size, 3, none⟩ = some (.bool false) := hSd.out.cellR 3
          have g3 := hSd.out.frozR 3
          have r4 : wd.cell? ⟨w.heap.size, 4, none⟩ = some (.float .f64 0) := hSd.out.cellR 4
          have g4 := hSd.out.frozR 4
          have cS2 : wd.cell? ⟨w.heap.size + 1, 0, none⟩ = some (.string (bs st5.1)) := hSd.out.inp.c0
          have hem := bs_empty st5.1
          cases hg : goodT ⟨name, yes, no, b, x⟩ with
          | false =>
            have hres : Hid (getT s = (Tk.none, 2)) := by unfold Hid getT; rw [h1H.out]; simp only; rw [h2H.out]; simp only; rw [h3H.out]; simp only; rw [h4H.out]; simp only; rw [h5H.out]; simp only; rw [hgmH.out]; simp only; rw [if_neg (by simp [he5H.out]), if_pos (.inr hg)]
            clear hg
            go_wp2_with (fail)
            refine bodyPost_ret (res_row2 rfl _ _ w.heap.size 30 _ (0, 0) _ rfl (row5 hSd.out.res) Tryz.underlying30 rfl (by kernel_rfl)) rfl ?_
            exact ⟨_, by rw [hres.out]; rfl, by rw [hres.out]; exact tk_none _, below5 hWd.out (Nat.le_refl _)⟩
          | true =>
            by_cases hn : st5.1 = []
            · have hres : Hid (getT s = (⟨name, yes, no, b, x⟩, 0)) := by unfold Hid getT; rw [h1H.out]; simp only; rw [h2H.out]; simp only; rw [h3H.out]; simp only; rw [h4H.out]; simp only; rw [h5H.out]; simp only; rw [hgmH.out]; simp only; rw [if_neg (by simp [he5H.out]), if_neg (by rw [hg]; simp [hy0H.out]), if_neg (by simp [hn])]
              have hne : (bs st5.1).toList.isEmpty = true := by rw [bs_empty, hn]; rfl
              have u0 : wd.cell? ⟨w2.heap.size, 0, none⟩ = some (.string (bs name)) := hSd.out.cell 0
              have u1 : wd.cell? ⟨w2.heap.size, 1, none⟩ = some (.slice ya yl yc) := hSd.out.cell 1
              have u2 : wd.cell? ⟨w2.heap.size, 2, none⟩ = some (.slice na nl nc) := hSd.out.cell 2
              have u3 : wd.cell? ⟨w2.heap.size, 3, none⟩ = some (.bool b) := hSd.out.cell 3
              have u4 : wd.cell? ⟨w2.heap.size, 4, none⟩ = some (.float .f64 x) := hSd.out.cell 4
              clear hg hn hem
              go_wp2_with (fail)
              refine bodyPost_ret (res_row2 rfl _ _ w.heap.size 30 _ (0, 0) _ rfl (row5 hSd.out.res) Tryz.underlying30 rfl (by kernel_rfl)) rfl ?_
              exact ⟨_, by rw [hres.out]; rfl, by rw [hres.out]; exact ⟨⟨_, _, rfl, (hYd.out.onl onl5 (by omega)).lists, (hNd.out.onl onl5 (by omega)).lists⟩, hwtM.out⟩, below5 hWd.out (Nat.le_refl _)⟩
            · have hres : Hid (getT s = (Tk.none, 4)) := by unfold Hid getT; rw [h1H.out]; simp only; rw [h2H.out]; simp only; rw [h3H.out]; simp only; rw [h4H.out]; simp only; rw [h5H.out]; simp only; rw [hgmH.out]; simp only; rw [if_neg (by simp [he5H.out]), if_neg (by rw [hg]; simp [hy0H.out]), if_pos hn]
              have hne : (bs st5.1).toList.isEmpty = false := by
                rw [bs_empty]
                cases h : st5.1 with
                | nil => exact absurd h hn
                | cons a l => rfl
              clear hg hn hem
              go_wp2_with (fail)
              refine bodyPost_ret (res_row2 rfl _ _ w.heap.size 30 _ (0, 0) _ rfl (row5 hSd.out.res) Tryz.underlying30 rfl (by kernel_rfl)) rfl ?_
              exact ⟨_, by rw [hres.out]; rfl, by rw [hres.out]; exact tk_none _, below5 hWd.out (Nat.le_refl _)⟩
        · have hyi : ((y : Int) != 0) = true := by rw [ne0_nat]; simp [hy0]
          have hres : Hid (getT s = (Tk.none, 2)) := by unfold Hid getT; rw [h1H.out]; simp only; rw [h2H.out]; simp only; rw [h3H.out]; simp only; rw [h4H.out]; simp only; rw [h5H.out]; simp only; rw [hgmH.out]; simp only; rw [if_neg (by simp [he5]), if_pos (.inl hy0)]
          clear hy0 he5
          go_wp2_with (fail)
          refine bodyPost_ret (res_row2 rfl _ _ w.heap.size 30 _ (0, 0) _ rfl (row5 hSb.out.res) Tryz.underlying30 rfl (by kernel_rfl)) rfl ?_
          exact ⟨_, by rw [hres.out]; rfl, by rw [hres.out]; exact tk_none _, below5 hWb.out (Nat.le_refl _)⟩
      · have he5i : ((st5.2 : Int) != 0) = true := by rw [ne0_nat]; simp [he5]
        have hres : Hid (getT s = (Tk.none, st5.2)) := by unfold Hid getT; rw [h1H.out]; simp only; rw [h2H.out]; simp only; rw [h3H.out]; simp only; rw [h4H.out]; simp only; rw [h5H.out]; simp only; rw [hgmH.out]; simp only; rw [if_pos he5]
        clear he5
        go_wp2_with (fail)
        go_region
        go_wp2_with (fail)
        refine bodyPost_ret (res_row2 rfl _ _ w.heap.size 30 _ (0, 0) _ rfl (row5 hSb0.out.res) Tryz.underlying30 rfl (by kernel_rfl)) rfl ?_
        exact ⟨_, by rw [hres.out]; rfl, by rw [hres.out]; exact tk_none _, (below5 hWb0.out (Nat.le_refl _)).drew⟩
end Go.Proofs.YtcdcchkaohnkdaaGreatDoor
