/- command.Put of a long text: what it returns has fifteen bytes more. -/
import Derived.Test.YtekmkmidjoenoaaGreatDoorPua
import Derived.Lib.SliceRun
namespace Go.Proofs.YtekmkmidjoenoaaGreatDoor
open Go.RowKit Go.Ev

theorem idx4_0 (w : World) : (Instr.index 49 (.agg #[.int .i64 0, .int .i64 0, .int .i64 0, .int .i64 0]) (.int .i64 0)).run Tryz.prog w = .ok (.int .i64 0) w := by kernel_rfl
theorem idx4_1 (w : World) : (Instr.index 49 (.agg #[.int .i64 0, .int .i64 0, .int .i64 0, .int .i64 0]) (.int .i64 1)).run Tryz.prog w = .ok (.int .i64 0) w := by kernel_rfl
theorem idx4_2 (w : World) : (Instr.index 49 (.agg #[.int .i64 0, .int .i64 0, .int .i64 0, .int .i64 0]) (.int .i64 2)).run Tryz.prog w = .ok (.int .i64 0) w := by kernel_rfl
theorem idx4_3 (w : World) : (Instr.index 49 (.agg #[.int .i64 0, .int .i64 0, .int .i64 0, .int .i64 0]) (.int .i64 3)).run Tryz.prog w = .ok (.int .i64 0) w := by kernel_rfl

theorem calls_gen {P : Program} {f : FuncId} {args : Array Value} {Q : Ending → World → Prop} {w0 : World} (h : ∀ W, W = w0 → Calls P f args W Q) : Calls P f args w0 Q := h _ rfl

set_option maxRecDepth 100000 in
set_option maxHeartbeats 3200000 in
theorem put_long (t : ByteArray) (h1 : 8160 ≤ t.size) (h2 : t.size ≤ 8223) (w : World) :
    Calls Tryz.prog 15 #[cmdA (.string t)] w fun e w' => ∃ s : ByteArray, e = .returned (.string s) ∧ s.size = t.size + 15 ∧ Below w.heap.size w w' := by
  have hg : Hid (∀ w, Calls Tryz.prog 25 #[cmdA (.string t)] w fun e w' => e = .returned (.bool true) ∧ Below w.heap.size w w') := fun w => good_any (range_all (p := fun n => gd (2 * n)) gd_long h1 h2) t rfl w
  obtain ⟨sl, hsl, hl⟩ := sz_spec (range_all (p := fun n => sz n 3) sz_long h1 h2)
  have hsm := sz_small
  simp only [Bool.and_eq_true] at hsm
  obtain ⟨s9, hs9, h9⟩ := sz_spec hsm.1
  obtain ⟨s1, hs1, hp1⟩ := sz_spec hsm.2.1
  obtain ⟨s0, hs0, hp0⟩ := sz_spec hsm.2.2
  unfold cmdA at hg ⊢
  go_enter Tryz.func15, Tryz.ntmps15
  go_wp2_with (fail)
  go_at_call 25
  refine calls_gen fun W0 hW0 => ?_
  have hs0' : W0.heap.size = w.heap.size + 1 := by rw [hW0]; simp
  have hB0 : Below w.heap.size w W0 := by rw [hW0]; exact (Below.refl _ w).alloc (Nat.le_refl _) _
  have hrow : W0.heap[w.heap.size]? = some (.cells #[.int .i64 9, .string ⟨#[97]⟩, .string ⟨#[]⟩, .string ⟨#[]⟩, .string t, .slice none 0 0, .int .i64 0, .int .i64 0, .int .i64 0, .int .i64 0] 51 (0, 0)) := by rw [hW0]; exact heap_alloc_new w _
  clear hW0
  refine (hg.out W0).mono ?_
  rintro e W1 ⟨rfl, hB1⟩
  have hNW : w.heap.size < W1.heap.size := by have := hB1.size; omega
  have hrow1 : W1.heap[w.heap.size]? = some (.cells #[.int .i64 9, .string ⟨#[97]⟩, .string ⟨#[]⟩, .string ⟨#[]⟩, .string t, .slice none 0 0, .int .i64 0, .int .i64 0, .int .i64 0, .int .i64 0] 51 (0, 0)) := (hB1.block _ (by omega)).trans hrow
  have hw1 : Below w.heap.size w W1 := hB0.trans (hB1.mono (by omega))
  -- the cells of the command, in any world behind
  have cell : ∀ (j : Nat) (u : Value), (#[.int .i64 9, .string ⟨#[97]⟩, .string ⟨#[]⟩, .string ⟨#[]⟩, .string t, .slice none 0 0, .int .i64 0, .int .i64 0, .int .i64 0, .int .i64 0] : Array Value)[j]? = some u → Hid (∀ x, Below W1.heap.size W1 x → x.cell? ⟨w.heap.size, j, none⟩ = some u) :=
    fun j u hu x hx => (hx.cell (by exact hNW)).trans (by rw [cell_of_row _ _ _ _ _ _ hrow1]; exact hu)
  have k0 := cell 0 _ rfl
  have k1 := cell 1 _ rfl
  have k2 := cell 2 _ rfl
  have k3 := cell 3 _ rfl
  have k4 := cell 4 _ rfl
  have k5 := cell 5 _ rfl
  have k6 := cell 6 _ rfl
  have k7 := cell 7 _ rfl
  have k8 := cell 8 _ rfl
  have k9 := cell 9 _ rfl
  clear cell hrow hrow1 hg
  have fa0 : ∀ o : Obj, (W1.alloc o).cell? ⟨w.heap.size, 0, none⟩ = some (.int .i64 9) := fun _ => Lib.cell?_alloc_some _ (k0.out W1 (Below.refl _ _))
  go_wp2_with (fail)
  go_at_call 29
  refine calls_gen fun W2 hW2 => ?_
  have hB2 : Below W1.heap.size W1 W2 := by rw [hW2]; exact (Below.refl _ W1).alloc (Nat.le_refl _) _
  have hO2 : OutAt W1.heap.size W1.heap.size 0 W2 := by
    rw [hW2]
    exact ⟨Nat.le_refl _, .slice none 0 0, [], heap_alloc_new W1 _, World.ownsRow_nil _ _ _ _⟩
  clear hW2 fa0
  have e97 : (⟨#[97]⟩ : ByteArray).size = 1 := rfl
  have e00 : (⟨#[]⟩ : ByteArray).size = 0 := rfl
  refine (int_any W1.heap.size W1.heap.size 0 9 s9 h9 (by omega) W2 hO2 (by omega)).mono ?_
  rintro e w3 ⟨rfl, hO3, hb⟩
  have hB3 : Below W1.heap.size W1 w3 := hB2.trans hb
  rw [hs9] at hO3
  clear hb hO2
  have g3 := k1.out w3 hB3
  go_wp2_with (fail)
  go_at_call 30
  refine (text_any W1.heap.size W1.heap.size (0 + 2) ⟨#[97]⟩ s1 (by omega) hp1 w3 hO3 (by omega)).mono ?_
  rintro e w4 ⟨rfl, hO4, hb⟩
  have hB4 : Below W1.heap.size W1 w4 := hB3.trans hb
  rw [hs1, e97] at hO4
  clear hb g3 hO3
  have g4 := k2.out w4 hB4
  go_wp2_with (fail)
  go_at_call 30
  refine (text_any W1.heap.size W1.heap.size (0 + 2 + 2 + 1) ⟨#[]⟩ s0 (by omega) hp0 w4 hO4 (by omega)).mono ?_
  rintro e w5 ⟨rfl, hO5, hb⟩
  have hB5 : Below W1.heap.size W1 w5 := hB4.trans hb
  rw [hs0, e00] at hO5
  clear hb g4 hO4
  have g5 := k3.out w5 hB5
  go_wp2_with (fail)
  go_at_call 30
  refine (text_any W1.heap.size W1.heap.size (0 + 2 + 2 + 1 + 1 + 0) ⟨#[]⟩ s0 (by omega) hp0 w5 hO5 (by omega)).mono ?_
  rintro e w6 ⟨rfl, hO6, hb⟩
  have hB6 : Below W1.heap.size W1 w6 := hB5.trans hb
  rw [hs0, e00] at hO6
  clear hb g5 hO5
  have g6 := k4.out w6 hB6
  go_wp2_with (fail)
  go_at_call 30
  refine (text_any W1.heap.size W1.heap.size (0 + 2 + 2 + 1 + 1 + 0 + 1 + 0) t sl (by omega) hl w6 hO6 (by omega)).mono ?_
  rintro e w7 ⟨rfl, hO7, hb⟩
  have hB7 : Below W1.heap.size W1 w7 := hB6.trans hb
  rw [hsl] at hO7
  clear hb g6 hO6
  have g7 := k5.out w7 hB7
  go_wp2_with (fail)
  go_at_call 31
  refine (texts_none W1.heap.size W1.heap.size (0 + 2 + 2 + 1 + 1 + 0 + 1 + 0 + 3 + t.size) s0 hp0 w7 hO7 (by omega)).mono ?_
  rintro e w8 ⟨rfl, hO8, hb⟩
  have hB8 : Below W1.heap.size W1 w8 := hB7.trans hb
  rw [hs0] at hO8
  clear hb g7 hO7
  have g0 := k6.out w8 hB8
  have g1 := k7.out w8 hB8
  have g2 := k8.out w8 hB8
  have g3 := k9.out w8 hB8
  go_wp2_with (fail)
  go_loopw [31] (fun i wr => ∃ k : Nat, k ≤ 4 ∧ i = .int .i64 (k : Nat) ∧ Hid (OutAt W1.heap.size W1.heap.size (0 + 2 + 2 + 1 + 1 + 0 + 1 + 0 + 3 + t.size + 1 + k) wr) ∧ Hid (Below W1.heap.size W1 wr))
    (fun i _ => 4 - (intOf i).toNat)
  case atStart => exact ⟨0, by omega, rfl, hO8, hB8⟩
  case round =>
    obtain ⟨k, hk, rfl, hOr, hBr⟩ := hrel
    by_cases h4 : k < 4
    · have h4' : k = 0 ∨ k = 1 ∨ k = 2 ∨ k = 3 := by omega
      have hp0H : Hid (∀ w, Calls Tryz.prog 72 #[.int .i64 0] w fun e w' => e = .returned (.string s0) ∧ Below w.heap.size w w') := hp0
      clear hp0 hk h4 hl h9 hp1 hsm
      have x0 := idx4_0
      have x1 := idx4_1
      have x2 := idx4_2
      have x3 := idx4_3
      rcases h4' with rfl | rfl | rfl | rfl
      all_goals
        go_wp2_with (fail)
        go_at_call 29
        refine (int_any W1.heap.size W1.heap.size _ 0 s0 hp0H.out (by omega) wr hOr.out (by omega)).mono ?_
        rintro e w' ⟨rfl, hO', hb⟩
        have hB' : Hid (Below W1.heap.size W1 w') := hBr.out.trans hb
        rw [hs0] at hO'
        have hO2 : Hid (OutAt W1.heap.size W1.heap.size _ w') := hO'
        clear hb hO' hOr hBr
        go_wp2_with (fail)
        go_roundw
        case rel => first | exact ⟨1, by omega, by simp, hO2, hB'⟩ | exact ⟨2, by omega, by simp, hO2, hB'⟩ | exact ⟨3, by omega, by simp, hO2, hB'⟩ | exact ⟨4, by omega, by simp, hO2, hB'⟩
        case measure => simp [intOf]
    · have hk4 : k = 4 := by omega
      subst hk4
      go_wp2_with (fail)
      go_at_call 32
      refine (bytes_any _ _ _ wr hOr.out).mono ?_
      rintro e w' ⟨r, rfl, hr, rfl⟩
      go_wp2_with (fail)
      go_ret
      exact ⟨r, rfl, by rw [hr]; omega, hw1.trans (hBr.out.mono (by omega))⟩
#print axioms put_long
end Go.Proofs.YtekmkmidjoenoaaGreatDoor
