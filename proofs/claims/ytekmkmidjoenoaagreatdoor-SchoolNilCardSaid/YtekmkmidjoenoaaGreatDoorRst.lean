/- school.Restore of zero bytes: there is no such school; a panic that is recovered. -/
import Derived.Test.YtekmkmidjoenoaaGreatDoorRes
namespace Go.Proofs.YtekmkmidjoenoaaGreatDoor
open Go.RowKit Go.Ev

set_option maxRecDepth 100000 in
set_option maxHeartbeats 3200000 in
theorem restore_zero (z : ByteArray) (hz : z.size = 40000) (h0 : z[0]? = some 0) (w : World) : Calls Tryz.prog 16 #[.string z] w fun e w' => e = .returned (.tuple #[.pointer none, .int .i64 2]) ∧ Below w.heap.size w w' := by
  have hmf : ∀ (fn : Fn) (first cap : Array Value) (w : World), (Instr.makeFunc fn first cap).run Tryz.prog w = .ok (.func fn first cap) w := fun _ _ _ _ => rfl
  go_enter_defers Tryz.func16, Tryz.ntmps16
  go_wp2_with (fail)
  go_at_call 33
  refine calls_genR fun W0 hW0 => ?_
  have hs0 : Hid (W0.heap.size = w.heap.size + 2) := by unfold Hid; rw [hW0]; simp
  have hB0 : Below w.heap.size w W0 := by rw [hW0]; exact ((Below.refl _ w).alloc (Nat.le_refl _) _).alloc (by simp) _
  have hn : W0.heap[w.heap.size]? = some (.cells #[.pointer none] 41 (0, 0)) := by rw [hW0, heap_alloc_old _ _ (by simp)]; exact heap_alloc_new w _
  have hm : W0.heap[w.heap.size + 1]? = some (.cells #[.int .i64 0] 43 (0, 0)) := by rw [hW0]; exact heap_alloc2_new w _ _
  clear hW0
  refine (open_any z W0).mono ?_
  rintro e W1 ⟨rfl, hW1⟩
  have hI1 : InAt W0.heap.size z W1 := by rw [hW1]; exact heap_alloc_new W0 _
  have hB1 : Below W0.heap.size W0 W1 := by rw [hW1]; exact (Below.refl _ W0).alloc (Nat.le_refl _) _
  clear hW1
  go_wp2_with (fail)
  go_at_call 13
  refine (new_some W1).mono ?_
  rintro e W2 ⟨v, rfl, hB2⟩
  go_wp2_with (fail)
  go_at_call 36
  refine (text_zero z hz h0 W0.heap.size W2 (hI1.below hB2)).mono ?_
  rintro e W3 ⟨rfl, ⟨s, hI3⟩, hB3⟩
  go_wp2_with (fail)
  go_at_call 35
  refine (roll_none W3).mono ?_
  rintro e W4 ⟨rfl, hB4⟩
  go_wp2_with (fail)
  go_at_call 38
  refine calls_genR fun W5 hW5 => ?_
  have hB5 : Below W4.heap.size W4 W5 := by rw [hW5]; exact (Below.refl _ W4).alloc (Nat.le_refl _) _
  clear hW5
  have hI5 := (hI3.below hB4).below hB5
  have h01 := hB1.size
  have h12 := hB2.size
  have h23 := hB3.size
  have h34 := hB4.size
  have hB05 : Hid (Below W0.heap.size W0 W5) := hB1.trans ((hB2.mono h01).trans (hB3.trans ((hB4.mono (by omega)).trans (hB5.mono (by omega)))))
  have hsz0 := hs0.out
  have hn5 : Hid (W5.heap[w.heap.size]? = some (.cells #[.pointer none] 41 (0, 0))) := (hB05.out.block _ (by omega)).trans hn
  have hm5 : Hid (W5.heap[w.heap.size + 1]? = some (.cells #[.int .i64 0] 43 (0, 0))) := (hB05.out.block _ (by omega)).trans hm
  have hBw : Hid (Below w.heap.size w W5) := hB0.trans (hB05.out.mono (by omega))
  clear hn hm hB1 hB2 hB3 hB4 hB5 hI1 hI3 h01 h12 h23 h34 hsz0 hB0
  refine (err_any W0.heap.size s W5 hI5).mono ?_
  rintro e W6 ⟨rfl, hW6⟩
  subst hW6
  go_wp2_with (fail)
  go_at_call 37
  refine (need_panics _).mono ?_
  rintro e W7 ⟨rfl, hW7⟩
  subst hW7
  refine leaves_cons (f := 34) (args := #[.pointer (some ⟨w.heap.size, 0, none⟩), .pointer (some ⟨w.heap.size + 1, 0, none⟩)]) (by simp) (by simp [go_sem]) ?_
  refine (catch_bad w.heap.size (w.heap.size + 1) _ _ [] _ hn5.out hm5.out (by omega)).mono ?_
  rintro e u' w'' ⟨rfl, rfl, h1, h2, hB⟩
  have hres : ∀ tmps : Array Value, tmps[2]?.getD undef = .pointer (some ⟨w.heap.size, 0, none⟩) → tmps[3]?.getD undef = .pointer (some ⟨w.heap.size + 1, 0, none⟩) → (results Tryz.f16 tmps).run Tryz.prog w'' = .ok (.tuple #[.pointer none, .int .i64 2]) w'' := by
    intro tmps t2 t3
    have c1 : w''.cell? ⟨w.heap.size, 0, none⟩ = some (.pointer none) := by rw [cell_of_row _ _ _ _ _ _ h1]; rfl
    have c2 : w''.cell? ⟨w.heap.size + 1, 0, none⟩ = some (.int .i64 2) := by rw [cell_of_row _ _ _ _ _ _ h2]; rfl
    have hR : Tryz.f16.results = #[.cell 2 41, .cell 3 43] := rfl
    simp [results, hR, asAddr, t2, t3]
    go_simp
  refine ⟨.tuple #[.pointer none, .int .i64 2], hres _ rfl rfl, rfl, ?_⟩
  exact hBw.out.trans (hB.mono (by omega))
#print axioms restore_zero
end Go.Proofs.YtekmkmidjoenoaaGreatDoor
