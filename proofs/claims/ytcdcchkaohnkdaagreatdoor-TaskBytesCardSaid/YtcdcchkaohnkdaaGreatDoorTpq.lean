/- The bytes that the program writes of a task. -/
import Derived.Test.YtcdcchkaohnkdaaGreatDoorTpt
import Derived.Test.YtcdcchkaohnkdaaGreatDoorTcc
namespace Go.Proofs.YtcdcchkaohnkdaaGreatDoor
open Go.RowKit

set_option maxRecDepth 100000 in
set_option maxHeartbeats 6400000 in
theorem tput_any (t : Tk) (v : Value) (w : World) (hv : TkV w v t) (hs : t.small) : Calls Tryz.prog 6 #[v] w fun e w' => e = .returned (.string (bs (putT t))) ∧ Below w.heap.size w w' := by
  obtain ⟨name, yes, no, clear, wt⟩ := t
  obtain ⟨⟨vy, vn, rfl, ⟨ay, cy, rfl, hy⟩, ⟨an, cn, rfl, hn⟩⟩, hw⟩ := hv
  obtain ⟨s1, ⟨s2, s3⟩, ⟨s4, s5⟩, _⟩ := hs
  simp only at hw s1 s2 s3 s4 s5 hy hn
  have lA : (textP name).length ≤ 78 := textP_le name s1
  have lB : (listP yes).length ≤ 390000 := listP_le yes s2 s3
  have lC : (listP no).length ≤ 390000 := listP_le no s4 s5
  have lE : (textP (beL 8 (canN wt))).length ≤ 78 := textP_le _ (by rw [beL_length]; omega)
  have hRes : Hid (putT ⟨name, yes, no, clear, wt⟩ = [] ++ textP name ++ listP yes ++ listP no ++ [if clear = true then 1 else 0] ++ textP (beL 8 (canN wt))) := by unfold Hid putT; simp
  have hmk : Hid (∀ w, Calls Tryz.prog 20 #[.float .f64 wt] w fun e w' => e = .returned (.string (bs (beL 8 (canN wt)))) ∧ Below w.heap.size w w') := fun w => mput_any wt hw w
  have k1 : Hid (∀ W l w1, OutAt W W l w1 → l.length ≤ 900000 → Calls Tryz.prog 17 #[.pointer (some ⟨W, 0, none⟩), .string (bs name)] w1 fun e w' => e = .returned (.tuple #[]) ∧ OutAt W W (l ++ textP name) w' ∧ Below W w1 w') := fun W l w1 h hl => otext_any W W l name s1 w1 h hl
  have k2 : Hid (∀ W l w1, w.heap.size ≤ W → Below w.heap.size w w1 → OutAt W W l w1 → l.length ≤ 400000 → Calls Tryz.prog 18 #[.pointer (some ⟨W, 0, none⟩), .slice ay yes.length cy] w1 fun e w' => e = .returned (.tuple #[]) ∧ OutAt W W (l ++ listP yes) w' ∧ Below W w1 w') :=
    fun W l w1 hW hb h hl => owords_any W W l yes ay cy s2 s3 w1 h ((hy.below hb).mono hW) hl
  have k3 : Hid (∀ W l w1, w.heap.size ≤ W → Below w.heap.size w w1 → OutAt W W l w1 → l.length ≤ 400000 → Calls Tryz.prog 18 #[.pointer (some ⟨W, 0, none⟩), .slice an no.length cn] w1 fun e w' => e = .returned (.tuple #[]) ∧ OutAt W W (l ++ listP no) w' ∧ Below W w1 w') :=
    fun W l w1 hW hb h hl => owords_any W W l no an cn s4 s5 w1 h ((hn.below hb).mono hW) hl
  have k4 : Hid (∀ W l w1, OutAt W W l w1 → l.length ≤ 900000 → Calls Tryz.prog 17 #[.pointer (some ⟨W, 0, none⟩), .string (bs (beL 8 (canN wt)))] w1 fun e w' => e = .returned (.tuple #[]) ∧ OutAt W W (l ++ textP (beL 8 (canN wt))) w' ∧ Below W w1 w') := fun W l w1 h hl => otext_any W W l _ (by rw [beL_length]; omega) w1 h hl
  clear s1 s2 s3 s4 s5 hy hn hw
  generalize textP (beL 8 (canN wt)) = E at *
  generalize beL 8 (canN wt) = mk at *
  generalize textP name = A at *
  generalize listP yes = B at *
  generalize listP no = C at *
  generalize yes.length = ny at *
  generalize no.length = nn at *
  have hb1 : ((w.alloc (.cells #[.string (bs name), .slice ay ny cy, .slice an nn cn, .bool clear, .float .f64 wt] 29)).alloc (.cells #[.slice none 0 0, .bool false] 68)).heap[w.heap.size]? = some (.cells #[.string (bs name), .slice ay ny cy, .slice an nn cn, .bool clear, .float .f64 wt] 29) := by rw [heap_alloc_old _ _ (by simp), heap_alloc_new]
  have hb2 : ((w.alloc (.cells #[.string (bs name), .slice ay ny cy, .slice an nn cn, .bool clear, .float .f64 wt] 29)).alloc (.cells #[.slice none 0 0, .bool false] 68)).heap[w.heap.size + 1]? = some (.cells #[.slice none 0 0, .bool false] 68) := by have := heap_alloc_new (w.alloc (.cells #[.string (bs name), .slice ay ny cy, .slice an nn cn, .bool clear, .float .f64 wt] 29)) (.cells #[.slice none 0 0, .bool false] 68); simpa using this
  have hO0 : Hid (OutAt (w.heap.size + 1) (w.heap.size + 1) [] ((w.alloc (.cells #[.string (bs name), .slice ay ny cy, .slice an nn cn, .bool clear, .float .f64 wt] 29)).alloc (.cells #[.slice none 0 0, .bool false] 68))) := ⟨Nat.le_refl _, .slice none 0 0, hb2, World.ownsRow_nil _ _ _ _⟩
  have hbw0 : Hid (Below w.heap.size w ((w.alloc (.cells #[.string (bs name), .slice ay ny cy, .slice an nn cn, .bool clear, .float .f64 wt] 29)).alloc (.cells #[.slice none 0 0, .bool false] 68))) := ((Below.refl _ w).alloc (Nat.le_refl _) _).alloc (by simp) _
  have hcs : Hid (((w.alloc (.cells #[.string (bs name), .slice ay ny cy, .slice an nn cn, .bool clear, .float .f64 wt] 29)).alloc (.cells #[.slice none 0 0, .bool false] 68)).cell? ⟨w.heap.size, 1, none⟩ = some (.slice ay ny cy) ∧ ((w.alloc (.cells #[.string (bs name), .slice ay ny cy, .slice an nn cn, .bool clear, .float .f64 wt] 29)).alloc (.cells #[.slice none 0 0, .bool false] 68)).cell? ⟨w.heap.size, 2, none⟩ = some (.slice an nn cn) ∧ ((w.alloc (.cells #[.string (bs name), .slice ay ny cy, .slice an nn cn, .bool clear, .float .f64 wt] 29)).alloc (.cells #[.slice none 0 0, .bool false] 68)).cell? ⟨w.heap.size, 3, none⟩ = some (.bool clear) ∧ ((w.alloc (.cells #[.string (bs name), .slice ay ny cy, .slice an nn cn, .bool clear, .float .f64 wt] 29)).alloc (.cells #[.slice none 0 0, .bool false] 68)).cell? ⟨w.heap.size, 4, none⟩ = some (.float .f64 wt)) := ⟨by rw [cell_of_row _ _ _ _ _ _ hb1]; rfl, by rw [cell_of_row _ _ _ _ _ _ hb1]; rfl, by rw [cell_of_row _ _ _ _ _ _ hb1]; rfl, by rw [cell_of_row _ _ _ _ _ _ hb1]; rfl⟩
  clear hb1 hb2
  have hle : ∀ {l : Str}, (l ++ A).length = l.length + A.length ∧ (l ++ B).length = l.length + B.length ∧ (l ++ C).length = l.length + C.length := fun {l} => ⟨List.length_append, List.length_append, List.length_append⟩
  have l1 : Hid (([] ++ A : Str).length ≤ 78) := by unfold Hid; simp; omega
  have l2 : Hid (([] ++ A ++ B : Str).length ≤ 390078) := by unfold Hid; simp only [List.length_append, List.length_nil]; omega
  have l3 : Hid (([] ++ A ++ B ++ C : Str).length ≤ 780078) := by unfold Hid; simp only [List.length_append, List.length_nil]; omega
  have l4 : Hid (([] ++ A ++ B ++ C ++ [if clear = true then 1 else 0] : Str).length ≤ 780079) := by unfold Hid; simp only [List.length_append, List.length_nil, List.length_cons]; omega
  clear hle
  go_enter Tryz.func6, Tryz.ntmps6
  go_wp2_with (fail)
  go_at_call 17
  refine (k1.out _ [] _ hO0.out (by simp)).mono ?_
  rintro e w1 ⟨rfl, hO1, hB1⟩
  have hO1H : Hid (OutAt (w.heap.size + 1) (w.heap.size + 1) ([] ++ A) w1) := hO1
  have hbw1 : Hid (Below w.heap.size w w1) := hbw0.out.trans (hB1.mono (by omega))
  have c1 := (hB1.cell (p := ⟨w.heap.size, 1, none⟩) (by show w.heap.size < w.heap.size + 1; omega)).trans hcs.out.1
  have c2 : Hid (w1.cell? ⟨w.heap.size, 2, none⟩ = some (.slice an nn cn) ∧ w1.cell? ⟨w.heap.size, 3, none⟩ = some (.bool clear) ∧ w1.cell? ⟨w.heap.size, 4, none⟩ = some (.float .f64 wt)) :=
    ⟨(hB1.cell (p := ⟨w.heap.size, 2, none⟩) (by show w.heap.size < w.heap.size + 1; omega)).trans hcs.out.2.1, (hB1.cell (p := ⟨w.heap.size, 3, none⟩) (by show w.heap.size < w.heap.size + 1; omega)).trans hcs.out.2.2.1, (hB1.cell (p := ⟨w.heap.size, 4, none⟩) (by show w.heap.size < w.heap.size + 1; omega)).trans hcs.out.2.2.2⟩
  clear hO1 hB1 hcs hO0 hbw0
  go_wp2_with (fail)
  go_at_call 18
  refine (k2.out _ _ w1 (by omega) hbw1.out hO1H.out (Nat.le_trans l1.out (by omega))).mono ?_
  rintro e w2 ⟨rfl, hO2, hB2⟩
  have hO2H : Hid (OutAt (w.heap.size + 1) (w.heap.size + 1) ([] ++ A ++ B) w2) := hO2
  have hbw2 : Hid (Below w.heap.size w w2) := hbw1.out.trans (hB2.mono (by omega))
  have d2 := (hB2.cell (p := ⟨w.heap.size, 2, none⟩) (by show w.heap.size < w.heap.size + 1; omega)).trans c2.out.1
  have c3 : Hid (w2.cell? ⟨w.heap.size, 3, none⟩ = some (.bool clear) ∧ w2.cell? ⟨w.heap.size, 4, none⟩ = some (.float .f64 wt)) :=
    ⟨(hB2.cell (p := ⟨w.heap.size, 3, none⟩) (by show w.heap.size < w.heap.size + 1; omega)).trans c2.out.2.1, (hB2.cell (p := ⟨w.heap.size, 4, none⟩) (by show w.heap.size < w.heap.size + 1; omega)).trans c2.out.2.2⟩
  clear hO2 hB2 c1 c2 hO1H hbw1
  go_wp2_with (fail)
  go_at_call 18
  refine (k3.out _ _ w2 (by omega) hbw2.out hO2H.out (Nat.le_trans l2.out (by omega))).mono ?_
  rintro e w3 ⟨rfl, hO3, hB3⟩
  have hO3H : Hid (OutAt (w.heap.size + 1) (w.heap.size + 1) ([] ++ A ++ B ++ C) w3) := hO3
  have hbw3 : Hid (Below w.heap.size w w3) := hbw2.out.trans (hB3.mono (by omega))
  have d3 := (hB3.cell (p := ⟨w.heap.size, 3, none⟩) (by show w.heap.size < w.heap.size + 1; omega)).trans c3.out.1
  have c4 : Hid (w3.cell? ⟨w.heap.size, 4, none⟩ = some (.float .f64 wt)) := (hB3.cell (p := ⟨w.heap.size, 4, none⟩) (by show w.heap.size < w.heap.size + 1; omega)).trans c3.out.2
  clear hO3 hB3 d2 c3 hO2H hbw2
  go_wp2_with (fail)
  go_at_call 19
  refine (obool_any _ _ _ clear w3 hO3H.out (Nat.le_trans l3.out (by omega))).mono ?_
  rintro e w4 ⟨rfl, hO4, hB4⟩
  have hO4H : Hid (OutAt (w.heap.size + 1) (w.heap.size + 1) ([] ++ A ++ B ++ C ++ [if clear = true then 1 else 0]) w4) := hO4
  have hbw4 : Hid (Below w.heap.size w w4) := hbw3.out.trans (hB4.mono (by omega))
  have d4 := (hB4.cell (p := ⟨w.heap.size, 4, none⟩) (by show w.heap.size < w.heap.size + 1; omega)).trans c4.out
  clear hO4 hB4 d3 c4 hO3H hbw3
  go_wp2_with (fail)
  go_at_call 20
  refine (hmk.out _).mono ?_
  rintro e w5 ⟨rfl, hB5⟩
  have hO5H : Hid (OutAt (w.heap.size + 1) (w.heap.size + 1) ([] ++ A ++ B ++ C ++ [if clear = true then 1 else 0]) w5) := hO4H.out.below hB5
  have hbw5 : Hid (Below w.heap.size w w5) := hbw4.out.trans (hB5.mono hbw4.out.size)
  clear hB5 d4 hO4H hbw4
  go_wp2_with (fail)
  go_at_call 17
  refine (k4.out _ _ _ hO5H.out (Nat.le_trans l4.out (by omega))).mono ?_
  rintro e w6 ⟨rfl, hO6, hB6⟩
  rw [← hRes.out] at hO6
  have hO6H : Hid (OutAt (w.heap.size + 1) (w.heap.size + 1) (putT ⟨name, yes, no, clear, wt⟩) w6) := hO6
  have hbw6 : Hid (Below w.heap.size w w6) := hbw5.out.trans (hB6.mono (by omega))
  clear hB6 hO6 hO5H hbw5 hRes
  go_wp2_with (fail)
  go_at_call 21
  refine (obytes_any _ _ _ w6 hO6H.out).mono ?_
  rintro e w7 ⟨rfl, rfl⟩
  go_wp2_with (fail)
  go_ret
  exact ⟨rfl, hbw6.out⟩
end Go.Proofs.YtcdcchkaohnkdaaGreatDoor
