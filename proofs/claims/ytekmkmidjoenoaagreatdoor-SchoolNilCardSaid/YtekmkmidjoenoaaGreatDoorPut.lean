/- Writing bytes: what lies in the writer behind each of its functions. -/
import Derived.Test.YtekmkmidjoenoaaGreatDoorEvD
import Derived.Test.YtekmkmidjoenoaaGreatDoorExt
import Derived.Lib.AppendStr
import Derived.Laws.Rows
import Derived.Laws.BytesArg
import Derived.Laws.AppendOwn
import Derived.WalkKit
import Derived.LoopTactic
import Derived.Lib.Walk
namespace Go.Proofs.YtekmkmidjoenoaaGreatDoor
open Go.RowKit Go.Ev

theorem outInfo : (Tryz.prog.info? 5).map (fun i => (i.zero, i.size, i.bytes)) = some (some (.int .u8 0), 1, 1) := by kernel_rfl

theorem out_slice {w : World} {base : Nat} {e : TypeId} {size n : Nat} {v : Value} {xs : List Value} (h : w.ownsRow base e size v n xs) : ∃ a c, v = .slice a n c := by
  rcases h.2 with ⟨rfl, rfl⟩ | ⟨g, cap, cur, rfl, _⟩
  · exact ⟨_, _, rfl⟩
  · exact ⟨_, _, rfl⟩

theorem out_same {w w' : World} {base : Nat} {e : TypeId} {size n : Nat} {v : Value} {xs : List Value} (h : w.ownsRow base e size v n xs) (hk : ∀ g, v.ownBlock = some g → w'.heap[g]? = w.heap[g]?) : w'.ownsRow base e size v n xs := by
  obtain ⟨h1, h2⟩ := h
  refine ⟨h1, ?_⟩
  rcases h2 with h2 | ⟨g, cap, cur, rfl, hg', hh, k⟩
  · exact .inl h2
  · exact .inr ⟨g, cap, cur, rfl, hg', (hk g rfl).trans hh, k⟩

/-- What is written so far: L bytes. -/
def OutAt (N B L : Nat) (w : World) : Prop :=
  N ≤ B ∧ ∃ (v : Value) (l : List UInt8), w.heap[B]? = some (.cells #[v, .bool false] 84 (0, 0)) ∧ w.ownsRow N 5 1 v L (l.map fun b => Value.int .u8 b.toNat)

theorem OutAt.below {N B L : Nat} {w w' : World} (h : OutAt N B L w) (hb : Below w.heap.size w w') : OutAt N B L w' := by
  obtain ⟨h1, v, l, h2, h3⟩ := h
  exact ⟨h1, v, l, (hb.block B (Array.getElem?_eq_some_iff.1 h2).1).trans h2, out_same h3 fun g hg => hb.block g (h3.lt g hg).2⟩

theorem out_sep {w : World} {B N n t e : Nat} {v : Value} {xs : List Value} {cs : Array Value} (h : w.ownsRow N e 1 v n xs) (hB : w.heap[B]? = some (.cells cs t (0, 0))) (hne : e ≠ t) : ∀ g, v.ownBlock = some g → B ≠ g := by
  intro g hg he
  subst he
  rcases h.2 with ⟨rfl, _⟩ | ⟨g1, _, _, rfl, _, hh, _⟩
  · cases hg
  · cases hg
    rw [hB] at hh
    cases hh
    exact hne rfl

set_option maxRecDepth 100000 in
set_option maxHeartbeats 1600000 in
theorem put_any (N B L : Nat) (s : ByteArray) (w : World) (hO : OutAt N B L w) (hL : L + s.size ≤ 100000) :
    Calls Tryz.prog 73 #[.pointer (some ⟨B, 0, none⟩), .string s, .bool true] w fun e w' => e = .returned (.tuple #[]) ∧ OutAt N B (L + s.size) w' ∧ Below N w w' := by
  obtain ⟨hNB, v, l, hB, hown⟩ := hO
  obtain ⟨i0, hi, hz0, hz1, hz2⟩ := info_parts outInfo
  obtain ⟨av, cv, rfl⟩ := out_slice hown
  have hsep := out_sep hown hB (by decide)
  have hNw : N ≤ w.heap.size := by have := (Array.getElem?_eq_some_iff.1 hB).1; omega
  have c0 : w.cell? ⟨B, 0, none⟩ = some (.slice av L cv) := by rw [cell_of_row _ _ _ _ _ _ hB]; rfl
  have c1 : w.cell? ⟨B, 1, none⟩ = some (.bool false) := by rw [cell_of_row _ _ _ _ _ _ hB]; rfl
  go_enter Tryz.func73, Tryz.ntmps73
  go_wp2_with (first
    | (at_builtin; refine Lib.wpList_append_own_string _ rfl _ _ 52 9 rfl N 5 i0 Tryz.underlying52 Tryz.underlying9 hi hz0 hz1 hz2 _ _ _ rfl hown s rfl ?c3 ?c4 ?c5 ?_)
    | go_in)
  case c3 => unfold maxLen; omega
  case c4 => omega
  case c5 => exact hNw
  intro v' w1 hown' hgrow _
  have hB1 : w1.heap[B]? = some (.cells #[.slice av L cv, .bool false] 84 (0, 0)) := (hgrow.block B (Array.getElem?_eq_some_iff.1 hB).1 (fun e => hsep B e.symm rfl)).trans hB
  obtain ⟨av', cv', rfl⟩ := out_slice hown'
  have d0 : w1.cell? ⟨B, 0, none⟩ = some (.slice av L cv) := by rw [cell_of_row _ _ _ _ _ _ hB1]; rfl
  have d1 : w1.cell? ⟨B, 1, none⟩ = some (.bool false) := by rw [cell_of_row _ _ _ _ _ _ hB1]; rfl
  have f0 := frozen_of_row w1 B 0 _ _ hB1
  have f1 := frozen_of_row w1 B 1 _ _ hB1
  have hB2 : Below N w w1 := (Below.refl N w).grown hgrow hNw (fun j hj => (hown.lt j hj).1)
  have hsep' := out_sep hown' hB1 (by decide)
  clear hgrow hown hB hsep c0 c1
  go_wp2
  go_end0
  refine ⟨rfl, ⟨hNB, .slice av' (L + s.size) cv', l ++ s.data.toList, ?_, ?_⟩, (hB2.setCell hNB _).setCell hNB _⟩
  · rw [heap_setCell_same _ B 1 _ _ _ (heap_setCell_same w1 B 0 _ _ _ hB1)]
    rfl
  · have e : (l ++ s.data.toList).map (fun b => Value.int .u8 b.toNat) = l.map (fun b => Value.int .u8 b.toNat) ++ Lib.strCells s := by rw [List.map_append]; rfl
    rw [e]
    refine out_same hown' fun g hg => ?_
    have hne := hsep' g hg
    rw [Below.heap_setCell _ _ _ _ (fun h => hne h.symm), Below.heap_setCell _ _ _ _ (fun h => hne h.symm)]

set_option maxRecDepth 100000 in
set_option maxHeartbeats 1600000 in
theorem int_any (N B L : Nat) (n : Int) (s : ByteArray) (hp : ∀ w, Calls Tryz.prog 72 #[.int .i64 n] w fun e w' => e = .returned (.string s) ∧ Below w.heap.size w w') (hs : 0 < s.size) (w : World) (hO : OutAt N B L w) (hL : L + s.size ≤ 100000) :
    Calls Tryz.prog 29 #[.pointer (some ⟨B, 0, none⟩), .int .i64 n] w fun e w' => e = .returned (.tuple #[]) ∧ OutAt N B (L + s.size) w' ∧ Below N w w' := by
  have hpH : Hid (∀ w, Calls Tryz.prog 72 #[.int .i64 n] w fun e w' => e = .returned (.string s) ∧ Below w.heap.size w w') := hp
  have hOH : Hid (OutAt N B L w) := hO
  have hNw : N ≤ w.heap.size := by
    obtain ⟨h1, _, _, h2, _⟩ := hO
    have := (Array.getElem?_eq_some_iff.1 h2).1; omega
  have hne : s.toList.isEmpty = false := by
    rw [ByteArray.toList_eq]
    cases h : s.data.toList with
    | nil =>
      have : s.data.toList.length = 0 := by rw [h]; rfl
      rw [Array.length_toList] at this
      have h2 : s.size = s.data.size := rfl
      omega
    | cons => rfl
  clear hp hO hs
  go_enter Tryz.func29, Tryz.ntmps29
  go_wp2_with (fail)
  go_at_call 72
  refine (hpH.out _).mono ?_
  rintro e w1 ⟨rfl, hB1⟩
  go_wp2_with (fail)
  go_at_call 73
  refine (put_any N B L s w1 (hOH.out.below hB1) hL).mono ?_
  rintro e w2 ⟨rfl, h2, hB2⟩
  go_wp2_with (fail)
  go_end0
  exact ⟨rfl, h2, (hB1.mono hNw).trans hB2⟩

set_option maxRecDepth 100000 in
set_option maxHeartbeats 1600000 in
theorem text_any (N B L : Nat) (t s : ByteArray) (ht : t.size ≤ 65536) (hp : ∀ w, Calls Tryz.prog 72 #[.int .i64 (t.size : Nat)] w fun e w' => e = .returned (.string s) ∧ Below w.heap.size w w') (w : World) (hO : OutAt N B L w) (hL : L + s.size + t.size ≤ 100000) :
    Calls Tryz.prog 30 #[.pointer (some ⟨B, 0, none⟩), .string t] w fun e w' => e = .returned (.tuple #[]) ∧ OutAt N B (L + s.size + t.size) w' ∧ Below N w w' := by
  have hpH : Hid (∀ w, Calls Tryz.prog 72 #[.int .i64 (t.size : Nat)] w fun e w' => e = .returned (.string s) ∧ Below w.heap.size w w') := hp
  have hOH : Hid (OutAt N B L w) := hO
  have hNw : N ≤ w.heap.size := by
    obtain ⟨h1, _, _, h2, _⟩ := hO
    have := (Array.getElem?_eq_some_iff.1 h2).1; omega
  have hlen : ¬ (65536 < (t.size : Int)) := by omega
  clear hp hO
  go_enter Tryz.func30, Tryz.ntmps30
  go_wp2_with (fail)
  go_at_call 72
  refine (hpH.out _).mono ?_
  rintro e w1 ⟨rfl, hB1⟩
  go_wp2_with (fail)
  go_at_call 73
  refine (put_any N B L s w1 (hOH.out.below hB1) (by omega)).mono ?_
  rintro e w2 ⟨rfl, h2, hB2⟩
  go_wp2_with (fail)
  go_at_call 73
  refine (put_any N B (L + s.size) t w2 h2 hL).mono ?_
  rintro e w3 ⟨rfl, h3, hB3⟩
  go_wp2_with (fail)
  go_end0
  exact ⟨rfl, h3, ((hB1.mono hNw).trans hB2).trans hB3⟩

set_option maxRecDepth 100000 in
set_option maxHeartbeats 1600000 in
theorem texts_none (N B L : Nat) (s : ByteArray) (hp : ∀ w, Calls Tryz.prog 72 #[.int .i64 0] w fun e w' => e = .returned (.string s) ∧ Below w.heap.size w w') (w : World) (hO : OutAt N B L w) (hL : L + s.size ≤ 100000) :
    Calls Tryz.prog 31 #[.pointer (some ⟨B, 0, none⟩), .slice none 0 0] w fun e w' => e = .returned (.tuple #[]) ∧ OutAt N B (L + s.size) w' ∧ Below N w w' := by
  have hpH : Hid (∀ w, Calls Tryz.prog 72 #[.int .i64 0] w fun e w' => e = .returned (.string s) ∧ Below w.heap.size w w') := hp
  have hNw : N ≤ w.heap.size := by
    obtain ⟨h1, _, _, h2, _⟩ := hO
    have := (Array.getElem?_eq_some_iff.1 h2).1; omega
  have hcount : Hid (Calls Tryz.prog 74 #[.pointer (some ⟨B, 0, none⟩), .int .i64 0] w fun e w' => e = .returned (.tuple #[]) ∧ OutAt N B (L + s.size) w' ∧ Below N w w') := by
    have hOH : Hid (OutAt N B L w) := hO
    clear hp hO
    go_enter Tryz.func74, Tryz.ntmps74
    go_wp2_with (fail)
    go_at_call 72
    refine (hpH.out _).mono ?_
    rintro e w1 ⟨rfl, hB1⟩
    go_wp2_with (fail)
    go_at_call 73
    refine (put_any N B L s w1 (hOH.out.below hB1) hL).mono ?_
    rintro e w2 ⟨rfl, h2, hB2⟩
    go_wp2_with (fail)
    go_end0
    exact ⟨rfl, h2, (hB1.mono hNw).trans hB2⟩
  clear hp hO
  go_enter Tryz.func31, Tryz.ntmps31
  go_wp2_with (fail)
  go_at_call 74
  refine hcount.out.mono ?_
  rintro e w1 ⟨rfl, h1, hB1⟩
  go_wp2_with (fail)
  refine wp_loop_rounds 1 ?_
  rw [rounds_succ]
  go_wp2
  go_end0
  exact ⟨rfl, h1, hB1⟩

set_option maxRecDepth 100000 in
set_option maxHeartbeats 1600000 in
theorem bytes_any (N B L : Nat) (w : World) (hO : OutAt N B L w) : Calls Tryz.prog 32 #[.pointer (some ⟨B, 0, none⟩)] w fun e w' => ∃ s : ByteArray, e = .returned (.tuple #[.string s, .bool true]) ∧ s.size = L ∧ w' = w := by
  obtain ⟨hNB, v, l, hB, hown⟩ := hO
  obtain ⟨av, cv, rfl⟩ := out_slice hown
  have c0 : w.cell? ⟨B, 0, none⟩ = some (.slice av L cv) := by rw [cell_of_row _ _ _ _ _ _ hB]; rfl
  have c1 : w.cell? ⟨B, 1, none⟩ = some (.bool false) := by rw [cell_of_row _ _ _ _ _ _ hB]; rfl
  have hconv : Hid (∃ s : ByteArray, (convert 52 9 (.slice av L cv)).run Tryz.prog w = .ok (.string s) w ∧ s.size = L) := by
    have hll : l.length = L := by have := hown.1; simpa using this
    rcases hown.2 with ⟨he, h0⟩ | ⟨g, cap, cur, he, _, hg, hn, hm, hs, ht⟩
    · cases he
      refine ⟨ByteArray.empty, ?_, by rw [h0]; rfl⟩
      simp only [convert, Sem.run_bind, run_underlying Tryz.underlying52, run_underlying Tryz.underlying9, run_underlying Tryz.underlying5, Result.andThen_ok]
      rfl
    · cases he
      have := run_convert_bytes_arg (P := Tryz.prog) w 52 5 Tryz.underlying52 Tryz.underlying5 g 0 L cv (l.map fun b => (b.toNat : Int)) (by simp [hll]) (fun i hi => by
        have hc := hown.cells (g := g) rfl i (.int .u8 (l.getD i 0).toNat) (by rw [List.getElem?_map, List.getD, List.getElem?_eq_getElem (by omega)]; rfl)
        rw [Addr.add_lit] at hc
        rw [hc, List.getD, List.getD, List.getElem?_map, List.getElem?_eq_getElem (by omega)]
        rfl) 9 Tryz.underlying9
      refine ⟨_, this, ?_⟩
      rw [strOfNums_size, List.length_map, hll]
  obtain ⟨s, hrun, hsz⟩ := hconv.out
  clear hown hB
  go_enter Tryz.func32, Tryz.ntmps32
  go_wp2
  go_ret2
  exact ⟨s, rfl, hsz, rfl⟩
end Go.Proofs.YtekmkmidjoenoaaGreatDoor
