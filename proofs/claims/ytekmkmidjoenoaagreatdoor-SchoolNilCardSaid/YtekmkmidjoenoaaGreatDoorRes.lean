/- What school.Restore calls, at zero bytes; its deferred function behind a panic. -/
import Derived.Test.YtekmkmidjoenoaaGreatDoorExt
import Derived.Test.YtekmkmidjoenoaaGreatDoorEvD
import Derived.Tactics
import Derived.Tactics2
import Derived.Defers
import Derived.Recover
import Derived.Laws.Pointers
import Derived.Laws.Rows
import Derived.WalkKit
import Derived.WalkLawsBesides
import Derived.LoopTactic
import Derived.Lib.Walk
import Derived.Lib.SliceRun
import Derived.RegionTactic
namespace Go.Proofs.YtekmkmidjoenoaaGreatDoor
open Go.RowKit Go.Ev

def rglob : Glob := fun _ _ => none

noncomputable def newB : Bool :=
  match evalCall Tryz.prog 100 rglob ext 10000 40 (.fn 13) [] ⟨.nil, .nil, 100⟩ with
  | some _ => true
  | none => false
set_option maxRecDepth 100000 in
theorem newB_true : newB = true := by kernel_rfl

theorem new_some (w : World) : Calls Tryz.prog 13 #[] w fun e w' => ∃ v, e = .returned v ∧ Below w.heap.size w w' := by
  have h := newB_true
  unfold newB at h
  split at h
  case h_2 => cases h
  rename_i r hr
  obtain ⟨v, st'⟩ := r
  refine Calls.mono ((evalCall_sound (N0 := w.heap.size) (g := rglob) mixed ext_ok 10000 40).fn _ _ _ _ _ hr _ w #[] (R.start (fun b o u h => by cases h)) ⟨rfl, fun i a b h1 => by simp at h1⟩) fun e w' hp => ?_
  obtain ⟨v', φ', rfl, hR', hT, _⟩ := hp
  exact ⟨v', rfl, hT.below⟩

noncomputable def rollB : Bool :=
  match evalCall Tryz.prog 100 rglob ext 10000 40 (.fn 35) [.string ⟨#[]⟩] ⟨.nil, .nil, 100⟩ with
  | some (v, _) => sameT v (.tuple #[.agg #[.slice none 0 0, .slice none 0 0], .int .i64 3])
  | none => false
set_option maxRecDepth 100000 in
theorem rollB_true : rollB = true := by kernel_rfl

theorem roll_none (w : World) : Calls Tryz.prog 35 #[.string ⟨#[]⟩] w fun e w' => e = .returned (.tuple #[.agg #[.slice none 0 0, .slice none 0 0], .int .i64 3]) ∧ Below w.heap.size w w' := by
  have h := rollB_true
  unfold rollB at h
  split at h
  case h_2 => cases h
  rename_i v st' hr
  rw [sameT_spec h] at hr
  exact run_closed mixed ext_ok hr rfl rfl (fun b o u h => by cases h)

set_option maxRecDepth 100000 in
theorem open_any (z : ByteArray) (w : World) : Calls Tryz.prog 33 #[.string z] w fun e w' => e = .returned (.pointer (some ⟨w.heap.size, 0, none⟩)) ∧ w' = w.alloc (.cells #[.string z, .int .i64 0] 151) := by
  go_enter Tryz.func33, Tryz.ntmps33
  go_wp2
  go_ret
  exact ⟨rfl, rfl⟩

theorem long_ne (z : ByteArray) (hz : z.size = 40000) : z.toList.isEmpty = false := by
  rw [ByteArray.toList_eq]
  cases h : z.data.toList with
  | nil =>
    have : z.data.toList.length = 0 := by rw [h]; rfl
    rw [Array.length_toList] at this
    have h2 : z.size = z.data.size := rfl
    omega
  | cons => rfl

set_option maxRecDepth 100000 in
set_option maxHeartbeats 3200000 in
theorem get_zero (z : ByteArray) (hz : z.size = 40000) (h0 : z[0]? = some 0) (w : World) : Calls Tryz.prog 107 #[.string z] w fun e w' => e = .returned (.tuple #[.int .i64 0, .int .i64 1, .int .i64 0]) ∧ Below w.heap.size w w' := by
  have hne := long_ne z hz
  have hz0 : ∀ h : 0 < z.size, z[0]'h = 0 := fun h => by
    rw [getElem?_pos z 0 h] at h0
    exact Option.some.inj h0
  have hb1 : bits .andNot .u8 0 128 = 0 := by decide
  have hb2 : bits .and .u8 0 128 = 0 := by decide
  go_enter Tryz.func107, Tryz.ntmps107
  go_wp2
  go_region
  go_wp2
  refine wp_loop_rounds 1 ?_
  rw [rounds_succ]
  go_wp2
  all_goals (try go_region)
  all_goals (try go_wp2)
  go_ret3
  exact ⟨rfl, (Below.refl _ w).drew⟩

/-- Where a reader stands. -/
def InAt (B : Nat) (s : ByteArray) (w : World) : Prop := w.heap[B]? = some (.cells #[.string s, .int .i64 0] 151 (0, 0))
theorem InAt.lt {B : Nat} {s : ByteArray} {w : World} (h : InAt B s w) : B < w.heap.size := (Array.getElem?_eq_some_iff.1 h).1
theorem InAt.c0 {B : Nat} {s : ByteArray} {w : World} (h : InAt B s w) : w.cell? ⟨B, 0, none⟩ = some (.string s) := by rw [cell_of_row _ _ _ _ _ _ h]; rfl
theorem InAt.c1 {B : Nat} {s : ByteArray} {w : World} (h : InAt B s w) : w.cell? ⟨B, 1, none⟩ = some (.int .i64 0) := by rw [cell_of_row _ _ _ _ _ _ h]; rfl
theorem InAt.below {B : Nat} {s : ByteArray} {w w' : World} (h : InAt B s w) (hb : Below w.heap.size w w') : InAt B s w' := (hb.block B h.lt).trans h
theorem InAt.set {B : Nat} {s s' : ByteArray} {w : World} (h : InAt B s w) : InAt B s' (w.setCell ⟨B, 0, none⟩ (.string s')) := by
  unfold InAt at h ⊢
  rw [heap_setCell_same w B 0 _ _ _ h]
  rfl

set_option maxRecDepth 100000 in
set_option maxHeartbeats 1600000 in
theorem ready_any (B : Nat) (s : ByteArray) (w : World) (hI : InAt B s w) : Calls Tryz.prog 77 #[.pointer (some ⟨B, 0, none⟩)] w fun e w' => e = .returned (.bool true) ∧ w' = w := by
  have c1 := hI.c1
  go_enter Tryz.func77, Tryz.ntmps77
  go_wp2
  go_ret
  exact ⟨rfl, rfl⟩

set_option maxRecDepth 100000 in
set_option maxHeartbeats 1600000 in
theorem err_any (B : Nat) (s : ByteArray) (w : World) (hI : InAt B s w) : Calls Tryz.prog 38 #[.pointer (some ⟨B, 0, none⟩)] w fun e w' => e = .returned (.int .i64 0) ∧ w' = w := by
  have c1 := hI.c1
  go_enter Tryz.func38, Tryz.ntmps38
  go_wp2
  go_ret
  exact ⟨rfl, rfl⟩

set_option maxRecDepth 100000 in
set_option maxHeartbeats 1600000 in
theorem int_zero (z : ByteArray) (hz : z.size = 40000) (h0 : z[0]? = some 0) (B : Nat) (w : World) (hI : InAt B z w) :
    Calls Tryz.prog 57 #[.pointer (some ⟨B, 0, none⟩)] w fun e w' => e = .returned (.int .i64 0) ∧ (∃ s, InAt B s w') ∧ Below B w w' := by
  have hlt := hI.lt
  go_enter Tryz.func57, Tryz.ntmps57
  go_wp2_with (fail)
  go_at_call 77
  refine (ready_any B z w hI).mono ?_
  rintro e w' ⟨rfl, rfl⟩
  have c0 := hI.c0
  go_wp2_with (fail)
  go_at_call 107
  refine (get_zero z hz h0 _).mono ?_
  rintro e w1 ⟨rfl, hB1⟩
  have hI1 := hI.below hB1
  have d0 := hI1.c0
  have e0 := frozen_of_row w1 B 0 _ _ hI1
  clear c0
  go_wp2_with (fail)
  go_ret
  exact ⟨rfl, ⟨_, hI1.set⟩, (hB1.mono (Nat.le_of_lt hlt)).setCell (Nat.le_refl _) _⟩

set_option maxRecDepth 100000 in
set_option maxHeartbeats 1600000 in
theorem size_zero (z : ByteArray) (hz : z.size = 40000) (h0 : z[0]? = some 0) (B : Nat) (w : World) (hI : InAt B z w) :
    Calls Tryz.prog 78 #[.pointer (some ⟨B, 0, none⟩), .int .i64 65536] w fun e w' => e = .returned (.int .i64 0) ∧ (∃ s, InAt B s w') ∧ Below B w w' := by
  go_enter Tryz.func78, Tryz.ntmps78
  go_wp2_with (fail)
  go_at_call 57
  refine (int_zero z hz h0 B w hI).mono ?_
  rintro e w1 ⟨rfl, ⟨s, hI1⟩, hB1⟩
  go_wp2_with (fail)
  go_at_call 77
  refine (ready_any B s w1 hI1).mono ?_
  rintro e w' ⟨rfl, rfl⟩
  go_wp2_with (fail)
  go_ret
  exact ⟨rfl, ⟨s, hI1⟩, hB1⟩

set_option maxRecDepth 100000 in
set_option maxHeartbeats 1600000 in
theorem text_zero (z : ByteArray) (hz : z.size = 40000) (h0 : z[0]? = some 0) (B : Nat) (w : World) (hI : InAt B z w) :
    Calls Tryz.prog 36 #[.pointer (some ⟨B, 0, none⟩)] w fun e w' => e = .returned (.string ⟨#[]⟩) ∧ (∃ s, InAt B s w') ∧ Below B w w' := by
  go_enter Tryz.func36, Tryz.ntmps36
  go_wp2_with (fail)
  go_at_call 77
  refine (ready_any B z w hI).mono ?_
  rintro e w' ⟨rfl, rfl⟩
  go_wp2_with (fail)
  go_at_call 78
  refine (size_zero z hz h0 B _ hI).mono ?_
  rintro e w1 ⟨rfl, ⟨s, hI1⟩, hB1⟩
  go_wp2_with (fail)
  go_at_call 77
  refine (ready_any B s w1 hI1).mono ?_
  rintro e w' ⟨rfl, rfl⟩
  have d0 := hI1.c0
  have e0 := frozen_of_row w' B 0 _ _ hI1
  go_wp2_with (fail)
  go_ret
  exact ⟨rfl, ⟨_, hI1.set⟩, hB1.setCell (Nat.le_refl _) _⟩

theorem assert_bad (w : World) : (Instr.typeAssert (.iface 93 (.agg #[])) 20 93 true).run Tryz.prog w = .ok (.tuple #[.agg #[], .bool true]) w := by kernel_rfl

theorem calls_genR {P : Program} {f : FuncId} {args : Array Value} {Q : Ending → World → Prop} {w0 : World} (h : ∀ W, W = w0 → Calls P f args W Q) : Calls P f args w0 Q := h _ rfl

set_option maxRecDepth 100000 in
theorem need_panics (w : World) : Calls Tryz.prog 37 #[.bool false] w fun e w' => e = .panicked [{ v := .iface 93 (.agg #[]), recovered := false }] ∧ w' = w := by
  go_enter Tryz.func37, Tryz.ntmps37
  go_wp2
  exact ⟨rfl, rfl, rfl⟩

set_option maxRecDepth 100000 in
set_option maxHeartbeats 1600000 in
theorem catch_bad (n m : Nat) (x : Value) (y : Int) (older : List PanicEntry) (w : World) (hn : w.heap[n]? = some (.cells #[x] 41 (0, 0))) (hm : w.heap[m]? = some (.cells #[.int .i64 y] 43 (0, 0))) (hne : n ≠ m) :
    CallsD Tryz.prog 34 #[.pointer (some ⟨n, 0, none⟩), .pointer (some ⟨m, 0, none⟩)] (.panicking ({ v := .iface 93 (.agg #[]), recovered := false } :: older)) w fun e u' w' =>
      e = .returned (.tuple #[]) ∧ u' = .panicking ({ v := .iface 93 (.agg #[]), recovered := true } :: older) ∧ w'.heap[n]? = some (.cells #[.pointer none] 41 (0, 0)) ∧ w'.heap[m]? = some (.cells #[.int .i64 2] 43 (0, 0)) ∧ Below (min n m) w w' := by
  refine callsD_of_wpS Tryz.func34 rfl fun c₀ cs hu => ?_
  apply wpS_seq
  apply wpS_region
  simp [wpOpsS, go_sem, recoverD, hu, Tryz.ntmps34, Exit.thenS]
  have hn' := (Array.getElem?_eq_some_iff.1 hn).1
  have hm' := (Array.getElem?_eq_some_iff.1 hm).1
  have r0 : ∀ o, (w.alloc o).heap[n]? = some (.cells #[x] 41 (0, 0)) := fun o => (heap_alloc_old w o hn').trans hn
  have r1 : ∀ o, (w.alloc o).heap[m]? = some (.cells #[.int .i64 y] 43 (0, 0)) := fun o => (heap_alloc_old w o hm').trans hm
  have r2 : ∀ o v, ((w.alloc o).setCell ⟨n, 0, none⟩ v).heap[m]? = some (.cells #[.int .i64 y] 43 (0, 0)) := fun o v => (Below.heap_setCell _ _ _ _ (fun h => hne h.symm)).trans (r1 o)
  have c0 : ∀ o, (w.alloc o).cell? ⟨n, 0, none⟩ = some x := fun o => by rw [cell_of_row _ _ _ _ _ _ (r0 o)]; rfl
  have f0 : ∀ o, (w.alloc o).frozen? ⟨n, 0, none⟩ = false := fun o => frozen_of_row _ n 0 _ _ (r0 o)
  have c2 : ∀ o v, ((w.alloc o).setCell ⟨n, 0, none⟩ v).cell? ⟨m, 0, none⟩ = some (.int .i64 y) := fun o v => by rw [cell_of_row _ _ _ _ _ _ (r2 o v)]; rfl
  have f2 : ∀ o v, ((w.alloc o).setCell ⟨n, 0, none⟩ v).frozen? ⟨m, 0, none⟩ = false := fun o v => frozen_of_row _ m 0 _ _ (r2 o v)
  have g0 := frozen_of_row w n 0 _ _ hn
  have g1 := frozen_of_row w m 0 _ _ hm
  have d0 : w.cell? ⟨n, 0, none⟩ = some x := by rw [cell_of_row _ _ _ _ _ _ hn]; rfl
  have d1 : w.cell? ⟨m, 0, none⟩ = some (.int .i64 y) := by rw [cell_of_row _ _ _ _ _ _ hm]; rfl
  have n1 : n ≠ w.heap.size := by omega
  have n2 : m ≠ w.heap.size := by omega
  have n3 : ¬ m = n := fun h => hne h.symm
  have hta := assert_bad
  have qn : Hid (w.heap[n]? = some (.cells #[x] 41 (0, 0))) := hn
  have qm : Hid (w.heap[m]? = some (.cells #[.int .i64 y] 43 (0, 0))) := hm
  clear r0 r1 r2 hn hm
  refine wpS_of_wp ?_
  go_wp2
  refine ⟨rfl, _, rfl, .tuple #[], results_none rfl _ _ _, rfl, rfl, ?_, ?_, ?_⟩
  · rw [heap_alloc_old _ _ (by simpa using hn'), Below.heap_setCell _ _ _ _ hne, heap_setCell_same w n 0 _ _ _ qn.out]; rfl
  · rw [heap_alloc_old _ _ (by simpa using hm'), heap_setCell_same _ m 0 _ _ _ ((Below.heap_setCell _ _ _ _ (fun h => hne h.symm)).trans qm.out)]; rfl
  · exact (((Below.refl (min n m) w).setCell (by show min n m ≤ n; omega) _).setCell (by show min n m ≤ m; omega) _).alloc (by simp; omega) _

end Go.Proofs.YtekmkmidjoenoaaGreatDoor
