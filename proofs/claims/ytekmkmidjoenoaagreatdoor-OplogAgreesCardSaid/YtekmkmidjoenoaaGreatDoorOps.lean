/- The small functions over logs: Op, At. -/
import Derived.Test.YtekmkmidjoenoaaGreatDoorOpn
import Derived.Test.YtekmkmidjoenoaaGreatDoorRgn
import Derived.Test.YtekmkmidjoenoaaGreatDoorExt
import Derived.Laws.StructEq
import Derived.Lib.Walk
import Derived.Lib.SliceRun
import Derived.Laws.ResultCell
import Derived.Laws.Rows
namespace Go.Proofs.YtekmkmidjoenoaaGreatDoor
open Go.RowKit Go.Ev

theorem res_row2 {P : Program} {fn : Func} {p u : Tmp} {ty : TypeId} (h : fn.results = #[.cell p ty, .tmp u]) (tmps : Array Value) (w : World) (g : Nat) (t : TypeId) (cs : Array Value) (fr : Nat × Nat) (d : TypeDesc)
    (hp : tmps.getD p undef = .pointer (some ⟨g, 0, none⟩)) (hg : w.heap[g]? = some (.cells cs t fr))
    (hu : P.underlying ty = some d) (hd : (match d with | .struct _ | .array _ _ => true | _ => false) = true) (hi : (P.info? ty).map (·.size) = some cs.size) :
    (results fn tmps).run P w = .ok (.tuple #[.agg cs, tmps.getD u undef]) w := by
  rw [results_cell_tmp h, hp]
  simp [asAddr, run_loadVar_row w g t ty cs fr d hg hu hd hi]

/-- A log's value. -/
abbrev lv (b : Int) (st : ByteArray) (v : Value) : Value := .agg #[.int .i64 b, .string st, v]

set_option maxRecDepth 100000 in
set_option maxHeartbeats 1600000 in
theorem op_any (b n : Nat) (st : ByteArray) (a : Option Addr) (cap : Nat) (w : World) (hn : b + n < 4611686018427387904) :
    Calls Tryz.prog 11 #[lv b st (.slice a n cap)] w fun e w' => e = .returned (.int .i64 ((b + n : Nat) : Int)) ∧ Below w.heap.size w w' := by
  go_enter Tryz.func11, Tryz.ntmps11
  go_wp2
  go_ret
  exact ⟨by simp, (Below.refl _ w).alloc (Nat.le_refl _) _⟩

set_option maxRecDepth 100000 in
set_option maxHeartbeats 3200000 in
theorem at_any (b k : Nat) (st : ByteArray) (v : Value) (es : List Ent) (e : Ent) (w : World) (N : Nat) (hN : N ≤ w.heap.size) (hk : es[k]? = some e) (hL : Lies N w v es) (hn : b + es.length < 4611686018427387904) :
    Calls Tryz.prog 24 #[lv b st v, .int .i64 ((b + k + 1 : Nat) : Int)] w fun r w' => r = .returned (.tuple #[e.val, .bool true]) ∧ Below w.heap.size w w' := by
  obtain ⟨a, cap, rfl, h2, h3, h4⟩ := hL
  have hlen : k < es.length := (List.getElem?_eq_some_iff.1 hk).1
  have hne : es ≠ [] := by rintro rfl; simp at hk
  obtain ⟨blk, off, rfl, hb, hc⟩ := h4 hne
  obtain ⟨r0, r1, r2⟩ := rowOf_get _ _ _ hk
  have c0 := hc _ _ r0
  have c1 := hc _ _ r1
  have c2 := hc _ _ r2
  obtain ⟨x, y, z⟩ := e
  simp only [← Nat.add_assoc] at c0 c1 c2
  have hb2 : blk < w.heap.size := by omega
  have hb3 : blk ≠ w.heap.size := by omega
  have hb4 : blk ≠ w.heap.size + 1 := by omega
  clear hc h4 h3 hk r0 r1 r2 hne hN
  have e1 : (b : Int) + k + 1 - b - 1 = k := by omega
  have e2 : (b : Int) + k + 1 - b = (k : Int) + 1 := by omega
  have f0 : ∀ o1 o2 o3, (((w.alloc o1).alloc o2).alloc o3).cell? ⟨blk, off + k * 3, none⟩ = some (.int .i64 x) := fun _ _ _ => Lib.cell?_alloc_some _ (Lib.cell?_alloc_some _ (Lib.cell?_alloc_some _ c0))
  have f1 : ∀ o1 o2 o3, (((w.alloc o1).alloc o2).alloc o3).cell? ⟨blk, off + k * 3 + 1, none⟩ = some (.int .i64 y) := fun _ _ _ => Lib.cell?_alloc_some _ (Lib.cell?_alloc_some _ (Lib.cell?_alloc_some _ c1))
  have f2 : ∀ o1 o2 o3, (((w.alloc o1).alloc o2).alloc o3).cell? ⟨blk, off + k * 3 + 2, none⟩ = some (.string z) := fun _ _ _ => Lib.cell?_alloc_some _ (Lib.cell?_alloc_some _ (Lib.cell?_alloc_some _ c2))
  go_enter Tryz.func24, Tryz.ntmps24
  go_wp2
  refine bodyPost_ret (res_row2 rfl _ _ (w.heap.size + 1) 34 #[.int .i64 x, .int .i64 y, .string z] (0, 0) _ rfl ?_ Tryz.underlying34 rfl (by kernel_rfl)) rfl ?_
  · rw [heap_alloc_old _ _ (by simp)]
    exact heap_alloc2_new w _ _
  exact ⟨rfl, (((Below.refl _ w).alloc (Nat.le_refl _) _).alloc (by simp) _).alloc (by simp; omega) _⟩

/-- Two entries compared. -/
theorem ne_ent (x y : Ent) (w : World) : (binOp .neq 34 x.val y.val).run Tryz.prog w = .ok (.bool (!decide (x = y))) w := by
  obtain ⟨x0, x1, x2⟩ := x
  obtain ⟨y0, y1, y2⟩ := y
  have u3 := Tryz.underlying3
  have a3 := Tryz.isAgg3
  have z3 := Tryz.sizeOf3
  have u9 := Tryz.underlying9
  have a9 := Tryz.isAgg9
  have z9 := Tryz.sizeOf9
  have hS : Tryz.prog.underlying 34 = some (.struct (Tryz.prog.fieldsOf 34)) := by kernel_rfl
  have hp : Tryz.prog.stoodInHeld 34 = false := by kernel_rfl
  simp only [Ent.val]
  rw [run_neq_struct, show (10000 : Nat) = 9999 + 1 from rfl, run_equalIn_agg w 9999 34 _ _ hS hp]
  simp only [Program.fieldsOf, Tryz.underlying34]
  go_simp
  have inj : (x2.toList = y2.toList) ↔ x2 = y2 := ⟨fun h => by
    obtain ⟨⟨a⟩⟩ := x2
    obtain ⟨⟨b⟩⟩ := y2
    simpa [ByteArray.toList_eq] using h, fun h => by rw [h]⟩
  by_cases h1 : x0 = y0 <;> by_cases h2 : x1 = y1 <;> by_cases h3 : x2 = y2 <;> simp [h1, h2, h3, inj]
end Go.Proofs.YtekmkmidjoenoaaGreatDoor
