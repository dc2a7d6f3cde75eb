/- The law's two tasks: 'made' walked. Printed by genme.py. -/
import Derived.Test.YtcdcchkaohnkdaaGreatDoorTmd
import Derived.Lib.SliceRun
namespace Go.Proofs.YtcdcchkaohnkdaaGreatDoor
open Go.RowKit Go.Ev

noncomputable def madeVals (w : World) (nm : Str) (yes no : List (List Str)) (b : Bool) (f : Nat) (ay : Option Addr) (cy : Nat) (an : Option Addr) (cn : Nat) : Nat → Value
  | 0 => .string (bs (nm.take 40))
  | 1 => .pointer (some ⟨w.heap.size, 1, none⟩)
  | 2 => .slice ay yes.length cy
  | 4 => .pointer (some ⟨w.heap.size, 2, none⟩)
  | 5 => .slice an no.length cn
  | 7 => .pointer (some ⟨w.heap.size, 3, none⟩)
  | 8 => .bool b
  | 9 => .float .f64 f
  | 11 => .string (bs (nm.take 40))
  | 12 => .pointer (some ⟨w.heap.size, 1, none⟩)
  | 13 => .slice ay yes.length cy
  | 15 => .pointer (some ⟨w.heap.size, 2, none⟩)
  | 16 => .slice an no.length cn
  | 18 => .pointer (some ⟨w.heap.size, 3, none⟩)
  | 19 => .bool b
  | 20 => .float .f64 f
  | _ => undef

theorem alloc_new1 (w : World) (o o' : Obj) : ((w.alloc o).alloc o').heap[w.heap.size + 1]? = some o' := by
  have h := heap_alloc_new (w.alloc o) o'
  rwa [show (w.alloc o).heap.size = w.heap.size + 1 by simp] at h
theorem alloc_new2 (w : World) (o o' o2 : Obj) : (((w.alloc o).alloc o').alloc o2).heap[w.heap.size + 1 + 1]? = some o2 := by
  have h := heap_alloc_new ((w.alloc o).alloc o') o2
  rwa [show ((w.alloc o).alloc o').heap.size = w.heap.size + 1 + 1 by simp] at h

theorem lists_to {w W w1 : World} {a : Option Addr} {ll : List (List Str)} (h : ListsAt w.heap.size w a ll) (h1 : Below w.heap.size w W) (h2 : Below (w.heap.size + 1) W w1) (h3 : W.heap.size ≤ w1.heap.size) : ListsAt w1.heap.size w1 a ll :=
  (h.below (h1.trans (h2.mono (by omega)))).mono (by have := h1.size; omega)

set_option maxRecDepth 100000 in
set_option maxHeartbeats 6400000 in
theorem made_any (nm : Str) (yes no : List (List Str)) (b : Bool) (f : Nat) (v : Value) (w : World) (hv : RawV w v nm yes no b f) :
    Calls Tryz.prog 5 #[v] w fun e w' => ∃ v1 v2, e = .returned (.tuple #[v1, v2]) ∧ TkV w' v1 ⟨nm.take 40, fewS yes, fewS no, b, f⟩ ∧ TkV w' v2 ⟨nm.take 40, fewS yes, fewS no, b, f⟩ ∧ Below w.heap.size w w' := by
  have hm : Tryz.prog.follows .mixedOrders = true := by kernel_rfl
  obtain ⟨vy, vn, rfl, ⟨ay, cy, rfl, hy⟩, ⟨an, cn, rfl, hn⟩, hw⟩ := hv
  have rsf := run_store_float
  have r12 := run_of12
  have hyH : Hid (ListsAt w.heap.size w ay yes) := hy
  have hnH : Hid (ListsAt w.heap.size w an no) := hn
  have hsz : (bs nm).size = nm.length := bs_size nm
  have hmin : min (nm.length : Int) 40 = ((min nm.length 40 : Nat) : Int) := by omega
  have hx17 : (bs nm).extract 0 (min nm.length 40) = bs (nm.take 40) := by rw [bs_take, take_min]
  have hl17 : min nm.length 40 ≤ nm.length := Nat.min_le_left _ _
  clear hy hn
  go_enter Tryz.func5, Tryz.ntmps5
  go_wp2_with (fail)
  generalize hW : World.alloc (World.alloc (World.alloc w _) _) _ = W
  have hBW : Below w.heap.size w W := by subst hW; exact ((((Below.refl _ w).alloc (Nat.le_refl _) _).alloc (by simp) _).alloc (by simp; omega) _)
  have hszW : W.heap.size = w.heap.size + 3 := by subst hW; simp
  have hbox : W.heap[w.heap.size]? = some (.cells #[.string (bs nm), .slice ay yes.length cy, .slice an no.length cn, .bool b, .int .u64 (f : Nat)] 25 (0, 0)) := by
    subst hW; rw [heap_alloc_old _ _ (by simp; omega), heap_alloc_old _ _ (by simp), heap_alloc_new]
  have hrA : W.heap[w.heap.size + 1]? = some (.cells zero5 29 (0, 0)) := by
    subst hW; rw [heap_alloc_old _ _ (by simp)]; exact alloc_new1 _ _ _
  have hrC : W.heap[w.heap.size + 1 + 1]? = some (.cells zero5 30 (0, 0)) := by
    subst hW; exact alloc_new2 _ _ _ _
  have hc1 := cell_of_row W _ 1 _ _ _ hbox
  have hc2 := cell_of_row W _ 2 _ _ _ hbox
  have hc3 := cell_of_row W _ 3 _ _ _ hbox
  simp at hc1 hc2 hc3
  have hS0 : MadeS 29 30 W (w.heap.size + 1) (w.heap.size + 1 + 1) (nm.take 40) b f (fewS yes) (fewS no) (madeVals w nm yes no b f ay cy an cn) (fun _ => false) (fun _ => undef) W.drew :=
    ⟨fun i _ h => (by cases h), (Below.refl _ W).drew, Nat.le_refl _, ⟨by omega, by omega⟩, fun i _ h => (by cases h), fun h => (by cases h), fun h => (by cases h), ⟨_, hrA, fun _ => rfl, fun h => (by cases h)⟩, ⟨_, hrC, fun _ => rfl, fun h => (by cases h)⟩⟩
  clear hW hrA hrC hbox
  refine Go.Ev.wp_region_inv _ hm (by kernel_rfl) (by kernel_rfl) hS0 ?_
  refine ⟨fun d vs w1 K hS hd hdep hcl hK => ?_, ?_⟩
  · go_simp
    exact hK _ _ (hS.pure (by show puM 0 = true ∧ clM 0 = false ∧ 0 ≠ 10 ∧ 0 ≠ 21 ∧ 0 ≠ 22 ∧ 0 ≠ 23; decide) rfl)
  simp only [Act.put, List.setIfInBounds_toArray, List.set_cons_succ, List.set_cons_zero, Nat.reduceAdd]
  refine ⟨fun d vs w1 K hS hd hdep hcl hK => ?_, ?_⟩
  · go_simp
    exact hK _ _ (hS.pure (by show puM 1 = true ∧ clM 1 = false ∧ 1 ≠ 10 ∧ 1 ≠ 21 ∧ 1 ≠ 22 ∧ 1 ≠ 23; decide) rfl)
  simp only [Act.put, List.setIfInBounds_toArray, List.set_cons_succ, List.set_cons_zero, Nat.reduceAdd]
  refine ⟨fun d vs w1 K hS hd hdep hcl hK => ?_, ?_⟩
  · have e1 : vs 1 = .pointer (some ⟨w.heap.size, 1, none⟩) := hS.vals 1 (by decide) (depB hdep 1 (by kernel_rfl))
    have hx := hS.bel.cell (p := ⟨w.heap.size, 1, none⟩) (by show w.heap.size < w.heap.size + 1; omega)
    rw [hc1] at hx
    simp only [e1] at hK ⊢
    go_simp
    exact hK _ _ (hS.pure (by show puM 2 = true ∧ clM 2 = false ∧ 2 ≠ 10 ∧ 2 ≠ 21 ∧ 2 ≠ 22 ∧ 2 ≠ 23; decide) rfl)
  simp only [Act.put, List.setIfInBounds_toArray, List.set_cons_succ, List.set_cons_zero, Nat.reduceAdd]
  refine ⟨fun d vs w1 K hS hd hdep hcl hK => ?_, ?_⟩
  · have e2 : vs 2 = .slice ay yes.length cy := hS.vals 2 (by decide) (depB hdep 2 (by kernel_rfl))
    have hL : ListsAt w1.heap.size w1 ay yes := lists_to hyH.out hBW hS.bel hS.sz
    simp only [e2] at hK ⊢
    go_wp2_with (fail)
    go_at_call 16
    refine (few_any ay yes cy w1 hL).mono ?_
    rintro e w2 ⟨v, us, rfl, hO, hWo, hB2⟩
    go_wp2_with (fail)
    exact hS.call (by show puM 3 = false ∧ 3 ≠ 10 ∧ 3 ≠ 21 ∧ 3 ≠ 22 ∧ 3 ≠ 23; decide) hB2 ⟨us, hO, hWo⟩
  simp only [Act.put, List.setIfInBounds_toArray, List.set_cons_succ, List.set_cons_zero, Nat.reduceAdd]
  refine ⟨fun d vs w1 K hS hd hdep hcl hK => ?_, ?_⟩
  · go_simp
    exact hK _ _ (hS.pure (by show puM 4 = true ∧ clM 4 = false ∧ 4 ≠ 10 ∧ 4 ≠ 21 ∧ 4 ≠ 22 ∧ 4 ≠ 23; decide) rfl)
  simp only [Act.put, List.setIfInBounds_toArray, List.set_cons_succ, List.set_cons_zero, Nat.reduceAdd]
  refine ⟨fun d vs w1 K hS hd hdep hcl hK => ?_, ?_⟩
  · have e4 : vs 4 = .pointer (some ⟨w.heap.size, 2, none⟩) := hS.vals 4 (by decide) (depB hdep 4 (by kernel_rfl))
    have hx := hS.bel.cell (p := ⟨w.heap.size, 2, none⟩) (by show w.heap.size < w.heap.size + 1; omega)
    rw [hc2] at hx
    simp only [e4] at hK ⊢
    go_simp
    exact hK _ _ (hS.pure (by show puM 5 = true ∧ clM 5 = false ∧ 5 ≠ 10 ∧ 5 ≠ 21 ∧ 5 ≠ 22 ∧ 5 ≠ 23; decide) rfl)
  simp only [Act.put, List.setIfInBounds_toArray, List.set_cons_succ, List.set_cons_zero, Nat.reduceAdd]
  refine ⟨fun d vs w1 K hS hd hdep hcl hK => ?_, ?_⟩
  · have e5 : vs 5 = .slice an no.length cn := hS.vals 5 (by decide) (depB hdep 5 (by kernel_rfl))
    have hL : ListsAt w1.heap.size w1 an no := lists_to hnH.out hBW hS.bel hS.sz
    simp only [e5] at hK ⊢
    go_wp2_with (fail)
    go_at_call 16
    refine (few_any an no cn w1 hL).mono ?_
    rintro e w2 ⟨v, us, rfl, hO, hWo, hB2⟩
    go_wp2_with (fail)
    exact hS.call (by show puM 6 = false ∧ 6 ≠ 10 ∧ 6 ≠ 21 ∧ 6 ≠ 22 ∧ 6 ≠ 23; decide) hB2 ⟨us, hO, hWo⟩
  simp only [Act.put, List.setIfInBounds_toArray, List.set_cons_succ, List.set_cons_zero, Nat.reduceAdd]
  refine ⟨fun d vs w1 K hS hd hdep hcl hK => ?_, ?_⟩
  · go_simp
    exact hK _ _ (hS.pure (by show puM 7 = true ∧ clM 7 = false ∧ 7 ≠ 10 ∧ 7 ≠ 21 ∧ 7 ≠ 22 ∧ 7 ≠ 23; decide) rfl)
  simp only [Act.put, List.setIfInBounds_toArray, List.set_cons_succ, List.set_cons_zero, Nat.reduceAdd]
  refine ⟨fun d vs w1 K hS hd hdep hcl hK => ?_, ?_⟩
  · have e7 : vs 7 = .pointer (some ⟨w.heap.size, 3, none⟩) := hS.vals 7 (by decide) (depB hdep 7 (by kernel_rfl))
    have hx := hS.bel.cell (p := ⟨w.heap.size, 3, none⟩) (by show w.heap.size < w.heap.size + 1; omega)
    rw [hc3] at hx
    simp only [e7] at hK ⊢
    go_simp
    exact hK _ _ (hS.pure (by show puM 8 = true ∧ clM 8 = false ∧ 8 ≠ 10 ∧ 8 ≠ 21 ∧ 8 ≠ 22 ∧ 8 ≠ 23; decide) rfl)
  simp only [Act.put, List.setIfInBounds_toArray, List.set_cons_succ, List.set_cons_zero, Nat.reduceAdd]
  refine ⟨fun d vs w1 K hS hd hdep hcl hK => ?_, ?_⟩
  · go_simp
    exact hK _ _ (hS.pure (by show puM 9 = true ∧ clM 9 = false ∧ 9 ≠ 10 ∧ 9 ≠ 21 ∧ 9 ≠ 22 ∧ 9 ≠ 23; decide) rfl)
  simp only [Act.put, List.setIfInBounds_toArray, List.set_cons_succ, List.set_cons_zero, Nat.reduceAdd]
  refine ⟨fun d vs w1 K hS hd hdep hcl hK => ?_, ?_⟩
  · have e0 : vs 0 = .string (bs (nm.take 40)) := hS.vals 0 (by decide) (depB hdep 0 (by kernel_rfl))
    have l3 := hS.lc 3 (by decide) (depB hdep 3 (by kernel_rfl))
    have l6 := hS.lc 6 (by decide) (depB hdep 6 (by kernel_rfl))
    have e8 : vs 8 = .bool b := hS.vals 8 (by decide) (depB hdep 8 (by kernel_rfl))
    have e9 : vs 9 = .float .f64 f := hS.vals 9 (by decide) (depB hdep 9 (by kernel_rfl))
    obtain ⟨a3, n3, c3, q3⟩ := l3.slice
    obtain ⟨a6, n6, c6, q6⟩ := l6.slice
    rw [q3] at l3
    rw [q6] at l6
    simp only [e0, q3, q6, e8, e9] at hK ⊢
    go_simp
    exact hK _ _ (hS.build (by show puM 10 = false ∧ clM 10 = false ∧ 10 ≠ 22 ∧ 10 ≠ 23; decide) ⟨_, _, rfl, l3, l6⟩)
  simp only [Act.put, List.setIfInBounds_toArray, List.set_cons_succ, List.set_cons_zero, Nat.reduceAdd]
  refine ⟨fun d vs w1 K hS hd hdep hcl hK => ?_, ?_⟩
  · go_simp
    exact hK _ _ (hS.pure (by show puM 11 = true ∧ clM 11 = false ∧ 11 ≠ 10 ∧ 11 ≠ 21 ∧ 11 ≠ 22 ∧ 11 ≠ 23; decide) rfl)
  simp only [Act.put, List.setIfInBounds_toArray, List.set_cons_succ, List.set_cons_zero, Nat.reduceAdd]
  refine ⟨fun d vs w1 K hS hd hdep hcl hK => ?_, ?_⟩
  · go_simp
    exact hK _ _ (hS.pure (by show puM 12 = true ∧ clM 12 = false ∧ 12 ≠ 10 ∧ 12 ≠ 21 ∧ 12 ≠ 22 ∧ 12 ≠ 23; decide) rfl)
  simp only [Act.put, List.setIfInBounds_toArray, List.set_cons_succ, List.set_cons_zero, Nat.reduceAdd]
  refine ⟨fun d vs w1 K hS hd hdep hcl hK => ?_, ?_⟩
  · have e12 : vs 12 = .pointer (some ⟨w.heap.size, 1, none⟩) := hS.vals 12 (by decide) (depB hdep 12 (by kernel_rfl))
    have hx := hS.bel.cell (p := ⟨w.heap.size, 1, none⟩) (by show w.heap.size < w.heap.size + 1; omega)
    rw [hc1] at hx
    simp only [e12] at hK ⊢
    go_simp
    exact hK _ _ (hS.pure (by show puM 13 = true ∧ clM 13 = false ∧ 13 ≠ 10 ∧ 13 ≠ 21 ∧ 13 ≠ 22 ∧ 13 ≠ 23; decide) rfl)
  simp only [Act.put, List.setIfInBounds_toArray, List.set_cons_succ, List.set_cons_zero, Nat.reduceAdd]
  refine ⟨fun d vs w1 K hS hd hdep hcl hK => ?_, ?_⟩
  · have e13 : vs 13 = .slice ay yes.length cy := hS.vals 13 (by decide) (depB hdep 13 (by kernel_rfl))
    have hL : ListsAt w1.heap.size w1 ay yes := lists_to hyH.out hBW hS.bel hS.sz
    simp only [e13] at hK ⊢
    go_wp2_with (fail)
    go_at_call 16
    refine (few_any ay yes cy w1 hL).mono ?_
    rintro e w2 ⟨v, us, rfl, hO, hWo, hB2⟩
    go_wp2_with (fail)
    exact hS.call (by show puM 14 = false ∧ 14 ≠ 10 ∧ 14 ≠ 21 ∧ 14 ≠ 22 ∧ 14 ≠ 23; decide) hB2 ⟨us, hO, hWo⟩
  simp only [Act.put, List.setIfInBounds_toArray, List.set_cons_succ, List.set_cons_zero, Nat.reduceAdd]
  refine ⟨fun d vs w1 K hS hd hdep hcl hK => ?_, ?_⟩
  · go_simp
    exact hK _ _ (hS.pure (by show puM 15 = true ∧ clM 15 = false ∧ 15 ≠ 10 ∧ 15 ≠ 21 ∧ 15 ≠ 22 ∧ 15 ≠ 23; decide) rfl)
  simp only [Act.put, List.setIfInBounds_toArray, List.set_cons_succ, List.set_cons_zero, Nat.reduceAdd]
  refine ⟨fun d vs w1 K hS hd hdep hcl hK => ?_, ?_⟩
  · have e15 : vs 15 = .pointer (some ⟨w.heap.size, 2, none⟩) := hS.vals 15 (by decide) (depB hdep 15 (by kernel_rfl))
    have hx := hS.bel.cell (p := ⟨w.heap.size, 2, none⟩) (by show w.heap.size < w.heap.size + 1; omega)
    rw [hc2] at hx
    simp only [e15] at hK ⊢
    go_simp
    exact hK _ _ (hS.pure (by show puM 16 = true ∧ clM 16 = false ∧ 16 ≠ 10 ∧ 16 ≠ 21 ∧ 16 ≠ 22 ∧ 16 ≠ 23; decide) rfl)
  simp only [Act.put, List.setIfInBounds_toArray, List.set_cons_succ, List.set_cons_zero, Nat.reduceAdd]
  refine ⟨fun d vs w1 K hS hd hdep hcl hK => ?_, ?_⟩
  · have e16 : vs 16 = .slice an no.length cn := hS.vals 16 (by decide) (depB hdep 16 (by kernel_rfl))
    have hL : ListsAt w1.heap.size w1 an no := lists_to hnH.out hBW hS.bel hS.sz
    simp only [e16] at hK ⊢
    go_wp2_with (fail)
    go_at_call 16
    refine (few_any an no cn w1 hL).mono ?_
    rintro e w2 ⟨v, us, rfl, hO, hWo, hB2⟩
    go_wp2_with (fail)
    exact hS.call (by show puM 17 = false ∧ 17 ≠ 10 ∧ 17 ≠ 21 ∧ 17 ≠ 22 ∧ 17 ≠ 23; decide) hB2 ⟨us, hO, hWo⟩
  simp only [Act.put, List.setIfInBounds_toArray, List.set_cons_succ, List.set_cons_zero, Nat.reduceAdd]
  refine ⟨fun d vs w1 K hS hd hdep hcl hK => ?_, ?_⟩
  · go_simp
    exact hK _ _ (hS.pure (by show puM 18 = true ∧ clM 18 = false ∧ 18 ≠ 10 ∧ 18 ≠ 21 ∧ 18 ≠ 22 ∧ 18 ≠ 23; decide) rfl)
  simp only [Act.put, List.setIfInBounds_toArray, List.set_cons_succ, List.set_cons_zero, Nat.reduceAdd]
  refine ⟨fun d vs w1 K hS hd hdep hcl hK => ?_, ?_⟩
  · have e18 : vs 18 = .pointer (some ⟨w.heap.size, 3, none⟩) := hS.vals 18 (by decide) (depB hdep 18 (by kernel_rfl))
    have hx := hS.bel.cell (p := ⟨w.heap.size, 3, none⟩) (by show w.heap.size < w.heap.size + 1; omega)
    rw [hc3] at hx
    simp only [e18] at hK ⊢
    go_simp
    exact hK _ _ (hS.pure (by show puM 19 = true ∧ clM 19 = false ∧ 19 ≠ 10 ∧ 19 ≠ 21 ∧ 19 ≠ 22 ∧ 19 ≠ 23; decide) rfl)
  simp only [Act.put, List.setIfInBounds_toArray, List.set_cons_succ, List.set_cons_zero, Nat.reduceAdd]
  refine ⟨fun d vs w1 K hS hd hdep hcl hK => ?_, ?_⟩
  · go_simp
    exact hK _ _ (hS.pure (by show puM 20 = true ∧ clM 20 = false ∧ 20 ≠ 10 ∧ 20 ≠ 21 ∧ 20 ≠ 22 ∧ 20 ≠ 23; decide) rfl)
  simp only [Act.put, List.setIfInBounds_toArray, List.set_cons_succ, List.set_cons_zero, Nat.reduceAdd]
  refine ⟨fun d vs w1 K hS hd hdep hcl hK => ?_, ?_⟩
  · have e11 : vs 11 = .string (bs (nm.take 40)) := hS.vals 11 (by decide) (depB hdep 11 (by kernel_rfl))
    have l3 := hS.lc 14 (by decide) (depB hdep 14 (by kernel_rfl))
    have l6 := hS.lc 17 (by decide) (depB hdep 17 (by kernel_rfl))
    have e19 : vs 19 = .bool b := hS.vals 19 (by decide) (depB hdep 19 (by kernel_rfl))
    have e20 : vs 20 = .float .f64 f := hS.vals 20 (by decide) (depB hdep 20 (by kernel_rfl))
    obtain ⟨a3, n3, c3, q3⟩ := l3.slice
    obtain ⟨a6, n6, c6, q6⟩ := l6.slice
    rw [q3] at l3
    rw [q6] at l6
    simp only [e11, q3, q6, e19, e20] at hK ⊢
    go_simp
    exact hK _ _ (hS.build (by show puM 21 = false ∧ clM 21 = false ∧ 21 ≠ 22 ∧ 21 ≠ 23; decide) ⟨_, _, rfl, l3, l6⟩)
  simp only [Act.put, List.setIfInBounds_toArray, List.set_cons_succ, List.set_cons_zero, Nat.reduceAdd]
  refine ⟨fun d vs w1 K hS hd hdep hcl hK => ?_, ?_⟩
  · obtain ⟨v3, v6, ev, l3, l6⟩ := hS.b10 (depB hdep 10 (by kernel_rfl))
    obtain ⟨cs, hrow, h0, _⟩ := hS.ra
    obtain rfl := h0 hd
    obtain ⟨a3, n3, c3, rfl⟩ := l3.slice
    obtain ⟨a6, n6, c6, rfl⟩ := l6.slice
    have g0 := cell_of_row w1 _ 0 _ _ _ hrow
    have z0 := frozen_of_row w1 _ 0 _ _ hrow
    have g1 := cell_of_row w1 _ 1 _ _ _ hrow
    have z1 := frozen_of_row w1 _ 1 _ _ hrow
    have g2 := cell_of_row w1 _ 2 _ _ _ hrow
    have z2 := frozen_of_row w1 _ 2 _ _ hrow
    have g3 := cell_of_row w1 _ 3 _ _ _ hrow
    have z3 := frozen_of_row w1 _ 3 _ _ hrow
    have g4 := cell_of_row w1 _ 4 _ _ _ hrow
    have z4 := frozen_of_row w1 _ 4 _ _ hrow
    simp [zero5] at g0 g1 g2 g3 g4
    simp only [ev] at hK ⊢
    go_simp
    exact hK undef _ (hS.storeA hd l3 l6)
  simp only [Act.put, Nat.reduceAdd]
  refine ⟨fun d vs w1 K hS hd hdep hcl hK => ?_, ?_⟩
  · obtain ⟨v3, v6, ev, l3, l6⟩ := hS.b21 (depB hdep 21 (by kernel_rfl))
    obtain ⟨cs, hrow, h0, _⟩ := hS.rc
    obtain rfl := h0 hd
    obtain ⟨a3, n3, c3, rfl⟩ := l3.slice
    obtain ⟨a6, n6, c6, rfl⟩ := l6.slice
    have g0 := cell_of_row w1 _ 0 _ _ _ hrow
    have z0 := frozen_of_row w1 _ 0 _ _ hrow
    have g1 := cell_of_row w1 _ 1 _ _ _ hrow
    have z1 := frozen_of_row w1 _ 1 _ _ hrow
    have g2 := cell_of_row w1 _ 2 _ _ _ hrow
    have z2 := frozen_of_row w1 _ 2 _ _ hrow
    have g3 := cell_of_row w1 _ 3 _ _ _ hrow
    have z3 := frozen_of_row w1 _ 3 _ _ hrow
    have g4 := cell_of_row w1 _ 4 _ _ _ hrow
    have z4 := frozen_of_row w1 _ 4 _ _ hrow
    simp [zero5] at g0 g1 g2 g3 g4
    simp only [ev] at hK ⊢
    go_simp
    exact hK undef _ (hS.storeC hd l3 l6)
  simp only [Act.put, Nat.reduceAdd]
  intro vs d w' hS hall
  obtain ⟨cs, hA, _, h1⟩ := hS.ra
  obtain ⟨cs', hC, _, h2⟩ := hS.rc
  obtain ⟨v3, v6, e1, l3, l6⟩ := h1 (hall 22 (by decide))
  obtain ⟨v14, v17, e2, l14, l17⟩ := h2 (hall 23 (by decide))
  obtain rfl := Value.agg.inj e1
  obtain rfl := Value.agg.inj e2
  have hB : Hid (Below w.heap.size w w') := hBW.trans (hS.bel.mono (by omega))
  clear hS hS0 hall
  go_wp2_with (fail)
  refine bodyPost_ret (res_row22 rfl _ _ (w.heap.size + 1) (w.heap.size + 1 + 1) 29 30 _ _ (0, 0) (0, 0) _ _ rfl hA Tryz.underlying29 rfl (by kernel_rfl) rfl hC Tryz.underlying30 rfl (by kernel_rfl)) rfl ?_
  exact ⟨_, _, rfl, ⟨⟨_, _, rfl, l3.lists, l6.lists⟩, hw⟩, ⟨⟨_, _, rfl, l14.lists, l17.lists⟩, hw⟩, hB.out⟩
end Go.Proofs.YtcdcchkaohnkdaaGreatDoor
