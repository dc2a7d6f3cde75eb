/- Two tasks that are alike: the law's 'words' and 'same' say so. -/
import Derived.Test.YtcdcchkaohnkdaaGreatDoorTcc
namespace Go.Proofs.YtcdcchkaohnkdaaGreatDoor
open Go.RowKit

set_option maxRecDepth 100000 in
set_option maxHeartbeats 6400000 in
theorem wsame_any (a b : Option Addr) (ll : List (List Str)) (ca cb : Nat) (hb1 : ll.length ≤ 1000) (hb2 : ∀ l ∈ ll, l.length ≤ 1000) (w : World) (hA : ListsAt w.heap.size w a ll) (hB : ListsAt w.heap.size w b ll) :
    Calls Tryz.prog 42 #[.slice a ll.length ca, .slice b ll.length cb] w fun e w' => e = .returned (.bool true) ∧ Below w.heap.size w w' := by
  have hAH : Hid (ListsAt w.heap.size w a ll) := hA
  have hBH : Hid (ListsAt w.heap.size w b ll) := hB
  have hb2H : Hid (∀ l ∈ ll, l.length ≤ 1000) := hb2
  clear hA hB hb2
  go_enter Tryz.func42, Tryz.ntmps42
  go_wp2_with (fail)
  go_loopw [5, 6] (fun i _ wr => ∃ k : Nat, k ≤ ll.length ∧ i = .int .i64 k ∧ Below w.heap.size w wr) (fun i _ _ => ll.length - (intOf i).toNat)
  case atStart => exact ⟨0, Nat.zero_le _, rfl, Below.refl _ _⟩
  case round =>
    obtain ⟨k, hk, rfl, hB⟩ := hrel
    by_cases hlt : k < ll.length
    · obtain ⟨b1, off1, v, rfl, hbN1, hcell1, a', cap', rfl, hS1⟩ := hAH.out k hlt
      obtain ⟨b2, off2, v, rfl, hbN2, hcell2, a2', cap2', rfl, hS2⟩ := hBH.out k hlt
      have hSH1 : Hid (StrsAt w.heap.size w a' (ll.getD k [])) := hS1
      have hSH2 : Hid (StrsAt w.heap.size w a2' (ll.getD k [])) := hS2
      have hc1 := (hB.cell (p := ⟨b1, off1 + k, none⟩) (by exact hbN1)).trans hcell1
      have hc2 := (hB.cell (p := ⟨b2, off2 + k, none⟩) (by exact hbN2)).trans hcell2
      have hl1000 : (ll.getD k []).length ≤ 1000 := hb2H.out _ (by rw [List.getD, List.getElem?_eq_getElem hlt]; exact List.getElem_mem _)
      have hk1000 : k < 1000 := by omega
      clear hS1 hS2
      generalize ll.getD k [] = l at *
      go_wp2_with (fail)
      go_region
      go_wp2_with (fail)
      have hB' := hB.drew
      clear hc1 hc2
      go_loopw [6] (fun j wq => ∃ q : Nat, q ≤ l.length ∧ j = .int .i64 q ∧ Below w.heap.size w wq) (fun j _ => l.length - (intOf j).toNat)
      case atStart => exact ⟨0, Nat.zero_le _, rfl, hB'⟩
      case round =>
        clear hB hB'
        obtain ⟨q, hq, rfl, hB⟩ := hrel
        have hc1 := (hB.cell (p := ⟨b1, off1 + k, none⟩) (by exact hbN1)).trans hcell1
        have hc2 := (hB.cell (p := ⟨b2, off2 + k, none⟩) (by exact hbN2)).trans hcell2
        by_cases hlq : q < l.length
        · obtain ⟨b1', off1', rfl, hbN1', hcell1'⟩ := hSH1.out q hlq
          obtain ⟨b2', off2', rfl, hbN2', hcell2'⟩ := hSH2.out q hlq
          have hc1' := (hB.cell (p := ⟨b1', off1' + q, none⟩) (by exact hbN1')).trans hcell1'
          have hc2' := (hB.cell (p := ⟨b2', off2' + q, none⟩) (by exact hbN2')).trans hcell2'
          have hq1000 : q < 1000 := by omega
          generalize l.getD q [] = s at *
          go_wp2_with (fail)
          go_region
          go_wp2_with (fail)
          go_roundw
          case rel => exact ⟨q + 1, by omega, by go_num, hB.drew⟩
          case measure => simp [intOf]; omega
        · go_wp2_with (fail)
          go_roundw
          case rel => exact ⟨k + 1, by omega, by go_num, hB⟩
          case measure => simp [intOf]; omega
    · go_wp2_with (fail)
      go_ret
      exact ⟨rfl, hB⟩

set_option maxRecDepth 100000 in
set_option maxHeartbeats 6400000 in
theorem same_any (t : Tk) (v v' : Value) (hok : t.ok) (w : World) (hv : TkV w v t) (hv' : TkV w v' t) : Calls Tryz.prog 11 #[v, v'] w fun e w' => e = .returned (.bool true) ∧ Below w.heap.size w w' := by
  obtain ⟨name, yes, no, clear, wt⟩ := t
  obtain ⟨⟨vy, vn, rfl, ⟨ay, cy, rfl, hy⟩, ⟨an, cn, rfl, hn⟩⟩, hw⟩ := hv
  obtain ⟨⟨vy, vn, rfl, ⟨ay', cy', rfl, hy'⟩, ⟨an', cn', rfl, hn'⟩⟩, _⟩ := hv'
  obtain ⟨_, ⟨k1, k2⟩, ⟨k3, k4⟩⟩ := hok
  simp only at hw hy hn hy' hn' k1 k2 k3 k4
  have r31 := run_bits31
  have hm : Tryz.prog.follows .mixedOrders = true := by kernel_rfl
  have hlt : w.heap.size < w.heap.size + 2 := by omega
  have hlt1 : w.heap.size + 1 < w.heap.size + 2 := by omega
  have hle : ∀ {v : World} {o o' : Obj}, Below (w.heap.size + 2) ((w.alloc o).alloc o') v → Below w.heap.size w v := fun h => (((Below.refl _ w).alloc (Nat.le_refl _) _).alloc (by simp) _).trans (h.mono (by omega))
  have hY : Hid (∀ (o o' : Obj) (v : World), Below (w.heap.size + 2) ((w.alloc o).alloc o') v → Calls Tryz.prog 42 #[.slice ay yes.length cy, .slice ay' yes.length cy'] v fun e w' => e = .returned (.bool true) ∧ Below v.heap.size v w') := fun o o' v h => wsame_any ay ay' yes cy cy' k1 k2 v ((hy.below (hle h)).mono (hle h).size) ((hy'.below (hle h)).mono (hle h).size)
  have hO : Hid (∀ (o o' : Obj) (v : World), Below (w.heap.size + 2) ((w.alloc o).alloc o') v → Calls Tryz.prog 42 #[.slice an no.length cn, .slice an' no.length cn'] v fun e w' => e = .returned (.bool true) ∧ Below v.heap.size v w') := fun o o' v h => wsame_any an an' no cn cn' k3 k4 v ((hn.below (hle h)).mono (hle h).size) ((hn'.below (hle h)).mono (hle h).size)
  clear hy hn hy' hn' hle k2 k4
  generalize yes.length = ny at *
  generalize no.length = nn at *
  go_enter Tryz.func11, Tryz.ntmps11
  go_wp2_with (fail)
  have hb1 : ((w.alloc (.cells #[.string (bs name), .slice ay ny cy, .slice an nn cn, .bool clear, .float .f64 wt] 29)).alloc (.cells #[.string (bs name), .slice ay' ny cy', .slice an' nn cn', .bool clear, .float .f64 wt] 30)).heap[w.heap.size]? = some (.cells #[.string (bs name), .slice ay ny cy, .slice an nn cn, .bool clear, .float .f64 wt] 29) := by rw [heap_alloc_old _ _ (by simp), heap_alloc_new]
  have hb2 : ((w.alloc (.cells #[.string (bs name), .slice ay ny cy, .slice an nn cn, .bool clear, .float .f64 wt] 29)).alloc (.cells #[.string (bs name), .slice ay' ny cy', .slice an' nn cn', .bool clear, .float .f64 wt] 30)).heap[w.heap.size + 1]? = some (.cells #[.string (bs name), .slice ay' ny cy', .slice an' nn cn', .bool clear, .float .f64 wt] 30) := by have := heap_alloc_new (w.alloc (.cells #[.string (bs name), .slice ay ny cy, .slice an nn cn, .bool clear, .float .f64 wt] 29)) (.cells #[.string (bs name), .slice ay' ny cy', .slice an' nn cn', .bool clear, .float .f64 wt] 30); simpa using this
  have c0 : ((w.alloc (.cells #[.string (bs name), .slice ay ny cy, .slice an nn cn, .bool clear, .float .f64 wt] 29)).alloc (.cells #[.string (bs name), .slice ay' ny cy', .slice an' nn cn', .bool clear, .float .f64 wt] 30)).cell? ⟨w.heap.size, 0, none⟩ = some (.string (bs name)) := by rw [cell_of_row _ _ _ _ _ _ hb1]; rfl
  have d0 : ((w.alloc (.cells #[.string (bs name), .slice ay ny cy, .slice an nn cn, .bool clear, .float .f64 wt] 29)).alloc (.cells #[.string (bs name), .slice ay' ny cy', .slice an' nn cn', .bool clear, .float .f64 wt] 30)).cell? ⟨w.heap.size + 1, 0, none⟩ = some (.string (bs name)) := by rw [cell_of_row _ _ _ _ _ _ hb2]; rfl
  have c1 : ((w.alloc (.cells #[.string (bs name), .slice ay ny cy, .slice an nn cn, .bool clear, .float .f64 wt] 29)).alloc (.cells #[.string (bs name), .slice ay' ny cy', .slice an' nn cn', .bool clear, .float .f64 wt] 30)).cell? ⟨w.heap.size, 1, none⟩ = some (.slice ay ny cy) := by rw [cell_of_row _ _ _ _ _ _ hb1]; rfl
  have d1 : ((w.alloc (.cells #[.string (bs name), .slice ay ny cy, .slice an nn cn, .bool clear, .float .f64 wt] 29)).alloc (.cells #[.string (bs name), .slice ay' ny cy', .slice an' nn cn', .bool clear, .float .f64 wt] 30)).cell? ⟨w.heap.size + 1, 1, none⟩ = some (.slice ay' ny cy') := by rw [cell_of_row _ _ _ _ _ _ hb2]; rfl
  have c2 : ((w.alloc (.cells #[.string (bs name), .slice ay ny cy, .slice an nn cn, .bool clear, .float .f64 wt] 29)).alloc (.cells #[.string (bs name), .slice ay' ny cy', .slice an' nn cn', .bool clear, .float .f64 wt] 30)).cell? ⟨w.heap.size, 2, none⟩ = some (.slice an nn cn) := by rw [cell_of_row _ _ _ _ _ _ hb1]; rfl
  have d2 : ((w.alloc (.cells #[.string (bs name), .slice ay ny cy, .slice an nn cn, .bool clear, .float .f64 wt] 29)).alloc (.cells #[.string (bs name), .slice ay' ny cy', .slice an' nn cn', .bool clear, .float .f64 wt] 30)).cell? ⟨w.heap.size + 1, 2, none⟩ = some (.slice an' nn cn') := by rw [cell_of_row _ _ _ _ _ _ hb2]; rfl
  have c3 : ((w.alloc (.cells #[.string (bs name), .slice ay ny cy, .slice an nn cn, .bool clear, .float .f64 wt] 29)).alloc (.cells #[.string (bs name), .slice ay' ny cy', .slice an' nn cn', .bool clear, .float .f64 wt] 30)).cell? ⟨w.heap.size, 3, none⟩ = some (.bool clear) := by rw [cell_of_row _ _ _ _ _ _ hb1]; rfl
  have d3 : ((w.alloc (.cells #[.string (bs name), .slice ay ny cy, .slice an nn cn, .bool clear, .float .f64 wt] 29)).alloc (.cells #[.string (bs name), .slice ay' ny cy', .slice an' nn cn', .bool clear, .float .f64 wt] 30)).cell? ⟨w.heap.size + 1, 3, none⟩ = some (.bool clear) := by rw [cell_of_row _ _ _ _ _ _ hb2]; rfl
  have c4 : ((w.alloc (.cells #[.string (bs name), .slice ay ny cy, .slice an nn cn, .bool clear, .float .f64 wt] 29)).alloc (.cells #[.string (bs name), .slice ay' ny cy', .slice an' nn cn', .bool clear, .float .f64 wt] 30)).cell? ⟨w.heap.size, 4, none⟩ = some (.float .f64 wt) := by rw [cell_of_row _ _ _ _ _ _ hb1]; rfl
  have d4 : ((w.alloc (.cells #[.string (bs name), .slice ay ny cy, .slice an nn cn, .bool clear, .float .f64 wt] 29)).alloc (.cells #[.string (bs name), .slice ay' ny cy', .slice an' nn cn', .bool clear, .float .f64 wt] 30)).cell? ⟨w.heap.size + 1, 4, none⟩ = some (.float .f64 wt) := by rw [cell_of_row _ _ _ _ _ _ hb2]; rfl
  have hY := hY.out (.cells #[.string (bs name), .slice ay ny cy, .slice an nn cn, .bool clear, .float .f64 wt] 29) (.cells #[.string (bs name), .slice ay' ny cy', .slice an' nn cn', .bool clear, .float .f64 wt] 30)
  have hO := hO.out (.cells #[.string (bs name), .slice ay ny cy, .slice an nn cn, .bool clear, .float .f64 wt] 29) (.cells #[.string (bs name), .slice ay' ny cy', .slice an' nn cn', .bool clear, .float .f64 wt] 30)
  clear hb1 hb2
  refine Go.Ev.wp_region_plan (fun v => Below (w.heap.size + 2) ((w.alloc (.cells #[.string (bs name), .slice ay ny cy, .slice an nn cn, .bool clear, .float .f64 wt] 29)).alloc (.cells #[.string (bs name), .slice ay' ny cy', .slice an' nn cn', .bool clear, .float .f64 wt] 30)) v) [.pointer (some ⟨w.heap.size, 0, none⟩), .string (bs name), .pointer (some ⟨w.heap.size + 1, 0, none⟩), .string (bs name), .bool true, .bool true, .pointer (some ⟨w.heap.size, 1, none⟩), .slice ay ny cy, .pointer (some ⟨w.heap.size + 1, 1, none⟩), .slice ay' ny cy', .bool true, .bool true, .bool true, .pointer (some ⟨w.heap.size, 2, none⟩), .slice an nn cn, .pointer (some ⟨w.heap.size + 1, 2, none⟩), .slice an' nn cn', .bool true, .bool true, .bool true, .pointer (some ⟨w.heap.size, 3, none⟩), .bool clear, .pointer (some ⟨w.heap.size + 1, 3, none⟩), .bool clear, .bool true, .bool true, .bool true, .pointer (some ⟨w.heap.size, 4, none⟩), .float .f64 wt, .int .u64 (wt : Nat), .pointer (some ⟨w.heap.size + 1, 4, none⟩), .float .f64 wt, .int .u64 (wt : Nat), .bool true, .bool true, .bool true] hm (by kernel_rfl) (by kernel_rfl) ((Below.refl _ _).drew) ?_
  refine ⟨fun v K hv hK => ?_, ?_⟩
  · go_simp; exact hK _ hv
  simp only [Act.put, List.setIfInBounds_toArray, List.set_cons_succ, List.set_cons_zero, List.headD_cons, List.tail_cons]
  refine ⟨fun v K hv hK => ?_, ?_⟩
  · have hc := (hv.cell (by exact hlt)).trans c0; go_simp; exact hK _ hv
  simp only [Act.put, List.setIfInBounds_toArray, List.set_cons_succ, List.set_cons_zero, List.headD_cons, List.tail_cons]
  refine ⟨fun v K hv hK => ?_, ?_⟩
  · go_simp; exact hK _ hv
  simp only [Act.put, List.setIfInBounds_toArray, List.set_cons_succ, List.set_cons_zero, List.headD_cons, List.tail_cons]
  refine ⟨fun v K hv hK => ?_, ?_⟩
  · have hc := (hv.cell (by exact hlt1)).trans d0; go_simp; exact hK _ hv
  simp only [Act.put, List.setIfInBounds_toArray, List.set_cons_succ, List.set_cons_zero, List.headD_cons, List.tail_cons]
  refine ⟨fun v K hv hK => ?_, ?_⟩
  · go_simp; exact hK _ hv
  simp only [Act.put, List.setIfInBounds_toArray, List.set_cons_succ, List.set_cons_zero, List.headD_cons, List.tail_cons]
  refine ⟨fun v K hv hK => ?_, ?_⟩
  · go_simp; exact hK _ hv
  simp only [Act.put, List.setIfInBounds_toArray, List.set_cons_succ, List.set_cons_zero, List.headD_cons, List.tail_cons]
  refine ⟨fun v K hv hK => ?_, ?_⟩
  · go_simp; exact hK _ hv
  simp only [Act.put, List.setIfInBounds_toArray, List.set_cons_succ, List.set_cons_zero, List.headD_cons, List.tail_cons]
  refine ⟨fun v K hv hK => ?_, ?_⟩
  · have hc := (hv.cell (by exact hlt)).trans c1; go_simp; exact hK _ hv
  simp only [Act.put, List.setIfInBounds_toArray, List.set_cons_succ, List.set_cons_zero, List.headD_cons, List.tail_cons]
  refine ⟨fun v K hv hK => ?_, ?_⟩
  · go_simp; exact hK _ hv
  simp only [Act.put, List.setIfInBounds_toArray, List.set_cons_succ, List.set_cons_zero, List.headD_cons, List.tail_cons]
  refine ⟨fun v K hv hK => ?_, ?_⟩
  · have hc := (hv.cell (by exact hlt1)).trans d1; go_simp; exact hK _ hv
  simp only [Act.put, List.setIfInBounds_toArray, List.set_cons_succ, List.set_cons_zero, List.headD_cons, List.tail_cons]
  refine ⟨fun v K hv hK => ?_, ?_⟩
  · go_simp; refine (hY _ hv).mono ?_; rintro e w' ⟨rfl, hB⟩; exact hK _ (hv.trans (hB.mono (by have := hv.size; simp at this ⊢; omega)))
  simp only [Act.put, List.setIfInBounds_toArray, List.set_cons_succ, List.set_cons_zero, List.headD_cons, List.tail_cons]
  refine ⟨fun v K hv hK => ?_, ?_⟩
  · go_simp; exact hK _ hv
  simp only [Act.put, List.setIfInBounds_toArray, List.set_cons_succ, List.set_cons_zero, List.headD_cons, List.tail_cons]
  refine ⟨fun v K hv hK => ?_, ?_⟩
  · go_simp; exact hK _ hv
  simp only [Act.put, List.setIfInBounds_toArray, List.set_cons_succ, List.set_cons_zero, List.headD_cons, List.tail_cons]
  refine ⟨fun v K hv hK => ?_, ?_⟩
  · go_simp; exact hK _ hv
  simp only [Act.put, List.setIfInBounds_toArray, List.set_cons_succ, List.set_cons_zero, List.headD_cons, List.tail_cons]
  refine ⟨fun v K hv hK => ?_, ?_⟩
  · have hc := (hv.cell (by exact hlt)).trans c2; go_simp; exact hK _ hv
  simp only [Act.put, List.setIfInBounds_toArray, List.set_cons_succ, List.set_cons_zero, List.headD_cons, List.tail_cons]
  refine ⟨fun v K hv hK => ?_, ?_⟩
  · go_simp; exact hK _ hv
  simp only [Act.put, List.setIfInBounds_toArray, List.set_cons_succ, List.set_cons_zero, List.headD_cons, List.tail_cons]
  refine ⟨fun v K hv hK => ?_, ?_⟩
  · have hc := (hv.cell (by exact hlt1)).trans d2; go_simp; exact hK _ hv
  simp only [Act.put, List.setIfInBounds_toArray, List.set_cons_succ, List.set_cons_zero, List.headD_cons, List.tail_cons]
  refine ⟨fun v K hv hK => ?_, ?_⟩
  · go_simp; refine (hO _ hv).mono ?_; rintro e w' ⟨rfl, hB⟩; exact hK _ (hv.trans (hB.mono (by have := hv.size; simp at this ⊢; omega)))
  simp only [Act.put, List.setIfInBounds_toArray, List.set_cons_succ, List.set_cons_zero, List.headD_cons, List.tail_cons]
  refine ⟨fun v K hv hK => ?_, ?_⟩
  · go_simp; exact hK _ hv
  simp only [Act.put, List.setIfInBounds_toArray, List.set_cons_succ, List.set_cons_zero, List.headD_cons, List.tail_cons]
  refine ⟨fun v K hv hK => ?_, ?_⟩
  · go_simp; exact hK _ hv
  simp only [Act.put, List.setIfInBounds_toArray, List.set_cons_succ, List.set_cons_zero, List.headD_cons, List.tail_cons]
  refine ⟨fun v K hv hK => ?_, ?_⟩
  · go_simp; exact hK _ hv
  simp only [Act.put, List.setIfInBounds_toArray, List.set_cons_succ, List.set_cons_zero, List.headD_cons, List.tail_cons]
  refine ⟨fun v K hv hK => ?_, ?_⟩
  · have hc := (hv.cell (by exact hlt)).trans c3; go_simp; exact hK _ hv
  simp only [Act.put, List.setIfInBounds_toArray, List.set_cons_succ, List.set_cons_zero, List.headD_cons, List.tail_cons]
  refine ⟨fun v K hv hK => ?_, ?_⟩
  · go_simp; exact hK _ hv
  simp only [Act.put, List.setIfInBounds_toArray, List.set_cons_succ, List.set_cons_zero, List.headD_cons, List.tail_cons]
  refine ⟨fun v K hv hK => ?_, ?_⟩
  · have hc := (hv.cell (by exact hlt1)).trans d3; go_simp; exact hK _ hv
  simp only [Act.put, List.setIfInBounds_toArray, List.set_cons_succ, List.set_cons_zero, List.headD_cons, List.tail_cons]
  refine ⟨fun v K hv hK => ?_, ?_⟩
  · go_simp; exact hK _ hv
  simp only [Act.put, List.setIfInBounds_toArray, List.set_cons_succ, List.set_cons_zero, List.headD_cons, List.tail_cons]
  refine ⟨fun v K hv hK => ?_, ?_⟩
  · go_simp; exact hK _ hv
  simp only [Act.put, List.setIfInBounds_toArray, List.set_cons_succ, List.set_cons_zero, List.headD_cons, List.tail_cons]
  refine ⟨fun v K hv hK => ?_, ?_⟩
  · go_simp; exact hK _ hv
  simp only [Act.put, List.setIfInBounds_toArray, List.set_cons_succ, List.set_cons_zero, List.headD_cons, List.tail_cons]
  refine ⟨fun v K hv hK => ?_, ?_⟩
  · go_simp; exact hK _ hv
  simp only [Act.put, List.setIfInBounds_toArray, List.set_cons_succ, List.set_cons_zero, List.headD_cons, List.tail_cons]
  refine ⟨fun v K hv hK => ?_, ?_⟩
  · have hc := (hv.cell (by exact hlt)).trans c4; go_simp; exact hK _ hv
  simp only [Act.put, List.setIfInBounds_toArray, List.set_cons_succ, List.set_cons_zero, List.headD_cons, List.tail_cons]
  refine ⟨fun v K hv hK => ?_, ?_⟩
  · go_simp; exact hK _ hv
  simp only [Act.put, List.setIfInBounds_toArray, List.set_cons_succ, List.set_cons_zero, List.headD_cons, List.tail_cons]
  refine ⟨fun v K hv hK => ?_, ?_⟩
  · go_simp; exact hK _ hv
  simp only [Act.put, List.setIfInBounds_toArray, List.set_cons_succ, List.set_cons_zero, List.headD_cons, List.tail_cons]
  refine ⟨fun v K hv hK => ?_, ?_⟩
  · have hc := (hv.cell (by exact hlt1)).trans d4; go_simp; exact hK _ hv
  simp only [Act.put, List.setIfInBounds_toArray, List.set_cons_succ, List.set_cons_zero, List.headD_cons, List.tail_cons]
  refine ⟨fun v K hv hK => ?_, ?_⟩
  · go_simp; exact hK _ hv
  simp only [Act.put, List.setIfInBounds_toArray, List.set_cons_succ, List.set_cons_zero, List.headD_cons, List.tail_cons]
  refine ⟨fun v K hv hK => ?_, ?_⟩
  · go_simp; exact hK _ hv
  simp only [Act.put, List.setIfInBounds_toArray, List.set_cons_succ, List.set_cons_zero, List.headD_cons, List.tail_cons]
  refine ⟨fun v K hv hK => ?_, ?_⟩
  · go_simp; exact hK _ hv
  simp only [Act.put, List.setIfInBounds_toArray, List.set_cons_succ, List.set_cons_zero, List.headD_cons, List.tail_cons]
  refine ⟨fun v K hv hK => ?_, ?_⟩
  · go_simp; exact hK _ hv
  simp only [Act.put, List.setIfInBounds_toArray, List.set_cons_succ, List.set_cons_zero, List.headD_cons, List.tail_cons]
  intro w' hv
  go_wp2_with (fail)
  go_ret
  exact ⟨rfl, (((Below.refl _ w).alloc (Nat.le_refl _) _).alloc (by simp) _).trans (hv.mono (by omega))⟩
end Go.Proofs.YtcdcchkaohnkdaaGreatDoor
