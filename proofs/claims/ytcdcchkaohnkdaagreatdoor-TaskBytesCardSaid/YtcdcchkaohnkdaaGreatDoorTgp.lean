/- Which tasks are good: the program's answer. -/
import Derived.Test.YtcdcchkaohnkdaaGreatDoorTgo
namespace Go.Proofs.YtcdcchkaohnkdaaGreatDoor
open Go.RowKit

set_option maxRecDepth 100000 in
set_option maxHeartbeats 6400000 in
theorem tgood_any (t : Tk) (v : Value) (hok : t.ok) (w : World) (hv : TkV w v t) : Calls Tryz.prog 9 #[v] w fun e w' => e = .returned (.bool (goodT t)) ∧ Below w.heap.size w w' := by
  have hgt := goodT_eq t hv.wt
  obtain ⟨name, yes, no, clear, wt⟩ := t
  obtain ⟨⟨vy, vn, rfl, ⟨ay, cy, rfl, hy⟩, ⟨an, cn, rfl, hn⟩⟩, hw⟩ := hv
  obtain ⟨s1, ⟨s2, s3⟩, ⟨s4, s5⟩⟩ := hok
  simp only at hw hy hn s1 s2 s3 s4 s5 hgt
  have hm : Tryz.prog.follows .mixedOrders = true := by kernel_rfl
  have r31 := run_bits31
  have hlt : w.heap.size < w.heap.size + 1 := by omega
  have hgtH : Hid (goodT ⟨name, yes, no, clear, wt⟩ = (goodName name && (decide (1 ≤ yes.length + no.length) && (decide (yes.length + no.length ≤ 64) && (!((yes ++ no).any fun l => !goodWord l) &&
    (((FloatKind.f64.format.order wt 0 == some Ordering.gt) || (FloatKind.f64.format.order wt 0 == some Ordering.eq)) && (!bigN wt && decide (canN wt = wt)))))))) := hgt
  have hN : Hid (∀ w, Calls Tryz.prog 32 #[.string (bs name)] w fun e w' => e = .returned (.bool (goodName name)) ∧ Below w.heap.size w w') := fun w => lgood_any name s1 w
  have hC : Hid (∀ (g : Nat) (v : World), Below w.heap.size w v → g < v.heap.size → v.cell? ⟨g, 0, none⟩ = some (.slice ay yes.length cy) → v.cell? ⟨g, 1, none⟩ = some (.slice an no.length cn) → 0 < yes.length + no.length →
      Calls Tryz.prog 34 #[.slice (some ⟨g, 0, none⟩) 2 2] v fun e w' => ∃ v', e = .returned v' ∧ ListsV w'.heap.size w' v' (yes ++ no) ∧ Below v.heap.size v w') :=
    fun g v h hg c0 c1 h0 => concat_any g yes no ay an cy cn v hg c0 c1 ((hy.below h).mono h.size) ((hn.below h).mono h.size) h0 (by omega)
  have hall : Hid (∀ (a : Option Addr) (cap : Nat) (v : World), ListsAt v.heap.size v a (yes ++ no) → Calls Tryz.prog 33 #[.slice a (yes ++ no).length cap, .func (.func 35) #[] #[]] v fun e w' => e = .returned (.bool ((yes ++ no).any fun l => !goodWord l)) ∧ Below v.heap.size v w') :=
    fun a cap v h => contains_lst a (yes ++ no) cap (by rw [List.length_append]; omega) (fun l hl => by
      rcases List.mem_append.1 hl with h' | h'
      · have := s3 l h'; omega
      · have := s5 l h'; omega) v h
  have hwt : (wt : Int) < 18446744073709551616 := by omega
  clear hy hn s3 s5 hgt s1
  generalize hll : yes ++ no = ll at *
  generalize (ll.any fun l => !goodWord l) = g4 at *
  generalize goodName name = g1 at *
  generalize yes.length = ny at *
  generalize no.length = nn at *
  clear hll
  obtain ⟨z, hz⟩ : ∃ z : Nat, ny + nn = z := ⟨_, rfl⟩
  have hsum : (ny : Int) + (nn : Int) = (z : Int) := by omega
  have hzw : wrap64 (z : Int) = (z : Int) := wrap64_nat (by omega)
  have hzv : Hid (ny + nn = z) := hz
  rw [hz] at hgtH hC
  clear hz s2 s4
  have hB0 : Hid (Below w.heap.size w (w.alloc (.cells #[.string (bs name), .slice ay ny cy, .slice an nn cn, .bool clear, .float .f64 wt] 29))) := (Below.refl _ w).alloc (Nat.le_refl _) _
  cases g1 with
  | false =>
    have hres : Hid (goodT ⟨name, yes, no, clear, wt⟩ = false) := by unfold Hid; rw [hgtH.out]; rfl
    clear hgtH hC hall
    go_enter Tryz.func9, Tryz.ntmps9
    go_wp2_with (fail)
    go_at_call 32
    refine (hN.out _).mono ?_
    rintro e w1 ⟨rfl, hB1⟩
    have hB2 : Hid (Below w.heap.size w w1) := hB0.out.trans (hB1.mono hB0.out.size)
    have hbk : Hid (w1.heap[w.heap.size]? = some (.cells #[.string (bs name), .slice ay ny cy, .slice an nn cn, .bool clear, .float .f64 wt] 29)) := (hB1.block _ (by simp)).trans (heap_alloc_new w _)
    have hsz1 : w.heap.size < w1.heap.size := by have := hB1.size; simp at this; omega
    clear hB1
    go_wp2_with (fail)
    go_ret
    exact ⟨by rw [hres.out]; rfl, hB2.out⟩
  | true =>
    by_cases h1 : z < 1
    · have h1i : (z : Int) < 1 := by omega
      have hres : Hid (goodT ⟨name, yes, no, clear, wt⟩ = false) := by unfold Hid; rw [hgtH.out, decide_eq_false (show ¬ (1 ≤ z) by omega)]; rfl
      clear hgtH hC hall h1
      go_enter Tryz.func9, Tryz.ntmps9
      go_wp2_with (fail)
      go_at_call 32
      refine (hN.out _).mono ?_
      rintro e w1 ⟨rfl, hB1⟩
      have hB2 : Hid (Below w.heap.size w w1) := hB0.out.trans (hB1.mono hB0.out.size)
      have hbk : Hid (w1.heap[w.heap.size]? = some (.cells #[.string (bs name), .slice ay ny cy, .slice an nn cn, .bool clear, .float .f64 wt] 29)) := (hB1.block _ (by simp)).trans (heap_alloc_new w _)
      have hsz1 : w.heap.size < w1.heap.size := by have := hB1.size; simp at this; omega
      clear hB1
      go_wp2_with (fail)
      go_ret
      exact ⟨by rw [hres.out]; rfl, hB2.out⟩
    have h1i : ((z : Int) < 1) = False := by rw [eq_iff_iff, iff_false]; omega
    by_cases h2 : 64 < z
    · have h2i : (64 : Int) < (z : Int) := by omega
      have hres : Hid (goodT ⟨name, yes, no, clear, wt⟩ = false) := by unfold Hid; rw [hgtH.out, decide_eq_false (show ¬ (z ≤ 64) by omega)]; simp
      clear hgtH hC hall h1 h2
      go_enter Tryz.func9, Tryz.ntmps9
      go_wp2_with (fail)
      go_at_call 32
      refine (hN.out _).mono ?_
      rintro e w1 ⟨rfl, hB1⟩
      have hB2 : Hid (Below w.heap.size w w1) := hB0.out.trans (hB1.mono hB0.out.size)
      have hbk : Hid (w1.heap[w.heap.size]? = some (.cells #[.string (bs name), .slice ay ny cy, .slice an nn cn, .bool clear, .float .f64 wt] 29)) := (hB1.block _ (by simp)).trans (heap_alloc_new w _)
      have hsz1 : w.heap.size < w1.heap.size := by have := hB1.size; simp at this; omega
      clear hB1
      go_wp2_with (fail)
      go_ret
      exact ⟨by rw [hres.out]; rfl, hB2.out⟩
    have h2i : ((64 : Int) < (z : Int)) = False := by rw [eq_iff_iff, iff_false]; omega
    have hgt2 : Hid (goodT ⟨name, yes, no, clear, wt⟩ = (!g4 && (((FloatKind.f64.format.order wt 0 == some Ordering.gt) || (FloatKind.f64.format.order wt 0 == some Ordering.eq)) && (!bigN wt && decide (canN wt = wt))))) := by
      unfold Hid; rw [hgtH.out, decide_eq_true (show 1 ≤ z by omega), decide_eq_true (show z ≤ 64 by omega)]; simp
    have hpos : Hid (0 < z) := by unfold Hid; omega
    clear hgtH h1 h2
    go_enter Tryz.func9, Tryz.ntmps9
    go_wp2_with (fail)
    go_at_call 32
    refine (hN.out _).mono ?_
    rintro e w1 ⟨rfl, hB1⟩
    have hB2 : Hid (Below w.heap.size w w1) := hB0.out.trans (hB1.mono hB0.out.size)
    have hbk : Hid (w1.heap[w.heap.size]? = some (.cells #[.string (bs name), .slice ay ny cy, .slice an nn cn, .bool clear, .float .f64 wt] 29)) := (hB1.block _ (by simp)).trans (heap_alloc_new w _)
    have hsz1 : w.heap.size < w1.heap.size := by have := hB1.size; simp at this; omega
    clear hB1
    have c1 : w1.cell? ⟨w.heap.size, 1, none⟩ = some (.slice ay ny cy) := by rw [cell_of_row _ _ _ _ _ _ hbk.out]; rfl
    have c2 : w1.cell? ⟨w.heap.size, 2, none⟩ = some (.slice an nn cn) := by rw [cell_of_row _ _ _ _ _ _ hbk.out]; rfl
    go_wp2_with (fail)
    go_at_call 34
    have hbo : Below w1.heap.size w1 (w1.alloc (.cells #[.slice ay ny cy, .slice an nn cn] 22)) := (Below.refl _ w1).alloc (Nat.le_refl _) _
    refine (hC.out w1.heap.size _ (hB2.out.trans (hbo.mono (by omega))) (by simp) (by rw [cell_of_row _ _ _ _ _ _ (heap_alloc_new w1 _)]; rfl) (by rw [cell_of_row _ _ _ _ _ _ (heap_alloc_new w1 _)]; rfl) hpos.out).mono ?_
    rintro e w2 ⟨v2, rfl, ⟨a2, cap2, rfl, hL2⟩, hB3⟩
    have hbw2 : Below w1.heap.size w1 w2 := hbo.trans (hB3.mono (by simp))
    have hB2' : Hid (Below w.heap.size w w2) := hB2.out.trans (hbw2.mono (by omega))
    have hbk2 : Hid (w2.heap[w.heap.size]? = some (.cells #[.string (bs name), .slice ay ny cy, .slice an nn cn, .bool clear, .float .f64 wt] 29)) := (hbw2.block _ hsz1).trans hbk.out
    have hsz2 : w.heap.size < w2.heap.size := by have := hbw2.size; omega
    have hL2H : Hid (ListsAt w2.heap.size w2 a2 ll) := hL2
    clear hbo hbw2 hB3 hL2 hbk hB2 hsz1 c1 c2
    go_wp2_with (fail)
    go_at_call 33
    refine (hall.out _ _ _ hL2H.out).mono ?_
    rintro e w3 ⟨rfl, hB4⟩
    have hB5 : Hid (Below w.heap.size w w3) := hB2'.out.trans (hB4.mono (by omega))
    have hbk3 : w3.heap[w.heap.size]? = some (.cells #[.string (bs name), .slice ay ny cy, .slice an nn cn, .bool clear, .float .f64 wt] 29) := (hB4.block _ hsz2).trans hbk2.out
    have hsz3 : Hid (w.heap.size + 1 ≤ w3.heap.size) := by unfold Hid; have := hB4.size; omega
    have c4 : w3.cell? ⟨w.heap.size, 4, none⟩ = some (.float .f64 wt) := by rw [cell_of_row _ _ _ _ _ _ hbk3]; rfl
    clear hB4 hL2H hbk2 hB2' hsz2 hbk3
    cases g4 with
    | true =>
      have hres : Hid (goodT ⟨name, yes, no, clear, wt⟩ = false) := by unfold Hid; rw [hgt2.out]; rfl
      clear hgt2
      go_wp2_with (fail)
      go_ret
      exact ⟨by rw [hres.out]; rfl, hB5.out⟩
    | false =>
      have hgt3 : Hid (goodT ⟨name, yes, no, clear, wt⟩ = (((FloatKind.f64.format.order wt 0 == some Ordering.gt) || (FloatKind.f64.format.order wt 0 == some Ordering.eq)) && (!bigN wt && decide (canN wt = wt)))) := by unfold Hid; rw [hgt2.out]; rfl
      clear hgt2
      have hI : Hid (∀ w, Calls Tryz.prog 37 #[.float .f64 wt, .int .i64 1] w fun e w' => e = .returned (.bool (bigN wt)) ∧ w = w') := fun w => isinf_any wt w
      have hCn : Hid (∀ w, Calls Tryz.prog 39 #[.float .f64 wt] w fun e w' => e = .returned (.float .f64 (canN wt)) ∧ w = w') := fun w => canon_any wt w
      go_wp2_with (fail)
      obtain ⟨ge, hge0⟩ : ∃ b, ((FloatKind.f64.format.order wt 0 == some Ordering.gt) || (FloatKind.f64.format.order wt 0 == some Ordering.eq)) = b := ⟨_, rfl⟩
      rw [hge0] at hgt3
      have hge : Hid (((FloatKind.f64.format.order wt 0 == some Ordering.gt) || (FloatKind.f64.format.order wt 0 == some Ordering.eq)) = ge) := hge0
      clear hge0
      cases ge with
      | false =>
        have hres : Hid (goodT ⟨name, yes, no, clear, wt⟩ = false) := by unfold Hid; rw [hgt3.out]; rfl
        clear hgt3
        refine Go.Ev.wp_region_plan (fun v => Below (w.heap.size + 1) w3 v) [.pointer (some ⟨w.heap.size, 4, none⟩), .float .f64 wt, .bool false, .bool false, undef, undef, undef, undef, .bool false, .bool false, undef, undef, undef, undef, undef, undef, undef, undef, .bool false, .bool false] hm (by kernel_rfl) (by kernel_rfl) ((Below.refl _ _).drew) ?_
        refine ⟨fun v K hv hK => ?_, ?_⟩
        · go_simp; exact hK _ hv
        simp only [Act.put, List.setIfInBounds_toArray, List.set_cons_succ, List.set_cons_zero, List.headD_cons, List.tail_cons]
        refine ⟨fun v K hv hK => ?_, ?_⟩
        · have hc := (hv.cell (by exact hlt)).trans c4; go_simp; exact hK _ hv
        simp only [Act.put, List.setIfInBounds_toArray, List.set_cons_succ, List.set_cons_zero, List.headD_cons, List.tail_cons]
        refine ⟨fun v K hv hK => ?_, ?_⟩
        · go_simp; rw [hge.out]; exact hK _ hv
        simp only [Act.put, List.setIfInBounds_toArray, List.set_cons_succ, List.set_cons_zero, List.headD_cons, List.tail_cons]
        refine ⟨fun v K hv hK => ?_, ?_⟩
        · go_simp; exact hK _ hv
        simp only [Act.put, List.setIfInBounds_toArray, List.set_cons_succ, List.set_cons_zero, List.headD_cons, List.tail_cons]
        refine ⟨fun v K hv hK => ?_, ?_⟩
        · go_simp; exact hK _ hv
        simp only [Act.put, List.setIfInBounds_toArray, List.set_cons_succ, List.set_cons_zero, List.headD_cons, List.tail_cons]
        refine ⟨fun v K hv hK => ?_, ?_⟩
        · go_simp; exact hK _ hv
        simp only [Act.put, List.setIfInBounds_toArray, List.set_cons_succ, List.set_cons_zero, List.headD_cons, List.tail_cons]
        refine ⟨fun v K hv hK => ?_, ?_⟩
        · go_simp; exact hK _ hv
        simp only [Act.put, List.setIfInBounds_toArray, List.set_cons_succ, List.set_cons_zero, List.headD_cons, List.tail_cons]
        refine ⟨fun v K hv hK => ?_, ?_⟩
        · go_simp; exact hK _ hv
        simp only [Act.put, List.setIfInBounds_toArray, List.set_cons_succ, List.set_cons_zero, List.headD_cons, List.tail_cons]
        refine ⟨fun v K hv hK => ?_, ?_⟩
        · go_simp; exact hK _ hv
        simp only [Act.put, List.setIfInBounds_toArray, List.set_cons_succ, List.set_cons_zero, List.headD_cons, List.tail_cons]
        refine ⟨fun v K hv hK => ?_, ?_⟩
        · go_simp; exact hK _ hv
        simp only [Act.put, List.setIfInBounds_toArray, List.set_cons_succ, List.set_cons_zero, List.headD_cons, List.tail_cons]
        refine ⟨fun v K hv hK => ?_, ?_⟩
        · go_simp; exact hK _ hv
        simp only [Act.put, List.setIfInBounds_toArray, List.set_cons_succ, List.set_cons_zero, List.headD_cons, List.tail_cons]
        refine ⟨fun v K hv hK => ?_, ?_⟩
        · go_simp; exact hK _ hv
        simp only [Act.put, List.setIfInBounds_toArray, List.set_cons_succ, List.set_cons_zero, List.headD_cons, List.tail_cons]
        refine ⟨fun v K hv hK => ?_, ?_⟩
        · go_simp; exact hK _ hv
        simp only [Act.put, List.setIfInBounds_toArray, List.set_cons_succ, List.set_cons_zero, List.headD_cons, List.tail_cons]
        refine ⟨fun v K hv hK => ?_, ?_⟩
        · go_simp; exact hK _ hv
        simp only [Act.put, List.setIfInBounds_toArray, List.set_cons_succ, List.set_cons_zero, List.headD_cons, List.tail_cons]
        refine ⟨fun v K hv hK => ?_, ?_⟩
        · go_simp; exact hK _ hv
        simp only [Act.put, List.setIfInBounds_toArray, List.set_cons_succ, List.set_cons_zero, List.headD_cons, List.tail_cons]
        refine ⟨fun v K hv hK => ?_, ?_⟩
        · go_simp; exact hK _ hv
        simp only [Act.put, List.setIfInBounds_toArray, List.set_cons_succ, List.set_cons_zero, List.headD_cons, List.tail_cons]
        refine ⟨fun v K hv hK => ?_, ?_⟩
        · go_simp; exact hK _ hv
        simp only [Act.put, List.setIfInBounds_toArray, List.set_cons_succ, List.set_cons_zero, List.headD_cons, List.tail_cons]
        refine ⟨fun v K hv hK => ?_, ?_⟩
        · go_simp; exact hK _ hv
        simp only [Act.put, List.setIfInBounds_toArray, List.set_cons_succ, List.set_cons_zero, List.headD_cons, List.tail_cons]
        refine ⟨fun v K hv hK => ?_, ?_⟩
        · go_simp; exact hK _ hv
        simp only [Act.put, List.setIfInBounds_toArray, List.set_cons_succ, List.set_cons_zero, List.headD_cons, List.tail_cons]
        refine ⟨fun v K hv hK => ?_, ?_⟩
        · go_simp; exact hK _ hv
        simp only [Act.put, List.setIfInBounds_toArray, List.set_cons_succ, List.set_cons_zero, List.headD_cons, List.tail_cons]
        intro w' hv
        go_wp2_with (fail)
        go_ret
        exact ⟨by rw [hres.out]; rfl, hB5.out.trans (hv.mono (by omega))⟩
      | true =>
        generalize bigN wt = bg at *
        cases bg with
        | true =>
          have hres : Hid (goodT ⟨name, yes, no, clear, wt⟩ = false) := by unfold Hid; rw [hgt3.out]; rfl
          clear hgt3
          refine Go.Ev.wp_region_plan (fun v => Below (w.heap.size + 1) w3 v) [.pointer (some ⟨w.heap.size, 4, none⟩), .float .f64 wt, .bool true, .bool true, .pointer (some ⟨w.heap.size, 4, none⟩), .float .f64 wt, .bool true, .bool false, .bool false, .bool false, undef, undef, undef, undef, undef, undef, undef, undef, .bool false, .bool false] hm (by kernel_rfl) (by kernel_rfl) ((Below.refl _ _).drew) ?_
          refine ⟨fun v K hv hK => ?_, ?_⟩
          · go_simp; exact hK _ hv
          simp only [Act.put, List.setIfInBounds_toArray, List.set_cons_succ, List.set_cons_zero, List.headD_cons, List.tail_cons]
          refine ⟨fun v K hv hK => ?_, ?_⟩
          · have hc := (hv.cell (by exact hlt)).trans c4; go_simp; exact hK _ hv
          simp only [Act.put, List.setIfInBounds_toArray, List.set_cons_succ, List.set_cons_zero, List.headD_cons, List.tail_cons]
          refine ⟨fun v K hv hK => ?_, ?_⟩
          · go_simp; rw [hge.out]; exact hK _ hv
          simp only [Act.put, List.setIfInBounds_toArray, List.set_cons_succ, List.set_cons_zero, List.headD_cons, List.tail_cons]
          refine ⟨fun v K hv hK => ?_, ?_⟩
          · go_simp; exact hK _ hv
          simp only [Act.put, List.setIfInBounds_toArray, List.set_cons_succ, List.set_cons_zero, List.headD_cons, List.tail_cons]
          refine ⟨fun v K hv hK => ?_, ?_⟩
          · go_simp; exact hK _ hv
          simp only [Act.put, List.setIfInBounds_toArray, List.set_cons_succ, List.set_cons_zero, List.headD_cons, List.tail_cons]
          refine ⟨fun v K hv hK => ?_, ?_⟩
          · have hc := (hv.cell (by exact hlt)).trans c4; go_simp; exact hK _ hv
          simp only [Act.put, List.setIfInBounds_toArray, List.set_cons_succ, List.set_cons_zero, List.headD_cons, List.tail_cons]
          refine ⟨fun v K hv hK => ?_, ?_⟩
          · go_simp; refine (hI.out _).mono ?_; rintro e w' ⟨rfl, rfl⟩; exact hK _ hv
          simp only [Act.put, List.setIfInBounds_toArray, List.set_cons_succ, List.set_cons_zero, List.headD_cons, List.tail_cons]
          refine ⟨fun v K hv hK => ?_, ?_⟩
          · go_simp; exact hK _ hv
          simp only [Act.put, List.setIfInBounds_toArray, List.set_cons_succ, List.set_cons_zero, List.headD_cons, List.tail_cons]
          refine ⟨fun v K hv hK => ?_, ?_⟩
          · go_simp; exact hK _ hv
          simp only [Act.put, List.setIfInBounds_toArray, List.set_cons_succ, List.set_cons_zero, List.headD_cons, List.tail_cons]
          refine ⟨fun v K hv hK => ?_, ?_⟩
          · go_simp; exact hK _ hv
          simp only [Act.put, List.setIfInBounds_toArray, List.set_cons_succ, List.set_cons_zero, List.headD_cons, List.tail_cons]
          refine ⟨fun v K hv hK => ?_, ?_⟩
          · go_simp; exact hK _ hv
          simp only [Act.put, List.setIfInBounds_toArray, List.set_cons_succ, List.set_cons_zero, List.headD_cons, List.tail_cons]
          refine ⟨fun v K hv hK => ?_, ?_⟩
          · go_simp; exact hK _ hv
          simp only [Act.put, List.setIfInBounds_toArray, List.set_cons_succ, List.set_cons_zero, List.headD_cons, List.tail_cons]
          refine ⟨fun v K hv hK => ?_, ?_⟩
          · go_simp; exact hK _ hv
          simp only [Act.put, List.setIfInBounds_toArray, List.set_cons_succ, List.set_cons_zero, List.headD_cons, List.tail_cons]
          refine ⟨fun v K hv hK => ?_, ?_⟩
          · go_simp; exact hK _ hv
          simp only [Act.put, List.setIfInBounds_toArray, List.set_cons_succ, List.set_cons_zero, List.headD_cons, List.tail_cons]
          refine ⟨fun v K hv hK => ?_, ?_⟩
          · go_simp; exact hK _ hv
          simp only [Act.put, List.setIfInBounds_toArray, List.set_cons_succ, List.set_cons_zero, List.headD_cons, List.tail_cons]
          refine ⟨fun v K hv hK => ?_, ?_⟩
          · go_simp; exact hK _ hv
          simp only [Act.put, List.setIfInBounds_toArray, List.set_cons_succ, List.set_cons_zero, List.headD_cons, List.tail_cons]
          refine ⟨fun v K hv hK => ?_, ?_⟩
          · go_simp; exact hK _ hv
          simp only [Act.put, List.setIfInBounds_toArray, List.set_cons_succ, List.set_cons_zero, List.headD_cons, List.tail_cons]
          refine ⟨fun v K hv hK => ?_, ?_⟩
          · go_simp; exact hK _ hv
          simp only [Act.put, List.setIfInBounds_toArray, List.set_cons_succ, List.set_cons_zero, List.headD_cons, List.tail_cons]
          refine ⟨fun v K hv hK => ?_, ?_⟩
          · go_simp; exact hK _ hv
          simp only [Act.put, List.setIfInBounds_toArray, List.set_cons_succ, List.set_cons_zero, List.headD_cons, List.tail_cons]
          refine ⟨fun v K hv hK => ?_, ?_⟩
          · go_simp; exact hK _ hv
          simp only [Act.put, List.setIfInBounds_toArray, List.set_cons_succ, List.set_cons_zero, List.headD_cons, List.tail_cons]
          intro w' hv
          go_wp2_with (fail)
          go_ret
          exact ⟨by rw [hres.out]; rfl, hB5.out.trans (hv.mono (by omega))⟩
        | false =>
          by_cases hcw : canN wt = wt
          · have hres : Hid (goodT ⟨name, yes, no, clear, wt⟩ = true) := by unfold Hid; rw [hgt3.out, decide_eq_true hcw]; rfl
            have hcc : Hid (((wt : Int) == (canN wt : Int)) = true) := by unfold Hid; rw [hcw]; simp
            clear hgt3 hcw
            refine Go.Ev.wp_region_plan (fun v => Below (w.heap.size + 1) w3 v) [.pointer (some ⟨w.heap.size, 4, none⟩), .float .f64 wt, .bool true, .bool true, .pointer (some ⟨w.heap.size, 4, none⟩), .float .f64 wt, .bool false, .bool true, .bool true, .bool true, .pointer (some ⟨w.heap.size, 4, none⟩), .float .f64 wt, .int .u64 (wt : Nat), .pointer (some ⟨w.heap.size, 4, none⟩), .float .f64 wt, .float .f64 (canN wt), .int .u64 (canN wt : Nat), .bool true, .bool true, .bool true] hm (by kernel_rfl) (by kernel_rfl) ((Below.refl _ _).drew) ?_
            refine ⟨fun v K hv hK => ?_, ?_⟩
            · go_simp; exact hK _ hv
            simp only [Act.put, List.setIfInBounds_toArray, List.set_cons_succ, List.set_cons_zero, List.headD_cons, List.tail_cons]
            refine ⟨fun v K hv hK => ?_, ?_⟩
            · have hc := (hv.cell (by exact hlt)).trans c4; go_simp; exact hK _ hv
            simp only [Act.put, List.setIfInBounds_toArray, List.set_cons_succ, List.set_cons_zero, List.headD_cons, List.tail_cons]
            refine ⟨fun v K hv hK => ?_, ?_⟩
            · go_simp; rw [hge.out]; exact hK _ hv
            simp only [Act.put, List.setIfInBounds_toArray, List.set_cons_succ, List.set_cons_zero, List.headD_cons, List.tail_cons]
            refine ⟨fun v K hv hK => ?_, ?_⟩
            · go_simp; exact hK _ hv
            simp only [Act.put, List.setIfInBounds_toArray, List.set_cons_succ, List.set_cons_zero, List.headD_cons, List.tail_cons]
            refine ⟨fun v K hv hK => ?_, ?_⟩
            · go_simp; exact hK _ hv
            simp only [Act.put, List.setIfInBounds_toArray, List.set_cons_succ, List.set_cons_zero, List.headD_cons, List.tail_cons]
            refine ⟨fun v K hv hK => ?_, ?_⟩
            · have hc := (hv.cell (by exact hlt)).trans c4; go_simp; exact hK _ hv
            simp only [Act.put, List.setIfInBounds_toArray, List.set_cons_succ, List.set_cons_zero, List.headD_cons, List.tail_cons]
            refine ⟨fun v K hv hK => ?_, ?_⟩
            · go_simp; refine (hI.out _).mono ?_; rintro e w' ⟨rfl, rfl⟩; exact hK _ hv
            simp only [Act.put, List.setIfInBounds_toArray, List.set_cons_succ, List.set_cons_zero, List.headD_cons, List.tail_cons]
            refine ⟨fun v K hv hK => ?_, ?_⟩
            · go_simp; exact hK _ hv
            simp only [Act.put, List.setIfInBounds_toArray, List.set_cons_succ, List.set_cons_zero, List.headD_cons, List.tail_cons]
            refine ⟨fun v K hv hK => ?_, ?_⟩
            · go_simp; exact hK _ hv
            simp only [Act.put, List.setIfInBounds_toArray, List.set_cons_succ, List.set_cons_zero, List.headD_cons, List.tail_cons]
            refine ⟨fun v K hv hK => ?_, ?_⟩
            · go_simp; exact hK _ hv
            simp only [Act.put, List.setIfInBounds_toArray, List.set_cons_succ, List.set_cons_zero, List.headD_cons, List.tail_cons]
            refine ⟨fun v K hv hK => ?_, ?_⟩
            · go_simp; exact hK _ hv
            simp only [Act.put, List.setIfInBounds_toArray, List.set_cons_succ, List.set_cons_zero, List.headD_cons, List.tail_cons]
            refine ⟨fun v K hv hK => ?_, ?_⟩
            · have hc := (hv.cell (by exact hlt)).trans c4; go_simp; exact hK _ hv
            simp only [Act.put, List.setIfInBounds_toArray, List.set_cons_succ, List.set_cons_zero, List.headD_cons, List.tail_cons]
            refine ⟨fun v K hv hK => ?_, ?_⟩
            · go_simp; exact hK _ hv
            simp only [Act.put, List.setIfInBounds_toArray, List.set_cons_succ, List.set_cons_zero, List.headD_cons, List.tail_cons]
            refine ⟨fun v K hv hK => ?_, ?_⟩
            · go_simp; exact hK _ hv
            simp only [Act.put, List.setIfInBounds_toArray, List.set_cons_succ, List.set_cons_zero, List.headD_cons, List.tail_cons]
            refine ⟨fun v K hv hK => ?_, ?_⟩
            · have hc := (hv.cell (by exact hlt)).trans c4; go_simp; exact hK _ hv
            simp only [Act.put, List.setIfInBounds_toArray, List.set_cons_succ, List.set_cons_zero, List.headD_cons, List.tail_cons]
            refine ⟨fun v K hv hK => ?_, ?_⟩
            · go_simp; refine (hCn.out _).mono ?_; rintro e w' ⟨rfl, rfl⟩; exact hK _ hv
            simp only [Act.put, List.setIfInBounds_toArray, List.set_cons_succ, List.set_cons_zero, List.headD_cons, List.tail_cons]
            refine ⟨fun v K hv hK => ?_, ?_⟩
            · go_simp; exact hK _ hv
            simp only [Act.put, List.setIfInBounds_toArray, List.set_cons_succ, List.set_cons_zero, List.headD_cons, List.tail_cons]
            refine ⟨fun v K hv hK => ?_, ?_⟩
            · go_simp; rw [hcc.out]; exact hK _ hv
            simp only [Act.put, List.setIfInBounds_toArray, List.set_cons_succ, List.set_cons_zero, List.headD_cons, List.tail_cons]
            refine ⟨fun v K hv hK => ?_, ?_⟩
            · go_simp; exact hK _ hv
            simp only [Act.put, List.setIfInBounds_toArray, List.set_cons_succ, List.set_cons_zero, List.headD_cons, List.tail_cons]
            refine ⟨fun v K hv hK => ?_, ?_⟩
            · go_simp; exact hK _ hv
            simp only [Act.put, List.setIfInBounds_toArray, List.set_cons_succ, List.set_cons_zero, List.headD_cons, List.tail_cons]
            intro w' hv
            go_wp2_with (fail)
            go_ret
            exact ⟨by rw [hres.out]; rfl, hB5.out.trans (hv.mono (by omega))⟩
          · have hres : Hid (goodT ⟨name, yes, no, clear, wt⟩ = false) := by unfold Hid; rw [hgt3.out, decide_eq_false hcw]; rfl
            have hcc : Hid (((wt : Int) == (canN wt : Int)) = false) := by unfold Hid; rw [beq_eq_false_iff_ne]; omega
            clear hgt3 hcw
            refine Go.Ev.wp_region_plan (fun v => Below (w.heap.size + 1) w3 v) [.pointer (some ⟨w.heap.size, 4, none⟩), .float .f64 wt, .bool true, .bool true, .pointer (some ⟨w.heap.size, 4, none⟩), .float .f64 wt, .bool false, .bool true, .bool true, .bool true, .pointer (some ⟨w.heap.size, 4, none⟩), .float .f64 wt, .int .u64 (wt : Nat), .pointer (some ⟨w.heap.size, 4, none⟩), .float .f64 wt, .float .f64 (canN wt), .int .u64 (canN wt : Nat), .bool false, .bool false, .bool false] hm (by kernel_rfl) (by kernel_rfl) ((Below.refl _ _).drew) ?_
            refine ⟨fun v K hv hK => ?_, ?_⟩
            · go_simp; exact hK _ hv
            simp only [Act.put, List.setIfInBounds_toArray, List.set_cons_succ, List.set_cons_zero, List.headD_cons, List.tail_cons]
            refine ⟨fun v K hv hK => ?_, ?_⟩
            · have hc := (hv.cell (by exact hlt)).trans c4; go_simp; exact hK _ hv
            simp only [Act.put, List.setIfInBounds_toArray, List.set_cons_succ, List.set_cons_zero, List.headD_cons, List.tail_cons]
            refine ⟨fun v K hv hK => ?_, ?_⟩
            · go_simp; rw [hge.out]; exact hK _ hv
            simp only [Act.put, List.setIfInBounds_toArray, List.set_cons_succ, List.set_cons_zero, List.headD_cons, List.tail_cons]
            refine ⟨fun v K hv hK => ?_, ?_⟩
            · go_simp; exact hK _ hv
            simp only [Act.put, List.setIfInBounds_toArray, List.set_cons_succ, List.set_cons_zero, List.headD_cons, List.tail_cons]
            refine ⟨fun v K hv hK => ?_, ?_⟩
            · go_simp; exact hK _ hv
            simp only [Act.put, List.setIfInBounds_toArray, List.set_cons_succ, List.set_cons_zero, List.headD_cons, List.tail_cons]
            refine ⟨fun v K hv hK => ?_, ?_⟩
            · have hc := (hv.cell (by exact hlt)).trans c4; go_simp; exact hK _ hv
            simp only [Act.put, List.setIfInBounds_toArray, List.set_cons_succ, List.set_cons_zero, List.headD_cons, List.tail_cons]
            refine ⟨fun v K hv hK => ?_, ?_⟩
            · go_simp; refine (hI.out _).mono ?_; rintro e w' ⟨rfl, rfl⟩; exact hK _ hv
            simp only [Act.put, List.setIfInBounds_toArray, List.set_cons_succ, List.set_cons_zero, List.headD_cons, List.tail_cons]
            refine ⟨fun v K hv hK => ?_, ?_⟩
            · go_simp; exact hK _ hv
            simp only [Act.put, List.setIfInBounds_toArray, List.set_cons_succ, List.set_cons_zero, List.headD_cons, List.tail_cons]
            refine ⟨fun v K hv hK => ?_, ?_⟩
            · go_simp; exact hK _ hv
            simp only [Act.put, List.setIfInBounds_toArray, List.set_cons_succ, List.set_cons_zero, List.headD_cons, List.tail_cons]
            refine ⟨fun v K hv hK => ?_, ?_⟩
            · go_simp; exact hK _ hv
            simp only [Act.put, List.setIfInBounds_toArray, List.set_cons_succ, List.set_cons_zero, List.headD_cons, List.tail_cons]
            refine ⟨fun v K hv hK => ?_, ?_⟩
            · go_simp; exact hK _ hv
            simp only [Act.put, List.setIfInBounds_toArray, List.set_cons_succ, List.set_cons_zero, List.headD_cons, List.tail_cons]
            refine ⟨fun v K hv hK => ?_, ?_⟩
            · have hc := (hv.cell (by exact hlt)).trans c4; go_simp; exact hK _ hv
            simp only [Act.put, List.setIfInBounds_toArray, List.set_cons_succ, List.set_cons_zero, List.headD_cons, List.tail_cons]
            refine ⟨fun v K hv hK => ?_, ?_⟩
            · go_simp; exact hK _ hv
            simp only [Act.put, List.setIfInBounds_toArray, List.set_cons_succ, List.set_cons_zero, List.headD_cons, List.tail_cons]
            refine ⟨fun v K hv hK => ?_, ?_⟩
            · go_simp; exact hK _ hv
            simp only [Act.put, List.setIfInBounds_toArray, List.set_cons_succ, List.set_cons_zero, List.headD_cons, List.tail_cons]
            refine ⟨fun v K hv hK => ?_, ?_⟩
            · have hc := (hv.cell (by exact hlt)).trans c4; go_simp; exact hK _ hv
            simp only [Act.put, List.setIfInBounds_toArray, List.set_cons_succ, List.set_cons_zero, List.headD_cons, List.tail_cons]
            refine ⟨fun v K hv hK => ?_, ?_⟩
            · go_simp; refine (hCn.out _).mono ?_; rintro e w' ⟨rfl, rfl⟩; exact hK _ hv
            simp only [Act.put, List.setIfInBounds_toArray, List.set_cons_succ, List.set_cons_zero, List.headD_cons, List.tail_cons]
            refine ⟨fun v K hv hK => ?_, ?_⟩
            · go_simp; exact hK _ hv
            simp only [Act.put, List.setIfInBounds_toArray, List.set_cons_succ, List.set_cons_zero, List.headD_cons, List.tail_cons]
            refine ⟨fun v K hv hK => ?_, ?_⟩
            · go_simp; rw [hcc.out]; exact hK _ hv
            simp only [Act.put, List.setIfInBounds_toArray, List.set_cons_succ, List.set_cons_zero, List.headD_cons, List.tail_cons]
            refine ⟨fun v K hv hK => ?_, ?_⟩
            · go_simp; exact hK _ hv
            simp only [Act.put, List.setIfInBounds_toArray, List.set_cons_succ, List.set_cons_zero, List.headD_cons, List.tail_cons]
            refine ⟨fun v K hv hK => ?_, ?_⟩
            · go_simp; exact hK _ hv
            simp only [Act.put, List.setIfInBounds_toArray, List.set_cons_succ, List.set_cons_zero, List.headD_cons, List.tail_cons]
            intro w' hv
            go_wp2_with (fail)
            go_ret
            exact ⟨by rw [hres.out]; rfl, hB5.out.trans (hv.mono (by omega))⟩
end Go.Proofs.YtcdcchkaohnkdaaGreatDoor
