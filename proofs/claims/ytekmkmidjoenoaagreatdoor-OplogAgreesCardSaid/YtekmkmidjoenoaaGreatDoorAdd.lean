/- Add. -/
import Derived.Test.YtekmkmidjoenoaaGreatDoorCln
import Derived.Test.YtekmkmidjoenoaaGreatDoorAgr
import Derived.Deep.AppendLies
import Derived.Laws.Rows
namespace Go.Proofs.YtekmkmidjoenoaaGreatDoor
open Go.RowKit Go.Ev

/-- Where Add's region stands. -/
structure AddS (B : Nat) (W0 : World) (b : Int) (st : ByteArray) (v : Value) (es : List Ent) (x : Ent) (d : Nat → Bool) (vs : Nat → Value) (w : World) : Prop where
  p0 : d 0 = true → vs 0 = .pointer (some ⟨B, 2, none⟩)
  p1 : d 1 = true → vs 1 = v
  p3 : d 3 = true → vs 3 = x.val
  p6 : d 6 = true → vs 6 = .pointer (some ⟨B, 2, none⟩)
  bel : d 7 = false → Below W0.heap.size W0 w
  p2 : d 2 = true → d 5 = false → w.ownsRow W0.heap.size 34 3 (vs 2) es.length (rowOf es)
  p4 : d 4 = true → d 5 = false → ∃ g, vs 4 = .slice (some ⟨g, 0, none⟩) 1 1 ∧ W0.heap.size ≤ g ∧ g < w.heap.size ∧ ∀ j u, (Ent.cells x)[j]? = some u → w.cell? ⟨g, j, none⟩ = some u
  p24 : d 2 = true → d 4 = true → d 5 = false → (vs 2).ownBlock ≠ (vs 4).ownBlock
  p5 : d 5 = true → d 7 = false → w.ownsRow W0.heap.size 34 3 (vs 5) (es.length + 1) (rowOf es ++ Ent.cells x)
  p7 : d 7 = true → ∃ w1, Below W0.heap.size W0 w1 ∧ w1.ownsRow W0.heap.size 34 3 (vs 5) (es.length + 1) (rowOf es ++ Ent.cells x) ∧ w = w1.setCell ⟨B, 2, none⟩ (vs 5)

theorem AddS.pure {B : Nat} {W0 : World} {b : Int} {st : ByteArray} {v : Value} {es : List Ent} {x : Ent} {d : Nat → Bool} {vs : Nat → Value} {w : World} (hS : AddS B W0 b st v es x d vs w) {i : Nat} {u : Value}
    (hi : i ≠ 2 ∧ i ≠ 4 ∧ i ≠ 5 ∧ i ≠ 7) (h0 : i = 0 → u = .pointer (some ⟨B, 2, none⟩)) (h1 : i = 1 → u = v) (h3 : i = 3 → u = x.val) (h6 : i = 6 → u = .pointer (some ⟨B, 2, none⟩)) : AddS B W0 b st v es x (upd d i true) (upd vs i u) w where
  p0 := fun h => by
    by_cases e : 0 = i
    · subst e; rw [upd_same]; exact h0 rfl
    · rw [upd_other _ _ e] at h ⊢; exact hS.p0 h
  p1 := fun h => by
    by_cases e : 1 = i
    · subst e; rw [upd_same]; exact h1 rfl
    · rw [upd_other _ _ e] at h ⊢; exact hS.p1 h
  p3 := fun h => by
    by_cases e : 3 = i
    · subst e; rw [upd_same]; exact h3 rfl
    · rw [upd_other _ _ e] at h ⊢; exact hS.p3 h
  p6 := fun h => by
    by_cases e : 6 = i
    · subst e; rw [upd_same]; exact h6 rfl
    · rw [upd_other _ _ e] at h ⊢; exact hS.p6 h
  bel := fun h => by rw [upd_other _ _ (by omega)] at h; exact hS.bel h
  p2 := fun h k => by rw [upd_other _ _ (by omega)] at h k ⊢; exact hS.p2 h k
  p4 := fun h k => by rw [upd_other _ _ (by omega)] at h k ⊢; exact hS.p4 h k
  p24 := fun h k l => by rw [upd_other _ _ (by omega)] at h k l; rw [upd_other _ _ (by omega), upd_other _ _ (by omega)]; exact hS.p24 h k l
  p5 := fun h k => by rw [upd_other _ _ (by omega)] at h k ⊢; exact hS.p5 h k
  p7 := fun h => by rw [upd_other _ _ (by omega)] at h ⊢; exact hS.p7 h

theorem wp_gen {P : Program} {c : Code} {Q : Exit → Act → World → Prop} {a : Act} {w0 : World} (h : ∀ W, W = w0 → c.wp P Q a W) : c.wp P Q a w0 := h _ rfl

set_option maxRecDepth 100000 in
set_option maxHeartbeats 6400000 in
theorem add_any (b : Nat) (st : ByteArray) (v : Value) (es : List Ent) (x : Ent) (w : World) (hL : Lies w.heap.size w v es) (hn : es.length ≤ 1073741823) :
    Calls Tryz.prog 7 #[lv b st v, x.val] w fun e w' => ∃ v', e = .returned (lv b st v') ∧ Below w.heap.size w w' ∧ Lies w'.heap.size w' v' (es ++ [x]) := by
  obtain ⟨i, z, hI⟩ := entInfo
  obtain ⟨a, cap, hv, hL'⟩ : ∃ a cap, v = .slice a es.length cap ∧ Hid (Lies w.heap.size w v es) := by
    obtain ⟨a, cap, hv, _⟩ := id hL
    exact ⟨a, cap, hv, hL⟩
  clear hL
  subst hv
  obtain ⟨x0, x1, x2⟩ := x
  simp only [Ent.val]
  go_enter Tryz.func7, Tryz.ntmps7
  go_wp2
  refine wp_gen fun W0 hW0 => ?_
  have hB0 : Below w.heap.size w W0 := by rw [hW0]; exact (((Below.refl _ w).alloc (Nat.le_refl _) _).alloc (by simp) _).alloc (by simp; omega) _
  have hs0 : W0.heap.size = w.heap.size + 3 := by rw [hW0]; simp
  have k0 : W0.heap[w.heap.size]? = some (logRow b st (.slice a es.length cap)) := by
    rw [hW0, heap_alloc_old _ _ (by simp; omega), heap_alloc_old _ _ (by simp)]; exact heap_alloc_new w _
  have k1 : W0.heap[w.heap.size + 1]? = some (.cells #[.int .i64 x0, .int .i64 x1, .string x2] 34) := by
    rw [hW0, heap_alloc_old _ _ (by simp)]; exact heap_alloc2_new w _ _
  have k2 : W0.heap[w.heap.size + 1 + 1]? = some (logRow 0 ByteArray.empty (.slice none 0 0)) := by
    rw [hW0]; exact heap_alloc3_new w _ _ _
  clear hW0
  refine Go.Ev.wp_region_inv (AddS w.heap.size W0 b st (.slice a es.length cap) es (x0, x1, x2)) mixed (by kernel_rfl) (by kernel_rfl) ?_ ?_
  · constructor <;> simp
    exact (Below.refl _ _).drew
  refine ⟨fun d vs w1 K hS hd hdep hcl hK => ?_, ?_⟩
  · go_simp
    exact hK _ _ (hS.pure (by omega) (fun _ => rfl) (by omega) (by omega) (by omega))
  simp only [Act.put, List.setIfInBounds_toArray, List.set_cons_succ, List.set_cons_zero, Nat.reduceAdd]
  refine ⟨fun d vs w1 K hS hd hdep hcl hK => ?_, ?_⟩
  · have e0 := hS.p0 (depB hdep 0 (by kernel_rfl))
    have hb := hS.bel (closedF hcl 7 1 (by kernel_rfl) hd)
    have c2 : w1.cell? ⟨w.heap.size, 2, none⟩ = some (.slice a es.length cap) := (hb.cell (by show w.heap.size < _; omega)).trans (by rw [cell_of_row _ _ _ _ _ _ k0]; rfl)
    simp only [e0] at hK ⊢
    go_simp
    exact hK _ _ (hS.pure (by omega) (by omega) (fun _ => rfl) (by omega) (by omega))
  simp only [Act.put, List.setIfInBounds_toArray, List.set_cons_succ, List.set_cons_zero, Nat.reduceAdd]
  refine ⟨fun d vs w1 K hS hd hdep hcl hK => ?_, ?_⟩
  · have e1 := hS.p1 (depB hdep 1 (by kernel_rfl))
    have d5 := closedF hcl 5 2 (by kernel_rfl) hd
    have d7 := closedF hcl 7 2 (by kernel_rfl) hd
    have hb := hS.bel d7
    simp only [e1] at hK ⊢
    go_simp
    refine (clone_any _ es w1 ((hL'.out.below (hB0.trans (hb.mono (by omega)))).mono (by have := hb.size; omega)) (by omega)).mono ?_
    rintro e w2 ⟨v2, rfl, hO, hB2⟩
    refine hK _ _ ?_
    have hsz := hb.size
    refine { p0 := fun h => ?_, p1 := fun h => ?_, p3 := fun h => ?_, p6 := fun h => ?_, bel := fun h => ?_, p2 := fun h k => ?_, p4 := fun h k => ?_, p24 := fun h k l => ?_, p5 := fun h k => ?_, p7 := fun h => ?_ }
    · rw [upd_other _ _ (by omega)] at h ⊢; exact hS.p0 h
    · rw [upd_other _ _ (by omega)] at h ⊢; exact hS.p1 h
    · rw [upd_other _ _ (by omega)] at h ⊢; exact hS.p3 h
    · rw [upd_other _ _ (by omega)] at h ⊢; exact hS.p6 h
    · exact hb.trans (hB2.mono hsz)
    · rw [upd_same]; exact ownsRow_base hO hsz
    · rw [upd_other _ _ (by omega)] at h ⊢
      obtain ⟨g, q1, q2, q3, q4⟩ := hS.p4 h d5
      exact ⟨g, q1, q2, Nat.lt_of_lt_of_le q3 hB2.size, fun j u hu => (hB2.cell q3).trans (q4 j u hu)⟩
    · rw [upd_other _ _ (by omega)] at k
      rw [upd_same, upd_other _ _ (by omega)]
      obtain ⟨g, q1, q2, q3, q4⟩ := hS.p4 k d5
      rw [q1]
      intro hh
      have := (hO.lt g hh).1
      omega
    · rw [upd_other _ _ (by omega), d5] at h; cases h
    · rw [upd_other _ _ (by omega), d7] at h; cases h
  simp only [Act.put, List.setIfInBounds_toArray, List.set_cons_succ, List.set_cons_zero, Nat.reduceAdd]
  refine ⟨fun d vs w1 K hS hd hdep hcl hK => ?_, ?_⟩
  · have d7 := closedF hcl 7 3 (by kernel_rfl) hd
    have hb := hS.bel d7
    have g0 : w1.cell? ⟨w.heap.size + 1, 0, none⟩ = some (.int .i64 x0) := (hb.cell (by show w.heap.size + 1 < _; omega)).trans (by rw [cell_of_row _ _ _ _ _ _ k1]; rfl)
    have g1 : w1.cell? ⟨w.heap.size + 1, 1, none⟩ = some (.int .i64 x1) := (hb.cell (by show w.heap.size + 1 < _; omega)).trans (by rw [cell_of_row _ _ _ _ _ _ k1]; rfl)
    have g2 : w1.cell? ⟨w.heap.size + 1, 2, none⟩ = some (.string x2) := (hb.cell (by show w.heap.size + 1 < _; omega)).trans (by rw [cell_of_row _ _ _ _ _ _ k1]; rfl)
    go_simp
    exact hK _ _ (hS.pure (by omega) (by omega) (by omega) (fun _ => rfl) (by omega))
  simp only [Act.put, List.setIfInBounds_toArray, List.set_cons_succ, List.set_cons_zero, Nat.reduceAdd]
  refine ⟨fun d vs w1 K hS hd hdep hcl hK => ?_, ?_⟩
  · have e3 := hS.p3 (depB hdep 3 (by kernel_rfl))
    have d5 := closedF hcl 5 4 (by kernel_rfl) hd
    have d7 := closedF hcl 7 4 (by kernel_rfl) hd
    have hb := hS.bel d7
    simp only [e3, Ent.val] at hK ⊢
    go_simp
    refine hK _ _ ?_
    have hsz := hb.size
    have hA : Below w1.heap.size w1 (w1.alloc (.cells #[.int .i64 x0, .int .i64 x1, .string x2] 34)) := (Below.refl _ w1).alloc (Nat.le_refl _) _
    refine { p0 := fun h => ?_, p1 := fun h => ?_, p3 := fun h => ?_, p6 := fun h => ?_, bel := fun h => ?_, p2 := fun h k => ?_, p4 := fun h k => ?_, p24 := fun h k l => ?_, p5 := fun h k => ?_, p7 := fun h => ?_ }
    · rw [upd_other _ _ (by omega)] at h ⊢; exact hS.p0 h
    · rw [upd_other _ _ (by omega)] at h ⊢; exact hS.p1 h
    · rw [upd_other _ _ (by omega)] at h ⊢; exact hS.p3 h
    · rw [upd_other _ _ (by omega)] at h ⊢; exact hS.p6 h
    · exact hb.trans (hA.mono hsz)
    · rw [upd_other _ _ (by omega)] at h ⊢; exact ownsRow_below (hS.p2 h d5) hA
    · rw [upd_same]
      refine ⟨w1.heap.size, rfl, hsz, by simp, fun j u hu => ?_⟩
      rw [cell_of_row _ _ _ _ _ _ (heap_alloc_new w1 _)]
      simpa [Ent.cells] using hu
    · rw [upd_other _ _ (by omega)] at h
      rw [upd_same, upd_other _ _ (by omega)]
      intro hh
      have := ((hS.p2 h d5).lt w1.heap.size (by rw [hh]; rfl)).2
      omega
    · rw [upd_other _ _ (by omega), d5] at h; cases h
    · rw [upd_other _ _ (by omega), d7] at h; cases h
  simp only [Act.put, List.setIfInBounds_toArray, List.set_cons_succ, List.set_cons_zero, Nat.reduceAdd]
  refine ⟨fun d vs w1 K hS hd hdep hcl hK => ?_, ?_⟩
  · have d2 := depB hdep 2 (by kernel_rfl)
    have d4 := depB hdep 4 (by kernel_rfl)
    have d7 := closedF hcl 7 5 (by kernel_rfl) hd
    have hb := hS.bel d7
    have hsz := hb.size
    obtain ⟨g, e4, hg1, hg2, hgc⟩ := hS.p4 d4 hd
    have hO := hS.p2 d2 hd
    refine step_append_lies _ ?ga (.tmp 7) (.tmp 9) 24 ?gb W0.heap.size 34 i z 3 32 hI.sl hI.info hI.zero hI.hsz hI.hby hI.hcl (by decide) (vs 2) es.length (rowOf es) ?gc hO ⟨g, 0, none⟩ 1 1 (Ent.cells (x0, x1, x2)) ?gd rfl ?_ ?_ (by decide) ?_ ?_ hsz w1.heap.size rfl ?_
    case ga => rfl
    case gb => rfl
    case gc => rfl
    case gd => exact e4
    · intro j u hu
      rw [Addr.add_lit, Nat.zero_add]
      exact hgc j u hu
    · intro u hu; simp [Ent.cells] at hu; rcases hu with rfl | rfl | rfl <;> rfl
    · unfold maxLen; omega
    · omega
    intro g' cap' w' hO' hgr hgb hlt
    refine hK _ _ ?_
    refine { p0 := fun h => ?_, p1 := fun h => ?_, p3 := fun h => ?_, p6 := fun h => ?_, bel := fun h => ?_, p2 := fun h k => ?_, p4 := fun h k => ?_, p24 := fun h k l => ?_, p5 := fun h k => ?_, p7 := fun h => ?_ }
    · rw [upd_other _ _ (by omega)] at h ⊢; exact hS.p0 h
    · rw [upd_other _ _ (by omega)] at h ⊢; exact hS.p1 h
    · rw [upd_other _ _ (by omega)] at h ⊢; exact hS.p3 h
    · rw [upd_other _ _ (by omega)] at h ⊢; exact hS.p6 h
    · exact hb.grown hgr hsz (fun k hk => (hO.lt k hk).1)
    · rw [upd_same] at k; cases k
    · rw [upd_same] at k; cases k
    · rw [upd_same] at l; cases l
    · rw [upd_same]; exact hO'
    · rw [upd_other _ _ (by omega), d7] at h; cases h
  simp only [Act.put, List.setIfInBounds_toArray, List.set_cons_succ, List.set_cons_zero, Nat.reduceAdd]
  refine ⟨fun d vs w1 K hS hd hdep hcl hK => ?_, ?_⟩
  · go_simp
    exact hK _ _ (hS.pure (by omega) (by omega) (by omega) (by omega) (fun _ => rfl))
  simp only [Act.put, List.setIfInBounds_toArray, List.set_cons_succ, List.set_cons_zero, Nat.reduceAdd]
  refine ⟨fun d vs w1 K hS hd hdep hcl hK => ?_, ?_⟩
  · have e6 := hS.p6 (depB hdep 6 (by kernel_rfl))
    have d5 := depB hdep 5 (by kernel_rfl)
    have hb := hS.bel hd
    have c2 : w1.cell? ⟨w.heap.size, 2, none⟩ = some (.slice a es.length cap) := (hb.cell (by show w.heap.size < _; omega)).trans (by rw [cell_of_row _ _ _ _ _ _ k0]; rfl)
    have hO := hS.p5 d5 hd
    have hfr : w1.frozen? ⟨w.heap.size, 2, none⟩ = false := (hb.frozen (by show w.heap.size < _; omega)).trans (by simp [World.frozen?, k0, logRow])
    obtain ⟨g, cap5, e5⟩ : ∃ g cap5, vs 5 = .slice (some ⟨g, 0, none⟩) (es.length + 1) cap5 := by
      rcases hO.2 with ⟨_, h0⟩ | ⟨g, cap5, cur, e5, _⟩
      · omega
      · exact ⟨g, cap5, e5⟩
    simp only [e6, e5] at hK ⊢
    go_simp
    refine hK undef _ ?_
    refine { p0 := fun h => ?_, p1 := fun h => ?_, p3 := fun h => ?_, p6 := fun h => ?_, bel := fun h => ?_, p2 := fun h k => ?_, p4 := fun h k => ?_, p24 := fun h k l => ?_, p5 := fun h k => ?_, p7 := fun h => ?_ }
    · rw [upd_other _ _ (by omega)] at h ⊢; exact hS.p0 h
    · rw [upd_other _ _ (by omega)] at h ⊢; exact hS.p1 h
    · rw [upd_other _ _ (by omega)] at h ⊢; exact hS.p3 h
    · rw [upd_other _ _ (by omega)] at h ⊢; exact hS.p6 h
    · rw [upd_same] at h; cases h
    · rw [upd_other _ _ (by omega), d5] at k; cases k
    · rw [upd_other _ _ (by omega), d5] at k; cases k
    · rw [upd_other _ _ (by omega), d5] at l; cases l
    · rw [upd_same] at k; cases k
    · rw [upd_other _ _ (by omega)]
      exact ⟨w1, hb, hO, by rw [e5]⟩
  simp only [Act.put]
  intro vs d w2 hS hall
  obtain ⟨w1, hb, hO, rfl⟩ := hS.p7 (hall 7 (by decide))
  obtain ⟨g, cap5, e5⟩ : ∃ g cap5, vs 5 = .slice (some ⟨g, 0, none⟩) (es.length + 1) cap5 := by
    rcases hO.2 with ⟨_, h0⟩ | ⟨g, cap5, cur, e5, _⟩
    · omega
    · exact ⟨g, cap5, e5⟩
  rw [e5] at hO
  simp only [e5]
  have hgg := hO.lt g rfl
  have hsz := hb.size
  have j0 : w1.heap[w.heap.size]? = some (logRow b st (.slice a es.length cap)) := (hb.block _ (by omega)).trans k0
  have j2 : w1.heap[w.heap.size + 1 + 1]? = some (logRow 0 ByteArray.empty (.slice none 0 0)) := (hb.block _ (by omega)).trans k2
  have m0 : w1.cell? ⟨w.heap.size, 0, none⟩ = some (.int .i64 b) := by rw [cell_of_row _ _ _ _ _ _ j0]; rfl
  have m1 : w1.cell? ⟨w.heap.size, 1, none⟩ = some (.string st) := by rw [cell_of_row _ _ _ _ _ _ j0]; rfl
  have m2 : w1.cell? ⟨w.heap.size, 2, none⟩ = some (.slice a es.length cap) := by rw [cell_of_row _ _ _ _ _ _ j0]; rfl
  have n0 : w1.cell? ⟨w.heap.size + 1 + 1, 0, none⟩ = some (.int .i64 0) := by rw [cell_of_row _ _ _ _ _ _ j2]; rfl
  have n1 : w1.cell? ⟨w.heap.size + 1 + 1, 1, none⟩ = some (.string ByteArray.empty) := by rw [cell_of_row _ _ _ _ _ _ j2]; rfl
  have n2 : w1.cell? ⟨w.heap.size + 1 + 1, 2, none⟩ = some (.slice none 0 0) := by rw [cell_of_row _ _ _ _ _ _ j2]; rfl
  have f0 := frozen_of_row w1 (w.heap.size + 1 + 1) 0 _ _ j2
  have f1 := frozen_of_row w1 (w.heap.size + 1 + 1) 1 _ _ j2
  have f2 := frozen_of_row w1 (w.heap.size + 1 + 1) 2 _ _ j2
  clear j0 j2 k0 k1 k2
  go_wp2
  refine bodyPost_ret (v := lv b st (.slice (some ⟨g, 0, none⟩) (es.length + 1) cap5)) ?_ rfl ?_
  · simp [results, asAddr]
    go_simp
  · refine ⟨_, rfl, ?_, ?_⟩
    · refine ((((Below.setCell ?_ ?_ _).setCell ?_ _).setCell ?_ _).setCell ?_ _)
      · exact hB0.trans (hb.mono (by omega))
      · exact Nat.le_refl _
      · show w.heap.size ≤ w.heap.size + 1 + 1; omega
      · show w.heap.size ≤ w.heap.size + 1 + 1; omega
      · show w.heap.size ≤ w.heap.size + 1 + 1; omega
    · refine Lies.of_row (base := W0.heap.size) (t := 34) ?_
      rw [List.length_append, rowOf_append, rowOf_one]
      refine ownsRow_setCell (ownsRow_setCell (ownsRow_setCell (ownsRow_setCell hO _ _ ?_) _ _ ?_) _ _ ?_) _ _ ?_
      · show w.heap.size < _; omega
      · show w.heap.size + 1 + 1 < _; omega
      · show w.heap.size + 1 + 1 < _; omega
      · show w.heap.size + 1 + 1 < _; omega
#print axioms add_any
end Go.Proofs.YtekmkmidjoenoaaGreatDoor
