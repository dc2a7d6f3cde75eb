/- logs: a slice of plain entries becomes two logs. -/
import Derived.Test.YtekmkmidjoenoaaGreatDoorLos
import Derived.RegionTactic
namespace Go.Proofs.YtekmkmidjoenoaaGreatDoor
open Go.RowKit Go.Ev

abbrev refRow (b : Int) (st : ByteArray) (v : Value) : Obj := .cells #[.int .i64 b, .string st, v] 29

/-- Where the region stands that reads an entry. -/
structure RdS (wr : World) (V : List Value) (x0 x1 : Int) (x2 : ByteArray) (d : Nat → Bool) (vs : Nat → Value) (w : World) : Prop where
  v : ∀ i, i < 16 → d i = true → vs i = V.getD i undef
  v16 : d 16 = true → vs 16 = .pointer (some ⟨wr.heap.size, 0, none⟩)
  bel : Below wr.heap.size wr w
  w0 : d 16 = false → Below wr.heap.size wr w ∧ w.heap.size = wr.heap.size
  w1 : d 16 = true → d 17 = false → Below wr.heap.size wr w ∧ w.heap.size = wr.heap.size + 1 ∧ w.heap[wr.heap.size]? = some (.cells #[.int .i64 0, .int .i64 0, .string ByteArray.empty] 67)
  w2 : d 17 = true → w.heap.size = wr.heap.size + 1 ∧ w.heap[wr.heap.size]? = some (.cells #[.int .i64 x0, .int .i64 x1, .string x2] 67)
section
variable {wr : World} {V : List Value} {x0 x1 : Int} {x2 : ByteArray} {d : Nat → Bool} {vs : Nat → Value} {w : World}
theorem RdS.cell (h : RdS wr V x0 x1 x2 d vs w) {p : Addr} (hp : p.block < wr.heap.size) : w.cell? p = wr.cell? p := h.bel.cell hp
theorem RdS.pure (h : RdS wr V x0 x1 x2 d vs w) {i : Nat} (hi : i < 16) {u : Value} (hu : u = V.getD i undef) : RdS wr V x0 x1 x2 (upd d i true) (upd vs i u) w := by
  have e16 : upd d i true 16 = d 16 := upd_other _ _ (by omega)
  have e17 : upd d i true 17 = d 17 := upd_other _ _ (by omega)
  have f16 : upd vs i u 16 = vs 16 := upd_other _ _ (by omega)
  refine ⟨fun j hj hd => ?_, ?_, h.bel, ?_, ?_, ?_⟩
  · by_cases e : j = i
    · subst e; rw [upd_same]; exact hu
    · rw [upd_other _ _ e] at hd ⊢; exact h.v j hj hd
  · rw [e16, f16]; exact h.v16
  · rw [e16]; exact h.w0
  · rw [e16, e17]; exact h.w1
  · rw [e17]; exact h.w2
theorem RdS.made (h : RdS wr V x0 x1 x2 d vs w) (hd : d 16 = false) (h17 : d 17 = false) : RdS wr V x0 x1 x2 (upd d 16 true) (upd vs 16 (.pointer (some ⟨wr.heap.size, 0, none⟩))) (w.alloc (.cells #[.int .i64 0, .int .i64 0, .string ByteArray.empty] 67)) := by
  have e17 : upd d 16 true 17 = d 17 := upd_other _ _ (by omega)
  obtain ⟨hb, hs⟩ := h.w0 hd
  refine ⟨fun j hj hd => ?_, fun _ => upd_same _ _ _, hb.alloc hb.size _, fun h => ?_, fun _ _ => ⟨hb.alloc hb.size _, by simp [hs], ?_⟩, ?_⟩
  · rw [upd_other _ _ (by omega)] at hd ⊢; exact h.v j hj hd
  · rw [upd_same] at h; cases h
  · rw [← hs]; exact heap_alloc_new w _
  · rw [e17, h17]; intro h; cases h
theorem RdS.stored (h : RdS wr V x0 x1 x2 d vs w) (h16 : d 16 = true) (hd : d 17 = false) {u : Value} : RdS wr V x0 x1 x2 (upd d 17 true) (upd vs 17 u)
    (((w.setCell ⟨wr.heap.size, 0, none⟩ (.int .i64 x0)).setCell ⟨wr.heap.size, 1, none⟩ (.int .i64 x1)).setCell ⟨wr.heap.size, 2, none⟩ (.string x2)) := by
  have e16 : upd d 17 true 16 = d 16 := upd_other _ _ (by omega)
  have f16 : upd vs 17 u 16 = vs 16 := upd_other _ _ (by omega)
  obtain ⟨hb, hs, hr⟩ := h.w1 h16 hd
  have hb' : Below wr.heap.size wr (((w.setCell ⟨wr.heap.size, 0, none⟩ (.int .i64 x0)).setCell ⟨wr.heap.size, 1, none⟩ (.int .i64 x1)).setCell ⟨wr.heap.size, 2, none⟩ (.string x2)) :=
    ((hb.setCell (Nat.le_refl _) _).setCell (Nat.le_refl _) _).setCell (Nat.le_refl _) _
  refine ⟨fun j hj hd => ?_, ?_, hb', fun h => ?_, fun _ h => ?_, fun _ => ⟨by simp [hs], ?_⟩⟩
  · rw [upd_other _ _ (by omega)] at hd ⊢; exact h.v j hj hd
  · rw [e16, f16]; exact h.v16
  · rw [e16, h16] at h; cases h
  · rw [upd_same] at h; cases h
  · rw [heap_setCell_same _ _ _ _ _ _ (heap_setCell_same _ _ _ _ _ _ (heap_setCell_same _ _ _ _ _ _ hr))]
    rfl
end

theorem wp_genl {P : Program} {c : Code} {Q : Exit → Act → World → Prop} {a : Act} {w0 : World} (h : ∀ W, W = w0 → c.wp P Q a W) : c.wp P Q a w0 := h _ rfl

/-- Where the loop stands: two logs of the first k entries. -/
structure LogI (n : Nat) (st : ByteArray) (es : List Ent) (w : World) (k : Nat) (va vb : Value) (wr : World) : Prop where
  bel : Below w.heap.size w wr
  r0 : wr.heap[n]? = some (logRow 0 ByteArray.empty (.slice none 0 0))
  r1 : wr.heap[n + 1]? = some (refRow 0 ByteArray.empty (.slice none 0 0))
  rA : wr.heap[n + 2]? = some (logRow 3 st va)
  rB : wr.heap[n + 3]? = some (refRow 3 st vb)
  oA : wr.ownsRow (n + 4) 34 3 va k (rowOf (es.take k))
  oB : wr.ownsRow (n + 4) 67 3 vb k (rowOf (es.take k))
  sep : ∀ g, va.ownBlock = some g → vb.ownBlock ≠ some g
theorem LogI.n4 {n : Nat} {st : ByteArray} {es : List Ent} {w : World} {k : Nat} {va vb : Value} {wr : World} (h : LogI n st es w k va vb wr) : n + 4 ≤ wr.heap.size := (Array.getElem?_eq_some_iff.1 h.rB).1

theorem below_six {w wr : World} (h : Below w.heap.size w wr) (a b c d e f : Value) : Below w.heap.size w
    ((((((wr.setCell ⟨w.heap.size, 0, none⟩ a).setCell ⟨w.heap.size, 1, none⟩ b).setCell ⟨w.heap.size, 2, none⟩ c).setCell ⟨w.heap.size + 1, 0, none⟩ d).setCell ⟨w.heap.size + 1, 1, none⟩ e).setCell ⟨w.heap.size + 1, 2, none⟩ f).drew :=
  ((((((h.setCell (Nat.le_refl _) _).setCell (Nat.le_refl _) _).setCell (Nat.le_refl _) _).setCell (Nat.le_succ _) _).setCell (Nat.le_succ _) _).setCell (Nat.le_succ _) _).drew

theorem ownsRow_drew {w : World} {base : Nat} {e : TypeId} {size n : Nat} {v : Value} {xs : List Value} (h : w.ownsRow base e size v n xs) : w.drew.ownsRow base e size v n xs := h

theorem owns_six {m : Nat} {wr : World} {t : TypeId} {n : Nat} {v : Value} {xs : List Value} (h : wr.ownsRow (m + 4) t 3 v n xs) (a b c d e f : Value) :
    ((((((wr.setCell ⟨m, 0, none⟩ a).setCell ⟨m, 1, none⟩ b).setCell ⟨m, 2, none⟩ c).setCell ⟨m + 1, 0, none⟩ d).setCell ⟨m + 1, 1, none⟩ e).setCell ⟨m + 1, 2, none⟩ f).drew.ownsRow (m + 4) t 3 v n xs := by
  have h0 : m < m + 4 := by omega
  have h1 : m + 1 < m + 4 := by omega
  refine ownsRow_drew ?_
  exact ownsRow_setCell (ownsRow_setCell (ownsRow_setCell (ownsRow_setCell (ownsRow_setCell (ownsRow_setCell h _ _ h0) _ _ h0) _ _ h0) _ _ h1) _ _ h1) _ _ h1

set_option maxRecDepth 100000 in
set_option maxHeartbeats 12800000 in
theorem logs_any (st : ByteArray) (v : Value) (es : List Ent) (w : World) (hL : Lies w.heap.size w v es) (hbig : es.length < 9223372036854775808) :
    Calls Tryz.prog 6 #[.int .i64 3, .string st, v] w fun e w' => ∃ va a n c, e = .returned (.tuple #[lv 3 st va, lv 3 st (.slice a n c)]) ∧ Below w.heap.size w w' ∧ Lies w'.heap.size w' va (es.take 30) := by
  obtain ⟨i1, z1, hI1⟩ := entInfo
  obtain ⟨i2, z2, hI2⟩ := refInfo
  obtain ⟨a, cap, hv, hL'⟩ : ∃ a cap, v = .slice a es.length cap ∧ Hid (Lies w.heap.size w v es) := by
    obtain ⟨a, cap, hv, _⟩ := id hL
    exact ⟨a, cap, hv, hL⟩
  clear hL
  subst hv
  have hand : bits .and .i64 3 1048575 = 3 := by decide
  go_enter Tryz.func6, Tryz.ntmps6
  go_wp2
  refine wp_genl fun W0 hW0 => ?_
  have hI0 : LogI w.heap.size st es w 0 (.slice none 0 0) (.slice none 0 0) W0 := by
    have hs : ∀ A B C D, ((((w.alloc A).alloc B).alloc C).alloc D).heap[w.heap.size]? = some A := fun A B C D => by
      rw [heap_alloc_old _ _ (by simp <;> omega), heap_alloc_old _ _ (by simp <;> omega), heap_alloc_old _ _ (by simp)]; exact heap_alloc_new w _
    have hs1 : ∀ A B C D, ((((w.alloc A).alloc B).alloc C).alloc D).heap[w.heap.size + 1]? = some B := fun A B C D => by
      rw [heap_alloc_old _ _ (by simp <;> omega), heap_alloc_old _ _ (by simp)]; exact heap_alloc2_new w _ _
    have hs2 : ∀ A B C D, ((((w.alloc A).alloc B).alloc C).alloc D).heap[w.heap.size + 2]? = some C := fun A B C D => by
      rw [heap_alloc_old _ _ (by simp)]; exact heap_alloc3_new w _ _ _
    have hs3 : ∀ A B C D, ((((w.alloc A).alloc B).alloc C).alloc D).heap[w.heap.size + 3]? = some D := fun A B C D => by
      have := heap_alloc3_new (w.alloc A) B C D
      rwa [show (w.alloc A).heap.size + 1 + 1 = w.heap.size + 3 by simp] at this
    rw [hW0]
    exact ⟨((((Below.refl _ w).alloc (Nat.le_refl _) _).alloc (by simp) _).alloc (by simp; omega) _).alloc (by simp; omega) _, hs _ _ _ _, hs1 _ _ _ _, hs2 _ _ _ _, hs3 _ _ _ _, World.ownsRow_nil _ _ _ _, World.ownsRow_nil _ _ _ _, fun g h => (by cases h)⟩
  clear hW0
  go_loopw [10] (fun i wr => ∃ (k : Nat) (va vb : Value), k ≤ es.length ∧ k ≤ 30 ∧ i = .int .i64 (k : Nat) ∧ LogI w.heap.size st es w k va vb wr)
    (fun i _ => 30 - (intOf i).toNat)
  case atStart => exact ⟨0, _, _, Nat.zero_le _, Nat.zero_le _, rfl, hI0⟩
  case round =>
    obtain ⟨k, va, vb, hk, hk30, rfl, hI⟩ := hrel
    by_cases hlt : k < es.length ∧ k < 30
    · obtain ⟨h1, h2⟩ := hlt
      obtain ⟨x, hx⟩ : ∃ x, es[k]? = some x := ⟨_, List.getElem?_eq_getElem h1⟩
      obtain ⟨b, off, rfl, hbw, hc⟩ : ∃ b off, a = some ⟨b, off, none⟩ ∧ b < w.heap.size ∧ ∀ j u, (rowOf es)[j]? = some u → w.cell? ⟨b, off + j, none⟩ = some u := by
        obtain ⟨a', cap', he, _, _, h4⟩ := hL'.out
        cases he
        exact h4 (by rintro rfl; simp at h1)
      obtain ⟨x0, x1, x2⟩ := x
      obtain ⟨r0, r1, r2⟩ := rowOf_get _ _ _ hx
      have hbX : b < wr.heap.size := Nat.lt_of_lt_of_le hbw hI.bel.size
      have y4 : wr.cell? ⟨b, off + k * 3, none⟩ = some (.int .i64 x0) := (hI.bel.cell (by exact hbw)).trans (hc _ _ r0)
      have y9 : wr.cell? ⟨b, off + k * 3 + 1, none⟩ = some (.int .i64 x1) := (hI.bel.cell (by exact hbw)).trans (hc _ _ r1)
      have y14 : wr.cell? ⟨b, off + k * 3 + 2, none⟩ = some (.string x2) := (hI.bel.cell (by exact hbw)).trans (hc _ _ r2)
      clear hc r0 r1 r2
      go_wp2
      have e30 : decide ((k : Int) < 30) = true := by simp; omega
      simp only [e30]
      clear e30
      refine Go.Ev.wp_region_inv (RdS wr [.slice (some ⟨b, off, none⟩) es.length cap, .int .i64 (k : Nat), .pointer (some ⟨b, off + k * 3, none⟩), .pointer (some ⟨b, off + k * 3, none⟩), .int .i64 x0, .slice (some ⟨b, off, none⟩) es.length cap, .int .i64 (k : Nat), .pointer (some ⟨b, off + k * 3, none⟩), .pointer (some ⟨b, off + k * 3 + 1, none⟩), .int .i64 x1, .slice (some ⟨b, off, none⟩) es.length cap, .int .i64 (k : Nat), .pointer (some ⟨b, off + k * 3, none⟩), .pointer (some ⟨b, off + k * 3 + 2, none⟩), .string x2, .agg #[.int .i64 x0, .int .i64 x1, .string x2]] x0 x1 x2) mixed (by kernel_rfl) (by kernel_rfl) ?_ ?_
      · refine ⟨fun i _ h => (by cases h), fun h => (by cases h), (Below.refl _ _).drew, fun _ => ⟨(Below.refl _ _).drew, rfl⟩, fun h => (by cases h), fun h => (by cases h)⟩
      refine ⟨fun d vs w1 K hS hd hdep hcl hK => ?_, ?_⟩
      · go_simp
        exact hK _ _ (hS.pure (by decide) rfl)
      simp only [Act.put, List.setIfInBounds_toArray, List.set_cons_succ, List.set_cons_zero, Nat.reduceAdd]
      refine ⟨fun d vs w1 K hS hd hdep hcl hK => ?_, ?_⟩
      · go_simp
        exact hK _ _ (hS.pure (by decide) rfl)
      simp only [Act.put, List.setIfInBounds_toArray, List.set_cons_succ, List.set_cons_zero, Nat.reduceAdd]
      refine ⟨fun d vs w1 K hS hd hdep hcl hK => ?_, ?_⟩
      · have e0 : vs 0 = .slice (some ⟨b, off, none⟩) es.length cap := hS.v 0 (by decide) (depB hdep 0 (by kernel_rfl))
        have e1 : vs 1 = .int .i64 (k : Nat) := hS.v 1 (by decide) (depB hdep 1 (by kernel_rfl))
        simp only [e0, e1] at hK ⊢
        go_simp
        exact hK _ _ (hS.pure (by decide) rfl)
      simp only [Act.put, List.setIfInBounds_toArray, List.set_cons_succ, List.set_cons_zero, Nat.reduceAdd]
      refine ⟨fun d vs w1 K hS hd hdep hcl hK => ?_, ?_⟩
      · have e2 : vs 2 = .pointer (some ⟨b, off + k * 3, none⟩) := hS.v 2 (by decide) (depB hdep 2 (by kernel_rfl))
        simp only [e2] at hK ⊢
        go_simp
        exact hK _ _ (hS.pure (by decide) rfl)
      simp only [Act.put, List.setIfInBounds_toArray, List.set_cons_succ, List.set_cons_zero, Nat.reduceAdd]
      refine ⟨fun d vs w1 K hS hd hdep hcl hK => ?_, ?_⟩
      · have e3 : vs 3 = .pointer (some ⟨b, off + k * 3, none⟩) := hS.v 3 (by decide) (depB hdep 3 (by kernel_rfl))
        have c4 := (hS.cell (p := ⟨b, off + k * 3, none⟩) (by exact hbX)).trans y4
        simp only [e3] at hK ⊢
        go_simp
        exact hK _ _ (hS.pure (by decide) rfl)
      simp only [Act.put, List.setIfInBounds_toArray, List.set_cons_succ, List.set_cons_zero, Nat.reduceAdd]
      refine ⟨fun d vs w1 K hS hd hdep hcl hK => ?_, ?_⟩
      · go_simp
        exact hK _ _ (hS.pure (by decide) rfl)
      simp only [Act.put, List.setIfInBounds_toArray, List.set_cons_succ, List.set_cons_zero, Nat.reduceAdd]
      refine ⟨fun d vs w1 K hS hd hdep hcl hK => ?_, ?_⟩
      · go_simp
        exact hK _ _ (hS.pure (by decide) rfl)
      simp only [Act.put, List.setIfInBounds_toArray, List.set_cons_succ, List.set_cons_zero, Nat.reduceAdd]
      refine ⟨fun d vs w1 K hS hd hdep hcl hK => ?_, ?_⟩
      · have e5 : vs 5 = .slice (some ⟨b, off, none⟩) es.length cap := hS.v 5 (by decide) (depB hdep 5 (by kernel_rfl))
        have e6 : vs 6 = .int .i64 (k : Nat) := hS.v 6 (by decide) (depB hdep 6 (by kernel_rfl))
        simp only [e5, e6] at hK ⊢
        go_simp
        exact hK _ _ (hS.pure (by decide) rfl)
      simp only [Act.put, List.setIfInBounds_toArray, List.set_cons_succ, List.set_cons_zero, Nat.reduceAdd]
      refine ⟨fun d vs w1 K hS hd hdep hcl hK => ?_, ?_⟩
      · have e7 : vs 7 = .pointer (some ⟨b, off + k * 3, none⟩) := hS.v 7 (by decide) (depB hdep 7 (by kernel_rfl))
        simp only [e7] at hK ⊢
        go_simp
        exact hK _ _ (hS.pure (by decide) rfl)
      simp only [Act.put, List.setIfInBounds_toArray, List.set_cons_succ, List.set_cons_zero, Nat.reduceAdd]
      refine ⟨fun d vs w1 K hS hd hdep hcl hK => ?_, ?_⟩
      · have e8 : vs 8 = .pointer (some ⟨b, off + k * 3 + 1, none⟩) := hS.v 8 (by decide) (depB hdep 8 (by kernel_rfl))
        have c9 := (hS.cell (p := ⟨b, off + k * 3 + 1, none⟩) (by exact hbX)).trans y9
        simp only [e8] at hK ⊢
        go_simp
        exact hK _ _ (hS.pure (by decide) rfl)
      simp only [Act.put, List.setIfInBounds_toArray, List.set_cons_succ, List.set_cons_zero, Nat.reduceAdd]
      refine ⟨fun d vs w1 K hS hd hdep hcl hK => ?_, ?_⟩
      · go_simp
        exact hK _ _ (hS.pure (by decide) rfl)
      simp only [Act.put, List.setIfInBounds_toArray, List.set_cons_succ, List.set_cons_zero, Nat.reduceAdd]
      refine ⟨fun d vs w1 K hS hd hdep hcl hK => ?_, ?_⟩
      · go_simp
        exact hK _ _ (hS.pure (by decide) rfl)
      simp only [Act.put, List.setIfInBounds_toArray, List.set_cons_succ, List.set_cons_zero, Nat.reduceAdd]
      refine ⟨fun d vs w1 K hS hd hdep hcl hK => ?_, ?_⟩
      · have e10 : vs 10 = .slice (some ⟨b, off, none⟩) es.length cap := hS.v 10 (by decide) (depB hdep 10 (by kernel_rfl))
        have e11 : vs 11 = .int .i64 (k : Nat) := hS.v 11 (by decide) (depB hdep 11 (by kernel_rfl))
        simp only [e10, e11] at hK ⊢
        go_simp
        exact hK _ _ (hS.pure (by decide) rfl)
      simp only [Act.put, List.setIfInBounds_toArray, List.set_cons_succ, List.set_cons_zero, Nat.reduceAdd]
      refine ⟨fun d vs w1 K hS hd hdep hcl hK => ?_, ?_⟩
      · have e12 : vs 12 = .pointer (some ⟨b, off + k * 3, none⟩) := hS.v 12 (by decide) (depB hdep 12 (by kernel_rfl))
        simp only [e12] at hK ⊢
        go_simp
        exact hK _ _ (hS.pure (by decide) rfl)
      simp only [Act.put, List.setIfInBounds_toArray, List.set_cons_succ, List.set_cons_zero, Nat.reduceAdd]
      refine ⟨fun d vs w1 K hS hd hdep hcl hK => ?_, ?_⟩
      · have e13 : vs 13 = .pointer (some ⟨b, off + k * 3 + 2, none⟩) := hS.v 13 (by decide) (depB hdep 13 (by kernel_rfl))
        have c14 := (hS.cell (p := ⟨b, off + k * 3 + 2, none⟩) (by exact hbX)).trans y14
        simp only [e13] at hK ⊢
        go_simp
        exact hK _ _ (hS.pure (by decide) rfl)
      simp only [Act.put, List.setIfInBounds_toArray, List.set_cons_succ, List.set_cons_zero, Nat.reduceAdd]
      refine ⟨fun d vs w1 K hS hd hdep hcl hK => ?_, ?_⟩
      · have e4 : vs 4 = .int .i64 x0 := hS.v 4 (by decide) (depB hdep 4 (by kernel_rfl))
        have e9 : vs 9 = .int .i64 x1 := hS.v 9 (by decide) (depB hdep 9 (by kernel_rfl))
        have e14 : vs 14 = .string x2 := hS.v 14 (by decide) (depB hdep 14 (by kernel_rfl))
        simp only [e4, e9, e14] at hK ⊢
        go_simp
        exact hK _ _ (hS.pure (by decide) rfl)
      simp only [Act.put, List.setIfInBounds_toArray, List.set_cons_succ, List.set_cons_zero, Nat.reduceAdd]
      refine ⟨fun d vs w1 K hS hd hdep hcl hK => ?_, ?_⟩
      · have d17 := closedF hcl 17 16 (by kernel_rfl) hd
        go_simp
        refine hK _ _ ?_
        have hs := (hS.w0 hd).2
        rw [hs]
        exact hS.made hd d17
      simp only [Act.put, List.setIfInBounds_toArray, List.set_cons_succ, List.set_cons_zero, Nat.reduceAdd]
      refine ⟨fun d vs w1 K hS hd hdep hcl hK => ?_, ?_⟩
      · have d16 := depB hdep 16 (by kernel_rfl)
        have e15 : vs 15 = .agg #[.int .i64 x0, .int .i64 x1, .string x2] := hS.v 15 (by decide) (depB hdep 15 (by kernel_rfl))
        have e16 := hS.v16 d16
        obtain ⟨hB1, hs1, hr1⟩ := hS.w1 d16 hd
        have n0 : w1.cell? ⟨wr.heap.size, 0, none⟩ = some (.int .i64 0) := by rw [cell_of_row _ _ _ _ _ _ hr1]; rfl
        have n1 : w1.cell? ⟨wr.heap.size, 1, none⟩ = some (.int .i64 0) := by rw [cell_of_row _ _ _ _ _ _ hr1]; rfl
        have n2 : w1.cell? ⟨wr.heap.size, 2, none⟩ = some (.string ByteArray.empty) := by rw [cell_of_row _ _ _ _ _ _ hr1]; rfl
        have f0 := frozen_of_row w1 wr.heap.size 0 _ _ hr1
        have f1 := frozen_of_row w1 wr.heap.size 1 _ _ hr1
        have f2 := frozen_of_row w1 wr.heap.size 2 _ _ hr1
        simp only [e15, e16] at hK ⊢
        go_simp
        exact hK undef _ (hS.stored d16 hd)
      simp only [Act.put]
      intro vs8 d8 w2 hS8 hall8
      have e16 := hS8.v16 (hall8 16 (by decide))
      obtain ⟨hsz2, hrx⟩ := hS8.w2 (hall8 17 (by decide))
      have hbel2 := hS8.bel
      have hI' := hI
      clear hS8 hall8 y4 y9 y14
      simp only [e16]
      clear e16
      have hold : ∀ {g o}, wr.heap[g]? = some o → w2.heap[g]? = some o := fun {g o} hh => (hbel2.block g (Array.getElem?_eq_some_iff.1 hh).1).trans hh
      have hfx : ∀ p ∈ [(w.heap.size, logRow 0 ByteArray.empty (.slice none 0 0)), (w.heap.size + 1, refRow 0 ByteArray.empty (.slice none 0 0)), (wr.heap.size, .cells #[.int .i64 x0, .int .i64 x1, .string x2] 67)], p.1 < w.heap.size + 4 ∨ p.1 = wr.heap.size := by
        intro p hp
        simp only [List.mem_cons, List.not_mem_nil, or_false] at hp
        rcases hp with rfl | rfl | rfl
        · exact .inl (by simp)
        · exact .inl (by simp)
        · exact .inr rfl
      have hn4 := hI.n4
      have hfxrA : ∀ p ∈ [(w.heap.size, logRow 0 ByteArray.empty (.slice none 0 0)), (w.heap.size + 1, refRow 0 ByteArray.empty (.slice none 0 0)), (wr.heap.size, .cells #[.int .i64 x0, .int .i64 x1, .string x2] 67)], p.1 ≠ w.heap.size + 2 := by
        intro p hp
        simp only [List.mem_cons, List.not_mem_nil, or_false] at hp
        rcases hp with rfl | rfl | rfl <;> simp <;> omega
      have hfxrB : ∀ p ∈ [(w.heap.size, logRow 0 ByteArray.empty (.slice none 0 0)), (w.heap.size + 1, refRow 0 ByteArray.empty (.slice none 0 0)), (wr.heap.size, .cells #[.int .i64 x0, .int .i64 x1, .string x2] 67)], p.1 ≠ w.heap.size + 3 := by
        intro p hp
        simp only [List.mem_cons, List.not_mem_nil, or_false] at hp
        rcases hp with rfl | rfl | rfl <;> simp <;> omega
      have hS0 : LogS w w.heap.size wr.heap.size k [(w.heap.size, logRow 0 ByteArray.empty (.slice none 0 0)), (w.heap.size + 1, refRow 0 ByteArray.empty (.slice none 0 0)), (wr.heap.size, .cells #[.int .i64 x0, .int .i64 x1, .string x2] 67)] (fun i => [.pointer (some ⟨w.heap.size + 1 + 1, 2, none⟩), va, .agg #[.int .i64 x0, .int .i64 x1, .string x2], undef, undef, .pointer (some ⟨w.heap.size + 1 + 1 + 1, 2, none⟩), vb, .agg #[.int .i64 x0, .int .i64 x1, .string x2], undef, undef, .pointer (some ⟨w.heap.size + 1 + 1, 2, none⟩), undef, .pointer (some ⟨w.heap.size + 1 + 1 + 1, 2, none⟩)].getD i undef) va vb (logRow 3 st) (refRow 3 st) (rowOf (es.take k)) (Ent.cells (x0, x1, x2)) (fun _ => false) (fun _ => undef) w2.drew := by
        refine ⟨fun i _ h => (by cases h), ((hI.bel.trans (hbel2.mono hI.bel.size))).drew, fun p hp => ?_, fun _ => hold hI.rA, fun h => (by cases h), fun _ => hold hI.rB, fun h => (by cases h), ⟨fun _ => ownsRow_same hI.oA fun g hg => hbel2.block g (hI.oA.lt g hg).2, fun h => (by cases h), fun h => (by cases h)⟩, ⟨fun _ => ownsRow_same hI.oB fun g hg => hbel2.block g (hI.oB.lt g hg).2, fun h => (by cases h), fun h => (by cases h)⟩, ?_, ?_⟩
        · simp only [List.mem_cons, List.not_mem_nil, or_false] at hp
          rcases hp with rfl | rfl | rfl
          · exact hold hI.r0
          · exact hold hI.r1
          · exact hrx
        · rintro g (⟨_, h1⟩ | ⟨h1, _⟩ | ⟨h1, _⟩) (⟨_, h2⟩ | ⟨h2, _⟩ | ⟨h2, _⟩)
          · exact hI.sep g h1 h2
          all_goals first | cases h1 | cases h2
        · rintro g ((⟨_, h1⟩ | ⟨h1, _⟩ | ⟨h1, _⟩) | (⟨_, h1⟩ | ⟨h1, _⟩ | ⟨h1, _⟩))
          · have := (hI.oA.lt g h1).2; omega
          · cases h1
          · cases h1
          · have := (hI.oB.lt g h1).2; omega
          · cases h1
          · cases h1
      go_wp2
      refine Go.Ev.wp_region_inv _ mixed (by kernel_rfl) (by kernel_rfl) hS0 ?_
      refine ⟨fun d vs w1 K hS hd hdep hcl hK => ?_, ?_⟩
      · go_simp
        exact hK _ _ (hS.pure (by decide) rfl)
      simp only [Act.put, List.setIfInBounds_toArray, List.set_cons_succ, List.set_cons_zero, Nat.reduceAdd]
      refine ⟨fun d vs w1 K hS hd hdep hcl hK => ?_, ?_⟩
      · have e0 : vs 0 = .pointer (some ⟨w.heap.size + 1 + 1, 2, none⟩) := hS.vals 0 (by decide) (depB hdep 0 (by kernel_rfl))
        have c1 := cell_of_row w1 _ 2 _ _ _ (hS.rA0 (closedF hcl 11 1 (by kernel_rfl) hd))
        simp only [List.getElem?_toArray, List.getElem?_cons_succ, List.getElem?_cons_zero] at c1
        simp only [e0] at hK ⊢
        go_simp
        exact hK _ _ (hS.pure (by decide) rfl)
      simp only [Act.put, List.setIfInBounds_toArray, List.set_cons_succ, List.set_cons_zero, Nat.reduceAdd]
      refine ⟨fun d vs w1 K hS hd hdep hcl hK => ?_, ?_⟩
      · have hx1 := hS.rows _ (List.mem_cons_of_mem _ (List.mem_cons_of_mem _ (List.mem_cons_self ..)))
        have c0 := cell_of_row w1 _ 0 _ _ _ hx1
        have c1 := cell_of_row w1 _ 1 _ _ _ hx1
        have c2 := cell_of_row w1 _ 2 _ _ _ hx1
        simp only [List.getElem?_toArray, List.getElem?_cons_succ, List.getElem?_cons_zero] at c0 c1 c2
        go_simp
        exact hK _ _ (hS.pure (by decide) rfl)
      simp only [Act.put, List.setIfInBounds_toArray, List.set_cons_succ, List.set_cons_zero, Nat.reduceAdd]
      refine ⟨fun d vs w1 K hS hd hdep hcl hK => ?_, ?_⟩
      · have e2 : vs 2 = .agg #[.int .i64 x0, .int .i64 x1, .string x2] := hS.vals 2 (by decide) (depB hdep 2 (by kernel_rfl))
        have h4 := closedF hcl 4 3 (by kernel_rfl) hd
        have hX := (Array.getElem?_eq_some_iff.1 (hS.rows _ (List.mem_cons_of_mem _ (List.mem_cons_of_mem _ (List.mem_cons_self ..))))).1
        simp only [e2] at hK ⊢
        go_simp
        refine hK _ _ (hS.boxA hX h4 hd (by have := hI.n4; omega) _ rfl)
      simp only [Act.put, List.setIfInBounds_toArray, List.set_cons_succ, List.set_cons_zero, Nat.reduceAdd]
      refine ⟨fun d vs w1 K hS hd hdep hcl hK => ?_, ?_⟩
      · have e1 : vs 1 = va := hS.vals 1 (by decide) (depB hdep 1 (by kernel_rfl))
        have d3 := depB hdep 3 (by kernel_rfl)
        have h11 := closedF hcl 11 4 (by kernel_rfl) hd
        have hX := (Array.getElem?_eq_some_iff.1 (hS.rows _ (List.mem_cons_of_mem _ (List.mem_cons_of_mem _ (List.mem_cons_self ..))))).1
        obtain ⟨g, eg, hg1, hg2, hgc⟩ := hS.sa.box d3 hd
        refine step_append_lies _ ?ga (.tmp 49) (.tmp 51) 24 ?gb (w.heap.size + 4) 34 i1 z1 3 32 hI1.sl hI1.info hI1.zero hI1.hsz hI1.hby hI1.hcl (by decide) va k (rowOf (es.take k)) ?gc (hS.sa.own0 hd) ⟨g, 0, none⟩ 1 1 (Ent.cells (x0, x1, x2)) ?gd rfl ?_ ?_ (by decide) ?_ ?_ (by have := hI.n4; omega) w1.heap.size rfl ?_
        case ga => rfl
        case gb => rfl
        case gc => exact e1
        case gd => exact eg
        · intro j u hu
          rw [Addr.add_lit, Nat.zero_add]
          exact hgc j u hu
        · intro u hu; simp [Ent.cells] at hu; rcases hu with rfl | rfl | rfl <;> rfl
        · unfold maxLen; omega
        · omega
        intro g' cap' w' hO' hgr hgb hlt
        exact hK _ _ (hS.appA hX hd h11 hfx (by have := hI.n4; omega) (Nat.le_refl _) hO' hgr hgb)
      simp only [Act.put, List.setIfInBounds_toArray, List.set_cons_succ, List.set_cons_zero, Nat.reduceAdd]
      refine ⟨fun d vs w1 K hS hd hdep hcl hK => ?_, ?_⟩
      · go_simp
        exact hK _ _ (hS.pure (by decide) rfl)
      simp only [Act.put, List.setIfInBounds_toArray, List.set_cons_succ, List.set_cons_zero, Nat.reduceAdd]
      refine ⟨fun d vs w1 K hS hd hdep hcl hK => ?_, ?_⟩
      · have e5 : vs 5 = .pointer (some ⟨w.heap.size + 1 + 1 + 1, 2, none⟩) := hS.vals 5 (by decide) (depB hdep 5 (by kernel_rfl))
        have c1 := cell_of_row w1 _ 2 _ _ _ (hS.rB0 (closedF hcl 13 6 (by kernel_rfl) hd))
        simp only [List.getElem?_toArray, List.getElem?_cons_succ, List.getElem?_cons_zero] at c1
        simp only [e5] at hK ⊢
        go_simp
        exact hK _ _ (hS.pure (by decide) rfl)
      simp only [Act.put, List.setIfInBounds_toArray, List.set_cons_succ, List.set_cons_zero, Nat.reduceAdd]
      refine ⟨fun d vs w1 K hS hd hdep hcl hK => ?_, ?_⟩
      · have hx1 := hS.rows _ (List.mem_cons_of_mem _ (List.mem_cons_of_mem _ (List.mem_cons_self ..)))
        have c0 := cell_of_row w1 _ 0 _ _ _ hx1
        have c1 := cell_of_row w1 _ 1 _ _ _ hx1
        have c2 := cell_of_row w1 _ 2 _ _ _ hx1
        simp only [List.getElem?_toArray, List.getElem?_cons_succ, List.getElem?_cons_zero] at c0 c1 c2
        go_simp
        exact hK _ _ (hS.pure (by decide) rfl)
      simp only [Act.put, List.setIfInBounds_toArray, List.set_cons_succ, List.set_cons_zero, Nat.reduceAdd]
      refine ⟨fun d vs w1 K hS hd hdep hcl hK => ?_, ?_⟩
      · have e7 : vs 7 = .agg #[.int .i64 x0, .int .i64 x1, .string x2] := hS.vals 7 (by decide) (depB hdep 7 (by kernel_rfl))
        have h4 := closedF hcl 9 8 (by kernel_rfl) hd
        have hX := (Array.getElem?_eq_some_iff.1 (hS.rows _ (List.mem_cons_of_mem _ (List.mem_cons_of_mem _ (List.mem_cons_self ..))))).1
        simp only [e7] at hK ⊢
        go_simp
        refine hK _ _ (hS.boxB hX h4 hd (by have := hI.n4; omega) _ rfl)
      simp only [Act.put, List.setIfInBounds_toArray, List.set_cons_succ, List.set_cons_zero, Nat.reduceAdd]
      refine ⟨fun d vs w1 K hS hd hdep hcl hK => ?_, ?_⟩
      · have e6 : vs 6 = vb := hS.vals 6 (by decide) (depB hdep 6 (by kernel_rfl))
        have d8 := depB hdep 8 (by kernel_rfl)
        have h11 := closedF hcl 13 9 (by kernel_rfl) hd
        have hX := (Array.getElem?_eq_some_iff.1 (hS.rows _ (List.mem_cons_of_mem _ (List.mem_cons_of_mem _ (List.mem_cons_self ..))))).1
        obtain ⟨g, eg, hg1, hg2, hgc⟩ := hS.sb.box d8 hd
        refine step_append_lies _ ?ga (.tmp 54) (.tmp 56) 27 ?gb (w.heap.size + 4) 67 i2 z2 3 32 hI2.sl hI2.info hI2.zero hI2.hsz hI2.hby hI2.hcl (by decide) vb k (rowOf (es.take k)) ?gc (hS.sb.own0 hd) ⟨g, 0, none⟩ 1 1 (Ent.cells (x0, x1, x2)) ?gd rfl ?_ ?_ (by decide) ?_ ?_ (by have := hI.n4; omega) w1.heap.size rfl ?_
        case ga => rfl
        case gb => rfl
        case gc => exact e6
        case gd => exact eg
        · intro j u hu
          rw [Addr.add_lit, Nat.zero_add]
          exact hgc j u hu
        · intro u hu; simp [Ent.cells] at hu; rcases hu with rfl | rfl | rfl <;> rfl
        · unfold maxLen; omega
        · omega
        intro g' cap' w' hO' hgr hgb hlt
        exact hK _ _ (hS.appB hX hd h11 hfx (by have := hI.n4; omega) (Nat.le_refl _) hO' hgr hgb)
      simp only [Act.put, List.setIfInBounds_toArray, List.set_cons_succ, List.set_cons_zero, Nat.reduceAdd]
      refine ⟨fun d vs w1 K hS hd hdep hcl hK => ?_, ?_⟩
      · go_simp
        exact hK _ _ (hS.pure (by decide) rfl)
      simp only [Act.put, List.setIfInBounds_toArray, List.set_cons_succ, List.set_cons_zero, Nat.reduceAdd]
      refine ⟨fun d vs w1 K hS hd hdep hcl hK => ?_, ?_⟩
      · have e10 : vs 10 = .pointer (some ⟨w.heap.size + 1 + 1, 2, none⟩) := hS.vals 10 (by decide) (depB hdep 10 (by kernel_rfl))
        have dv := depB hdep 4 (by kernel_rfl)
        have hO := hS.sa.own1 dv
        have hr0 := hS.rA0 hd
        obtain ⟨g, cap5, e5⟩ : ∃ g cap5, vs 4 = .slice (some ⟨g, 0, none⟩) (k + 1) cap5 := by
          rcases hO.2 with ⟨_, h0⟩ | ⟨g, cap5, cur, e5, _⟩
          · omega
          · exact ⟨g, cap5, e5⟩
        have c2 := cell_of_row w1 _ 2 _ _ _ hr0
        have f2 := frozen_of_row w1 _ 2 _ _ hr0
        have hst := hS.stA hd hfxrA (Nat.le_refl _) (cs := fun v => #[.int .i64 3, .string st, v]) (t := 26) (fun _ => rfl) (fun _ _ => rfl) undef
        rw [e5] at hst
        simp only [e10, e5] at hK ⊢
        go_simp
        exact hK undef _ hst
      simp only [Act.put]
      refine ⟨fun d vs w1 K hS hd hdep hcl hK => ?_, ?_⟩
      · go_simp
        exact hK _ _ (hS.pure (by decide) rfl)
      simp only [Act.put, List.setIfInBounds_toArray, List.set_cons_succ, List.set_cons_zero, Nat.reduceAdd]
      refine ⟨fun d vs w1 K hS hd hdep hcl hK => ?_, ?_⟩
      · have e12 : vs 12 = .pointer (some ⟨w.heap.size + 1 + 1 + 1, 2, none⟩) := hS.vals 12 (by decide) (depB hdep 12 (by kernel_rfl))
        have dv := depB hdep 9 (by kernel_rfl)
        have hO := hS.sb.own1 dv
        have hr0 := hS.rB0 hd
        obtain ⟨g, cap5, e5⟩ : ∃ g cap5, vs 9 = .slice (some ⟨g, 0, none⟩) (k + 1) cap5 := by
          rcases hO.2 with ⟨_, h0⟩ | ⟨g, cap5, cur, e5, _⟩
          · omega
          · exact ⟨g, cap5, e5⟩
        have c2 := cell_of_row w1 _ 2 _ _ _ hr0
        have f2 := frozen_of_row w1 _ 2 _ _ hr0
        have hst := hS.stB hd hfxrB (Nat.le_refl _) (cs := fun v => #[.int .i64 3, .string st, v]) (t := 29) (fun _ => rfl) (fun _ _ => rfl) undef
        rw [e5] at hst
        simp only [e12, e5] at hK ⊢
        go_simp
        exact hK undef _ hst
      simp only [Act.put]
      intro vs d w3 hS hall
      have hI2 : LogI w.heap.size st es w (k + 1) (vs 4) (vs 9) w3 := by
        have htk : rowOf (es.take (k + 1)) = rowOf (es.take k) ++ Ent.cells (x0, x1, x2) := by
          rw [List.take_add_one, hx, rowOf_append]; simp [rowOf_one]
        refine ⟨hS.bel, hS.rows _ (List.mem_cons_self ..), hS.rows _ (List.mem_cons_of_mem _ (List.mem_cons_self ..)), hS.rA1 (hall 11 (by decide)), hS.rB1 (hall 13 (by decide)), ?_, ?_, fun g hg hg2 => ?_⟩
        · rw [htk]; exact hS.sa.own1 (hall 4 (by decide))
        · rw [htk]; exact hS.sb.own1 (hall 9 (by decide))
        · exact hS.sep g (.inr (.inl ⟨hall 4 (by decide), hg⟩)) (.inr (.inl ⟨hall 9 (by decide), hg2⟩))
      clear hS hall hS0
      go_wp2
      exact ⟨⟨k + 1, vs 4, vs 9, by omega, by omega, by simp, hI2⟩, by simp [intOf]; omega⟩
    · have hout : es.take k = es.take 30 := by
        rcases Nat.lt_or_ge k 30 with h | h
        · rw [List.take_of_length_le (by omega), List.take_of_length_le (by omega)]
        · rw [show k = 30 by omega]
      obtain ⟨aA, cA, rfl⟩ := ownsRow_slice hI.oA
      obtain ⟨aB, cB, rfl⟩ := ownsRow_slice hI.oB
      have m0 : wr.cell? ⟨w.heap.size + 1 + 1, 0, none⟩ = some (.int .i64 3) := by rw [cell_of_row _ _ _ _ _ _ hI.rA]; rfl
      have m1 : wr.cell? ⟨w.heap.size + 1 + 1, 1, none⟩ = some (.string st) := by rw [cell_of_row _ _ _ _ _ _ hI.rA]; rfl
      have m2 : wr.cell? ⟨w.heap.size + 1 + 1, 2, none⟩ = some (.slice aA k cA) := by rw [cell_of_row _ _ _ _ _ _ hI.rA]; rfl
      have n0 : wr.cell? ⟨w.heap.size + 1 + 1 + 1, 0, none⟩ = some (.int .i64 3) := by rw [cell_of_row _ _ _ _ _ _ hI.rB]; rfl
      have n1 : wr.cell? ⟨w.heap.size + 1 + 1 + 1, 1, none⟩ = some (.string st) := by rw [cell_of_row _ _ _ _ _ _ hI.rB]; rfl
      have n2 : wr.cell? ⟨w.heap.size + 1 + 1 + 1, 2, none⟩ = some (.slice aB k cB) := by rw [cell_of_row _ _ _ _ _ _ hI.rB]; rfl
      have q0 : wr.cell? ⟨w.heap.size, 0, none⟩ = some (.int .i64 0) := by rw [cell_of_row _ _ _ _ _ _ hI.r0]; rfl
      have q1 : wr.cell? ⟨w.heap.size, 1, none⟩ = some (.string ByteArray.empty) := by rw [cell_of_row _ _ _ _ _ _ hI.r0]; rfl
      have q2 : wr.cell? ⟨w.heap.size, 2, none⟩ = some (.slice none 0 0) := by rw [cell_of_row _ _ _ _ _ _ hI.r0]; rfl
      have p0 : wr.cell? ⟨w.heap.size + 1, 0, none⟩ = some (.int .i64 0) := by rw [cell_of_row _ _ _ _ _ _ hI.r1]; rfl
      have p1 : wr.cell? ⟨w.heap.size + 1, 1, none⟩ = some (.string ByteArray.empty) := by rw [cell_of_row _ _ _ _ _ _ hI.r1]; rfl
      have p2 : wr.cell? ⟨w.heap.size + 1, 2, none⟩ = some (.slice none 0 0) := by rw [cell_of_row _ _ _ _ _ _ hI.r1]; rfl
      have f0 := frozen_of_row wr w.heap.size 0 _ _ hI.r0
      have f1 := frozen_of_row wr w.heap.size 1 _ _ hI.r0
      have f2 := frozen_of_row wr w.heap.size 2 _ _ hI.r0
      have g0 := frozen_of_row wr (w.heap.size + 1) 0 _ _ hI.r1
      have g1 := frozen_of_row wr (w.heap.size + 1) 1 _ _ hI.r1
      have g2 := frozen_of_row wr (w.heap.size + 1) 2 _ _ hI.r1
      have hoA : wr.ownsRow (w.heap.size + 4) 34 3 (.slice aA k cA) (es.take 30).length (rowOf (es.take 30)) := by
        have hlen : (es.take 30).length = k := by rw [← hout, List.length_take]; omega
        rw [hlen, ← hout]; exact hI.oA
      go_wp2
      all_goals go_region
      all_goals go_wp2
      all_goals
        refine bodyPost_ret (v := .tuple #[lv 3 st (.slice aA k cA), lv 3 st (.slice aB k cB)]) ?_ rfl ?_
        · simp [results, asAddr]
          go_simp
        · refine ⟨_, _, _, _, rfl, ?_, Lies.of_row (base := w.heap.size + 4) (t := 34) ?_⟩
          · exact below_six hI.bel _ _ _ _ _ _
          · exact owns_six hoA _ _ _ _ _ _
#print axioms logs_any
end Go.Proofs.YtekmkmidjoenoaaGreatDoor
