/- Where the region of logs stands that appends to two logs, in whatever order. -/
import Derived.Test.YtekmkmidjoenoaaGreatDoorCut
namespace Go.Proofs.YtekmkmidjoenoaaGreatDoor
open Go.RowKit Go.Ev

/-- One of the two appends: the row, the box of what is appended, the row behind. -/
structure Side (N4 k : Nat) (e : TypeId) (v : Value) (R c : List Value) (dS dA : Bool) (vS vA : Value) (w : World) : Prop where
  own0 : dA = false → w.ownsRow N4 e 3 v k R
  own1 : dA = true → w.ownsRow N4 e 3 vA (k + 1) (R ++ c)
  box : dS = true → dA = false → ∃ g, vS = .slice (some ⟨g, 0, none⟩) 1 1 ∧ N4 ≤ g ∧ g < w.heap.size ∧ ∀ j u, c[j]? = some u → w.cell? ⟨g, j, none⟩ = some u

def uses (v : Value) (dS dA : Bool) (vS vA : Value) (g : Nat) : Prop := (dA = false ∧ v.ownBlock = some g) ∨ (dA = true ∧ vA.ownBlock = some g) ∨ (dS = true ∧ dA = false ∧ vS.ownBlock = some g)

theorem Side.lt {N4 k : Nat} {e : TypeId} {v : Value} {R c : List Value} {dS dA : Bool} {vS vA : Value} {w : World} (h : Side N4 k e v R c dS dA vS vA w) {g : Nat} (hg : uses v dS dA vS vA g) : N4 ≤ g ∧ g < w.heap.size := by
  rcases hg with ⟨h1, h2⟩ | ⟨h1, h2⟩ | ⟨h1, h2, h3⟩
  · exact (h.own0 h1).lt g h2
  · exact (h.own1 h1).lt g h2
  · obtain ⟨g', rfl, q1, q2, _⟩ := h.box h1 h2
    cases h3
    exact ⟨q1, q2⟩

theorem ownsRow_same {w w' : World} {base : Nat} {e : TypeId} {size n : Nat} {v : Value} {xs : List Value} (h : w.ownsRow base e size v n xs) (hk : ∀ g, v.ownBlock = some g → w'.heap[g]? = w.heap[g]?) : w'.ownsRow base e size v n xs := by
  obtain ⟨h1, h2⟩ := h
  refine ⟨h1, ?_⟩
  rcases h2 with h2 | ⟨g, cap, cur, rfl, hg', hh, k⟩
  · exact .inl h2
  · exact .inr ⟨g, cap, cur, rfl, hg', (hk g rfl).trans hh, k⟩

theorem Side.keep {N4 k : Nat} {e : TypeId} {v : Value} {R c : List Value} {dS dA : Bool} {vS vA : Value} {w w' : World} (h : Side N4 k e v R c dS dA vS vA w) (hs : w.heap.size ≤ w'.heap.size) (hk : ∀ g, uses v dS dA vS vA g → w'.heap[g]? = w.heap[g]?) : Side N4 k e v R c dS dA vS vA w' where
  own0 := fun h0 => ownsRow_same (h.own0 h0) fun g hg => hk g (.inl ⟨h0, hg⟩)
  own1 := fun h0 => ownsRow_same (h.own1 h0) fun g hg => hk g (.inr (.inl ⟨h0, hg⟩))
  box := fun h0 h1 => by
    obtain ⟨g, q1, q2, q3, q4⟩ := h.box h0 h1
    exact ⟨g, q1, q2, by omega, fun j u hu => (World.cell?_of_block (hk g (.inr (.inr ⟨h0, h1, by rw [q1]; rfl⟩)))).trans (q4 j u hu)⟩

structure LogS (w0 : World) (n X k : Nat) (fx : List (Nat × Obj)) (vals : Nat → Value) (va vb : Value) (rowA rowB : Value → Obj) (R c : List Value) (d : Nat → Bool) (vs : Nat → Value) (w : World) : Prop where
  vals : ∀ i, (i = 0 ∨ i = 1 ∨ i = 2 ∨ i = 5 ∨ i = 6 ∨ i = 7 ∨ i = 10 ∨ i = 12) → d i = true → vs i = vals i
  bel : Below w0.heap.size w0 w
  rows : ∀ p ∈ fx, w.heap[p.1]? = some p.2
  rA0 : d 11 = false → w.heap[n + 2]? = some (rowA va)
  rA1 : d 11 = true → w.heap[n + 2]? = some (rowA (vs 4))
  rB0 : d 13 = false → w.heap[n + 3]? = some (rowB vb)
  rB1 : d 13 = true → w.heap[n + 3]? = some (rowB (vs 9))
  sa : Side (n + 4) k 34 va R c (d 3) (d 4) (vs 3) (vs 4) w
  sb : Side (n + 4) k 67 vb R c (d 8) (d 9) (vs 8) (vs 9) w
  sep : ∀ g, uses va (d 3) (d 4) (vs 3) (vs 4) g → ¬ uses vb (d 8) (d 9) (vs 8) (vs 9) g
  sx : ∀ g, uses va (d 3) (d 4) (vs 3) (vs 4) g ∨ uses vb (d 8) (d 9) (vs 8) (vs 9) g → g ≠ X

section
variable {w0 : World} {n X k : Nat} {fx : List (Nat × Obj)} {vals : Nat → Value} {va vb : Value} {rowA rowB : Value → Obj} {R c : List Value} {d : Nat → Bool} {vs : Nat → Value} {w : World}

/-- A step that only reads. -/
theorem LogS.pure (h : LogS w0 n X k fx vals va vb rowA rowB R c d vs w) {i : Nat} (hi : i = 0 ∨ i = 1 ∨ i = 2 ∨ i = 5 ∨ i = 6 ∨ i = 7 ∨ i = 10 ∨ i = 12) {u : Value} (hu : u = vals i) :
    LogS w0 n X k fx vals va vb rowA rowB R c (upd d i true) (upd vs i u) w := by
  have e3 : upd d i true 3 = d 3 := upd_other _ _ (by omega)
  have e4 : upd d i true 4 = d 4 := upd_other _ _ (by omega)
  have e8 : upd d i true 8 = d 8 := upd_other _ _ (by omega)
  have e9 : upd d i true 9 = d 9 := upd_other _ _ (by omega)
  have e11 : upd d i true 11 = d 11 := upd_other _ _ (by omega)
  have e13 : upd d i true 13 = d 13 := upd_other _ _ (by omega)
  have f3 : upd vs i u 3 = vs 3 := upd_other _ _ (by omega)
  have f4 : upd vs i u 4 = vs 4 := upd_other _ _ (by omega)
  have f8 : upd vs i u 8 = vs 8 := upd_other _ _ (by omega)
  have f9 : upd vs i u 9 = vs 9 := upd_other _ _ (by omega)
  refine ⟨fun j hj hd => ?_, h.bel, h.rows, ?_, ?_, ?_, ?_, ?_, ?_, ?_, ?_⟩
  · by_cases e : j = i
    · subst e; rw [upd_same]; exact hu
    · rw [upd_other _ _ e] at hd ⊢; exact h.vals j hj hd
  · rw [e11]; exact h.rA0
  · rw [e11, f4]; exact h.rA1
  · rw [e13]; exact h.rB0
  · rw [e13, f9]; exact h.rB1
  · rw [e3, e4, f3, f4]; exact h.sa
  · rw [e8, e9, f8, f9]; exact h.sb
  · rw [e3, e4, f3, f4, e8, e9, f8, f9]; exact h.sep
  · rw [e3, e4, f3, f4, e8, e9, f8, f9]; exact h.sx

/-- The box of what is appended is made: a new block. -/
theorem LogS.boxA (h : LogS w0 n X k fx vals va vb rowA rowB R c d vs w) (hX : X < w.heap.size) (h4 : d 4 = false) (hd : d 3 = false) (hN : n + 4 ≤ w.heap.size) {t : TypeId} (cs : Array Value) (hc : cs.toList = c) :
    LogS w0 n X k fx vals va vb rowA rowB R c (upd d 3 true) (upd vs 3 (.slice (some ⟨w.heap.size, 0, none⟩) 1 1)) (w.alloc (.cells cs t)) := by
  have hal : ∀ g, g < w.heap.size → (w.alloc (.cells cs t)).heap[g]? = w.heap[g]? := fun g hg => heap_alloc_old w _ hg
  have hlt : ∀ {g o}, w.heap[g]? = some o → g < w.heap.size := fun {g o} hh => (Array.getElem?_eq_some_iff.1 hh).1
  have hu : ∀ g, uses va true false (.slice (some ⟨w.heap.size, 0, none⟩) 1 1) (vs 4) g → uses va (d 3) (d 4) (vs 3) (vs 4) g ∨ g = w.heap.size := by
    intro g hg
    rw [h4, hd]
    rcases hg with ⟨_, h2⟩ | ⟨h1, _⟩ | ⟨_, _, h3⟩
    · exact .inl (.inl ⟨rfl, h2⟩)
    · cases h1
    · cases h3; exact .inr rfl
  refine ⟨fun j hj hd => ?_, h.bel.alloc h.bel.size _, fun p hp => (hal _ (hlt (h.rows p hp))).trans (h.rows p hp), fun h1 => ?_, fun h1 => ?_, fun h1 => ?_, fun h1 => ?_, ?_, ?_, ?_, ?_⟩
  · rw [upd_other _ _ (by omega)] at hd ⊢; exact h.vals j hj hd
  · rw [upd_other _ _ (by omega)] at h1; exact (hal _ (hlt (h.rA0 h1))).trans (h.rA0 h1)
  · rw [upd_other _ _ (by omega)] at h1 ⊢; exact (hal _ (hlt (h.rA1 h1))).trans (h.rA1 h1)
  · rw [upd_other _ _ (by omega)] at h1; exact (hal _ (hlt (h.rB0 h1))).trans (h.rB0 h1)
  · rw [upd_other _ _ (by omega)] at h1 ⊢; exact (hal _ (hlt (h.rB1 h1))).trans (h.rB1 h1)
  · have e4 : upd d 3 true 4 = false := (upd_other _ _ (by omega)).trans h4
    have f4 : upd vs 3 (Value.slice (some ⟨w.heap.size, 0, none⟩) 1 1) 4 = vs 4 := upd_other _ _ (by omega)
    rw [upd_same, upd_same, e4, f4]
    refine ⟨fun _ => ownsRow_below (h.sa.own0 h4) ((Below.refl _ w).alloc (Nat.le_refl _) _), fun h => (by cases h), fun _ _ => ⟨w.heap.size, rfl, hN, by simp, fun j u hu => ?_⟩⟩
    rw [cell_of_row _ _ _ _ _ _ (heap_alloc_new w _)]
    rw [← hc] at hu
    simpa using hu
  · rw [upd_other _ _ (by omega), upd_other _ _ (by omega), upd_other _ _ (by omega), upd_other _ _ (by omega)]
    exact h.sb.keep (by simp) fun g hg => hal g (h.sb.lt hg).2
  · have e4 : upd d 3 true 4 = false := (upd_other _ _ (by omega)).trans h4
    have f4 : upd vs 3 (Value.slice (some ⟨w.heap.size, 0, none⟩) 1 1) 4 = vs 4 := upd_other _ _ (by omega)
    rw [upd_same, upd_same, e4, f4, upd_other _ _ (by omega), upd_other _ _ (by omega), upd_other _ _ (by omega), upd_other _ _ (by omega)]
    intro g hg hb
    rcases hu g hg with h1 | h1
    · exact h.sep g h1 hb
    · have := (h.sb.lt hb).2; omega
  · have e4 : upd d 3 true 4 = false := (upd_other _ _ (by omega)).trans h4
    have f4 : upd vs 3 (Value.slice (some ⟨w.heap.size, 0, none⟩) 1 1) 4 = vs 4 := upd_other _ _ (by omega)
    rw [upd_same, upd_same, e4, f4, upd_other _ _ (by omega), upd_other _ _ (by omega), upd_other _ _ (by omega), upd_other _ _ (by omega)]
    intro g hg
    rcases hg with hg | hg
    · rcases hu g hg with h1 | h1
      · exact h.sx g (.inl h1)
      · omega
    · exact h.sx g (.inr hg)

/-- The append itself: in its own block, or in a new one. -/
theorem LogS.appA (h : LogS w0 n X k fx vals va vb rowA rowB R c d vs w) (hX : X < w.heap.size) (hd : d 4 = false) (h11 : d 11 = false) (hfx : ∀ p ∈ fx, p.1 < n + 4 ∨ p.1 = X) (hN : n + 4 ≤ w.heap.size) (hw0 : w0.heap.size ≤ n) {g cap : Nat} {w' : World}
    (hO : w'.ownsRow (n + 4) 34 3 (.slice (some ⟨g, 0, none⟩) (k + 1) cap) (k + 1) (R ++ c)) (hgr : w.grownBy w' va.ownBlock) (hg : va.ownBlock = some g ∨ g = w.heap.size) :
    LogS w0 n X k fx vals va vb rowA rowB R c (upd d 4 true) (upd vs 4 (.slice (some ⟨g, 0, none⟩) (k + 1) cap)) w' := by
  have hva : ∀ j, va.ownBlock = some j → uses va (d 3) (d 4) (vs 3) (vs 4) j := fun j hj => .inl ⟨hd, hj⟩
  have hge : ∀ j, va.ownBlock = some j → n + 4 ≤ j ∧ j ≠ X := fun j hj => ⟨(h.sa.lt (hva j hj)).1, h.sx j (.inl (hva j hj))⟩
  have hal : ∀ j, j < w.heap.size → (j < n + 4 ∨ j = X) → w'.heap[j]? = w.heap[j]? := fun j hj hn => hgr.block j hj fun e => by have := hge j e.symm; omega
  have hlt : ∀ {g o}, w.heap[g]? = some o → g < w.heap.size := fun {g o} hh => (Array.getElem?_eq_some_iff.1 hh).1
  have hgx : g ≠ X := by
    rcases hg with hg | hg
    · exact (hge g hg).2
    · omega
  have hgb : ∀ j, uses vb (d 8) (d 9) (vs 8) (vs 9) j → j ≠ g := by
    rintro j hj rfl
    rcases hg with hg | hg
    · exact h.sep j (hva j hg) hj
    · have := (h.sb.lt hj).2; omega
  have e3 : upd d 4 true 3 = d 3 := upd_other _ _ (by omega)
  have f3 : ∀ u, upd vs 4 u 3 = vs 3 := fun u => upd_other _ _ (by omega)
  have e8 : upd d 4 true 8 = d 8 := upd_other _ _ (by omega)
  have e9 : upd d 4 true 9 = d 9 := upd_other _ _ (by omega)
  have f8 : ∀ u, upd vs 4 u 8 = vs 8 := fun u => upd_other _ _ (by omega)
  have f9 : ∀ u, upd vs 4 u 9 = vs 9 := fun u => upd_other _ _ (by omega)
  have hu : ∀ j, uses va (d 3) true (vs 3) (.slice (some ⟨g, 0, none⟩) (k + 1) cap) j → j = g := by
    rintro j (⟨h1, _⟩ | ⟨_, h2⟩ | ⟨_, h1, _⟩)
    · cases h1
    · cases h2; rfl
    · cases h1
  refine ⟨fun j hj hd => ?_, h.bel.grown hgr h.bel.size (fun j hj => by have := (hge j hj).1; omega), fun p hp => (hal _ (hlt (h.rows p hp)) (hfx p hp)).trans (h.rows p hp), fun h1 => ?_, fun h1 => ?_, fun h1 => ?_, fun h1 => ?_, ?_, ?_, ?_, ?_⟩
  · rw [upd_other _ _ (by omega)] at hd ⊢; exact h.vals j hj hd
  · rw [upd_other _ _ (by omega)] at h1; exact (hal _ (hlt (h.rA0 h1)) (by omega)).trans (h.rA0 h1)
  · rw [upd_other _ _ (by omega)] at h1
    rw [h11] at h1; cases h1
  · rw [upd_other _ _ (by omega)] at h1; exact (hal _ (hlt (h.rB0 h1)) (by omega)).trans (h.rB0 h1)
  · rw [upd_other _ _ (by omega)] at h1 ⊢; exact (hal _ (hlt (h.rB1 h1)) (by omega)).trans (h.rB1 h1)
  · rw [e3, upd_same, upd_same, f3]
    exact ⟨fun h => (by cases h), fun _ => hO, fun _ h => (by cases h)⟩
  · rw [e8, e9, f8, f9]
    exact h.sb.keep hgr.size fun j hj => hgr.block j (h.sb.lt hj).2 fun e => h.sep j (hva j e.symm) hj
  · rw [e3, upd_same, upd_same, f3, e8, e9, f8, f9]
    intro j hj hb
    exact hgb j hb (hu j hj)
  · rw [e3, upd_same, upd_same, f3, e8, e9, f8, f9]
    intro j hj
    rcases hj with hj | hj
    · rw [hu j hj]; exact hgx
    · exact h.sx j (.inr hj)

/-- The header's store. -/
theorem LogS.stA (h : LogS w0 n X k fx vals va vb rowA rowB R c d vs w) (hd : d 11 = false) (hfx : ∀ p ∈ fx, p.1 ≠ n + 2) (hw0 : w0.heap.size ≤ n) {cs : Value → Array Value} {t : TypeId} (hrow : ∀ v, rowA v = .cells (cs v) t) (hcs : ∀ v u, (cs v).setIfInBounds 2 u = cs u) (x : Value) :
    LogS w0 n X k fx vals va vb rowA rowB R c (upd d 11 true) (upd vs 11 x) (w.setCell ⟨n + 2, 2, none⟩ (vs 4)) := by
  have hal : ∀ j, j ≠ n + 2 → (w.setCell ⟨n + 2, 2, none⟩ (vs 4)).heap[j]? = w.heap[j]? := fun j hj => Below.heap_setCell _ _ _ _ hj
  have e3 : upd d 11 true 3 = d 3 := upd_other _ _ (by omega)
  have e4 : upd d 11 true 4 = d 4 := upd_other _ _ (by omega)
  have e8 : upd d 11 true 8 = d 8 := upd_other _ _ (by omega)
  have e9 : upd d 11 true 9 = d 9 := upd_other _ _ (by omega)
  have f3 : upd vs 11 x 3 = vs 3 := upd_other _ _ (by omega)
  have f4 : upd vs 11 x 4 = vs 4 := upd_other _ _ (by omega)
  have f8 : upd vs 11 x 8 = vs 8 := upd_other _ _ (by omega)
  have f9 : upd vs 11 x 9 = vs 9 := upd_other _ _ (by omega)
  refine ⟨fun j hj hd => ?_, h.bel.setCell (by show _ ≤ n + 2; omega) _, fun p hp => (hal _ (hfx p hp)).trans (h.rows p hp), fun h1 => ?_, fun h1 => ?_, fun h1 => ?_, fun h1 => ?_, ?_, ?_, ?_, ?_⟩
  · rw [upd_other _ _ (by omega)] at hd ⊢; exact h.vals j hj hd
  · rw [upd_same] at h1; cases h1
  · rw [f4, hrow]
    rw [heap_setCell_same _ _ _ _ _ _ ((h.rA0 hd).trans (by rw [hrow])), hcs]
  · rw [upd_other _ _ (by omega)] at h1; exact (hal _ (by omega)).trans (h.rB0 h1)
  · rw [upd_other _ _ (by omega)] at h1 ⊢; exact (hal _ (by omega)).trans (h.rB1 h1)
  · rw [e3, e4, f3, f4]
    exact h.sa.keep (by simp) fun g hg => hal g (by have := (h.sa.lt hg).1; omega)
  · rw [e8, e9, f8, f9]
    exact h.sb.keep (by simp) fun g hg => hal g (by have := (h.sb.lt hg).1; omega)
  · rw [e3, e4, f3, f4, e8, e9, f8, f9]; exact h.sep
  · rw [e3, e4, f3, f4, e8, e9, f8, f9]; exact h.sx

/-- The box of what is appended is made: a new block. -/
theorem LogS.boxB (h : LogS w0 n X k fx vals va vb rowA rowB R c d vs w) (hX : X < w.heap.size) (h4 : d 9 = false) (hd : d 8 = false) (hN : n + 4 ≤ w.heap.size) {t : TypeId} (cs : Array Value) (hc : cs.toList = c) :
    LogS w0 n X k fx vals va vb rowA rowB R c (upd d 8 true) (upd vs 8 (.slice (some ⟨w.heap.size, 0, none⟩) 1 1)) (w.alloc (.cells cs t)) := by
  have hal : ∀ g, g < w.heap.size → (w.alloc (.cells cs t)).heap[g]? = w.heap[g]? := fun g hg => heap_alloc_old w _ hg
  have hlt : ∀ {g o}, w.heap[g]? = some o → g < w.heap.size := fun {g o} hh => (Array.getElem?_eq_some_iff.1 hh).1
  have hu : ∀ g, uses vb true false (.slice (some ⟨w.heap.size, 0, none⟩) 1 1) (vs 9) g → uses vb (d 8) (d 9) (vs 8) (vs 9) g ∨ g = w.heap.size := by
    intro g hg
    rw [h4, hd]
    rcases hg with ⟨_, h2⟩ | ⟨h1, _⟩ | ⟨_, _, h3⟩
    · exact .inl (.inl ⟨rfl, h2⟩)
    · cases h1
    · cases h3; exact .inr rfl
  refine ⟨fun j hj hd => ?_, h.bel.alloc h.bel.size _, fun p hp => (hal _ (hlt (h.rows p hp))).trans (h.rows p hp), fun h1 => ?_, fun h1 => ?_, fun h1 => ?_, fun h1 => ?_, ?_, ?_, ?_, ?_⟩
  · rw [upd_other _ _ (by omega)] at hd ⊢; exact h.vals j hj hd
  · rw [upd_other _ _ (by omega)] at h1; exact (hal _ (hlt (h.rA0 h1))).trans (h.rA0 h1)
  · rw [upd_other _ _ (by omega)] at h1 ⊢; exact (hal _ (hlt (h.rA1 h1))).trans (h.rA1 h1)
  · rw [upd_other _ _ (by omega)] at h1; exact (hal _ (hlt (h.rB0 h1))).trans (h.rB0 h1)
  · rw [upd_other _ _ (by omega)] at h1 ⊢; exact (hal _ (hlt (h.rB1 h1))).trans (h.rB1 h1)
  · rw [upd_other _ _ (by omega), upd_other _ _ (by omega), upd_other _ _ (by omega), upd_other _ _ (by omega)]
    exact h.sa.keep (by simp) fun g hg => hal g (h.sa.lt hg).2
  · have e4 : upd d 8 true 9 = false := (upd_other _ _ (by omega)).trans h4
    have f4 : upd vs 8 (Value.slice (some ⟨w.heap.size, 0, none⟩) 1 1) 9 = vs 9 := upd_other _ _ (by omega)
    rw [upd_same, upd_same, e4, f4]
    refine ⟨fun _ => ownsRow_below (h.sb.own0 h4) ((Below.refl _ w).alloc (Nat.le_refl _) _), fun h => (by cases h), fun _ _ => ⟨w.heap.size, rfl, hN, by simp, fun j u hu => ?_⟩⟩
    rw [cell_of_row _ _ _ _ _ _ (heap_alloc_new w _)]
    rw [← hc] at hu
    simpa using hu
  · have e4 : upd d 8 true 9 = false := (upd_other _ _ (by omega)).trans h4
    have f4 : upd vs 8 (Value.slice (some ⟨w.heap.size, 0, none⟩) 1 1) 9 = vs 9 := upd_other _ _ (by omega)
    rw [upd_same, upd_same, e4, f4, upd_other _ _ (by omega), upd_other _ _ (by omega), upd_other _ _ (by omega), upd_other _ _ (by omega)]
    intro g hb hg
    rcases hu g hg with h1 | h1
    · exact h.sep g hb h1
    · have := (h.sa.lt hb).2; omega
  · have e4 : upd d 8 true 9 = false := (upd_other _ _ (by omega)).trans h4
    have f4 : upd vs 8 (Value.slice (some ⟨w.heap.size, 0, none⟩) 1 1) 9 = vs 9 := upd_other _ _ (by omega)
    rw [upd_same, upd_same, e4, f4, upd_other _ _ (by omega), upd_other _ _ (by omega), upd_other _ _ (by omega), upd_other _ _ (by omega)]
    intro g hg
    rcases hg with hg | hg
    · exact h.sx g (.inl hg)
    · rcases hu g hg with h1 | h1
      · exact h.sx g (.inr h1)
      · omega

/-- The append itself: in its own block, or in a new one. -/
theorem LogS.appB (h : LogS w0 n X k fx vals va vb rowA rowB R c d vs w) (hX : X < w.heap.size) (hd : d 9 = false) (h11 : d 13 = false) (hfx : ∀ p ∈ fx, p.1 < n + 4 ∨ p.1 = X) (hN : n + 4 ≤ w.heap.size) (hw0 : w0.heap.size ≤ n) {g cap : Nat} {w' : World}
    (hO : w'.ownsRow (n + 4) 67 3 (.slice (some ⟨g, 0, none⟩) (k + 1) cap) (k + 1) (R ++ c)) (hgr : w.grownBy w' vb.ownBlock) (hg : vb.ownBlock = some g ∨ g = w.heap.size) :
    LogS w0 n X k fx vals va vb rowA rowB R c (upd d 9 true) (upd vs 9 (.slice (some ⟨g, 0, none⟩) (k + 1) cap)) w' := by
  have hvb : ∀ j, vb.ownBlock = some j → uses vb (d 8) (d 9) (vs 8) (vs 9) j := fun j hj => .inl ⟨hd, hj⟩
  have hge : ∀ j, vb.ownBlock = some j → n + 4 ≤ j ∧ j ≠ X := fun j hj => ⟨(h.sb.lt (hvb j hj)).1, h.sx j (.inr (hvb j hj))⟩
  have hal : ∀ j, j < w.heap.size → (j < n + 4 ∨ j = X) → w'.heap[j]? = w.heap[j]? := fun j hj hn => hgr.block j hj fun e => by have := hge j e.symm; omega
  have hlt : ∀ {g o}, w.heap[g]? = some o → g < w.heap.size := fun {g o} hh => (Array.getElem?_eq_some_iff.1 hh).1
  have hgx : g ≠ X := by
    rcases hg with hg | hg
    · exact (hge g hg).2
    · omega
  have hgb : ∀ j, uses va (d 3) (d 4) (vs 3) (vs 4) j → j ≠ g := by
    rintro j hj rfl
    rcases hg with hg | hg
    · exact h.sep j hj (hvb j hg)
    · have := (h.sa.lt hj).2; omega
  have e3 : upd d 9 true 8 = d 8 := upd_other _ _ (by omega)
  have f3 : ∀ u, upd vs 9 u 8 = vs 8 := fun u => upd_other _ _ (by omega)
  have e8 : upd d 9 true 3 = d 3 := upd_other _ _ (by omega)
  have e9 : upd d 9 true 4 = d 4 := upd_other _ _ (by omega)
  have f8 : ∀ u, upd vs 9 u 3 = vs 3 := fun u => upd_other _ _ (by omega)
  have f9 : ∀ u, upd vs 9 u 4 = vs 4 := fun u => upd_other _ _ (by omega)
  have hu : ∀ j, uses vb (d 8) true (vs 8) (.slice (some ⟨g, 0, none⟩) (k + 1) cap) j → j = g := by
    rintro j (⟨h1, _⟩ | ⟨_, h2⟩ | ⟨_, h1, _⟩)
    · cases h1
    · cases h2; rfl
    · cases h1
  refine ⟨fun j hj hd => ?_, h.bel.grown hgr h.bel.size (fun j hj => by have := (hge j hj).1; omega), fun p hp => (hal _ (hlt (h.rows p hp)) (hfx p hp)).trans (h.rows p hp), fun h1 => ?_, fun h1 => ?_, fun h1 => ?_, fun h1 => ?_, ?_, ?_, ?_, ?_⟩
  · rw [upd_other _ _ (by omega)] at hd ⊢; exact h.vals j hj hd
  · rw [upd_other _ _ (by omega)] at h1; exact (hal _ (hlt (h.rA0 h1)) (by omega)).trans (h.rA0 h1)
  · rw [upd_other _ _ (by omega)] at h1 ⊢; exact (hal _ (hlt (h.rA1 h1)) (by omega)).trans (h.rA1 h1)
  · rw [upd_other _ _ (by omega)] at h1; exact (hal _ (hlt (h.rB0 h1)) (by omega)).trans (h.rB0 h1)
  · rw [upd_other _ _ (by omega)] at h1
    rw [h11] at h1; cases h1
  · rw [e8, e9, f8, f9]
    exact h.sa.keep hgr.size fun j hj => hgr.block j (h.sa.lt hj).2 fun e => h.sep j hj (hvb j e.symm)
  · rw [e3, upd_same, upd_same, f3]
    exact ⟨fun h => (by cases h), fun _ => hO, fun _ h => (by cases h)⟩
  · rw [e3, upd_same, upd_same, f3, e8, e9, f8, f9]
    intro j hb hj
    exact hgb j hb (hu j hj)
  · rw [e3, upd_same, upd_same, f3, e8, e9, f8, f9]
    intro j hj
    rcases hj with hj | hj
    · exact h.sx j (.inl hj)
    · rw [hu j hj]; exact hgx

/-- The header's store. -/
theorem LogS.stB (h : LogS w0 n X k fx vals va vb rowA rowB R c d vs w) (hd : d 13 = false) (hfx : ∀ p ∈ fx, p.1 ≠ n + 3) (hw0 : w0.heap.size ≤ n) {cs : Value → Array Value} {t : TypeId} (hrow : ∀ v, rowB v = .cells (cs v) t) (hcs : ∀ v u, (cs v).setIfInBounds 2 u = cs u) (x : Value) :
    LogS w0 n X k fx vals va vb rowA rowB R c (upd d 13 true) (upd vs 13 x) (w.setCell ⟨n + 3, 2, none⟩ (vs 9)) := by
  have hal : ∀ j, j ≠ n + 3 → (w.setCell ⟨n + 3, 2, none⟩ (vs 9)).heap[j]? = w.heap[j]? := fun j hj => Below.heap_setCell _ _ _ _ hj
  have e3 : upd d 13 true 8 = d 8 := upd_other _ _ (by omega)
  have e4 : upd d 13 true 9 = d 9 := upd_other _ _ (by omega)
  have e8 : upd d 13 true 3 = d 3 := upd_other _ _ (by omega)
  have e9 : upd d 13 true 4 = d 4 := upd_other _ _ (by omega)
  have f3 : upd vs 13 x 8 = vs 8 := upd_other _ _ (by omega)
  have f4 : upd vs 13 x 9 = vs 9 := upd_other _ _ (by omega)
  have f8 : upd vs 13 x 3 = vs 3 := upd_other _ _ (by omega)
  have f9 : upd vs 13 x 4 = vs 4 := upd_other _ _ (by omega)
  refine ⟨fun j hj hd => ?_, h.bel.setCell (by show _ ≤ n + 3; omega) _, fun p hp => (hal _ (hfx p hp)).trans (h.rows p hp), fun h1 => ?_, fun h1 => ?_, fun h1 => ?_, fun h1 => ?_, ?_, ?_, ?_, ?_⟩
  · rw [upd_other _ _ (by omega)] at hd ⊢; exact h.vals j hj hd
  · rw [upd_other _ _ (by omega)] at h1; exact (hal _ (by omega)).trans (h.rA0 h1)
  · rw [upd_other _ _ (by omega)] at h1 ⊢; exact (hal _ (by omega)).trans (h.rA1 h1)
  · rw [upd_same] at h1; cases h1
  · rw [f4, hrow]
    rw [heap_setCell_same _ _ _ _ _ _ ((h.rB0 hd).trans (by rw [hrow])), hcs]
  · rw [e8, e9, f8, f9]
    exact h.sa.keep (by simp) fun g hg => hal g (by have := (h.sa.lt hg).1; omega)
  · rw [e3, e4, f3, f4]
    exact h.sb.keep (by simp) fun g hg => hal g (by have := (h.sb.lt hg).1; omega)
  · rw [e3, e4, f3, f4, e8, e9, f8, f9]; exact h.sep
  · rw [e3, e4, f3, f4, e8, e9, f8, f9]; exact h.sx

end
end Go.Proofs.YtekmkmidjoenoaaGreatDoor
