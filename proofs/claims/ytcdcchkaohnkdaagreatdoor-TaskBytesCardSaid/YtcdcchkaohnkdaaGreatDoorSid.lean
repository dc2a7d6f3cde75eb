/- Where a region stands that appends to two rows, in whatever order. -/
import Derived.Test.YtcdcchkaohnkdaaGreatDoorRgn
import Derived.Test.YtcdcchkaohnkdaaGreatDoorExt
import Derived.Laws.AppendOwn
import Derived.WalkKit
import Derived.Lib.Walk
namespace Go.Proofs.YtcdcchkaohnkdaaGreatDoor
open Go.RowKit Go.Ev

/-- An element's type in the table. -/
structure RowInfo (t e : TypeId) (size bytes : Nat) (i : TypeInfo) (z : Value) : Prop where
  sl : Tryz.prog.underlying t = some (.slice e)
  info : Tryz.prog.info? e = some i
  zero : i.zero = some z
  hsz : i.size = size
  hby : i.bytes = bytes
  hcl : z.cells.size = size

noncomputable def rowInfoB (t e : TypeId) (size bytes : Nat) : Bool :=
  (match Tryz.prog.underlying t with | some (.slice x) => Nat.beq x e | _ => false) &&
  match Tryz.prog.info? e with
  | some i => (match i.zero with | some z => Nat.beq i.size size && Nat.beq i.bytes bytes && Nat.beq z.cells.size size | none => false)
  | none => false

theorem rowInfo_of {t e : TypeId} {size bytes : Nat} (h : rowInfoB t e size bytes = true) : ∃ i z, RowInfo t e size bytes i z := by
  unfold rowInfoB at h
  rw [Bool.and_eq_true] at h
  obtain ⟨h1, h2⟩ := h
  split at h1
  · rename_i x hx
    obtain rfl := Nat.eq_of_beq_eq_true h1
    split at h2
    · rename_i i hi
      split at h2
      · rename_i z hz
        simp only [Bool.and_eq_true] at h2
        exact ⟨i, z, hx, hi, hz, Nat.eq_of_beq_eq_true h2.1.1, Nat.eq_of_beq_eq_true h2.1.2, Nat.eq_of_beq_eq_true h2.2⟩
      · cases h2
    · cases h2
  · cases h1

theorem ownsRow_below {w w' : World} {base : Nat} {e : TypeId} {size n : Nat} {v : Value} {xs : List Value} (h : w.ownsRow base e size v n xs) (hb : Below w.heap.size w w') : w'.ownsRow base e size v n xs := by
  obtain ⟨h1, h2⟩ := h
  refine ⟨h1, ?_⟩
  rcases h2 with h2 | ⟨g, cap, cur, rfl, hg, hh, k⟩
  · exact .inl h2
  · exact .inr ⟨g, cap, cur, rfl, hg, (hb.block g (Array.getElem?_eq_some_iff.1 hh).1).trans hh, k⟩

theorem ownsRow_slice {w : World} {base : Nat} {e : TypeId} {size n : Nat} {v : Value} {xs : List Value} (h : w.ownsRow base e size v n xs) : ∃ a c, v = .slice a n c := by
  rcases h.2 with ⟨rfl, rfl⟩ | ⟨g, cap, cur, rfl, _⟩
  · exact ⟨_, _, rfl⟩
  · exact ⟨_, _, rfl⟩

theorem ownsRow_same {w w' : World} {base : Nat} {e : TypeId} {size n : Nat} {v : Value} {xs : List Value} (h : w.ownsRow base e size v n xs) (hk : ∀ g, v.ownBlock = some g → w'.heap[g]? = w.heap[g]?) : w'.ownsRow base e size v n xs := by
  obtain ⟨h1, h2⟩ := h
  refine ⟨h1, ?_⟩
  rcases h2 with h2 | ⟨g, cap, cur, rfl, hg', hh, k⟩
  · exact .inl h2
  · exact .inr ⟨g, cap, cur, rfl, hg', (hk g rfl).trans hh, k⟩

/-- One of the two appends: the row, the box of what is appended, the row behind. -/
structure Side (N k z : Nat) (e : TypeId) (v : Value) (R c : List Value) (dS dA : Bool) (vS vA : Value) (w : World) : Prop where
  own0 : dA = false → w.ownsRow N e z v k R
  own1 : dA = true → w.ownsRow N e z vA (k + 1) (R ++ c)
  box : dS = true → dA = false → ∃ g, vS = .slice (some ⟨g, 0, none⟩) 1 1 ∧ N ≤ g ∧ g < w.heap.size ∧ ∀ j u, c[j]? = some u → w.cell? ⟨g, j, none⟩ = some u

def uses (v : Value) (dS dA : Bool) (vS vA : Value) (g : Nat) : Prop := (dA = false ∧ v.ownBlock = some g) ∨ (dA = true ∧ vA.ownBlock = some g) ∨ (dS = true ∧ dA = false ∧ vS.ownBlock = some g)

theorem Side.lt {N k z : Nat} {e : TypeId} {v : Value} {R c : List Value} {dS dA : Bool} {vS vA : Value} {w : World} (h : Side N k z e v R c dS dA vS vA w) {g : Nat} (hg : uses v dS dA vS vA g) : N ≤ g ∧ g < w.heap.size := by
  rcases hg with ⟨h1, h2⟩ | ⟨h1, h2⟩ | ⟨h1, h2, h3⟩
  · exact (h.own0 h1).lt g h2
  · exact (h.own1 h1).lt g h2
  · obtain ⟨g', rfl, q1, q2, _⟩ := h.box h1 h2
    cases h3
    exact ⟨q1, q2⟩

theorem Side.keep {N k z : Nat} {e : TypeId} {v : Value} {R c : List Value} {dS dA : Bool} {vS vA : Value} {w w' : World} (h : Side N k z e v R c dS dA vS vA w) (hs : w.heap.size ≤ w'.heap.size) (hk : ∀ g, uses v dS dA vS vA g → w'.heap[g]? = w.heap[g]?) : Side N k z e v R c dS dA vS vA w' where
  own0 := fun h0 => ownsRow_same (h.own0 h0) fun g hg => hk g (.inl ⟨h0, hg⟩)
  own1 := fun h0 => ownsRow_same (h.own1 h0) fun g hg => hk g (.inr (.inl ⟨h0, hg⟩))
  box := fun h0 h1 => by
    obtain ⟨g, q1, q2, q3, q4⟩ := h.box h0 h1
    exact ⟨g, q1, q2, by omega, fun j u hu => (World.cell?_of_block (hk g (.inr (.inr ⟨h0, h1, by rw [q1]; rfl⟩)))).trans (q4 j u hu)⟩

/-- What one of the two appends is about. -/
structure App where
  k : Nat
  z : Nat
  e : TypeId
  v : Value
  R : List Value
  c : List Value
  box : Nat
  app : Nat

def App.ok (a b : App) : Prop := a.box ≠ a.app ∧ b.box ≠ b.app ∧ a.box ≠ b.box ∧ a.box ≠ b.app ∧ a.app ≠ b.box ∧ a.app ≠ b.app

structure TwoS (w0 : World) (a b : App) (pu : Nat → Prop) (vals : Nat → Value) (d : Nat → Bool) (vs : Nat → Value) (w : World) : Prop where
  vals : ∀ i, pu i → d i = true → vs i = vals i
  bel : Below w0.heap.size w0 w
  sa : Side w0.heap.size a.k a.z a.e a.v a.R a.c (d a.box) (d a.app) (vs a.box) (vs a.app) w
  sb : Side w0.heap.size b.k b.z b.e b.v b.R b.c (d b.box) (d b.app) (vs b.box) (vs b.app) w
  sep : ∀ g, uses a.v (d a.box) (d a.app) (vs a.box) (vs a.app) g → ¬ uses b.v (d b.box) (d b.app) (vs b.box) (vs b.app) g

section
variable {w0 : World} {a b : App} {pu : Nat → Prop} {vals : Nat → Value} {d : Nat → Bool} {vs : Nat → Value} {w : World}

theorem TwoS.swap (h : TwoS w0 a b pu vals d vs w) : TwoS w0 b a pu vals d vs w := ⟨h.vals, h.bel, h.sb, h.sa, fun g h1 h2 => h.sep g h2 h1⟩
theorem App.ok.swap (h : App.ok a b) : App.ok b a := by unfold App.ok at h ⊢; obtain ⟨h1, h2, h3, h4, h5, h6⟩ := h; exact ⟨h2, h1, h3.symm, h5.symm, h4.symm, h6.symm⟩

/-- A step that touches no memory. -/
theorem TwoS.pure (h : TwoS w0 a b pu vals d vs w) {i : Nat} (hi : i ≠ a.box ∧ i ≠ a.app ∧ i ≠ b.box ∧ i ≠ b.app) {u : Value} (hu : u = vals i) : TwoS w0 a b pu vals (upd d i true) (upd vs i u) w := by
  obtain ⟨h1, h2, h3, h4⟩ := hi
  refine ⟨fun j hj hd => ?_, h.bel, ?_, ?_, ?_⟩
  · by_cases e : j = i
    · subst e; rw [upd_same]; exact hu
    · rw [upd_other _ _ e] at hd ⊢; exact h.vals j hj hd
  · rw [upd_other _ _ h1.symm, upd_other _ _ h2.symm, upd_other _ _ h1.symm, upd_other _ _ h2.symm]; exact h.sa
  · rw [upd_other _ _ h3.symm, upd_other _ _ h4.symm, upd_other _ _ h3.symm, upd_other _ _ h4.symm]; exact h.sb
  · rw [upd_other _ _ h1.symm, upd_other _ _ h2.symm, upd_other _ _ h1.symm, upd_other _ _ h2.symm, upd_other _ _ h3.symm, upd_other _ _ h4.symm, upd_other _ _ h3.symm, upd_other _ _ h4.symm]; exact h.sep

/-- The box of what is appended is made: a new block. -/
theorem TwoS.boxA (h : TwoS w0 a b pu vals d vs w) (hn : App.ok a b) (hp : ¬ pu a.box) (h4 : d a.app = false) (hd : d a.box = false) {t : TypeId} (cs : Array Value) (hc : cs.toList = a.c) :
    TwoS w0 a b pu vals (upd d a.box true) (upd vs a.box (.slice (some ⟨w.heap.size, 0, none⟩) 1 1)) (w.alloc (.cells cs t)) := by
  obtain ⟨n1, n2, n3, n4, n5, n6⟩ := hn
  have hal : ∀ g, g < w.heap.size → (w.alloc (.cells cs t)).heap[g]? = w.heap[g]? := fun g hg => heap_alloc_old w _ hg
  have hu : ∀ g, uses a.v true false (.slice (some ⟨w.heap.size, 0, none⟩) 1 1) (vs a.app) g → uses a.v (d a.box) (d a.app) (vs a.box) (vs a.app) g ∨ g = w.heap.size := by
    intro g hg
    rw [h4, hd]
    rcases hg with ⟨_, h2⟩ | ⟨h1, _⟩ | ⟨_, _, h3⟩
    · exact .inl (.inl ⟨rfl, h2⟩)
    · cases h1
    · cases h3; exact .inr rfl
  have e4 : upd d a.box true a.app = false := (upd_other _ _ n1.symm).trans h4
  have f4 : upd vs a.box (Value.slice (some ⟨w.heap.size, 0, none⟩) 1 1) a.app = vs a.app := upd_other _ _ n1.symm
  refine ⟨fun j hj hd => ?_, h.bel.alloc h.bel.size _, ?_, ?_, ?_⟩
  · have hne : j ≠ a.box := fun e => hp (e ▸ hj)
    rw [upd_other _ _ hne] at hd ⊢; exact h.vals j hj hd
  · rw [upd_same, upd_same, e4, f4]
    refine ⟨fun _ => ownsRow_below (h.sa.own0 h4) ((Below.refl _ w).alloc (Nat.le_refl _) _), fun h => (by cases h), fun _ _ => ⟨w.heap.size, rfl, h.bel.size, by simp, fun j u hu => ?_⟩⟩
    rw [cell_of_row _ _ _ _ _ _ (heap_alloc_new w _)]
    rw [← hc] at hu
    simpa using hu
  · rw [upd_other _ _ n3.symm, upd_other _ _ n4.symm, upd_other _ _ n3.symm, upd_other _ _ n4.symm]
    exact h.sb.keep (by simp) fun g hg => hal g (h.sb.lt hg).2
  · rw [upd_same, upd_same, e4, f4, upd_other _ _ n3.symm, upd_other _ _ n4.symm, upd_other _ _ n3.symm, upd_other _ _ n4.symm]
    intro g hg hb
    rcases hu g hg with h1 | h1
    · exact h.sep g h1 hb
    · have := (h.sb.lt hb).2; omega

/-- The append itself: in its own block, or in a new one. -/
theorem TwoS.appA (h : TwoS w0 a b pu vals d vs w) (hn : App.ok a b) (hp : ¬ pu a.app) (hd : d a.app = false) {g cap : Nat} {w' : World}
    (hO : w'.ownsRow w0.heap.size a.e a.z (.slice (some ⟨g, 0, none⟩) (a.k + 1) cap) (a.k + 1) (a.R ++ a.c)) (hgr : w.grownBy w' a.v.ownBlock) (hg : a.v.ownBlock = some g ∨ g = w.heap.size) :
    TwoS w0 a b pu vals (upd d a.app true) (upd vs a.app (.slice (some ⟨g, 0, none⟩) (a.k + 1) cap)) w' := by
  obtain ⟨n1, n2, n3, n4, n5, n6⟩ := hn
  have hva : ∀ j, a.v.ownBlock = some j → uses a.v (d a.box) (d a.app) (vs a.box) (vs a.app) j := fun j hj => .inl ⟨hd, hj⟩
  have hge : ∀ j, a.v.ownBlock = some j → w0.heap.size ≤ j := fun j hj => (h.sa.lt (hva j hj)).1
  have hgb : ∀ j, uses b.v (d b.box) (d b.app) (vs b.box) (vs b.app) j → j ≠ g := by
    rintro j hj rfl
    rcases hg with hg | hg
    · exact h.sep j (hva j hg) hj
    · have := (h.sb.lt hj).2; omega
  have hu : ∀ j, uses a.v (d a.box) true (vs a.box) (.slice (some ⟨g, 0, none⟩) (a.k + 1) cap) j → j = g := by
    rintro j (⟨h1, _⟩ | ⟨_, h2⟩ | ⟨_, h1, _⟩)
    · cases h1
    · cases h2; rfl
    · cases h1
  refine ⟨fun j hj hd => ?_, h.bel.grown hgr h.bel.size (fun j hj => hge j hj), ?_, ?_, ?_⟩
  · have hne : j ≠ a.app := fun e => hp (e ▸ hj)
    rw [upd_other _ _ hne] at hd ⊢; exact h.vals j hj hd
  · rw [upd_other _ _ n1, upd_same, upd_same, upd_other _ _ n1]
    exact ⟨fun h => (by cases h), fun _ => hO, fun _ h => (by cases h)⟩
  · rw [upd_other _ _ n5.symm, upd_other _ _ n6.symm, upd_other _ _ n5.symm, upd_other _ _ n6.symm]
    exact h.sb.keep hgr.size fun j hj => hgr.block j (h.sb.lt hj).2 fun e => h.sep j (hva j e.symm) hj
  · rw [upd_other _ _ n1, upd_same, upd_same, upd_other _ _ n1, upd_other _ _ n5.symm, upd_other _ _ n6.symm, upd_other _ _ n5.symm, upd_other _ _ n6.symm]
    intro j hj hb
    exact hgb j hb (hu j hj)
end
end Go.Proofs.YtcdcchkaohnkdaaGreatDoor
