/- Clone, Add, Cut, Merge. -/
import Derived.Test.YtekmkmidjoenoaaGreatDoorOps
import Derived.Laws.AppendOwn
namespace Go.Proofs.YtekmkmidjoenoaaGreatDoor
open Go.RowKit Go.Ev

/-- An element's type in the table. -/
structure RowInfo (t e : TypeId) (size bytes : Nat) (i : TypeInfo) (z : Value) : Prop where
  sl : Tryz.prog.underlying t = some (.slice e)
  info : Tryz.prog.info? e = some i
  zero : i.zero = some z
  hsz : i.size = size
  hby : i.bytes = bytes
  hcl : z.cells.size = size

noncomputable def rowInfoB (t e : TypeId) (size bytes : Nat) : Bool :=
  (match Tryz.prog.underlying t with | some (.slice x) => Nat.beq x e | _ => false) &&
  match Tryz.prog.info? e with
  | some i => (match i.zero with | some z => Nat.beq i.size size && Nat.beq i.bytes bytes && Nat.beq z.cells.size size | none => false)
  | none => false

theorem rowInfo_of {t e : TypeId} {size bytes : Nat} (h : rowInfoB t e size bytes = true) : ∃ i z, RowInfo t e size bytes i z := by
  unfold rowInfoB at h
  rw [Bool.and_eq_true] at h
  obtain ⟨h1, h2⟩ := h
  split at h1
  · rename_i x hx
    obtain rfl := Nat.eq_of_beq_eq_true h1
    split at h2
    · rename_i i hi
      split at h2
      · rename_i z hz
        simp only [Bool.and_eq_true] at h2
        exact ⟨i, z, hx, hi, hz, Nat.eq_of_beq_eq_true h2.1.1, Nat.eq_of_beq_eq_true h2.1.2, Nat.eq_of_beq_eq_true h2.2⟩
      · cases h2
    · cases h2
  · cases h1

theorem ownsRow_below {w w' : World} {base : Nat} {e : TypeId} {size n : Nat} {v : Value} {xs : List Value} (h : w.ownsRow base e size v n xs) (hb : Below w.heap.size w w') : w'.ownsRow base e size v n xs := by
  obtain ⟨h1, h2⟩ := h
  refine ⟨h1, ?_⟩
  rcases h2 with h2 | ⟨g, cap, cur, rfl, hg, hh, k⟩
  · exact .inl h2
  · exact .inr ⟨g, cap, cur, rfl, hg, (hb.block g (Array.getElem?_eq_some_iff.1 hh).1).trans hh, k⟩

theorem ownsRow_base {w : World} {base base' : Nat} {e : TypeId} {size n : Nat} {v : Value} {xs : List Value} (h : w.ownsRow base e size v n xs) (hb : base' ≤ base) : w.ownsRow base' e size v n xs := by
  obtain ⟨h1, h2⟩ := h
  refine ⟨h1, ?_⟩
  rcases h2 with h2 | ⟨g, cap, cur, rfl, hg, hh, k⟩
  · exact .inl h2
  · exact .inr ⟨g, cap, cur, rfl, Nat.le_trans hb hg, hh, k⟩

/-- A row owned stays where another block grows. -/
theorem ownsRow_grown {w w' : World} {base : Nat} {e : TypeId} {size n : Nat} {v : Value} {xs : List Value} {row : Option Nat} (h : w.ownsRow base e size v n xs) (hg : w.grownBy w' row) (hne : ∀ k, v.ownBlock = some k → some k ≠ row) : w'.ownsRow base e size v n xs := by
  obtain ⟨h1, h2⟩ := h
  refine ⟨h1, ?_⟩
  rcases h2 with h2 | ⟨g, cap, cur, rfl, hg', hh, k⟩
  · exact .inl h2
  · exact .inr ⟨g, cap, cur, rfl, hg', (hg.block g (Array.getElem?_eq_some_iff.1 hh).1 (hne g rfl)).trans hh, k⟩

theorem ownsRow_setCell {w : World} {base : Nat} {e : TypeId} {size n : Nat} {v : Value} {xs : List Value} (h : w.ownsRow base e size v n xs) (p : Addr) (u : Value) (hne : p.block < base) : (w.setCell p u).ownsRow base e size v n xs := by
  obtain ⟨h1, h2⟩ := h
  refine ⟨h1, ?_⟩
  rcases h2 with h2 | ⟨g, cap, cur, rfl, hg', hh, k⟩
  · exact .inl h2
  · exact .inr ⟨g, cap, cur, rfl, hg', (Below.heap_setCell w p u g (by omega)).trans hh, k⟩

theorem heap_alloc3_new (w : World) (A B C : Obj) : (((w.alloc A).alloc B).alloc C).heap[w.heap.size + 1 + 1]? = some C := by
  have := heap_alloc_new ((w.alloc A).alloc B) C
  simpa using this

theorem entInfo : ∃ i z, RowInfo 24 34 3 32 i z := rowInfo_of (by kernel_rfl)
theorem refInfo : ∃ i z, RowInfo 27 67 3 32 i z := rowInfo_of (by kernel_rfl)

set_option maxRecDepth 100000 in
set_option maxHeartbeats 6400000 in
theorem clone_any (v : Value) (es : List Ent) (w : World) (hL : Lies w.heap.size w v es) (hn : es.length ≤ 1073741824) :
    Calls Tryz.prog 23 #[v] w fun e w' => ∃ v', e = .returned v' ∧ w'.ownsRow w.heap.size 34 3 v' es.length (rowOf es) ∧ Below w.heap.size w w' := by
  obtain ⟨i, z, hI⟩ := entInfo
  obtain ⟨a, cap, rfl, h2, h3, h4⟩ := hL
  have u24 := hI.sl
  have q24 : ∀ (w : World) (a : Option Addr) (n c n' c' : Nat), (binOp .eql 24 (.slice a n c) (.slice none n' c')).run Tryz.prog w = .ok (.bool a.isNone) w := fun w a n c n' c' => Lib.run_eql_slice_nil w _ _ a n c n' c' u24
  cases a with
  | none =>
    have he := h3 rfl
    subst he
    clear h4 h3
    go_enter Tryz.func23, Tryz.ntmps23
    go_wp2
    go_ret
    exact ⟨_, rfl, World.ownsRow_nil _ _ _ _, Below.refl _ _⟩
  | some ad =>
    have hc : Hid (∀ j u, (rowOf es)[j]? = some u → w.cell? (ad.add j) = some u) := by
      intro j u hu
      have hne : es ≠ [] := by rintro rfl; simp at hu
      obtain ⟨b, off, he, hb, hc⟩ := h4 hne
      cases he
      rw [Addr.add_lit]
      exact hc j u hu
    clear h4 h3
    have hr := rowOf_length es
    have ho := rowOf_oneCell es
    generalize rowOf es = row at *
    go_enter Tryz.func23, Tryz.ntmps23
    go_wp2_with (at_builtin; refine wpList_append_own _ rfl _ _ 24 rfl w.heap.size 34 i z 3 32 hI.sl hI.info hI.zero hI.hsz hI.hby hI.hcl (by decide) _ _ _ rfl (World.ownsRow_made w #[] 0 (Nat.le_refl _) (Nat.zero_le _) (by simp)) ad es.length cap row rfl ?qc1 ?qc2 ?qc3 ?qc4 ?qc5 ?qc6 ?_)
    case qc1 => exact hr
    case qc2 =>
      intro j u hj
      exact Lib.cell?_alloc_some _ (hc.out j u hj)
    case qc3 => exact ho
    case qc4 => rw [Nat.zero_add]; unfold maxLen; omega
    case qc5 => rw [Nat.zero_add]; omega
    case qc6 => simp
    intro v' w1 hown hgrow hnil
    go_wp2
    go_ret
    exact ⟨v', rfl, by simpa using hown, ((Below.refl _ w).alloc (Nat.le_refl _) _).grown hgrow (by simp) (by intro k hk; simp [Value.ownBlock] at hk; omega)⟩
#print axioms clone_any
end Go.Proofs.YtekmkmidjoenoaaGreatDoor
