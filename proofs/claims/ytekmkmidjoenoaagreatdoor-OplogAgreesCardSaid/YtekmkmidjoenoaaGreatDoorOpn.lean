/- A slice of entries, as the law's argument reads. -/
import Derived.Test.YtekmkmidjoenoaaGreatDoorLgs
import Derived.ProofKit
import Derived.ChangeSlices
import Derived.Deep.Slices
import Derived.Deep.Strs
namespace Go.Proofs.YtekmkmidjoenoaaGreatDoor
open Go.ChangeShapes Go.WideShapes Go.ChangeAt Go.RowKit Go.Deep

theorem ents_open {P : Program} {H : Type} {enc : TypeId × Value → H} {W : World} {t e : TypeId} {f0 f1 f2 : Field} {fuel base : Nat} {spare : Nat → Bool} {held : Bool} {a : Option Addr} {len cap : Nat} {x : DataW H × List MemPlace}
    (ht : P.underlying t = some (.slice e)) (he : P.underlying e = some (.struct #[f0, f1, f2])) (ce : P.cellsOf e = 3) (o0 : f0.offset = 0) (o1 : f1.offset = 1) (o2 : f2.offset = 2)
    (t0 : P.underlying f0.type = some (.int .i64)) (t1 : P.underlying f1.type = some (.int .i64)) (t2 : P.underlying f2.type = some .string) (c0 : P.cellsOf f0.type = 1) (c1 : P.cellsOf f1.type = 1) (c2 : P.cellsOf f2.type = 1)
    (h : DataW.trod enc P W base spare held fuel t (Value.cells (.slice a len cap)).toList = some x) : ∃ es : List Ent, Lies W.heap.size W (.slice a len cap) es ∧ es.length < 9223372036854775808 := by
  rcases open_slice ht h with ⟨hcs, _⟩ | ⟨a', len', cap', m, n, D, Pl, hcs, _, hl, hcm, hmm, _, hx⟩
  · simp [Value.cells] at hcs
    obtain ⟨rfl, rfl, rfl⟩ := hcs
    exact ⟨[], ⟨none, 0, rfl, Nat.le_refl _, fun _ => rfl, fun h => absurd rfl h⟩, by simp⟩
  · simp [Value.cells] at hcs
    obtain ⟨rfl, rfl, rfl⟩ := hcs
    have hlm : len ≤ m := by rw [hmm]; split <;> omega
    obtain ⟨b, off, spot⟩ := a'
    have hspot : 0 < len → spot = none := by
      intro h0
      obtain ⟨cs', h1, h2⟩ := hx 0 (by omega)
      rw [ce] at h1
      obtain ⟨_, hlen, hget⟩ := World.cells?_some h1
      match cs', hlen with
      | [v0, v1, v2], _ =>
        have k0 := hget 0 (by omega)
        simp only [List.getElem?_cons_zero] at k0
        simpa [Addr.add] using World.cell?_spot k0
    have each : ∀ i, i < len → ∃ y : Ent, spot = none ∧ W.cell? ⟨b, off + i * 3, none⟩ = some (.int .i64 y.1) ∧ W.cell? ⟨b, off + (i * 3 + 1), none⟩ = some (.int .i64 y.2.1) ∧ W.cell? ⟨b, off + (i * 3 + 2), none⟩ = some (.string y.2.2) := by
      intro i hi
      obtain ⟨cs', h1, h2⟩ := hx i (by omega)
      rw [ce] at h1
      obtain ⟨_, hlen, hget⟩ := World.cells?_some h1
      obtain ⟨v0, v1, v2, rfl⟩ : ∃ v0 v1 v2, cs' = [v0, v1, v2] := by
        match cs', hlen with
        | [v0, v1, v2], _ => exact ⟨v0, v1, v2, rfl⟩
      obtain ⟨y0, y1, y2, n', _, _, g0, g1, g2⟩ := trod_struct3 he h2
      rw [o0, c0] at g0
      rw [o1, c1] at g1
      rw [o2, c2] at g2
      obtain ⟨z0, hz0, _⟩ := DataW.trod_int t0 g0
      obtain ⟨z1, hz1, _⟩ := DataW.trod_int t1 g1
      obtain ⟨s, hs, _⟩ := DataW.trod_string t2 g2
      simp at hz0 hz1 hs
      subst hz0 hz1 hs
      have k0 := hget 0 (by omega)
      have k1 := hget 1 (by omega)
      have k2 := hget 2 (by omega)
      simp only [List.getElem?_cons_zero, List.getElem?_cons_succ] at k0 k1 k2
      obtain rfl := hspot (by omega)
      rw [add_plain, add_plain] at k0 k1 k2
      exact ⟨(z0, z1, s), rfl, by simpa using k0, by rw [← Nat.add_assoc]; exact k1, by rw [← Nat.add_assoc]; exact k2⟩
    haveI : Inhabited Ent := ⟨noEnt⟩
    obtain ⟨E, hE⟩ := choose_lt each
    refine ⟨(List.range len).map E, ⟨some ⟨b, off, spot⟩, cap, by simp, by simpa using hl, (by simp), fun hne => ?_⟩, by simp only [List.length_map, List.length_range]; unfold maxLen at hcm; omega⟩
    have hpos : 0 < len := by
      rcases Nat.eq_zero_or_pos len with h0 | h0
      · subst h0; simp at hne
      · exact h0
    obtain ⟨hs0, hc0, _, _⟩ := hE 0 hpos
    subst hs0
    refine ⟨b, off, rfl, World.block_lt_of_cell? W _ hc0, fun j u hu => ?_⟩
    have hj : j < len * 3 := by
      have := (List.getElem?_eq_some_iff.1 hu).1
      rw [rowOf_length] at this
      simpa using this
    obtain ⟨i, r, hi, hr, rfl⟩ : ∃ i r, i < len ∧ r < 3 ∧ j = i * 3 + r := ⟨j / 3, j % 3, by omega, by omega, by omega⟩
    have hget : ((List.range len).map E)[i]? = some (E i) := by simp [hi]
    obtain ⟨r0, r1, r2⟩ := rowOf_get _ _ _ hget
    obtain ⟨_, k0, k1, k2⟩ := hE i hi
    have hr' : r = 0 ∨ r = 1 ∨ r = 2 := by omega
    rcases hr' with rfl | rfl | rfl
    · rw [Nat.add_zero, r0] at hu; cases hu; exact k0
    · rw [r1] at hu; cases hu; exact k1
    · rw [r2] at hu; cases hu; exact k2
end Go.Proofs.YtekmkmidjoenoaaGreatDoor
