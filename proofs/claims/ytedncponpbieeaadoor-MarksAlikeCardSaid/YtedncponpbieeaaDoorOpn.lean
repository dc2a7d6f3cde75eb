/- A slice of words, as the law's argument reads. -/
import Derived.Test.YtedncponpbieeaaDoorFlz
import Derived.Test.YtedncponpbieeaaDoorLaw
import Derived.ChangeSlices
namespace Go.Proofs.YtedncponpbieeaaDoor
open Go.ChangeShapes Go.WideShapes Go.ChangeAt Go.RowKit

theorem words_open {H : Type} {enc : TypeId × Value → H} {W : World} {fuel : Nat} {a : Option Addr} {len cap : Nat} {x : DataW H × List MemPlace}
    (h : DataW.trod enc Tryd.prog W 0 (fun _ => true) true fuel 36 (Value.cells (.slice a len cap)).toList = some x) :
    ∃ ns : List Nat, WordsAt W a ns ∧ (∀ f ∈ ns, f < 18446744073709551616) ∧ len = ns.length := by
  rcases open_ints (show Tryd.prog.underlying 36 = some (.slice 31) by kernel_rfl) (show Tryd.prog.underlying 31 = some (.int .u64) by kernel_rfl) (show Tryd.prog.cellsOf 31 = 1 by kernel_rfl) h with
    ⟨hcs, hx⟩ | ⟨a', len', cap', zs, hcs, _, hl, hm, hz, hx, hcell, hwz⟩
  · simp [Value.cells] at hcs
    obtain ⟨rfl, rfl, rfl⟩ := hcs
    exact ⟨[], fun j hj => by simp at hj, fun f hf => by simp at hf, rfl⟩
  · simp [Value.cells] at hcs
    obtain ⟨rfl, rfl, rfl⟩ := hcs
    simp only [if_true] at hz
    have hlz : len ≤ zs.length := by omega
    have hb : ∀ z ∈ zs, 0 ≤ z ∧ z < 18446744073709551616 := fun z hz => by
      have := hwz z hz
      simp [Lit.wf, IntKind.min, IntKind.max, IntKind.signed, IntKind.bits] at this
      omega
    refine ⟨(zs.take len).map Int.toNat, fun j hj => ?_, fun f hf => ?_, by simp; omega⟩
    · simp only [List.length_map, List.length_take] at hj
      have hjl : j < zs.length := by omega
      obtain ⟨b, off, spot⟩ := a'
      have hspot : spot = none := by simpa [Addr.add] using World.cell?_spot (hcell 0 (by omega))
      subst hspot
      have h1 := hcell j hjl
      rw [Go.WideShapes.add_plain] at h1
      refine ⟨b, off, rfl, World.block_lt_of_cell? _ _ h1, ?_⟩
      rw [h1]
      have hz2 : zs.getD j 0 = zs[j] := by simp [List.getD, hjl]
      have hz3 : ((zs.take len).map Int.toNat).getD j 0 = (zs[j]).toNat := by
        rw [List.getD, List.getElem?_map, List.getElem?_take_of_lt (by omega), List.getElem?_eq_getElem hjl]; rfl
      rw [hz2, hz3]
      have := hb zs[j] (List.getElem_mem _)
      rw [Int.toNat_of_nonneg this.1]
    · obtain ⟨z, hz, rfl⟩ := List.mem_map.1 hf
      have := hb z (List.mem_of_mem_take hz)
      omega
end Go.Proofs.YtedncponpbieeaaDoor
