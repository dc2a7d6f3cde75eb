/- A slice of words, as the law's argument reads. -/
import Derived.Test.YtlkcpjekiplhbaaGreatDoorWgh
import Derived.Test.YtlkcpjekiplhbaaGreatDoorLaw
import Derived.ChangeSlices
namespace Go.Proofs.YtlkcpjekiplhbaaGreatDoor
open Go.ChangeShapes Go.WideShapes Go.ChangeAt Go.RowKit

/-- What a slice of floats is known by. -/
def FloatsAt (w : World) (a : Option Addr) (fs : List Nat) : Prop :=
  ∀ j, j < fs.length → ∃ b off, a = some ⟨b, off, none⟩ ∧ b < w.heap.size ∧ w.cell? ⟨b, off + j, none⟩ = some (.float .f64 (fs.getD j 0))

theorem FloatsAt.below {w w' : World} {a : Option Addr} {fs : List Nat} (h : FloatsAt w a fs) (hb : Below w.heap.size w w') : FloatsAt w' a fs := fun j hj => by
  obtain ⟨b, off, e, hlt, hcell⟩ := h j hj
  exact ⟨b, off, e, Nat.lt_of_lt_of_le hlt hb.size, by rw [hb.cell (by exact hlt)]; exact hcell⟩

/-- What a slice of words is known by. -/
def WordsAt (w : World) (a : Option Addr) (ns : List Nat) : Prop :=
  ∀ j, j < ns.length → ∃ b off, a = some ⟨b, off, none⟩ ∧ b < w.heap.size ∧ w.cell? ⟨b, off + j, none⟩ = some (.int .u64 (ns.getD j 0 : Nat))

theorem WordsAt.below {w w' : World} {a : Option Addr} {fs : List Nat} (h : WordsAt w a fs) (hb : Below w.heap.size w w') : WordsAt w' a fs := fun j hj => by
  obtain ⟨b, off, e, hlt, hcell⟩ := h j hj
  exact ⟨b, off, e, Nat.lt_of_lt_of_le hlt hb.size, by rw [hb.cell (by exact hlt)]; exact hcell⟩

theorem floats_of_own {w w' : World} {B : Nat} {v : Value} {fs : List Nat} (hown : w'.ownsRow B 26 1 v fs.length (fs.map (Value.float .f64))) :
    ∃ a cap, v = .slice a fs.length cap ∧ FloatsAt w' a fs := by
  by_cases h0 : fs.length = 0
  · rw [h0] at hown
    obtain ⟨_, h⟩ := hown
    rcases h with ⟨rfl, _⟩ | ⟨g, cap, cs, rfl, _⟩
    · exact ⟨none, 0, by rw [h0], fun j hj => by omega⟩
    · exact ⟨_, cap, by rw [h0], fun j hj => by omega⟩
  · obtain ⟨m, hm⟩ : ∃ m, fs.length = m + 1 := ⟨fs.length - 1, by omega⟩
    rw [hm] at hown
    obtain ⟨g, cap, rfl⟩ : ∃ g cap, v = .slice (some ⟨g, 0, none⟩) (m + 1) cap := by
      rcases hown.2 with ⟨_, h⟩ | ⟨g, cap, _, h, _⟩
      · omega
      · exact ⟨g, cap, h⟩
    refine ⟨_, cap, by rw [hm], fun j hj => ?_⟩
    have hlt := hown.lt g rfl
    refine ⟨g, 0, rfl, hlt.2, ?_⟩
    have := hown.cells (g := g) rfl j (.float .f64 (fs.getD j 0)) (by rw [List.getElem?_map, List.getD, List.getElem?_eq_getElem hj]; rfl)
    rw [← Go.WideShapes.add_plain]; exact this


theorem words_open {H : Type} {enc : TypeId × Value → H} {W : World} {fuel : Nat} {a : Option Addr} {len cap : Nat} {x : DataW H × List MemPlace}
    (h : DataW.trod enc Tryz.prog W 0 (fun _ => true) true fuel 22 (Value.cells (.slice a len cap)).toList = some x) :
    ∃ ns : List Nat, WordsAt W a ns ∧ (∀ f ∈ ns, f < 18446744073709551616) ∧ len = ns.length := by
  rcases open_ints (show Tryz.prog.underlying 22 = some (.slice 28) by kernel_rfl) (show Tryz.prog.underlying 28 = some (.int .u64) by kernel_rfl) (show Tryz.prog.cellsOf 28 = 1 by kernel_rfl) h with
    ⟨hcs, hx⟩ | ⟨a', len', cap', zs, hcs, _, hl, hm, hz, hx, hcell, hwz⟩
  · simp [Value.cells] at hcs
    obtain ⟨rfl, rfl, rfl⟩ := hcs
    exact ⟨[], fun j hj => by simp at hj, fun f hf => by simp at hf, rfl⟩
  · simp [Value.cells] at hcs
    obtain ⟨rfl, rfl, rfl⟩ := hcs
    simp only [if_true] at hz
    have hlz : len ≤ zs.length := by omega
    have hb : ∀ z ∈ zs, 0 ≤ z ∧ z < 18446744073709551616 := fun z hz => by
      have := hwz z hz
      simp [Lit.wf, IntKind.min, IntKind.max, IntKind.signed, IntKind.bits] at this
      omega
    refine ⟨(zs.take len).map Int.toNat, fun j hj => ?_, fun f hf => ?_, by simp; omega⟩
    · simp only [List.length_map, List.length_take] at hj
      have hjl : j < zs.length := by omega
      obtain ⟨b, off, spot⟩ := a'
      have hspot : spot = none := by simpa [Addr.add] using World.cell?_spot (hcell 0 (by omega))
      subst hspot
      have h1 := hcell j hjl
      rw [Go.WideShapes.add_plain] at h1
      refine ⟨b, off, rfl, World.block_lt_of_cell? _ _ h1, ?_⟩
      rw [h1]
      have hz2 : zs.getD j 0 = zs[j] := by simp [List.getD, hjl]
      have hz3 : ((zs.take len).map Int.toNat).getD j 0 = (zs[j]).toNat := by
        rw [List.getD, List.getElem?_map, List.getElem?_take_of_lt (by omega), List.getElem?_eq_getElem hjl]; rfl
      rw [hz2, hz3]
      have := hb zs[j] (List.getElem_mem _)
      rw [Int.toNat_of_nonneg this.1]
    · obtain ⟨z, hz, rfl⟩ := List.mem_map.1 hf
      have := hb z (List.mem_of_mem_take hz)
      omega
end Go.Proofs.YtlkcpjekiplhbaaGreatDoor
