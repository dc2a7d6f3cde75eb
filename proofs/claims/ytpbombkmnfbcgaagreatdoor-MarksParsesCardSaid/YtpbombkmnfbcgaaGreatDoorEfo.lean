/- Where the text of a float stands while it is written. -/
import Derived.Test.YtpbombkmnfbcgaaGreatDoorDig
import Derived.Laws.BytesArg
import Derived.Lib.AppendStr
import Derived.OwnWalk
namespace Go.Proofs.YtpbombkmnfbcgaaGreatDoor
open Go.RowKit

def bv (z : Int) : Value := .int .u8 z
theorem u8Info : (Tryz.prog.info? 5).map (fun i => (i.zero, i.size, i.bytes)) = some (some (.int .u8 0), 1, 1) := by kernel_rfl

/-- The slice v holds the bytes l, of its own; the digits' block is as it was; and all below N. -/
structure Eo (N blk : Nat) (cs : Array Value) (w0 : World) (v : Value) (l : List Int) (wr : World) : Prop where
  own : wr.ownsRow N 5 1 v l.length (l.map bv)
  buf : wr.heap[blk]? = some (.cells cs 70 (0, 0))
  blw : Below N w0 wr
  ns : N ≤ wr.heap.size

theorem Eo.slice {N blk : Nat} {cs : Array Value} {w0 wr : World} {v : Value} {l : List Int} (h : Eo N blk cs w0 v l wr) : ∃ a c, v = .slice a l.length c := by
  rcases h.own.2 with ⟨rfl, h0⟩ | ⟨g, cap, cur, rfl, _⟩
  · exact ⟨none, 0, by rw [h0]⟩
  · exact ⟨_, _, rfl⟩
theorem Eo.sep {N blk : Nat} {cs : Array Value} {w0 wr : World} {v : Value} {l : List Int} (h : Eo N blk cs w0 v l wr) : ∀ g, v.ownBlock = some g → blk ≠ g := by
  intro g hg he
  subst he
  rcases h.own.2 with ⟨rfl, _⟩ | ⟨g1, _, _, rfl, _, hh, _⟩
  · cases hg
  · cases hg
    rw [h.buf] at hh
    cases hh
theorem Eo.app {N blk : Nat} {cs : Array Value} {w0 wr w1 : World} {v v' : Value} {l xs : List Int} {o : Obj} (h : Eo N blk cs w0 v l wr)
    (hown : w1.ownsRow N 5 1 v' (l.length + xs.length) (l.map bv ++ xs.map bv)) (hg : (wr.alloc o).grownBy w1 v.ownBlock) : Eo N blk cs w0 v' (l ++ xs) w1 := by
  have hb : blk < wr.heap.size := (Array.getElem?_eq_some_iff.1 h.buf).1
  refine ⟨by rw [List.length_append, List.map_append]; exact hown, ?_, ((h.blw.alloc h.ns o)).grown hg (by simp; have := h.ns; omega) (fun j hj => (h.own.lt j hj).1), ?_⟩
  · have h1 : (wr.alloc o).heap[blk]? = some (.cells cs 70 (0, 0)) := (((Below.refl wr.heap.size wr).alloc (Nat.le_refl _) o).block blk hb).trans h.buf
    exact (World.grownBy.block hg blk (by simp; omega) (fun e => h.sep blk (by rw [e]) rfl)).trans h1
  · have := World.grownBy.size hg
    simp at this
    have := h.ns
    omega
/-- The same, where nothing was made ahead (a part of the digits is appended). -/
theorem Eo.app0 {N blk : Nat} {cs : Array Value} {w0 wr w1 : World} {v v' : Value} {l xs : List Int} (h : Eo N blk cs w0 v l wr)
    (hown : w1.ownsRow N 5 1 v' (l.length + xs.length) (l.map bv ++ xs.map bv)) (hg : wr.grownBy w1 v.ownBlock) : Eo N blk cs w0 v' (l ++ xs) w1 := by
  have hb : blk < wr.heap.size := (Array.getElem?_eq_some_iff.1 h.buf).1
  refine ⟨by rw [List.length_append, List.map_append]; exact hown, ?_, h.blw.grown hg h.ns (fun j hj => (h.own.lt j hj).1), ?_⟩
  · exact (World.grownBy.block hg blk hb (fun e => h.sep blk (by rw [e]) rfl)).trans h.buf
  · have := World.grownBy.size hg
    have := h.ns
    omega
theorem Eo.cell {N blk : Nat} {cs : Array Value} {w0 wr : World} {v : Value} {l : List Int} (h : Eo N blk cs w0 v l wr) (i : Nat) : wr.cell? ⟨blk, i, none⟩ = cs[i]? := by
  simp [World.cell?, h.buf]
end Go.Proofs.YtpbombkmnfbcgaaGreatDoor
