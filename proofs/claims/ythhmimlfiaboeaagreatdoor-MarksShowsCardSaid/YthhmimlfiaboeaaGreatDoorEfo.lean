/- Where the text of a float stands while it is written. The text of zero. -/
import Derived.Test.YthhmimlfiaboeaaGreatDoorDig
import Derived.Laws.BytesArg
import Derived.Lib.AppendStr
import Derived.OwnWalk
namespace Go.Proofs.YthhmimlfiaboeaaGreatDoor
open Go.RowKit

def bv (z : Int) : Value := .int .u8 z
theorem u8Info : (Tryz.prog.info? 5).map (fun i => (i.zero, i.size, i.bytes)) = some (some (.int .u8 0), 1, 1) := by kernel_rfl

/-- The slice v holds the bytes l, of its own; the digits' block is as it was; and all below N. -/
structure Eo (N blk : Nat) (cs : Array Value) (w0 : World) (v : Value) (l : List Int) (wr : World) : Prop where
  own : wr.ownsRow N 5 1 v l.length (l.map bv)
  buf : wr.heap[blk]? = some (.cells cs 63 (0, 0))
  blw : Below N w0 wr
  ns : N ≤ wr.heap.size

theorem Eo.slice {N blk : Nat} {cs : Array Value} {w0 wr : World} {v : Value} {l : List Int} (h : Eo N blk cs w0 v l wr) : ∃ a c, v = .slice a l.length c := by
  rcases h.own.2 with ⟨rfl, h0⟩ | ⟨g, cap, cur, rfl, _⟩
  · exact ⟨none, 0, by rw [h0]⟩
  · exact ⟨_, _, rfl⟩
theorem Eo.sep {N blk : Nat} {cs : Array Value} {w0 wr : World} {v : Value} {l : List Int} (h : Eo N blk cs w0 v l wr) : ∀ g, v.ownBlock = some g → blk ≠ g := by
  intro g hg he
  subst he
  rcases h.own.2 with ⟨rfl, _⟩ | ⟨g1, _, _, rfl, _, hh, _⟩
  · cases hg
  · cases hg
    rw [h.buf] at hh
    cases hh
theorem Eo.app {N blk : Nat} {cs : Array Value} {w0 wr w1 : World} {v v' : Value} {l xs : List Int} {o : Obj} (h : Eo N blk cs w0 v l wr)
    (hown : w1.ownsRow N 5 1 v' (l.length + xs.length) (l.map bv ++ xs.map bv)) (hg : (wr.alloc o).grownBy w1 v.ownBlock) : Eo N blk cs w0 v' (l ++ xs) w1 := by
  have hb : blk < wr.heap.size := (Array.getElem?_eq_some_iff.1 h.buf).1
  refine ⟨by rw [List.length_append, List.map_append]; exact hown, ?_, ((h.blw.alloc h.ns o)).grown hg (by simp; have := h.ns; omega) (fun j hj => (h.own.lt j hj).1), ?_⟩
  · have h1 : (wr.alloc o).heap[blk]? = some (.cells cs 63 (0, 0)) := (((Below.refl wr.heap.size wr).alloc (Nat.le_refl _) o).block blk hb).trans h.buf
    exact (World.grownBy.block hg blk (by simp; omega) (fun e => h.sep blk (by rw [e]) rfl)).trans h1
  · have := World.grownBy.size hg
    simp at this
    have := h.ns
    omega
/-- The same, where nothing was made ahead (a part of the digits is appended). -/
theorem Eo.app0 {N blk : Nat} {cs : Array Value} {w0 wr w1 : World} {v v' : Value} {l xs : List Int} (h : Eo N blk cs w0 v l wr)
    (hown : w1.ownsRow N 5 1 v' (l.length + xs.length) (l.map bv ++ xs.map bv)) (hg : wr.grownBy w1 v.ownBlock) : Eo N blk cs w0 v' (l ++ xs) w1 := by
  have hb : blk < wr.heap.size := (Array.getElem?_eq_some_iff.1 h.buf).1
  refine ⟨by rw [List.length_append, List.map_append]; exact hown, ?_, h.blw.grown hg h.ns (fun j hj => (h.own.lt j hj).1), ?_⟩
  · exact (World.grownBy.block hg blk hb (fun e => h.sep blk (by rw [e]) rfl)).trans h.buf
  · have := World.grownBy.size hg
    have := h.ns
    omega
theorem Eo.cell {N blk : Nat} {cs : Array Value} {w0 wr : World} {v : Value} {l : List Int} (h : Eo N blk cs w0 v l wr) (i : Nat) : wr.cell? ⟨blk, i, none⟩ = cs[i]? := by
  simp [World.cell?, h.buf]
end Go.Proofs.YthhmimlfiaboeaaGreatDoor

namespace Go.Proofs.YthhmimlfiaboeaaGreatDoor
open Go.RowKit

/-- The slice v holds the bytes l, of its own; all below N is as it was. -/
structure Er (N : Nat) (w0 : World) (v : Value) (l : List Int) (wr : World) : Prop where
  own : wr.ownsRow N 5 1 v l.length (l.map bv)
  blw : Below N w0 wr
  ns : N ≤ wr.heap.size
theorem Eo.er {N blk : Nat} {cs : Array Value} {w0 wr : World} {v : Value} {l : List Int} (h : Eo N blk cs w0 v l wr) : Er N w0 v l wr := ⟨h.own, h.blw, h.ns⟩
theorem Er.app {N : Nat} {w0 wr w1 : World} {v v' : Value} {l xs : List Int} {o : Obj} (h : Er N w0 v l wr)
    (hown : w1.ownsRow N 5 1 v' (l.length + xs.length) (l.map bv ++ xs.map bv)) (hg : (wr.alloc o).grownBy w1 v.ownBlock) : Er N w0 v' (l ++ xs) w1 := by
  refine ⟨by rw [List.length_append, List.map_append]; exact hown, ((h.blw.alloc h.ns o)).grown hg (by simp; have := h.ns; omega) (fun j hj => (h.own.lt j hj).1), ?_⟩
  have := World.grownBy.size hg
  simp at this
  have := h.ns
  omega
theorem Er.app0 {N : Nat} {w0 wr w1 : World} {v v' : Value} {l xs : List Int} (h : Er N w0 v l wr)
    (hown : w1.ownsRow N 5 1 v' (l.length + xs.length) (l.map bv ++ xs.map bv)) (hg : wr.grownBy w1 v.ownBlock) : Er N w0 v' (l ++ xs) w1 := by
  refine ⟨by rw [List.length_append, List.map_append]; exact hown, h.blw.grown hg h.ns (fun j hj => (h.own.lt j hj).1), ?_⟩
  have := World.grownBy.size hg
  have := h.ns
  omega

def zOut (neg : Bool) : List Int := if neg then [45, 48] else [48]
set_option maxRecDepth 100000 in
set_option maxHeartbeats 4000000 in
theorem efz_any (N : Nat) (neg : Bool) (v : Value) (w0 w : World) (hE : Er N w0 v [] w) :
    Calls Tryz.prog 37 #[v, .bool neg, .slice none 0 0, .int .i64 0, .int .i64 0, .int .i64 (-1), .int .u8 103, .bool true] w fun e w' => ∃ v', e = .returned v' ∧ Er N w0 v' (zOut neg) w' := by
  obtain ⟨i0, hi, hz0, hz1, hz2⟩ := info_parts u8Info
  have hE := Hid.mk hE
  go_enter Tryz.func37, Tryz.ntmps37
  cases neg
  · go_wp2_with (at_builtin; refine wpList_append_own _ rfl _ _ 47 rfl N 5 i0 (.int .u8 0) 1 1 Tryz.underlying47 hi hz0 hz1 hz2 rfl (by decide) _ _ _ rfl (hE.out.own.alloc _) ⟨w.heap.size, 0, none⟩ 1 1 [bv 48] rfl rfl ?c1 ?c2 ?c3 ?c4 ?c5 ?_)
    case c1 =>
      intro j u hj
      match j, hj with
        | 0, hj => simp at hj; subst hj; simp [Addr.add, bv]
    case c2 => intro u hu; simp at hu; subst hu; rfl
    case c3 => simp [maxLen]
    case c4 => simp
    case c5 => have := hE.out.ns; simp; omega
    intro v' w1 hown' hgrow _
    have hE1 := hE.out.app (xs := [48]) hown' hgrow
    clear hown' hgrow
    go_wp2_with (fail)
    go_ret
    exact ⟨_, rfl, hE1⟩
  · go_wp2_with (at_builtin; refine wpList_append_own _ rfl _ _ 47 rfl N 5 i0 (.int .u8 0) 1 1 Tryz.underlying47 hi hz0 hz1 hz2 rfl (by decide) _ _ _ rfl (hE.out.own.alloc _) ⟨w.heap.size, 0, none⟩ 1 1 [bv 45] rfl rfl ?c1 ?c2 ?c3 ?c4 ?c5 ?_)
    case c1 =>
      intro j u hj
      match j, hj with
        | 0, hj => simp at hj; subst hj; simp [Addr.add, bv]
    case c2 => intro u hu; simp at hu; subst hu; rfl
    case c3 => simp [maxLen]
    case c4 => simp
    case c5 => have := hE.out.ns; simp; omega
    intro v' w1 hown' hgrow _
    have hE1 := Hid.mk (hE.out.app (xs := [45]) hown' hgrow)
    clear hown' hgrow hE
    go_wp2_with (at_builtin; refine wpList_append_own _ rfl _ _ 47 rfl N 5 i0 (.int .u8 0) 1 1 Tryz.underlying47 hi hz0 hz1 hz2 rfl (by decide) _ _ _ rfl (hE1.out.own.alloc _) ⟨w1.heap.size, 0, none⟩ 1 1 [bv 48] rfl rfl ?c1 ?c2 ?c3 ?c4 ?c5 ?_)
    case c1 =>
      intro j u hj
      match j, hj with
        | 0, hj => simp at hj; subst hj; simp [Addr.add, bv]
    case c2 => intro u hu; simp at hu; subst hu; rfl
    case c3 => simp [maxLen]
    case c4 => simp
    case c5 => have := hE1.out.ns; simp; omega
    intro v2 w2 hown' hgrow _
    have hE2 := hE1.out.app (xs := [48]) hown' hgrow
    clear hown' hgrow
    go_wp2_with (fail)
    go_ret
    exact ⟨_, rfl, hE2⟩

/-- A text's bytes as whole numbers. -/
def sBytes (s : ByteArray) : List Int := s.data.toList.map fun b => (b.toNat : Int)
theorem sBytes_cells (s : ByteArray) : (sBytes s).map bv = Lib.strCells s := by unfold sBytes Lib.strCells bv; rw [List.map_map]; rfl
theorem sBytes_len (s : ByteArray) : (sBytes s).length = s.size := by unfold sBytes; simp
end Go.Proofs.YthhmimlfiaboeaaGreatDoor
