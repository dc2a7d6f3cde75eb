/- Sorting the places of marks. -/
import Derived.Test.YtedncponpbieeaaDoorLss
namespace Go.Proofs.YtedncponpbieeaaDoor
open Go.RowKit Go.Shelf Go.Sort

theorem ltOf_cf (fs : List Nat) (n x y : Nat) : ltOf (fun x y => cfR fs (x % n) (y % n)) x y = ltR fs (x % n) (y % n) := by
  unfold ltOf
  cases h : ltR fs (x % n) (y % n) with
  | true => exact decide_eq_true ((cfR_lt _ _ _).2 h)
  | false => exact decide_eq_false fun hh => by rw [(cfR_lt _ _ _).1 hh] at h; cases h

theorem swo_cf (fs : List Nat) (n : Nat) : SWO (ltOf (fun x y => cfR fs (x % n) (y % n))) where
  irrefl x := by rw [ltOf_cf, ltR_irrefl]
  trans x y z h1 h2 := by rw [ltOf_cf] at *; exact ltR_trans h1 h2
  ntrans x y z h1 h2 := by rw [ltOf_cf] at *; exact ltR_ntrans h1 h2

theorem heap_sortWorld {enc : Nat → Value} {W : World} {blk off m : Nat} {d : Array Nat} {os : Array Obj} (k : Nat) (hk : k < W.heap.size) (hne : k ≠ blk) : (sortWorld enc W blk off m d os).heap[k]? = W.heap[k]? := by
  unfold sortWorld
  show ((putRow enc (Sort.ahead W m) blk off d).heap ++ os)[k]? = _
  rw [Array.getElem?_append_left (by rw [size_putRow]; exact hk)]
  unfold putRow mapBlock
  show (W.heap.modify blk _)[k]? = _
  rw [Array.getElem?_modify, if_neg (fun h => hne h.symm)]

theorem size_sortWorld {enc : Nat → Value} {W : World} {blk off m : Nat} {d : Array Nat} {os : Array Obj} : W.heap.size ≤ (sortWorld enc W blk off m d os).heap.size := by
  unfold sortWorld
  rw [size_grow, size_putRow]
  exact Nat.le_add_right _ _

theorem cell_sortWorld {enc : Nat → Value} {W : World} {blk off m : Nat} {d : Array Nat} {os : Array Obj} {p : Addr} (hk : p.block < W.heap.size) (hne : p.block ≠ blk) : (sortWorld enc W blk off m d os).cell? p = W.cell? p :=
  World.cell?_of_block (heap_sortWorld p.block hk hne)

set_option maxRecDepth 100000 in
theorem sort_places (fs : List Nat) (n pb blk : Nat) (a : Option Addr) (cap : Nat) (W : World) (hn : fs.length = n) (h0 : 0 < n) (h40 : n ≤ 40) (hp : W.cell? ⟨pb, 0, none⟩ = some (.slice a n cap)) (hpb : pb < W.heap.size) (hne : pb ≠ blk)
    (hc : FloatsAt W a fs) (hcb : ∀ b off, a = some ⟨b, off, none⟩ → b ≠ blk) (hblk : blk < W.heap.size)
    (hrow : ∀ j, j < n → W.cell? ⟨blk, j, none⟩ = some (.int .i64 (j : Nat)) ∧ W.frozen? ⟨blk, j, none⟩ = false) :
    Calls Tryd.prog 38 #[.slice (some ⟨blk, 0, none⟩) n n, .func (.func 39) #[] #[.pointer (some ⟨pb, 0, none⟩)]] W fun e w' => e = .returned (.tuple #[]) ∧
      ∃ L, RankOk fs L n ∧ (∀ j, j < n → w'.cell? ⟨blk, j, none⟩ = some (.int .i64 (L.getD j 0 : Nat))) ∧ ∃ (m : Nat) (d : Array Nat) (os : Array Obj), w' = sortWorld (fun x => .int .i64 ((x % n : Nat) : Int)) W blk 0 m d os := by
  have hds : ((List.range n).toArray).size = n := by simp
  have heg : ∀ args w, (callFunc 39 args).run Tryd.prog w = .ok (.enter 39 args) w := enters_of Tryd.func39 (by kernel_rfl) rfl
  have hH : Holds (fun x : Nat => Value.int .i64 ((x % n : Nat) : Int)) W blk 0 (List.range n).toArray := by
    intro j hj
    rw [hds] at hj
    have := hrow j hj
    rw [Nat.zero_add]
    refine ⟨?_, this.2⟩
    rw [this.1, getElem!_pos _ j (by rw [hds]; exact hj)]
    simp [Nat.mod_eq_of_lt hj]
  have hC : CmpLays1 Tryd.prog 39 #[.pointer (some ⟨pb, 0, none⟩)] (fun x : Nat => Value.int .i64 ((x % n : Nat) : Int)) (fun x y => cfR fs (x % n) (y % n)) blk 0 n W := by
    intro m os dk hs x y
    have hx : x % n < fs.length := by rw [hn]; exact Nat.mod_lt _ h0
    have hy : y % n < fs.length := by rw [hn]; exact Nat.mod_lt _ h0
    have := less_any a cap pb fs (x % n) (y % n) (sortWorld (fun x : Nat => Value.int .i64 ((x % n : Nat) : Int)) W blk 0 m dk os) (by omega) hx hy
      (by rw [cell_sortWorld hpb hne, hn]; exact hp) (fun j hj => by
        obtain ⟨b, off, e, hlt, hcell⟩ := hc j hj
        exact ⟨b, off, e, Nat.lt_of_lt_of_le hlt size_sortWorld, by rw [cell_sortWorld (by exact hlt) (by exact hcb b off e)]; exact hcell⟩)
    exact this
  have hS := Any.slices_SortFunc Tryd.sortL (fun x : Nat => Value.int .i64 ((x % n : Nat) : Int)) (fun _ => rfl) (fun x y => cfR fs (x % n) (y % n)) (swo_cf fs n) 39 #[.pointer (some ⟨pb, 0, none⟩)] blk 0 n (List.range n).toArray W heg
    (by rw [hds]; exact hC) hH hblk (by rw [hds]; omega)
  rw [hds] at hS
  refine hS.mono ?_
  rintro e w' ⟨rfl, d', m, os, hperm, hsort, rfl⟩
  have hsz : d'.size = n := by rw [hperm.1, hds]
  have hpl : d'.toList.Perm (List.range n) := by
    have h3 := hperm.2.2
    rw [show d'.extract 0 n = d' by rw [← hsz]; exact Array.extract_size, show (List.range n).toArray.extract 0 n = (List.range n).toArray by
      have : (List.range n).toArray.extract 0 (List.range n).toArray.size = (List.range n).toArray := Array.extract_size
      rwa [hds] at this] at h3
    simpa using h3
  have hlt : ∀ j (hj : j < d'.toList.length), d'.toList[j] < n := fun j hj => by
    have := (hpl.mem_iff (a := d'.toList[j])).1 (List.getElem_mem _)
    simpa using this
  have hb : ∀ j (hj : j < d'.toList.length), d'[j]! = d'.toList[j] := fun j hj => by
    rw [getElem!_pos d' j (by simpa using hj)]; simp
  have hR : RankOk fs d'.toList n := rankOk_of_sorted hpl fun i j hj h => by
    have := hsort i j (Nat.zero_le _) h (by simpa [hsz] using hj)
    rw [ltOf_cf, hb j hj, hb i (by omega), Nat.mod_eq_of_lt (hlt j hj), Nat.mod_eq_of_lt (hlt i (by omega))] at this
    exact this
  refine ⟨rfl, d'.toList, hR, fun j hj => ?_, m, d', os, rfl⟩
  have hjl : j < d'.toList.length := by rw [hR.1]; exact hj
  have := (holds_sortWorld (fun x : Nat => Value.int .i64 ((x % n : Nat) : Int)) W blk 0 m _ d' os hblk hH (by rw [hsz, hds])) j (by rw [hsz]; exact hj)
  rw [Nat.zero_add] at this
  rw [this.1, hb j hjl, List.getD, List.getElem?_eq_getElem hjl]
  show some (Value.int .i64 ((d'.toList[j] % n : Nat) : Int)) = _
  rw [Nat.mod_eq_of_lt (hlt j hjl)]
  rfl

theorem sort_none (p : Option Addr) (c : Nat) (fv : Value) (W : World) : Calls Tryd.prog 38 #[.slice p 0 c, fv] W fun e w' => e = .returned (.tuple #[]) ∧ w' = W :=
  AnyF.slices_SortFunc_none (P := Tryd.prog) (ρ := Tryd.sortL_ren) { Tryd.sortL with } p c fv W

theorem below_sortWorld {enc : Nat → Value} {w W : World} {blk off m : Nat} {d : Array Nat} {os : Array Obj} (hb : Below w.heap.size w W) (hblk : w.heap.size ≤ blk) : Below w.heap.size w (sortWorld enc W blk off m d os) :=
  hb.trans ⟨rfl, rfl, rfl, size_sortWorld, fun k hk => heap_sortWorld k (Nat.lt_of_lt_of_le hk hb.size) (by omega)⟩
end Go.Proofs.YtedncponpbieeaaDoor
