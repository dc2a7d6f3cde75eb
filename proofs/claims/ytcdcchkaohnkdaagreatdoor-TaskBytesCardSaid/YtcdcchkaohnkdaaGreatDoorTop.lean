/- What the law's argument reads as: words, and a task's raw fields. -/
import Derived.Test.YtcdcchkaohnkdaaGreatDoorTmm
import Derived.ProofKit
import Derived.ChangeSlices
import Derived.Deep.Slices
import Derived.Deep.Strs
namespace Go.Proofs.YtcdcchkaohnkdaaGreatDoor
open Go.ChangeShapes Go.WideShapes Go.ChangeAt Go.RowKit Go.Deep

section
variable {H : Type} {enc : TypeId × Value → H} {W : World} {fuel base : Nat} {spare : Nat → Bool} {held : Bool}

set_option maxRecDepth 100000 in
theorem strs_open {v : Value} {x : DataW H × List MemPlace} (h : DataW.trod enc Tryz.prog W base spare held fuel 47 [v] = some x) : ∃ l : List Str, StrsV W.heap.size W v l := by
  rcases open_strs (show Tryz.prog.underlying 47 = some (.slice 9) by kernel_rfl) (show Tryz.prog.underlying 9 = some .string by kernel_rfl) (show Tryz.prog.cellsOf 9 = 1 by kernel_rfl) h with
    ⟨hcs, _⟩ | ⟨a, len, cap, m, Sx, hcs, _, hl, hcm, hmm, _, hx⟩
  · simp at hcs
    subst hcs
    exact ⟨[], none, 0, rfl, fun j hj => by simp at hj⟩
  · simp at hcs
    subst hcs
    have hlm : len ≤ m := by rw [hmm]; split <;> omega
    refine ⟨(List.range len).map fun i => (Sx i).data.toList, some a, cap, by simp, fun j hj => ?_⟩
    simp only [List.length_map, List.length_range] at hj
    have hc := (hx j (by omega)).1
    obtain ⟨b, off, spot⟩ := a
    have hspot : spot = none := by
      have := (hx 0 (by omega)).1
      simpa [Addr.add] using World.cell?_spot this
    subst hspot
    rw [add_plain] at hc
    refine ⟨b, off, rfl, World.block_lt_of_cell? _ _ hc, ?_⟩
    rw [hc, List.getD, List.getElem?_map, List.getElem?_range hj]
    rfl

set_option maxRecDepth 100000 in
theorem lists_open {v : Value} {x : DataW H × List MemPlace} (h : DataW.trod enc Tryz.prog W base spare held fuel 22 [v] = some x) : ∃ ll : List (List Str), ListsV W.heap.size W v ll := by
  rcases open_slice1 (show Tryz.prog.underlying 22 = some (.slice 47) by kernel_rfl) (show Tryz.prog.cellsOf 47 = 1 by kernel_rfl) h with
    ⟨hcs, _⟩ | ⟨a, len, cap, m, n, V, D, Pl, hcs, _, hl, hcm, hmm, _, hx⟩
  · simp at hcs
    subst hcs
    exact ⟨[], none, 0, rfl, fun j hj => by simp at hj⟩
  · simp at hcs
    subst hcs
    have hlm : len ≤ m := by rw [hmm]; split <;> omega
    have each : ∀ i, i < len → ∃ l : List Str, StrsV W.heap.size W (V i) l := fun i hi => strs_open (hx i (by omega)).2
    obtain ⟨L, hL⟩ := choose_lt each
    refine ⟨(List.range len).map L, some a, cap, by simp, fun j hj => ?_⟩
    simp only [List.length_map, List.length_range] at hj
    have hc := (hx j (by omega)).1
    obtain ⟨b, off, spot⟩ := a
    have hspot : spot = none := by
      have := (hx 0 (by omega)).1
      simpa [Addr.add] using World.cell?_spot this
    subst hspot
    rw [add_plain] at hc
    refine ⟨b, off, V j, rfl, World.block_lt_of_cell? _ _ hc, hc, ?_⟩
    rw [List.getD, List.getElem?_map, List.getElem?_range hj]
    exact hL j hj
end

/-- A raw task, as a value. -/
def RawV (w : World) (v : Value) (name : Str) (yes no : List (List Str)) (clear : Bool) (wt : Nat) : Prop :=
  ∃ vy vn, v = .agg #[.string (bs name), vy, vn, .bool clear, .int .u64 (wt : Nat)] ∧ ListsV w.heap.size w vy yes ∧ ListsV w.heap.size w vn no ∧ wt < 18446744073709551616

set_option maxRecDepth 100000 in
theorem raw_open {H : Type} {enc : TypeId × Value → H} {W : World} {r : Reach} {b0 base : Nat} {spare : Nat → Bool} {held : Bool} {v : Value} {d : DataW H} {p : List MemPlace} (hv : Value.okWide Tryz.prog W r b0 25 v)
    (h : DataW.Trod enc Tryz.prog W base spare held 25 v d p) : ∃ name yes no clear wt, RawV W v name yes no clear wt := by
  obtain ⟨cs, rfl, hsz⟩ := okWide_struct Tryz.underlying25 hv
  have hC : Tryz.prog.cellsOf 25 = 5 := by kernel_rfl
  rw [hC] at hsz
  obtain ⟨c0, c1, c2, c3, c4, rfl⟩ : ∃ c0 c1 c2 c3 c4, cs = #[c0, c1, c2, c3, c4] := by
    obtain ⟨l⟩ := cs
    match l, hsz with
    | [c0, c1, c2, c3, c4], _ => exact ⟨c0, c1, c2, c3, c4, rfl⟩
  obtain ⟨fuel, hf⟩ := h
  have hf' : DataW.trod enc Tryz.prog W base spare held fuel 25 [c0, c1, c2, c3, c4] = some (d, p) := hf
  obtain ⟨xs, m, _, _, hlen, hxs, hel⟩ := DataW.trod_struct Tryz.underlying25 hf'
  match xs, hxs with
  | [x0, x1, x2, x3, x4], _ =>
    have e0 := hel 0 _ rfl
    have e1 := hel 1 _ rfl
    have e2 := hel 2 _ rfl
    have e3 := hel 3 _ rfl
    have e4 := hel 4 _ rfl
    have q0 : Tryz.prog.cellsOf 9 = 1 := by kernel_rfl
    have q1 : Tryz.prog.cellsOf 22 = 1 := by kernel_rfl
    have q3 : Tryz.prog.cellsOf 4 = 1 := by kernel_rfl
    have q4 : Tryz.prog.cellsOf 23 = 1 := by kernel_rfl
    simp [q0, q1, q3, q4] at e0 e1 e2 e3 e4
    obtain ⟨s0, k0, _⟩ := DataW.trod_string (show Tryz.prog.underlying 9 = some .string by kernel_rfl) e0
    obtain ⟨yes, hyes⟩ := lists_open e1
    obtain ⟨no, hno⟩ := lists_open e2
    obtain ⟨s3, k3, _⟩ := DataW.trod_bool (show Tryz.prog.underlying 4 = some .bool by kernel_rfl) e3
    obtain ⟨s4, k4, _, hwf⟩ := DataW.trod_int (show Tryz.prog.underlying 23 = some (.int .u64) by kernel_rfl) e4
    simp at k0 k3 k4
    subst k0 k3 k4
    obtain ⟨n, rfl, hn⟩ : ∃ n : Nat, s4 = (n : Int) ∧ n < 18446744073709551616 := by
      simp [Lit.wf] at hwf
      obtain ⟨h1, h2⟩ := hwf
      have g1 : (IntKind.u64.min : Int) = 0 := by decide
      have g2 : (IntKind.u64.max : Int) = 18446744073709551615 := by decide
      rw [g1] at h1
      rw [g2] at h2
      exact ⟨s4.toNat, by omega, by omega⟩
    exact ⟨s0.data.toList, yes, no, s3, n, c1, c2, rfl, hyes, hno, hn⟩
end Go.Proofs.YtcdcchkaohnkdaaGreatDoor
