/- The words of any slice as floats, the empty one too. -/
import Derived.Test.YtedncponpbieeaaDoorFls

namespace Go.Proofs.YtedncponpbieeaaDoor
open Go.RowKit

/-- What a slice of floats is known by. -/
def FloatsAt (w : World) (a : Option Addr) (fs : List Nat) : Prop :=
  ∀ j, j < fs.length → ∃ b off, a = some ⟨b, off, none⟩ ∧ b < w.heap.size ∧ w.cell? ⟨b, off + j, none⟩ = some (.float .f64 (fs.getD j 0))

theorem FloatsAt.below {w w' : World} {a : Option Addr} {fs : List Nat} (h : FloatsAt w a fs) (hb : Below w.heap.size w w') : FloatsAt w' a fs := fun j hj => by
  obtain ⟨b, off, e, hlt, hcell⟩ := h j hj
  exact ⟨b, off, e, Nat.lt_of_lt_of_le hlt hb.size, by rw [hb.cell (by exact hlt)]; exact hcell⟩

/-- What a slice of words is known by. -/
def WordsAt (w : World) (a : Option Addr) (ns : List Nat) : Prop :=
  ∀ j, j < ns.length → ∃ b off, a = some ⟨b, off, none⟩ ∧ b < w.heap.size ∧ w.cell? ⟨b, off + j, none⟩ = some (.int .u64 (ns.getD j 0 : Nat))

theorem WordsAt.below {w w' : World} {a : Option Addr} {fs : List Nat} (h : WordsAt w a fs) (hb : Below w.heap.size w w') : WordsAt w' a fs := fun j hj => by
  obtain ⟨b, off, e, hlt, hcell⟩ := h j hj
  exact ⟨b, off, e, Nat.lt_of_lt_of_le hlt hb.size, by rw [hb.cell (by exact hlt)]; exact hcell⟩

set_option maxHeartbeats 1600000 in
set_option maxRecDepth 1000000 in
theorem floats_none (a : Option Addr) (cap : Nat) (w : World) : Calls Tryd.prog 19 #[.slice a 0 cap] w fun e w' => e = .returned (.slice none 0 0) ∧ w = w' := by
  go_enter Tryd.func19, Tryd.ntmps19
  go_wp2
  refine wp_loop_rounds 1 ?_
  rw [rounds_succ]
  go_wp2
  go_ret
  exact ⟨rfl, rfl⟩

theorem take_min40 (ns : List Nat) : (ns.map (Value.float .f64)).take (min ns.length 40) = (ns.take 40).map (Value.float .f64) := by
  rw [← List.map_take]
  congr 1
  by_cases h : ns.length ≤ 40
  · rw [Nat.min_eq_left h, List.take_length, List.take_of_length_le h]
  · rw [Nat.min_eq_right (by omega)]

theorem floats_of_own {w w' : World} {B : Nat} {v : Value} {fs : List Nat} (hown : w'.ownsRow B 23 1 v fs.length (fs.map (Value.float .f64))) :
    ∃ a cap, v = .slice a fs.length cap ∧ FloatsAt w' a fs := by
  by_cases h0 : fs.length = 0
  · rw [h0] at hown
    obtain ⟨_, h⟩ := hown
    rcases h with ⟨rfl, _⟩ | ⟨g, cap, cs, rfl, _⟩
    · exact ⟨none, 0, by rw [h0], fun j hj => by omega⟩
    · exact ⟨_, cap, by rw [h0], fun j hj => by omega⟩
  · obtain ⟨m, hm⟩ : ∃ m, fs.length = m + 1 := ⟨fs.length - 1, by omega⟩
    rw [hm] at hown
    obtain ⟨g, cap, rfl⟩ : ∃ g cap, v = .slice (some ⟨g, 0, none⟩) (m + 1) cap := by
      rcases hown.2 with ⟨_, h⟩ | ⟨g, cap, _, h, _⟩
      · omega
      · exact ⟨g, cap, h⟩
    refine ⟨_, cap, by rw [hm], fun j hj => ?_⟩
    have hlt := hown.lt g rfl
    refine ⟨g, 0, rfl, hlt.2, ?_⟩
    have := hown.cells (g := g) rfl j (.float .f64 (fs.getD j 0)) (by rw [List.getElem?_map, List.getD, List.getElem?_eq_getElem hj]; rfl)
    rw [← Go.WideShapes.add_plain]; exact this

theorem floats_law (a : Option Addr) (cap : Nat) (ns : List Nat) (w : World) (hc : WordsAt w a ns) :
    Calls Tryd.prog 19 #[.slice a ns.length cap] w fun e w' =>
      ∃ a' cap', e = .returned (.slice a' (ns.take 40).length cap') ∧ Below w.heap.size w w' ∧ FloatsAt w' a' (ns.take 40) := by
  by_cases h0 : ns.length = 0
  · have : ns = [] := List.length_eq_zero_iff.1 h0
    subst this
    refine (floats_none a cap w).mono ?_
    rintro e w' ⟨rfl, rfl⟩
    exact ⟨none, 0, rfl, Below.refl _ _, fun j hj => by simp at hj⟩
  · obtain ⟨b, off, rfl, hb, _⟩ := hc 0 (by omega)
    refine (floats_any b off ns.length cap ns w (Nat.le_refl _) hb (fun j hj => by
      obtain ⟨b', off', e, _, h⟩ := hc j hj
      simp only [Option.some.injEq, Addr.mk.injEq] at e
      obtain ⟨rfl, rfl, _⟩ := e
      exact h)).mono ?_
    rintro e w' ⟨v, rfl, hown, hB⟩
    rw [take_min40] at hown
    have hlen : min ns.length 40 = (ns.take 40).length := by rw [List.length_take, Nat.min_comm]
    rw [hlen] at hown
    obtain ⟨a', cap', rfl, hF⟩ := floats_of_own (w := w) hown
    exact ⟨a', cap', rfl, hB, hF⟩
end Go.Proofs.YtedncponpbieeaaDoor
