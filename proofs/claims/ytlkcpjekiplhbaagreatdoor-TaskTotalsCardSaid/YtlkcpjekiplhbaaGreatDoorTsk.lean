/- Tasks that have nothing but a weight, as they lie in a row. -/
import Derived.Test.YtlkcpjekiplhbaaGreatDoorTop
import Derived.Test.YtlkcpjekiplhbaaGreatDoorSid
namespace Go.Proofs.YtlkcpjekiplhbaaGreatDoor
open Go.RowKit

def taskCells (f : Nat) : List Value := [.string ByteArray.empty, .slice none 0 0, .slice none 0 0, .bool false, .float .f64 f]
def taskRow (fs : List Nat) : List Value := fs.flatMap taskCells
theorem taskRow_append (a b : List Nat) : taskRow (a ++ b) = taskRow a ++ taskRow b := List.flatMap_append
theorem taskRow_one (f : Nat) : taskRow [f] = taskCells f := by simp [taskRow]
theorem taskRow_cons (f : Nat) (fs : List Nat) : taskRow (f :: fs) = taskCells f ++ taskRow fs := rfl
theorem taskCells_length (f : Nat) : (taskCells f).length = 5 := rfl
theorem taskRow_get : ∀ (fs : List Nat) (i : Nat), i < fs.length → ∀ r u, (taskCells (fs.getD i 0))[r]? = some u → (taskRow fs)[i * 5 + r]? = some u
  | [], i, h, _, _, _ => absurd h (Nat.not_lt_zero _)
  | f :: fs, 0, _, r, u, hu => by
    have hr : r < 5 := by
      have := (List.getElem?_eq_some_iff.1 hu).1
      rwa [taskCells_length] at this
    rw [taskRow_cons, List.getElem?_append_left (by rw [taskCells_length]; omega)]
    rw [Nat.zero_mul, Nat.zero_add]
    exact hu
  | f :: fs, i + 1, h, r, u, hu => by
    have ih := taskRow_get fs i (by simpa using h) r u hu
    rw [taskRow_cons, List.getElem?_append_right (by rw [taskCells_length]; omega), taskCells_length]
    rw [← ih]
    congr 1
    omega

/-- What a slice of tasks is known by. -/
def TasksAt (w : World) (a : Option Addr) (fs : List Nat) : Prop :=
  ∀ j, j < fs.length → ∃ b off, a = some ⟨b, off, none⟩ ∧ b < w.heap.size ∧ ∀ r u, (taskCells (fs.getD j 0))[r]? = some u → w.cell? ⟨b, off + j * 5 + r, none⟩ = some u

theorem TasksAt.below {w w' : World} {a : Option Addr} {fs : List Nat} (h : TasksAt w a fs) (hb : Below w.heap.size w w') : TasksAt w' a fs := fun j hj => by
  obtain ⟨b, off, e, hlt, hcell⟩ := h j hj
  exact ⟨b, off, e, Nat.lt_of_lt_of_le hlt hb.size, fun r u hu => by rw [hb.cell (by exact hlt)]; exact hcell r u hu⟩

theorem tasks_of_own {w : World} {B : Nat} {t : TypeId} {v : Value} {fs : List Nat} (hown : w.ownsRow B t 5 v fs.length (taskRow fs)) : ∃ a cap, v = .slice a fs.length cap ∧ TasksAt w a fs := by
  rcases hown.2 with ⟨rfl, h0⟩ | ⟨g, cap, cur, rfl, hb, hg, hn, hm, hs, ht⟩
  · exact ⟨none, 0, by rw [h0], fun j hj => by omega⟩
  · refine ⟨_, cap, rfl, fun j hj => ⟨g, 0, rfl, (Array.getElem?_eq_some_iff.1 hg).1, fun r u hu => ?_⟩⟩
    have := hown.cells (g := g) rfl (j * 5 + r) u (taskRow_get fs j hj r u hu)
    rw [Addr.add_lit] at this
    rw [← this]
    congr 2
    omega
end Go.Proofs.YtlkcpjekiplhbaaGreatDoor
