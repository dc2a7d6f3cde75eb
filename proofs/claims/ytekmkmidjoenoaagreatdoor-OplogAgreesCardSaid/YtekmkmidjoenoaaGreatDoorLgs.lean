/- Logs in plain words: entries, what a row of them holds, what two logs agree on. No program in sight but for the cells. -/
import Derived.Test.YtekmkmidjoenoaaGreatDoorEvC
import Derived.WalkKit
namespace Go.Proofs.YtekmkmidjoenoaaGreatDoor
open Go.RowKit

/-- A client, a number, a text. -/
abbrev Ent := Int × Int × ByteArray
def Ent.cells (e : Ent) : List Value := [.int .i64 e.1, .int .i64 e.2.1, .string e.2.2]
def Ent.val (e : Ent) : Value := .agg #[.int .i64 e.1, .int .i64 e.2.1, .string e.2.2]
def rowOf (es : List Ent) : List Value := es.flatMap Ent.cells
def noEnt : Ent := (0, 0, ByteArray.empty)

@[simp] theorem rowOf_nil : rowOf [] = [] := rfl
theorem rowOf_cons (e : Ent) (es : List Ent) : rowOf (e :: es) = Ent.cells e ++ rowOf es := rfl
theorem rowOf_length : ∀ es : List Ent, (rowOf es).length = es.length * 3
  | [] => rfl
  | e :: es => by rw [rowOf_cons, List.length_append, rowOf_length es, List.length_cons]; simp [Ent.cells]; omega
theorem rowOf_append (a b : List Ent) : rowOf (a ++ b) = rowOf a ++ rowOf b := List.flatMap_append
theorem rowOf_drop : ∀ (k : Nat) (es : List Ent), rowOf (es.drop k) = (rowOf es).drop (k * 3)
  | 0, es => by simp
  | k + 1, [] => by simp
  | k + 1, e :: es => by
    rw [List.drop_succ_cons, rowOf_drop k es, rowOf_cons, show (k + 1) * 3 = 3 + k * 3 by omega, ← List.drop_drop]
    rfl
theorem rowOf_get : ∀ (es : List Ent) (i : Nat) (e : Ent), es[i]? = some e → (rowOf es)[i * 3]? = some (.int .i64 e.1) ∧ (rowOf es)[i * 3 + 1]? = some (.int .i64 e.2.1) ∧ (rowOf es)[i * 3 + 2]? = some (.string e.2.2)
  | [], i, e, h => by simp at h
  | x :: es, 0, e, h => by
    simp at h; subst h
    exact ⟨rfl, rfl, rfl⟩
  | x :: es, i + 1, e, h => by
    have ih := rowOf_get es i e (by simpa using h)
    rw [rowOf_cons, show (i + 1) * 3 = 3 + i * 3 by omega]
    have key : ∀ j, (Ent.cells x ++ rowOf es)[3 + j]? = (rowOf es)[j]? := fun j => by
      rw [List.getElem?_append_right (by simp [Ent.cells])]
      simp [Ent.cells]
    refine ⟨?_, ?_, ?_⟩
    · rw [key]; exact ih.1
    · rw [Nat.add_assoc, key]; exact ih.2.1
    · rw [Nat.add_assoc, key]; exact ih.2.2
theorem rowOf_one (e : Ent) : rowOf [e] = Ent.cells e := by simp [rowOf]
theorem rowOf_oneCell (es : List Ent) : ∀ u ∈ rowOf es, u.oneCell' = true := by
  intro u hu
  obtain ⟨e, _, h⟩ := List.mem_flatMap.1 hu
  simp [Ent.cells] at h
  rcases h with rfl | rfl | rfl <;> rfl

/-- The slice v holds the entries es, in a block below N. -/
def Lies (N : Nat) (W : World) (v : Value) (es : List Ent) : Prop :=
  ∃ a cap, v = .slice a es.length cap ∧ es.length ≤ cap ∧ (a = none → es = []) ∧
    (es ≠ [] → ∃ b off, a = some ⟨b, off, none⟩ ∧ b < N ∧ ∀ j u, (rowOf es)[j]? = some u → W.cell? ⟨b, off + j, none⟩ = some u)

theorem Lies.below {N : Nat} {W W' : World} {v : Value} {es : List Ent} (h : Lies N W v es) (hb : Below N W W') : Lies N W' v es := by
  obtain ⟨a, cap, h1, h2, h3, h4⟩ := h
  refine ⟨a, cap, h1, h2, h3, fun he => ?_⟩
  obtain ⟨b, off, e, hN, hc⟩ := h4 he
  exact ⟨b, off, e, hN, fun j u hu => (hb.cell (p := ⟨b, off + j, none⟩) hN).trans (hc j u hu)⟩

theorem Lies.mono {N N' : Nat} {W : World} {v : Value} {es : List Ent} (h : Lies N W v es) (hN : N ≤ N') : Lies N' W v es := by
  obtain ⟨a, cap, h1, h2, h3, h4⟩ := h
  refine ⟨a, cap, h1, h2, h3, fun he => ?_⟩
  obtain ⟨b, off, e, hb, hc⟩ := h4 he
  exact ⟨b, off, e, Nat.lt_of_lt_of_le hb hN, hc⟩

theorem Lies.of_row {W : World} {base : Nat} {t : TypeId} {v : Value} {es : List Ent} (h : W.ownsRow base t 3 v es.length (rowOf es)) : Lies W.heap.size W v es := by
  rcases h.2 with ⟨rfl, h0⟩ | ⟨g, cap, cur, rfl, hb, hg, hn, hm, hs, ht⟩
  · have : es = [] := List.eq_nil_of_length_eq_zero h0
    subst this
    exact ⟨none, 0, rfl, Nat.le_refl _, fun _ => rfl, fun h => absurd rfl h⟩
  · refine ⟨some ⟨g, 0, none⟩, cap, rfl, hn, fun h => (by cases h), fun _ => ⟨g, 0, rfl, (Array.getElem?_eq_some_iff.1 hg).1, fun j u hu => ?_⟩⟩
    have := h.cells (g := g) rfl j u hu
    rwa [Addr.add_lit] at this

/-- What two logs that begin at b and c both have is the same. -/
def Agrees (b : Nat) (es : List Ent) (c : Nat) (fs : List Ent) : Prop := ∀ op : Nat, b < op → c < op → op ≤ b + es.length → op ≤ c + fs.length → es[op - b - 1]? = fs[op - c - 1]?

theorem Agrees.symm {b c : Nat} {es fs : List Ent} (h : Agrees b es c fs) : Agrees c fs b es := fun op h1 h2 h3 h4 => (h op h2 h1 h4 h3).symm
theorem agrees_self (b : Nat) (es : List Ent) : Agrees b es b es := fun _ _ _ _ _ => rfl
theorem agrees_add (b : Nat) (es : List Ent) (x : Ent) : Agrees b es b (es ++ [x]) := fun op h1 h2 h3 h4 => by
  rw [List.getElem?_append_left (by omega)]
theorem agrees_cut (b k : Nat) (es : List Ent) (hk : k ≤ es.length) : Agrees b es (b + k) (es.drop k) := fun op h1 h2 h3 h4 => by
  rw [List.getElem?_drop]
  congr 1
  omega
theorem agrees_add_cut (b k : Nat) (es : List Ent) (x : Ent) (hk : k ≤ es.length + 1) : Agrees b es (b + k) ((es ++ [x]).drop k) := fun op h1 h2 h3 h4 => by
  rw [List.getElem?_drop, ← List.getElem?_append_left (l₂ := [x]) (by omega)]
  congr 1
  omega
end Go.Proofs.YtekmkmidjoenoaaGreatDoor
