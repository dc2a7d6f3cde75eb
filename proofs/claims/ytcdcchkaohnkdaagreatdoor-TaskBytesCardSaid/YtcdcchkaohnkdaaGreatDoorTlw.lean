/- What the walk of the law TaskBytes needs beside the contracts. -/
import Derived.Test.YtcdcchkaohnkdaaGreatDoorTme
import Derived.Test.YtcdcchkaohnkdaaGreatDoorTrt
import Derived.Test.YtcdcchkaohnkdaaGreatDoorTrp
import Derived.Test.YtcdcchkaohnkdaaGreatDoorTpq
import Derived.Test.YtcdcchkaohnkdaaGreatDoorTsm
import Derived.Test.YtcdcchkaohnkdaaGreatDoorTsp
namespace Go.Proofs.YtcdcchkaohnkdaaGreatDoor
open Go.RowKit Go.Ev

/-! ## Plain bounds -/
theorem good_small {t : Tk} (h : goodT t = true) : t.small := by
  unfold goodT at h
  simp only [Bool.and_eq_true, decide_eq_true_eq, List.all_eq_true] at h
  obtain ⟨h1, h2, h3, ⟨h4, h5⟩, h6⟩ := h
  have hw : ∀ l : List Str, goodWord l = true → l.length ≤ 70 ∧ ∀ s ∈ l, s.length ≤ 70 := by
    intro l hl
    unfold goodWord at hl
    simp only [Bool.and_eq_true, decide_eq_true_eq, List.all_eq_true] at hl
    exact ⟨by omega, fun s hs => by have := (hl.2 s hs).2; omega⟩
  refine ⟨?_, ⟨by omega, fun ts hts => hw ts (h4 ts hts)⟩, ⟨by omega, fun ts hts => hw ts (h5 ts hts)⟩, by omega⟩
  unfold goodName at h1
  simp only [Bool.and_eq_true, decide_eq_true_eq] at h1
  omega
theorem get_none {s : Str} (h : (getT s).2 ≠ 0) : (getT s).1 = Tk.none := by
  unfold getT at h ⊢
  cases e1 : textS (s, 0) with
  | mk name s1 =>
  rw [e1] at h
  simp only at h ⊢
  cases e2 : listS s1 with
  | mk o2 s2 =>
  rw [e2] at h
  cases o2 with
  | none => rfl
  | some yes =>
  simp only at h ⊢
  cases e3 : listS s2 with
  | mk o3 s3 =>
  rw [e3] at h
  cases o3 with
  | none => rfl
  | some no =>
  simp only at h ⊢
  cases e4 : boolS s3 with
  | mk cl s4 =>
  rw [e4] at h
  simp only at h ⊢
  cases e5 : textS s4 with
  | mk m s5 =>
  rw [e5] at h
  simp only at h ⊢
  split
  · rfl
  · rename_i h5
    rw [if_neg h5] at h
    split
    · rfl
    · rename_i h6
      rw [if_neg h6] at h
      split
      · rfl
      · rename_i h7
        rw [if_neg h7] at h
        exact absurd rfl h
theorem get_ok (s : Str) : ((getT s).1).ok := by
  by_cases h : (getT s).2 = 0
  · exact (good_small (put_getT h).1).ok
  · rw [get_none h]
    exact ⟨Nat.zero_le _, ⟨Nat.zero_le _, fun ts h => by cases h⟩, ⟨Nat.zero_le _, fun ts h => by cases h⟩⟩
theorem putT_le {t : Tk} (h : t.small) : (putT t).length ≤ 1000000 := by
  obtain ⟨h1, ⟨h2, h3⟩, ⟨h4, h5⟩, h6⟩ := h
  have lA := textP_le t.name h1
  have lB := listP_le t.yes h2 h3
  have lC := listP_le t.no h4 h5
  have lE := textP_le (beL 8 (canN t.wt)) (by rw [beL_length]; omega)
  unfold putT
  simp only [List.length_append, List.length_cons]
  omega

/-! ## The law's variables -/
/-- A variable that holds a task. -/
def Var5 (tt B : Nat) (cs : Array Value) (t : Tk) (w : World) : Prop := w.heap[B]? = some (.cells cs tt (0, 0)) ∧ TkV w (.agg cs) t
theorem Var5.keep {tt B : Nat} {cs : Array Value} {t : Tk} {w w' : World} (h : Var5 tt B cs t w) (hb : Below w.heap.size w w') : Var5 tt B cs t w' :=
  ⟨(hb.block B (Array.getElem?_eq_some_iff.1 h.1).1).trans h.1, h.2.keep hb⟩
theorem Var5.cells {tt B : Nat} {c0 c1 c2 c3 c4 : Value} {t : Tk} {w : World} (h : Var5 tt B #[c0, c1, c2, c3, c4] t w) :
    w.cell? ⟨B, 0, none⟩ = some c0 ∧ w.cell? ⟨B, 1, none⟩ = some c1 ∧ w.cell? ⟨B, 2, none⟩ = some c2 ∧ w.cell? ⟨B, 3, none⟩ = some c3 ∧ w.cell? ⟨B, 4, none⟩ = some c4 := by
  refine ⟨?_, ?_, ?_, ?_, ?_⟩ <;> rw [cell_of_row _ _ _ _ _ _ h.1] <;> rfl
/-- A variable made. -/
theorem Var5.alloc {tt : Nat} {cs : Array Value} {t : Tk} {w : World} (h : TkV w (.agg cs) t) : Var5 tt w.heap.size cs t (w.alloc (.cells cs tt (0, 0))) :=
  ⟨heap_alloc_new w _, h.keep ((Below.refl _ w).alloc (Nat.le_refl _) _)⟩
theorem Var5.alloc' {tt B : Nat} {cs : Array Value} {t : Tk} {w : World} (h : TkV w (.agg cs) t) (hB : B = w.heap.size) : Var5 tt B cs t (w.alloc (.cells cs tt (0, 0))) := by subst hB; exact Var5.alloc h
end Go.Proofs.YtcdcchkaohnkdaaGreatDoor
