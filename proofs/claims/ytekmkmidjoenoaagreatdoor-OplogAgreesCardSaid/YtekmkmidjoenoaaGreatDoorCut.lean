/- Cut, Merge. -/
import Derived.Test.YtekmkmidjoenoaaGreatDoorAdd
namespace Go.Proofs.YtekmkmidjoenoaaGreatDoor
open Go.RowKit Go.Ev

set_option maxRecDepth 100000 in
set_option maxHeartbeats 6400000 in
/-- What is out of the log's numbers leaves it as it is. -/
theorem cut_out (b : Nat) (st su : ByteArray) (v : Value) (es : List Ent) (op : Int) (w : World) (hL : Lies w.heap.size w v es) (hn : b + es.length < 4611686018427387904) (hop : op ≤ b ∨ (b : Int) + es.length < op) :
    Calls Tryz.prog 8 #[lv b st v, .int .i64 op, .string su] w fun e w' => e = .returned (.tuple #[lv b st v, .bool false]) ∧ Below w.heap.size w w' := by
  obtain ⟨a, cap, rfl, _⟩ := hL
  go_enter Tryz.func8, Tryz.ntmps8
  go_wp2
  · refine bodyPost_ret (v := .tuple #[lv b st (.slice a es.length cap), .bool false]) ?_ rfl ?_
    · simp [results, asAddr]
      go_simp
    · exact ⟨rfl, (((Below.refl _ w).alloc (Nat.le_refl _) _).alloc (by simp) _).alloc (by simp; omega) _⟩
  · refine bodyPost_ret (v := .tuple #[lv b st (.slice a es.length cap), .bool false]) ?_ rfl ?_
    · simp [results, asAddr]
      go_simp
    · exact ⟨rfl, ((Below.refl _ w).alloc (Nat.le_refl _) _).alloc (by simp) _⟩

theorem add_plain' (b off k : Nat) : (⟨b, off, none⟩ : Addr).add k = ⟨b, off + k, none⟩ := by
  unfold Addr.add
  split
  · rename_i h; subst h; rfl
  · rfl

theorem lies_drop0 {N : Nat} {W : World} {a : Option Addr} {cap k : Nat} {es : List Ent} (h : Lies N W (.slice a es.length cap) es) (hk : cap ≤ k) : Lies N W (.slice a (es.length - k) 0) (es.drop k) := by
  obtain ⟨a', cap', he, h2, h3, h4⟩ := h
  cases he
  have hd : es.drop k = [] := List.drop_eq_nil_of_le (by omega)
  refine ⟨a, 0, ?_, by simp [hd], fun _ => hd, fun h => absurd hd h⟩
  rw [List.length_drop]

theorem lies_drop {N : Nat} {W : World} {a : Option Addr} {cap k : Nat} {es : List Ent} (h : Lies N W (.slice a es.length cap) es) (hk : k ≤ es.length) : Lies N W (.slice (Option.map (fun x => x.add (k * 3)) a) (es.length - k) (cap - k)) (es.drop k) := by
  obtain ⟨a', cap', he, h2, h3, h4⟩ := h
  cases he
  refine ⟨_, _, by rw [List.length_drop], by simp; omega, fun hn => ?_, fun hne => ?_⟩
  · cases a with
    | none => rw [h3 rfl]; simp
    | some x => cases hn
  · have hne' : es ≠ [] := by rintro rfl; simp at hne
    obtain ⟨b, off, rfl, hb, hc⟩ := h4 hne'
    refine ⟨b, off + k * 3, ?_, hb, fun j u hu => ?_⟩
    · simp [add_plain']
    · rw [rowOf_drop, List.getElem?_drop] at hu
      rw [Nat.add_assoc]
      exact hc _ _ hu

theorem ownsRow_slice {w : World} {base : Nat} {e : TypeId} {size n : Nat} {v : Value} {xs : List Value} (h : w.ownsRow base e size v n xs) : ∃ a c, v = .slice a n c := by
  rcases h.2 with ⟨rfl, rfl⟩ | ⟨g, cap, cur, rfl, _⟩
  · exact ⟨_, _, rfl⟩
  · exact ⟨_, _, rfl⟩

theorem lies_dropI {N : Nat} {W : World} {a : Option Addr} {cap k : Nat} {es : List Ent} (h : Lies N W (.slice a es.length cap) es) (hk : k ≤ es.length) : Lies N W (.slice (if cap = k then a else Option.map (fun x => x.add (k * 3)) a) (es.length - k) (cap - k)) (es.drop k) := by
  split
  · rename_i e
    subst e
    rw [Nat.sub_self]
    exact lies_drop0 h (Nat.le_refl _)
  · exact lies_drop h hk

set_option maxRecDepth 100000 in
set_option maxHeartbeats 6400000 in
theorem cut_in (b : Nat) (st su : ByteArray) (v : Value) (es : List Ent) (k : Nat) (w : World) (hL : Lies w.heap.size w v es) (hn : b + es.length < 1073741824) (hk0 : 0 < k) (hk : k ≤ es.length) :
    Calls Tryz.prog 8 #[lv b st v, .int .i64 ((b + k : Nat) : Int), .string su] w fun e w' => ∃ v', e = .returned (.tuple #[lv ((b + k : Nat) : Int) su v', .bool true]) ∧ Below w.heap.size w w' ∧ Lies w'.heap.size w' v' (es.drop k) := by
  obtain ⟨a, cap, hv, hL'⟩ : ∃ a cap, v = .slice a es.length cap ∧ Hid (Lies w.heap.size w v es) := by
    obtain ⟨a, cap, hv, _⟩ := id hL
    exact ⟨a, cap, hv, hL⟩
  clear hL
  subst hv
  have hB : ∀ A B C, Below w.heap.size w (((w.alloc A).alloc B).alloc C) := fun A B C => (((Below.refl _ w).alloc (Nat.le_refl _) _).alloc (by simp) _).alloc (by simp; omega) _
  have hlen : (es.drop k).length ≤ 1073741824 := by simp; omega
  have e1 : (b : Int) + k - b = k := by omega
  have l1 : Hid (∀ A B C, Lies (((w.alloc A).alloc B).alloc C).heap.size (((w.alloc A).alloc B).alloc C) (.slice (if cap = k then a else Option.map (fun x => x.add (k * 3)) a) (es.length - k) (cap - k)) (es.drop k)) := fun A B C => (lies_dropI (hL'.out.below (hB A B C)) hk).mono (hB A B C).size
  go_enter Tryz.func8, Tryz.ntmps8
  go_wp2_with (first
    | (go_at_call 23
       refine (clone_any _ (es.drop k) _ (l1.out _ _ _) hlen).mono ?_
       rintro e w5 ⟨v5, rfl, hO, hB5⟩
       obtain ⟨a5, c5, rfl⟩ := ownsRow_slice hO
       have j2 : w5.heap[w.heap.size + 1]? = some (logRow 0 ByteArray.empty (.slice none 0 0)) := (hB5.block _ (by simp <;> omega)).trans (by rw [heap_alloc_old _ _ (by simp)]; exact heap_alloc2_new w _ _)
       have n0 : w5.cell? ⟨w.heap.size + 1, 0, none⟩ = some (.int .i64 0) := by rw [cell_of_row _ _ _ _ _ _ j2]; rfl
       have n1 : w5.cell? ⟨w.heap.size + 1, 1, none⟩ = some (.string ByteArray.empty) := by rw [cell_of_row _ _ _ _ _ _ j2]; rfl
       have n2 : w5.cell? ⟨w.heap.size + 1, 2, none⟩ = some (.slice none 0 0) := by rw [cell_of_row _ _ _ _ _ _ j2]; rfl
       have f0 := frozen_of_row w5 (w.heap.size + 1) 0 _ _ j2
       have f1 := frozen_of_row w5 (w.heap.size + 1) 1 _ _ j2
       have f2 := frozen_of_row w5 (w.heap.size + 1) 2 _ _ j2
       have hB6 : Below w.heap.size w w5 := (hB _ _ _).trans (hB5.mono (by simp <;> omega))
       clear j2 l1)
    | go_in)
  all_goals
    refine bodyPost_ret (v := .tuple #[lv ((b + k : Nat) : Int) su (.slice a5 (es.drop k).length c5), .bool true]) ?_ rfl ?_
    · simp [results, asAddr]
      go_simp
    · refine ⟨_, rfl, ?_, ?_⟩
      · refine (((Below.setCell hB6 ?_ _).setCell ?_ _).setCell ?_ _)
        · show w.heap.size ≤ w.heap.size + 1; omega
        · show w.heap.size ≤ w.heap.size + 1; omega
        · show w.heap.size ≤ w.heap.size + 1; omega
      · refine Lies.of_row (base := w.heap.size + 3) (t := 34) ?_
        refine ownsRow_setCell (ownsRow_setCell (ownsRow_setCell (ownsRow_base hO (by simp)) _ _ ?_) _ _ ?_) _ _ ?_
        · show w.heap.size + 1 < _; omega
        · show w.heap.size + 1 < _; omega
        · show w.heap.size + 1 < _; omega

set_option maxRecDepth 100000 in
set_option maxHeartbeats 6400000 in
/-- A newer log is taken whole. -/
theorem merge_new (b c : Nat) (st su : ByteArray) (a1 a2 : Option Addr) (n1 n2 c1 c2 : Nat) (w : World) (hbc : b ≤ c) :
    Calls Tryz.prog 9 #[lv b st (.slice a1 n1 c1), lv c su (.slice a2 n2 c2)] w fun e w' => e = .returned (lv c su (.slice a2 n2 c2)) ∧ Below w.heap.size w w' := by
  go_enter Tryz.func9, Tryz.ntmps9
  go_wp2
  · refine bodyPost_ret (v := lv c su (.slice a2 n2 c2)) ?_ rfl ?_
    · simp [results, asAddr]
      go_simp
    · exact ⟨rfl, (((Below.refl _ w).alloc (Nat.le_refl _) _).alloc (by simp) _).alloc (by simp; omega) _⟩
#print axioms merge_new
#print axioms cut_in
end Go.Proofs.YtekmkmidjoenoaaGreatDoor
