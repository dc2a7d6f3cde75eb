/- Restarted replicas where all numbers are good: the row that 'build' makes, and what is written into it. -/
import Derived.Test.YtgdgoackmfbkbaaGreatDoorNwr
namespace Go.Proofs.YtgdgoackmfbkbaaGreatDoor
open Go.RowKit Go.Ev

noncomputable def rowB (x y : Nat) : Bool :=
  match bldR (.ofNat x) (.ofNat y) with
  | some (.pointer (some ⟨b, 0, none⟩), st) =>
    Nat.ble 100 b && (match st.heap.get b with
    | some (.cells c n _) => Nat.ble 12 n && (match c.get 11 with
      | some (.slice (some ⟨k, 0, none⟩) l cp) => Nat.ble 100 k && (Nat.beq l (2 * y + 1) && (Nat.beq cp l && (!(Nat.beq b k) && (match st.heap.get k with
        | some (.cells _ m _) => Nat.beq m l
        | _ => false))))
      | _ => false)
    | _ => false)
  | _ => false

set_option maxRecDepth 100000 in
theorem row_all : ([(0, 1), (1, 1), (2, 1), (0, 2), (1, 2), (2, 2), (3, 2), (4, 2), (0, 3), (1, 3), (2, 3), (3, 3), (4, 3), (5, 3), (6, 3)].all fun p => rowB p.1 p.2) = true := by kernel_rfl

/-- What 'build' leaves. -/
structure Fresh (N B K n : Nat) (a ka : Array Value) (ty tk : TypeId) (w : World) : Prop where
  ne : B ≠ K
  b : N ≤ B
  k : N ≤ K
  row : w.heap[B]? = some (.cells a ty (0, 0))
  size : 12 ≤ a.size
  known : a[11]? = some (.slice (some ⟨K, 0, none⟩) n n)
  krow : w.heap[K]? = some (.cells ka tk (0, 0))
  ksize : ka.size = n

theorem row_some {x y : Int} (h : GoodNums x y) : ∃ b k st c n ty l ck tk, Built x y (.pointer (some ⟨b, 0, none⟩)) st ∧ 100 ≤ b ∧ st.heap.get b = some (.cells c n ty) ∧ 12 ≤ n ∧ c.get 11 = some (.slice (some ⟨k, 0, none⟩) l l) ∧ 100 ≤ k ∧ (l : Int) = 2 * y + 1 ∧ b ≠ k ∧
    st.heap.get k = some (.cells ck l tk) := by
  obtain ⟨p, hp, rfl, rfl⟩ := good_cases h
  have := List.all_eq_true.1 row_all p hp
  clear hp h
  unfold rowB at this
  split at this
  case h_2 => cases this
  rename_i b st hb
  rw [Bool.and_eq_true] at this
  obtain ⟨q1, this⟩ := this
  split at this
  case h_2 => cases this
  rename_i c n ty hc
  rw [Bool.and_eq_true] at this
  obtain ⟨q2, this⟩ := this
  split at this
  case h_2 => cases this
  rename_i k l cp hk
  simp only [Bool.and_eq_true] at this
  obtain ⟨q3, q4, q5, q6, this⟩ := this
  split at this
  case h_2 => cases this
  rename_i ck m tk hck
  have e5 := Nat.eq_of_beq_eq_true q5
  have e7 := Nat.eq_of_beq_eq_true this
  have e4 := Nat.eq_of_beq_eq_true q4
  subst e5
  subst e7
  refine ⟨b, k, st, c, n, ty, m, ck, tk, ⟨hb⟩, Nat.le_of_ble_eq_true q1, hc, Nat.le_of_ble_eq_true q2, hk, Nat.le_of_ble_eq_true q3, ?_, ?_, hck⟩
  · rw [e4]; simp
  · intro he
    rw [he] at q6
    simp at q6

theorem openOf_le (k e : Nat) : openCap ≤ openOf k e := by
  unfold openOf
  have := Nat.le_mul_of_pos_right openCap (show 0 < k + 1 by omega)
  show openCap ≤ openCap * (k + 1) + e
  omega

theorem build_row {x y : Int} (h : GoodNums x y) (w : World) : Calls Tryz.prog 18 #[.int .i64 x, .int .i64 y] w fun e w' =>
    ∃ B K n a ka ty tk, e = .returned (.pointer (some ⟨B, 0, none⟩)) ∧ Fresh w.heap.size B K n a ka ty tk w' ∧ (n : Int) = 2 * y + 1 ∧ Below w.heap.size w w' := by
  obtain ⟨b, k, st, c, n, ty, l, ck, tk, hb, b1, hc, hn, hk, k1, hl, hne, hck⟩ := row_some h
  refine (build_rel hb w).mono ?_
  rintro e w' ⟨v', φ, rfl, hR, hT, hv⟩
  obtain ⟨o1, o2, o3, o4, os, a, orow, osz, ocs⟩ := hR.obj b _ hc
  obtain ⟨p1, p2, p3, p4, ps, ka, prow, psz, pcs⟩ := hR.obj k _ hck
  have hv' : v' = .pointer (some ⟨(φ b).block, 0, none⟩) := by
    cases hv with
    | flat hf => simp [flat] at hf
    | glob hb => omega
    | ptr => unfold Phi.at; rw [os]
  subst hv'
  obtain ⟨u, u', g1, g2, g3⟩ := ocs 11 (by omega)
  rw [hk] at g1
  cases g1
  have hu : u' = .slice (some ⟨(φ k).block, 0, none⟩) l l := by
    have hlt : l < openCap := by
      have h1 := h.2.1
      have : l < 8 := by omega
      exact Nat.lt_of_lt_of_le this (by decide)
    generalize hg : Value.slice (some ⟨k, 0, none⟩) l l = s at g3
    cases g3 with
    | flat hf => rw [← hg] at hf; simp [flat] at hf
    | slice => cases hg; unfold Phi.at; rw [ps]
    | grown q1 q2 q3 q4 q5 q6 =>
      exfalso
      injection hg with r1 r2 r3
      rw [r3] at hlt
      exact absurd hlt (Nat.not_lt.2 (openOf_le _ _))
    | ended q1 q2 q3 =>
      exfalso
      injection hg with r1 r2 r3
      have := h.1
      omega
    | _ => cases hg
  subst hu
  rw [Nat.zero_add] at g2
  refine ⟨(φ b).block, (φ k).block, l, a, ka, ty, tk, rfl, ⟨?_, o3, p3, orow, by omega, g2, prow, psz⟩, hl, hT.below⟩
  intro he
  rcases hR.sep b k _ _ hc hck he with h1 | ⟨r, h1, _⟩
  · exact hne h1
  · cases h1

set_option maxRecDepth 100000 in
set_option maxHeartbeats 3200000 in
theorem restart_good {x y z : Int} (h : GoodNums x y) (h1 : 1 ≤ z) (h2 : z ≤ 9007199254740992) (w : World) : Calls Tryz.prog 6 #[.int .i64 x, .int .i64 y, .int .i64 z] w fun e w' => (∃ a, e = .returned (.pointer (some a))) ∧ Below w.heap.size w w' := by
  go_enter Tryz.func6, Tryz.ntmps6
  go_wp2_with (fail)
  go_at_call 18
  refine (build_row h w).mono ?_
  rintro e w1 ⟨B, K, n, a, ka, ty, tk, rfl, hF, hn, hB⟩
  obtain ⟨hne, hb, hk, hrow, hsz, hkn, hkrow, hksz⟩ := hF
  have x0 : 0 ≤ x := h.2.2.1
  have xn : x < (n : Int) := by have := h.2.2.2; omega
  obtain ⟨i, rfl⟩ : ∃ i : Nat, x = (i : Int) := ⟨x.toNat, by omega⟩
  have hin : i < n := by omega
  obtain ⟨u2, c2⟩ : ∃ u, w1.cell? ⟨B, 2, none⟩ = some u := ⟨a[2]'(by omega), by rw [cell_of_row _ _ _ _ _ _ hrow]; exact Array.getElem?_eq_getElem _⟩
  obtain ⟨u10, c10⟩ : ∃ u, w1.cell? ⟨B, 10, none⟩ = some u := ⟨a[10]'(by omega), by rw [cell_of_row _ _ _ _ _ _ hrow]; exact Array.getElem?_eq_getElem _⟩
  have c11 : w1.cell? ⟨B, 11, none⟩ = some (.slice (some ⟨K, 0, none⟩) n n) := by rw [cell_of_row _ _ _ _ _ _ hrow]; exact hkn
  obtain ⟨uk, ck⟩ : ∃ u, w1.cell? ⟨K, i, none⟩ = some u := ⟨ka[i]'(by omega), by rw [cell_of_row _ _ _ _ _ _ hkrow]; exact Array.getElem?_eq_getElem _⟩
  have f2 := frozen_of_row w1 B 2 _ _ hrow
  have f10 := frozen_of_row w1 B 10 _ _ hrow
  have fk := frozen_of_row w1 K i _ _ hkrow
  have hbel : Hid (Below w.heap.size w w1) := hB
  have hb' : Hid (w.heap.size ≤ B) := hb
  have hk' : Hid (w.heap.size ≤ K) := hk
  clear hB hb hk hrow hkrow hn h hkn hsz hksz xn x0
  go_wp2_with (fail)
  go_ret
  exact ⟨⟨_, rfl⟩, ((hbel.out.setCell hb'.out _).setCell hb'.out _).setCell hk'.out _⟩
#print axioms restart_good
end Go.Proofs.YtgdgoackmfbkbaaGreatDoor
