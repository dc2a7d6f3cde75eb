/- New replicas, and restarted ones: by cases: closed runs where the numbers are good, a walk where they aren't. -/
import Derived.Test.YtgdgoackmfbkbaaGreatDoorGlr
import Derived.WalkKit
import Derived.Laws.Wrap64
namespace Go.Proofs.YtgdgoackmfbkbaaGreatDoor
open Go.RowKit Go.Ev

theorem wrap_of_wf {x : Int} (h : (Lit.int .i64 x).wf = true) : IntKind.i64.wrap x = x := by
  have h0 : (decide (IntKind.i64.min ≤ x) && decide (x ≤ IntKind.i64.max)) = true := h
  rw [Bool.and_eq_true, decide_eq_true_eq, decide_eq_true_eq] at h0
  have e1 : IntKind.i64.min = -9223372036854775808 := by decide
  have e2 : IntKind.i64.max = 9223372036854775807 := by decide
  rw [IntKind.wrap_i64]
  omega

def noGlob : Glob := fun _ _ => none

/-- Two lists of values, one by one alike. -/
def rels (G N : Nat) (φ : Phi) : List Value → List Value → Prop
  | [], [] => True
  | a :: l, b :: m => VRel G N φ a b ∧ rels G N φ l m
  | _, _ => False

theorem rels_get {G N : Nat} {φ : Phi} : ∀ (l m : List Value), rels G N φ l m → l.length = m.length ∧ ∀ t : Nat, t < l.length → VRel G N φ (l.getD t undef) (m.getD t undef)
  | [], [], _ => ⟨rfl, fun t ht => by simp at ht⟩
  | a :: l, b :: m, h => by
    obtain ⟨h1, h2⟩ := rels_get l m h.2
    refine ⟨by simp [h1], fun t ht => ?_⟩
    match t with
    | 0 => exact h.1
    | t + 1 => simpa using h2 t (by simpa using ht)
  | [], _ :: _, h => h.elim
  | _ :: _, [], h => h.elim

theorem actRel_rels {P : Program} {G N : Nat} {φ : Phi} {l m : List Value} (h : rels G N φ l m) : ActRel P G N φ (T.lay .nil 0 l) l.length [] ⟨⟨m⟩, []⟩ := by
  obtain ⟨hl, hr⟩ := rels_get l m h
  refine ⟨trivial, hl.symm, fun t => ?_⟩
  rw [T.get_lay]
  simp only [Nat.zero_le, true_and, Nat.zero_add, Nat.sub_zero, T.get_nil]
  by_cases ht : t < l.length
  · rw [if_pos ht, List.getElem?_eq_getElem ht]
    have h1 := hr t ht
    have e1 : l.getD t undef = l[t] := by simp [List.getD, ht]
    have e2 : m.getD t undef = (⟨m⟩ : Array Value).getD t undef := by simp [Array.getD_eq_getD_getElem?, List.getD]
    rw [e1, e2] at h1
    exact h1
  · rw [if_neg ht]
    have h1 : (⟨m⟩ : Array Value).getD t undef = undef := by
      rw [Array.getD_eq_getD_getElem?, Array.getElem?_eq_none (by simp; omega)]; rfl
    show VRel G N φ undef ((⟨m⟩ : Array Value).getD t undef)
    rw [h1]
    exact .flat flat_undef

noncomputable def bldR (x y : Int) : Option (Value × St) := evalCall Tryz.prog 100 noGlob ext 100000 60 (.fn 18) [.int .i64 x, .int .i64 y] ⟨.nil, .nil, 100⟩
noncomputable def bldB (x y : Nat) : Bool :=
  match bldR (.ofNat x) (.ofNat y) with
  | some (.pointer (some _), _) => true
  | _ => false

set_option maxRecDepth 100000 in
theorem bld_all : ([(0, 1), (1, 1), (2, 1), (0, 2), (1, 2), (2, 2), (3, 2), (4, 2), (0, 3), (1, 3), (2, 3), (3, 3), (4, 3), (5, 3), (6, 3)].all fun p => bldB p.1 p.2) = true := by kernel_rfl

/-- The numbers of a replica that there may be. -/
def GoodNums (x y : Int) : Prop := 1 ≤ y ∧ y ≤ 3 ∧ 0 ≤ x ∧ x ≤ 2 * y

theorem good_cases {x y : Int} (h : GoodNums x y) : ∃ p ∈ ([(0, 1), (1, 1), (2, 1), (0, 2), (1, 2), (2, 2), (3, 2), (4, 2), (0, 3), (1, 3), (2, 3), (3, 3), (4, 3), (5, 3), (6, 3)] : List (Nat × Nat)), x = Int.ofNat p.1 ∧ y = Int.ofNat p.2 := by
  obtain ⟨h1, h2, h3, h4⟩ := h
  have hy : y = 1 ∨ y = 2 ∨ y = 3 := by omega
  rcases hy with rfl | rfl | rfl
  · have hx : x = 0 ∨ x = 1 ∨ x = 2 := by omega
    rcases hx with rfl | rfl | rfl
    · exact ⟨(0, 1), by simp, rfl, rfl⟩
    · exact ⟨(1, 1), by simp, rfl, rfl⟩
    · exact ⟨(2, 1), by simp, rfl, rfl⟩
  · have hx : x = 0 ∨ x = 1 ∨ x = 2 ∨ x = 3 ∨ x = 4 := by omega
    rcases hx with rfl | rfl | rfl | rfl | rfl
    · exact ⟨(0, 2), by simp, rfl, rfl⟩
    · exact ⟨(1, 2), by simp, rfl, rfl⟩
    · exact ⟨(2, 2), by simp, rfl, rfl⟩
    · exact ⟨(3, 2), by simp, rfl, rfl⟩
    · exact ⟨(4, 2), by simp, rfl, rfl⟩
  · have hx : x = 0 ∨ x = 1 ∨ x = 2 ∨ x = 3 ∨ x = 4 ∨ x = 5 ∨ x = 6 := by omega
    rcases hx with rfl | rfl | rfl | rfl | rfl | rfl | rfl
    · exact ⟨(0, 3), by simp, rfl, rfl⟩
    · exact ⟨(1, 3), by simp, rfl, rfl⟩
    · exact ⟨(2, 3), by simp, rfl, rfl⟩
    · exact ⟨(3, 3), by simp, rfl, rfl⟩
    · exact ⟨(4, 3), by simp, rfl, rfl⟩
    · exact ⟨(5, 3), by simp, rfl, rfl⟩
    · exact ⟨(6, 3), by simp, rfl, rfl⟩

/-- The run of 'build', kept from tactics that would run it. -/
inductive Built (x y : Int) (v : Value) (st : St) : Prop
  | mk : bldR x y = some (v, st) → Built x y v st

theorem bld_some {x y : Int} (h : GoodNums x y) : ∃ a st, Built x y (.pointer (some a)) st := by
  obtain ⟨p, hp, rfl, rfl⟩ := good_cases h
  have := List.all_eq_true.1 bld_all p hp
  unfold bldB at this
  split at this
  · rename_i a st he; exact ⟨a, st, ⟨he⟩⟩
  · cases this

theorem R.none (w : World) : R 100 w.heap.size noGlob (fun _ => default) ⟨.nil, .nil, 100⟩ w := R.start (fun b o u h => by cases h)

theorem build_rel {x y : Int} {v : Value} {st : St} (h : Built x y v st) (w : World) : Calls Tryz.prog 18 #[.int .i64 x, .int .i64 y] w fun e w' =>
    ∃ v' φ', e = .returned v' ∧ R 100 w.heap.size noGlob φ' st w' ∧ Tr (fun _ => default) ⟨.nil, .nil, 100⟩ w φ' st w' ∧ VRel 100 st.next φ' v v' :=
  (evalCall_sound (N0 := w.heap.size) mixed ext_ok 100000 60).fn _ _ _ _ _ (by cases h with | mk h => exact h) (fun _ => default) w _ (R.none w) (ARel.refl_flat (by rfl))

theorem build_good {x y : Int} (h : GoodNums x y) (w : World) : Calls Tryz.prog 18 #[.int .i64 x, .int .i64 y] w fun e w' => (∃ a, e = .returned (.pointer (some a))) ∧ Below w.heap.size w w' := by
  obtain ⟨a, st, hb⟩ := bld_some h
  refine (build_rel hb w).mono ?_
  rintro e w' ⟨v', φ', rfl, hR, hT, hv⟩
  refine ⟨?_, hT.below⟩
  cases hv with
  | flat hf => simp [flat] at hf
  | glob hb => exact ⟨_, rfl⟩
  | ptr => exact ⟨_, rfl⟩

set_option maxHeartbeats 800000 in
theorem build_bad {x y : Int} (wx : IntKind.i64.wrap x = x) (wy : IntKind.i64.wrap y = y) (h : ¬ GoodNums x y) (w : World) : Calls Tryz.prog 18 #[.int .i64 x, .int .i64 y] w fun e w' => e = .returned (.pointer none) ∧ w' = w := by
  have hcase : y < 1 ∨ (1 ≤ y ∧ 7 < wrap64 (wrap64 (2 * y) + 1)) ∨ (1 ≤ y ∧ wrap64 (wrap64 (2 * y) + 1) ≤ 7 ∧ x < 0) ∨ (1 ≤ y ∧ wrap64 (wrap64 (2 * y) + 1) ≤ 7 ∧ 0 ≤ x ∧ wrap64 (wrap64 (2 * y) + 1) ≤ x) := by
    unfold GoodNums at h
    rw [IntKind.wrap_i64] at wx wy
    unfold wrap64
    omega
  clear h wx wy
  rcases hcase with h1 | ⟨h1, h2⟩ | ⟨h1, h2, h3⟩ | ⟨h1, h2, h3, h4⟩
  all_goals
    go_enter Tryz.func18, Tryz.ntmps18
    go_wp2_with (fail)
    go_ret
    exact ⟨rfl, rfl⟩

theorem new_good {x y : Int} (h : GoodNums x y) (w : World) : Calls Tryz.prog 5 #[.int .i64 x, .int .i64 y] w fun e w' => (∃ a, e = .returned (.pointer (some a))) ∧ Below w.heap.size w w' := by
  go_enter Tryz.func5, Tryz.ntmps5
  go_wp2_with (fail)
  go_at_call 18
  refine (build_good h w).mono ?_
  rintro e w1 ⟨⟨a, rfl⟩, hB⟩
  go_wp2_with (fail)
  go_ret
  exact ⟨⟨a, rfl⟩, hB⟩

theorem new_bad {x y : Int} (wx : IntKind.i64.wrap x = x) (wy : IntKind.i64.wrap y = y) (h : ¬ GoodNums x y) (w : World) : Calls Tryz.prog 5 #[.int .i64 x, .int .i64 y] w fun e w' => e = .returned (.pointer none) ∧ Below w.heap.size w w' := by
  go_enter Tryz.func5, Tryz.ntmps5
  go_wp2_with (fail)
  go_at_call 18
  refine (build_bad wx wy h w).mono ?_
  rintro e w1 ⟨rfl, rfl⟩
  go_wp2_with (fail)
  go_ret
  exact ⟨rfl, Below.refl _ _⟩

theorem restart_bad {x y z : Int} (wx : IntKind.i64.wrap x = x) (wy : IntKind.i64.wrap y = y) (h : ¬ GoodNums x y) (w : World) : Calls Tryz.prog 6 #[.int .i64 x, .int .i64 y, .int .i64 z] w fun e w' => e = .returned (.pointer none) ∧ Below w.heap.size w w' := by
  go_enter Tryz.func6, Tryz.ntmps6
  go_wp2_with (fail)
  go_at_call 18
  refine (build_bad wx wy h w).mono ?_
  rintro e w1 ⟨rfl, rfl⟩
  go_wp2_with (fail)
  go_ret
  exact ⟨rfl, Below.refl _ _⟩

theorem restart_late {x y z : Int} (h : GoodNums x y) (hz' : z < 1 ∨ 9007199254740992 < z) (w : World) : Calls Tryz.prog 6 #[.int .i64 x, .int .i64 y, .int .i64 z] w fun e w' => e = .returned (.pointer none) ∧ Below w.heap.size w w' := by
  have hz : z < 1 ∨ (¬ z < 1 ∧ 9007199254740992 < z) := by omega
  clear hz'
  rcases hz with h1 | ⟨h1, h2⟩
  all_goals
    go_enter Tryz.func6, Tryz.ntmps6
    go_wp2_with (fail)
    go_at_call 18
    refine (build_good h w).mono ?_
    rintro e w1 ⟨⟨a, rfl⟩, hB⟩
    go_wp2_with (fail)
    go_ret
    exact ⟨rfl, hB⟩

end Go.Proofs.YtgdgoackmfbkbaaGreatDoor
