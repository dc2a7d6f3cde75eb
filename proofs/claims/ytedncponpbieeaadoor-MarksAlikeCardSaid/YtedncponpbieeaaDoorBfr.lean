/- The reference's 'Before': which place stands ahead. -/
import Derived.Test.YtedncponpbieeaaDoorCpr
import Derived.Test.YtedncponpbieeaaDoorFlz
namespace Go.Proofs.YtedncponpbieeaaDoor
open Go.RowKit

theorem rankN_nan {f : Nat} (h : nanN f = true) : rankN f = 18446744073709551616 := by unfold rankN; rw [if_pos h]
theorem rankN_key {f : Nat} (h : nanN f = false) : rankN f = -keyN f := by unfold rankN; simp [h]

theorem ltR_nn {fs : List Nat} {i j : Nat} (h1 : nanN (fs.getD i 0) = true) (h2 : nanN (fs.getD j 0) = true) : ltR fs i j = decide (i < j) := by
  unfold ltR; rw [rankN_nan h1, rankN_nan h2]; simp
theorem ltR_n {fs : List Nat} {i j : Nat} (h1 : nanN (fs.getD i 0) = true) (h2 : nanN (fs.getD j 0) = false) : ltR fs i j = false := by
  have := keyN_lt (fs.getD j 0)
  unfold ltR; rw [rankN_nan h1, rankN_key h2, decide_eq_false (by omega), decide_eq_false (by omega)]; rfl
theorem ltR_y {fs : List Nat} {i j : Nat} (h1 : nanN (fs.getD i 0) = false) (h2 : nanN (fs.getD j 0) = true) : ltR fs i j = true := by
  have := keyN_lt (fs.getD i 0)
  unfold ltR; rw [rankN_nan h2, rankN_key h1, decide_eq_true (by omega)]; rfl
theorem ltR_eq {fs : List Nat} {i j : Nat} (h1 : nanN (fs.getD i 0) = false) (h2 : nanN (fs.getD j 0) = false) (h : keyN (fs.getD i 0) = keyN (fs.getD j 0)) : ltR fs i j = decide (i < j) := by
  unfold ltR; rw [rankN_key h2, rankN_key h1, decide_eq_false (by omega), decide_eq_true (by omega)]; simp
theorem ltR_ne {fs : List Nat} {i j : Nat} (h1 : nanN (fs.getD i 0) = false) (h2 : nanN (fs.getD j 0) = false) (h : keyN (fs.getD i 0) ≠ keyN (fs.getD j 0)) : ltR fs i j = decide (keyN (fs.getD j 0) < keyN (fs.getD i 0)) := by
  unfold ltR; rw [rankN_key h2, rankN_key h1, decide_eq_false (show ¬ (-keyN (fs.getD i 0) = -keyN (fs.getD j 0)) by omega)]
  rw [Bool.false_and, Bool.or_false]
  congr 1
  exact propext ⟨fun h => by omega, fun h => by omega⟩

set_option maxHeartbeats 1600000 in
set_option maxRecDepth 100000 in
theorem before_any (a : Option Addr) (cap : Nat) (fs : List Nat) (i k : Nat) (w : World) (h40 : fs.length ≤ 40) (hi : i < fs.length) (hk : k < fs.length) (h64 : ∀ f ∈ fs, f < 18446744073709551616) (hc : FloatsAt w a fs) :
    Calls Tryd.prog 42 #[.slice a fs.length cap, .int .i64 i, .int .i64 k] w fun e w' => e = .returned (.bool (ltR fs i k)) ∧ Below w.heap.size w w' := by
  obtain ⟨b, off, rfl, _, hci⟩ := hc i hi
  obtain ⟨b', off', e, _, hck⟩ := hc k hk
  simp only [Option.some.injEq, Addr.mk.injEq] at e
  obtain ⟨rfl, rfl, _⟩ := e
  have hf64 : fs.getD i 0 < 18446744073709551616 := by rw [List.getD, List.getElem?_eq_getElem hi]; exact h64 _ (List.getElem_mem _)
  have hg64 : fs.getD k 0 < 18446744073709551616 := by rw [List.getD, List.getElem?_eq_getElem hk]; exact h64 _ (List.getElem_mem _)
  have e1 := @ltR_nn fs i k
  have e2 := @ltR_n fs i k
  have e3 := @ltR_y fs i k
  have e4 := @ltR_eq fs i k
  have e5 := @ltR_ne fs i k
  clear hc h64
  generalize fs.getD i 0 = f at *
  generalize fs.getD k 0 = g at *
  generalize ltR fs i k = r at *
  have heq := order_eq f g
  have hgt := order_gt f g
  cases hf : nanN f with
  | true =>
    cases hg : nanN g with
    | true =>
      have he : Hid (r = decide (i < k)) := e1 hf hg
      clear e1 e2 e3 e4 e5 heq hgt
      go_enter Tryd.func42, Tryd.ntmps42
      go_wp2_with (go_at_call 33; refine (nan_any _ (by assumption) _).mono ?_; rintro e w' ⟨rfl, rfl⟩; try rw [hf]; try rw [hg])
      go_ret
      exact ⟨by rw [he.out]; rfl, Below.refl _ _⟩
    | false =>
      have he : Hid (r = false) := e2 hf hg
      clear e1 e2 e3 e4 e5 heq hgt
      go_enter Tryd.func42, Tryd.ntmps42
      go_wp2_with (go_at_call 33; refine (nan_any _ (by assumption) _).mono ?_; rintro e w' ⟨rfl, rfl⟩; try rw [hf]; try rw [hg])
      go_ret
      exact ⟨by rw [he.out]; rfl, Below.refl _ _⟩
  | false =>
    cases hg : nanN g with
    | true =>
      have he : Hid (r = true) := e3 hf hg
      clear e1 e2 e3 e4 e5 heq hgt
      go_enter Tryd.func42, Tryd.ntmps42
      go_wp2_with (go_at_call 33; refine (nan_any _ (by assumption) _).mono ?_; rintro e w' ⟨rfl, rfl⟩; try rw [hf]; try rw [hg])
      go_ret
      exact ⟨by rw [he.out]; rfl, Below.refl _ _⟩
    | false =>
      rw [hf, hg] at heq hgt
      simp only [Bool.not_false, Bool.true_and] at heq hgt
      by_cases h : keyN f = keyN g
      · have he : Hid (r = decide (i < k)) := e4 hf hg h
        rw [decide_eq_true h] at heq
        clear e1 e2 e3 e4 e5 hgt h
        go_enter Tryd.func42, Tryd.ntmps42
        go_wp2_with (go_at_call 33; refine (nan_any _ (by assumption) _).mono ?_; rintro e w' ⟨rfl, rfl⟩; try rw [hf]; try rw [hg])
        go_region
        go_wp2
        go_ret
        exact ⟨by rw [he.out]; rfl, Below.drew (Below.refl _ _)⟩
      · have he : Hid (r = decide (keyN g < keyN f)) := e5 hf hg h
        rw [decide_eq_false h] at heq
        have hgH : Hid ((FloatKind.f64.format.order f g == some Ordering.gt) = decide (keyN g < keyN f)) := hgt
        clear e1 e2 e3 e4 e5 hgt h
        go_enter Tryd.func42, Tryd.ntmps42
        go_wp2_with (go_at_call 33; refine (nan_any _ (by assumption) _).mono ?_; rintro e w' ⟨rfl, rfl⟩; try rw [hf]; try rw [hg])
        go_region
        go_wp2
        go_region
        go_wp2
        go_ret
        exact ⟨by rw [he.out, ← hgH.out]; rfl, Below.drew (Below.drew (Below.refl _ _))⟩
end Go.Proofs.YtedncponpbieeaaDoor
