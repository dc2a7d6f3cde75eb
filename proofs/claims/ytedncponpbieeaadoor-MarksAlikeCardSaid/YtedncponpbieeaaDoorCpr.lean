/- Comparing two marks: the program's and the reference's. -/
import Derived.Test.YtedncponpbieeaaDoorRnk
import Derived.Test.YtedncponpbieeaaDoorCnt
namespace Go.Proofs.YtedncponpbieeaaDoor
open Go.RowKit

theorem compare_any (a b : Nat) (w : World) : Calls Tryd.prog 28 #[.float .f64 a, .float .f64 b] w fun e w' => e = .returned (.int .i64 (cmpE a b)) ∧ w = w' := by
  have hn := order_self a
  have hm := order_self b
  have hlt := order_lt a b
  have hgt := order_gt a b
  cases ha : nanN a with
  | true =>
    cases hb : nanN b with
    | true =>
      have he : Hid (cmpE a b = 0) := cmpE_nn ha hb
      rw [ha] at hn; rw [hb] at hm
      clear hlt hgt ha hb
      go_enter Tryd.func28, Tryd.ntmps28
      go_wp2
      go_ret
      exact ⟨by rw [he.out]; rfl, rfl⟩
    | false =>
      have he : Hid (cmpE a b = 1) := cmpE_n ha hb
      rw [ha] at hn; rw [hb] at hm
      clear hlt hgt ha hb
      go_enter Tryd.func28, Tryd.ntmps28
      go_wp2
      go_ret
      exact ⟨by rw [he.out]; rfl, rfl⟩
  | false =>
    cases hb : nanN b with
    | true =>
      have he : Hid (cmpE a b = -1) := cmpE_y ha hb
      rw [ha] at hn; rw [hb] at hm
      clear hlt hgt ha hb
      go_enter Tryd.func28, Tryd.ntmps28
      go_wp2
      go_ret
      exact ⟨by rw [he.out]; rfl, rfl⟩
    | false =>
      have hk := cmpE_k ha hb
      rw [ha] at hn; rw [hb] at hm
      rw [ha, hb] at hlt hgt
      simp only [Bool.not_false, Bool.true_and] at hlt hgt
      by_cases h1 : keyN a < keyN b
      · have he : Hid (cmpE a b = -1) := by unfold Hid; rw [hk, if_pos h1]
        rw [decide_eq_true h1] at hlt
        clear hk ha hb hgt h1
        go_enter Tryd.func28, Tryd.ntmps28
        go_wp2
        go_ret
        exact ⟨by rw [he.out]; rfl, rfl⟩
      · rw [decide_eq_false h1] at hlt
        by_cases h2 : keyN b < keyN a
        · have he : Hid (cmpE a b = 1) := by unfold Hid; rw [hk, if_neg h1, if_pos h2]
          rw [decide_eq_true h2] at hgt
          clear hk ha hb h1 h2
          go_enter Tryd.func28, Tryd.ntmps28
          go_wp2
          go_ret
          exact ⟨by rw [he.out]; rfl, rfl⟩
        · have he : Hid (cmpE a b = 0) := by unfold Hid; rw [hk, if_neg h1, if_neg h2]
          rw [decide_eq_false h2] at hgt
          clear hk ha hb h1 h2
          go_enter Tryd.func28, Tryd.ntmps28
          go_wp2
          go_ret
          exact ⟨by rw [he.out]; rfl, rfl⟩

set_option maxHeartbeats 1600000 in
set_option maxRecDepth 100000 in
theorem rcompare_any (a b : Nat) (ha64 : a < 18446744073709551616) (hb64 : b < 18446744073709551616) (w : World) : Calls Tryd.prog 29 #[.float .f64 a, .float .f64 b] w fun e w' => e = .returned (.int .i64 (cmpE a b)) ∧ w = w' := by
  have hlt := order_lt a b
  have heq := order_eq a b
  cases ha : nanN a with
  | true =>
    cases hb : nanN b with
    | true =>
      have he : Hid (cmpE a b = 0) := cmpE_nn ha hb
      clear hlt heq
      go_enter Tryd.func29, Tryd.ntmps29
      go_wp2_with (go_at_call 33; refine (nan_any _ (by assumption) _).mono ?_; rintro e w' ⟨rfl, rfl⟩; try rw [ha]; try rw [hb])
      go_ret
      exact ⟨by rw [he.out]; rfl, rfl⟩
    | false =>
      have he : Hid (cmpE a b = 1) := cmpE_n ha hb
      clear hlt heq
      go_enter Tryd.func29, Tryd.ntmps29
      go_wp2_with (go_at_call 33; refine (nan_any _ (by assumption) _).mono ?_; rintro e w' ⟨rfl, rfl⟩; try rw [ha]; try rw [hb])
      go_ret
      exact ⟨by rw [he.out]; rfl, rfl⟩
  | false =>
    cases hb : nanN b with
    | true =>
      have he : Hid (cmpE a b = -1) := cmpE_y ha hb
      clear hlt heq
      go_enter Tryd.func29, Tryd.ntmps29
      go_wp2_with (go_at_call 33; refine (nan_any _ (by assumption) _).mono ?_; rintro e w' ⟨rfl, rfl⟩; try rw [ha]; try rw [hb])
      go_ret
      exact ⟨by rw [he.out]; rfl, rfl⟩
    | false =>
      have hk := cmpE_k ha hb
      rw [ha, hb] at hlt heq
      simp only [Bool.not_false, Bool.true_and] at hlt heq
      by_cases h0 : keyN a = keyN b
      · have he : Hid (cmpE a b = 0) := by unfold Hid; rw [hk, if_neg (by omega), if_neg (by omega)]
        rw [decide_eq_true h0] at heq
        clear hk hlt h0
        go_enter Tryd.func29, Tryd.ntmps29
        go_wp2_with (go_at_call 33; refine (nan_any _ (by assumption) _).mono ?_; rintro e w' ⟨rfl, rfl⟩; try rw [ha]; try rw [hb])
        go_ret
        exact ⟨by rw [he.out]; rfl, rfl⟩
      · rw [decide_eq_false h0] at heq
        by_cases h1 : keyN a < keyN b
        · have he : Hid (cmpE a b = -1) := by unfold Hid; rw [hk, if_pos h1]
          rw [decide_eq_true h1] at hlt
          clear hk h0 h1
          go_enter Tryd.func29, Tryd.ntmps29
          go_wp2_with (go_at_call 33; refine (nan_any _ (by assumption) _).mono ?_; rintro e w' ⟨rfl, rfl⟩; try rw [ha]; try rw [hb])
          go_ret
          exact ⟨by rw [he.out]; rfl, rfl⟩
        · have he : Hid (cmpE a b = 1) := by unfold Hid; rw [hk, if_neg h1, if_pos (by omega)]
          rw [decide_eq_false h1] at hlt
          clear hk h0 h1
          go_enter Tryd.func29, Tryd.ntmps29
          go_wp2_with (go_at_call 33; refine (nan_any _ (by assumption) _).mono ?_; rintro e w' ⟨rfl, rfl⟩; try rw [ha]; try rw [hb])
          go_ret
          exact ⟨by rw [he.out]; rfl, rfl⟩

/-- 'cmp.Or' of two numbers in a row of its own. -/
theorem or_any (x y : Int) (b cap : Nat) (w : World) (h0 : w.cell? ⟨b, 0, none⟩ = some (.int .i64 x)) (h1 : w.cell? ⟨b, 1, none⟩ = some (.int .i64 y)) :
    Calls Tryd.prog 40 #[.slice (some ⟨b, 0, none⟩) 2 cap] w fun e w' => e = .returned (.int .i64 (if x = 0 then y else x)) ∧ w = w' := by
  by_cases hx : x = 0
  · subst hx
    by_cases hy : y = 0
    · subst hy
      go_enter Tryd.func40, Tryd.ntmps40
      go_wp2
      refine wp_loop_rounds 3 ?_
      rw [rounds_succ]
      go_wp2
      rw [rounds_succ]
      go_wp2
      rw [rounds_succ]
      go_wp2
      go_ret
      exact ⟨rfl, rfl⟩
    · go_enter Tryd.func40, Tryd.ntmps40
      go_wp2
      refine wp_loop_rounds 3 ?_
      rw [rounds_succ]
      go_wp2
      rw [rounds_succ]
      go_wp2
      go_ret
      exact ⟨rfl, rfl⟩
  · go_enter Tryd.func40, Tryd.ntmps40
    go_wp2
    refine wp_loop_rounds 3 ?_
    rw [rounds_succ]
    go_wp2
    go_ret
    exact ⟨rfl, rfl⟩
end Go.Proofs.YtedncponpbieeaaDoor
