/- The small functions on marks: what each returns. -/
import Derived.Test.YtedncponpbieeaaDoorSpk
import Derived.Test.YtedncponpbieeaaDoorFlt
import Derived.WalkKit
import Derived.OwnWalk
import Derived.WalkLawsBesides
import Derived.WalkSpells
import Derived.LoopTactic
namespace Go.Proofs.YtedncponpbieeaaDoor
open Go.RowKit

theorem run_of12' (n : Nat) (w : World) : (callFunc 12 #[.int .u64 (n : Int)]).run Tryd.prog w = .ok (.value (.float .f64 n)) w := run_of12 n w

set_option maxRecDepth 100000 in
theorem none_any (w : World) : Calls Tryd.prog 32 #[] w fun e w' => e = .returned (.float .f64 9221120237041090561) ∧ w = w' := by
  have r12 : ∀ w, (callFunc 12 #[.int .u64 9221120237041090561]).run Tryd.prog w = .ok (.value (.float .f64 9221120237041090561)) w := run_of12 9221120237041090561
  go_enter Tryd.func32, Tryd.ntmps32
  go_wp2_with fail
  go_ret
  exact ⟨rfl, rfl⟩

set_option maxRecDepth 100000 in
theorem rnone_any (w : World) : Calls Tryd.prog 34 #[] w fun e w' => e = .returned (.float .f64 9221120237041090561) ∧ w = w' := by
  have r12 : ∀ w, (callFunc 12 #[.int .u64 9221120237041090561]).run Tryd.prog w = .ok (.value (.float .f64 9221120237041090561)) w := run_of12 9221120237041090561
  go_enter Tryd.func34, Tryd.ntmps34
  go_wp2_with fail
  go_ret
  exact ⟨rfl, rfl⟩

set_option maxRecDepth 100000 in
set_option maxHeartbeats 400000 in
theorem canon_any (n : Nat) (w : World) : Calls Tryd.prog 14 #[.float .f64 n] w fun e w' => e = .returned (.float .f64 (canN n)) ∧ w = w' := by
  have hs := order_self n
  cases hn : nanN n with
  | true =>
    have hc : Hid (canN n = 9221120237041090561) := by unfold canN Hid; rw [if_pos hn]
    rw [hn] at hs
    clear hn
    go_enter Tryd.func14, Tryd.ntmps14
    go_wp2_with (go_at_call 32; refine (none_any _).mono ?_; rintro e w' ⟨rfl, rfl⟩)
    go_ret
    exact ⟨by rw [hc.out]; rfl, rfl⟩
  | false =>
    have hz := order_zero hn
    by_cases h0 : n % 9223372036854775808 = 0
    · have hc : Hid (canN n = 0) := by unfold canN Hid; rw [if_neg (by rw [hn]; simp), if_pos h0]
      rw [hn] at hs
      have hz' : (FloatKind.f64.format.order n 0 == some Ordering.eq) = true := by rw [hz]; simp [h0]
      clear hn hz h0
      go_enter Tryd.func14, Tryd.ntmps14
      go_wp2_with fail
      go_ret
      exact ⟨by rw [hc.out]; rfl, rfl⟩
    · have hc : Hid (canN n = n) := by unfold canN Hid; rw [if_neg (by rw [hn]; simp), if_neg h0]
      rw [hn] at hs
      have hz' : (FloatKind.f64.format.order n 0 == some Ordering.eq) = false := by rw [hz]; simp [h0]
      clear hn hz h0
      go_enter Tryd.func14, Tryd.ntmps14
      go_wp2_with fail
      go_ret
      exact ⟨by rw [hc.out]; rfl, rfl⟩

set_option maxRecDepth 100000 in
set_option maxHeartbeats 400000 in
theorem nan_any (n : Nat) (hn : n < 18446744073709551616) (w : World) : Calls Tryd.prog 33 #[.float .f64 n] w fun e w' => e = .returned (.bool (nanN n)) ∧ w = w' := by
  have hb : Hid ((decide (bits .and .u64 (n : Int) 9218868437227405312 = 9218868437227405312) && (bits .and .u64 (n : Int) 4503599627370495 != 0)) = nanN n) := nan_bits hn
  have e31 := run_bits31
  clear hn
  go_enter Tryd.func33, Tryd.ntmps33
  go_wp2_with fail
  all_goals go_ret
  · have h : bits .and .u64 (n : Int) 9218868437227405312 = 9218868437227405312 := by assumption
    exact ⟨by rw [← hb.out, h]; simp, rfl⟩
  · have h : ¬ bits .and .u64 (n : Int) 9218868437227405312 = 9218868437227405312 := by assumption
    exact ⟨by rw [← hb.out]; simp [h], rfl⟩

set_option maxRecDepth 100000 in
set_option maxHeartbeats 400000 in
theorem rcanon_any (n : Nat) (hn : n < 18446744073709551616) (w : World) : Calls Tryd.prog 15 #[.float .f64 n] w fun e w' => e = .returned (.float .f64 (canN n)) ∧ w = w' := by
  have hc : Hid (canN n = if nanN n = true then 9221120237041090561 else if n = 9223372036854775808 then 0 else n) := canN_ref hn
  have hcall : Hid (∀ w, Calls Tryd.prog 33 #[.float .f64 n] w fun e w' => e = .returned (.bool (nanN n)) ∧ w = w') := fun w => nan_any n hn w
  have e31 := run_bits31
  cases hb : nanN n with
  | true =>
    rw [hb] at hc hcall
    clear hb hn
    go_enter Tryd.func15, Tryd.ntmps15
    go_wp2_with (first | (go_at_call 33; refine (hcall.out _).mono ?_; rintro e w' ⟨rfl, rfl⟩) | (go_at_call 34; refine (rnone_any _).mono ?_; rintro e w' ⟨rfl, rfl⟩))
    go_ret
    exact ⟨by rw [hc.out]; rfl, rfl⟩
  | false =>
    rw [hb] at hc hcall
    clear hb hn
    go_enter Tryd.func15, Tryd.ntmps15
    go_wp2_with (go_at_call 33; refine (hcall.out _).mono ?_; rintro e w' ⟨rfl, rfl⟩)
    all_goals go_ret
    · have h : n = 9223372036854775808 := by have h := beq_iff_eq.1 (show ((n : Int) == 9223372036854775808) = true by assumption)
                                             omega
      exact ⟨by rw [hc.out, if_neg (by simp), if_pos h]; rfl, rfl⟩
    · have h : ¬ n = 9223372036854775808 := by have h := beq_eq_false_iff_ne.1 (show ((n : Int) == 9223372036854775808) = false by assumption)
                                               omega
      exact ⟨by rw [hc.out, if_neg (by simp), if_neg h]; rfl, rfl⟩

set_option maxHeartbeats 400000 in
theorem same_any (a b : Nat) (w : World) : Calls Tryd.prog 11 #[.float .f64 a, .float .f64 b] w fun e w' => e = .returned (.bool (decide (a = b))) ∧ w = w' := by
  have e31 := run_bits31
  go_enter Tryd.func11, Tryd.ntmps11
  go_wp2_with fail
  go_ret
  refine ⟨?_, rfl⟩
  have : ((a : Int) == (b : Int)) = decide (a = b) := by
    by_cases h : a = b
    · simp [h]
    · simp [h]; omega
  rw [this]; rfl


theorem take_snoc (s : ByteArray) (k : Nat) (h : k < s.size) : s.data.toList.take (k + 1) = s.data.toList.take k ++ [s[k]] := by
  rw [List.take_succ_eq_append_getElem (by simpa using h)]; rfl

/-- What 'Get' comes to. -/
def getE (s : ByteArray) : Nat × Int :=
  if s.size < 8 then (0, 3) else if 8 < s.size then (0, 4) else if canN (beN s.data.toList) = beN s.data.toList then (beN s.data.toList, 0) else (0, 2)

set_option maxRecDepth 100000 in
set_option maxHeartbeats 400000 in
theorem get_any (s : ByteArray) (w : World) : Calls Tryd.prog 9 #[.string s] w fun e w' => e = .returned (.tuple #[.float .f64 (getE s).1, .int .i64 (getE s).2]) ∧ w = w' := by
  rcases Nat.lt_trichotomy s.size 8 with h | h | h
  · have he : Hid (getE s = (0, 3)) := by unfold getE Hid; rw [if_pos h]
    have l1 : decide ((s.size : Int) < 8) = true := by simp; omega
    clear h
    go_enter Tryd.func9, Tryd.ntmps9
    go_wp2_with fail
    go_ret2
    exact ⟨by rw [he.out]; rfl, rfl⟩
  · have l1 : decide ((s.size : Int) < 8) = false := by simp; omega
    have l2 : decide ((8 : Int) < (s.size : Int)) = false := by simp; omega
    have b8 : 8 ≤ s.size := by omega
    have hl : s.data.toList.length = 8 := by rw [Array.length_toList]; exact h
    have hbe : Hid (s.data.toList.take 8 = s.data.toList) := List.take_of_length_le (by omega)
    have hlt8 := beN_lt8 (l := s.data.toList) (by omega)
    have he : Hid (getE s = if canN (beN s.data.toList) = beN s.data.toList then (beN s.data.toList, 0) else (0, 2)) := by unfold getE Hid; rw [if_neg (by omega), if_neg (by omega)]
    clear h hl
    have r12 := run_of12'
    have r31 := run_bits31
    go_enter Tryd.func9, Tryd.ntmps9
    go_wp2_with fail
    go_loop [4, 15] (fun n i => ∃ k : Nat, k ≤ 8 ∧ i = .int .i64 k ∧ n = .int .u64 (beN (s.data.toList.take k))) (fun _ i => 8 - (intOf i).toNat)
    case atStart => exact ⟨0, by omega, rfl, rfl⟩
    case round =>
      obtain ⟨k, hk, rfl, rfl⟩ := hrel
      by_cases hlt : k < 8
      · have hks : k < s.size := by omega
        have hround : Hid (bits .or .u64 (IntKind.u64.wrap ((beN (s.data.toList.take k) : Nat) * 256)) (IntKind.u64.wrap (s[k].toNat : Int)) = ((beN (s.data.toList.take (k + 1)) : Nat) : Int)) := by
          have h1 := beN_lt (s.data.toList.take k)
          have h2 : (256 : Nat) ^ (s.data.toList.take k).length ≤ 256 ^ 7 := Nat.pow_le_pow_right (by omega) (by rw [List.length_take]; omega)
          have h3 : (256 : Nat) ^ 7 = 72057594037927936 := by decide
          unfold Hid
          rw [shl_or (by omega) s[k].toNat_lt, take_snoc s k hks, beN_snoc]
        go_wp2_with fail
        go_round
        case rel => exact ⟨k + 1, by omega, by go_num, by rw [hround.out]⟩
        case measure => simp [intOf]; omega
      · have hk8 : k = 8 := by omega
        have hx : Hid (beN (s.data.toList.take k) = beN s.data.toList) := by unfold Hid; rw [hk8, hbe.out]
        generalize hb : beN (s.data.toList.take k) = n at *
        have hn : Hid (beN s.data.toList = n) := hx.out.symm
        clear hb hk8 hx
        have hcan : Hid (∀ w, Calls Tryd.prog 14 #[.float .f64 n] w fun e w' => e = .returned (.float .f64 (canN n)) ∧ w = w') := fun w => canon_any n w
        go_wp2_with (go_at_call 14; refine (hcan.out _).mono ?_; rintro e w' ⟨rfl, rfl⟩)
        all_goals go_ret2
        · have h := bne_iff_ne.1 (show ((canN n : Int) != (n : Int)) = true by assumption)
          exact ⟨by rw [he.out, hn.out, if_neg (by omega)]; rfl, rfl⟩
        · have h : canN n = n := by
            have h0 : ((canN n : Int) != (n : Int)) = false := by assumption
            rw [bne_eq_false_iff_eq] at h0; omega
          exact ⟨by rw [he.out, hn.out, if_pos h]; rfl, rfl⟩
  · have he : Hid (getE s = (0, 4)) := by unfold getE Hid; rw [if_neg (by omega), if_pos h]
    have l1 : decide ((s.size : Int) < 8) = false := by simp; omega
    have l2 : decide ((8 : Int) < (s.size : Int)) = true := by simp; omega
    clear h
    go_enter Tryd.func9, Tryd.ntmps9
    go_wp2_with fail
    go_ret2
    exact ⟨by rw [he.out]; rfl, rfl⟩

end Go.Proofs.YtedncponpbieeaaDoor
