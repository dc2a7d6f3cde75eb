/- The small functions on marks. -/
import Derived.Test.YtpbombkmnfbcgaaGreatDoorFmt
import Derived.Test.YtpbombkmnfbcgaaGreatDoorFlw
import Derived.WalkSpells
namespace Go.Proofs.YtpbombkmnfbcgaaGreatDoor
open Go.RowKit

theorem run_of (n : Nat) (w : World) : (callFunc 17 #[.int .u64 (n : Int)]).run Tryz.prog w = .ok (.value (.float .f64 n)) w := by kernel_rfl
theorem run_mb (n : Nat) (w : World) : (callFunc 14 #[.float .f64 n]).run Tryz.prog w = .ok (.value (.int .u64 n)) w := by kernel_rfl

set_option maxRecDepth 100000 in
theorem none_any (w : World) : Calls Tryz.prog 12 #[] w fun e w' => e = .returned (.float .f64 9221120237041090561) ∧ w = w' := by
  have r12 : ∀ w, (callFunc 17 #[.int .u64 9221120237041090561]).run Tryz.prog w = .ok (.value (.float .f64 9221120237041090561)) w := run_of 9221120237041090561
  go_enter Tryz.func12, Tryz.ntmps12
  go_wp2_with fail
  go_ret
  exact ⟨rfl, rfl⟩

set_option maxRecDepth 100000 in
set_option maxHeartbeats 400000 in
theorem canon_any (n : Nat) (w : World) : Calls Tryz.prog 8 #[.float .f64 n] w fun e w' => e = .returned (.float .f64 (canN n)) ∧ w = w' := by
  have hs := order_self n
  cases hn : nanN n with
  | true =>
    have hc : Hid (canN n = 9221120237041090561) := .mk (by unfold canN; rw [if_pos hn])
    rw [hn] at hs
    clear hn
    go_enter Tryz.func8, Tryz.ntmps8
    go_wp2_with (go_at_call 12; refine (none_any _).mono ?_; rintro e w' ⟨rfl, rfl⟩)
    go_ret
    exact ⟨by rw [hc.out]; rfl, rfl⟩
  | false =>
    have hz := order_zero hn
    by_cases h0 : n % 9223372036854775808 = 0
    · have hc : Hid (canN n = 0) := .mk (by unfold canN; rw [if_neg (by rw [hn]; simp), if_pos h0])
      rw [hn] at hs
      have hz' : (FloatKind.f64.format.order n 0 == some Ordering.eq) = true := by rw [hz]; simp [h0]
      clear hn hz h0
      go_enter Tryz.func8, Tryz.ntmps8
      go_wp2_with fail
      go_ret
      exact ⟨by rw [hc.out]; rfl, rfl⟩
    · have hc : Hid (canN n = n) := .mk (by unfold canN; rw [if_neg (by rw [hn]; simp), if_neg h0])
      rw [hn] at hs
      have hz' : (FloatKind.f64.format.order n 0 == some Ordering.eq) = false := by rw [hz]; simp [h0]
      clear hn hz h0
      go_enter Tryz.func8, Tryz.ntmps8
      go_wp2_with fail
      go_ret
      exact ⟨by rw [hc.out]; rfl, rfl⟩

set_option maxRecDepth 100000 in
set_option maxHeartbeats 400000 in
theorem same_any (a b : Nat) (w : World) : Calls Tryz.prog 6 #[.float .f64 a, .float .f64 b] w fun e w' => e = .returned (.bool (decide (a = b))) ∧ w = w' := by
  have ra := run_mb a
  have rb := run_mb b
  go_enter Tryz.func6, Tryz.ntmps6
  go_wp2_with fail
  go_ret
  exact ⟨by congr 2; by_cases h : a = b <;> simp [h]; omega, rfl⟩

set_option maxRecDepth 100000 in
set_option maxHeartbeats 400000 in
theorem isinf_any (n : Nat) (w : World) : Calls Tryz.prog 15 #[.float .f64 n, .int .i64 1] w fun e w' => e = .returned (.bool (FloatKind.f64.format.order n 9218868437227405311 == some Ordering.gt)) ∧ w = w' := by
  go_enter Tryz.func15, Tryz.ntmps15
  go_wp2_with fail
  go_ret
  exact ⟨rfl, rfl⟩
theorem run_neg (n : Nat) (w : World) : (Op.unary .neg (.float .f64 n)).run Tryz.prog w = .ok (.float .f64 (Op.negFloat .f64 n)) w := by simp [Op.unary]
set_option maxRecDepth 100000 in
set_option maxHeartbeats 400000 in
theorem isninf_any (n : Nat) (w : World) : Calls Tryz.prog 15 #[.float .f64 n, .int .i64 (-1)] w fun e w' => e = .returned (.bool (FloatKind.f64.format.order (Op.negFloat .f64 n) 9218868437227405311 == some Ordering.gt)) ∧ w = w' := by
  have hneg := run_neg n
  go_enter Tryz.func15, Tryz.ntmps15
  go_wp2_with fail
  go_ret
  exact ⟨rfl, rfl⟩

theorem read_z {n : Nat} (h : n % 9223372036854775808 = 0) : ∃ s, fmt.read n = .number s 0 fmt.leastPlace := by
  rcases read_cases n with ⟨h1, _⟩ | ⟨_, ⟨s, hr⟩ | ⟨_, s, hr⟩ | ⟨h0, _⟩⟩
  · unfold nanN at h1; rw [h] at h1; cases h1
  · unfold Ieee.Format.read at hr
    simp only [sw, bin, h] at hr
    rw [if_pos (by omega)] at hr
    cases hr
  · exact ⟨s, hr⟩
  · exact absurd h h0
theorem big_z {n : Nat} (h : n % 9223372036854775808 = 0) : (FloatKind.f64.format.order n 9218868437227405311 == some Ordering.gt) = false := by
  obtain ⟨s, hs⟩ := read_z h
  show (((fmt.read n).order (fmt.read 9218868437227405311)) == some Ordering.gt) = false
  rw [hs]
  cases s <;> decide
theorem neg_z {n : Nat} (h : n % 9223372036854775808 = 0) : Op.negFloat .f64 n % 9223372036854775808 = 0 := by
  have e : (9223372036854775808 : Nat) = 2 ^ 63 := by decide
  show (n ^^^ 2 ^ 63) % 9223372036854775808 = 0
  rw [e, Nat.xor_mod_two_pow, ← e, h]
  decide

def txN : ByteArray := ⟨⟨[110, 111, 110, 101]⟩⟩
def txI : ByteArray := ⟨⟨[105, 110, 102]⟩⟩
def txM : ByteArray := ⟨⟨[45, 105, 110, 102]⟩⟩
def i1 (k : Nat) : Bool := FloatKind.f64.format.order k 9218868437227405311 == some Ordering.gt
def i2 (k : Nat) : Bool := FloatKind.f64.format.order (Op.negFloat .f64 k) 9218868437227405311 == some Ordering.gt
/-- The text of a mark, given those of floats. -/
def shw (T : Nat → ByteArray) (k : Nat) : ByteArray := if nanN k = true then txN else if i1 k = true then txI else if i2 k = true then txM else T (canN k)
theorem nanN_can : nanN 9221120237041090561 = true := by decide
theorem shw_can (T : Nat → ByteArray) (k : Nat) : shw T (canN k) = shw T k := by
  cases hn : nanN k with
  | true =>
    have hc : canN k = 9221120237041090561 := by unfold canN; rw [if_pos hn]
    rw [hc]
    unfold shw
    rw [if_pos nanN_can, if_pos hn]
  | false =>
    by_cases h0 : k % 9223372036854775808 = 0
    · have hc : canN k = 0 := by unfold canN; rw [if_neg (by rw [hn]; simp), if_pos h0]
      have hc0 : canN 0 = 0 := by decide
      have z : (0 : Nat) % 9223372036854775808 = 0 := by decide
      rw [hc]
      unfold shw
      have a1 : i1 k = false := big_z h0
      have a2 : i2 k = false := big_z (neg_z h0)
      have a3 : i1 0 = false := big_z z
      have a4 : i2 0 = false := big_z (neg_z z)
      have a5 : nanN 0 = false := by decide
      simp only [hn, a1, a2, a3, a4, a5, hc, hc0]
    · have hc : canN k = k := by unfold canN; rw [if_neg (by rw [hn]; simp), if_neg h0]
      rw [hc]

set_option maxRecDepth 100000 in
set_option maxHeartbeats 800000 in
theorem show_any (tH tL : Nat → Nat) (N : Nat) (T : Nat → ByteArray) (hT : ∀ k, FmtSays tH tL N k (T k) 16 #[.float .f64 k, .int .u8 103, .int .i64 (-1), .int .i64 64]) (k : Nat) : FmtSays tH tL N k (shw T k) 7 #[.float .f64 k] := by
  intro w hTab hU hN
  have hcall := Hid.mk (hT (canN k) w hTab hU hN)
  have hs := order_self k
  have hB0 := Hid.mk (Below.refl N w)
  have hi := Hid.mk (fun w => isinf_any k w)
  have hj := Hid.mk (fun w => isninf_any k w)
  have hc := Hid.mk (fun w => canon_any k w)
  clear hTab hU hT
  cases hn : nanN k with
  | true =>
    have he : Hid (shw T k = txN) := .mk (by unfold shw; rw [if_pos hn])
    rw [hn] at hs
    clear hn
    go_enter Tryz.func7, Tryz.ntmps7
    go_wp2_with fail
    go_ret
    exact ⟨by rw [he.out]; rfl, hB0.out⟩
  | false =>
    rw [hn] at hs
    cases h1 : FloatKind.f64.format.order k 9218868437227405311 == some Ordering.gt with
    | true =>
      have he : Hid (shw T k = txI) := .mk (by unfold shw; rw [if_neg (by rw [hn]; simp), if_pos (show i1 k = true from h1)])
      rw [h1] at hi
      clear hn h1
      go_enter Tryz.func7, Tryz.ntmps7
      go_wp2_with (go_at_call 15; refine (hi.out _).mono ?_; rintro e w' ⟨rfl, rfl⟩)
      go_ret
      exact ⟨by rw [he.out]; rfl, hB0.out⟩
    | false =>
      cases h2 : FloatKind.f64.format.order (Op.negFloat .f64 k) 9218868437227405311 == some Ordering.gt with
      | true =>
        have he : Hid (shw T k = txM) := .mk (by unfold shw; rw [if_neg (by rw [hn]; simp), if_neg (by unfold i1; rw [h1]; simp), if_pos (show i2 k = true from h2)])
        rw [h1] at hi
        rw [h2] at hj
        clear hn h1 h2
        go_enter Tryz.func7, Tryz.ntmps7
        go_wp2_with (go_at_call 15; ((first | (with_reducible refine (hi.out _).mono ?_) | (with_reducible refine (hj.out _).mono ?_)); rintro e w' ⟨rfl, rfl⟩))
        go_ret
        exact ⟨by rw [he.out]; rfl, hB0.out⟩
      | false =>
        have he : Hid (shw T k = T (canN k)) := .mk (by unfold shw; rw [if_neg (by rw [hn]; simp), if_neg (by unfold i1; rw [h1]; simp), if_neg (by unfold i2; rw [h2]; simp)])
        rw [h1] at hi
        rw [h2] at hj
        clear hn h1 h2
        go_enter Tryz.func7, Tryz.ntmps7
        go_wp2_with (first | (go_at_call 15; ((first | (with_reducible refine (hi.out _).mono ?_) | (with_reducible refine (hj.out _).mono ?_)); rintro e w' ⟨rfl, rfl⟩)) | (go_at_call 8; refine (hc.out _).mono ?_; rintro e w' ⟨rfl, rfl⟩) | (go_at_call 16; refine hcall.out.mono ?_; rintro e w' ⟨rfl, hB⟩))
        go_ret
        exact ⟨by rw [he.out]; rfl, hB⟩
end Go.Proofs.YtpbombkmnfbcgaaGreatDoor
