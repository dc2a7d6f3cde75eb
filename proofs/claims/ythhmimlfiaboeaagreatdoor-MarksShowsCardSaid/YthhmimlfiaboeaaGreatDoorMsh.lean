/- Show and Parse of marks, and the reference's Show: what each returns. The law: whatever the word, true. -/
import Derived.Test.YthhmimlfiaboeaaGreatDoorTxo
import Derived.Test.YthhmimlfiaboeaaGreatDoorEnn
import Derived.Test.YthhmimlfiaboeaaGreatDoorFlt
import Derived.WalkSpells
namespace Go.Proofs.YthhmimlfiaboeaaGreatDoor
open Go.RowKit Go.Lib

theorem run_of (n : Nat) (w : World) : (callFunc 5 #[.int .u64 (n : Int)]).run Tryz.prog w = .ok (.value (.float .f64 n)) w := by kernel_rfl
theorem run_mb (n : Nat) (w : World) : (callFunc 20 #[.float .f64 n]).run Tryz.prog w = .ok (.value (.int .u64 n)) w := by kernel_rfl

set_option maxRecDepth 100000 in
theorem none_any (w : World) : Calls Tryz.prog 17 #[] w fun e w' => e = .returned (.float .f64 9221120237041090561) ∧ w = w' := by
  have r12 : ∀ w, (callFunc 5 #[.int .u64 9221120237041090561]).run Tryz.prog w = .ok (.value (.float .f64 9221120237041090561)) w := run_of 9221120237041090561
  go_enter Tryz.func17, Tryz.ntmps17
  go_wp2_with fail
  go_ret
  exact ⟨rfl, rfl⟩
set_option maxRecDepth 100000 in
theorem rnone_any (w : World) : Calls Tryz.prog 21 #[] w fun e w' => e = .returned (.float .f64 9221120237041090561) ∧ w = w' := by
  have r12 : ∀ w, (callFunc 5 #[.int .u64 9221120237041090561]).run Tryz.prog w = .ok (.value (.float .f64 9221120237041090561)) w := run_of 9221120237041090561
  go_enter Tryz.func21, Tryz.ntmps21
  go_wp2_with fail
  go_ret
  exact ⟨rfl, rfl⟩

set_option maxRecDepth 100000 in
set_option maxHeartbeats 400000 in
theorem canon_any (n : Nat) (w : World) : Calls Tryz.prog 16 #[.float .f64 n] w fun e w' => e = .returned (.float .f64 (canN n)) ∧ w = w' := by
  have hs := order_self n
  cases hn : nanN n with
  | true =>
    have hc : Hid (canN n = 9221120237041090561) := .mk (by unfold canN; rw [if_pos hn])
    rw [hn] at hs
    clear hn
    go_enter Tryz.func16, Tryz.ntmps16
    go_wp2_with (go_at_call 17; refine (none_any _).mono ?_; rintro e w' ⟨rfl, rfl⟩)
    go_ret
    exact ⟨by rw [hc.out]; rfl, rfl⟩
  | false =>
    have hz := order_zero hn
    by_cases h0 : n % 9223372036854775808 = 0
    · have hc : Hid (canN n = 0) := .mk (by unfold canN; rw [if_neg (by rw [hn]; simp), if_pos h0])
      rw [hn] at hs
      have hz' : (FloatKind.f64.format.order n 0 == some Ordering.eq) = true := by rw [hz]; simp [h0]
      clear hn hz h0
      go_enter Tryz.func16, Tryz.ntmps16
      go_wp2_with fail
      go_ret
      exact ⟨by rw [hc.out]; rfl, rfl⟩
    · have hc : Hid (canN n = n) := .mk (by unfold canN; rw [if_neg (by rw [hn]; simp), if_neg h0])
      rw [hn] at hs
      have hz' : (FloatKind.f64.format.order n 0 == some Ordering.eq) = false := by rw [hz]; simp [h0]
      clear hn hz h0
      go_enter Tryz.func16, Tryz.ntmps16
      go_wp2_with fail
      go_ret
      exact ⟨by rw [hc.out]; rfl, rfl⟩

set_option maxRecDepth 100000 in
set_option maxHeartbeats 400000 in
theorem nan_any (n : Nat) (hn : n < 18446744073709551616) (w : World) : Calls Tryz.prog 19 #[.float .f64 n] w fun e w' => e = .returned (.bool (nanN n)) ∧ w = w' := by
  have hb : Hid ((decide (bits .and .u64 (n : Int) 9218868437227405312 = 9218868437227405312) && (bits .and .u64 (n : Int) 4503599627370495 != 0)) = nanN n) := .mk (nan_bits hn)
  have e31 := run_mb
  clear hn
  go_enter Tryz.func19, Tryz.ntmps19
  go_wp2_with fail
  all_goals go_ret
  · have h : bits .and .u64 (n : Int) 9218868437227405312 = 9218868437227405312 := by assumption
    exact ⟨by rw [← hb.out, h]; simp, rfl⟩
  · have h : ¬ bits .and .u64 (n : Int) 9218868437227405312 = 9218868437227405312 := by assumption
    exact ⟨by rw [← hb.out]; simp [h], rfl⟩

set_option maxRecDepth 100000 in
set_option maxHeartbeats 400000 in
theorem rcanon_any (n : Nat) (hn : n < 18446744073709551616) (w : World) : Calls Tryz.prog 10 #[.float .f64 n] w fun e w' => e = .returned (.float .f64 (canN n)) ∧ w = w' := by
  have hc : Hid (canN n = if nanN n = true then 9221120237041090561 else if n = 9223372036854775808 then 0 else n) := .mk (canN_ref hn)
  have hcall : Hid (∀ w, Calls Tryz.prog 19 #[.float .f64 n] w fun e w' => e = .returned (.bool (nanN n)) ∧ w = w') := .mk fun w => nan_any n hn w
  have e31 := run_mb
  cases hb : nanN n with
  | true =>
    rw [hb] at hc hcall
    clear hb hn
    go_enter Tryz.func10, Tryz.ntmps10
    go_wp2_with (first | (go_at_call 19; refine (hcall.out _).mono ?_; rintro e w' ⟨rfl, rfl⟩) | (go_at_call 21; refine (rnone_any _).mono ?_; rintro e w' ⟨rfl, rfl⟩))
    go_ret
    exact ⟨by rw [hc.out]; rfl, rfl⟩
  | false =>
    rw [hb] at hc hcall
    clear hb hn
    go_enter Tryz.func10, Tryz.ntmps10
    go_wp2_with (go_at_call 19; refine (hcall.out _).mono ?_; rintro e w' ⟨rfl, rfl⟩)
    all_goals go_ret
    · have h : n = 9223372036854775808 := by have h := beq_iff_eq.1 (show ((n : Int) == 9223372036854775808) = true by assumption)
                                             omega
      exact ⟨by rw [hc.out, if_neg (by simp), if_pos h]; rfl, rfl⟩
    · have h : ¬ n = 9223372036854775808 := by have h := beq_eq_false_iff_ne.1 (show ((n : Int) == 9223372036854775808) = false by assumption)
                                               omega
      exact ⟨by rw [hc.out, if_neg (by simp), if_neg h]; rfl, rfl⟩

set_option maxRecDepth 100000 in
set_option maxHeartbeats 400000 in
theorem same_any (a b : Nat) (w : World) : Calls Tryz.prog 9 #[.float .f64 a, .float .f64 b] w fun e w' => e = .returned (.bool (decide (a = b))) ∧ w = w' := by
  have ra := run_mb a
  have rb := run_mb b
  go_enter Tryz.func9, Tryz.ntmps9
  go_wp2_with fail
  go_ret
  exact ⟨by congr 2; by_cases h : a = b <;> simp [h]; omega, rfl⟩

set_option maxRecDepth 100000 in
set_option maxHeartbeats 400000 in
theorem isinf_any (n : Nat) (w : World) : Calls Tryz.prog 14 #[.float .f64 n, .int .i64 1] w fun e w' => e = .returned (.bool (FloatKind.f64.format.order n 9218868437227405311 == some Ordering.gt)) ∧ w = w' := by
  go_enter Tryz.func14, Tryz.ntmps14
  go_wp2_with fail
  go_ret
  exact ⟨rfl, rfl⟩
theorem run_neg (n : Nat) (w : World) : (Op.unary .neg (.float .f64 n)).run Tryz.prog w = .ok (.float .f64 (Op.negFloat .f64 n)) w := by simp [Op.unary]
set_option maxRecDepth 100000 in
set_option maxHeartbeats 400000 in
theorem isninf_any (n : Nat) (w : World) : Calls Tryz.prog 14 #[.float .f64 n, .int .i64 (-1)] w fun e w' => e = .returned (.bool (FloatKind.f64.format.order (Op.negFloat .f64 n) 9218868437227405311 == some Ordering.gt)) ∧ w = w' := by
  have hneg := run_neg n
  go_enter Tryz.func14, Tryz.ntmps14
  go_wp2_with fail
  go_ret
  exact ⟨rfl, rfl⟩

def txN : ByteArray := ⟨⟨[110, 111, 110, 101]⟩⟩
def i1 (k : Nat) : Bool := FloatKind.f64.format.order k 9218868437227405311 == some Ordering.gt
def i2 (k : Nat) : Bool := FloatKind.f64.format.order (Op.negFloat .f64 k) 9218868437227405311 == some Ordering.gt
def i3 (k : Nat) : Bool := FloatKind.f64.format.order k 18442240474082181119 == some Ordering.lt
theorem nanN_can : nanN 9221120237041090561 = true := by decide
theorem neg_is {k : Nat} (hk : k < 18446744073709551616) : Op.negFloat .f64 k = if 9223372036854775808 ≤ k then k - 9223372036854775808 else k + 9223372036854775808 := by
  show k ^^^ 9223372036854775808 = _
  have e : (9223372036854775808 : Nat) = 2 ^ 63 := by decide
  split
  · rename_i h
    obtain ⟨r, rfl⟩ : ∃ r, k = 2 ^ 63 + r := ⟨k - 2 ^ 63, by omega⟩
    have hr : r < 2 ^ 63 := by omega
    have h1 := Nat.two_pow_add_eq_or_of_lt (i := 63) (b := r) hr 1
    rw [Nat.mul_one] at h1
    rw [e, Nat.add_sub_cancel_left]
    apply Nat.eq_of_testBit_eq
    intro i
    rw [h1, Nat.testBit_xor, Nat.testBit_or, Nat.testBit_two_pow]
    by_cases hi : 63 = i
    · subst hi
      have : Nat.testBit r 63 = false := Nat.testBit_lt_two_pow hr
      simp [this]
    · simp [hi]
  · rename_i h
    have h1 := Nat.two_pow_add_eq_or_of_lt (i := 63) (b := k) (by omega) 1
    rw [Nat.mul_one] at h1
    rw [e, Nat.add_comm, h1]
    apply Nat.eq_of_testBit_eq
    intro i
    rw [Nat.testBit_xor, Nat.testBit_or, Nat.testBit_two_pow]
    by_cases hi : 63 = i
    · subst hi
      have : Nat.testBit k 63 = false := Nat.testBit_lt_two_pow (by omega)
      simp [this]
    · simp [hi]
theorem i1_is {k : Nat} (hk : k < 18446744073709551616) (hn : nanN k = false) : i1 k = decide (k = 9218868437227405312) := by
  unfold i1
  rw [order_gt, hn]
  have e1 : nanN 9218868437227405311 = false := by decide
  have e2 : keyN 9218868437227405311 = 9218868437227405311 := by decide
  rw [e1, e2]
  unfold nanN at hn
  have hn' := of_decide_eq_false hn
  have : decide ((9218868437227405311 : Int) < keyN k) = decide (k = 9218868437227405312) := by
    rw [decide_eq_decide]
    unfold keyN
    split <;> omega
  rw [this]; rfl
theorem i2_is {k : Nat} (hk : k < 18446744073709551616) (hn : nanN k = false) : i2 k = decide (k = 18442240474082181120) := by
  unfold i2
  have hneg := neg_is hk
  rw [order_gt]
  unfold nanN at hn
  have hn' := of_decide_eq_false hn
  have e0 : nanN (Op.negFloat .f64 k) = false := by
    unfold nanN
    rw [hneg]
    split <;> simp <;> omega
  have e1 : nanN 9218868437227405311 = false := by decide
  have e2 : keyN 9218868437227405311 = 9218868437227405311 := by decide
  rw [e0, e1, e2, hneg]
  have : decide ((9218868437227405311 : Int) < keyN (if 9223372036854775808 ≤ k then k - 9223372036854775808 else k + 9223372036854775808)) = decide (k = 18442240474082181120) := by
    rw [decide_eq_decide]
    unfold keyN
    split <;> split <;> omega
  rw [this]; rfl
theorem i3_is {k : Nat} (hk : k < 18446744073709551616) (hn : nanN k = false) : i3 k = decide (k = 18442240474082181120) := by
  unfold i3
  rw [order_lt, hn]
  have e1 : nanN 18442240474082181119 = false := by decide
  have e2 : keyN 18442240474082181119 = -9218868437227405311 := by decide
  rw [e1, e2]
  unfold nanN at hn
  have hn' := of_decide_eq_false hn
  have : decide (keyN k < (-9218868437227405311 : Int)) = decide (k = 18442240474082181120) := by
    rw [decide_eq_decide]
    unfold keyN
    split <;> omega
  rw [this]; rfl

/-- As which text a mark is shown. -/
inductive Shows (N k : Nat) (s : ByteArray) : Prop where
  | nan (h : nanN k = true) (hs : s = txN)
  | inf (h : k = 9218868437227405312) (hs : s = txI)
  | minf (h : k = 18442240474082181120) (hs : s = txM)
  | fin (h : nanN k = false) (h1 : k ≠ 9218868437227405312) (h2 : k ≠ 18442240474082181120) (hs : FmtSays N s 15 #[.float .f64 (canN k), .int .u8 103, .int .i64 (-1), .int .i64 64])
/-- A text, as FormatFloat and Show answer. -/
def TextSays (N : Nat) (s : ByteArray) (F : FuncId) (k : Nat) : Prop := ∀ w : World, TabAt Us.tHi Us.tLo N w → TabIs Tryz.prog w "internal/strconv.uint64pow10" .u64 Lib.pow10Tab → N ≤ w.heap.size → Calls Tryz.prog F #[.float .f64 k] w fun e w' => e = .returned (.string s) ∧ Below N w w'

set_option maxRecDepth 100000 in
set_option maxHeartbeats 800000 in
theorem show_is (N k : Nat) (hk : k < 18446744073709551616) (s : ByteArray) (h : Shows N k s) : TextSays N s 6 k := by
  intro w hTab hU hN
  have hs := order_self k
  have hB0 := Hid.mk (Below.refl N w)
  have hi := Hid.mk (fun w => isinf_any k w)
  have hj := Hid.mk (fun w => isninf_any k w)
  have hc := Hid.mk (fun w => canon_any k w)
  cases h with
  | nan hn he =>
    rw [hn] at hs
    subst he
    clear hn hTab hU hN hk
    go_enter Tryz.func6, Tryz.ntmps6
    go_wp2_with fail
    go_ret
    exact ⟨rfl, hB0.out⟩
  | inf hk1 he =>
    subst he
    have hn : nanN k = false := by rw [hk1]; decide
    have h1 : (FloatKind.f64.format.order k 9218868437227405311 == some Ordering.gt) = true := (i1_is hk hn).trans (by rw [hk1]; decide)
    rw [hn] at hs
    rw [h1] at hi
    clear hn h1 hTab hU hN hk hk1
    go_enter Tryz.func6, Tryz.ntmps6
    go_wp2_with (go_at_call 14; refine (hi.out _).mono ?_; rintro e w' ⟨rfl, rfl⟩)
    go_ret
    exact ⟨rfl, hB0.out⟩
  | minf hk1 he =>
    subst he
    have hn : nanN k = false := by rw [hk1]; decide
    have h1 : (FloatKind.f64.format.order k 9218868437227405311 == some Ordering.gt) = false := (i1_is hk hn).trans (by rw [hk1]; decide)
    have h2 : (FloatKind.f64.format.order (Op.negFloat .f64 k) 9218868437227405311 == some Ordering.gt) = true := (i2_is hk hn).trans (by rw [hk1]; decide)
    rw [hn] at hs
    rw [h1] at hi
    rw [h2] at hj
    clear hn h1 h2 hTab hU hN hk hk1
    go_enter Tryz.func6, Tryz.ntmps6
    go_wp2_with (go_at_call 14; ((first | (with_reducible refine (hi.out _).mono ?_) | (with_reducible refine (hj.out _).mono ?_)); rintro e w' ⟨rfl, rfl⟩))
    go_ret
    exact ⟨rfl, hB0.out⟩
  | fin hn hk1 hk2 hF =>
    have h1 : (FloatKind.f64.format.order k 9218868437227405311 == some Ordering.gt) = false := (i1_is hk hn).trans (by simp [hk1])
    have h2 : (FloatKind.f64.format.order (Op.negFloat .f64 k) 9218868437227405311 == some Ordering.gt) = false := (i2_is hk hn).trans (by simp [hk2])
    have hcall := Hid.mk (hF w hTab hU hN)
    rw [hn] at hs
    rw [h1] at hi
    rw [h2] at hj
    clear hn h1 h2 hTab hU hN hk hk1 hk2 hF
    go_enter Tryz.func6, Tryz.ntmps6
    go_wp2_with (first | (go_at_call 14; ((first | (with_reducible refine (hi.out _).mono ?_) | (with_reducible refine (hj.out _).mono ?_)); rintro e w' ⟨rfl, rfl⟩)) | (go_at_call 16; refine (hc.out _).mono ?_; rintro e w' ⟨rfl, rfl⟩) | (go_at_call 15; refine hcall.out.mono ?_; rintro e w' ⟨rfl, hB⟩))
    go_ret
    exact ⟨rfl, hB⟩

set_option maxRecDepth 100000 in
set_option maxHeartbeats 800000 in
theorem rshow_is (N k : Nat) (hk : k < 18446744073709551616) (s : ByteArray) (h : Shows N k s) : TextSays N s 8 k := by
  intro w hTab hU hN
  have hB0 := Hid.mk (Below.refl N w)
  have hnn := Hid.mk (fun w => nan_any k hk w)
  have hc := Hid.mk (fun w => rcanon_any k hk w)
  cases h with
  | nan hn he =>
    rw [hn] at hnn
    subst he
    clear hn hTab hU hN hk
    go_enter Tryz.func8, Tryz.ntmps8
    go_wp2_with (go_at_call 19; refine (hnn.out _).mono ?_; rintro e w' ⟨rfl, rfl⟩)
    go_ret
    exact ⟨rfl, hB0.out⟩
  | inf hk1 he =>
    subst he
    have hn : nanN k = false := by rw [hk1]; decide
    have h1 : (FloatKind.f64.format.order k 9218868437227405311 == some Ordering.gt) = true := (i1_is hk hn).trans (by rw [hk1]; decide)
    rw [hn] at hnn
    clear hn hTab hU hN hk hk1
    go_enter Tryz.func8, Tryz.ntmps8
    go_wp2_with (go_at_call 19; refine (hnn.out _).mono ?_; rintro e w' ⟨rfl, rfl⟩)
    go_ret
    exact ⟨rfl, hB0.out⟩
  | minf hk1 he =>
    subst he
    have hn : nanN k = false := by rw [hk1]; decide
    have h1 : (FloatKind.f64.format.order k 9218868437227405311 == some Ordering.gt) = false := (i1_is hk hn).trans (by rw [hk1]; decide)
    have h3 : (FloatKind.f64.format.order k 18442240474082181119 == some Ordering.lt) = true := (i3_is hk hn).trans (by rw [hk1]; decide)
    rw [hn] at hnn
    clear hn hTab hU hN hk hk1
    go_enter Tryz.func8, Tryz.ntmps8
    go_wp2_with (go_at_call 19; refine (hnn.out _).mono ?_; rintro e w' ⟨rfl, rfl⟩)
    go_ret
    exact ⟨rfl, hB0.out⟩
  | fin hn hk1 hk2 hF =>
    have h1 : (FloatKind.f64.format.order k 9218868437227405311 == some Ordering.gt) = false := (i1_is hk hn).trans (by simp [hk1])
    have h3 : (FloatKind.f64.format.order k 18442240474082181119 == some Ordering.lt) = false := (i3_is hk hn).trans (by simp [hk2])
    have hcall := Hid.mk (hF w hTab hU hN)
    rw [hn] at hnn
    clear hn hTab hU hN hk hk1 hk2 hF
    go_enter Tryz.func8, Tryz.ntmps8
    go_wp2_with (first | (go_at_call 19; refine (hnn.out _).mono ?_; rintro e w' ⟨rfl, rfl⟩) | (go_at_call 10; refine (hc.out _).mono ?_; rintro e w' ⟨rfl, rfl⟩) | (go_at_call 15; refine hcall.out.mono ?_; rintro e w' ⟨rfl, hB⟩))
    go_ret
    exact ⟨rfl, hB⟩
end Go.Proofs.YthhmimlfiaboeaaGreatDoor

namespace Go.Proofs.YthhmimlfiaboeaaGreatDoor
open Go.Ev Go.RowKit Go.Lib

theorem canN_fin {k : Nat} (h : nanN k = false) (h0 : k % 9223372036854775808 ≠ 0) : canN k = k := by unfold canN; rw [if_neg (by rw [h]; simp), if_neg h0]
theorem canN_zero {k : Nat} (h0 : k % 9223372036854775808 = 0) : canN k = 0 := by
  have h : nanN k = false := by unfold nanN; rw [h0]; decide
  unfold canN; rw [if_neg (by rw [h]; simp), if_pos h0]
/-- How a text is read back as that word. -/
def Back (N c : Nat) (s : ByteArray) : Prop := (c = 9221120237041090561 ∧ s = txN) ∨ (s ≠ txN ∧ ∀ w, Env N w → GlobAt N w → ParSays c 18 #[.string s, .int .i64 64] w)

theorem Reads.not_none {neg : Bool} {m0 n : Nat} {l : List Nat} (h : Reads neg m0 n l) : strOfNums (ints l) ≠ txN := by
  intro he
  have ht := txt_is l h.small.1
  rw [he] at ht
  obtain ⟨B, X, J, rfl, hB, ⟨c, t, rfl, hc1, hc2⟩, _⟩ := h.is
  have h0 := ht.2 0 (by decide)
  have e : (txN[0]'(by decide)).toNat = 110 := by decide
  rw [e] at h0
  cases neg
  · simp [sgl] at h0; omega
  · simp [sgl] at h0

theorem shows_all (N k : Nat) (hk : k < 18446744073709551616) (hgN : 4 < N) : ∃ s, Shows N k s ∧ Shows N (canN k) s ∧ Back N (canN k) s := by
  cases hn : nanN k with
  | true =>
    have hc : canN k = 9221120237041090561 := by unfold canN; rw [if_pos hn]
    rw [hc]
    exact ⟨txN, .nan hn rfl, .nan nanN_can rfl, .inl ⟨rfl, rfl⟩⟩
  | false =>
    by_cases hi : k = 9218868437227405312
    · subst hi
      have hc : canN 9218868437227405312 = 9218868437227405312 := by decide
      rw [hc]
      exact ⟨txI, .inf rfl rfl, .inf rfl rfl, .inr ⟨by decide, fun w hE hG => parse_run hG hE.ns run_inf⟩⟩
    · by_cases hj : k = 18442240474082181120
      · subst hj
        have hc : canN 18442240474082181120 = 18442240474082181120 := by decide
        rw [hc]
        exact ⟨txM, .minf rfl rfl, .minf rfl rfl, .inr ⟨by decide, fun w hE hG => parse_run hG hE.ns run_minf⟩⟩
      · by_cases h0 : k % 9223372036854775808 = 0
        · have hc := canN_zero h0
          have hF := sff_of N 0 [48] (fto_zero N) hgN
          have hs : strOfNums [48] = tx0 := by rfl
          rw [hs] at hF
          rw [hc]
          refine ⟨tx0, .fin hn hi hj (by rw [hc]; exact hF), .fin (by decide) (by decide) (by decide) hF, .inr ⟨by decide, fun w hE _ => spf_is tx0 0 w (atf_zero N w hE)⟩⟩
        · have hc := canN_fin hn h0
          have hfin : FinW k := by
            refine ⟨hk, h0, ?_⟩
            unfold nanN at hn
            have := of_decide_eq_false hn
            omega
          obtain ⟨l, m0, n, hr, hf, hw, hS⟩ := fto_is N k hfin hgN
          have hF := sff_of N k (ints l) hS hgN
          rw [hc]
          refine ⟨strOfNums (ints l), .fin hn hi hj (by rw [hc]; exact hF), .fin hn hi hj (by rw [hc]; exact hF), .inr ⟨hr.not_none, fun w hE _ => ?_⟩⟩
          have := par_is N (ngOf k) m0 n l hr hf w hE
          rw [hw] at this
          exact this

set_option maxRecDepth 100000 in
set_option maxHeartbeats 800000 in
theorem parse_is (N c : Nat) (hc : c < 18446744073709551616) (hgN : 4 < N) (s : ByteArray) (hS : Shows N c s) (hb : Back N c s) (w : World) (hE : Env N w) (hG : GlobAt N w) (hU : TabIs Tryz.prog w "internal/strconv.uint64pow10" .u64 Lib.pow10Tab) :
    Calls Tryz.prog 7 #[.string s] w fun e w' => e = .returned (.tuple #[.float .f64 (canN c), .int .i64 0]) ∧ Below N w w' := by
  have hN := hE.ns
  have hsh := Hid.mk (show_is N c hc s hS)
  have hcn := Hid.mk (fun k w => canon_any k w)
  have hB0 := Hid.mk (Below.refl N w)
  have tail : Hid (∀ w', Below N w w' → TabAt Us.tHi Us.tLo N w' ∧ TabIs Tryz.prog w' "internal/strconv.uint64pow10" .u64 Lib.pow10Tab ∧ N ≤ w'.heap.size) := .mk fun w' hb =>
    ⟨hE.tab.keep hb, tabIs_same hU (fun i hi => hb.block i hi) hgN, Nat.le_trans hN hb.size⟩
  rcases hb with ⟨rfl, rfl⟩ | ⟨hne, hp⟩
  · have hsh1 := Hid.mk (hsh.out w (tail.out w hB0.out).1 (tail.out w hB0.out).2.1 (tail.out w hB0.out).2.2)
    unfold txN at hsh1
    clear hsh tail hE hG hU hS hN hc hgN
    unfold txN
    go_enter Tryz.func7, Tryz.ntmps7
    go_wp2_with (first | (go_at_call 17; refine (none_any _).mono ?_; rintro e w' ⟨rfl, rfl⟩) | (go_at_call 6; refine hsh1.out.mono ?_; rintro e w' ⟨rfl, hB⟩) | (go_at_call 16; refine (hcn.out _ _).mono ?_; rintro e w' ⟨rfl, rfl⟩))
    go_ret2
    exact ⟨rfl, hB⟩
  · have hpf := Hid.mk (hp w hE hG)
    have hne' : (s.toList == [110, 111, 110, 101]) = false := by
      rw [ByteArray.toList_eq]
      apply beq_eq_false_iff_ne.2
      intro h
      apply hne
      have h1 : s.data = ⟨[110, 111, 110, 101]⟩ := Array.toList_inj.1 h
      cases s
      rw [show txN = ⟨⟨[110, 111, 110, 101]⟩⟩ from rfl, ← h1]
    clear hne hp hE hG hU hS
    go_enter Tryz.func7, Tryz.ntmps7
    go_wp2_with (first | (go_at_call 17; refine (none_any _).mono ?_; rintro e w' ⟨rfl, rfl⟩))
    go_at_call 18
    refine hpf.out.mono ?_
    rintro e w1 ⟨rfl, hB⟩
    have hB1 : Hid (Below N w w1) := .mk (hB.mono hN)
    clear hB hpf
    obtain ⟨t1, t2, t3⟩ := tail.out w1 hB1.out
    have hsh1 := Hid.mk (hsh.out w1 t1 t2 t3)
    clear t1 t2 t3 tail hsh hN hc hgN
    go_wp2_with (first | (go_at_call 6; refine hsh1.out.mono ?_; rintro e w' ⟨rfl, hB⟩) | (go_at_call 16; refine (hcn.out _ _).mono ?_; rintro e w' ⟨rfl, rfl⟩))
    go_ret2
    exact ⟨rfl, hB1.out.trans hB⟩

theorem canN_twice (n : Nat) : canN (canN n) = canN n := by
  have h1 : canN 9221120237041090561 = 9221120237041090561 := by decide
  have h2 : canN 0 = 0 := by decide
  cases h : nanN n with
  | true => rw [show canN n = 9221120237041090561 by unfold canN; rw [if_pos h], h1]
  | false =>
    by_cases h0 : n % 9223372036854775808 = 0
    · rw [canN_zero h0, h2]
    · rw [canN_fin h h0, canN_fin h h0]

set_option maxRecDepth 100000 in
set_option maxHeartbeats 800000 in
theorem shows_any (k : Nat) (hk : k < 18446744073709551616) (w : World) (hL : laidMet Tryz.prog laidAll w) :
    Calls Tryz.prog 3 #[.int .u64 (k : Nat)] w fun e w' => e = .returned (.bool true) ∧ Below w.heap.size w w' := by
  have hE := env_at hL
  have hU := u10_at hL
  have hG : GlobAt w.heap.size w := glob3_ok hL
  have hgN : 4 < w.heap.size := by
    have := hU.cell (g := 4) (by kernel_rfl) 0 (by rw [pow10Tab_length]; omega)
    exact block_of_cell this
  obtain ⟨s, hs1, hs2, hs3⟩ := shows_all w.heap.size k hk hgN
  have hcl := canN_lt hk
  have hsh := Hid.mk (show_is w.heap.size k hk s hs1)
  have hrs := Hid.mk (rshow_is w.heap.size k hk s hs1)
  have hpa := Hid.mk (fun w' (hE' : Env w.heap.size w') hG' hU' => parse_is w.heap.size (canN k) hcl hgN s hs2 hs3 w' hE' hG' hU')
  rw [canN_twice] at hpa
  have hrc := Hid.mk (fun w => rcanon_any k hk w)
  have hsp := Hid.mk (speaks_any hL)
  have hsm := Hid.mk (fun a b w => same_any a b w)
  have hfb := run_of k
  have tail : Hid (∀ w', Below w.heap.size w w' → Env w.heap.size w' ∧ GlobAt w.heap.size w' ∧ TabIs Tryz.prog w' "internal/strconv.uint64pow10" .u64 Lib.pow10Tab) := .mk fun w' hb =>
    ⟨hE.keep hb, hG.keep hb, tabIs_same hU (fun i hi => hb.block i hi) hgN⟩
  clear hL hE hU hG hgN hs1 hs2 hs3 hcl hk
  go_enter Tryz.func3, Tryz.ntmps3
  go_wp2_with (fail)
  go_at_call 4
  refine hsp.out.mono ?_
  rintro e w1 ⟨rfl, hB1⟩
  have hB1 := Hid.mk hB1
  go_wp2_with (fail)
  go_at_call 6
  obtain ⟨t1, t2, t3⟩ := tail.out w1 hB1.out
  refine (hsh.out w1 t1.tab t3 t1.ns).mono ?_
  clear t1 t2 t3
  rintro e w2 ⟨rfl, hB2⟩
  have hB2 : Hid (Below w.heap.size w w2) := .mk (hB1.out.trans hB2)
  clear hB1
  go_wp2_with (fail)
  go_at_call 7
  obtain ⟨t1, t2, t3⟩ := tail.out w2 hB2.out
  refine (hpa.out w2 t1 t2 t3).mono ?_
  clear t1 t2 t3
  rintro e w3 ⟨rfl, hB3⟩
  have hB3 : Hid (Below w.heap.size w w3) := .mk (hB2.out.trans hB3)
  clear hB2
  go_wp2_with (fail)
  go_at_call 8
  obtain ⟨t1, t2, t3⟩ := tail.out w3 hB3.out
  refine (hrs.out w3 t1.tab t3 t1.ns).mono ?_
  clear t1 t2 t3
  rintro e w4 ⟨rfl, hB4⟩
  have hB4 : Hid (Below w.heap.size w w4) := .mk (hB3.out.trans hB4)
  clear hB3 tail hsh hrs hpa
  generalize canN k = c at *
  go_wp2_with (first | (go_at_call 10; refine (hrc.out _).mono ?_; rintro e w' ⟨rfl, rfl⟩) | (go_at_call 9; refine (hsm.out _ _ _).mono ?_; rintro e w' ⟨rfl, rfl⟩))
  go_ret
  exact ⟨by simp, hB4.out⟩
end Go.Proofs.YthhmimlfiaboeaaGreatDoor
