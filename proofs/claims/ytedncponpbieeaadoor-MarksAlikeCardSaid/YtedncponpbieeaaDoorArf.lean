/- What '+', '*', '/' of floats give, where all NaNs count as one. -/
import Derived.Test.YtedncponpbieeaaDoorFls
import Derived.Laws.FloatArith
namespace Go.Proofs.YtedncponpbieeaaDoor
open Go.RowKit

/-- A word as a number, or none. -/
def absF (n : Nat) : Option Nat := if nanN n = true then none else some n

/-- An operation where NaNs count as one. -/
def opO (op : BinOp) (a b : Option Nat) : Option Nat := a.bind fun x => b.bind fun y => (floatBits op .f64 x y).bind absF

theorem nan_read {n : Nat} (h : nanN n = true) : ∃ s t, fmt.read n = .nan s t := by
  rcases read_cases n with ⟨_, h'⟩ | ⟨h', _⟩
  · exact h'
  · rw [h] at h'; cases h'

theorem floatBits_nan {op : BinOp} {x y : Nat} (h : nanN x = true ∨ nanN y = true) (ho : op = .add ∨ op = .mul ∨ op = .quo) : floatBits op .f64 x y = none := by
  rcases ho with rfl | rfl | rfl
  · show ((fmt.read x).sum (fmt.read y)).map _ = none
    rcases h with h | h
    · obtain ⟨s, t, e⟩ := nan_read h; rw [e]; rfl
    · obtain ⟨s, t, e⟩ := nan_read h; rw [e]; cases fmt.read x <;> rfl
  · show ((fmt.read x).product (fmt.read y)).map _ = none
    rcases h with h | h
    · obtain ⟨s, t, e⟩ := nan_read h; rw [e]; rfl
    · obtain ⟨s, t, e⟩ := nan_read h; rw [e]; cases fmt.read x <;> rfl
  · show ((fmt.read x).quotient _ (fmt.read y)).map _ = none
    rcases h with h | h
    · obtain ⟨s, t, e⟩ := nan_read h; rw [e]; rfl
    · obtain ⟨s, t, e⟩ := nan_read h; rw [e]; cases fmt.read x <;> rfl

theorem opO_abs {op : BinOp} {x y : Nat} (ho : op = .add ∨ op = .mul ∨ op = .quo) : opO op (absF x) (absF y) = (floatBits op .f64 x y).bind absF := by
  unfold opO
  cases hx : nanN x
  · cases hy : nanN y
    · simp [absF, hx, hy]
    · rw [floatBits_nan (.inr hy) ho]; simp [absF, hx, hy]
  · rw [floatBits_nan (.inl hx) ho]; simp [absF, hx]

theorem cut_nan (t a b : Nat) : nanN (Question.cut (.nanBits .f64 a b) t) = true ∧ Question.cut (.nanBits .f64 a b) t < 18446744073709551616 := by
  show nanN ((t % 2) * 2 ^ 63 + 0x7ff0000000000000 + 1 + (t / 2) % (2 ^ 52 - 1)) = true ∧ (t % 2) * 2 ^ 63 + 0x7ff0000000000000 + 1 + (t / 2) % (2 ^ 52 - 1) < 18446744073709551616
  unfold nanN
  have h1 : (2 : Nat) ^ 63 = 9223372036854775808 := by decide
  have h2 : (2 : Nat) ^ 52 - 1 = 4503599627370495 := by decide
  rw [h1, h2]
  have h3 := Nat.mod_lt (t / 2) (y := 4503599627370495) (by omega)
  generalize t / 2 % 4503599627370495 = u at *
  rw [decide_eq_true_eq]
  omega

set_option maxRecDepth 10000 in
theorem float_op (op : BinOp) (ho : op = .add ∨ op = .mul ∨ op = .quo) (t : TypeId) (x y : Nat) (w : World) :
    ∃ r w1, (binOp op t (.float .f64 x) (.float .f64 y)).run Tryd.prog w = .ok (.float .f64 r) w1 ∧ Below w.heap.size w w1 ∧ w1.heap = w.heap ∧ absF r = opO op (absF x) (absF y) ∧ r < 18446744073709551616 := by
  rw [opO_abs ho]
  cases h : floatBits op .f64 x y with
  | some r =>
    have hw := floatBits_wf h
    exact ⟨r, w, run_float_arith w op t .f64 x y r h, Below.refl _ _, rfl, rfl, by simpa [Lit.wf] using hw⟩
  | none =>
    have hrun : (binOp op t (.float .f64 x) (.float .f64 y)).run Tryd.prog w = .ok (.float .f64 (Question.cut (.nanBits .f64 x y) (w.tape w.drawn (.nanBits .f64 x y)))) w.drew := by
      rcases ho with rfl | rfl | rfl <;> (unfold floatBits at h; simp only at h; simp [binOp, Op.floatArith, h, choose, Sem.run, Question.forced])
    have hc := cut_nan (w.tape w.drawn (.nanBits .f64 x y)) x y
    refine ⟨_, _, hrun, (Below.refl _ _).drew, rfl, ?_, hc.2⟩
    unfold absF
    rw [if_pos hc.1]; rfl

/-- 'Canon', of a number or none. -/
def canO : Option Nat → Nat
  | none => 9221120237041090561
  | some r => if r % 9223372036854775808 = 0 then 0 else r

theorem canO_abs (n : Nat) : canN n = canO (absF n) := by
  unfold canN absF
  split <;> rfl

/-- The sum of the numbers in a list, and how many they are. -/
def sumO (fs : List Nat) : Option Nat × Nat := fs.foldl (fun p f => if nanN f = true then p else (opO .add p.1 (some f), p.2 + 1)) (some 0, 0)

theorem sumO_succ (fs : List Nat) (k : Nat) (hk : k < fs.length) :
    sumO (fs.take (k + 1)) = if nanN fs[k] = true then sumO (fs.take k) else (opO .add (sumO (fs.take k)).1 (some fs[k]), (sumO (fs.take k)).2 + 1) := by
  rw [List.take_succ_eq_append_getElem hk]
  unfold sumO
  rw [List.foldl_append]
  rfl

theorem sumO_le (fs : List Nat) (k : Nat) (hk : k ≤ fs.length) : (sumO (fs.take k)).2 ≤ k := by
  induction k with
  | zero => simp [sumO]
  | succ k ih =>
    rw [sumO_succ fs k (by omega)]
    have := ih (by omega)
    split
    · omega
    · show _ + 1 ≤ k + 1
      omega

/-- What 'Mean' comes to. -/
def meanE (fs : List Nat) : Nat × Nat := if (sumO fs).2 = 0 then (9221120237041090561, 0) else (canO (opO .quo (sumO fs).1 (absF (floatOfInt .f64 ((sumO fs).2 : Int)))), (sumO fs).2)

theorem absF_some {n : Nat} (h : nanN n = false) : absF n = some n := by unfold absF; rw [if_neg (by rw [h]; simp)]
end Go.Proofs.YtedncponpbieeaaDoor
