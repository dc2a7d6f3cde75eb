/- The shortest digits of a float, by the code's own words: exact. Printed by gensho2.py. -/
import Derived.Test.YthhmimlfiaboeaaGreatDoorPkn
namespace Go.Proofs.YthhmimlfiaboeaaGreatDoor
open Go.RowKit

/-- Digits and a power of ten, in every world in which the table of powers is so. -/
def ShoSays (N m : Nat) (e : Int) (d : Nat) (p : Int) : Prop := ∀ w : World, TabAt Us.tHi Us.tLo N w → N ≤ w.heap.size →
  Calls Tryz.prog 47 #[.int .u64 (m : Nat), .int .i64 e] w fun r w' => r = .returned (.tuple #[.int .u64 (d : Nat), .int .i64 p]) ∧ Below w.heap.size w w'

theorem PreS.drewN {B hi lo : Nat} {s : Int} {w : World} (h : PreS B hi lo s w) (n : Nat) : PreS B hi lo s (w.drewN n) := ⟨h.hi, h.lo, h.s⟩
theorem and1_i64 (x : Nat) (h : x < 9223372036854775808) : bits .and .i64 (x : Int) 1 = ((x % 2 : Nat) : Int) := by
  have h1 : (BitVec.ofInt 64 (x : Int)).toNat = x := by simp; omega
  have h2 : (BitVec.ofInt 64 (1 : Int)).toNat = 1 := by decide
  show IntKind.i64.wrap ((BitVec.ofInt 64 (x : Int) &&& BitVec.ofInt 64 1).toNat : Int) = _
  rw [BitVec.toNat_and, h1, h2, Nat.and_one_is_mod]
  exact wi64 (by omega) (by omega)
theorem k1_is (r1 od : Nat) (b1 : r1 ≤ 576460752303423488) (hod : od ≤ 1) : IntKind.u64.wrap (IntKind.u64.wrap ((r1 : Int) + (od : Int)) + 3) = ((r1 + od + 3 : Nat) : Int) := by
  rw [wu64 (z := (r1 : Int) + (od : Int)) (by omega) (by omega), wu64 (by omega) (by omega)]; omega
theorem k2_is (r2 od : Nat) (b2 : r2 ≤ 576460752303423488) (b4 : 1 ≤ r2) (hod : od ≤ 1) : IntKind.u64.wrap (IntKind.u64.wrap ((r2 : Int) + IntKind.u64.wrap (-(od : Int)))) = ((r2 - od : Nat) : Int) := by
  simp only [IntKind.wrap_u64]; omega
theorem k3_is (r3 : Nat) (b3 : r3 ≤ 576460752303423488) : IntKind.u64.wrap (IntKind.u64.wrap ((r3 : Int) + 1) + bits .and .u64 ((r3 : Int) / 4) 1) = ((r3 + 1 + r3 / 4 % 2 : Nat) : Int) := by
  have h := and1_is (r3 / 4) (by omega)
  have e1 : (r3 : Int) / 4 = ((r3 / 4 : Nat) : Int) := by omega
  rw [e1, h, wu64 (z := (r3 : Int) + 1) (by omega) (by omega), wu64 (by omega) (by omega)]; omega
theorem kb1 (r1 od : Nat) (b1 : r1 ≤ 576460752303423488) (hod : od ≤ 1) : r1 + od + 3 < 18446744073709551616 := by omega
theorem kb2 (r2 od : Nat) (b2 : r2 ≤ 576460752303423488) : r2 - od < 18446744073709551616 := by omega
theorem kb3 (r3 : Nat) (b3 : r3 ≤ 576460752303423488) : r3 + 1 + r3 / 4 % 2 < 18446744073709551616 := by omega
theorem wr_add (m H : Nat) (h : m + H < 18446744073709551616) : IntKind.u64.wrap ((m : Int) + (H : Int)) = ((m + H : Nat) : Int) := by rw [wu64 (by omega) (by omega)]; omega
theorem wr_sub (m H : Nat) (h : H ≤ m) (hm : m < 18446744073709551616) : IntKind.u64.wrap ((m : Int) - (H : Int)) = ((m - H : Nat) : Int) := by rw [wu64 (by omega) (by omega)]; omega
theorem pw_H (z H : Nat) (hHv : H = 2 ^ (z - 1)) (hz2 : z ≤ 63) : 1 ≤ H ∧ H ≤ 4611686018427387904 ∧ IntKind.u64.wrap (2 ^ (z - 1)) = (H : Int) := by
  have h1 : 1 ≤ H := by rw [hHv]; exact Nat.one_le_two_pow
  have h2 : H ≤ 2 ^ 62 := by rw [hHv]; exact Nat.pow_le_pow_right (by decide) (by omega)
  have h3 : (2 : Int) ^ (z - 1) = (H : Int) := by rw [hHv]; push_cast; rfl
  refine ⟨h1, h2, ?_⟩
  rw [h3]; exact wu64 (by omega) (by omega)
theorem od_is (m z od : Nat) (hz1 : 12 ≤ z) (hm : m < 18446744073709551616) (hodv : od = m / 2 ^ z % 2) : bits .and .i64 (wrap64 ((m : Int) / 2 ^ z)) 1 = (od : Int) := by
  have h12 : 2 ^ 12 ≤ 2 ^ z := Nat.pow_le_pow_right (by decide) hz1
  have hx : m / 2 ^ z < 9007199254740992 := by
    rw [Nat.div_lt_iff_lt_mul (Nat.two_pow_pos z)]
    have := Nat.mul_le_mul_left 9007199254740992 h12
    omega
  have h := and1_i64 (m / 2 ^ z) (by omega)
  rw [← hodv] at h
  have e1 : (m : Int) / 2 ^ z = ((m / 2 ^ z : Nat) : Int) := by push_cast; rfl
  rw [e1]
  generalize m / 2 ^ z = x at *
  have e2 : wrap64 (x : Int) = (x : Int) := by unfold wrap64; omega
  rw [e2]; exact h
/-- The code's choice among the three. -/
def pickN (r1 r2 r3 od : Nat) : Nat × Nat :=
  if (r1 + od + 3) / 4 ≤ (r2 - od) / 4 / 10 * 10 then ((r2 - od) / 4 / 10, 1) else if (r1 + od + 3) / 4 < (r2 - od) / 4 then (Us.rnd r3, 0) else ((r1 + od + 3) / 4, 0)
end Go.Proofs.YthhmimlfiaboeaaGreatDoor
