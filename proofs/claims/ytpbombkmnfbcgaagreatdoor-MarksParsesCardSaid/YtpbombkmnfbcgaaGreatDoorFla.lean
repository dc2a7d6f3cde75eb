/- What the two loops of floatBits count by. -/
import Derived.Test.YtpbombkmnfbcgaaGreatDoorFlc
namespace Go.Proofs.YtpbombkmnfbcgaaGreatDoor
open Go.RowKit

def pw (i : Nat) : Nat := [1, 3, 6, 9, 13, 16, 19, 23, 26].getD i 0
/-- The powers of two for powers of ten, in memory. -/
def PowAt (N : Nat) (w : World) : Prop := ∃ pb off cap, w.cell? ⟨8, 0, none⟩ = some (.slice (some ⟨pb, off, none⟩) 9 cap) ∧ pb < N ∧ 8 < N ∧ ∀ i, i < 9 → w.cell? ⟨pb, off + i, none⟩ = some (.int .i64 (pw i : Nat))
theorem PowAt.keep {N : Nat} {w w' : World} (h : PowAt N w) (hb : Below N w w') : PowAt N w' := by
  obtain ⟨pb, off, cap, h1, h2, h3, h4⟩ := h
  exact ⟨pb, off, cap, (hb.cell (by exact h3)).trans h1, h2, h3, fun i hi => (hb.cell (by exact h2)).trans (h4 i hi)⟩

def dpOf (B : Nat) (w : World) : Int := match w.cell? ⟨B, 801, none⟩ with | some (.int _ n) => n | _ => 0
def d0Of (B : Nat) (w : World) : Nat := match w.cell? ⟨B, 0, none⟩ with | some (.int _ n) => n.toNat | _ => 0
section
variable {B : Nat} {D : Nat → Nat} {nd : Nat} {dp : Int} {neg tr : Bool} {w : World}
theorem DecS.dpOf (h : DecS B D nd dp neg tr w) : dpOf B w = dp := by unfold Go.Proofs.YtpbombkmnfbcgaaGreatDoor.dpOf; rw [h.dp]
theorem DecS.d0Of (h : DecS B D nd dp neg tr w) : d0Of B w = D 0 := by unfold Go.Proofs.YtpbombkmnfbcgaaGreatDoor.d0Of; rw [h.dig 0 (by omega)]; simp
end
/-- How many rounds the first loop has left at most; and the second. -/
def mu1 (dp : Int) (d0 : Nat) : Nat := 2 * dp.toNat + (if 56 ≤ d0 then 1 else 0)
def mu2 (dp : Int) (d0 : Nat) : Nat := 20 * (-dp).toNat + (57 - d0)

/-- The first loop's step: by r digits. -/
theorem mu1_lt {dp : Int} {d0 d0' k r n : Nat} (hp : 0 < dp) (hk : k = if 9 ≤ dp then 27 else pw dp.toNat) (h1 : 1 ≤ r) (hn : 2 ^ k ≤ n) (hn10 : n < 10 ^ r) (hone : r = 1 → n + 48 = d0) (hd : d0 ≤ 57) (hd' : d0' = 48 + n / 2 ^ k) :
    mu1 (dp - ((r : Nat) - 1)) d0' < mu1 dp d0 := by
  by_cases h9 : 9 ≤ dp
  · rw [if_pos h9] at hk
    subst hk
    have hr : 9 ≤ r := by
      rcases Nat.lt_or_ge r 9 with h | h
      · have : 10 ^ r ≤ 10 ^ 8 := Nat.pow_le_pow_right (by omega) (by omega)
        omega
      · exact h
    unfold mu1
    split <;> split <;> omega
  · rw [if_neg h9] at hk
    by_cases h2 : 2 ≤ r
    · unfold mu1
      split <;> split <;> omega
    · obtain rfl : r = 1 := by omega
      have ho := hone rfl
      by_cases hd1 : dp = 1
      · subst hd1
        have hk3 : k = 3 := by rw [hk]; rfl
        subst hk3
        unfold mu1
        rw [if_neg (by omega), if_pos (by omega)]
        omega
      · have hk6 : 6 ≤ k := by
          obtain ⟨m, rfl⟩ : ∃ m : Nat, dp = (m : Int) := ⟨dp.toNat, by omega⟩
          have hm : m = 2 ∨ m = 3 ∨ m = 4 ∨ m = 5 ∨ m = 6 ∨ m = 7 ∨ m = 8 := by omega
          rw [hk, Int.toNat_natCast]
          rcases hm with rfl | rfl | rfl | rfl | rfl | rfl | rfl <;> decide
        have : 2 ^ 6 ≤ 2 ^ k := Nat.pow_le_pow_right (by omega) hk6
        omega

/-- The second loop's step: by e digits. -/
theorem mu2_lt {dp : Int} {d0 d0' k e : Nat} (hp : dp ≤ 0) (hk : k = if 9 ≤ -dp then 27 else pw (-dp).toNat) (he : e = chD k ∨ e + 1 = chD k) (hf : e = 0 → 2 ^ k * (d0 - 48) ≤ d0' - 48) (hd : 49 ≤ d0 ∧ d0 ≤ 57) (hd' : 49 ≤ d0' ∧ d0' ≤ 57)
    (h3 : k = 3 → e = 0 → d0 ≤ 49) (h0 : dp = 0 → e = 0) : mu2 (dp + (e : Nat)) d0' < mu2 dp d0 := by
  obtain ⟨m, rfl⟩ : ∃ m : Nat, dp = -(m : Int) := ⟨(-dp).toNat, by omega⟩
  rw [Int.neg_neg, Int.toNat_natCast] at hk
  unfold mu2
  by_cases h9 : 9 ≤ m
  · rw [if_pos (by omega)] at hk
    have hc : chD k = 9 := by rw [hk]; rfl
    omega
  · rw [if_neg (by omega)] at hk
    have hm : m = 0 ∨ m = 1 ∨ (2 ≤ m ∧ m ≤ 8) := by omega
    rcases hm with rfl | rfl | hm
    · have hk1 : k = 1 := by rw [hk]; rfl
      have he0 := h0 (by omega)
      have := hf he0
      subst hk1
      omega
    · have hk3 : k = 3 := by rw [hk]; rfl
      have hc : chD k = 1 := by rw [hk3]; rfl
      rcases Nat.eq_zero_or_pos e with h | h
      · have := hf h
        have := h3 hk3 h
        subst hk3
        omega
      · omega
    · have hc : 2 ≤ chD k := by
        have hm' : m = 2 ∨ m = 3 ∨ m = 4 ∨ m = 5 ∨ m = 6 ∨ m = 7 ∨ m = 8 := by omega
        rw [hk]
        rcases hm' with rfl | rfl | rfl | rfl | rfl | rfl | rfl <;> decide
      omega
end Go.Proofs.YtpbombkmnfbcgaaGreatDoor
