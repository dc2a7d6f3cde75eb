/- A decimal's integer part. -/
import Derived.Test.YtpbombkmnfbcgaaGreatDoorShf
namespace Go.Proofs.YtpbombkmnfbcgaaGreatDoor
open Go.RowKit

/-- An answer yes or no. -/
def IsB (e : Ending) : Prop := ∃ b, e = .returned (.bool b)

set_option maxRecDepth 100000 in
set_option maxHeartbeats 1600000 in
theorem up_any (B : Nat) (D : Nat → Nat) (nd : Nat) (dp : Int) (neg tr : Bool) (n : Int) (w : World) (hS : DecS B D nd dp neg tr w) (h8 : nd ≤ 800) (hn : -1000000000 ≤ n) (hn2 : n ≤ 1000000000) :
    Calls Tryz.prog 81 #[.pointer (some ⟨B, 0, none⟩), .int .i64 n] w fun e w' => IsB e ∧ Below w.heap.size w w' := by
  have cN := hS.nd
  have cT := hS.tr
  have hSH : Hid (DecS B D nd dp neg tr w) := .mk hS
  clear hS
  by_cases hneg : n < 0
  · go_enter Tryz.func81, Tryz.ntmps81
    go_wp2_with (fail)
    go_ret
    exact ⟨⟨_, rfl⟩, Below.refl _ _⟩
  obtain ⟨i, rfl⟩ : ∃ i : Nat, n = (i : Int) := ⟨n.toNat, by omega⟩
  by_cases hge : nd ≤ i
  · have hgi : ((nd : Int) ≤ (i : Int)) = True := by simp; omega
    go_enter Tryz.func81, Tryz.ntmps81
    go_wp2_with (fail)
    go_ret
    exact ⟨⟨_, rfl⟩, Below.refl _ _⟩
  have hgi : (nd ≤ i) = False := by simp; omega
  have hi8 : i < 800 := by omega
  have hil : (i : Int) < 800 := by omega
  have ci := hSH.out.dig i hi8
  by_cases h53 : D i = 53
  · rw [h53] at ci
    by_cases hlast : i + 1 = nd
    · subst hlast
      clear hge hgi hneg hn hn2
      cases tr with
      | true =>
        go_enter Tryz.func81, Tryz.ntmps81
        go_wp2_with (fail)
        go_ret
        exact ⟨⟨_, rfl⟩, Below.refl _ _⟩
      | false =>
        rcases Nat.eq_zero_or_pos i with rfl | hip
        · go_enter Tryz.func81, Tryz.ntmps81
          go_wp2_with (fail)
          go_ret
          exact ⟨⟨_, rfl⟩, Below.refl _ _⟩
        · obtain ⟨j, rfl⟩ : ∃ j, i = j + 1 := ⟨i - 1, by omega⟩
          have cj := hSH.out.dig j (by omega)
          have hjl : (j : Int) < 800 := by omega
          have hj1 : (j : Int) + 1 < 800 := by omega
          have hwj : IntKind.i64.wrap (j : Int) = (j : Int) := wi64 (by omega) (by omega)
          clear hil hip h53
          go_enter Tryz.func81, Tryz.ntmps81
          go_wp2_with (fail)
          go_ret
          exact ⟨⟨_, rfl⟩, Below.refl _ _⟩
    · have hli : ((i : Int) + 1 == (nd : Int)) = false := beq_ne (by omega)
      go_enter Tryz.func81, Tryz.ntmps81
      go_wp2_with (fail)
      go_ret
      exact ⟨⟨_, rfl⟩, Below.refl _ _⟩
  · have hne : (((D i : Nat) : Int) == 53) = false := beq_ne (by omega)
    go_enter Tryz.func81, Tryz.ntmps81
    go_wp2_with (fail)
    go_ret
    exact ⟨⟨_, rfl⟩, Below.refl _ _⟩
end Go.Proofs.YtpbombkmnfbcgaaGreatDoor
