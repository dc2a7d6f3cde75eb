/- A decimal's integer part, rounded. -/
import Derived.Test.YtpbombkmnfbcgaaGreatDoorRnd
namespace Go.Proofs.YtpbombkmnfbcgaaGreatDoor
open Go.RowKit

/-- An answer of 64 bits. -/
def IsU (e : Ending) : Prop := ∃ n : Nat, n < 18446744073709551616 ∧ e = .returned (.int .u64 (n : Nat))
theorem wrapU (z : Int) : ∃ n : Nat, n < 18446744073709551616 ∧ IntKind.u64.wrap z = (n : Int) := by
  rw [IntKind.wrap_u64]
  exact ⟨(z % 18446744073709551616).toNat, by omega, by omega⟩

set_option maxRecDepth 100000 in
set_option maxHeartbeats 1600000 in
theorem rint_any (B : Nat) (D : Nat → Nat) (nd : Nat) (dp : Int) (neg tr : Bool) (w : World) (hS : DecS B D nd dp neg tr w) (h8 : nd ≤ 800) (hn : -1000000000 ≤ dp) (hn2 : dp ≤ 1000000000) :
    Calls Tryz.prog 89 #[.pointer (some ⟨B, 0, none⟩)] w fun e w' => IsU e ∧ Below w.heap.size w w' := by
  have cN := hS.nd
  have cP := hS.dp
  have hSH : Hid (DecS B D nd dp neg tr w) := .mk hS
  have hup : Hid _ := .mk (up_any B D nd dp neg tr dp w hS h8 hn hn2)
  clear hS
  by_cases h20 : 20 < dp
  · go_enter Tryz.func89, Tryz.ntmps89
    go_wp2_with (fail)
    go_ret
    exact ⟨⟨18446744073709551615, by omega, rfl⟩, Below.refl _ _⟩
  go_enter Tryz.func89, Tryz.ntmps89
  go_wp2_with (fail)
  go_loopw [3, 4] (fun x y wr => wr = w ∧ ∃ i n : Nat, i ≤ 20 ∧ i ≤ nd ∧ x = .int .i64 (i : Nat) ∧ n < 18446744073709551616 ∧ y = .int .u64 (n : Nat)) (fun x _ _ => 20 - (intOf x).toNat)
  case atStart => exact ⟨rfl, 0, 0, by omega, by omega, rfl, by omega, rfl⟩
  case round =>
    obtain ⟨rfl, i, n, hi, hin, rfl, hn64, rfl⟩ := hrel
    by_cases hlt : (i : Int) < dp ∧ i < nd
    · obtain ⟨ha, hb⟩ := hlt
      have hbi : (i : Int) < (nd : Int) := by omega
      have ci := hSH.out.dig i (by omega)
      have hil : (i : Int) < 800 := by omega
      have hi20 : i < 20 := by omega
      go_wp2_with (fail)
      obtain ⟨m, hm, he⟩ := wrapU (IntKind.u64.wrap ((n : Int) * 10) + (((D i : Nat) : Int) - 48) % 256)
      exact ⟨⟨trivial, i + 1, m, by omega, by omega, congrArg _ (by omega), hm, congrArg _ he⟩, by simp [intOf]; omega⟩
    · by_cases ha : (i : Int) < dp
      · have hbi : ((i : Int) < (nd : Int)) = False := by simp; omega
        have hbn : (i < nd) = False := by simp; omega
        clear hlt
        go_wp2_with (fail)
        obtain ⟨wz, hwz⟩ : ∃ wz : World, wz = wr := ⟨wr, rfl⟩
        subst hwz
        go_loopw [3, 4] (fun x y wr => wr = wz ∧ ∃ i n : Nat, i ≤ 20 ∧ x = .int .i64 (i : Nat) ∧ n < 18446744073709551616 ∧ y = .int .u64 (n : Nat)) (fun x _ _ => 20 - (intOf x).toNat)
        case atStart => exact ⟨rfl, i, n, hi, rfl, hn64, rfl⟩
        case round =>
          obtain ⟨rfl, i, n, hi, rfl, hn64, rfl⟩ := hrel
          by_cases hc : (i : Int) < dp
          · have hi20 : i < 20 := by omega
            obtain ⟨m, hm, he⟩ := wrapU ((n : Int) * 10)
            go_wp2_with (fail)
            exact ⟨⟨trivial, i + 1, m, by omega, congrArg _ (by omega), hm, rfl⟩, by simp [intOf]; omega⟩
          · go_wp2_with (fail)
            go_at_call 81
            refine hup.out.mono ?_
            rintro e w1 ⟨⟨b, rfl⟩, hB⟩
            obtain ⟨m, hm, he⟩ := wrapU ((n : Int) + 1)
            cases b
            all_goals
              go_wp2_with (fail)
              go_ret
            · exact ⟨⟨n, hn64, rfl⟩, hB⟩
            · exact ⟨⟨m, hm, rfl⟩, hB⟩
      · clear hlt
        go_wp2_with (fail)
        obtain ⟨wz, hwz⟩ : ∃ wz : World, wz = wr := ⟨wr, rfl⟩
        subst hwz
        go_loopw [3, 4] (fun x y wr => wr = wz ∧ ∃ i n : Nat, i ≤ 20 ∧ x = .int .i64 (i : Nat) ∧ n < 18446744073709551616 ∧ y = .int .u64 (n : Nat)) (fun x _ _ => 20 - (intOf x).toNat)
        case atStart => exact ⟨rfl, i, n, hi, rfl, hn64, rfl⟩
        case round =>
          obtain ⟨rfl, i, n, hi, rfl, hn64, rfl⟩ := hrel
          by_cases hc : (i : Int) < dp
          · have hi20 : i < 20 := by omega
            obtain ⟨m, hm, he⟩ := wrapU ((n : Int) * 10)
            go_wp2_with (fail)
            exact ⟨⟨trivial, i + 1, m, by omega, congrArg _ (by omega), hm, rfl⟩, by simp [intOf]; omega⟩
          · go_wp2_with (fail)
            go_at_call 81
            refine hup.out.mono ?_
            rintro e w1 ⟨⟨b, rfl⟩, hB⟩
            obtain ⟨m, hm, he⟩ := wrapU ((n : Int) + 1)
            cases b
            all_goals
              go_wp2_with (fail)
              go_ret
            · exact ⟨⟨n, hn64, rfl⟩, hB⟩
            · exact ⟨⟨m, hm, rfl⟩, hB⟩
end Go.Proofs.YtpbombkmnfbcgaaGreatDoor
