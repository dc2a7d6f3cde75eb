/- Small functions on numbers: what each answers. -/
import Derived.Test.YtpbombkmnfbcgaaGreatDoorHex
import Derived.Test.YtpbombkmnfbcgaaGreatDoorShl
namespace Go.Proofs.YtpbombkmnfbcgaaGreatDoor
open Go.RowKit

theorem b2u_any (b : Bool) (w : World) : Calls Tryz.prog 58 #[.bool b] w fun e w' => e = .returned (.int .u64 (if b then 1 else 0)) ∧ w = w' := by
  go_enter Tryz.func58, Tryz.ntmps58
  cases b
  all_goals
    go_wp2_with (fail)
    go_ret
    exact ⟨rfl, rfl⟩
theorem b2i_any (b : Bool) (w : World) : Calls Tryz.prog 75 #[.bool b] w fun e w' => e = .returned (.int .i64 (if b then 1 else 0)) ∧ w = w' := by
  go_enter Tryz.func75, Tryz.ntmps75
  cases b
  all_goals
    go_wp2_with (fail)
    go_ret
    exact ⟨rfl, rfl⟩
theorem l2p_any (x : Int) (w : World) (h1 : -2000 ≤ x) (h2 : x ≤ 2000) : Calls Tryz.prog 68 #[.int .i64 x] w fun e w' => e = .returned (.int .i64 (x * 108853 / 32768)) ∧ w = w' := by
  go_enter Tryz.func68, Tryz.ntmps68
  go_wp2_with (fail)
  go_ret
  exact ⟨rfl, rfl⟩
theorem l10_any (x : Int) (w : World) (h1 : -2000 ≤ x) (h2 : x ≤ 2000) : Calls Tryz.prog 43 #[.int .i64 x] w fun e w' => e = .returned (.int .i64 (x * 78913 / 262144)) ∧ w = w' := by
  go_enter Tryz.func43, Tryz.ntmps43
  go_wp2_with (fail)
  go_ret
  exact ⟨rfl, rfl⟩
theorem skw_any (x : Int) (w : World) (h1 : -2000 ≤ x) (h2 : x ≤ 2000) : Calls Tryz.prog 66 #[.int .i64 x] w fun e w' => e = .returned (.int .i64 ((x * 631305 - 261663) / 2097152)) ∧ w = w' := by
  go_enter Tryz.func66, Tryz.ntmps66
  go_wp2_with (fail)
  go_ret
  exact ⟨rfl, rfl⟩
theorem umn_any (x : Nat) (w : World) (h1 : x ≤ 9007199254740992) : Calls Tryz.prog 76 #[.int .u64 (x : Nat)] w fun e w' => e = .returned (.int .u64 (IntKind.u64.wrap ((x : Int) * 4 - 2))) ∧ w = w' := by
  go_enter Tryz.func76, Tryz.ntmps76
  go_wp2_with (fail)
  go_ret
  exact ⟨rfl, rfl⟩
theorem flo_any (x : Int) (w : World) : Calls Tryz.prog 72 #[.int .u64 x] w fun e w' => e = .returned (.int .u64 (IntKind.u64.wrap x / 4)) ∧ w = w' := by
  go_enter Tryz.func72, Tryz.ntmps72
  go_wp2_with (fail)
  go_ret
  exact ⟨rfl, rfl⟩
theorem cei_any (x : Int) (w : World) : Calls Tryz.prog 71 #[.int .u64 x] w fun e w' => e = .returned (.int .u64 (IntKind.u64.wrap (x + 3) / 4)) ∧ w = w' := by
  go_enter Tryz.func71, Tryz.ntmps71
  go_wp2_with (fail)
  go_ret
  exact ⟨rfl, rfl⟩
theorem rou_any (x : Int) (w : World) : Calls Tryz.prog 73 #[.int .u64 x] w fun e w' => e = .returned (.int .u64 (IntKind.u64.wrap (IntKind.u64.wrap (x + 1) + bits .and .u64 (x / 4) 1) / 4)) ∧ w = w' := by
  go_enter Tryz.func73, Tryz.ntmps73
  go_wp2_with (fail)
  go_ret
  exact ⟨rfl, rfl⟩
theorem nud_any (x z : Int) (w : World) : Calls Tryz.prog 70 #[.int .u64 x, .int .i64 z] w fun e w' => e = .returned (.int .u64 (IntKind.u64.wrap (x + IntKind.u64.wrap z))) ∧ w = w' := by
  go_enter Tryz.func70, Tryz.ntmps70
  go_wp2_with (fail)
  go_ret
  exact ⟨rfl, rfl⟩
end Go.Proofs.YtpbombkmnfbcgaaGreatDoor
