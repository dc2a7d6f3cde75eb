/- JudgeMany: its row. -/
import Derived.Test.YtfjmpneipionmaaGreatDoorJga
import Derived.Test.YtfjmpneipionmaaGreatDoorJfa
import Derived.Test.YtfjmpneipionmaaGreatDoorJfb
import Derived.Test.YtfjmpneipionmaaGreatDoorJfc
import Derived.Test.YtfjmpneipionmaaGreatDoorJfd
namespace Go.Proofs.YtfjmpneipionmaaGreatDoor
open Go.ChangeShapes Go.WideShapes Go.ChangeAt Go.RowKit
open Go.ChangeMaps (open_string shut_string)


theorem and_two {a b : Bool} (ha : a = true) (hb : b = true) : (a && b) = true := by rw [ha, hb]; rfl

set_option maxRecDepth 100000 in
theorem judgeMany_facts : joinedFacts Tryz.pinned.checked.prog 3 Tryz.f3 Rows.judgeManySpec Rows.judgeManyRow = true := by
  unfold joinedFacts
  repeat' with_reducible apply and_two
  all_goals first
    | with_reducible exact facts_inPlace
    | with_reducible exact facts_unfollowed
    | with_reducible exact facts_recurses
    | with_reducible exact facts_named
    | kernel_rfl

set_option maxRecDepth 100000 in
theorem judgeMany_holds : Rows.JudgeManySaid :=
  OpenClaim.holds_of_wide 3 Tryz.f3 rfl rfl rfl rfl rfl rfl rfl ⟨rfl, rfl, rfl, rfl, rfl⟩ rfl rfl rfl rfl rfl (by kernel_rfl) Tryz.func3 judgeMany_facts
    (of_decide_eq_true (by kernel_rfl)) (by unfold Func.isWrapper; first | (rw [if_pos (by decide +kernel)]; kernel_rfl) | (rw [if_neg (by decide +kernel)]; exact ⟨rfl, rfl⟩))
    (fun os started H enc _ => judgeMany_lifted os started H enc)
end Go.Proofs.YtfjmpneipionmaaGreatDoor
