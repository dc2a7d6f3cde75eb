/- JudgeMany: whatever the number, the law returns true: its tied card. -/
import Derived.Test.YtfjmpneipionmaaGreatDoorJgb
import Derived.Test.YtfjmpneipionmaaGreatDoorJca
import Derived.Test.YtfjmpneipionmaaGreatDoorJcb
import Derived.Test.YtfjmpneipionmaaGreatDoorJcc
import Derived.Test.YtfjmpneipionmaaGreatDoorJcd
import Derived.Test.YtfjmpneipionmaaGreatDoorTie
import Derived.Test.YtfjmpneipionmaaGreatDoorCards
namespace Go.Proofs.YtfjmpneipionmaaGreatDoor
open Go.ChangeShapes Go.WideShapes Go.ChangeAt Go.RowKit
open Go.ChangeMaps (open_string shut_string)


set_option maxRecDepth 100000 in
/-- The tied card of JudgeMany. -/
theorem judgeMany_card : Rows.JudgeManyCardSaid :=
  Claim7.holds_tied_plain_at .later [] [.data, .data, .data] true (true, "d10099eee1e781cbf30e2a01c5a67fd1298d8a9a0e2d6def5aea9adb5f83eac9") true judgeMany_holds (fun _ h => by cases h) facts_wf (fun _ h => by cases h) judgeMany_row_tie rfl ⟨rfl, rfl⟩ facts_main rfl
    (fun f fn hf hfn => by
      obtain rfl : f = 3 := Option.some.inj ((show Tryz.prog.funcNamed "primer/primerlaw29.JudgeMany" = some 3 by kernel_rfl).symm.trans hf) |>.symm
      obtain rfl : fn = Tryz.f3 := (Option.some.inj (Tryz.func3.symm.trans hfn)).symm
      exact ⟨facts_looks, fun j t ht => by
        rw [judgeMany_params] at ht
        have hm : t ∈ [3] := by simpa using Array.mem_of_getElem? ht
        have hall : ([3].all fun u => !Tryz.prog.wantsStandIn u) = true := by kernel_rfl
        exact (show Tryz.prog.wantsStandIn t = false by simpa using List.all_eq_true.1 hall t hm)⟩)
    facts_goes
#print axioms judgeMany_card
end Go.Proofs.YtfjmpneipionmaaGreatDoor
