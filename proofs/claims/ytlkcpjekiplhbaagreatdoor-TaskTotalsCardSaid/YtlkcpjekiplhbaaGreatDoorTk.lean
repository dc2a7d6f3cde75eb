/- TaskTotals: whatever its arguments are, the law returns true: its row and its tied card; no conditions beyond the statement's own. -/
import Derived.Test.YtlkcpjekiplhbaaGreatDoorTr
import Derived.Test.YtlkcpjekiplhbaaGreatDoorTa
import Derived.Test.YtlkcpjekiplhbaaGreatDoorTb
import Derived.Test.YtlkcpjekiplhbaaGreatDoorTc
import Derived.Test.YtlkcpjekiplhbaaGreatDoorTd
import Derived.Test.YtlkcpjekiplhbaaGreatDoorTe
import Derived.Test.YtlkcpjekiplhbaaGreatDoorFa
import Derived.Test.YtlkcpjekiplhbaaGreatDoorFb
import Derived.Test.YtlkcpjekiplhbaaGreatDoorFc
import Derived.Test.YtlkcpjekiplhbaaGreatDoorTie
import Derived.Test.YtlkcpjekiplhbaaGreatDoorCards
namespace Go.Proofs.YtlkcpjekiplhbaaGreatDoor
open Go.ChangeShapes Go.WideShapes Go.ChangeAt Go.RowKit
open Go.ChangeMaps (open_string shut_string)

theorem taskTotals_two {a b : Bool} (ha : a = true) (hb : b = true) : (a && b) = true := by rw [ha, hb]; rfl

set_option maxRecDepth 100000 in
theorem taskTotals_facts : joinedFacts Tryz.pinned.checked.prog 3 Tryz.f3 Rows.taskTotalsSpec Rows.taskTotalsRow = true := by
  unfold joinedFacts
  repeat' with_reducible apply taskTotals_two
  all_goals first
    | with_reducible exact taskTotals_inPlace
    | with_reducible exact taskTotals_unfollowed
    | with_reducible exact taskTotals_recurses
    | with_reducible exact taskTotals_named
    | kernel_rfl

set_option maxRecDepth 100000 in
theorem taskTotals_holds : Rows.TaskTotalsSaid :=
  OpenClaim.holds_of_wide 3 Tryz.f3 rfl rfl rfl rfl rfl rfl rfl ⟨rfl, rfl, rfl, rfl, rfl⟩ rfl rfl rfl rfl rfl (by kernel_rfl) Tryz.func3 taskTotals_facts
    (of_decide_eq_true (by kernel_rfl)) (by unfold Func.isWrapper; first | (rw [if_pos (by decide +kernel)]; kernel_rfl) | (rw [if_neg (by decide +kernel)]; exact ⟨rfl, rfl⟩))
    (fun os started H enc _ => taskTotals_lifted os started H enc)

theorem taskTotals_goes : false = Rows.taskTotalsRow.goesBy Tryz.pinned.checked.prog := goesBy_none none_goes rfl

set_option maxRecDepth 100000 in
/-- The tied card of TaskTotals. -/
theorem taskTotals_card : Rows.TaskTotalsCardSaid :=
  Claim7.holds_tied_plain_at .later [] [.data, .data, .data] true (true, "7bfebce68c5ead4e8b01171865a99b673b59b0908be9160c35d66e7c1e0b4c96") true taskTotals_holds (fun _ h => by cases h) taskTotals_wf (fun _ h => by cases h) taskTotals_row_tie rfl ⟨rfl, rfl⟩ facts_main rfl
    (fun f fn hf hfn => by
      obtain rfl : f = 3 := Option.some.inj ((show Tryz.prog.funcNamed "primer/primerlaw20.TaskTotals" = some 3 by kernel_rfl).symm.trans hf) |>.symm
      obtain rfl : fn = Tryz.f3 := (Option.some.inj (Tryz.func3.symm.trans hfn)).symm
      exact ⟨facts_looks, fun j t ht => by
        rw [taskTotals_params] at ht
        have hm : t ∈ [22, 22] := by simpa using Array.mem_of_getElem? ht
        have hall : ([22, 22].all fun u => !Tryz.prog.wantsStandIn u) = true := by kernel_rfl
        exact (show Tryz.prog.wantsStandIn t = false by simpa using List.all_eq_true.1 hall t hm)⟩)
    taskTotals_goes
#print axioms taskTotals_card
end Go.Proofs.YtlkcpjekiplhbaaGreatDoor
