/- OplogAgrees: whatever its arguments are, the law returns true: its row and its tied card; no conditions beyond the statement's own. -/
import Derived.Test.YtekmkmidjoenoaaGreatDoorOr
import Derived.Test.YtekmkmidjoenoaaGreatDoorOa
import Derived.Test.YtekmkmidjoenoaaGreatDoorOb
import Derived.Test.YtekmkmidjoenoaaGreatDoorOc
import Derived.Test.YtekmkmidjoenoaaGreatDoorOd
import Derived.Test.YtekmkmidjoenoaaGreatDoorOe
import Derived.Test.YtekmkmidjoenoaaGreatDoorFa
import Derived.Test.YtekmkmidjoenoaaGreatDoorFb
import Derived.Test.YtekmkmidjoenoaaGreatDoorFc
import Derived.Test.YtekmkmidjoenoaaGreatDoorTie
import Derived.Test.YtekmkmidjoenoaaGreatDoorCards
namespace Go.Proofs.YtekmkmidjoenoaaGreatDoor
open Go.ChangeShapes Go.WideShapes Go.ChangeAt Go.RowKit
open Go.ChangeMaps (open_string shut_string)

theorem oplogAgrees_two {a b : Bool} (ha : a = true) (hb : b = true) : (a && b) = true := by rw [ha, hb]; rfl

set_option maxRecDepth 100000 in
theorem oplogAgrees_facts : joinedFacts Tryz.pinned.checked.prog 3 Tryz.f3 Rows.oplogAgreesSpec Rows.oplogAgreesRow = true := by
  unfold joinedFacts
  repeat' with_reducible apply oplogAgrees_two
  all_goals first
    | with_reducible exact oplogAgrees_inPlace
    | with_reducible exact oplogAgrees_unfollowed
    | with_reducible exact oplogAgrees_recurses
    | with_reducible exact oplogAgrees_named
    | kernel_rfl

set_option maxRecDepth 100000 in
theorem oplogAgrees_holds : Rows.OplogAgreesSaid :=
  OpenClaim.holds_of_wide 3 Tryz.f3 rfl rfl rfl rfl rfl rfl rfl ⟨rfl, rfl, rfl, rfl, rfl⟩ rfl rfl rfl rfl rfl (by kernel_rfl) Tryz.func3 oplogAgrees_facts
    (of_decide_eq_true (by kernel_rfl)) (by unfold Func.isWrapper; first | (rw [if_pos (by decide +kernel)]; kernel_rfl) | (rw [if_neg (by decide +kernel)]; exact ⟨rfl, rfl⟩))
    (fun os started H enc _ => oplogAgrees_lifted os started H enc)

theorem oplogAgrees_goes : false = Rows.oplogAgreesRow.goesBy Tryz.pinned.checked.prog := goesBy_none none_goes rfl

set_option maxRecDepth 100000 in
/-- The tied card of OplogAgrees. -/
theorem oplogAgrees_card : Rows.OplogAgreesCardSaid :=
  Claim7.holds_tied_plain_at .later [] [.data, .data, .data] true (true, "aea0b250bdc9ea5789316910ba8199b9c3acd48cea4a84f2e0345d1408f2430c") true oplogAgrees_holds (fun _ h => by cases h) oplogAgrees_wf (fun _ h => by cases h) oplogAgrees_row_tie rfl ⟨rfl, rfl⟩ facts_main rfl
    (fun f fn hf hfn => by
      obtain rfl : f = 3 := Option.some.inj ((show Tryz.prog.funcNamed "primer/primerlaw24.OplogAgrees" = some 3 by kernel_rfl).symm.trans hf) |>.symm
      obtain rfl : fn = Tryz.f3 := (Option.some.inj (Tryz.func3.symm.trans hfn)).symm
      exact ⟨facts_looks, fun j t ht => by
        rw [oplogAgrees_params] at ht
        have hm : t ∈ [22, 22, 3] := by simpa using Array.mem_of_getElem? ht
        have hall : ([22, 22, 3].all fun u => !Tryz.prog.wantsStandIn u) = true := by kernel_rfl
        exact (show Tryz.prog.wantsStandIn t = false by simpa using List.all_eq_true.1 hall t hm)⟩)
    oplogAgrees_goes
#print axioms oplogAgrees_card
end Go.Proofs.YtekmkmidjoenoaaGreatDoor
