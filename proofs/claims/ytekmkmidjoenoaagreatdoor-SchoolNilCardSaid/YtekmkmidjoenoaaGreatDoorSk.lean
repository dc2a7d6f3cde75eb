/- SchoolNil: whatever its arguments are, the law returns true: its row and its tied card; no conditions beyond the statement's own. -/
import Derived.Test.YtekmkmidjoenoaaGreatDoorSr
import Derived.Test.YtekmkmidjoenoaaGreatDoorSa
import Derived.Test.YtekmkmidjoenoaaGreatDoorSb
import Derived.Test.YtekmkmidjoenoaaGreatDoorSc
import Derived.Test.YtekmkmidjoenoaaGreatDoorSd
import Derived.Test.YtekmkmidjoenoaaGreatDoorSe
import Derived.Test.YtekmkmidjoenoaaGreatDoorFa
import Derived.Test.YtekmkmidjoenoaaGreatDoorFb
import Derived.Test.YtekmkmidjoenoaaGreatDoorFc
import Derived.Test.YtekmkmidjoenoaaGreatDoorTie
import Derived.Test.YtekmkmidjoenoaaGreatDoorCards
namespace Go.Proofs.YtekmkmidjoenoaaGreatDoor
open Go.ChangeShapes Go.WideShapes Go.ChangeAt Go.RowKit
open Go.ChangeMaps (open_string shut_string)

theorem schoolNil_two {a b : Bool} (ha : a = true) (hb : b = true) : (a && b) = true := by rw [ha, hb]; rfl

set_option maxRecDepth 100000 in
theorem schoolNil_facts : joinedFacts Tryz.pinned.checked.prog 4 Tryz.f4 Rows.schoolNilSpec Rows.schoolNilRow = true := by
  unfold joinedFacts
  repeat' with_reducible apply schoolNil_two
  all_goals first
    | with_reducible exact schoolNil_inPlace
    | with_reducible exact schoolNil_unfollowed
    | with_reducible exact schoolNil_recurses
    | with_reducible exact schoolNil_named
    | kernel_rfl

set_option maxRecDepth 100000 in
theorem schoolNil_holds : Rows.SchoolNilSaid :=
  OpenClaim.holds_of_wide 4 Tryz.f4 rfl rfl rfl rfl rfl rfl rfl ⟨rfl, rfl, rfl, rfl, rfl⟩ rfl rfl rfl rfl rfl (by kernel_rfl) Tryz.func4 schoolNil_facts
    (of_decide_eq_true (by kernel_rfl)) (by unfold Func.isWrapper; first | (rw [if_pos (by decide +kernel)]; kernel_rfl) | (rw [if_neg (by decide +kernel)]; exact ⟨rfl, rfl⟩))
    (fun os started H enc _ => schoolNil_lifted os started H enc)

theorem schoolNil_goes : false = Rows.schoolNilRow.goesBy Tryz.pinned.checked.prog := goesBy_none none_goes rfl

set_option maxRecDepth 100000 in
/-- The tied card of SchoolNil. -/
theorem schoolNil_card : Rows.SchoolNilCardSaid :=
  Claim7.holds_tied_plain_at .later [] [.data, .data, .data] true (true, "aea0b250bdc9ea5789316910ba8199b9c3acd48cea4a84f2e0345d1408f2430c") true schoolNil_holds (fun _ h => by cases h) schoolNil_wf (fun _ h => by cases h) schoolNil_row_tie rfl ⟨rfl, rfl⟩ facts_main rfl
    (fun f fn hf hfn => by
      obtain rfl : f = 4 := Option.some.inj ((show Tryz.prog.funcNamed "primer/primerlaw22.SchoolNil" = some 4 by kernel_rfl).symm.trans hf) |>.symm
      obtain rfl : fn = Tryz.f4 := (Option.some.inj (Tryz.func4.symm.trans hfn)).symm
      exact ⟨facts_looks, fun j t ht => by
        rw [schoolNil_params] at ht
        have hm : t ∈ [3] := by simpa using Array.mem_of_getElem? ht
        have hall : ([3].all fun u => !Tryz.prog.wantsStandIn u) = true := by kernel_rfl
        exact (show Tryz.prog.wantsStandIn t = false by simpa using List.all_eq_true.1 hall t hm)⟩)
    schoolNil_goes
#print axioms schoolNil_card
end Go.Proofs.YtekmkmidjoenoaaGreatDoor
