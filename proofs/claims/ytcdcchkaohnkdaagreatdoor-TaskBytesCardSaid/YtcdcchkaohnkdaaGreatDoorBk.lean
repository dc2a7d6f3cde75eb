/- TaskBytes: whatever its arguments are, the law returns true: its row and its tied card; no conditions beyond the statement's own. -/
import Derived.Test.YtcdcchkaohnkdaaGreatDoorBr
import Derived.Test.YtcdcchkaohnkdaaGreatDoorBa
import Derived.Test.YtcdcchkaohnkdaaGreatDoorBb
import Derived.Test.YtcdcchkaohnkdaaGreatDoorBc
import Derived.Test.YtcdcchkaohnkdaaGreatDoorBd
import Derived.Test.YtcdcchkaohnkdaaGreatDoorBe
import Derived.Test.YtcdcchkaohnkdaaGreatDoorFa
import Derived.Test.YtcdcchkaohnkdaaGreatDoorFb
import Derived.Test.YtcdcchkaohnkdaaGreatDoorFc
import Derived.Test.YtcdcchkaohnkdaaGreatDoorTie
import Derived.Test.YtcdcchkaohnkdaaGreatDoorCards
namespace Go.Proofs.YtcdcchkaohnkdaaGreatDoor
open Go.ChangeShapes Go.WideShapes Go.ChangeAt Go.RowKit
open Go.ChangeMaps (open_string shut_string)

theorem taskBytes_two {a b : Bool} (ha : a = true) (hb : b = true) : (a && b) = true := by rw [ha, hb]; rfl

set_option maxRecDepth 100000 in
theorem taskBytes_facts : joinedFacts Tryz.pinned.checked.prog 3 Tryz.f3 Rows.taskBytesSpec Rows.taskBytesRow = true := by
  unfold joinedFacts
  repeat' with_reducible apply taskBytes_two
  all_goals first
    | with_reducible exact taskBytes_inPlace
    | with_reducible exact taskBytes_unfollowed
    | with_reducible exact taskBytes_recurses
    | with_reducible exact taskBytes_named
    | kernel_rfl

set_option maxRecDepth 100000 in
theorem taskBytes_holds : Rows.TaskBytesSaid :=
  OpenClaim.holds_of_wide 3 Tryz.f3 rfl rfl rfl rfl rfl rfl rfl ⟨rfl, rfl, rfl, rfl, rfl⟩ rfl rfl rfl rfl rfl (by kernel_rfl) Tryz.func3 taskBytes_facts
    (of_decide_eq_true (by kernel_rfl)) (by unfold Func.isWrapper; first | (rw [if_pos (by decide +kernel)]; kernel_rfl) | (rw [if_neg (by decide +kernel)]; exact ⟨rfl, rfl⟩))
    (fun os started H enc _ => taskBytes_lifted os started H enc)

theorem taskBytes_goes : false = Rows.taskBytesRow.goesBy Tryz.pinned.checked.prog := goesBy_none none_goes rfl

set_option maxRecDepth 100000 in
/-- The tied card of TaskBytes. -/
theorem taskBytes_card : Rows.TaskBytesCardSaid :=
  Claim7.holds_tied_plain_at .later [] [.data, .data, .data] true (true, "a96bcf063ec7b28eb8b21e0d730c2bb7a1f38397f53345f1f595a76bddab0e74") true taskBytes_holds (fun _ h => by cases h) taskBytes_wf (fun _ h => by cases h) taskBytes_row_tie rfl ⟨rfl, rfl⟩ facts_main rfl
    (fun f fn hf hfn => by
      obtain rfl : f = 3 := Option.some.inj ((show Tryz.prog.funcNamed "primer/primerlaw20.TaskBytes" = some 3 by kernel_rfl).symm.trans hf) |>.symm
      obtain rfl : fn = Tryz.f3 := (Option.some.inj (Tryz.func3.symm.trans hfn)).symm
      exact ⟨facts_looks, fun j t ht => by
        rw [taskBytes_params] at ht
        have hm : t ∈ [25, 9] := by simpa using Array.mem_of_getElem? ht
        have hall : ([25, 9].all fun u => !Tryz.prog.wantsStandIn u) = true := by kernel_rfl
        exact (show Tryz.prog.wantsStandIn t = false by simpa using List.all_eq_true.1 hall t hm)⟩)
    taskBytes_goes
#print axioms taskBytes_card
end Go.Proofs.YtcdcchkaohnkdaaGreatDoor
