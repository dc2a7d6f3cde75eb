/- MarksShows: whatever its arguments are, the law returns true: its row and its tied card; no conditions beyond the statement's own. -/
import Derived.Test.YthhmimlfiaboeaaGreatDoorMar
import Derived.Test.YthhmimlfiaboeaaGreatDoorFa
import Derived.Test.YthhmimlfiaboeaaGreatDoorTie
import Derived.Test.YthhmimlfiaboeaaGreatDoorCards
namespace Go.Proofs.YthhmimlfiaboeaaGreatDoor
open Go.ChangeShapes Go.WideShapes Go.ChangeAt Go.RowKit
open Go.ChangeMaps (open_string shut_string)

theorem marksShows_two {a b : Bool} (ha : a = true) (hb : b = true) : (a && b) = true := by rw [ha, hb]; rfl

set_option maxRecDepth 100000 in
theorem marksShows_facts : joinedFacts Tryz.pinned.checked.prog 3 Tryz.f3 Rows.marksShowsSpec Rows.marksShowsRow = true := by
  unfold joinedFacts
  repeat' with_reducible apply marksShows_two
  all_goals first
    | with_reducible exact marksShows_inPlace
    | with_reducible exact marksShows_unfollowed
    | with_reducible exact marksShows_recurses
    | with_reducible exact marksShows_named
    | kernel_rfl

set_option maxRecDepth 100000 in
theorem marksShows_holds : Rows.MarksShowsSaid :=
  OpenClaim.holds_of_wide 3 Tryz.f3 rfl rfl rfl rfl rfl rfl rfl ⟨rfl, rfl, rfl, rfl, rfl⟩ rfl rfl rfl rfl rfl (by kernel_rfl) Tryz.func3 marksShows_facts
    (of_decide_eq_true (by kernel_rfl)) (by unfold Func.isWrapper; first | (rw [if_pos (by decide +kernel)]; kernel_rfl) | (rw [if_neg (by decide +kernel)]; exact ⟨rfl, rfl⟩))
    (fun os started H enc _ => marksShows_lifted os started H enc)

theorem marksShows_goes : false = Rows.marksShowsRow.goesBy Tryz.pinned.checked.prog := goesBy_none none_goes rfl

set_option maxRecDepth 100000 in
/-- The tied card of MarksShows. -/
theorem marksShows_card : Rows.MarksShowsCardSaid :=
  Claim7.holds_tied_plain_at .later [] [.data, .data, .widerDeep, .widerDeep, .data, .data, .data, .data, .data, .sentinel, .sentinel, .pinned, .pinned] true (true, "e9b09add0fea64547a42993e03f8a5750fc475fc2f6a4d6565ade89d8dd65e1e") true marksShows_holds (fun _ h => by cases h) marksShows_wf (fun _ h => by cases h) marksShows_row_tie rfl ⟨rfl, rfl⟩ facts_main rfl
    (fun f fn hf hfn => by
      obtain rfl : f = 3 := Option.some.inj ((show Tryz.prog.funcNamed "primer/primerlaw02.MarksShows" = some 3 by kernel_rfl).symm.trans hf) |>.symm
      obtain rfl : fn = Tryz.f3 := (Option.some.inj (Tryz.func3.symm.trans hfn)).symm
      exact ⟨facts_looks, fun j t ht => by
        rw [marksShows_params] at ht
        have hm : t ∈ [22] := by simpa using Array.mem_of_getElem? ht
        have hall : ([22].all fun u => !Tryz.prog.wantsStandIn u) = true := by kernel_rfl
        exact (show Tryz.prog.wantsStandIn t = false by simpa using List.all_eq_true.1 hall t hm)⟩)
    marksShows_goes
#print axioms marksShows_card
end Go.Proofs.YthhmimlfiaboeaaGreatDoor
