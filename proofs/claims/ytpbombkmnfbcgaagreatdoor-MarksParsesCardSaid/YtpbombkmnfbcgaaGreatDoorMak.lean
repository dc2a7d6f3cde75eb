/- MarksParses: whatever its arguments are, the law returns true: its row and its tied card; no conditions beyond the statement's own. -/
import Derived.Test.YtpbombkmnfbcgaaGreatDoorMar
import Derived.Test.YtpbombkmnfbcgaaGreatDoorMaf
import Derived.Test.YtpbombkmnfbcgaaGreatDoorTie
import Derived.Test.YtpbombkmnfbcgaaGreatDoorCards
namespace Go.Proofs.YtpbombkmnfbcgaaGreatDoor
open Go.ChangeShapes Go.WideShapes Go.ChangeAt Go.RowKit
open Go.ChangeMaps (open_string shut_string)

theorem marksParses_two {a b : Bool} (ha : a = true) (hb : b = true) : (a && b) = true := by rw [ha, hb]; rfl

set_option maxRecDepth 100000 in
theorem marksParses_facts : joinedFacts Tryz.pinned.checked.prog 3 Tryz.f3 Rows.marksParsesSpec Rows.marksParsesRow = true := by
  unfold joinedFacts
  repeat' with_reducible apply marksParses_two
  all_goals first
    | with_reducible exact marksParses_inPlace
    | with_reducible exact marksParses_unfollowed
    | with_reducible exact marksParses_recurses
    | with_reducible exact marksParses_named
    | kernel_rfl

set_option maxRecDepth 100000 in
theorem marksParses_holds : Rows.MarksParsesSaid :=
  OpenClaim.holds_of_wide 3 Tryz.f3 rfl rfl rfl rfl rfl rfl rfl ⟨rfl, rfl, rfl, rfl, rfl⟩ rfl rfl rfl rfl rfl (by kernel_rfl) Tryz.func3 marksParses_facts
    (of_decide_eq_true (by kernel_rfl)) (by unfold Func.isWrapper; first | (rw [if_pos (by decide +kernel)]; kernel_rfl) | (rw [if_neg (by decide +kernel)]; exact ⟨rfl, rfl⟩))
    (fun os started H enc _ => marksParses_lifted os started H enc)

theorem marksParses_goes : false = Rows.marksParsesRow.goesBy Tryz.pinned.checked.prog := goesBy_none none_goes rfl

set_option maxRecDepth 100000 in
/-- The tied card of MarksParses. -/
theorem marksParses_card : Rows.MarksParsesCardSaid :=
  Claim7.holds_tied_plain_at .later [] [.data, .data, .widerDeep, .widerDeep, .data, .data, .data, .data, .data, .sentinel, .sentinel, .pinned, .pinned] true (true, "50ee2bb5e752977b00f5bd89f2e75ef2e89b59b3090d2cb67f021fb64df60db5") true marksParses_holds (fun _ h => by cases h) marksParses_wf (fun _ h => by cases h) marksParses_row_tie rfl ⟨rfl, rfl⟩ facts_main rfl
    (fun f fn hf hfn => by
      obtain rfl : f = 3 := Option.some.inj ((show Tryz.prog.funcNamed "primer/primerlaw02.MarksParses" = some 3 by kernel_rfl).symm.trans hf) |>.symm
      obtain rfl : fn = Tryz.f3 := (Option.some.inj (Tryz.func3.symm.trans hfn)).symm
      exact ⟨facts_looks, fun j t ht => by
        rw [marksParses_params] at ht
        have hm : t ∈ [9] := by simpa using Array.mem_of_getElem? ht
        have hall : ([9].all fun u => !Tryz.prog.wantsStandIn u) = true := by kernel_rfl
        exact (show Tryz.prog.wantsStandIn t = false by simpa using List.all_eq_true.1 hall t hm)⟩)
    marksParses_goes
#print axioms marksParses_card
end Go.Proofs.YtpbombkmnfbcgaaGreatDoor
