/- ReplicaNone: whatever its arguments are, the law returns true: its row and its tied card; no conditions beyond the statement's own. -/
import Derived.Test.YtgdgoackmfbkbaaGreatDoorRr
import Derived.Test.YtgdgoackmfbkbaaGreatDoorRa
import Derived.Test.YtgdgoackmfbkbaaGreatDoorRb
import Derived.Test.YtgdgoackmfbkbaaGreatDoorRc
import Derived.Test.YtgdgoackmfbkbaaGreatDoorRd
import Derived.Test.YtgdgoackmfbkbaaGreatDoorRf
import Derived.Test.YtgdgoackmfbkbaaGreatDoorRg
import Derived.Test.YtgdgoackmfbkbaaGreatDoorRh
import Derived.Test.YtgdgoackmfbkbaaGreatDoorRe
import Derived.Test.YtgdgoackmfbkbaaGreatDoorFa
import Derived.Test.YtgdgoackmfbkbaaGreatDoorFb
import Derived.Test.YtgdgoackmfbkbaaGreatDoorFc
import Derived.Test.YtgdgoackmfbkbaaGreatDoorTie
import Derived.Test.YtgdgoackmfbkbaaGreatDoorCards
namespace Go.Proofs.YtgdgoackmfbkbaaGreatDoor
open Go.ChangeShapes Go.WideShapes Go.ChangeAt Go.RowKit
open Go.ChangeMaps (open_string shut_string)

theorem replicaNone_two {a b : Bool} (ha : a = true) (hb : b = true) : (a && b) = true := by rw [ha, hb]; rfl

set_option maxRecDepth 100000 in
theorem replicaNone_facts : joinedFacts Tryz.pinned.checked.prog 3 Tryz.f3 Rows.replicaNoneSpec Rows.replicaNoneRow = true := by
  unfold joinedFacts
  repeat' with_reducible apply replicaNone_two
  all_goals first
    | with_reducible exact replicaNone_inPlace
    | with_reducible exact replicaNone_unfollowed
    | with_reducible exact replicaNone_recurses
    | with_reducible exact replicaNone_named
    | with_reducible exact replicaNone_stops
    | with_reducible exact replicaNone_knobs
    | with_reducible exact replicaNone_heard
    | with_reducible exact replicaNone_enter
    | with_reducible exact replicaNone_lifts
    | with_reducible exact replicaNone_keys
    | with_reducible exact replicaNone_laidOut
    | with_reducible exact replicaNone_rowed
    | kernel_rfl

set_option maxRecDepth 100000 in
theorem replicaNone_holds : Rows.ReplicaNoneSaid :=
  OpenClaim.holds_of_wide 3 Tryz.f3 rfl rfl rfl rfl rfl rfl rfl ⟨rfl, rfl, rfl, rfl, rfl⟩ rfl rfl rfl rfl rfl (by kernel_rfl) Tryz.func3 replicaNone_facts
    (of_decide_eq_true (by kernel_rfl)) (by unfold Func.isWrapper; first | (rw [if_pos (by decide +kernel)]; kernel_rfl) | (rw [if_neg (by decide +kernel)]; exact ⟨rfl, rfl⟩))
    (fun os started H enc _ => replicaNone_lifted os started H enc)

theorem replicaNone_goes : false = Rows.replicaNoneRow.goesBy Tryz.pinned.checked.prog := goesBy_none none_goes rfl

set_option maxRecDepth 100000 in
/-- The tied card of ReplicaNone. -/
theorem replicaNone_card : Rows.ReplicaNoneCardSaid :=
  Claim7.holds_tied_plain_at .later [] [.data, .data, .data, .data] true (true, "9443ed5aefae3e344453eaef729eea401e1c1871ef0d031957822ae2274ae3a3") true replicaNone_holds (fun _ h => by cases h) replicaNone_wf (fun _ h => by cases h) replicaNone_row_tie rfl ⟨rfl, rfl⟩ facts_main rfl
    (fun f fn hf hfn => by
      obtain rfl : f = 3 := Option.some.inj ((show Tryz.prog.funcNamed "primer/primerlaw25.ReplicaNone" = some 3 by kernel_rfl).symm.trans hf) |>.symm
      obtain rfl : fn = Tryz.f3 := (Option.some.inj (Tryz.func3.symm.trans hfn)).symm
      exact ⟨facts_looks, fun j t ht => by
        rw [replicaNone_params] at ht
        have hm : t ∈ [3, 3, 3] := by simpa using Array.mem_of_getElem? ht
        have hall : ([3, 3, 3].all fun u => !Tryz.prog.wantsStandIn u) = true := by kernel_rfl
        exact (show Tryz.prog.wantsStandIn t = false by simpa using List.all_eq_true.1 hall t hm)⟩)
    replicaNone_goes
#print axioms replicaNone_card
end Go.Proofs.YtgdgoackmfbkbaaGreatDoor
