/- The closed facts of the row and of the card of MarksParses. -/
import Derived.Test.YtpbombkmnfbcgaaGreatDoorRows
import Derived.SevenTiedAt
import Derived.JoinedOf
/- One closed fact of the cards': the program's looks. -/
namespace Go.Proofs.YtpbombkmnfbcgaaGreatDoor
set_option maxRecDepth 100000 in
theorem facts_looks : true = Tryz.pinned.checked.prog.looks [] := by kernel_rfl
end Go.Proofs.YtpbombkmnfbcgaaGreatDoor
/- One closed fact of the cards': the program's harness. -/
namespace Go.Proofs.YtpbombkmnfbcgaaGreatDoor
set_option maxRecDepth 100000 in
theorem facts_main : Tryz.pinned.checked.prog.mainIs = some (true, "50ee2bb5e752977b00f5bd89f2e75ef2e89b59b3090d2cb67f021fb64df60db5".toList) := by kernel_rfl
end Go.Proofs.YtpbombkmnfbcgaaGreatDoor
/- No function of the program's starts a goroutine. -/
namespace Go.Proofs.YtpbombkmnfbcgaaGreatDoor
set_option maxRecDepth 100000 in
theorem none_goes : (Tryz.pinned.checked.prog).funcs.any Func.goes = false := by kernel_rfl

theorem goes_none {P : Program} (h : P.funcs.any Func.goes = false) (f : FuncId) : P.goes f = false := by
  unfold Program.goes
  rw [h, Bool.and_false, Bool.or_false]
  rw [List.any_eq_false]
  intro g _
  cases hg : P.funcs[g]? with
  | none => simp
  | some fn =>
    have := Array.any_eq_false.1 h
    obtain ⟨hlt, he⟩ := Array.getElem?_eq_some_iff.1 hg
    have h2 := this g hlt
    rw [he] at h2
    simpa using h2

theorem goesBy_none {P : Program} {c : OpenClaim} (h : P.funcs.any Func.goes = false) (hs : c.start = .entering) : false = c.goesBy P := by
  have h2 : ∀ o : Option FuncId, o.any P.goes = false := fun o => by
    cases o with
    | none => rfl
    | some f => exact goes_none h f
  unfold OpenClaim.goesBy Program.goesAt Program.goesFrom
  rw [h2, hs]
  rfl

end Go.Proofs.YtpbombkmnfbcgaaGreatDoor
/- MarksParses: one closed fact of its row's. -/
namespace Go.Proofs.YtpbombkmnfbcgaaGreatDoor
set_option maxRecDepth 100000 in
theorem marksParses_inPlace : (Rows.marksParsesRow.inPlace == Program.inPlace Tryz.pinned.checked.prog 3) = true := by kernel_rfl
end Go.Proofs.YtpbombkmnfbcgaaGreatDoor
/- MarksParses: one closed fact of its row's. -/
namespace Go.Proofs.YtpbombkmnfbcgaaGreatDoor
set_option maxRecDepth 100000 in
theorem marksParses_unfollowed : (Rows.marksParsesRow.unfollowed == Program.unfollowed Tryz.pinned.checked.prog 3) = true := by kernel_rfl
end Go.Proofs.YtpbombkmnfbcgaaGreatDoor
/- MarksParses: one closed fact of its row's. -/
namespace Go.Proofs.YtpbombkmnfbcgaaGreatDoor
set_option maxRecDepth 100000 in
theorem marksParses_recurses : (Rows.marksParsesRow.recurses == Program.recurses Tryz.pinned.checked.prog 3) = true := by kernel_rfl
end Go.Proofs.YtpbombkmnfbcgaaGreatDoor
/- MarksParses: one closed fact of its row's. -/
namespace Go.Proofs.YtpbombkmnfbcgaaGreatDoor
set_option maxRecDepth 100000 in
theorem marksParses_named : (Rows.marksParsesRow.named == Program.varsNamed Tryz.pinned.checked.prog 3) = true := by kernel_rfl
end Go.Proofs.YtpbombkmnfbcgaaGreatDoor
/- MarksParses: one closed fact of its card's. -/
namespace Go.Proofs.YtpbombkmnfbcgaaGreatDoor
set_option maxRecDepth 100000 in
theorem marksParses_wf : Rows.marksParsesRow.wfByText (OpenSpec.ofChange Rows.marksParsesSpec) = true := by kernel_rfl
end Go.Proofs.YtpbombkmnfbcgaaGreatDoor
