/- MarksMeans: whatever the marks, the weights and the numbers, the law returns true: its row and its tied card. -/
import Derived.Test.YtedncponpbieeaaDoorMlw
import Derived.Test.YtedncponpbieeaaDoorOpn
import Derived.WideKeyPair
import Derived.Test.YtedncponpbieeaaDoorLaw
import Derived.Test.YtedncponpbieeaaDoorTie
import Derived.Test.YtedncponpbieeaaDoorCards
namespace Go.Proofs.YtedncponpbieeaaDoor
open Go.ChangeShapes Go.WideShapes Go.ChangeAt Go.RowKit
open Go.ChangeMaps (open_string shut_string)


theorem marksMeans_params : Tryd.f5.params = #[36, 36, 37] := by kernel_rfl

set_option maxRecDepth 100000 in
theorem marksMeans_lifted (os : Os) (started : os.Started) (H : Type) (enc : TypeId × Value → H) :
    ReturnsInHanded {} Tryd.checked os 5 .any (fun w args => (Rows.marksMeansSpec.pre enc Tryd.prog Tryd.f5 [] false w args ∧ laidMetH Tryd.prog laid6 w) ∧ sizedMet enc Tryd.prog Tryd.f5 (OpenSpec.ofChange Rows.marksMeansSpec) false w args)
      (Rows.marksMeansSpec.post enc Tryd.prog Tryd.f5 false true false false) := by
  refine returnsInHanded_of_change_and (C := Tryd.checked) (X := fun w _ => laidMetH Tryd.prog laid6 w) (fun _ _ _ hh h => h.of_heap hh) own started (by kernel_rfl) Tryd.func5
    (ChangeSpec.witness_shaped (enc := enc) (C := Tryd.checked) (os := os) (X := fun w _ => laidMetH Tryd.prog laid6 w) false (World.laidAll Tryd.prog os laid6) #[.slice none 0 0, .slice none 0 0, .agg #[.int .i64 0, .int .i64 0]] 8 (World.laidAll_os _ _ _)
      (World.shaped_of_ZipB (by kernel_rfl) (by kernel_rfl)) (by kernel_rfl) (by kernel_rfl) (by kernel_rfl)
      (by rw [MakeChecks.laidMetH_plain _ _ _ (by kernel_rfl)]; exact laidMet_laidAll _ (by kernel_rfl) (by kernel_rfl))) ?_
  intro W base args ds gs before hval0 hW _ _ hL _
  rw [MakeChecks.laidMetH_plain _ _ _ (by kernel_rfl)] at hL
  have hval : ∀ (j : Nat) t v, Tryd.f5.params[j]? = some t → args[j]? = some v → Value.okWide Tryd.prog W .any base t v := hval0
  have hW' := hW
  obtain ⟨p, q, hA0, hV, rfl, _, _⟩ := hW
  have hA : DataW.TrodAll enc Tryd.prog W 0 (fun _ => true) true Tryd.f5.params.toList args.toList ds p := hA0
  rw [marksMeans_params] at hA hval
  obtain ⟨v0, v1, v2, d0, d1, d2, p0, p1, p2, rfl, rfl, rfl, h0, h1, h2⟩ := trodAll_three hA
  obtain ⟨rfl, rfl⟩ := trodVars_none hV

  obtain ⟨fuel0, hf0⟩ := h0
  obtain ⟨fuel1, hf1⟩ := h1
  obtain ⟨a0, len0, cap0, rfl⟩ := okWide_slice (show Tryd.prog.underlying 36 = some (.slice 31) by kernel_rfl) (hval 0 36 v0 rfl rfl)
  obtain ⟨a1, len1, cap1, rfl⟩ := okWide_slice (show Tryd.prog.underlying 36 = some (.slice 31) by kernel_rfl) (hval 1 36 v1 rfl rfl)
  obtain ⟨vs, hvs, hv64, rfl⟩ := words_open hf0
  obtain ⟨ws, hws, hw64, rfl⟩ := words_open hf1
  obtain ⟨x, y, rfl, _⟩ := Go.WideMaps.open_pair (show Go.WideMaps.ArrKey Tryd.prog 37 3 2 from ⟨by kernel_rfl, by kernel_rfl, by kernel_rfl, by kernel_rfl⟩) (show Tryd.prog.underlying 3 = some (.int .i64) by kernel_rfl) (hval 2 37 v2 rfl rfl) h2

  refine (means_any hL a0 a1 cap0 cap1 vs ws x y hvs hws hv64 hw64).mono fun e W' ⟨he, hB⟩ => ?_
  subst he
  exact ⟨_, rfl, law_post hW' hB rfl (by kernel_rfl) (by rw [marksMeans_params]; intro t ht; simp at ht; rcases ht with rfl | rfl | rfl <;> exact ⟨by kernel_rfl, of_decide_eq_true (by kernel_rfl)⟩) rfl⟩

set_option maxRecDepth 100000 in
theorem marksMeans_holds : Rows.MarksMeansSaid :=
  OpenClaim.holds_of_wide 5 Tryd.f5 rfl rfl rfl rfl rfl rfl rfl ⟨rfl, rfl, rfl, rfl, rfl⟩ rfl rfl rfl rfl rfl (by kernel_rfl) Tryd.func5 (by kernel_rfl)
    (of_decide_eq_true (by kernel_rfl)) (by unfold Func.isWrapper; first | (rw [if_pos (by decide +kernel)]; kernel_rfl) | (rw [if_neg (by decide +kernel)]; exact ⟨rfl, rfl⟩))
    (fun os started H enc _ => marksMeans_lifted os started H enc)

set_option maxRecDepth 100000 in
/-- The tied card of MarksMeans. -/
theorem marksMeans_card : Rows.MarksMeansCardSaid :=
  Claim7.holds_tied_plain_at .later [] [.data, .data, .data, .data, .pinned, .pinned] true (true, "1ce948091edd7b375ee389bb1603a5ecb58184d77d40f76a849ffe32896e7fa2") false marksMeans_holds (fun _ h => by cases h) (by kernel_rfl) (fun _ h => by cases h) marksMeans_row_tie rfl ⟨rfl, rfl⟩ (by kernel_rfl) rfl
    (fun f fn hf hfn => by
      obtain rfl : f = 5 := Option.some.inj ((show Tryd.prog.funcNamed "primer/primerlaw02.MarksMeans" = some 5 by kernel_rfl).symm.trans hf) |>.symm
      obtain rfl : fn = Tryd.f5 := (Option.some.inj (Tryd.func5.symm.trans hfn)).symm
      exact ⟨by kernel_rfl, fun j t ht => by
        rw [marksMeans_params] at ht
        have hm : t ∈ [36, 36, 37] := by simpa using Array.mem_of_getElem? ht
        have hall : ([36, 36, 37].all fun u => !Tryd.prog.wantsStandIn u) = true := by kernel_rfl
        exact (show Tryd.prog.wantsStandIn t = false by simpa using List.all_eq_true.1 hall t hm)⟩)
    (by kernel_rfl)
#print axioms marksMeans_card
end Go.Proofs.YtedncponpbieeaaDoor
