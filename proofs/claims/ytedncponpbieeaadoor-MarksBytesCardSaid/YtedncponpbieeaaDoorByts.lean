/- MarksBytes: whatever the word, the law returns true: the walk of the law's own function, its row and its tied card. -/
import Derived.Test.YtedncponpbieeaaDoorWlc
import Derived.Test.YtedncponpbieeaaDoorLaw
import Derived.Test.YtedncponpbieeaaDoorTie
import Derived.Test.YtedncponpbieeaaDoorCards
namespace Go.Proofs.YtedncponpbieeaaDoor
open Go.ChangeShapes Go.WideShapes Go.ChangeAt Go.RowKit
open Go.ChangeMaps (open_string shut_string)

set_option maxHeartbeats 800000 in
theorem bytes_any {w : World} (hL : laidMet Tryd.prog laid6 w) (n : Nat) (hn : n < 18446744073709551616) : Calls Tryd.prog 4 #[.int .u64 (n : Int)] w fun e w' => e = .returned (.bool true) ∧ Below w.heap.size w w' := by
  have hput : Hid (∀ w, Calls Tryd.prog 13 #[.float .f64 n] w fun e w' => e = .returned (.string ⟨⟨beL 8 (canN n)⟩⟩) ∧ Below w.heap.size w w') := fun w => put_any n hn w
  have hrput : Hid (∀ w, Calls Tryd.prog 16 #[.float .f64 n] w fun e w' => e = .returned (.string ⟨⟨beL 8 (canN n)⟩⟩) ∧ Below w.heap.size w w') := fun w => rput_any n hn w
  have hget : Hid (∀ w, Calls Tryd.prog 9 #[.string ⟨⟨beL 8 (canN n)⟩⟩] w fun e w' => e = .returned (.tuple #[.float .f64 (canN n), .int .i64 0]) ∧ w = w') := fun w => by
    have := get_any ⟨⟨beL 8 (canN n)⟩⟩ w
    rwa [get_put hn] at this
  have hcan : Hid (∀ w, Calls Tryd.prog 14 #[.float .f64 n] w fun e w' => e = .returned (.float .f64 (canN n)) ∧ w = w') := fun w => canon_any n w
  have hrcan : Hid (∀ w, Calls Tryd.prog 15 #[.float .f64 n] w fun e w' => e = .returned (.float .f64 (canN n)) ∧ w = w') := fun w => rcanon_any n hn w
  have hclamp : Hid (∀ w, Calls Tryd.prog 17 #[.float .f64 n] w fun e w' => e = .returned (.float .f64 (clampN n)) ∧ w = w') := fun w => clamp_any n w
  have hrclamp : Hid (∀ w, Calls Tryd.prog 18 #[.float .f64 n] w fun e w' => e = .returned (.float .f64 (clampN n)) ∧ w = w') := fun w => rclamp_any n hn w
  generalize hs : (⟨⟨beL 8 (canN n)⟩⟩ : ByteArray) = s at *
  clear hs hn
  generalize canN n = c at *
  generalize clampN n = d at *
  have r12 := run_of12'
  go_enter Tryd.func4, Tryd.ntmps4
  go_wp2_with (first
    | (go_at_call 8; refine (speaks_any hL).mono ?_; rintro e w' ⟨rfl, hB⟩)
    | (go_at_call 13; refine (hput.out _).mono ?_; rintro e w' ⟨rfl, hB1⟩)
    | (go_at_call 16; refine (hrput.out _).mono ?_; rintro e w' ⟨rfl, hB2⟩)
    | (go_at_call 9; refine (hget.out _).mono ?_; rintro e w' ⟨rfl, rfl⟩)
    | (go_at_call 14; refine (hcan.out _).mono ?_; rintro e w' ⟨rfl, rfl⟩)
    | (go_at_call 15; refine (hrcan.out _).mono ?_; rintro e w' ⟨rfl, rfl⟩)
    | (go_at_call 17; refine (hclamp.out _).mono ?_; rintro e w' ⟨rfl, rfl⟩)
    | (go_at_call 18; refine (hrclamp.out _).mono ?_; rintro e w' ⟨rfl, rfl⟩)
    | (go_at_call 11; refine (same_any _ _ _).mono ?_; rintro e w' ⟨rfl, rfl⟩))
  go_ret
  exact ⟨rfl, hB.trans ((hB1.mono hB.size).trans (hB2.mono (Nat.le_trans hB.size hB1.size)))⟩

theorem marksBytes_params : Tryd.f4.params = #[31] := by kernel_rfl

set_option maxRecDepth 100000 in
theorem marksBytes_lifted (os : Os) (started : os.Started) (H : Type) (enc : TypeId × Value → H) :
    ReturnsInHanded {} Tryd.checked os 4 .any (fun w args => (Rows.marksBytesSpec.pre enc Tryd.prog Tryd.f4 [] false w args ∧ laidMetH Tryd.prog laid6 w) ∧ sizedMet enc Tryd.prog Tryd.f4 (OpenSpec.ofChange Rows.marksBytesSpec) false w args)
      (Rows.marksBytesSpec.post enc Tryd.prog Tryd.f4 false true false false) := by
  refine returnsInHanded_of_change_and (C := Tryd.checked) (X := fun w _ => laidMetH Tryd.prog laid6 w) (fun _ _ _ hh h => h.of_heap hh) own started (by kernel_rfl) Tryd.func4
    (ChangeSpec.witness_shaped (enc := enc) (C := Tryd.checked) (os := os) (X := fun w _ => laidMetH Tryd.prog laid6 w) false (World.laidAll Tryd.prog os laid6) #[.int .u64 0] 8 (World.laidAll_os _ _ _)
      (World.shaped_of_ZipB (by kernel_rfl) (by kernel_rfl)) (by kernel_rfl) (by kernel_rfl) (by kernel_rfl)
      (by rw [MakeChecks.laidMetH_plain _ _ _ (by kernel_rfl)]; exact laidMet_laidAll _ (by kernel_rfl) (by kernel_rfl))) ?_
  intro W base args ds gs before hval0 hW _ _ hL _
  rw [MakeChecks.laidMetH_plain _ _ _ (by kernel_rfl)] at hL
  have hval : ∀ (j : Nat) t v, Tryd.f4.params[j]? = some t → args[j]? = some v → Value.okWide Tryd.prog W .any base t v := hval0
  have hW' := hW
  obtain ⟨p, q, hA0, hV, rfl, _, _⟩ := hW
  have hA : DataW.TrodAll enc Tryd.prog W 0 (fun _ => true) true Tryd.f4.params.toList args.toList ds p := hA0
  rw [marksBytes_params] at hA hval
  obtain ⟨v0, d0, rfl, rfl, h0⟩ := trodAll_one hA
  obtain ⟨rfl, rfl⟩ := trodVars_none hV
  obtain ⟨x, rfl, rfl, rfl, wx⟩ := open_int (show Tryd.prog.underlying 31 = some (.int .u64) by kernel_rfl) (hval 0 31 v0 rfl rfl) h0
  obtain ⟨n, rfl, hn⟩ : ∃ n : Nat, x = n ∧ n < 18446744073709551616 := by
    simp [Lit.wf, IntKind.min, IntKind.max, IntKind.signed, IntKind.bits] at wx
    exact ⟨x.toNat, by omega, by omega⟩
  refine (bytes_any hL n hn).mono fun e W' ⟨he, hB⟩ => ?_
  subst he
  exact ⟨_, rfl, law_post hW' hB rfl (by kernel_rfl) (by rw [marksBytes_params]; intro t ht; simp at ht; subst ht; exact ⟨by kernel_rfl, of_decide_eq_true (by kernel_rfl)⟩) rfl⟩

set_option maxRecDepth 100000 in
theorem marksBytes_holds : Rows.MarksBytesSaid :=
  OpenClaim.holds_of_wide 4 Tryd.f4 rfl rfl rfl rfl rfl rfl rfl ⟨rfl, rfl, rfl, rfl, rfl⟩ rfl rfl rfl rfl rfl (by kernel_rfl) Tryd.func4 (by kernel_rfl)
    (of_decide_eq_true (by kernel_rfl)) (by unfold Func.isWrapper; first | (rw [if_pos (by decide +kernel)]; kernel_rfl) | (rw [if_neg (by decide +kernel)]; exact ⟨rfl, rfl⟩))
    (fun os started H enc _ => marksBytes_lifted os started H enc)

set_option maxRecDepth 100000 in
/-- The tied card of MarksBytes. -/
theorem marksBytes_card : Rows.MarksBytesCardSaid :=
  Claim7.holds_tied_plain_at .later [] [.data, .data, .data, .data, .pinned, .pinned] true (true, "1ce948091edd7b375ee389bb1603a5ecb58184d77d40f76a849ffe32896e7fa2") false marksBytes_holds (fun _ h => by cases h) (by kernel_rfl) (fun _ h => by cases h) marksBytes_row_tie rfl ⟨rfl, rfl⟩ (by kernel_rfl) rfl
    (fun f fn hf hfn => by
      obtain rfl : f = 4 := Option.some.inj ((show Tryd.prog.funcNamed "primer/primerlaw02.MarksBytes" = some 4 by kernel_rfl).symm.trans hf) |>.symm
      obtain rfl : fn = Tryd.f4 := (Option.some.inj (Tryd.func4.symm.trans hfn)).symm
      exact ⟨by kernel_rfl, fun j t ht => by
        rw [marksBytes_params] at ht
        have hm : t ∈ [31] := by simpa using Array.mem_of_getElem? ht
        have hall : ([31].all fun u => !Tryd.prog.wantsStandIn u) = true := by kernel_rfl
        exact (show Tryd.prog.wantsStandIn t = false by simpa using List.all_eq_true.1 hall t hm)⟩)
    (by kernel_rfl)
#print axioms marksBytes_card
end Go.Proofs.YtedncponpbieeaaDoor
