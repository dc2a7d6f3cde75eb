/- The walk of the function of JudgeMany: sixteen closed runs behind its first regions. -/
import Derived.Test.YtfjmpneipionmaaGreatDoorSpk
import Derived.WalkKit
import Derived.Laws.BitsLemmas
namespace Go.Proofs.YtfjmpneipionmaaGreatDoor
open Go.RowKit Go.Ev

theorem i64_and15 (n : Int) : bits .and .i64 n 15 = n % 16 := by
  have h15 : (BitVec.ofInt 64 15).toNat = 2 ^ 4 - 1 := by decide
  have key : (BitVec.ofInt 64 n &&& BitVec.ofInt 64 15).toNat = (n % ((2 ^ 64 : Nat) : Int)).toNat % 2 ^ 4 := by
    rw [BitVec.toNat_and, BitVec.toNat_ofInt, h15, Nat.and_two_pow_sub_one_eq_mod]
  show IntKind.i64.wrap ((BitVec.ofInt 64 n &&& BitVec.ofInt 64 15).toNat : Nat) = n % 16
  rw [key, IntKind.wrap_i64]
  omega

/-- The loop and what stands behind it, run one behind the other. -/
noncomputable def runTwo (c1 c2 : Code) (tm : T Value) : Bool :=
  match evalCode Tryz.prog 100 glob ext (evalCall Tryz.prog 100 glob ext 100000 60) 36 1000 c1 tm ⟨.nil, .nil, 100⟩ with
  | some (.exit 0, tm1, st1) => match evalCode Tryz.prog 100 glob ext (evalCall Tryz.prog 100 glob ext 100000 60) 36 1000 c2 tm1 st1 with
    | some (.ret, tm2, _) => match tm2.get 2 with
      | some (.bool true) => true
      | _ => false
    | _ => false
  | _ => false

theorem run_two {c1 c2 : Code} {l : List Value} (h : runTwo c1 c2 (T.lay .nil 0 l) = true) {w : World} (hf : flatL l = true) (hl : l.length = 36) {Q1 Q2 : Exit → Act → World → Prop}
    (hK : ∀ a w, c2.wp Tryz.prog Q2 a w → Q1 (.exit 0) a w) (hend : ∀ a' w', a'.defers = [] → a'.tmps.getD 2 undef = .bool true → Below w.heap.size w w' → Q2 .ret a' w') : c1.wp Tryz.prog Q1 ⟨l.toArray, []⟩ w := by
  have ha : ∀ φ, ActRel 100 100 φ (T.lay .nil 0 l) 36 ⟨l.toArray, []⟩ := fun φ => by rw [← hl]; exact actRel_lay hf
  have hm : Tryz.prog.follows .mixedOrders = true := by kernel_rfl
  unfold runTwo at h
  split at h
  · rename_i tm1 st1 h1
    split at h
    · rename_i tm2 st2 h2
      split at h
      · rename_i hb
        refine code_run hm ext_ok h1 (R.start (w := w) (g := glob) (G := 100) (fun b o u h => by cases h)) (ha _) fun a1 w1 φ1 hA1 hR1 hT1 => ?_
        refine hK a1 w1 ?_
        refine code_run hm ext_ok h2 hR1 hA1 fun a2 w2 φ2 hA2 hR2 hT2 => ?_
        exact hend a2 w2 hA2.defers (hA2.slot hb rfl) (hT1.trans hT2).below
      · cases h
    · cases h
  · cases h

set_option maxHeartbeats 3200000 in
set_option maxRecDepth 100000 in
theorem judge_any (n : Int) (w : World) : Calls Tryz.prog 3 #[.int .i64 n] w fun e w' => e = .returned (.bool true) ∧ Below w.heap.size w w' := by
  go_enter Tryz.func3, Tryz.ntmps3
  go_wp2_with (go_at_call 4; refine (speaks_any _).mono ?_; rintro e w1 ⟨rfl, hB⟩)
  rename_i K hKK
  have hx := i64_and15 n
  generalize bits .and .i64 n 15 = x at *
  have hc : x = 0 ∨ x = 1 ∨ x = 2 ∨ x = 3 ∨ x = 4 ∨ x = 5 ∨ x = 6 ∨ x = 7 ∨ x = 8 ∨ x = 9 ∨ x = 10 ∨ x = 11 ∨ x = 12 ∨ x = 13 ∨ x = 14 ∨ x = 15 := by omega
  clear hx
  rcases hc with rfl | rfl | rfl | rfl | rfl | rfl | rfl | rfl | rfl | rfl | rfl | rfl | rfl | rfl | rfl | rfl
  all_goals
    refine run_two ?h (by kernel_rfl) rfl (fun a w h => hKK a w h) (fun a' w' hd hv hb => ?e)
    case e => exact bodyPost_ret (results_tmp rfl _ _ _) hd ⟨by rw [hv], hB.trans (hb.mono hB.size)⟩
    case h => kernel_rfl
end Go.Proofs.YtfjmpneipionmaaGreatDoor
