/- The walk of the function of ReplicaNone. -/
import Derived.Test.YtgdgoackmfbkbaaGreatDoorNws
import Derived.Test.YtgdgoackmfbkbaaGreatDoorSpr
namespace Go.Proofs.YtgdgoackmfbkbaaGreatDoor
open Go.RowKit Go.Ev

noncomputable def nilB (f : FuncId) (args : List Value) (v : Value) : Bool :=
  match evalCall Tryz.prog 100 noGlob ext 100000 60 (.fn f) args ⟨.nil, .nil, 100⟩ with
  | some (u, _) => valEq u v
  | none => false

theorem nil_run {f : FuncId} {args : List Value} {v : Value} (h : nilB f args v = true) (ha : flatL args = true) (hv : flat v = true) (w : World) : Calls Tryz.prog f ⟨args⟩ w fun e w' => e = .returned v ∧ Below w.heap.size w w' := by
  unfold nilB at h
  split at h
  · rename_i u st' hc
    rw [valEq_spec h] at hc
    exact run_closed mixed ext_ok hc ha hv (fun b o u h => by cases h)
  · cases h

def status0 : Value := .agg #[.int .i64 0, .int .i64 0, .int .i64 0, .int .i64 0, .int .i64 0]
def log0 : Value := .agg #[.int .i64 0, .string ⟨#[]⟩, .slice none 0 0]

theorem nil_receive (w : World) : Calls Tryz.prog 7 #[.pointer none, .string ⟨#[]⟩] w fun e w' => e = .returned (.slice none 0 0) ∧ Below w.heap.size w w' :=
  nil_run (args := [.pointer none, .string ⟨#[]⟩]) (by kernel_rfl) rfl rfl w
theorem nil_tick (w : World) : Calls Tryz.prog 8 #[.pointer none] w fun e w' => e = .returned (.slice none 0 0) ∧ Below w.heap.size w w' :=
  nil_run (args := [.pointer none]) (by kernel_rfl) rfl rfl w
theorem nil_state (w : World) : Calls Tryz.prog 9 #[.pointer none] w fun e w' => e = .returned (.string ⟨#[]⟩) ∧ Below w.heap.size w w' :=
  nil_run (args := [.pointer none]) (by kernel_rfl) rfl rfl w
theorem nil_status (w : World) : Calls Tryz.prog 10 #[.pointer none] w fun e w' => e = .returned status0 ∧ Below w.heap.size w w' :=
  nil_run (args := [.pointer none]) (by kernel_rfl) rfl rfl w
theorem nil_log (w : World) : Calls Tryz.prog 11 #[.pointer none] w fun e w' => e = .returned log0 ∧ Below w.heap.size w w' :=
  nil_run (args := [.pointer none]) (by kernel_rfl) rfl rfl w
theorem nil_op (w : World) : Calls Tryz.prog 12 #[log0] w fun e w' => e = .returned (.int .i64 0) ∧ Below w.heap.size w w' :=
  nil_run (args := [log0]) (by kernel_rfl) rfl rfl w
theorem nil_applied (w : World) : Calls Tryz.prog 13 #[.pointer none] w fun e w' => e = .returned (.slice none 0 0) ∧ Below w.heap.size w w' :=
  nil_run (args := [.pointer none]) (by kernel_rfl) rfl rfl w

theorem bel {n : Nat} {w w1 w2 : World} (h : Below n w w1) (k : Below w1.heap.size w1 w2) (hn : n ≤ w.heap.size) : Below n w w2 := h.trans (k.mono (Nat.le_trans hn h.size))

set_option maxRecDepth 100000 in
set_option maxHeartbeats 6400000 in
theorem rep_any (x y z : Int) (wx : IntKind.i64.wrap x = x) (wy : IntKind.i64.wrap y = y) (w : World) (hg : GlobMet w) : Calls Tryz.prog 3 #[.int .i64 x, .int .i64 y, .int .i64 z] w fun e w' => e = .returned (.bool true) ∧ Below w.heap.size w w' := by
  have heq : ∀ w : World, (binOp .eql 31 status0 status0).run Tryz.prog w = .ok (.bool true) w := fun w => by kernel_rfl
  have e0 : status0 = .agg #[.int .i64 0, .int .i64 0, .int .i64 0, .int .i64 0, .int .i64 0] := rfl
  rw [e0] at heq
  by_cases hgood : GoodNums x y
  · have hm : wrap64 (2 * y) = 2 * y := by obtain ⟨a, b, _⟩ := hgood; unfold wrap64; omega
    have k1 : 1 ≤ y := hgood.1
    have k2 : y ≤ 3 := hgood.2.1
    have k3 : 0 ≤ x := hgood.2.2.1
    have k4 : x ≤ 2 * y := hgood.2.2.2
    by_cases hz : 1 ≤ z ∧ z ≤ 9007199254740992
    · obtain ⟨z1, z2⟩ := hz
      go_enter Tryz.func3, Tryz.ntmps3
      go_wp2_with (first
        | (go_at_call 4; refine (speaks_any hg).mono ?_; rintro e w1 ⟨rfl, hB1⟩)
        | (go_at_call 5; refine (new_good hgood w1).mono ?_; rintro e w2 ⟨⟨a, rfl⟩, hB2⟩)
        | (go_at_call 6; refine (restart_good hgood z1 z2 w2).mono ?_; rintro e w3 ⟨⟨b, rfl⟩, hB3⟩)
        | (go_at_call 7; refine (nil_receive w3).mono ?_; rintro e w4 ⟨rfl, hB4⟩)
        | (go_at_call 8; refine (nil_tick w4).mono ?_; rintro e w5 ⟨rfl, hB5⟩)
        | (go_at_call 9; refine (nil_state w5).mono ?_; rintro e w6 ⟨rfl, hB6⟩)
        | (go_at_call 10; refine (nil_status w6).mono ?_; rintro e w7 ⟨rfl, hB7⟩; rw [e0])
        | (go_at_call 11; refine (nil_log w7).mono ?_; rintro e w8 ⟨rfl, hB8⟩)
        | (go_at_call 12; refine (nil_op w8).mono ?_; rintro e w9 ⟨rfl, hB9⟩)
        | (go_at_call 13; refine (nil_applied w9).mono ?_; rintro e w10 ⟨rfl, hB10⟩))
      go_ret
      exact ⟨rfl, bel (bel (bel (bel (bel (bel (bel (bel (bel hB1 hB2 (Nat.le_refl _)) hB3 (Nat.le_refl _)) hB4 (Nat.le_refl _)) hB5 (Nat.le_refl _)) hB6 (Nat.le_refl _)) hB7 (Nat.le_refl _)) hB8 (Nat.le_refl _)) hB9 (Nat.le_refl _)) hB10 (Nat.le_refl _)⟩
    · have hz' : (¬ 1 ≤ z ∧ z < 1) ∨ (1 ≤ z ∧ ¬ z < 1 ∧ ¬ z ≤ 9007199254740992 ∧ 9007199254740992 < z) := by omega
      have hlate : Hid (z < 1 ∨ 9007199254740992 < z) := by unfold Hid; omega
      clear hz
      rcases hz' with ⟨z1, _⟩ | ⟨z1, _, z2, _⟩
      all_goals
        go_enter Tryz.func3, Tryz.ntmps3
        go_wp2_with (first
          | (go_at_call 4; refine (speaks_any hg).mono ?_; rintro e w1 ⟨rfl, hB1⟩)
          | (go_at_call 5; refine (new_good hgood w1).mono ?_; rintro e w2 ⟨⟨a, rfl⟩, hB2⟩)
          | (go_at_call 6; refine (restart_late hgood hlate.out w2).mono ?_; rintro e w3 ⟨rfl, hB3⟩)
          | (go_at_call 7; refine (nil_receive w3).mono ?_; rintro e w4 ⟨rfl, hB4⟩)
          | (go_at_call 8; refine (nil_tick w4).mono ?_; rintro e w5 ⟨rfl, hB5⟩)
          | (go_at_call 9; refine (nil_state w5).mono ?_; rintro e w6 ⟨rfl, hB6⟩)
          | (go_at_call 10; refine (nil_status w6).mono ?_; rintro e w7 ⟨rfl, hB7⟩; rw [e0])
          | (go_at_call 11; refine (nil_log w7).mono ?_; rintro e w8 ⟨rfl, hB8⟩)
          | (go_at_call 12; refine (nil_op w8).mono ?_; rintro e w9 ⟨rfl, hB9⟩)
          | (go_at_call 13; refine (nil_applied w9).mono ?_; rintro e w10 ⟨rfl, hB10⟩))
        go_ret
        exact ⟨rfl, bel (bel (bel (bel (bel (bel (bel (bel (bel hB1 hB2 (Nat.le_refl _)) hB3 (Nat.le_refl _)) hB4 (Nat.le_refl _)) hB5 (Nat.le_refl _)) hB6 (Nat.le_refl _)) hB7 (Nat.le_refl _)) hB8 (Nat.le_refl _)) hB9 (Nat.le_refl _)) hB10 (Nat.le_refl _)⟩
  · have hcase : (¬ 1 ≤ y) ∨ (1 ≤ y ∧ ¬ y ≤ 3) ∨ (1 ≤ y ∧ y ≤ 3 ∧ ¬ 0 ≤ x ∧ wrap64 (2 * y) = 2 * y) ∨ (1 ≤ y ∧ y ≤ 3 ∧ 0 ≤ x ∧ ¬ x ≤ 2 * y ∧ wrap64 (2 * y) = 2 * y) := by
      unfold GoodNums at hgood
      unfold wrap64
      omega
    have hbad : Hid (¬ GoodNums x y) := hgood
    have wx' : Hid (IntKind.i64.wrap x = x) := wx
    have wy' : Hid (IntKind.i64.wrap y = y) := wy
    clear hgood wx wy
    rcases hcase with k1 | ⟨k1, k2⟩ | ⟨k1, k2, k3, hm⟩ | ⟨k1, k2, k3, k4, hm⟩
    all_goals
      go_enter Tryz.func3, Tryz.ntmps3
      go_wp2_with (first
        | (go_at_call 4; refine (speaks_any hg).mono ?_; rintro e w1 ⟨rfl, hB1⟩)
        | (go_at_call 5; refine (new_bad wx'.out wy'.out hbad.out w1).mono ?_; rintro e w2 ⟨rfl, hB2⟩)
        | (go_at_call 6; refine (restart_bad wx'.out wy'.out hbad.out w2).mono ?_; rintro e w3 ⟨rfl, hB3⟩)
        | (go_at_call 7; refine (nil_receive w3).mono ?_; rintro e w4 ⟨rfl, hB4⟩)
        | (go_at_call 8; refine (nil_tick w4).mono ?_; rintro e w5 ⟨rfl, hB5⟩)
        | (go_at_call 9; refine (nil_state w5).mono ?_; rintro e w6 ⟨rfl, hB6⟩)
        | (go_at_call 10; refine (nil_status w6).mono ?_; rintro e w7 ⟨rfl, hB7⟩; rw [e0])
        | (go_at_call 11; refine (nil_log w7).mono ?_; rintro e w8 ⟨rfl, hB8⟩)
        | (go_at_call 12; refine (nil_op w8).mono ?_; rintro e w9 ⟨rfl, hB9⟩)
        | (go_at_call 13; refine (nil_applied w9).mono ?_; rintro e w10 ⟨rfl, hB10⟩))
      go_ret
      exact ⟨rfl, bel (bel (bel (bel (bel (bel (bel (bel (bel hB1 hB2 (Nat.le_refl _)) hB3 (Nat.le_refl _)) hB4 (Nat.le_refl _)) hB5 (Nat.le_refl _)) hB6 (Nat.le_refl _)) hB7 (Nat.le_refl _)) hB8 (Nat.le_refl _)) hB9 (Nat.le_refl _)) hB10 (Nat.le_refl _)⟩
#print axioms rep_any
end Go.Proofs.YtgdgoackmfbkbaaGreatDoor
