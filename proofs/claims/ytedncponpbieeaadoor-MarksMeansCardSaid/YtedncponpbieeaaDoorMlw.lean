/- The walk of the function of MarksMeans. -/
import Derived.Test.YtedncponpbieeaaDoorFlz
import Derived.Test.YtedncponpbieeaaDoorWgB
import Derived.Test.YtedncponpbieeaaDoorMnB
import Derived.Test.YtedncponpbieeaaDoorShr
import Derived.Test.YtedncponpbieeaaDoorSpb

import Derived.Test.YtedncponpbieeaaDoorPln
namespace Go.Proofs.YtedncponpbieeaaDoor
open Go.RowKit
set_option maxRecDepth 100000 in
set_option maxHeartbeats 1600000 in
theorem means_any {w : World} (hL : laidMet Tryd.prog laid6 w) (a a' : Option Addr) (cap cap' : Nat) (vs ws : List Nat) (x y : Int) (hc : WordsAt w a vs) (hc' : WordsAt w a' ws)
    (hv : ∀ f ∈ vs, f < 18446744073709551616) (hw : ∀ f ∈ ws, f < 18446744073709551616) :
   Calls Tryd.prog 5 #[.slice a vs.length cap, .slice a' ws.length cap', .agg #[.int .i64 x, .int .i64 y]] w fun e w' => e = .returned (.bool true) ∧ Below w.heap.size w w' := by
  have r12 := run_of12'
  have hsame : ∀ (n : Nat) (w : World), Calls Tryd.prog 11 #[.float .f64 n, .float .f64 n] w fun e w' => e = .returned (.bool true) ∧ w = w' := fun n w => by
    have := same_any n n w; rwa [decide_eq_true rfl] at this
  have hs1 : Hid (∀ w, Calls Tryd.prog 24 #[.int .i64 x, .int .i64 y] w fun e w' => e = .returned (.float .f64 (shareE x y)) ∧ Below w.heap.size w w') := fun w => share_any x y w
  have hs2 : Hid (∀ w, Calls Tryd.prog 25 #[.int .i64 x, .int .i64 y] w fun e w' => e = .returned (.float .f64 (shareE x y)) ∧ Below w.heap.size w w') := fun w => rshare_any x y w
  have hvH : Hid (∀ f ∈ vs.take 40, f < 18446744073709551616) := fun f hf => hv f (List.mem_of_mem_take hf)
  have hwH : Hid (∀ f ∈ ws.take 40, f < 18446744073709551616) := fun f hf => hw f (List.mem_of_mem_take hf)
  have hvl : (vs.take 40).length ≤ 40 := by simp; omega
  have hwl : (ws.take 40).length ≤ 40 := by simp; omega
  obtain ⟨w0, hw0⟩ : ∃ w0, w0 = w.alloc (Obj.cells #[Value.int IntKind.i64 x, Value.int IntKind.i64 y] 37) := ⟨_, rfl⟩
  have hA : Below w.heap.size w w0 := by rw [hw0]; exact (Below.refl _ _).alloc (Nat.le_refl _) _
  have hsz : w.heap.size < w0.heap.size := by rw [hw0]; simp
  have hx : w0.cell? ⟨w.heap.size, 0, none⟩ = some (.int .i64 x) := by rw [hw0]; simp
  have hy : w0.cell? ⟨w.heap.size, 1, none⟩ = some (.int .i64 y) := by rw [hw0]; simp
  have hB0 : Below w0.heap.size w0 w0 := Below.refl _ _
  have hAH : Hid (Below w.heap.size w w0) := hA
  have c1 : Hid (∀ w1, Below w0.heap.size w0 w1 → Calls Tryd.prog 19 #[.slice a vs.length cap] w1 fun e w' =>
      ∃ a' cap', e = .returned (.slice a' (vs.take 40).length cap') ∧ Below w1.heap.size w1 w' ∧ FloatsAt w' a' (vs.take 40)) := fun w1 h => floats_law a cap vs w1 ((hc.below hA).below h)
  have c2 : Hid (∀ w1, Below w0.heap.size w0 w1 → Calls Tryd.prog 19 #[.slice a' ws.length cap'] w1 fun e w' =>
      ∃ a' cap', e = .returned (.slice a' (ws.take 40).length cap') ∧ Below w1.heap.size w1 w' ∧ FloatsAt w' a' (ws.take 40)) := fun w1 h => floats_law a' cap' ws w1 ((hc'.below hA).below h)
  generalize vs.length = nv at *
  generalize ws.length = nw at *
  generalize vs.take 40 = fs at *
  generalize ws.take 40 = gs at *
  clear hc hc' hv hw
  have c3 : Hid (∀ w1 a cap, FloatsAt w1 a fs → Calls Tryd.prog 20 #[.slice a fs.length cap] w1 fun e w' => e = .returned (.tuple #[.float .f64 (meanE fs).1, .int .i64 (meanE fs).2]) ∧ Below w1.heap.size w1 w') := fun w1 a cap h => mean_any a cap fs w1 hvl h
  have c4 : Hid (∀ w1 a cap, FloatsAt w1 a fs → Calls Tryd.prog 21 #[.slice a fs.length cap] w1 fun e w' => e = .returned (.tuple #[.float .f64 (meanE fs).1, .int .i64 (meanE fs).2]) ∧ Below w1.heap.size w1 w') := fun w1 a cap h => rmean_any a cap fs w1 hvl hvH.out h
  have c5 : Hid (∀ w1 a cap a' cap', FloatsAt w1 a fs → FloatsAt w1 a' gs → Calls Tryd.prog 22 #[.slice a fs.length cap, .slice a' gs.length cap'] w1 fun e w' => e = .returned (.tuple #[.float .f64 (weighE fs gs).1, .int .i64 (weighE fs gs).2]) ∧ Below w1.heap.size w1 w') := fun w1 a cap a' cap' h h' => weigh_any a a' cap cap' fs gs w1 hvl hwl h h'
  have c6 : Hid (∀ w1 a cap a' cap', FloatsAt w1 a fs → FloatsAt w1 a' gs → Calls Tryd.prog 23 #[.slice a fs.length cap, .slice a' gs.length cap'] w1 fun e w' => e = .returned (.tuple #[.float .f64 (weighE fs gs).1, .int .i64 (weighE fs gs).2]) ∧ Below w1.heap.size w1 w') := fun w1 a cap a' cap' h h' => rweigh_any a a' cap cap' fs gs w1 hvl hwl hvH.out hwH.out h h'
  clear hvH hwH hvl hwl
  generalize (weighE fs gs).1 = q1 at *
  generalize (weighE fs gs).2 = q2 at *
  generalize (meanE fs).1 = m1 at *
  generalize (meanE fs).2 = m2 at *
  generalize fs.length = nf at *
  generalize gs.length = ng at *
  go_enter Tryd.func5, Tryd.ntmps5
  go_wp2_with (first
    | (go_at_call 8; rw [← hw0]; clear hw0; refine (speaks_below hL hA).mono ?_; rintro e w1 ⟨rfl, hB1⟩)
    | (go_at_call 19; refine (c1.out _ hB1).mono ?_; clear c1; rintro e w2 ⟨b1, d1, rfl, hB2, hF⟩; have hB3 := hB1.trans (hB2.mono hB1.size))
    | (go_at_call 19; refine (c2.out _ hB3).mono ?_; clear c2; rintro e w3 ⟨b2, d2, rfl, hB4, hG⟩; replace hF := hF.below hB4; have hB5 := hB3.trans (hB4.mono hB3.size); clear hB1 hB2 hB3 hB4)
    | (go_at_call 20; refine (c3.out _ _ _ hF).mono ?_; clear c3; rintro e w4 ⟨rfl, hB6⟩; replace hF := hF.below hB6; replace hG := hG.below hB6; have hB7 := hB5.trans (hB6.mono hB5.size); clear hB5 hB6)
    | (go_at_call 21; refine (c4.out _ _ _ hF).mono ?_; clear c4; rintro e w5 ⟨rfl, hB8⟩; replace hF := hF.below hB8; replace hG := hG.below hB8; have hB9 := hB7.trans (hB8.mono hB7.size); clear hB7 hB8)
    | (go_at_call 22; refine (c5.out _ _ _ _ _ hF hG).mono ?_; clear c5; rintro e w6 ⟨rfl, hB10⟩; replace hF := hF.below hB10; replace hG := hG.below hB10; have hB11 := hB9.trans (hB10.mono hB9.size); clear hB9 hB10)
    | (go_at_call 23; refine (c6.out _ _ _ _ _ hF hG).mono ?_; clear c6; rintro e w7 ⟨rfl, hB12⟩; have hB13 := hB11.trans (hB12.mono hB11.size); clear hB11 hB12 hF hG))
  have hm : Tryd.prog.follows .mixedOrders = true := by kernel_rfl
  refine Go.Ev.wp_region_plan (fun v => Below w0.heap.size w0 v) [.float .f64 m1, .float .f64 m1, .bool true, .bool true, .int .i64 m2, .int .i64 m2, .bool true, .bool true, .bool true, .float .f64 q1, .float .f64 q1, .bool true, .bool true, .bool true, .int .i64 q2, .int .i64 q2, .bool true, .bool true, .bool true, .pointer (some ⟨w.heap.size, 0, none⟩), .int .i64 x, .pointer (some ⟨w.heap.size, 1, none⟩), .int .i64 y, .float .f64 (shareE x y), .pointer (some ⟨w.heap.size, 0, none⟩), .int .i64 x, .pointer (some ⟨w.heap.size, 1, none⟩), .int .i64 y, .float .f64 (shareE x y), .bool true, .bool true, .bool true] hm (by kernel_rfl) (by kernel_rfl) hB13.drew ?_
  clear hB13
  generalize shareE x y = sh at *
  refine ⟨fun v K hv hK => ?_, ?_⟩
  · go_simp; exact hK _ hv
  simp only [Act.put, List.setIfInBounds_toArray, List.set_cons_succ, List.set_cons_zero, List.headD_cons, List.tail_cons]
  refine ⟨fun v K hv hK => ?_, ?_⟩
  · go_simp; exact hK _ hv
  simp only [Act.put, List.setIfInBounds_toArray, List.set_cons_succ, List.set_cons_zero, List.headD_cons, List.tail_cons]
  refine ⟨fun v K hv hK => ?_, ?_⟩
  · go_simp; refine (hsame _ _).mono ?_; rintro e w' ⟨rfl, rfl⟩; exact hK _ hv
  simp only [Act.put, List.setIfInBounds_toArray, List.set_cons_succ, List.set_cons_zero, List.headD_cons, List.tail_cons]
  refine ⟨fun v K hv hK => ?_, ?_⟩
  · go_simp; exact hK _ hv
  simp only [Act.put, List.setIfInBounds_toArray, List.set_cons_succ, List.set_cons_zero, List.headD_cons, List.tail_cons]
  refine ⟨fun v K hv hK => ?_, ?_⟩
  · go_simp; exact hK _ hv
  simp only [Act.put, List.setIfInBounds_toArray, List.set_cons_succ, List.set_cons_zero, List.headD_cons, List.tail_cons]
  refine ⟨fun v K hv hK => ?_, ?_⟩
  · go_simp; exact hK _ hv
  simp only [Act.put, List.setIfInBounds_toArray, List.set_cons_succ, List.set_cons_zero, List.headD_cons, List.tail_cons]
  refine ⟨fun v K hv hK => ?_, ?_⟩
  · go_simp; exact hK _ hv
  simp only [Act.put, List.setIfInBounds_toArray, List.set_cons_succ, List.set_cons_zero, List.headD_cons, List.tail_cons]
  refine ⟨fun v K hv hK => ?_, ?_⟩
  · go_simp; exact hK _ hv
  simp only [Act.put, List.setIfInBounds_toArray, List.set_cons_succ, List.set_cons_zero, List.headD_cons, List.tail_cons]
  refine ⟨fun v K hv hK => ?_, ?_⟩
  · go_simp; exact hK _ hv
  simp only [Act.put, List.setIfInBounds_toArray, List.set_cons_succ, List.set_cons_zero, List.headD_cons, List.tail_cons]
  refine ⟨fun v K hv hK => ?_, ?_⟩
  · go_simp; exact hK _ hv
  simp only [Act.put, List.setIfInBounds_toArray, List.set_cons_succ, List.set_cons_zero, List.headD_cons, List.tail_cons]
  refine ⟨fun v K hv hK => ?_, ?_⟩
  · go_simp; exact hK _ hv
  simp only [Act.put, List.setIfInBounds_toArray, List.set_cons_succ, List.set_cons_zero, List.headD_cons, List.tail_cons]
  refine ⟨fun v K hv hK => ?_, ?_⟩
  · go_simp; refine (hsame _ _).mono ?_; rintro e w' ⟨rfl, rfl⟩; exact hK _ hv
  simp only [Act.put, List.setIfInBounds_toArray, List.set_cons_succ, List.set_cons_zero, List.headD_cons, List.tail_cons]
  refine ⟨fun v K hv hK => ?_, ?_⟩
  · go_simp; exact hK _ hv
  simp only [Act.put, List.setIfInBounds_toArray, List.set_cons_succ, List.set_cons_zero, List.headD_cons, List.tail_cons]
  refine ⟨fun v K hv hK => ?_, ?_⟩
  · go_simp; exact hK _ hv
  simp only [Act.put, List.setIfInBounds_toArray, List.set_cons_succ, List.set_cons_zero, List.headD_cons, List.tail_cons]
  refine ⟨fun v K hv hK => ?_, ?_⟩
  · go_simp; exact hK _ hv
  simp only [Act.put, List.setIfInBounds_toArray, List.set_cons_succ, List.set_cons_zero, List.headD_cons, List.tail_cons]
  refine ⟨fun v K hv hK => ?_, ?_⟩
  · go_simp; exact hK _ hv
  simp only [Act.put, List.setIfInBounds_toArray, List.set_cons_succ, List.set_cons_zero, List.headD_cons, List.tail_cons]
  refine ⟨fun v K hv hK => ?_, ?_⟩
  · go_simp; exact hK _ hv
  simp only [Act.put, List.setIfInBounds_toArray, List.set_cons_succ, List.set_cons_zero, List.headD_cons, List.tail_cons]
  refine ⟨fun v K hv hK => ?_, ?_⟩
  · go_simp; exact hK _ hv
  simp only [Act.put, List.setIfInBounds_toArray, List.set_cons_succ, List.set_cons_zero, List.headD_cons, List.tail_cons]
  refine ⟨fun v K hv hK => ?_, ?_⟩
  · go_simp; exact hK _ hv
  simp only [Act.put, List.setIfInBounds_toArray, List.set_cons_succ, List.set_cons_zero, List.headD_cons, List.tail_cons]
  refine ⟨fun v K hv hK => ?_, ?_⟩
  · go_simp; exact hK _ hv
  simp only [Act.put, List.setIfInBounds_toArray, List.set_cons_succ, List.set_cons_zero, List.headD_cons, List.tail_cons]
  refine ⟨fun v K hv hK => ?_, ?_⟩
  · have hc := (hv.cell (by exact hsz)).trans hx; go_simp; exact hK _ hv
  simp only [Act.put, List.setIfInBounds_toArray, List.set_cons_succ, List.set_cons_zero, List.headD_cons, List.tail_cons]
  refine ⟨fun v K hv hK => ?_, ?_⟩
  · go_simp; exact hK _ hv
  simp only [Act.put, List.setIfInBounds_toArray, List.set_cons_succ, List.set_cons_zero, List.headD_cons, List.tail_cons]
  refine ⟨fun v K hv hK => ?_, ?_⟩
  · have hc := (hv.cell (by exact hsz)).trans hy; go_simp; exact hK _ hv
  simp only [Act.put, List.setIfInBounds_toArray, List.set_cons_succ, List.set_cons_zero, List.headD_cons, List.tail_cons]
  refine ⟨fun v K hv hK => ?_, ?_⟩
  · go_simp; refine (hs1.out _).mono ?_; rintro e w' ⟨rfl, hb⟩; exact hK _ (hv.trans (hb.mono hv.size))
  simp only [Act.put, List.setIfInBounds_toArray, List.set_cons_succ, List.set_cons_zero, List.headD_cons, List.tail_cons]
  refine ⟨fun v K hv hK => ?_, ?_⟩
  · go_simp; exact hK _ hv
  simp only [Act.put, List.setIfInBounds_toArray, List.set_cons_succ, List.set_cons_zero, List.headD_cons, List.tail_cons]
  refine ⟨fun v K hv hK => ?_, ?_⟩
  · have hc := (hv.cell (by exact hsz)).trans hx; go_simp; exact hK _ hv
  simp only [Act.put, List.setIfInBounds_toArray, List.set_cons_succ, List.set_cons_zero, List.headD_cons, List.tail_cons]
  refine ⟨fun v K hv hK => ?_, ?_⟩
  · go_simp; exact hK _ hv
  simp only [Act.put, List.setIfInBounds_toArray, List.set_cons_succ, List.set_cons_zero, List.headD_cons, List.tail_cons]
  refine ⟨fun v K hv hK => ?_, ?_⟩
  · have hc := (hv.cell (by exact hsz)).trans hy; go_simp; exact hK _ hv
  simp only [Act.put, List.setIfInBounds_toArray, List.set_cons_succ, List.set_cons_zero, List.headD_cons, List.tail_cons]
  refine ⟨fun v K hv hK => ?_, ?_⟩
  · go_simp; refine (hs2.out _).mono ?_; rintro e w' ⟨rfl, hb⟩; exact hK _ (hv.trans (hb.mono hv.size))
  simp only [Act.put, List.setIfInBounds_toArray, List.set_cons_succ, List.set_cons_zero, List.headD_cons, List.tail_cons]
  refine ⟨fun v K hv hK => ?_, ?_⟩
  · go_simp; refine (hsame _ _).mono ?_; rintro e w' ⟨rfl, rfl⟩; exact hK _ hv
  simp only [Act.put, List.setIfInBounds_toArray, List.set_cons_succ, List.set_cons_zero, List.headD_cons, List.tail_cons]
  refine ⟨fun v K hv hK => ?_, ?_⟩
  · go_simp; exact hK _ hv
  simp only [Act.put, List.setIfInBounds_toArray, List.set_cons_succ, List.set_cons_zero, List.headD_cons, List.tail_cons]
  refine ⟨fun v K hv hK => ?_, ?_⟩
  · go_simp; exact hK _ hv
  simp only [Act.put, List.setIfInBounds_toArray, List.set_cons_succ, List.set_cons_zero, List.headD_cons, List.tail_cons]
  intro w' hv

  go_wp2
  go_ret
  exact ⟨rfl, hAH.out.trans (hv.mono hAH.out.size)⟩
end Go.Proofs.YtedncponpbieeaaDoor
