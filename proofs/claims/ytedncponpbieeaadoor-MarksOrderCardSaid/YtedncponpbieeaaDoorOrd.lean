/- The walk of the function of MarksOrder. -/
import Derived.Test.YtedncponpbieeaaDoorRkk
import Derived.Test.YtedncponpbieeaaDoorPln
import Derived.Test.YtedncponpbieeaaDoorSpb
namespace Go.Proofs.YtedncponpbieeaaDoor
open Go.RowKit

set_option maxRecDepth 100000 in
set_option maxHeartbeats 3200000 in
theorem order_any {w : World} (hL : laidMet Tryd.prog laid6 w) (a : Option Addr) (cap : Nat) (ns : List Nat) (hc : WordsAt w a ns) (h64 : ∀ f ∈ ns, f < 18446744073709551616) :
    Calls Tryd.prog 6 #[.slice a ns.length cap] w fun e w' => e = .returned (.bool true) ∧ Below w.heap.size w w' := by
  have hm : Tryd.prog.follows .mixedOrders = true := by kernel_rfl
  have hfl : (ns.take 40).length ≤ 40 := by simp; omega
  have hfH : Hid (∀ f ∈ ns.take 40, f < 18446744073709551616) := fun f hf => h64 f (List.mem_of_mem_take hf)
  have c1 : Hid (∀ w1, Below w.heap.size w w1 → Calls Tryd.prog 19 #[.slice a ns.length cap] w1 fun e w' =>
      ∃ a' cap', e = .returned (.slice a' (ns.take 40).length cap') ∧ Below w1.heap.size w1 w' ∧ FloatsAt w' a' (ns.take 40)) := fun w1 h => floats_law a cap ns w1 (hc.below h)
  generalize ns.length = nv at *
  generalize ns.take 40 = fs at *
  clear hc h64
  have c2 : Hid (∀ w1 a cap, FloatsAt w1 a fs → Calls Tryd.prog 26 #[.slice a fs.length cap] w1 fun e w' => ∃ a' L, e = .returned (.slice a' fs.length fs.length) ∧ RankOk fs L fs.length ∧ Below w1.heap.size w1 w' ∧ IntsAt w' a' L) := fun w1 a cap h => rank_any a cap fs w1 hfl h
  have c3 : Hid (∀ w1 a cap, FloatsAt w1 a fs → Calls Tryd.prog 27 #[.slice a fs.length cap] w1 fun e w' => ∃ a' L, e = .returned (.slice a' fs.length fs.length) ∧ RankOk fs L fs.length ∧ Below w1.heap.size w1 w' ∧ IntsAt w' a' L) := fun w1 a cap h => rrank_any a cap fs w1 hfl hfH.out h
  have hlenH : Hid (fs.length = fs.length) := rfl
  generalize hnf : fs.length = nf at c1 c2 c3 hfl
  go_enter Tryd.func6, Tryd.ntmps6
  go_wp2_with (first
    | (go_at_call 8; refine (speaks_any hL).mono ?_; rintro e w1 ⟨rfl, hB1⟩)
    | (go_at_call 19; refine (c1.out _ hB1).mono ?_; clear c1; rintro e w2 ⟨b1, d1, rfl, hB2, hF⟩; have hB3 := hB1.trans (hB2.mono hB1.size); clear hB1 hB2)
    | (go_at_call 26; refine (c2.out _ _ _ hF).mono ?_; clear c2; rintro e w3 ⟨r1, L, rfl, hRL, hB4, hIL⟩; replace hF := hF.below hB4; have hB5 := hB3.trans (hB4.mono hB3.size); clear hB3 hB4)
    | (go_at_call 27; refine (c3.out _ _ _ hF).mono ?_; clear c3; rintro e wB ⟨r2, M, rfl, hRM, hB6, hIM⟩; replace hF := hF.below hB6; replace hIL := hIL.below hB6; have hB7 := hB5.trans (hB6.mono hB5.size); clear hB5 hB6))
  go_loopw [6] (fun i wr => ∃ (k : Nat), k ≤ nf ∧ i = .int .i64 k ∧ Below wB.heap.size wB wr)
    (fun i _ => nf - (intOf i).toNat)
  case atStart => exact ⟨0, Nat.zero_le _, rfl, Below.refl _ _⟩
  case round =>
    obtain ⟨k, hk, rfl, hb⟩ := hrel
    by_cases hlt : k < nf
    · obtain ⟨g1, rfl, hg1, hx⟩ := hIL k (by rw [hRL.1]; exact hlt)
      obtain ⟨g2, rfl, hg2, hy⟩ := hIM k (by rw [hRM.1]; exact hlt)
      rw [← rank_one hRL hRM k hlt] at hy
      generalize L.getD k 0 = x at *
      go_wp2
      refine Go.Ev.wp_region_plan (fun v => Below wB.heap.size wB v) [.slice (some ⟨g1, 0, none⟩) nf nf, .int .i64 (k : Nat), .pointer (some ⟨g1, k, none⟩), .int .i64 (x : Nat), .slice (some ⟨g2, 0, none⟩) nf nf, .int .i64 (k : Nat), .pointer (some ⟨g2, k, none⟩), .int .i64 (x : Nat), .bool false] hm (by kernel_rfl) (by kernel_rfl) hb.drew ?_
      refine ⟨fun v K hv hK => ?_, ?_⟩
      · go_simp; exact hK _ hv
      simp only [Act.put, List.setIfInBounds_toArray, List.set_cons_succ, List.set_cons_zero, List.headD_cons, List.tail_cons]
      refine ⟨fun v K hv hK => ?_, ?_⟩
      · go_simp; exact hK _ hv
      simp only [Act.put, List.setIfInBounds_toArray, List.set_cons_succ, List.set_cons_zero, List.headD_cons, List.tail_cons]
      refine ⟨fun v K hv hK => ?_, ?_⟩
      · go_simp; exact hK _ hv
      simp only [Act.put, List.setIfInBounds_toArray, List.set_cons_succ, List.set_cons_zero, List.headD_cons, List.tail_cons]
      refine ⟨fun v K hv hK => ?_, ?_⟩
      · have hc := (hv.cell (by exact hg1)).trans hx; go_simp; exact hK _ hv
      simp only [Act.put, List.setIfInBounds_toArray, List.set_cons_succ, List.set_cons_zero, List.headD_cons, List.tail_cons]
      refine ⟨fun v K hv hK => ?_, ?_⟩
      · go_simp; exact hK _ hv
      simp only [Act.put, List.setIfInBounds_toArray, List.set_cons_succ, List.set_cons_zero, List.headD_cons, List.tail_cons]
      refine ⟨fun v K hv hK => ?_, ?_⟩
      · go_simp; exact hK _ hv
      simp only [Act.put, List.setIfInBounds_toArray, List.set_cons_succ, List.set_cons_zero, List.headD_cons, List.tail_cons]
      refine ⟨fun v K hv hK => ?_, ?_⟩
      · go_simp; exact hK _ hv
      simp only [Act.put, List.setIfInBounds_toArray, List.set_cons_succ, List.set_cons_zero, List.headD_cons, List.tail_cons]
      refine ⟨fun v K hv hK => ?_, ?_⟩
      · have hc := (hv.cell (by exact hg2)).trans hy; go_simp; exact hK _ hv
      simp only [Act.put, List.setIfInBounds_toArray, List.set_cons_succ, List.set_cons_zero, List.headD_cons, List.tail_cons]
      refine ⟨fun v K hv hK => ?_, ?_⟩
      · go_simp; exact hK _ hv
      simp only [Act.put, List.setIfInBounds_toArray, List.set_cons_succ, List.set_cons_zero, List.headD_cons, List.tail_cons]
      intro w' hv
      go_wp2
      go_loopw [7] (fun i wr => ∃ (q : Nat), q ≤ nf ∧ i = .int .i64 q ∧ Below wB.heap.size wB wr)
        (fun i _ => nf - (intOf i).toNat)
      case atStart => exact ⟨0, Nat.zero_le _, rfl, hv⟩
      case round =>
        obtain ⟨q, hq, rfl, hb2⟩ := hrel
        by_cases hlt2 : q < nf
        · obtain ⟨b, off, rfl, hbw, hf⟩ := hF k (by rw [hnf]; exact hlt)
          obtain ⟨b', off', e', _, hg⟩ := hF q (by rw [hnf]; exact hlt2)
          simp only [Option.some.injEq, Addr.mk.injEq] at e'
          obtain ⟨rfl, rfl, _⟩ := e'
          have hf64 : Hid (fs.getD k 0 < 18446744073709551616) := by
            unfold Hid; rw [List.getD, List.getElem?_eq_getElem (by rw [hnf]; exact hlt)]; exact hfH.out _ (List.getElem_mem _)
          have hg64 : Hid (fs.getD q 0 < 18446744073709551616) := by
            unfold Hid; rw [List.getD, List.getElem?_eq_getElem (by rw [hnf]; exact hlt2)]; exact hfH.out _ (List.getElem_mem _)
          generalize fs.getD k 0 = f at *
          generalize fs.getD q 0 = g at *
          have hcmp : Hid (∀ w, Calls Tryd.prog 28 #[.float .f64 f, .float .f64 g] w fun e w' => e = .returned (.int .i64 (cmpE f g)) ∧ w = w') := fun w => compare_any f g w
          have hrcmp : Hid (∀ w, Calls Tryd.prog 29 #[.float .f64 f, .float .f64 g] w fun e w' => e = .returned (.int .i64 (cmpE f g)) ∧ w = w') := fun w => rcompare_any f g hf64.out hg64.out w
          generalize cmpE f g = c at *
          go_wp2
          refine Go.Ev.wp_region_plan (fun v => Below wB.heap.size wB v) [.slice (some ⟨b, off, none⟩) nf d1, .int .i64 (k : Nat), .pointer (some ⟨b, off + k, none⟩), .float .f64 f, .slice (some ⟨b, off, none⟩) nf d1, .int .i64 (q : Nat), .pointer (some ⟨b, off + q, none⟩), .float .f64 g, .int .i64 c, .slice (some ⟨b, off, none⟩) nf d1, .int .i64 (k : Nat), .pointer (some ⟨b, off + k, none⟩), .float .f64 f, .slice (some ⟨b, off, none⟩) nf d1, .int .i64 (q : Nat), .pointer (some ⟨b, off + q, none⟩), .float .f64 g, .int .i64 c, .bool false] hm (by kernel_rfl) (by kernel_rfl) hb2.drew ?_
          refine ⟨fun v K hv hK => ?_, ?_⟩
          · go_simp; exact hK _ hv
          simp only [Act.put, List.setIfInBounds_toArray, List.set_cons_succ, List.set_cons_zero, List.headD_cons, List.tail_cons]
          refine ⟨fun v K hv hK => ?_, ?_⟩
          · go_simp; exact hK _ hv
          simp only [Act.put, List.setIfInBounds_toArray, List.set_cons_succ, List.set_cons_zero, List.headD_cons, List.tail_cons]
          refine ⟨fun v K hv hK => ?_, ?_⟩
          · go_simp; exact hK _ hv
          simp only [Act.put, List.setIfInBounds_toArray, List.set_cons_succ, List.set_cons_zero, List.headD_cons, List.tail_cons]
          refine ⟨fun v K hv hK => ?_, ?_⟩
          · have hc := (hv.cell (by exact hbw)).trans hf; go_simp; exact hK _ hv
          simp only [Act.put, List.setIfInBounds_toArray, List.set_cons_succ, List.set_cons_zero, List.headD_cons, List.tail_cons]
          refine ⟨fun v K hv hK => ?_, ?_⟩
          · go_simp; exact hK _ hv
          simp only [Act.put, List.setIfInBounds_toArray, List.set_cons_succ, List.set_cons_zero, List.headD_cons, List.tail_cons]
          refine ⟨fun v K hv hK => ?_, ?_⟩
          · go_simp; exact hK _ hv
          simp only [Act.put, List.setIfInBounds_toArray, List.set_cons_succ, List.set_cons_zero, List.headD_cons, List.tail_cons]
          refine ⟨fun v K hv hK => ?_, ?_⟩
          · go_simp; exact hK _ hv
          simp only [Act.put, List.setIfInBounds_toArray, List.set_cons_succ, List.set_cons_zero, List.headD_cons, List.tail_cons]
          refine ⟨fun v K hv hK => ?_, ?_⟩
          · have hc := (hv.cell (by exact hbw)).trans hg; go_simp; exact hK _ hv
          simp only [Act.put, List.setIfInBounds_toArray, List.set_cons_succ, List.set_cons_zero, List.headD_cons, List.tail_cons]
          refine ⟨fun v K hv hK => ?_, ?_⟩
          · go_simp; refine (hcmp.out _).mono ?_; rintro e w' ⟨rfl, rfl⟩; exact hK _ hv
          simp only [Act.put, List.setIfInBounds_toArray, List.set_cons_succ, List.set_cons_zero, List.headD_cons, List.tail_cons]
          refine ⟨fun v K hv hK => ?_, ?_⟩
          · go_simp; exact hK _ hv
          simp only [Act.put, List.setIfInBounds_toArray, List.set_cons_succ, List.set_cons_zero, List.headD_cons, List.tail_cons]
          refine ⟨fun v K hv hK => ?_, ?_⟩
          · go_simp; exact hK _ hv
          simp only [Act.put, List.setIfInBounds_toArray, List.set_cons_succ, List.set_cons_zero, List.headD_cons, List.tail_cons]
          refine ⟨fun v K hv hK => ?_, ?_⟩
          · go_simp; exact hK _ hv
          simp only [Act.put, List.setIfInBounds_toArray, List.set_cons_succ, List.set_cons_zero, List.headD_cons, List.tail_cons]
          refine ⟨fun v K hv hK => ?_, ?_⟩
          · have hc := (hv.cell (by exact hbw)).trans hf; go_simp; exact hK _ hv
          simp only [Act.put, List.setIfInBounds_toArray, List.set_cons_succ, List.set_cons_zero, List.headD_cons, List.tail_cons]
          refine ⟨fun v K hv hK => ?_, ?_⟩
          · go_simp; exact hK _ hv
          simp only [Act.put, List.setIfInBounds_toArray, List.set_cons_succ, List.set_cons_zero, List.headD_cons, List.tail_cons]
          refine ⟨fun v K hv hK => ?_, ?_⟩
          · go_simp; exact hK _ hv
          simp only [Act.put, List.setIfInBounds_toArray, List.set_cons_succ, List.set_cons_zero, List.headD_cons, List.tail_cons]
          refine ⟨fun v K hv hK => ?_, ?_⟩
          · go_simp; exact hK _ hv
          simp only [Act.put, List.setIfInBounds_toArray, List.set_cons_succ, List.set_cons_zero, List.headD_cons, List.tail_cons]
          refine ⟨fun v K hv hK => ?_, ?_⟩
          · have hc := (hv.cell (by exact hbw)).trans hg; go_simp; exact hK _ hv
          simp only [Act.put, List.setIfInBounds_toArray, List.set_cons_succ, List.set_cons_zero, List.headD_cons, List.tail_cons]
          refine ⟨fun v K hv hK => ?_, ?_⟩
          · go_simp; refine (hrcmp.out _).mono ?_; rintro e w' ⟨rfl, rfl⟩; exact hK _ hv
          simp only [Act.put, List.setIfInBounds_toArray, List.set_cons_succ, List.set_cons_zero, List.headD_cons, List.tail_cons]
          refine ⟨fun v K hv hK => ?_, ?_⟩
          · go_simp; exact hK _ hv
          simp only [Act.put, List.setIfInBounds_toArray, List.set_cons_succ, List.set_cons_zero, List.headD_cons, List.tail_cons]
          intro w' hv
          go_wp2
          go_roundw
          case rel => exact ⟨q + 1, by omega, by go_num, hv⟩
          case measure => simp [intOf]; omega
        · have hqn : q = nf := by omega
          subst hqn
          go_wp2
          go_roundw
          case rel => exact ⟨k + 1, by omega, by go_num, hb2⟩
          case measure => simp [intOf]; omega
    · have hkn : k = nf := by omega
      subst hkn
      go_wp2
      go_ret
      exact ⟨rfl, hB7.trans (hb.mono hB7.size)⟩
end Go.Proofs.YtedncponpbieeaaDoor
