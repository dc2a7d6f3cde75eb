/- The walk of the function of MarksAlike. -/
import Derived.Test.YtedncponpbieeaaDoorRkk
import Derived.Test.YtedncponpbieeaaDoorPln
import Derived.Test.YtedncponpbieeaaDoorSpb
namespace Go.Proofs.YtedncponpbieeaaDoor
open Go.RowKit

theorem wrap_neg (c' c : Int) (h : c = -c') (hb : -1 ≤ c ∧ c ≤ 1) : IntKind.i64.wrap (-c') = c := by
  rw [IntKind.wrap_i64]; omega

theorem cmpE_small (a b : Nat) : -1 ≤ cmpE a b ∧ cmpE a b ≤ 1 := by
  unfold cmpE
  split
  · omega
  · split <;> omega

set_option maxRecDepth 100000 in
set_option maxHeartbeats 12800000 in
theorem alike_any {w : World} (hL : laidMet Tryd.prog laid6 w) (a : Option Addr) (cap : Nat) (ns : List Nat) (hc : WordsAt w a ns) (h64 : ∀ f ∈ ns, f < 18446744073709551616) :
    Calls Tryd.prog 7 #[.slice a ns.length cap] w fun e w' => e = .returned (.bool true) ∧ Below w.heap.size w w' := by
  have hm : Tryd.prog.follows .mixedOrders = true := by kernel_rfl
  have hfl : (ns.take 40).length ≤ 40 := by simp; omega
  have c1 : Hid (∀ w1, Below w.heap.size w w1 → Calls Tryd.prog 19 #[.slice a ns.length cap] w1 fun e w' =>
      ∃ a' cap', e = .returned (.slice a' (ns.take 40).length cap') ∧ Below w1.heap.size w1 w' ∧ FloatsAt w' a' (ns.take 40)) := fun w1 h => floats_law a cap ns w1 (hc.below h)
  generalize ns.length = nv at *
  generalize ns.take 40 = fs at *
  clear hc h64
  have c2 : Hid (∀ w1 a cap, FloatsAt w1 a fs → Calls Tryd.prog 26 #[.slice a fs.length cap] w1 fun e w' => ∃ a' L, e = .returned (.slice a' fs.length fs.length) ∧ RankOk fs L fs.length ∧ Below w1.heap.size w1 w' ∧ IntsAt w' a' L) := fun w1 a cap h => rank_any a cap fs w1 hfl h
  have hlenH : Hid (fs.length = fs.length) := rfl
  generalize hnf : fs.length = nf at c1 c2 hfl
  go_enter Tryd.func7, Tryd.ntmps7
  go_wp2_with (first
    | (go_at_call 8; refine (speaks_any hL).mono ?_; rintro e w1 ⟨rfl, hB1⟩)
    | (go_at_call 19; refine (c1.out _ hB1).mono ?_; clear c1; rintro e wA ⟨b1, d1, rfl, hB2, hF⟩; have hB3 := hB1.trans (hB2.mono hB1.size); clear hB1 hB2))
  go_loopw [4] (fun i wr => ∃ (k : Nat), k ≤ nf ∧ i = .int .i64 k ∧ Below wA.heap.size wA wr)
    (fun i _ => nf - (intOf i).toNat)
  case atStart => exact ⟨0, Nat.zero_le _, rfl, Below.refl _ _⟩
  case round =>
    obtain ⟨k, hk, rfl, hb⟩ := hrel
    by_cases hlt : k < nf
    · go_wp2
      go_loopw [5] (fun i wr => ∃ (q : Nat), q ≤ nf ∧ i = .int .i64 q ∧ Below wA.heap.size wA wr)
        (fun i _ => nf - (intOf i).toNat)
      case atStart => exact ⟨0, Nat.zero_le _, rfl, hb⟩
      case round =>
        obtain ⟨q, hq, rfl, hb2⟩ := hrel
        by_cases hlt2 : q < nf
        · obtain ⟨b, off, rfl, hbw, hf⟩ := hF k (by rw [hnf]; exact hlt)
          obtain ⟨b', off', e', _, hg⟩ := hF q (by rw [hnf]; exact hlt2)
          simp only [Option.some.injEq, Addr.mk.injEq] at e'
          obtain ⟨rfl, rfl, _⟩ := e'
          have hneg : Hid (cmpE (fs.getD k 0) (fs.getD q 0) = - cmpE (fs.getD q 0) (fs.getD k 0)) := cmpE_neg _ _
          have hsm : Hid (-1 ≤ cmpE (fs.getD k 0) (fs.getD q 0) ∧ cmpE (fs.getD k 0) (fs.getD q 0) ≤ 1) := cmpE_small _ _
          have hc1 : Hid (∀ w, Calls Tryd.prog 28 #[.float .f64 (fs.getD k 0), .float .f64 (fs.getD q 0)] w fun e w' => e = .returned (.int .i64 (cmpE (fs.getD k 0) (fs.getD q 0))) ∧ w = w') := fun w => compare_any _ _ w
          have hc2 : Hid (∀ w, Calls Tryd.prog 28 #[.float .f64 (fs.getD q 0), .float .f64 (fs.getD k 0)] w fun e w' => e = .returned (.int .i64 (cmpE (fs.getD q 0) (fs.getD k 0))) ∧ w = w') := fun w => compare_any _ _ w
          have hdef : Hid (∀ j, fs.getD j 0 = fs.getD j 0) := fun _ => rfl
          obtain ⟨c, hcE⟩ : ∃ c, c = cmpE (fs.getD k 0) (fs.getD q 0) := ⟨_, rfl⟩
          obtain ⟨c', hcE'⟩ : ∃ c, c = cmpE (fs.getD q 0) (fs.getD k 0) := ⟨_, rfl⟩
          obtain ⟨f, hfE⟩ : ∃ f, f = fs.getD k 0 := ⟨_, rfl⟩
          obtain ⟨g, hgE⟩ : ∃ f, f = fs.getD q 0 := ⟨_, rfl⟩
          rw [← hcE, ← hcE'] at hneg
          rw [← hcE] at hsm hc1
          rw [← hcE'] at hc2
          rw [← hfE, ← hgE] at hc1 hc2
          rw [← hfE] at hf
          rw [← hgE] at hg
          have hcEH : Hid (c = cmpE f g) := by unfold Hid; rw [hcE, hfE, hgE]
          have hfEH : Hid (f = fs.getD k 0) := hfE
          have hgEH : Hid (g = fs.getD q 0) := hgE
          replace hneg := wrap_neg _ _ hneg.out hsm.out
          clear hcE hcE' hfE hgE hdef hsm
          go_wp2
          refine Go.Ev.wp_region_plan (fun v => Below wA.heap.size wA v) [.slice (some ⟨b, off, none⟩) nf d1, .int .i64 (k : Nat), .pointer (some ⟨b, off + k, none⟩), .float .f64 f, .slice (some ⟨b, off, none⟩) nf d1, .int .i64 (q : Nat), .pointer (some ⟨b, off + q, none⟩), .float .f64 g, .int .i64 c, .slice (some ⟨b, off, none⟩) nf d1, .int .i64 (q : Nat), .pointer (some ⟨b, off + q, none⟩), .float .f64 g, .slice (some ⟨b, off, none⟩) nf d1, .int .i64 (k : Nat), .pointer (some ⟨b, off + k, none⟩), .float .f64 f, .int .i64 c', .int .i64 c, .bool false] hm (by kernel_rfl) (by kernel_rfl) hb2.drew ?_
          refine ⟨fun v K hv hK => ?_, ?_⟩
          · go_simp; exact hK _ hv
          simp only [Act.put, List.setIfInBounds_toArray, List.set_cons_succ, List.set_cons_zero, List.headD_cons, List.tail_cons]
          refine ⟨fun v K hv hK => ?_, ?_⟩
          · go_simp; exact hK _ hv
          simp only [Act.put, List.setIfInBounds_toArray, List.set_cons_succ, List.set_cons_zero, List.headD_cons, List.tail_cons]
          refine ⟨fun v K hv hK => ?_, ?_⟩
          · go_simp; exact hK _ hv
          simp only [Act.put, List.setIfInBounds_toArray, List.set_cons_succ, List.set_cons_zero, List.headD_cons, List.tail_cons]
          refine ⟨fun v K hv hK => ?_, ?_⟩
          · have hc := (hv.cell (by exact hbw)).trans hf; go_simp; exact hK _ hv
          simp only [Act.put, List.setIfInBounds_toArray, List.set_cons_succ, List.set_cons_zero, List.headD_cons, List.tail_cons]
          refine ⟨fun v K hv hK => ?_, ?_⟩
          · go_simp; exact hK _ hv
          simp only [Act.put, List.setIfInBounds_toArray, List.set_cons_succ, List.set_cons_zero, List.headD_cons, List.tail_cons]
          refine ⟨fun v K hv hK => ?_, ?_⟩
          · go_simp; exact hK _ hv
          simp only [Act.put, List.setIfInBounds_toArray, List.set_cons_succ, List.set_cons_zero, List.headD_cons, List.tail_cons]
          refine ⟨fun v K hv hK => ?_, ?_⟩
          · go_simp; exact hK _ hv
          simp only [Act.put, List.setIfInBounds_toArray, List.set_cons_succ, List.set_cons_zero, List.headD_cons, List.tail_cons]
          refine ⟨fun v K hv hK => ?_, ?_⟩
          · have hc := (hv.cell (by exact hbw)).trans hg; go_simp; exact hK _ hv
          simp only [Act.put, List.setIfInBounds_toArray, List.set_cons_succ, List.set_cons_zero, List.headD_cons, List.tail_cons]
          refine ⟨fun v K hv hK => ?_, ?_⟩
          · go_simp; refine (hc1.out _).mono ?_; rintro e w' ⟨rfl, rfl⟩; exact hK _ hv
          simp only [Act.put, List.setIfInBounds_toArray, List.set_cons_succ, List.set_cons_zero, List.headD_cons, List.tail_cons]
          refine ⟨fun v K hv hK => ?_, ?_⟩
          · go_simp; exact hK _ hv
          simp only [Act.put, List.setIfInBounds_toArray, List.set_cons_succ, List.set_cons_zero, List.headD_cons, List.tail_cons]
          refine ⟨fun v K hv hK => ?_, ?_⟩
          · go_simp; exact hK _ hv
          simp only [Act.put, List.setIfInBounds_toArray, List.set_cons_succ, List.set_cons_zero, List.headD_cons, List.tail_cons]
          refine ⟨fun v K hv hK => ?_, ?_⟩
          · go_simp; exact hK _ hv
          simp only [Act.put, List.setIfInBounds_toArray, List.set_cons_succ, List.set_cons_zero, List.headD_cons, List.tail_cons]
          refine ⟨fun v K hv hK => ?_, ?_⟩
          · have hc := (hv.cell (by exact hbw)).trans hg; go_simp; exact hK _ hv
          simp only [Act.put, List.setIfInBounds_toArray, List.set_cons_succ, List.set_cons_zero, List.headD_cons, List.tail_cons]
          refine ⟨fun v K hv hK => ?_, ?_⟩
          · go_simp; exact hK _ hv
          simp only [Act.put, List.setIfInBounds_toArray, List.set_cons_succ, List.set_cons_zero, List.headD_cons, List.tail_cons]
          refine ⟨fun v K hv hK => ?_, ?_⟩
          · go_simp; exact hK _ hv
          simp only [Act.put, List.setIfInBounds_toArray, List.set_cons_succ, List.set_cons_zero, List.headD_cons, List.tail_cons]
          refine ⟨fun v K hv hK => ?_, ?_⟩
          · go_simp; exact hK _ hv
          simp only [Act.put, List.setIfInBounds_toArray, List.set_cons_succ, List.set_cons_zero, List.headD_cons, List.tail_cons]
          refine ⟨fun v K hv hK => ?_, ?_⟩
          · have hc := (hv.cell (by exact hbw)).trans hf; go_simp; exact hK _ hv
          simp only [Act.put, List.setIfInBounds_toArray, List.set_cons_succ, List.set_cons_zero, List.headD_cons, List.tail_cons]
          refine ⟨fun v K hv hK => ?_, ?_⟩
          · go_simp; refine (hc2.out _).mono ?_; rintro e w' ⟨rfl, rfl⟩; exact hK _ hv
          simp only [Act.put, List.setIfInBounds_toArray, List.set_cons_succ, List.set_cons_zero, List.headD_cons, List.tail_cons]
          refine ⟨fun v K hv hK => ?_, ?_⟩
          · go_simp; exact hK _ hv
          simp only [Act.put, List.setIfInBounds_toArray, List.set_cons_succ, List.set_cons_zero, List.headD_cons, List.tail_cons]
          refine ⟨fun v K hv hK => ?_, ?_⟩
          · go_simp; exact hK _ hv
          simp only [Act.put, List.setIfInBounds_toArray, List.set_cons_succ, List.set_cons_zero, List.headD_cons, List.tail_cons]
          intro w' hv
          go_wp2
          go_loopw [6] (fun i wr => ∃ (j : Nat), j ≤ nf ∧ i = .int .i64 j ∧ Below wA.heap.size wA wr)
            (fun i _ => nf - (intOf i).toNat)
          case atStart => exact ⟨0, Nat.zero_le _, rfl, hv⟩
          case round =>
            obtain ⟨j, hj, rfl, hb3⟩ := hrel
            by_cases hlt3 : j < nf ∧ j < 12
            · obtain ⟨hlt3, hlt12⟩ := hlt3
              obtain ⟨b', off', e', _, hh⟩ := hF j (by rw [hnf]; exact hlt3)
              simp only [Option.some.injEq, Addr.mk.injEq] at e'
              obtain ⟨rfl, rfl, _⟩ := e'
              generalize fs.getD j 0 = h at *
              have hc3 : Hid (∀ w, Calls Tryd.prog 28 #[.float .f64 g, .float .f64 h] w fun e w' => e = .returned (.int .i64 (cmpE g h)) ∧ w = w') := fun w => compare_any _ _ w
              have hc4 : Hid (∀ w, Calls Tryd.prog 28 #[.float .f64 f, .float .f64 h] w fun e w' => e = .returned (.int .i64 (cmpE f h)) ∧ w = w') := fun w => compare_any _ _ w
              have htr : Hid (c ≤ 0 → cmpE g h ≤ 0 → ¬ (0 < cmpE f h)) := by intro h1 h2; rw [hcEH.out] at h1; exact cmpE_trans h1 h2
              generalize cmpE g h = d at *
              generalize cmpE f h = e at *
              by_cases h1 : c ≤ 0
              · have hd1 := decide_eq_true h1
                by_cases h2 : d ≤ 0
                · have hd2 := decide_eq_true h2
                  have h3 := htr.out h1 h2
                  have hd3 := decide_eq_false h3
                  have h3' : ¬ (e > 0) := h3
                  clear htr
                  go_wp2
                  refine Go.Ev.wp_region_plan (fun v => Below wA.heap.size wA v) [.slice (some ⟨b, off, none⟩) nf d1, .int .i64 (k : Nat), .pointer (some ⟨b, off + k, none⟩), .float .f64 f, .slice (some ⟨b, off, none⟩) nf d1, .int .i64 (q : Nat), .pointer (some ⟨b, off + q, none⟩), .float .f64 g, .int .i64 c, .bool true, .bool true, .slice (some ⟨b, off, none⟩) nf d1, .int .i64 (q : Nat), .pointer (some ⟨b, off + q, none⟩), .float .f64 g, .slice (some ⟨b, off, none⟩) nf d1, .int .i64 (j : Nat), .pointer (some ⟨b, off + j, none⟩), .float .f64 h, .int .i64 d, .bool true, .bool true, .bool true, .slice (some ⟨b, off, none⟩) nf d1, .int .i64 (k : Nat), .pointer (some ⟨b, off + k, none⟩), .float .f64 f, .slice (some ⟨b, off, none⟩) nf d1, .int .i64 (j : Nat), .pointer (some ⟨b, off + j, none⟩), .float .f64 h, .int .i64 e, .bool false, .bool false] hm (by kernel_rfl) (by kernel_rfl) hb3.drew ?_
                  refine ⟨fun v K hv hK => ?_, ?_⟩
                  · go_simp; exact hK _ hv
                  simp only [Act.put, List.setIfInBounds_toArray, List.set_cons_succ, List.set_cons_zero, List.headD_cons, List.tail_cons]
                  refine ⟨fun v K hv hK => ?_, ?_⟩
                  · go_simp; exact hK _ hv
                  simp only [Act.put, List.setIfInBounds_toArray, List.set_cons_succ, List.set_cons_zero, List.headD_cons, List.tail_cons]
                  refine ⟨fun v K hv hK => ?_, ?_⟩
                  · go_simp; exact hK _ hv
                  simp only [Act.put, List.setIfInBounds_toArray, List.set_cons_succ, List.set_cons_zero, List.headD_cons, List.tail_cons]
                  refine ⟨fun v K hv hK => ?_, ?_⟩
                  · have hc := (hv.cell (by exact hbw)).trans hf; go_simp; exact hK _ hv
                  simp only [Act.put, List.setIfInBounds_toArray, List.set_cons_succ, List.set_cons_zero, List.headD_cons, List.tail_cons]
                  refine ⟨fun v K hv hK => ?_, ?_⟩
                  · go_simp; exact hK _ hv
                  simp only [Act.put, List.setIfInBounds_toArray, List.set_cons_succ, List.set_cons_zero, List.headD_cons, List.tail_cons]
                  refine ⟨fun v K hv hK => ?_, ?_⟩
                  · go_simp; exact hK _ hv
                  simp only [Act.put, List.setIfInBounds_toArray, List.set_cons_succ, List.set_cons_zero, List.headD_cons, List.tail_cons]
                  refine ⟨fun v K hv hK => ?_, ?_⟩
                  · go_simp; exact hK _ hv
                  simp only [Act.put, List.setIfInBounds_toArray, List.set_cons_succ, List.set_cons_zero, List.headD_cons, List.tail_cons]
                  refine ⟨fun v K hv hK => ?_, ?_⟩
                  · have hc := (hv.cell (by exact hbw)).trans hg; go_simp; exact hK _ hv
                  simp only [Act.put, List.setIfInBounds_toArray, List.set_cons_succ, List.set_cons_zero, List.headD_cons, List.tail_cons]
                  refine ⟨fun v K hv hK => ?_, ?_⟩
                  · go_simp; refine (hc1.out _).mono ?_; rintro e w' ⟨rfl, rfl⟩; exact hK _ hv
                  simp only [Act.put, List.setIfInBounds_toArray, List.set_cons_succ, List.set_cons_zero, List.headD_cons, List.tail_cons]
                  refine ⟨fun v K hv hK => ?_, ?_⟩
                  · go_simp; first | exact hK _ hv | (rw [hd1]; exact hK _ hv)
                  simp only [Act.put, List.setIfInBounds_toArray, List.set_cons_succ, List.set_cons_zero, List.headD_cons, List.tail_cons]
                  refine ⟨fun v K hv hK => ?_, ?_⟩
                  · go_simp; exact hK _ hv
                  simp only [Act.put, List.setIfInBounds_toArray, List.set_cons_succ, List.set_cons_zero, List.headD_cons, List.tail_cons]
                  refine ⟨fun v K hv hK => ?_, ?_⟩
                  · go_simp; exact hK _ hv
                  simp only [Act.put, List.setIfInBounds_toArray, List.set_cons_succ, List.set_cons_zero, List.headD_cons, List.tail_cons]
                  refine ⟨fun v K hv hK => ?_, ?_⟩
                  · go_simp; exact hK _ hv
                  simp only [Act.put, List.setIfInBounds_toArray, List.set_cons_succ, List.set_cons_zero, List.headD_cons, List.tail_cons]
                  refine ⟨fun v K hv hK => ?_, ?_⟩
                  · go_simp; exact hK _ hv
                  simp only [Act.put, List.setIfInBounds_toArray, List.set_cons_succ, List.set_cons_zero, List.headD_cons, List.tail_cons]
                  refine ⟨fun v K hv hK => ?_, ?_⟩
                  · have hc := (hv.cell (by exact hbw)).trans hg; go_simp; exact hK _ hv
                  simp only [Act.put, List.setIfInBounds_toArray, List.set_cons_succ, List.set_cons_zero, List.headD_cons, List.tail_cons]
                  refine ⟨fun v K hv hK => ?_, ?_⟩
                  · go_simp; exact hK _ hv
                  simp only [Act.put, List.setIfInBounds_toArray, List.set_cons_succ, List.set_cons_zero, List.headD_cons, List.tail_cons]
                  refine ⟨fun v K hv hK => ?_, ?_⟩
                  · go_simp; exact hK _ hv
                  simp only [Act.put, List.setIfInBounds_toArray, List.set_cons_succ, List.set_cons_zero, List.headD_cons, List.tail_cons]
                  refine ⟨fun v K hv hK => ?_, ?_⟩
                  · go_simp; exact hK _ hv
                  simp only [Act.put, List.setIfInBounds_toArray, List.set_cons_succ, List.set_cons_zero, List.headD_cons, List.tail_cons]
                  refine ⟨fun v K hv hK => ?_, ?_⟩
                  · have hc := (hv.cell (by exact hbw)).trans hh; go_simp; exact hK _ hv
                  simp only [Act.put, List.setIfInBounds_toArray, List.set_cons_succ, List.set_cons_zero, List.headD_cons, List.tail_cons]
                  refine ⟨fun v K hv hK => ?_, ?_⟩
                  · go_simp; refine (hc3.out _).mono ?_; rintro e w' ⟨rfl, rfl⟩; exact hK _ hv
                  simp only [Act.put, List.setIfInBounds_toArray, List.set_cons_succ, List.set_cons_zero, List.headD_cons, List.tail_cons]
                  refine ⟨fun v K hv hK => ?_, ?_⟩
                  · go_simp; first | exact hK _ hv | (rw [hd2]; exact hK _ hv)
                  simp only [Act.put, List.setIfInBounds_toArray, List.set_cons_succ, List.set_cons_zero, List.headD_cons, List.tail_cons]
                  refine ⟨fun v K hv hK => ?_, ?_⟩
                  · go_simp; exact hK _ hv
                  simp only [Act.put, List.setIfInBounds_toArray, List.set_cons_succ, List.set_cons_zero, List.headD_cons, List.tail_cons]
                  refine ⟨fun v K hv hK => ?_, ?_⟩
                  · go_simp; exact hK _ hv
                  simp only [Act.put, List.setIfInBounds_toArray, List.set_cons_succ, List.set_cons_zero, List.headD_cons, List.tail_cons]
                  refine ⟨fun v K hv hK => ?_, ?_⟩
                  · go_simp; exact hK _ hv
                  simp only [Act.put, List.setIfInBounds_toArray, List.set_cons_succ, List.set_cons_zero, List.headD_cons, List.tail_cons]
                  refine ⟨fun v K hv hK => ?_, ?_⟩
                  · go_simp; exact hK _ hv
                  simp only [Act.put, List.setIfInBounds_toArray, List.set_cons_succ, List.set_cons_zero, List.headD_cons, List.tail_cons]
                  refine ⟨fun v K hv hK => ?_, ?_⟩
                  · go_simp; exact hK _ hv
                  simp only [Act.put, List.setIfInBounds_toArray, List.set_cons_succ, List.set_cons_zero, List.headD_cons, List.tail_cons]
                  refine ⟨fun v K hv hK => ?_, ?_⟩
                  · have hc := (hv.cell (by exact hbw)).trans hf; go_simp; exact hK _ hv
                  simp only [Act.put, List.setIfInBounds_toArray, List.set_cons_succ, List.set_cons_zero, List.headD_cons, List.tail_cons]
                  refine ⟨fun v K hv hK => ?_, ?_⟩
                  · go_simp; exact hK _ hv
                  simp only [Act.put, List.setIfInBounds_toArray, List.set_cons_succ, List.set_cons_zero, List.headD_cons, List.tail_cons]
                  refine ⟨fun v K hv hK => ?_, ?_⟩
                  · go_simp; exact hK _ hv
                  simp only [Act.put, List.setIfInBounds_toArray, List.set_cons_succ, List.set_cons_zero, List.headD_cons, List.tail_cons]
                  refine ⟨fun v K hv hK => ?_, ?_⟩
                  · go_simp; exact hK _ hv
                  simp only [Act.put, List.setIfInBounds_toArray, List.set_cons_succ, List.set_cons_zero, List.headD_cons, List.tail_cons]
                  refine ⟨fun v K hv hK => ?_, ?_⟩
                  · have hc := (hv.cell (by exact hbw)).trans hh; go_simp; exact hK _ hv
                  simp only [Act.put, List.setIfInBounds_toArray, List.set_cons_succ, List.set_cons_zero, List.headD_cons, List.tail_cons]
                  refine ⟨fun v K hv hK => ?_, ?_⟩
                  · go_simp; refine (hc4.out _).mono ?_; rintro e w' ⟨rfl, rfl⟩; exact hK _ hv
                  simp only [Act.put, List.setIfInBounds_toArray, List.set_cons_succ, List.set_cons_zero, List.headD_cons, List.tail_cons]
                  refine ⟨fun v K hv hK => ?_, ?_⟩
                  · go_simp; first | exact hK _ hv | (rw [hd3]; exact hK _ hv)
                  simp only [Act.put, List.setIfInBounds_toArray, List.set_cons_succ, List.set_cons_zero, List.headD_cons, List.tail_cons]
                  refine ⟨fun v K hv hK => ?_, ?_⟩
                  · go_simp; exact hK _ hv
                  simp only [Act.put, List.setIfInBounds_toArray, List.set_cons_succ, List.set_cons_zero, List.headD_cons, List.tail_cons]
                  intro w' hv
                  go_wp2
                  go_roundw
                  case rel => exact ⟨j + 1, by omega, by go_num, hv⟩
                  case measure => simp [intOf]; omega
                · have hd2 := decide_eq_false h2
                  clear htr hc4
                  go_wp2
                  refine Go.Ev.wp_region_plan (fun v => Below wA.heap.size wA v) [.slice (some ⟨b, off, none⟩) nf d1, .int .i64 (k : Nat), .pointer (some ⟨b, off + k, none⟩), .float .f64 f, .slice (some ⟨b, off, none⟩) nf d1, .int .i64 (q : Nat), .pointer (some ⟨b, off + q, none⟩), .float .f64 g, .int .i64 c, .bool true, .bool true, .slice (some ⟨b, off, none⟩) nf d1, .int .i64 (q : Nat), .pointer (some ⟨b, off + q, none⟩), .float .f64 g, .slice (some ⟨b, off, none⟩) nf d1, .int .i64 (j : Nat), .pointer (some ⟨b, off + j, none⟩), .float .f64 h, .int .i64 d, .bool false, .bool false, .bool false, undef, undef, undef, undef, undef, undef, undef, undef, undef, undef, .bool false] hm (by kernel_rfl) (by kernel_rfl) hb3.drew ?_
                  refine ⟨fun v K hv hK => ?_, ?_⟩
                  · go_simp; exact hK _ hv
                  simp only [Act.put, List.setIfInBounds_toArray, List.set_cons_succ, List.set_cons_zero, List.headD_cons, List.tail_cons]
                  refine ⟨fun v K hv hK => ?_, ?_⟩
                  · go_simp; exact hK _ hv
                  simp only [Act.put, List.setIfInBounds_toArray, List.set_cons_succ, List.set_cons_zero, List.headD_cons, List.tail_cons]
                  refine ⟨fun v K hv hK => ?_, ?_⟩
                  · go_simp; exact hK _ hv
                  simp only [Act.put, List.setIfInBounds_toArray, List.set_cons_succ, List.set_cons_zero, List.headD_cons, List.tail_cons]
                  refine ⟨fun v K hv hK => ?_, ?_⟩
                  · have hc := (hv.cell (by exact hbw)).trans hf; go_simp; exact hK _ hv
                  simp only [Act.put, List.setIfInBounds_toArray, List.set_cons_succ, List.set_cons_zero, List.headD_cons, List.tail_cons]
                  refine ⟨fun v K hv hK => ?_, ?_⟩
                  · go_simp; exact hK _ hv
                  simp only [Act.put, List.setIfInBounds_toArray, List.set_cons_succ, List.set_cons_zero, List.headD_cons, List.tail_cons]
                  refine ⟨fun v K hv hK => ?_, ?_⟩
                  · go_simp; exact hK _ hv
                  simp only [Act.put, List.setIfInBounds_toArray, List.set_cons_succ, List.set_cons_zero, List.headD_cons, List.tail_cons]
                  refine ⟨fun v K hv hK => ?_, ?_⟩
                  · go_simp; exact hK _ hv
                  simp only [Act.put, List.setIfInBounds_toArray, List.set_cons_succ, List.set_cons_zero, List.headD_cons, List.tail_cons]
                  refine ⟨fun v K hv hK => ?_, ?_⟩
                  · have hc := (hv.cell (by exact hbw)).trans hg; go_simp; exact hK _ hv
                  simp only [Act.put, List.setIfInBounds_toArray, List.set_cons_succ, List.set_cons_zero, List.headD_cons, List.tail_cons]
                  refine ⟨fun v K hv hK => ?_, ?_⟩
                  · go_simp; refine (hc1.out _).mono ?_; rintro e w' ⟨rfl, rfl⟩; exact hK _ hv
                  simp only [Act.put, List.setIfInBounds_toArray, List.set_cons_succ, List.set_cons_zero, List.headD_cons, List.tail_cons]
                  refine ⟨fun v K hv hK => ?_, ?_⟩
                  · go_simp; first | exact hK _ hv | (rw [hd1]; exact hK _ hv)
                  simp only [Act.put, List.setIfInBounds_toArray, List.set_cons_succ, List.set_cons_zero, List.headD_cons, List.tail_cons]
                  refine ⟨fun v K hv hK => ?_, ?_⟩
                  · go_simp; exact hK _ hv
                  simp only [Act.put, List.setIfInBounds_toArray, List.set_cons_succ, List.set_cons_zero, List.headD_cons, List.tail_cons]
                  refine ⟨fun v K hv hK => ?_, ?_⟩
                  · go_simp; exact hK _ hv
                  simp only [Act.put, List.setIfInBounds_toArray, List.set_cons_succ, List.set_cons_zero, List.headD_cons, List.tail_cons]
                  refine ⟨fun v K hv hK => ?_, ?_⟩
                  · go_simp; exact hK _ hv
                  simp only [Act.put, List.setIfInBounds_toArray, List.set_cons_succ, List.set_cons_zero, List.headD_cons, List.tail_cons]
                  refine ⟨fun v K hv hK => ?_, ?_⟩
                  · go_simp; exact hK _ hv
                  simp only [Act.put, List.setIfInBounds_toArray, List.set_cons_succ, List.set_cons_zero, List.headD_cons, List.tail_cons]
                  refine ⟨fun v K hv hK => ?_, ?_⟩
                  · have hc := (hv.cell (by exact hbw)).trans hg; go_simp; exact hK _ hv
                  simp only [Act.put, List.setIfInBounds_toArray, List.set_cons_succ, List.set_cons_zero, List.headD_cons, List.tail_cons]
                  refine ⟨fun v K hv hK => ?_, ?_⟩
                  · go_simp; exact hK _ hv
                  simp only [Act.put, List.setIfInBounds_toArray, List.set_cons_succ, List.set_cons_zero, List.headD_cons, List.tail_cons]
                  refine ⟨fun v K hv hK => ?_, ?_⟩
                  · go_simp; exact hK _ hv
                  simp only [Act.put, List.setIfInBounds_toArray, List.set_cons_succ, List.set_cons_zero, List.headD_cons, List.tail_cons]
                  refine ⟨fun v K hv hK => ?_, ?_⟩
                  · go_simp; exact hK _ hv
                  simp only [Act.put, List.setIfInBounds_toArray, List.set_cons_succ, List.set_cons_zero, List.headD_cons, List.tail_cons]
                  refine ⟨fun v K hv hK => ?_, ?_⟩
                  · have hc := (hv.cell (by exact hbw)).trans hh; go_simp; exact hK _ hv
                  simp only [Act.put, List.setIfInBounds_toArray, List.set_cons_succ, List.set_cons_zero, List.headD_cons, List.tail_cons]
                  refine ⟨fun v K hv hK => ?_, ?_⟩
                  · go_simp; refine (hc3.out _).mono ?_; rintro e w' ⟨rfl, rfl⟩; exact hK _ hv
                  simp only [Act.put, List.setIfInBounds_toArray, List.set_cons_succ, List.set_cons_zero, List.headD_cons, List.tail_cons]
                  refine ⟨fun v K hv hK => ?_, ?_⟩
                  · go_simp; first | exact hK _ hv | (rw [hd2]; exact hK _ hv)
                  simp only [Act.put, List.setIfInBounds_toArray, List.set_cons_succ, List.set_cons_zero, List.headD_cons, List.tail_cons]
                  refine ⟨fun v K hv hK => ?_, ?_⟩
                  · go_simp; exact hK _ hv
                  simp only [Act.put, List.setIfInBounds_toArray, List.set_cons_succ, List.set_cons_zero, List.headD_cons, List.tail_cons]
                  refine ⟨fun v K hv hK => ?_, ?_⟩
                  · go_simp; exact hK _ hv
                  simp only [Act.put, List.setIfInBounds_toArray, List.set_cons_succ, List.set_cons_zero, List.headD_cons, List.tail_cons]
                  refine ⟨fun v K hv hK => ?_, ?_⟩
                  · go_simp; exact hK _ hv
                  simp only [Act.put, List.setIfInBounds_toArray, List.set_cons_succ, List.set_cons_zero, List.headD_cons, List.tail_cons]
                  refine ⟨fun v K hv hK => ?_, ?_⟩
                  · go_simp; exact hK _ hv
                  simp only [Act.put, List.setIfInBounds_toArray, List.set_cons_succ, List.set_cons_zero, List.headD_cons, List.tail_cons]
                  refine ⟨fun v K hv hK => ?_, ?_⟩
                  · go_simp; exact hK _ hv
                  simp only [Act.put, List.setIfInBounds_toArray, List.set_cons_succ, List.set_cons_zero, List.headD_cons, List.tail_cons]
                  refine ⟨fun v K hv hK => ?_, ?_⟩
                  · go_simp; exact hK _ hv
                  simp only [Act.put, List.setIfInBounds_toArray, List.set_cons_succ, List.set_cons_zero, List.headD_cons, List.tail_cons]
                  refine ⟨fun v K hv hK => ?_, ?_⟩
                  · go_simp; exact hK _ hv
                  simp only [Act.put, List.setIfInBounds_toArray, List.set_cons_succ, List.set_cons_zero, List.headD_cons, List.tail_cons]
                  refine ⟨fun v K hv hK => ?_, ?_⟩
                  · go_simp; exact hK _ hv
                  simp only [Act.put, List.setIfInBounds_toArray, List.set_cons_succ, List.set_cons_zero, List.headD_cons, List.tail_cons]
                  refine ⟨fun v K hv hK => ?_, ?_⟩
                  · go_simp; exact hK _ hv
                  simp only [Act.put, List.setIfInBounds_toArray, List.set_cons_succ, List.set_cons_zero, List.headD_cons, List.tail_cons]
                  refine ⟨fun v K hv hK => ?_, ?_⟩
                  · go_simp; exact hK _ hv
                  simp only [Act.put, List.setIfInBounds_toArray, List.set_cons_succ, List.set_cons_zero, List.headD_cons, List.tail_cons]
                  refine ⟨fun v K hv hK => ?_, ?_⟩
                  · go_simp; exact hK _ hv
                  simp only [Act.put, List.setIfInBounds_toArray, List.set_cons_succ, List.set_cons_zero, List.headD_cons, List.tail_cons]
                  refine ⟨fun v K hv hK => ?_, ?_⟩
                  · go_simp; exact hK _ hv
                  simp only [Act.put, List.setIfInBounds_toArray, List.set_cons_succ, List.set_cons_zero, List.headD_cons, List.tail_cons]
                  refine ⟨fun v K hv hK => ?_, ?_⟩
                  · go_simp; exact hK _ hv
                  simp only [Act.put, List.setIfInBounds_toArray, List.set_cons_succ, List.set_cons_zero, List.headD_cons, List.tail_cons]
                  intro w' hv
                  go_wp2
                  go_roundw
                  case rel => exact ⟨j + 1, by omega, by go_num, hv⟩
                  case measure => simp [intOf]; omega
              · have hd1 := decide_eq_false h1
                clear htr hc3 hc4
                go_wp2
                refine Go.Ev.wp_region_plan (fun v => Below wA.heap.size wA v) [.slice (some ⟨b, off, none⟩) nf d1, .int .i64 (k : Nat), .pointer (some ⟨b, off + k, none⟩), .float .f64 f, .slice (some ⟨b, off, none⟩) nf d1, .int .i64 (q : Nat), .pointer (some ⟨b, off + q, none⟩), .float .f64 g, .int .i64 c, .bool false, .bool false, undef, undef, undef, undef, undef, undef, undef, undef, undef, undef, .bool false, .bool false, undef, undef, undef, undef, undef, undef, undef, undef, undef, undef, .bool false] hm (by kernel_rfl) (by kernel_rfl) hb3.drew ?_
                refine ⟨fun v K hv hK => ?_, ?_⟩
                · go_simp; exact hK _ hv
                simp only [Act.put, List.setIfInBounds_toArray, List.set_cons_succ, List.set_cons_zero, List.headD_cons, List.tail_cons]
                refine ⟨fun v K hv hK => ?_, ?_⟩
                · go_simp; exact hK _ hv
                simp only [Act.put, List.setIfInBounds_toArray, List.set_cons_succ, List.set_cons_zero, List.headD_cons, List.tail_cons]
                refine ⟨fun v K hv hK => ?_, ?_⟩
                · go_simp; exact hK _ hv
                simp only [Act.put, List.setIfInBounds_toArray, List.set_cons_succ, List.set_cons_zero, List.headD_cons, List.tail_cons]
                refine ⟨fun v K hv hK => ?_, ?_⟩
                · have hc := (hv.cell (by exact hbw)).trans hf; go_simp; exact hK _ hv
                simp only [Act.put, List.setIfInBounds_toArray, List.set_cons_succ, List.set_cons_zero, List.headD_cons, List.tail_cons]
                refine ⟨fun v K hv hK => ?_, ?_⟩
                · go_simp; exact hK _ hv
                simp only [Act.put, List.setIfInBounds_toArray, List.set_cons_succ, List.set_cons_zero, List.headD_cons, List.tail_cons]
                refine ⟨fun v K hv hK => ?_, ?_⟩
                · go_simp; exact hK _ hv
                simp only [Act.put, List.setIfInBounds_toArray, List.set_cons_succ, List.set_cons_zero, List.headD_cons, List.tail_cons]
                refine ⟨fun v K hv hK => ?_, ?_⟩
                · go_simp; exact hK _ hv
                simp only [Act.put, List.setIfInBounds_toArray, List.set_cons_succ, List.set_cons_zero, List.headD_cons, List.tail_cons]
                refine ⟨fun v K hv hK => ?_, ?_⟩
                · have hc := (hv.cell (by exact hbw)).trans hg; go_simp; exact hK _ hv
                simp only [Act.put, List.setIfInBounds_toArray, List.set_cons_succ, List.set_cons_zero, List.headD_cons, List.tail_cons]
                refine ⟨fun v K hv hK => ?_, ?_⟩
                · go_simp; refine (hc1.out _).mono ?_; rintro e w' ⟨rfl, rfl⟩; exact hK _ hv
                simp only [Act.put, List.setIfInBounds_toArray, List.set_cons_succ, List.set_cons_zero, List.headD_cons, List.tail_cons]
                refine ⟨fun v K hv hK => ?_, ?_⟩
                · go_simp; first | exact hK _ hv | (rw [hd1]; exact hK _ hv)
                simp only [Act.put, List.setIfInBounds_toArray, List.set_cons_succ, List.set_cons_zero, List.headD_cons, List.tail_cons]
                refine ⟨fun v K hv hK => ?_, ?_⟩
                · go_simp; exact hK _ hv
                simp only [Act.put, List.setIfInBounds_toArray, List.set_cons_succ, List.set_cons_zero, List.headD_cons, List.tail_cons]
                refine ⟨fun v K hv hK => ?_, ?_⟩
                · go_simp; exact hK _ hv
                simp only [Act.put, List.setIfInBounds_toArray, List.set_cons_succ, List.set_cons_zero, List.headD_cons, List.tail_cons]
                refine ⟨fun v K hv hK => ?_, ?_⟩
                · go_simp; exact hK _ hv
                simp only [Act.put, List.setIfInBounds_toArray, List.set_cons_succ, List.set_cons_zero, List.headD_cons, List.tail_cons]
                refine ⟨fun v K hv hK => ?_, ?_⟩
                · go_simp; exact hK _ hv
                simp only [Act.put, List.setIfInBounds_toArray, List.set_cons_succ, List.set_cons_zero, List.headD_cons, List.tail_cons]
                refine ⟨fun v K hv hK => ?_, ?_⟩
                · go_simp; exact hK _ hv
                simp only [Act.put, List.setIfInBounds_toArray, List.set_cons_succ, List.set_cons_zero, List.headD_cons, List.tail_cons]
                refine ⟨fun v K hv hK => ?_, ?_⟩
                · go_simp; exact hK _ hv
                simp only [Act.put, List.setIfInBounds_toArray, List.set_cons_succ, List.set_cons_zero, List.headD_cons, List.tail_cons]
                refine ⟨fun v K hv hK => ?_, ?_⟩
                · go_simp; exact hK _ hv
                simp only [Act.put, List.setIfInBounds_toArray, List.set_cons_succ, List.set_cons_zero, List.headD_cons, List.tail_cons]
                refine ⟨fun v K hv hK => ?_, ?_⟩
                · go_simp; exact hK _ hv
                simp only [Act.put, List.setIfInBounds_toArray, List.set_cons_succ, List.set_cons_zero, List.headD_cons, List.tail_cons]
                refine ⟨fun v K hv hK => ?_, ?_⟩
                · go_simp; exact hK _ hv
                simp only [Act.put, List.setIfInBounds_toArray, List.set_cons_succ, List.set_cons_zero, List.headD_cons, List.tail_cons]
                refine ⟨fun v K hv hK => ?_, ?_⟩
                · go_simp; exact hK _ hv
                simp only [Act.put, List.setIfInBounds_toArray, List.set_cons_succ, List.set_cons_zero, List.headD_cons, List.tail_cons]
                refine ⟨fun v K hv hK => ?_, ?_⟩
                · go_simp; exact hK _ hv
                simp only [Act.put, List.setIfInBounds_toArray, List.set_cons_succ, List.set_cons_zero, List.headD_cons, List.tail_cons]
                refine ⟨fun v K hv hK => ?_, ?_⟩
                · go_simp; exact hK _ hv
                simp only [Act.put, List.setIfInBounds_toArray, List.set_cons_succ, List.set_cons_zero, List.headD_cons, List.tail_cons]
                refine ⟨fun v K hv hK => ?_, ?_⟩
                · go_simp; exact hK _ hv
                simp only [Act.put, List.setIfInBounds_toArray, List.set_cons_succ, List.set_cons_zero, List.headD_cons, List.tail_cons]
                refine ⟨fun v K hv hK => ?_, ?_⟩
                · go_simp; exact hK _ hv
                simp only [Act.put, List.setIfInBounds_toArray, List.set_cons_succ, List.set_cons_zero, List.headD_cons, List.tail_cons]
                refine ⟨fun v K hv hK => ?_, ?_⟩
                · go_simp; exact hK _ hv
                simp only [Act.put, List.setIfInBounds_toArray, List.set_cons_succ, List.set_cons_zero, List.headD_cons, List.tail_cons]
                refine ⟨fun v K hv hK => ?_, ?_⟩
                · go_simp; exact hK _ hv
                simp only [Act.put, List.setIfInBounds_toArray, List.set_cons_succ, List.set_cons_zero, List.headD_cons, List.tail_cons]
                refine ⟨fun v K hv hK => ?_, ?_⟩
                · go_simp; exact hK _ hv
                simp only [Act.put, List.setIfInBounds_toArray, List.set_cons_succ, List.set_cons_zero, List.headD_cons, List.tail_cons]
                refine ⟨fun v K hv hK => ?_, ?_⟩
                · go_simp; exact hK _ hv
                simp only [Act.put, List.setIfInBounds_toArray, List.set_cons_succ, List.set_cons_zero, List.headD_cons, List.tail_cons]
                refine ⟨fun v K hv hK => ?_, ?_⟩
                · go_simp; exact hK _ hv
                simp only [Act.put, List.setIfInBounds_toArray, List.set_cons_succ, List.set_cons_zero, List.headD_cons, List.tail_cons]
                refine ⟨fun v K hv hK => ?_, ?_⟩
                · go_simp; exact hK _ hv
                simp only [Act.put, List.setIfInBounds_toArray, List.set_cons_succ, List.set_cons_zero, List.headD_cons, List.tail_cons]
                refine ⟨fun v K hv hK => ?_, ?_⟩
                · go_simp; exact hK _ hv
                simp only [Act.put, List.setIfInBounds_toArray, List.set_cons_succ, List.set_cons_zero, List.headD_cons, List.tail_cons]
                refine ⟨fun v K hv hK => ?_, ?_⟩
                · go_simp; exact hK _ hv
                simp only [Act.put, List.setIfInBounds_toArray, List.set_cons_succ, List.set_cons_zero, List.headD_cons, List.tail_cons]
                refine ⟨fun v K hv hK => ?_, ?_⟩
                · go_simp; exact hK _ hv
                simp only [Act.put, List.setIfInBounds_toArray, List.set_cons_succ, List.set_cons_zero, List.headD_cons, List.tail_cons]
                refine ⟨fun v K hv hK => ?_, ?_⟩
                · go_simp; exact hK _ hv
                simp only [Act.put, List.setIfInBounds_toArray, List.set_cons_succ, List.set_cons_zero, List.headD_cons, List.tail_cons]
                intro w' hv
                go_wp2
                go_roundw
                case rel => exact ⟨j + 1, by omega, by go_num, hv⟩
                case measure => simp [intOf]; omega
            · go_wp2
              all_goals (go_roundw; exact ⟨q + 1, by omega, by go_num, hb3⟩; simp [intOf]; omega)
        · go_wp2
          go_roundw
          case rel => exact ⟨k + 1, by omega, by go_num, hb2⟩
          case measure => simp [intOf]; omega
    · have hkn : k = nf := by omega
      replace hF := hF.below hb
      have hB4 := hB3.trans (hb.mono hB3.size)
      clear hB3 hb
      go_wp2_with (go_at_call 26; refine (c2.out _ _ _ hF).mono ?_; clear c2; rintro e wB ⟨r1, L, rfl, hRL, hB5, hIL⟩; replace hF := hF.below hB5; have hB6 := hB4.trans (hB5.mono hB4.size); clear hB4 hB5)
      go_loopw [8] (fun i wr => ∃ (p : Nat), p ≤ 40 ∧ i = .int .i64 ((p + 1 : Nat) : Int) ∧ Below wB.heap.size wB wr)
        (fun i _ => 42 - (intOf i).toNat)
      case atStart => exact ⟨0, Nat.zero_le _, rfl, Below.refl _ _⟩
      case round =>
        obtain ⟨p, hp, rfl, hb⟩ := hrel
        by_cases hlt4 : p + 1 < nf
        · obtain ⟨g1, rfl, hg1, hx⟩ := hIL p (by rw [hRL.1]; omega)
          obtain ⟨g1', e', _, hy⟩ := hIL (p + 1) (by rw [hRL.1]; exact hlt4)
          simp only [Option.some.injEq, Addr.mk.injEq] at e'
          obtain ⟨rfl, _, _⟩ := e'
          have hxl := (hRL.2 p (by omega)).1
          have hyl := (hRL.2 (p + 1) hlt4).1
          have hdn := rank_down hRL (Nat.lt_succ_self p) hlt4
          obtain ⟨b, off, rfl, hbB, hf⟩ := hF (L.getD p 0) (by rw [hnf]; exact hxl)
          obtain ⟨b', off', e', _, hg⟩ := hF (L.getD (p + 1) 0) (by rw [hnf]; exact hyl)
          simp only [Option.some.injEq, Addr.mk.injEq] at e'
          obtain ⟨rfl, rfl, _⟩ := e'
          have e2 := @ltR_n fs (L.getD p 0) (L.getD (p + 1) 0)
          have e3 := @ltR_y fs (L.getD (p + 1) 0) (L.getD p 0)
          have e5 := @ltR_ne fs (L.getD (p + 1) 0) (L.getD p 0)
          generalize L.getD p 0 = x at *
          generalize L.getD (p + 1) 0 = y at *
          generalize fs.getD x 0 = f at *
          generalize fs.getD y 0 = g at *
          have hcase : Hid (nanN f = true ∧ nanN g = true ∨ nanN f = false ∧ nanN g = true ∨ nanN f = false ∧ nanN g = false ∧ ¬ (keyN f < keyN g)) := by
            unfold Hid
            cases h1 : nanN f with
            | true =>
              cases h2 : nanN g with
              | true => exact .inl ⟨rfl, rfl⟩
              | false => rw [e3 h2 h1] at hdn; cases hdn
            | false =>
              cases h2 : nanN g with
              | true => exact .inr (.inl ⟨rfl, rfl⟩)
              | false =>
                refine .inr (.inr ⟨rfl, rfl, fun h => ?_⟩)
                rw [e5 h2 h1 (by omega)] at hdn
                exact absurd h (of_decide_eq_false hdn)
          clear e2 e3 e5 hdn
          have hpn : p < nf := by omega
          have he1 : IntKind.i64.wrap (p : Int) = (p : Int) := by rw [IntKind.wrap_i64]; omega
          go_wp2
          refine Go.Ev.wp_region_plan (fun v => Below wB.heap.size wB v) [.slice (some ⟨b, off, none⟩) nf d1, .slice (some ⟨g1, 0, none⟩) nf nf, .int .i64 ((p : Int) + 1), .int .i64 (p : Nat), .pointer (some ⟨g1, p, none⟩), .int .i64 (x : Nat), .pointer (some ⟨b, off + x, none⟩), .float .f64 f, .slice (some ⟨b, off, none⟩) nf d1, .slice (some ⟨g1, 0, none⟩) nf nf, .int .i64 ((p : Int) + 1), .pointer (some ⟨g1, p + 1, none⟩), .int .i64 (y : Nat), .pointer (some ⟨b, off + y, none⟩), .float .f64 g, .float .f64 f, .float .f64 g] hm (by kernel_rfl) (by kernel_rfl) hb.drew ?_
          refine ⟨fun v K hv hK => ?_, ?_⟩
          · go_simp; exact hK _ hv
          simp only [Act.put, List.setIfInBounds_toArray, List.set_cons_succ, List.set_cons_zero, List.headD_cons, List.tail_cons]
          refine ⟨fun v K hv hK => ?_, ?_⟩
          · go_simp; exact hK _ hv
          simp only [Act.put, List.setIfInBounds_toArray, List.set_cons_succ, List.set_cons_zero, List.headD_cons, List.tail_cons]
          refine ⟨fun v K hv hK => ?_, ?_⟩
          · go_simp; exact hK _ hv
          simp only [Act.put, List.setIfInBounds_toArray, List.set_cons_succ, List.set_cons_zero, List.headD_cons, List.tail_cons]
          refine ⟨fun v K hv hK => ?_, ?_⟩
          · go_simp; first | exact hK _ hv | (rw [he1]; exact hK _ hv)
          simp only [Act.put, List.setIfInBounds_toArray, List.set_cons_succ, List.set_cons_zero, List.headD_cons, List.tail_cons]
          refine ⟨fun v K hv hK => ?_, ?_⟩
          · go_simp; exact hK _ hv
          simp only [Act.put, List.setIfInBounds_toArray, List.set_cons_succ, List.set_cons_zero, List.headD_cons, List.tail_cons]
          refine ⟨fun v K hv hK => ?_, ?_⟩
          · have hc := (hv.cell (by exact hg1)).trans hx; go_simp; exact hK _ hv
          simp only [Act.put, List.setIfInBounds_toArray, List.set_cons_succ, List.set_cons_zero, List.headD_cons, List.tail_cons]
          refine ⟨fun v K hv hK => ?_, ?_⟩
          · go_simp; exact hK _ hv
          simp only [Act.put, List.setIfInBounds_toArray, List.set_cons_succ, List.set_cons_zero, List.headD_cons, List.tail_cons]
          refine ⟨fun v K hv hK => ?_, ?_⟩
          · have hc := (hv.cell (by exact hbB)).trans hf; go_simp; exact hK _ hv
          simp only [Act.put, List.setIfInBounds_toArray, List.set_cons_succ, List.set_cons_zero, List.headD_cons, List.tail_cons]
          refine ⟨fun v K hv hK => ?_, ?_⟩
          · go_simp; exact hK _ hv
          simp only [Act.put, List.setIfInBounds_toArray, List.set_cons_succ, List.set_cons_zero, List.headD_cons, List.tail_cons]
          refine ⟨fun v K hv hK => ?_, ?_⟩
          · go_simp; exact hK _ hv
          simp only [Act.put, List.setIfInBounds_toArray, List.set_cons_succ, List.set_cons_zero, List.headD_cons, List.tail_cons]
          refine ⟨fun v K hv hK => ?_, ?_⟩
          · go_simp; exact hK _ hv
          simp only [Act.put, List.setIfInBounds_toArray, List.set_cons_succ, List.set_cons_zero, List.headD_cons, List.tail_cons]
          refine ⟨fun v K hv hK => ?_, ?_⟩
          · go_simp; exact hK _ hv
          simp only [Act.put, List.setIfInBounds_toArray, List.set_cons_succ, List.set_cons_zero, List.headD_cons, List.tail_cons]
          refine ⟨fun v K hv hK => ?_, ?_⟩
          · have hc := (hv.cell (by exact hg1)).trans hy; go_simp; exact hK _ hv
          simp only [Act.put, List.setIfInBounds_toArray, List.set_cons_succ, List.set_cons_zero, List.headD_cons, List.tail_cons]
          refine ⟨fun v K hv hK => ?_, ?_⟩
          · go_simp; exact hK _ hv
          simp only [Act.put, List.setIfInBounds_toArray, List.set_cons_succ, List.set_cons_zero, List.headD_cons, List.tail_cons]
          refine ⟨fun v K hv hK => ?_, ?_⟩
          · have hc := (hv.cell (by exact hbB)).trans hg; go_simp; exact hK _ hv
          simp only [Act.put, List.setIfInBounds_toArray, List.set_cons_succ, List.set_cons_zero, List.headD_cons, List.tail_cons]
          refine ⟨fun v K hv hK => ?_, ?_⟩
          · go_simp; exact hK _ hv
          simp only [Act.put, List.setIfInBounds_toArray, List.set_cons_succ, List.set_cons_zero, List.headD_cons, List.tail_cons]
          refine ⟨fun v K hv hK => ?_, ?_⟩
          · go_simp; exact hK _ hv
          simp only [Act.put, List.setIfInBounds_toArray, List.set_cons_succ, List.set_cons_zero, List.headD_cons, List.tail_cons]
          intro w' hv
          have hn := order_self f
          have hn' := order_refl f
          have hm := order_self g
          have hm' := order_refl g
          have hol := order_lt f g
          rcases hcase.out with ⟨h1, h2⟩ | ⟨h1, h2⟩ | ⟨h1, h2, h3⟩
          · rw [h1] at hn hn'; rw [h2] at hm hm'
            clear hcase hol h1 h2
            go_wp2
            go_roundw
            case rel => exact ⟨p + 1, by omega, by go_num, hv⟩
            case measure => simp [intOf]; omega
          · rw [h1] at hn hn'; rw [h2] at hm hm'
            clear hcase hol h1 h2
            go_wp2
            go_roundw
            case rel => exact ⟨p + 1, by omega, by go_num, hv⟩
            case measure => simp [intOf]; omega
          · rw [h1] at hn hn'; rw [h2] at hm hm'
            rw [h1, h2, decide_eq_false (show ¬ (keyN f < keyN g) by omega)] at hol
            clear hcase h1 h2 h3
            go_wp2
            go_roundw
            case rel => exact ⟨p + 1, by omega, by go_num, hv⟩
            case measure => simp [intOf]; omega
        · go_wp2
          go_ret
          exact ⟨rfl, hB6.trans (hb.mono hB6.size)⟩
end Go.Proofs.YtedncponpbieeaaDoor
