/- The program's 'Rank': what it returns. -/
import Derived.Test.YtedncponpbieeaaDoorSrt
namespace Go.Proofs.YtedncponpbieeaaDoor
open Go.RowKit Go.Shelf

set_option maxHeartbeats 3200000 in
set_option maxRecDepth 100000 in
theorem rank_any (a : Option Addr) (cap : Nat) (fs : List Nat) (w : World) (h40 : fs.length ≤ 40) (hc : FloatsAt w a fs) :
    Calls Tryd.prog 26 #[.slice a fs.length cap] w fun e w' => ∃ a' L, e = .returned (.slice a' fs.length fs.length) ∧ RankOk fs L fs.length ∧ Below w.heap.size w w' ∧ IntsAt w' a' L := by
  obtain ⟨i0, hi, hz0, hz1, hz2⟩ := info_parts info3
  have hmf : ∀ (fn : Fn) (first cap : Array Value) (w : World), (Instr.makeFunc fn first cap).run Tryd.prog w = .ok (.func fn first cap) w := fun _ _ _ _ => rfl
  obtain ⟨w1, hw1⟩ : ∃ w1, w1 = w.alloc (Obj.cells #[Value.slice a fs.length cap] 38) := ⟨_, rfl⟩
  have hb1 : Below w.heap.size w w1 := by rw [hw1]; exact (Below.refl _ _).alloc (Nat.le_refl _) _
  have hs1 : w1.heap.size = w.heap.size + 1 := by rw [hw1]; simp
  have hp1 : w1.cell? ⟨w.heap.size, 0, none⟩ = some (.slice a fs.length cap) := by rw [hw1]; simp
  have hcb : ∀ b off, a = some ⟨b, off, none⟩ → 0 < fs.length → b < w.heap.size := fun b off e h => by
    obtain ⟨b', off', e', hlt, _⟩ := hc 0 h
    rw [e] at e'; cases e'; exact hlt
  have hsort : Hid (∀ W, Below w1.heap.size w1 W → (∀ j, j < fs.length → W.cell? ⟨w.heap.size + 1, j, none⟩ = some (.int .i64 (j : Nat)) ∧ W.frozen? ⟨w.heap.size + 1, j, none⟩ = false) → w.heap.size + 1 < W.heap.size →
      Calls Tryd.prog 38 #[.slice (some ⟨w.heap.size + 1, 0, none⟩) fs.length fs.length, .func (.func 39) #[] #[.pointer (some ⟨w.heap.size, 0, none⟩)]] W fun e w' => e = .returned (.tuple #[]) ∧ Below w.heap.size w w' ∧
        ∃ L, RankOk fs L fs.length ∧ IntsAt w' (some ⟨w.heap.size + 1, 0, none⟩) L) := by
    intro W hW hrow hlt
    by_cases h0 : fs.length = 0
    · rw [h0]
      refine (sort_none _ _ _ W).mono ?_
      rintro e w' ⟨rfl, rfl⟩
      exact ⟨rfl, hb1.trans (hW.mono hb1.size), [], ⟨rfl, fun p hp => absurd hp (Nat.not_lt_zero _)⟩, fun j hj => absurd hj (Nat.not_lt_zero _)⟩
    · refine (sort_places fs fs.length w.heap.size (w.heap.size + 1) a cap W rfl (by omega) h40 (by rw [hW.cell (by rw [hs1]; exact Nat.lt_succ_self _)]; exact hp1) (by omega) (by omega)
        ((hc.below hb1).below hW) (fun b off e => by have := hcb b off e (by omega); omega) hlt hrow).mono ?_
      rintro e w' ⟨rfl, L, hL, hcells, m, d, os, rfl⟩
      refine ⟨rfl, below_sortWorld (hb1.trans (hW.mono hb1.size)) (by omega), L, hL, fun j hj => ⟨w.heap.size + 1, rfl, Nat.lt_of_lt_of_le hlt size_sortWorld, hcells j (by rw [← hL.1]; exact hj)⟩⟩
  clear hc hcb
  generalize fs.length = n at *
  go_enter Tryd.func26, Tryd.ntmps26
  go_wp2_with (at_make; rw [← hw1]; clear hw1; refine wpList_make_full _ rfl _ _ 45 rfl w1.heap.size 3 i0 (.int .i64 0) 1 under45 hi hz0 hz1 .i64 .i64 _ _ n rfl rfl (by omega) (by omega) (by rw [hz2]; omega) (by unfold maxLen; omega) (Nat.le_refl _) ?_)
  intro w2 hown2 hgrow2
  have hb2 : Below w1.heap.size w1 w2 := (Below.refl _ _).grown hgrow2 (Nat.le_refl _) (by simp)
  clear hgrow2 hi hz0 hz1 hz2
  go_wp2
  go_loopw [10] (fun i wr => ∃ (k : Nat) (xs : List Value), k ≤ n ∧ i = .int .i64 k ∧ (∀ j, j < k → xs[j]? = some (.int .i64 (j : Nat))) ∧
      wr.ownsRow (w.heap.size + 1) 3 1 (.slice (some ⟨w.heap.size + 1, 0, none⟩) n n) n xs ∧ Below w1.heap.size w1 wr)
    (fun i _ => n - (intOf i).toNat)
  case atStart => exact ⟨0, _, Nat.zero_le _, rfl, fun i hi => absurd hi (Nat.not_lt_zero _), hown2, hb2⟩
  case round =>
    obtain ⟨k, xs, hk, rfl, hxs, hown, hb⟩ := hrel
    have hxsH : Hid (∀ j, j < k → xs[j]? = some (.int .i64 (j : Nat))) := hxs
    clear hxs hown2 hb2
    by_cases hlt : k < n
    · have hlen : xs.length = n := by have := hown.1; omega
      have hcl : k < xs.length := by omega
      have hcell := hown.cellAt k (by omega)
      have hfr := hown.frozenAt k
      rw [List.getElem?_eq_getElem hcl] at hcell
      have hst := hown.stored k (.int .i64 (k : Nat))
      have hnew : Hid (∀ j, j < k + 1 → (xs.set k (.int .i64 (k : Nat)))[j]? = some (.int .i64 (j : Nat))) := by
        intro j hj
        by_cases hjk : j = k
        · subst hjk
          rw [List.getElem?_set_self hcl]
        · rw [List.getElem?_set_ne (fun e => hjk e.symm)]
          exact hxsH.out j (by omega)
      have hbS : Below w1.heap.size w1 (wr.setCell ⟨w.heap.size + 1, k, none⟩ (.int .i64 (k : Nat))) := hb.setCell (by rw [hs1]; exact Nat.le_refl _) _
      have hownH := hst.1
      clear hst hown
      go_wp2
      go_roundw
      case rel => exact ⟨k + 1, _, by omega, by go_num, hnew.out, hownH, hbS⟩
      case measure => simp [intOf]; omega
    · have hkn : k = n := by omega
      subst hkn
      have hS := hsort.out wr hb (fun j hj => ⟨by rw [hown.cellAt j (by omega)]; exact hxsH.out j hj, hown.frozenAt j⟩) (hown.lt (w.heap.size + 1) rfl).2
      clear hsort hxsH hown
      go_wp2_with (go_at_call 38; refine hS.mono ?_; clear hS; rintro e w3 ⟨rfl, hB, L, hL, hI⟩)
      go_ret
      exact ⟨_, L, rfl, hL, hB, hI⟩
end Go.Proofs.YtedncponpbieeaaDoor
