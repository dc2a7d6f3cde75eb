/- A decimal is read from a text. Printed by genset.py. -/
import Derived.Test.YtpbombkmnfbcgaaGreatDoorSml
import Derived.StillTailTactics
namespace Go.Proofs.YtpbombkmnfbcgaaGreatDoor
open Go.RowKit

/-- A decimal of digits without a zero ahead; nothing else has changed. -/
structure SetS (B : Nat) (w wr : World) (D : Nat → Nat) (nd : Nat) (dp : Int) (neg tr : Bool) : Prop where
  dec : DecS B D nd dp neg tr wr
  dg : Digs D nd
  first : nd = 0 ∨ D 0 ≠ 48
  only : Onl B w wr
/-- Such a decimal, of so many digits at most, its point so far away at most. -/
def SetB (k : Nat) (K : Int) (B : Nat) (w : World) (neg : Bool) (wr : World) : Prop := ∃ D nd dp tr, SetS B w wr D nd dp neg tr ∧ nd ≤ k ∧ -K ≤ dp ∧ dp ≤ K
/-- An answer yes or no, and such a decimal. -/
def SetE (B : Nat) (w : World) (e : Ending) (w' : World) : Prop := IsB e ∧ ∃ D nd dp neg tr, SetS B w w' D nd dp neg tr ∧ nd ≤ 400
theorem SetB.e {k : Nat} {K : Int} {B : Nat} {w wr : World} {neg b : Bool} (h : SetB k K B w neg wr) (hk : k ≤ 400) : SetE B w (.returned (.bool b)) wr := by
  obtain ⟨D, nd, dp, tr, hS, h1, _, _⟩ := h
  exact ⟨⟨_, rfl⟩, D, nd, dp, neg, tr, hS, by omega⟩
theorem SetB.drew {k : Nat} {K : Int} {B : Nat} {w wr : World} {neg : Bool} (h : SetB k K B w neg wr) : SetB k K B w neg wr.drew := by
  obtain ⟨D, nd, dp, tr, hS, h1⟩ := h
  exact ⟨D, nd, dp, tr, ⟨hS.dec.drew, hS.dg, hS.first, hS.only.drew⟩, h1⟩
theorem SetB.wide {k k' : Nat} {K K' : Int} {B : Nat} {w wr : World} {neg : Bool} (h : SetB k K B w neg wr) (h1 : k ≤ k') (h2 : K ≤ K') : SetB k' K' B w neg wr := by
  obtain ⟨D, nd, dp, tr, hS, h3, h4, h5⟩ := h
  exact ⟨D, nd, dp, tr, hS, by omega, by omega, by omega⟩
section
variable {B : Nat} {w wr : World} {D : Nat → Nat} {nd : Nat} {dp : Int} {neg tr : Bool}
theorem SetS.b {k : Nat} {K : Int} (h : SetS B w wr D nd dp neg tr) (h1 : nd ≤ k) (h2 : -K ≤ dp) (h3 : dp ≤ K) : SetB k K B w neg wr := ⟨D, nd, dp, tr, h, h1, h2, h3⟩
theorem SetS.dpTo (h : SetS B w wr D nd dp neg tr) (n : Int) : SetS B w (wr.setCell ⟨B, 801, none⟩ (.int .i64 n)) D nd n neg tr := ⟨h.dec.setDp n, h.dg, h.first, h.only.setCell rfl _⟩
theorem SetS.trTo (h : SetS B w wr D nd dp neg tr) (b : Bool) : SetS B w (wr.setCell ⟨B, 803, none⟩ (.bool b)) D nd dp neg b := ⟨h.dec.setTr b, h.dg, h.first, h.only.setCell rfl _⟩
theorem SetS.negTo (h : SetS B w wr D nd dp neg tr) (b : Bool) : SetS B w (wr.setCell ⟨B, 802, none⟩ (.bool b)) D nd dp b tr := ⟨h.dec.setNeg b, h.dg, h.first, h.only.setCell rfl _⟩
theorem SetS.drew (h : SetS B w wr D nd dp neg tr) : SetS B w wr.drew D nd dp neg tr := ⟨h.dec.drew, h.dg, h.first, h.only.drew⟩
/-- One digit more. -/
theorem SetS.more (h : SetS B w wr D nd dp neg tr) (hn : nd < 800) {c : Nat} (h1 : 48 ≤ c) (h2 : c ≤ 57) (h3 : nd = 0 → c ≠ 48) :
    SetS B w ((wr.setCell ⟨B, nd, none⟩ (.int .u8 (c : Nat))).setCell ⟨B, 800, none⟩ (.int .i64 ((nd : Int) + 1))) (put D nd c) (nd + 1) dp neg tr := by
  refine ⟨(h.dec.setD hn (by omega)).setNd (nd + 1), fun i hi => ?_, ?_, (h.only.setCell rfl _).setCell rfl _⟩
  · by_cases hin : i = nd
    · subst hin; rw [put_same]; omega
    · rw [put_other _ _ hin]; exact h.dg i (by omega)
  · right
    by_cases h0 : nd = 0
    · subst h0; rw [put_same]; exact h3 rfl
    · rw [put_other _ _ (fun e => h0 e.symm)]
      rcases h.first with h | h
      · exact absurd h h0
      · exact h
end

theorem ne_of_beq {n : Nat} (h : ((n : Int) == 0) = false) : n ≠ 0 := by
  intro e; subst e; simp at h

set_option maxRecDepth 100000 in
set_option maxHeartbeats 20000000 in
theorem set_any (B : Nat) (s : ByteArray) (D : Nat → Nat) (neg tr : Bool) (w : World) (hs : s.size ≤ 400) (hS : DecS B D 0 0 neg tr w) : Calls Tryz.prog 56 #[.pointer (some ⟨B, 0, none⟩), .string s] w fun e w' => SetE B w e w' := by
  have hS1 : SetS B w ((w.setCell ⟨B, 802, none⟩ (.bool false)).setCell ⟨B, 803, none⟩ (.bool false)) D 0 0 false false := ⟨(hS.setNeg false).setTr false, fun i hi => by omega, .inl rfl, ((Onl.refl B w).setCell (p := ⟨B, 802, none⟩) rfl _).setCell (p := ⟨B, 803, none⟩) rfl _⟩
  have hSB : Hid (SetB 0 0 B w false ((w.setCell ⟨B, 802, none⟩ (.bool false)).setCell ⟨B, 803, none⟩ (.bool false))) := .mk (hS1.b (by omega) (by omega) (by omega))
  have c2 := hS.neg
  have c3 := hS.tr
  have f2 := hS.fr 802
  have f3 := hS.fr 803
  clear hS hS1
  by_cases h0 : s.size = 0
  · go_enter Tryz.func56, Tryz.ntmps56
    go_wp2_with (fail)
    go_ret
    exact hSB.out.e (by omega)
  have hp0 : 0 < s.size := by omega
  go_enter Tryz.func56, Tryz.ntmps56
  go_upto_region 4 with fail
  go_cut [19] (fun x wr => x = .bool false ∧ SetB 0 0 B w false wr)
  case first => as_aux_lemma =>
    go_wp2_with (fail)
    go_meet
    exact ⟨rfl, hSB.out⟩
  case rest => as_aux_lemma =>
    clear c2 c3 f2 f3 hSB
    obtain ⟨rfl, hB⟩ := hcut
    go_upto_block 0 with fail
    go_cut [5] (fun x wr => ∃ (i : Nat) (neg : Bool), x = .int .i64 (i : Nat) ∧ i ≤ s.size ∧ SetB 0 0 B w neg wr)
    case first => as_aux_lemma =>
      obtain ⟨D, nd, dp, tr, hSS, hnd, hdp0, hdp1⟩ := hB
      have cN := hSS.dec.nd
      have cP := hSS.dec.dp
      have cG := hSS.dec.neg
      have cT := hSS.dec.tr
      have hfr := hSS.dec.fr
      have fN := hfr 800
      have fP := hfr 801
      have fG := hfr 802
      have fT := hfr 803
      have hH := Hid.mk hSS
      clear hSS hfr
      go_wp2_with (fail)
      all_goals
        go_meet
        first
          | exact ⟨1, _, rfl, by omega, hH.out.b (by omega) (by omega) (by omega)⟩
          | exact ⟨1, _, rfl, by omega, (hH.out.negTo true).b (by omega) (by omega) (by omega)⟩
          | exact ⟨0, _, rfl, by omega, hH.out.b (by omega) (by omega) (by omega)⟩
    case rest => as_aux_lemma =>
      clear hB
      obtain ⟨i, neg, rfl, hi, hB⟩ := hcut
      go_upto_block 1 with fail
      go_cut [5, 6, 7] (fun x y z wr => ∃ (i : Nat) (b6 b7 : Bool), x = .int .i64 (i : Nat) ∧ i ≤ s.size ∧ y = .bool b6 ∧ z = .bool b7 ∧ SetB 400 400 B w neg wr)
      case first => as_aux_lemma =>
        go_wp2_with (fail)
        go_loopw [5, 6, 7] (fun x y z wr => ∃ (i : Nat) (b6 b7 : Bool), x = .int .i64 (i : Nat) ∧ i ≤ s.size ∧ y = .bool b6 ∧ z = .bool b7 ∧ SetB i i B w neg wr) (fun x _ _ _ => s.size - (intOf x).toNat)
        case atStart => exact ⟨i, _, _, rfl, hi, rfl, rfl, hB.wide (by omega) (by omega)⟩
        case round => as_aux_lemma =>
          clear hi hB
          obtain ⟨i, b6, b7, rfl, hi, rfl, rfl, hB⟩ := hrel
          obtain ⟨D, nd, dp, tr, hSS, hnd, hdp0, hdp1⟩ := hB
          have cN := hSS.dec.nd
          have cP := hSS.dec.dp
          have cT := hSS.dec.tr
          have hfr := hSS.dec.fr
          have fN := hfr 800
          have fP := hfr 801
          have fT := hfr 803
          have fD := hfr nd
          have hn8 : nd < 800 := by omega
          have hn8i : (nd : Int) < 800 := by omega
          have cD := hSS.dec.dig nd hn8
          have hH := Hid.mk hSS
          clear hSS hfr
          by_cases hlt : i < s.size
          · go_wp2_with (fail)
            all_goals first
              | (go_ret; exact ((hH.out.b hnd hdp0 hdp1).e (by omega)))
              | (go_meet; exact ⟨i, _, _, rfl, hi, rfl, rfl, (hH.out.b hnd hdp0 hdp1).wide (by omega) (by omega)⟩)
              | exact ⟨⟨i + 1, _, _, congrArg _ (by omega), by omega, rfl, rfl, (hH.out.b hnd hdp0 hdp1).wide (by omega) (by omega)⟩, by simp [intOf]; omega⟩
              | exact ⟨⟨i + 1, _, _, congrArg _ (by omega), by omega, rfl, rfl, (hH.out.dpTo _).b (by omega) (by omega) (by omega)⟩, by simp [intOf]; omega⟩
              | (go_still_tail 11, (by kernel_rfl)
                 go_wp2_with (fail)
                 first
                   | exact ⟨⟨i + 1, _, _, congrArg _ (by omega), by omega, rfl, rfl, ((hH.out.more hn8 (c := s[i].toNat) (by omega) (by omega) (fun _ => by omega)).drew.b (by omega) (by omega) (by omega))⟩, by simp [intOf]; omega⟩
                   | exact ⟨⟨i + 1, _, _, congrArg _ (by omega), by omega, rfl, rfl, ((hH.out.more hn8 (c := 48) (by omega) (by omega) (fun h => absurd h (ne_of_beq (by assumption)))).drew.b (by omega) (by omega) (by omega))⟩, by simp [intOf]; omega⟩
                   | exact ⟨⟨i + 1, _, _, congrArg _ (by omega), by omega, rfl, rfl, ((hH.out.drew.more hn8 (c := s[i].toNat) (by omega) (by omega) (fun _ => by omega)).b (by omega) (by omega) (by omega))⟩, by simp [intOf]; omega⟩
                   | exact ⟨⟨i + 1, _, _, congrArg _ (by omega), by omega, rfl, rfl, ((hH.out.drew.more hn8 (c := 48) (by omega) (by omega) (fun h => absurd h (ne_of_beq (by assumption)))).b (by omega) (by omega) (by omega))⟩, by simp [intOf]; omega⟩)
          · go_wp2_with (fail)
            go_meet
            exact ⟨i, _, _, rfl, hi, rfl, rfl, (hH.out.b hnd hdp0 hdp1).wide (by omega) (by omega)⟩
      case rest => as_aux_lemma =>
        clear hB hi
        obtain ⟨i, b6, b7, rfl, hi, rfl, rfl, hB⟩ := hcut
        cases b7
        · go_wp2_with (fail)
          go_ret
          exact hB.e (by omega)
        · go_upto_if 120 with fail
          go_cut [] (fun wr => SetB 400 400 B w neg wr)
          case first => as_aux_lemma =>
            obtain ⟨D, nd, dp, tr, hSS, hnd, hdp0, hdp1⟩ := hB
            have cN := hSS.dec.nd
            have cP := hSS.dec.dp
            have fP := hSS.dec.fr 801
            have hH := Hid.mk hSS
            clear hSS
            cases b6
            all_goals
              go_wp2_with (fail)
              go_meet
              first
                | exact hH.out.b (by omega) (by omega) (by omega)
                | exact (hH.out.dpTo _).b (by omega) (by omega) (by omega)
          case rest => as_aux_lemma =>
            clear hB
            have hB := hcut
            clear hcut
            go_upto_region 32 with fail
            go_cut [138] (fun x wr => wr = wc ∧ ∃ b : Bool, x = .bool b ∧ (b = true → i < s.size))
            case first => as_aux_lemma =>
              go_wp2_with (first | (go_at_call 65; refine (low_any _ _).mono ?_; rintro e w' ⟨rfl, rfl⟩))
              all_goals
                go_meet
                exact ⟨rfl, _, rfl, by intro h; first | omega | cases h⟩
            case rest => as_aux_lemma =>
              obtain ⟨hwc, bx, rfl, hb⟩ := hcut
              subst hwc
              go_upto_if 138 with fail
              go_cut [5] (fun x wr => ∃ i : Nat, x = .int .i64 (i : Nat) ∧ i ≤ s.size ∧ SetB 400 200000 B w neg wr)
              case first => as_aux_lemma =>
                cases bx
                · go_wp2_with (fail)
                  go_meet
                  exact ⟨i, rfl, hi, hB.wide (by omega) (by omega)⟩
                · have hb1 := hb rfl
                  by_cases hl : i + 1 < s.size
                  · have hli : (i : Int) + 1 < (s.size : Int) := by omega
                    go_upto_block 4 with fail
                    go_cut [5, 8] (fun x y wr => wr = wc ∧ ∃ (j : Nat) (f : Int), x = .int .i64 (j : Nat) ∧ j ≤ s.size ∧ y = .int .i64 f ∧ (f = 1 ∨ f = -1))
                    case first => as_aux_lemma =>
                      go_wp2_with (fail)
                      all_goals
                        go_meet
                        first
                          | exact ⟨rfl, i + 1, _, congrArg _ (by omega), by omega, rfl, .inl rfl⟩
                          | exact ⟨rfl, i + 2, _, congrArg _ (by omega), by omega, rfl, .inl rfl⟩
                          | exact ⟨rfl, i + 2, _, congrArg _ (by omega), by omega, rfl, .inr rfl⟩
                    case rest => as_aux_lemma =>
                      obtain ⟨hwc, j, f, rfl, hj, rfl, hf⟩ := hcut
                      subst hwc
                      go_upto_region 42 with fail
                      go_cut [171] (fun x wr => wr = wc ∧ ∃ b : Bool, x = .bool b)
                      case first => as_aux_lemma =>
                        go_wp2_with (fail)
                        all_goals
                          go_meet
                          exact ⟨rfl, _, rfl⟩
                      case rest => as_aux_lemma =>
                        obtain ⟨hwc, by2, rfl⟩ := hcut
                        subst hwc
                        cases by2
                        · go_upto_block 5 with fail
                          go_cut [5, 9] (fun x v wr => wr = wc ∧ ∃ (j : Nat) (g : Int), x = .int .i64 (j : Nat) ∧ j ≤ s.size ∧ v = .int .i64 g ∧ 0 ≤ g ∧ g ≤ 110000)
                          case first => as_aux_lemma =>
                            go_wp2_with (fail)
                            go_loopw [5, 9] (fun x v wr => wr = wc ∧ ∃ (j : Nat) (g : Int), x = .int .i64 (j : Nat) ∧ j ≤ s.size ∧ v = .int .i64 g ∧ 0 ≤ g ∧ g ≤ 110000) (fun x _ _ => s.size - (intOf x).toNat)
                            case atStart => exact ⟨rfl, j, 0, rfl, hj, rfl, by omega, by omega⟩
                            case round => as_aux_lemma =>
                              clear hj
                              obtain ⟨hwc, j, g, rfl, hj, rfl, hg0, hg1⟩ := hrel
                              subst hwc
                              go_wp2_with (fail)
                              all_goals first
                                | (go_meet; exact ⟨rfl, j, g, rfl, hj, rfl, hg0, hg1⟩)
                                | exact ⟨⟨trivial, j + 1, _, congrArg _ (by omega), by omega, rfl, by omega, by omega⟩, by simp [intOf]; omega⟩
                                | (exfalso; rename_i h3 h2 h1 _; rcases h2 with h | h <;> first | omega | (rw [h1] at h; cases h))
                          case rest => as_aux_lemma =>
                            obtain ⟨hwc, j, g, rfl, hj, rfl, hg0, hg1⟩ := hcut
                            subst hwc
                            obtain ⟨D, nd, dp, tr, hSS, hnd, hdp0, hdp1⟩ := hB
                            have cP := hSS.dec.dp
                            have fP := hSS.dec.fr 801
                            have hH := Hid.mk hSS
                            clear hSS
                            rcases hf with rfl | rfl
                            all_goals
                              go_wp2_with (fail)
                              go_meet
                              exact ⟨j, rfl, hj, (hH.out.dpTo _).b (by omega) (by omega) (by omega)⟩
                        · go_wp2_with (fail)
                          go_ret
                          exact hB.e (by omega)
                  · have hlei : (s.size : Int) ≤ (i : Int) + 1 := by omega
                    go_wp2_with (fail)
                    go_ret
                    exact hB.e (by omega)
              case rest => as_aux_lemma =>
                clear hB
                obtain ⟨j, rfl, hj, hB⟩ := hcut
                go_wp2_with (fail)
                all_goals
                  go_ret
                  exact hB.e (by omega)
end Go.Proofs.YtpbombkmnfbcgaaGreatDoor
