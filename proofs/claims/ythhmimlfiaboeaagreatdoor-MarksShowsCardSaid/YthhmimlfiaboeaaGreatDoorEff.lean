/- The text of a float without an exponent. Printed by genefh.py. -/
import Derived.Test.YthhmimlfiaboeaaGreatDoorEfo
namespace Go.Proofs.YthhmimlfiaboeaaGreatDoor
open Go.RowKit

/-- The first values of a function. -/
def rng (n : Nat) (f : Nat → Int) : List Int := (List.range n).map f
theorem rng_zero (f : Nat → Int) : rng 0 f = [] := rfl
theorem rng_succ (n : Nat) (f : Nat → Int) : rng (n + 1) f = rng n f ++ [f n] := by unfold rng; rw [List.range_succ, List.map_append]; rfl
theorem rng_len (n : Nat) (f : Nat → Int) : (rng n f).length = n := by unfold rng; simp
def sgnF (neg : Bool) : List Int := if neg then [45] else []
theorem sgnF_le (neg : Bool) : (sgnF neg).length ≤ 1 := by cases neg <;> decide
/-- The digits ahead of the point. -/
def intP (nd dn : Nat) (D : Nat → Int) : List Int := if dn = 0 then [48] else rng (min nd dn) D ++ rng (dn - min nd dn) fun _ => 48

/-- The digits behind the point. -/
def fraP (pr lz m2 tz dn : Nat) (D : Nat → Int) : List Int := if pr = 0 then [] else [46] ++ (rng lz (fun _ => 48) ++ (rng m2 (fun k => D (dn + k)) ++ rng tz fun _ => 48))
/-- The text: the sign, the digits ahead of the point, those behind it. -/
def fOut (neg : Bool) (nd : Nat) (D : Nat → Int) (dp : Int) : List Int :=
  (sgnF neg ++ intP nd dp.toNat D) ++ fraP (max ((nd : Int) - dp) 0).toNat (min (max ((nd : Int) - dp) 0) (max 0 (-dp))).toNat
    (min (max ((nd : Int) - dp) 0 - min (max ((nd : Int) - dp) 0) (max 0 (-dp))) (max 0 ((nd : Int) - (dp.toNat : Int)))).toNat
    (max 0 (max ((nd : Int) - dp) 0 - min (max ((nd : Int) - dp) 0) (max 0 (-dp)) - min (max ((nd : Int) - dp) 0 - min (max ((nd : Int) - dp) 0) (max 0 (-dp))) (max 0 ((nd : Int) - (dp.toNat : Int))))).toNat dp.toNat D

set_option maxRecDepth 100000 in
set_option maxHeartbeats 20000000 in
theorem eff_any (N blk nd : Nat) (cs : Array Value) (D : Nat → Int) (dp : Int) (neg : Bool) (v : Value) (w0 w : World) (hE : Eo N blk cs w0 v [] w) (hD : ∀ t, t < nd → cs[t]? = some (bv (D t))) (hnd : nd ≤ 20) (hdp1 : -3 ≤ dp) (hdp2 : dp ≤ 6) :
    Calls Tryz.prog 37 #[v, .bool neg, .slice (some ⟨blk, 0, none⟩) 32 32, .int .i64 dp, .int .i64 (nd : Nat), .int .i64 (nd : Nat), .int .u8 103, .bool true] w fun e w' => ∃ v', e = .returned v' ∧ Eo N blk cs w0 v' (fOut neg nd D dp) w' := by
  obtain ⟨i0, hi, hz0, hz1, hz2⟩ := info_parts u8Info
  have hnn : (nd : Int) ≤ 20 := by omega
  have h1 : (dp - 1 < -4) = False := eq_false (by omega)
  have h2 : (6 ≤ dp - 1) = False := eq_false (by omega)
  obtain ⟨pr, hpr⟩ : ∃ pr : Nat, max ((nd : Int) - dp) 0 = (pr : Int) := ⟨(max ((nd : Int) - dp) 0).toNat, by omega⟩
  have hpr2 : pr ≤ 23 := by omega
  have hsg := sgnF_le neg
  go_enter Tryz.func37, Tryz.ntmps37
  go_upto_if 36 with fail
  go_cut [5, 6] (fun x y wr => wr = w ∧ x = .int .i64 (pr : Nat) ∧ y = .int .u8 102)
  case first => as_aux_lemma =>
    go_wp2_with (fail)
    all_goals
      go_meet
      exact ⟨rfl, rfl, rfl⟩
  case rest => as_aux_lemma =>
    obtain ⟨hwr, rfl, rfl⟩ := hcut
    subst hwr
    have hE := Hid.mk hE
    go_upto_if 178 with fail
    go_cut [0] (fun x wr => Eo N blk cs w0 x (sgnF neg) wr)
    case first => as_aux_lemma =>
      cases neg
      · go_wp2_with (fail)
        go_meet
        exact hE.out
      · skip
        go_wp2_with (at_builtin; refine wpList_append_own _ rfl _ _ 47 rfl N 5 i0 (.int .u8 0) 1 1 Tryz.underlying47 hi hz0 hz1 hz2 rfl (by decide) _ _ _ rfl (hE.out.own.alloc _) ⟨wc.heap.size, 0, none⟩ 1 1 [bv (45)] rfl rfl ?c1 ?c2 ?c3 ?c4 ?c5 ?_)
        case c1 =>
          intro j u hj
          match j, hj with
            | 0, hj => simp at hj; subst hj; simp [Addr.add, bv]
        case c2 => first | rfl | (intro u hu; simp at hu; subst hu; rfl)
        case c3 => first | (unfold maxLen; omega) | (unfold maxLen; simp <;> omega) | (simp [maxLen] <;> omega)
        case c4 => first | omega | (simp <;> omega)
        case c5 => have := hE.out.ns; first | omega | (simp; omega)
        intro v' w1 hown' hgrow _
        have hE1 := hE.out.app (xs := [45]) hown' hgrow
        clear hown' hgrow
        go_wp2_with (fail)
        go_meet
        exact hE1
    case rest => as_aux_lemma =>
      clear hE
      have hE := Hid.mk hcut
      clear hcut
      obtain ⟨L1, hL1⟩ : ∃ L1, sgnF neg = L1 := ⟨_, rfl⟩
      have hl1 : L1.length ≤ 1 := by rw [← hL1]; exact hsg
      rw [hL1] at hE
      obtain ⟨dn, hdn⟩ : ∃ dn : Nat, dp.toNat = dn := ⟨_, rfl⟩
      have hdn2 : dn ≤ 6 := by omega
      go_upto_if 183 with fail
      go_cut [0] (fun x wr => Eo N blk cs w0 x (L1 ++ intP nd dn D) wr)
      case first => as_aux_lemma =>
        by_cases hpos : 0 < dp
        · have hdec : decide (0 < dp) = true := by simpa using hpos
          rw [hdec]
          obtain ⟨m, hm⟩ : ∃ m : Nat, min nd dn = m := ⟨_, rfl⟩
          have hmi : min (nd : Int) dp = (m : Int) := by omega
          have hm1 : m ≤ nd := by omega
          have hm2 : (m : Int) ≤ 20 := by omega
          obtain ⟨z, hz⟩ : ∃ z : Nat, dp - (m : Int) = (z : Int) := ⟨(dp - m).toNat, by omega⟩
          have hz9 : z ≤ 6 := by omega
          go_upto_block 4 with fail
          go_cut [0] (fun x wr => Eo N blk cs w0 x (L1 ++ rng m (D)) wr)
          case first => as_aux_lemma =>
            go_wp2_with (fail)
            go_loopw [0, 191] (fun x y wr => ∃ k : Nat, k ≤ m ∧ y = .int .i64 (k : Nat) ∧ Eo N blk cs w0 x (L1 ++ rng k (D)) wr) (fun _ y _ => m - (intOf y).toNat)
            case atStart => exact ⟨0, by omega, rfl, by rw [rng_zero, List.append_nil]; exact hE.out⟩
            case round => as_aux_lemma =>
              clear hE
              obtain ⟨k, hk, rfl, hE⟩ := hrel
              have hE := Hid.mk hE
              have hlk := rng_len k (D)
              obtain ⟨Lk, hLk⟩ : ∃ Lk, L1 ++ rng k (D) = Lk := ⟨_, rfl⟩
              have hlk2 : Lk.length ≤ 60 := by rw [← hLk]; simp; omega
              rw [hLk] at hE
              have hLkH := Hid.mk hLk
              clear hLk hlk
              by_cases hlt : k < m
              · have hlti : (k : Int) < (m : Nat) := by omega
                have hck : wr.cell? ⟨blk, k, none⟩ = some (.int .u8 (D k)) := (hE.out.cell k).trans (hD k (by omega))
                have hkm : (k : Int) < 32 := by omega
                go_wp2_with (at_builtin; refine wpList_append_own _ rfl _ _ 47 rfl N 5 i0 (.int .u8 0) 1 1 Tryz.underlying47 hi hz0 hz1 hz2 rfl (by decide) _ _ _ rfl (hE.out.own.alloc _) ⟨wr.heap.size, 0, none⟩ 1 1 [bv (D k)] rfl rfl ?c1 ?c2 ?c3 ?c4 ?c5 ?_)
                case c1 =>
                  intro j u hj
                  match j, hj with
                    | 0, hj => simp at hj; subst hj; simp [Addr.add, bv]
                case c2 => first | rfl | (intro u hu; simp at hu; subst hu; rfl)
                case c3 => first | (unfold maxLen; omega) | (unfold maxLen; simp <;> omega) | (simp [maxLen] <;> omega)
                case c4 => first | omega | (simp <;> omega)
                case c5 => have := hE.out.ns; first | omega | (simp; omega)
                intro v' w1 hown' hgrow _
                have hE1 := hE.out.app (xs := [D k]) hown' hgrow
                clear hown' hgrow
                have hE3 : Hid (Eo N blk cs w0 v' (L1 ++ rng (k + 1) (D)) w1) := .mk (by rw [rng_succ, ← List.append_assoc, hLkH.out]; exact hE1)
                clear hE1
                go_wp2_with (fail)
                first
                  | exact ⟨⟨k + 1, by omega, congrArg _ (by omega), hE3.out⟩, by simp [intOf]; omega⟩
                  | (refine ⟨?_, by simp [intOf]; omega⟩; (repeat apply Exists.intro); exact ⟨⟨k + 1, by omega, congrArg _ (by omega), hE3.out⟩, rfl⟩)
              · obtain rfl : k = m := by omega
                go_wp2_with (fail)
                go_meet
                rw [hLkH.out]
                exact hE.out
          case rest => as_aux_lemma =>
            have hE2 := Hid.mk hcut
            clear hcut hE
            have hE := hE2
            clear hE2
            obtain ⟨L2, hL2⟩ : ∃ L2, L1 ++ rng m D = L2 := ⟨_, rfl⟩
            have hl2 : L2.length ≤ 22 := by rw [← hL2]; have := rng_len m D; simp; omega
            rw [hL2] at hE
            go_upto_block 6 with fail
            go_cut [0] (fun x wr => Eo N blk cs w0 x (L2 ++ rng z (fun _ => 48)) wr)
            case first => as_aux_lemma =>
              go_wp2_with (fail)
              go_loopw [0, 203] (fun x y wr => ∃ k : Nat, k ≤ z ∧ y = .int .i64 (k : Nat) ∧ Eo N blk cs w0 x (L2 ++ rng k (fun _ => 48)) wr) (fun _ y _ => z - (intOf y).toNat)
              case atStart => exact ⟨0, by omega, rfl, by rw [rng_zero, List.append_nil]; exact hE.out⟩
              case round => as_aux_lemma =>
                clear hE
                obtain ⟨k, hk, rfl, hE⟩ := hrel
                have hE := Hid.mk hE
                have hlk := rng_len k (fun _ => 48)
                obtain ⟨Lk, hLk⟩ : ∃ Lk, L2 ++ rng k (fun _ => 48) = Lk := ⟨_, rfl⟩
                have hlk2 : Lk.length ≤ 60 := by rw [← hLk]; simp; omega
                rw [hLk] at hE
                have hLkH := Hid.mk hLk
                clear hLk hlk
                by_cases hlt : k < z
                · have hlti : (k : Int) < (z : Nat) := by omega

                  go_wp2_with (at_builtin; refine wpList_append_own _ rfl _ _ 47 rfl N 5 i0 (.int .u8 0) 1 1 Tryz.underlying47 hi hz0 hz1 hz2 rfl (by decide) _ _ _ rfl (hE.out.own.alloc _) ⟨wr.heap.size, 0, none⟩ 1 1 [bv (48)] rfl rfl ?c1 ?c2 ?c3 ?c4 ?c5 ?_)
                  case c1 =>
                    intro j u hj
                    match j, hj with
                      | 0, hj => simp at hj; subst hj; simp [Addr.add, bv]
                  case c2 => first | rfl | (intro u hu; simp at hu; subst hu; rfl)
                  case c3 => first | (unfold maxLen; omega) | (unfold maxLen; simp <;> omega) | (simp [maxLen] <;> omega)
                  case c4 => first | omega | (simp <;> omega)
                  case c5 => have := hE.out.ns; first | omega | (simp; omega)
                  intro v' w1 hown' hgrow _
                  have hE1 := hE.out.app (xs := [48]) hown' hgrow
                  clear hown' hgrow
                  have hE3 : Hid (Eo N blk cs w0 v' (L2 ++ rng (k + 1) (fun _ => 48)) w1) := .mk (by rw [rng_succ, ← List.append_assoc, hLkH.out]; exact hE1)
                  clear hE1
                  go_wp2_with (fail)
                  first
                    | exact ⟨⟨k + 1, by omega, congrArg _ (by omega), hE3.out⟩, by simp [intOf]; omega⟩
                    | (refine ⟨?_, by simp [intOf]; omega⟩; (repeat apply Exists.intro); exact ⟨⟨k + 1, by omega, congrArg _ (by omega), hE3.out⟩, rfl⟩)
                · obtain rfl : k = z := by omega
                  go_wp2_with (fail)
                  go_meet
                  rw [hLkH.out]
                  exact hE.out
            case rest => as_aux_lemma =>
              have hE2 := Hid.mk hcut
              clear hcut hE
              have hE := hE2
              clear hE2
              go_wp2_with (fail)
              go_meet
              have he : L1 ++ intP nd dn D = L2 ++ rng z (fun _ => 48) := by
                unfold intP
                rw [if_neg (by omega), hm, show dn - m = z by omega, ← hL2, List.append_assoc]
              rw [he]
              exact hE.out
        · have hdec : decide (0 < dp) = false := by simpa using hpos
          rw [hdec]
          go_wp2_with (at_builtin; refine wpList_append_own _ rfl _ _ 47 rfl N 5 i0 (.int .u8 0) 1 1 Tryz.underlying47 hi hz0 hz1 hz2 rfl (by decide) _ _ _ rfl (hE.out.own.alloc _) ⟨wc.heap.size, 0, none⟩ 1 1 [bv (48)] rfl rfl ?c1 ?c2 ?c3 ?c4 ?c5 ?_)
          case c1 =>
            intro j u hj
            match j, hj with
              | 0, hj => simp at hj; subst hj; simp [Addr.add, bv]
          case c2 => first | rfl | (intro u hu; simp at hu; subst hu; rfl)
          case c3 => first | (unfold maxLen; omega) | (unfold maxLen; simp <;> omega) | (simp [maxLen] <;> omega)
          case c4 => first | omega | (simp <;> omega)
          case c5 => have := hE.out.ns; first | omega | (simp; omega)
          intro v' w1 hown' hgrow _
          have hE1 := hE.out.app (xs := [48]) hown' hgrow
          clear hown' hgrow
          go_wp2_with (fail)
          go_meet
          have he : intP nd dn D = [48] := by unfold intP; rw [if_pos (by omega)]
          rw [he]
          exact hE1
      case rest => as_aux_lemma =>
        have hip : (intP nd dn D).length ≤ 26 := by
          unfold intP
          split
          · simp
          · rw [List.length_append, rng_len, rng_len]; omega
        obtain ⟨L3, hL3⟩ : ∃ L3, L1 ++ intP nd dn D = L3 := ⟨_, rfl⟩
        have hl3 : L3.length ≤ 27 := by rw [← hL3]; simp; omega
        rw [hL3] at hcut
        have hE2 := Hid.mk hcut
        clear hcut hE
        have hE := hE2
        clear hE2
        obtain ⟨lz, hlz⟩ : ∃ lz : Nat, min (pr : Int) (max 0 (-dp)) = (lz : Int) := ⟨(min (pr : Int) (max 0 (-dp))).toNat, by omega⟩
        obtain ⟨m2, hm2⟩ : ∃ m2 : Nat, min ((pr : Int) - (lz : Int)) (max 0 ((nd : Int) - (dn : Int))) = (m2 : Int) := ⟨(min ((pr : Int) - (lz : Int)) (max 0 ((nd : Int) - (dn : Int)))).toNat, by omega⟩
        obtain ⟨tz, htz⟩ : ∃ tz : Nat, max 0 ((pr : Int) - (lz : Int) - (m2 : Int)) = (tz : Int) := ⟨(max 0 ((pr : Int) - (lz : Int) - (m2 : Int))).toNat, by omega⟩
        have hb1 : lz ≤ 23 := by omega
        have hb2 : m2 ≤ 20 := by omega
        have hb3 : tz ≤ 23 := by omega
        have hoff : dp + (lz : Int) = (dn : Int) := by omega
        have hsum : m2 + dn ≤ nd ∨ m2 = 0 := by omega
        go_upto_if 213 with fail
        go_cut [0] (fun x wr => Eo N blk cs w0 x (L3 ++ fraP pr lz m2 tz dn D) wr)
        case first => as_aux_lemma =>
          by_cases hpz : pr = 0
          · subst hpz
            go_wp2_with (fail)
            go_meet
            have he : fraP 0 lz m2 tz dn D = [] := by unfold fraP; rw [if_pos rfl]
            rw [he, List.append_nil]
            exact hE.out
          · have hpz1 : 0 < pr := by omega
            have hdec2 : decide (0 < pr) = true := by simpa using hpz1
            try rw [hdec2]
            go_upto_region 68 with fail
            go_cut [0] (fun x wr => Eo N blk cs w0 x (L3 ++ [46]) wr)
            case first => as_aux_lemma =>
              go_wp2_with (at_builtin; refine wpList_append_own _ rfl _ _ 47 rfl N 5 i0 (.int .u8 0) 1 1 Tryz.underlying47 hi hz0 hz1 hz2 rfl (by decide) _ _ _ rfl (hE.out.own.alloc _) ⟨wc.heap.size, 0, none⟩ 1 1 [bv (46)] rfl rfl ?c1 ?c2 ?c3 ?c4 ?c5 ?_)
              case c1 =>
                intro j u hj
                match j, hj with
                  | 0, hj => simp at hj; subst hj; simp [Addr.add, bv]
              case c2 => first | rfl | (intro u hu; simp at hu; subst hu; rfl)
              case c3 => first | (unfold maxLen; omega) | (unfold maxLen; simp <;> omega) | (simp [maxLen] <;> omega)
              case c4 => first | omega | (simp <;> omega)
              case c5 => have := hE.out.ns; first | omega | (simp; omega)
              intro v' w1 hown' hgrow _
              have hE1 := hE.out.app (xs := [46]) hown' hgrow
              clear hown' hgrow
              go_wp2_with (fail)
              go_meet
              exact hE1
            case rest => as_aux_lemma =>
              have hE2 := Hid.mk hcut
              clear hcut hE
              have hE := hE2
              clear hE2
              obtain ⟨L4, hL4⟩ : ∃ L4, L3 ++ [46] = L4 := ⟨_, rfl⟩
              have hl4 : L4.length ≤ 28 := by rw [← hL4]; simp; omega
              rw [hL4] at hE
              go_upto_block 8 with fail
              go_cut [0] (fun x wr => Eo N blk cs w0 x (L4 ++ rng lz (fun _ => 48)) wr)
              case first => as_aux_lemma =>
                go_wp2_with (fail)
                go_loopw [0, 240] (fun x y wr => ∃ k : Nat, k ≤ lz ∧ y = .int .i64 (k : Nat) ∧ Eo N blk cs w0 x (L4 ++ rng k (fun _ => 48)) wr) (fun _ y _ => lz - (intOf y).toNat)
                case atStart => exact ⟨0, by omega, rfl, by rw [rng_zero, List.append_nil]; exact hE.out⟩
                case round => as_aux_lemma =>
                  clear hE
                  obtain ⟨k, hk, rfl, hE⟩ := hrel
                  have hE := Hid.mk hE
                  have hlk := rng_len k (fun _ => 48)
                  obtain ⟨Lk, hLk⟩ : ∃ Lk, L4 ++ rng k (fun _ => 48) = Lk := ⟨_, rfl⟩
                  have hlk2 : Lk.length ≤ 60 := by rw [← hLk]; simp; omega
                  rw [hLk] at hE
                  have hLkH := Hid.mk hLk
                  clear hLk hlk
                  by_cases hlt : k < lz
                  · have hlti : (k : Int) < (lz : Nat) := by omega

                    go_wp2_with (at_builtin; refine wpList_append_own _ rfl _ _ 47 rfl N 5 i0 (.int .u8 0) 1 1 Tryz.underlying47 hi hz0 hz1 hz2 rfl (by decide) _ _ _ rfl (hE.out.own.alloc _) ⟨wr.heap.size, 0, none⟩ 1 1 [bv (48)] rfl rfl ?c1 ?c2 ?c3 ?c4 ?c5 ?_)
                    case c1 =>
                      intro j u hj
                      match j, hj with
                        | 0, hj => simp at hj; subst hj; simp [Addr.add, bv]
                    case c2 => first | rfl | (intro u hu; simp at hu; subst hu; rfl)
                    case c3 => first | (unfold maxLen; omega) | (unfold maxLen; simp <;> omega) | (simp [maxLen] <;> omega)
                    case c4 => first | omega | (simp <;> omega)
                    case c5 => have := hE.out.ns; first | omega | (simp; omega)
                    intro v' w1 hown' hgrow _
                    have hE1 := hE.out.app (xs := [48]) hown' hgrow
                    clear hown' hgrow
                    have hE3 : Hid (Eo N blk cs w0 v' (L4 ++ rng (k + 1) (fun _ => 48)) w1) := .mk (by rw [rng_succ, ← List.append_assoc, hLkH.out]; exact hE1)
                    clear hE1
                    go_wp2_with (fail)
                    first
                      | exact ⟨⟨k + 1, by omega, congrArg _ (by omega), hE3.out⟩, by simp [intOf]; omega⟩
                      | (refine ⟨?_, by simp [intOf]; omega⟩; (repeat apply Exists.intro); exact ⟨⟨k + 1, by omega, congrArg _ (by omega), hE3.out⟩, rfl⟩)
                  · obtain rfl : k = lz := by omega
                    go_wp2_with (fail)
                    go_meet
                    rw [hLkH.out]
                    exact hE.out
              case rest => as_aux_lemma =>
                have hE2 := Hid.mk hcut
                clear hcut hE
                have hE := hE2
                clear hE2
                obtain ⟨L5, hL5⟩ : ∃ L5, L4 ++ rng lz (fun _ => 48) = L5 := ⟨_, rfl⟩
                have hl5 : L5.length ≤ 51 := by rw [← hL5]; have := rng_len lz (fun _ => 48); simp; omega
                rw [hL5] at hE
                go_upto_block 10 with fail
                go_cut [0] (fun x wr => Eo N blk cs w0 x (L5 ++ rng m2 (fun k => D (dn + k))) wr)
                case first => as_aux_lemma =>
                  go_wp2_with (fail)
                  go_loopw [0, 247] (fun x y wr => ∃ k : Nat, k ≤ m2 ∧ y = .int .i64 (k : Nat) ∧ Eo N blk cs w0 x (L5 ++ rng k (fun k => D (dn + k))) wr) (fun _ y _ => m2 - (intOf y).toNat)
                  case atStart => exact ⟨0, by omega, rfl, by rw [rng_zero, List.append_nil]; exact hE.out⟩
                  case round => as_aux_lemma =>
                    clear hE
                    obtain ⟨k, hk, rfl, hE⟩ := hrel
                    have hE := Hid.mk hE
                    have hlk := rng_len k (fun k => D (dn + k))
                    obtain ⟨Lk, hLk⟩ : ∃ Lk, L5 ++ rng k (fun k => D (dn + k)) = Lk := ⟨_, rfl⟩
                    have hlk2 : Lk.length ≤ 80 := by rw [← hLk]; simp; omega
                    rw [hLk] at hE
                    have hLkH := Hid.mk hLk
                    clear hLk hlk
                    by_cases hlt : k < m2
                    · have hlti : (k : Int) < (m2 : Nat) := by omega
                      have hck : wr.cell? ⟨blk, dn + k, none⟩ = some (.int .u8 (D (dn + k))) := (hE.out.cell (dn + k)).trans (hD (dn + k) (by omega))
                      have hkm : (dn : Int) + (k : Int) < 32 := by omega
                      go_wp2_with (at_builtin; refine wpList_append_own _ rfl _ _ 47 rfl N 5 i0 (.int .u8 0) 1 1 Tryz.underlying47 hi hz0 hz1 hz2 rfl (by decide) _ _ _ rfl (hE.out.own.alloc _) ⟨wr.heap.size, 0, none⟩ 1 1 [bv (D (dn + k))] rfl rfl ?c1 ?c2 ?c3 ?c4 ?c5 ?_)
                      case c1 =>
                        intro j u hj
                        match j, hj with
                          | 0, hj => simp at hj; subst hj; simp [Addr.add, bv]
                      case c2 => first | rfl | (intro u hu; simp at hu; subst hu; rfl)
                      case c3 => first | (unfold maxLen; omega) | (unfold maxLen; simp <;> omega) | (simp [maxLen] <;> omega)
                      case c4 => first | omega | (simp <;> omega)
                      case c5 => have := hE.out.ns; first | omega | (simp; omega)
                      intro v' w1 hown' hgrow _
                      have hE1 := hE.out.app (xs := [D (dn + k)]) hown' hgrow
                      clear hown' hgrow
                      have hE3 : Hid (Eo N blk cs w0 v' (L5 ++ rng (k + 1) (fun k => D (dn + k))) w1) := .mk (by rw [rng_succ, ← List.append_assoc, hLkH.out]; exact hE1)
                      clear hE1
                      go_wp2_with (fail)
                      first
                        | exact ⟨⟨k + 1, by omega, congrArg _ (by omega), hE3.out⟩, by simp [intOf]; omega⟩
                        | (refine ⟨?_, by simp [intOf]; omega⟩; (repeat apply Exists.intro); exact ⟨⟨k + 1, by omega, congrArg _ (by omega), hE3.out⟩, rfl⟩)
                    · obtain rfl : k = m2 := by omega
                      go_wp2_with (fail)
                      go_meet
                      rw [hLkH.out]
                      exact hE.out
                case rest => as_aux_lemma =>
                  have hE2 := Hid.mk hcut
                  clear hcut hE
                  have hE := hE2
                  clear hE2
                  obtain ⟨L6, hL6⟩ : ∃ L6, L5 ++ rng m2 (fun k => D (dn + k)) = L6 := ⟨_, rfl⟩
                  have hl6 : L6.length ≤ 71 := by rw [← hL6]; have := rng_len m2 (fun k => D (dn + k)); simp; omega
                  rw [hL6] at hE
                  go_upto_block 12 with fail
                  go_cut [0] (fun x wr => Eo N blk cs w0 x (L6 ++ rng tz (fun _ => 48)) wr)
                  case first => as_aux_lemma =>
                    clear hL5 hL4 hL3 hL1 hlz hm2 hpr htz hoff hsum hdec2 hdn hsg hl1 hl3 hl4 hl5
                    go_wp2_with (fail)
                    go_loopw [0, 261] (fun x y wr => ∃ k : Nat, k ≤ tz ∧ y = .int .i64 (k : Nat) ∧ Eo N blk cs w0 x (L6 ++ rng k (fun _ => 48)) wr) (fun _ y _ => tz - (intOf y).toNat)
                    case atStart => exact ⟨0, by omega, rfl, by rw [rng_zero, List.append_nil]; exact hE.out⟩
                    case round => as_aux_lemma =>
                      clear hE
                      obtain ⟨k, hk, rfl, hE⟩ := hrel
                      have hE := Hid.mk hE
                      have hlk := rng_len k (fun _ => 48)
                      obtain ⟨Lk, hLk⟩ : ∃ Lk, L6 ++ rng k (fun _ => 48) = Lk := ⟨_, rfl⟩
                      have hlk2 : Lk.length ≤ 100 := by rw [← hLk]; simp; omega
                      rw [hLk] at hE
                      have hLkH := Hid.mk hLk
                      clear hLk hlk
                      by_cases hlt : k < tz
                      · have hlti : (k : Int) < (tz : Nat) := by omega

                        go_wp2_with (at_builtin; refine wpList_append_own _ rfl _ _ 47 rfl N 5 i0 (.int .u8 0) 1 1 Tryz.underlying47 hi hz0 hz1 hz2 rfl (by decide) _ _ _ rfl (hE.out.own.alloc _) ⟨wr.heap.size, 0, none⟩ 1 1 [bv (48)] rfl rfl ?c1 ?c2 ?c3 ?c4 ?c5 ?_)
                        case c1 =>
                          intro j u hj
                          match j, hj with
                            | 0, hj => simp at hj; subst hj; simp [Addr.add, bv]
                        case c2 => first | rfl | (intro u hu; simp at hu; subst hu; rfl)
                        case c3 => first | (unfold maxLen; omega) | (unfold maxLen; simp <;> omega) | (simp [maxLen] <;> omega)
                        case c4 => first | omega | (simp <;> omega)
                        case c5 => have := hE.out.ns; first | omega | (simp; omega)
                        intro v' w1 hown' hgrow _
                        have hE1 := hE.out.app (xs := [48]) hown' hgrow
                        clear hown' hgrow
                        have hE3 : Hid (Eo N blk cs w0 v' (L6 ++ rng (k + 1) (fun _ => 48)) w1) := .mk (by rw [rng_succ, ← List.append_assoc, hLkH.out]; exact hE1)
                        clear hE1
                        go_wp2_with (fail)
                        first
                          | exact ⟨⟨k + 1, by omega, congrArg _ (by omega), hE3.out⟩, by simp [intOf]; omega⟩
                          | (refine ⟨?_, by simp [intOf]; omega⟩; (repeat apply Exists.intro); exact ⟨⟨k + 1, by omega, congrArg _ (by omega), hE3.out⟩, rfl⟩)
                      · obtain rfl : k = tz := by omega
                        go_wp2_with (fail)
                        go_meet
                        rw [hLkH.out]
                        exact hE.out
                  case rest => as_aux_lemma =>
                    have hE2 := Hid.mk hcut
                    clear hcut hE
                    have hE := hE2
                    clear hE2
                    go_wp2_with (fail)
                    go_meet
                    have he : L3 ++ fraP pr lz m2 tz dn D = L6 ++ rng tz (fun _ => 48) := by
                      unfold fraP
                      rw [if_neg hpz, ← hL6, ← hL5, ← hL4]
                      simp
                    rw [he]
                    exact hE.out
        case rest => as_aux_lemma =>
          have hE9 := Hid.mk hcut
          clear hcut hE
          go_wp2_with (fail)
          go_ret
          refine ⟨_, rfl, ?_⟩
          have he : fOut neg nd D dp = L3 ++ fraP pr lz m2 tz dn D := by
            unfold fOut
            rw [hdn, hL1, hL3]
            congr 1
            congr 1 <;> omega
          rw [he]
          exact hE9.out
end Go.Proofs.YthhmimlfiaboeaaGreatDoor
