/- The text of a float with an exponent. Printed by genefg.py. -/
import Derived.Test.YthhmimlfiaboeaaGreatDoorEfo
namespace Go.Proofs.YthhmimlfiaboeaaGreatDoor
open Go.RowKit

def sgn (neg : Bool) : List Int := if neg then [45] else []
theorem sgn_le (neg : Bool) : (sgn neg).length ≤ 1 := by cases neg <;> decide
def ch0 (nd : Nat) (D : Nat → Int) : Int := if nd = 0 then 48 else D 0
def frac (nd : Nat) (D : Nat → Int) : List Int := if 2 ≤ nd then 46 :: (List.range (nd - 1)).map fun t => D (1 + t) else []
theorem frac_le (nd : Nat) (D : Nat → Int) (h : nd ≤ 20) : (frac nd D).length ≤ 20 := by unfold frac; split <;> simp <;> omega

def exE (nd : Nat) (dp : Int) : Int := if nd = 0 then 0 else dp - 1
def sgE (ex : Int) : Int := if ex < 0 then 45 else 43
def expd (xa : Nat) : List Int := if xa < 10 then [48, (xa : Int) + 48] else if xa < 100 then [(xa : Int) / 10 + 48, (xa : Int) % 10 + 48] else [(xa : Int) / 100 + 48, (xa : Int) / 10 % 10 + 48, (xa : Int) % 10 + 48]
/-- The text: the sign, the digits, the exponent. -/
def eOut (neg : Bool) (nd : Nat) (D : Nat → Int) (dp : Int) : List Int := (((((sgn neg ++ [ch0 nd D]) ++ frac nd D) ++ [101]) ++ [sgE (exE nd dp)]) ++ expd (exE nd dp).natAbs)

set_option maxRecDepth 100000 in
set_option maxHeartbeats 20000000 in
theorem efe_any (N blk nd : Nat) (cs : Array Value) (D : Nat → Int) (dp : Int) (neg : Bool) (v : Value) (w0 w : World) (hE : Eo N blk cs w0 v [] w) (hD : ∀ t, t < nd → cs[t]? = some (bv (D t))) (hnd : nd ≤ 20) (hdp1 : -400 ≤ dp) (hdp2 : dp ≤ 400) (hexp : dp - 1 < -4 ∨ 6 ≤ dp - 1) :
    Calls Tryz.prog 37 #[v, .bool neg, .slice (some ⟨blk, 0, none⟩) 32 32, .int .i64 dp, .int .i64 (nd : Nat), .int .i64 (nd : Nat), .int .u8 103, .bool true] w fun e w' => ∃ v', e = .returned v' ∧ Eo N blk cs w0 v' (eOut neg nd D dp) w' := by
  obtain ⟨i0, hi, hz0, hz1, hz2⟩ := info_parts u8Info
  obtain ⟨cd, hcd, hcds⟩ : ∃ c : Bool, c = true ∧ (decide (dp - 1 < -4) || decide (6 ≤ dp - 1)) = c := ⟨true, rfl, by simpa using hexp⟩
  go_enter Tryz.func37, Tryz.ntmps37
  have hnn : (nd : Int) ≤ 20 := by omega
  go_upto_if 36 with fail
  go_cut [5, 6] (fun x y wr => wr = w ∧ x = .int .i64 ((nd : Int) - 1) ∧ y = .int .u8 101)
  case first => as_aux_lemma =>
    rcases hexp with h | h
    · have h1 : (dp - 1 < -4) = True := eq_true h
      go_wp2_with (fail)
      all_goals
        go_meet
        exact ⟨rfl, rfl, rfl⟩
    · have h1 : (dp - 1 < -4) = False := eq_false (by omega)
      have h2 : (6 ≤ dp - 1) = True := eq_true h
      go_wp2_with (fail)
      all_goals
        go_meet
        exact ⟨rfl, rfl, rfl⟩
  case rest => as_aux_lemma =>
    obtain ⟨hwr, rfl, rfl⟩ := hcut
    subst hwr
    have hEH := Hid.mk hE
    go_upto_if 78 with fail
    go_cut [0] (fun x wr => Eo N blk cs w0 x (sgn neg) wr)
    case first => as_aux_lemma =>
      cases neg
      · go_wp2_with (fail)
        go_meet
        exact hEH.out
      · skip
        go_wp2_with (at_builtin; refine wpList_append_own _ rfl _ _ 47 rfl N 5 i0 (.int .u8 0) 1 1 Tryz.underlying47 hi hz0 hz1 hz2 rfl (by decide) _ _ _ rfl (hEH.out.own.alloc _) ⟨wc.heap.size, 0, none⟩ 1 1 [bv (45)] rfl rfl ?c1 ?c2 ?c3 ?c4 ?c5 ?_)
        case c1 =>
          intro j u hj
          match j, hj with
            | 0, hj => simp at hj; subst hj; simp [Addr.add, bv]
        case c2 => intro u hu; simp at hu; first | (subst hu; rfl) | (rcases hu with rfl | rfl <;> rfl) | (rcases hu with rfl | rfl | rfl <;> rfl)
        case c3 => unfold maxLen; simp <;> omega
        case c4 => simp <;> omega
        case c5 => have := hEH.out.ns; simp; omega
        intro v' w1 hown' hgrow _
        have hE1 := hEH.out.app (xs := [45]) hown' hgrow
        clear hown' hgrow
        go_wp2_with (fail)
        go_meet
        exact hE1
    case rest => as_aux_lemma =>
      have hE := Hid.mk hcut
      have hsg := sgn_le neg
      clear hcut hEH
      go_upto_if 83 with fail
      go_cut [19] (fun x wr => wr = wc ∧ x = .int .u8 (ch0 nd D))
      case first => as_aux_lemma =>
        by_cases h0 : nd = 0
        · subst h0
          go_wp2_with (fail)
          go_meet
          exact ⟨rfl, rfl⟩
        · have h0b : ((nd : Int) != 0) = true := by simp; omega
          have hc0 : wc.cell? ⟨blk, 0, none⟩ = some (.int .u8 (D 0)) := (hE.out.cell 0).trans (hD 0 (by omega))
          go_wp2_with (fail)
          go_meet
          exact ⟨rfl, by unfold ch0; rw [if_neg h0]⟩
      case rest => as_aux_lemma =>
        obtain ⟨hwr, rfl⟩ := hcut
        subst hwr
        go_upto_region 25 with fail
        go_cut [0] (fun x wr => Eo N blk cs w0 x (sgn neg ++ [ch0 nd D]) wr)
        case first => as_aux_lemma =>
          go_wp2_with (at_builtin; refine wpList_append_own _ rfl _ _ 47 rfl N 5 i0 (.int .u8 0) 1 1 Tryz.underlying47 hi hz0 hz1 hz2 rfl (by decide) _ _ _ rfl (hE.out.own.alloc _) ⟨wc.heap.size, 0, none⟩ 1 1 [bv (ch0 nd D)] rfl rfl ?c1 ?c2 ?c3 ?c4 ?c5 ?_)
          case c1 =>
            intro j u hj
            match j, hj with
              | 0, hj => simp at hj; subst hj; simp [Addr.add, bv]
          case c2 => intro u hu; simp at hu; first | (subst hu; rfl) | (rcases hu with rfl | rfl <;> rfl) | (rcases hu with rfl | rfl | rfl <;> rfl)
          case c3 => unfold maxLen; simp <;> omega
          case c4 => simp <;> omega
          case c5 => have := hE.out.ns; simp; omega
          intro v' w1 hown' hgrow _
          have hE1 := hE.out.app (xs := [ch0 nd D]) hown' hgrow
          clear hown' hgrow
          go_wp2_with (fail)
          go_meet
          exact hE1
        case rest => as_aux_lemma =>
          have hE2 := Hid.mk hcut
          clear hcut hE
          have hE := hE2
          clear hE2
          have hl1 : (sgn neg ++ [ch0 nd D]).length ≤ 2 := by simp; omega
          obtain ⟨L1, hL1⟩ : ∃ L1, sgn neg ++ [ch0 nd D] = L1 := ⟨_, rfl⟩
          rw [hL1] at hE hl1
          go_upto_if 92 with fail
          go_cut [0] (fun x wr => Eo N blk cs w0 x (L1 ++ frac nd D) wr)
          case first => as_aux_lemma =>
            by_cases h2 : 2 ≤ nd
            · have h2i : ((0 : Int) < (nd : Int) - 1) = True := eq_true (by omega)
              have h2j : (1 < nd) = True := eq_true (by omega)
              have h2k : ((1 : Int) < (nd : Int)) = True := eq_true (by omega)
              go_upto_region 27 with fail
              go_cut [0] (fun x wr => Eo N blk cs w0 x (L1 ++ [46]) wr)
              case first => as_aux_lemma =>
                go_wp2_with (at_builtin; refine wpList_append_own _ rfl _ _ 47 rfl N 5 i0 (.int .u8 0) 1 1 Tryz.underlying47 hi hz0 hz1 hz2 rfl (by decide) _ _ _ rfl (hE.out.own.alloc _) ⟨wc.heap.size, 0, none⟩ 1 1 [bv (46)] rfl rfl ?c1 ?c2 ?c3 ?c4 ?c5 ?_)
                case c1 =>
                  intro j u hj
                  match j, hj with
                    | 0, hj => simp at hj; subst hj; simp [Addr.add, bv]
                case c2 => intro u hu; simp at hu; first | (subst hu; rfl) | (rcases hu with rfl | rfl <;> rfl) | (rcases hu with rfl | rfl | rfl <;> rfl)
                case c3 => unfold maxLen; simp <;> omega
                case c4 => simp <;> omega
                case c5 => have := hE.out.ns; simp; omega
                intro v' w1 hown' hgrow _
                have hE1 := hE.out.app (xs := [46]) hown' hgrow
                clear hown' hgrow
                go_wp2_with (fail)
                go_meet
                exact hE1
              case rest => as_aux_lemma =>
                have hE2 := Hid.mk hcut
                clear hcut hE
                have hE := hE2
                clear hE2
                go_upto_if 102 with fail
                go_cut [0, 20] (fun x y wr => Eo N blk cs w0 x (L1 ++ [46] ++ (List.range (nd - 1)).map fun t => D (1 + t)) wr ∧ y = .int .i64 (nd : Nat))
                case first => as_aux_lemma =>
                  have hlr : ((List.range (nd - 1)).map fun t => D (1 + t)).length = nd - 1 := by simp
                  go_wp2_with (at_builtin; refine wpList_append_own _ rfl _ _ 47 rfl N 5 i0 (.int .u8 0) 1 1 Tryz.underlying47 hi hz0 hz1 hz2 rfl (by decide) _ _ _ rfl hE.out.own ⟨blk, 1, none⟩ (nd - 1) 31 (((List.range (nd - 1)).map fun t => D (1 + t)).map bv) rfl (by simp) ?c1 ?c2 ?c3 ?c4 ?c5 ?_)
                  case c1 =>
                    intro j u hj
                    rw [List.getElem?_map, List.getElem?_map] at hj
                    have hjl : j < nd - 1 := by
                      rcases Nat.lt_or_ge j (nd - 1) with h | h
                      · exact h
                      · rw [List.getElem?_eq_none (by simpa using h)] at hj; cases hj
                    rw [List.getElem?_range hjl] at hj
                    simp at hj
                    subst hj
                    have hcj := (hE.out.cell (1 + j)).trans (hD (1 + j) (by omega))
                    have ha : (⟨blk, 1, none⟩ : Addr).add j = ⟨blk, 1 + j, none⟩ := by
                      unfold Addr.add
                      split
                      · rename_i h; rw [h]
                      · rfl
                    rw [ha]
                    exact hcj
                  case c2 => intro u hu; simp at hu; obtain ⟨t, _, rfl⟩ := hu; rfl
                  case c3 => unfold maxLen; simp <;> omega
                  case c4 => simp <;> omega
                  case c5 => exact hE.out.ns
                  intro v' w1 hown' hgrow _
                  have hE1 := hE.out.app0 (xs := (List.range (nd - 1)).map fun t => D (1 + t)) (by rw [hlr]; simpa using hown') hgrow
                  clear hown' hgrow
                  go_wp2_with (fail)
                  go_meet
                  exact ⟨hE1, rfl⟩
                case rest => as_aux_lemma =>
                  obtain ⟨hE3, rfl⟩ := hcut
                  have hE3H := Hid.mk hE3
                  clear hE3
                  go_wp2_with (fail)
                  go_loopw [0, 114] (fun x y wr => Eo N blk cs w0 x (L1 ++ [46] ++ (List.range (nd - 1)).map fun t => D (1 + t)) wr ∧ y = .int .i64 0) (fun _ _ _ => 0)
                  case atStart => exact ⟨hE3H.out, rfl⟩
                  case round => as_aux_lemma =>
                    obtain ⟨hE3, rfl⟩ := hrel
                    have hE3H := Hid.mk hE3
                    clear hE3
                    go_wp2_with (fail)
                    go_meet
                    have hf : frac nd D = 46 :: (List.range (nd - 1)).map fun t => D (1 + t) := by unfold frac; rw [if_pos h2]
                    rw [hf]
                    have := hE3H.out
                    rw [List.append_assoc] at this
                    exact this
            · have h2i : ((0 : Int) < (nd : Int) - 1) = False := eq_false (by omega)
              go_wp2_with (fail)
              go_meet
              have hf : frac nd D = [] := by unfold frac; rw [if_neg h2]
              rw [hf, List.append_nil]
              exact hE.out
          case rest => as_aux_lemma =>
            have hfl := frac_le nd D hnd
            obtain ⟨L2, hL2⟩ : ∃ L2, L1 ++ frac nd D = L2 := ⟨_, rfl⟩
            have hl2 : L2.length ≤ 22 := by rw [← hL2]; simp; omega
            rw [hL2] at hcut
            have hE2 := Hid.mk hcut
            clear hcut hE
            have hE := hE2
            clear hE2
            go_upto_region 37 with fail
            go_cut [0] (fun x wr => Eo N blk cs w0 x (L2 ++ [101]) wr)
            case first => as_aux_lemma =>
              go_wp2_with (at_builtin; refine wpList_append_own _ rfl _ _ 47 rfl N 5 i0 (.int .u8 0) 1 1 Tryz.underlying47 hi hz0 hz1 hz2 rfl (by decide) _ _ _ rfl (hE.out.own.alloc _) ⟨wc.heap.size, 0, none⟩ 1 1 [bv (101)] rfl rfl ?c1 ?c2 ?c3 ?c4 ?c5 ?_)
              case c1 =>
                intro j u hj
                match j, hj with
                  | 0, hj => simp at hj; subst hj; simp [Addr.add, bv]
              case c2 => intro u hu; simp at hu; first | (subst hu; rfl) | (rcases hu with rfl | rfl <;> rfl) | (rcases hu with rfl | rfl | rfl <;> rfl)
              case c3 => unfold maxLen; simp <;> omega
              case c4 => simp <;> omega
              case c5 => have := hE.out.ns; simp; omega
              intro v' w1 hown' hgrow _
              have hE1 := hE.out.app (xs := [101]) hown' hgrow
              clear hown' hgrow
              go_wp2_with (fail)
              go_meet
              exact hE1
            case rest => as_aux_lemma =>
              have hE2 := Hid.mk hcut
              clear hcut hE
              have hE := hE2
              clear hE2
              obtain ⟨L3, hL3⟩ : ∃ L3, L2 ++ [101] = L3 := ⟨_, rfl⟩
              have hl3 : L3.length ≤ 23 := by rw [← hL3]; simp; omega
              rw [hL3] at hE
              obtain ⟨ex, hex⟩ : ∃ ex : Int, (if nd = 0 then 0 else dp - 1) = ex := ⟨_, rfl⟩
              have hexH : Hid (exE nd dp = ex) := .mk hex
              have hex1 : -401 ≤ ex ∧ ex ≤ 400 := by rw [← hex]; split <;> omega
              go_upto_if 127 with fail
              go_cut [22] (fun x wr => wr = wc ∧ x = .int .i64 ex)
              case first => as_aux_lemma =>
                by_cases h0 : nd = 0
                · subst h0
                  go_wp2_with (fail)
                  go_meet
                  exact ⟨rfl, by rw [← hex]; rfl⟩
                · have h0b : ((nd : Int) == 0) = false := beq_ne (by omega)
                  rw [if_neg h0] at hex
                  go_wp2_with (fail)
                  go_meet
                  exact ⟨rfl, by rw [← hex]⟩
              case rest => as_aux_lemma =>
                obtain ⟨hwr, rfl⟩ := hcut
                subst hwr
                clear hex
                obtain ⟨sg, hsg2⟩ : ∃ sg : Int, (if ex < 0 then 45 else 43) = sg := ⟨_, rfl⟩
                obtain ⟨xa, hxa⟩ : ∃ xa : Nat, ex.natAbs = xa := ⟨_, rfl⟩
                have hxa1 : xa ≤ 401 := by omega
                go_upto_if 129 with fail
                go_cut [19, 22] (fun x y wr => wr = wc ∧ x = .int .u8 sg ∧ y = .int .i64 (xa : Nat))
                case first => as_aux_lemma =>
                  by_cases hlt : ex < 0
                  · rw [if_pos hlt] at hsg2
                    have hab : -ex = (xa : Int) := by omega
                    go_wp2_with (fail)
                    go_meet
                    exact ⟨rfl, by rw [← hsg2], by first | rfl | (rw [← hab])⟩
                  · rw [if_neg hlt] at hsg2
                    have hlf : (ex < 0) = False := eq_false hlt
                    have hab : ex = (xa : Int) := by omega
                    go_wp2_with (fail)
                    go_meet
                    exact ⟨rfl, by rw [← hsg2], by first | rfl | (rw [← hab])⟩
                case rest => as_aux_lemma =>
                  obtain ⟨hwr, rfl, rfl⟩ := hcut
                  subst hwr
                  have hsgH : Hid (sgE ex = sg) := .mk hsg2
                  have hxaH := Hid.mk hxa
                  clear hsg2 hxa
                  go_upto_region 45 with fail
                  go_cut [0] (fun x wr => Eo N blk cs w0 x (L3 ++ [sg]) wr)
                  case first => as_aux_lemma =>
                    go_wp2_with (at_builtin; refine wpList_append_own _ rfl _ _ 47 rfl N 5 i0 (.int .u8 0) 1 1 Tryz.underlying47 hi hz0 hz1 hz2 rfl (by decide) _ _ _ rfl (hE.out.own.alloc _) ⟨wc.heap.size, 0, none⟩ 1 1 [bv (sg)] rfl rfl ?c1 ?c2 ?c3 ?c4 ?c5 ?_)
                    case c1 =>
                      intro j u hj
                      match j, hj with
                        | 0, hj => simp at hj; subst hj; simp [Addr.add, bv]
                    case c2 => intro u hu; simp at hu; first | (subst hu; rfl) | (rcases hu with rfl | rfl <;> rfl) | (rcases hu with rfl | rfl | rfl <;> rfl)
                    case c3 => unfold maxLen; simp <;> omega
                    case c4 => simp <;> omega
                    case c5 => have := hE.out.ns; simp; omega
                    intro v' w1 hown' hgrow _
                    have hE1 := hE.out.app (xs := [sg]) hown' hgrow
                    clear hown' hgrow
                    go_wp2_with (fail)
                    go_meet
                    exact hE1
                  case rest => as_aux_lemma =>
                    have hE2 := Hid.mk hcut
                    clear hcut hE
                    have hE := hE2
                    clear hE2
                    obtain ⟨L4, hL4⟩ : ∃ L4, L3 ++ [sg] = L4 := ⟨_, rfl⟩
                    have hl4 : L4.length ≤ 24 := by rw [← hL4]; simp; omega
                    rw [hL4] at hE
                    have hfin : Hid (eOut neg nd D dp = L4 ++ expd xa) := .mk (by unfold eOut; rw [hexH.out, hsgH.out, hxaH.out, hL1, hL2, hL3, hL4])
                    clear hL1 hL2 hL3 hL4
                    by_cases h10 : xa < 10
                    · have h10i : ((xa : Int) < 10) = True := eq_true (by omega)
                      have h10j : (xa : Int) ≤ 9 := by omega
                      have hex2 : expd xa = [48, (xa : Int) + 48] := by unfold expd; rw [if_pos h10]
                      go_wp2_with (at_builtin; refine wpList_append_own _ rfl _ _ 47 rfl N 5 i0 (.int .u8 0) 1 1 Tryz.underlying47 hi hz0 hz1 hz2 rfl (by decide) _ _ _ rfl (hE.out.own.alloc _) ⟨wc.heap.size, 0, none⟩ 2 2 [bv (48), bv ((xa : Int) + 48)] rfl rfl ?c1 ?c2 ?c3 ?c4 ?c5 ?_)
                      case c1 =>
                        intro j u hj
                        match j, hj with
                          | 0, hj => simp at hj; subst hj; simp [Addr.add, bv]
                          | 1, hj => simp at hj; subst hj; simp [Addr.add, bv]
                      case c2 => intro u hu; simp at hu; first | (subst hu; rfl) | (rcases hu with rfl | rfl <;> rfl) | (rcases hu with rfl | rfl | rfl <;> rfl)
                      case c3 => unfold maxLen; simp <;> omega
                      case c4 => simp <;> omega
                      case c5 => have := hE.out.ns; simp; omega
                      intro v' w1 hown' hgrow _
                      have hE1 := hE.out.app (xs := [48, (xa : Int) + 48]) hown' hgrow
                      clear hown' hgrow
                      go_wp2_with (fail)
                      go_ret
                      exact ⟨_, rfl, by rw [hfin.out, hex2]; exact hE1⟩
                    · have h10i : ((xa : Int) < 10) = False := eq_false (by omega)
                      have h10n : (xa < 10) = False := eq_false h10
                      by_cases h100 : xa < 100
                      · have h100i : ((xa : Int) < 100) = True := eq_true (by omega)
                        have h100j : (xa : Int) ≤ 99 := by omega
                        have hex2 : expd xa = [(xa : Int) / 10 + 48, (xa : Int) % 10 + 48] := by unfold expd; rw [if_neg h10, if_pos h100]
                        go_wp2_with (at_builtin; refine wpList_append_own _ rfl _ _ 47 rfl N 5 i0 (.int .u8 0) 1 1 Tryz.underlying47 hi hz0 hz1 hz2 rfl (by decide) _ _ _ rfl (hE.out.own.alloc _) ⟨wc.heap.size, 0, none⟩ 2 2 [bv ((xa : Int) / 10 + 48), bv ((xa : Int) % 10 + 48)] rfl rfl ?c1 ?c2 ?c3 ?c4 ?c5 ?_)
                        case c1 =>
                          intro j u hj
                          match j, hj with
                            | 0, hj => simp at hj; subst hj; simp [Addr.add, bv]
                            | 1, hj => simp at hj; subst hj; simp [Addr.add, bv]
                        case c2 => intro u hu; simp at hu; first | (subst hu; rfl) | (rcases hu with rfl | rfl <;> rfl) | (rcases hu with rfl | rfl | rfl <;> rfl)
                        case c3 => unfold maxLen; simp <;> omega
                        case c4 => simp <;> omega
                        case c5 => have := hE.out.ns; simp; omega
                        intro v' w1 hown' hgrow _
                        have hE1 := hE.out.app (xs := [(xa : Int) / 10 + 48, (xa : Int) % 10 + 48]) hown' hgrow
                        clear hown' hgrow
                        go_wp2_with (fail)
                        go_ret
                        exact ⟨_, rfl, by rw [hfin.out, hex2]; exact hE1⟩
                      · have h100i : ((xa : Int) < 100) = False := eq_false (by omega)
                        have h100n : (xa < 100) = False := eq_false h100
                        have hx4 : (xa : Int) ≤ 401 := by omega
                        have hex2 : expd xa = [(xa : Int) / 100 + 48, (xa : Int) / 10 % 10 + 48, (xa : Int) % 10 + 48] := by unfold expd; rw [if_neg h10, if_neg h100]
                        go_wp2_with (at_builtin; refine wpList_append_own _ rfl _ _ 47 rfl N 5 i0 (.int .u8 0) 1 1 Tryz.underlying47 hi hz0 hz1 hz2 rfl (by decide) _ _ _ rfl (hE.out.own.alloc _) ⟨wc.heap.size, 0, none⟩ 3 3 [bv ((xa : Int) / 100 + 48), bv ((xa : Int) / 10 % 10 + 48), bv ((xa : Int) % 10 + 48)] rfl rfl ?c1 ?c2 ?c3 ?c4 ?c5 ?_)
                        case c1 =>
                          intro j u hj
                          match j, hj with
                            | 0, hj => simp at hj; subst hj; simp [Addr.add, bv]
                            | 1, hj => simp at hj; subst hj; simp [Addr.add, bv]
                            | 2, hj => simp at hj; subst hj; simp [Addr.add, bv]
                        case c2 => intro u hu; simp at hu; first | (subst hu; rfl) | (rcases hu with rfl | rfl <;> rfl) | (rcases hu with rfl | rfl | rfl <;> rfl)
                        case c3 => unfold maxLen; simp <;> omega
                        case c4 => simp <;> omega
                        case c5 => have := hE.out.ns; simp; omega
                        intro v' w1 hown' hgrow _
                        have hE1 := hE.out.app (xs := [(xa : Int) / 100 + 48, (xa : Int) / 10 % 10 + 48, (xa : Int) % 10 + 48]) hown' hgrow
                        clear hown' hgrow
                        go_wp2_with (fail)
                        go_ret
                        exact ⟨_, rfl, by rw [hfin.out, hex2]; exact hE1⟩
end Go.Proofs.YthhmimlfiaboeaaGreatDoor
