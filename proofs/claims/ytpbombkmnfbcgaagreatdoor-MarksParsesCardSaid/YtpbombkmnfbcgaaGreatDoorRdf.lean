/- 'readFloat' always answers, and how far it has come is no further than the text. -/
import Derived.Test.YtpbombkmnfbcgaaGreatDoorSml
import Derived.Test.YtpbombkmnfbcgaaGreatDoorJmp
namespace Go.Proofs.YtpbombkmnfbcgaaGreatDoor
open Go.RowKit

theorem results_tmp7 {fn : Func} {a b c d e f g : Tmp} (h : fn.results = #[.tmp a, .tmp b, .tmp c, .tmp d, .tmp e, .tmp f, .tmp g]) (tmps : Array Value) (P : Program) (w : World) :
    (results fn tmps).run P w = .ok (.tuple #[tmps.getD a undef, tmps.getD b undef, tmps.getD c undef, tmps.getD d undef, tmps.getD e undef, tmps.getD f undef, tmps.getD g undef]) w := by
  simp [results, h]

/-- What readFloat answers. -/
def RdOk (n : Nat) (e : Ending) : Prop := ∃ (m : Int) (p : Int) (b1 b2 b3 b4 : Bool) (i : Int), 0 ≤ m ∧ m < 18446744073709551616 ∧ -200000 ≤ p ∧ p ≤ 200000 ∧ 0 ≤ i ∧ i ≤ n ∧
  e = .returned (.tuple #[.int .u64 m, .int .i64 p, .bool b1, .bool b2, .bool b3, .int .i64 i, .bool b4])

theorem wr64 (z : Int) : 0 ≤ IntKind.u64.wrap z ∧ IntKind.u64.wrap z < 18446744073709551616 := by
  obtain ⟨n, hn, he⟩ := wrapU z
  omega

set_option maxRecDepth 100000 in
set_option maxHeartbeats 20000000 in
theorem rdf_any (s : ByteArray) (w : World) (hs : s.size ≤ 400) : Calls Tryz.prog 50 #[.string s] w fun e w' => RdOk s.size e ∧ w = w' := by
  go_enter Tryz.func50, Tryz.ntmps50
  by_cases h0 : s.size = 0
  · have h0i : (s.size : Int) ≤ 0 := by omega
    go_wp2_with (refine wp_scope_inline 2 ?_)
    refine jumps_ret ?_
    refine bodyPost_ret (results_tmp7 rfl _ _ _) rfl ?_
    exact ⟨⟨0, 0, _, _, _, _, 0, by omega, by omega, by omega, by omega, by omega, by omega, rfl⟩, rfl⟩
  have hp0 : 0 < s.size := by omega
  have hp1 : 1 ≤ s.size := hp0
  have hpi : ((s.size : Int) ≤ 0) = False := eq_false (by omega)
  have hpn : (s.size ≤ 0) = False := eq_false (by omega)
  go_upto_block 0 with (refine wp_scope_inline 2 ?_)
  go_cut [4, 7] (fun x y wr => wr = w ∧ ∃ (b : Bool) (i : Nat), i ≤ s.size ∧ i ≤ 1 ∧ x = .bool b ∧ y = .int .i64 (i : Nat))
  case first => as_aux_lemma =>
    go_wp2_with (fail)
    all_goals
      go_meet
      first
        | exact ⟨rfl, _, 1, hp0, by omega, rfl, rfl⟩
        | exact ⟨rfl, _, 0, by omega, by omega, rfl, rfl⟩
  case rest => as_aux_lemma =>
    obtain ⟨hwc, b, i, hi, hi1, rfl, rfl⟩ := hcut
    subst hwc
    go_upto_region 12 with fail
    go_cut [54] (fun x wr => wr = wc ∧ ∃ b : Bool, x = .bool b ∧ (b = true → i + 2 < s.size))
    case first => as_aux_lemma =>
      go_wp2_with (first | (go_at_call 65; refine (low_any _ _).mono ?_; rintro e w' ⟨rfl, rfl⟩))
      all_goals
        go_meet
        exact ⟨rfl, _, rfl, by intro h; first | omega | cases h⟩
    case rest => as_aux_lemma =>
      obtain ⟨hwc, hx, rfl, hb⟩ := hcut
      subst hwc
      go_upto_if 54 with fail
      go_cut [6, 7, 10, 11, 12] (fun x6 x7 x10 x11 x12 wr => wr = wc ∧ ∃ (b : Bool) (i m : Nat) (z c : Int), i ≤ s.size ∧ x6 = .bool b ∧ x7 = .int .i64 (i : Nat) ∧ x10 = .int .u64 z ∧ x11 = .int .i64 (m : Nat) ∧ m ≤ 19 ∧ x12 = .int .u8 c ∧ (z = 10 ∨ z = 16))
      case first => as_aux_lemma =>
        cases hx
        · go_wp2_with (fail)
          go_meet
          exact ⟨rfl, _, i, 19, _, _, hi, rfl, rfl, rfl, rfl, by omega, rfl, .inl rfl⟩
        · have hb1 := hb rfl
          go_wp2_with (fail)
          go_meet
          exact ⟨rfl, _, i + 2, 16, _, _, by omega, rfl, congrArg _ (by omega), rfl, rfl, by omega, rfl, .inr rfl⟩
      case rest => as_aux_lemma =>
        clear hb hi hi1
        obtain ⟨hwc, hx, i, m, z, c, hi, rfl, rfl, rfl, rfl, hm, rfl, hz⟩ := hcut
        subst hwc
        go_upto_block 1 with (refine wp_label ?_)
        go_cut [2, 5, 7, 9, 13, 14, 15, 16, 17, 18] (fun x2 x5 x7 x9 x13 x14 x15 x16 x17 _ wr => wr = wc ∧ ∃ (k q : Int) (b5 b9 b13 b14 : Bool) (i d nm : Nat), x2 = .int .u64 k ∧ 0 ≤ k ∧ k < 18446744073709551616 ∧ x5 = .bool b5 ∧ x7 = .int .i64 (i : Nat) ∧ i ≤ s.size ∧ x9 = .bool b9 ∧ x13 = .bool b13 ∧ x14 = .bool b14 ∧
          x15 = .int .i64 (d : Nat) ∧ d ≤ s.size ∧ x16 = .int .i64 (nm : Nat) ∧ nm ≤ s.size ∧ x17 = .int .i64 q ∧ -400 ≤ q ∧ q ≤ 400)
        case first => as_aux_lemma =>
          rcases hz with rfl | rfl
          · go_wp2_with (fail)
            go_loopw [2, 5, 7, 9, 13, 14, 15, 16, 17] (fun x2 x5 x7 x9 x13 x14 x15 x16 x17 wr => wr = wc ∧ ∃ (k q : Int) (b5 b9 b13 b14 : Bool) (i d nm : Nat), x2 = .int .u64 k ∧ 0 ≤ k ∧ k < 18446744073709551616 ∧ x5 = .bool b5 ∧ x7 = .int .i64 (i : Nat) ∧ i ≤ s.size ∧ x9 = .bool b9 ∧ x13 = .bool b13 ∧ x14 = .bool b14 ∧
              x15 = .int .i64 (d : Nat) ∧ d ≤ i ∧ x16 = .int .i64 (nm : Nat) ∧ nm ≤ i ∧ x17 = .int .i64 q ∧ -(i : Int) ≤ q ∧ q ≤ (i : Int)) (fun _ _ x7 _ _ _ _ _ _ _ => s.size - (intOf x7).toNat)
            case atStart => exact ⟨rfl, 0, 0, _, _, _, _, i, 0, 0, rfl, by omega, by omega, rfl, rfl, hi, rfl, rfl, rfl, rfl, by omega, rfl, by omega, rfl, by omega, by omega⟩
            case round => as_aux_lemma =>
              clear hi
              obtain ⟨hwc, k, q, b5, b9, b13, b14, i, d, nm, rfl, hk0, hk1, rfl, rfl, hi, rfl, rfl, rfl, rfl, hd, rfl, hnm, rfl, hq0, hq1⟩ := hrel
              subst hwc
              by_cases hlt : i < s.size
              · go_wp2_with (first | (go_at_call 65; refine (low_any _ _).mono ?_; rintro e w' ⟨rfl, rfl⟩))
                all_goals first
                  | (go_meet; exact ⟨rfl, k, q, b5, b9, b13, b14, i, d, nm, rfl, hk0, hk1, rfl, rfl, hi, rfl, rfl, rfl, rfl, by omega, rfl, by omega, rfl, by omega, by omega⟩)
                  | exact ⟨⟨trivial, _, _, _, _, _, _, i + 1, d, nm, rfl, by first | exact hk0 | exact (wr64 _).1, by first | exact hk1 | exact (wr64 _).2, rfl, congrArg _ (by omega), by omega, rfl, rfl, rfl, congrArg _ (by omega), by omega, congrArg _ (by omega), by omega, rfl, by omega, by omega⟩, by simp [intOf]; omega⟩
                  | exact ⟨⟨trivial, _, _, _, _, _, _, i + 1, d + 1, nm, rfl, by first | exact hk0 | exact (wr64 _).1, by first | exact hk1 | exact (wr64 _).2, rfl, congrArg _ (by omega), by omega, rfl, rfl, rfl, congrArg _ (by omega), by omega, congrArg _ (by omega), by omega, rfl, by omega, by omega⟩, by simp [intOf]; omega⟩
                  | exact ⟨⟨trivial, _, _, _, _, _, _, i + 1, d + 1, nm + 1, rfl, by first | exact hk0 | exact (wr64 _).1, by first | exact hk1 | exact (wr64 _).2, rfl, congrArg _ (by omega), by omega, rfl, rfl, rfl, congrArg _ (by omega), by omega, congrArg _ (by omega), by omega, rfl, by omega, by omega⟩, by simp [intOf]; omega⟩
              · go_wp2_with (fail)
                go_meet
                exact ⟨rfl, k, q, b5, b9, b13, b14, i, d, nm, rfl, hk0, hk1, rfl, rfl, hi, rfl, rfl, rfl, rfl, by omega, rfl, by omega, rfl, by omega, by omega⟩
          · go_wp2_with (fail)
            go_loopw [2, 5, 7, 9, 13, 14, 15, 16, 17] (fun x2 x5 x7 x9 x13 x14 x15 x16 x17 wr => wr = wc ∧ ∃ (k q : Int) (b5 b9 b13 b14 : Bool) (i d nm : Nat), x2 = .int .u64 k ∧ 0 ≤ k ∧ k < 18446744073709551616 ∧ x5 = .bool b5 ∧ x7 = .int .i64 (i : Nat) ∧ i ≤ s.size ∧ x9 = .bool b9 ∧ x13 = .bool b13 ∧ x14 = .bool b14 ∧
              x15 = .int .i64 (d : Nat) ∧ d ≤ i ∧ x16 = .int .i64 (nm : Nat) ∧ nm ≤ i ∧ x17 = .int .i64 q ∧ -(i : Int) ≤ q ∧ q ≤ (i : Int)) (fun _ _ x7 _ _ _ _ _ _ _ => s.size - (intOf x7).toNat)
            case atStart => exact ⟨rfl, 0, 0, _, _, _, _, i, 0, 0, rfl, by omega, by omega, rfl, rfl, hi, rfl, rfl, rfl, rfl, by omega, rfl, by omega, rfl, by omega, by omega⟩
            case round => as_aux_lemma =>
              clear hi
              obtain ⟨hwc, k, q, b5, b9, b13, b14, i, d, nm, rfl, hk0, hk1, rfl, rfl, hi, rfl, rfl, rfl, rfl, hd, rfl, hnm, rfl, hq0, hq1⟩ := hrel
              subst hwc
              by_cases hlt : i < s.size
              · go_wp2_with (first | (go_at_call 65; refine (low_any _ _).mono ?_; rintro e w' ⟨rfl, rfl⟩))
                all_goals first
                  | (go_meet; exact ⟨rfl, k, q, b5, b9, b13, b14, i, d, nm, rfl, hk0, hk1, rfl, rfl, hi, rfl, rfl, rfl, rfl, by omega, rfl, by omega, rfl, by omega, by omega⟩)
                  | exact ⟨⟨trivial, _, _, _, _, _, _, i + 1, d, nm, rfl, by first | exact hk0 | exact (wr64 _).1, by first | exact hk1 | exact (wr64 _).2, rfl, congrArg _ (by omega), by omega, rfl, rfl, rfl, congrArg _ (by omega), by omega, congrArg _ (by omega), by omega, rfl, by omega, by omega⟩, by simp [intOf]; omega⟩
                  | exact ⟨⟨trivial, _, _, _, _, _, _, i + 1, d + 1, nm, rfl, by first | exact hk0 | exact (wr64 _).1, by first | exact hk1 | exact (wr64 _).2, rfl, congrArg _ (by omega), by omega, rfl, rfl, rfl, congrArg _ (by omega), by omega, congrArg _ (by omega), by omega, rfl, by omega, by omega⟩, by simp [intOf]; omega⟩
                  | exact ⟨⟨trivial, _, _, _, _, _, _, i + 1, d + 1, nm + 1, rfl, by first | exact hk0 | exact (wr64 _).1, by first | exact hk1 | exact (wr64 _).2, rfl, congrArg _ (by omega), by omega, rfl, rfl, rfl, congrArg _ (by omega), by omega, congrArg _ (by omega), by omega, rfl, by omega, by omega⟩, by simp [intOf]; omega⟩
              · go_wp2_with (fail)
                go_meet
                exact ⟨rfl, k, q, b5, b9, b13, b14, i, d, nm, rfl, hk0, hk1, rfl, rfl, hi, rfl, rfl, rfl, rfl, by omega, rfl, by omega, rfl, by omega, by omega⟩
        case rest => as_aux_lemma =>
          clear hi
          obtain ⟨hwc, k, q, b5, b9, b13, b14, i, d, nm, rfl, hk0, hk1, rfl, rfl, hi, rfl, rfl, rfl, rfl, hd, rfl, hnm, rfl, hq0, hq1⟩ := hcut
          subst hwc
          cases b14
          · go_wp2_with (fail)
            refine jumps_ret ?_; refine bodyPost_ret (results_tmp7 rfl _ _ _) rfl ?_; exact ⟨⟨_, _, _, _, _, _, _, by first | exact hk0 | omega, by first | exact hk1 | omega, by omega, by omega, by omega, by omega, rfl⟩, rfl⟩
          · go_upto_if 142 with fail
            go_cut [17] (fun x wr => wr = wc ∧ ∃ q : Int, x = .int .i64 q ∧ -400 ≤ q ∧ q ≤ 400)
            case first => as_aux_lemma =>
              cases b13
              all_goals
                go_wp2_with (fail)
                go_meet
                exact ⟨rfl, _, rfl, by omega, by omega⟩
            case rest => as_aux_lemma =>
              clear hq0 hq1
              obtain ⟨hwc, q, rfl, hq0, hq1⟩ := hcut
              subst hwc
              go_upto_if 145 with fail
              go_cut [16, 17] (fun x y wr => wr = wc ∧ ∃ p q : Int, x = .int .i64 p ∧ 0 ≤ p ∧ p ≤ 1600 ∧ y = .int .i64 q ∧ -1600 ≤ q ∧ q ≤ 1600)
              case first => as_aux_lemma =>
                rcases hz with rfl | rfl
                all_goals
                  go_wp2_with (fail)
                  go_meet
                  exact ⟨rfl, _, _, rfl, by omega, by omega, rfl, by omega, by omega⟩
              case rest => as_aux_lemma =>
                clear hq0 hq1
                obtain ⟨hwc, p, q, rfl, hp0, hp1, rfl, hq0, hq1⟩ := hcut
                subst hwc
                go_upto_region 57 with fail
                go_cut [161] (fun x wr => wr = wc ∧ ∃ b : Bool, x = .bool b ∧ (b = true → i < s.size))
                case first => as_aux_lemma =>
                  go_wp2_with (first | (go_at_call 65; refine (low_any _ _).mono ?_; rintro e w' ⟨rfl, rfl⟩))
                  all_goals
                    go_meet
                    exact ⟨rfl, _, rfl, by intro h; first | omega | cases h⟩
                case rest => as_aux_lemma =>
                  obtain ⟨hwc, bx, rfl, hb⟩ := hcut
                  subst hwc
                  go_upto_if 161 with fail
                  go_cut [7, 9, 17] (fun x y v wr => wr = wc ∧ ∃ (i q : Int) (b : Bool), x = .int .i64 i ∧ 0 ≤ i ∧ i ≤ s.size ∧ y = .bool b ∧ v = .int .i64 q ∧ -150000 ≤ q ∧ q ≤ 150000)
                  case first => as_aux_lemma =>
                    cases bx
                    · rcases hz with rfl | rfl
                      all_goals go_wp2_with (fail)
                      all_goals first
                        | (go_meet; exact ⟨rfl, _, _, _, rfl, by omega, by omega, rfl, rfl, by omega, by omega⟩)
                        | (refine jumps_ret ?_; refine bodyPost_ret (results_tmp7 rfl _ _ _) rfl ?_; exact ⟨⟨_, _, _, _, _, _, _, by first | exact hk0 | omega, by first | exact hk1 | omega, by omega, by omega, by omega, by omega, rfl⟩, rfl⟩)
                    · have hb1 := hb rfl
                      by_cases hl : i + 1 < s.size
                      · have hli : (i : Int) + 1 < (s.size : Int) := by omega
                        go_upto_block 4 with fail
                        go_cut [7, 19] (fun x y wr => wr = wc ∧ ∃ (j : Nat) (f : Int), x = .int .i64 (j : Nat) ∧ j ≤ s.size ∧ y = .int .i64 f ∧ (f = 1 ∨ f = -1))
                        case first => as_aux_lemma =>
                          go_wp2_with (fail)
                          all_goals
                            go_meet
                            first
                              | exact ⟨rfl, i + 1, _, congrArg _ (by omega), by omega, rfl, .inl rfl⟩
                              | exact ⟨rfl, i + 2, _, congrArg _ (by omega), by omega, rfl, .inl rfl⟩
                              | exact ⟨rfl, i + 2, _, congrArg _ (by omega), by omega, rfl, .inr rfl⟩
                        case rest => as_aux_lemma =>
                          obtain ⟨hwc, j, f, rfl, hj, rfl, hf⟩ := hcut
                          subst hwc
                          go_upto_region 67 with fail
                          go_cut [194] (fun x wr => wr = wc ∧ ∃ b : Bool, x = .bool b)
                          case first => as_aux_lemma =>
                            go_wp2_with (fail)
                            all_goals
                              go_meet
                              exact ⟨rfl, _, rfl⟩
                          case rest => as_aux_lemma =>
                            obtain ⟨hwc, by2, rfl⟩ := hcut
                            subst hwc
                            cases by2
                            · go_upto_block 5 with fail
                              go_cut [7, 9, 20] (fun x y v wr => wr = wc ∧ ∃ (j : Nat) (b : Bool) (g : Int), x = .int .i64 (j : Nat) ∧ j ≤ s.size ∧ y = .bool b ∧ v = .int .i64 g ∧ 0 ≤ g ∧ g ≤ 110000)
                              case first => as_aux_lemma =>
                                go_wp2_with (fail)
                                go_loopw [7, 9, 20] (fun x y v wr => wr = wc ∧ ∃ (j : Nat) (b : Bool) (g : Int), x = .int .i64 (j : Nat) ∧ j ≤ s.size ∧ y = .bool b ∧ v = .int .i64 g ∧ 0 ≤ g ∧ g ≤ 110000) (fun x _ _ _ => s.size - (intOf x).toNat)
                                case atStart => exact ⟨rfl, j, _, 0, rfl, hj, rfl, rfl, by omega, by omega⟩
                                case round => as_aux_lemma =>
                                  clear hj
                                  obtain ⟨hwc, j, b, g, rfl, hj, rfl, rfl, hg0, hg1⟩ := hrel
                                  subst hwc
                                  go_wp2_with (fail)
                                  all_goals first
                                    | (go_meet; exact ⟨rfl, j, _, g, rfl, hj, rfl, rfl, hg0, hg1⟩)
                                    | exact ⟨⟨trivial, j + 1, _, _, congrArg _ (by omega), by omega, rfl, rfl, by omega, by omega⟩, by simp [intOf]; omega⟩
                                    | (exfalso; rename_i h3 h2 h1 _; rcases h2 with h | h <;> first | omega | (rw [h1] at h; cases h))
                              case rest => as_aux_lemma =>
                                obtain ⟨hwc, j, b, g, rfl, hj, rfl, rfl, hg0, hg1⟩ := hcut
                                subst hwc
                                rcases hf with rfl | rfl
                                all_goals
                                  go_wp2_with (fail)
                                  go_meet
                                  exact ⟨rfl, _, _, _, rfl, by omega, by omega, rfl, rfl, by omega, by omega⟩
                            · go_wp2_with (fail)
                              refine jumps_ret ?_; refine bodyPost_ret (results_tmp7 rfl _ _ _) rfl ?_; exact ⟨⟨_, _, _, _, _, _, _, by first | exact hk0 | omega, by first | exact hk1 | omega, by omega, by omega, by omega, by omega, rfl⟩, rfl⟩
                      · have hli : (i : Int) + 1 < (s.size : Int) ↔ False := ⟨fun h => by omega, False.elim⟩
                        have hle : i + 1 = s.size := by omega
                        have hlei : (s.size : Int) ≤ (i : Int) + 1 := by omega
                        go_wp2_with (fail)
                        refine jumps_ret ?_; refine bodyPost_ret (results_tmp7 rfl _ _ _) rfl ?_; exact ⟨⟨_, _, _, _, _, _, _, by first | exact hk0 | omega, by first | exact hk1 | omega, by omega, by omega, by omega, by omega, rfl⟩, rfl⟩
                  case rest => as_aux_lemma =>
                    obtain ⟨hwc, j, q, b, rfl, hj0, hj1, rfl, rfl, hq0', hq1'⟩ := hcut
                    subst hwc
                    obtain ⟨j, rfl⟩ : ∃ n : Nat, j = (n : Int) := ⟨j.toNat, by omega⟩
                    have hj2 : j ≤ s.size := by omega
                    go_upto_if 241 with fail
                    go_cut [3] (fun x wr => wr = wc ∧ ∃ z : Int, x = .int .i64 z ∧ -200000 ≤ z ∧ z ≤ 200000)
                    case first => as_aux_lemma =>
                      go_wp2_with (fail)
                      all_goals
                        go_meet
                        exact ⟨rfl, _, rfl, by omega, by omega⟩
                    case rest => as_aux_lemma =>
                      obtain ⟨hwc, x, rfl, hx0, hx1⟩ := hcut
                      subst hwc
                      cases b
                      · go_wp2_with (fail)
                        refine jumps_ret ?_; refine bodyPost_ret (results_tmp7 rfl _ _ _) rfl ?_; exact ⟨⟨_, _, _, _, _, _, _, by first | exact hk0 | omega, by first | exact hk1 | omega, by omega, by omega, by omega, by omega, rfl⟩, rfl⟩
                      · go_wp2_with (first | (go_at_call 87; refine (und_any _ _ (by simp; omega)).mono ?_; rintro e w' ⟨⟨b, rfl⟩, rfl⟩))
                        all_goals (refine jumps_ret ?_; refine bodyPost_ret (results_tmp7 rfl _ _ _) rfl ?_; exact ⟨⟨_, _, _, _, _, _, _, by first | exact hk0 | omega, by first | exact hk1 | omega, by omega, by omega, by omega, by omega, rfl⟩, rfl⟩)
end Go.Proofs.YtpbombkmnfbcgaaGreatDoor
