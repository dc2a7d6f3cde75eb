/- A float of hexadecimal digits: always answered. -/
import Derived.Test.YtpbombkmnfbcgaaGreatDoorSml
import Derived.Test.YtpbombkmnfbcgaaGreatDoorFlb
import Derived.Laws.Bits64b
import Derived.LaidEqlPtr
namespace Go.Proofs.YtpbombkmnfbcgaaGreatDoor
open Go.RowKit

theorem or_one_le (x : Nat) : x ||| 1 ≤ x + 1 := by
  have h : (x ||| 1) / 2 = x / 2 := by rw [Nat.or_div_two]; simp
  omega
/-- A number halved, its lowest bit kept, is less. -/
theorem half_lt {m : Nat} (h2 : 2 ≤ m) (hm : m < 18446744073709551616) : ∃ n : Nat, n < m ∧ bits .or .u64 ((m / 2 : Nat) : Int) (bits .and .u64 (m : Int) 1) = (n : Int) := by
  have ha := bits_and_u64_nat m 1 hm (by omega)
  have h1 : m &&& 1 = m % 2 := Nat.and_one_is_mod m
  have ho := bits_or_u64_nat (m / 2) (m % 2) (by omega) (by omega)
  refine ⟨m / 2 ||| m % 2, ?_, ?_⟩
  · rcases (show m % 2 = 0 ∨ m % 2 = 1 by omega) with h | h
    · rw [h, Nat.or_zero]; omega
    · rw [h]; have := or_one_le (m / 2); omega
  · rw [show ((1 : Int)) = ((1 : Nat) : Int) from rfl, ha, h1, ho]

theorem info_fi : ∃ j, Tryz.prog.info? 93 = some j ∧ j.size ≠ 0 := ⟨(Tryz.prog.info? 93).get (by kernel_rfl), by kernel_rfl, by
  have h : ((Tryz.prog.info? 93).get (by kernel_rfl)).size = 3 := by kernel_rfl
  omega⟩
/-- The widths of floats, and where they lie. -/
structure GlbAt (N : Nat) (w : World) : Prop where
  flt : FltAt N w
  b4 : ∃ cs t, w.heap[4]? = some (.cells cs t (0, 0))
  b5 : ∃ cs t, w.heap[5]? = some (.cells cs t (0, 0))
  lt : 4 < N
theorem GlbAt.keep {N : Nat} {w w' : World} (h : GlbAt N w) (hb : Below N w w') : GlbAt N w' :=
  ⟨h.flt.keep hb, by rw [hb.block _ h.lt]; exact h.b4, by rw [hb.block _ h.flt.lt]; exact h.b5, h.lt⟩
theorem run_pp {N : Nat} {w : World} (h : GlbAt N w) : (binOp BinOp.eql 90 (.pointer (some ⟨5, 0, none⟩)) (.pointer (some ⟨4, 0, none⟩))).run Tryz.prog w = .ok (.bool false) w := by
  obtain ⟨j, hj, hs⟩ := info_fi
  obtain ⟨ca, ta, ha⟩ := h.b5
  obtain ⟨cb, tb, hb⟩ := h.b4
  exact run_eql_ptr_other w (te := 93) (by kernel_rfl) hj hs (by decide) ha hb
/-- None of the errors, or one of the two. -/
def ErrV (v : Value) : Prop := v = .nilIface ∨ v = .iface 50 (.int .i64 1) ∨ v = .iface 50 (.int .i64 2)
/-- An answer: a float, and such an error. -/
def IsFE (e : Ending) : Prop := ∃ (k : Nat) (v : Value), ErrV v ∧ e = .returned (.tuple #[.float .f64 k, v])

set_option maxRecDepth 100000 in
set_option maxHeartbeats 20000000 in
theorem hex_any (N : Nat) (s : ByteArray) (m : Nat) (z : Int) (neg tr : Bool) (w : World) (hm : m < 18446744073709551616) (hG : GlbAt N w) :
    Calls Tryz.prog 51 #[.string s, .pointer (some ⟨5, 0, none⟩), .int .u64 (m : Nat), .int .i64 z, .bool neg, .bool tr] w fun e w' => IsFE e ∧ Below w.heap.size w w' := by
  have hm0 : Tryz.prog.follows .mixedOrders = true := by kernel_rfl
  have hF := hG.flt
  have hp1 := run_pp (w := w.drew.drew) (hG.keep ((Below.refl _ _).drew.drew))
  have hp2 := run_pp (w := w.drew.drew.drew) (hG.keep ((Below.refl _ _).drew.drew.drew))
  have f0 := hF.m
  have f1 := hF.e
  have f2 := hF.b
  have hff := fun (z : Int) (w : World) => run_ff z w
  have hwa : IntKind.i64.wrap 2048 = 2048 := by rfl
  have hwb : IntKind.i64.wrap 1025 = 1025 := by rfl
  have hwc : IntKind.i64.wrap 1023 = 1023 := by rfl
  clear hF hG
  go_enter Tryz.func51, Tryz.ntmps51
  go_wp2_with (fail)
  refine Go.Ev.wp_region_planE (fun v => v = w.drew) hm0 (by kernel_rfl) (by kernel_rfl) rfl ?_
  iterate 12
    refine Go.Ev.planE_cons _ (by rintro v K rfl hK; go_simp; exact hK _ rfl) ?_
    simp only [Act.put, List.setIfInBounds_toArray, List.set_cons_succ, List.set_cons_zero]
  rintro w1 rfl
  clear hwa hwb hwc
  go_upto_block 0 with fail
  go_cut [2, 3, 14, 15] (fun x y a b wr => wr = w.drew ∧ ∃ (n : Nat) (z c d : Int), x = .int .u64 (n : Nat) ∧ n < 18446744073709551616 ∧ y = .int .i64 z ∧ a = .int .i64 c ∧ b = .int .i64 d)
  case first => as_aux_lemma =>
    go_wp2_with (fail)
    go_loopw [2, 3] (fun x y wr => wr = w.drew ∧ ∃ (n : Nat) (z : Int), x = .int .u64 (n : Nat) ∧ n < 18446744073709551616 ∧ y = .int .i64 z) (fun x _ _ => 18014398509481984 - (intOf x).toNat)
    case atStart => exact ⟨rfl, m, _, rfl, hm, rfl⟩
    case round => as_aux_lemma =>
      clear hm
      obtain ⟨hwr, n, z, rfl, hn, rfl⟩ := hrel
      subst hwr
      by_cases hn0 : n = 0
      · subst hn0
        go_wp2_with (fail)
        go_meet
        exact ⟨rfl, 0, _, _, _, rfl, by omega, rfl, rfl, rfl⟩
      · have hnb : ((n : Int) != 0) = true := by simp; omega
        by_cases hlt : n < 18014398509481984
        · have hdb : ((n : Int) / 18014398509481984 == 0) = true := by simp; omega
          go_wp2_with (fail)
          exact ⟨⟨trivial, n * 2, _, congrArg _ (by omega), by omega, rfl⟩, by simp [intOf]; omega⟩
        · have hdb : ((n : Int) / 18014398509481984 == 0) = false := beq_ne (by omega)
          go_wp2_with (fail)
          go_meet
          exact ⟨rfl, n, _, _, _, rfl, by omega, rfl, rfl, rfl⟩
  case rest => as_aux_lemma =>
    clear hm
    obtain ⟨hwr, n, z, c, d, rfl, hn, rfl, rfl, rfl⟩ := hcut
    subst hwr
    go_upto_if 58 with fail
    go_cut [2] (fun x wr => wr = w.drew ∧ ∃ n : Nat, x = .int .u64 (n : Nat) ∧ n < 18446744073709551616)
    case first => as_aux_lemma =>
      obtain ⟨k, hk, ek⟩ := bitsU .or (n : Int) 1
      cases tr
      all_goals
        go_wp2_with (fail)
        go_meet
        first
          | exact ⟨rfl, n, rfl, hn⟩
          | exact ⟨rfl, k, by first | rfl | rw [ek], hk⟩
    case rest => as_aux_lemma =>
      clear hn
      obtain ⟨hwr, n, rfl, hn⟩ := hcut
      go_upto_block 2 with fail
      go_cut [2, 3] (fun x y wr => wr = w.drew ∧ ∃ (n : Nat) (z : Int), x = .int .u64 (n : Nat) ∧ n < 18446744073709551616 ∧ y = .int .i64 z)
      case first => as_aux_lemma =>
        subst hwr
        go_wp2_with (fail)
        go_loopw [2, 3] (fun x y wr => wr = w.drew ∧ ∃ (n : Nat) (z : Int), x = .int .u64 (n : Nat) ∧ n < 18446744073709551616 ∧ y = .int .i64 z) (fun x _ _ => (intOf x).toNat)
        case atStart => exact ⟨rfl, n, _, rfl, hn, rfl⟩
        case round => as_aux_lemma =>
          clear hn
          obtain ⟨hwr, n, z, rfl, hn, rfl⟩ := hrel
          subst hwr
          by_cases hlt : n < 36028797018963968
          · have hdb : ((n : Int) / 36028797018963968 != 0) = false := by simp; omega
            go_wp2_with (fail)
            go_meet
            exact ⟨rfl, n, _, rfl, by omega, rfl⟩
          · have hdb : ((n : Int) / 36028797018963968 != 0) = true := by simp; omega
            obtain ⟨k, hk, ek⟩ := half_lt (m := n) (by omega) hn
            have ek' : bits .or .u64 ((n : Int) / 2) (bits .and .u64 (n : Int) 1) = (k : Int) := ek
            clear ek
            go_wp2_with (fail)
            exact ⟨⟨trivial, k, _, rfl, by omega, rfl⟩, by simp [intOf]; omega⟩
      case rest => as_aux_lemma =>
        clear hn hwr
        obtain ⟨hwr, n, z, rfl, hn, rfl⟩ := hcut
        go_upto_block 4 with fail
        go_cut [2, 3] (fun x y wr => wr = w.drew ∧ ∃ (n : Nat) (z : Int), x = .int .u64 (n : Nat) ∧ n < 18446744073709551616 ∧ y = .int .i64 z)
        case first => as_aux_lemma =>
          subst hwr
          go_wp2_with (fail)
          go_loopw [2, 3] (fun x y wr => wr = w.drew ∧ ∃ (n : Nat) (z : Int), x = .int .u64 (n : Nat) ∧ n < 18446744073709551616 ∧ y = .int .i64 z) (fun x _ _ => (intOf x).toNat)
          case atStart => exact ⟨rfl, n, _, rfl, hn, rfl⟩
          case round => as_aux_lemma =>
            clear hn
            obtain ⟨hwr, n, z, rfl, hn, rfl⟩ := hrel
            subst hwr
            by_cases hlt : n ≤ 1
            · have hdb : ((1 : Int) < (n : Int)) = False := eq_false (by omega)
              have hdn : (1 < n) = False := eq_false (by omega)
              go_wp2_with (fail)
              go_meet
              exact ⟨rfl, n, _, rfl, by omega, rfl⟩
            · have hdb : ((1 : Int) < (n : Int)) = True := eq_true (by omega)
              have hdn : (1 < n) = True := eq_true (by omega)
              obtain ⟨k, hk, ek⟩ := half_lt (m := n) (by omega) hn
              have ek' : bits .or .u64 ((n : Int) / 2) (bits .and .u64 (n : Int) 1) = (k : Int) := ek
              clear ek
              go_wp2_with (fail)
              all_goals first
                | exact ⟨⟨trivial, k, _, rfl, by omega, rfl⟩, by simp [intOf]; omega⟩
                | (go_meet; exact ⟨rfl, n, _, rfl, by omega, rfl⟩)
        case rest => as_aux_lemma =>
          clear hn hwr
          obtain ⟨hwr, n, z, rfl, hn, rfl⟩ := hcut
          subst hwr
          clear hn
          go_upto_if 103 with fail
          go_cut [2, 3] (fun x y wr => wr = w.drew ∧ ∃ m z : Int, x = .int .u64 m ∧ y = .int .i64 z)
          case first => as_aux_lemma =>
            go_wp2_with (fail)
            all_goals
              go_meet
              exact ⟨rfl, _, _, rfl, rfl⟩
          case rest => as_aux_lemma =>
            obtain ⟨hwr, m, z, rfl, rfl⟩ := hcut
            subst hwr
            go_upto_if 124 with fail
            go_cut [3] (fun y wr => wr = w.drew ∧ ∃ z : Int, y = .int .i64 z)
            case first => as_aux_lemma =>
              go_wp2_with (fail)
              all_goals
                go_meet
                exact ⟨rfl, _, rfl⟩
            case rest => as_aux_lemma =>
              obtain ⟨hwr, z, rfl⟩ := hcut
              subst hwr
              go_upto_if 131 with fail
              go_cut [2, 3, 17] (fun x y v wr => wr = w.drew ∧ ∃ (m z : Int) (u : Value), ErrV u ∧ x = .int .u64 m ∧ y = .int .i64 z ∧ v = u)
              case first => as_aux_lemma =>
                go_wp2_with (fail)
                all_goals
                  go_meet
                  exact ⟨rfl, _, _, _, by first | exact .inl rfl | exact .inr (.inl rfl), rfl, rfl, rfl⟩
              case rest => as_aux_lemma =>
                obtain ⟨hwr, m, z, u, hu, rfl, rfl, rfl⟩ := hcut
                subst hwr
                go_wp2_with (fail)
                refine Go.Ev.wp_region_planE (fun v => v = w.drew.drew) hm0 (by kernel_rfl) (by kernel_rfl) rfl ?_
                iterate 22
                  refine Go.Ev.planE_cons _ (by rintro v K rfl hK; go_simp; exact hK _ rfl) ?_
                  simp only [Act.put, List.setIfInBounds_toArray, List.set_cons_succ, List.set_cons_zero]
                rintro w1 rfl
                cases neg
                all_goals go_wp2_with (fail)
                · go_ret2
                  exact ⟨⟨_, _, hu, rfl⟩, (Below.refl _ _).drew.drew⟩
                · skip
                  refine Go.Ev.wp_region_planE (fun v => v = w.drew.drew.drew) hm0 (by kernel_rfl) (by kernel_rfl) rfl ?_
                  iterate 13
                    refine Go.Ev.planE_cons _ (by rintro v K rfl hK; go_simp; exact hK _ rfl) ?_
                    simp only [Act.put, List.setIfInBounds_toArray, List.set_cons_succ, List.set_cons_zero]
                  rintro w1 rfl
                  go_wp2_with (fail)
                  go_ret2
                  exact ⟨⟨_, _, hu, rfl⟩, (Below.refl _ _).drew.drew.drew⟩
end Go.Proofs.YtpbombkmnfbcgaaGreatDoor
