/- A decimal is shifted left. -/
import Derived.Test.YtpbombkmnfbcgaaGreatDoorCht
namespace Go.Proofs.YtpbombkmnfbcgaaGreatDoor
open Go.RowKit

/-- The carry in front of digit m. -/
def car (D : Nat → Nat) (nd k m : Nat) : Nat := num (fun i => D (m + i)) (nd - m) * 2 ^ k / 10 ^ (nd - m)

theorem car_step {D : Nat → Nat} {nd k p : Nat} (h : p < nd) : (car D nd k (p + 1) + (D p - 48) * 2 ^ k) / 10 = car D nd k p := by
  unfold car
  rw [carry_step]
  obtain ⟨m, hm⟩ : ∃ m, nd - p = m + 1 := ⟨nd - p - 1, by omega⟩
  rw [show nd - (p + 1) = m by omega, hm, num_first]
  simp only [Nat.add_zero]
  congr 3
  exact congrArg (fun f => num f m) (funext fun i => by rw [Nat.add_assoc])
theorem car_lt {D : Nat → Nat} {nd k m : Nat} (hD : Digs D nd) : car D nd k m < 2 ^ k :=
  carry_lt (num_lt fun i hi => hD _ (by omega)) (Nat.pow_pos (by omega))
theorem car_end (D : Nat → Nat) (nd k : Nat) : car D nd k nd = 0 := by simp [car, num]
theorem car_all (D : Nat → Nat) (nd k : Nat) : car D nd k 0 = num D nd * 2 ^ k / 10 ^ nd := by simp [car]

theorem wu8 {z : Int} (h1 : 0 ≤ z) (h2 : z < 256) : IntKind.u8.wrap z = z := by rw [IntKind.wrap_u8]; omega
/-- What one step of a left shift reckons: the quotient, the rest, the digit. -/
structure Rk (X q r ch : Nat) : Prop where
  s3 : ((X : Nat) : Int).tdiv 10 = (q : Int)
  s4 : IntKind.u64.wrap (q : Int) = (q : Int)
  s5 : IntKind.u64.wrap (10 * (q : Int)) = 10 * (q : Int)
  s6 : IntKind.u64.wrap ((X : Int) - 10 * (q : Int)) = (r : Int)
  s7 : IntKind.u64.wrap ((r : Int) + 48) = (ch : Int)
  s8 : (ch : Int) % 256 = (ch : Int)
  eq : q = X / 10
  er : r = X - 10 * (X / 10)
  ec : ch = r + 48
  r9 : r ≤ 9
theorem rk {X : Nat} (hX : X < 18446744073709551616) : ∃ q r ch, Rk X q r ch := by
  refine ⟨X / 10, X - 10 * (X / 10), X - 10 * (X / 10) + 48, ?_, ?_, ?_, ?_, ?_, ?_, rfl, rfl, rfl, by omega⟩
  · rw [Int.tdiv_eq_ediv_of_nonneg (by omega)]; omega
  · rw [wu64 (by omega) (by omega)]
  · rw [wu64 (by omega) (by omega)]
  · rw [wu64 (by omega) (by omega)]; omega
  · rw [wu64 (by omega) (by omega)]; omega
  · omega
theorem shl_wrap {d k : Nat} (hd : d ≤ 9) (hk : k ≤ 60) : IntKind.u64.wrap ((d : Int) * 2 ^ k) = ((d * 2 ^ k : Nat) : Int) := by
  have h2 : (2 : Nat) ^ k ≤ 2 ^ 60 := Nat.pow_le_pow_right (by omega) hk
  have h3 : d * 2 ^ k ≤ 9 * 2 ^ 60 := Nat.mul_le_mul hd h2
  have e : ((d : Int) * 2 ^ k) = ((d * 2 ^ k : Nat) : Int) := by push_cast; rfl
  rw [e, wu64 (by omega) (by omega)]
theorem add_wrap {c d k X : Nat} (h : c + d * 2 ^ k = X) (hX : X < 18446744073709551616) : IntKind.u64.wrap ((c : Int) + (d : Int) * 2 ^ k) = (X : Int) := by
  have e : ((c : Int) + (d : Int) * 2 ^ k) = (X : Int) := by rw [← h]; push_cast; rfl
  rw [e, wu64 (by omega) (by omega)]
theorem rk_lt {c d k : Nat} (hc : c < 2 ^ k) (hd : d ≤ 9) (hk : k ≤ 60) : c + d * 2 ^ k < 18446744073709551616 := by
  have h2 : (2 : Nat) ^ k ≤ 2 ^ 60 := Nat.pow_le_pow_right (by omega) hk
  have h3 : d * 2 ^ k ≤ 9 * 2 ^ 60 := Nat.mul_le_mul hd h2
  omega

/-- Where the first loop of a left shift stands. -/
structure LshS (B : Nat) (D : Nat → Nat) (nd : Nat) (dp : Int) (neg : Bool) (k e m : Nat) (w : World) : Prop where
  ex : ∃ D1 tr1, DecS B D1 nd dp neg tr1 w ∧ (∀ j, j < m → D1 j = D j) ∧ (∀ j, m + e ≤ j → j < nd + e → 48 ≤ D1 j ∧ D1 j ≤ 57 ∨ 800 ≤ j) ∧ (m = 0 → e = 0 → 2 ^ k * (D 0 - 48) ≤ D1 0 - 48)

/-- Where the second loop stands. -/
structure LshT (B : Nat) (D : Nat → Nat) (nd : Nat) (dp : Int) (neg : Bool) (k e j : Nat) (w : World) : Prop where
  ex : ∃ D1 tr1, DecS B D1 nd dp neg tr1 w ∧ (∀ i, j ≤ i → i < nd + e → 48 ≤ D1 i ∧ D1 i ≤ 57 ∨ 800 ≤ i) ∧ (j = 0 → D1 0 ≠ 48) ∧ (e = 0 → 2 ^ k * (D 0 - 48) ≤ D1 0 - 48)

set_option maxRecDepth 100000 in
set_option maxHeartbeats 1600000 in
theorem lsh_any (N B : Nat) (D : Nat → Nat) (nd : Nat) (dp : Int) (neg tr : Bool) (k : Nat) (w : World) (hS : DecS B D nd dp neg tr w) (hC : CheatsAt N w) (hNB : N ≤ B) (hD : Digs D nd) (h0 : D 0 ≠ 48) (h1 : 1 ≤ nd) (h8 : nd ≤ 800) (hk : 1 ≤ k) (hk60 : k ≤ 60) (hdp1 : -1000000000 ≤ dp) (hdp2 : dp ≤ 1000000000) :
    Calls Tryz.prog 79 #[.pointer (some ⟨B, 0, none⟩), .int .u64 (k : Nat)] w fun e w' => e = .returned (.tuple #[]) ∧ ∃ D' nd' e' tr', DecS B D' nd' (dp + (e' : Nat)) neg tr' w' ∧ Digs D' nd' ∧ D' 0 ≠ 48 ∧ 1 ≤ nd' ∧ nd' ≤ 800 ∧
      (e' = chD k ∧ 5 ^ k * 10 ^ nd ≤ num D nd * 10 ^ (chC k).length ∨ e' + 1 = chD k ∧ num D nd * 10 ^ (chC k).length < 5 ^ k * 10 ^ nd) ∧ (e' = 0 → 2 ^ k * (D 0 - 48) ≤ D' 0 - 48) ∧ Onl B w w' := by
  have hm : Tryz.prog.follows .mixedOrders = true := by kernel_rfl
  obtain ⟨hc1, hc2, hc3, hc4, hc5⟩ := cheat hk hk60
  obtain ⟨cb, off, cap, g1, g2, g3, g4⟩ := hC
  obtain ⟨g5, g6⟩ := g4 k (by omega)
  have hSH : Hid (DecS B D nd dp neg tr w) := hS
  have hDH : Hid (Digs D nd) := hD
  have cN := hS.nd
  have cP := hS.dp
  have fN := hS.fr 800
  have fP := hS.fr 801
  have hBl : B < w.heap.size := hS.lt
  have hless : Hid (∀ v, Below w.heap.size w v → Calls Tryz.prog 96 #[.slice (some ⟨B, 0, none⟩) nd 800, .string (bs (chC k))] v fun e w' => e = .returned (.bool (decide (num D nd * 10 ^ (chC k).length < 5 ^ k * 10 ^ nd))) ∧ Below v.heap.size v w') := by
    refine .mk fun v hv => ?_
    refine (less_any B D nd dp neg tr (chC k) v (hS.keep hv) h8 hD hc3 hc5 hc1.L1 hc4).mono ?_
    rintro e w' ⟨b, rfl, hb, h2, h3⟩
    refine ⟨?_, hb⟩
    rw [hc2] at h2 h3
    cases b with
    | true => rw [decide_eq_true (h2 rfl)]
    | false => rw [decide_eq_false (by have := h3 rfl; omega)]
  clear hS hD g4
  have hki : (k : Int) < 61 := by omega
  have hal : Tryz.prog.arrayLen 80 = 800 := by kernel_rfl
  have hndi : (nd : Int) ≤ 800 := by omega
  have hg1 : Hid (w.cell? ⟨cb, off + k * 2, none⟩ = some (.int .i64 (chD k : Nat))) := g5
  obtain ⟨e, he1, he2, hed⟩ : ∃ e : Nat, Hid (Adds (num D nd) nd k e) ∧ Hid (e = chD k ∧ 5 ^ k * 10 ^ nd ≤ num D nd * 10 ^ (chC k).length ∨ e + 1 = chD k ∧ num D nd * 10 ^ (chC k).length < 5 ^ k * 10 ^ nd) ∧ ((chD k : Nat) : Int) - (if num D nd * 10 ^ (chC k).length < 5 ^ k * 10 ^ nd then 1 else 0) = (e : Int) := by
    by_cases hl : num D nd * 10 ^ (chC k).length < 5 ^ k * 10 ^ nd
    · have hd1 := hc1.d1
      have hn1 : 10 ^ (nd - 1) ≤ num D nd := Nat.le_trans (Nat.le_trans (by omega) (Nat.mul_le_mul_right _ (show 1 ≤ D 0 - 48 by have := (hDH.out 0 (by omega)).1; omega))) (num_ge_first D h1)
      exact ⟨chD k - 1, adds_less hc1 h1 hn1 hl, .mk (.inr ⟨by omega, hl⟩), by rw [if_pos hl]; omega⟩
    · exact ⟨chD k, adds_more hc1 (num_lt hDH.out) (by omega), .mk (.inl ⟨rfl, by omega⟩), by rw [if_neg hl]; omega⟩
  have he20 : e ≤ 20 := by have := hc1.d20; rcases he2.out with h | h <;> omega
  have hlt11 : 11 < w.heap.size := by omega
  have hltc : cb < w.heap.size := by omega
  by_cases hl : num D nd * 10 ^ (chC k).length < 5 ^ k * 10 ^ nd
  all_goals
    first
      | (rw [if_pos hl] at hed; rw [decide_eq_true hl] at hless)
      | (rw [if_neg hl] at hed; rw [decide_eq_false hl] at hless; rw [show chD k = e by omega] at g5)
    go_enter Tryz.func79, Tryz.ntmps79
    go_wp2_with (fail)
  · refine Go.Ev.wp_region_plan (fun v => Below w.heap.size w v) [.pointer (some ⟨B, 0, none⟩), .pointer (some ⟨B, 0, none⟩), .pointer (some ⟨B, 0, none⟩), .pointer (some ⟨B, 0, none⟩), .pointer (some ⟨B, 0, none⟩), .pointer (some ⟨B, 800, none⟩), .int .i64 (nd : Nat), .slice (some ⟨B, 0, none⟩) nd 800, .slice (some ⟨cb, off, none⟩) 61 cap, .int .u64 (k : Nat), .pointer (some ⟨cb, off + k * 2, none⟩), .pointer (some ⟨cb, off + k * 2 + 1, none⟩), .string (bs (chC k)), .bool true] hm (by kernel_rfl) (by kernel_rfl) ((Below.refl _ _).drew) ?_
    iterate 13
      refine ⟨by rintro v K hv hK; have c1 := (hv.cell (p := ⟨B, 800, none⟩) (by exact hBl)).trans cN; have c2 := (hv.cell (p := ⟨11, 0, none⟩) (by exact hlt11)).trans g1; have c3 := (hv.cell (p := ⟨cb, off + k * 2 + 1, none⟩) (by exact hltc)).trans g6; go_simp; exact hK _ hv, ?_⟩
      simp only [Act.put, List.setIfInBounds_toArray, List.set_cons_succ, List.set_cons_zero, List.headD_cons, List.tail_cons]
    refine ⟨fun v K hv hK => ?_, ?_⟩
    · go_simp; refine (hless.out v hv).mono ?_; rintro e w' ⟨rfl, hB⟩; exact hK _ (hv.trans (hB.mono hv.size))
    simp only [Act.put, List.setIfInBounds_toArray, List.set_cons_succ, List.set_cons_zero, List.headD_cons, List.tail_cons]
    intro w1 hv1
    have cN1 := (hv1.cell (p := ⟨B, 800, none⟩) (by exact hBl)).trans cN
    go_wp2_with (fail)
    have hS1 : Hid (LshS B D nd dp neg k e nd w1) := .mk ⟨D, tr, hSH.out.keep hv1, fun _ _ => rfl, fun j h1 h2 => by omega, fun h => by omega⟩
    have hv1H : Hid (Below w.heap.size w w1) := hv1
    clear hv1 cN1
    go_loopw [5, 6, 7] (fun r x n wr => ∃ m : Nat, m ≤ nd ∧ r = .int .i64 ((m : Int) - 1) ∧ x = .int .i64 ((m : Int) + (e : Int)) ∧ n = .int .u64 (car D nd k m : Nat) ∧ LshS B D nd dp neg k e m wr ∧ Onl B w1 wr) (fun r _ _ _ => (intOf r + 1).toNat)
    case atStart => exact ⟨nd, Nat.le_refl _, rfl, rfl, by rw [car_end]; rfl, hS1.out, Onl.refl _ _⟩
    case round =>
      obtain ⟨m, hmn, rfl, rfl, rfl, hL, hO⟩ := hrel
      obtain ⟨D1, tr1, hD1, hsame, hval, hfst⟩ := hL.ex
      have hDH1 : Hid (DecS B D1 nd dp neg tr1 wr) := hD1
      have hOH : Hid (Onl B w1 wr) := hO
      clear hL hO hD1
      rcases Nat.eq_zero_or_pos m with rfl | hpos
      · have hq : Hid (car D nd k 0 < 10 ^ e ∧ (1 ≤ e → 10 ^ (e - 1) ≤ car D nd k 0)) := by rw [car_all]; exact .mk he1.out
        have hT0 : Hid (LshT B D nd dp neg k e e wr) := by
          refine .mk ⟨D1, tr1, hDH1.out, fun j h1 h2 => hval j (by omega) h2, fun h => ?_, fun h => hfst rfl h⟩
          have hf := hfst rfl h
          have h2 : 2 ^ 1 ≤ 2 ^ k := Nat.pow_le_pow_right (by omega) hk
          have h3 : 1 ≤ D 0 - 48 := by have := (hDH.out 0 (by omega)).1; omega
          have h4 := Nat.mul_le_mul h2 h3
          omega
        have hcl : car D nd k 0 < 2 ^ k := car_lt hDH.out
        have h260 : (2 : Nat) ^ k ≤ 2 ^ 60 := Nat.pow_le_pow_right (by omega) hk60
        have hq64 : car D nd k 0 < 18446744073709551616 := by omega
        clear hsame hval hfst hDH1 cN hcl h260
        generalize car D nd k 0 = q0 at *
        obtain ⟨wx, hwx⟩ : ∃ wx : World, wx = wr := ⟨wr, rfl⟩
        subst hwx
        go_wp2_with (fail)
        go_loopw [6, 7] (fun x n wr => ∃ j n1 : Nat, j ≤ e ∧ x = .int .i64 (j : Nat) ∧ n = .int .u64 (n1 : Nat) ∧ n1 < 18446744073709551616 ∧ n1 < 10 ^ j ∧ (1 ≤ j → 10 ^ (j - 1) ≤ n1) ∧ LshT B D nd dp neg k e j wr ∧ Onl B wx wr) (fun _ n _ => (intOf n).toNat)
        case atStart => exact ⟨e, q0, Nat.le_refl _, by simp, rfl, hq64, hq.out.1, hq.out.2, hT0.out, Onl.refl _ _⟩
        case round =>
          obtain ⟨j, n1, hje, rfl, rfl, hn64, hn1, hn2, hT, hO2⟩ := hrel
          obtain ⟨D2, tr2, hD2, hval, h00, hfst⟩ := hT.ex
          have hDH2 : Hid (DecS B D2 nd dp neg tr2 wr) := hD2
          have hOH2 : Hid (Onl B wx wr) := hO2
          clear hT hO2 hD2
          rcases Nat.eq_zero_or_pos n1 with rfl | hn0
          · have hj0 : j = 0 := by
              rcases Nat.eq_zero_or_pos j with h | h
              · exact h
              · have := hn2 h; have := Nat.pow_pos (n := j - 1) (show 0 < 10 by omega); omega
            subst hj0
            have cN2 := hDH2.out.nd
            have cP2 := hDH2.out.dp
            have fN2 := hDH2.out.fr 800
            have fP2 := hDH2.out.fr 801
            have hDg : Hid (Digs D2 (min (nd + e) 800)) := .mk fun i hi => by rcases hval i (by omega) (by omega) with h | h; exact h; omega
            have h00H : Hid (D2 0 ≠ 48) := .mk (h00 rfl)
            have hfH : Hid (e = 0 → 2 ^ k * (D 0 - 48) ≤ D2 0 - 48) := .mk hfst
            have hOA : Hid (Onl B w wr) := .mk ((Onl.of B hv1H.out).trans (hOH.out.trans hOH2.out))
            clear hval h00 hfst hn1 hn2 hT0 hq hS1
            by_cases h800 : nd + e < 800
            · have hni : (800 ≤ (nd : Int) + (e : Int)) = False := by simp; omega
              have hmin : min (nd + e) 800 = nd + e := by omega
              rw [hmin] at hDg
              have hc8 : ((nd : Int) + (e : Int)) = ((nd + e : Nat) : Int) := by omega
              have hfin : Hid (DecS B D2 (nd + e) (dp + (e : Int)) neg tr2 ((wr.setCell ⟨B, 800, none⟩ (.int .i64 ((nd : Int) + (e : Int)))).setCell ⟨B, 801, none⟩ (.int .i64 (dp + (e : Int))))) := by rw [hc8]; exact .mk ((hDH2.out.setNd (nd + e)).setDp _)
              have hOF : Hid (Onl B w ((wr.setCell ⟨B, 800, none⟩ (.int .i64 ((nd : Int) + (e : Int)))).setCell ⟨B, 801, none⟩ (.int .i64 (dp + (e : Int))))) := .mk ((hOA.out.setCell rfl _).setCell rfl _)
              clear hc8
              go_wp2_with (fail)
              go_at_call 78
              refine (trim_any B D2 (nd + e) _ neg tr2 _ hfin.out (by omega)).mono ?_
              rintro x w9 ⟨rfl, nd9, dp9, hD9, hle9, hge9, hO9⟩
              obtain ⟨hg1', rfl⟩ := hge9 (by omega) h00H.out
              go_wp2_with (fail)
              go_end0
              exact ⟨rfl, D2, nd9, e, tr2, hD9, fun i hi => hDg.out i (by omega), h00H.out, hg1', by omega, he2.out, hfH.out, hOF.out.trans hO9⟩
            · have hni : (800 ≤ (nd : Int) + (e : Int)) = True := by simp; omega
              have hmin : min (nd + e) 800 = 800 := by omega
              rw [hmin] at hDg
              have hc8 : ((nd : Int) + (e : Int)) = ((nd + e : Nat) : Int) := by omega
              have hfin : Hid (DecS B D2 800 (dp + (e : Int)) neg tr2 (((wr.setCell ⟨B, 800, none⟩ (.int .i64 ((nd : Int) + (e : Int)))).setCell ⟨B, 800, none⟩ (.int .i64 800)).setCell ⟨B, 801, none⟩ (.int .i64 (dp + (e : Int))))) := by rw [hc8]; exact .mk (((hDH2.out.setNd (nd + e)).setNd 800).setDp _)
              have hOF : Hid (Onl B w (((wr.setCell ⟨B, 800, none⟩ (.int .i64 ((nd : Int) + (e : Int)))).setCell ⟨B, 800, none⟩ (.int .i64 800)).setCell ⟨B, 801, none⟩ (.int .i64 (dp + (e : Int))))) := .mk (((hOA.out.setCell rfl _).setCell rfl _).setCell rfl _)
              clear hc8
              go_wp2_with (fail)
              go_at_call 78
              refine (trim_any B D2 800 _ neg tr2 _ hfin.out (by omega)).mono ?_
              rintro x w9 ⟨rfl, nd9, dp9, hD9, hle9, hge9, hO9⟩
              obtain ⟨hg1', rfl⟩ := hge9 (by omega) h00H.out
              go_wp2_with (fail)
              go_end0
              exact ⟨rfl, D2, nd9, e, tr2, hD9, fun i hi => hDg.out i (by omega), h00H.out, hg1', by omega, he2.out, hfH.out, hOF.out.trans hO9⟩
          · obtain ⟨i, rfl⟩ : ∃ i, j = i + 1 := ⟨j - 1, by rcases Nat.eq_zero_or_pos j with h | h; subst h; simp at hn1; omega; omega⟩
            obtain ⟨q, r, ch, hR⟩ := rk hn64
            obtain ⟨s3, s4, s5, s6, s7, s8, _, _, _, _⟩ := id hR
            clear hR
            have hi8 : i < 800 := by omega
            have hil : (i : Int) < 800 := by omega
            have fe := hDH2.out.fr i
            have ce := hDH2.out.dig i hi8
            have hp1 := hn2 (by omega)
            have hpw : 10 ^ (i + 1) = 10 ^ i * 10 := Nat.pow_succ _ _
            go_wp2_with (fail)
            rw [show (n1 : Int) - 10 * ((n1 : Int) / 10) + 48 = ((n1 % 10 + 48 : Nat) : Int) by omega]
            refine ⟨⟨i, n1 / 10, by omega, rfl, congrArg _ (by omega), by omega, by omega, fun h => ?_, ⟨put D2 i (n1 % 10 + 48), tr2, hDH2.out.setD hi8 (by omega), fun u hu1 hu2 => ?_, fun hz => ?_, fun he0 => by omega⟩, hOH2.out.setCell rfl _⟩, by simp [intOf]; omega⟩
            · have hpp : 10 ^ i = 10 ^ (i - 1) * 10 := by rw [← Nat.pow_succ]; congr 1; omega
              rw [Nat.add_sub_cancel] at hp1
              omega
            · by_cases eu : u = i
              · subst eu; rw [put_same]; exact .inl ⟨by omega, by omega⟩
              · rw [put_other _ _ eu]; exact hval u (by omega) hu2
            · subst hz
              rw [put_same]
              simp at hn1
              omega
      · obtain ⟨p, rfl⟩ : ∃ p, m = p + 1 := ⟨m - 1, by omega⟩
        have hp8 : p < 800 := by omega
        have cp := hDH1.out.dig p hp8
        rw [hsame p (by omega)] at cp
        have hdp := hDH.out p (by omega)
        obtain ⟨d, hd⟩ : ∃ d, D p = d + 48 := ⟨D p - 48, by omega⟩
        rw [hd] at cp
        have hpl : (p : Int) < 800 := by omega
        have hs1 := shl_wrap (d := d) (k := k) (by omega) hk60
        have hcl : car D nd k (p + 1) < 2 ^ k := car_lt hDH.out
        have hst0 : (car D nd k (p + 1) + d * 2 ^ k) / 10 = car D nd k p := by have := car_step (D := D) (nd := nd) (k := k) (p := p) (by omega); rw [hd, Nat.add_sub_cancel] at this; exact this
        have hXl := rk_lt hcl (show d ≤ 9 by omega) hk60
        obtain ⟨X, hX⟩ : ∃ X, car D nd k (p + 1) + d * 2 ^ k = X := ⟨_, rfl⟩
        rw [hX] at hXl hst0
        have hst : Hid (X / 10 = car D nd k p) := hst0
        have s2 := add_wrap hX hXl
        obtain ⟨q, r, ch, hR⟩ := rk hXl
        obtain ⟨s3, s4, s5, s6, s7, s8, _, _, _, _⟩ := id hR
        have hXH : Hid (car D nd k (p + 1) + d * 2 ^ k = X) := hX
        clear hR hst0 hX
        have hpe : (p : Int) + 1 + (e : Int) - 1 = ((p + e : Nat) : Int) := by omega
        by_cases hw : p + e < 800
        · have hwi : ((p + e : Nat) : Int) < 800 := by omega
          have fe := hDH1.out.fr (p + e)
          have ce := hDH1.out.dig (p + e) hw
          go_wp2_with (fail)
          rw [show (X : Int) - 10 * ((X : Int) / 10) + 48 = ((X % 10 + 48 : Nat) : Int) by omega]
          refine ⟨⟨p, by omega, rfl, rfl, by rw [← hst.out]; exact congrArg _ (by omega), ⟨put D1 (p + e) (X % 10 + 48), tr1, hDH1.out.setD hw (by omega), fun j hj => ?_, fun j hj1 hj2 => ?_, fun hp0 he0 => ?_⟩, hOH.out.setCell rfl _⟩, by simp [intOf]⟩
          · rw [put_other _ _ (by omega)]; exact hsame j (by omega)
          · by_cases ej : j = p + e
            · subst ej; rw [put_same]; exact .inl ⟨by omega, by omega⟩
            · rw [put_other _ _ ej]; exact hval j (by omega) hj2
          · subst hp0 he0
            rw [put_same, hd]
            have hz := he1.out.1
            rw [← car_all, ← hst.out] at hz
            have hx := hXH.out
            rw [Nat.mul_comm]
            simp at hz ⊢
            generalize d * 2 ^ k = M at *
            omega
        · have hwi : ((p : Int) + (e : Int) < 800) = False := by simp; omega
          have fT := hDH1.out.fr 803
          have cT := hDH1.out.tr
          by_cases hr0 : X % 10 = 0
          · have hb : ((X : Int) - 10 * ((X : Int) / 10) != 0) = false := by simp; omega
            go_wp2_with (fail)
            refine ⟨⟨p, by omega, rfl, rfl, by rw [← hst.out]; exact congrArg _ (by omega), ⟨D1, tr1, hDH1.out, fun j hj => hsame j (by omega), fun j hj1 hj2 => ?_, fun hp0 he0 => by omega⟩, hOH.out⟩, by simp [intOf]⟩
            by_cases ej : j = p + e
            · exact .inr (by omega)
            · exact hval j (by omega) hj2
          · have hb : ((X : Int) - 10 * ((X : Int) / 10) != 0) = true := by simp; omega
            go_wp2_with (fail)
            refine ⟨⟨p, by omega, rfl, rfl, by rw [← hst.out]; exact congrArg _ (by omega), ⟨D1, true, hDH1.out.setTr true, fun j hj => hsame j (by omega), fun j hj1 hj2 => ?_, fun hp0 he0 => by omega⟩, hOH.out.setCell rfl _⟩, by simp [intOf]⟩
            by_cases ej : j = p + e
            · exact .inr (by omega)
            · exact hval j (by omega) hj2
  · refine Go.Ev.wp_region_plan (fun v => Below w.heap.size w v) [.pointer (some ⟨B, 0, none⟩), .pointer (some ⟨B, 0, none⟩), .pointer (some ⟨B, 0, none⟩), .pointer (some ⟨B, 0, none⟩), .pointer (some ⟨B, 0, none⟩), .pointer (some ⟨B, 800, none⟩), .int .i64 (nd : Nat), .slice (some ⟨B, 0, none⟩) nd 800, .slice (some ⟨cb, off, none⟩) 61 cap, .int .u64 (k : Nat), .pointer (some ⟨cb, off + k * 2, none⟩), .pointer (some ⟨cb, off + k * 2 + 1, none⟩), .string (bs (chC k)), .bool false] hm (by kernel_rfl) (by kernel_rfl) ((Below.refl _ _).drew) ?_
    iterate 13
      refine ⟨by rintro v K hv hK; have c1 := (hv.cell (p := ⟨B, 800, none⟩) (by exact hBl)).trans cN; have c2 := (hv.cell (p := ⟨11, 0, none⟩) (by exact hlt11)).trans g1; have c3 := (hv.cell (p := ⟨cb, off + k * 2 + 1, none⟩) (by exact hltc)).trans g6; go_simp; exact hK _ hv, ?_⟩
      simp only [Act.put, List.setIfInBounds_toArray, List.set_cons_succ, List.set_cons_zero, List.headD_cons, List.tail_cons]
    refine ⟨fun v K hv hK => ?_, ?_⟩
    · go_simp; refine (hless.out v hv).mono ?_; rintro e w' ⟨rfl, hB⟩; exact hK _ (hv.trans (hB.mono hv.size))
    simp only [Act.put, List.setIfInBounds_toArray, List.set_cons_succ, List.set_cons_zero, List.headD_cons, List.tail_cons]
    intro w1 hv1
    have cN1 := (hv1.cell (p := ⟨B, 800, none⟩) (by exact hBl)).trans cN
    go_wp2_with (fail)
    have hS1 : Hid (LshS B D nd dp neg k e nd w1) := .mk ⟨D, tr, hSH.out.keep hv1, fun _ _ => rfl, fun j h1 h2 => by omega, fun h => by omega⟩
    have hv1H : Hid (Below w.heap.size w w1) := hv1
    clear hv1 cN1
    go_loopw [5, 6, 7] (fun r x n wr => ∃ m : Nat, m ≤ nd ∧ r = .int .i64 ((m : Int) - 1) ∧ x = .int .i64 ((m : Int) + (e : Int)) ∧ n = .int .u64 (car D nd k m : Nat) ∧ LshS B D nd dp neg k e m wr ∧ Onl B w1 wr) (fun r _ _ _ => (intOf r + 1).toNat)
    case atStart => exact ⟨nd, Nat.le_refl _, rfl, rfl, by rw [car_end]; rfl, hS1.out, Onl.refl _ _⟩
    case round =>
      obtain ⟨m, hmn, rfl, rfl, rfl, hL, hO⟩ := hrel
      obtain ⟨D1, tr1, hD1, hsame, hval, hfst⟩ := hL.ex
      have hDH1 : Hid (DecS B D1 nd dp neg tr1 wr) := hD1
      have hOH : Hid (Onl B w1 wr) := hO
      clear hL hO hD1
      rcases Nat.eq_zero_or_pos m with rfl | hpos
      · have hq : Hid (car D nd k 0 < 10 ^ e ∧ (1 ≤ e → 10 ^ (e - 1) ≤ car D nd k 0)) := by rw [car_all]; exact .mk he1.out
        have hT0 : Hid (LshT B D nd dp neg k e e wr) := by
          refine .mk ⟨D1, tr1, hDH1.out, fun j h1 h2 => hval j (by omega) h2, fun h => ?_, fun h => hfst rfl h⟩
          have hf := hfst rfl h
          have h2 : 2 ^ 1 ≤ 2 ^ k := Nat.pow_le_pow_right (by omega) hk
          have h3 : 1 ≤ D 0 - 48 := by have := (hDH.out 0 (by omega)).1; omega
          have h4 := Nat.mul_le_mul h2 h3
          omega
        have hcl : car D nd k 0 < 2 ^ k := car_lt hDH.out
        have h260 : (2 : Nat) ^ k ≤ 2 ^ 60 := Nat.pow_le_pow_right (by omega) hk60
        have hq64 : car D nd k 0 < 18446744073709551616 := by omega
        clear hsame hval hfst hDH1 cN hcl h260
        generalize car D nd k 0 = q0 at *
        obtain ⟨wx, hwx⟩ : ∃ wx : World, wx = wr := ⟨wr, rfl⟩
        subst hwx
        go_wp2_with (fail)
        go_loopw [6, 7] (fun x n wr => ∃ j n1 : Nat, j ≤ e ∧ x = .int .i64 (j : Nat) ∧ n = .int .u64 (n1 : Nat) ∧ n1 < 18446744073709551616 ∧ n1 < 10 ^ j ∧ (1 ≤ j → 10 ^ (j - 1) ≤ n1) ∧ LshT B D nd dp neg k e j wr ∧ Onl B wx wr) (fun _ n _ => (intOf n).toNat)
        case atStart => exact ⟨e, q0, Nat.le_refl _, by simp, rfl, hq64, hq.out.1, hq.out.2, hT0.out, Onl.refl _ _⟩
        case round =>
          obtain ⟨j, n1, hje, rfl, rfl, hn64, hn1, hn2, hT, hO2⟩ := hrel
          obtain ⟨D2, tr2, hD2, hval, h00, hfst⟩ := hT.ex
          have hDH2 : Hid (DecS B D2 nd dp neg tr2 wr) := hD2
          have hOH2 : Hid (Onl B wx wr) := hO2
          clear hT hO2 hD2
          rcases Nat.eq_zero_or_pos n1 with rfl | hn0
          · have hj0 : j = 0 := by
              rcases Nat.eq_zero_or_pos j with h | h
              · exact h
              · have := hn2 h; have := Nat.pow_pos (n := j - 1) (show 0 < 10 by omega); omega
            subst hj0
            have cN2 := hDH2.out.nd
            have cP2 := hDH2.out.dp
            have fN2 := hDH2.out.fr 800
            have fP2 := hDH2.out.fr 801
            have hDg : Hid (Digs D2 (min (nd + e) 800)) := .mk fun i hi => by rcases hval i (by omega) (by omega) with h | h; exact h; omega
            have h00H : Hid (D2 0 ≠ 48) := .mk (h00 rfl)
            have hfH : Hid (e = 0 → 2 ^ k * (D 0 - 48) ≤ D2 0 - 48) := .mk hfst
            have hOA : Hid (Onl B w wr) := .mk ((Onl.of B hv1H.out).trans (hOH.out.trans hOH2.out))
            clear hval h00 hfst hn1 hn2 hT0 hq hS1
            by_cases h800 : nd + e < 800
            · have hni : (800 ≤ (nd : Int) + (e : Int)) = False := by simp; omega
              have hmin : min (nd + e) 800 = nd + e := by omega
              rw [hmin] at hDg
              have hc8 : ((nd : Int) + (e : Int)) = ((nd + e : Nat) : Int) := by omega
              have hfin : Hid (DecS B D2 (nd + e) (dp + (e : Int)) neg tr2 ((wr.setCell ⟨B, 800, none⟩ (.int .i64 ((nd : Int) + (e : Int)))).setCell ⟨B, 801, none⟩ (.int .i64 (dp + (e : Int))))) := by rw [hc8]; exact .mk ((hDH2.out.setNd (nd + e)).setDp _)
              have hOF : Hid (Onl B w ((wr.setCell ⟨B, 800, none⟩ (.int .i64 ((nd : Int) + (e : Int)))).setCell ⟨B, 801, none⟩ (.int .i64 (dp + (e : Int))))) := .mk ((hOA.out.setCell rfl _).setCell rfl _)
              clear hc8
              go_wp2_with (fail)
              go_at_call 78
              refine (trim_any B D2 (nd + e) _ neg tr2 _ hfin.out (by omega)).mono ?_
              rintro x w9 ⟨rfl, nd9, dp9, hD9, hle9, hge9, hO9⟩
              obtain ⟨hg1', rfl⟩ := hge9 (by omega) h00H.out
              go_wp2_with (fail)
              go_end0
              exact ⟨rfl, D2, nd9, e, tr2, hD9, fun i hi => hDg.out i (by omega), h00H.out, hg1', by omega, he2.out, hfH.out, hOF.out.trans hO9⟩
            · have hni : (800 ≤ (nd : Int) + (e : Int)) = True := by simp; omega
              have hmin : min (nd + e) 800 = 800 := by omega
              rw [hmin] at hDg
              have hc8 : ((nd : Int) + (e : Int)) = ((nd + e : Nat) : Int) := by omega
              have hfin : Hid (DecS B D2 800 (dp + (e : Int)) neg tr2 (((wr.setCell ⟨B, 800, none⟩ (.int .i64 ((nd : Int) + (e : Int)))).setCell ⟨B, 800, none⟩ (.int .i64 800)).setCell ⟨B, 801, none⟩ (.int .i64 (dp + (e : Int))))) := by rw [hc8]; exact .mk (((hDH2.out.setNd (nd + e)).setNd 800).setDp _)
              have hOF : Hid (Onl B w (((wr.setCell ⟨B, 800, none⟩ (.int .i64 ((nd : Int) + (e : Int)))).setCell ⟨B, 800, none⟩ (.int .i64 800)).setCell ⟨B, 801, none⟩ (.int .i64 (dp + (e : Int))))) := .mk (((hOA.out.setCell rfl _).setCell rfl _).setCell rfl _)
              clear hc8
              go_wp2_with (fail)
              go_at_call 78
              refine (trim_any B D2 800 _ neg tr2 _ hfin.out (by omega)).mono ?_
              rintro x w9 ⟨rfl, nd9, dp9, hD9, hle9, hge9, hO9⟩
              obtain ⟨hg1', rfl⟩ := hge9 (by omega) h00H.out
              go_wp2_with (fail)
              go_end0
              exact ⟨rfl, D2, nd9, e, tr2, hD9, fun i hi => hDg.out i (by omega), h00H.out, hg1', by omega, he2.out, hfH.out, hOF.out.trans hO9⟩
          · obtain ⟨i, rfl⟩ : ∃ i, j = i + 1 := ⟨j - 1, by rcases Nat.eq_zero_or_pos j with h | h; subst h; simp at hn1; omega; omega⟩
            obtain ⟨q, r, ch, hR⟩ := rk hn64
            obtain ⟨s3, s4, s5, s6, s7, s8, _, _, _, _⟩ := id hR
            clear hR
            have hi8 : i < 800 := by omega
            have hil : (i : Int) < 800 := by omega
            have fe := hDH2.out.fr i
            have ce := hDH2.out.dig i hi8
            have hp1 := hn2 (by omega)
            have hpw : 10 ^ (i + 1) = 10 ^ i * 10 := Nat.pow_succ _ _
            go_wp2_with (fail)
            rw [show (n1 : Int) - 10 * ((n1 : Int) / 10) + 48 = ((n1 % 10 + 48 : Nat) : Int) by omega]
            refine ⟨⟨i, n1 / 10, by omega, rfl, congrArg _ (by omega), by omega, by omega, fun h => ?_, ⟨put D2 i (n1 % 10 + 48), tr2, hDH2.out.setD hi8 (by omega), fun u hu1 hu2 => ?_, fun hz => ?_, fun he0 => by omega⟩, hOH2.out.setCell rfl _⟩, by simp [intOf]; omega⟩
            · have hpp : 10 ^ i = 10 ^ (i - 1) * 10 := by rw [← Nat.pow_succ]; congr 1; omega
              rw [Nat.add_sub_cancel] at hp1
              omega
            · by_cases eu : u = i
              · subst eu; rw [put_same]; exact .inl ⟨by omega, by omega⟩
              · rw [put_other _ _ eu]; exact hval u (by omega) hu2
            · subst hz
              rw [put_same]
              simp at hn1
              omega
      · obtain ⟨p, rfl⟩ : ∃ p, m = p + 1 := ⟨m - 1, by omega⟩
        have hp8 : p < 800 := by omega
        have cp := hDH1.out.dig p hp8
        rw [hsame p (by omega)] at cp
        have hdp := hDH.out p (by omega)
        obtain ⟨d, hd⟩ : ∃ d, D p = d + 48 := ⟨D p - 48, by omega⟩
        rw [hd] at cp
        have hpl : (p : Int) < 800 := by omega
        have hs1 := shl_wrap (d := d) (k := k) (by omega) hk60
        have hcl : car D nd k (p + 1) < 2 ^ k := car_lt hDH.out
        have hst0 : (car D nd k (p + 1) + d * 2 ^ k) / 10 = car D nd k p := by have := car_step (D := D) (nd := nd) (k := k) (p := p) (by omega); rw [hd, Nat.add_sub_cancel] at this; exact this
        have hXl := rk_lt hcl (show d ≤ 9 by omega) hk60
        obtain ⟨X, hX⟩ : ∃ X, car D nd k (p + 1) + d * 2 ^ k = X := ⟨_, rfl⟩
        rw [hX] at hXl hst0
        have hst : Hid (X / 10 = car D nd k p) := hst0
        have s2 := add_wrap hX hXl
        obtain ⟨q, r, ch, hR⟩ := rk hXl
        obtain ⟨s3, s4, s5, s6, s7, s8, _, _, _, _⟩ := id hR
        have hXH : Hid (car D nd k (p + 1) + d * 2 ^ k = X) := hX
        clear hR hst0 hX
        have hpe : (p : Int) + 1 + (e : Int) - 1 = ((p + e : Nat) : Int) := by omega
        by_cases hw : p + e < 800
        · have hwi : ((p + e : Nat) : Int) < 800 := by omega
          have fe := hDH1.out.fr (p + e)
          have ce := hDH1.out.dig (p + e) hw
          go_wp2_with (fail)
          rw [show (X : Int) - 10 * ((X : Int) / 10) + 48 = ((X % 10 + 48 : Nat) : Int) by omega]
          refine ⟨⟨p, by omega, rfl, rfl, by rw [← hst.out]; exact congrArg _ (by omega), ⟨put D1 (p + e) (X % 10 + 48), tr1, hDH1.out.setD hw (by omega), fun j hj => ?_, fun j hj1 hj2 => ?_, fun hp0 he0 => ?_⟩, hOH.out.setCell rfl _⟩, by simp [intOf]⟩
          · rw [put_other _ _ (by omega)]; exact hsame j (by omega)
          · by_cases ej : j = p + e
            · subst ej; rw [put_same]; exact .inl ⟨by omega, by omega⟩
            · rw [put_other _ _ ej]; exact hval j (by omega) hj2
          · subst hp0 he0
            rw [put_same, hd]
            have hz := he1.out.1
            rw [← car_all, ← hst.out] at hz
            have hx := hXH.out
            rw [Nat.mul_comm]
            simp at hz ⊢
            generalize d * 2 ^ k = M at *
            omega
        · have hwi : ((p : Int) + (e : Int) < 800) = False := by simp; omega
          have fT := hDH1.out.fr 803
          have cT := hDH1.out.tr
          by_cases hr0 : X % 10 = 0
          · have hb : ((X : Int) - 10 * ((X : Int) / 10) != 0) = false := by simp; omega
            go_wp2_with (fail)
            refine ⟨⟨p, by omega, rfl, rfl, by rw [← hst.out]; exact congrArg _ (by omega), ⟨D1, tr1, hDH1.out, fun j hj => hsame j (by omega), fun j hj1 hj2 => ?_, fun hp0 he0 => by omega⟩, hOH.out⟩, by simp [intOf]⟩
            by_cases ej : j = p + e
            · exact .inr (by omega)
            · exact hval j (by omega) hj2
          · have hb : ((X : Int) - 10 * ((X : Int) / 10) != 0) = true := by simp; omega
            go_wp2_with (fail)
            refine ⟨⟨p, by omega, rfl, rfl, by rw [← hst.out]; exact congrArg _ (by omega), ⟨D1, true, hDH1.out.setTr true, fun j hj => hsame j (by omega), fun j hj1 hj2 => ?_, fun hp0 he0 => by omega⟩, hOH.out.setCell rfl _⟩, by simp [intOf]⟩
            by_cases ej : j = p + e
            · exact .inr (by omega)
            · exact hval j (by omega) hj2
end Go.Proofs.YtpbombkmnfbcgaaGreatDoor
