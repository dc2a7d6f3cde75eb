/- readFloat of a text of digits, a point and an exponent: exact. -/
import Derived.Test.YthhmimlfiaboeaaGreatDoorPkn
import Derived.Test.YthhmimlfiaboeaaGreatDoorRdp
import Derived.Test.YthhmimlfiaboeaaGreatDoorJmp
namespace Go.Proofs.YthhmimlfiaboeaaGreatDoor
open Go.RowKit

theorem low_any (c : Int) (w : World) : Calls Tryz.prog 55 #[.int .u8 c] w fun e w' => e = .returned (.int .u8 (bits .or .u8 c 32)) ∧ w = w' := by
  go_enter Tryz.func55, Tryz.ntmps55
  go_wp2_with (fail)
  go_ret
  exact ⟨rfl, rfl⟩
theorem results_tmp7 {fn : Func} {a b c d e f g : Tmp} (h : fn.results = #[.tmp a, .tmp b, .tmp c, .tmp d, .tmp e, .tmp f, .tmp g]) (tmps : Array Value) (P : Program) (w : World) :
    (results fn tmps).run P w = .ok (.tuple #[tmps.getD a undef, tmps.getD b undef, tmps.getD c undef, tmps.getD d undef, tmps.getD e undef, tmps.getD f undef, tmps.getD g undef]) w := by
  simp [results, h]

/-- A text's bytes. -/
def TxtIs (s : ByteArray) (l : List Nat) : Prop := s.size = l.length ∧ ∀ i (h : i < s.size), l[i]? = some s[i].toNat
/-- A sign. -/
def sgl (neg : Bool) : List Nat := if neg then [45] else []
/-- An exponent's sign. -/
def sgc (ng : Bool) : Nat := if ng then 45 else 43
def sge (ng : Bool) : Int := if ng then -1 else 1
/-- An exponent: none, or a sign and digits. -/
def xpl : Option (Bool × List Nat) → List Nat
  | none => []
  | some (ng, ds) => 101 :: sgc ng :: ds
def xpv : Option (Bool × List Nat) → Int
  | none => 0
  | some (ng, ds) => (Us.dval ds : Int) * sge ng

set_option maxRecDepth 100000 in
set_option maxHeartbeats 20000000 in
theorem rdf_is (s : ByteArray) (neg : Bool) (B : List Nat) (X : Option (Bool × List Nat)) (w : World) (hs : TxtIs s (sgl neg ++ (B ++ xpl X))) (hB : Us.Body B) (hB0 : B ≠ []) (hdig : (Us.rrun B).dig = true)
    (hX : ∀ ng ds, X = some (ng, ds) → 1 ≤ ds.length ∧ ds.length ≤ 3 ∧ ∀ c, c ∈ ds → 48 ≤ c ∧ c ≤ 57) :
    Calls Tryz.prog 75 #[.string s] w fun e w' =>
      e = .returned (.tuple #[.int .u64 ((Us.rrun B).m : Nat), .int .i64 (Us.expOf (Us.rrun B) (xpv X)), .bool neg, .bool false, .bool false, .int .i64 (s.size : Nat), .bool true]) ∧ w = w' := by
  obtain ⟨hsz, hat⟩ := hs
  have hBl : 0 < B.length := by cases B with | nil => exact absurd rfl hB0 | cons _ _ => simp
  have hlen : s.size = (sgl neg).length + B.length + (xpl X).length := by rw [hsz]; simp; omega
  have h0 : ¬ s.size = 0 := by omega
  have hp0 : 0 < s.size := by omega
  have hp1 : 1 ≤ s.size := hp0
  have hpi : ((s.size : Int) ≤ 0) = False := eq_false (by omega)
  have hpn : (s.size ≤ 0) = False := eq_false (by omega)
  obtain ⟨i0, hi0⟩ : ∃ i0, (sgl neg).length = i0 := ⟨_, rfl⟩
  have hi1 : i0 ≤ 1 := by rw [← hi0]; cases neg <;> decide
  have hbody : ∀ j (h : j < B.length), ∃ h2 : i0 + j < s.size, s[i0 + j].toNat = B[j] := by
    intro j h
    have h2 : i0 + j < s.size := by omega
    refine ⟨h2, ?_⟩
    have := hat (i0 + j) h2
    rw [List.getElem?_append_right (by omega), hi0, Nat.add_sub_cancel_left, List.getElem?_append_left h, List.getElem?_eq_getElem h] at this
    exact (Option.some.inj this).symm
  have hexp : ∀ j c, (xpl X)[j]? = some c → ∃ h2 : i0 + B.length + j < s.size, s[i0 + B.length + j].toNat = c := by
    intro j c h
    have hj : j < (xpl X).length := by
      rcases Nat.lt_or_ge j (xpl X).length with h1 | h1
      · exact h1
      · rw [List.getElem?_eq_none h1] at h; cases h
    have h2 : i0 + B.length + j < s.size := by omega
    refine ⟨h2, ?_⟩
    have := hat (i0 + B.length + j) h2
    rw [List.getElem?_append_right (by omega), hi0, show i0 + B.length + j - i0 = B.length + j by omega, List.getElem?_append_right (by omega), Nat.add_sub_cancel_left, h] at this
    exact (Option.some.inj this).symm
  obtain ⟨cB, hcB⟩ : ∃ c, B[0]? = some c := ⟨_, List.getElem?_eq_getElem hBl⟩
  have hBc : ∀ c, c ∈ B → c = 46 ∨ 48 ≤ c ∧ c ≤ 57 := hB.ch
  have hs100 : s.size ≤ 100 := by
    have hXl : (xpl X).length ≤ 5 := by
      cases hXe : X with
      | none => simp [xpl]
      | some p => obtain ⟨ng, ds⟩ := p; have := (hX ng ds hXe).2.1; simp [xpl]; omega
    have := hB.len
    omega
  have hlenH := Hid.mk hlen
  have hszH := Hid.mk hsz
  have hatH := Hid.mk hat
  have hbodyH := Hid.mk hbody
  have hexpH := Hid.mk hexp
  have hXH := Hid.mk hX
  clear hlen hsz hat hbody hexp hX
  go_enter Tryz.func75, Tryz.ntmps75
  go_upto_block 0 with (refine wp_scope_inline 2 ?_)
  go_cut [4, 7] (fun x y wr => wr = w ∧ x = .bool neg ∧ y = .int .i64 (i0 : Nat))
  case first => as_aux_lemma =>
    cases neg
    · obtain rfl : i0 = 0 := hi0.symm
      obtain ⟨h2, h3⟩ := hbodyH.out 0 hBl
      have hc := hBc B[0] (List.getElem_mem _)
      have h4 : s[0].toNat = B[0] := by simpa using h3
      generalize B[0] = c at *
      have hc43 : ((c : Int) == 43) = false := beq_ne (by omega)
      have hc45 : ((c : Int) == 45) = false := beq_ne (by omega)
      go_wp2_with (fail)
      go_meet
      exact ⟨rfl, rfl, rfl⟩
    · obtain rfl : i0 = 1 := hi0.symm
      have h4 : s[0].toNat = 45 := by
        have := hatH.out 0 hp0
        simpa [sgl] using this.symm
      go_wp2_with (fail)
      go_meet
      exact ⟨rfl, rfl, rfl⟩
  case rest => as_aux_lemma =>
    obtain ⟨hwc, rfl, rfl⟩ := hcut
    subst hwc
    -- no 'x' behind the first digit
    have hnx : ∀ (h : i0 + 1 < s.size), (bits .or .u8 ((s[i0 + 1].toNat : Nat) : Int) 32 == 120) = false := by
      intro h
      have hlen := hlenH.out
      have hcc : ∃ c, s[i0 + 1].toNat = c ∧ (c = 46 ∨ c = 101 ∨ 48 ≤ c ∧ c ≤ 57) := by
        refine ⟨_, rfl, ?_⟩
        rcases Nat.lt_or_ge 1 B.length with h1 | h1
        · obtain ⟨_, h3⟩ := hbodyH.out 1 h1
          rw [h3]
          have := hBc B[1] (List.getElem_mem _)
          omega
        · cases hXe : X with
          | none => rw [hXe] at hlen; simp [xpl] at hlen; omega
          | some p =>
            obtain ⟨ng, ds⟩ := p
            obtain ⟨_, h3⟩ := hexpH.out 0 101 (by rw [hXe]; rfl)
            have : B.length = 1 := by omega
            simp only [this, Nat.add_zero] at h3
            omega
      obtain ⟨c, hc, hc2⟩ := hcc
      rw [hc]
      rcases hc2 with rfl | rfl | ⟨h1, h2⟩
      · rfl
      · rfl
      · have : ∀ c, c ≤ 57 → 48 ≤ c → (bits .or .u8 ((c : Nat) : Int) 32 == 120) = false := by decide
        exact this c h2 h1
    go_upto_region 12 with fail
    go_cut [54] (fun x wr => wr = wc ∧ x = .bool false)
    case first => as_aux_lemma =>
      obtain ⟨h2, h3⟩ := hbodyH.out 0 hBl
      have hc := hBc B[0] (List.getElem_mem _)
      have h4 : s[i0].toNat = B[0] := by simpa using h3
      clear h3
      generalize B[0] = c at *
      clear hcB
      have h2' : i0 < s.size := h2
      by_cases hlx : i0 + 2 < s.size
      · have hnx2 := hnx (by omega)
        have h2i : (i0 : Int) + 2 < (s.size : Int) := by omega
        clear hnx
        by_cases hc48 : c = 48
        · subst hc48
          go_wp2_with (first | (go_at_call 55; refine (low_any _ _).mono ?_; rintro e w' ⟨rfl, rfl⟩))
          go_meet
          exact ⟨rfl, rfl⟩
        · have hcb : ((c : Int) == 48) = false := beq_ne (by omega)
          go_wp2_with (first | (go_at_call 55; refine (low_any _ _).mono ?_; rintro e w' ⟨rfl, rfl⟩))
          go_meet
          exact ⟨rfl, rfl⟩
      · have h2i : ((i0 : Int) + 2 < (s.size : Int)) = False := eq_false (by omega)
        go_wp2_with (first | (go_at_call 55; refine (low_any _ _).mono ?_; rintro e w' ⟨rfl, rfl⟩))
        go_meet
        exact ⟨rfl, rfl⟩
    case rest => as_aux_lemma =>
      obtain ⟨hwc, rfl⟩ := hcut
      subst hwc
      clear hnx
      go_upto_if 54 with fail
      go_cut [6, 7, 10, 11, 12] (fun x6 x7 x10 x11 x12 wr => wr = wc ∧ x6 = .bool false ∧ x7 = .int .i64 (i0 : Nat) ∧ x10 = .int .u64 10 ∧ x11 = .int .i64 19 ∧ x12 = .int .u8 101)
      case first => as_aux_lemma =>
        go_wp2_with (fail)
        go_meet
        exact ⟨rfl, rfl, rfl, rfl, rfl, rfl⟩
      case rest => as_aux_lemma =>
        obtain ⟨hwc, rfl, rfl, rfl, rfl, rfl⟩ := hcut
        subst hwc
        obtain ⟨r, hr⟩ : ∃ r, Us.rrun B = r := ⟨_, rfl⟩
        go_upto_block 1 with (refine wp_label ?_)
        go_cut [2, 5, 7, 9, 13, 14, 15, 16, 17, 18] (fun x2 x5 x7 x9 x13 x14 x15 x16 x17 _ wr => wr = wc ∧ x2 = .int .u64 (r.m : Nat) ∧ x5 = .bool false ∧ x7 = .int .i64 ((i0 + B.length : Nat) : Int) ∧ x9 = .bool false ∧ x13 = .bool r.dot ∧ x14 = .bool r.dig ∧
          x15 = .int .i64 (r.nd : Nat) ∧ x16 = .int .i64 (r.nd : Nat) ∧ x17 = .int .i64 r.dp)
        case first => as_aux_lemma =>
          go_wp2_with (fail)
          go_loopw [2, 5, 7, 9, 13, 14, 15, 16, 17] (fun x2 x5 x7 x9 x13 x14 x15 x16 x17 wr => wr = wc ∧ ∃ (j : Nat) (q : Us.RS), j ≤ B.length ∧ Us.rrun (B.take j) = q ∧ x2 = .int .u64 (q.m : Nat) ∧ x5 = .bool false ∧ x7 = .int .i64 ((i0 + j : Nat) : Int) ∧ x9 = .bool false ∧ x13 = .bool q.dot ∧ x14 = .bool q.dig ∧
              x15 = .int .i64 (q.nd : Nat) ∧ x16 = .int .i64 (q.nd : Nat) ∧ x17 = .int .i64 q.dp) (fun _ _ x7 _ _ _ _ _ _ _ => s.size - (intOf x7).toNat)
          case atStart => exact ⟨rfl, 0, Us.r0, by omega, rfl, rfl, rfl, rfl, rfl, rfl, rfl, rfl, rfl, rfl⟩
          case round => as_aux_lemma =>
            obtain ⟨hwc, j, q, hj, hq, rfl, rfl, rfl, rfl, rfl, rfl, rfl, rfl, rfl⟩ := hrel
            subst hwc
            obtain ⟨i, hi⟩ : ∃ i, i0 + j = i := ⟨_, rfl⟩
            rw [hi]
            have hjH := Hid.mk hj
            have hqH := Hid.mk hq
            have hiH := Hid.mk hi
            rcases Nat.lt_or_ge j B.length with hjl | hjl
            · obtain ⟨h2, h3⟩ := hbodyH.out j hjl
              have hc := hBc B[j] (List.getElem_mem _)
              have hget := List.getElem?_eq_getElem hjl
              have hnext := Us.rrun_take B j B[j] hget
              rw [hq] at hnext
              have hdotj := hB.dot j
              have hndj := hB.nd j
              rw [hq] at hndj hdotj
              rw [hget] at hdotj
              have hmj : q.m < 10 ^ q.nd := by
                rw [← hq]; exact Us.rrun_m _ fun c hc => by have := hBc c (List.mem_of_mem_take hc); omega
              have hm18 : q.m < 1000000000000000000 := Nat.lt_of_lt_of_le hmj (Nat.pow_le_pow_right (n := 10) (by decide) hndj)
              have hdpb : -100 ≤ q.dp ∧ q.dp ≤ 100 := by
                have h1 := Us.rrun_dp (B.take j)
                rw [hq, List.length_take] at h1
                have := hB.len
                omega
              have h2 : i < s.size := by omega
              have h3 : s[i].toNat = B[j] := by subst hi; exact h3
              have h2i : (i : Int) < (s.size : Int) := by omega
              generalize B[j] = c at *
              have hjlH := Hid.mk hjl
              clear hj hi hq hjl hget hcB hmj
              have hnxH := Hid.mk hnext
              have hc95 : ((c : Int) == 95) = false := beq_ne (by omega)
              clear hnext
              obtain ⟨qm, qnd, qdp, qdot, qdig⟩ := q
              simp only at *
              by_cases h46 : c = 46
              · subst h46
                obtain rfl : qdot = false := hdotj rfl
                go_wp2_with (first | (go_at_call 55; refine (low_any _ _).mono ?_; rintro e w' ⟨rfl, rfl⟩))
                exact ⟨⟨trivial, j + 1, _, by have := hjlH.out; omega, hnxH.out, rfl, rfl, congrArg _ (by have := hiH.out; omega), rfl, rfl, rfl, rfl, rfl, rfl⟩, by simp [intOf]; omega⟩
              · have h46b : ((c : Int) == 46) = false := beq_ne (by omega)
                have hc48 : 48 ≤ c := by omega
                have hc57 : c ≤ 57 := by omega
                have hg48 : 48 ≤ (c : Int) := by omega
                have hg57 : (c : Int) ≤ 57 := by omega
                by_cases hz : c = 48 ∧ qnd = 0
                · obtain ⟨rfl, rfl⟩ := hz
                  have hb1 := hdpb.1
                  have hb2 := hdpb.2
                  go_wp2_with (first | (go_at_call 55; refine (low_any _ _).mono ?_; rintro e w' ⟨rfl, rfl⟩))
                  exact ⟨⟨trivial, j + 1, _, by have := hjlH.out; omega, hnxH.out, rfl, rfl, congrArg _ (by have := hiH.out; omega), rfl, rfl, rfl, rfl, rfl, rfl⟩, by simp [intOf]; omega⟩
                · have hnx := hnxH.out
                  unfold Us.rstep at hnx
                  rw [if_neg h46, if_neg hz] at hnx
                  simp only at hnx
                  have hnxH := Hid.mk hnx
                  clear hnx
                  have hnd19 : (qnd : Int) < 19 := by omega
                  have hw1 : IntKind.u8.wrap ((c : Int) - 48) = ((c - 48 : Nat) : Int) := by rw [IntKind.wrap_u8]; omega
                  have hw2 : IntKind.u64.wrap ((qm : Int) * 10) = ((qm * 10 : Nat) : Int) := by rw [wu64 (by omega) (by omega)]; omega
                  obtain ⟨c0, hc0⟩ : ∃ c0, c - 48 = c0 := ⟨_, rfl⟩
                  rw [hc0] at hw1
                  by_cases hc48b : c = 48
                  · have hq0 : ((qnd : Int) == 0) = false := beq_ne (by omega)
                    subst hc48b
                    obtain rfl : c0 = 0 := by omega
                    go_wp2_with (first | (go_at_call 55; refine (low_any _ _).mono ?_; rintro e w' ⟨rfl, rfl⟩))
                    exact ⟨⟨trivial, j + 1, _, by have := hjlH.out; omega, hnxH.out, congrArg (Value.int .u64) (by simp only; omega), rfl, congrArg (Value.int .i64) (by have := hiH.out; omega), rfl, rfl, rfl, congrArg (Value.int .i64) (by simp only; omega), congrArg (Value.int .i64) (by simp only; omega), rfl⟩, by simp [intOf]; omega⟩
                  · have hcb : ((c : Int) == 48) = false := beq_ne (by omega)
                    go_wp2_with (first | (go_at_call 55; refine (low_any _ _).mono ?_; rintro e w' ⟨rfl, rfl⟩))
                    exact ⟨⟨trivial, j + 1, _, by have := hjlH.out; omega, hnxH.out, congrArg (Value.int .u64) (by simp only; omega), rfl, congrArg (Value.int .i64) (by have := hiH.out; omega), rfl, rfl, rfl, congrArg (Value.int .i64) (by simp only; omega), congrArg (Value.int .i64) (by simp only; omega), rfl⟩, by simp [intOf]; omega⟩
            · -- behind the body
              have hjB : j = B.length := by omega
              have hqr : q = r := by rw [← hq, hjB, List.take_length, hr]
              subst hqr
              have hend : (X = none ∧ i = s.size) ∨ (i < s.size ∧ ∃ h : i < s.size, s[i].toNat = 101) := by
                cases hXe : X with
                | none =>
                  left
                  have := hlenH.out
                  rw [hXe] at this
                  simp [xpl] at this
                  exact ⟨rfl, by omega⟩
                | some p =>
                  right
                  obtain ⟨ng, ds⟩ := p
                  obtain ⟨h2, h3⟩ := hexpH.out 0 101 (by rw [hXe]; rfl)
                  have e : i0 + B.length + 0 = i := by omega
                  subst e
                  exact ⟨h2, h2, h3⟩
              have hiB : (i : Int) = ((i0 + B.length : Nat) : Int) := by omega
              have hiBH := Hid.mk hiB
              clear hj hi hq hjl hcB hiB hjB
              rcases hend with ⟨_, rfl⟩ | ⟨h2, h2', h3⟩
              · go_wp2_with (fail)
                go_meet
                exact ⟨rfl, rfl, rfl, congrArg (Value.int .i64) hiBH.out, rfl, rfl, rfl, rfl, rfl, rfl⟩
              · have h2i : (i : Int) < (s.size : Int) := by omega
                go_wp2_with (first | (go_at_call 55; refine (low_any _ _).mono ?_; rintro e w' ⟨rfl, rfl⟩))
                go_meet
                exact ⟨rfl, rfl, rfl, congrArg (Value.int .i64) hiBH.out, rfl, rfl, rfl, rfl, rfl, rfl⟩
        case rest => as_aux_lemma =>
          obtain ⟨hwc, rfl, rfl, rfl, rfl, rfl, rfl, rfl, rfl, rfl⟩ := hcut
          subst hwc
          obtain ⟨i, hi⟩ : ∃ i, i0 + B.length = i := ⟨_, rfl⟩
          rw [hi]
          have hrd : r.dig = true := by rw [← hr]; exact hdig
          have hdp := Us.rrun_dp B
          have hBlen := hB.len
          rw [hr] at hdp
          have hiH := Hid.mk hi
          have hrH := Hid.mk hr
          obtain ⟨rm, rnd, rdp, rdot, rdig⟩ := r
          simp only at hrd hdp
          subst hrd
          have hb1 : -100 ≤ rdp := by omega
          have hb2 : rdp ≤ 100 := by omega
          have hb3 : rnd ≤ 100 := by omega
          have his : i ≤ s.size := by have := hlenH.out; omega
          clear hdp hBlen hi hr hdig hcB
          simp only
          go_upto_if 142 with fail
          go_cut [17] (fun x wr => wr = wc ∧ x = .int .i64 (if rdot then rdp else (rnd : Int)))
          case first => as_aux_lemma =>
            cases rdot
            all_goals
              go_wp2_with (fail)
              go_meet
              exact ⟨rfl, rfl⟩
          case rest => as_aux_lemma =>
            obtain ⟨hwc, rfl⟩ := hcut
            subst hwc
            obtain ⟨dp1, hdp1⟩ : ∃ dp1 : Int, (if rdot then rdp else (rnd : Int)) = dp1 := ⟨_, rfl⟩
            have hd1 : -100 ≤ dp1 ∧ dp1 ≤ 100 := by rw [← hdp1]; split <;> omega
            have hd11 := hd1.1
            have hd12 := hd1.2
            rw [hdp1]
            have hdp1H := Hid.mk hdp1
            clear hdp1 hd1
            go_upto_if 145 with fail
            go_cut [16, 17] (fun x y wr => wr = wc ∧ x = .int .i64 (rnd : Nat) ∧ y = .int .i64 dp1)
            case first => as_aux_lemma =>
              go_wp2_with (fail)
              go_meet
              exact ⟨rfl, rfl, rfl⟩
            case rest => as_aux_lemma =>
              obtain ⟨hwc, rfl, rfl⟩ := hcut
              subst hwc
              go_upto_region 57 with fail
              go_cut [161] (fun x wr => wr = wc ∧ x = .bool X.isSome)
              case first => as_aux_lemma =>
                cases hXe : X with
                | none =>
                  have : i = s.size := by
                    have h1 := hlenH.out
                    have h2 := hiH.out
                    rw [hXe] at h1
                    simp [xpl] at h1
                    omega
                  subst this
                  go_wp2_with (fail)
                  go_meet
                  exact ⟨rfl, by rw [hXe]; rfl⟩
                | some p =>
                  obtain ⟨ng, ds⟩ := p
                  obtain ⟨h2, h3⟩ := hexpH.out 0 101 (by rw [hXe]; rfl)
                  have e : i0 + B.length + 0 = i := hiH.out
                  subst e
                  have h2i : ((i0 + B.length + 0 : Nat) : Int) < (s.size : Int) := by omega
                  generalize i0 + B.length + 0 = i at *
                  go_wp2_with (first | (go_at_call 55; refine (low_any _ _).mono ?_; rintro e w' ⟨rfl, rfl⟩))
                  go_meet
                  exact ⟨rfl, by rw [hXe]; rfl⟩
              case rest => as_aux_lemma =>
                obtain ⟨hwc, rfl⟩ := hcut
                subst hwc
                go_upto_if 161 with fail
                go_cut [7, 9, 17] (fun x y v wr => wr = wc ∧ x = .int .i64 (s.size : Nat) ∧ y = .bool false ∧ v = .int .i64 (dp1 + xpv X))
                case first => as_aux_lemma =>
                  cases hXe : X with
                  | none =>
                    have : i = s.size := by
                      have h1 := hlenH.out
                      have h2 := hiH.out
                      rw [hXe] at h1
                      simp [xpl] at h1
                      omega
                    subst this
                    go_wp2_with (fail)
                    go_meet
                    exact ⟨rfl, rfl, rfl, congrArg (Value.int .i64) (by rw [hXe]; simp [xpv])⟩
                  | some p =>
                    obtain ⟨ng, ds⟩ := p
                    obtain ⟨hd1, hd2, hd3⟩ := hXH.out ng ds hXe
                    have hsl : s.size = i + (2 + ds.length) := by
                      have h1 := hlenH.out
                      have h2 := hiH.out
                      rw [hXe] at h1
                      simp [xpl] at h1
                      omega
                    obtain ⟨_, h3⟩ := hexpH.out 1 (sgc ng) (by rw [hXe]; rfl)
                    have hdsat : ∀ k (hk : k < ds.length), ∃ h2 : i + 2 + k < s.size, s[i + 2 + k].toNat = ds[k] := by
                      intro k hk
                      obtain ⟨h2, h4⟩ := hexpH.out (k + 2) ds[k] (by rw [hXe]; simp [xpl])
                      have e : i0 + B.length + (k + 2) = i + 2 + k := by have := hiH.out; omega
                      have e2 : i + 2 + k < s.size := by omega
                      refine ⟨e2, ?_⟩
                      rw [← h4]
                      congr 2
                      exact e.symm
                    have h1s : i + 1 < s.size := by omega
                    have h4 : s[i + 1].toNat = sgc ng := by
                      rw [← h3]
                      congr 2
                      have := hiH.out
                      omega
                    have hli : (i : Int) + 1 < (s.size : Int) := by omega
                    have hdsH := Hid.mk hdsat
                    have hslH := Hid.mk hsl
                    have hd3H := Hid.mk hd3
                    clear hdsat hsl h3 hd3
                    go_upto_block 4 with fail
                    go_cut [7, 19] (fun x y wr => wr = wc ∧ x = .int .i64 ((i + 2 : Nat) : Int) ∧ y = .int .i64 (sge ng))
                    case first => as_aux_lemma =>
                      cases ng
                      · have h4 : s[i + 1].toNat = 43 := h4
                        go_wp2_with (fail)
                        go_meet
                        exact ⟨rfl, rfl, rfl⟩
                      · have h4 : s[i + 1].toNat = 45 := h4
                        go_wp2_with (fail)
                        go_meet
                        exact ⟨rfl, rfl, rfl⟩
                    case rest => as_aux_lemma =>
                      obtain ⟨hwc, rfl, rfl⟩ := hcut
                      subst hwc
                      obtain ⟨k2, hk2⟩ : ∃ k2, i + 2 = k2 := ⟨_, rfl⟩
                      obtain ⟨sg, hsg⟩ : ∃ sg : Int, sge ng = sg := ⟨_, rfl⟩
                      rw [hk2, hsg]
                      have hsgH := Hid.mk hsg
                      clear hsg h4 h1s hli
                      obtain ⟨g2, g3⟩ := hdsH.out 0 (by omega)
                      have g4 : k2 < s.size := by have := hslH.out; omega
                      have g5 : s[k2].toNat = ds[0] := by rw [← g3]; congr 2; omega
                      have g6 := hd3H.out ds[0] (List.getElem_mem _)
                      have g7 : (k2 : Int) < (s.size : Int) := by omega
                      have g8 : ((s.size : Int) ≤ (k2 : Int)) = False := eq_false (by omega)
                      have g8n : (s.size ≤ k2) = False := eq_false (by omega)
                      clear g3
                      generalize ds[0] = d0 at *
                      have g9n : (d0 < 48) = False := eq_false (by omega)
                      have g10n : (57 < d0) = False := eq_false (by omega)
                      have g9m : 48 ≤ d0 := g6.1
                      have g10m : d0 ≤ 57 := g6.2
                      have g9 : ((d0 : Int) < 48) = False := eq_false (by omega)
                      have g10 : ((57 : Int) < (d0 : Int)) = False := eq_false (by omega)
                      go_upto_region 67 with fail
                      go_cut [194] (fun x wr => wr = wc ∧ x = .bool false)
                      case first => as_aux_lemma =>
                        go_wp2_with (fail)
                        go_meet
                        exact ⟨rfl, rfl⟩
                      case rest => as_aux_lemma =>
                        obtain ⟨hwc, rfl⟩ := hcut
                        subst hwc
                        clear g2 g5 g6 g9 g10 g9n g10n g9m g10m
                        go_upto_block 5 with fail
                        go_cut [7, 9, 20] (fun x y v wr => wr = wc ∧ x = .int .i64 (s.size : Nat) ∧ y = .bool false ∧ v = .int .i64 (Us.dval ds : Nat))
                        case first => as_aux_lemma =>
                          go_wp2_with (fail)
                          go_loopw [7, 9, 20] (fun x y v wr => wr = wc ∧ ∃ k : Nat, k ≤ ds.length ∧ x = .int .i64 ((k2 + k : Nat) : Int) ∧ y = .bool false ∧ v = .int .i64 (Us.dval (ds.take k) : Nat)) (fun x _ _ _ => s.size - (intOf x).toNat)
                          case atStart => exact ⟨rfl, 0, by omega, rfl, rfl, rfl⟩
                          case round => as_aux_lemma =>
                            obtain ⟨hwc, k, hk, rfl, rfl, rfl⟩ := hrel
                            subst hwc
                            obtain ⟨j, hj⟩ : ∃ j, k2 + k = j := ⟨_, rfl⟩
                            rw [hj]
                            have hkH := Hid.mk hk
                            have hjH := Hid.mk hj
                            have hk2H := Hid.mk hk2
                            have hvb : ∀ m, m ≤ 3 → Us.dval (ds.take m) < 10 ^ m := by
                              intro m
                              induction m with
                              | zero => intro _; simp [Us.dval]
                              | succ m ih =>
                                intro hm
                                have ih := ih (by omega)
                                rcases Nat.lt_or_ge m ds.length with h | h
                                · have hc := hd3H.out ds[m] (List.getElem_mem _)
                                  rw [Us.dval_take ds m ds[m] (List.getElem?_eq_getElem h), Nat.pow_succ]
                                  omega
                                · rw [List.take_of_length_le (by omega)]
                                  rw [List.take_of_length_le h] at ih
                                  rw [Nat.pow_succ]; omega
                            have hv3 : Us.dval (ds.take k) < 1000 := Nat.lt_of_lt_of_le (hvb k (by omega)) (Nat.pow_le_pow_right (n := 10) (by decide) (show k ≤ 3 by omega))
                            rcases Nat.lt_or_ge k ds.length with hlt | hge
                            · obtain ⟨g2, g3⟩ := hdsH.out k hlt
                              have hc := hd3H.out ds[k] (List.getElem_mem _)
                              have hnx := Us.dval_take ds k ds[k] (List.getElem?_eq_getElem hlt)
                              have g4 : j < s.size := by omega
                              have g5 : s[j].toNat = ds[k] := by rw [← g3]; congr 2; omega
                              have g7 : (j : Int) < (s.size : Int) := by omega
                              clear g3
                              generalize ds[k] = c at *
                              have hnxH := Hid.mk hnx
                              have hltH := Hid.mk hlt
                              obtain ⟨v, hv⟩ : ∃ v, Us.dval (ds.take k) = v := ⟨_, rfl⟩
                              rw [hv] at hv3 ⊢
                              have hvH := Hid.mk hv
                              have h48 : 48 ≤ (c : Int) := by omega
                              have h57 : (c : Int) ≤ 57 := by omega
                              have hvi : (v : Int) < 1000 := by omega
                              clear hnx hvb hk hj hv hlt g2 hk2 hc
                              go_wp2_with (fail)
                              exact ⟨⟨trivial, k + 1, by have := hltH.out; omega, congrArg (Value.int .i64) (by have := hjH.out; omega), rfl, congrArg (Value.int .i64) (by have h1 := hnxH.out; have h2 := hvH.out; rw [h1, h2]; omega)⟩, by simp [intOf]; omega⟩
                            · have hjs : j = s.size := by have := hslH.out; omega
                              have hke : ds.take k = ds := List.take_of_length_le hge
                              rw [hke]
                              clear hvb hk hj hk2 hkH hjH hge hv3
                              subst hjs
                              go_wp2_with (fail)
                              go_meet
                              exact ⟨rfl, rfl, rfl, rfl⟩
                        case rest => as_aux_lemma =>
                          obtain ⟨hwc, rfl, rfl, rfl⟩ := hcut
                          subst hwc
                          have hv3 : Us.dval ds < 1000 := by
                            have hvb : ∀ m, m ≤ 3 → Us.dval (ds.take m) < 10 ^ m := by
                              intro m
                              induction m with
                              | zero => intro _; simp [Us.dval]
                              | succ m ih =>
                                intro hm
                                have ih := ih (by omega)
                                rcases Nat.lt_or_ge m ds.length with h | h
                                · have hc := hd3H.out ds[m] (List.getElem_mem _)
                                  rw [Us.dval_take ds m ds[m] (List.getElem?_eq_getElem h), Nat.pow_succ]
                                  omega
                                · rw [List.take_of_length_le (by omega)]
                                  rw [List.take_of_length_le h] at ih
                                  rw [Nat.pow_succ]; omega
                            have := hvb ds.length hd2
                            rw [List.take_length] at this
                            exact Nat.lt_of_lt_of_le this (Nat.pow_le_pow_right (n := 10) (by decide) (show ds.length ≤ 3 by omega))
                          obtain ⟨v, hv⟩ : ∃ v, Us.dval ds = v := ⟨_, rfl⟩
                          rw [hv] at hv3 ⊢
                          have hvi : (v : Int) < 1000 := by omega
                          have hvH := Hid.mk hv
                          clear hv
                          have hfin : dp1 + (v : Int) * sg = dp1 + xpv X := by
                            have h1 := hvH.out
                            have h2 := hsgH.out
                            rw [hXe, ← h2, ← h1]; rfl
                          have hsg0 : sg = -1 ∨ sg = 1 := by rw [← hsgH.out]; cases ng <;> simp [sge]
                          have hsg1 : -1 ≤ sg ∧ sg ≤ 1 := by omega
                          have hp1 : -1000 ≤ (v : Int) * sg ∧ (v : Int) * sg ≤ 1000 := by
                            rcases hsg0 with h | h <;> rw [h] <;> omega
                          obtain ⟨pp, hpp⟩ : ∃ pp : Int, (v : Int) * sg = pp := ⟨_, rfl⟩
                          rw [hpp] at hp1 hfin
                          have hp11 := hp1.1
                          have hp12 := hp1.2
                          have hw9 : IntKind.i64.wrap ((v : Int) * sg) = pp := by rw [hpp]; exact wi64 (by omega) (by omega)
                          have hfinH := Hid.mk hfin
                          clear hp1 hsg1 hsg0 hfin
                          go_wp2_with (fail)
                          go_meet
                          exact ⟨rfl, rfl, rfl, congrArg (Value.int .i64) (by have h1 := hfinH.out; first | exact h1 | omega | (rw [← h1, ← hpp]))⟩
                case rest => as_aux_lemma =>
                  obtain ⟨hwc, rfl, rfl, rfl⟩ := hcut
                  subst hwc
                  have hxb : -1000 ≤ xpv X ∧ xpv X ≤ 1000 := by
                    cases hXe : X with
                    | none => simp [xpv]
                    | some p =>
                      obtain ⟨ng, ds⟩ := p
                      obtain ⟨hd1, hd2, hd3⟩ := hXH.out ng ds hXe
                      have hvb : ∀ m, m ≤ 3 → Us.dval (ds.take m) < 10 ^ m := by
                        intro m
                        induction m with
                        | zero => intro _; simp [Us.dval]
                        | succ m ih =>
                          intro hm
                          have ih := ih (by omega)
                          rcases Nat.lt_or_ge m ds.length with h | h
                          · have hc := hd3 ds[m] (List.getElem_mem _)
                            rw [Us.dval_take ds m ds[m] (List.getElem?_eq_getElem h), Nat.pow_succ]
                            omega
                          · rw [List.take_of_length_le (by omega)]
                            rw [List.take_of_length_le h] at ih
                            rw [Nat.pow_succ]; omega
                      have h3 := hvb ds.length hd2
                      rw [List.take_length] at h3
                      have h4 : Us.dval ds < 1000 := Nat.lt_of_lt_of_le h3 (Nat.pow_le_pow_right (n := 10) (by decide) (show ds.length ≤ 3 by omega))
                      cases ng <;> simp [xpv, sge] <;> omega
                  obtain ⟨xv, hxv⟩ : ∃ xv, xpv X = xv := ⟨_, rfl⟩
                  rw [hxv] at hxb ⊢
                  have hx1 := hxb.1
                  have hx2 := hxb.2
                  have hxvH := Hid.mk hxv
                  clear hxb hxv
                  go_upto_if 241 with fail
                  go_cut [3] (fun x wr => wr = wc ∧ x = .int .i64 (if rm = 0 then 0 else dp1 + xv - (rnd : Int)))
                  case first => as_aux_lemma =>
                    by_cases hm0 : rm = 0
                    · subst hm0
                      go_wp2_with (fail)
                      go_meet
                      exact ⟨rfl, rfl⟩
                    · have hm0b : ((rm : Int) != 0) = true := by simp; omega
                      go_wp2_with (fail)
                      go_meet
                      exact ⟨rfl, congrArg (Value.int .i64) (by rw [if_neg hm0])⟩
                  case rest => as_aux_lemma =>
                    obtain ⟨hwc, rfl⟩ := hcut
                    subst hwc
                    obtain ⟨fx, hfx⟩ : ∃ fx : Int, (if rm = 0 then 0 else dp1 + xv - (rnd : Int)) = fx := ⟨_, rfl⟩
                    rw [hfx]
                    have hfxH := Hid.mk hfx
                    clear hfx
                    go_wp2_with (fail)
                    refine jumps_ret ?_
                    refine bodyPost_ret (results_tmp7 rfl _ _ _) rfl ?_
                    refine ⟨?_, rfl⟩
                    rw [hrH.out]
                    have e : Us.expOf ⟨rm, rnd, rdp, rdot, true⟩ (xpv X) = (if rm = 0 then 0 else dp1 + xv - (rnd : Int)) := by
                      unfold Us.expOf
                      rw [hxvH.out, ← hdp1H.out]
                    rw [e, hfxH.out]
                    rfl
end Go.Proofs.YthhmimlfiaboeaaGreatDoor
