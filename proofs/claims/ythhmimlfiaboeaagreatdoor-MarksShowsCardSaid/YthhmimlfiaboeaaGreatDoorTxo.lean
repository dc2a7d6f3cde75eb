/- The text of a number's digits, as bytes: what is read of it is the number. FormatFloat's text of a float is read back as that float. -/
import Derived.Test.YthhmimlfiaboeaaGreatDoorRdp
import Derived.Test.YthhmimlfiaboeaaGreatDoorSht
import Derived.Test.YthhmimlfiaboeaaGreatDoorFto
import Derived.Test.YthhmimlfiaboeaaGreatDoorRde
import Derived.Test.YthhmimlfiaboeaaGreatDoorSpc
namespace Go.Proofs.YthhmimlfiaboeaaGreatDoor
open Go.Lib

theorem strip_tz (d N : Nat) : ∀ k, k ≤ N → d % 10 ^ (N - k) = 0 → d % 10 ^ (N - strip d N k) = 0
  | 0, _, h => h
  | k + 1, hk, h => by
    unfold strip
    split
    · rename_i h48
      refine strip_tz d N k (by omega) ?_
      have hd : d / 10 ^ (N - (k + 1)) % 10 = 0 := by
        have h1 := dg_int d (N - (k + 1))
        rw [h48] at h1
        have h2 : (((48 : UInt8).toNat : Nat) : Int) = 48 := by decide
        rw [h2] at h1; omega
      have e : N - k = N - (k + 1) + 1 := by omega
      rw [e, Nat.pow_succ, Nat.mod_mul, h, hd, Nat.mul_zero]
    · exact h
theorem nDg_lo {d : Nat} (h0 : 0 < d) : 1 ≤ nDg d ∧ 10 ^ (nDg d - 1) ≤ d := by
  unfold nDg
  rw [if_neg (by omega)]
  have hp := nDigits_pos d
  refine ⟨hp, ?_⟩
  rcases Nat.lt_or_ge d (10 ^ (nDigits d - 1)) with h | h
  · exfalso
    -- d < 10^(n-1): then d has fewer digits
    obtain ⟨k, hk1, hk2⟩ : ∃ k, 10 ^ k ≤ d ∧ d < 10 ^ (k + 1) := by
      have : ∀ b, d < 10 ^ b → ∃ k, 10 ^ k ≤ d ∧ d < 10 ^ (k + 1) := by
        intro b
        induction b with
        | zero => intro h; simp at h; omega
        | succ b ih =>
          intro h
          rcases Nat.lt_or_ge d (10 ^ b) with h1 | h1
          · exact ih h1
          · exact ⟨b, h1, h⟩
      exact this _ h
    have hn := nDigits_unique k d hk1 hk2
    rw [hn] at h
    simp only [Nat.add_sub_cancel] at h
    omega
  · exact h
/-- The digits of a number of 17 digits at the most. -/
theorem dd_of {d : Nat} (h0 : 0 < d) (h : d < 100000000000000000) : Us.Dd d (nDg d) (strip d (nDg d) (nDg d)) := by
  obtain ⟨h1, h2⟩ := nDg_lo h0
  have h3 := nDg_lt d
  have h17 : nDg d ≤ 17 := by
    rcases Nat.lt_or_ge 17 (nDg d) with h4 | h4
    · exfalso
      have : 10 ^ 17 ≤ 10 ^ (nDg d - 1) := Nat.pow_le_pow_right (by decide) (by omega)
      omega
    · exact h4
  have hz := strip_tz d (nDg d) (nDg d) (Nat.le_refl _) (by rw [Nat.sub_self, Nat.pow_zero, Nat.mod_one])
  refine ⟨?_, strip_le _ _ _, h17, h2, h3, hz⟩
  rcases Nat.eq_zero_or_pos (strip d (nDg d) (nDg d)) with h5 | h5
  · rw [h5, Nat.sub_zero, Nat.mod_eq_of_lt h3] at hz; omega
  · exact h5

/-- Bytes as whole numbers. -/
def ints (l : List Nat) : List Int := l.map Int.ofNat
theorem ints_app (a b : List Nat) : ints (a ++ b) = ints a ++ ints b := by unfold ints; rw [List.map_append]
theorem dgD_is (d t : Nat) : dgD d t = ((Us.dgt d (nDg d) t : Nat) : Int) := by
  unfold dgD Us.dgt
  rw [dg_int]; omega
theorem rng_is (d j k : Nat) : (List.range k).map (fun t => dgD d (j + t)) = ints (Us.dgs d (nDg d) j k) := by
  unfold ints Us.dgs
  rw [List.map_map]
  refine List.map_congr_left fun t _ => ?_
  exact dgD_is d (j + t)
theorem rng_rep (k : Nat) : rng k (fun _ => 48) = ints (List.replicate k 48) := by
  unfold rng ints
  induction k with
  | zero => rfl
  | succ k ih => rw [List.range_succ, List.map_append, ih, List.replicate_succ', List.map_append]; rfl
theorem sgn_is (neg : Bool) : sgn neg = ints (sgl neg) := by cases neg <;> rfl
theorem sgnF_is (neg : Bool) : sgnF neg = ints (sgl neg) := by cases neg <;> rfl
/-- An exponent's digits. -/
def expN (xa : Nat) : List Nat := if xa < 10 then [48, xa + 48] else if xa < 100 then [xa / 10 + 48, xa % 10 + 48] else [xa / 100 + 48, xa / 10 % 10 + 48, xa % 10 + 48]
theorem expd_is (xa : Nat) : expd xa = ints (expN xa) := by
  unfold expd expN ints
  split
  · simp
  · split <;> simp
theorem expN_val {xa : Nat} (h : xa < 1000) : Us.dval (expN xa) = xa := by
  unfold expN Us.dval
  split
  · simp
  · split
    · simp; omega
    · simp; omega
theorem expN_ok {xa : Nat} (h : xa < 1000) : 1 ≤ (expN xa).length ∧ (expN xa).length ≤ 3 ∧ ∀ c, c ∈ expN xa → 48 ≤ c ∧ c ≤ 57 := by
  unfold expN
  split
  · refine ⟨by simp, by simp, fun c hc => ?_⟩
    simp at hc; omega
  · split
    · refine ⟨by simp, by simp, fun c hc => ?_⟩
      simp at hc; omega
    · refine ⟨by simp, by simp, fun c hc => ?_⟩
      simp at hc; omega

/-- A text that is read as the number m0 * 2^(n - 1074), with that sign. -/
structure Reads (neg : Bool) (m0 n : Nat) (l : List Nat) : Prop where
  is : ∃ (B : List Nat) (X : Option (Bool × List Nat)) (J : Nat), l = sgl neg ++ (B ++ xpl X) ∧ Us.Body B ∧ (∃ c t, B = c :: t ∧ 48 ≤ c ∧ c ≤ 57) ∧ (Us.rrun B).dig = true ∧
    (∀ ng ds, X = some (ng, ds) → 1 ≤ ds.length ∧ ds.length ≤ 3 ∧ ∀ c, c ∈ ds → 48 ≤ c ∧ c ≤ 57) ∧
    Us.expOf (Us.rrun B) (xpv X) = (J : Int) - 348 ∧ 3 ≤ J ∧ J ≤ 658 ∧ 0 < (Us.rrun B).m ∧ (Us.rrun B).m < 144115188075855872 ∧ Us.Ins m0 n ((Us.rrun B).m * 10 ^ J)

theorem reads_of {neg : Bool} {m0 n d : Nat} {p : Int} {B : List Nat} {X : Option (Bool × List Nat)} (hg : Us.Got d B p (xpv X)) (h1 : -324 ≤ p) (h2 : p ≤ 293) (hI : Us.Ins m0 n (d * 10 ^ (348 + p).toNat))
    (hX : ∀ ng ds, X = some (ng, ds) → 1 ≤ ds.length ∧ ds.length ≤ 3 ∧ ∀ c, c ∈ ds → 48 ≤ c ∧ c ≤ 57) : Reads neg m0 n (sgl neg ++ (B ++ xpl X)) := by
  obtain ⟨J, e1, e2, e3, e4⟩ := hg.num h1 h2
  exact ⟨B, X, J, rfl, hg.body, hg.head, hg.dig, hX, e1, e2, e3, hg.pos, hg.lt, by rw [e4]; exact hI⟩

theorem tOut_reads (neg : Bool) (m0 n d : Nat) (p : Int) (h0 : 0 < d) (h : d < 100000000000000000) (h1 : -324 ≤ p) (h2 : p ≤ 293) (hI : Us.Ins m0 n (d * 10 ^ (348 + p).toNat)) :
    ∃ l, tOut neg d p = ints l ∧ Reads neg m0 n l := by
  have hd := dd_of h0 h
  have hn1 := hd.n1
  have hn2 := hd.n2
  have hn3 := hd.n3
  unfold tOut
  obtain ⟨nd, hnd⟩ : ∃ nd, strip d (nDg d) (nDg d) = nd := ⟨_, rfl⟩
  rw [hnd] at hd hn1 hn2 ⊢
  split
  · rename_i hc
    have hx : ((nDg d : Int) + p - 1).natAbs < 1000 := by omega
    have hgot := Us.got_E hd ((nDg d : Int) + p)
    rw [show (nDg d : Int) + p - (nDg d : Int) = p by omega] at hgot
    have hX : xpv (some (decide ((nDg d : Int) + p - 1 < 0), expN ((nDg d : Int) + p - 1).natAbs)) = (nDg d : Int) + p - 1 := by
      unfold xpv
      simp only [expN_val hx]
      by_cases hlt : (nDg d : Int) + p - 1 < 0
      · simp only [hlt, decide_true, sge, if_true]; omega
      · simp only [hlt, decide_false, sge, Bool.false_eq_true, if_false]; omega
    refine ⟨sgl neg ++ (Us.bodyE d (nDg d) nd ++ xpl (some (decide ((nDg d : Int) + p - 1 < 0), expN ((nDg d : Int) + p - 1).natAbs))), ?_, reads_of (by rw [hX]; exact hgot) h1 h2 hI ?_⟩
    · unfold eOut ch0 exE
      rw [if_neg (by omega), if_neg (by omega)]
      have e1 : sgE ((nDg d : Int) + p - 1) = ((sgc (decide ((nDg d : Int) + p - 1 < 0)) : Nat) : Int) := by
        unfold sgE sgc
        by_cases hlt : (nDg d : Int) + p - 1 < 0
        · simp [hlt]
        · simp [hlt]
      have e2 : [dgD d 0] ++ frac nd (dgD d) = ints (Us.bodyE d (nDg d) nd) := by
        unfold frac Us.bodyE
        rw [ints_app, ← rng_is]
        split
        · rw [show ints (46 :: Us.dgs d (nDg d) 1 (nd - 1)) = 46 :: ints (Us.dgs d (nDg d) 1 (nd - 1)) from rfl, ← rng_is]; rfl
        · rfl
      rw [e1, sgn_is, expd_is, List.append_assoc (ints (sgl neg)), e2, ints_app, ints_app]
      unfold xpl
      rw [show ints (101 :: sgc (decide ((nDg d : Int) + p - 1 < 0)) :: expN ((nDg d : Int) + p - 1).natAbs) = 101 :: ((sgc (decide ((nDg d : Int) + p - 1 < 0)) : Nat) : Int) :: ints (expN ((nDg d : Int) + p - 1).natAbs) from rfl]
      simp
    · intro ng ds he
      cases he
      exact expN_ok hx
  · rename_i hc
    have hgot := Us.got_F hd ((nDg d : Int) + p) (by omega) (by omega)
    rw [show (nDg d : Int) + p - (nDg d : Int) = p by omega] at hgot
    refine ⟨sgl neg ++ (Us.bodyF d (nDg d) nd ((nDg d : Int) + p) ++ xpl none), ?_, reads_of hgot h1 h2 hI (fun ng ds he => by cases he)⟩
    rw [ints_app, ← sgnF_is]
    unfold fOut
    rw [List.append_assoc]
    congr 1
    obtain ⟨dp, hdp⟩ : ∃ dp : Int, (nDg d : Int) + p = dp := ⟨_, rfl⟩
    rw [hdp] at hc ⊢
    unfold Us.bodyF
    rw [show xpl none = [] from rfl, List.append_nil]
    by_cases c1 : dp ≤ 0
    · rw [if_pos c1]
      have z1 : dp.toNat = 0 := by omega
      have z2 : (max ((nd : Int) - dp) 0).toNat = nd + (-dp).toNat := by omega
      have z3 : (min (max ((nd : Int) - dp) 0) (max 0 (-dp))).toNat = (-dp).toNat := by omega
      have z4 : (min (max ((nd : Int) - dp) 0 - min (max ((nd : Int) - dp) 0) (max 0 (-dp))) (max 0 ((nd : Int) - ((0 : Nat) : Int)))).toNat = nd := by omega
      have z5 : (max 0 (max ((nd : Int) - dp) 0 - min (max ((nd : Int) - dp) 0) (max 0 (-dp)) - min (max ((nd : Int) - dp) 0 - min (max ((nd : Int) - dp) 0) (max 0 (-dp))) (max 0 ((nd : Int) - ((0 : Nat) : Int))))).toNat = 0 := by omega
      rw [z1, z2, z3, z4, z5]
      unfold intP fraP
      rw [if_pos rfl, if_neg (by omega), rng_rep, rng_zero, List.append_nil]
      have e3 : rng nd (fun k => dgD d (0 + k)) = ints (Us.dgs d (nDg d) 0 nd) := rng_is d 0 nd
      rw [e3, ← ints_app]
      rfl
    · rw [if_neg c1]
      obtain ⟨e, he⟩ : ∃ e : Nat, dp = (e : Int) := ⟨dp.toNat, by omega⟩
      subst he
      rw [Int.toNat_natCast]
      have r1 : ∀ k, rng k (dgD d) = ints (Us.dgs d (nDg d) 0 k) := fun k => by
        rw [← rng_is]
        unfold rng
        refine List.map_congr_left fun t _ => ?_
        rw [Nat.zero_add]
      by_cases c2 : (nd : Int) ≤ (e : Int)
      · rw [if_pos c2]
        have z2 : (max ((nd : Int) - (e : Int)) 0).toNat = 0 := by omega
        rw [z2]
        unfold intP fraP
        rw [if_neg (by omega), if_pos rfl, show min nd e = nd by omega, rng_rep, r1, ← ints_app, List.append_nil]
      · rw [if_neg c2]
        have z2 : (max ((nd : Int) - (e : Int)) 0).toNat = nd - e := by omega
        have z3 : (min (max ((nd : Int) - (e : Int)) 0) (max 0 (-(e : Int)))).toNat = 0 := by omega
        have z4 : (min (max ((nd : Int) - (e : Int)) 0 - min (max ((nd : Int) - (e : Int)) 0) (max 0 (-(e : Int)))) (max 0 ((nd : Int) - (e : Int)))).toNat = nd - e := by omega
        have z5 : (max 0 (max ((nd : Int) - (e : Int)) 0 - min (max ((nd : Int) - (e : Int)) 0) (max 0 (-(e : Int))) - min (max ((nd : Int) - (e : Int)) 0 - min (max ((nd : Int) - (e : Int)) 0) (max 0 (-(e : Int)))) (max 0 ((nd : Int) - (e : Int))))).toNat = 0 := by omega
        rw [z2, z3, z4, z5]
        unfold intP fraP
        rw [if_neg (by omega), if_neg (by omega), show min nd e = e by omega, Nat.sub_self]
        simp only [rng_zero, List.append_nil, List.nil_append]
        rw [r1]
        have e3 : rng (nd - e) (fun k => dgD d (e + k)) = ints (Us.dgs d (nDg d) e (nd - e)) := rng_is d e (nd - e)
        rw [e3, ints_app]
        rfl
end Go.Proofs.YthhmimlfiaboeaaGreatDoor

namespace Go.Proofs.YthhmimlfiaboeaaGreatDoor
open Go.RowKit Go.Lib Go.Ev

theorem eE_is (k : Nat) (hk : k < 18446744073709551616) : bits .and .i64 (IntKind.i64.wrap ((k : Int) / 4503599627370496)) 2047 = ((k / 4503599627370496 % 2048 : Nat) : Int) := by
  have e : (k : Int) / 4503599627370496 = ((k / 4503599627370496 : Nat) : Int) := by omega
  rw [e, wi64 (by omega) (by omega)]
  have hx : k / 4503599627370496 < 4096 := by omega
  generalize k / 4503599627370496 = x at hx
  have h1 : (BitVec.ofInt 64 (x : Int)).toNat = x := by simp; omega
  have h2 : (BitVec.ofInt 64 (2047 : Int)).toNat = 2047 := by decide
  show IntKind.i64.wrap ((BitVec.ofInt 64 (x : Int) &&& BitVec.ofInt 64 2047).toNat : Int) = _
  rw [BitVec.toNat_and, h1, h2, show (2047 : Nat) = 2 ^ 11 - 1 from rfl, Nat.and_two_pow_sub_one_eq_mod]
  exact wi64 (by omega) (by omega)
theorem eM_is (k : Nat) (hk : k < 18446744073709551616) : bits .and .u64 (k : Int) 4503599627370495 = ((k % 4503599627370496 : Nat) : Int) := by
  have h1 : (BitVec.ofInt 64 (k : Int)).toNat = k := by simp; omega
  have h2 : (BitVec.ofInt 64 (4503599627370495 : Int)).toNat = 4503599627370495 := by decide
  show IntKind.u64.wrap ((BitVec.ofInt 64 (k : Int) &&& BitVec.ofInt 64 4503599627370495).toNat : Int) = _
  rw [BitVec.toNat_and, h1, h2, show (4503599627370495 : Nat) = 2 ^ 52 - 1 from rfl, Nat.and_two_pow_sub_one_eq_mod]
  exact wu64 (by omega) (by omega)
/-- The sign of a word. -/
def ngOf (k : Nat) : Bool := decide (9223372036854775808 ≤ k)
theorem eng_is (k : Nat) (hk : k < 18446744073709551616) : ((k : Int) / 9223372036854775808 != 0) = ngOf k := by
  unfold ngOf
  by_cases h : 9223372036854775808 ≤ k
  · have e : (k : Int) / 9223372036854775808 = 1 := by omega
    rw [e]; simp [h]
  · have e : (k : Int) / 9223372036854775808 = 0 := by omega
    rw [e]; simp [h]

/-- A finite word that is not nothing. -/
structure FinW (k : Nat) : Prop where
  lt : k < 18446744073709551616
  nz : k % 9223372036854775808 ≠ 0
  fin : k % 9223372036854775808 < 9218868437227405312
theorem FinW.parts {k : Nat} (h : FinW k) : ∃ mt n, Parts (k / 4503599627370496 % 2048) (k % 4503599627370496) mt n ∧ mt ≠ 0 ∧ Ieee.double.word (ngOf k) (Us.rung mt n) = k := by
  obtain ⟨h1, h2, h3⟩ := h
  obtain ⟨E, hE⟩ : ∃ E, k / 4503599627370496 % 2048 = E := ⟨_, rfl⟩
  obtain ⟨M, hM⟩ : ∃ M, k % 4503599627370496 = M := ⟨_, rfl⟩
  rw [hE, hM]
  have hr : k % 9223372036854775808 = E * 4503599627370496 + M := by omega
  have hs : k = sgb (ngOf k) + (E * 4503599627370496 + M) := by
    unfold ngOf sgb
    by_cases hh : 9223372036854775808 ≤ k
    · simp only [hh, decide_true, if_true]; omega
    · simp only [hh, decide_false, Bool.false_eq_true, if_false]; omega
  by_cases h0 : E = 0
  · refine ⟨M, 0, ⟨by omega, by omega, fun _ => ⟨rfl, rfl⟩, fun h => absurd h0 h⟩, by omega, ?_⟩
    unfold Us.rung
    rw [word_sgb]; omega
  · refine ⟨M + 4503599627370496, E - 1, ⟨by omega, by omega, fun h => absurd h h0, fun _ => ⟨rfl, by omega⟩⟩, by omega, ?_⟩
    unfold Us.rung
    have e : (E - 1) * 4503599627370496 + (M + 4503599627370496) = E * 4503599627370496 + M := by omega
    rw [e, word_sgb]; exact hs.symm

/-- What ftoa64 writes of a float. -/
def FtoSays (N k : Nat) (L : List Int) (F : FuncId) : Prop := ∀ (w0 w : World) (v : Value), TabAt Us.tHi Us.tLo N w → TabIs Tryz.prog w "internal/strconv.uint64pow10" .u64 Lib.pow10Tab → Er N w0 v [] w → Calls Tryz.prog F #[v, .float .f64 k, .int .u8 103, .int .i64 (-1)] w fun e w' => ∃ v', e = .returned v' ∧ Er N w0 v' L w'
/-- ftoa64 of a finite float. -/
theorem fto_is (N k : Nat) (h : FinW k) (hgN : 4 < N) :
    ∃ l m0 n, Reads (ngOf k) m0 n l ∧ Us.Fin64 m0 n ∧ Ieee.double.word (ngOf k) (Us.rung m0 n) = k ∧ FtoSays N k (ints l) 27 := by
  obtain ⟨mt, n, hp, h0, hw⟩ := h.parts
  obtain ⟨d, p, ⟨q, I, e1, e2, e3, e4, e5, e6, e7⟩, hS⟩ := ftf_is N k _ _ mt n (ngOf k) (eE_is k h.lt) (eM_is k h.lt) (eng_is k h.lt) hp hgN h0
  obtain ⟨l, hl, hr⟩ := tOut_reads (ngOf k) mt n d p e2 e3 (by omega) (by omega) (by rw [show (348 + p).toNat = 696 - I + q by omega]; exact e7)
  rw [hl] at hS
  exact ⟨l, mt, n, hr, hp.fin h0, hw, hS⟩

set_option maxRecDepth 100000 in
set_option maxHeartbeats 4000000 in
theorem ftz_is (N k : Nat) (eE : bits .and .i64 (IntKind.i64.wrap ((k : Int) / 4503599627370496)) 2047 = ((0 : Nat) : Int)) (eM : bits .and .u64 (k : Int) 4503599627370495 = ((0 : Nat) : Int)) (eng : ((k : Int) / 9223372036854775808 != 0) = false) : FtoSays N k [48] 27 := by
  have hm : Tryz.prog.follows .mixedOrders = true := by kernel_rfl
  have wr1 : IntKind.i64.wrap 2048 = 2048 := by rfl
  have wr2 : IntKind.i64.wrap 2047 = 2047 := by rfl
  intro w0 w v hT hU hR
  have hR := Hid.mk hR.drew
  clear hT hU
  go_enter Tryz.func27, Tryz.ntmps27
  have hfb := run_fb k
  go_wp2_with (fail)
  refine Go.Ev.wp_region_planE (fun v => v = w.drew) hm (by kernel_rfl) (by kernel_rfl) rfl ?_
  iterate 9
    refine Go.Ev.planE_cons _ (by rintro v K rfl hK; go_simp; exact hK _ rfl) ?_
    simp only [Act.put, List.setIfInBounds_toArray, List.set_cons_succ, List.set_cons_zero]
  rintro w1 rfl
  go_wp2_with (fail)
  go_at_call 37
  refine (efz_any N false v w0 _ hR.out).mono ?_
  rintro e w2 ⟨v', rfl, hE⟩
  go_wp2_with (fail)
  go_ret
  exact ⟨_, rfl, hE⟩
theorem fto_zero (N : Nat) : FtoSays N 0 [48] 27 := ftz_is N 0 (by decide) (by decide) (by decide)

theorem tabIs_same' {w w' : World} {n : Nat} {zs : List Int} (h : TabIs Tryz.prog w "internal/strconv.uint64pow10" .u64 zs) (hb : ∀ i, i < n → w'.heap[i]? = w.heap[i]?) (hn : 4 < n) : TabIs Tryz.prog w' "internal/strconv.uint64pow10" .u64 zs := tabIs_same h hb hn
theorem conv_any {N : Nat} {w0 w : World} {v : Value} {l : List Int} (h : Er N w0 v l w) : (convert 47 9 v).run Tryz.prog w = .ok (.string (strOfNums l)) w := by
  have hown := h.own
  rcases hown.2 with ⟨he, h0⟩ | ⟨g, cap, cur, he, _, hg, hn, hm, hs, ht⟩
  · subst he
    have : l = [] := List.eq_nil_of_length_eq_zero h0
    subst this
    simp only [convert, Sem.run_bind, run_underlying Tryz.underlying47, run_underlying Tryz.underlying9, run_underlying Tryz.underlying5, Result.andThen_ok]
    rfl
  · subst he
    exact run_convert_bytes_arg (P := Tryz.prog) w 47 5 Tryz.underlying47 Tryz.underlying5 g 0 l.length cap l rfl (fun i hi => by
      have hc := hown.cells (g := g) rfl i (bv (l.getD i 0)) (by rw [List.getElem?_map, List.getD, List.getElem?_eq_getElem (by omega)]; rfl)
      rw [Addr.add_lit] at hc
      exact hc) 9 Tryz.underlying9

/-- The text of a float. -/
def FmtSays (N : Nat) (s : ByteArray) (F : FuncId) (args : Array Value) : Prop := ∀ w : World, TabAt Us.tHi Us.tLo N w → TabIs Tryz.prog w "internal/strconv.uint64pow10" .u64 Lib.pow10Tab → N ≤ w.heap.size →
  Calls Tryz.prog F args w fun e w' => e = .returned (.string s) ∧ Below N w w'

set_option maxRecDepth 100000 in
set_option maxHeartbeats 1600000 in
theorem iff_of (N k : Nat) (L : List Int) (hS : FtoSays N k L 27) (hgN : 4 < N) :
    FmtSays N (strOfNums L) 23 #[.float .f64 k, .int .u8 103, .int .i64 (-1), .int .i64 64] := by
  intro w hT hU hN
  obtain ⟨i0, hi, hz0, hz1, hz2⟩ := info_parts u8Info
  have hSH := Hid.mk hS
  have hTH := Hid.mk hT
  have hUH := Hid.mk hU
  have hg6 : 4 < w.heap.size := Nat.lt_of_lt_of_le hgN hN
  clear hS hT hU
  go_enter Tryz.func23, Tryz.ntmps23
  go_wp2_with (refine wpList_make_own _ rfl _ _ _ rfl N 5 i0 (.int .u8 0) 1 Tryz.underlying47 hi hz0 hz1 .i64 .i64 24 24 rfl rfl rfl ?c1 ?c2 hN ?c3)
  case c1 => rw [hz2]; decide
  case c2 => decide
  intro w1 hown hg1
  have hB1 : Below N w w1 := (Below.refl N w).grown hg1 hN (fun j hj => (by cases hj))
  have hE : Er N w (.slice (some ⟨w.heap.size, 0, none⟩) 0 24) [] w1 := ⟨hown, hB1, Nat.le_trans hN hB1.size⟩
  have hT1 : TabAt Us.tHi Us.tLo N w1 := hTH.out.keep hB1
  have hU1 : TabIs Tryz.prog w1 "internal/strconv.uint64pow10" .u64 Lib.pow10Tab := tabIs_same hUH.out (fun i hi => hg1.block i hi (by simp)) hg6
  have hcall := Hid.mk (hSH.out w w1 _ hT1 hU1 hE)
  clear hown hg1 hE hT1 hU1 hB1
  go_wp2_with (fail)
  go_at_call 27
  refine hcall.out.mono ?_
  rintro e w2 ⟨v', rfl, hE2⟩
  have hcv := conv_any hE2
  have hB2 := Hid.mk hE2.blw
  clear hE2
  go_wp2_with (fail)
  go_ret
  exact ⟨rfl, hB2.out⟩

set_option maxRecDepth 100000 in
theorem sff_of (N k : Nat) (L : List Int) (hS : FtoSays N k L 27) (hgN : 4 < N) :
    FmtSays N (strOfNums L) 15 #[.float .f64 k, .int .u8 103, .int .i64 (-1), .int .i64 64] := by
  have hS := iff_of N k L hS hgN
  intro w hT hU hN
  have hcall := Hid.mk (hS w hT hU hN)
  clear hS hT hU hN
  go_enter Tryz.func15, Tryz.ntmps15
  go_wp2_with (fail)
  go_at_call 23
  refine hcall.out.mono ?_
  rintro e w2 ⟨rfl, hB⟩
  go_wp2_with (fail)
  go_ret
  exact ⟨rfl, hB⟩

/-! ## Reading it back -/
theorem txt_is (l : List Nat) (h : ∀ c, c ∈ l → c < 256) : TxtIs (strOfNums (ints l)) l := by
  have hz : (strOfNums (ints l)).size = l.length := by
    unfold strOfNums ints
    simp [ByteArray.size]
  refine ⟨hz, fun i hi => ?_⟩
  have hil : i < l.length := by omega
  rw [List.getElem?_eq_getElem hil]
  congr 1
  have hc := h _ (List.getElem_mem hil)
  show l[i] = ((strOfNums (ints l)).data[i]'(by exact hi)).toNat
  unfold strOfNums ints
  simp
  omega
theorem Reads.small {neg : Bool} {m0 n : Nat} {l : List Nat} (h : Reads neg m0 n l) : (∀ c, c ∈ l → c < 256) ∧ l.length ≤ 100 := by
  obtain ⟨B, X, J, rfl, hB, _, _, hX, _⟩ := h.is
  constructor
  · intro c hc
    rcases List.mem_append.1 hc with hc | hc
    · cases neg <;> simp [sgl] at hc; omega
    · rcases List.mem_append.1 hc with hc | hc
      · have := hB.ch c hc; omega
      · cases X with
        | none => simp [xpl] at hc
        | some x =>
          obtain ⟨ng, ds⟩ := x
          simp only [xpl, List.mem_cons] at hc
          rcases hc with rfl | rfl | hc
          · decide
          · cases ng <;> decide
          · have := (hX ng ds rfl).2.2 c hc; omega
  · have h1 : (sgl neg).length ≤ 1 := by cases neg <;> decide
    have h2 := hB.len
    have h3 : (xpl X).length ≤ 5 := by
      cases X with
      | none => simp [xpl]
      | some x =>
        obtain ⟨ng, ds⟩ := x
        have := (hX ng ds rfl).2.1
        simp [xpl]; omega
    simp only [List.length_append]; omega
theorem par_is (N : Nat) (neg : Bool) (m0 n : Nat) (l : List Nat) (h : Reads neg m0 n l) (hf : Us.Fin64 m0 n) (w : World) (hE : Env N w) : ParSays (Ieee.double.word neg (Us.rung m0 n)) 18 #[.string (strOfNums (ints l)), .int .i64 64] w := by
  obtain ⟨hsm, hlen⟩ := h.small
  have ht := txt_is l hsm
  have hz : (strOfNums (ints l)).size ≤ 100 := by rw [ht.1]; exact hlen
  generalize strOfNums (ints l) = s at *
  obtain ⟨B, X, J, rfl, hB, ⟨c, t, rfl, hc1, hc2⟩, hdig, hX, he, hJ1, hJ2, hm0, hm1, hI⟩ := h.is
  refine spf_is s _ w ?_
  have hr := rdf_is s neg (c :: t) X w ht hB (by simp) hdig hX
  rw [he] at hr
  exact atf_core N s neg _ J m0 n w hE (special_no s neg c (t ++ xpl X) w (by simpa using ht) hz hc1 hc2) hr hm0 hm1 hJ1 hJ2 hf hI
end Go.Proofs.YthhmimlfiaboeaaGreatDoor
