/- The shortest digits of any finite float: they lie in its rounding interval. -/
import Derived.Test.YthhmimlfiaboeaaGreatDoorSha
import Derived.Test.YthhmimlfiaboeaaGreatDoorShb
import Derived.Test.YthhmimlfiaboeaaGreatDoorShc
import Derived.Test.YthhmimlfiaboeaaGreatDoorShd
import Derived.Test.YthhmimlfiaboeaaGreatDoorShe
namespace Go.Proofs.YthhmimlfiaboeaaGreatDoor
open Go.RowKit

theorem hi_ge {i hi lo : Nat} (h : Us.RowOk i hi lo) : 9223372036854775808 ≤ hi := by
  have h1 := h.b1
  have h2 := h.lb
  have hA := Us.nA_pos i
  have hle := h.le
  generalize Us.nA i = A at *
  generalize Us.nM i = M at *
  have h3 : (hi * 18446744073709551616 - lo) * M ≤ (hi * 18446744073709551616) * (4 * A) := Nat.mul_le_mul (Nat.sub_le ..) h2
  have h4 : A * 680564733841876926926749214863536422912 ≤ A * (hi * 73786976294838206464) := by
    refine Nat.le_trans h1 (Nat.le_trans h3 (Nat.le_of_eq ?_))
    grind
  have := Nat.le_of_mul_le_mul_left h4 hA
  omega
theorem says_of {i : Nat} (hi : i < 696) (x s : Nat) (hx1 : 2 ≤ x) (hx2 : x < 18446744073709551616) (hs : s < 64) : Says x (Us.tHi i) (Us.tLo i) (s : Int) (Us.uscN x (Us.tHi i) (Us.tLo i) s : Nat) := by
  have hr := Us.row_ok i hi
  have hg := hi_ge hr
  refine usc_is x _ _ s hs hx2 hr.hi64 hr.lo64 fun _ _ => ?_
  have := Nat.mul_le_mul hx1 hg
  omega
/-- What shortFloat answers of a finite float. -/
def ShoOk (N m0 n m : Nat) (e : Int) : Prop := ∃ d q I : Nat, ShoSays N m e d (348 - (I : Int) + (q : Int)) ∧ 0 < d ∧ d < 100000000000000000 ∧ q ≤ 1 ∧ 56 ≤ I ∧ I ≤ 672 ∧ Us.Ins m0 n (d * 10 ^ (696 - I + q))

theorem lpe (n z I s : Nat) (e : Int) (he : e = (n : Int) - 1074 - (z : Int)) (hs : n + Us.lpN I + s + 11 = 2242 + z) : -(e + ((I : Int) - 348) * 108853 / 32768 + 3) = (s : Int) := by
  rw [Us.lp_int]; omega

theorem sho_skew (N n : Nat) (e : Int) (h0 : 0 < n) (hn : n ≤ 2045) (he : e = (n : Int) - 1085) : ShoOk N 4503599627370496 n 9223372036854775808 e := by
  obtain ⟨⟨d, q⟩, hdq⟩ : ∃ r, Us.shortN 9223372036854775296 9223372036854775808 9223372036854776832 0 (Us.tHi (Us.idk n)) (Us.tLo (Us.idk n)) (2242 - (n + Us.lpN (Us.idk n))) = r := ⟨_, rfl⟩
  obtain ⟨⟨g1, g2, g3, g4⟩, k1, k2, k3, k4⟩ := Us.short_skew n h0 hn d q hdq
  obtain ⟨s, hs⟩ : ∃ s, 2242 - (n + Us.lpN (Us.idk n)) = s := ⟨_, rfl⟩
  rw [hs] at hdq
  have hI : Us.idk n < 696 := by omega
  have hg := hi_ge (Us.row_ok _ hI)
  have hrow := Us.row_ok _ hI
  have he1 : -(e + ((Us.idk n : Int) - 348) * 108853 / 32768 + 3) = (s : Int) := lpe n 11 _ s e (by omega) (by omega)
  refine ⟨d, q, Us.idk n, ?_, k1, k2, k3, g1, g2, k4⟩
  refine sho_a N e (by omega) (by omega) (by omega) (Us.idk n) s _ _ _ 0 (by omega) hI ?_ he1 rfl (says_of hI _ s (by decide) (by decide) (by omega)) (says_of hI _ s (by decide) (by decide) (by omega)) (says_of hI _ s (by decide) (by decide) (by omega))
    (Us.uscN_lt _ _ _ _ (by decide) hrow.hi64 (by omega)) (Us.uscN_lt _ _ _ _ (by decide) hrow.hi64 (by omega)) (Us.uscN_lt _ _ _ _ (by decide) hrow.hi64 (by omega)) (Us.uscN_pos _ _ _ _ (by decide) hg (by omega)) d q hdq
  rw [he]; unfold Us.idk; omega

/-- Any other float: the three numbers and their Says, at hand for each of the four cases. -/
theorem sho_reg (N m0 n z m : Nat) (e : Int) (hf : Us.Fin64 m0 n) (hz : 11 ≤ z) (hz63 : z ≤ 63) (hzn : 0 < n → z = 11) (hsk : ¬ (m0 = 4503599627370496 ∧ 0 < n)) (hm : m = 2 ^ z * m0) (hm1 : 9223372036854775808 ≤ m) (hm2 : m < 18446744073709551616) (he : e = (n : Int) - 1074 - (z : Int))
    (cases : ∀ (I s r1 r2 r3 d q : Nat), I = Us.idx n → I < 696 → s ≤ 60 → n + Us.lpN I + s + 11 = 2242 + z → m + 2 ^ (z - 1) < 18446744073709551616 → 2 ^ (z - 1) ≤ m →
      Says (m - 2 ^ (z - 1)) (Us.tHi I) (Us.tLo I) (s : Int) r1 → Says (m + 2 ^ (z - 1)) (Us.tHi I) (Us.tLo I) (s : Int) r2 → Says m (Us.tHi I) (Us.tLo I) (s : Int) r3 → r1 ≤ 576460752303423488 → r2 ≤ 576460752303423488 → r3 ≤ 576460752303423488 → 1 ≤ r2 → pickN r1 r2 r3 (m / 2 ^ z % 2) = (d, q) → ShoSays N m e d (348 - (I : Int) + (q : Int))) : ShoOk N m0 n m e := by
  have hk := Us.k_ok n hf.le
  have k1 := hk.le
  have k2 := hk.ge
  have k3 := hk.s5
  have k4 := hk.s8
  obtain ⟨s, hs⟩ : ∃ s, n + Us.lpN (Us.idx n) + s + 11 = 2242 + z := ⟨2242 + z - 11 - n - Us.lpN (Us.idx n), by omega⟩
  have hs5 : 5 ≤ s := by omega
  have hs60 : s ≤ 60 := by omega
  have hI : Us.idx n < 696 := by omega
  have hrow := Us.row_ok _ hI
  have hg := hi_ge hrow
  have e2 : 2 ^ z = 2 * 2 ^ (z - 1) := by rw [← Nat.pow_succ']; congr 1; omega
  obtain ⟨H, hH⟩ : ∃ H, H = 2 ^ (z - 1) := ⟨_, rfl⟩
  have hp := hf.pos
  have a1 : m - H = H * (2 * m0 - 1) := by rw [hm, e2, ← hH, Nat.mul_sub, Nat.mul_one]; congr 1; grind
  have a2 : m + H = H * (2 * m0 + 1) := by rw [hm, e2, ← hH, Nat.mul_add, Nat.mul_one]; congr 1; grind
  have a3 : m = H * (2 * m0) := by rw [hm, e2, ← hH]; grind
  have hzz : m / 2 ^ z = m0 := by rw [hm, Nat.mul_comm, Nat.mul_div_cancel _ (Nat.two_pow_pos z)]
  have hHm : H ≤ m := by rw [a3]; exact Nat.le_mul_of_pos_right _ (by omega)
  have hHm2 : 2 * H ≤ m := by rw [hm, e2, ← hH]; exact Nat.le_mul_of_pos_right _ hp
  have hlt : m + H < 18446744073709551616 := by
    -- m and 2^64 are multiples of 2^z
    have h64 : (18446744073709551616 : Nat) = 2 ^ z * 2 ^ (64 - z) := by rw [← Nat.pow_add, show z + (64 - z) = 64 by omega]
    have hq : m0 < 2 ^ (64 - z) := by
      rw [hm, h64] at hm2
      exact Nat.lt_of_mul_lt_mul_left hm2
    have := Nat.mul_le_mul_left (2 ^ z) (show m0 + 1 ≤ 2 ^ (64 - z) from hq)
    rw [← h64, Nat.mul_add, Nat.mul_one, ← hm, e2, ← hH] at this
    have hH0 : 0 < H := by rw [hH]; exact Nat.two_pow_pos _
    omega
  obtain ⟨⟨d, q⟩, hdq⟩ : ∃ r, Us.shortN (m - H) m (m + H) (m0 % 2) (Us.tHi (Us.idx n)) (Us.tLo (Us.idx n)) s = r := ⟨_, rfl⟩
  have hfin := Us.short_ok m0 n z s hf hz hsk (by rw [← hH, ← a2]; exact hlt) hs d q (by rw [← hH, ← a1, ← a2, ← a3]; exact hdq)
  obtain ⟨f1, f2, f3, f4⟩ := hfin
  refine ⟨d, q, Us.idx n, ?_, f1, f2, f3, k2, k1, f4⟩
  refine cases (Us.idx n) s _ _ _ d q rfl hI hs60 hs (by rw [← hH]; exact hlt) (by rw [← hH]; exact hHm) (by rw [← hH]; exact says_of hI _ s (by omega) (by omega) (by omega)) (by rw [← hH]; exact says_of hI _ s (by omega) hlt (by omega)) (says_of hI _ s (by omega) hm2 (by omega))
    (Us.uscN_lt _ _ _ _ (by omega) hrow.hi64 hs5) (Us.uscN_lt _ _ _ _ hlt hrow.hi64 hs5) (Us.uscN_lt _ _ _ _ hm2 hrow.hi64 hs5) (Us.uscN_pos _ _ _ _ (by omega) hg hs60) (by rw [hzz]; exact hdq)

/-- shortFloat of any finite float: digits that lie in its rounding interval. -/
theorem sho_is (N m0 n z m : Nat) (e : Int) (hf : Us.Fin64 m0 n) (hz : 11 ≤ z) (hz63 : z ≤ 63) (hzn : 0 < n → z = 11) (hm : m = 2 ^ z * m0) (hm1 : 9223372036854775808 ≤ m) (hm2 : m < 18446744073709551616) (he : e = (n : Int) - 1074 - (z : Int)) : ShoOk N m0 n m e := by
  have hn := hf.le
  by_cases hsk : m0 = 4503599627370496 ∧ 0 < n
  · obtain ⟨h1, h2⟩ := hsk
    have hz11 := hzn h2
    subst hz11
    have hm63 : m = 9223372036854775808 := by rw [hm, h1]
    subst h1
    subst hm63
    exact sho_skew N n e h2 hn (by omega)
  · refine sho_reg N m0 n z m e hf hz hz63 hzn hsk hm hm1 hm2 he ?_
    intro I s r1 r2 r3 d q hI hI6 hs60 hs hlt hle y1 y2 y3 b1 b2 b3 b4 hp
    have hl := lpe n z I s e he hs
    have hod : m / 2 ^ z % 2 ≤ 1 := by omega
    by_cases hz11 : z = 11
    · subst hz11
      have hPe : -((e + 11) * 78913 / 262144) = (I : Int) - 348 := by rw [hI, he]; unfold Us.idx; omega
      by_cases hm63 : m = 9223372036854775808
      · subst hm63
        have hn0 : n = 0 := by
          have hm0 : m0 = 4503599627370496 := by omega
          rcases Nat.eq_zero_or_pos n with h | h
          · exact h
          · exact absurd ⟨hm0, h⟩ hsk
        exact sho_e N e (by omega) (by omega) (by omega) I s r1 r2 r3 _ hod hI6 hPe hl (by decide) y1 y2 y3 b1 b2 b3 b4 d q hp
      · exact sho_b N m e (by omega) hlt (by omega) (by omega) (by omega) I s r1 r2 r3 _ hod hI6 hPe hl rfl y1 y2 y3 b1 b2 b3 b4 d q hp
    · have hn0 : n = 0 := by
        rcases Nat.eq_zero_or_pos n with h | h
        · exact h
        · exact absurd (hzn h) hz11
      have hPe : -((e + (z : Int)) * 78913 / 262144) = (I : Int) - 348 := by rw [hI, he, hn0]; unfold Us.idx; omega
      by_cases hm63 : m = 9223372036854775808
      · exact sho_d N m e hm63 (by omega) z _ rfl (by omega) (by omega) (by omega) I s r1 r2 r3 _ hod hI6 hPe hl rfl y1 y2 y3 b1 b2 b3 b4 d q hp
      · exact sho_c N m e (by omega) (by omega) z _ rfl hlt (by omega) (by omega) (by omega) I s r1 r2 r3 _ hod hI6 hPe hl rfl y1 y2 y3 b1 b2 b3 b4 d q hp
end Go.Proofs.YthhmimlfiaboeaaGreatDoor
