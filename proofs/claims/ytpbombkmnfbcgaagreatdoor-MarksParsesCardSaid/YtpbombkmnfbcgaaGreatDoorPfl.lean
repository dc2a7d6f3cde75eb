/- A float of digits and a power of ten: always answered. -/
import Derived.Test.YtpbombkmnfbcgaaGreatDoorPrs
import Derived.Lib.BitFns
namespace Go.Proofs.YtpbombkmnfbcgaaGreatDoor
open Go.RowKit

theorem bitLenAux_le : ∀ f x, Lib.bitLenAux f x ≤ f
  | 0, _ => Nat.le_refl _
  | f + 1, x => by
    unfold Lib.bitLenAux
    split
    · omega
    · have := bitLenAux_le f (x / 2); omega
theorem bitLen_le (x : Nat) : Lib.bitLen x ≤ 64 := bitLenAux_le 64 x

theorem Onl.blw {N B : Nat} {w w' : World} (h : Onl B w w') (h1 : N ≤ B) (h2 : N ≤ w.heap.size) : Below N w w' :=
  let ⟨a, b, c, d, e⟩ := h
  ⟨a, b, c, d, fun i hi => e i (by omega) (by intro e; cases e; omega)⟩
theorem blw_drewN (N : Nat) (w : World) (n : Nat) : Below N w (w.drewN n) := ⟨rfl, rfl, rfl, Nat.le_refl _, fun _ _ => rfl⟩
theorem PreS.drewN {B hi lo : Nat} {s : Int} {w : World} (h : PreS B hi lo s w) (n : Nat) : PreS B hi lo s (w.drewN n) := ⟨h.hi, h.lo, h.s⟩
theorem min_cast (a b : Int) : ∃ c, min a b = c ∧ c ≤ a ∧ c ≤ b ∧ (c = a ∨ c = b) := ⟨min a b, rfl, by omega, by omega, by omega⟩

set_option maxRecDepth 100000 in
set_option maxHeartbeats 3200000 in
theorem pfl_any (tH tL : Nat → Nat) (N : Nat) (d : Nat) (p sgn : Int) (w : World) (hd : d < 18446744073709551616) (hT : TabAt tH tL N w) (hN : N ≤ w.heap.size) (hp1 : -345 ≤ p) (hp2 : p ≤ 310) :
    Calls Tryz.prog 61 #[.int .u64 (d : Nat), .int .i64 p, .int .u64 sgn] w fun e w' => IsFE e ∧ Below w.heap.size w w' := by
  have hlen := bitLen_le d
  have m0 := (Tryz.bits_Len64 (d : Int) w (by omega) (by omega)).mono fun _ _ h => (⟨h.1, h.2.symm⟩ : _ ∧ w = _)
  rw [Int.toNat_natCast] at m0
  obtain ⟨b, hb⟩ : ∃ b, Lib.bitLen d = b := ⟨_, rfl⟩
  rw [hb] at hlen m0
  have hbi : (b : Int) ≤ 64 := by omega
  obtain ⟨n, rfl⟩ : ∃ n : Nat, p = (n : Int) - 348 := ⟨(p + 348).toNat, by omega⟩
  have hn : n < 696 := by omega
  have ml := l2p_any ((n : Int) - 348) w (by omega) (by omega)
  obtain ⟨lp, hlp⟩ : ∃ lp, ((n : Int) - 348) * 108853 / 32768 = lp := ⟨_, rfl⟩
  have hl1 : -1200 ≤ lp := by omega
  have hl2 : lp ≤ 1100 := by omega
  rw [hlp] at ml
  obtain ⟨e0, he0, he1, he2, he3⟩ := min_cast 1074 (53 - (b : Int) - lp)
  have he4 : -2000 ≤ e0 := by omega
  have hff := fun (z : Int) (w : World) => run_ff z w
  obtain ⟨q, hq⟩ : ∃ q : Nat, (64 : Int) - (b : Int) = (q : Int) := ⟨64 - b, by omega⟩
  obtain ⟨sv, hsv⟩ : ∃ sv : Int, -(e0 - (q : Int) + lp + 3) = sv := ⟨_, rfl⟩
  have hpre := pre_any tH tL N w.heap.size (e0 - (q : Int)) n lp (w.alloc (.cells #[.int .u64 0, .int .u64 0, .int .i64 0] 114)) (hT.keep ((Below.refl _ _).alloc hN _)) hN hn (by omega) (by omega) (by omega) (by omega)
    (.int .u64 0) (.int .u64 0) (.int .i64 0) (by simp [World.cell?_alloc_new]) (by simp [World.cell?_alloc_new]) (by simp [World.cell?_alloc_new]) (by simp [World.frozen?_alloc_new]) (by simp [World.frozen?_alloc_new]) (by simp [World.frozen?_alloc_new])
  rw [hsv] at hpre
  obtain ⟨n1, hn1, en1⟩ := wrapU ((d : Int) * 2 ^ q)
  obtain ⟨r, hr⟩ := usc_any n1 (tH n) (tL n) sv hn1 (hT.hi n hn).2 (hT.lo n hn).2
  have hprH := Hid.mk hpre
  have hrH := Hid.mk hr
  have m0H := Hid.mk m0
  have mlH := Hid.mk ml
  clear m0 ml hT hlp he3 hb hpre hsv hr
  go_enter Tryz.func61, Tryz.ntmps61
  go_wp2_with (first | (go_at_call 39; refine m0H.out.mono ?_; rintro e w' ⟨rfl, rfl⟩) | (go_at_call 68; refine mlH.out.mono ?_; rintro e w' ⟨rfl, rfl⟩))
  go_at_call 67
  refine hprH.out.mono ?_
  rintro e w2 ⟨rfl, hP, hO⟩
  have hB : Hid (Below w.heap.size w w2) := .mk (((Below.refl _ _).alloc (Nat.le_refl _) _).trans (hO.blw (Nat.le_refl _) (by simp)))
  have c2 := hP.s
  have hPH := Hid.mk hP
  clear hP hO
  by_cases h64 : 64 ≤ sv
  · go_wp2_with (fail)
    go_ret2
    exact ⟨⟨_, _, .inl rfl, rfl⟩, hB.out⟩
  have h64f : (64 ≤ sv) = False := eq_false h64
  go_wp2_with (fail)
  go_at_call 69
  refine (hrH.out _ w2 hPH.out).mono ?_
  rintro e w3 ⟨rfl, k, rfl⟩
  have hB3 : Hid (Below w.heap.size w (w2.drewN k)) := .mk (hB.out.trans (blw_drewN _ _ k))
  obtain ⟨w3, hw3⟩ : ∃ w3, w2.drewN k = w3 := ⟨_, rfl⟩
  rw [hw3] at hB3 ⊢
  clear hw3 c2 hPH hB
  have hr4 : (9007199254740992 : Nat) ≤ 9007199254740992 := Nat.le_refl _
  go_wp2_with (first | (go_at_call 76; refine (umn_any 9007199254740992 _ hr4).mono ?_; rintro e w' ⟨rfl, rfl⟩) | (go_at_call 75; refine (b2i_any _ _).mono ?_; rintro e w' ⟨rfl, rfl⟩) | (go_at_call 73; refine (rou_any _ _).mono ?_; rintro e w' ⟨rfl, rfl⟩) | (go_at_call 90; refine (pk_any _ _ _).mono ?_; rintro e w' ⟨⟨k, v, hv, rfl⟩, rfl⟩))
  all_goals
    go_ret2
    exact ⟨⟨_, _, hv, rfl⟩, hB3.out⟩
end Go.Proofs.YtpbombkmnfbcgaaGreatDoor
