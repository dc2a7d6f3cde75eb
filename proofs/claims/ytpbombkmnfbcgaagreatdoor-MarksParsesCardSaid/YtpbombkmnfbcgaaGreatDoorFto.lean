/- The text of a float: some bytes, the same in every world. -/
import Derived.Test.YtpbombkmnfbcgaaGreatDoorEff
import Derived.Test.YtpbombkmnfbcgaaGreatDoorZer
import Derived.Test.YtpbombkmnfbcgaaGreatDoorEfe
import Derived.Test.YtpbombkmnfbcgaaGreatDoorPle
import Derived.Test.YtpbombkmnfbcgaaGreatDoorRgn
namespace Go.Proofs.YtpbombkmnfbcgaaGreatDoor
open Go.RowKit Go.Lib Go.Ev

theorem and2047 (x : Int) : ∃ k : Nat, k ≤ 2047 ∧ bits .and .i64 x 2047 = (k : Int) := by
  refine ⟨(BitVec.ofInt 64 x).toNat &&& 2047, ?_, ?_⟩
  · have := Nat.and_le_right (n := (BitVec.ofInt 64 x).toNat) (m := 2047); omega
  · have h2 : (BitVec.ofInt 64 (2047 : Int)).toNat = 2047 := by decide
    show IntKind.i64.wrap ((BitVec.ofInt 64 x &&& BitVec.ofInt 64 2047).toNat : Int) = _
    rw [BitVec.toNat_and, h2]
    have := Nat.and_le_right (n := (BitVec.ofInt 64 x).toNat) (m := 2047)
    exact wi64 (by omega) (by omega)
theorem and52 (x : Int) : ∃ k : Nat, k ≤ 4503599627370495 ∧ bits .and .u64 x 4503599627370495 = (k : Int) := by
  refine ⟨(BitVec.ofInt 64 x).toNat &&& 4503599627370495, ?_, ?_⟩
  · have := Nat.and_le_right (n := (BitVec.ofInt 64 x).toNat) (m := 4503599627370495); omega
  · have h2 : (BitVec.ofInt 64 (4503599627370495 : Int)).toNat = 4503599627370495 := by decide
    show IntKind.u64.wrap ((BitVec.ofInt 64 x &&& BitVec.ofInt 64 4503599627370495).toNat : Int) = _
    rw [BitVec.toNat_and, h2]
    have := Nat.and_le_right (n := (BitVec.ofInt 64 x).toNat) (m := 4503599627370495)
    obtain ⟨c, hc⟩ : ∃ c, (BitVec.ofInt 64 x).toNat &&& 4503599627370495 = c := ⟨_, rfl⟩
    rw [hc] at this ⊢
    exact wu64 (by omega) (by omega)
theorem or52 (m : Nat) (h : m ≤ 4503599627370495) : ∃ k : Nat, k < 9007199254740992 ∧ bits .or .u64 (m : Nat) 4503599627370496 = (k : Int) := by
  refine ⟨m ||| 4503599627370496, ?_, ?_⟩
  · exact Nat.or_lt_two_pow (n := 53) (by omega) (by omega)
  · have hlt : m ||| 4503599627370496 < 2 ^ 53 := Nat.or_lt_two_pow (n := 53) (by omega) (by omega)
    have h1 : (BitVec.ofInt 64 (m : Int)).toNat = m := by simp; omega
    have h2 : (BitVec.ofInt 64 (4503599627370496 : Int)).toNat = 4503599627370496 := by decide
    show IntKind.u64.wrap ((BitVec.ofInt 64 (m : Int) ||| BitVec.ofInt 64 4503599627370496).toNat : Int) = _
    rw [BitVec.toNat_or, h1, h2]
    obtain ⟨c, hc⟩ : ∃ c, m ||| 4503599627370496 = c := ⟨_, rfl⟩
    rw [hc] at hlt ⊢
    exact wu64 (by omega) (by omega)

theorem bl_zero : Lib.bitLen 0 = 0 := by unfold Lib.bitLen; exact Lib.bitLenAux_zero _
theorem bl_norm : ∀ x : Nat, x ≠ 0 → x < 2 ^ 64 → 1 ≤ Lib.bitLen x ∧ 2 ^ (Lib.bitLen x - 1) ≤ x ∧ x < 2 ^ Lib.bitLen x := by
  intro x
  induction x using Nat.strongRecOn with
  | ind x ih =>
    intro h0 hx
    have hb := Lib.bitLen_half x h0 hx
    by_cases h1 : x / 2 = 0
    · rw [h1, bl_zero] at hb
      rw [hb]
      have : x = 1 := by omega
      subst this; decide
    · obtain ⟨i1, i2, i3⟩ := ih (x / 2) (by omega) h1 (by omega)
      rw [hb]
      obtain ⟨c, hc⟩ : ∃ c, Lib.bitLen (x / 2) = c + 1 := ⟨Lib.bitLen (x / 2) - 1, by omega⟩
      rw [hc] at i2 i3 ⊢
      simp only [Nat.add_sub_cancel] at i2
      refine ⟨by omega, ?_, ?_⟩
      · rw [show 1 + (c + 1) - 1 = c + 1 by omega, Nat.pow_succ]; omega
      · rw [show 1 + (c + 1) = (c + 1) + 1 by omega, Nat.pow_succ]; omega
theorem norm64 {x : Nat} (h0 : x ≠ 0) (hx : x < 9007199254740992) : ∃ q b : Nat, Lib.bitLen x = b ∧ b ≤ 53 ∧ (64 : Int) - (b : Int) = (q : Int) ∧ q ≤ 63 ∧ 11 ≤ q ∧ 9223372036854775808 ≤ x * 2 ^ q ∧ x * 2 ^ q < 18446744073709551616 := by
  obtain ⟨h1, h2, h3⟩ := bl_norm x h0 (by omega)
  have h53 := Lib.bitLen_le x 53 (by omega) (by omega)
  obtain ⟨b, hb⟩ : ∃ b, Lib.bitLen x = b := ⟨_, rfl⟩
  rw [hb] at h1 h2 h3 h53
  refine ⟨64 - b, b, hb, h53, by omega, by omega, by omega, ?_, ?_⟩
  · have := Nat.mul_le_mul_right (2 ^ (64 - b)) h2
    rw [← Nat.pow_add, show b - 1 + (64 - b) = 63 by omega] at this
    omega
  · have := Nat.mul_lt_mul_of_pos_right h3 (show 0 < 2 ^ (64 - b) from Nat.two_pow_pos _)
    rw [← Nat.pow_add, show b + (64 - b) = 64 by omega] at this
    omega

theorem ownsRow_same {w w' : World} {base : Nat} {e : TypeId} {size n : Nat} {v : Value} {xs : List Value} (h : w.ownsRow base e size v n xs) (hk : ∀ g, v.ownBlock = some g → w'.heap[g]? = w.heap[g]?) : w'.ownsRow base e size v n xs := by
  obtain ⟨h1, h2⟩ := h
  refine ⟨h1, ?_⟩
  rcases h2 with h2 | ⟨g, cap, cur, rfl, hg', hh, k⟩
  · exact .inl h2
  · exact .inr ⟨g, cap, cur, rfl, hg', (hk g rfl).trans hh, k⟩
section
variable {N : Nat} {w0 w w' : World} {v : Value} {l : List Int}
theorem Er.drew (h : Er N w0 v l w) : Er N w0 v l w.drew := ⟨h.own, h.blw.drew, h.ns⟩
theorem Er.same (h : Er N w0 v l w) (hb : Below N w w') (hg : ∀ g, v.ownBlock = some g → w'.heap[g]? = w.heap[g]?) : Er N w0 v l w' :=
  ⟨ownsRow_same h.own hg, h.blw.trans hb, Nat.le_trans h.ns hb.size⟩
theorem Er.below (h : Er N w0 v l w) (hb : Below w.heap.size w w') : Er N w0 v l w' := h.same (hb.mono h.ns) fun g hv => hb.block g (h.own.lt g hv).2
theorem Er.alloc (h : Er N w0 v l w) (o : Obj) : Er N w0 v l (w.alloc o) := h.below ((Below.refl _ w).alloc (Nat.le_refl _) o)
end

/-- While the digits are laid. -/
structure DgS (blk d nd : Nat) (p : Int) (W : World) (vals : Nat → Value) (D : Nat → Bool) (vs : Nat → Value) (w : World) : Prop where
  vals : ∀ i, D i = true → vs i = vals i
  pre : D 5 = false → w = W
  post : D 5 = true → DigAt blk d nd w ∧ Onl blk W w ∧ KeepT blk W w
theorem DgS.pure {blk d nd : Nat} {p : Int} {W w : World} {vals : Nat → Value} {D : Nat → Bool} {vs : Nat → Value} (h : DgS blk d nd p W vals D vs w) {i : Nat} {v : Value} (hi : 5 ≠ i) (hv : v = vals i) : DgS blk d nd p W vals (upd D i true) (upd vs i v) w := by
  refine ⟨fun j hj => ?_, fun hd => h.pre (by rw [upd_other _ _ hi] at hd; exact hd), fun hd => h.post (by rw [upd_other _ _ hi] at hd; exact hd)⟩
  by_cases e : j = i
  · subst e; rw [upd_same]; exact hv
  · rw [upd_other _ _ e] at hj ⊢; exact h.vals j hj
theorem DgS.call {blk d nd : Nat} {p : Int} {W w w' : World} {vals : Nat → Value} {D : Nat → Bool} {vs : Nat → Value} (h : DgS blk d nd p W vals D vs w) {v : Value} (hv : v = vals 5) (hp : DigAt blk d nd w' ∧ Onl blk W w' ∧ KeepT blk W w') : DgS blk d nd p W vals (upd D 5 true) (upd vs 5 v) w' := by
  refine ⟨fun j hj => ?_, fun hd => (by rw [upd_same] at hd; cases hd), fun _ => hp⟩
  by_cases e : j = 5
  · subst e; rw [upd_same]; exact hv
  · rw [upd_other _ _ e] at hj ⊢; exact h.vals j hj
def dgVals (blk d nd : Nat) (p : Int) (st : Nat) : Nat → Value
  | 0 => .slice (some ⟨blk, 0, none⟩) 32 32
  | 1 => .int .u64 (d : Nat)
  | 2 => .int .i64 p
  | 3 => .int .u64 (d : Nat)
  | 4 => .int .i64 (nd : Nat)
  | 5 => .tuple #[.int .i64 ((nd : Nat) + p), .int .i64 (st : Nat)]
  | 6 => .tuple #[.int .i64 ((nd : Nat) + p), .int .i64 (st : Nat)]
  | 7 => .int .i64 ((nd : Nat) + p)
  | 8 => .int .i64 (st : Nat)
  | 9 => .int .i64 ((nd : Nat) + p)
  | 10 => .int .i64 (st : Nat)
  | _ => undef

/-- The digits as whole numbers. -/
def dgD (d : Nat) (t : Nat) : Int := ((dg d (nDg d - 1 - t)).toNat : Int)
/-- The digits' text. -/
def tOut (neg : Bool) (d : Nat) (p : Int) : List Int :=
  if (nDg d : Int) + p - 1 < -4 ∨ 6 ≤ (nDg d : Int) + p - 1 then eOut neg (strip d (nDg d) (nDg d)) (dgD d) ((nDg d : Int) + p) else fOut neg (strip d (nDg d) (nDg d)) (dgD d) ((nDg d : Int) + p)
/-- fmtEFG of a number's digits. -/
theorem eft_any (N blk d : Nat) (cs : Array Value) (p : Int) (neg : Bool) (v : Value) (w0 w : World) (hE : Eo N blk cs w0 v [] w) (hd : d < 18446744073709551616) (hp1 : -370 ≤ p) (hp2 : p ≤ 370) (hD : DigAt blk d (nDg d) w) :
    Calls Tryz.prog 38 #[v, .bool neg, .slice (some ⟨blk, 0, none⟩) 32 32, .int .i64 ((nDg d : Nat) + p), .int .i64 (strip d (nDg d) (nDg d) : Nat), .int .i64 (strip d (nDg d) (nDg d) : Nat), .int .u8 103, .bool true] w fun e w' => ∃ v', e = .returned v' ∧ Er N w0 v' (tOut neg d p) w' := by
  have h20 := nDg_le hd
  have hst := strip_le d (nDg d) (nDg d)
  have hcs : ∀ t, t < strip d (nDg d) (nDg d) → cs[t]? = some (bv (dgD d t)) := fun t ht => by
    have h1 := hD t (by omega)
    rw [hE.cell] at h1
    exact h1
  unfold tOut
  split
  · rename_i hc
    refine (efe_any N blk _ cs _ _ neg v w0 w hE hcs (by omega) (by omega) (by omega) hc).mono ?_
    rintro e w1 ⟨v', rfl, h⟩
    exact ⟨v', rfl, h.er⟩
  · rename_i hc
    refine (eff_any N blk _ cs _ _ neg v w0 w hE hcs (by omega) (by omega) (by omega)).mono ?_
    rintro e w1 ⟨v', rfl, h⟩
    exact ⟨v', rfl, h.er⟩

set_option maxRecDepth 100000 in
set_option maxHeartbeats 4000000 in
theorem fti_nan (N k M : Nat) (ng : Bool) (eE : bits .and .i64 (IntKind.i64.wrap ((k : Int) / 4503599627370496)) 2047 = ((2047 : Nat) : Int)) (eM : bits .and .u64 (k : Int) 4503599627370495 = (M : Int)) (eng : ((k : Int) / 9223372036854775808 != 0) = ng) (h0 : 0 < M) (hM : M ≤ 4503599627370495)
    (w0 w : World) (v : Value) (hR : Er N w0 v [] w) : Calls Tryz.prog 28 #[v, .float .f64 k, .int .u8 103, .int .i64 (-1)] w fun e w' => ∃ v', e = .returned v' ∧ Er N w0 v' [78, 97, 78] w' := by
  obtain ⟨i0, hi, hz0, hz1, hz2⟩ := info_parts u8Info
  have hm : Tryz.prog.follows .mixedOrders = true := by kernel_rfl

  have wr1 : IntKind.i64.wrap 2048 = 2048 := by rfl
  have wr2 : IntKind.i64.wrap 2047 = 2047 := by rfl
  have hR := Hid.mk hR.drew
  (try subst h0); (try subst hn)
  have hn1 : (0 : Nat) < M → ((M : Int) != 0) = true := fun h => by rw [bne, beq_ne (by omega)]; rfl
  (try replace hn1 := hn1 h0)
  go_enter Tryz.func28, Tryz.ntmps28
  have hfb := run_fb k
  go_wp2_with (fail)
  refine Go.Ev.wp_region_planE (fun v => v = w.drew) hm (by kernel_rfl) (by kernel_rfl) rfl ?_
  iterate 9
    refine Go.Ev.planE_cons _ (by rintro v K rfl hK; go_simp; exact hK _ rfl) ?_
    simp only [Act.put, List.setIfInBounds_toArray, List.set_cons_succ, List.set_cons_zero]
  rintro w1 rfl
  go_upto_region 16 with fail
  go_wp2_with (at_builtin; refine Lib.wpList_append_own_string _ rfl _ _ 45 9 rfl N 5 i0 Tryz.underlying45 Tryz.underlying9 hi hz0 hz1 hz2 _ _ _ rfl hR.out.own _ rfl ?c3 ?c4 ?c5 ?_)
  case c3 => exact of_decide_eq_true (by kernel_rfl)
  case c4 => exact of_decide_eq_true (by kernel_rfl)
  case c5 => exact hR.out.ns
  intro v' w1 hown' hgrow _
  have hE1 := hR.out.app0 (xs := [78, 97, 78]) hown' hgrow
  clear hown' hgrow
  go_wp2_with (fail)
  go_ret
  exact ⟨_, rfl, hE1⟩

set_option maxRecDepth 100000 in
set_option maxHeartbeats 4000000 in
theorem fti_neg (N k M : Nat) (ng : Bool) (eE : bits .and .i64 (IntKind.i64.wrap ((k : Int) / 4503599627370496)) 2047 = ((2047 : Nat) : Int)) (eM : bits .and .u64 (k : Int) 4503599627370495 = (M : Int)) (eng : ((k : Int) / 9223372036854775808 != 0) = ng) (h0 : M = 0) (hn : ng = true)
    (w0 w : World) (v : Value) (hR : Er N w0 v [] w) : Calls Tryz.prog 28 #[v, .float .f64 k, .int .u8 103, .int .i64 (-1)] w fun e w' => ∃ v', e = .returned v' ∧ Er N w0 v' [45, 73, 110, 102] w' := by
  obtain ⟨i0, hi, hz0, hz1, hz2⟩ := info_parts u8Info
  have hm : Tryz.prog.follows .mixedOrders = true := by kernel_rfl

  have wr1 : IntKind.i64.wrap 2048 = 2048 := by rfl
  have wr2 : IntKind.i64.wrap 2047 = 2047 := by rfl
  have hR := Hid.mk hR.drew
  (try subst h0); (try subst hn)
  go_enter Tryz.func28, Tryz.ntmps28
  have hfb := run_fb k
  go_wp2_with (fail)
  refine Go.Ev.wp_region_planE (fun v => v = w.drew) hm (by kernel_rfl) (by kernel_rfl) rfl ?_
  iterate 9
    refine Go.Ev.planE_cons _ (by rintro v K rfl hK; go_simp; exact hK _ rfl) ?_
    simp only [Act.put, List.setIfInBounds_toArray, List.set_cons_succ, List.set_cons_zero]
  rintro w1 rfl
  go_upto_region 16 with fail
  go_wp2_with (at_builtin; refine Lib.wpList_append_own_string _ rfl _ _ 45 9 rfl N 5 i0 Tryz.underlying45 Tryz.underlying9 hi hz0 hz1 hz2 _ _ _ rfl hR.out.own _ rfl ?c3 ?c4 ?c5 ?_)
  case c3 => exact of_decide_eq_true (by kernel_rfl)
  case c4 => exact of_decide_eq_true (by kernel_rfl)
  case c5 => exact hR.out.ns
  intro v' w1 hown' hgrow _
  have hE1 := hR.out.app0 (xs := [45, 73, 110, 102]) hown' hgrow
  clear hown' hgrow
  go_wp2_with (fail)
  go_ret
  exact ⟨_, rfl, hE1⟩

set_option maxRecDepth 100000 in
set_option maxHeartbeats 4000000 in
theorem fti_pos (N k M : Nat) (ng : Bool) (eE : bits .and .i64 (IntKind.i64.wrap ((k : Int) / 4503599627370496)) 2047 = ((2047 : Nat) : Int)) (eM : bits .and .u64 (k : Int) 4503599627370495 = (M : Int)) (eng : ((k : Int) / 9223372036854775808 != 0) = ng) (h0 : M = 0) (hn : ng = false)
    (w0 w : World) (v : Value) (hR : Er N w0 v [] w) : Calls Tryz.prog 28 #[v, .float .f64 k, .int .u8 103, .int .i64 (-1)] w fun e w' => ∃ v', e = .returned v' ∧ Er N w0 v' [43, 73, 110, 102] w' := by
  obtain ⟨i0, hi, hz0, hz1, hz2⟩ := info_parts u8Info
  have hm : Tryz.prog.follows .mixedOrders = true := by kernel_rfl

  have wr1 : IntKind.i64.wrap 2048 = 2048 := by rfl
  have wr2 : IntKind.i64.wrap 2047 = 2047 := by rfl
  have hR := Hid.mk hR.drew
  (try subst h0); (try subst hn)
  go_enter Tryz.func28, Tryz.ntmps28
  have hfb := run_fb k
  go_wp2_with (fail)
  refine Go.Ev.wp_region_planE (fun v => v = w.drew) hm (by kernel_rfl) (by kernel_rfl) rfl ?_
  iterate 9
    refine Go.Ev.planE_cons _ (by rintro v K rfl hK; go_simp; exact hK _ rfl) ?_
    simp only [Act.put, List.setIfInBounds_toArray, List.set_cons_succ, List.set_cons_zero]
  rintro w1 rfl
  go_upto_region 16 with fail
  go_wp2_with (at_builtin; refine Lib.wpList_append_own_string _ rfl _ _ 45 9 rfl N 5 i0 Tryz.underlying45 Tryz.underlying9 hi hz0 hz1 hz2 _ _ _ rfl hR.out.own _ rfl ?c3 ?c4 ?c5 ?_)
  case c3 => exact of_decide_eq_true (by kernel_rfl)
  case c4 => exact of_decide_eq_true (by kernel_rfl)
  case c5 => exact hR.out.ns
  intro v' w1 hown' hgrow _
  have hE1 := hR.out.app0 (xs := [43, 73, 110, 102]) hown' hgrow
  clear hown' hgrow
  go_wp2_with (fail)
  go_ret
  exact ⟨_, rfl, hE1⟩
end Go.Proofs.YtpbombkmnfbcgaaGreatDoor
