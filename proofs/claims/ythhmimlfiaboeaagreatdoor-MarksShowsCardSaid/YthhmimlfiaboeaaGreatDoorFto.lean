/- The text of a float: some bytes, the same in every world. The text of a float: its shortest digits, the same in every world. -/
import Derived.Test.YthhmimlfiaboeaaGreatDoorEff
import Derived.Test.YthhmimlfiaboeaaGreatDoorEfo
import Derived.Test.YthhmimlfiaboeaaGreatDoorEfe
import Derived.Test.YthhmimlfiaboeaaGreatDoorPln
import Derived.Test.YthhmimlfiaboeaaGreatDoorShj
namespace Go.Proofs.YthhmimlfiaboeaaGreatDoor
open Go.RowKit Go.Lib Go.Ev

theorem and2047 (x : Int) : ∃ k : Nat, k ≤ 2047 ∧ bits .and .i64 x 2047 = (k : Int) := by
  refine ⟨(BitVec.ofInt 64 x).toNat &&& 2047, ?_, ?_⟩
  · have := Nat.and_le_right (n := (BitVec.ofInt 64 x).toNat) (m := 2047); omega
  · have h2 : (BitVec.ofInt 64 (2047 : Int)).toNat = 2047 := by decide
    show IntKind.i64.wrap ((BitVec.ofInt 64 x &&& BitVec.ofInt 64 2047).toNat : Int) = _
    rw [BitVec.toNat_and, h2]
    have := Nat.and_le_right (n := (BitVec.ofInt 64 x).toNat) (m := 2047)
    exact wi64 (by omega) (by omega)
theorem and52 (x : Int) : ∃ k : Nat, k ≤ 4503599627370495 ∧ bits .and .u64 x 4503599627370495 = (k : Int) := by
  refine ⟨(BitVec.ofInt 64 x).toNat &&& 4503599627370495, ?_, ?_⟩
  · have := Nat.and_le_right (n := (BitVec.ofInt 64 x).toNat) (m := 4503599627370495); omega
  · have h2 : (BitVec.ofInt 64 (4503599627370495 : Int)).toNat = 4503599627370495 := by decide
    show IntKind.u64.wrap ((BitVec.ofInt 64 x &&& BitVec.ofInt 64 4503599627370495).toNat : Int) = _
    rw [BitVec.toNat_and, h2]
    have := Nat.and_le_right (n := (BitVec.ofInt 64 x).toNat) (m := 4503599627370495)
    obtain ⟨c, hc⟩ : ∃ c, (BitVec.ofInt 64 x).toNat &&& 4503599627370495 = c := ⟨_, rfl⟩
    rw [hc] at this ⊢
    exact wu64 (by omega) (by omega)
theorem or52 (m : Nat) (h : m ≤ 4503599627370495) : ∃ k : Nat, k < 9007199254740992 ∧ bits .or .u64 (m : Nat) 4503599627370496 = (k : Int) := by
  refine ⟨m ||| 4503599627370496, ?_, ?_⟩
  · exact Nat.or_lt_two_pow (n := 53) (by omega) (by omega)
  · have hlt : m ||| 4503599627370496 < 2 ^ 53 := Nat.or_lt_two_pow (n := 53) (by omega) (by omega)
    have h1 : (BitVec.ofInt 64 (m : Int)).toNat = m := by simp; omega
    have h2 : (BitVec.ofInt 64 (4503599627370496 : Int)).toNat = 4503599627370496 := by decide
    show IntKind.u64.wrap ((BitVec.ofInt 64 (m : Int) ||| BitVec.ofInt 64 4503599627370496).toNat : Int) = _
    rw [BitVec.toNat_or, h1, h2]
    obtain ⟨c, hc⟩ : ∃ c, m ||| 4503599627370496 = c := ⟨_, rfl⟩
    rw [hc] at hlt ⊢
    exact wu64 (by omega) (by omega)

theorem norm64 {x : Nat} (h0 : x ≠ 0) (hx : x < 9007199254740992) : ∃ q b : Nat, Lib.bitLen x = b ∧ b ≤ 53 ∧ (64 : Int) - (b : Int) = (q : Int) ∧ q ≤ 63 ∧ 11 ≤ q ∧ 9223372036854775808 ≤ x * 2 ^ q ∧ x * 2 ^ q < 18446744073709551616 := by
  obtain ⟨h1, h2, h3⟩ := bl_norm x h0 (by omega)
  have h53 := Lib.bitLen_le x 53 (by omega) (by omega)
  obtain ⟨b, hb⟩ : ∃ b, Lib.bitLen x = b := ⟨_, rfl⟩
  rw [hb] at h1 h2 h3 h53
  refine ⟨64 - b, b, hb, h53, by omega, by omega, by omega, ?_, ?_⟩
  · have := Nat.mul_le_mul_right (2 ^ (64 - b)) h2
    rw [← Nat.pow_add, show b - 1 + (64 - b) = 63 by omega] at this
    omega
  · have := Nat.mul_lt_mul_of_pos_right h3 (show 0 < 2 ^ (64 - b) from Nat.two_pow_pos _)
    rw [← Nat.pow_add, show b + (64 - b) = 64 by omega] at this
    omega

theorem ownsRow_same {w w' : World} {base : Nat} {e : TypeId} {size n : Nat} {v : Value} {xs : List Value} (h : w.ownsRow base e size v n xs) (hk : ∀ g, v.ownBlock = some g → w'.heap[g]? = w.heap[g]?) : w'.ownsRow base e size v n xs := by
  obtain ⟨h1, h2⟩ := h
  refine ⟨h1, ?_⟩
  rcases h2 with h2 | ⟨g, cap, cur, rfl, hg', hh, k⟩
  · exact .inl h2
  · exact .inr ⟨g, cap, cur, rfl, hg', (hk g rfl).trans hh, k⟩
section
variable {N : Nat} {w0 w w' : World} {v : Value} {l : List Int}
theorem Er.drew (h : Er N w0 v l w) : Er N w0 v l w.drew := ⟨h.own, h.blw.drew, h.ns⟩
theorem Er.same (h : Er N w0 v l w) (hb : Below N w w') (hg : ∀ g, v.ownBlock = some g → w'.heap[g]? = w.heap[g]?) : Er N w0 v l w' :=
  ⟨ownsRow_same h.own hg, h.blw.trans hb, Nat.le_trans h.ns hb.size⟩
theorem Er.below (h : Er N w0 v l w) (hb : Below w.heap.size w w') : Er N w0 v l w' := h.same (hb.mono h.ns) fun g hv => hb.block g (h.own.lt g hv).2
theorem Er.alloc (h : Er N w0 v l w) (o : Obj) : Er N w0 v l (w.alloc o) := h.below ((Below.refl _ w).alloc (Nat.le_refl _) o)
end

/-- While the digits are laid. -/
structure DgS (blk d nd : Nat) (p : Int) (W : World) (vals : Nat → Value) (D : Nat → Bool) (vs : Nat → Value) (w : World) : Prop where
  vals : ∀ i, D i = true → vs i = vals i
  pre : D 5 = false → w = W
  post : D 5 = true → DigAt blk d nd w ∧ Onl blk W w ∧ KeepT blk W w
theorem DgS.pure {blk d nd : Nat} {p : Int} {W w : World} {vals : Nat → Value} {D : Nat → Bool} {vs : Nat → Value} (h : DgS blk d nd p W vals D vs w) {i : Nat} {v : Value} (hi : 5 ≠ i) (hv : v = vals i) : DgS blk d nd p W vals (upd D i true) (upd vs i v) w := by
  refine ⟨fun j hj => ?_, fun hd => h.pre (by rw [upd_other _ _ hi] at hd; exact hd), fun hd => h.post (by rw [upd_other _ _ hi] at hd; exact hd)⟩
  by_cases e : j = i
  · subst e; rw [upd_same]; exact hv
  · rw [upd_other _ _ e] at hj ⊢; exact h.vals j hj
theorem DgS.call {blk d nd : Nat} {p : Int} {W w w' : World} {vals : Nat → Value} {D : Nat → Bool} {vs : Nat → Value} (h : DgS blk d nd p W vals D vs w) {v : Value} (hv : v = vals 5) (hp : DigAt blk d nd w' ∧ Onl blk W w' ∧ KeepT blk W w') : DgS blk d nd p W vals (upd D 5 true) (upd vs 5 v) w' := by
  refine ⟨fun j hj => ?_, fun hd => (by rw [upd_same] at hd; cases hd), fun _ => hp⟩
  by_cases e : j = 5
  · subst e; rw [upd_same]; exact hv
  · rw [upd_other _ _ e] at hj ⊢; exact h.vals j hj
def dgVals (blk d nd : Nat) (p : Int) (st : Nat) : Nat → Value
  | 0 => .slice (some ⟨blk, 0, none⟩) 32 32
  | 1 => .int .u64 (d : Nat)
  | 2 => .int .i64 p
  | 3 => .int .u64 (d : Nat)
  | 4 => .int .i64 (nd : Nat)
  | 5 => .tuple #[.int .i64 ((nd : Nat) + p), .int .i64 (st : Nat)]
  | 6 => .tuple #[.int .i64 ((nd : Nat) + p), .int .i64 (st : Nat)]
  | 7 => .int .i64 ((nd : Nat) + p)
  | 8 => .int .i64 (st : Nat)
  | 9 => .int .i64 ((nd : Nat) + p)
  | 10 => .int .i64 (st : Nat)
  | _ => undef

/-- The digits as whole numbers. -/
def dgD (d : Nat) (t : Nat) : Int := ((dg d (nDg d - 1 - t)).toNat : Int)
/-- The digits' text. -/
def tOut (neg : Bool) (d : Nat) (p : Int) : List Int :=
  if (nDg d : Int) + p - 1 < -4 ∨ 6 ≤ (nDg d : Int) + p - 1 then eOut neg (strip d (nDg d) (nDg d)) (dgD d) ((nDg d : Int) + p) else fOut neg (strip d (nDg d) (nDg d)) (dgD d) ((nDg d : Int) + p)
/-- fmtEFG of a number's digits. -/
theorem eft_any (N blk d : Nat) (cs : Array Value) (p : Int) (neg : Bool) (v : Value) (w0 w : World) (hE : Eo N blk cs w0 v [] w) (hd : d < 18446744073709551616) (hp1 : -370 ≤ p) (hp2 : p ≤ 370) (hD : DigAt blk d (nDg d) w) :
    Calls Tryz.prog 37 #[v, .bool neg, .slice (some ⟨blk, 0, none⟩) 32 32, .int .i64 ((nDg d : Nat) + p), .int .i64 (strip d (nDg d) (nDg d) : Nat), .int .i64 (strip d (nDg d) (nDg d) : Nat), .int .u8 103, .bool true] w fun e w' => ∃ v', e = .returned v' ∧ Er N w0 v' (tOut neg d p) w' := by
  have h20 := nDg_le hd
  have hst := strip_le d (nDg d) (nDg d)
  have hcs : ∀ t, t < strip d (nDg d) (nDg d) → cs[t]? = some (bv (dgD d t)) := fun t ht => by
    have h1 := hD t (by omega)
    rw [hE.cell] at h1
    exact h1
  unfold tOut
  split
  · rename_i hc
    refine (efe_any N blk _ cs _ _ neg v w0 w hE hcs (by omega) (by omega) (by omega) hc).mono ?_
    rintro e w1 ⟨v', rfl, h⟩
    exact ⟨v', rfl, h.er⟩
  · rename_i hc
    refine (eff_any N blk _ cs _ _ neg v w0 w hE hcs (by omega) (by omega) (by omega)).mono ?_
    rintro e w1 ⟨v', rfl, h⟩
    exact ⟨v', rfl, h.er⟩

set_option maxRecDepth 100000 in
set_option maxHeartbeats 4000000 in
theorem fti_nan (N k M : Nat) (ng : Bool) (eE : bits .and .i64 (IntKind.i64.wrap ((k : Int) / 4503599627370496)) 2047 = ((2047 : Nat) : Int)) (eM : bits .and .u64 (k : Int) 4503599627370495 = (M : Int)) (eng : ((k : Int) / 9223372036854775808 != 0) = ng) (h0 : 0 < M) (hM : M ≤ 4503599627370495)
    (w0 w : World) (v : Value) (hR : Er N w0 v [] w) : Calls Tryz.prog 27 #[v, .float .f64 k, .int .u8 103, .int .i64 (-1)] w fun e w' => ∃ v', e = .returned v' ∧ Er N w0 v' [78, 97, 78] w' := by
  obtain ⟨i0, hi, hz0, hz1, hz2⟩ := info_parts u8Info
  have hm : Tryz.prog.follows .mixedOrders = true := by kernel_rfl

  have wr1 : IntKind.i64.wrap 2048 = 2048 := by rfl
  have wr2 : IntKind.i64.wrap 2047 = 2047 := by rfl
  have hR := Hid.mk hR.drew
  (try subst h0); (try subst hn)
  have hn1 : (0 : Nat) < M → ((M : Int) != 0) = true := fun h => by rw [bne, beq_ne (by omega)]; rfl
  (try replace hn1 := hn1 h0)
  go_enter Tryz.func27, Tryz.ntmps27
  have hfb := run_fb k
  go_wp2_with (fail)
  refine Go.Ev.wp_region_planE (fun v => v = w.drew) hm (by kernel_rfl) (by kernel_rfl) rfl ?_
  iterate 9
    refine Go.Ev.planE_cons _ (by rintro v K rfl hK; go_simp; exact hK _ rfl) ?_
    simp only [Act.put, List.setIfInBounds_toArray, List.set_cons_succ, List.set_cons_zero]
  rintro w1 rfl
  go_upto_region 16 with fail
  go_wp2_with (at_builtin; refine Lib.wpList_append_own_string _ rfl _ _ 47 9 rfl N 5 i0 Tryz.underlying47 Tryz.underlying9 hi hz0 hz1 hz2 _ _ _ rfl hR.out.own _ rfl ?c3 ?c4 ?c5 ?_)
  case c3 => exact of_decide_eq_true (by kernel_rfl)
  case c4 => exact of_decide_eq_true (by kernel_rfl)
  case c5 => exact hR.out.ns
  intro v' w1 hown' hgrow _
  have hE1 := hR.out.app0 (xs := [78, 97, 78]) hown' hgrow
  clear hown' hgrow
  go_wp2_with (fail)
  go_ret
  exact ⟨_, rfl, hE1⟩

set_option maxRecDepth 100000 in
set_option maxHeartbeats 4000000 in
theorem fti_neg (N k M : Nat) (ng : Bool) (eE : bits .and .i64 (IntKind.i64.wrap ((k : Int) / 4503599627370496)) 2047 = ((2047 : Nat) : Int)) (eM : bits .and .u64 (k : Int) 4503599627370495 = (M : Int)) (eng : ((k : Int) / 9223372036854775808 != 0) = ng) (h0 : M = 0) (hn : ng = true)
    (w0 w : World) (v : Value) (hR : Er N w0 v [] w) : Calls Tryz.prog 27 #[v, .float .f64 k, .int .u8 103, .int .i64 (-1)] w fun e w' => ∃ v', e = .returned v' ∧ Er N w0 v' [45, 73, 110, 102] w' := by
  obtain ⟨i0, hi, hz0, hz1, hz2⟩ := info_parts u8Info
  have hm : Tryz.prog.follows .mixedOrders = true := by kernel_rfl

  have wr1 : IntKind.i64.wrap 2048 = 2048 := by rfl
  have wr2 : IntKind.i64.wrap 2047 = 2047 := by rfl
  have hR := Hid.mk hR.drew
  (try subst h0); (try subst hn)
  go_enter Tryz.func27, Tryz.ntmps27
  have hfb := run_fb k
  go_wp2_with (fail)
  refine Go.Ev.wp_region_planE (fun v => v = w.drew) hm (by kernel_rfl) (by kernel_rfl) rfl ?_
  iterate 9
    refine Go.Ev.planE_cons _ (by rintro v K rfl hK; go_simp; exact hK _ rfl) ?_
    simp only [Act.put, List.setIfInBounds_toArray, List.set_cons_succ, List.set_cons_zero]
  rintro w1 rfl
  go_upto_region 16 with fail
  go_wp2_with (at_builtin; refine Lib.wpList_append_own_string _ rfl _ _ 47 9 rfl N 5 i0 Tryz.underlying47 Tryz.underlying9 hi hz0 hz1 hz2 _ _ _ rfl hR.out.own _ rfl ?c3 ?c4 ?c5 ?_)
  case c3 => exact of_decide_eq_true (by kernel_rfl)
  case c4 => exact of_decide_eq_true (by kernel_rfl)
  case c5 => exact hR.out.ns
  intro v' w1 hown' hgrow _
  have hE1 := hR.out.app0 (xs := [45, 73, 110, 102]) hown' hgrow
  clear hown' hgrow
  go_wp2_with (fail)
  go_ret
  exact ⟨_, rfl, hE1⟩

set_option maxRecDepth 100000 in
set_option maxHeartbeats 4000000 in
theorem fti_pos (N k M : Nat) (ng : Bool) (eE : bits .and .i64 (IntKind.i64.wrap ((k : Int) / 4503599627370496)) 2047 = ((2047 : Nat) : Int)) (eM : bits .and .u64 (k : Int) 4503599627370495 = (M : Int)) (eng : ((k : Int) / 9223372036854775808 != 0) = ng) (h0 : M = 0) (hn : ng = false)
    (w0 w : World) (v : Value) (hR : Er N w0 v [] w) : Calls Tryz.prog 27 #[v, .float .f64 k, .int .u8 103, .int .i64 (-1)] w fun e w' => ∃ v', e = .returned v' ∧ Er N w0 v' [43, 73, 110, 102] w' := by
  obtain ⟨i0, hi, hz0, hz1, hz2⟩ := info_parts u8Info
  have hm : Tryz.prog.follows .mixedOrders = true := by kernel_rfl

  have wr1 : IntKind.i64.wrap 2048 = 2048 := by rfl
  have wr2 : IntKind.i64.wrap 2047 = 2047 := by rfl
  have hR := Hid.mk hR.drew
  (try subst h0); (try subst hn)
  go_enter Tryz.func27, Tryz.ntmps27
  have hfb := run_fb k
  go_wp2_with (fail)
  refine Go.Ev.wp_region_planE (fun v => v = w.drew) hm (by kernel_rfl) (by kernel_rfl) rfl ?_
  iterate 9
    refine Go.Ev.planE_cons _ (by rintro v K rfl hK; go_simp; exact hK _ rfl) ?_
    simp only [Act.put, List.setIfInBounds_toArray, List.set_cons_succ, List.set_cons_zero]
  rintro w1 rfl
  go_upto_region 16 with fail
  go_wp2_with (at_builtin; refine Lib.wpList_append_own_string _ rfl _ _ 47 9 rfl N 5 i0 Tryz.underlying47 Tryz.underlying9 hi hz0 hz1 hz2 _ _ _ rfl hR.out.own _ rfl ?c3 ?c4 ?c5 ?_)
  case c3 => exact of_decide_eq_true (by kernel_rfl)
  case c4 => exact of_decide_eq_true (by kernel_rfl)
  case c5 => exact hR.out.ns
  intro v' w1 hown' hgrow _
  have hE1 := hR.out.app0 (xs := [43, 73, 110, 102]) hown' hgrow
  clear hown' hgrow
  go_wp2_with (fail)
  go_ret
  exact ⟨_, rfl, hE1⟩
end Go.Proofs.YthhmimlfiaboeaaGreatDoor

namespace Go.Proofs.YthhmimlfiaboeaaGreatDoor
open Go.RowKit Go.Lib Go.Ev

theorem DgS.same {blk d nd : Nat} {p : Int} {W w w0 : World} {vals : Nat → Value} {D : Nat → Bool} {vs : Nat → Value} (h : DgS blk d nd p W vals D vs w) (hB : Below blk w0 W) (hs : blk ≤ W.heap.size) : ∀ i, i < blk → w.heap[i]? = w0.heap[i]? := by
  intro i hi
  cases h5 : D 5 with
  | false => rw [h.pre h5]; exact hB.block i hi
  | true => exact ((h.post h5).2.1.block i (Nat.lt_of_lt_of_le hi hs) (fun e => (by cases e; omega))).trans (hB.block i hi)
theorem tabIs_same {w w' : World} {n : Nat} {zs : List Int} (h : TabIs Tryz.prog w "internal/strconv.uint64pow10" .u64 zs) (hb : ∀ i, i < n → w'.heap[i]? = w.heap[i]?) (hn : 4 < n) : TabIs Tryz.prog w' "internal/strconv.uint64pow10" .u64 zs := by
  unfold TabIs at h ⊢
  rw [← h]
  have hg : Tryz.prog.globalNamed "internal/strconv.uint64pow10" = some 4 := by kernel_rfl
  unfold World.var?
  rw [hg]
  simp only [Option.bind_some]
  rw [hb _ hn]
theorem zero_cells {w : World} {b : Nat} (h : w.heap[b]? = some (.cells (Array.replicate 32 (.int .u8 0)) 63 (0, 0))) : ∀ j, j < 32 → w.cell? ⟨b, j, none⟩ = some (.int .u8 0) ∧ w.frozen? ⟨b, j, none⟩ = false := by
  intro j hj
  refine ⟨?_, ?_⟩
  · simp [World.cell?, h, hj]
  · simp [World.frozen?, h]
theorem eo_of {N blk : Nat} {w0 w w' : World} {v : Value} {cs : Array Value} (h : Er N w0 v [] w) (hO : Onl blk w w') (hcs : w'.heap[blk]? = some (.cells cs 63 (0, 0))) (hlt : ∀ g, v.ownBlock = some g → g < blk) (hNb : N ≤ blk) : Eo N blk cs w0 v [] w' :=
  ⟨ownsRow_same h.own fun g hv => hO.block g (h.own.lt g hv).2 (fun e => (by cases e; have := hlt _ hv; omega)), hcs, h.blw.trans (hO.blw hNb h.ns), Nat.le_trans h.ns hO.size⟩

/-- Shortest digits of a number: they lie in its rounding interval. -/
def TxtOf (m0 n d : Nat) (p : Int) : Prop := ∃ q I : Nat, p = 348 - (I : Int) + (q : Int) ∧ 0 < d ∧ d < 100000000000000000 ∧ q ≤ 1 ∧ 56 ≤ I ∧ I ≤ 672 ∧ Us.Ins m0 n (d * 10 ^ (696 - I + q))
theorem q_eleven {mt q : Nat} (h : 4503599627370496 ≤ mt) (h2 : mt * 2 ^ q < 18446744073709551616) (h3 : 11 ≤ q) : q = 11 := by
  rcases Nat.lt_or_ge 11 q with h4 | h4
  · exfalso
    have h12 : 2 ^ 12 ≤ 2 ^ q := Nat.pow_le_pow_right (by decide) h4
    have := Nat.mul_le_mul h h12
    omega
  · omega

/-- What a finite float's word says: its significand, its place. -/
structure Parts (E M mt n : Nat) : Prop where
  lt : M ≤ 4503599627370495
  le : E ≤ 2046
  sub : E = 0 → mt = M ∧ n = 0
  nor : E ≠ 0 → mt = M + 4503599627370496 ∧ n + 1 = E
theorem Parts.fin {E M mt n : Nat} (h : Parts E M mt n) (h0 : mt ≠ 0) : Us.Fin64 mt n := by
  obtain ⟨a, b, c, d⟩ := h
  by_cases hE : E = 0
  · obtain ⟨rfl, rfl⟩ := c hE
    exact ⟨by omega, by omega, by omega, fun h => by omega⟩
  · obtain ⟨rfl, hn⟩ := d hE
    exact ⟨by omega, by omega, by omega, fun h => by omega⟩
theorem or52_is (M : Nat) (h : M ≤ 4503599627370495) : bits .or .u64 (M : Nat) 4503599627370496 = ((M + 4503599627370496 : Nat) : Int) := by
  have h1 : (BitVec.ofInt 64 (M : Int)).toNat = M := by simp; omega
  have h2 : (BitVec.ofInt 64 (4503599627370496 : Int)).toNat = 4503599627370496 := by decide
  show IntKind.u64.wrap ((BitVec.ofInt 64 (M : Int) ||| BitVec.ofInt 64 4503599627370496).toNat : Int) = _
  rw [BitVec.toNat_or, h1, h2]
  have h3 := Nat.two_pow_add_eq_or_of_lt (i := 52) (b := M) (by omega) 1
  rw [show 2 ^ 52 * 1 = 4503599627370496 from rfl] at h3
  have h4 : M ||| 4503599627370496 = M + 4503599627370496 := by rw [Nat.or_comm, ← h3, Nat.add_comm]
  rw [h4]
  exact wu64 (by omega) (by omega)

set_option maxRecDepth 100000 in
set_option maxHeartbeats 8000000 in
theorem ftf_is (N k E M mt n : Nat) (ng : Bool) (eE : bits .and .i64 (IntKind.i64.wrap ((k : Int) / 4503599627370496)) 2047 = (E : Int)) (eM : bits .and .u64 (k : Int) 4503599627370495 = (M : Int)) (eng : ((k : Int) / 9223372036854775808 != 0) = ng)
    (hPt : Parts E M mt n) (hgN : 4 < N) (hm0 : mt ≠ 0) :
    ∃ d p, TxtOf mt n d p ∧ ∀ (w0 w : World) (v : Value), TabAt Us.tHi Us.tLo N w → TabIs Tryz.prog w "internal/strconv.uint64pow10" .u64 Lib.pow10Tab → Er N w0 v [] w → Calls Tryz.prog 27 #[v, .float .f64 k, .int .u8 103, .int .i64 (-1)] w fun e w' => ∃ v', e = .returned v' ∧ Er N w0 v' (tOut ng d p) w' := by
  have hm : Tryz.prog.follows .mixedOrders = true := by kernel_rfl

  have wr1 : IntKind.i64.wrap 2048 = 2048 := by rfl
  have wr2 : IntKind.i64.wrap 2047 = 2047 := by rfl
  have hF := hPt.fin hm0
  obtain ⟨hM, hE, hP0, hP1⟩ := hPt
  have eM2 := or52_is M hM
  obtain ⟨M2, hM2'⟩ : ∃ M2, M + 4503599627370496 = M2 := ⟨_, rfl⟩
  rw [hM2'] at eM2 hP1
  have hM2 : M2 < 9007199254740992 := by omega
  obtain ⟨Y, hY0, hY1, hYn⟩ : ∃ Y : Nat, (E = 0 → Y = 1 ∧ mt = M) ∧ (E ≠ 0 → Y = E ∧ mt = M2) ∧ Y = n + 1 := by
    by_cases h : E = 0
    · exact ⟨1, fun _ => ⟨rfl, (hP0 h).1⟩, fun h' => absurd h h', by rw [(hP0 h).2]⟩
    · exact ⟨E, fun h' => absurd h' h, fun _ => ⟨rfl, (hP1 h).1⟩, ((hP1 h).2).symm⟩
  have hmt : mt < 9007199254740992 ∧ 1 ≤ Y ∧ Y ≤ 2046 := by
    have h1 := hF.lt
    have h2 := hF.le
    omega
  obtain ⟨hmt, hYa, hYb⟩ := hmt
  have hnorm := hF.norm
  have hEi : (E : Int) ≤ 2046 := by omega
  have hE47 : ((E : Int) == 2047) = false := beq_ne (by omega)
  clear hM hP0 hP1 hM2'
  obtain ⟨q, b, hb, hb53, hq, hq63, hq11, hn1, hn2⟩ := norm64 hm0 hmt
  obtain ⟨n1, hn⟩ : ∃ n1, mt * 2 ^ q = n1 := ⟨_, rfl⟩
  have en : IntKind.u64.wrap ((mt : Int) * 2 ^ q) = (n1 : Int) := by
    have e1 : ((mt * 2 ^ q : Nat) : Int) = (mt : Int) * 2 ^ q := by push_cast; rfl
    rw [← e1, hn]
    exact wu64 (by omega) (by omega)
  have hq1 : 0 < n → q = 11 := fun h => q_eleven (hnorm h) hn2 hq11
  rw [hn] at hn1 hn2
  obtain ⟨d, q1, I, hS, g1, g2, g3, g4, g5, g6⟩ := sho_is N mt n q n1 ((Y : Int) + -1023 - (q : Int) - 52) hF hq11 hq63 hq1 (by rw [← hn, Nat.mul_comm]) hn1 hn2 (by omega)
  unfold ShoSays at hS
  obtain ⟨p, hp⟩ : ∃ p : Int, 348 - (I : Int) + (q1 : Int) = p := ⟨_, rfl⟩
  rw [hp] at hS
  refine ⟨d, p, ⟨q1, I, hp.symm, g1, g2, g3, g4, g5, g6⟩, fun w0 w v hT hU hR => ?_⟩
  have hd : d < 18446744073709551616 := by omega
  have hp1 : -370 ≤ p := by omega
  have hp2 : p ≤ 370 := by omega
  clear hp g1 g2 g3 g4 g5 g6 hq1 hF hnorm hYn
  have hR := Hid.mk hR
  have hSH := Hid.mk hS
  have hTH := Hid.mk hT
  have hUH := Hid.mk hU
  clear hT hU hS hn
  go_enter Tryz.func27, Tryz.ntmps27
  have hfb := run_fb k
  go_wp2_with (fail)
  refine Go.Ev.wp_region_planE (fun v => v = w.drew) hm (by kernel_rfl) (by kernel_rfl) rfl ?_
  iterate 9
    refine Go.Ev.planE_cons _ (by rintro v K rfl hK; go_simp; exact hK _ rfl) ?_
    simp only [Act.put, List.setIfInBounds_toArray, List.set_cons_succ, List.set_cons_zero]
  rintro w1 rfl
  go_upto_if 78 with fail
  go_cut [14, 15] (fun x y wr => wr = w.drew ∧ x = .int .i64 (Y : Nat) ∧ y = .int .u64 (mt : Nat))
  case first => as_aux_lemma =>
    clear hR hSH hTH hUH en hn1 hn2 hb hq
    by_cases h : E = 0
    · obtain ⟨rfl, rfl⟩ := hY0 h
      subst h
      clear hY0 hY1 eM2 hE47 hmt hYa hYb  hM2 eM eE eng hm hE hEi hfb wr1 wr2 hm0
      go_wp2_with (fail)
      go_meet
      exact ⟨rfl, rfl, rfl⟩
    · obtain ⟨rfl, rfl⟩ := hY1 h
      have hE0 : ((Y : Int) == 0) = false := beq_ne (by omega)
      clear hY0 hY1  hM2 eM eE eng hm hE hEi hfb wr1 wr2 hm0 hmt hYa hYb hE47 h
      go_wp2_with (fail)
      go_meet
      exact ⟨rfl, rfl, rfl⟩
  case rest => as_aux_lemma =>
    obtain ⟨hwr, rfl, rfl⟩ := hcut
    subst hwr
    have hYi : (Y : Int) ≤ 2046 := by omega
    have hm00 : ((mt : Int) == 0) = false := beq_ne (by omega)
    have hqi : (q : Int) ≤ 63 := by omega
    have hbi : (b : Int) ≤ 53 := by omega
    have hU2 : (mt : Int) < 9007199254740992 := by omega
    have ml := fun w => (Tryz.bits_Len64 (mt : Int) w (by omega) (by omega)).mono fun _ _ h => (⟨h.1, h.2.symm⟩ : _ ∧ w = _)
    rw [Int.toNat_natCast, hb] at ml
    have mlH := Hid.mk ml
    clear eM2 eM hY0 hY1 eE hE47 hn1 hn2 hm0 hmt hb ml
    go_wp2_with (first | (go_at_call 38; refine (mlH.out _).mono ?_; rintro e w' ⟨rfl, rfl⟩))
    generalize hwA : World.drew _ = wA
    have hBA : Below w.heap.size w wA := by subst hwA; exact ((Below.refl _ w).alloc (Nat.le_refl _) _).drew
    have hbA : wA.heap[w.heap.size]? = some (.cells (Array.replicate 32 (.int .u8 0)) 63 (0, 0)) := by subst hwA; exact heap_alloc_new _ _
    have hRA : Er N w0 v [] wA := by subst hwA; exact (hR.out.alloc _).drew
    clear hwA
    have hNs := hR.out.ns
    have hszA : w.heap.size < wA.heap.size := (Array.getElem?_eq_some_iff.1 hbA).1
    refine (hSH.out wA (hTH.out.keep (hBA.mono hNs)) (Nat.le_trans hNs hBA.size)).mono ?_
    rintro e w2 ⟨rfl, hB⟩
    have hbuf : Hid (w2.drew.heap[w.heap.size]? = some (.cells (Array.replicate 32 (.int .u8 0)) 63 (0, 0))) := .mk ((hB.block _ hszA).trans hbA)
    have hR2 : Hid (Er N w0 v [] w2.drew) := .mk (hRA.below hB).drew
    have hB0 : Below w.heap.size w w2.drew := (hBA.trans (hB.mono (Nat.le_of_lt hszA))).drew
    have hg6 : 4 < w.heap.size := Nat.lt_of_lt_of_le hgN hNs
    have hUH2 : Hid (∀ w' : World, (∀ i, i < w.heap.size → w'.heap[i]? = w.heap[i]?) → TabIs Tryz.prog w' "internal/strconv.uint64pow10" .u64 Lib.pow10Tab) := .mk fun w' h => tabIs_same hUH.out h hg6
    have hz0 : Hid (∀ j, j < 32 → w2.drew.cell? ⟨w.heap.size, j, none⟩ = some (.int .u8 0) ∧ w2.drew.frozen? ⟨w.heap.size, j, none⟩ = false) := .mk (zero_cells hbuf.out)
    have hlt : Hid (∀ g, v.ownBlock = some g → g < w.heap.size) := .mk fun g hv => (hR.out.own.lt g hv).2
    have hNb : N ≤ w.heap.size := hNs
    have hd' := hd
    have hS0 : DgS w.heap.size d (nDg d) p w2.drew (dgVals w.heap.size d (nDg d) p (strip d (nDg d) (nDg d))) (fun _ => false) (fun _ => undef) w2.drew := ⟨fun i h => (by cases h), fun _ => rfl, fun h => (by cases h)⟩
    clear hR hSH hTH hUH hRA hbA hBA hB
    go_wp2_with (fail)
    (try clear hYi)
    (try clear hm00)
    (try clear hqi)
    (try clear hbi)
    (try clear hU2)
    (try clear en)
    (try clear hq)
    (try clear hq11)
    (try clear hq63)
    (try clear hb53)
    (try clear hYa)
    (try clear hYb)
    (try clear hk)
    (try clear hkl)
    (try clear hfb)
    (try clear wr1)
    (try clear wr2)
    (try clear hM2)
    (try clear hEi)
    (try clear hE)
    (try clear mlH)
    (try clear hszA)
    (try clear hNs)
    (try clear eng)
    refine Go.Ev.wp_region_inv _ hm (by kernel_rfl) (by kernel_rfl) hS0 ?_
    refine ⟨fun D vs w1 K hS hd hdep hcl hK => ?_, ?_⟩
    · go_simp
      exact hK _ _ (hS.pure (by decide) rfl)
    simp only [Act.put, List.setIfInBounds_toArray, List.set_cons_succ, List.set_cons_zero, Nat.reduceAdd]
    refine ⟨fun D vs w1 K hS hd hdep hcl hK => ?_, ?_⟩
    · go_simp
      exact hK _ _ (hS.pure (by decide) rfl)
    simp only [Act.put, List.setIfInBounds_toArray, List.set_cons_succ, List.set_cons_zero, Nat.reduceAdd]
    refine ⟨fun D vs w1 K hS hd hdep hcl hK => ?_, ?_⟩
    · go_simp
      exact hK _ _ (hS.pure (by decide) rfl)
    simp only [Act.put, List.setIfInBounds_toArray, List.set_cons_succ, List.set_cons_zero, Nat.reduceAdd]
    refine ⟨fun D vs w1 K hS hd hdep hcl hK => ?_, ?_⟩
    · go_simp
      exact hK _ _ (hS.pure (by decide) rfl)
    simp only [Act.put, List.setIfInBounds_toArray, List.set_cons_succ, List.set_cons_zero, Nat.reduceAdd]
    refine ⟨fun D vs w1 K hS hd hdep hcl hK => ?_, ?_⟩
    · have e3 : vs 3 = dgVals w.heap.size d (nDg d) p (strip d (nDg d) (nDg d)) 3 := hS.vals 3 (depB hdep 3 (by kernel_rfl))
      unfold dgVals at e3
      simp only [e3] at hK ⊢
      go_wp2_with (fail)
      go_at_call 41
      refine (nd_any d w1 hd' (hUH2.out _ (hS.same hB0 hB0.size))).mono ?_
      rintro e w2 ⟨rfl, rfl⟩
      go_wp2_with (fail)
      exact hS.pure (by decide) rfl
    simp only [Act.put, List.setIfInBounds_toArray, List.set_cons_succ, List.set_cons_zero, Nat.reduceAdd]
    refine ⟨fun D vs w1 K hS hd hdep hcl hK => ?_, ?_⟩
    · have e0 : vs 0 = dgVals w.heap.size d (nDg d) p (strip d (nDg d) (nDg d)) 0 := hS.vals 0 (depB hdep 0 (by kernel_rfl))
      unfold dgVals at e0
      have e1 : vs 1 = dgVals w.heap.size d (nDg d) p (strip d (nDg d) (nDg d)) 1 := hS.vals 1 (depB hdep 1 (by kernel_rfl))
      unfold dgVals at e1
      have e2 : vs 2 = dgVals w.heap.size d (nDg d) p (strip d (nDg d) (nDg d)) 2 := hS.vals 2 (depB hdep 2 (by kernel_rfl))
      unfold dgVals at e2
      have e4 : vs 4 = dgVals w.heap.size d (nDg d) p (strip d (nDg d) (nDg d)) 4 := hS.vals 4 (depB hdep 4 (by kernel_rfl))
      unfold dgVals at e4
      simp only [e0, e1, e2, e4] at hK ⊢
      obtain rfl := hS.pre hd
      go_wp2_with (fail)
      go_at_call 40
      refine (sd_any w.heap.size d p _ hd' (by omega) (by omega) hz0.out).mono ?_
      rintro e w2 ⟨rfl, hp⟩
      go_wp2_with (fail)
      exact hS.call rfl hp
    simp only [Act.put, List.setIfInBounds_toArray, List.set_cons_succ, List.set_cons_zero, Nat.reduceAdd]
    refine ⟨fun D vs w1 K hS hd hdep hcl hK => ?_, ?_⟩
    · have e5 : vs 5 = dgVals w.heap.size d (nDg d) p (strip d (nDg d) (nDg d)) 5 := hS.vals 5 (depB hdep 5 (by kernel_rfl))
      unfold dgVals at e5
      simp only [e5] at hK ⊢
      go_simp
      exact hK _ _ (hS.pure (by decide) rfl)
    simp only [Act.put, List.setIfInBounds_toArray, List.set_cons_succ, List.set_cons_zero, Nat.reduceAdd]
    refine ⟨fun D vs w1 K hS hd hdep hcl hK => ?_, ?_⟩
    · have e6 : vs 6 = dgVals w.heap.size d (nDg d) p (strip d (nDg d) (nDg d)) 6 := hS.vals 6 (depB hdep 6 (by kernel_rfl))
      unfold dgVals at e6
      simp only [e6] at hK ⊢
      go_simp
      exact hK _ _ (hS.pure (by decide) rfl)
    simp only [Act.put, List.setIfInBounds_toArray, List.set_cons_succ, List.set_cons_zero, Nat.reduceAdd]
    refine ⟨fun D vs w1 K hS hd hdep hcl hK => ?_, ?_⟩
    · have e6 : vs 6 = dgVals w.heap.size d (nDg d) p (strip d (nDg d) (nDg d)) 6 := hS.vals 6 (depB hdep 6 (by kernel_rfl))
      unfold dgVals at e6
      simp only [e6] at hK ⊢
      go_simp
      exact hK _ _ (hS.pure (by decide) rfl)
    simp only [Act.put, List.setIfInBounds_toArray, List.set_cons_succ, List.set_cons_zero, Nat.reduceAdd]
    refine ⟨fun D vs w1 K hS hd hdep hcl hK => ?_, ?_⟩
    · have e7 : vs 7 = dgVals w.heap.size d (nDg d) p (strip d (nDg d) (nDg d)) 7 := hS.vals 7 (depB hdep 7 (by kernel_rfl))
      unfold dgVals at e7
      simp only [e7] at hK ⊢
      go_simp
      exact hK _ _ (hS.pure (by decide) rfl)
    simp only [Act.put, List.setIfInBounds_toArray, List.set_cons_succ, List.set_cons_zero, Nat.reduceAdd]
    refine ⟨fun D vs w1 K hS hd hdep hcl hK => ?_, ?_⟩
    · have e8 : vs 8 = dgVals w.heap.size d (nDg d) p (strip d (nDg d) (nDg d)) 8 := hS.vals 8 (depB hdep 8 (by kernel_rfl))
      unfold dgVals at e8
      simp only [e8] at hK ⊢
      go_simp
      exact hK _ _ (hS.pure (by decide) rfl)
    simp only [Act.put, List.setIfInBounds_toArray, List.set_cons_succ, List.set_cons_zero, Nat.reduceAdd]
    intro vs D w3 hS3 hall
    have e9 : vs 9 = dgVals w.heap.size d (nDg d) p (strip d (nDg d) (nDg d)) 9 := hS3.vals 9 (hall 9 (by decide))
    have e10 : vs 10 = dgVals w.heap.size d (nDg d) p (strip d (nDg d) (nDg d)) 10 := hS3.vals 10 (hall 10 (by decide))
    unfold dgVals at e9 e10
    obtain ⟨hDg, hOn, hKp⟩ := hS3.post (hall 5 (by decide))
    obtain ⟨cs, hcs⟩ := hKp _ _ _ hbuf.out
    have hEo : Hid (Eo N w.heap.size cs w0 v [] w3) := .mk (eo_of hR2.out hOn hcs hlt.out hNb)
    have hDgH := Hid.mk hDg
    clear hS3 hall hOn hKp hcs hDg
    simp only [e9, e10]
    clear e9 e10
    go_wp2_with (fail)
    go_at_call 37
    refine (eft_any N w.heap.size d cs p ng v w0 w3 hEo.out hd' (by omega) (by omega) hDgH.out).mono ?_
    rintro e w4 ⟨v', rfl, hE4⟩
    go_wp2_with (fail)
    go_ret
    exact ⟨_, rfl, hE4⟩
end Go.Proofs.YthhmimlfiaboeaaGreatDoor
