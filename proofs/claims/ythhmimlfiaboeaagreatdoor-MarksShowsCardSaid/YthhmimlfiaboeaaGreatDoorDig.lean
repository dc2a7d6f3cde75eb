/- The digits of a number are laid. -/
import Derived.Test.YthhmimlfiaboeaaGreatDoorPkn
import Derived.Lib.ItoaLen
namespace Go.Proofs.YthhmimlfiaboeaaGreatDoor
open Go.RowKit Go.Lib Go.Sort

abbrev embB (b : UInt8) : Value := Value.int .u8 (b.toNat : Int)
theorem onl_putRow (w : World) (blk off : Nat) (d : Array UInt8) (n : Nat) : Onl blk w ((putRow embB w blk off d).drewN n) := by
  refine ⟨rfl, rfl, rfl, by simp, fun i _ hne => ?_⟩
  have h : i ≠ blk := fun e => hne (by rw [e])
  simp [putRow, mapBlock, Array.getElem?_modify, Ne.symm h]
/-- The block stays of its type. -/
def KeepT (blk : Nat) (w w' : World) : Prop := ∀ cs t fz, w.heap[blk]? = some (.cells cs t fz) → ∃ cs', w'.heap[blk]? = some (.cells cs' t fz)
theorem keepT_putRow (w : World) (blk off : Nat) (d : Array UInt8) (n : Nat) : KeepT blk w ((putRow embB w blk off d).drewN n) := by
  intro cs t fz h
  refine ⟨putCells embB off d cs, ?_⟩
  simp [putRow, mapBlock, Array.getElem?_modify, h, onCells]
/-- How many digits are left without the zeros behind. -/
def strip (u n : Nat) : Nat → Nat
  | 0 => 0
  | k + 1 => if dg u (n - (k + 1)) = 48 then strip u n k else k + 1
theorem strip_le (u n : Nat) : ∀ k, strip u n k ≤ k
  | 0 => Nat.le_refl _
  | k + 1 => by
    unfold strip
    split
    · have := strip_le u n k; omega
    · omega

/-- How many digits a number has; none, where it is nothing. -/
def nDg (u : Nat) : Nat := if u = 0 then 0 else nDigits u
theorem nDg_le {u : Nat} (h : u < 18446744073709551616) : nDg u ≤ 20 := by
  unfold nDg; split
  · omega
  · exact nDigits_le20 u h
theorem nDg_lt (u : Nat) : u < 10 ^ nDg u := by
  unfold nDg; split
  · omega
  · exact lt_pow_nDigits u

/-- So many digits of a number, in memory. -/
def DigAt (blk u n : Nat) (w : World) : Prop := ∀ t, t < n → w.cell? ⟨blk, t, none⟩ = some (embB (dg u (n - 1 - t)))
theorem DigAt.keep {blk u n N : Nat} {w w' : World} (h : DigAt blk u n w) (hb : Below N w w') (hN : blk < N) : DigAt blk u n w' := fun t ht => (hb.cell (by exact hN)).trans (h t ht)

theorem dg_int (u j : Nat) : ((dg u j).toNat : Int) = 48 + ((u / 10 ^ j % 10 : Nat) : Int) := by
  unfold dg
  have : u / 10 ^ j % 10 < 10 := Nat.mod_lt _ (by omega)
  rw [UInt8.toNat_ofNat']; omega

set_option maxRecDepth 100000 in
set_option maxHeartbeats 1600000 in
theorem sd_any (blk u : Nat) (p : Int) (w : World) (hu : u < 18446744073709551616) (hp1 : -1000 ≤ p) (hp2 : p ≤ 1000) (hc : ∀ j, j < 32 → w.cell? ⟨blk, j, none⟩ = some (.int .u8 0) ∧ w.frozen? ⟨blk, j, none⟩ = false) :
    Calls Tryz.prog 40 #[.slice (some ⟨blk, 0, none⟩) 32 32, .int .u64 (u : Nat), .int .i64 p, .int .i64 (nDg u : Nat)] w fun e w' =>
      e = .returned (.tuple #[.int .i64 ((nDg u : Nat) + p), .int .i64 (strip u (nDg u) (nDg u) : Nat)]) ∧ DigAt blk u (nDg u) w' ∧ Onl blk w w' ∧ KeepT blk w w' := by
  have h20 := nDg_le hu
  have hlt := nDg_lt u
  obtain ⟨n, hn⟩ : ∃ n, nDg u = n := ⟨_, rfl⟩
  rw [hn] at h20 hlt ⊢
  have hni : (n : Int) ≤ 32 := by omega
  have hsz : (Array.replicate n (0 : UInt8)).size = n := by simp
  have hH : Holds embB w blk 0 (Array.replicate n (0 : UInt8)) := fun j hj => by
    rw [hsz] at hj
    obtain ⟨h1, h2⟩ := hc j (by omega)
    rw [Nat.zero_add]
    refine ⟨h1.trans ?_, h2⟩
    rw [getElem!_pos _ j (by rw [hsz]; exact hj), Array.getElem_replicate]; rfl
  have hf := Tryz.internal_strconv_formatBase10 blk 0 32 u (Array.replicate n (0 : UInt8)) w hH (by rw [hsz]; exact hlt) hu (by rw [hsz]; omega)
  rw [hsz] at hf
  have hfH := Hid.mk hf
  have hHH := Hid.mk hH
  clear hc hf hH hn hsz
  go_enter Tryz.func40, Tryz.ntmps40
  go_wp2_with (fail)
  go_at_call 64
  refine hfH.out.mono ?_
  rintro x w2 ⟨rfl, q, v', dk, rfl, hInv⟩
  have hD : Hid (DigAt blk u n ((putRow embB w blk 0 dk).drewN q)) := .mk fun t ht => by
    have h1 := (holds_putRow embB w blk 0 (Array.replicate n (0 : UInt8)) dk hHH.out (by rw [hInv.size]; simp) t (by rw [hInv.size]; exact ht)).1
    rw [Nat.zero_add] at h1
    rw [← hInv.done t (Nat.zero_le _) ht]
    exact h1
  have hO : Hid (Onl blk w ((putRow embB w blk 0 dk).drewN q) ∧ KeepT blk w ((putRow embB w blk 0 dk).drewN q)) := .mk ⟨onl_putRow w blk 0 dk q, keepT_putRow w blk 0 dk q⟩
  obtain ⟨w2, hw2⟩ : ∃ w2, (putRow embB w blk 0 dk).drewN q = w2 := ⟨_, rfl⟩
  rw [hw2] at hD hO ⊢
  clear hw2 hInv
  go_wp2_with (fail)
  go_loopw [3] (fun x wr => wr = w2 ∧ ∃ k : Nat, k ≤ n ∧ x = .int .i64 (k : Nat) ∧ strip u n k = strip u n n) (fun x _ => (RowKit.intOf x).toNat)
  case atStart => exact ⟨rfl, n, Nat.le_refl _, rfl, rfl⟩
  case round =>
    obtain ⟨hwr, k, hk, rfl, hst⟩ := hrel
    subst hwr
    have hstH := Hid.mk hst
    clear hst
    cases k with
    | zero =>
      go_wp2_with (fail)
      go_ret2
      exact ⟨by rw [← hstH.out]; rfl, hD.out, hO.out⟩
    | succ j =>
      have hc := hD.out j (by omega)
      unfold embB at hc
      have hj1 : ((j + 1 : Nat) : Int) - 1 = (j : Int) := by omega
      have hj2 : (j : Int) < 32 := by omega
      have hj3 : (0 : Int) < ((j + 1 : Nat) : Int) := by omega
      by_cases h48 : dg u (n - (j + 1)) = 48
      · have e1 : dg u (n - 1 - j) = 48 := by rw [show n - 1 - j = n - (j + 1) by omega]; exact h48
        rw [e1] at hc
        have hc' : wr.cell? ⟨blk, j, none⟩ = some (.int .u8 48) := hc
        have hst2 : Hid (strip u n j = strip u n n) := .mk (by rw [← hstH.out, strip, if_pos h48])
        clear hc
        go_wp2_with (fail)
        exact ⟨⟨trivial, j, by omega, rfl, hst2.out⟩, by simp [RowKit.intOf]⟩
      · have e1 : ((dg u (n - 1 - j)).toNat : Int) ≠ 48 := by
          rw [show n - 1 - j = n - (j + 1) by omega]
          intro h
          apply h48
          apply UInt8.toNat_inj.1
          show (dg u (n - (j + 1))).toNat = 48
          omega
        obtain ⟨g, hg⟩ : ∃ g : Nat, (dg u (n - 1 - j)).toNat = g := ⟨_, rfl⟩
        rw [hg] at hc e1
        have e2 := beq_ne e1
        clear e1 hg
        go_wp2_with (fail)
        go_ret2
        have e3 : strip u n n = j + 1 := by rw [← hstH.out, strip, if_neg h48]
        rw [e3]
        exact ⟨rfl, hD.out, hO.out⟩

set_option maxHeartbeats 800000 in
theorem nd_any (u : Nat) (w : World) (hu : u < 18446744073709551616) (hT : TabIs Tryz.prog w "internal/strconv.uint64pow10" .u64 Lib.pow10Tab) :
    Calls Tryz.prog 41 #[.int .u64 (u : Nat)] w fun e w' => e = .returned (.int .i64 (nDg u : Nat)) ∧ w = w' := by
  by_cases h0 : u = 0
  · subst h0
    have c0 := hT.cell (g := 4) (by kernel_rfl) 0 (by rw [pow10Tab_length]; omega)
    rw [pow10Tab_at 0 (by omega)] at c0
    have c1 : w.cell? ⟨4, 0, none⟩ = some (.int .u64 1) := c0
    have m0 := (Tryz.bits_Len64 0 w (by omega) (by omega)).mono fun _ _ h => (⟨h.1, h.2.symm⟩ : _ ∧ w = _)
    have e0 : Lib.bitLen (0 : Int).toNat = 0 := by rfl
    rw [e0] at m0
    have m0H := Hid.mk m0
    clear m0 hT c0 e0
    go_enter Tryz.func41, Tryz.ntmps41
    go_wp2_with (first | (go_at_call 38; refine m0H.out.mono ?_; rintro e w' ⟨rfl, rfl⟩) | (go_at_call 42; refine (l10_any _ _ (by omega) (by omega)).mono ?_; rintro e w' ⟨rfl, rfl⟩) | (go_at_call 65; refine (b2i_any _ _).mono ?_; rintro e w' ⟨rfl, rfl⟩))
    go_ret
    exact ⟨rfl, rfl⟩
  · unfold nDg
    rw [if_neg h0]
    exact (Tryz.internal_strconv_numDigits u (by omega) hu w hT).mono fun _ _ h => ⟨h.1, h.2.symm⟩
end Go.Proofs.YthhmimlfiaboeaaGreatDoor
