/- FormatFloat: some text, the same in every world. -/
import Derived.Test.YtpbombkmnfbcgaaGreatDoorFtm
namespace Go.Proofs.YtpbombkmnfbcgaaGreatDoor
open Go.RowKit Go.Lib Go.Ev

/-- ftoa64 of any float. -/
theorem fto_any (tH tL : Nat → Nat) (N k : Nat) (hH : ∀ i, i < 696 → tH i < 18446744073709551616) (hL : ∀ i, i < 696 → tL i < 18446744073709551616) (hgN : 6 < N) :
    ∃ L, ∀ (w0 w : World) (v : Value), TabAt tH tL N w → TabIs Tryz.prog w "internal/strconv.uint64pow10" .u64 Lib.pow10Tab → Er N w0 v [] w → Calls Tryz.prog 28 #[v, .float .f64 k, .int .u8 103, .int .i64 (-1)] w fun e w' => ∃ v', e = .returned v' ∧ Er N w0 v' L w' := by
  obtain ⟨E, hE, eE⟩ := and2047 (IntKind.i64.wrap ((k : Int) / 4503599627370496))
  obtain ⟨M, hM, eM⟩ := and52 (k : Int)
  obtain ⟨ng, eng⟩ : ∃ ng, ((k : Int) / 9223372036854775808 != 0) = ng := ⟨_, rfl⟩
  by_cases h47 : E = 2047
  · subst h47
    by_cases h0 : M = 0
    · cases ng
      · exact ⟨_, fun w0 w v _ _ hR => fti_pos N k M false eE eM eng h0 rfl w0 w v hR⟩
      · exact ⟨_, fun w0 w v _ _ hR => fti_neg N k M true eE eM eng h0 rfl w0 w v hR⟩
    · exact ⟨_, fun w0 w v _ _ hR => fti_nan N k M ng eE eM eng (by omega) hM w0 w v hR⟩
  · exact ftf_any tH tL N k E M ng eE (by omega) eM hM eng hH hL hgN

theorem conv_any {N : Nat} {w0 w : World} {v : Value} {l : List Int} (h : Er N w0 v l w) : (convert 45 9 v).run Tryz.prog w = .ok (.string (strOfNums l)) w := by
  have hown := h.own
  rcases hown.2 with ⟨he, h0⟩ | ⟨g, cap, cur, he, _, hg, hn, hm, hs, ht⟩
  · subst he
    have : l = [] := List.eq_nil_of_length_eq_zero h0
    subst this
    simp only [convert, Sem.run_bind, run_underlying Tryz.underlying45, run_underlying Tryz.underlying9, run_underlying Tryz.underlying5, Result.andThen_ok]
    rfl
  · subst he
    exact run_convert_bytes_arg (P := Tryz.prog) w 45 5 Tryz.underlying45 Tryz.underlying5 g 0 l.length cap l rfl (fun i hi => by
      have hc := hown.cells (g := g) rfl i (bv (l.getD i 0)) (by rw [List.getElem?_map, List.getD, List.getElem?_eq_getElem (by omega)]; rfl)
      rw [Addr.add_lit] at hc
      exact hc) 9 Tryz.underlying9

/-- The text of a float. -/
def FmtSays (tH tL : Nat → Nat) (N k : Nat) (s : ByteArray) (F : FuncId) (args : Array Value) : Prop := ∀ w : World, TabAt tH tL N w → TabIs Tryz.prog w "internal/strconv.uint64pow10" .u64 Lib.pow10Tab → N ≤ w.heap.size →
  Calls Tryz.prog F args w fun e w' => e = .returned (.string s) ∧ Below N w w'

set_option maxRecDepth 100000 in
set_option maxHeartbeats 1600000 in
theorem iff_any (tH tL : Nat → Nat) (N k : Nat) (hH : ∀ i, i < 696 → tH i < 18446744073709551616) (hL : ∀ i, i < 696 → tL i < 18446744073709551616) (hgN : 6 < N) :
    ∃ s : ByteArray, FmtSays tH tL N k s 21 #[.float .f64 k, .int .u8 103, .int .i64 (-1), .int .i64 64] := by
  obtain ⟨L, hS⟩ := fto_any tH tL N k hH hL hgN
  refine ⟨strOfNums L, fun w hT hU hN => ?_⟩
  obtain ⟨i0, hi, hz0, hz1, hz2⟩ := info_parts u8Info
  have hSH := Hid.mk hS
  have hTH := Hid.mk hT
  have hUH := Hid.mk hU
  have hg6 : 6 < w.heap.size := Nat.lt_of_lt_of_le hgN hN
  clear hS hT hU
  go_enter Tryz.func21, Tryz.ntmps21
  go_wp2_with (refine wpList_make_own _ rfl _ _ _ rfl N 5 i0 (.int .u8 0) 1 Tryz.underlying45 hi hz0 hz1 .i64 .i64 24 24 rfl rfl rfl ?c1 ?c2 hN ?c3)
  case c1 => rw [hz2]; decide
  case c2 => decide
  intro w1 hown hg1
  have hB1 : Below N w w1 := (Below.refl N w).grown hg1 hN (fun j hj => (by cases hj))
  have hE : Er N w (.slice (some ⟨w.heap.size, 0, none⟩) 0 24) [] w1 := ⟨hown, hB1, Nat.le_trans hN hB1.size⟩
  have hT1 : TabAt tH tL N w1 := hTH.out.keep hB1
  have hU1 : TabIs Tryz.prog w1 "internal/strconv.uint64pow10" .u64 Lib.pow10Tab := tabIs_same hUH.out (fun i hi => hg1.block i hi (by simp)) hg6
  have hcall := Hid.mk (hSH.out w w1 _ hT1 hU1 hE)
  clear hown hg1 hE hT1 hU1 hB1
  go_wp2_with (fail)
  go_at_call 28
  refine hcall.out.mono ?_
  rintro e w2 ⟨v', rfl, hE2⟩
  have hcv := conv_any hE2
  have hB2 := Hid.mk hE2.blw
  clear hE2
  go_wp2_with (fail)
  go_ret
  exact ⟨rfl, hB2.out⟩

set_option maxRecDepth 100000 in
theorem sff_any (tH tL : Nat → Nat) (N k : Nat) (hH : ∀ i, i < 696 → tH i < 18446744073709551616) (hL : ∀ i, i < 696 → tL i < 18446744073709551616) (hgN : 6 < N) :
    ∃ s : ByteArray, FmtSays tH tL N k s 16 #[.float .f64 k, .int .u8 103, .int .i64 (-1), .int .i64 64] := by
  obtain ⟨s, hS⟩ := iff_any tH tL N k hH hL hgN
  refine ⟨s, fun w hT hU hN => ?_⟩
  have hcall := Hid.mk (hS w hT hU hN)
  clear hS hT hU hN
  go_enter Tryz.func16, Tryz.ntmps16
  go_wp2_with (fail)
  go_at_call 21
  refine hcall.out.mono ?_
  rintro e w2 ⟨rfl, hB⟩
  go_wp2_with (fail)
  go_ret
  exact ⟨rfl, hB⟩
end Go.Proofs.YtpbombkmnfbcgaaGreatDoor
