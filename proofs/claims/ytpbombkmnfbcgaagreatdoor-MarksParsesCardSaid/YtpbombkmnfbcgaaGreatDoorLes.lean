/- Digits that are compared with a prefix. -/
import Derived.Test.YtpbombkmnfbcgaaGreatDoorDcs
import Derived.Lib.SliceRun
namespace Go.Proofs.YtpbombkmnfbcgaaGreatDoor
open Go.RowKit

abbrev Str := List UInt8
def bs (l : List UInt8) : ByteArray := ⟨⟨l⟩⟩
theorem bs_size (l : List UInt8) : (bs l).size = l.length := rfl
theorem bs_get (s : List UInt8) (k : Nat) (h : k < (bs s).size) : (bs s)[k] = s.getD k 0 := by
  have h' : k < s.length := h
  show s.toArray[k] = _
  rw [List.getD, List.getElem?_eq_getElem h']
  simp
def by8 (s : Str) (i : Nat) : Nat := (s.getD i 0).toNat
theorem by8_lt (s : Str) (i : Nat) : by8 s i < 256 := (s.getD i 0).toNat_lt

/-- Where two rows part, the other way. -/
theorem lex_more {D E : Nat → Nat} {nd L i : Nat} (hE : Digs E L) (hn : i < nd) (hL : i < L) (heq : ∀ j, j < i → D j = E j) (hlt : E i < D i) : num E L * 10 ^ nd ≤ num D nd * 10 ^ L :=
  Nat.le_of_lt (lex_part hE hL hn (fun j hj => (heq j hj).symm) hlt (hE i hL).1)

set_option maxRecDepth 100000 in
set_option maxHeartbeats 3200000 in
theorem less_any (B : Nat) (D : Nat → Nat) (nd : Nat) (dp : Int) (neg tr : Bool) (s : Str) (w : World) (h : DecS B D nd dp neg tr w) (hnd : nd ≤ 800) (hD : Digs D nd) (hE : 48 < by8 s (s.length - 1)) (hL : s.length ≤ 100) (h1 : 1 ≤ s.length) (hE1 : Hid (Digs (by8 s) s.length)) :
    Calls Tryz.prog 96 #[.slice (some ⟨B, 0, none⟩) nd 800, .string (bs s)] w fun e w' => ∃ b, e = .returned (.bool b) ∧ Below w.heap.size w w' ∧
      (b = true → num D nd * 10 ^ s.length < num (by8 s) s.length * 10 ^ nd) ∧ (b = false → num (by8 s) s.length * 10 ^ nd ≤ num D nd * 10 ^ s.length) := by
  have hm : Tryz.prog.follows .mixedOrders = true := by kernel_rfl
  have hsz : (bs s).size = s.length := bs_size s
  have hH : Hid (DecS B D nd dp neg tr w) := h
  have hDH : Hid (Digs D nd) := hD
  clear h hD
  go_enter Tryz.func96, Tryz.ntmps96
  go_wp2_with (fail)
  go_loopw [5] (fun i wr => ∃ k : Nat, k ≤ s.length ∧ k ≤ nd ∧ i = .int .i64 k ∧ (∀ j, j < k → D j = by8 s j) ∧ Below w.heap.size w wr) (fun i _ => s.length - (intOf i).toNat)
  case atStart => exact ⟨0, Nat.zero_le _, Nat.zero_le _, rfl, fun j hj => by omega, Below.refl _ _⟩
  case round =>
    obtain ⟨k, hk, hkn, rfl, heq, hB⟩ := hrel
    have hBH : Hid (Below w.heap.size w wr) := hB
    have heH : Hid (∀ j, j < k → D j = by8 s j) := heq
    clear hB heq
    by_cases hlt : k < s.length
    · by_cases hn : k < nd
      · have hks : k < (bs s).size := by omega
        have hgk : ((bs s)[k]'hks).toNat = by8 s k := by rw [bs_get]; rfl
        have hc := (hH.out.keep hBH.out).dig k (by omega)
        have hki : (k : Int) < (nd : Int) := by omega
        have hdn : (nd ≤ k) = False := by simp; omega
        by_cases hd : D k = by8 s k
        · rw [hd] at hc
          go_wp2_with (fail)
          refine Go.Ev.wp_region_plan (fun v => v = wr.drew) [.slice (some ⟨B, 0, none⟩) nd 800, .int .i64 (k : Nat), .pointer (some ⟨B, k, none⟩), .int .u8 (by8 s k : Nat), .string (bs s), .int .i64 (k : Nat), .int .u8 (by8 s k : Nat), .bool false] hm (by kernel_rfl) (by kernel_rfl) rfl ?_
          iterate 8
            refine ⟨by rintro v K rfl hK; go_simp; exact hK _ rfl, ?_⟩
            simp only [Act.put, List.setIfInBounds_toArray, List.set_cons_succ, List.set_cons_zero, List.headD_cons, List.tail_cons]
          rintro w1 rfl
          go_wp2_with (fail)
          go_roundw
          case rel => exact ⟨k + 1, by omega, by omega, by go_num, fun j hj => by rcases Nat.lt_or_ge j k with h | h; exact heH.out j h; obtain rfl : j = k := by omega
                                                                                  exact hd, hBH.out.drew⟩
          case measure => simp [intOf]; omega
        · have hne : (((D k : Nat) : Int) != ((by8 s k : Nat) : Int)) = true := by simp; omega
          by_cases hlt2 : D k < by8 s k
          · have hli : decide (((D k : Nat) : Int) < ((by8 s k : Nat) : Int)) = true := by simp; omega
            go_wp2_with (fail)
            refine Go.Ev.wp_region_plan (fun v => v = wr.drew) [.slice (some ⟨B, 0, none⟩) nd 800, .int .i64 (k : Nat), .pointer (some ⟨B, k, none⟩), .int .u8 (D k : Nat), .string (bs s), .int .i64 (k : Nat), .int .u8 (by8 s k : Nat), .bool true] hm (by kernel_rfl) (by kernel_rfl) rfl ?_
            iterate 8
              refine ⟨by rintro v K rfl hK; go_simp; exact hK _ rfl, ?_⟩
              simp only [Act.put, List.setIfInBounds_toArray, List.set_cons_succ, List.set_cons_zero, List.headD_cons, List.tail_cons]
            rintro w1 rfl
            go_wp2_with (fail)
            refine Go.Ev.wp_region_plan (fun v => v = wr.drew.drew) [.slice (some ⟨B, 0, none⟩) nd 800, .int .i64 (k : Nat), .pointer (some ⟨B, k, none⟩), .int .u8 (D k : Nat), .string (bs s), .int .i64 (k : Nat), .int .u8 (by8 s k : Nat), .bool true, .bool true] hm (by kernel_rfl) (by kernel_rfl) rfl ?_
            iterate 9
              refine ⟨by rintro v K rfl hK; go_simp; exact hK _ rfl, ?_⟩
              simp only [Act.put, List.setIfInBounds_toArray, List.set_cons_succ, List.set_cons_zero, List.headD_cons, List.tail_cons]
            rintro w1 rfl
            go_wp2_with (fail)
            go_ret
            exact ⟨true, rfl, hBH.out.drew.drew, fun _ => lex_part hDH.out hn hlt heH.out hlt2 (hDH.out k hn).1, fun h => (by cases h)⟩
          · have hli : decide (((D k : Nat) : Int) < ((by8 s k : Nat) : Int)) = false := by simp; omega
            go_wp2_with (fail)
            refine Go.Ev.wp_region_plan (fun v => v = wr.drew) [.slice (some ⟨B, 0, none⟩) nd 800, .int .i64 (k : Nat), .pointer (some ⟨B, k, none⟩), .int .u8 (D k : Nat), .string (bs s), .int .i64 (k : Nat), .int .u8 (by8 s k : Nat), .bool true] hm (by kernel_rfl) (by kernel_rfl) rfl ?_
            iterate 8
              refine ⟨by rintro v K rfl hK; go_simp; exact hK _ rfl, ?_⟩
              simp only [Act.put, List.setIfInBounds_toArray, List.set_cons_succ, List.set_cons_zero, List.headD_cons, List.tail_cons]
            rintro w1 rfl
            go_wp2_with (fail)
            refine Go.Ev.wp_region_plan (fun v => v = wr.drew.drew) [.slice (some ⟨B, 0, none⟩) nd 800, .int .i64 (k : Nat), .pointer (some ⟨B, k, none⟩), .int .u8 (D k : Nat), .string (bs s), .int .i64 (k : Nat), .int .u8 (by8 s k : Nat), .bool false, .bool false] hm (by kernel_rfl) (by kernel_rfl) rfl ?_
            iterate 9
              refine ⟨by rintro v K rfl hK; go_simp; exact hK _ rfl, ?_⟩
              simp only [Act.put, List.setIfInBounds_toArray, List.set_cons_succ, List.set_cons_zero, List.headD_cons, List.tail_cons]
            rintro w1 rfl
            go_wp2_with (fail)
            go_ret
            exact ⟨false, rfl, hBH.out.drew.drew, fun h => (by cases h), fun _ => lex_more hE1.out hn hlt heH.out (by omega)⟩
      · have hkk : k = nd := by omega
        have hni : ¬ ((k : Int) < (nd : Int)) := by omega
        go_wp2_with (fail)
        go_ret
        exact .inr ⟨rfl, hBH.out, lex_short (fun j hj => heH.out j (by omega)) (by omega) hE⟩
    · have hkk : k = s.length := by omega
      go_wp2_with (fail)
      go_ret
      exact ⟨false, rfl, hBH.out, fun h => (by cases h), fun _ => lex_same (fun j hj => heH.out j (by omega)) (by omega)⟩
end Go.Proofs.YtpbombkmnfbcgaaGreatDoor
