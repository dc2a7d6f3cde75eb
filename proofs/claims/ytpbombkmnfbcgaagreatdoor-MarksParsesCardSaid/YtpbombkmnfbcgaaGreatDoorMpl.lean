/- The law: whatever the text, true. -/
import Derived.Test.YtpbombkmnfbcgaaGreatDoorPse
import Derived.Test.YtpbombkmnfbcgaaGreatDoorEnv
namespace Go.Proofs.YtpbombkmnfbcgaaGreatDoor
open Go.Ev Go.RowKit Go.Lib

/-- The texts of floats. -/
noncomputable def ftx (N : Nat) (hgN : 6 < N) (k : Nat) : ByteArray := Classical.choose (sff_any tHi tLo N k (fun i _ => (rows_lt i).1) (fun i _ => (rows_lt i).2) hgN)
theorem ftx_says (N : Nat) (hgN : 6 < N) (k : Nat) : FmtSays tHi tLo N k (ftx N hgN k) 16 #[.float .f64 k, .int .u8 103, .int .i64 (-1), .int .i64 64] :=
  Classical.choose_spec (sff_any tHi tLo N k (fun i _ => (rows_lt i).1) (fun i _ => (rows_lt i).2) hgN)

set_option maxRecDepth 100000 in
set_option maxHeartbeats 800000 in
theorem parses_any (s : ByteArray) (w : World) (hL : laidMet Tryz.prog laidAll w) (hsh : w.ShapedOpen Tryz.prog) :
    Calls Tryz.prog 3 #[.string s] w fun e w' => e = .returned (.bool true) ∧ Below w.heap.size w w' := by
  have hE := env_at hL hsh
  have hU := u10_at hL
  have hgN : 6 < w.heap.size := by
    have := hU.cell (g := 6) (by kernel_rfl) 0 (by rw [pow10Tab_length]; omega)
    exact block_of_cell this
  have hT := ftx_says w.heap.size hgN
  obtain ⟨T, hTe⟩ : ∃ T, ftx w.heap.size hgN = T := ⟨_, rfl⟩
  rw [hTe] at hT
  clear hTe
  have hsp := Hid.mk (speaks_any hL)
  have hTH := Hid.mk hT
  have hEH := Hid.mk hE
  have hUH := Hid.mk hU
  have hgH := Hid.mk hgN
  have hc := Hid.mk (fun k w => canon_any k w)
  have hsm := Hid.mk (fun a b w => same_any a b w)
  clear hL hsh hE hU hT hgN
  by_cases h4 : 400 < s.size
  · have h4i : (400 : Int) < (s.size : Int) := by omega
    clear h4
    go_enter Tryz.func3, Tryz.ntmps3
    go_wp2_with (go_at_call 4; refine hsp.out.mono ?_; rintro e w' ⟨rfl, hB⟩)
    go_ret
    exact ⟨rfl, hB⟩
  · have hs4 : s.size ≤ 400 := by omega
    have hsi : (s.size : Int) ≤ 400 := by omega
    have h4f : (400 < (s.size : Int)) = False := eq_false (by omega)
    have hs4H := Hid.mk hs4
    clear h4 hs4
    go_enter Tryz.func3, Tryz.ntmps3
    go_wp2_with (go_at_call 4; refine hsp.out.mono ?_; rintro e w1 ⟨rfl, hB⟩)
    have hBH := Hid.mk hB
    clear hB hsp
    go_at_call 5
    refine (parse_any tHi tLo w.heap.size T hTH.out hgH.out s hs4H.out w1 (hEH.out.keep hBH.out) (tabIs_same hUH.out (fun i hi => hBH.out.block i hi) hgH.out)).mono ?_
    rintro e w2 ⟨he, hB2⟩
    have hB2H := Hid.mk (hBH.out.trans hB2)
    clear hB2
    rcases he with rfl | ⟨k, hk, rfl⟩
    · go_wp2_with (go_at_call 6; refine (hsm.out _ _ _).mono ?_; rintro e w' ⟨rfl, rfl⟩)
      go_ret
      exact ⟨rfl, hB2H.out⟩
    · have hsw := show_any tHi tLo w.heap.size T hTH.out (canN k) w2 (hEH.out.env.tab.keep hB2H.out) (tabIs_same hUH.out (fun i hi => hB2H.out.block i hi) hgH.out) (Nat.le_trans (Nat.le_refl _) hB2H.out.size)
      rw [shw_can, hk] at hsw
      have hswH := Hid.mk hsw
      have hcc := Hid.mk (canN_canN k)
      clear hsw hk
      go_wp2_with (first | (go_at_call 7; refine hswH.out.mono ?_; rintro e w3 ⟨rfl, hB3⟩) | (go_at_call 8; refine (hc.out _ _).mono ?_; rintro e w' ⟨rfl, rfl⟩) | (go_at_call 6; refine (hsm.out _ _ _).mono ?_; rintro e w' ⟨rfl, rfl⟩))
      go_ret
      refine ⟨?_, hB2H.out.trans hB3⟩
      have : decide (canN k = canN (canN k)) = true := by rw [hcc.out]; simp
      simp [this]
#print axioms parses_any
end Go.Proofs.YtpbombkmnfbcgaaGreatDoor
