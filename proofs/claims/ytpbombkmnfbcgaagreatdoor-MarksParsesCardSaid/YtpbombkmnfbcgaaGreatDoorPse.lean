/- marks.Parse: an error, or the mark that is shown so. -/
import Derived.Test.YtpbombkmnfbcgaaGreatDoorShw
import Derived.Test.YtpbombkmnfbcgaaGreatDoorPar
namespace Go.Proofs.YtpbombkmnfbcgaaGreatDoor
open Go.RowKit Go.Lib

/-- What Parse answers. -/
def ParE (T : Nat → ByteArray) (s : ByteArray) (e : Ending) : Prop := e = .returned (.tuple #[.float .f64 0, .int .i64 2]) ∨ ∃ k, shw T k = s ∧ e = .returned (.tuple #[.float .f64 (canN k), .int .i64 0])

set_option maxRecDepth 100000 in
set_option maxHeartbeats 800000 in
theorem parse_any (tH tL : Nat → Nat) (N : Nat) (T : Nat → ByteArray) (hT : ∀ k, FmtSays tH tL N k (T k) 16 #[.float .f64 k, .int .u8 103, .int .i64 (-1), .int .i64 64]) (hgN : 6 < N)
    (s : ByteArray) (hs : s.size ≤ 400) (w : World) (hE : Env2 tH tL N w) (hU : TabIs Tryz.prog w "internal/strconv.uint64pow10" .u64 Lib.pow10Tab) :
    Calls Tryz.prog 5 #[.string s] w fun e w' => ParE T s e ∧ Below N w w' := by
  have hN := hE.env.ns
  have hsh := Hid.mk (fun k => show_any tH tL N T hT k)
  have hpf := Hid.mk (spf_any tH tL N s w hs hE)
  have hEH := Hid.mk hE
  have hUH := Hid.mk hU
  have hc := Hid.mk (fun k w => canon_any k w)
  have hB0 := Hid.mk (Below.refl N w)
  clear hT hE hU
  have tail : Hid (∀ w', Below N w w' → TabAt tH tL N w' ∧ TabIs Tryz.prog w' "internal/strconv.uint64pow10" .u64 Lib.pow10Tab ∧ N ≤ w'.heap.size) := .mk fun w' hb =>
    ⟨hEH.out.env.tab.keep hb, tabIs_same hUH.out (fun i hi => hb.block i hi) hgN, Nat.le_trans hN hb.size⟩
  by_cases hnone : s = ⟨⟨[110, 111, 110, 101]⟩⟩
  · subst hnone
    have hsh1 := Hid.mk (hsh.out 9221120237041090561 w (tail.out w hB0.out).1 (tail.out w hB0.out).2.1 (tail.out w hB0.out).2.2)
    have he : shw T 9221120237041090561 = txN := by unfold shw; rw [if_pos nanN_can]
    rw [he] at hsh1
    unfold txN at hsh1
    clear hpf hs hsh tail hEH hUH
    go_enter Tryz.func5, Tryz.ntmps5
    go_wp2_with (first | (go_at_call 12; refine (none_any _).mono ?_; rintro e w' ⟨rfl, rfl⟩) | (go_at_call 7; refine hsh1.out.mono ?_; rintro e w' ⟨rfl, hB⟩) | (go_at_call 8; refine (hc.out _ _).mono ?_; rintro e w' ⟨rfl, rfl⟩))
    go_ret2
    exact ⟨.inr ⟨_, he, rfl⟩, hB⟩
  · have hne : (s.toList == [110, 111, 110, 101]) = false := by
      rw [ByteArray.toList_eq]
      apply beq_eq_false_iff_ne.2
      intro h
      apply hnone
      have h1 : s.data = ⟨[110, 111, 110, 101]⟩ := Array.toList_inj.1 h
      cases s
      rw [← h1]
    clear hnone
    go_enter Tryz.func5, Tryz.ntmps5
    go_wp2_with (first | (go_at_call 12; refine (none_any _).mono ?_; rintro e w' ⟨rfl, rfl⟩))
    go_at_call 13
    refine hpf.out.mono ?_
    rintro e w1 ⟨⟨k, v, hv, rfl⟩, hB⟩
    have hB1 : Hid (Below N w w1) := .mk (hB.mono hN)
    clear hB hpf
    rcases hv with rfl | ⟨t, p, rfl⟩
    · obtain ⟨t1, t2, t3⟩ := tail.out w1 hB1.out
      have hsh1 := Hid.mk (hsh.out k w1 t1 t2 t3)
      clear t1 t2 t3 tail hsh hEH hUH hs hN
      by_cases hk : shw T k = s
      · have hkk := Hid.mk hk
        rw [hk] at hsh1
        clear hk
        go_wp2_with (first | (go_at_call 7; refine hsh1.out.mono ?_; rintro e w' ⟨rfl, hB⟩) | (go_at_call 8; refine (hc.out _ _).mono ?_; rintro e w' ⟨rfl, rfl⟩))
        go_ret2
        exact ⟨.inr ⟨k, hkk.out, rfl⟩, hB1.out.trans hB⟩
      · have hq : ((shw T k).toList == s.toList) = false := by
          rw [ByteArray.toList_eq, ByteArray.toList_eq]
          apply beq_eq_false_iff_ne.2
          intro h
          apply hk
          have h1 : (shw T k).data = s.data := Array.toList_inj.1 h
          generalize shw T k = u at h1
          cases s; cases u
          cases h1; rfl
        clear hk
        generalize shw T k = u at *
        go_wp2_with (first | (go_at_call 7; refine hsh1.out.mono ?_; rintro e w' ⟨rfl, hB⟩) | (go_at_call 8; refine (hc.out _ _).mono ?_; rintro e w' ⟨rfl, rfl⟩))
        go_ret2
        exact ⟨.inl rfl, hB1.out.trans hB⟩
    · go_wp2_with (fail)
      go_ret2
      exact ⟨.inl rfl, hB1.out⟩
end Go.Proofs.YtpbombkmnfbcgaaGreatDoor
