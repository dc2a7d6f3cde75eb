/- 'strconv.ParseFloat' always answers. -/
import Derived.Test.YtpbombkmnfbcgaaGreatDoorAtf
namespace Go.Proofs.YtpbombkmnfbcgaaGreatDoor
open Go.RowKit

/-- No error's value, or some error's. -/
def Nilish (v : Value) : Prop := v = .nilIface ∨ ∃ t p, v = .iface t p
/-- The environment, and the library's two errors. -/
structure Env2 (tH tL : Nat → Nat) (N : Nat) (w : World) : Prop where
  env : Env tH tL N w
  es : ∃ ev, w.cell? ⟨1, 0, none⟩ = some ev ∧ Nilish ev
  er : ∃ ev, w.cell? ⟨2, 0, none⟩ = some ev ∧ Nilish ev
  lts : 1 < N
  ltr : 2 < N
theorem Env2.keep {tH tL : Nat → Nat} {N : Nat} {w w' : World} (h : Env2 tH tL N w) (hb : Below N w w') : Env2 tH tL N w' :=
  ⟨h.env.keep hb, let ⟨v, h1, h2⟩ := h.es; ⟨v, (hb.cell (by exact h.lts)).trans h1, h2⟩, let ⟨v, h1, h2⟩ := h.er; ⟨v, (hb.cell (by exact h.ltr)).trans h1, h2⟩, h.lts, h.ltr⟩

theorem ppf_any (tH tL : Nat → Nat) (N : Nat) (s : ByteArray) (w : World) (hs : s.size ≤ 400) (hE : Env tH tL N w) :
    Calls Tryz.prog 22 #[.string s, .int .i64 64] w fun e w' => IsFNE e ∧ Below w.heap.size w w' := by
  have hm := Hid.mk (atf_any tH tL N s w hs hE)
  clear hE
  go_enter Tryz.func22, Tryz.ntmps22
  go_wp2_with (fail)
  go_at_call 30
  refine hm.out.mono ?_
  rintro e w2 ⟨⟨k, n, v, hv, rfl⟩, hB⟩
  go_wp2_with (fail)
  go_ret3
  exact ⟨⟨_, _, _, hv, rfl⟩, hB⟩

theorem ipf_any (tH tL : Nat → Nat) (N : Nat) (s : ByteArray) (w : World) (hs : s.size ≤ 400) (hE : Env tH tL N w) :
    Calls Tryz.prog 18 #[.string s, .int .i64 64] w fun e w' => IsFE e ∧ Below w.heap.size w w' := by
  have hm := Hid.mk (ppf_any tH tL N s w hs hE)
  clear hE
  go_enter Tryz.func18, Tryz.ntmps18
  go_wp2_with (fail)
  go_at_call 22
  refine hm.out.mono ?_
  rintro e w2 ⟨⟨k, n, v, hv, rfl⟩, hB⟩
  go_wp2_with (fail)
  all_goals go_ret2
  · exact ⟨⟨_, _, .inr (.inr rfl), rfl⟩, hB⟩
  · exact ⟨⟨_, _, hv, rfl⟩, hB⟩

/-- A float, and no error or some error. -/
def IsFN (e : Ending) : Prop := ∃ (k : Nat) (v : Value), Nilish v ∧ e = .returned (.tuple #[.float .f64 k, v])

set_option maxHeartbeats 800000 in
theorem spf_any (tH tL : Nat → Nat) (N : Nat) (s : ByteArray) (w : World) (hs : s.size ≤ 400) (hE : Env2 tH tL N w) :
    Calls Tryz.prog 13 #[.string s, .int .i64 64] w fun e w' => IsFN e ∧ Below w.heap.size w w' := by
  have hm := Hid.mk (ipf_any tH tL N s w hs hE.env)
  have hEH := Hid.mk hE
  clear hE
  go_enter Tryz.func13, Tryz.ntmps13
  go_wp2_with (fail)
  go_at_call 18
  refine hm.out.mono ?_
  rintro e w2 ⟨⟨k, v, hv, rfl⟩, hB⟩
  have hBH := Hid.mk hB
  have hE2 : Hid (Env2 tH tL N w2) := .mk (hEH.out.keep (hB.mono hEH.out.env.ns))
  clear hB
  rcases hv with rfl | rfl | rfl
  · go_wp2_with (fail)
    go_ret2
    exact ⟨⟨_, _, .inl rfl, rfl⟩, hBH.out⟩
  · go_wp2_with (fail)
    obtain ⟨ev, hv1, hv2⟩ := hE2.out.er
    go_at_call 19
    refine (Tryz.strconv_toError_range _ s 0 64 ev w2 (by omega) hv1 hv2).mono ?_
    rintro e w3 ⟨M, rfl, _, _, hB3⟩
    go_wp2_with (fail)
    go_ret2
    exact ⟨⟨_, _, .inr ⟨_, _, rfl⟩, rfl⟩, hBH.out.trans (hB3.mono hBH.out.size)⟩
  · go_wp2_with (fail)
    obtain ⟨ev, hv1, hv2⟩ := hE2.out.es
    go_at_call 19
    refine (Tryz.strconv_toError_syntax _ s 0 64 ev w2 (by omega) hv1 hv2).mono ?_
    rintro e w3 ⟨M, rfl, _, _, hB3⟩
    go_wp2_with (fail)
    go_ret2
    exact ⟨⟨_, _, .inr ⟨_, _, rfl⟩, rfl⟩, hBH.out.trans (hB3.mono hBH.out.size)⟩
end Go.Proofs.YtpbombkmnfbcgaaGreatDoor
