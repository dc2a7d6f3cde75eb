/- 'ParseFloat' always answers. -/
import Derived.Test.YtpbombkmnfbcgaaGreatDoorPfl
import Derived.Test.YtpbombkmnfbcgaaGreatDoorRdf
import Derived.Test.YtpbombkmnfbcgaaGreatDoorSet
import Derived.Test.YtpbombkmnfbcgaaGreatDoorFld
namespace Go.Proofs.YtpbombkmnfbcgaaGreatDoor
open Go.RowKit

/-- What the library reads, in memory. -/
structure Env (tH tL : Nat → Nat) (N : Nat) (w : World) : Prop where
  glb : GlbAt N w
  pow : PowAt N w
  cht : CheatsAt N w
  tab : TabAt tH tL N w
  p10 : P10At N w
  opt : w.cell? ⟨3, 0, none⟩ = some (.bool true)
  lt : 3 < N
  ns : N ≤ w.heap.size
theorem Env.keep {tH tL : Nat → Nat} {N : Nat} {w w' : World} (h : Env tH tL N w) (hb : Below N w w') : Env tH tL N w' :=
  ⟨h.glb.keep hb, h.pow.keep hb, h.cht.keep hb, h.tab.keep hb, h.p10.keep hb, (hb.cell (by exact h.lt)).trans h.opt, h.lt, Nat.le_trans h.ns hb.size⟩

/-- floatBits of any decimal. -/
theorem flb_any (N B : Nat) (D : Nat → Nat) (nd : Nat) (dp : Int) (neg tr : Bool) (w : World) (hS : DecS B D nd dp neg tr w) (hF : FltAt N w) (hP : PowAt N w) (hC : CheatsAt N w) (hNB : N ≤ B) (hD : Digs D nd) (h0 : nd = 0 ∨ D 0 ≠ 48) (h8 : nd ≤ 800) :
    Calls Tryz.prog 57 #[.pointer (some ⟨B, 0, none⟩), .pointer (some ⟨5, 0, none⟩)] w fun e w' => IsUB e ∧ Onl B w w' := by
  by_cases hn : nd = 0
  · subst hn
    exact (flb_zero N B D dp neg tr w hS hF).mono fun e w' h => ⟨h.1, Onl.of B h.2⟩
  · have h0' : D 0 ≠ 48 := by rcases h0 with h | h; exact absurd h hn; exact h
    by_cases hfar : 310 < dp ∨ dp < -330
    · exact flb_far N B D nd dp neg tr w hS hF (by omega) hfar
    · exact flb_near N B D nd dp neg tr w hS hF hP hC hNB hD h0' (by omega) h8 (by omega) (by omega)

/-- An answer: a float, how far, an error. -/
def IsFNE (e : Ending) : Prop := ∃ (k : Nat) (n : Int) (v : Value), ErrV v ∧ e = .returned (.tuple #[.float .f64 k, .int .i64 n, v])

def zl : List Value := List.replicate 800 (Value.int .u8 0) ++ ([.int .i64 0, .int .i64 0, .bool false, .bool false] : List Value)
theorem zero82 : Tryz.zeroCells82 = zl.toArray := by kernel_rfl
theorem zl_lt {i : Nat} (hi : i < 800) : zl[i]? = some (.int .u8 0) := by
  unfold zl
  rw [List.getElem?_append_left (by rw [List.length_replicate]; exact hi), List.getElem?_replicate, if_pos hi]
theorem zl0 : zl[800]? = some (.int .i64 0) := by kernel_rfl
theorem zl1 : zl[801]? = some (.int .i64 0) := by kernel_rfl
theorem zl2 : zl[802]? = some (.bool false) := by kernel_rfl
theorem zl3 : zl[803]? = some (.bool false) := by kernel_rfl
theorem dec_new (w : World) : DecS w.heap.size (fun _ => 0) 0 0 false false (w.alloc (.cells Tryz.zeroCells82 82)) := by
  have at_ : ∀ i, (w.alloc (.cells Tryz.zeroCells82 82)).cell? ⟨w.heap.size, i, none⟩ = zl[i]? := fun i => by
    rw [World.cell?_alloc_new, zero82, List.getElem?_toArray]
  exact ⟨fun i hi => (at_ i).trans (zl_lt hi), fun _ => Nat.zero_lt_succ _, (at_ 800).trans zl0, (at_ 801).trans zl1, (at_ 802).trans zl2, (at_ 803).trans zl3, fun i => World.frozen?_alloc_new _ _ _ _⟩

theorem b2u_ex (b : Bool) (w : World) : Calls Tryz.prog 58 #[.bool b] w fun e w' => (∃ z : Int, e = .returned (.int .u64 z)) ∧ w = w' := (b2u_any b w).mono fun _ _ h => ⟨⟨_, h.1⟩, h.2⟩

set_option maxRecDepth 100000 in
set_option maxHeartbeats 20000000 in
theorem atf_any (tH tL : Nat → Nat) (N : Nat) (s : ByteArray) (w : World) (hs : s.size ≤ 400) (hE : Env tH tL N w) :
    Calls Tryz.prog 30 #[.string s] w fun e w' => IsFNE e ∧ Below w.heap.size w w' := by
  have hff := fun (z : Int) (w : World) => run_ff z w
  have copt := hE.opt
  have hEH := Hid.mk hE
  clear hE
  go_enter Tryz.func30, Tryz.ntmps30
  go_wp2_with (fail)
  go_at_call 49
  refine (special_any s w (by omega)).mono ?_
  rintro e w1 ⟨⟨k, n, b, rfl⟩, rfl⟩
  cases b
  · go_wp2_with (fail)
    go_at_call 50
    refine (rdf_any s w hs).mono ?_
    rintro e w1 ⟨⟨m, p, neg, tr, hex, ok, i, hm0, hm1, hp0, hp1, hi0, hi1, rfl⟩, rfl⟩
    obtain ⟨m, rfl⟩ : ∃ x : Nat, m = (x : Int) := ⟨m.toNat, by omega⟩
    obtain ⟨i, rfl⟩ : ∃ x : Nat, i = (x : Int) := ⟨i.toNat, by omega⟩
    have hm2 : m < 18446744073709551616 := by omega
    have hi2 : i ≤ s.size := by omega
    have hxs : (s.extract 0 i).size ≤ 400 := by simp; omega
    have hxsH := Hid.mk hxs
    clear hxs hm0 hm1 hi0
    cases ok
    · go_wp2_with (fail)
      go_ret3
      exact ⟨⟨_, _, _, .inr (.inr rfl), rfl⟩, Below.refl _ _⟩
    · cases hex
      · go_wp2_with (fail)
        go_at_call 58
        refine (b2u_ex _ _).mono ?_
        rintro e w1 ⟨⟨z, rfl⟩, rfl⟩
        by_cases hm0 : m = 0
        · have hmb : ((m : Int) == 0) = true := by simp [hm0]
          go_wp2_with (fail)
          go_ret3
          exact ⟨⟨_, _, _, .inl rfl, rfl⟩, Below.refl _ _⟩
        have hmb : ((m : Int) == 0) = false := beq_ne (by omega)
        by_cases hp3 : 310 < p
        · go_wp2_with (fail)
          go_ret3
          exact ⟨⟨_, _, _, .inr (.inl rfl), rfl⟩, Below.refl _ _⟩
        have hp3f : (310 < p) = False := eq_false hp3
        by_cases hp4 : p < -345
        · go_wp2_with (fail)
          go_ret3
          exact ⟨⟨_, _, _, .inl rfl, rfl⟩, Below.refl _ _⟩
        have hp4f : (p < -345) = False := eq_false hp4
        cases tr
        · go_wp2_with (fail)
          go_at_call 60
          refine (exa_any N m p neg w hm2 hEH.out.glb.flt hEH.out.p10 (by omega) (by omega)).mono ?_
          rintro e w2 ⟨⟨k, b, rfl⟩, hB⟩
          cases b
          · go_wp2_with (fail)
            go_at_call 61
            refine (pfl_any tH tL N m p _ w2 hm2 (hEH.out.keep (hB.mono hEH.out.ns)).tab (hEH.out.keep (hB.mono hEH.out.ns)).ns (by omega) (by omega)).mono ?_
            rintro e w3 ⟨⟨k, v, hv, rfl⟩, hB3⟩
            go_wp2_with (fail)
            go_ret3
            exact ⟨⟨_, _, _, hv, rfl⟩, hB.trans (hB3.mono hB.size)⟩
          · go_wp2_with (fail)
            go_ret3
            exact ⟨⟨_, _, _, .inl rfl, rfl⟩, hB⟩
        · obtain ⟨m1, hm1, em1⟩ := wrapU ((m : Int) + 1)
          go_wp2_with (fail)
          go_at_call 61
          refine (pfl_any tH tL N m p _ w hm2 hEH.out.tab hEH.out.ns (by omega) (by omega)).mono ?_
          rintro e w2 ⟨⟨k, v, hv, rfl⟩, hB⟩
          have hE2 : Hid (Env tH tL N w2) := .mk (hEH.out.keep (hB.mono hEH.out.ns))
          have hBH := Hid.mk hB
          clear hB
          go_wp2_with (fail)
          go_at_call 61
          refine (pfl_any tH tL N m1 p _ w2 hm1 hE2.out.tab hE2.out.ns (by omega) (by omega)).mono ?_
          rintro e w3 ⟨⟨k2, v2, hv2, rfl⟩, hB3⟩
          have hE3 : Hid (Env tH tL N w3) := .mk (hE2.out.keep (hB3.mono hE2.out.ns))
          have hB3H : Hid (Below w.heap.size w w3) := .mk (hBH.out.trans (hB3.mono hBH.out.size))
          clear hB3
          go_wp2_with (fail)
          · go_ret3
            exact ⟨⟨_, _, _, hv, rfl⟩, hB3H.out⟩
          · have hB : N ≤ w3.heap.size := hE3.out.ns
            have hB4 : Below w.heap.size w (w3.alloc (.cells Tryz.zeroCells82 82)) := hB3H.out.trans ((Below.refl _ _).alloc hB3H.out.size _)
            have hE4 : Hid (Env tH tL N (w3.alloc (.cells Tryz.zeroCells82 82))) := .mk (hE3.out.keep ((Below.refl _ _).alloc hE3.out.ns _))
            have hB4H := Hid.mk hB4
            clear hB4
            go_at_call 56
            refine (set_any w3.heap.size (s.extract 0 i) (fun _ => 0) false false _ hxsH.out (dec_new w3)).mono ?_
            rintro e w5 ⟨⟨b, rfl⟩, D, nd, dp, ng, tr, hS, hnd⟩
            have hE5 : Hid (Env tH tL N w5) := .mk (hE4.out.keep (hS.only.blw hB (by simp; omega)))
            have hB5 : Hid (Below w.heap.size w w5) := .mk (hB4H.out.trans (hS.only.blw hB3H.out.size (by simp; have := hB3H.out.size; omega)))
            have hSH := Hid.mk hS
            clear hS
            cases b
            · go_wp2_with (fail)
              go_ret3
              exact ⟨⟨_, _, _, .inr (.inr rfl), rfl⟩, hB5.out⟩
            · go_wp2_with (fail)
              go_at_call 57
              refine (flb_any N w3.heap.size D nd dp ng tr w5 hSH.out.dec hE5.out.glb.flt hE5.out.pow hE5.out.cht hB hSH.out.dg hSH.out.first (by omega)).mono ?_
              rintro e w6 ⟨⟨u, ov, hu, rfl⟩, hO6⟩
              have hB6 : Hid (Below w.heap.size w w6) := .mk (hB5.out.trans (hO6.blw hB3H.out.size hB5.out.size))
              clear hO6
              cases ov
              all_goals
                go_wp2_with (fail)
                go_ret3
              · exact ⟨⟨_, _, _, .inl rfl, rfl⟩, hB6.out⟩
              · exact ⟨⟨_, _, _, .inr (.inl rfl), rfl⟩, hB6.out⟩
      · go_wp2_with (fail)
        go_at_call 51
        refine (hex_any N _ m p neg tr w hm2 hEH.out.glb).mono ?_
        rintro e w2 ⟨⟨k, v, hv, rfl⟩, hB⟩
        go_wp2_with (fail)
        go_ret3
        exact ⟨⟨_, _, _, hv, rfl⟩, hB⟩
  · go_wp2_with (fail)
    go_ret3
    exact ⟨⟨_, _, _, .inl rfl, rfl⟩, Below.refl _ _⟩
end Go.Proofs.YtpbombkmnfbcgaaGreatDoor
