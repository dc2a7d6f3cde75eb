/- special: a text that begins with a digit, or with a sign and a digit, is none of the special ones. ParseFloat of a decimal text in a number's rounding interval: that number, no error. ParseFloat, where atof64 answers a number of the whole text. -/
import Derived.Test.YthhmimlfiaboeaaGreatDoorRde
import Derived.Test.YthhmimlfiaboeaaGreatDoorExn
namespace Go.Proofs.YthhmimlfiaboeaaGreatDoor
open Go.RowKit

set_option maxHeartbeats 800000 in
theorem cpl_zero (s p : ByteArray) (w : World) (hs : 0 < s.size) (hs2 : s.size ≤ 1000) (hp : 0 < p.size) (hp2 : p.size ≤ 1000) (c : Nat) (hc : s[0].toNat = c) (hc1 : 48 ≤ c) (hc2 : c ≤ 57) (hp0 : p[0].toNat = 105) :
    Calls Tryz.prog 93 #[.string s, .string p] w fun e w' => e = .returned (.int .i64 0) ∧ w = w' := by
  go_enter Tryz.func93, Tryz.ntmps93
  have hm : ((0 : Int) < min (p.size : Int) (s.size : Int)) := by omega
  go_wp2_with (fail)
  go_loopw [6] (fun x wr => wr = w ∧ x = .int .i64 0) (fun _ _ => 0)
  case atStart => exact ⟨rfl, rfl⟩
  case round =>
    obtain ⟨rfl, rfl⟩ := hrel
    have h1 : (65 ≤ (c : Int)) = False := eq_false (by omega)
    have h2 : ((c : Int) != 105) = true := by simp; omega
    have h3 : ((c : Int) == 105) = false := beq_ne (by omega)
    go_wp2_with (fail)
    go_ret
    exact ⟨rfl, rfl⟩

set_option maxHeartbeats 1600000 in
theorem special_no (s : ByteArray) (neg : Bool) (c : Nat) (l : List Nat) (w : World) (hs : TxtIs s (sgl neg ++ c :: l)) (h100 : s.size ≤ 100) (hc1 : 48 ≤ c) (hc2 : c ≤ 57) :
    Calls Tryz.prog 74 #[.string s] w fun e w' => e = .returned (.tuple #[.float .f64 0, .int .i64 0, .bool false]) ∧ w = w' := by
  obtain ⟨hsz, hat⟩ := hs
  have hpos : 0 < s.size := by rw [hsz]; simp; omega
  have hpi : (1 : Int) ≤ (s.size : Int) := by omega
  have hp1 : 1 ≤ s.size := hpos
  have h0b : ((s.size : Int) == 0) = false := beq_ne (by omega)
  cases neg
  · have h4 : s[0].toNat = c := by
      have := hat 0 hpos
      simpa [sgl] using this.symm
    have e1 : ((c : Int) == 43) = false := beq_ne (by omega)
    have e2 : ((c : Int) == 45) = false := beq_ne (by omega)
    have e3 : ((c : Int) == 105) = false := beq_ne (by omega)
    have e4 : ((c : Int) == 73) = false := beq_ne (by omega)
    have e5 : ((c : Int) == 110) = false := beq_ne (by omega)
    have e6 : ((c : Int) == 78) = false := beq_ne (by omega)
    clear hsz hat
    go_enter Tryz.func74, Tryz.ntmps74
    go_wp2_with (fail)
    go_ret3
    exact ⟨rfl, rfl⟩
  · have h4 : s[0].toNat = 45 := by
      have := hat 0 hpos
      simpa [sgl] using this.symm
    have h1s : 1 < s.size := by rw [hsz]; simp [sgl]
    have h5 : s[1].toNat = c := by
      have := hat 1 h1s
      simpa [sgl] using this.symm
    obtain ⟨t, ht⟩ : ∃ t, s.extract 1 s.size = t := ⟨_, rfl⟩
    have htz : t.size = s.size - 1 := by rw [← ht]; simp
    have ht0 : 0 < t.size := by omega
    have ht1 : t[0].toNat = c := by
      subst ht
      rw [ByteArray.getElem_extract]
      exact h5
    have hcp := Hid.mk (fun w => cpl_zero t ⟨#[105, 110, 102, 105, 110, 105, 116, 121]⟩ w ht0 (by omega) (by decide) (by decide) c ht1 hc1 hc2 (by decide))
    clear hsz hat htz ht0 ht1 h5
    go_enter Tryz.func74, Tryz.ntmps74
    go_wp2_with (first | (go_at_call 93; refine (hcp.out _).mono ?_; rintro e w' ⟨rfl, rfl⟩))
    go_ret3
    exact ⟨rfl, rfl⟩
end Go.Proofs.YthhmimlfiaboeaaGreatDoor

namespace Go.Proofs.YthhmimlfiaboeaaGreatDoor
open Go.RowKit

/-- What the reading asks of the memory. -/
structure Env (N : Nat) (w : World) : Prop where
  flt : FltAt N w
  tab : TabAt Us.tHi Us.tLo N w
  p10 : P10At N w
  opt : w.cell? ⟨1, 0, none⟩ = some (.bool true)
  lt : 1 < N
  ns : N ≤ w.heap.size
theorem Env.keep {N : Nat} {w w' : World} (h : Env N w) (hb : Below N w w') : Env N w' :=
  ⟨h.flt.keep hb, h.tab.keep hb, h.p10.keep hb, (hb.cell (by exact h.lt)).trans h.opt, h.lt, Nat.le_trans h.ns hb.size⟩

theorem b2u_sg (neg : Bool) (w : World) : Calls Tryz.prog 83 #[.bool neg] w fun e w' => e = .returned (.int .u64 (if neg then 1 else 0)) ∧ w = w' := b2u_any neg w

set_option maxRecDepth 100000 in
set_option maxHeartbeats 6400000 in
theorem atf_core (N : Nat) (s : ByteArray) (neg : Bool) (m J m0 n : Nat) (w : World) (hE : Env N w)
    (hsp : Calls Tryz.prog 74 #[.string s] w fun e w' => e = .returned (.tuple #[.float .f64 0, .int .i64 0, .bool false]) ∧ w = w')
    (hrd : Calls Tryz.prog 75 #[.string s] w fun e w' => e = .returned (.tuple #[.int .u64 (m : Nat), .int .i64 ((J : Int) - 348), .bool neg, .bool false, .bool false, .int .i64 (s.size : Nat), .bool true]) ∧ w = w')
    (hm0 : 0 < m) (hm1 : m < 144115188075855872) (hJ1 : 3 ≤ J) (hJ2 : J ≤ 658) (hf : Us.Fin64 m0 n) (hI : Us.Ins m0 n (m * 10 ^ J)) :
    Calls Tryz.prog 49 #[.string s] w fun e w' => e = .returned (.tuple #[.float .f64 (Ieee.double.word neg (Us.rung m0 n)), .int .i64 (s.size : Nat), .nilIface]) ∧ Below w.heap.size w w' := by
  have hspH := Hid.mk hsp
  have hrdH := Hid.mk hrd
  have copt := hE.opt
  have hex := Hid.mk (exa_is N m J neg m0 n w hm0 (by omega) hE.flt hE.p10 (by omega) hf hI)
  have hpf := Hid.mk (pfl_is N m J neg m0 n w hm0 hm1 hE.tab hE.ns hJ1 hJ2 hf hI)
  obtain ⟨R, hR⟩ : ∃ R, Ieee.double.word neg (Us.rung m0 n) = R := ⟨_, rfl⟩
  rw [hR] at hex hpf ⊢
  clear hE hI hf hR hsp hrd
  obtain ⟨p, hp⟩ : ∃ p : Int, (J : Int) - 348 = p := ⟨_, rfl⟩
  rw [hp] at hrdH hex hpf
  have hp1 : (310 < p) = False := eq_false (by omega)
  have hp2 : (p < -345) = False := eq_false (by omega)
  have hp3 : -345 ≤ p := by omega
  have hp4 : p ≤ 310 := by omega
  have hmb : ((m : Int) == 0) = false := beq_ne (by omega)
  clear hp
  go_enter Tryz.func49, Tryz.ntmps49
  go_wp2_with (fail)
  go_at_call 74
  refine hspH.out.mono ?_
  rintro e w1 ⟨rfl, rfl⟩
  go_wp2_with (fail)
  go_at_call 75
  refine hrdH.out.mono ?_
  rintro e w1 ⟨rfl, rfl⟩
  go_wp2_with (fail)
  go_at_call 83
  refine (b2u_sg neg _).mono ?_
  rintro e w1 ⟨rfl, rfl⟩
  obtain ⟨sg1, hsg1⟩ : ∃ sg1 : Int, (if neg then (1 : Int) else 0) = sg1 := ⟨_, rfl⟩
  have hsg : IntKind.u64.wrap (sg1 * 9223372036854775808) = ((sgb neg : Nat) : Int) := by rw [← hsg1]; cases neg <;> decide
  rw [hsg1]
  clear hsg1
  obtain ⟨sb, hsb⟩ : ∃ sb, sgb neg = sb := ⟨_, rfl⟩
  rw [hsb] at hsg hpf
  clear hsb
  go_wp2_with (fail)
  go_at_call 85
  refine hex.out.mono ?_
  rintro e w2 ⟨he, rfl⟩
  rcases he with ⟨k, rfl⟩ | rfl
  · go_wp2_with (fail)
    go_at_call 86
    refine hpf.out.mono ?_
    rintro e w3 ⟨rfl, hB3⟩
    have hB3H := Hid.mk hB3
    clear hB3
    go_wp2_with (fail)
    go_ret3
    exact ⟨rfl, hB3H.out⟩
  · go_wp2_with (fail)
    go_ret3
    exact ⟨rfl, Below.refl _ _⟩
end Go.Proofs.YthhmimlfiaboeaaGreatDoor

namespace Go.Proofs.YthhmimlfiaboeaaGreatDoor
open Go.RowKit

/-- atof64 answers that float of the whole text. -/
def AtfSays (s : ByteArray) (R : Nat) (f : FuncId) (args : Array Value) (w : World) : Prop := Calls Tryz.prog f args w fun e w' => e = .returned (.tuple #[.float .f64 R, .int .i64 (s.size : Nat), .nilIface]) ∧ Below w.heap.size w w'

theorem ppf_is (s : ByteArray) (R : Nat) (w : World) (h : AtfSays s R 49 #[.string s] w) : AtfSays s R 28 #[.string s, .int .i64 64] w := by
  have hm := Hid.mk h
  clear h
  unfold AtfSays
  go_enter Tryz.func28, Tryz.ntmps28
  go_wp2_with (fail)
  go_at_call 49
  refine hm.out.mono ?_
  rintro e w2 ⟨rfl, hB⟩
  go_wp2_with (fail)
  go_ret3
  exact ⟨rfl, hB⟩

/-- A float, no error. -/
def ParSays (R : Nat) (f : FuncId) (args : Array Value) (w : World) : Prop := Calls Tryz.prog f args w fun e w' => e = .returned (.tuple #[.float .f64 R, .nilIface]) ∧ Below w.heap.size w w'

theorem ipf_is (s : ByteArray) (R : Nat) (w : World) (h : AtfSays s R 49 #[.string s] w) : ParSays R 24 #[.string s, .int .i64 64] w := by
  have hm := Hid.mk (ppf_is s R w h)
  clear h
  unfold ParSays
  go_enter Tryz.func24, Tryz.ntmps24
  go_wp2_with (fail)
  go_at_call 28
  refine hm.out.mono ?_
  rintro e w2 ⟨rfl, hB⟩
  have hBH := Hid.mk hB
  clear hB
  go_wp2_with (fail)
  go_ret2
  exact ⟨rfl, hBH.out⟩

theorem spf_is (s : ByteArray) (R : Nat) (w : World) (h : AtfSays s R 49 #[.string s] w) : ParSays R 18 #[.string s, .int .i64 64] w := by
  have hm := Hid.mk (ipf_is s R w h)
  clear h
  unfold ParSays
  go_enter Tryz.func18, Tryz.ntmps18
  go_wp2_with (fail)
  go_at_call 24
  refine hm.out.mono ?_
  rintro e w2 ⟨rfl, hB⟩
  have hBH := Hid.mk hB
  clear hB
  go_wp2_with (fail)
  go_ret2
  exact ⟨rfl, hBH.out⟩
end Go.Proofs.YthhmimlfiaboeaaGreatDoor
