/- The program's 'Weigh': what it returns. -/
import Derived.Test.YtedncponpbieeaaDoorCnt
namespace Go.Proofs.YtedncponpbieeaaDoor
open Go.RowKit

/-- The sums that 'Weigh' makes. -/
def weighO (vs ws : List Nat) : Nat → Option Nat × Option Nat
  | 0 => (some 0, some 0)
  | k + 1 => if nanN (vs.getD k 0) = true then weighO vs ws k else (opO .add (weighO vs ws k).1 (opO .mul (absF (vs.getD k 0)) (absF (ws.getD k 0))), opO .add (weighO vs ws k).2 (absF (ws.getD k 0)))

def zeroO : Option Nat → Bool
  | none => false
  | some r => decide (r % 9223372036854775808 = 0)

theorem zeroO_abs (y : Nat) : (FloatKind.f64.format.order y 0 == some Ordering.eq) = zeroO (absF y) := by
  cases h : nanN y with
  | true => rw [order_nan (.inl h)]; unfold absF; rw [if_pos h]; rfl
  | false => rw [order_zero h, absF_some h]; rfl

/-- What 'Weigh' comes to. -/
def weighE (vs ws : List Nat) : Nat × Nat :=
  if vs.length ≠ ws.length then (0, 1) else if ws.any badN = true then (0, 18) else
  if zeroO (weighO vs ws vs.length).2 = true then (9221120237041090561, 0) else (canO (opO .quo (weighO vs ws vs.length).1 (weighO vs ws vs.length).2), 0)

set_option maxRecDepth 100000 in
set_option maxHeartbeats 1600000 in
theorem weigh_any (a a' : Option Addr) (cap cap' : Nat) (vs ws : List Nat) (w : World) (h40 : vs.length ≤ 40) (h40' : ws.length ≤ 40)
    (hc : ∀ j, j < vs.length → ∃ b off, a = some ⟨b, off, none⟩ ∧ b < w.heap.size ∧ w.cell? ⟨b, off + j, none⟩ = some (.float .f64 (vs.getD j 0)))
    (hc' : ∀ j, j < ws.length → ∃ b off, a' = some ⟨b, off, none⟩ ∧ b < w.heap.size ∧ w.cell? ⟨b, off + j, none⟩ = some (.float .f64 (ws.getD j 0))) :
    Calls Tryd.prog 22 #[.slice a vs.length cap, .slice a' ws.length cap'] w fun e w' => e = .returned (.tuple #[.float .f64 (weighE vs ws).1, .int .i64 (weighE vs ws).2]) ∧ Below w.heap.size w w' := by
  by_cases hl : vs.length = ws.length
  · have hmf : ∀ (fn : Fn) (first cap : Array Value) (w : World), (Instr.makeFunc fn first cap).run Tryd.prog w = .ok (.func fn first cap) w := fun _ _ _ _ => rfl
    have hcon : Hid (Calls Tryd.prog 35 #[.slice a' ws.length cap', .func (.func 36) #[] #[]] w fun e w' => e = .returned (.bool (ws.any badN)) ∧ w = w') := contains_any a' cap' ws w h40' hc'
    cases hbad : ws.any badN with
    | true =>
      rw [hbad] at hcon
      have he : Hid (weighE vs ws = (0, 18)) := by unfold weighE Hid; rw [if_neg (by simpa using hl), if_pos hbad]
      clear hc hc' hbad
      go_enter Tryd.func22, Tryd.ntmps22
      go_wp2_with (go_at_call 35; refine (hcon.out).mono ?_; rintro e w' ⟨rfl, rfl⟩)
      all_goals first | (go_ret2; exact ⟨by rw [he.out]; rfl, Below.refl _ _⟩) | (exfalso; omega)
    | false =>
      rw [hbad] at hcon
      have he : Hid (weighE vs ws = if zeroO (weighO vs ws vs.length).2 = true then (9221120237041090561, 0) else (canO (opO .quo (weighO vs ws vs.length).1 (weighO vs ws vs.length).2), 0)) := by
        unfold weighE Hid; rw [if_neg (by simpa using hl), if_neg (by rw [hbad]; simp)]
      clear hbad
      go_enter Tryd.func22, Tryd.ntmps22
      go_wp2_with (go_at_call 35; refine (hcon.out).mono ?_; rintro e w' ⟨rfl, rfl⟩)
      go_loopw [6, 7, 19] (fun s t i wr => ∃ (k x y : Nat), k ≤ ws.length ∧ i = .int .i64 k ∧ s = .float .f64 x ∧ t = .float .f64 y ∧ absF x = (weighO vs ws k).1 ∧ absF y = (weighO vs ws k).2 ∧ Below w.heap.size w wr)
        (fun _ _ i _ => ws.length - (intOf i).toNat)
      case atStart => exact ⟨0, 0, 0, by omega, rfl, rfl, rfl, rfl, rfl, Below.refl _ _⟩
      case round =>
        obtain ⟨k, x, y, hk, rfl, rfl, rfl, hx, hy, hb⟩ := hrel
        by_cases hlt : k < ws.length
        · obtain ⟨b, off, rfl, hbw, hcell⟩ := hc k (by omega)
          obtain ⟨b', off', rfl, hbw', hcell'⟩ := hc' k hlt
          have hcr : wr.cell? ⟨b, off + k, none⟩ = some (.float .f64 (vs.getD k 0)) := by rw [hb.cell (by exact hbw), hcell]
          have hcr' : wr.cell? ⟨b', off' + k, none⟩ = some (.float .f64 (ws.getD k 0)) := by rw [hb.cell (by exact hbw'), hcell']
          have hs : Hid (weighO vs ws (k + 1) = if nanN (vs.getD k 0) = true then weighO vs ws k else (opO .add (weighO vs ws k).1 (opO .mul (absF (vs.getD k 0)) (absF (ws.getD k 0))), opO .add (weighO vs ws k).2 (absF (ws.getD k 0)))) := rfl
          clear hc hc' hcell hcell'
          generalize vs.getD k 0 = f at *
          generalize ws.getD k 0 = g at *
          have hn := order_refl f
          cases hnan : nanN f with
          | true =>
            rw [hnan] at hs hn
            go_wp2_with fail
            go_roundw
            case rel => exact ⟨k + 1, x, y, by omega, by go_num, rfl, rfl, by rw [hs.out]; exact hx, by rw [hs.out]; exact hy, hb⟩
            case measure => simp [intOf]; omega
          | false =>
            rw [hnan] at hs hn
            obtain ⟨r1, w1, hrun1, hb1, hh1, habs1, _⟩ := float_op .mul (.inr (.inl rfl)) 23 f g wr
            obtain ⟨r2, w2, hrun2, hb2, hh2, habs2, _⟩ := float_op .add (.inl rfl) 23 x r1 w1
            obtain ⟨r3, w3, hrun3, hb3, hh3, habs3, _⟩ := float_op .add (.inl rfl) 23 y g w2
            have hcr2 : w2.cell? ⟨b', off' + k, none⟩ = some (.float .f64 g) := by
              rw [← hcr']; simp only [World.cell?, hh2, hh1]
            have e1 : Hid (absF r2 = (weighO vs ws (k + 1)).1) := by unfold Hid; rw [habs2, habs1, hx, hs.out]; simp
            have e2 : Hid (absF r3 = (weighO vs ws (k + 1)).2) := by unfold Hid; rw [habs3, hy, hs.out]; simp
            have hbz : Below w.heap.size w w3 := hb.trans (((hb1.trans (hb2.mono hb1.size)).trans (hb3.mono (Nat.le_trans hb1.size hb2.size))).mono hb.size)
            clear habs1 habs2 habs3 hx hy hnan hh1 hh2 hh3
            go_wp2_with fail
            go_roundw
            case rel => exact ⟨k + 1, r2, r3, by omega, by go_num, rfl, rfl, e1.out, e2.out, hbz⟩
            case measure => simp [intOf]; omega
        · have hk' : k = vs.length := by omega
          rw [hk'] at hx hy
          have hz := zeroO_abs y
          rw [hy] at hz
          clear hc hc'
          generalize weighO vs ws vs.length = t at *
          cases hz0 : zeroO t.2 with
          | true =>
            rw [hz0] at hz he
            go_wp2_with (go_at_call 32; refine (none_any _).mono ?_; rintro e w' ⟨rfl, rfl⟩)
            go_ret2
            exact ⟨by rw [he.out]; rfl, hb⟩
          | false =>
            rw [hz0] at hz he
            obtain ⟨r, w1, hrun, hb1, _, habs, hr64⟩ := float_op .quo (.inr (.inr rfl)) 23 x y wr
            have hr : Hid (canN r = canO (opO .quo t.1 t.2)) := by unfold Hid; rw [canO_abs, habs, hx, hy]
            clear habs hx hy
            have hcan : Hid (∀ w, Calls Tryd.prog 14 #[.float .f64 r] w fun e w' => e = .returned (.float .f64 (canN r)) ∧ w = w') := fun w => canon_any r w
            have hb' : Below w.heap.size w w1 := hb.trans (hb1.mono hb.size)
            go_wp2_with (go_at_call 14; refine (hcan.out _).mono ?_; rintro e w' ⟨rfl, rfl⟩)
            go_ret2
            exact ⟨by rw [he.out, ← hr.out]; rfl, hb'⟩
  · have he : Hid (weighE vs ws = (0, 1)) := by unfold weighE Hid; rw [if_pos hl]
    clear hc hc'
    go_enter Tryd.func22, Tryd.ntmps22
    go_wp2_with fail
    all_goals first | (go_ret2; exact ⟨by rw [he.out]; rfl, Below.refl _ _⟩) | (exfalso; omega)
end Go.Proofs.YtedncponpbieeaaDoor
