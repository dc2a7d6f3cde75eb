/- The reference's 'Weigh': what it returns. -/
import Derived.Test.YtedncponpbieeaaDoorWgA
import Derived.Outline
namespace Go.Proofs.YtedncponpbieeaaDoor
open Go.RowKit

inductive WSame (w : World) : World → Prop
  | mk : WSame w w

set_option maxRecDepth 100000 in
set_option maxHeartbeats 1600000 in
theorem rweigh_any (a a' : Option Addr) (cap cap' : Nat) (vs ws : List Nat) (w : World) (h40 : vs.length ≤ 40) (h40' : ws.length ≤ 40) (hv64 : ∀ f ∈ vs, f < 18446744073709551616) (hw64 : ∀ f ∈ ws, f < 18446744073709551616)
    (hc : ∀ j, j < vs.length → ∃ b off, a = some ⟨b, off, none⟩ ∧ b < w.heap.size ∧ w.cell? ⟨b, off + j, none⟩ = some (.float .f64 (vs.getD j 0)))
    (hc' : ∀ j, j < ws.length → ∃ b off, a' = some ⟨b, off, none⟩ ∧ b < w.heap.size ∧ w.cell? ⟨b, off + j, none⟩ = some (.float .f64 (ws.getD j 0))) :
    Calls Tryd.prog 23 #[.slice a vs.length cap, .slice a' ws.length cap'] w fun e w' => e = .returned (.tuple #[.float .f64 (weighE vs ws).1, .int .i64 (weighE vs ws).2]) ∧ Below w.heap.size w w' := by
  by_cases hl : vs.length = ws.length
  · have hlH : Hid (vs.length = ws.length) := hl
    rw [hl]
    clear hl
    go_enter Tryd.func23, Tryd.ntmps23
    go_wp2_with fail
    go_loopw [6] (fun i wr => ∃ k : Nat, k ≤ ws.length ∧ i = .int .i64 k ∧ (ws.take k).any badN = false ∧ WSame w wr)
      (fun i _ => ws.length - (intOf i).toNat)
    case atStart => exact ⟨0, by omega, rfl, rfl, .mk⟩
    case round =>
      obtain ⟨k, hk, rfl, hx, hwr⟩ := hrel
      cases hwr
      have hx' : Hid ((ws.take k).any badN = false) := hx
      clear hx
      by_cases hlt : k < ws.length
      · obtain ⟨b, off, rfl, hbw, hcell⟩ := hc' k hlt
        have hcellr : w.cell? ⟨b, off + k, none⟩ = some (.float .f64 ws[k]) := by
          rw [hcell, List.getD, List.getElem?_eq_getElem hlt]; rfl
        clear hc hc' hcell
        have hany : Hid ((ws.take (k + 1)).any badN = badN ws[k]) := by
          unfold Hid; rw [List.take_succ_eq_append_getElem hlt, List.any_append, hx'.out]; simp
        have hall : Hid (badN ws[k] = true → ws.any badN = true) := fun h => List.any_eq_true.2 ⟨_, List.getElem_mem _, h⟩
        have hcall : Hid (∀ w, Calls Tryd.prog 33 #[.float .f64 ws[k]] w fun e w' => e = .returned (.bool (nanN ws[k])) ∧ w = w') := fun w => nan_any _ (hw64 _ (List.getElem_mem _)) w
        generalize ws[k] = f at *
        have hbadE : Hid (badN f = (nanN f || (FloatKind.f64.format.order f 0 == some Ordering.lt) || bigN f)) := rfl
        cases h1 : nanN f with
        | true =>
          rw [h1] at hbadE hcall
          have hT := hall.out (by rw [hbadE.out]; rfl)
          have he : Hid (weighE vs ws = (0, 18)) := by unfold weighE Hid; rw [if_neg (by simpa using hlH.out), if_pos hT]
          clear h1 hT hall hany
          go_wp2_with (go_at_call 33; refine (hcall.out _).mono ?_; rintro e w' ⟨rfl, rfl⟩)
          go_ret2
          exact ⟨by rw [he.out]; rfl, Below.refl _ _⟩
        | false =>
          rw [h1] at hbadE hcall
          cases h2 : (FloatKind.f64.format.order f 0 == some Ordering.lt) with
          | true =>
            rw [h2] at hbadE
            have hT := hall.out (by rw [hbadE.out]; rfl)
            have he : Hid (weighE vs ws = (0, 18)) := by unfold weighE Hid; rw [if_neg (by simpa using hlH.out), if_pos hT]
            clear h1 hT hall hany
            go_wp2_with (go_at_call 33; refine (hcall.out _).mono ?_; rintro e w' ⟨rfl, rfl⟩)
            go_ret2
            exact ⟨by rw [he.out]; rfl, Below.refl _ _⟩
          | false =>
            rw [h2] at hbadE
            cases h3 : (FloatKind.f64.format.order f 9218868437227405311 == some Ordering.gt) with
            | true =>
              have hT := hall.out (by rw [hbadE.out]; unfold bigN; rw [h3]; rfl)
              have he : Hid (weighE vs ws = (0, 18)) := by unfold weighE Hid; rw [if_neg (by simpa using hlH.out), if_pos hT]
              clear h1 hT hall hany
              go_wp2_with (go_at_call 33; refine (hcall.out _).mono ?_; rintro e w' ⟨rfl, rfl⟩)
              go_ret2
              exact ⟨by rw [he.out]; rfl, Below.refl _ _⟩
            | false =>
              have hF : Hid (badN f = false) := by unfold Hid; rw [hbadE.out]; unfold bigN; rw [h3]; rfl
              clear h1 hall
              go_wp2_with (go_at_call 33; refine (hcall.out _).mono ?_; rintro e w' ⟨rfl, rfl⟩)
              go_roundw
              case rel => exact ⟨k + 1, by omega, by go_num, by rw [hany.out, hF.out], .mk⟩
              case measure => simp [intOf]; omega
      · have hk' : k = ws.length := by omega
        subst hk'
        have hF : ws.any badN = false := by have := hx'.out; rwa [List.take_length] at this
        have hFh : Hid (ws.any badN = false) := hF
        clear hF hx' hlt hk
        go_wp2_with fail

        go_loopw [7, 8, 9] (fun s t i wr => ∃ (k x y : Nat), k ≤ ws.length ∧ i = .int .i64 k ∧ s = .float .f64 x ∧ t = .float .f64 y ∧ absF x = (weighO vs ws k).1 ∧ absF y = (weighO vs ws k).2 ∧ Below w.heap.size w wr)
          (fun _ _ i _ => ws.length - (intOf i).toNat)
        case atStart => exact ⟨0, 0, 0, by omega, rfl, rfl, rfl, rfl, rfl, Below.refl _ _⟩
        case round =>
          obtain ⟨k, x, y, hk, rfl, rfl, rfl, hx, hy, hb⟩ := hrel
          by_cases hlt : k < ws.length
          · obtain ⟨b, off, rfl, hbw, hcell⟩ := hc k (by rw [hlH.out]; exact hlt)
            obtain ⟨b', off', rfl, hbw', hcell'⟩ := hc' k hlt
            have hf64 : Hid (vs.getD k 0 < 18446744073709551616) := by
              unfold Hid; rw [List.getD, List.getElem?_eq_getElem (by rw [hlH.out]; exact hlt)]; exact hv64 _ (List.getElem_mem _)
            have hcr : wr.cell? ⟨b, off + k, none⟩ = some (.float .f64 (vs.getD k 0)) := by rw [hb.cell (by exact hbw), hcell]
            have hcr' : wr.cell? ⟨b', off' + k, none⟩ = some (.float .f64 (ws.getD k 0)) := by rw [hb.cell (by exact hbw'), hcell']
            have hs : Hid (weighO vs ws (k + 1) = if nanN (vs.getD k 0) = true then weighO vs ws k else (opO .add (weighO vs ws k).1 (opO .mul (absF (vs.getD k 0)) (absF (ws.getD k 0))), opO .add (weighO vs ws k).2 (absF (ws.getD k 0)))) := rfl
            clear hc hc' hcell hcell' hv64 hw64 hFh
            generalize vs.getD k 0 = f at *
            generalize ws.getD k 0 = g at *
            have hcall : Hid (∀ w, Calls Tryd.prog 33 #[.float .f64 f] w fun e w' => e = .returned (.bool (nanN f)) ∧ w = w') := fun w => nan_any _ hf64.out w
            cases hnan : nanN f with
            | true =>
              rw [hnan] at hs hcall
              go_wp2_with (go_at_call 33; refine (hcall.out _).mono ?_; rintro e w' ⟨rfl, rfl⟩)
              go_roundw
              case rel => exact ⟨k + 1, x, y, by omega, by go_num, rfl, rfl, by rw [hs.out]; exact hx, by rw [hs.out]; exact hy, hb⟩
              case measure => simp [intOf]; omega
            | false =>
              rw [hnan] at hs hcall
              obtain ⟨r1, w1, hrun1, hb1, hh1, habs1, _⟩ := float_op .mul (.inr (.inl rfl)) 23 f g wr.drew
              obtain ⟨r2, w2, hrun2, hb2, hh2, habs2, _⟩ := float_op .add (.inl rfl) 23 x r1 w1
              obtain ⟨r3, w3, hrun3, hb3, hh3, habs3, _⟩ := float_op .add (.inl rfl) 23 y g w2
              have hcr2 : w2.cell? ⟨b', off' + k, none⟩ = some (.float .f64 g) := by
                rw [← hcr']; simp only [World.cell?, hh2, hh1]; rfl
              have e1 : Hid (absF r2 = (weighO vs ws (k + 1)).1) := by unfold Hid; rw [habs2, habs1, hx, hs.out]; simp
              have e2 : Hid (absF r3 = (weighO vs ws (k + 1)).2) := by unfold Hid; rw [habs3, hy, hs.out]; simp
              have hbz : Below w.heap.size w w3 := hb.drew.trans (((hb1.trans (hb2.mono hb1.size)).trans (hb3.mono (Nat.le_trans hb1.size hb2.size))).mono hb.size)
              clear habs1 habs2 habs3 hx hy hnan hh1 hh2 hh3
              go_wp2_with (go_at_call 33; refine (hcall.out _).mono ?_; rintro e w' ⟨rfl, rfl⟩)
              go_region
              go_wp2_with fail
              go_roundw
              case rel => exact ⟨k + 1, r2, r3, by omega, by go_num, rfl, rfl, e1.out, e2.out, hbz⟩
              case measure => simp [intOf]; omega
          · have hk' : k = vs.length := by rw [hlH.out]; omega
            rw [hk'] at hx hy
            have hz := zeroO_abs y
            rw [hy] at hz
            have he : Hid (weighE vs ws = if zeroO (weighO vs ws vs.length).2 = true then (9221120237041090561, 0) else (canO (opO .quo (weighO vs ws vs.length).1 (weighO vs ws vs.length).2), 0)) := by
              unfold weighE Hid; rw [if_neg (by simpa using hlH.out), if_neg (by rw [hFh.out]; simp)]
            clear hc hc' hFh hv64 hw64
            generalize weighO vs ws vs.length = t at *
            cases hz0 : zeroO t.2 with
            | true =>
              rw [hz0] at hz he
              go_wp2_with (go_at_call 34; refine (rnone_any _).mono ?_; rintro e w' ⟨rfl, rfl⟩)
              go_ret2
              exact ⟨by rw [he.out]; rfl, hb⟩
            | false =>
              rw [hz0] at hz he
              obtain ⟨r, w1, hrun, hb1, _, habs, hr64⟩ := float_op .quo (.inr (.inr rfl)) 23 x y wr
              have hr : Hid (canN r = canO (opO .quo t.1 t.2)) := by unfold Hid; rw [canO_abs, habs, hx, hy]
              clear habs hx hy
              have hcan : Hid (∀ w, Calls Tryd.prog 15 #[.float .f64 r] w fun e w' => e = .returned (.float .f64 (canN r)) ∧ w = w') := fun w => rcanon_any r hr64 w
              have hb' : Below w.heap.size w w1 := hb.trans (hb1.mono hb.size)
              go_wp2_with (go_at_call 15; refine (hcan.out _).mono ?_; rintro e w' ⟨rfl, rfl⟩)
              go_ret2
              exact ⟨by rw [he.out, ← hr.out]; rfl, hb'⟩
  · have he : Hid (weighE vs ws = (0, 1)) := by unfold weighE Hid; rw [if_pos hl]
    clear hc hc'
    go_enter Tryd.func23, Tryd.ntmps23
    go_wp2_with fail
    all_goals first | (go_ret2; exact ⟨by rw [he.out]; rfl, Below.refl _ _⟩) | (exfalso; omega)
end Go.Proofs.YtedncponpbieeaaDoor
