/- The reference's 'Mean' of marks: what it returns. -/
import Derived.Test.YtedncponpbieeaaDoorMnA
namespace Go.Proofs.YtedncponpbieeaaDoor
open Go.RowKit

set_option maxHeartbeats 1600000 in
set_option maxRecDepth 1000000 in
theorem rmean_any (a : Option Addr) (cap : Nat) (fs : List Nat) (w : World) (h40 : fs.length ≤ 40) (hlt : ∀ f ∈ fs, f < 18446744073709551616)
    (hc : ∀ j, j < fs.length → ∃ b off, a = some ⟨b, off, none⟩ ∧ b < w.heap.size ∧ w.cell? ⟨b, off + j, none⟩ = some (.float .f64 (fs.getD j 0))) :
    Calls Tryd.prog 21 #[.slice a fs.length cap] w fun e w' => e = .returned (.tuple #[.float .f64 (meanE fs).1, .int .i64 (meanE fs).2]) ∧ Below w.heap.size w w' := by
  go_enter Tryd.func21, Tryd.ntmps21
  go_wp2
  go_loopw [4, 5, 6] (fun s c i wr => ∃ (k : Nat) (x : Nat), k ≤ fs.length ∧ i = .int .i64 k ∧ c = .int .i64 ((sumO (fs.take k)).2 : Nat) ∧ s = .float .f64 x ∧ absF x = (sumO (fs.take k)).1 ∧ Below w.heap.size w wr)
    (fun _ _ i _ => fs.length - (intOf i).toNat)
  case atStart => exact ⟨0, 0, by omega, rfl, rfl, rfl, rfl, Below.refl _ _⟩
  case round =>
    obtain ⟨k, x, hk, rfl, rfl, rfl, hx, hb⟩ := hrel
    have hlt' : Hid (∀ f ∈ fs, f < 18446744073709551616) := hlt
    clear hlt
    by_cases hlt : k < fs.length
    · obtain ⟨b, off, rfl, hbw, hcell⟩ := hc k hlt
      have hcellr : wr.cell? ⟨b, off + k, none⟩ = some (.float .f64 fs[k]) := by
        rw [hb.cell (by exact hbw), hcell, List.getD, List.getElem?_eq_getElem hlt]; rfl
      have hle := sumO_le fs k hk
      have hs := sumO_succ fs k hlt
      have hn := order_refl fs[k]
      obtain ⟨r, w1, hrun, hb1, _, habs, _⟩ := float_op .add (.inl rfl) 23 x fs[k] wr
      rw [hx] at habs
      have hs' : Hid (sumO (fs.take (k + 1)) = if nanN fs[k] = true then sumO (fs.take k) else (opO .add (sumO (fs.take k)).1 (some fs[k]), (sumO (fs.take k)).2 + 1)) := hs
      clear hs hc
      have hfk : Hid (nanN fs[k] = false → absF fs[k] = some fs[k]) := absF_some
      have habs' : Hid (absF r = opO .add (sumO (fs.take k)).1 (absF fs[k])) := habs
      have hx' : Hid (absF x = (sumO (fs.take k)).1) := hx
      clear habs hx hcell
      have hcall : Hid (∀ w, Calls Tryd.prog 33 #[.float .f64 fs[k]] w fun e w' => e = .returned (.bool (nanN fs[k])) ∧ w = w') := fun w => nan_any fs[k] (hlt'.out _ (List.getElem_mem _)) w
      clear hn
      cases hnan : nanN fs[k] with
      | true =>
        rw [hnan] at hs' hcall
        clear hfk habs' hrun hb1
        go_wp2_with (go_at_call 33; refine (hcall.out _).mono ?_; rintro e w' ⟨rfl, rfl⟩)
        go_roundw
        case rel => exact ⟨k + 1, x, by omega, by go_num, by rw [hs'.out]; rfl, rfl, by rw [hs'.out]; exact hx'.out, hb⟩
        case measure => simp [intOf]; omega
      | false =>
        rw [hnan] at hs' hcall
        have e := hfk.out hnan
        clear hfk
        go_wp2_with (go_at_call 33; refine (hcall.out _).mono ?_; rintro e w' ⟨rfl, rfl⟩)
        go_roundw
        case rel => exact ⟨k + 1, r, by omega, by go_num, by rw [hs'.out]; simp, rfl, by rw [hs'.out, habs'.out, e]; simp, hb.trans (hb1.mono hb.size)⟩
        case measure => simp [intOf]; omega
    · have hk' : k = fs.length := by omega
      rw [hk', List.take_length] at hx ⊢
      have hle := sumO_le fs fs.length (Nat.le_refl _)
      rw [List.take_length] at hle
      have hm : Hid (meanE fs = if (sumO fs).2 = 0 then (9221120237041090561, 0) else (canO (opO .quo (sumO fs).1 (absF (floatOfInt .f64 ((sumO fs).2 : Int)))), (sumO fs).2)) := rfl
      clear hc
      generalize (sumO fs).2 = c at *
      generalize (sumO fs).1 = t at *
      subst hk'
      by_cases h0 : c = 0
      · subst h0
        go_wp2_with (go_at_call 34; refine (rnone_any _).mono ?_; rintro e w' ⟨rfl, rfl⟩)
        go_ret2
        exact ⟨by rw [hm.out]; rfl, hb⟩
      · obtain ⟨r, w1, hrun, hb1, _, habs, hr64⟩ := float_op .quo (.inr (.inr rfl)) 23 x (floatOfInt .f64 (c : Int)) wr
        have hr : Hid (canN r = canO (opO .quo t (absF (floatOfInt .f64 (c : Int))))) := by
          unfold Hid; rw [canO_abs, habs, hx]
        clear habs hx
        have hcan : Hid (∀ w, Calls Tryd.prog 15 #[.float .f64 r] w fun e w' => e = .returned (.float .f64 (canN r)) ∧ w = w') := fun w => rcanon_any r hr64 w
        have hb' : Below w.heap.size w w1 := hb.trans (hb1.mono hb.size)
        go_wp2_with (go_at_call 15; refine (hcan.out _).mono ?_; rintro e w' ⟨rfl, rfl⟩)
        go_ret2
        exact ⟨by rw [hm.out, if_neg h0, ← hr.out]; rfl, hb'⟩
end Go.Proofs.YtedncponpbieeaaDoor
