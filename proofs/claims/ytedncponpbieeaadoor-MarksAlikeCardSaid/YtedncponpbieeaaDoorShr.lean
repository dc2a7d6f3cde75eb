/- Both 'Share's: what each returns. -/
import Derived.Test.YtedncponpbieeaaDoorMnB
namespace Go.Proofs.YtedncponpbieeaaDoor
open Go.RowKit

/-- What 'Share' comes to. -/
def shareE (r a : Int) : Nat := if a < 1 ∨ 9007199254740992 < a ∨ r < 0 ∨ a < r then 9221120237041090561 else canO (opO .quo (opO .mul (absF (floatOfInt .f64 r)) (absF 4636737291354636288)) (absF (floatOfInt .f64 a)))

set_option maxRecDepth 100000 in
set_option maxHeartbeats 800000 in
theorem share_any (r a : Int) (w : World) : Calls Tryd.prog 24 #[.int .i64 r, .int .i64 a] w fun e w' => e = .returned (.float .f64 (shareE r a)) ∧ Below w.heap.size w w' := by
  by_cases hbad : a < 1 ∨ 9007199254740992 < a ∨ r < 0 ∨ a < r
  · have he : Hid (shareE r a = 9221120237041090561) := by unfold shareE Hid; rw [if_pos hbad]
    go_enter Tryd.func24, Tryd.ntmps24
    go_wp2_with (go_at_call 32; refine (none_any _).mono ?_; rintro e w' ⟨rfl, rfl⟩)
    all_goals first | (go_ret; exact ⟨by rw [he.out]; rfl, Below.refl _ _⟩) | (exfalso; omega)
  · obtain ⟨x1, w1, hrun1, hb1, hh1, habs1, _⟩ := float_op .mul (.inr (.inl rfl)) 23 (floatOfInt .f64 r) 4636737291354636288 w
    obtain ⟨x2, w2, hrun2, hb2, _, habs2, hx2⟩ := float_op .quo (.inr (.inr rfl)) 23 x1 (floatOfInt .f64 a) w1
    have he : Hid (canN x2 = shareE r a) := by unfold shareE Hid; rw [if_neg hbad, canO_abs, habs2, habs1]
    clear habs1 habs2
    have hcan : Hid (∀ w, Calls Tryd.prog 14 #[.float .f64 x2] w fun e w' => e = .returned (.float .f64 (canN x2)) ∧ w = w') := fun w => canon_any x2 w
    have hb' : Below w.heap.size w w2 := hb1.trans (hb2.mono hb1.size)
    have g1 : 1 ≤ a := by omega
    have g2 : a ≤ 9007199254740992 := by omega
    have g3 : 0 ≤ r := by omega
    have g4 : r ≤ a := by omega
    clear hbad
    go_enter Tryd.func24, Tryd.ntmps24
    go_wp2_with (go_at_call 14; refine (hcan.out _).mono ?_; rintro e w' ⟨rfl, rfl⟩)
    all_goals first | (go_ret; exact ⟨by rw [← he.out]; rfl, hb'⟩) | (exfalso; omega)

set_option maxRecDepth 100000 in
set_option maxHeartbeats 800000 in
theorem rshare_any (r a : Int) (w : World) : Calls Tryd.prog 25 #[.int .i64 r, .int .i64 a] w fun e w' => e = .returned (.float .f64 (shareE r a)) ∧ Below w.heap.size w w' := by
  by_cases hbad : a < 1 ∨ 9007199254740992 < a ∨ r < 0 ∨ a < r
  · have he : Hid (shareE r a = 9221120237041090561) := by unfold shareE Hid; rw [if_pos hbad]
    go_enter Tryd.func25, Tryd.ntmps25
    go_wp2_with (go_at_call 34; refine (rnone_any _).mono ?_; rintro e w' ⟨rfl, rfl⟩)
    all_goals first | (go_ret; exact ⟨by rw [he.out]; rfl, Below.refl _ _⟩) | (exfalso; omega)
  · obtain ⟨x1, w1, hrun1, hb1, hh1, habs1, _⟩ := float_op .mul (.inr (.inl rfl)) 23 (floatOfInt .f64 r) 4636737291354636288 w
    obtain ⟨x2, w2, hrun2, hb2, _, habs2, hx2⟩ := float_op .quo (.inr (.inr rfl)) 23 x1 (floatOfInt .f64 a) w1
    have he : Hid (canN x2 = shareE r a) := by unfold shareE Hid; rw [if_neg hbad, canO_abs, habs2, habs1]
    clear habs1 habs2
    have hcan : Hid (∀ w, Calls Tryd.prog 15 #[.float .f64 x2] w fun e w' => e = .returned (.float .f64 (canN x2)) ∧ w = w') := fun w => rcanon_any x2 hx2 w
    have hb' : Below w.heap.size w w2 := hb1.trans (hb2.mono hb1.size)
    have g1 : 1 ≤ a := by omega
    have g2 : a ≤ 9007199254740992 := by omega
    have g3 : 0 ≤ r := by omega
    have g4 : r ≤ a := by omega
    clear hbad
    go_enter Tryd.func25, Tryd.ntmps25
    go_wp2_with (go_at_call 15; refine (hcan.out _).mono ?_; rintro e w' ⟨rfl, rfl⟩)
    all_goals first | (go_ret; exact ⟨by rw [← he.out]; rfl, hb'⟩) | (exfalso; omega)
end Go.Proofs.YtedncponpbieeaaDoor
