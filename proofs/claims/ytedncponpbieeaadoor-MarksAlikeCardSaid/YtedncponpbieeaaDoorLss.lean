/- The program's own comparison of two places. -/
import Derived.Test.YtedncponpbieeaaDoorRrk
import Derived.Test.YtedncponpbieeaaDoorShp
namespace Go.Proofs.YtedncponpbieeaaDoor
open Go.RowKit Go.Shelf

def cfR (fs : List Nat) (i j : Nat) : Int :=
  if nanN (fs.getD i 0) ≠ nanN (fs.getD j 0) then cmpE (fs.getD i 0) (fs.getD j 0) else if cmpE (fs.getD j 0) (fs.getD i 0) = 0 then Lib.compareInt i j else cmpE (fs.getD j 0) (fs.getD i 0)

theorem cmpE_lt0 (a b : Nat) : cmpE a b < 0 ↔ placeN a < placeN b := by
  unfold cmpE
  split
  · constructor <;> omega
  · split <;> constructor <;> omega

theorem cmpE_eq0 (a b : Nat) : cmpE a b = 0 ↔ placeN a = placeN b := by
  unfold cmpE
  split
  · constructor <;> omega
  · split <;> constructor <;> omega

theorem compareInt_lt0 (x y : Int) : Lib.compareInt x y < 0 ↔ x < y := by
  unfold Lib.compareInt
  split
  · constructor <;> omega
  · split <;> constructor <;> omega

theorem cfR_lt (fs : List Nat) (i j : Nat) : cfR fs i j < 0 ↔ ltR fs i j = true := by
  unfold cfR
  cases h1 : nanN (fs.getD i 0) with
  | true =>
    cases h2 : nanN (fs.getD j 0) with
    | true =>
      rw [if_neg (by simp), if_pos ((cmpE_eq0 _ _).2 (by rw [placeN_nan h1, placeN_nan h2])), compareInt_lt0, ltR_nn h1 h2]
      simp
    | false =>
      rw [if_pos (by simp), cmpE_n h1 h2, ltR_n h1 h2]
      simp
  | false =>
    cases h2 : nanN (fs.getD j 0) with
    | true =>
      rw [if_pos (by simp), cmpE_y h1 h2, ltR_y h1 h2]
      simp
    | false =>
      rw [if_neg (by simp)]
      by_cases h : keyN (fs.getD i 0) = keyN (fs.getD j 0)
      · rw [if_pos ((cmpE_eq0 _ _).2 (by rw [placeN_key h1, placeN_key h2, h])), compareInt_lt0, ltR_eq h1 h2 h]
        simp
      · rw [if_neg (fun hh => h (by have := (cmpE_eq0 _ _).1 hh; rw [placeN_key h1, placeN_key h2] at this; exact this.symm)), cmpE_lt0, ltR_ne h1 h2 h, placeN_key h1, placeN_key h2]
        simp

set_option maxHeartbeats 1600000 in
set_option maxRecDepth 100000 in
theorem less_any (a : Option Addr) (cap pb : Nat) (fs : List Nat) (i j : Nat) (W : World) (h40 : fs.length ≤ 40) (hi : i < fs.length) (hj : j < fs.length)
    (hp : W.cell? ⟨pb, 0, none⟩ = some (.slice a fs.length cap)) (hc : FloatsAt W a fs) :
    Calls Tryd.prog 39 #[.int .i64 i, .int .i64 j, .pointer (some ⟨pb, 0, none⟩)] W fun e w' => e = .returned (.int .i64 (cfR fs i j)) ∧ ∃ q os', w' = Sort.grow (W.drewN q) os' := by
  obtain ⟨b, off, rfl, _, hci⟩ := hc i hi
  obtain ⟨b', off', e, _, hcj⟩ := hc j hj
  simp only [Option.some.injEq, Addr.mk.injEq] at e
  obtain ⟨rfl, rfl, _⟩ := e
  clear hc
  have hcf : Hid (cfR fs i j = if nanN (fs.getD i 0) ≠ nanN (fs.getD j 0) then cmpE (fs.getD i 0) (fs.getD j 0) else if cmpE (fs.getD j 0) (fs.getD i 0) = 0 then Lib.compareInt i j else cmpE (fs.getD j 0) (fs.getD i 0)) := rfl
  generalize cfR fs i j = r at *
  generalize fs.getD i 0 = f at *
  generalize fs.getD j 0 = g at *
  have hn := order_self f
  have hm := order_self g
  have hcmp : Hid (∀ w, Calls Tryd.prog 28 #[.float .f64 f, .float .f64 g] w fun e w' => e = .returned (.int .i64 (cmpE f g)) ∧ w = w') := fun w => compare_any f g w
  have hcmp2 : Hid (∀ w, Calls Tryd.prog 28 #[.float .f64 g, .float .f64 f] w fun e w' => e = .returned (.int .i64 (cmpE g f)) ∧ w = w') := fun w => compare_any g f w
  have hcc : Hid (∀ w, Calls Tryd.prog 41 #[.int .i64 i, .int .i64 j] w fun e w' => e = .returned (.int .i64 (Lib.compareInt i j)) ∧ w' = w) := fun w => AnyG.cmp_Compare_int Tryd.cmpL i j w
  by_cases hne : nanN f ≠ nanN g
  · have he : Hid (r = cmpE f g) := by unfold Hid; rw [hcf.out, if_pos hne]
    clear hcf
    generalize cmpE f g = c at *
    cases hf : nanN f with
    | true =>
      cases hg : nanN g with
      | true => rw [hf, hg] at hne; exact absurd rfl hne
      | false =>
        rw [hf] at hn; rw [hg] at hm
        clear hne hf hg
        go_enter Tryd.func39, Tryd.ntmps39
        go_wp2
        go_region
        go_wp2_with (go_at_call 28; refine (hcmp.out _).mono ?_; rintro e w' ⟨rfl, rfl⟩)
        go_ret
        exact ⟨by rw [he.out]; rfl, 1, #[], by rw [Sort.grow_empty]; rfl⟩
    | false =>
      cases hg : nanN g with
      | false => rw [hf, hg] at hne; exact absurd rfl hne
      | true =>
        rw [hf] at hn; rw [hg] at hm
        clear hne hf hg
        go_enter Tryd.func39, Tryd.ntmps39
        go_wp2
        go_region
        go_wp2_with (go_at_call 28; refine (hcmp.out _).mono ?_; rintro e w' ⟨rfl, rfl⟩)
        go_ret
        exact ⟨by rw [he.out]; rfl, 1, #[], by rw [Sort.grow_empty]; rfl⟩
  · have he : Hid (r = if cmpE g f = 0 then Lib.compareInt i j else cmpE g f) := by unfold Hid; rw [hcf.out, if_neg hne]
    clear hcf
    have hor : Hid (∀ b cap w, w.cell? ⟨b, 0, none⟩ = some (.int .i64 (cmpE g f)) → w.cell? ⟨b, 1, none⟩ = some (.int .i64 (Lib.compareInt i j)) → Calls Tryd.prog 40 #[.slice (some ⟨b, 0, none⟩) 2 cap] w fun e w' => e = .returned (.int .i64 (if cmpE g f = 0 then Lib.compareInt i j else cmpE g f)) ∧ w = w') :=
      fun b cap w h0 h1 => or_any _ _ b cap w h0 h1
    rw [← he.out] at hor
    clear he
    generalize cmpE g f = c at *
    generalize Lib.compareInt i j = d at *
    cases hf : nanN f with
    | true =>
      cases hg : nanN g with
      | false => rw [hf, hg] at hne; exact absurd (by simp) hne
      | true =>
        rw [hf] at hn; rw [hg] at hm
        clear hne hf hg
        go_enter Tryd.func39, Tryd.ntmps39
        go_wp2
        go_region
        go_wp2_with (first | (go_at_call 28; refine (hcmp2.out _).mono ?_; rintro e w' ⟨rfl, rfl⟩) | (go_at_call 41; refine (hcc.out _).mono ?_; rintro e w' ⟨rfl, rfl⟩) | (go_at_call 40; refine (hor.out _ _ _ (by simp) (by simp)).mono ?_; rintro e w' ⟨rfl, rfl⟩))
        go_ret
        exact ⟨rfl, 1, _, by rw [Sort.alloc_eq_grow]; rfl⟩
    | false =>
      cases hg : nanN g with
      | true => rw [hf, hg] at hne; exact absurd (by simp) hne
      | false =>
        rw [hf] at hn; rw [hg] at hm
        clear hne hf hg
        go_enter Tryd.func39, Tryd.ntmps39
        go_wp2
        go_region
        go_wp2_with (first | (go_at_call 28; refine (hcmp2.out _).mono ?_; rintro e w' ⟨rfl, rfl⟩) | (go_at_call 41; refine (hcc.out _).mono ?_; rintro e w' ⟨rfl, rfl⟩) | (go_at_call 40; refine (hor.out _ _ _ (by simp) (by simp)).mono ?_; rintro e w' ⟨rfl, rfl⟩))
        go_ret
        exact ⟨rfl, 1, _, by rw [Sort.alloc_eq_grow]; rfl⟩
end Go.Proofs.YtedncponpbieeaaDoor
