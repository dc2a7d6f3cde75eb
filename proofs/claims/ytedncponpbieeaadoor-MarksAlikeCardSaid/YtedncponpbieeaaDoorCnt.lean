/- What 'Weigh' asks of its weights. -/
import Derived.Test.YtedncponpbieeaaDoorShr
namespace Go.Proofs.YtedncponpbieeaaDoor
open Go.RowKit

def bigN (f : Nat) : Bool := FloatKind.f64.format.order f 9218868437227405311 == some Ordering.gt
def badN (f : Nat) : Bool := nanN f || (FloatKind.f64.format.order f 0 == some Ordering.lt) || bigN f

set_option maxRecDepth 100000 in
theorem isinf_any (f : Nat) (w : World) : Calls Tryd.prog 37 #[.float .f64 f, .int .i64 1] w fun e w' => e = .returned (.bool (bigN f)) ∧ w = w' := by
  have hb : Hid (bigN f = (FloatKind.f64.format.order f 9218868437227405311 == some Ordering.gt)) := rfl
  go_enter Tryd.func37, Tryd.ntmps37
  go_wp2_with fail
  all_goals go_ret
  all_goals exact ⟨by rw [hb.out]; simp_all, rfl⟩

set_option maxRecDepth 100000 in
theorem bad_any (f : Nat) (w : World) : Calls Tryd.prog 36 #[.float .f64 f] w fun e w' => e = .returned (.bool (badN f)) ∧ w = w' := by
  have hn := order_self f
  cases h1 : nanN f with
  | true =>
    have hb : Hid (badN f = true) := by unfold badN Hid; rw [h1]; rfl
    rw [h1] at hn
    go_enter Tryd.func36, Tryd.ntmps36
    go_wp2_with (go_at_call 37; refine (isinf_any _ _).mono ?_; rintro e w' ⟨rfl, rfl⟩)
    all_goals go_ret
    all_goals exact ⟨by rw [hb.out]; rfl, rfl⟩
  | false =>
    rw [h1] at hn
    cases h2 : (FloatKind.f64.format.order f 0 == some Ordering.lt) with
    | true =>
      have hb : Hid (badN f = true) := by unfold badN Hid; rw [h1, h2]; rfl
      go_enter Tryd.func36, Tryd.ntmps36
      go_wp2_with (go_at_call 37; refine (isinf_any _ _).mono ?_; rintro e w' ⟨rfl, rfl⟩)
      all_goals go_ret
      all_goals exact ⟨by rw [hb.out]; rfl, rfl⟩
    | false =>
      have hb : Hid (badN f = bigN f) := by unfold badN Hid; rw [h1, h2]; rfl
      go_enter Tryd.func36, Tryd.ntmps36
      go_wp2_with (go_at_call 37; refine (isinf_any _ _).mono ?_; rintro e w' ⟨rfl, rfl⟩)
      all_goals go_ret
      all_goals exact ⟨by rw [hb.out]; rfl, rfl⟩

set_option maxRecDepth 100000 in
set_option maxHeartbeats 800000 in
theorem index_any (a : Option Addr) (cap : Nat) (fs : List Nat) (w : World) (h40 : fs.length ≤ 40)
    (hc : ∀ j, j < fs.length → ∃ b off, a = some ⟨b, off, none⟩ ∧ b < w.heap.size ∧ w.cell? ⟨b, off + j, none⟩ = some (.float .f64 (fs.getD j 0))) :
    Calls Tryd.prog 44 #[.slice a fs.length cap, .func (.func 36) #[] #[]] w fun e w' => (∃ n : Int, e = .returned (.int .i64 n) ∧ decide (0 ≤ n) = fs.any badN) ∧ w = w' := by
  go_enter Tryd.func44, Tryd.ntmps44
  go_wp2
  go_loop [8] (fun i => ∃ k : Nat, k ≤ fs.length ∧ i = .int .i64 k ∧ (fs.take k).any badN = false)
    (fun i => fs.length - (intOf i).toNat)
  case atStart => exact ⟨0, by omega, rfl, rfl⟩
  case round =>
    obtain ⟨k, hk, rfl, hx⟩ := hrel
    have hx' : Hid ((fs.take k).any badN = false) := hx
    clear hx
    by_cases hlt : k < fs.length
    · obtain ⟨b, off, rfl, hbw, hcell⟩ := hc k hlt
      have hcellr : w.cell? ⟨b, off + k, none⟩ = some (.float .f64 fs[k]) := by
        rw [hcell, List.getD, List.getElem?_eq_getElem hlt]; rfl
      clear hc hcell
      have hany : Hid ((fs.take (k + 1)).any badN = badN fs[k]) := by
        unfold Hid; rw [List.take_succ_eq_append_getElem hlt, List.any_append, hx'.out]; simp
      have hall : Hid (badN fs[k] = true → fs.any badN = true) := fun h => List.any_eq_true.2 ⟨_, List.getElem_mem _, h⟩
      have hcall : Hid (∀ w, Calls Tryd.prog 36 #[.float .f64 fs[k]] w fun e w' => e = .returned (.bool (badN fs[k])) ∧ w = w') := fun w => bad_any fs[k] w
      cases hbad : badN fs[k] with
      | true =>
        rw [hbad] at hcall
        have hT := hall.out hbad
        clear hbad
        go_wp2_with (go_at_call 36; refine (hcall.out _).mono ?_; rintro e w' ⟨rfl, rfl⟩)
        go_ret
        exact ⟨⟨_, rfl, by rw [hT]; simp⟩, rfl⟩
      | false =>
        rw [hbad] at hcall hany
        clear hbad hall
        go_wp2_with (go_at_call 36; refine (hcall.out _).mono ?_; rintro e w' ⟨rfl, rfl⟩)
        go_round
        case rel => exact ⟨k + 1, by omega, by go_num, hany.out⟩
        case measure => simp [intOf]; omega
    · have hk' : k = fs.length := by omega
      have hF : fs.any badN = false := by have := hx'.out; rwa [hk', List.take_length] at this
      have hFh : Hid (fs.any badN = false) := hF
      clear hF hc
      go_wp2
      go_ret
      exact ⟨⟨_, rfl, by rw [hFh.out]; rfl⟩, rfl⟩

set_option maxRecDepth 100000 in
theorem contains_any (a : Option Addr) (cap : Nat) (fs : List Nat) (w : World) (h40 : fs.length ≤ 40)
    (hc : ∀ j, j < fs.length → ∃ b off, a = some ⟨b, off, none⟩ ∧ b < w.heap.size ∧ w.cell? ⟨b, off + j, none⟩ = some (.float .f64 (fs.getD j 0))) :
    Calls Tryd.prog 35 #[.slice a fs.length cap, .func (.func 36) #[] #[]] w fun e w' => e = .returned (.bool (fs.any badN)) ∧ w = w' := by
  have hi : Hid (Calls Tryd.prog 44 #[.slice a fs.length cap, .func (.func 36) #[] #[]] w fun e w' => (∃ n : Int, e = .returned (.int .i64 n) ∧ decide (0 ≤ n) = fs.any badN) ∧ w = w') := index_any a cap fs w h40 hc
  clear hc
  go_enter Tryd.func35, Tryd.ntmps35
  go_wp2_with (go_at_call 44; refine (hi.out).mono ?_; rintro e w' ⟨⟨n, rfl, hn⟩, rfl⟩)
  go_ret
  rw [← hn]
  exact ⟨by simp, rfl⟩
end Go.Proofs.YtedncponpbieeaaDoor
