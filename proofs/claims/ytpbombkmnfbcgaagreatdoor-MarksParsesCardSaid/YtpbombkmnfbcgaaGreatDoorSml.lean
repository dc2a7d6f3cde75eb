/- Small functions on strings that always answer. -/
import Derived.Test.YtpbombkmnfbcgaaGreatDoorRin
import Derived.Test.YtpbombkmnfbcgaaGreatDoorPle
import Derived.Deep.CutRange
import Derived.Deep.DeepCutAuto
import Derived.Deep.CutBlock
namespace Go.Proofs.YtpbombkmnfbcgaaGreatDoor
open Go.RowKit

theorem run_ff (z : Int) (w : World) : (callFunc 59 #[.int .u64 z]).run Tryz.prog w = .ok (.value (.float .f64 z.toNat)) w := by kernel_rfl
theorem run_fb (n : Nat) (w : World) : (callFunc 35 #[.float .f64 n]).run Tryz.prog w = .ok (.value (.int .u64 n)) w := by kernel_rfl

theorem low_any (c : Int) (w : World) : Calls Tryz.prog 65 #[.int .u8 c] w fun e w' => e = .returned (.int .u8 (bits .or .u8 c 32)) ∧ w = w' := by
  go_enter Tryz.func65, Tryz.ntmps65
  go_wp2_with (fail)
  go_ret
  exact ⟨rfl, rfl⟩

/-- An answer: a number up to n. -/
def IsTo (n : Nat) (e : Ending) : Prop := ∃ k : Nat, k ≤ n ∧ e = .returned (.int .i64 (k : Nat))
/-- An answer: a float. -/
def IsF (e : Ending) : Prop := ∃ k : Nat, e = .returned (.float .f64 k)

set_option maxHeartbeats 800000 in
theorem cpl_any (s p : ByteArray) (w : World) (hs : s.size ≤ 1000) (hp : p.size ≤ 1000) : Calls Tryz.prog 84 #[.string s, .string p] w fun e w' => IsTo s.size e ∧ w = w' := by
  go_enter Tryz.func84, Tryz.ntmps84
  go_wp2_with (fail)
  go_loopw [6] (fun x wr => wr = w ∧ ∃ i : Nat, i ≤ p.size ∧ i ≤ s.size ∧ x = .int .i64 (i : Nat)) (fun x _ => s.size - (intOf x).toNat)
  case atStart => exact ⟨rfl, 0, by omega, by omega, rfl⟩
  case round =>
    obtain ⟨rfl, i, hi, hi2, rfl⟩ := hrel
    go_wp2_with (fail)
    all_goals first
      | (go_ret; exact ⟨⟨i, by omega, rfl⟩, rfl⟩)
      | (go_ret; exact ⟨⟨min p.size s.size, by omega, congrArg (fun z => Ending.returned (.int .i64 z)) (by omega)⟩, rfl⟩)
      | exact ⟨⟨trivial, i + 1, by omega, by omega, congrArg _ (by omega)⟩, by simp [intOf]; omega⟩

theorem inf_any (z : Int) (w : World) : Calls Tryz.prog 85 #[.int .i64 z] w fun e w' => IsF e ∧ w = w' := by
  have r1 := fun w => run_ff 9218868437227405312 w
  have r2 := fun w => run_ff 18442240474082181120 w
  go_enter Tryz.func85, Tryz.ntmps85
  go_wp2_with (fail)
  all_goals
    go_ret
    exact ⟨⟨_, rfl⟩, rfl⟩
theorem nan_any (w : World) : Calls Tryz.prog 86 #[] w fun e w' => IsF e ∧ w = w' := by
  have r1 := fun w => run_ff 9221120237041090561 w
  go_enter Tryz.func86, Tryz.ntmps86
  go_wp2_with (fail)
  go_ret
  exact ⟨⟨_, rfl⟩, rfl⟩

/-- An answer: a float, a number, yes or no. -/
def IsFNB (e : Ending) : Prop := ∃ (k : Nat) (n : Int) (b : Bool), e = .returned (.tuple #[.float .f64 k, .int .i64 n, .bool b])

set_option maxHeartbeats 1600000 in
theorem special_any (s : ByteArray) (w : World) (hs : s.size ≤ 1000) : Calls Tryz.prog 49 #[.string s] w fun e w' => IsFNB e ∧ w = w' := by
  by_cases h0 : s.size = 0
  · have h0b : ((s.size : Int) == 0) = true := by simp [h0]
    go_enter Tryz.func49, Tryz.ntmps49
    go_wp2_with (fail)
    go_ret3
    exact ⟨⟨_, _, _, rfl⟩, rfl⟩
  have hpos : 0 < s.size := by omega
  have hpi : (1 : Int) ≤ (s.size : Int) := by omega
  have hp1 : 1 ≤ s.size := hpos
  have h0b : ((s.size : Int) == 0) = false := beq_ne (by omega)
  have hx : (s.extract 1 s.size).size ≤ 1000 := by simp; omega
  have hxH := Hid.mk hx
  have hsH := Hid.mk hs
  clear hx h0
  go_enter Tryz.func49, Tryz.ntmps49
  go_wp2_with (first | (go_at_call 84; refine (cpl_any _ _ _ (by first | exact hsH.out | exact hxH.out) (by decide)).mono ?_; rintro e w' ⟨⟨k, hk, rfl⟩, rfl⟩) | (go_at_call 85; refine (inf_any _ _).mono ?_; rintro e w' ⟨⟨f, rfl⟩, rfl⟩) | (go_at_call 86; refine (nan_any _).mono ?_; rintro e w' ⟨⟨f, rfl⟩, rfl⟩))
  all_goals
    go_ret3
    exact ⟨⟨_, _, _, rfl⟩, rfl⟩

set_option maxRecDepth 100000 in
set_option maxHeartbeats 3200000 in
theorem und_any (s : ByteArray) (w : World) (hs : s.size ≤ 1000) : Calls Tryz.prog 87 #[.string s] w fun e w' => IsB e ∧ w = w' := by
  go_enter Tryz.func87, Tryz.ntmps87
  go_upto_region 3 with fail
  go_cut [18] (fun x wr => wr = w ∧ ∃ b : Bool, x = .bool b ∧ (b = true → 1 ≤ s.size))
  case first =>
    go_wp2_with (fail)
    all_goals
      go_meet
      exact ⟨rfl, _, rfl, by intro h; first | omega | cases h⟩
  case rest =>
    obtain ⟨rfl, b, rfl, hb⟩ := hcut
    go_upto_if 18 with fail
    go_cut [0] (fun x wr => wr = wc ∧ ∃ t : ByteArray, t.size ≤ 1000 ∧ x = .string t)
    case first =>
      cases b
      · go_wp2_with (fail)
        go_meet
        exact ⟨rfl, s, hs, rfl⟩
      · have hb1 := hb rfl
        have hb2 : (1 : Int) ≤ (s.size : Int) := by omega
        go_wp2_with (fail)
        go_meet
        exact ⟨rfl, _, by simp; omega, rfl⟩
    case rest =>
      clear hb
      obtain ⟨hwc, t, ht, rfl⟩ := hcut
      subst hwc
      go_upto_region 6 with fail
      go_cut [46] (fun x wr => wr = wc ∧ ∃ b : Bool, x = .bool b ∧ (b = true → 2 ≤ t.size))
      case first =>
        go_wp2_with (first | (go_at_call 65; refine (low_any _ _).mono ?_; rintro e w' ⟨rfl, rfl⟩))
        all_goals
          go_meet
          exact ⟨rfl, _, rfl, by intro h; first | omega | cases h⟩
      case rest =>
        obtain ⟨hwc, b2, rfl, hb2⟩ := hcut
        subst hwc
        go_upto_if 46 with fail
        go_cut [3, 4, 5] (fun x y z wr => wr = wc ∧ ∃ (n : Int) (i : Nat) (b : Bool), i ≤ t.size ∧ x = .int .i32 n ∧ y = .int .i64 (i : Nat) ∧ z = .bool b)
        case first =>
          cases b2
          · go_wp2_with (fail)
            go_meet
            exact ⟨rfl, _, 0, _, by omega, rfl, rfl, rfl⟩
          · have h2 := hb2 rfl
            have h2i : (2 : Int) ≤ (t.size : Int) := by omega
            have h2n : 1 < t.size := by omega
            go_wp2_with (first | (go_at_call 65; refine (low_any _ _).mono ?_; rintro e w' ⟨rfl, rfl⟩))
            go_meet
            exact ⟨rfl, _, 2, _, h2, rfl, rfl, rfl⟩
        case rest =>
          clear hb2
          obtain ⟨hwc, n, i, b, hi, rfl, rfl, rfl⟩ := hcut
          subst hwc
          go_wp2_with (fail)
          go_loopw [3, 4] (fun x y wr => wr = wc ∧ ∃ (n : Int) (i : Nat), i ≤ t.size ∧ x = .int .i32 n ∧ y = .int .i64 (i : Nat)) (fun _ y _ => t.size - (intOf y).toNat)
          case atStart => exact ⟨rfl, n, i, hi, rfl, rfl⟩
          case round =>
            clear hi
            obtain ⟨hwc, n, i, hi, rfl, rfl⟩ := hrel
            subst hwc
            cases b
            all_goals go_wp2_with (first | (go_at_call 65; refine (low_any _ _).mono ?_; rintro e w' ⟨rfl, rfl⟩))
            all_goals first
              | (go_ret; exact ⟨⟨_, rfl⟩, rfl⟩)
              | exact ⟨⟨trivial, _, i + 1, by omega, rfl, congrArg _ (by omega)⟩, by simp [intOf]; omega⟩
end Go.Proofs.YtpbombkmnfbcgaaGreatDoor
