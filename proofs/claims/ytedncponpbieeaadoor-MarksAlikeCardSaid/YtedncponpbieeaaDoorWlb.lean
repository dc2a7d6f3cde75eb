/- The reference's 'Put' and 'Get' of marks: what each returns. -/
import Derived.Test.YtedncponpbieeaaDoorWlk
import Derived.Laws.BytesString
import Derived.Laws.Cells
namespace Go.Proofs.YtedncponpbieeaaDoor
open Go.RowKit
theorem run_conv1 (w : World) (m : Int) : (convert 52 9 (.slice (some ⟨w.heap.size, 0, none⟩) 1 1)).run Tryd.prog (w.alloc (.cells #[.int .u8 m] 5)) = .ok (.string ⟨⟨[UInt8.ofNat m.toNat]⟩⟩) (w.alloc (.cells #[.int .u8 m] 5)) := by
  have h1 : Tryd.prog.underlying 52 = some (.slice 5) := by kernel_rfl
  have h2 : Tryd.prog.underlying 9 = some .string := by kernel_rfl
  have h5 : Tryd.prog.underlying 5 = some (.int .u8) := by kernel_rfl
  simp only [convert, Sem.run_bind, run_underlying h1, run_underlying h2, run_underlying h5, Result.andThen_ok]
  refine run_bytesToString _ _ 1 1 [m] (run_loadCells_list (P := Tryd.prog) (w := w.alloc (.cells #[.int .u8 m] 5)) ⟨w.heap.size, 0, none⟩ [Value.int .u8 m] ?_)
  intro j v hj
  match j with
  | 0 => cases hj; simp only [World.cell?, Addr.add]; rw [Ev.heap_alloc, if_pos (by simp)]; rfl
  | j + 1 => simp at hj
theorem cat_one (x : UInt8) (l : List UInt8) : (⟨⟨[x]⟩⟩ : ByteArray) ++ ⟨⟨l⟩⟩ = ⟨⟨x :: l⟩⟩ := by
  apply ByteArray.ext
  simp [ByteArray.data_append]

theorem byte_mod (n : Nat) : UInt8.ofNat (n % 256) = UInt8.ofNat n := by
  apply UInt8.toNat_inj.1; simp

theorem wrap_u64 {n : Nat} (h : n < 18446744073709551616) : IntKind.u64.wrap (n : Int) = n := by
  have : (n : Int) < 18446744073709551616 := by omega
  simp [IntKind.wrap, IntKind.bits, IntKind.signed]; omega

set_option maxRecDepth 100000 in
set_option maxHeartbeats 400000 in
theorem rput_any (n : Nat) (hn : n < 18446744073709551616) (w : World) : Calls Tryd.prog 16 #[.float .f64 n] w fun e w' => e = .returned (.string ⟨⟨beL 8 (canN n)⟩⟩) ∧ Below w.heap.size w w' := by
  have hcan : Hid (∀ w, Calls Tryd.prog 15 #[.float .f64 n] w fun e w' => e = .returned (.float .f64 (canN n)) ∧ w = w') := fun w => rcanon_any n hn w
  have hc := canN_lt hn
  clear hn
  generalize canN n = c at *
  have r31 := run_bits31
  have r52 := run_conv1
  go_enter Tryd.func16, Tryd.ntmps16
  go_wp2_with (go_at_call 15; refine (hcan.out _).mono ?_; rintro e w' ⟨rfl, rfl⟩)
  go_loopw [3, 4, 5] (fun nn s i wr => ∃ k : Nat, k ≤ 8 ∧ i = .int .i64 k ∧ nn = .int .u64 ((c / 256 ^ k : Nat) : Int) ∧ s = .string ⟨⟨beL k c⟩⟩ ∧ Below w.heap.size w wr) (fun _ _ i _ => 8 - (intOf i).toNat)
  case atStart => exact ⟨0, by omega, rfl, by simp, rfl, Below.refl _ _⟩
  case round =>
    obtain ⟨k, hk, rfl, rfl, rfl, hb⟩ := hrel
    have hl := beL_length k c
    have hd : c / 256 ^ k < 18446744073709551616 := Nat.lt_of_le_of_lt (Nat.div_le_self _ _) hc
    by_cases hlt : k < 8
    · have hsz : (⟨⟨beL k c⟩⟩ : ByteArray).size = k := hl
      go_wp2_with fail
      have hcat : (⟨⟨[UInt8.ofNat ((c : Int) / 256 ^ k % 256).toNat]⟩⟩ : ByteArray) ++ ⟨⟨beL k c⟩⟩ = ⟨⟨beL (k + 1) c⟩⟩ := by
        have h1 : ((c : Int) / 256 ^ k % 256).toNat = c / 256 ^ k % 256 := by
          have : ((c : Int) / 256 ^ k % 256) = ((c / 256 ^ k % 256 : Nat) : Int) := by simp
          rw [this, Int.toNat_natCast]
        rw [h1, byte_mod]
        exact cat_one _ _
      have hquo : IntKind.u64.wrap (((c : Int) / 256 ^ k).tdiv 256) = ((c / 256 ^ (k + 1) : Nat) : Int) := by
        have h1 : ((c : Int) / 256 ^ k) = ((c / 256 ^ k : Nat) : Int) := by simp
        have h2 : ((c / 256 ^ k : Nat) : Int).tdiv 256 = ((c / 256 ^ (k + 1) : Nat) : Int) := by
          rw [Nat.pow_succ, ← Nat.div_div_eq_div_mul]; rfl
        have h3 : c / 256 ^ (k + 1) ≤ c := Nat.div_le_self _ _
        rw [h1, h2, wrap_u64 (by omega)]
      exact ⟨⟨k + 1, by omega, rfl, by rw [hquo], by rw [hcat], hb.alloc hb.size _⟩, by simp [intOf]; omega⟩
    · have hk8 : k = 8 := by omega
      subst hk8
      go_wp2_with fail
      go_ret
      exact ⟨rfl, hb⟩

theorem mul_add_u64 {n b : Nat} (h : 256 * n + b < 18446744073709551616) : IntKind.u64.wrap (IntKind.u64.wrap (256 * (n : Int)) + IntKind.u64.wrap (b : Int)) = ((256 * n + b : Nat) : Int) := by
  have h1 : (256 * (n : Int)) = ((256 * n : Nat) : Int) := by simp
  rw [h1, wrap_u64 (by omega), wrap_u64 (by omega), ← wrap_u64 h]; rfl

set_option maxRecDepth 100000 in
set_option maxHeartbeats 400000 in
theorem rget_any (s : ByteArray) (w : World) : Calls Tryd.prog 10 #[.string s] w fun e w' => e = .returned (.tuple #[.float .f64 (getE s).1, .int .i64 (getE s).2]) ∧ Below w.heap.size w w' := by
  rcases Nat.lt_trichotomy s.size 8 with h | h | h
  · have he : Hid (getE s = (0, 3)) := by unfold getE Hid; rw [if_pos h]
    have l1 : decide ((s.size : Int) < 8) = true := by simp; omega
    clear h
    go_enter Tryd.func10, Tryd.ntmps10
    go_wp2_with fail
    go_ret2
    exact ⟨by rw [he.out]; rfl, Below.refl _ _⟩
  · have l1 : decide ((s.size : Int) < 8) = false := by simp; omega
    have l2 : decide ((8 : Int) < (s.size : Int)) = false := by simp; omega
    have b8 : 8 ≤ s.size := by omega
    have hl8 : Hid (s.data.toList.length = 8) := by unfold Hid; rw [Array.length_toList]; exact h
    have hl : s.data.toList.length = 8 := by rw [Array.length_toList]; exact h
    have hbe : Hid (s.data.toList.take 8 = s.data.toList) := List.take_of_length_le (by omega)
    have hlt8 := beN_lt8 (l := s.data.toList) (by omega)
    have he : Hid (getE s = if canN (beN s.data.toList) = beN s.data.toList then (beN s.data.toList, 0) else (0, 2)) := by unfold getE Hid; rw [if_neg (by omega), if_neg (by omega)]
    clear h hl
    have r12 := run_of12'
    go_enter Tryd.func10, Tryd.ntmps10
    go_wp2_with fail
    go_loop [4, 5] (fun n i => ∃ k : Nat, k ≤ 8 ∧ i = .int .i64 k ∧ n = .int .u64 (beN (s.data.toList.take k))) (fun _ i => 8 - (intOf i).toNat)
    case atStart => exact ⟨0, by omega, rfl, rfl⟩
    case round =>
      obtain ⟨k, hk, rfl, rfl⟩ := hrel
      by_cases hlt : k < 8
      · have hks : k < s.size := by omega
        have hround : Hid (IntKind.u64.wrap (IntKind.u64.wrap (256 * ((beN (s.data.toList.take k) : Nat) : Int)) + IntKind.u64.wrap (s[k].toNat : Int)) = ((beN (s.data.toList.take (k + 1)) : Nat) : Int)) := by
          have h1 := beN_lt (s.data.toList.take k)
          have h2 : (256 : Nat) ^ (s.data.toList.take k).length ≤ 256 ^ 7 := Nat.pow_le_pow_right (by omega) (by rw [List.length_take]; omega)
          have h3 : (256 : Nat) ^ 7 = 72057594037927936 := by decide
          have h4 := s[k].toNat_lt
          unfold Hid
          rw [mul_add_u64 (by omega), take_snoc s k hks, beN_snoc]
        go_wp2_with fail
        go_round
        case rel => exact ⟨k + 1, by omega, by go_num, by rw [hround.out]⟩
        case measure => simp [intOf]; omega
      · have hk8 : k = 8 := by omega
        have hx : Hid (beN (s.data.toList.take k) = beN s.data.toList) := by unfold Hid; rw [hk8, hbe.out]
        generalize hb : beN (s.data.toList.take k) = n at *
        have hn : Hid (beN s.data.toList = n) := hx.out.symm
        have hnlt : Hid (n < 18446744073709551616) := by unfold Hid; rw [← hn.out]; exact hlt8
        clear hb hk8 hx
        have hput : Hid (∀ w, Calls Tryd.prog 16 #[.float .f64 n] w fun e w' => e = .returned (.string ⟨⟨beL 8 (canN n)⟩⟩) ∧ Below w.heap.size w w') := fun w => rput_any n hnlt.out w
        go_wp2_with (go_at_call 16; refine (hput.out _).mono ?_; rintro e w' ⟨rfl, hB⟩)
        all_goals go_ret2
        · have h : (!beL 8 (canN n) == s.toList) = true := by assumption
          rw [Go.ByteArray.toList_eq, Bool.not_eq_true', beq_eq_false_iff_ne] at h
          have h' : ¬ canN n = n := fun hh => h ((beL_eq_iff (canN_lt hnlt.out) hl8.out).2 (by rw [hn.out]; exact hh))
          exact ⟨by rw [he.out, hn.out, if_neg h']; rfl, by assumption⟩
        · have h : (!beL 8 (canN n) == s.toList) = false := by assumption
          rw [Go.ByteArray.toList_eq, Bool.not_eq_false', beq_iff_eq, beL_eq_iff (canN_lt hnlt.out) hl8.out, hn.out] at h
          exact ⟨by rw [he.out, hn.out, if_pos h]; rfl, by assumption⟩
  · have he : Hid (getE s = (0, 4)) := by unfold getE Hid; rw [if_neg (by omega), if_pos h]
    have l1 : decide ((s.size : Int) < 8) = false := by simp; omega
    have l2 : decide ((8 : Int) < (s.size : Int)) = true := by simp; omega
    clear h
    go_enter Tryd.func10, Tryd.ntmps10
    go_wp2_with fail
    go_ret2
    exact ⟨by rw [he.out]; rfl, Below.refl _ _⟩
end Go.Proofs.YtedncponpbieeaaDoor
