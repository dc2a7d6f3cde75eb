/- The program's 'Put' and both 'Clamp's of marks: what each returns. -/
import Derived.Test.YtedncponpbieeaaDoorWlb
import Derived.Test.YtedncponpbieeaaDoorFlo
namespace Go.Proofs.YtedncponpbieeaaDoor
open Go.RowKit

theorem run_conv8 (w : World) (B c : Nat) (h : ∀ j, j < 8 → w.cell? ⟨B, j, none⟩ = some (.int .u8 ((c / 256 ^ (7 - j) % 256 : Nat) : Int))) :
    (convert 52 9 (.slice (some ⟨B, 0, none⟩) 8 8)).run Tryd.prog w = .ok (.string ⟨⟨beL 8 c⟩⟩) w := by
  have h1 : Tryd.prog.underlying 52 = some (.slice 5) := by kernel_rfl
  have h2 : Tryd.prog.underlying 9 = some .string := by kernel_rfl
  have h5 : Tryd.prog.underlying 5 = some (.int .u8) := by kernel_rfl
  have hrun := run_loadCells_list (P := Tryd.prog) (w := w) ⟨B, 0, none⟩ (((List.range 8).map fun j => ((c / 256 ^ (7 - j) % 256 : Nat) : Int)).map (Value.int .u8)) (fun j v hj => by
    rw [List.map_map, List.getElem?_map] at hj
    by_cases h8 : j < 8
    · rw [List.getElem?_range h8] at hj
      cases hj
      rw [show (⟨B, 0, none⟩ : Addr).add j = ⟨B, j, none⟩ by cases j <;> simp [Addr.add]]
      exact h j h8
    · rw [List.getElem?_eq_none (by simpa using h8)] at hj
      cases hj)
  rw [List.length_map, List.length_map, List.length_range] at hrun
  simp only [convert, Sem.run_bind, run_underlying h1, run_underlying h2, run_underlying h5, Result.andThen_ok]
  rw [run_bytesToString w ⟨B, 0, none⟩ 8 8 _ hrun, Ev.fold_push]
  refine congrArg (fun l => Result.ok (Value.string ⟨⟨l⟩⟩) w) ?_
  rw [List.map_map]
  have e : ((fun n : Int => UInt8.ofNat n.toNat) ∘ fun j => ((c / 256 ^ (7 - j) % 256 : Nat) : Int)) = fun j => UInt8.ofNat (c / 256 ^ (7 - j)) := by
    funext j
    show UInt8.ofNat (((c / 256 ^ (7 - j) % 256 : Nat) : Int)).toNat = _
    rw [Int.toNat_natCast, byte_mod]
  rw [e]
  simp [List.range, List.range.loop, beL]

set_option maxRecDepth 100000 in
set_option maxHeartbeats 800000 in
theorem put_any (n : Nat) (hn : n < 18446744073709551616) (w : World) : Calls Tryd.prog 13 #[.float .f64 n] w fun e w' => e = .returned (.string ⟨⟨beL 8 (canN n)⟩⟩) ∧ Below w.heap.size w w' := by
  have hcan : Hid (∀ w, Calls Tryd.prog 14 #[.float .f64 n] w fun e w' => e = .returned (.float .f64 (canN n)) ∧ w = w') := fun w => canon_any n w
  have hc := canN_lt hn
  clear hn
  generalize canN n = c at *
  have r31 := run_bits31
  go_enter Tryd.func13, Tryd.ntmps13
  go_wp2_with (go_at_call 14; refine (hcan.out _).mono ?_; rintro e w' ⟨rfl, rfl⟩)
  go_loopw [5, 9] (fun u i wr => ∃ k : Nat, k ≤ 8 ∧ i = .int .i64 k ∧ (∀ j, j < 8 → wr.frozen? ⟨w.heap.size, j, none⟩ = false ∧ ∃ b, wr.cell? ⟨w.heap.size, j, none⟩ = some (.int .u8 b) ∧ (j < k → b = ((c / 256 ^ (7 - j) % 256 : Nat) : Int))) ∧ Below w.heap.size w wr) (fun _ i _ => 8 - (intOf i).toNat)
  case atStart =>
    refine ⟨0, by omega, rfl, fun j hj => ⟨?_, 0, ?_, fun h => by omega⟩, (Below.refl _ _).alloc (Nat.le_refl _) _⟩
    · simp only [World.frozen?, Ev.heap_alloc, if_pos]
      rfl
    · simp only [World.cell?, Ev.heap_alloc, if_pos]
      match j, hj with
      | 0, _ => rfl
      | 1, _ => rfl
      | 2, _ => rfl
      | 3, _ => rfl
      | 4, _ => rfl
      | 5, _ => rfl
      | 6, _ => rfl
      | 7, _ => rfl
  case round =>
    obtain ⟨k, hk, rfl, hrow, hb⟩ := hrel
    by_cases hlt : k < 8
    · obtain ⟨hfz, b, hcell, _⟩ := hrow k hlt
      have hrow' : Hid (∀ j, j < 8 → wr.frozen? ⟨w.heap.size, j, none⟩ = false ∧ ∃ b, wr.cell? ⟨w.heap.size, j, none⟩ = some (.int .u8 b) ∧ (j < k → b = ((c / 256 ^ (7 - j) % 256 : Nat) : Int))) := hrow
      clear hrow
      go_wp2_with fail
      have hval : ((c : Int) / 2 ^ (8 * (7 - k)) % 256) = ((c / 256 ^ (7 - k) % 256 : Nat) : Int) := by
        have : (2 : Int) ^ (8 * (7 - k)) = ((256 ^ (7 - k) : Nat) : Int) := by rw [Int.pow_mul]; simp
        rw [this]; rfl
      rw [hval]
      refine ⟨⟨k + 1, by omega, rfl, fun j hj => ?_, hb.setCell (Nat.le_refl _) _⟩, by simp [intOf]; omega⟩
      obtain ⟨h1, b', h2, h3⟩ := hrow'.out j hj
      refine ⟨by rw [World.frozen?_setCell]; exact h1, ?_⟩
      by_cases hjk : j = k
      · subst hjk
        exact ⟨_, World.cell?_setCell_same _ _ _ hcell, fun _ => rfl⟩
      · exact ⟨b', by rw [World.cell?_setCell_other _ _ _ _ (fun e => hjk (Addr.mk.inj e).2.1.symm)]; exact h2, fun h => h3 (by omega)⟩
    · have hk8 : k = 8 := by omega
      subst hk8
      have hconv := run_conv8 wr w.heap.size c (fun j hj => by
        obtain ⟨_, b, h2, h3⟩ := hrow j hj
        rw [h2, h3 hj])
      have hrow' : Hid (∀ j, j < 8 → wr.frozen? ⟨w.heap.size, j, none⟩ = false ∧ ∃ b, wr.cell? ⟨w.heap.size, j, none⟩ = some (.int .u8 b) ∧ (j < 8 → b = ((c / 256 ^ (7 - j) % 256 : Nat) : Int))) := hrow
      clear hrow
      go_wp2_with fail
      go_ret
      exact ⟨rfl, hb⟩

/-- What 'Clamp' comes to. -/
def clampN (n : Nat) : Nat := if (FloatKind.f64.format.order n 0 == some Ordering.lt) = true then 0 else if (FloatKind.f64.format.order n 4636737291354636288 == some Ordering.gt) = true then 4636737291354636288 else canN n

set_option maxRecDepth 100000 in
set_option maxHeartbeats 400000 in
theorem clamp_any (n : Nat) (w : World) : Calls Tryd.prog 17 #[.float .f64 n] w fun e w' => e = .returned (.float .f64 (clampN n)) ∧ w = w' := by
  have hcan : Hid (∀ w, Calls Tryd.prog 14 #[.float .f64 n] w fun e w' => e = .returned (.float .f64 (canN n)) ∧ w = w') := fun w => canon_any n w
  cases h1 : (FloatKind.f64.format.order n 0 == some Ordering.lt) with
  | true =>
    have hc : Hid (clampN n = 0) := by unfold clampN Hid; rw [if_pos h1]
    go_enter Tryd.func17, Tryd.ntmps17
    go_wp2_with fail
    go_ret
    exact ⟨by rw [hc.out]; rfl, rfl⟩
  | false =>
    cases h2 : (FloatKind.f64.format.order n 4636737291354636288 == some Ordering.gt) with
    | true =>
      have hc : Hid (clampN n = 4636737291354636288) := by unfold clampN Hid; rw [if_neg (by rw [h1]; simp), if_pos h2]
      go_enter Tryd.func17, Tryd.ntmps17
      go_wp2_with fail
      go_ret
      exact ⟨by rw [hc.out]; rfl, rfl⟩
    | false =>
      have hc : Hid (clampN n = canN n) := by unfold clampN Hid; rw [if_neg (by rw [h1]; simp), if_neg (by rw [h2]; simp)]
      go_enter Tryd.func17, Tryd.ntmps17
      go_wp2_with (go_at_call 14; refine (hcan.out _).mono ?_; rintro e w' ⟨rfl, rfl⟩)
      go_ret
      exact ⟨by rw [hc.out]; rfl, rfl⟩

theorem clamp_both (n : Nat) : ¬ ((FloatKind.f64.format.order n 0 == some Ordering.lt) = true ∧ (FloatKind.f64.format.order n 4636737291354636288 == some Ordering.gt) = true) := by
  rw [order_lt, order_gt]
  have h1 : keyN 0 = 0 := by decide
  have h2 : keyN 4636737291354636288 = 4636737291354636288 := by decide
  rw [h1, h2]
  simp only [Bool.and_eq_true, decide_eq_true_eq]
  omega

set_option maxRecDepth 100000 in
set_option maxHeartbeats 400000 in
theorem rclamp_any (n : Nat) (hn : n < 18446744073709551616) (w : World) : Calls Tryd.prog 18 #[.float .f64 n] w fun e w' => e = .returned (.float .f64 (clampN n)) ∧ w = w' := by
  have hcan : Hid (∀ w, Calls Tryd.prog 15 #[.float .f64 n] w fun e w' => e = .returned (.float .f64 (canN n)) ∧ w = w') := fun w => rcanon_any n hn w
  have hcall : Hid (∀ w, Calls Tryd.prog 33 #[.float .f64 n] w fun e w' => e = .returned (.bool (nanN n)) ∧ w = w') := fun w => nan_any n hn w
  cases hb : nanN n with
  | true =>
    rw [hb] at hcall
    have hc : Hid (clampN n = 9221120237041090561) := by
      unfold clampN Hid canN
      rw [order_nan (.inl hb), order_nan (.inl hb), if_pos hb, if_neg (by decide), if_neg (by decide)]
    clear hb hn
    go_enter Tryd.func18, Tryd.ntmps18
    go_wp2_with (first | (go_at_call 33; refine (hcall.out _).mono ?_; rintro e w' ⟨rfl, rfl⟩) | (go_at_call 34; refine (rnone_any _).mono ?_; rintro e w' ⟨rfl, rfl⟩))
    go_ret
    exact ⟨by rw [hc.out]; rfl, rfl⟩
  | false =>
    rw [hb] at hcall
    have hboth := clamp_both n
    clear hb hn
    cases h2 : (FloatKind.f64.format.order n 4636737291354636288 == some Ordering.gt) with
    | true =>
      have h1 : (FloatKind.f64.format.order n 0 == some Ordering.lt) = false := by
        cases h : (FloatKind.f64.format.order n 0 == some Ordering.lt)
        · rfl
        · exact absurd ⟨h, h2⟩ hboth
      have hc : Hid (clampN n = 4636737291354636288) := by unfold clampN Hid; rw [if_neg (by rw [h1]; simp), if_pos h2]
      clear hboth
      go_enter Tryd.func18, Tryd.ntmps18
      go_wp2_with (go_at_call 33; refine (hcall.out _).mono ?_; rintro e w' ⟨rfl, rfl⟩)
      go_ret
      exact ⟨by rw [hc.out]; rfl, rfl⟩
    | false =>
      clear hboth
      cases h1 : (FloatKind.f64.format.order n 0 == some Ordering.lt) with
      | true =>
        have hc : Hid (clampN n = 0) := by unfold clampN Hid; rw [if_pos h1]
        go_enter Tryd.func18, Tryd.ntmps18
        go_wp2_with (go_at_call 33; refine (hcall.out _).mono ?_; rintro e w' ⟨rfl, rfl⟩)
        go_ret
        exact ⟨by rw [hc.out]; rfl, rfl⟩
      | false =>
        have hc : Hid (clampN n = canN n) := by unfold clampN Hid; rw [if_neg (by rw [h1]; simp), if_neg (by rw [h2]; simp)]
        go_enter Tryd.func18, Tryd.ntmps18
        go_wp2_with (first | (go_at_call 33; refine (hcall.out _).mono ?_; rintro e w' ⟨rfl, rfl⟩) | (go_at_call 15; refine (hcan.out _).mono ?_; rintro e w' ⟨rfl, rfl⟩))
        go_ret
        exact ⟨by rw [hc.out]; rfl, rfl⟩

theorem canN_canN (n : Nat) : canN (canN n) = canN n := by
  have h1 : canN 9221120237041090561 = 9221120237041090561 := by decide
  have h2 : canN 0 = 0 := by decide
  cases h : nanN n with
  | true => rw [show canN n = 9221120237041090561 by unfold canN; rw [if_pos h], h1]
  | false =>
    by_cases h0 : n % 9223372036854775808 = 0
    · rw [show canN n = 0 by unfold canN; rw [if_neg (by rw [h]; simp), if_pos h0], h2]
    · have : canN n = n := by unfold canN; rw [if_neg (by rw [h]; simp), if_neg h0]
      rw [this, this]

theorem get_put {n : Nat} (hn : n < 18446744073709551616) : getE ⟨⟨beL 8 (canN n)⟩⟩ = (canN n, 0) := by
  have hs : (⟨⟨beL 8 (canN n)⟩⟩ : ByteArray).size = 8 := beL_length 8 _
  have hb : beN (beL 8 (canN n)) = canN n := by rw [beN_beL, Nat.mod_eq_of_lt (by simpa using canN_lt hn)]
  unfold getE
  rw [if_neg (by omega), if_neg (by omega)]
  show (if canN (beN (beL 8 (canN n))) = beN (beL 8 (canN n)) then (beN (beL 8 (canN n)), 0) else (0, 2)) = _
  rw [hb, canN_canN, if_pos rfl]
end Go.Proofs.YtedncponpbieeaaDoor
