/- The walk of the function of SchoolNil. -/
import Derived.Test.YtekmkmidjoenoaaGreatDoorApq
import Derived.Test.YtekmkmidjoenoaaGreatDoorSpn
import Derived.Test.YtekmkmidjoenoaaGreatDoorRst
import Derived.Laws.MakeOwn
import Derived.Laws.OwnMore
namespace Go.Proofs.YtekmkmidjoenoaaGreatDoor
open Go.RowKit Go.Ev

theorem bits_63 (n : Int) : ∃ j : Nat, j < 64 ∧ bits .and .i64 n 63 = (j : Int) := by
  have hlt : (BitVec.ofInt 64 n &&& BitVec.ofInt 64 63).toNat < 64 := by
    rw [BitVec.toNat_and]
    have : (BitVec.ofInt 64 63).toNat = 63 := by decide
    rw [this]
    exact Nat.lt_of_le_of_lt Nat.and_le_right (by omega)
  have h := Go.Ev.wrap_small (k := .i64) (z := (BitVec.ofInt 64 n &&& BitVec.ofInt 64 63).toNat) (by show _ < 9223372036854775808; omega)
  exact ⟨_, hlt, h⟩

/-- So many zero bytes. -/
def zs (n : Nat) : ByteArray := strOfNums (List.replicate n 0)
theorem zs_size (n : Nat) : (zs n).size = n := by unfold zs; rw [strOfNums_size, List.length_replicate]
theorem zs_get (n i : Nat) (h : i < (zs n).size) : (zs n).data[i]? = some 0 := by
  rw [zs_size] at h
  unfold zs strOfNums
  simp [h]
theorem zs_first (n : Nat) (h : 0 < n) : (zs n)[0]? = some 0 := by
  have hh : 0 < (zs n).size := by rw [zs_size]; exact h
  rw [getElem?_pos (zs n) 0 hh]
  obtain ⟨_, hv⟩ := Array.getElem?_eq_some_iff.1 (zs_get n 0 hh)
  exact congrArg some hv

theorem make_zeros (n : Nat) (hn : n ≤ 100000) (w : World) : (Instr.makeSlice 52 (.int .i64 (n : Nat)) (.int .i64 (n : Nat))).run Tryz.prog w = .ok (.slice (some ⟨w.heap.size, 0, none⟩) n n) (w.alloc (.cells (madeCells #[.int .u8 0] n) 5)) := by
  obtain ⟨i0, hi, hz0, hz1, hz2⟩ := info_parts outInfo
  have := run_make (P := Tryz.prog) w 52 5 i0 (.int .u8 0) Tryz.underlying52 hi hz0 .i64 .i64 (n : Int) (n : Int) (by omega) (by omega) (by rw [hz2]; omega) (by omega)
  rw [this, hz1]
  simp [Value.cells]

theorem conv_zeros (n : Nat) (w : World) : (convert 52 9 (.slice (some ⟨w.heap.size, 0, none⟩) n n)).run Tryz.prog (w.alloc (.cells (madeCells #[.int .u8 0] n) 5)) = .ok (.string (zs n)) (w.alloc (.cells (madeCells #[.int .u8 0] n) 5)) := by
  refine run_convert_bytes_arg (P := Tryz.prog) _ 52 5 Tryz.underlying52 Tryz.underlying5 w.heap.size 0 n n (List.replicate n 0) (by simp) (fun i hi => ?_) 9 Tryz.underlying9
  rw [cell_of_row _ _ _ _ _ _ (heap_alloc_new w _)]
  rw [← Array.getElem?_toList, toList_madeCells_one]
  simp [List.getD, hi]

theorem start_ok : ∃ v st st' r, callS 13 [] ⟨.nil, .nil, 100⟩ = some (v, st) ∧ callS 14 [v, enrolA] st = some (r, st') ∧ startS = some (v, st, st') := by
  have h := long_all (n := 8160) (by omega) (by omega)
  unfold longB at h
  cases hs : startS with
  | none => rw [hs] at h; cases h
  | some x =>
    obtain ⟨v, st, st'⟩ := x
    have hs' := hs
    unfold startS at hs'
    split at hs'
    case h_2 => cases hs'
    rename_i v1 s1 h1
    split at hs'
    case h_2 => cases hs'
    rename_i r s2 h2
    cases hs'
    exact ⟨_, _, _, _, h1, h2, rfl⟩

theorem callS_ok (N0 : Nat) : CallOk Tryz.prog 100 N0 pglob (evalCallM Tryz.prog 100 pglob ext (fun _ => false) memoPut 100000 60) := evalCallM_sound mixed ext_ok _ memoPut_ok 100000 60

theorem two_rel {G N : Nat} {φ : Phi} {v v' u u' : Value} (h : VRel G N φ v v') (k : VRel G N φ u u') : ARel G N φ ⟨[v, u]⟩ #[v', u'] := ⟨rfl, fun i a a' h1 h2 => by
  match i, h1, h2 with
  | 0, h1, h2 => simp at h1 h2; subst h1; subst h2; exact h
  | 1, h1, h2 => simp at h1 h2; subst h1; subst h2; exact k
  | i + 2, h1, h2 => simp at h1⟩

theorem tr_below {G N0 : Nat} {g : Glob} {φ φ' : Phi} {st st' : St} {w w' : World} (hR : R G N0 g φ st w) (hT : Tr φ st w φ' st' w') : Below N0 w w' :=
  ⟨hT.os, hT.tape, hT.output, hT.size, fun k hk => hT.fr k (by have := hR.room; omega) fun id o ho => by have := (hR.obj id o ho).2.2.1; omega⟩

theorem long_spec {n : Nat} (h1 : 8160 ≤ n) (h2 : n ≤ 8223) {v : Value} {st1 st2 : St} (hst : startS = some (v, st1, st2)) :
    ∃ st3, callS 14 [v, cmdA (.chan (some (2 * n + 1)))] st2 = some (bif Nat.ble n 8177 then replyA 2 1 else replyA 6 0, st3) := by
  have h := long_all h1 h2
  unfold longB at h
  rw [hst] at h
  simp only at h
  split at h
  · rename_i u st3 hc
    exact ⟨st3, by rw [hc, valEq_spec h]⟩
  · cases h

theorem none_any (t : ByteArray) (w : World) : Calls Tryz.prog 14 #[.pointer none, cmdA (.string t)] w fun e w' => e = .returned (replyA 1 0) ∧ Below w.heap.size w w' := by
  have h := none_apply (2 * t.size)
  unfold noneB at h
  split at h
  · rename_i u st' hc
    rw [valEq_spec h] at hc
    have hlong : VRel 100 100 (fun _ => default) (.chan (some (2 * t.size))) (.string t) := .long (by omega) (fun h => by omega)
    refine Calls.mono ((callS_ok w.heap.size).fn _ _ _ _ _ hc (fun _ => default) w #[.pointer none, cmdA (.string t)] (R.start (fun b o u h => by cases h)) (two_rel (.flat rfl) (cmd_rel hlong))) fun e w' hp => ?_
    obtain ⟨v', φ', rfl, hR', hT, hr⟩ := hp
    exact ⟨by rw [hr.flat_eq rfl], hT.below⟩
  · cases h

theorem fld_one (w : World) : (Instr.field 47 (.agg #[.int .i64 1, .int .i64 0, .int .i64 0, .int .i64 0, .string ⟨#[]⟩, .slice none 0 0, .slice none 0 0]) 0).run Tryz.prog w = .ok (.int .i64 1) w := by kernel_rfl

theorem snap_none (w : World) : Calls Tryz.prog 17 #[.pointer none] w fun e w' => e = .returned (.string ⟨#[]⟩) ∧ Below w.heap.size w w' := by
  have h := none_other
  unfold noneC at h
  rw [Bool.and_eq_true] at h
  have h := h.1
  split at h
  · rename_i u st' hc
    rw [valEq_spec h] at hc
    exact run_closedM mixed ext_ok memoPut_ok hc rfl rfl (fun b o u h => by cases h)
  · cases h

theorem copy_none (w : World) : Calls Tryz.prog 18 #[.pointer none] w fun e w' => e = .returned (.pointer none) ∧ Below w.heap.size w w' := by
  have h := none_other
  unfold noneC at h
  rw [Bool.and_eq_true] at h
  have h := h.2
  split at h
  · rename_i u st' hc
    rw [valEq_spec h] at hc
    exact run_closedM mixed ext_ok memoPut_ok hc rfl rfl (fun b o u h => by cases h)
  · cases h

set_option maxRecDepth 100000 in
set_option maxHeartbeats 3200000 in
theorem sch_any (n : Int) (w : World) : Calls Tryz.prog 4 #[.int .i64 n] w fun e w' => e = .returned (.bool true) ∧ Below w.heap.size w w' := by
  obtain ⟨v, st1, st2, r, hNew, hEn, hst⟩ := start_ok
  obtain ⟨j, hj, hbits⟩ := bits_63 n
  go_enter Tryz.func4, Tryz.ntmps4
  go_wp2_with (fail)
  go_at_call 12
  refine (speaksS_any _).mono ?_
  rintro e w1 ⟨rfl, hB1⟩
  go_wp2_with (fail)
  go_at_call 13
  refine Calls.mono ((callS_ok w1.heap.size).fn _ _ _ _ _ hNew (fun _ => default) w1 #[] (R.start (fun b o u h => by cases h)) ⟨rfl, fun i a b h1 => by simp at h1⟩) ?_
  rintro e w2 ⟨v', φ1, rfl, hR1, hT1, hv1⟩
  go_wp2_with (fail)
  go_at_call 14
  go_goals
  refine Calls.mono ((callS_ok w1.heap.size).fn _ _ _ _ _ hEn φ1 w2 #[v', enrolA] hR1 (two_rel hv1 (.flat rfl))) ?_
  rintro e w3 ⟨r', φ2, rfl, hR2, hT2, hr2⟩
  have hv2 := hv1.mono hT2.next hT2.ext
  have hmk : ∀ w : World, (Instr.makeSlice 52 (.int .i64 (8160 + (j : Int))) (.int .i64 (8160 + (j : Int)))).run Tryz.prog w = .ok (.slice (some ⟨w.heap.size, 0, none⟩) (8160 + j) (8160 + j)) (w.alloc (.cells (madeCells #[.int .u8 0] (8160 + j)) 5)) := fun w => by
    have := make_zeros (8160 + j) (by omega) w
    rwa [show (((8160 + j : Nat)) : Int) = 8160 + (j : Int) by omega] at this
  have hcv : ∀ w : World, (convert 52 9 (.slice (some ⟨w.heap.size, 0, none⟩) (8160 + j) (8160 + j))).run Tryz.prog (w.alloc (.cells (madeCells #[.int .u8 0] (8160 + j)) 5)) = .ok (.string (zs (8160 + j))) (w.alloc (.cells (madeCells #[.int .u8 0] (8160 + j)) 5)) := fun w => conv_zeros (8160 + j) w
  go_wp2_with (fail)
  go_at_call 14
  refine calls_gen fun W4 hW4 => ?_
  have hB4 : Below w3.heap.size w3 W4 := by rw [hW4]; exact ((Below.refl _ w3).alloc (Nat.le_refl _) _).alloc (by simp) _
  have hrow : W4.heap[w3.heap.size + 1]? = some (.cells #[.int .i64 9, .string ⟨#[97]⟩, .string ⟨#[]⟩, .string ⟨#[]⟩, .string (zs (8160 + j)), .slice none 0 0, .int .i64 0, .int .i64 0, .int .i64 0, .int .i64 0] 51 (0, 0)) := by rw [hW4]; exact heap_alloc2_new w3 _ _
  clear hW4 hmk hcv
  obtain ⟨st3, hAp⟩ := long_spec (n := 8160 + j) (by omega) (by omega) hst
  have hR4 := (hR2.below hB4).1
  refine Calls.mono ((callS_ok w1.heap.size).fn _ _ _ _ _ hAp φ2 W4 #[v', cmdA (.string (zs (8160 + j)))] hR4 (two_rel hv2 (cmd_rel (.long (by rw [zs_size]; omega) (fun _ i hi => zs_get _ _ hi))))) ?_
  rintro e w5 ⟨u', φ3, rfl, hR3, hT3, hu⟩
  have hrow5 : w5.heap[w3.heap.size + 1]? = some (.cells #[.int .i64 9, .string ⟨#[97]⟩, .string ⟨#[]⟩, .string ⟨#[]⟩, .string (zs (8160 + j)), .slice none 0 0, .int .i64 0, .int .i64 0, .int .i64 0, .int .i64 0] 51 (0, 0)) :=
    (hT3.fr _ (Array.getElem?_eq_some_iff.1 hrow).1 fun id o ho => by have := (hR2.obj id o ho).2.2.2.1; omega).trans hrow
  have hBw : Hid (Below w.heap.size w w5) := by
    have a1 := tr_below (R.start (G := 100) (g := pglob) (w := w1) (fun b o u h => by cases h)) hT1
    have a2 := tr_below hR1 hT2
    have a3 := tr_below hR4 hT3
    have s1 := a1.size
    have s2 := a2.size
    have all : Below w1.heap.size w1 w5 := a1.trans (a2.trans ((hB4.mono (by omega)).trans a3))
    exact hB1.trans (all.mono hB1.size)
  have hrep : Hid (u' = bif Nat.ble (8160 + j) 8177 then replyA 2 1 else replyA 6 0) := hu.flat_eq (by cases Nat.ble (8160 + j) 8177 <;> rfl)
  clear hrow hAp hR4 hR3 hT3 hu hB4 hT1 hT2 hR1 hR2 hv1 hv2 hNew hEn hst hr2 hB1 hbits
  have hcases : (u' = replyA 2 1 ∧ j ≤ 17) ∨ (u' = replyA 6 0 ∧ 17 < j) := by
    have h := hrep.out
    cases hle : Nat.ble (8160 + j) 8177 with
    | true => rw [hle] at h; exact .inl ⟨h, by have := Nat.le_of_ble_eq_true hle; omega⟩
    | false => rw [hle] at h; exact .inr ⟨h, by
        rcases Nat.lt_or_ge 17 j with h1 | h1
        · exact h1
        · rw [Nat.ble_eq_true_of_le (by omega)] at hle; cases hle⟩
  clear hrep
  obtain ⟨code, pos, rfl, hcode⟩ : ∃ code pos : Nat, u' = replyA code pos ∧ (code = 2 ∧ j ≤ 17 ∨ code = 6 ∧ 17 < j) := by
    rcases hcases with ⟨h, k⟩ | ⟨h, k⟩
    · exact ⟨2, 1, h, .inl ⟨rfl, k⟩⟩
    · exact ⟨6, 0, h, .inr ⟨rfl, k⟩⟩
  clear hcases
  unfold replyA
  have hc5 := (Array.getElem?_eq_some_iff.1 hrow5).1
  have q : ∀ (k : Nat) (u : Value), (#[.int .i64 9, .string ⟨#[97]⟩, .string ⟨#[]⟩, .string ⟨#[]⟩, .string (zs (8160 + j)), .slice none 0 0, .int .i64 0, .int .i64 0, .int .i64 0, .int .i64 0] : Array Value)[k]? = some u → ∀ o, (w5.alloc o).cell? ⟨w3.heap.size + 1, k, none⟩ = some u := fun k u hu o => Lib.cell?_alloc_some _ (by rw [cell_of_row _ _ _ _ _ _ hrow5]; exact hu)
  have q0 := q 0 _ rfl
  have q1 := q 1 _ rfl
  have q2 := q 2 _ rfl
  have q3 := q 3 _ rfl
  have q4 := q 4 _ rfl
  have q5 := q 5 _ rfl
  have q6 := q 6 _ rfl
  have q7 := q 7 _ rfl
  have q8 := q 8 _ rfl
  have q9 := q 9 _ rfl
  clear q
  go_wp2_with (fail)
  go_at_call 15
  refine calls_gen fun W6 hW6 => ?_
  have hB6 : Below w5.heap.size w5 W6 := by rw [hW6]; exact (Below.refl _ w5).alloc (Nat.le_refl _) _
  have hrow6 := (hB6.block _ hc5).trans hrow5
  have hrep6 : W6.heap[w5.heap.size]? = some (.cells #[.int .i64 (code : Int), .int .i64 (pos : Int), .int .i64 (pos : Int), .int .i64 0, .string ⟨#[]⟩, .slice none 0 0, .slice none 0 0] 47 (0, 0)) := by rw [hW6]; exact heap_alloc_new w5 _
  clear hW6 q0 q1 q2 q3 q4 q5 q6 q7 q8 q9 hrow5
  refine (put_long (zs (8160 + j)) (by rw [zs_size]; omega) (by rw [zs_size]; omega) W6).mono ?_
  rintro e w7 ⟨t, rfl, ht, hB7⟩
  rw [zs_size] at ht
  have hmk4 : ∀ w : World, (Instr.makeSlice 52 (.int .i64 40000) (.int .i64 40000)).run Tryz.prog w = .ok (.slice (some ⟨w.heap.size, 0, none⟩) 40000 40000) (w.alloc (.cells (madeCells #[.int .u8 0] 40000) 5)) := fun w => make_zeros 40000 (by omega) w
  have hcv4 : ∀ w : World, (convert 52 9 (.slice (some ⟨w.heap.size, 0, none⟩) 40000 40000)).run Tryz.prog (w.alloc (.cells (madeCells #[.int .u8 0] 40000) 5)) = .ok (.string (zs 40000)) (w.alloc (.cells (madeCells #[.int .u8 0] 40000) 5)) := fun w => conv_zeros 40000 w
  have hB57 : Below w5.heap.size w5 w7 := hB6.trans (hB7.mono hB6.size)
  have hc6 := (Array.getElem?_eq_some_iff.1 hrow6).1
  have hp6 := (Array.getElem?_eq_some_iff.1 hrep6).1
  have hrow7 := (hB7.block _ hc6).trans hrow6
  have hrep7 := (hB7.block _ hp6).trans hrep6
  have hc7 := (Array.getElem?_eq_some_iff.1 hrow7).1
  have hp7 := (Array.getElem?_eq_some_iff.1 hrep7).1
  clear hB6 hB7 hrow6 hrep6 hc6 hp6 hc5
  have hcmp : (j ≤ 17 ∧ ¬ (8192 < (t.size : Int))) ∨ (17 < j ∧ 8192 < (t.size : Int)) := by omega
  clear ht
  rcases hcmp with ⟨hj17, hlt⟩ | ⟨hj17, hlt⟩
  all_goals
    go_wp2_with (fail)
    go_at_call 16
    refine calls_gen fun W8 hW8 => ?_
    have hB8 : Below w7.heap.size w7 W8 := by rw [hW8]; exact (Below.refl _ w7).alloc (Nat.le_refl _) _
    clear hW8 hmk4 hcv4
    refine (restore_zero (zs 40000) (zs_size _) (zs_first _ (by omega)) W8).mono ?_
    rintro e w9 ⟨rfl, hB9⟩
    have hB79 : Below w7.heap.size w7 w9 := hB8.trans (hB9.mono hB8.size)
    have hrow9 := (hB79.block _ hc7).trans hrow7
    have hrep9 := (hB79.block _ hp7).trans hrep7
    have q : ∀ (k : Nat) (u : Value), (#[.int .i64 9, .string ⟨#[97]⟩, .string ⟨#[]⟩, .string ⟨#[]⟩, .string (zs (8160 + j)), .slice none 0 0, .int .i64 0, .int .i64 0, .int .i64 0, .int .i64 0] : Array Value)[k]? = some u → w9.cell? ⟨w3.heap.size + 1, k, none⟩ = some u := fun k u hu => by rw [cell_of_row _ _ _ _ _ _ hrow9]; exact hu
    have q0 := q 0 _ rfl
    have q1 := q 1 _ rfl
    have q2 := q 2 _ rfl
    have q3 := q 3 _ rfl
    have q4 := q 4 _ rfl
    have q5 := q 5 _ rfl
    have q6 := q 6 _ rfl
    have q7 := q 7 _ rfl
    have q8 := q 8 _ rfl
    have q9 := q 9 _ rfl
    go_wp2_with (fail)
    go_at_call 14
    refine (none_any (zs (8160 + j)) w9).mono ?_
    rintro e w10 ⟨rfl, hB10⟩
    have hfd := fld_one
    have e1 : replyA 1 0 = .agg #[.int .i64 1, .int .i64 0, .int .i64 0, .int .i64 0, .string ⟨#[]⟩, .slice none 0 0, .slice none 0 0] := rfl
    rw [e1]
    go_wp2_with (fail)
    go_at_call 17
    refine (snap_none w10).mono ?_
    rintro e w11 ⟨rfl, hB11⟩
    go_wp2_with (fail)
    go_at_call 18
    refine (copy_none w11).mono ?_
    rintro e w12 ⟨rfl, hB12⟩
    have hB912 : Below w9.heap.size w9 w12 := hB10.trans ((hB11.mono hB10.size).trans (hB12.mono (Nat.le_trans hB10.size hB11.size)))
    have p0 : w12.cell? ⟨w5.heap.size, 0, none⟩ = some (.int .i64 (code : Int)) := (hB912.cell (by exact (Array.getElem?_eq_some_iff.1 hrep9).1)).trans (by rw [cell_of_row _ _ _ _ _ _ hrep9]; rfl)
    rcases hcode with ⟨rfl, hk⟩ | ⟨rfl, hk⟩ <;> first | (exfalso; omega) | skip
    go_wp2_with (fail)
    go_ret
    refine ⟨rfl, ?_⟩
    have s5 := hB57.size
    have s7 := hB79.size
    have all : Below w5.heap.size w5 w12 := hB57.trans ((hB79.mono s5).trans (hB912.mono (by omega)))
    exact hBw.out.trans (all.mono hBw.out.size)
#print axioms sch_any
end Go.Proofs.YtekmkmidjoenoaaGreatDoor
