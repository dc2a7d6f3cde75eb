/- The task that the program reads of bytes. -/
import Derived.Test.YtcdcchkaohnkdaaGreatDoorTgp
import Derived.Test.YtcdcchkaohnkdaaGreatDoorTix
import Derived.Laws.ResultCell
import Derived.Lib.SliceRun
namespace Go.Proofs.YtcdcchkaohnkdaaGreatDoor
open Go.RowKit

/-- Where the reader of a task stands: the reader, the answer's cells, the task's cells. -/
structure GetS (ti tt : TypeId) (R B T : Nat) (st : Inp) (vy vn : Value) (name : Str) (c : Bool) (f : Nat) (w : World) : Prop where
  inp : InS ti B st w
  res : w.heap[R]? = some (.cells #[.string ⟨#[]⟩, .slice none 0 0, .slice none 0 0, .bool false, .float .f64 0] tt (0, 0))
  tsk : w.heap[T]? = some (.cells #[.string (bs name), vy, vn, .bool c, .float .f64 f] tt (0, 0))
  ne : R ≠ B ∧ T ≠ B ∧ R ≠ T
section
variable {ti tt R B T : Nat} {st : Inp} {vy vn : Value} {name : Str} {c : Bool} {f : Nat} {w w' : World}
theorem GetS.lt (h : GetS ti tt R B T st vy vn name c f w) : R < w.heap.size ∧ B < w.heap.size ∧ T < w.heap.size := ⟨(Array.getElem?_eq_some_iff.1 h.res).1, h.inp.lt, (Array.getElem?_eq_some_iff.1 h.tsk).1⟩
/-- The reader goes on. -/
theorem GetS.read (h : GetS ti tt R B T st vy vn name c f w) {st' : Inp} (ho : Onl B w w') (hi : InS ti B st' w') : GetS ti tt R B T st' vy vn name c f w' :=
  ⟨hi, (World.grownBy.block ho R h.lt.1 (fun e => h.ne.1 (Option.some.inj e))).trans h.res, (World.grownBy.block ho T h.lt.2.2 (fun e => h.ne.2.1 (Option.some.inj e))).trans h.tsk, h.ne⟩
theorem GetS.below (h : GetS ti tt R B T st vy vn name c f w) (hb : Below w.heap.size w w') : GetS ti tt R B T st vy vn name c f w' :=
  ⟨h.inp.below hb, (hb.block R h.lt.1).trans h.res, (hb.block T h.lt.2.2).trans h.tsk, h.ne⟩
/-- A field of the task is written. -/
theorem GetS.store (h : GetS ti tt R B T st vy vn name c f w) {vy' vn' : Value} {name' : Str} {c' : Bool} {f' : Nat} {k : Nat} {u : Value} (hk : k < 5)
    (he : (#[.string (bs name), vy, vn, .bool c, .float .f64 f] : Array Value).setIfInBounds k u = #[.string (bs name'), vy', vn', .bool c', .float .f64 f']) :
    GetS ti tt R B T st vy' vn' name' c' f' (w.setCell ⟨T, k, none⟩ u) := by
  refine ⟨h.inp.onl (row := some T) ⟨rfl, rfl, rfl, Nat.le_of_eq (by simp), fun i _ hn => Below.heap_setCell w _ u i (fun e => hn (by rw [e]))⟩ (fun e => h.ne.2.1 (Option.some.inj e).symm), ?_, ?_, h.ne⟩
  · rw [Below.heap_setCell w _ u R (fun e => h.ne.2.2 e)]; exact h.res
  · rw [heap_setCell_same w T k _ _ _ h.tsk, he]
theorem GetS.cell (h : GetS ti tt R B T st vy vn name c f w) (k : Nat) : w.cell? ⟨T, k, none⟩ = (#[.string (bs name), vy, vn, .bool c, .float .f64 f] : Array Value)[k]? := cell_of_row _ _ _ _ _ _ h.tsk
theorem GetS.froz (h : GetS ti tt R B T st vy vn name c f w) (k : Nat) : w.frozen? ⟨T, k, none⟩ = false := frozen_of_row w T k _ _ h.tsk
theorem GetS.cellR (h : GetS ti tt R B T st vy vn name c f w) (k : Nat) : w.cell? ⟨R, k, none⟩ = (#[.string ⟨#[]⟩, .slice none 0 0, .slice none 0 0, .bool false, .float .f64 0] : Array Value)[k]? := cell_of_row _ _ _ _ _ _ h.res
theorem GetS.frozR (h : GetS ti tt R B T st vy vn name c f w) (k : Nat) : w.frozen? ⟨R, k, none⟩ = false := frozen_of_row w R k _ _ h.res
end

set_option maxRecDepth 100000 in
set_option maxHeartbeats 1600000 in
theorem iopen_any (s : Str) (w : World) : Calls Tryz.prog 22 #[.string (bs s)] w fun e w' => e = .returned (.pointer (some ⟨w.heap.size, 0, none⟩)) ∧ InS 129 w.heap.size (s, 0) w' ∧ Below w.heap.size w w' ∧ w'.heap.size = w.heap.size + 1 := by
  go_enter Tryz.func22, Tryz.ntmps22
  go_wp2
  go_ret
  refine ⟨rfl, heap_alloc_new w _, (Below.refl _ w).alloc (Nat.le_refl _) _, by simp⟩

theorem run_store_float (w : World) (a : Addr) (m : Mode) (n : Nat) : (store a (.float .f64 n) m).run Tryz.prog w = stored Tryz.prog w a (.float .f64 n) m := run_store Tryz.prog w a _ m rfl
theorem getE_M (m : Str) : getE (bs m) = ((getM m).1, ((getM m).2 : Int)) := by
  have hd : (bs m).data.toList = m := rfl
  unfold getE getM
  rw [bs_size, hd]
  split
  · rfl
  · split
    · rfl
    · split <;> rfl

theorem getM_lt (m : Str) : (getM m).1 < 18446744073709551616 := by
  unfold getM
  split
  · show 0 < _; omega
  · split
    · show 0 < _; omega
    · rename_i h1 h2
      split
      · show beN m < _
        exact beN_lt8 (by omega)
      · show 0 < _; omega
/-- A row whose five cells are written. -/
theorem row5 {w : World} {R t : Nat} {a b c d e a' b' c' d' e' : Value} (h : w.heap[R]? = some (.cells #[a, b, c, d, e] t (0, 0))) :
    (((((w.setCell ⟨R, 0, none⟩ a').setCell ⟨R, 1, none⟩ b').setCell ⟨R, 2, none⟩ c').setCell ⟨R, 3, none⟩ d').setCell ⟨R, 4, none⟩ e').heap[R]? = some (.cells #[a', b', c', d', e'] t (0, 0)) := by
  have h1 := heap_setCell_same w R 0 _ _ a' h
  have h2 := heap_setCell_same _ R 1 _ _ b' h1
  have h3 := heap_setCell_same _ R 2 _ _ c' h2
  have h4 := heap_setCell_same _ R 3 _ _ d' h3
  have h5 := heap_setCell_same _ R 4 _ _ e' h4
  exact h5
theorem below5 {w0 w : World} {N R : Nat} {a' b' c' d' e' : Value} (h : Below N w0 w) (hR : N ≤ R) :
    Below N w0 (((((w.setCell ⟨R, 0, none⟩ a').setCell ⟨R, 1, none⟩ b').setCell ⟨R, 2, none⟩ c').setCell ⟨R, 3, none⟩ d').setCell ⟨R, 4, none⟩ e') :=
  ((((h.setCell hR _).setCell hR _).setCell hR _).setCell hR _).setCell hR _
theorem onl5 {w : World} {R : Nat} {a' b' c' d' e' : Value} :
    Onl R w (((((w.setCell ⟨R, 0, none⟩ a').setCell ⟨R, 1, none⟩ b').setCell ⟨R, 2, none⟩ c').setCell ⟨R, 3, none⟩ d').setCell ⟨R, 4, none⟩ e') :=
  (((((Onl.refl R w).setCell rfl _).setCell rfl _).setCell rfl _).setCell rfl _).setCell rfl _
theorem lists_none (w : World) (N c : Nat) : ListsV N w (.slice none 0 c) [] := ⟨none, c, rfl, fun j hj => by simp at hj⟩
theorem tk_none (w : World) : TkV w (.agg #[.string ⟨#[]⟩, .slice none 0 0, .slice none 0 0, .bool false, .float .f64 0]) Tk.none :=
  ⟨⟨_, _, rfl, lists_none _ _ _, lists_none _ _ _⟩, by show 0 < 18446744073709551616; omega⟩
theorem res_row2 {P : Program} {fn : Func} {p u : Tmp} {ty : TypeId} (h : fn.results = #[.cell p ty, .tmp u]) (tmps : Array Value) (w : World) (g : Nat) (t : TypeId) (cs : Array Value) (fr : Nat × Nat) (d : TypeDesc)
    (hp : tmps.getD p undef = .pointer (some ⟨g, 0, none⟩)) (hg : w.heap[g]? = some (.cells cs t fr))
    (hu : P.underlying ty = some d) (hd : (match d with | .struct _ | .array _ _ => true | _ => false) = true) (hi : (P.info? ty).map (·.size) = some cs.size) :
    (results fn tmps).run P w = .ok (.tuple #[.agg cs, tmps.getD u undef]) w := by
  rw [results_cell_tmp h, hp]
  simp [asAddr, run_loadVar_row w g t ty cs fr d hg hu hd hi]
/-- Steps of a store that are not new. -/
theorem agg_set1 (a b c d e u : Value) : (#[a, b, c, d, e] : Array Value).setIfInBounds 1 u = #[a, u, c, d, e] := rfl
theorem agg_set2 (a b c d e u : Value) : (#[a, b, c, d, e] : Array Value).setIfInBounds 2 u = #[a, b, u, d, e] := rfl
theorem agg_set3 (a b c d e u : Value) : (#[a, b, c, d, e] : Array Value).setIfInBounds 3 u = #[a, b, c, u, e] := rfl
theorem agg_set4 (a b c d e u : Value) : (#[a, b, c, d, e] : Array Value).setIfInBounds 4 u = #[a, b, c, d, u] := rfl

set_option maxRecDepth 100000 in
set_option maxHeartbeats 6400000 in
theorem tget_any (s : Str) (hs : s.length ≤ 1000000) (w : World) : Calls Tryz.prog 7 #[.string (bs s)] w fun e w' => ∃ v, e = .returned (.tuple #[v, .int .i64 ((getT s).2 : Nat)]) ∧ TkV w' v (getT s).1 ∧ Below w.heap.size w w' := by
  have rsf := run_store_float
  have hmg : Hid (∀ (m : Str) (w : World), Calls Tryz.prog 26 #[.string (bs m)] w fun e w' => e = .returned (.tuple #[.float .f64 (getE (bs m)).1, .int .i64 (getE (bs m)).2]) ∧ w = w') := fun m w => mget_any (bs m) w
  go_enter Tryz.func7, Tryz.ntmps7
  go_wp2_with (fail)
  go_at_call 22
  refine (iopen_any s _).mono ?_
  rintro e w1 ⟨rfl, hI1, hB1, hz1⟩
  have hR1 : w1.heap[w.heap.size]? = some (.cells #[.string ⟨#[]⟩, .slice none 0 0, .slice none 0 0, .bool false, .float .f64 0] 29 (0, 0)) := (hB1.block _ (by simp)).trans (heap_alloc_new w _)
  have hW1 : Hid (Below w.heap.size w w1) := ((Below.refl _ w).alloc (Nat.le_refl _) _).trans (hB1.mono (by simp))
  have hsz0 : (w.alloc (.cells #[.string ⟨#[]⟩, .slice none 0 0, .slice none 0 0, .bool false, .float .f64 0] 29)).heap.size = w.heap.size + 1 := by simp
  rw [hsz0] at hI1 hz1
  have hI1H : Hid (InS 129 (w.heap.size + 1) (s, 0) w1) := hI1
  have hR1H : Hid (w1.heap[w.heap.size]? = some (.cells #[.string ⟨#[]⟩, .slice none 0 0, .slice none 0 0, .bool false, .float .f64 0] 29 (0, 0))) := hR1
  clear hI1 hR1 hB1 hsz0
  go_wp2_with (fail)
  go_at_call 23
  refine (itext_any (w.heap.size + 1) (s, 0) hs w1 hI1H.out).mono ?_
  rintro e w2 ⟨rfl, hI2, hO2⟩
  have hI2H : Hid (InS 129 (w.heap.size + 1) (textS (s, 0)).2 w2) := hI2
  have hR2H : Hid (w2.heap[w.heap.size]? = some (.cells #[.string ⟨#[]⟩, .slice none 0 0, .slice none 0 0, .bool false, .float .f64 0] 29 (0, 0))) := (World.grownBy.block hO2 w.heap.size (by omega) (by simp)).trans hR1H.out
  have hW2 : Hid (Below w.heap.size w w2) := hW1.out.trans (hO2.below (by omega) (by omega))
  have hz2 : w.heap.size + 2 ≤ w2.heap.size := by have := hO2.size; omega
  have l1 : Hid ((textS (s, 0)).2.1.length ≤ 1000000) := Nat.le_trans (textS_len (s, 0)) hs
  clear hI2 hO2 hI1H hR1H hW1 hz1
  cases h1 : textS (s, 0) with
  | mk name st1 =>
  rw [h1] at hI2H l1
  simp only at hI2H l1
  have h1H : Hid (textS (s, 0) = (name, st1)) := h1
  clear h1
  go_wp2_with (fail)
  go_at_call 24
  have hS3 : Hid (GetS 129 29 w.heap.size (w.heap.size + 1) w2.heap.size st1 (.slice none 0 0) (.slice none 0 0) name false 0 (w2.alloc (.cells #[.string (bs name), .slice none 0 0, .slice none 0 0, .bool false, .float .f64 0] 29))) :=
    ⟨hI2H.out.alloc _, (heap_alloc_old _ _ (by omega)).trans hR2H.out, heap_alloc_new _ _, by omega, by omega, by omega⟩
  have hW3 : Hid (Below w.heap.size w (w2.alloc (.cells #[.string (bs name), .slice none 0 0, .slice none 0 0, .bool false, .float .f64 0] 29))) := hW2.out.alloc (by omega) _
  refine (ilist_any (w.heap.size + 1) st1 l1.out _ hS3.out.inp).mono ?_
  rintro e w3 ⟨vy, oky, rfl, hLy, hI3, hO3⟩
  have hS4 : Hid (GetS 129 29 w.heap.size (w.heap.size + 1) w2.heap.size (listS st1).2 (.slice none 0 0) (.slice none 0 0) name false 0 w3) := hS3.out.read hO3 hI3
  have hW4 : Hid (Below w.heap.size w w3) := hW3.out.trans (hO3.below (by omega) (by simp; omega))
  have hz3 : w2.heap.size + 1 ≤ w3.heap.size := by have := hO3.size; simpa using this
  have l2 : Hid ((listS st1).2.1.length ≤ 1000000) := Nat.le_trans (listS_len st1) l1.out
  have hLyH : Hid (ListR (w2.heap.size + 1) w3 vy oky (listS st1).1) := by unfold Hid; simpa using hLy
  clear hLy hI3 hO3 hS3 hW3 hI2H hR2H hW2 l1
  cases h2 : listS st1 with
  | mk oy st2 =>
  rw [h2] at hS4 l2 hLyH
  simp only at hS4 l2 hLyH
  have h2H : Hid (listS st1 = (oy, st2)) := h2
  have cT1 : w3.cell? ⟨w2.heap.size, 1, none⟩ = some (.slice none 0 0) := hS4.out.cell 1
  have fT1 := hS4.out.froz 1
  clear h2
  rcases hLyH.out with ⟨rfl, rfl, rfl⟩ | ⟨yes, rfl, rfl, hOy⟩
  · -- no list
    have hres : Hid (getT s = (Tk.none, 2)) := by unfold Hid getT; rw [h1H.out]; simp only; rw [h2H.out]
    have r0 : w3.cell? ⟨w.heap.size, 0, none⟩ = some (.string ⟨#[]⟩) := hS4.out.cellR 0
    have g0 := hS4.out.frozR 0
    have r1 : w3.cell? ⟨w.heap.size, 1, none⟩ = some (.slice none 0 0) := hS4.out.cellR 1
    have g1 := hS4.out.frozR 1
    have r2 : w3.cell? ⟨w.heap.size, 2, none⟩ = some (.slice none 0 0) := hS4.out.cellR 2
    have g2 := hS4.out.frozR 2
    have r3 : w3.cell? ⟨w.heap.size, 3, none⟩ = some (.bool false) := hS4.out.cellR 3
    have g3 := hS4.out.frozR 3
    have r4 : w3.cell? ⟨w.heap.size, 4, none⟩ = some (.float .f64 0) := hS4.out.cellR 4
    have g4 := hS4.out.frozR 4
    have hS5 : Hid (GetS 129 29 w.heap.size (w.heap.size + 1) w2.heap.size st2 (.slice none 0 0) (.slice none 0 0) name false 0 (w3.setCell ⟨w2.heap.size, 1, none⟩ (.slice none 0 0))) := hS4.out.store (by omega) rfl
    have hW5 : Hid (Below w.heap.size w (w3.setCell ⟨w2.heap.size, 1, none⟩ (.slice none 0 0))) := hW4.out.setCell (by show w.heap.size ≤ w2.heap.size; omega) _
    clear hS4 hW4 hLyH
    go_wp2_with (fail)
    refine bodyPost_ret (res_row2 rfl _ _ w.heap.size 29 _ (0, 0) _ rfl (row5 hS5.out.res) Tryz.underlying29 rfl (by kernel_rfl)) rfl ?_
    exact ⟨_, by rw [hres.out]; rfl, by rw [hres.out]; exact tk_none _, below5 hW5.out (Nat.le_refl _)⟩
  · obtain ⟨ya, yl, yc, rfl⟩ : ∃ a l c, vy = .slice a l c := hOy.slice
    have hS5 : Hid (GetS 129 29 w.heap.size (w.heap.size + 1) w2.heap.size st2 (.slice ya yl yc) (.slice none 0 0) name false 0 (w3.setCell ⟨w2.heap.size, 1, none⟩ (.slice ya yl yc))) := hS4.out.store (by omega) rfl
    have hW5 : Hid (Below w.heap.size w (w3.setCell ⟨w2.heap.size, 1, none⟩ (.slice ya yl yc))) := hW4.out.setCell (by show w.heap.size ≤ w2.heap.size; omega) _
    have hY5 : Hid (ListO (w2.heap.size + 1) (w3.setCell ⟨w2.heap.size, 1, none⟩ (.slice ya yl yc)) (.slice ya yl yc) yes) := hOy.onl ((Onl.refl w2.heap.size w3).setCell rfl _) (by omega)
    have hz5 : (w3.setCell ⟨w2.heap.size, 1, none⟩ (.slice ya yl yc)).heap.size = w3.heap.size := by simp
    clear hS4 hW4 hLyH hOy
    go_wp2_with (fail)
    go_at_call 24
    generalize hw5 : w3.setCell ⟨w2.heap.size, 1, none⟩ (.slice ya yl yc) = w5 at *
    clear hw5 cT1 fT1
    refine (ilist_any (w.heap.size + 1) st2 l2.out w5 hS5.out.inp).mono ?_
    rintro e w6 ⟨vn, okn, rfl, hLn, hI6, hO6⟩
    have hS6 : Hid (GetS 129 29 w.heap.size (w.heap.size + 1) w2.heap.size (listS st2).2 (.slice ya yl yc) (.slice none 0 0) name false 0 w6) := hS5.out.read hO6 hI6
    have hW6 : Hid (Below w.heap.size w w6) := hW5.out.trans (hO6.below (by omega) (by omega))
    have hY6 : Hid (ListO (w2.heap.size + 1) w6 (.slice ya yl yc) yes) := hY5.out.onl hO6 (by omega)
    have hz6 : w5.heap.size ≤ w6.heap.size := hO6.size
    have l3 : Hid ((listS st2).2.1.length ≤ 1000000) := Nat.le_trans (listS_len st2) l2.out
    have hLnH : Hid (ListR w5.heap.size w6 vn okn (listS st2).1) := hLn
    clear hLn hI6 hO6 hS5 hW5 hY5 l2
    cases h3 : listS st2 with
    | mk on st3 =>
    rw [h3] at hS6 l3 hLnH
    simp only at hS6 l3 hLnH
    have h3H : Hid (listS st2 = (on, st3)) := h3
    have cT2 : w6.cell? ⟨w2.heap.size, 2, none⟩ = some (.slice none 0 0) := hS6.out.cell 2
    have fT2 := hS6.out.froz 2
    clear h3
    rcases hLnH.out with ⟨rfl, rfl, rfl⟩ | ⟨no, rfl, rfl, hOn⟩
    · have hres : Hid (getT s = (Tk.none, 2)) := by unfold Hid getT; rw [h1H.out]; simp only; rw [h2H.out]; simp only; rw [h3H.out]
      have r0 : w6.cell? ⟨w.heap.size, 0, none⟩ = some (.string ⟨#[]⟩) := hS6.out.cellR 0
      have g0 := hS6.out.frozR 0
      have r1 : w6.cell? ⟨w.heap.size, 1, none⟩ = some (.slice none 0 0) := hS6.out.cellR 1
      have g1 := hS6.out.frozR 1
      have r2 : w6.cell? ⟨w.heap.size, 2, none⟩ = some (.slice none 0 0) := hS6.out.cellR 2
      have g2 := hS6.out.frozR 2
      have r3 : w6.cell? ⟨w.heap.size, 3, none⟩ = some (.bool false) := hS6.out.cellR 3
      have g3 := hS6.out.frozR 3
      have r4 : w6.cell? ⟨w.heap.size, 4, none⟩ = some (.float .f64 0) := hS6.out.cellR 4
      have g4 := hS6.out.frozR 4
      have hS7 : Hid (GetS 129 29 w.heap.size (w.heap.size + 1) w2.heap.size st3 (.slice ya yl yc) (.slice none 0 0) name false 0 (w6.setCell ⟨w2.heap.size, 2, none⟩ (.slice none 0 0))) := hS6.out.store (by omega) rfl
      have hW7 : Hid (Below w.heap.size w (w6.setCell ⟨w2.heap.size, 2, none⟩ (.slice none 0 0))) := hW6.out.setCell (by show w.heap.size ≤ w2.heap.size; omega) _
      clear hS6 hW6 hLnH
      go_wp2_with (fail)
      refine bodyPost_ret (res_row2 rfl _ _ w.heap.size 29 _ (0, 0) _ rfl (row5 hS7.out.res) Tryz.underlying29 rfl (by kernel_rfl)) rfl ?_
      exact ⟨_, by rw [hres.out]; rfl, by rw [hres.out]; exact tk_none _, below5 hW7.out (Nat.le_refl _)⟩
    · obtain ⟨na, nl, nc, rfl⟩ : ∃ a l c, vn = .slice a l c := hOn.slice
      have hS7 : Hid (GetS 129 29 w.heap.size (w.heap.size + 1) w2.heap.size st3 (.slice ya yl yc) (.slice na nl nc) name false 0 (w6.setCell ⟨w2.heap.size, 2, none⟩ (.slice na nl nc))) := hS6.out.store (by omega) rfl
      have hW7 : Hid (Below w.heap.size w (w6.setCell ⟨w2.heap.size, 2, none⟩ (.slice na nl nc))) := hW6.out.setCell (by show w.heap.size ≤ w2.heap.size; omega) _
      have hY7 : Hid (ListO (w2.heap.size + 1) (w6.setCell ⟨w2.heap.size, 2, none⟩ (.slice na nl nc)) (.slice ya yl yc) yes) := hY6.out.onl ((Onl.refl w2.heap.size w6).setCell rfl _) (by omega)
      have hN7 : Hid (ListO (w2.heap.size + 1) (w6.setCell ⟨w2.heap.size, 2, none⟩ (.slice na nl nc)) (.slice na nl nc) no) := (hOn.base (by omega)).onl ((Onl.refl w2.heap.size w6).setCell rfl _) (by omega)
      have hz7 : (w6.setCell ⟨w2.heap.size, 2, none⟩ (.slice na nl nc)).heap.size = w6.heap.size := by simp
      clear hS6 hW6 hLnH hOn hY6
      go_wp2_with (fail)
      go_at_call 25
      generalize hw7 : w6.setCell ⟨w2.heap.size, 2, none⟩ (.slice na nl nc) = w7 at *
      clear hw7 cT2 fT2
      refine (ibool_any (w.heap.size + 1) st3 w7 hS7.out.inp).mono ?_
      rintro e w8 ⟨rfl, hI8, hO8⟩
      have hS8 : Hid (GetS 129 29 w.heap.size (w.heap.size + 1) w2.heap.size (boolS st3).2 (.slice ya yl yc) (.slice na nl nc) name false 0 w8) := hS7.out.read hO8 hI8
      have hW8 : Hid (Below w.heap.size w w8) := hW7.out.trans (hO8.below (by omega) (by omega))
      have hY8 : Hid (ListO (w2.heap.size + 1) w8 (.slice ya yl yc) yes) := hY7.out.onl hO8 (by omega)
      have hN8 : Hid (ListO (w2.heap.size + 1) w8 (.slice na nl nc) no) := hN7.out.onl hO8 (by omega)
      have hz8 : w7.heap.size ≤ w8.heap.size := hO8.size
      have l4 : Hid ((boolS st3).2.1.length ≤ 1000000) := Nat.le_trans (boolS_len st3) l3.out
      clear hI8 hO8 hS7 hW7 hY7 hN7 l3
      cases h4 : boolS st3 with
      | mk b st4 =>
      rw [h4] at hS8 l4
      simp only at hS8 l4
      have h4H : Hid (boolS st3 = (b, st4)) := h4
      clear h4
      have cT3 : w8.cell? ⟨w2.heap.size, 3, none⟩ = some (.bool false) := hS8.out.cell 3
      have fT3 := hS8.out.froz 3
      have hS9 : Hid (GetS 129 29 w.heap.size (w.heap.size + 1) w2.heap.size st4 (.slice ya yl yc) (.slice na nl nc) name b 0 (w8.setCell ⟨w2.heap.size, 3, none⟩ (.bool b))) := hS8.out.store (by omega) rfl
      have hW9 : Hid (Below w.heap.size w (w8.setCell ⟨w2.heap.size, 3, none⟩ (.bool b))) := hW8.out.setCell (by show w.heap.size ≤ w2.heap.size; omega) _
      have hY9 : Hid (ListO (w2.heap.size + 1) (w8.setCell ⟨w2.heap.size, 3, none⟩ (.bool b)) (.slice ya yl yc) yes) := hY8.out.onl ((Onl.refl w2.heap.size w8).setCell rfl _) (by omega)
      have hN9 : Hid (ListO (w2.heap.size + 1) (w8.setCell ⟨w2.heap.size, 3, none⟩ (.bool b)) (.slice na nl nc) no) := hN8.out.onl ((Onl.refl w2.heap.size w8).setCell rfl _) (by omega)
      have hz9 : (w8.setCell ⟨w2.heap.size, 3, none⟩ (.bool b)).heap.size = w8.heap.size := by simp
      clear hS8 hW8 hY8 hN8
      go_wp2_with (fail)
      go_at_call 23
      generalize hw9 : w8.setCell ⟨w2.heap.size, 3, none⟩ (.bool b) = w9 at *
      clear hw9 cT3 fT3
      refine (itext_any (w.heap.size + 1) st4 l4.out w9 hS9.out.inp).mono ?_
      rintro e wa ⟨rfl, hIa, hOa⟩
      have hSa : Hid (GetS 129 29 w.heap.size (w.heap.size + 1) w2.heap.size (textS st4).2 (.slice ya yl yc) (.slice na nl nc) name b 0 wa) := hS9.out.read hOa hIa
      have hWa : Hid (Below w.heap.size w wa) := hW9.out.trans (hOa.below (by omega) (by omega))
      have hYa : Hid (ListO (w2.heap.size + 1) wa (.slice ya yl yc) yes) := hY9.out.onl hOa (by omega)
      have hNa : Hid (ListO (w2.heap.size + 1) wa (.slice na nl nc) no) := hN9.out.onl hOa (by omega)
      have hza : w9.heap.size ≤ wa.heap.size := hOa.size
      clear hIa hOa hS9 hW9 hY9 hN9 l4
      cases h5 : textS st4 with
      | mk m st5 =>
      rw [h5] at hSa
      simp only at hSa
      have h5H : Hid (textS st4 = (m, st5)) := h5
      clear h5
      go_wp2_with (fail)
      go_at_call 26
      refine (hmg.out m _).mono ?_
      rintro e wb ⟨rfl, rfl⟩
      rw [getE_M]
      have cT4 : wa.cell? ⟨w2.heap.size, 4, none⟩ = some (.float .f64 0) := hSa.out.cell 4
      have fT4 := hSa.out.froz 4
      have hgm : Hid (getM m = getM m) := rfl
      have hwtM : Hid ((getM m).1 < 18446744073709551616) := getM_lt m
      obtain ⟨x, hx⟩ : ∃ x, (getM m).1 = x := ⟨_, rfl⟩
      obtain ⟨y, hy⟩ : ∃ y, (getM m).2 = y := ⟨_, rfl⟩
      have hgmH : Hid (getM m = (x, y)) := by unfold Hid; rw [← hx, ← hy]
      rw [hx] at hwtM
      simp only [hx, hy]
      clear hgm hx hy
      have hSb : Hid (GetS 129 29 w.heap.size (w.heap.size + 1) w2.heap.size st5 (.slice ya yl yc) (.slice na nl nc) name b x (wa.setCell ⟨w2.heap.size, 4, none⟩ (.float .f64 x))) := hSa.out.store (by omega) rfl
      have hWb : Hid (Below w.heap.size w (wa.setCell ⟨w2.heap.size, 4, none⟩ (.float .f64 x))) := hWa.out.setCell (by show w.heap.size ≤ w2.heap.size; omega) _
      have hYb : Hid (ListO (w2.heap.size + 1) (wa.setCell ⟨w2.heap.size, 4, none⟩ (.float .f64 x)) (.slice ya yl yc) yes) := hYa.out.onl ((Onl.refl w2.heap.size wa).setCell rfl _) (by omega)
      have hNb : Hid (ListO (w2.heap.size + 1) (wa.setCell ⟨w2.heap.size, 4, none⟩ (.float .f64 x)) (.slice na nl nc) no) := hNa.out.onl ((Onl.refl w2.heap.size wa).setCell rfl _) (by omega)
      have hzb : (wa.setCell ⟨w2.heap.size, 4, none⟩ (.float .f64 x)).heap.size = wa.heap.size := by simp
      clear hSa hWa hYa hNa
      go_wp2_with (fail)
      go_at_call 27
      generalize hwb : wa.setCell ⟨w2.heap.size, 4, none⟩ (.float .f64 x) = wb at *
      clear hwb cT4 fT4
      refine (ierr_any (w.heap.size + 1) st5 wb hSb.out.inp).mono ?_
      rintro e wc ⟨rfl, rfl⟩
      have r0 : wc.cell? ⟨w.heap.size, 0, none⟩ = some (.string ⟨#[]⟩) := hSb.out.cellR 0
      have g0 := hSb.out.frozR 0
      have r1 : wc.cell? ⟨w.heap.size, 1, none⟩ = some (.slice none 0 0) := hSb.out.cellR 1
      have g1 := hSb.out.frozR 1
      have r2 : wc.cell? ⟨w.heap.size, 2, none⟩ = some (.slice none 0 0) := hSb.out.cellR 2
      have g2 := hSb.out.frozR 2
      have r3 : wc.cell? ⟨w.heap.size, 3, none⟩ = some (.bool false) := hSb.out.cellR 3
      have g3 := hSb.out.frozR 3
      have r4 : wc.cell? ⟨w.heap.size, 4, none⟩ = some (.float .f64 0) := hSb.out.cellR 4
      have g4 := hSb.out.frozR 4
      by_cases he5 : st5.2 = 0
      · have he5i : ((st5.2 : Int) != 0) = false := by rw [ne0_nat]; simp [he5]
        have he5H : Hid (st5.2 = 0) := he5
        by_cases hy0 : y = 0
        · have hyi : ((y : Int) != 0) = false := by rw [ne0_nat]; simp [hy0]
          have hy0H : Hid (y = 0) := hy0
          -- how long all is
          have q5 := put_text (st := st4) (by rw [h5H.out]; exact he5)
          rw [h5H.out] at q5
          have z4 : st4.2 = 0 := by rw [q5.1]
          have q4 := put_bool (st := st3) (by rw [h4H.out]; exact z4)
          rw [h4H.out] at q4
          have z3 : st3.2 = 0 := by rw [q4]
          have q3 := put_list (st := st2) (l := no) (by rw [h3H.out]) (by rw [h3H.out]; exact z3)
          rw [h3H.out] at q3
          have z2 : st2.2 = 0 := by rw [q3.1]
          have q2 := put_list (st := st1) (l := yes) (by rw [h2H.out]) (by rw [h2H.out]; exact z2)
          rw [h2H.out] at q2
          have z1 : st1.2 = 0 := by rw [q2.1]
          have q1 := put_text (st := (s, 0)) (by rw [h1H.out]; exact z1)
          rw [h1H.out] at q1
          have hok : Hid (Tk.ok ⟨name, yes, no, b, x⟩) := ⟨Nat.le_trans q1.2 (by omega), ⟨Nat.le_trans q2.2.1 (by omega), fun ts hts => Nat.le_trans (q2.2.2 ts hts) (by omega)⟩, ⟨Nat.le_trans q3.2.1 (by omega), fun ts hts => Nat.le_trans (q3.2.2 ts hts) (by omega)⟩⟩
          have hTv : Hid (TkV wc (.agg #[.string (bs name), .slice ya yl yc, .slice na nl nc, .bool b, .float .f64 x]) ⟨name, yes, no, b, x⟩) := ⟨⟨_, _, rfl, hYb.out.lists, hNb.out.lists⟩, hwtM.out⟩
          have u0 : wc.cell? ⟨w2.heap.size, 0, none⟩ = some (.string (bs name)) := hSb.out.cell 0
          have u1 : wc.cell? ⟨w2.heap.size, 1, none⟩ = some (.slice ya yl yc) := hSb.out.cell 1
          have u2 : wc.cell? ⟨w2.heap.size, 2, none⟩ = some (.slice na nl nc) := hSb.out.cell 2
          have u3 : wc.cell? ⟨w2.heap.size, 3, none⟩ = some (.bool b) := hSb.out.cell 3
          have u4 : wc.cell? ⟨w2.heap.size, 4, none⟩ = some (.float .f64 x) := hSb.out.cell 4
          clear q5 z4 q4 z3 q3 z2 q2 z1 q1 hy0 he5 r0 r1 r2 r3 r4 g0 g1 g2 g3 g4
          go_wp2_with (fail)
          go_at_call 9
          refine (tgood_any _ _ hok.out wc hTv.out).mono ?_
          rintro e wd ⟨rfl, hBd⟩
          have hSd : Hid (GetS 129 29 w.heap.size (w.heap.size + 1) w2.heap.size st5 (.slice ya yl yc) (.slice na nl nc) name b x wd) := hSb.out.below hBd
          have hWd : Hid (Below w.heap.size w wd) := hWb.out.trans (hBd.mono (by omega))
          have hTd : Hid (TkV wd (.agg #[.string (bs name), .slice ya yl yc, .slice na nl nc, .bool b, .float .f64 x]) ⟨name, yes, no, b, x⟩) := hTv.out.keep hBd
          have hzd : wc.heap.size ≤ wd.heap.size := hBd.size
          have hYd : Hid (ListO (w2.heap.size + 1) wd (.slice ya yl yc) yes) := hYb.out.below hBd
          have hNd : Hid (ListO (w2.heap.size + 1) wd (.slice na nl nc) no) := hNb.out.below hBd
          clear hBd hSb hWb hTv u0 u1 u2 u3 u4 hYb hNb
          have r0 : wd.cell? ⟨w.heap.size, 0, none⟩ = some (.string ⟨#[]⟩) := hSd.out.cellR 0
          have g0 := hSd.out.frozR 0
          have r1 : wd.cell? ⟨w.heap.size, 1, none⟩ = some (.slice none 0 0) := hSd.out.cellR 1
          have g1 := hSd.out.frozR 1
          have r2 : wd.cell? ⟨w.heap.size, 2, none⟩ = some (.slice none 0 0) := hSd.out.cellR 2
          have g2 := hSd.out.frozR 2
          have r3 : wd.cell? ⟨w.heap.size, 3, none⟩ = some (.bool false) := hSd.out.cellR 3
          have g3 := hSd.out.frozR 3
          have r4 : wd.cell? ⟨w.heap.size, 4, none⟩ = some (.float .f64 0) := hSd.out.cellR 4
          have g4 := hSd.out.frozR 4
          cases hg : goodT ⟨name, yes, no, b, x⟩ with
          | false =>
            have hres : Hid (getT s = (Tk.none, 2)) := by unfold Hid getT; rw [h1H.out]; simp only; rw [h2H.out]; simp only; rw [h3H.out]; simp only; rw [h4H.out]; simp only; rw [h5H.out]; simp only; rw [hgmH.out]; simp only; rw [if_neg (by simp [he5H.out]), if_pos (.inr hg)]
            clear hg
            go_wp2_with (fail)
            refine bodyPost_ret (res_row2 rfl _ _ w.heap.size 29 _ (0, 0) _ rfl (row5 hSd.out.res) Tryz.underlying29 rfl (by kernel_rfl)) rfl ?_
            exact ⟨_, by rw [hres.out]; rfl, by rw [hres.out]; exact tk_none _, below5 hWd.out (Nat.le_refl _)⟩
          | true =>
            have hend : Hid (endE st5 = if st5.1 ≠ [] then 4 else 0) := by unfold Hid endE; rw [if_neg (by simp [he5H.out])]
            have hiend : Hid (Calls Tryz.prog 28 #[.pointer (some ⟨w.heap.size + 1, 0, none⟩)] wd fun e w' => e = .returned (.int .i64 (endE st5 : Nat)) ∧ w' = wd) := iend_any (w.heap.size + 1) st5 wd hSd.out.inp
            by_cases hn : st5.1 = []
            · have hres : Hid (getT s = (⟨name, yes, no, b, x⟩, 0)) := by unfold Hid getT; rw [h1H.out]; simp only; rw [h2H.out]; simp only; rw [h3H.out]; simp only; rw [h4H.out]; simp only; rw [h5H.out]; simp only; rw [hgmH.out]; simp only; rw [if_neg (by simp [he5H.out]), if_neg (by rw [hg]; simp [hy0H.out]), if_neg (by simp [hn])]
              rw [hend.out, if_neg (by simp [hn])] at hiend
              have u0 : wd.cell? ⟨w2.heap.size, 0, none⟩ = some (.string (bs name)) := hSd.out.cell 0
              have u1 : wd.cell? ⟨w2.heap.size, 1, none⟩ = some (.slice ya yl yc) := hSd.out.cell 1
              have u2 : wd.cell? ⟨w2.heap.size, 2, none⟩ = some (.slice na nl nc) := hSd.out.cell 2
              have u3 : wd.cell? ⟨w2.heap.size, 3, none⟩ = some (.bool b) := hSd.out.cell 3
              have u4 : wd.cell? ⟨w2.heap.size, 4, none⟩ = some (.float .f64 x) := hSd.out.cell 4
              clear hg hn hend
              go_wp2_with (fail)
              go_at_call 28
              refine hiend.out.mono ?_
              rintro e we ⟨rfl, rfl⟩
              go_wp2_with (fail)
              refine bodyPost_ret (res_row2 rfl _ _ w.heap.size 29 _ (0, 0) _ rfl (row5 hSd.out.res) Tryz.underlying29 rfl (by kernel_rfl)) rfl ?_
              exact ⟨_, by rw [hres.out]; rfl, by rw [hres.out]; exact ⟨⟨_, _, rfl, (hYd.out.onl onl5 (by omega)).lists, (hNd.out.onl onl5 (by omega)).lists⟩, hwtM.out⟩, below5 hWd.out (Nat.le_refl _)⟩
            · have hres : Hid (getT s = (Tk.none, 4)) := by unfold Hid getT; rw [h1H.out]; simp only; rw [h2H.out]; simp only; rw [h3H.out]; simp only; rw [h4H.out]; simp only; rw [h5H.out]; simp only; rw [hgmH.out]; simp only; rw [if_neg (by simp [he5H.out]), if_neg (by rw [hg]; simp [hy0H.out]), if_pos hn]
              rw [hend.out, if_pos hn] at hiend
              clear hg hn hend
              go_wp2_with (fail)
              go_at_call 28
              refine hiend.out.mono ?_
              rintro e we ⟨rfl, rfl⟩
              go_wp2_with (fail)
              refine bodyPost_ret (res_row2 rfl _ _ w.heap.size 29 _ (0, 0) _ rfl (row5 hSd.out.res) Tryz.underlying29 rfl (by kernel_rfl)) rfl ?_
              exact ⟨_, by rw [hres.out]; rfl, by rw [hres.out]; exact tk_none _, below5 hWd.out (Nat.le_refl _)⟩
        · have hyi : ((y : Int) != 0) = true := by rw [ne0_nat]; simp [hy0]
          have hres : Hid (getT s = (Tk.none, 2)) := by unfold Hid getT; rw [h1H.out]; simp only; rw [h2H.out]; simp only; rw [h3H.out]; simp only; rw [h4H.out]; simp only; rw [h5H.out]; simp only; rw [hgmH.out]; simp only; rw [if_neg (by simp [he5]), if_pos (.inl hy0)]
          clear hy0 he5
          go_wp2_with (fail)
          refine bodyPost_ret (res_row2 rfl _ _ w.heap.size 29 _ (0, 0) _ rfl (row5 hSb.out.res) Tryz.underlying29 rfl (by kernel_rfl)) rfl ?_
          exact ⟨_, by rw [hres.out]; rfl, by rw [hres.out]; exact tk_none _, below5 hWb.out (Nat.le_refl _)⟩
      · have he5i : ((st5.2 : Int) != 0) = true := by rw [ne0_nat]; simp [he5]
        have hres : Hid (getT s = (Tk.none, st5.2)) := by unfold Hid getT; rw [h1H.out]; simp only; rw [h2H.out]; simp only; rw [h3H.out]; simp only; rw [h4H.out]; simp only; rw [h5H.out]; simp only; rw [hgmH.out]; simp only; rw [if_pos he5]
        clear he5
        go_wp2_with (fail)
        refine bodyPost_ret (res_row2 rfl _ _ w.heap.size 29 _ (0, 0) _ rfl (row5 hSb.out.res) Tryz.underlying29 rfl (by kernel_rfl)) rfl ?_
        exact ⟨_, by rw [hres.out]; rfl, by rw [hres.out]; exact tk_none _, below5 hWb.out (Nat.le_refl _)⟩
end Go.Proofs.YtcdcchkaohnkdaaGreatDoor
