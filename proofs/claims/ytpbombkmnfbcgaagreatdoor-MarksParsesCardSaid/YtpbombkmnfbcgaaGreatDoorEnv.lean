/- The environment that ParseFloat and shortFloat ask for, out of the listed tables. -/
import Derived.Test.YtpbombkmnfbcgaaGreatDoorLay
import Derived.Test.YtpbombkmnfbcgaaGreatDoorDig
import Derived.Test.YtpbombkmnfbcgaaGreatDoorPar
import Derived.ShapedOpen
namespace Go.Proofs.YtpbombkmnfbcgaaGreatDoor
open Go.Ev Go.RowKit Go.Lib

theorem flat2 {α β : Type} (f g : α → β) : ∀ (l : List α) (i : Nat), (l.flatMap fun x => [f x, g x])[i * 2]? = l[i]?.map f ∧ (l.flatMap fun x => [f x, g x])[i * 2 + 1]? = l[i]?.map g
  | [], i => by simp
  | x :: l, 0 => by simp
  | x :: l, i + 1 => by
    have h := flat2 f g l i
    rw [show (i + 1) * 2 = (i * 2) + 1 + 1 from by omega, show (i * 2) + 1 + 1 + 1 = (i * 2 + 1) + 1 + 1 from by omega]
    simp only [List.flatMap_cons, List.cons_append, List.nil_append, List.getElem?_cons_succ]
    exact h

def tHi (i : Nat) : Nat := (Go.Pinned.pow10Rows.getD i (0, 0)).1
def tLo (i : Nat) : Nat := (Go.Pinned.pow10Rows.getD i (0, 0)).2
set_option maxRecDepth 100000 in
theorem rows_len : Go.Pinned.pow10Rows.length = 696 := by kernel_rfl
set_option maxRecDepth 100000 in
theorem rows_all : (Go.Pinned.pow10Rows.all fun x => Nat.blt x.1 18446744073709551616 && Nat.blt x.2 18446744073709551616) = true := by kernel_rfl
theorem rows_lt (i : Nat) : tHi i < 18446744073709551616 ∧ tLo i < 18446744073709551616 := by
  unfold tHi tLo
  rcases Nat.lt_or_ge i Go.Pinned.pow10Rows.length with h | h
  · have h1 := List.all_eq_true.1 rows_all Go.Pinned.pow10Rows[i] (List.getElem_mem h)
    rw [Bool.and_eq_true] at h1
    rw [List.getD, List.getElem?_eq_getElem h]
    exact ⟨Nat.le_of_ble_eq_true h1.1, Nat.le_of_ble_eq_true h1.2⟩
  · rw [List.getD, List.getElem?_eq_none h]
    exact ⟨by decide, by decide⟩
set_option maxRecDepth 100000 in
theorem cellsP_rows : cellsAs Tryz.prog 5 139 Rows.laid_internal_strconv_pow10Tab = some (Go.Pinned.pow10Rows.flatMap fun x => [.int .u64 (x.1 : Nat), .int .u64 (x.2 : Nat)]) := by kernel_rfl
theorem tab_at {w : World} (h : laidMet Tryz.prog laidAll w) : TabAt tHi tLo w.heap.size w := by
  have cell : ∀ o u, (Go.Pinned.pow10Rows.flatMap fun x => [Value.int .u64 (x.1 : Nat), .int .u64 (x.2 : Nat)])[o]? = some u → w.cell? ⟨10, o, none⟩ = some u := fun o u ho =>
    laid_cell h (name := "internal/strconv.pow10Tab") (by simp [laidAll]) (g := 10) (t := 139) (by kernel_rfl) (by kernel_rfl) cellsP_rows o u ho
  have row : ∀ i, i < 696 → Go.Pinned.pow10Rows[i]? = some (Go.Pinned.pow10Rows.getD i (0, 0)) := fun i hi => by
    rw [List.getD, List.getElem?_eq_getElem (by rw [rows_len]; exact hi)]; rfl
  have hi : ∀ i, i < 696 → w.cell? ⟨10, i * 2, none⟩ = some (.int .u64 (tHi i : Nat)) := fun i hi => cell _ _ (by rw [(flat2 _ _ _ i).1, row i hi]; rfl)
  have lo : ∀ i, i < 696 → w.cell? ⟨10, i * 2 + 1, none⟩ = some (.int .u64 (tLo i : Nat)) := fun i hi => cell _ _ (by rw [(flat2 _ _ _ i).2, row i hi]; rfl)
  exact ⟨fun i h => ⟨hi i h, (rows_lt i).1⟩, fun i h => ⟨lo i h, (rows_lt i).2⟩, block_of_cell (hi 0 (by omega))⟩

theorem trod_iface {H : Type} {enc : TypeId × Value → H} {P : Program} {w : World} {base : Nat} {sp : Nat → Bool} {held : Bool} {fuel : Nat} {t : TypeId} {cs : List Value} {x : DataW H × List MemPlace} {ms : Array (String × TypeId)} (ht : P.underlying t = some (.interface ms)) (h : DataW.trod enc P w base sp held fuel t cs = some x) : ∃ v, cs = [v] ∧ Nilish v := by
  cases fuel with
  | zero => simp [DataW.trod] at h
  | succ n =>
    unfold DataW.trod at h
    rw [ht] at h
    split at h <;> simp_all [Nilish]

theorem err_at {w : World} (h : laidMet Tryz.prog laidAll w) {name : String} {d : DataW Unit} (hmem : (name, d) ∈ laidAll) {g : Nat} (hg : Tryz.prog.globalNamed name = some g) (ht : (Tryz.prog.globals[g]?).map (·.type) = some 37) :
    ∃ ev, w.cell? ⟨g, 0, none⟩ = some ev ∧ Nilish ev := by
  obtain ⟨g', t', cs, fuel, p, h1, h2, h3, h4⟩ := Lib.laidMet.reads h hmem
  obtain rfl := Option.some.inj (hg.symm.trans h1)
  obtain rfl := Option.some.inj (ht.symm.trans h2)
  obtain ⟨ms, hms⟩ : ∃ ms, Tryz.prog.underlying 37 = some (.interface ms) := by
    have hk : (match Tryz.prog.underlying 37 with | some (.interface _) => true | _ => false) = true := by kernel_rfl
    split at hk
    · rename_i ms hu; exact ⟨ms, hu⟩
    · cases hk
  obtain ⟨v, hv, hn⟩ := trod_iface hms h4
  refine ⟨v, ?_, hn⟩
  rw [World.var?_cell hg h3 0]
  have : cs[0]? = cs.toList[0]? := by simp
  rw [this, hv]; rfl

theorem flt_at {w : World} (h : laidMet Tryz.prog laidAll w) : FltAt w.heap.size w := by
  have cell : ∀ o u, [Value.int .u64 52, .int .u64 11, .int .i64 (-1023)][o]? = some u → w.cell? ⟨5, o, none⟩ = some u := fun o u ho =>
    laid_cell h (name := "internal/strconv.float64info") (d := Rows.laid_internal_strconv_float64info) (by simp [laidAll]) (g := 5) (t := 93) (by kernel_rfl) (by kernel_rfl) (n := 3) (by kernel_rfl) o u ho
  exact ⟨cell 0 _ rfl, cell 1 _ rfl, cell 2 _ rfl, block_of_cell (cell 0 _ rfl)⟩

theorem row_shape {w : World} (h : w.ShapedOpen Tryz.prog) {g : Nat} (hg : g < Tryz.prog.globals.size) (h0 : (((begin Tryz.prog (fun _ _ => 0) default).world.heap[g]?).bind Obj.row?).isSome = true) : ∃ cs t, w.heap[g]? = some (.cells cs t (0, 0)) := by
  cases hr : ((begin Tryz.prog (fun _ _ => 0) default).world.heap[g]?).bind Obj.row? with
  | none => rw [hr] at h0; cases h0
  | some x =>
    obtain ⟨cs, hh, _⟩ := h.1 g x.1 x.2 hg hr
    exact ⟨cs, x.2, hh⟩
theorem glb_at {w : World} (h : laidMet Tryz.prog laidAll w) (hs : w.ShapedOpen Tryz.prog) : GlbAt w.heap.size w := by
  obtain ⟨c4, t4, h4⟩ := row_shape hs (g := 4) (of_decide_eq_true (by kernel_rfl)) (by kernel_rfl)
  obtain ⟨c5, t5, h5⟩ := row_shape hs (g := 5) (of_decide_eq_true (by kernel_rfl)) (by kernel_rfl)
  exact ⟨flt_at h, ⟨c4, t4, h4⟩, ⟨c5, t5, h5⟩, (Array.getElem?_eq_some_iff.1 h4).1⟩

theorem pow_at {w : World} (h : laidMet Tryz.prog laidAll w) : PowAt w.heap.size w := by
  obtain ⟨pb, off, cap, h1, h2⟩ := laid_powtab h
  refine ⟨pb, off, cap, h1, block_of_cell (h2 0 (by omega)), block_of_cell h1, fun i hi => ?_⟩
  rw [h2 i hi]
  have : ∀ j, j < 9 → ([1, 3, 6, 9, 13, 16, 19, 23, 26] : List Int).getD j 0 = (pw j : Nat) := by decide
  rw [this i hi]

theorem p10_at {w : World} (h : laidMet Tryz.prog laidAll w) : P10At w.heap.size w := by
  obtain ⟨pb, off, cap, h1, h2⟩ := laid_p10 h
  obtain ⟨k, hk⟩ := h2 0 (by omega)
  exact ⟨pb, off, cap, h1, block_of_cell hk, block_of_cell h1, h2⟩

set_option maxRecDepth 100000 in
theorem cheats_same : (Go.Pinned.cheatRows.map fun x => (x.1, x.2)) = chT := by kernel_rfl
theorem cht_at {w : World} (h : laidMet Tryz.prog laidAll w) : CheatsAt w.heap.size w := by
  obtain ⟨pb, off, cap, h1, h2⟩ := laid_cheats h
  have row : ∀ i, i < 61 → Go.Pinned.cheatRows[i]? = some (chD i, chC i) := fun i hi => by
    have e1 : Go.Pinned.cheatRows = chT := by simpa using cheats_same
    unfold chD chC
    rw [← e1, List.getD, List.getElem?_eq_getElem (by rw [cheats_len]; exact hi)]; rfl
  have cell : ∀ i, i < 61 → _ := fun i hi => h2 i hi _ (row i hi)
  exact ⟨pb, off, cap, h1, block_of_cell (cell 0 (by omega)).1, block_of_cell h1, cell⟩

theorem env_at {w : World} (h : laidMet Tryz.prog laidAll w) (hs : w.ShapedOpen Tryz.prog) : Env2 tHi tLo w.heap.size w := by
  obtain ⟨es, hes, hes2⟩ := err_at h (name := "strconv.ErrSyntax") (d := Rows.laid_strconv_ErrSyntax) (by simp [laidAll]) (g := 1) (by kernel_rfl) (by kernel_rfl)
  obtain ⟨er, her, her2⟩ := err_at h (name := "strconv.ErrRange") (d := Rows.laid_strconv_ErrRange) (by simp [laidAll]) (g := 2) (by kernel_rfl) (by kernel_rfl)
  exact ⟨⟨glb_at h hs, pow_at h, cht_at h, tab_at h, p10_at h, laid_opt h, block_of_cell (laid_opt h), Nat.le_refl _⟩, ⟨es, hes, hes2⟩, ⟨er, her, her2⟩, block_of_cell hes, block_of_cell her⟩

set_option maxRecDepth 100000 in
theorem cellsU_rows : cellsAs Tryz.prog 5 123 Rows.laid_internal_strconv_uint64pow10 = some (Lib.pow10Tab.map fun z => Value.int .u64 z) := by kernel_rfl
/-- The powers of ten below 2^64, as numDigits reads them. -/
theorem u10_at {w : World} (h : laidMet Tryz.prog laidAll w) : TabIs Tryz.prog w "internal/strconv.uint64pow10" .u64 Lib.pow10Tab := by
  obtain ⟨g', t', cs, fuel, p, h1, h2, h3, h4⟩ := Lib.laidMet.reads h (n := "internal/strconv.uint64pow10") (d := Rows.laid_internal_strconv_uint64pow10) (by simp [laidAll])
  obtain rfl := Option.some.inj ((show Tryz.prog.globalNamed "internal/strconv.uint64pow10" = some 6 by kernel_rfl).symm.trans h1)
  obtain rfl := Option.some.inj ((show (Tryz.prog.globals[6]?).map (·.type) = some 123 by kernel_rfl).symm.trans h2)
  have h5 := cells_of_trod 5 fuel _ cs.toList _ _ h4 cellsU_rows
  unfold TabIs
  rw [h3, ← h5]
end Go.Proofs.YtpbombkmnfbcgaaGreatDoor
