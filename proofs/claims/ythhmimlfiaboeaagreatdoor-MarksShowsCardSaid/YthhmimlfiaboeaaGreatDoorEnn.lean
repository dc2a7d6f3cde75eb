/- The environment that FormatFloat and ParseFloat ask for, out of the listed tables. -/
import Derived.Test.YthhmimlfiaboeaaGreatDoorSpk
import Derived.Test.YthhmimlfiaboeaaGreatDoorSpc
import Derived.Test.YthhmimlfiaboeaaGreatDoorDig
namespace Go.Proofs.YthhmimlfiaboeaaGreatDoor
open Go.Ev Go.RowKit Go.Lib Go.WideShapes

theorem flat2 {α β : Type} (f g : α → β) : ∀ (l : List α) (i : Nat), (l.flatMap fun x => [f x, g x])[i * 2]? = l[i]?.map f ∧ (l.flatMap fun x => [f x, g x])[i * 2 + 1]? = l[i]?.map g
  | [], i => by simp
  | x :: l, 0 => by simp
  | x :: l, i + 1 => by
    have h := flat2 f g l i
    rw [show (i + 1) * 2 = (i * 2) + 1 + 1 from by omega, show (i * 2) + 1 + 1 + 1 = (i * 2 + 1) + 1 + 1 from by omega]
    simp only [List.flatMap_cons, List.cons_append, List.nil_append, List.getElem?_cons_succ]
    exact h

set_option maxRecDepth 100000 in
theorem rows_len : Go.Pinned.pow10Rows.length = 696 := by kernel_rfl
set_option maxRecDepth 100000 in
theorem rows_all : (Go.Pinned.pow10Rows.all fun x => Nat.blt x.1 18446744073709551616 && Nat.blt x.2 18446744073709551616) = true := by kernel_rfl
theorem rows_lt (i : Nat) : Us.tHi i < 18446744073709551616 ∧ Us.tLo i < 18446744073709551616 := by
  unfold Us.tHi Us.tLo
  rcases Nat.lt_or_ge i Go.Pinned.pow10Rows.length with h | h
  · have h1 := List.all_eq_true.1 rows_all Go.Pinned.pow10Rows[i] (List.getElem_mem h)
    rw [Bool.and_eq_true] at h1
    rw [List.getD, List.getElem?_eq_getElem h]
    exact ⟨Nat.le_of_ble_eq_true h1.1, Nat.le_of_ble_eq_true h1.2⟩
  · rw [List.getD, List.getElem?_eq_none h]
    exact ⟨by decide, by decide⟩
set_option maxRecDepth 100000 in
theorem cellsP_rows : cellsAs Tryz.prog 5 134 Rows.laid_internal_strconv_pow10Tab = some (Go.Pinned.pow10Rows.flatMap fun x => [.int .u64 (x.1 : Nat), .int .u64 (x.2 : Nat)]) := by kernel_rfl
theorem tab_at {w : World} (h : laidMet Tryz.prog laidAll w) : TabAt Us.tHi Us.tLo w.heap.size w := by
  have cell : ∀ o u, (Go.Pinned.pow10Rows.flatMap fun x => [Value.int .u64 (x.1 : Nat), .int .u64 (x.2 : Nat)])[o]? = some u → w.cell? ⟨7, o, none⟩ = some u := fun o u ho =>
    laid_cell h (name := "internal/strconv.pow10Tab") (by simp [laidAll]) (g := 7) (t := 134) (by kernel_rfl) (by kernel_rfl) cellsP_rows o u ho
  have row : ∀ i, i < 696 → Go.Pinned.pow10Rows[i]? = some (Go.Pinned.pow10Rows.getD i (0, 0)) := fun i hi => by
    rw [List.getD, List.getElem?_eq_getElem (by rw [rows_len]; exact hi)]; rfl
  have hi : ∀ i, i < 696 → w.cell? ⟨7, i * 2, none⟩ = some (.int .u64 (Us.tHi i : Nat)) := fun i hi => cell _ _ (by rw [(flat2 _ _ _ i).1, row i hi]; rfl)
  have lo : ∀ i, i < 696 → w.cell? ⟨7, i * 2 + 1, none⟩ = some (.int .u64 (Us.tLo i : Nat)) := fun i hi => cell _ _ (by rw [(flat2 _ _ _ i).2, row i hi]; rfl)
  exact ⟨fun i h => ⟨hi i h, (rows_lt i).1⟩, fun i h => ⟨lo i h, (rows_lt i).2⟩, block_of_cell (hi 0 (by omega))⟩

theorem flt_at {w : World} (h : laidMet Tryz.prog laidAll w) : FltAt w.heap.size w := by
  have cell : ∀ o u, [Value.int .u64 52, .int .u64 11, .int .i64 (-1023)][o]? = some u → w.cell? ⟨6, o, none⟩ = some u := fun o u ho =>
    laid_cell h (name := "internal/strconv.float64info") (d := Rows.laid_internal_strconv_float64info) (by simp [laidAll]) (g := 6) (t := 112) (by kernel_rfl) (by kernel_rfl) (n := 3) (by kernel_rfl) o u ho
  exact ⟨cell 0 _ rfl, block_of_cell (cell 0 _ rfl)⟩

theorem trod_float_is {H : Type} {enc : TypeId × Value → H} {P : Program} {w : World} {base : Nat} {sp : Nat → Bool} {held : Bool} {fuel : Nat} {t : TypeId} {cs : List Value} {x : DataW H × List MemPlace} {k : FloatKind} (ht : P.underlying t = some (.float k)) (h : DataW.trod enc P w base sp held fuel t cs = some x) : ∃ b, cs = [.float k b] ∧ x.1 = .lit (.float k b) := by
  cases fuel with
  | zero => simp [DataW.trod] at h
  | succ n =>
    unfold DataW.trod at h
    rw [ht] at h
    split at h <;> simp_all
    rw [← h.2]
/-- The powers of ten as floats. -/
theorem p10_at {w : World} (h : laidMet Tryz.prog laidAll w) : P10At w.heap.size w := by
  have hds : (Rows.laid_internal_strconv_float64pow10 : DataW Unit) = .slice (Us.w10.map fun z => .lit (.float .f64 z)) [] := rfl
  obtain ⟨a, cap, h1, h2⟩ := slice_reads h (name := "internal/strconv.float64pow10") (d0 := Rows.laid_internal_strconv_float64pow10) (by simp [laidAll]) hds (g := 11) (t := 35) (e := 24) (c := 1) (by kernel_rfl) (by kernel_rfl) (by kernel_rfl) (by kernel_rfl)
  have hl : Us.w10.length = 23 := rfl
  have cell : ∀ i, i < 23 → w.cell? (a.add i) = some (.float .f64 (Us.w10.getD i 0)) := by
    intro i hi
    obtain ⟨ce, m, q, k1, k2, k3⟩ := h2 i (.lit (.float .f64 (Us.w10.getD i 0))) (by rw [List.getElem?_map, List.getD, List.getElem?_eq_getElem (by omega)]; rfl)
    obtain ⟨n, rfl, hx⟩ := trod_float_is (show Tryz.prog.underlying 24 = some (.float .f64) by kernel_rfl) k3
    have := k2 0 (by omega)
    rw [Nat.mul_one, Nat.add_zero] at this
    rw [this]
    simp only [DataW.lit.injEq, Lit.float.injEq, true_and] at hx
    rw [hx]; rfl
  have ha := plain_of (cell 0 (by omega))
  have c0 : ∀ i, i < 23 → w.cell? ⟨a.block, a.off + i, none⟩ = some (.float .f64 (Us.w10.getD i 0)) := fun i hi => by
    have := cell i hi
    rw [ha, Lib.add_plain] at this
    exact this
  have c1 : w.cell? ⟨11, 0, none⟩ = some (.slice (some ⟨a.block, a.off, none⟩) 23 cap) := by rw [h1, ← ha, List.length_map, hl]
  exact ⟨a.block, a.off, cap, c1, block_of_cell (c0 0 (by omega)), block_of_cell c1, c0⟩

theorem env_at {w : World} (h : laidMet Tryz.prog laidAll w) : Env w.heap.size w :=
  ⟨flt_at h, tab_at h, p10_at h, laid_opt h, block_of_cell (laid_opt h), Nat.le_refl _⟩

set_option maxRecDepth 100000 in
theorem cellsU_rows : cellsAs Tryz.prog 5 100 Rows.laid_internal_strconv_uint64pow10 = some (Lib.pow10Tab.map fun z => Value.int .u64 z) := by kernel_rfl
/-- The powers of ten below 2^64, as numDigits reads them. -/
theorem u10_at {w : World} (h : laidMet Tryz.prog laidAll w) : TabIs Tryz.prog w "internal/strconv.uint64pow10" .u64 Lib.pow10Tab := by
  obtain ⟨g', t', cs, fuel, p, h1, h2, h3, h4⟩ := Lib.laidMet.reads h (n := "internal/strconv.uint64pow10") (d := Rows.laid_internal_strconv_uint64pow10) (by simp [laidAll])
  obtain rfl := Option.some.inj ((show Tryz.prog.globalNamed "internal/strconv.uint64pow10" = some 4 by kernel_rfl).symm.trans h1)
  obtain rfl := Option.some.inj ((show (Tryz.prog.globals[4]?).map (·.type) = some 100 by kernel_rfl).symm.trans h2)
  have h5 := cells_of_trod 5 fuel _ cs.toList _ _ h4 cellsU_rows
  unfold TabIs
  rw [h3, ← h5]

/-! ## Closed runs: the special texts -/
theorem run_unbits (n : Nat) (w : World) : (callFunc 84 #[.int .u64 (n : Int)]).run Tryz.prog w = .ok (.value (.float .f64 n)) w := by kernel_rfl
def extFn3 (f : FuncId) : Option (List Value → Option Value) :=
  match Nat.beq f 84 with
  | true => some xFloat
  | false => extFn2 f
def ext3 : Ext := { fn := extFn3, clone := ext.clone, same := ext.same }
theorem ext3_ok : ExtOk Tryz.prog ext3 where
  fn := fun f h args v hf hv => by
    have hf' : extFn3 f = some h := hf
    unfold extFn3 at hf'
    split at hf'
    · rename_i hb
      cases hf'
      obtain rfl := Nat.eq_of_beq_eq_true hb
      obtain ⟨n, rfl, rfl⟩ := xFloat_inv hv
      exact ⟨rfl, fun w => run_unbits n w⟩
    · exact ext2_ok.fn f h args v hf' hv
  spec := fun f args st v st' h => by cases h
  clone := ext_ok.clone
  same := ext_ok.same

noncomputable def glob3 : Glob := fun b o =>
  match Nat.beq b 6 with
  | true => [Value.int .u64 52, .int .u64 11, .int .i64 (-1023)][o]?
  | false => glob b o
theorem glob3_ok {w : World} (hL : laidMet Tryz.prog laidAll w) : ∀ b o u, glob3 b o = some u → b < w.heap.size ∧ b < 100 ∧ w.cell? ⟨b, o, none⟩ = some u ∧ flat u = true := by
  intro b o u h
  unfold glob3 at h
  split at h
  · rename_i hb
    obtain rfl := Nat.eq_of_beq_eq_true hb
    have hc : w.cell? ⟨6, o, none⟩ = some u :=
      laid_cell hL (name := "internal/strconv.float64info") (d := Rows.laid_internal_strconv_float64info) (by simp [laidAll]) (g := 6) (t := 112) (by kernel_rfl) (by kernel_rfl) (n := 3) (by kernel_rfl) o u h
    refine ⟨block_of_cell hc, by decide, hc, ?_⟩
    match o, h with
    | 0, h => cases h; rfl
    | 1, h => cases h; rfl
    | 2, h => cases h; rfl
    | o + 3, h => simp at h
  · exact glob_ok hL b o u h
def isPair (k : Nat) (v : Value) : Bool :=
  match v with
  | .tuple vs =>
    match vs.toList with
    | [.float .f64 n, .nilIface] => Nat.beq n k
    | _ => false
  | _ => false
theorem isPair_is {k : Nat} {v : Value} (h : isPair k v = true) : v = .tuple #[.float .f64 k, .nilIface] := by
  unfold isPair at h
  split at h
  · rename_i vs
    split at h
    · rename_i n hl
      obtain rfl := Nat.eq_of_beq_eq_true h
      obtain ⟨l⟩ := vs
      simp only at hl
      rw [hl]
    · cases h
  · cases h
/-- A call of ParseFloat, run. -/
noncomputable def parseRun (s : ByteArray) (k : Nat) : Bool :=
  match evalCall Tryz.prog 100 glob3 ext3 100000 60 (.fn 18) [.string s, .int .i64 64] ⟨.nil, .nil, 100⟩ with
  | some (v, _) => isPair k v
  | none => false
/-- The listed tables are where the text lays them. -/
def GlobAt (N : Nat) (w : World) : Prop := ∀ b o u, glob3 b o = some u → b < N ∧ b < 100 ∧ w.cell? ⟨b, o, none⟩ = some u ∧ flat u = true
theorem GlobAt.keep {N : Nat} {w w' : World} (h : GlobAt N w) (hb : Below N w w') : GlobAt N w' := fun b o u hg => by
  obtain ⟨h1, h2, h3, h4⟩ := h b o u hg
  exact ⟨h1, h2, (hb.cell (by exact h1)).trans h3, h4⟩
theorem parse_run {N : Nat} {w : World} (h : GlobAt N w) (hN : N ≤ w.heap.size) {s : ByteArray} {k : Nat} (hr : parseRun s k = true) : ParSays k 18 #[.string s, .int .i64 64] w := by
  unfold parseRun at hr
  split at hr
  · rename_i v st' he
    obtain rfl := isPair_is hr
    exact run_closed mixed ext3_ok he rfl rfl (fun b o u hg => by
      obtain ⟨h1, h2, h3, h4⟩ := h b o u hg
      exact ⟨by omega, h2, h3, h4⟩)
  · cases hr
def tx0 : ByteArray := ⟨⟨[48]⟩⟩
def txI : ByteArray := ⟨⟨[105, 110, 102]⟩⟩
def txM : ByteArray := ⟨⟨[45, 105, 110, 102]⟩⟩
theorem run_inf : parseRun txI 9218868437227405312 = true := by kernel_rfl
theorem run_minf : parseRun txM 18442240474082181120 = true := by kernel_rfl
/-! ## The text of zero -/
theorem tx0_is : TxtIs tx0 (sgl false ++ ([48] ++ xpl none)) := by
  refine ⟨rfl, fun i hi => ?_⟩
  have hi1 : i < 1 := hi
  obtain rfl : i = 0 := by omega
  rfl
set_option maxRecDepth 100000 in
set_option maxHeartbeats 1600000 in
theorem atf_zero (N : Nat) (w : World) (hE : Env N w) : AtfSays tx0 0 49 #[.string tx0] w := by
  have hB : Us.Body [48] := ⟨fun c hc => by rw [List.mem_singleton] at hc; omega, fun j h => by
      match j, h with
      | 0, h => simp at h
      | j + 1, h => simp at h, fun j => by
      match j with
      | 0 => decide
      | j + 1 => rw [List.take_of_length_le (by simp)]; decide, by decide⟩
  have hr := rdf_is tx0 false [48] none w tx0_is hB (by simp) (by decide) (fun ng ds h => by cases h)
  have hrdH := Hid.mk hr
  have hspH := Hid.mk (special_no tx0 false 48 [] w tx0_is (by decide) (by decide) (by decide))
  have em : (Us.rrun [48]).m = 0 := by decide
  have ee : Us.expOf (Us.rrun [48]) (xpv none) = 0 := by decide
  have copt := hE.opt
  have hub : ∀ w, (callFunc 84 #[.int .u64 0]).run Tryz.prog w = .ok (.value (.float .f64 0)) w := run_unbits 0
  have hbb : bits .or .u64 0 0 = 0 := by decide
  rw [em, ee] at hrdH
  clear hE hr hB em ee
  unfold AtfSays
  obtain ⟨s, hs⟩ : ∃ s, tx0 = s := ⟨_, rfl⟩
  rw [hs] at hspH hrdH ⊢
  clear hs
  go_enter Tryz.func49, Tryz.ntmps49
  go_wp2_with (fail)
  go_at_call 74
  refine hspH.out.mono ?_
  rintro e w1 ⟨rfl, rfl⟩
  go_wp2_with (fail)
  go_at_call 75
  refine hrdH.out.mono ?_
  rintro e w1 ⟨rfl, rfl⟩
  go_wp2_with (fail)
  go_at_call 83
  refine (b2u_sg false _).mono ?_
  rintro e w1 ⟨rfl, rfl⟩
  simp only [Bool.false_eq_true, if_false]
  go_wp2_with (fail)
  go_ret3
  exact ⟨rfl, Below.refl _ _⟩
end Go.Proofs.YthhmimlfiaboeaaGreatDoor
