/- The law's first line: 'speaks' returns true, whatever the memory, where the listed tables lie as the text lays them: a closed run. What the listed tables hold, cell by cell. -/
import Derived.Test.YthhmimlfiaboeaaGreatDoorEvC
import Derived.Test.YthhmimlfiaboeaaGreatDoorExt
import Derived.LaidMore
namespace Go.Proofs.YthhmimlfiaboeaaGreatDoor
open Go.Ev

theorem run_bits2 (n : Nat) (w : World) : (callFunc 34 #[.float .f64 n]).run Tryz.prog w = .ok (.value (.int .u64 n)) w := by kernel_rfl
def extFn2 (f : FuncId) : Option (List Value → Option Value) :=
  match Nat.beq f 34 with
  | true => some xBits
  | false => extFn f
def ext2 : Ext := { fn := extFn2, clone := ext.clone, same := ext.same }
theorem ext2_ok : ExtOk Tryz.prog ext2 where
  fn := fun f h args v hf hv => by
    have hf' : extFn2 f = some h := hf
    unfold extFn2 at hf'
    split at hf'
    · rename_i hb
      cases hf'
      obtain rfl := Nat.eq_of_beq_eq_true hb
      obtain ⟨n, rfl, rfl⟩ := xBits_inv hv
      exact ⟨rfl, fun w => run_bits2 n w⟩
    · exact ext_ok.fn f h args v hf' hv
  spec := fun f args st v st' h => by cases h
  clone := ext_ok.clone
  same := ext_ok.same

/-! ## The tables -/
noncomputable def cellsU : List Value := (cellsAs Tryz.prog 5 100 Rows.laid_internal_strconv_uint64pow10).getD []
noncomputable def cellsP : List Value := (cellsAs Tryz.prog 5 134 Rows.laid_internal_strconv_pow10Tab).getD []
noncomputable def tabU : T Value := T.lay .nil 0 cellsU
noncomputable def tabP : T Value := T.lay .nil 0 cellsP

noncomputable def glob : Glob := fun b o =>
  match b with
  | 1 => if o = 0 then some (.bool true) else none
  | 4 => tabU.get o
  | 7 => tabP.get o
  | _ => none

theorem cellsU_is : cellsAs Tryz.prog 5 100 Rows.laid_internal_strconv_uint64pow10 = some cellsU := by
  have h : (cellsAs Tryz.prog 5 100 Rows.laid_internal_strconv_uint64pow10).isSome = true := by kernel_rfl
  unfold cellsU
  cases hc : cellsAs Tryz.prog 5 100 Rows.laid_internal_strconv_uint64pow10 with
  | none => rw [hc] at h; cases h
  | some l => rfl
theorem cellsP_is : cellsAs Tryz.prog 5 134 Rows.laid_internal_strconv_pow10Tab = some cellsP := by
  have h : (cellsAs Tryz.prog 5 134 Rows.laid_internal_strconv_pow10Tab).isSome = true := by kernel_rfl
  unfold cellsP
  cases hc : cellsAs Tryz.prog 5 134 Rows.laid_internal_strconv_pow10Tab with
  | none => rw [hc] at h; cases h
  | some l => rfl
theorem flatU : flatL cellsU = true := by kernel_rfl
theorem flatP : flatL cellsP = true := by kernel_rfl

def laidAll : List (String × DataW Unit) := [("math/bits.deBruijn32tab", Rows.laid_math_bits_deBruijn32tab), ("math/bits.deBruijn64tab", Rows.laid_math_bits_deBruijn64tab), ("internal/strconv.float32info", Rows.laid_internal_strconv_float32info), ("internal/strconv.float64info", Rows.laid_internal_strconv_float64info), ("internal/strconv.optimize", Rows.laid_internal_strconv_optimize), ("internal/strconv.powtab", Rows.laid_internal_strconv_powtab), ("internal/strconv.float64pow10", Rows.laid_internal_strconv_float64pow10), ("internal/strconv.float32pow10", Rows.laid_internal_strconv_float32pow10), ("internal/strconv.uint64pow10", Rows.laid_internal_strconv_uint64pow10), ("strconv.ErrRange", Rows.laid_strconv_ErrRange), ("strconv.ErrSyntax", Rows.laid_strconv_ErrSyntax), ("internal/strconv.leftcheats", Rows.laid_internal_strconv_leftcheats), ("internal/strconv.pow10Tab", Rows.laid_internal_strconv_pow10Tab)]

theorem lay_get {l : List Value} {o : Nat} {u : Value} (h : (T.lay .nil 0 l).get o = some u) : l[o]? = some u := by
  rw [T.get_lay] at h
  split at h
  · simpa using h
  · rw [T.get_nil] at h; cases h

theorem block_of_cell {w : World} {b o : Nat} {u : Value} (h : w.cell? ⟨b, o, none⟩ = some u) : b < w.heap.size := by
  rcases Nat.lt_or_ge b w.heap.size with h' | h'
  · exact h'
  · simp [World.cell?, Array.getElem?_eq_none h'] at h

theorem laid_opt {w : World} (hL : laidMet Tryz.prog laidAll w) : w.cell? ⟨1, 0, none⟩ = some (.bool true) :=
  laid_cell hL (name := "internal/strconv.optimize") (d := Rows.laid_internal_strconv_optimize) (by simp [laidAll]) (g := 1) (t := 4) (by kernel_rfl) (by kernel_rfl) (n := 1) (l := [.bool true]) (by kernel_rfl) 0 _ rfl
theorem laid_u {w : World} (hL : laidMet Tryz.prog laidAll w) (o : Nat) (u : Value) (h : cellsU[o]? = some u) : w.cell? ⟨4, o, none⟩ = some u :=
  laid_cell hL (name := "internal/strconv.uint64pow10") (by simp [laidAll]) (g := 4) (t := 100) (by kernel_rfl) (by kernel_rfl) cellsU_is o u h
theorem laid_p {w : World} (hL : laidMet Tryz.prog laidAll w) (o : Nat) (u : Value) (h : cellsP[o]? = some u) : w.cell? ⟨7, o, none⟩ = some u :=
  laid_cell hL (name := "internal/strconv.pow10Tab") (by simp [laidAll]) (g := 7) (t := 134) (by kernel_rfl) (by kernel_rfl) cellsP_is o u h

theorem glob_ok {w : World} (hL : laidMet Tryz.prog laidAll w) : ∀ b o u, glob b o = some u → b < w.heap.size ∧ b < 100 ∧ w.cell? ⟨b, o, none⟩ = some u ∧ flat u = true := by
  intro b o u h
  have main : b < 100 ∧ w.cell? ⟨b, o, none⟩ = some u ∧ flat u = true := by
    unfold glob at h
    split at h
    · split at h
      · rename_i ho
        cases h; subst ho
        exact ⟨by decide, laid_opt hL, rfl⟩
      · cases h
    · have h2 := lay_get h
      exact ⟨by decide, laid_u hL o u h2, flatL_all _ flatU _ _ h2⟩
    · have h2 := lay_get h
      exact ⟨by decide, laid_p hL o u h2, flatL_all _ flatP _ _ h2⟩
    · cases h
  exact ⟨block_of_cell main.2.1, main⟩

/-! ## The run -/
noncomputable def spoke : Bool :=
  match evalCall Tryz.prog 100 glob ext2 100000 60 (.fn 4) [] ⟨.nil, .nil, 100⟩ with
  | some (.bool true, _) => true
  | _ => false

theorem spoke_true : spoke = true := by kernel_rfl

theorem speaks_any {w : World} (hL : laidMet Tryz.prog laidAll w) : Calls Tryz.prog 4 #[] w fun e w' => e = .returned (.bool true) ∧ RowKit.Below w.heap.size w w' := by
  have h := spoke_true
  unfold spoke at h
  split at h
  · rename_i st' hr
    exact run_closed mixed ext2_ok hr rfl rfl (glob_ok hL)
  · cases h
#print axioms speaks_any
end Go.Proofs.YthhmimlfiaboeaaGreatDoor

namespace Go.Proofs.YthhmimlfiaboeaaGreatDoor
open Go.Ev
section
variable {P : Program} {w : World}

theorem cells_at {base : Nat} {a : Addr} {n : Nat} {ce : List Value} (h : w.cells? base a n = some ce) : ce.length = n ∧ ∀ j, j < n → w.cell? (a.add j) = ce[j]? := by
  obtain ⟨h1, h2, h3⟩ := World.cells?_some h
  exact ⟨by first | exact h2 | exact h3 | omega, by first | exact h3 | exact h2⟩

theorem add_add (a : Addr) (x y : Nat) : (a.add x).add y = a.add (x + y) := by
  by_cases hx : x = 0
  · subst hx; simp [Addr.add]
  · by_cases hy : y = 0
    · subst hy; simp [Addr.add]
    · simp [Addr.add, hx, hy, Nat.add_assoc]

/-- A listed slice: where it lies, and how each of its elements reads. -/
theorem slice_reads {laid : List (String × DataW Unit)} (h : laidMet P laid w) {name : String} {d0 : DataW Unit} {ds : List (DataW Unit)} (hmem : (name, d0) ∈ laid) (hd0 : d0 = .slice ds []) {g : Nat} {t e : TypeId} (hg : P.globalNamed name = some g)
    (ht : (P.globals[g]?).map (·.type) = some t) (hu : P.underlying t = some (.slice e)) {c : Nat} (hc : P.cellsOf e = c) :
    ∃ a cap, w.cell? ⟨g, 0, none⟩ = some (.slice (some a) ds.length cap) ∧ ∀ i d, ds[i]? = some d → ∃ ce m q, ce.length = c ∧ (∀ j, j < c → w.cell? (a.add (i * c + j)) = ce[j]?) ∧
      DataW.trod (fun _ => ()) P w 0 (fun _ => true) false m e ce = some (d, q) := by
  subst hd0
  obtain ⟨g', t', cs, fuel, p, h1, h2, h3, h4⟩ := Lib.laidMet.reads h hmem
  obtain rfl := Option.some.inj (hg.symm.trans h1)
  obtain rfl := Option.some.inj (ht.symm.trans h2)
  rcases DataW.trod_slice hu h4 with ⟨_, hx⟩ | ⟨a, len, cap, el, rs, m, rfl, hcs, hx, _, hlc, _, hel, helem, _, _⟩
  · cases hx
  have e0 := congrArg Prod.fst hx
  simp only [DataW.slice.injEq] at e0
  obtain ⟨eE, _⟩ := e0
  subst eE
  have hlen : (el.map (·.1)).length = len := by simpa using hel
  refine ⟨a, cap, ?_, fun i d hd => ?_⟩
  · rw [World.var?_cell hg h3 0, hlen]
    have : cs[0]? = cs.toList[0]? := by simp
    rw [this, hcs]; rfl
  · have hi : i < len := by rw [← hlen]; exact (List.getElem?_eq_some_iff.1 hd).1
    have h5 := helem i hi
    rw [hc] at h5
    rw [List.getElem?_map] at hd
    cases hy : el[i]? with
    | none => rw [hy] at hd; cases hd
    | some y =>
      rw [hy] at h5 hd
      simp only [Option.map_some, Option.some.injEq] at hd
      obtain ⟨ce, hce, hte⟩ := Option.bind_eq_some_iff.1 h5
      obtain ⟨k1, k2⟩ := cells_at hce
      refine ⟨ce, m, y.2, k1, fun j hj => ?_, by rw [hte, ← hd]⟩
      have := k2 j hj
      rw [add_add] at this
      exact this

theorem plain_of {a : Addr} {v : Value} (h : w.cell? (a.add 0) = some v) : a = ⟨a.block, a.off, none⟩ := by
  have := World.cell?_spot h
  obtain ⟨b, o, s⟩ := a
  have : s = none := by simpa [Addr.add] using this
  subst this; rfl
end
open Go.WideShapes

/-- A listed slice of whole numbers. -/
theorem ints_reads {w : World} (h : laidMet Tryz.prog laidAll w) {name : String} {d0 : DataW Unit} {zs : List Int} (hmem : (name, d0) ∈ laidAll) (hd0 : d0 = .slice (zs.map fun z => .lit (.int .i64 z)) []) {g : Nat} {t e : TypeId} (hg : Tryz.prog.globalNamed name = some g)
    (ht : (Tryz.prog.globals[g]?).map (·.type) = some t) (hu : Tryz.prog.underlying t = some (.slice e)) (hc : Tryz.prog.cellsOf e = 1) (he : Tryz.prog.underlying e = some (.int .i64)) (h0 : 0 < zs.length) :
    ∃ pb off cap, w.cell? ⟨g, 0, none⟩ = some (.slice (some ⟨pb, off, none⟩) zs.length cap) ∧ ∀ i, i < zs.length → w.cell? ⟨pb, off + i, none⟩ = some (.int .i64 (zs.getD i 0)) := by
  obtain ⟨a, cap, h1, h2⟩ := slice_reads h hmem hd0 hg ht hu hc
  have cell : ∀ i, i < zs.length → w.cell? (a.add i) = some (.int .i64 (zs.getD i 0)) := by
    intro i hi
    obtain ⟨ce, m, q, k1, k2, k3⟩ := h2 i (.lit (.int .i64 (zs.getD i 0))) (by simp [hi])
    obtain ⟨n, rfl, hx, _⟩ := DataW.trod_int he k3
    have := k2 0 (by omega)
    rw [Nat.mul_one, Nat.add_zero] at this
    rw [this]
    have e1 := congrArg Prod.fst hx
    simp at e1
    simp [e1]
  have ha := plain_of (cell 0 h0)
  refine ⟨a.block, a.off, cap, ?_, fun i hi => ?_⟩
  · rw [h1, ← ha]; simp
  · have := cell i hi
    rw [ha, add_plain] at this
    exact this

theorem laid_powtab {w : World} (h : laidMet Tryz.prog laidAll w) : ∃ pb off cap, w.cell? ⟨10, 0, none⟩ = some (.slice (some ⟨pb, off, none⟩) 9 cap) ∧ ∀ i, i < 9 → w.cell? ⟨pb, off + i, none⟩ = some (.int .i64 (([1, 3, 6, 9, 13, 16, 19, 23, 26] : List Int).getD i 0)) :=
  ints_reads h (name := "internal/strconv.powtab") (d0 := Rows.laid_internal_strconv_powtab) (zs := [1, 3, 6, 9, 13, 16, 19, 23, 26]) (by simp [laidAll]) rfl (t := 146) (e := 3) (by kernel_rfl) (by kernel_rfl) (by kernel_rfl) (by kernel_rfl) (by kernel_rfl) (by decide)

theorem trod_float {H : Type} {enc : TypeId × Value → H} {P : Program} {w : World} {base : Nat} {sp : Nat → Bool} {held : Bool} {fuel : Nat} {t : TypeId} {cs : List Value} {x : DataW H × List MemPlace} {k : FloatKind} (ht : P.underlying t = some (.float k)) (h : DataW.trod enc P w base sp held fuel t cs = some x) : ∃ b, cs = [.float k b] := by
  cases fuel with
  | zero => simp [DataW.trod] at h
  | succ n =>
    unfold DataW.trod at h
    rw [ht] at h
    split at h <;> simp_all

def fLen : DataW Unit → Nat
  | .slice l [] => l.length
  | _ => 0
theorem laid_p10 {w : World} (h : laidMet Tryz.prog laidAll w) : ∃ pb off cap, w.cell? ⟨11, 0, none⟩ = some (.slice (some ⟨pb, off, none⟩) 23 cap) ∧ ∀ i, i < 23 → ∃ k : Nat, w.cell? ⟨pb, off + i, none⟩ = some (.float .f64 k) := by
  obtain ⟨ds, hds, hl⟩ : ∃ ds : List (DataW Unit), Rows.laid_internal_strconv_float64pow10 = .slice ds [] ∧ ds.length = 23 := ⟨_, rfl, rfl⟩
  obtain ⟨a, cap, h1, h2⟩ := slice_reads h (name := "internal/strconv.float64pow10") (d0 := Rows.laid_internal_strconv_float64pow10) (by simp [laidAll]) hds (g := 11) (t := 35) (e := 24) (c := 1) (by kernel_rfl) (by kernel_rfl) (by kernel_rfl) (by kernel_rfl)
  have cell : ∀ i, i < 23 → ∃ k : Nat, w.cell? (a.add i) = some (.float .f64 k) := by
    intro i hi
    obtain ⟨ce, m, q, k1, k2, k3⟩ := h2 i _ (List.getElem?_eq_getElem (by omega))
    obtain ⟨n, rfl⟩ := trod_float (show Tryz.prog.underlying 24 = some (.float .f64) by kernel_rfl) k3
    have := k2 0 (by omega)
    rw [Nat.mul_one, Nat.add_zero] at this
    exact ⟨n, this⟩
  obtain ⟨k0, hk0⟩ := cell 0 (by omega)
  have ha := plain_of hk0
  refine ⟨a.block, a.off, cap, ?_, fun i hi => ?_⟩
  · rw [h1, ← ha, hl]
  · obtain ⟨k, hk⟩ := cell i hi
    rw [ha, add_plain] at hk
    exact ⟨k, hk⟩

set_option maxRecDepth 100000 in
theorem cheats_data : (Rows.laid_internal_strconv_leftcheats : DataW Unit) = .slice (Go.Pinned.cheatRows.map fun x => .agg [.lit (.int .i64 x.1), .lit (.string x.2)]) [] := rfl
set_option maxRecDepth 100000 in
theorem cheats_len : Go.Pinned.cheatRows.length = 61 := by kernel_rfl
theorem cheat_info : ∃ f0 f1 : Field, Tryz.prog.underlying 139 = some (.struct #[f0, f1]) ∧ f0.offset = 0 ∧ f1.offset = 1 ∧ Tryz.prog.underlying f0.type = some (.int .i64) ∧ Tryz.prog.cellsOf f0.type = 1 ∧ Tryz.prog.underlying f1.type = some .string ∧ Tryz.prog.cellsOf f1.type = 1 := by
  have h : (match Tryz.prog.underlying 139 with
    | some (.struct fs) => match fs.toList with
      | [f0, f1] => f0.offset == 0 && f1.offset == 1 && (match Tryz.prog.underlying f0.type with | some (.int .i64) => true | _ => false) && Tryz.prog.cellsOf f0.type == 1 && (match Tryz.prog.underlying f1.type with | some .string => true | _ => false) && Tryz.prog.cellsOf f1.type == 1
      | _ => false
    | _ => false) = true := by kernel_rfl
  split at h
  · rename_i fs hu
    split at h
    · rename_i f0 f1 hf
      refine ⟨f0, f1, ?_, ?_⟩
      · rw [hu, show fs = #[f0, f1] from Array.ext' hf]
      · simp only [Bool.and_eq_true, beq_iff_eq] at h
        obtain ⟨⟨⟨⟨⟨a1, a2⟩, a3⟩, a4⟩, a5⟩, a6⟩ := h
        refine ⟨a1, a2, ?_, a4, ?_, a6⟩
        · split at a3
          · rename_i hq; exact hq
          · cases a3
        · split at a5
          · rename_i hq; exact hq
          · cases a5
    · cases h
  · cases h
set_option maxRecDepth 100000 in
theorem laid_cheats {w : World} (h : laidMet Tryz.prog laidAll w) : ∃ pb off cap, w.cell? ⟨8, 0, none⟩ = some (.slice (some ⟨pb, off, none⟩) 61 cap) ∧
    ∀ i, i < 61 → ∀ x, Go.Pinned.cheatRows[i]? = some x → w.cell? ⟨pb, off + i * 2, none⟩ = some (.int .i64 (x.1 : Nat)) ∧ w.cell? ⟨pb, off + i * 2 + 1, none⟩ = some (.string ⟨⟨x.2⟩⟩) := by
  obtain ⟨f0, f1, hst, o0, o1, u0, c0, u1, c1⟩ := cheat_info
  obtain ⟨a, cap, h1, h2⟩ := slice_reads h (name := "internal/strconv.leftcheats") (by simp [laidAll]) cheats_data (g := 8) (t := 140) (e := 139) (c := 2) (by kernel_rfl) (by kernel_rfl) (by kernel_rfl) (by kernel_rfl)
  have cell : ∀ i x, Go.Pinned.cheatRows[i]? = some x → w.cell? (a.add (i * 2)) = some (.int .i64 (x.1 : Nat)) ∧ w.cell? (a.add (i * 2 + 1)) = some (.string ⟨⟨x.2⟩⟩) := by
    intro i x hx
    obtain ⟨ce, m, q, k1, k2, k3⟩ := h2 i (.agg [.lit (.int .i64 x.1), .lit (.string x.2)]) (by rw [List.getElem?_map, hx]; rfl)
    obtain ⟨xs, m', rfl, hxs, hcl, hxl, hel⟩ := DataW.trod_struct hst k3
    have e0 := congrArg Prod.fst hxs
    simp only [DataW.agg.injEq] at e0
    have g0 := hel 0 f0 rfl
    have g1 := hel 1 f1 rfl
    rw [o0, c0] at g0
    rw [o1, c1] at g1
    match xs, e0 with
    | [y0, y1], e0 =>
      simp only [List.map_cons, List.map_nil, List.cons.injEq, and_true] at e0
      obtain ⟨n, hn, hy0, _⟩ := DataW.trod_int u0 g0
      obtain ⟨s, hs, hy1, _⟩ := DataW.trod_string u1 g1
      rw [hy0, hy1] at e0
      match ce, k1, hn, hs with
      | [v0, v1], _, hn, hs =>
        simp at hn hs
        subst hn; subst hs
        have q0 := k2 0 (by omega)
        have q1 := k2 1 (by omega)
        rw [Nat.add_zero] at q0
        obtain ⟨e1, e2⟩ := e0
        simp at e1 e2
        refine ⟨by rw [q0]; simp [e1], ?_⟩
        rw [q1, e2]; simp
  have h0 : ∃ x, Go.Pinned.cheatRows[0]? = some x := ⟨_, List.getElem?_eq_getElem (by rw [cheats_len]; omega)⟩
  obtain ⟨x0, hx0⟩ := h0
  have ha := plain_of (by simpa using (cell 0 x0 hx0).1)
  refine ⟨a.block, a.off, cap, ?_, fun i hi x hx => ?_⟩
  · rw [h1, ← ha, List.length_map, cheats_len]
  · have := cell i x hx
    rw [ha, add_plain, add_plain] at this
    exact this
end Go.Proofs.YthhmimlfiaboeaaGreatDoor
