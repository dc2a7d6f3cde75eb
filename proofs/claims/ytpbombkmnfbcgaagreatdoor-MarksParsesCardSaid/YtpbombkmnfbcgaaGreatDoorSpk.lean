/- The law's first line: 'speaks' returns true, whatever the memory, where the listed tables lie as the text lays them: a closed run. -/
import Derived.Test.YtpbombkmnfbcgaaGreatDoorEvC
import Derived.Test.YtpbombkmnfbcgaaGreatDoorExt
import Derived.LaidMore
namespace Go.Proofs.YtpbombkmnfbcgaaGreatDoor
open Go.Ev

theorem run_bits2 (n : Nat) (w : World) : (callFunc 35 #[.float .f64 n]).run Tryz.prog w = .ok (.value (.int .u64 n)) w := by kernel_rfl
def extFn2 (f : FuncId) : Option (List Value → Option Value) :=
  match Nat.beq f 35 with
  | true => some xBits
  | false => extFn f
def ext2 : Ext := { fn := extFn2, clone := ext.clone, same := ext.same }
theorem ext2_ok : ExtOk Tryz.prog ext2 where
  fn := fun f h args v hf hv => by
    have hf' : extFn2 f = some h := hf
    unfold extFn2 at hf'
    split at hf'
    · rename_i hb
      cases hf'
      obtain rfl := Nat.eq_of_beq_eq_true hb
      obtain ⟨n, rfl, rfl⟩ := xBits_inv hv
      exact ⟨rfl, fun w => run_bits2 n w⟩
    · exact ext_ok.fn f h args v hf' hv
  spec := fun f args st v st' h => by cases h
  clone := ext_ok.clone
  same := ext_ok.same

/-! ## The tables -/
noncomputable def cellsU : List Value := (cellsAs Tryz.prog 5 123 Rows.laid_internal_strconv_uint64pow10).getD []
noncomputable def cellsP : List Value := (cellsAs Tryz.prog 5 139 Rows.laid_internal_strconv_pow10Tab).getD []
noncomputable def tabU : T Value := T.lay .nil 0 cellsU
noncomputable def tabP : T Value := T.lay .nil 0 cellsP

noncomputable def glob : Glob := fun b o =>
  match b with
  | 3 => if o = 0 then some (.bool true) else none
  | 6 => tabU.get o
  | 10 => tabP.get o
  | _ => none

theorem cellsU_is : cellsAs Tryz.prog 5 123 Rows.laid_internal_strconv_uint64pow10 = some cellsU := by
  have h : (cellsAs Tryz.prog 5 123 Rows.laid_internal_strconv_uint64pow10).isSome = true := by kernel_rfl
  unfold cellsU
  cases hc : cellsAs Tryz.prog 5 123 Rows.laid_internal_strconv_uint64pow10 with
  | none => rw [hc] at h; cases h
  | some l => rfl
theorem cellsP_is : cellsAs Tryz.prog 5 139 Rows.laid_internal_strconv_pow10Tab = some cellsP := by
  have h : (cellsAs Tryz.prog 5 139 Rows.laid_internal_strconv_pow10Tab).isSome = true := by kernel_rfl
  unfold cellsP
  cases hc : cellsAs Tryz.prog 5 139 Rows.laid_internal_strconv_pow10Tab with
  | none => rw [hc] at h; cases h
  | some l => rfl
theorem flatU : flatL cellsU = true := by kernel_rfl
theorem flatP : flatL cellsP = true := by kernel_rfl

def laidAll : List (String × DataW Unit) := [("math/bits.deBruijn32tab", Rows.laid_math_bits_deBruijn32tab), ("math/bits.deBruijn64tab", Rows.laid_math_bits_deBruijn64tab), ("internal/strconv.float32info", Rows.laid_internal_strconv_float32info), ("internal/strconv.float64info", Rows.laid_internal_strconv_float64info), ("internal/strconv.optimize", Rows.laid_internal_strconv_optimize), ("internal/strconv.powtab", Rows.laid_internal_strconv_powtab), ("internal/strconv.float64pow10", Rows.laid_internal_strconv_float64pow10), ("internal/strconv.float32pow10", Rows.laid_internal_strconv_float32pow10), ("internal/strconv.uint64pow10", Rows.laid_internal_strconv_uint64pow10), ("strconv.ErrRange", Rows.laid_strconv_ErrRange), ("strconv.ErrSyntax", Rows.laid_strconv_ErrSyntax), ("internal/strconv.leftcheats", Rows.laid_internal_strconv_leftcheats), ("internal/strconv.pow10Tab", Rows.laid_internal_strconv_pow10Tab)]

theorem lay_get {l : List Value} {o : Nat} {u : Value} (h : (T.lay .nil 0 l).get o = some u) : l[o]? = some u := by
  rw [T.get_lay] at h
  split at h
  · simpa using h
  · rw [T.get_nil] at h; cases h

theorem block_of_cell {w : World} {b o : Nat} {u : Value} (h : w.cell? ⟨b, o, none⟩ = some u) : b < w.heap.size := by
  rcases Nat.lt_or_ge b w.heap.size with h' | h'
  · exact h'
  · simp [World.cell?, Array.getElem?_eq_none h'] at h

theorem laid_opt {w : World} (hL : laidMet Tryz.prog laidAll w) : w.cell? ⟨3, 0, none⟩ = some (.bool true) :=
  laid_cell hL (name := "internal/strconv.optimize") (d := Rows.laid_internal_strconv_optimize) (by simp [laidAll]) (g := 3) (t := 4) (by kernel_rfl) (by kernel_rfl) (n := 1) (l := [.bool true]) (by kernel_rfl) 0 _ rfl
theorem laid_u {w : World} (hL : laidMet Tryz.prog laidAll w) (o : Nat) (u : Value) (h : cellsU[o]? = some u) : w.cell? ⟨6, o, none⟩ = some u :=
  laid_cell hL (name := "internal/strconv.uint64pow10") (by simp [laidAll]) (g := 6) (t := 123) (by kernel_rfl) (by kernel_rfl) cellsU_is o u h
theorem laid_p {w : World} (hL : laidMet Tryz.prog laidAll w) (o : Nat) (u : Value) (h : cellsP[o]? = some u) : w.cell? ⟨10, o, none⟩ = some u :=
  laid_cell hL (name := "internal/strconv.pow10Tab") (by simp [laidAll]) (g := 10) (t := 139) (by kernel_rfl) (by kernel_rfl) cellsP_is o u h

theorem glob_ok {w : World} (hL : laidMet Tryz.prog laidAll w) : ∀ b o u, glob b o = some u → b < w.heap.size ∧ b < 100 ∧ w.cell? ⟨b, o, none⟩ = some u ∧ flat u = true := by
  intro b o u h
  have main : b < 100 ∧ w.cell? ⟨b, o, none⟩ = some u ∧ flat u = true := by
    unfold glob at h
    split at h
    · split at h
      · rename_i ho
        cases h; subst ho
        exact ⟨by decide, laid_opt hL, rfl⟩
      · cases h
    · have h2 := lay_get h
      exact ⟨by decide, laid_u hL o u h2, flatL_all _ flatU _ _ h2⟩
    · have h2 := lay_get h
      exact ⟨by decide, laid_p hL o u h2, flatL_all _ flatP _ _ h2⟩
    · cases h
  exact ⟨block_of_cell main.2.1, main⟩

/-! ## The run -/
noncomputable def spoke : Bool :=
  match evalCall Tryz.prog 100 glob ext2 100000 60 (.fn 4) [] ⟨.nil, .nil, 100⟩ with
  | some (.bool true, _) => true
  | _ => false

theorem spoke_true : spoke = true := by kernel_rfl

theorem speaks_any {w : World} (hL : laidMet Tryz.prog laidAll w) : Calls Tryz.prog 4 #[] w fun e w' => e = .returned (.bool true) ∧ RowKit.Below w.heap.size w w' := by
  have h := spoke_true
  unfold spoke at h
  split at h
  · rename_i st' hr
    exact run_closed mixed ext2_ok hr rfl rfl (glob_ok hL)
  · cases h
#print axioms speaks_any
end Go.Proofs.YtpbombkmnfbcgaaGreatDoor
