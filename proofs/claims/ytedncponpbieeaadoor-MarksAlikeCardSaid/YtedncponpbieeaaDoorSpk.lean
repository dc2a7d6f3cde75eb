/- The first line of each law of marks: 'speaks' returns true, whatever the memory, where the listed tables lie as the text lays them. -/
import Derived.Test.YtedncponpbieeaaDoorEvC
import Derived.Test.YtedncponpbieeaaDoorRows
import Derived.ProofKit
import Derived.LaidMore
namespace Go.Proofs.YtedncponpbieeaaDoor
open Go.Ev

def bitsOf : List Value → Option Value
  | [.float .f64 n] => some (.int .u64 (.ofNat n))
  | _ => none

def ofBits : List Value → Option Value
  | [.int .u64 (.ofNat n)] => some (.float .f64 n)
  | _ => none

def ext : Ext := fun f =>
  match f with
  | 12 => some ofBits
  | 31 => some bitsOf
  | 68 => some bitsOf
  | _ => none

theorem run_bits31 (n : Nat) (w : World) : (callFunc 31 #[.float .f64 n]).run Tryd.prog w = .ok (.value (.int .u64 n)) w := by kernel_rfl
theorem run_bits68 (n : Nat) (w : World) : (callFunc 68 #[.float .f64 n]).run Tryd.prog w = .ok (.value (.int .u64 n)) w := by kernel_rfl
theorem run_of12 (n : Nat) (w : World) : (callFunc 12 #[.int .u64 (Int.ofNat n)]).run Tryd.prog w = .ok (.value (.float .f64 n)) w := by kernel_rfl

theorem ext_ok : ExtOk Tryd.prog ext := by
  intro f h args v hf hv
  have b31 : ∀ args v, bitsOf args = some v → ∃ n, args = [.float .f64 n] ∧ v = .int .u64 (.ofNat n) := by
    intro args v h
    unfold bitsOf at h
    split at h
    · cases h; exact ⟨_, rfl, rfl⟩
    · cases h
  have b12 : ∀ args v, ofBits args = some v → ∃ n, args = [.int .u64 (.ofNat n)] ∧ v = .float .f64 n := by
    intro args v h
    unfold ofBits at h
    split at h
    · cases h; exact ⟨_, rfl, rfl⟩
    · cases h
  unfold ext at hf
  split at hf
  · cases hf; obtain ⟨n, rfl, rfl⟩ := b12 _ _ hv; exact ⟨rfl, fun w => run_of12 n w⟩
  · cases hf; obtain ⟨n, rfl, rfl⟩ := b31 _ _ hv; exact ⟨rfl, fun w => run_bits31 n w⟩
  · cases hf; obtain ⟨n, rfl, rfl⟩ := b31 _ _ hv; exact ⟨rfl, fun w => run_bits68 n w⟩
  · cases hf


/-! ## The tables -/
noncomputable def cells2 : List Value := (cellsAs Tryd.prog 5 118 Rows.laid_internal_strconv_uint64pow10).getD []
noncomputable def cells3 : List Value := (cellsAs Tryd.prog 5 128 Rows.laid_internal_strconv_pow10Tab).getD []
noncomputable def tab2 : T Value := T.lay .nil 0 cells2
noncomputable def tab3 : T Value := T.lay .nil 0 cells3

noncomputable def glob : Glob := fun b o =>
  match b with
  | 1 => if o = 0 then some (.bool true) else none
  | 2 => tab2.get o
  | 3 => tab3.get o
  | _ => none

theorem cells2_is : cellsAs Tryd.prog 5 118 Rows.laid_internal_strconv_uint64pow10 = some cells2 := by
  have h : (cellsAs Tryd.prog 5 118 Rows.laid_internal_strconv_uint64pow10).isSome = true := by kernel_rfl
  unfold cells2
  cases hc : cellsAs Tryd.prog 5 118 Rows.laid_internal_strconv_uint64pow10 with
  | none => rw [hc] at h; cases h
  | some l => rfl
theorem cells3_is : cellsAs Tryd.prog 5 128 Rows.laid_internal_strconv_pow10Tab = some cells3 := by
  have h : (cellsAs Tryd.prog 5 128 Rows.laid_internal_strconv_pow10Tab).isSome = true := by kernel_rfl
  unfold cells3
  cases hc : cellsAs Tryd.prog 5 128 Rows.laid_internal_strconv_pow10Tab with
  | none => rw [hc] at h; cases h
  | some l => rfl
theorem flat2 : flatL cells2 = true := by kernel_rfl
theorem flat3 : flatL cells3 = true := by kernel_rfl

def laid6 : List (String × DataW Unit) := [("math/bits.deBruijn32tab", Rows.laid_math_bits_deBruijn32tab), ("math/bits.deBruijn64tab", Rows.laid_math_bits_deBruijn64tab), ("internal/strconv.optimize", Rows.laid_internal_strconv_optimize), ("internal/strconv.uint64pow10", Rows.laid_internal_strconv_uint64pow10), ("internal/strconv.leftcheats", Rows.laid_internal_strconv_leftcheats), ("internal/strconv.pow10Tab", Rows.laid_internal_strconv_pow10Tab)]

theorem lay_get {l : List Value} {o : Nat} {u : Value} (h : (T.lay .nil 0 l).get o = some u) : l[o]? = some u := by
  rw [T.get_lay] at h
  split at h
  · simpa using h
  · rw [T.get_nil] at h; cases h

theorem block_of_cell {w : World} {b o : Nat} {u : Value} (h : w.cell? ⟨b, o, none⟩ = some u) : b < w.heap.size := by
  rcases Nat.lt_or_ge b w.heap.size with h' | h'
  · exact h'
  · simp [World.cell?, Array.getElem?_eq_none h'] at h

theorem glob_ok {w : World} (hL : laidMet Tryd.prog laid6 w) : ∀ b o u, glob b o = some u → b < w.heap.size ∧ b < 20 ∧ w.cell? ⟨b, o, none⟩ = some u ∧ flat u = true := by
  intro b o u h
  have main : b < 20 ∧ w.cell? ⟨b, o, none⟩ = some u ∧ flat u = true := by
    unfold glob at h
    split at h
    · split at h
      · rename_i ho
        cases h; subst ho
        refine ⟨by decide, ?_, rfl⟩
        exact laid_cell hL (name := "internal/strconv.optimize") (d := Rows.laid_internal_strconv_optimize) (by simp [laid6]) (g := 1) (t := 4) (by kernel_rfl) (by kernel_rfl) (n := 1) (l := [.bool true]) (by kernel_rfl) 0 _ rfl
      · cases h
    · have h2 := lay_get h
      refine ⟨by decide, ?_, flatL_all _ flat2 _ _ h2⟩
      exact laid_cell hL (name := "internal/strconv.uint64pow10") (by simp [laid6]) (g := 2) (t := 118) (by kernel_rfl) (by kernel_rfl) cells2_is o u h2
    · have h2 := lay_get h
      refine ⟨by decide, ?_, flatL_all _ flat3 _ _ h2⟩
      exact laid_cell hL (name := "internal/strconv.pow10Tab") (by simp [laid6]) (g := 3) (t := 128) (by kernel_rfl) (by kernel_rfl) cells3_is o u h2
    · cases h
  exact ⟨block_of_cell main.2.1, main⟩

/-! ## The run -/
noncomputable def spoke : Bool :=
  match evalCall Tryd.prog 20 glob ext 100000 60 8 [] ⟨.nil, .nil, 20⟩ with
  | some (.bool true, _) => true
  | _ => false

theorem spoke_true : spoke = true := by kernel_rfl

theorem speaks_any {w : World} (hL : laidMet Tryd.prog laid6 w) : Calls Tryd.prog 8 #[] w fun e w' => e = .returned (.bool true) ∧ RowKit.Below w.heap.size w w' := by
  have h := spoke_true
  unfold spoke at h
  split at h
  · rename_i st' hr
    exact run_closed (by kernel_rfl) ext_ok hr rfl rfl (glob_ok hL)
  · cases h
#print axioms speaks_any

end Go.Proofs.YtedncponpbieeaaDoor
