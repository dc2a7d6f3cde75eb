/- What command.Put calls, at a long text: closed runs. -/
import Derived.Test.YtekmkmidjoenoaaGreatDoorPut
namespace Go.Proofs.YtekmkmidjoenoaaGreatDoor
open Go.RowKit Go.Ev

def pglob : Glob := fun _ _ => none

/-! ## Numbers' bytes -/
noncomputable def pn (n : Nat) : Option ByteArray :=
  match evalCall Tryz.prog 100 pglob ext 10000 40 (.fn 72) [.int .i64 (.ofNat n)] ⟨.nil, .nil, 100⟩ with
  | some (.string s, _) => some s
  | _ => none

theorem pn_sound {n : Nat} {s : ByteArray} (h : pn n = some s) (w : World) : Calls Tryz.prog 72 #[.int .i64 (n : Nat)] w fun e w' => e = .returned (.string s) ∧ Below w.heap.size w w' := by
  unfold pn at h
  split at h
  · rename_i s' st' hr
    cases h
    exact run_closed mixed ext_ok hr rfl rfl (fun b o u h => by cases h)
  · cases h

noncomputable def sz (n k : Nat) : Bool :=
  match pn n with
  | some s => Nat.beq s.data.toList.length k
  | none => false

theorem sz_spec {n k : Nat} (h : sz n k = true) : ∃ s : ByteArray, s.size = k ∧ ∀ w, Calls Tryz.prog 72 #[.int .i64 (n : Nat)] w fun e w' => e = .returned (.string s) ∧ Below w.heap.size w w' := by
  unfold sz at h
  split at h
  · rename_i s hs
    refine ⟨s, ?_, fun w => pn_sound hs w⟩
    have := Nat.eq_of_beq_eq_true h
    rw [Array.length_toList] at this
    exact this
  · cases h

set_option maxRecDepth 100000 in
theorem sz_small : (sz 9 2 && (sz 1 2 && sz 0 1)) = true := by kernel_rfl
set_option maxRecDepth 100000 in
theorem sz_long : ((List.range 64).all fun j => sz (8160 + j) 3) = true := by kernel_rfl

/-! ## The command -/
def cmdA (t : Value) : Value := .agg #[.int .i64 9, .string ⟨#[97]⟩, .string ⟨#[]⟩, .string ⟨#[]⟩, t, .slice none 0 0, .int .i64 0, .int .i64 0, .int .i64 0, .int .i64 0]

theorem cmd_rel {G N : Nat} {φ : Phi} {t t' : Value} (h : VRel G N φ t t') : VRel G N φ (cmdA t) (cmdA t') := by
  refine .agg rfl fun i v v' h1 h2 => ?_
  match i, h1, h2 with
  | 0, h1, h2 => cases h1; cases h2; exact .flat rfl
  | 1, h1, h2 => cases h1; cases h2; exact .flat rfl
  | 2, h1, h2 => cases h1; cases h2; exact .flat rfl
  | 3, h1, h2 => cases h1; cases h2; exact .flat rfl
  | 4, h1, h2 => cases h1; cases h2; exact h
  | 5, h1, h2 => cases h1; cases h2; exact .flat rfl
  | 6, h1, h2 => cases h1; cases h2; exact .flat rfl
  | 7, h1, h2 => cases h1; cases h2; exact .flat rfl
  | 8, h1, h2 => cases h1; cases h2; exact .flat rfl
  | 9, h1, h2 => cases h1; cases h2; exact .flat rfl
  | i + 10, h1, h2 => simp at h1

theorem one_rel {G N : Nat} {φ : Phi} {v v' : Value} (h : VRel G N φ v v') : ARel G N φ ⟨[v]⟩ #[v'] := ⟨rfl, fun i a a' h1 h2 => by
  cases i with
  | zero => simp at h1 h2; subst h1; subst h2; exact h
  | succ i => simp at h1⟩

noncomputable def gd (k : Nat) : Bool :=
  match evalCall Tryz.prog 100 pglob ext 10000 40 (.fn 25) [cmdA (.chan (some k))] ⟨.nil, .nil, 100⟩ with
  | some (.bool true, _) => true
  | _ => false

set_option maxRecDepth 100000 in
theorem gd_long : ((List.range 64).all fun j => gd (2 * (8160 + j))) = true := by kernel_rfl

theorem good_any {n : Nat} (h : gd (2 * n) = true) (t : ByteArray) (ht : t.size = n) (w : World) : Calls Tryz.prog 25 #[cmdA (.string t)] w fun e w' => e = .returned (.bool true) ∧ Below w.heap.size w w' := by
  unfold gd at h
  split at h
  case h_2 => cases h
  rename_i st' hr
  have hlong : VRel 100 100 (fun _ => default) (.chan (some (2 * n))) (.string t) := .long (by rw [ht]; omega) (fun h => by omega)
  refine Calls.mono ((evalCall_sound (N0 := w.heap.size) (g := pglob) mixed ext_ok 10000 40).fn _ _ _ _ _ hr _ w #[cmdA (.string t)] (R.start (fun b o u h => by cases h)) (one_rel (cmd_rel hlong))) fun e w' hp => ?_
  obtain ⟨v', φ', rfl, hR', hT, hr⟩ := hp
  exact ⟨by rw [hr.flat_eq rfl], hT.below⟩

theorem range_all {p : Nat → Bool} (h : ((List.range 64).all fun j => p (8160 + j)) = true) {n : Nat} (h1 : 8160 ≤ n) (h2 : n ≤ 8223) : p n = true := by
  have := List.all_eq_true.1 h (n - 8160) (List.mem_range.2 (by omega))
  rwa [show 8160 + (n - 8160) = n by omega] at this

end Go.Proofs.YtekmkmidjoenoaaGreatDoor
