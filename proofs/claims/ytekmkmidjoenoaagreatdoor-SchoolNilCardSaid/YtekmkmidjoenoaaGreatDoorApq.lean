/- What the school answers to a long text, and what it answers where there is none: closed runs. -/
import Derived.Test.YtekmkmidjoenoaaGreatDoorApl
namespace Go.Proofs.YtekmkmidjoenoaaGreatDoor
open Go.RowKit Go.Ev

def enrolA : Value := .agg #[.int .i64 1, .string ⟨#[97]⟩, .string ⟨#[97]⟩, .string ⟨#[]⟩, .string ⟨#[]⟩, .slice none 0 0, .int .i64 2, .int .i64 0, .int .i64 0, .int .i64 0]
def noMemo : FuncId → List Value → St → Option (Value × St) := fun _ _ _ => none

noncomputable def callS (f : FuncId) (args : List Value) (st : St) : Option (Value × St) := evalCallM Tryz.prog 100 pglob ext (fun _ => false) memoPut 100000 60 (.fn f) args st

/-- A new school with a teacher. -/
noncomputable def startS : Option (Value × St × St) :=
  match callS 13 [] ⟨.nil, .nil, 100⟩ with
  | some (v, st) => match callS 14 [v, enrolA] st with
    | some (_, st') => some (v, st, st')
    | none => none
  | none => none

def replyA (code pos : Nat) : Value := .agg #[.int .i64 (.ofNat code), .int .i64 (.ofNat pos), .int .i64 (.ofNat pos), .int .i64 0, .string ⟨#[]⟩, .slice none 0 0, .slice none 0 0]

noncomputable def longB (n : Nat) : Bool :=
  match startS with
  | some (v, _, st) => match callS 14 [v, cmdA (.chan (some (2 * n + 1)))] st with
    | some (u, _) => valEq u (bif Nat.ble n 8177 then replyA 2 1 else replyA 6 0)
    | none => false
  | none => false

set_option maxRecDepth 100000 in
theorem long_a : ((List.range 9).all fun j => longB (8160 + j)) = true := by kernel_rfl
set_option maxRecDepth 100000 in
theorem long_b : ((List.range 9).all fun j => longB (8169 + j)) = true := by kernel_rfl
set_option maxRecDepth 100000 in
theorem long_c : ((List.range 46).all fun j => longB (8178 + j)) = true := by kernel_rfl

theorem long_all {n : Nat} (h1 : 8160 ≤ n) (h2 : n ≤ 8223) : longB n = true := by
  rcases Nat.lt_or_ge n 8169 with h | h
  · have := List.all_eq_true.1 long_a (n - 8160) (List.mem_range.2 (by omega))
    rwa [show 8160 + (n - 8160) = n by omega] at this
  rcases Nat.lt_or_ge n 8178 with h' | h'
  · have := List.all_eq_true.1 long_b (n - 8169) (List.mem_range.2 (by omega))
    rwa [show 8169 + (n - 8169) = n by omega] at this
  · have := List.all_eq_true.1 long_c (n - 8178) (List.mem_range.2 (by omega))
    rwa [show 8178 + (n - 8178) = n by omega] at this

noncomputable def noneB (k : Nat) : Bool :=
  match callS 14 [.pointer none, cmdA (.chan (some k))] ⟨.nil, .nil, 100⟩ with
  | some (u, _) => valEq u (replyA 1 0)
  | none => false
set_option maxRecDepth 100000 in
theorem none_apply (k : Nat) : noneB k = true := by kernel_rfl

noncomputable def noneC : Bool :=
  (match callS 17 [.pointer none] ⟨.nil, .nil, 100⟩ with
  | some (u, _) => valEq u (.string ⟨#[]⟩)
  | none => false) &&
  (match callS 18 [.pointer none] ⟨.nil, .nil, 100⟩ with
  | some (u, _) => valEq u (.pointer none)
  | none => false)
set_option maxRecDepth 100000 in
theorem none_other : noneC = true := by kernel_rfl
end Go.Proofs.YtekmkmidjoenoaaGreatDoor
