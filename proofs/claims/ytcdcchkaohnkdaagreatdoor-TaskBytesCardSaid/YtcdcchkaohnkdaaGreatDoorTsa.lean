/- draft.Accept of the grammar in the law's first line: what it answers, and what its answer leads to in memory: a closed run. -/
import Derived.Test.YtcdcchkaohnkdaaGreatDoorEvD
import Derived.Test.YtcdcchkaohnkdaaGreatDoorExt
import Derived.LaidMore
namespace Go.Proofs.YtcdcchkaohnkdaaGreatDoor
open Go.Ev

def glob : Glob := fun _ _ => none
def acArgs : List Value := [.string ⟨#[83, 58, 32, 39, 120, 39, 32, 83, 124, 39, 120, 39, 59]⟩, .int .i64 100]
def acL : List (Nat × AObj) := [(199, (.grown (T.lay .nil 0 [(.int .i64 2), (.string ⟨#[120]⟩), (.slice none 0 0), (.int .i64 1), (.string ⟨#[83]⟩), (.slice none 0 0)]) 6 158 183)),
  (232, (.grown (T.lay .nil 0 [(.int .i64 3), (.string ⟨#[]⟩), (.slice (some ⟨199, 0, none⟩) 2 55340232221128654851), (.int .i64 2), (.string ⟨#[120]⟩), (.slice none 0 0)]) 6 158 232)),
  (240, (.grown (T.lay .nil 0 [(.string ⟨#[83]⟩), (.int .i64 4), (.string ⟨#[]⟩), (.slice (some ⟨232, 0, none⟩) 2 55340232221128654851)]) 4 160 240)),
  (312, (.grown (T.lay .nil 0 [(.string ⟨#[83]⟩)]) 1 9 312)),
  (330, (.grown (T.lay .nil 0 [(.string ⟨#[120]⟩)]) 1 9 330)),
  (343, (.grown (T.lay .nil 0 [(.int .i64 (Int.negSucc 0)), (.int .i64 0)]) 2 3 339)),
  (353, (.grown (T.lay .nil 0 [(.int .i64 (Int.negSucc 0))]) 1 3 353)),
  (355, (.grown (T.lay .nil 0 [(.int .i64 0), (.slice (some ⟨343, 0, none⟩) 2 55340232221128654849), (.int .i64 0), (.slice (some ⟨353, 0, none⟩) 1 36893488147419103233)]) 4 187 345)),
  (678, (.grown (T.lay .nil 0 [(.int .i64 (Int.negSucc 0))]) 1 3 678)),
  (683, (.grown (T.lay .nil 0 [(.int .i64 2), (.int .i64 0)]) 2 3 683)),
  (702, (.grown (T.lay .nil 0 [(.int .i64 (Int.negSucc 0))]) 1 3 702)),
  (707, (.grown (T.lay .nil 0 [(.int .i64 2), (.int .i64 0)]) 2 3 707)),
  (726, (.grown (T.lay .nil 0 [(.int .i64 (Int.negSucc 0))]) 1 3 726)),
  (732, (.grown (T.lay .nil 0 [(.int .i64 0), (.slice (some ⟨678, 0, none⟩) 1 36893488147419103233), (.int .i64 0), (.slice (some ⟨683, 0, none⟩) 2 55340232221128654849), (.int .i64 1), (.slice (some ⟨702, 0, none⟩) 1 36893488147419103233), (.int .i64 1), (.slice (some ⟨707, 0, none⟩) 2 55340232221128654849), (.int .i64 2), (.slice (some ⟨726, 0, none⟩) 1 36893488147419103233)]) 10 187 732))]
def acFl : List (Nat × Fam) := [(183, ⟨199, 183⟩), (232, ⟨232, 232⟩), (240, ⟨240, 240⟩), (312, ⟨312, 312⟩), (330, ⟨330, 330⟩), (339, ⟨343, 339⟩), (345, ⟨355, 345⟩), (353, ⟨353, 353⟩), (678, ⟨678, 678⟩), (683, ⟨683, 683⟩), (702, ⟨702, 702⟩), (707, ⟨707, 707⟩), (726, ⟨726, 726⟩), (732, ⟨732, 732⟩)]
def acV : Value := (.tuple #[(.agg #[(.string ⟨#[83]⟩), (.slice (some ⟨240, 0, none⟩) 1 36893488147419103236), (.int .i64 0), (.int .i64 1), (.slice (some ⟨312, 0, none⟩) 1 36893488147419103233), (.slice (some ⟨330, 0, none⟩) 1 36893488147419103233), (.slice (some ⟨355, 0, none⟩) 2 55340232221128654850), (.int .i64 1), (.int .i64 3), (.int .i64 1), (.bool false), (.slice (some ⟨732, 0, none⟩) 5 110680464442257309698), (.string ⟨#[83, 58, 32, 39, 120, 39, 32, 83, 124, 39, 120, 39, 59, 10]⟩)]), (.agg #[(.int .i64 0), (.int .i64 0), (.int .i64 0)])])
def acM : St := ⟨T.made acL, T.made acFl, 814⟩

noncomputable def accB : Bool :=
  match evalCall Tryz.prog 100 glob ext 100000 58 (.fn 13) acArgs ⟨.nil, .nil, 100⟩ with
  | some (v, s) => sameT v acV && covers s acM acL
  | none => false

set_option maxRecDepth 100000 in
theorem accB_true : accB = true := by kernel_rfl

theorem acc_memo (N0 : Nat) : MemoOk Tryz.prog 100 N0 glob (memoOf 13 acArgs 100 acV acM) := by
  have h := accB_true
  unfold accB at h
  split at h
  · rename_i v s hr
    rw [Bool.and_eq_true] at h
    have hv := sameT_spec h.1
    subst hv
    exact memoOk_of (evalCall_sound mixed ext_ok 100000 58) hr (covers_sim h.2)
  · cases h
#print axioms acc_memo
end Go.Proofs.YtcdcchkaohnkdaaGreatDoor
