/- A call in ReplicaNone's first line: what it answers, and what its memory is then: a closed run. -/
import Derived.Test.YtgdgoackmfbkbaaGreatDoorPb
namespace Go.Proofs.YtgdgoackmfbkbaaGreatDoor
open Go.Ev

def r1A : List Value := [(.pointer (some ⟨107, 0, none⟩)), (.string ⟨#[1, 8, 1, 1, 0, 1, 1, 1, 1, 120, 215, 70, 150, 30]⟩)]
def r1BL : List (Nat × AObj) := [(100, (.cells (T.lay .nil 0 [(.slice (some ⟨139, 0, none⟩) 3 73786976294838206465), (.slice none 0 0), (.slice none 0 0), (.slice none 0 0), (.slice none 0 0), (.bool false)]) 6 51)),
  (101, (.map [] 0)),
  (102, (.map [] 0)),
  (103, (.map [] 0)),
  (104, (.cells (T.lay .nil 0 [(.slice none 0 0), (.slice none 0 0), (.map (some 101)), (.map (some 102)), (.map (some 103))]) 5 148)),
  (105, (.cells (T.lay .nil 0 [(.pointer (some ⟨104, 0, none⟩)), (.int .i64 0), (.string ⟨#[]⟩), (.int .i64 0), (.string ⟨#[]⟩), (.int .i64 0), (.string ⟨#[]⟩)]) 7 112)),
  (106, (.cells (T.lay .nil 0 [(.int .i64 0), (.int .i64 0), (.int .i64 0)]) 3 3)),
  (107, (.cells (T.lay .nil 0 [(.int .i64 0), (.int .i64 1), (.int .i64 1), (.int .i64 0), (.int .i64 0), (.int .i64 0), (.string ⟨#[]⟩), (.slice none 0 0), (.int .i64 0), (.pointer (some ⟨105, 0, none⟩)), (.int .i64 0), (.slice (some ⟨106, 0, none⟩) 3 3), (.int .i64 0), (.slice (some ⟨108, 0, none⟩) 3 3), (.slice (some ⟨109, 0, none⟩) 3 3), (.slice (some ⟨110, 0, none⟩) 3 3), (.bool false), (.slice (some ⟨111, 0, none⟩) 3 3), (.slice none 0 0), (.slice none 0 0)]) 20 61)),
  (108, (.cells (T.lay .nil 0 [(.int .i64 0), (.int .i64 0), (.int .i64 0)]) 3 3)),
  (109, (.cells (T.lay .nil 0 [(.bool false), (.bool false), (.bool false)]) 3 4)),
  (110, (.cells (T.lay .nil 0 [(.pointer none), (.pointer none), (.pointer none)]) 3 104)),
  (111, (.cells (T.lay .nil 0 [(.pointer none), (.pointer none), (.pointer none)]) 3 104)),
  (114, (.map [] 0)),
  (115, (.map [] 0)),
  (116, (.map [] 0)),
  (117, (.cells (T.lay .nil 0 [(.slice none 0 0), (.slice none 0 0), (.map (some 114)), (.map (some 115)), (.map (some 116))]) 5 148)),
  (118, (.cells (T.lay .nil 0 [(.pointer (some ⟨117, 0, none⟩)), (.int .i64 0), (.string ⟨#[]⟩), (.int .i64 0), (.string ⟨#[]⟩), (.int .i64 0), (.string ⟨#[]⟩)]) 7 112)),
  (119, (.cells (T.lay .nil 0 [(.int .i64 0), (.int .i64 0), (.int .i64 0)]) 3 3)),
  (120, (.cells (T.lay .nil 0 [(.int .i64 1), (.int .i64 1), (.int .i64 1), (.int .i64 0), (.int .i64 0), (.int .i64 0), (.string ⟨#[]⟩), (.slice none 0 0), (.int .i64 0), (.pointer (some ⟨118, 0, none⟩)), (.int .i64 0), (.slice (some ⟨119, 0, none⟩) 3 3), (.int .i64 0), (.slice (some ⟨121, 0, none⟩) 3 3), (.slice (some ⟨122, 0, none⟩) 3 3), (.slice (some ⟨123, 0, none⟩) 3 3), (.bool false), (.slice (some ⟨124, 0, none⟩) 3 3), (.slice none 0 0), (.slice none 0 0)]) 20 61)),
  (121, (.cells (T.lay .nil 0 [(.int .i64 0), (.int .i64 0), (.int .i64 0)]) 3 3)),
  (122, (.cells (T.lay .nil 0 [(.bool false), (.bool false), (.bool false)]) 3 4)),
  (123, (.cells (T.lay .nil 0 [(.pointer none), (.pointer none), (.pointer none)]) 3 104)),
  (124, (.cells (T.lay .nil 0 [(.pointer none), (.pointer none), (.pointer none)]) 3 104)),
  (127, (.map [] 0)),
  (128, (.map [] 0)),
  (129, (.map [] 0)),
  (130, (.cells (T.lay .nil 0 [(.slice none 0 0), (.slice none 0 0), (.map (some 127)), (.map (some 128)), (.map (some 129))]) 5 148)),
  (131, (.cells (T.lay .nil 0 [(.pointer (some ⟨130, 0, none⟩)), (.int .i64 0), (.string ⟨#[]⟩), (.int .i64 0), (.string ⟨#[]⟩), (.int .i64 0), (.string ⟨#[]⟩)]) 7 112)),
  (132, (.cells (T.lay .nil 0 [(.int .i64 0), (.int .i64 0), (.int .i64 0)]) 3 3)),
  (133, (.cells (T.lay .nil 0 [(.int .i64 2), (.int .i64 1), (.int .i64 1), (.int .i64 0), (.int .i64 0), (.int .i64 0), (.string ⟨#[]⟩), (.slice none 0 0), (.int .i64 0), (.pointer (some ⟨131, 0, none⟩)), (.int .i64 0), (.slice (some ⟨132, 0, none⟩) 3 3), (.int .i64 0), (.slice (some ⟨134, 0, none⟩) 3 3), (.slice (some ⟨135, 0, none⟩) 3 3), (.slice (some ⟨136, 0, none⟩) 3 3), (.bool false), (.slice (some ⟨137, 0, none⟩) 3 3), (.slice none 0 0), (.slice none 0 0)]) 20 61)),
  (134, (.cells (T.lay .nil 0 [(.int .i64 0), (.int .i64 0), (.int .i64 0)]) 3 3)),
  (135, (.cells (T.lay .nil 0 [(.bool false), (.bool false), (.bool false)]) 3 4)),
  (136, (.cells (T.lay .nil 0 [(.pointer none), (.pointer none), (.pointer none)]) 3 104)),
  (137, (.cells (T.lay .nil 0 [(.pointer none), (.pointer none), (.pointer none)]) 3 104)),
  (139, (.grown (T.lay .nil 0 [(.pointer (some ⟨107, 0, none⟩)), (.pointer (some ⟨120, 0, none⟩)), (.pointer (some ⟨133, 0, none⟩))]) 3 23 113)),
  (189, (.cells (T.lay .nil 0 [(.int .u8 8)]) 1 5)),
  (190, (.cells (T.lay .nil 0 [(.int .u8 215), (.int .u8 70), (.int .u8 150), (.int .u8 30)]) 4 177))]
def r1BF : T Fam := T.made [(113, ⟨139, 113⟩)]
def r1BN : Nat := 191

def r1V : Value := (.slice (some ⟨472, 0, none⟩) 2 55340232221128654850)
def r1EL : List (Nat × AObj) := [(100, (.cells (T.lay .nil 0 [(.slice (some ⟨139, 0, none⟩) 3 73786976294838206465), (.slice none 0 0), (.slice none 0 0), (.slice none 0 0), (.slice none 0 0), (.bool false)]) 6 51)),
  (101, (.map [] 0)),
  (102, (.map [] 0)),
  (103, (.map [] 0)),
  (104, (.cells (T.lay .nil 0 [(.slice none 0 0), (.slice none 0 0), (.map (some 101)), (.map (some 102)), (.map (some 103))]) 5 148)),
  (105, (.cells (T.lay .nil 0 [(.pointer (some ⟨104, 0, none⟩)), (.int .i64 0), (.string ⟨#[]⟩), (.int .i64 0), (.string ⟨#[]⟩), (.int .i64 0), (.string ⟨#[]⟩)]) 7 112)),
  (106, (.cells (T.lay .nil 0 [(.int .i64 0), (.int .i64 0), (.int .i64 0)]) 3 3)),
  (107, (.cells (T.lay .nil 0 [(.int .i64 0), (.int .i64 1), (.int .i64 1), (.int .i64 0), (.int .i64 0), (.int .i64 0), (.string ⟨#[]⟩), (.slice (some ⟨234, 0, none⟩) 1 36893488147419103235), (.int .i64 0), (.pointer (some ⟨105, 0, none⟩)), (.int .i64 0), (.slice (some ⟨106, 0, none⟩) 3 3), (.int .i64 0), (.slice (some ⟨108, 0, none⟩) 3 3), (.slice (some ⟨109, 0, none⟩) 3 3), (.slice (some ⟨110, 0, none⟩) 3 3), (.bool false), (.slice (some ⟨111, 0, none⟩) 3 3), (.slice none 0 0), (.slice none 0 0)]) 20 61)),
  (108, (.cells (T.lay .nil 0 [(.int .i64 1), (.int .i64 0), (.int .i64 0)]) 3 3)),
  (109, (.cells (T.lay .nil 0 [(.bool false), (.bool false), (.bool false)]) 3 4)),
  (110, (.cells (T.lay .nil 0 [(.pointer none), (.pointer none), (.pointer none)]) 3 104)),
  (111, (.cells (T.lay .nil 0 [(.pointer none), (.pointer none), (.pointer none)]) 3 104)),
  (114, (.map [] 0)),
  (115, (.map [] 0)),
  (116, (.map [] 0)),
  (117, (.cells (T.lay .nil 0 [(.slice none 0 0), (.slice none 0 0), (.map (some 114)), (.map (some 115)), (.map (some 116))]) 5 148)),
  (118, (.cells (T.lay .nil 0 [(.pointer (some ⟨117, 0, none⟩)), (.int .i64 0), (.string ⟨#[]⟩), (.int .i64 0), (.string ⟨#[]⟩), (.int .i64 0), (.string ⟨#[]⟩)]) 7 112)),
  (119, (.cells (T.lay .nil 0 [(.int .i64 0), (.int .i64 0), (.int .i64 0)]) 3 3)),
  (120, (.cells (T.lay .nil 0 [(.int .i64 1), (.int .i64 1), (.int .i64 1), (.int .i64 0), (.int .i64 0), (.int .i64 0), (.string ⟨#[]⟩), (.slice none 0 0), (.int .i64 0), (.pointer (some ⟨118, 0, none⟩)), (.int .i64 0), (.slice (some ⟨119, 0, none⟩) 3 3), (.int .i64 0), (.slice (some ⟨121, 0, none⟩) 3 3), (.slice (some ⟨122, 0, none⟩) 3 3), (.slice (some ⟨123, 0, none⟩) 3 3), (.bool false), (.slice (some ⟨124, 0, none⟩) 3 3), (.slice none 0 0), (.slice none 0 0)]) 20 61)),
  (121, (.cells (T.lay .nil 0 [(.int .i64 0), (.int .i64 0), (.int .i64 0)]) 3 3)),
  (122, (.cells (T.lay .nil 0 [(.bool false), (.bool false), (.bool false)]) 3 4)),
  (123, (.cells (T.lay .nil 0 [(.pointer none), (.pointer none), (.pointer none)]) 3 104)),
  (124, (.cells (T.lay .nil 0 [(.pointer none), (.pointer none), (.pointer none)]) 3 104)),
  (127, (.map [] 0)),
  (128, (.map [] 0)),
  (129, (.map [] 0)),
  (130, (.cells (T.lay .nil 0 [(.slice none 0 0), (.slice none 0 0), (.map (some 127)), (.map (some 128)), (.map (some 129))]) 5 148)),
  (131, (.cells (T.lay .nil 0 [(.pointer (some ⟨130, 0, none⟩)), (.int .i64 0), (.string ⟨#[]⟩), (.int .i64 0), (.string ⟨#[]⟩), (.int .i64 0), (.string ⟨#[]⟩)]) 7 112)),
  (132, (.cells (T.lay .nil 0 [(.int .i64 0), (.int .i64 0), (.int .i64 0)]) 3 3)),
  (133, (.cells (T.lay .nil 0 [(.int .i64 2), (.int .i64 1), (.int .i64 1), (.int .i64 0), (.int .i64 0), (.int .i64 0), (.string ⟨#[]⟩), (.slice none 0 0), (.int .i64 0), (.pointer (some ⟨131, 0, none⟩)), (.int .i64 0), (.slice (some ⟨132, 0, none⟩) 3 3), (.int .i64 0), (.slice (some ⟨134, 0, none⟩) 3 3), (.slice (some ⟨135, 0, none⟩) 3 3), (.slice (some ⟨136, 0, none⟩) 3 3), (.bool false), (.slice (some ⟨137, 0, none⟩) 3 3), (.slice none 0 0), (.slice none 0 0)]) 20 61)),
  (134, (.cells (T.lay .nil 0 [(.int .i64 0), (.int .i64 0), (.int .i64 0)]) 3 3)),
  (135, (.cells (T.lay .nil 0 [(.bool false), (.bool false), (.bool false)]) 3 4)),
  (136, (.cells (T.lay .nil 0 [(.pointer none), (.pointer none), (.pointer none)]) 3 104)),
  (137, (.cells (T.lay .nil 0 [(.pointer none), (.pointer none), (.pointer none)]) 3 104)),
  (139, (.grown (T.lay .nil 0 [(.pointer (some ⟨107, 0, none⟩)), (.pointer (some ⟨120, 0, none⟩)), (.pointer (some ⟨133, 0, none⟩))]) 3 23 113)),
  (189, (.cells (T.lay .nil 0 [(.int .u8 8)]) 1 5)),
  (190, (.cells (T.lay .nil 0 [(.int .u8 215), (.int .u8 70), (.int .u8 150), (.int .u8 30)]) 4 177)),
  (234, (.grown (T.lay .nil 0 [(.int .i64 0), (.int .i64 1), (.string ⟨#[120]⟩)]) 3 73 234)),
  (472, (.grown (T.lay .nil 0 [(.int .i64 1), (.string ⟨#[1, 17, 1, 2, 0, 0, 0, 0, 0, 0, 1, 1, 0, 0, 1, 1, 1, 1, 120, 158, 181, 23, 212]⟩), (.int .i64 2), (.string ⟨#[1, 17, 1, 2, 0, 0, 0, 0, 0, 0, 1, 1, 0, 0, 1, 1, 1, 1, 120, 158, 181, 23, 212]⟩)]) 4 76 355))]
def r1EF : T Fam := T.made [(113, ⟨139, 113⟩), (234, ⟨234, 234⟩), (355, ⟨472, 355⟩)]
def r1EN : Nat := 473

noncomputable def r1M : FuncId → List Value → St → Option (Value × St) := memoAt 7 r1A r1BL r1BF r1BN r1V ⟨T.made r1EL, r1EF, r1EN⟩

noncomputable def r1R : Bool :=
  match evalCallM Tryz.prog 100 glob ext (fun _ => false) p2M 100000 58 (.fn 7) r1A ⟨T.made r1BL, r1BF, r1BN⟩ with
  | some (v, s) => sameT v r1V && covers s ⟨T.made r1EL, r1EF, r1EN⟩ r1EL
  | none => false

set_option maxRecDepth 100000 in
theorem r1R_true : r1R = true := by kernel_rfl

theorem r1_memo (N0 : Nat) : MemoOk Tryz.prog 100 N0 glob r1M := by
  have h := r1R_true
  unfold r1R at h
  split at h
  · rename_i v s hr
    rw [Bool.and_eq_true] at h
    have hv := sameT_spec h.1
    subst hv
    exact memoAt_ok (evalCallM_sound mixed ext_ok (fun _ => false) (p2_memo _) 100000 58) hr (covers_sim h.2)
  · cases h
#print axioms r1_memo
end Go.Proofs.YtgdgoackmfbkbaaGreatDoor
