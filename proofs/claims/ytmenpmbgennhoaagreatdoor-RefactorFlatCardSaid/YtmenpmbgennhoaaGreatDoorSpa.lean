/- A call in RefactorFlat's first line: what it answers, and what its memory is then: a closed run. -/
import Derived.Test.YtmenpmbgennhoaaGreatDoorGlt
namespace Go.Proofs.YtmenpmbgennhoaaGreatDoor
open Go.Ev
def p1A:List Value:=[(.string ⟨#[83,58,32,97,32,39,120,39,59,32,97,58,32,39,121,39,124,59]⟩)]
def p1BL:List (Nat × AObj):=[]
def p1BF:T Fam:=T.made []
def p1BN:Nat:=100
def p1V:Value:=(.tuple #[(.agg #[(.string ⟨#[83]⟩),(.slice (some ⟨279,0,none⟩) 2 55340232221128654852)]),(.agg #[(.int .i64 0),(.int .i64 0),(.int .i64 0)])])
def p1EL:List (Nat × AObj):=[(211,(.grown (T.lay .nil 0 [(.int .i64 1),(.string ⟨#[97]⟩),(.slice none 0 0),(.int .i64 2),(.string ⟨#[120]⟩),(.slice none 0 0)]) 6 57 195)),
 (271,(.grown (T.lay .nil 0 [(.int .i64 2),(.string ⟨#[121]⟩),(.slice none 0 0),(.int .i64 3),(.string ⟨#[]⟩),(.slice none 0 0)]) 6 57 271)),
 (279,(.grown (T.lay .nil 0 [(.string ⟨#[83]⟩),(.int .i64 3),(.string ⟨#[]⟩),(.slice (some ⟨211,0,none⟩) 2 55340232221128654851),(.string ⟨#[97]⟩),(.int .i64 4),(.string ⟨#[]⟩),(.slice (some ⟨271,0,none⟩) 2 55340232221128654851)]) 8 61 225))]
def p1EF:T Fam:=T.made [(195,⟨211,195⟩),(225,⟨279,225⟩),(271,⟨271,271⟩)]
def p1EN:Nat:=282
noncomputable def p1M:FuncId→List Value→St→Option (Value × St):=memoAt 9 p1A p1BL p1BF p1BN p1V ⟨T.made p1EL,p1EF,p1EN⟩
noncomputable def p1R:Bool:=
 match evalCallM Tryz.prog 100 glob ext (fun _=>false) noMemo 100000 58 (.fn 9) p1A ⟨T.made p1BL,p1BF,p1BN⟩ with
 | some (v,s)=>sameT v p1V && covers s ⟨T.made p1EL,p1EF,p1EN⟩ p1EL
 | none=>false
set_option maxRecDepth 100000 in
theorem p1R_true:p1R=true:=by kernel_rfl
theorem p1_memo (N0:Nat):MemoOk Tryz.prog 100 N0 glob p1M:=by
 have h:=p1R_true
 unfold p1R at h
 split at h
 ·rename_i v s hr
  rw [Bool.and_eq_true] at h
  have hv:=sameT_spec h.1
  subst hv
  exact memoAt_ok (evalCallM_sound mixed ext_ok (fun _=>false) noMemo_ok 100000 58) hr (covers_sim h.2)
 ·cases h
#print axioms p1_memo
end Go.Proofs.YtmenpmbgennhoaaGreatDoor
