/- A call in RefactorFlat's first line: what it answers, and what its memory is then: a closed run. -/
import Derived.Test.YtmenpmbgennhoaaGreatDoorGlt
namespace Go.Proofs.YtmenpmbgennhoaaGreatDoor
open Go.Ev
def ilA:List Value:=[(.agg #[(.string ⟨#[83]⟩),(.slice (some ⟨279,0,none⟩) 2 55340232221128654852)]),(.string ⟨#[97]⟩)]
def ilBL:List (Nat × AObj):=[(211,(.grown (T.lay .nil 0 [(.int .i64 1),(.string ⟨#[97]⟩),(.slice none 0 0),(.int .i64 2),(.string ⟨#[120]⟩),(.slice none 0 0)]) 6 57 195)),
 (271,(.grown (T.lay .nil 0 [(.int .i64 2),(.string ⟨#[121]⟩),(.slice none 0 0),(.int .i64 3),(.string ⟨#[]⟩),(.slice none 0 0)]) 6 57 271)),
 (279,(.grown (T.lay .nil 0 [(.string ⟨#[83]⟩),(.int .i64 3),(.string ⟨#[]⟩),(.slice (some ⟨211,0,none⟩) 2 55340232221128654851),(.string ⟨#[97]⟩),(.int .i64 4),(.string ⟨#[]⟩),(.slice (some ⟨271,0,none⟩) 2 55340232221128654851)]) 8 61 225)),
 (282,(.cells (T.lay .nil 0 [(.string ⟨#[83]⟩),(.slice (some ⟨279,0,none⟩) 2 55340232221128654852)]) 2 25)),
 (283,(.cells (T.lay .nil 0 [(.int .i64 0),(.int .i64 0),(.int .i64 0)]) 3 43))]
def ilBF:T Fam:=T.made [(195,⟨211,195⟩),(225,⟨279,225⟩),(271,⟨271,271⟩)]
def ilBN:Nat:=284
def ilV:Value:=(.tuple #[(.agg #[(.string ⟨#[83]⟩),(.slice (some ⟨439,0,none⟩) 1 36893488147419103236)]),(.int .i64 0)])
def ilEL:List (Nat × AObj):=[(211,(.grown (T.lay .nil 0 [(.int .i64 1),(.string ⟨#[97]⟩),(.slice none 0 0),(.int .i64 2),(.string ⟨#[120]⟩),(.slice none 0 0)]) 6 57 195)),
 (271,(.grown (T.lay .nil 0 [(.int .i64 2),(.string ⟨#[121]⟩),(.slice none 0 0),(.int .i64 3),(.string ⟨#[]⟩),(.slice none 0 0)]) 6 57 271)),
 (279,(.grown (T.lay .nil 0 [(.string ⟨#[83]⟩),(.int .i64 3),(.string ⟨#[]⟩),(.slice (some ⟨211,0,none⟩) 2 55340232221128654851),(.string ⟨#[97]⟩),(.int .i64 4),(.string ⟨#[]⟩),(.slice (some ⟨271,0,none⟩) 2 55340232221128654851)]) 8 61 225)),
 (282,(.cells (T.lay .nil 0 [(.string ⟨#[83]⟩),(.slice (some ⟨279,0,none⟩) 2 55340232221128654852)]) 2 25)),
 (283,(.cells (T.lay .nil 0 [(.int .i64 0),(.int .i64 0),(.int .i64 0)]) 3 43)),
 (420,(.grown (T.lay .nil 0 [(.int .i64 2),(.string ⟨#[121]⟩),(.slice none 0 0),(.int .i64 3),(.string ⟨#[]⟩),(.slice none 0 0)]) 6 57 414)),
 (428,(.grown (T.lay .nil 0 [(.int .i64 4),(.string ⟨#[]⟩),(.slice (some ⟨420,0,none⟩) 2 55340232221128654851),(.int .i64 2),(.string ⟨#[120]⟩),(.slice none 0 0)]) 6 57 422)),
 (439,(.grown (T.lay .nil 0 [(.string ⟨#[83]⟩),(.int .i64 3),(.string ⟨#[]⟩),(.slice (some ⟨428,0,none⟩) 2 55340232221128654851)]) 4 61 439))]
def ilEF:T Fam:=T.made [(195,⟨211,195⟩),(225,⟨279,225⟩),(271,⟨271,271⟩),(414,⟨420,414⟩),(422,⟨428,422⟩),(439,⟨439,439⟩)]
def ilEN:Nat:=779
noncomputable def ilM:FuncId→List Value→St→Option (Value × St):=memoAt 10 ilA ilBL ilBF ilBN ilV ⟨T.made ilEL,ilEF,ilEN⟩
noncomputable def ilR:Bool:=
 match evalCallM Tryz.prog 100 glob ext (fun _=>false) noMemo 100000 58 (.fn 10) ilA ⟨T.made ilBL,ilBF,ilBN⟩ with
 | some (v,s)=>sameT v ilV && covers s ⟨T.made ilEL,ilEF,ilEN⟩ ilEL
 | none=>false
set_option maxRecDepth 100000 in
theorem ilR_true:ilR=true:=by kernel_rfl
theorem il_memo (N0:Nat):MemoOk Tryz.prog 100 N0 glob ilM:=by
 have h:=ilR_true
 unfold ilR at h
 split at h
 ·rename_i v s hr
  rw [Bool.and_eq_true] at h
  have hv:=sameT_spec h.1
  subst hv
  exact memoAt_ok (evalCallM_sound mixed ext_ok (fun _=>false) noMemo_ok 100000 58) hr (covers_sim h.2)
 ·cases h
#print axioms il_memo
end Go.Proofs.YtmenpmbgennhoaaGreatDoor
