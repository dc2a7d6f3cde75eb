/- A call in RefactorFlat's first line: what it answers, and what its memory is then: a closed run. -/
import Derived.Test.YtmenpmbgennhoaaGreatDoorGlt
namespace Go.Proofs.YtmenpmbgennhoaaGreatDoor
open Go.Ev
def p3A:List Value:=[(.string ⟨#[83,58,32,40,39,121,39,124,41,32,39,120,39,59]⟩)]
def p3BL:List (Nat × AObj):=[(211,(.grown (T.lay .nil 0 [(.int .i64 1),(.string ⟨#[97]⟩),(.slice none 0 0),(.int .i64 2),(.string ⟨#[120]⟩),(.slice none 0 0)]) 6 57 195)),
 (271,(.grown (T.lay .nil 0 [(.int .i64 2),(.string ⟨#[121]⟩),(.slice none 0 0),(.int .i64 3),(.string ⟨#[]⟩),(.slice none 0 0)]) 6 57 271)),
 (279,(.grown (T.lay .nil 0 [(.string ⟨#[83]⟩),(.int .i64 3),(.string ⟨#[]⟩),(.slice (some ⟨211,0,none⟩) 2 55340232221128654851),(.string ⟨#[97]⟩),(.int .i64 4),(.string ⟨#[]⟩),(.slice (some ⟨271,0,none⟩) 2 55340232221128654851)]) 8 61 225)),
 (282,(.cells (T.lay .nil 0 [(.string ⟨#[83]⟩),(.slice (some ⟨279,0,none⟩) 2 55340232221128654852)]) 2 25)),
 (283,(.cells (T.lay .nil 0 [(.int .i64 0),(.int .i64 0),(.int .i64 0)]) 3 43)),
 (420,(.grown (T.lay .nil 0 [(.int .i64 2),(.string ⟨#[121]⟩),(.slice none 0 0),(.int .i64 3),(.string ⟨#[]⟩),(.slice none 0 0)]) 6 57 414)),
 (428,(.grown (T.lay .nil 0 [(.int .i64 4),(.string ⟨#[]⟩),(.slice (some ⟨420,0,none⟩) 2 55340232221128654851),(.int .i64 2),(.string ⟨#[120]⟩),(.slice none 0 0)]) 6 57 422)),
 (439,(.grown (T.lay .nil 0 [(.string ⟨#[83]⟩),(.int .i64 3),(.string ⟨#[]⟩),(.slice (some ⟨428,0,none⟩) 2 55340232221128654851)]) 4 61 439)),
 (779,(.cells (T.lay .nil 0 [(.string ⟨#[83]⟩),(.slice (some ⟨439,0,none⟩) 1 36893488147419103236)]) 2 25))]
def p3BF:T Fam:=T.made [(195,⟨211,195⟩),(225,⟨279,225⟩),(271,⟨271,271⟩),(414,⟨420,414⟩),(422,⟨428,422⟩),(439,⟨439,439⟩)]
def p3BN:Nat:=780
def p3V:Value:=(.tuple #[(.agg #[(.string ⟨#[83]⟩),(.slice (some ⟨936,0,none⟩) 1 36893488147419103236)]),(.agg #[(.int .i64 0),(.int .i64 0),(.int .i64 0)])])
def p3EL:List (Nat × AObj):=[(211,(.grown (T.lay .nil 0 [(.int .i64 1),(.string ⟨#[97]⟩),(.slice none 0 0),(.int .i64 2),(.string ⟨#[120]⟩),(.slice none 0 0)]) 6 57 195)),
 (271,(.grown (T.lay .nil 0 [(.int .i64 2),(.string ⟨#[121]⟩),(.slice none 0 0),(.int .i64 3),(.string ⟨#[]⟩),(.slice none 0 0)]) 6 57 271)),
 (279,(.grown (T.lay .nil 0 [(.string ⟨#[83]⟩),(.int .i64 3),(.string ⟨#[]⟩),(.slice (some ⟨211,0,none⟩) 2 55340232221128654851),(.string ⟨#[97]⟩),(.int .i64 4),(.string ⟨#[]⟩),(.slice (some ⟨271,0,none⟩) 2 55340232221128654851)]) 8 61 225)),
 (282,(.cells (T.lay .nil 0 [(.string ⟨#[83]⟩),(.slice (some ⟨279,0,none⟩) 2 55340232221128654852)]) 2 25)),
 (283,(.cells (T.lay .nil 0 [(.int .i64 0),(.int .i64 0),(.int .i64 0)]) 3 43)),
 (420,(.grown (T.lay .nil 0 [(.int .i64 2),(.string ⟨#[121]⟩),(.slice none 0 0),(.int .i64 3),(.string ⟨#[]⟩),(.slice none 0 0)]) 6 57 414)),
 (428,(.grown (T.lay .nil 0 [(.int .i64 4),(.string ⟨#[]⟩),(.slice (some ⟨420,0,none⟩) 2 55340232221128654851),(.int .i64 2),(.string ⟨#[120]⟩),(.slice none 0 0)]) 6 57 422)),
 (439,(.grown (T.lay .nil 0 [(.string ⟨#[83]⟩),(.int .i64 3),(.string ⟨#[]⟩),(.slice (some ⟨428,0,none⟩) 2 55340232221128654851)]) 4 61 439)),
 (779,(.cells (T.lay .nil 0 [(.string ⟨#[83]⟩),(.slice (some ⟨439,0,none⟩) 1 36893488147419103236)]) 2 25)),
 (887,(.grown (T.lay .nil 0 [(.int .i64 2),(.string ⟨#[121]⟩),(.slice none 0 0),(.int .i64 3),(.string ⟨#[]⟩),(.slice none 0 0)]) 6 57 887)),
 (922,(.grown (T.lay .nil 0 [(.int .i64 4),(.string ⟨#[]⟩),(.slice (some ⟨887,0,none⟩) 2 55340232221128654851),(.int .i64 2),(.string ⟨#[120]⟩),(.slice none 0 0)]) 6 57 906)),
 (936,(.grown (T.lay .nil 0 [(.string ⟨#[83]⟩),(.int .i64 3),(.string ⟨#[]⟩),(.slice (some ⟨922,0,none⟩) 2 55340232221128654851)]) 4 61 936))]
def p3EF:T Fam:=T.made [(195,⟨211,195⟩),(225,⟨279,225⟩),(271,⟨271,271⟩),(414,⟨420,414⟩),(422,⟨428,422⟩),(439,⟨439,439⟩),(887,⟨887,887⟩),(906,⟨922,906⟩),(936,⟨936,936⟩)]
def p3EN:Nat:=939
noncomputable def p3M:FuncId→List Value→St→Option (Value × St):=memoAt 9 p3A p3BL p3BF p3BN p3V ⟨T.made p3EL,p3EF,p3EN⟩
noncomputable def p3R:Bool:=
 match evalCallM Tryz.prog 100 glob ext (fun _=>false) noMemo 100000 58 (.fn 9) p3A ⟨T.made p3BL,p3BF,p3BN⟩ with
 | some (v,s)=>sameT v p3V && covers s ⟨T.made p3EL,p3EF,p3EN⟩ p3EL
 | none=>false
set_option maxRecDepth 100000 in
theorem p3R_true:p3R=true:=by kernel_rfl
theorem p3_memo (N0:Nat):MemoOk Tryz.prog 100 N0 glob p3M:=by
 have h:=p3R_true
 unfold p3R at h
 split at h
 ·rename_i v s hr
  rw [Bool.and_eq_true] at h
  have hv:=sameT_spec h.1
  subst hv
  exact memoAt_ok (evalCallM_sound mixed ext_ok (fun _=>false) noMemo_ok 100000 58) hr (covers_sim h.2)
 ·cases h
#print axioms p3_memo
end Go.Proofs.YtmenpmbgennhoaaGreatDoor
