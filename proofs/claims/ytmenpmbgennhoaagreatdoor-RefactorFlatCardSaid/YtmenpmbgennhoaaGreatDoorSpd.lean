/- A call in RefactorFlat's first line: what it answers, and what its memory is then: a closed run. -/
import Derived.Test.YtmenpmbgennhoaaGreatDoorGlt
namespace Go.Proofs.YtmenpmbgennhoaaGreatDoor
open Go.Ev
def f2A:List Value:=[(.agg #[(.string ⟨#[83]⟩),(.slice (some ⟨279,0,none⟩) 2 55340232221128654852)])]
def f2BL:List (Nat × AObj):=[(211,(.grown (T.lay .nil 0 [(.int .i64 1),(.string ⟨#[97]⟩),(.slice none 0 0),(.int .i64 2),(.string ⟨#[120]⟩),(.slice none 0 0)]) 6 57 195)),
 (271,(.grown (T.lay .nil 0 [(.int .i64 2),(.string ⟨#[121]⟩),(.slice none 0 0),(.int .i64 3),(.string ⟨#[]⟩),(.slice none 0 0)]) 6 57 271)),
 (279,(.grown (T.lay .nil 0 [(.string ⟨#[83]⟩),(.int .i64 3),(.string ⟨#[]⟩),(.slice (some ⟨211,0,none⟩) 2 55340232221128654851),(.string ⟨#[97]⟩),(.int .i64 4),(.string ⟨#[]⟩),(.slice (some ⟨271,0,none⟩) 2 55340232221128654851)]) 8 61 225)),
 (282,(.cells (T.lay .nil 0 [(.string ⟨#[83]⟩),(.slice (some ⟨279,0,none⟩) 2 55340232221128654852)]) 2 25)),
 (283,(.cells (T.lay .nil 0 [(.int .i64 0),(.int .i64 0),(.int .i64 0)]) 3 43)),
 (420,(.grown (T.lay .nil 0 [(.int .i64 2),(.string ⟨#[121]⟩),(.slice none 0 0),(.int .i64 3),(.string ⟨#[]⟩),(.slice none 0 0)]) 6 57 414)),
 (428,(.grown (T.lay .nil 0 [(.int .i64 4),(.string ⟨#[]⟩),(.slice (some ⟨420,0,none⟩) 2 55340232221128654851),(.int .i64 2),(.string ⟨#[120]⟩),(.slice none 0 0)]) 6 57 422)),
 (439,(.grown (T.lay .nil 0 [(.string ⟨#[83]⟩),(.int .i64 3),(.string ⟨#[]⟩),(.slice (some ⟨428,0,none⟩) 2 55340232221128654851)]) 4 61 439)),
 (779,(.cells (T.lay .nil 0 [(.string ⟨#[83]⟩),(.slice (some ⟨439,0,none⟩) 1 36893488147419103236)]) 2 25)),
 (887,(.grown (T.lay .nil 0 [(.int .i64 2),(.string ⟨#[121]⟩),(.slice none 0 0),(.int .i64 3),(.string ⟨#[]⟩),(.slice none 0 0)]) 6 57 887)),
 (922,(.grown (T.lay .nil 0 [(.int .i64 4),(.string ⟨#[]⟩),(.slice (some ⟨887,0,none⟩) 2 55340232221128654851),(.int .i64 2),(.string ⟨#[120]⟩),(.slice none 0 0)]) 6 57 906)),
 (936,(.grown (T.lay .nil 0 [(.string ⟨#[83]⟩),(.int .i64 3),(.string ⟨#[]⟩),(.slice (some ⟨922,0,none⟩) 2 55340232221128654851)]) 4 61 936)),
 (939,(.cells (T.lay .nil 0 [(.string ⟨#[83]⟩),(.slice (some ⟨936,0,none⟩) 1 36893488147419103236)]) 2 25)),
 (940,(.cells (T.lay .nil 0 [(.int .i64 0),(.int .i64 0),(.int .i64 0)]) 3 43))]
def f2BF:T Fam:=T.made [(195,⟨211,195⟩),(225,⟨279,225⟩),(271,⟨271,271⟩),(414,⟨420,414⟩),(422,⟨428,422⟩),(439,⟨439,439⟩),(887,⟨887,887⟩),(906,⟨922,906⟩),(936,⟨936,936⟩)]
def f2BN:Nat:=965
def f2V:Value:=(.bool true)
def f2EL:List (Nat × AObj):=[(211,(.grown (T.lay .nil 0 [(.int .i64 1),(.string ⟨#[97]⟩),(.slice none 0 0),(.int .i64 2),(.string ⟨#[120]⟩),(.slice none 0 0)]) 6 57 195)),
 (271,(.grown (T.lay .nil 0 [(.int .i64 2),(.string ⟨#[121]⟩),(.slice none 0 0),(.int .i64 3),(.string ⟨#[]⟩),(.slice none 0 0)]) 6 57 271)),
 (279,(.grown (T.lay .nil 0 [(.string ⟨#[83]⟩),(.int .i64 3),(.string ⟨#[]⟩),(.slice (some ⟨211,0,none⟩) 2 55340232221128654851),(.string ⟨#[97]⟩),(.int .i64 4),(.string ⟨#[]⟩),(.slice (some ⟨271,0,none⟩) 2 55340232221128654851)]) 8 61 225)),
 (282,(.cells (T.lay .nil 0 [(.string ⟨#[83]⟩),(.slice (some ⟨279,0,none⟩) 2 55340232221128654852)]) 2 25)),
 (283,(.cells (T.lay .nil 0 [(.int .i64 0),(.int .i64 0),(.int .i64 0)]) 3 43)),
 (420,(.grown (T.lay .nil 0 [(.int .i64 2),(.string ⟨#[121]⟩),(.slice none 0 0),(.int .i64 3),(.string ⟨#[]⟩),(.slice none 0 0)]) 6 57 414)),
 (428,(.grown (T.lay .nil 0 [(.int .i64 4),(.string ⟨#[]⟩),(.slice (some ⟨420,0,none⟩) 2 55340232221128654851),(.int .i64 2),(.string ⟨#[120]⟩),(.slice none 0 0)]) 6 57 422)),
 (439,(.grown (T.lay .nil 0 [(.string ⟨#[83]⟩),(.int .i64 3),(.string ⟨#[]⟩),(.slice (some ⟨428,0,none⟩) 2 55340232221128654851)]) 4 61 439)),
 (779,(.cells (T.lay .nil 0 [(.string ⟨#[83]⟩),(.slice (some ⟨439,0,none⟩) 1 36893488147419103236)]) 2 25)),
 (887,(.grown (T.lay .nil 0 [(.int .i64 2),(.string ⟨#[121]⟩),(.slice none 0 0),(.int .i64 3),(.string ⟨#[]⟩),(.slice none 0 0)]) 6 57 887)),
 (922,(.grown (T.lay .nil 0 [(.int .i64 4),(.string ⟨#[]⟩),(.slice (some ⟨887,0,none⟩) 2 55340232221128654851),(.int .i64 2),(.string ⟨#[120]⟩),(.slice none 0 0)]) 6 57 906)),
 (936,(.grown (T.lay .nil 0 [(.string ⟨#[83]⟩),(.int .i64 3),(.string ⟨#[]⟩),(.slice (some ⟨922,0,none⟩) 2 55340232221128654851)]) 4 61 936)),
 (939,(.cells (T.lay .nil 0 [(.string ⟨#[83]⟩),(.slice (some ⟨936,0,none⟩) 1 36893488147419103236)]) 2 25)),
 (940,(.cells (T.lay .nil 0 [(.int .i64 0),(.int .i64 0),(.int .i64 0)]) 3 43))]
def f2EF:T Fam:=T.made [(195,⟨211,195⟩),(225,⟨279,225⟩),(271,⟨271,271⟩),(414,⟨420,414⟩),(422,⟨428,422⟩),(439,⟨439,439⟩),(887,⟨887,887⟩),(906,⟨922,906⟩),(936,⟨936,936⟩)]
def f2EN:Nat:=1346
noncomputable def f2M:FuncId→List Value→St→Option (Value × St):=memoAt 11 f2A f2BL f2BF f2BN f2V ⟨T.made f2EL,f2EF,f2EN⟩
noncomputable def f2R:Bool:=
 match evalCallM Tryz.prog 100 glob ext (fun _=>false) noMemo 100000 58 (.fn 11) f2A ⟨T.made f2BL,f2BF,f2BN⟩ with
 | some (v,s)=>sameT v f2V && covers s ⟨T.made f2EL,f2EF,f2EN⟩ f2EL
 | none=>false
set_option maxRecDepth 100000 in
theorem f2R_true:f2R=true:=by kernel_rfl
theorem f2_memo (N0:Nat):MemoOk Tryz.prog 100 N0 glob f2M:=by
 have h:=f2R_true
 unfold f2R at h
 split at h
 ·rename_i v s hr
  rw [Bool.and_eq_true] at h
  have hv:=sameT_spec h.1
  subst hv
  exact memoAt_ok (evalCallM_sound mixed ext_ok (fun _=>false) noMemo_ok 100000 58) hr (covers_sim h.2)
 ·cases h
#print axioms f2_memo
end Go.Proofs.YtmenpmbgennhoaaGreatDoor
