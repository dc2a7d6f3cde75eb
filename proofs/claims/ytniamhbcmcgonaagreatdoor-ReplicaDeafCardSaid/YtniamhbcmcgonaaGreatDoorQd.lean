/- A call in ReplicaDeaf's first line: what it answers, and what its memory is then: a closed run. -/
import Derived.Test.YtniamhbcmcgonaaGreatDoorPf
namespace Go.Proofs.YtniamhbcmcgonaaGreatDoor
open Go.Ev
def r4A:List Value:=[.pointer (some ⟨107,0,none⟩),.string ⟨#[1,11,1,3,1,1,0,0,0,0,0,1,1,192,74,4,60]⟩]
def r4BL:List (Nat × AObj):=[(100,(.cells (T.lay .nil 0 [.slice (some ⟨139,0,none⟩) 3 73786976294838206465,.slice (some ⟨814,2,none⟩) 1 36893488147419103234,sn,sn,sn,bf]) 6 49)),
 (101,(.map [] 0)),
 (102,(.map [] 0)),
 (103,(.map [] 0)),
 (104,(.cells (T.lay .nil 0 [sn,sn,(.map (some 101)),(.map (some 102)),(.map (some 103))]) 5 159)),
 (105,(.cells (T.lay .nil 0 [.pointer (some ⟨104,0,none⟩),ii 0,se,ii 0,se,ii 0,se]) 7 127)),
 (106,(.cells (T.lay .nil 0 [ii 0,ii 0,ii 0]) 3 3)),
 (107,(.cells (T.lay .nil 0 [ii 0,ii 1,ii 1,ii 0,ii 0,ii 0,se,.slice (some ⟨234,0,none⟩) 1 36893488147419103235,ii 0,.pointer (some ⟨105,0,none⟩),ii 0,.slice (some ⟨106,0,none⟩) 3 3,ii 0,.slice (some ⟨108,0,none⟩) 3 3,.slice (some ⟨109,0,none⟩) 3 3,.slice (some ⟨110,0,none⟩) 3 3,bf,.slice (some ⟨111,0,none⟩) 3 3,sn,sn]) 20 60)),
 (108,(.cells (T.lay .nil 0 [ii 1,ii 0,ii 0]) 3 3)),
 (109,(.cells (T.lay .nil 0 [bf,bf,bf]) 3 4)),
 (110,(.cells (T.lay .nil 0 [pn,pn,pn]) 3 103)),
 (111,(.cells (T.lay .nil 0 [pn,pn,pn]) 3 103)),
 (114,(.map [] 0)),
 (115,(.map [] 0)),
 (116,(.map [] 0)),
 (117,(.cells (T.lay .nil 0 [sn,sn,(.map (some 114)),(.map (some 115)),(.map (some 116))]) 5 159)),
 (118,(.cells (T.lay .nil 0 [.pointer (some ⟨117,0,none⟩),ii 0,se,ii 0,se,ii 0,se]) 7 127)),
 (119,(.cells (T.lay .nil 0 [ii 0,ii 0,ii 0]) 3 3)),
 (120,(.cells (T.lay .nil 0 [ii 1,ii 1,ii 1,ii 0,ii 0,ii 0,se,.slice (some ⟨557,0,none⟩) 1 36893488147419103235,ii 0,.pointer (some ⟨118,0,none⟩),ii 0,.slice (some ⟨119,0,none⟩) 3 3,ii 0,.slice (some ⟨121,0,none⟩) 3 3,.slice (some ⟨122,0,none⟩) 3 3,.slice (some ⟨123,0,none⟩) 3 3,bf,.slice (some ⟨124,0,none⟩) 3 3,sn,sn]) 20 60)),
 (121,(.cells (T.lay .nil 0 [ii 0,ii 0,ii 0]) 3 3)),
 (122,(.cells (T.lay .nil 0 [bf,bf,bf]) 3 4)),
 (123,(.cells (T.lay .nil 0 [pn,pn,pn]) 3 103)),
 (124,(.cells (T.lay .nil 0 [pn,pn,pn]) 3 103)),
 (127,(.map [] 0)),
 (128,(.map [] 0)),
 (129,(.map [] 0)),
 (130,(.cells (T.lay .nil 0 [sn,sn,(.map (some 127)),(.map (some 128)),(.map (some 129))]) 5 159)),
 (131,(.cells (T.lay .nil 0 [.pointer (some ⟨130,0,none⟩),ii 0,se,ii 0,se,ii 0,se]) 7 127)),
 (132,(.cells (T.lay .nil 0 [ii 0,ii 0,ii 0]) 3 3)),
 (133,(.cells (T.lay .nil 0 [ii 2,ii 1,ii 1,ii 0,ii 0,ii 0,se,.slice (some ⟨726,0,none⟩) 1 36893488147419103235,ii 0,.pointer (some ⟨131,0,none⟩),ii 0,.slice (some ⟨132,0,none⟩) 3 3,ii 0,.slice (some ⟨134,0,none⟩) 3 3,.slice (some ⟨135,0,none⟩) 3 3,.slice (some ⟨136,0,none⟩) 3 3,bf,.slice (some ⟨137,0,none⟩) 3 3,sn,sn]) 20 60)),
 (134,(.cells (T.lay .nil 0 [ii 0,ii 0,ii 0]) 3 3)),
 (135,(.cells (T.lay .nil 0 [bf,bf,bf]) 3 4)),
 (136,(.cells (T.lay .nil 0 [pn,pn,pn]) 3 103)),
 (137,(.cells (T.lay .nil 0 [pn,pn,pn]) 3 103)),
 (139,(.grown (T.lay .nil 0 [.pointer (some ⟨107,0,none⟩),.pointer (some ⟨120,0,none⟩),.pointer (some ⟨133,0,none⟩)]) 3 24 113)),
 (234,(.grown (T.lay .nil 0 [ii 0,ii 1,.string ⟨#[120]⟩]) 3 75 234)),
 (557,(.grown (T.lay .nil 0 [ii 0,ii 1,.string ⟨#[120]⟩]) 3 75 557)),
 (726,(.grown (T.lay .nil 0 [ii 0,ii 1,.string ⟨#[120]⟩]) 3 75 726)),
 (814,(.grown (T.lay .nil 0 [ii 0,.string ⟨#[1,11,1,3,1,1,0,0,0,0,0,1,1,192,74,4,60]⟩,ii 0,.string ⟨#[1,11,1,3,1,2,0,0,0,0,0,1,1,35,77,139,178]⟩]) 4 90 474)),
 (815,(.cells (T.lay .nil 0 [ii 0,.string ⟨#[1,11,1,3,1,1,0,0,0,0,0,1,1,192,74,4,60]⟩]) 2 90))]
def r4BF:T Fam:=T.made [(113,⟨139,113⟩),(234,⟨234,234⟩),(474,⟨814,474⟩),(557,⟨557,557⟩),(726,⟨726,726⟩)]
def r4BN:Nat:=816
def r4V:Value:=(.slice (some ⟨1015,0,none⟩) 1 36893488147419103234)
def r4EL:List (Nat × AObj):=[(100,(.cells (T.lay .nil 0 [.slice (some ⟨139,0,none⟩) 3 73786976294838206465,.slice (some ⟨814,2,none⟩) 1 36893488147419103234,sn,sn,sn,bf]) 6 49)),
 (101,(.map [] 0)),
 (102,(.map [] 0)),
 (103,(.map [] 0)),
 (104,(.cells (T.lay .nil 0 [sn,sn,(.map (some 101)),(.map (some 102)),(.map (some 103))]) 5 159)),
 (105,(.cells (T.lay .nil 0 [.pointer (some ⟨104,0,none⟩),ii 1,.string ⟨#[1,2,0,0,0,0,0,0]⟩,ii 0,se,ii 0,se]) 7 127)),
 (106,(.cells (T.lay .nil 0 [ii 0,ii 0,ii 0]) 3 3)),
 (107,(.cells (T.lay .nil 0 [ii 0,ii 1,ii 1,ii 0,ii 0,ii 0,se,.slice (some ⟨234,0,none⟩) 1 36893488147419103235,ii 1,.pointer (some ⟨105,0,none⟩),ii 0,.slice (some ⟨106,0,none⟩) 3 3,ii 0,.slice (some ⟨108,0,none⟩) 3 3,.slice (some ⟨109,0,none⟩) 3 3,.slice (some ⟨110,0,none⟩) 3 3,bf,.slice (some ⟨111,0,none⟩) 3 3,.slice (some ⟨918,0,none⟩) 1 36893488147419103236,sn]) 20 60)),
 (108,(.cells (T.lay .nil 0 [ii 1,ii 1,ii 0]) 3 3)),
 (109,(.cells (T.lay .nil 0 [bf,bf,bf]) 3 4)),
 (110,(.cells (T.lay .nil 0 [pn,pn,pn]) 3 103)),
 (111,(.cells (T.lay .nil 0 [pn,pn,pn]) 3 103)),
 (114,(.map [] 0)),
 (115,(.map [] 0)),
 (116,(.map [] 0)),
 (117,(.cells (T.lay .nil 0 [sn,sn,(.map (some 114)),(.map (some 115)),(.map (some 116))]) 5 159)),
 (118,(.cells (T.lay .nil 0 [.pointer (some ⟨117,0,none⟩),ii 0,se,ii 0,se,ii 0,se]) 7 127)),
 (119,(.cells (T.lay .nil 0 [ii 0,ii 0,ii 0]) 3 3)),
 (120,(.cells (T.lay .nil 0 [ii 1,ii 1,ii 1,ii 0,ii 0,ii 0,se,.slice (some ⟨557,0,none⟩) 1 36893488147419103235,ii 0,.pointer (some ⟨118,0,none⟩),ii 0,.slice (some ⟨119,0,none⟩) 3 3,ii 0,.slice (some ⟨121,0,none⟩) 3 3,.slice (some ⟨122,0,none⟩) 3 3,.slice (some ⟨123,0,none⟩) 3 3,bf,.slice (some ⟨124,0,none⟩) 3 3,sn,sn]) 20 60)),
 (121,(.cells (T.lay .nil 0 [ii 0,ii 0,ii 0]) 3 3)),
 (122,(.cells (T.lay .nil 0 [bf,bf,bf]) 3 4)),
 (123,(.cells (T.lay .nil 0 [pn,pn,pn]) 3 103)),
 (124,(.cells (T.lay .nil 0 [pn,pn,pn]) 3 103)),
 (127,(.map [] 0)),
 (128,(.map [] 0)),
 (129,(.map [] 0)),
 (130,(.cells (T.lay .nil 0 [sn,sn,(.map (some 127)),(.map (some 128)),(.map (some 129))]) 5 159)),
 (131,(.cells (T.lay .nil 0 [.pointer (some ⟨130,0,none⟩),ii 0,se,ii 0,se,ii 0,se]) 7 127)),
 (132,(.cells (T.lay .nil 0 [ii 0,ii 0,ii 0]) 3 3)),
 (133,(.cells (T.lay .nil 0 [ii 2,ii 1,ii 1,ii 0,ii 0,ii 0,se,.slice (some ⟨726,0,none⟩) 1 36893488147419103235,ii 0,.pointer (some ⟨131,0,none⟩),ii 0,.slice (some ⟨132,0,none⟩) 3 3,ii 0,.slice (some ⟨134,0,none⟩) 3 3,.slice (some ⟨135,0,none⟩) 3 3,.slice (some ⟨136,0,none⟩) 3 3,bf,.slice (some ⟨137,0,none⟩) 3 3,sn,sn]) 20 60)),
 (134,(.cells (T.lay .nil 0 [ii 0,ii 0,ii 0]) 3 3)),
 (135,(.cells (T.lay .nil 0 [bf,bf,bf]) 3 4)),
 (136,(.cells (T.lay .nil 0 [pn,pn,pn]) 3 103)),
 (137,(.cells (T.lay .nil 0 [pn,pn,pn]) 3 103)),
 (139,(.grown (T.lay .nil 0 [.pointer (some ⟨107,0,none⟩),.pointer (some ⟨120,0,none⟩),.pointer (some ⟨133,0,none⟩)]) 3 24 113)),
 (234,(.grown (T.lay .nil 0 [ii 0,ii 1,.string ⟨#[120]⟩]) 3 75 234)),
 (557,(.grown (T.lay .nil 0 [ii 0,ii 1,.string ⟨#[120]⟩]) 3 75 557)),
 (726,(.grown (T.lay .nil 0 [ii 0,ii 1,.string ⟨#[120]⟩]) 3 75 726)),
 (814,(.grown (T.lay .nil 0 [ii 0,.string ⟨#[1,11,1,3,1,1,0,0,0,0,0,1,1,192,74,4,60]⟩,ii 0,.string ⟨#[1,11,1,3,1,2,0,0,0,0,0,1,1,35,77,139,178]⟩]) 4 90 474)),
 (815,(.cells (T.lay .nil 0 [ii 0,.string ⟨#[1,11,1,3,1,1,0,0,0,0,0,1,1,192,74,4,60]⟩]) 2 90)),
 (918,(.grown (T.lay .nil 0 [ii 1,ii 0,ii 1,.string ⟨#[120]⟩]) 4 95 918)),
 (1015,(.grown (T.lay .nil 0 [(.int .i64 (Int.negSucc 0)),.string ⟨#[1,21,1,4,0,0,0,0,0,0,0,1,1,1,8,1,2,0,0,0,0,0,0,232,80,158,143]⟩]) 2 88 1015))]
def r4EF:T Fam:=T.made [(113,⟨139,113⟩),(234,⟨234,234⟩),(474,⟨814,474⟩),(557,⟨557,557⟩),(726,⟨726,726⟩),(918,⟨918,918⟩),(1015,⟨1015,1015⟩)]
def r4EN:Nat:=1017
noncomputable def r4M:FuncId→List Value→St→Option (Value × St):=memoAt 7 r4A r4BL r4BF r4BN r4V ⟨T.made r4EL,r4EF,r4EN⟩
noncomputable def r4R:Bool:=
 match evalCallM Tryz.prog 100 glob ext (fun _=>false) p6M 100000 58 (.fn 7) r4A ⟨T.made r4BL,r4BF,r4BN⟩ with
 | some (v,s)=>sameT v r4V && covers s ⟨T.made r4EL,r4EF,r4EN⟩ r4EL
 | none=>false
set_option maxRecDepth 100000 in
theorem r4R_true:r4R=true:=by kernel_rfl
theorem r4_memo (N0:Nat):MemoOk Tryz.prog 100 N0 glob r4M:=by
 have h:=r4R_true
 unfold r4R at h
 split at h
 ·rename_i v s hr
  rw [Bool.and_eq_true] at h
  have hv:=sameT_spec h.1
  subst hv
  exact memoAt_ok (evalCallM_sound mixed ext_ok (fun _=>false) (p6_memo _) 100000 58) hr (covers_sim h.2)
 ·cases h
#print axioms r4_memo
end Go.Proofs.YtniamhbcmcgonaaGreatDoor
