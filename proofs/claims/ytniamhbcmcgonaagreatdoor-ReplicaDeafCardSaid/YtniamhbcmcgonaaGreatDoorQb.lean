/- A call in ReplicaDeaf's first line: what it answers, and what its memory is then: a closed run. -/
import Derived.Test.YtniamhbcmcgonaaGreatDoorPd
namespace Go.Proofs.YtniamhbcmcgonaaGreatDoor
open Go.Ev
def r2A:List Value:=[.pointer (some ⟨120,0,none⟩),.string ⟨#[1,17,1,2,0,0,0,0,0,0,1,1,0,0,1,1,1,1,120,158,181,23,212]⟩]
def r2BL:List (Nat × AObj):=[(100,(.cells (T.lay .nil 0 [.slice (some ⟨139,0,none⟩) 3 73786976294838206465,.slice (some ⟨476,2,none⟩) 1 36893488147419103234,sn,sn,sn,bf]) 6 49)),
 (101,(.map [] 0)),
 (102,(.map [] 0)),
 (103,(.map [] 0)),
 (104,(.cells (T.lay .nil 0 [sn,sn,(.map (some 101)),(.map (some 102)),(.map (some 103))]) 5 159)),
 (105,(.cells (T.lay .nil 0 [.pointer (some ⟨104,0,none⟩),ii 0,se,ii 0,se,ii 0,se]) 7 127)),
 (106,(.cells (T.lay .nil 0 [ii 0,ii 0,ii 0]) 3 3)),
 (107,(.cells (T.lay .nil 0 [ii 0,ii 1,ii 1,ii 0,ii 0,ii 0,se,.slice (some ⟨234,0,none⟩) 1 36893488147419103235,ii 0,.pointer (some ⟨105,0,none⟩),ii 0,.slice (some ⟨106,0,none⟩) 3 3,ii 0,.slice (some ⟨108,0,none⟩) 3 3,.slice (some ⟨109,0,none⟩) 3 3,.slice (some ⟨110,0,none⟩) 3 3,bf,.slice (some ⟨111,0,none⟩) 3 3,sn,sn]) 20 60)),
 (108,(.cells (T.lay .nil 0 [ii 1,ii 0,ii 0]) 3 3)),
 (109,(.cells (T.lay .nil 0 [bf,bf,bf]) 3 4)),
 (110,(.cells (T.lay .nil 0 [pn,pn,pn]) 3 103)),
 (111,(.cells (T.lay .nil 0 [pn,pn,pn]) 3 103)),
 (114,(.map [] 0)),
 (115,(.map [] 0)),
 (116,(.map [] 0)),
 (117,(.cells (T.lay .nil 0 [sn,sn,(.map (some 114)),(.map (some 115)),(.map (some 116))]) 5 159)),
 (118,(.cells (T.lay .nil 0 [.pointer (some ⟨117,0,none⟩),ii 0,se,ii 0,se,ii 0,se]) 7 127)),
 (119,(.cells (T.lay .nil 0 [ii 0,ii 0,ii 0]) 3 3)),
 (120,(.cells (T.lay .nil 0 [ii 1,ii 1,ii 1,ii 0,ii 0,ii 0,se,sn,ii 0,.pointer (some ⟨118,0,none⟩),ii 0,.slice (some ⟨119,0,none⟩) 3 3,ii 0,.slice (some ⟨121,0,none⟩) 3 3,.slice (some ⟨122,0,none⟩) 3 3,.slice (some ⟨123,0,none⟩) 3 3,bf,.slice (some ⟨124,0,none⟩) 3 3,sn,sn]) 20 60)),
 (121,(.cells (T.lay .nil 0 [ii 0,ii 0,ii 0]) 3 3)),
 (122,(.cells (T.lay .nil 0 [bf,bf,bf]) 3 4)),
 (123,(.cells (T.lay .nil 0 [pn,pn,pn]) 3 103)),
 (124,(.cells (T.lay .nil 0 [pn,pn,pn]) 3 103)),
 (127,(.map [] 0)),
 (128,(.map [] 0)),
 (129,(.map [] 0)),
 (130,(.cells (T.lay .nil 0 [sn,sn,(.map (some 127)),(.map (some 128)),(.map (some 129))]) 5 159)),
 (131,(.cells (T.lay .nil 0 [.pointer (some ⟨130,0,none⟩),ii 0,se,ii 0,se,ii 0,se]) 7 127)),
 (132,(.cells (T.lay .nil 0 [ii 0,ii 0,ii 0]) 3 3)),
 (133,(.cells (T.lay .nil 0 [ii 2,ii 1,ii 1,ii 0,ii 0,ii 0,se,sn,ii 0,.pointer (some ⟨131,0,none⟩),ii 0,.slice (some ⟨132,0,none⟩) 3 3,ii 0,.slice (some ⟨134,0,none⟩) 3 3,.slice (some ⟨135,0,none⟩) 3 3,.slice (some ⟨136,0,none⟩) 3 3,bf,.slice (some ⟨137,0,none⟩) 3 3,sn,sn]) 20 60)),
 (134,(.cells (T.lay .nil 0 [ii 0,ii 0,ii 0]) 3 3)),
 (135,(.cells (T.lay .nil 0 [bf,bf,bf]) 3 4)),
 (136,(.cells (T.lay .nil 0 [pn,pn,pn]) 3 103)),
 (137,(.cells (T.lay .nil 0 [pn,pn,pn]) 3 103)),
 (139,(.grown (T.lay .nil 0 [.pointer (some ⟨107,0,none⟩),.pointer (some ⟨120,0,none⟩),.pointer (some ⟨133,0,none⟩)]) 3 24 113)),
 (234,(.grown (T.lay .nil 0 [ii 0,ii 1,.string ⟨#[120]⟩]) 3 75 234)),
 (476,(.grown (T.lay .nil 0 [ii 1,.string ⟨#[1,17,1,2,0,0,0,0,0,0,1,1,0,0,1,1,1,1,120,158,181,23,212]⟩,ii 2,.string ⟨#[1,17,1,2,0,0,0,0,0,0,1,1,0,0,1,1,1,1,120,158,181,23,212]⟩]) 4 90 474)),
 (477,(.cells (T.lay .nil 0 [ii 1,.string ⟨#[1,17,1,2,0,0,0,0,0,0,1,1,0,0,1,1,1,1,120,158,181,23,212]⟩]) 2 90))]
def r2BF:T Fam:=T.made [(113,⟨139,113⟩),(234,⟨234,234⟩),(474,⟨476,474⟩)]
def r2BN:Nat:=478
def r2V:Value:=(.slice (some ⟨642,0,none⟩) 1 36893488147419103234)
def r2EL:List (Nat × AObj):=[(100,(.cells (T.lay .nil 0 [.slice (some ⟨139,0,none⟩) 3 73786976294838206465,.slice (some ⟨476,2,none⟩) 1 36893488147419103234,sn,sn,sn,bf]) 6 49)),
 (101,(.map [] 0)),
 (102,(.map [] 0)),
 (103,(.map [] 0)),
 (104,(.cells (T.lay .nil 0 [sn,sn,(.map (some 101)),(.map (some 102)),(.map (some 103))]) 5 159)),
 (105,(.cells (T.lay .nil 0 [.pointer (some ⟨104,0,none⟩),ii 0,se,ii 0,se,ii 0,se]) 7 127)),
 (106,(.cells (T.lay .nil 0 [ii 0,ii 0,ii 0]) 3 3)),
 (107,(.cells (T.lay .nil 0 [ii 0,ii 1,ii 1,ii 0,ii 0,ii 0,se,.slice (some ⟨234,0,none⟩) 1 36893488147419103235,ii 0,.pointer (some ⟨105,0,none⟩),ii 0,.slice (some ⟨106,0,none⟩) 3 3,ii 0,.slice (some ⟨108,0,none⟩) 3 3,.slice (some ⟨109,0,none⟩) 3 3,.slice (some ⟨110,0,none⟩) 3 3,bf,.slice (some ⟨111,0,none⟩) 3 3,sn,sn]) 20 60)),
 (108,(.cells (T.lay .nil 0 [ii 1,ii 0,ii 0]) 3 3)),
 (109,(.cells (T.lay .nil 0 [bf,bf,bf]) 3 4)),
 (110,(.cells (T.lay .nil 0 [pn,pn,pn]) 3 103)),
 (111,(.cells (T.lay .nil 0 [pn,pn,pn]) 3 103)),
 (114,(.map [] 0)),
 (115,(.map [] 0)),
 (116,(.map [] 0)),
 (117,(.cells (T.lay .nil 0 [sn,sn,(.map (some 114)),(.map (some 115)),(.map (some 116))]) 5 159)),
 (118,(.cells (T.lay .nil 0 [.pointer (some ⟨117,0,none⟩),ii 0,se,ii 0,se,ii 0,se]) 7 127)),
 (119,(.cells (T.lay .nil 0 [ii 0,ii 0,ii 0]) 3 3)),
 (120,(.cells (T.lay .nil 0 [ii 1,ii 1,ii 1,ii 0,ii 0,ii 0,se,.slice (some ⟨557,0,none⟩) 1 36893488147419103235,ii 0,.pointer (some ⟨118,0,none⟩),ii 0,.slice (some ⟨119,0,none⟩) 3 3,ii 0,.slice (some ⟨121,0,none⟩) 3 3,.slice (some ⟨122,0,none⟩) 3 3,.slice (some ⟨123,0,none⟩) 3 3,bf,.slice (some ⟨124,0,none⟩) 3 3,sn,sn]) 20 60)),
 (121,(.cells (T.lay .nil 0 [ii 0,ii 0,ii 0]) 3 3)),
 (122,(.cells (T.lay .nil 0 [bf,bf,bf]) 3 4)),
 (123,(.cells (T.lay .nil 0 [pn,pn,pn]) 3 103)),
 (124,(.cells (T.lay .nil 0 [pn,pn,pn]) 3 103)),
 (127,(.map [] 0)),
 (128,(.map [] 0)),
 (129,(.map [] 0)),
 (130,(.cells (T.lay .nil 0 [sn,sn,(.map (some 127)),(.map (some 128)),(.map (some 129))]) 5 159)),
 (131,(.cells (T.lay .nil 0 [.pointer (some ⟨130,0,none⟩),ii 0,se,ii 0,se,ii 0,se]) 7 127)),
 (132,(.cells (T.lay .nil 0 [ii 0,ii 0,ii 0]) 3 3)),
 (133,(.cells (T.lay .nil 0 [ii 2,ii 1,ii 1,ii 0,ii 0,ii 0,se,sn,ii 0,.pointer (some ⟨131,0,none⟩),ii 0,.slice (some ⟨132,0,none⟩) 3 3,ii 0,.slice (some ⟨134,0,none⟩) 3 3,.slice (some ⟨135,0,none⟩) 3 3,.slice (some ⟨136,0,none⟩) 3 3,bf,.slice (some ⟨137,0,none⟩) 3 3,sn,sn]) 20 60)),
 (134,(.cells (T.lay .nil 0 [ii 0,ii 0,ii 0]) 3 3)),
 (135,(.cells (T.lay .nil 0 [bf,bf,bf]) 3 4)),
 (136,(.cells (T.lay .nil 0 [pn,pn,pn]) 3 103)),
 (137,(.cells (T.lay .nil 0 [pn,pn,pn]) 3 103)),
 (139,(.grown (T.lay .nil 0 [.pointer (some ⟨107,0,none⟩),.pointer (some ⟨120,0,none⟩),.pointer (some ⟨133,0,none⟩)]) 3 24 113)),
 (234,(.grown (T.lay .nil 0 [ii 0,ii 1,.string ⟨#[120]⟩]) 3 75 234)),
 (476,(.grown (T.lay .nil 0 [ii 1,.string ⟨#[1,17,1,2,0,0,0,0,0,0,1,1,0,0,1,1,1,1,120,158,181,23,212]⟩,ii 2,.string ⟨#[1,17,1,2,0,0,0,0,0,0,1,1,0,0,1,1,1,1,120,158,181,23,212]⟩]) 4 90 474)),
 (477,(.cells (T.lay .nil 0 [ii 1,.string ⟨#[1,17,1,2,0,0,0,0,0,0,1,1,0,0,1,1,1,1,120,158,181,23,212]⟩]) 2 90)),
 (557,(.grown (T.lay .nil 0 [ii 0,ii 1,.string ⟨#[120]⟩]) 3 75 557)),
 (642,(.grown (T.lay .nil 0 [ii 0,.string ⟨#[1,11,1,3,1,1,0,0,0,0,0,1,1,192,74,4,60]⟩]) 2 88 642))]
def r2EF:T Fam:=T.made [(113,⟨139,113⟩),(234,⟨234,234⟩),(474,⟨476,474⟩),(557,⟨557,557⟩),(642,⟨642,642⟩)]
def r2EN:Nat:=644
noncomputable def r2M:FuncId→List Value→St→Option (Value × St):=memoAt 7 r2A r2BL r2BF r2BN r2V ⟨T.made r2EL,r2EF,r2EN⟩
noncomputable def r2R:Bool:=
 match evalCallM Tryz.prog 100 glob ext (fun _=>false) p4M 100000 58 (.fn 7) r2A ⟨T.made r2BL,r2BF,r2BN⟩ with
 | some (v,s)=>sameT v r2V && covers s ⟨T.made r2EL,r2EF,r2EN⟩ r2EL
 | none=>false
set_option maxRecDepth 100000 in
theorem r2R_true:r2R=true:=by kernel_rfl
theorem r2_memo (N0:Nat):MemoOk Tryz.prog 100 N0 glob r2M:=by
 have h:=r2R_true
 unfold r2R at h
 split at h
 ·rename_i v s hr
  rw [Bool.and_eq_true] at h
  have hv:=sameT_spec h.1
  subst hv
  exact memoAt_ok (evalCallM_sound mixed ext_ok (fun _=>false) (p4_memo _) 100000 58) hr (covers_sim h.2)
 ·cases h
#print axioms r2_memo
end Go.Proofs.YtniamhbcmcgonaaGreatDoor
