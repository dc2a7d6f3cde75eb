/- A call in ReplicaDeaf's first line: what it answers, and what its memory is then: a closed run. -/
import Derived.Test.YtniamhbcmcgonaaGreatDoorPb
namespace Go.Proofs.YtniamhbcmcgonaaGreatDoor
open Go.Ev
def r1A:List Value:=[.pointer (some ⟨107,0,none⟩),.string ⟨#[1,8,1,1,0,1,1,1,1,120,215,70,150,30]⟩]
def r1BL:List (Nat × AObj):=[(100,(.cells (T.lay .nil 0 [.slice (some ⟨139,0,none⟩) 3 73786976294838206465,sn,sn,sn,sn,bf]) 6 49)),
 (101,(.map [] 0)),
 (102,(.map [] 0)),
 (103,(.map [] 0)),
 (104,(.cells (T.lay .nil 0 [sn,sn,(.map (some 101)),(.map (some 102)),(.map (some 103))]) 5 159)),
 (105,(.cells (T.lay .nil 0 [.pointer (some ⟨104,0,none⟩),ii 0,se,ii 0,se,ii 0,se]) 7 127)),
 (106,(.cells (T.lay .nil 0 [ii 0,ii 0,ii 0]) 3 3)),
 (107,(.cells (T.lay .nil 0 [ii 0,ii 1,ii 1,ii 0,ii 0,ii 0,se,sn,ii 0,.pointer (some ⟨105,0,none⟩),ii 0,.slice (some ⟨106,0,none⟩) 3 3,ii 0,.slice (some ⟨108,0,none⟩) 3 3,.slice (some ⟨109,0,none⟩) 3 3,.slice (some ⟨110,0,none⟩) 3 3,bf,.slice (some ⟨111,0,none⟩) 3 3,sn,sn]) 20 60)),
 (108,(.cells (T.lay .nil 0 [ii 0,ii 0,ii 0]) 3 3)),
 (109,(.cells (T.lay .nil 0 [bf,bf,bf]) 3 4)),
 (110,(.cells (T.lay .nil 0 [pn,pn,pn]) 3 103)),
 (111,(.cells (T.lay .nil 0 [pn,pn,pn]) 3 103)),
 (114,(.map [] 0)),
 (115,(.map [] 0)),
 (116,(.map [] 0)),
 (117,(.cells (T.lay .nil 0 [sn,sn,(.map (some 114)),(.map (some 115)),(.map (some 116))]) 5 159)),
 (118,(.cells (T.lay .nil 0 [.pointer (some ⟨117,0,none⟩),ii 0,se,ii 0,se,ii 0,se]) 7 127)),
 (119,(.cells (T.lay .nil 0 [ii 0,ii 0,ii 0]) 3 3)),
 (120,(.cells (T.lay .nil 0 [ii 1,ii 1,ii 1,ii 0,ii 0,ii 0,se,sn,ii 0,.pointer (some ⟨118,0,none⟩),ii 0,.slice (some ⟨119,0,none⟩) 3 3,ii 0,.slice (some ⟨121,0,none⟩) 3 3,.slice (some ⟨122,0,none⟩) 3 3,.slice (some ⟨123,0,none⟩) 3 3,bf,.slice (some ⟨124,0,none⟩) 3 3,sn,sn]) 20 60)),
 (121,(.cells (T.lay .nil 0 [ii 0,ii 0,ii 0]) 3 3)),
 (122,(.cells (T.lay .nil 0 [bf,bf,bf]) 3 4)),
 (123,(.cells (T.lay .nil 0 [pn,pn,pn]) 3 103)),
 (124,(.cells (T.lay .nil 0 [pn,pn,pn]) 3 103)),
 (127,(.map [] 0)),
 (128,(.map [] 0)),
 (129,(.map [] 0)),
 (130,(.cells (T.lay .nil 0 [sn,sn,(.map (some 127)),(.map (some 128)),(.map (some 129))]) 5 159)),
 (131,(.cells (T.lay .nil 0 [.pointer (some ⟨130,0,none⟩),ii 0,se,ii 0,se,ii 0,se]) 7 127)),
 (132,(.cells (T.lay .nil 0 [ii 0,ii 0,ii 0]) 3 3)),
 (133,(.cells (T.lay .nil 0 [ii 2,ii 1,ii 1,ii 0,ii 0,ii 0,se,sn,ii 0,.pointer (some ⟨131,0,none⟩),ii 0,.slice (some ⟨132,0,none⟩) 3 3,ii 0,.slice (some ⟨134,0,none⟩) 3 3,.slice (some ⟨135,0,none⟩) 3 3,.slice (some ⟨136,0,none⟩) 3 3,bf,.slice (some ⟨137,0,none⟩) 3 3,sn,sn]) 20 60)),
 (134,(.cells (T.lay .nil 0 [ii 0,ii 0,ii 0]) 3 3)),
 (135,(.cells (T.lay .nil 0 [bf,bf,bf]) 3 4)),
 (136,(.cells (T.lay .nil 0 [pn,pn,pn]) 3 103)),
 (137,(.cells (T.lay .nil 0 [pn,pn,pn]) 3 103)),
 (139,(.grown (T.lay .nil 0 [.pointer (some ⟨107,0,none⟩),.pointer (some ⟨120,0,none⟩),.pointer (some ⟨133,0,none⟩)]) 3 24 113)),
 (189,(.cells (T.lay .nil 0 [ub 8]) 1 5)),
 (190,(.cells (T.lay .nil 0 [ub 215,ub 70,ub 150,ub 30]) 4 150))]
def r1BF:T Fam:=T.made [(113,⟨139,113⟩)]
def r1BN:Nat:=191
def r1V:Value:=(.slice (some ⟨472,0,none⟩) 2 55340232221128654850)
def r1EL:List (Nat × AObj):=[(100,(.cells (T.lay .nil 0 [.slice (some ⟨139,0,none⟩) 3 73786976294838206465,sn,sn,sn,sn,bf]) 6 49)),
 (101,(.map [] 0)),
 (102,(.map [] 0)),
 (103,(.map [] 0)),
 (104,(.cells (T.lay .nil 0 [sn,sn,(.map (some 101)),(.map (some 102)),(.map (some 103))]) 5 159)),
 (105,(.cells (T.lay .nil 0 [.pointer (some ⟨104,0,none⟩),ii 0,se,ii 0,se,ii 0,se]) 7 127)),
 (106,(.cells (T.lay .nil 0 [ii 0,ii 0,ii 0]) 3 3)),
 (107,(.cells (T.lay .nil 0 [ii 0,ii 1,ii 1,ii 0,ii 0,ii 0,se,.slice (some ⟨234,0,none⟩) 1 36893488147419103235,ii 0,.pointer (some ⟨105,0,none⟩),ii 0,.slice (some ⟨106,0,none⟩) 3 3,ii 0,.slice (some ⟨108,0,none⟩) 3 3,.slice (some ⟨109,0,none⟩) 3 3,.slice (some ⟨110,0,none⟩) 3 3,bf,.slice (some ⟨111,0,none⟩) 3 3,sn,sn]) 20 60)),
 (108,(.cells (T.lay .nil 0 [ii 1,ii 0,ii 0]) 3 3)),
 (109,(.cells (T.lay .nil 0 [bf,bf,bf]) 3 4)),
 (110,(.cells (T.lay .nil 0 [pn,pn,pn]) 3 103)),
 (111,(.cells (T.lay .nil 0 [pn,pn,pn]) 3 103)),
 (114,(.map [] 0)),
 (115,(.map [] 0)),
 (116,(.map [] 0)),
 (117,(.cells (T.lay .nil 0 [sn,sn,(.map (some 114)),(.map (some 115)),(.map (some 116))]) 5 159)),
 (118,(.cells (T.lay .nil 0 [.pointer (some ⟨117,0,none⟩),ii 0,se,ii 0,se,ii 0,se]) 7 127)),
 (119,(.cells (T.lay .nil 0 [ii 0,ii 0,ii 0]) 3 3)),
 (120,(.cells (T.lay .nil 0 [ii 1,ii 1,ii 1,ii 0,ii 0,ii 0,se,sn,ii 0,.pointer (some ⟨118,0,none⟩),ii 0,.slice (some ⟨119,0,none⟩) 3 3,ii 0,.slice (some ⟨121,0,none⟩) 3 3,.slice (some ⟨122,0,none⟩) 3 3,.slice (some ⟨123,0,none⟩) 3 3,bf,.slice (some ⟨124,0,none⟩) 3 3,sn,sn]) 20 60)),
 (121,(.cells (T.lay .nil 0 [ii 0,ii 0,ii 0]) 3 3)),
 (122,(.cells (T.lay .nil 0 [bf,bf,bf]) 3 4)),
 (123,(.cells (T.lay .nil 0 [pn,pn,pn]) 3 103)),
 (124,(.cells (T.lay .nil 0 [pn,pn,pn]) 3 103)),
 (127,(.map [] 0)),
 (128,(.map [] 0)),
 (129,(.map [] 0)),
 (130,(.cells (T.lay .nil 0 [sn,sn,(.map (some 127)),(.map (some 128)),(.map (some 129))]) 5 159)),
 (131,(.cells (T.lay .nil 0 [.pointer (some ⟨130,0,none⟩),ii 0,se,ii 0,se,ii 0,se]) 7 127)),
 (132,(.cells (T.lay .nil 0 [ii 0,ii 0,ii 0]) 3 3)),
 (133,(.cells (T.lay .nil 0 [ii 2,ii 1,ii 1,ii 0,ii 0,ii 0,se,sn,ii 0,.pointer (some ⟨131,0,none⟩),ii 0,.slice (some ⟨132,0,none⟩) 3 3,ii 0,.slice (some ⟨134,0,none⟩) 3 3,.slice (some ⟨135,0,none⟩) 3 3,.slice (some ⟨136,0,none⟩) 3 3,bf,.slice (some ⟨137,0,none⟩) 3 3,sn,sn]) 20 60)),
 (134,(.cells (T.lay .nil 0 [ii 0,ii 0,ii 0]) 3 3)),
 (135,(.cells (T.lay .nil 0 [bf,bf,bf]) 3 4)),
 (136,(.cells (T.lay .nil 0 [pn,pn,pn]) 3 103)),
 (137,(.cells (T.lay .nil 0 [pn,pn,pn]) 3 103)),
 (139,(.grown (T.lay .nil 0 [.pointer (some ⟨107,0,none⟩),.pointer (some ⟨120,0,none⟩),.pointer (some ⟨133,0,none⟩)]) 3 24 113)),
 (189,(.cells (T.lay .nil 0 [ub 8]) 1 5)),
 (190,(.cells (T.lay .nil 0 [ub 215,ub 70,ub 150,ub 30]) 4 150)),
 (234,(.grown (T.lay .nil 0 [ii 0,ii 1,.string ⟨#[120]⟩]) 3 75 234)),
 (472,(.grown (T.lay .nil 0 [ii 1,.string ⟨#[1,17,1,2,0,0,0,0,0,0,1,1,0,0,1,1,1,1,120,158,181,23,212]⟩,ii 2,.string ⟨#[1,17,1,2,0,0,0,0,0,0,1,1,0,0,1,1,1,1,120,158,181,23,212]⟩]) 4 88 355))]
def r1EF:T Fam:=T.made [(113,⟨139,113⟩),(234,⟨234,234⟩),(355,⟨472,355⟩)]
def r1EN:Nat:=473
noncomputable def r1M:FuncId→List Value→St→Option (Value × St):=memoAt 7 r1A r1BL r1BF r1BN r1V ⟨T.made r1EL,r1EF,r1EN⟩
noncomputable def r1R:Bool:=
 match evalCallM Tryz.prog 100 glob ext (fun _=>false) p2M 100000 58 (.fn 7) r1A ⟨T.made r1BL,r1BF,r1BN⟩ with
 | some (v,s)=>sameT v r1V && covers s ⟨T.made r1EL,r1EF,r1EN⟩ r1EL
 | none=>false
set_option maxRecDepth 100000 in
theorem r1R_true:r1R=true:=by kernel_rfl
theorem r1_memo (N0:Nat):MemoOk Tryz.prog 100 N0 glob r1M:=by
 have h:=r1R_true
 unfold r1R at h
 split at h
 ·rename_i v s hr
  rw [Bool.and_eq_true] at h
  have hv:=sameT_spec h.1
  subst hv
  exact memoAt_ok (evalCallM_sound mixed ext_ok (fun _=>false) (p2_memo _) 100000 58) hr (covers_sim h.2)
 ·cases h
#print axioms r1_memo
end Go.Proofs.YtniamhbcmcgonaaGreatDoor
