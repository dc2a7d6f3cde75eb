/- A call in ReplicaDeaf's first line: what it answers, and what its memory is then: a closed run. -/
import Derived.Test.YtniamhbcmcgonaaGreatDoorPe
namespace Go.Proofs.YtniamhbcmcgonaaGreatDoor
open Go.Ev
def r3A:List Value:=[.pointer (some ⟨133,0,none⟩),.string ⟨#[1,17,1,2,0,0,0,0,0,0,1,1,0,0,1,1,1,1,120,158,181,23,212]⟩]
def r3BL:List (Nat × AObj):=[(100,(.cells (T.lay .nil 0 [.slice (some ⟨139,0,none⟩) 3 73786976294838206465,.slice (some ⟨645,2,none⟩) 1 36893488147419103234,sn,sn,sn,bf]) 6 49)),
 (101,(.map [] 0)),
 (102,(.map [] 0)),
 (103,(.map [] 0)),
 (104,(.cells (T.lay .nil 0 [sn,sn,(.map (some 101)),(.map (some 102)),(.map (some 103))]) 5 159)),
 (105,(.cells (T.lay .nil 0 [.pointer (some ⟨104,0,none⟩),ii 0,se,ii 0,se,ii 0,se]) 7 127)),
 (106,(.cells (T.lay .nil 0 [ii 0,ii 0,ii 0]) 3 3)),
 (107,(.cells (T.lay .nil 0 [ii 0,ii 1,ii 1,ii 0,ii 0,ii 0,se,.slice (some ⟨234,0,none⟩) 1 36893488147419103235,ii 0,.pointer (some ⟨105,0,none⟩),ii 0,.slice (some ⟨106,0,none⟩) 3 3,ii 0,.slice (some ⟨108,0,none⟩) 3 3,.slice (some ⟨109,0,none⟩) 3 3,.slice (some ⟨110,0,none⟩) 3 3,bf,.slice (some ⟨111,0,none⟩) 3 3,sn,sn]) 20 60)),
 (108,(.cells (T.lay .nil 0 [ii 1,ii 0,ii 0]) 3 3)),
 (109,(.cells (T.lay .nil 0 [bf,bf,bf]) 3 4)),
 (110,(.cells (T.lay .nil 0 [pn,pn,pn]) 3 103)),
 (111,(.cells (T.lay .nil 0 [pn,pn,pn]) 3 103)),
 (114,(.map [] 0)),
 (115,(.map [] 0)),
 (116,(.map [] 0)),
 (117,(.cells (T.lay .nil 0 [sn,sn,(.map (some 114)),(.map (some 115)),(.map (some 116))]) 5 159)),
 (118,(.cells (T.lay .nil 0 [.pointer (some ⟨117,0,none⟩),ii 0,se,ii 0,se,ii 0,se]) 7 127)),
 (119,(.cells (T.lay .nil 0 [ii 0,ii 0,ii 0]) 3 3)),
 (120,(.cells (T.lay .nil 0 [ii 1,ii 1,ii 1,ii 0,ii 0,ii 0,se,.slice (some ⟨557,0,none⟩) 1 36893488147419103235,ii 0,.pointer (some ⟨118,0,none⟩),ii 0,.slice (some ⟨119,0,none⟩) 3 3,ii 0,.slice (some ⟨121,0,none⟩) 3 3,.slice (some ⟨122,0,none⟩) 3 3,.slice (some ⟨123,0,none⟩) 3 3,bf,.slice (some ⟨124,0,none⟩) 3 3,sn,sn]) 20 60)),
 (121,(.cells (T.lay .nil 0 [ii 0,ii 0,ii 0]) 3 3)),
 (122,(.cells (T.lay .nil 0 [bf,bf,bf]) 3 4)),
 (123,(.cells (T.lay .nil 0 [pn,pn,pn]) 3 103)),
 (124,(.cells (T.lay .nil 0 [pn,pn,pn]) 3 103)),
 (127,(.map [] 0)),
 (128,(.map [] 0)),
 (129,(.map [] 0)),
 (130,(.cells (T.lay .nil 0 [sn,sn,(.map (some 127)),(.map (some 128)),(.map (some 129))]) 5 159)),
 (131,(.cells (T.lay .nil 0 [.pointer (some ⟨130,0,none⟩),ii 0,se,ii 0,se,ii 0,se]) 7 127)),
 (132,(.cells (T.lay .nil 0 [ii 0,ii 0,ii 0]) 3 3)),
 (133,(.cells (T.lay .nil 0 [ii 2,ii 1,ii 1,ii 0,ii 0,ii 0,se,sn,ii 0,.pointer (some ⟨131,0,none⟩),ii 0,.slice (some ⟨132,0,none⟩) 3 3,ii 0,.slice (some ⟨134,0,none⟩) 3 3,.slice (some ⟨135,0,none⟩) 3 3,.slice (some ⟨136,0,none⟩) 3 3,bf,.slice (some ⟨137,0,none⟩) 3 3,sn,sn]) 20 60)),
 (134,(.cells (T.lay .nil 0 [ii 0,ii 0,ii 0]) 3 3)),
 (135,(.cells (T.lay .nil 0 [bf,bf,bf]) 3 4)),
 (136,(.cells (T.lay .nil 0 [pn,pn,pn]) 3 103)),
 (137,(.cells (T.lay .nil 0 [pn,pn,pn]) 3 103)),
 (139,(.grown (T.lay .nil 0 [.pointer (some ⟨107,0,none⟩),.pointer (some ⟨120,0,none⟩),.pointer (some ⟨133,0,none⟩)]) 3 24 113)),
 (234,(.grown (T.lay .nil 0 [ii 0,ii 1,.string ⟨#[120]⟩]) 3 75 234)),
 (557,(.grown (T.lay .nil 0 [ii 0,ii 1,.string ⟨#[120]⟩]) 3 75 557)),
 (645,(.grown (T.lay .nil 0 [ii 2,.string ⟨#[1,17,1,2,0,0,0,0,0,0,1,1,0,0,1,1,1,1,120,158,181,23,212]⟩,ii 0,.string ⟨#[1,11,1,3,1,1,0,0,0,0,0,1,1,192,74,4,60]⟩]) 4 90 474)),
 (646,(.cells (T.lay .nil 0 [ii 2,.string ⟨#[1,17,1,2,0,0,0,0,0,0,1,1,0,0,1,1,1,1,120,158,181,23,212]⟩]) 2 90))]
def r3BF:T Fam:=T.made [(113,⟨139,113⟩),(234,⟨234,234⟩),(474,⟨645,474⟩),(557,⟨557,557⟩)]
def r3BN:Nat:=647
def r3V:Value:=(.slice (some ⟨811,0,none⟩) 1 36893488147419103234)
def r3EL:List (Nat × AObj):=[(100,(.cells (T.lay .nil 0 [.slice (some ⟨139,0,none⟩) 3 73786976294838206465,.slice (some ⟨645,2,none⟩) 1 36893488147419103234,sn,sn,sn,bf]) 6 49)),
 (101,(.map [] 0)),
 (102,(.map [] 0)),
 (103,(.map [] 0)),
 (104,(.cells (T.lay .nil 0 [sn,sn,(.map (some 101)),(.map (some 102)),(.map (some 103))]) 5 159)),
 (105,(.cells (T.lay .nil 0 [.pointer (some ⟨104,0,none⟩),ii 0,se,ii 0,se,ii 0,se]) 7 127)),
 (106,(.cells (T.lay .nil 0 [ii 0,ii 0,ii 0]) 3 3)),
 (107,(.cells (T.lay .nil 0 [ii 0,ii 1,ii 1,ii 0,ii 0,ii 0,se,.slice (some ⟨234,0,none⟩) 1 36893488147419103235,ii 0,.pointer (some ⟨105,0,none⟩),ii 0,.slice (some ⟨106,0,none⟩) 3 3,ii 0,.slice (some ⟨108,0,none⟩) 3 3,.slice (some ⟨109,0,none⟩) 3 3,.slice (some ⟨110,0,none⟩) 3 3,bf,.slice (some ⟨111,0,none⟩) 3 3,sn,sn]) 20 60)),
 (108,(.cells (T.lay .nil 0 [ii 1,ii 0,ii 0]) 3 3)),
 (109,(.cells (T.lay .nil 0 [bf,bf,bf]) 3 4)),
 (110,(.cells (T.lay .nil 0 [pn,pn,pn]) 3 103)),
 (111,(.cells (T.lay .nil 0 [pn,pn,pn]) 3 103)),
 (114,(.map [] 0)),
 (115,(.map [] 0)),
 (116,(.map [] 0)),
 (117,(.cells (T.lay .nil 0 [sn,sn,(.map (some 114)),(.map (some 115)),(.map (some 116))]) 5 159)),
 (118,(.cells (T.lay .nil 0 [.pointer (some ⟨117,0,none⟩),ii 0,se,ii 0,se,ii 0,se]) 7 127)),
 (119,(.cells (T.lay .nil 0 [ii 0,ii 0,ii 0]) 3 3)),
 (120,(.cells (T.lay .nil 0 [ii 1,ii 1,ii 1,ii 0,ii 0,ii 0,se,.slice (some ⟨557,0,none⟩) 1 36893488147419103235,ii 0,.pointer (some ⟨118,0,none⟩),ii 0,.slice (some ⟨119,0,none⟩) 3 3,ii 0,.slice (some ⟨121,0,none⟩) 3 3,.slice (some ⟨122,0,none⟩) 3 3,.slice (some ⟨123,0,none⟩) 3 3,bf,.slice (some ⟨124,0,none⟩) 3 3,sn,sn]) 20 60)),
 (121,(.cells (T.lay .nil 0 [ii 0,ii 0,ii 0]) 3 3)),
 (122,(.cells (T.lay .nil 0 [bf,bf,bf]) 3 4)),
 (123,(.cells (T.lay .nil 0 [pn,pn,pn]) 3 103)),
 (124,(.cells (T.lay .nil 0 [pn,pn,pn]) 3 103)),
 (127,(.map [] 0)),
 (128,(.map [] 0)),
 (129,(.map [] 0)),
 (130,(.cells (T.lay .nil 0 [sn,sn,(.map (some 127)),(.map (some 128)),(.map (some 129))]) 5 159)),
 (131,(.cells (T.lay .nil 0 [.pointer (some ⟨130,0,none⟩),ii 0,se,ii 0,se,ii 0,se]) 7 127)),
 (132,(.cells (T.lay .nil 0 [ii 0,ii 0,ii 0]) 3 3)),
 (133,(.cells (T.lay .nil 0 [ii 2,ii 1,ii 1,ii 0,ii 0,ii 0,se,.slice (some ⟨726,0,none⟩) 1 36893488147419103235,ii 0,.pointer (some ⟨131,0,none⟩),ii 0,.slice (some ⟨132,0,none⟩) 3 3,ii 0,.slice (some ⟨134,0,none⟩) 3 3,.slice (some ⟨135,0,none⟩) 3 3,.slice (some ⟨136,0,none⟩) 3 3,bf,.slice (some ⟨137,0,none⟩) 3 3,sn,sn]) 20 60)),
 (134,(.cells (T.lay .nil 0 [ii 0,ii 0,ii 0]) 3 3)),
 (135,(.cells (T.lay .nil 0 [bf,bf,bf]) 3 4)),
 (136,(.cells (T.lay .nil 0 [pn,pn,pn]) 3 103)),
 (137,(.cells (T.lay .nil 0 [pn,pn,pn]) 3 103)),
 (139,(.grown (T.lay .nil 0 [.pointer (some ⟨107,0,none⟩),.pointer (some ⟨120,0,none⟩),.pointer (some ⟨133,0,none⟩)]) 3 24 113)),
 (234,(.grown (T.lay .nil 0 [ii 0,ii 1,.string ⟨#[120]⟩]) 3 75 234)),
 (557,(.grown (T.lay .nil 0 [ii 0,ii 1,.string ⟨#[120]⟩]) 3 75 557)),
 (645,(.grown (T.lay .nil 0 [ii 2,.string ⟨#[1,17,1,2,0,0,0,0,0,0,1,1,0,0,1,1,1,1,120,158,181,23,212]⟩,ii 0,.string ⟨#[1,11,1,3,1,1,0,0,0,0,0,1,1,192,74,4,60]⟩]) 4 90 474)),
 (646,(.cells (T.lay .nil 0 [ii 2,.string ⟨#[1,17,1,2,0,0,0,0,0,0,1,1,0,0,1,1,1,1,120,158,181,23,212]⟩]) 2 90)),
 (726,(.grown (T.lay .nil 0 [ii 0,ii 1,.string ⟨#[120]⟩]) 3 75 726)),
 (811,(.grown (T.lay .nil 0 [ii 0,.string ⟨#[1,11,1,3,1,2,0,0,0,0,0,1,1,35,77,139,178]⟩]) 2 88 811))]
def r3EF:T Fam:=T.made [(113,⟨139,113⟩),(234,⟨234,234⟩),(474,⟨645,474⟩),(557,⟨557,557⟩),(726,⟨726,726⟩),(811,⟨811,811⟩)]
def r3EN:Nat:=813
noncomputable def r3M:FuncId→List Value→St→Option (Value × St):=memoAt 7 r3A r3BL r3BF r3BN r3V ⟨T.made r3EL,r3EF,r3EN⟩
noncomputable def r3R:Bool:=
 match evalCallM Tryz.prog 100 glob ext (fun _=>false) p5M 100000 58 (.fn 7) r3A ⟨T.made r3BL,r3BF,r3BN⟩ with
 | some (v,s)=>sameT v r3V && covers s ⟨T.made r3EL,r3EF,r3EN⟩ r3EL
 | none=>false
set_option maxRecDepth 100000 in
theorem r3R_true:r3R=true:=by kernel_rfl
theorem r3_memo (N0:Nat):MemoOk Tryz.prog 100 N0 glob r3M:=by
 have h:=r3R_true
 unfold r3R at h
 split at h
 ·rename_i v s hr
  rw [Bool.and_eq_true] at h
  have hv:=sameT_spec h.1
  subst hv
  exact memoAt_ok (evalCallM_sound mixed ext_ok (fun _=>false) (p5_memo _) 100000 58) hr (covers_sim h.2)
 ·cases h
#print axioms r3_memo
end Go.Proofs.YtniamhbcmcgonaaGreatDoor
