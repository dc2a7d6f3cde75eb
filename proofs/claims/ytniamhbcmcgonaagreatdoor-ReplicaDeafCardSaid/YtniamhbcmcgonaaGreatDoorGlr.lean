/- The tables that a replica's first line reads: the register of the frames' sums. -/
import Derived.Test.YtniamhbcmcgonaaGreatDoorEvD
import Derived.Test.YtniamhbcmcgonaaGreatDoorExt
import Derived.LaidMore
namespace Go.Proofs.YtniamhbcmcgonaaGreatDoor
open Go.Ev
def ii (n:Int):Value:= .int .i64 n
def ub (n:Int):Value:= .int .u8 n
def sn:Value:= .slice none 0 0
def bf:Value:= .bool false
def se:Value:= .string ⟨#[]⟩
def pn:Value:= .pointer none
noncomputable def halvesL:List Value:=(cellsAs Tryz.prog 5 176 (Rows.laid_primer_frame_halves (H:=Unit))).getD []
noncomputable def halvesT:T Value:=T.lay .nil 0 halvesL
noncomputable def glob:Glob:=fun b o=>
 match b with
 | 0=>halvesT.get o
 | _=>none
theorem halves_is:cellsAs Tryz.prog 5 176 (Rows.laid_primer_frame_halves (H:=Unit))=some halvesL:=by
 have h:(cellsAs Tryz.prog 5 176 (Rows.laid_primer_frame_halves (H:=Unit))).isSome=true:=by kernel_rfl
 unfold halvesL
 cases hc:cellsAs Tryz.prog 5 176 (Rows.laid_primer_frame_halves (H:=Unit)) with
 | none=>rw [hc] at h; cases h
 | some l=>rfl
theorem halves_flat:flatL halvesL=true:=by kernel_rfl
theorem lay_get {l:List Value} {o:Nat} {u:Value} (h:(T.lay .nil 0 l).get o=some u):l[o]?=some u:=by
 rw [T.get_lay] at h
 split at h
 ·simpa using h
 ·rw [T.get_nil] at h; cases h
theorem block_of_cell {w:World} {b o:Nat} {u:Value} (h:w.cell? ⟨b,o,none⟩=some u):b < w.heap.size:=by
 rcases Nat.lt_or_ge b w.heap.size with h' | h'
 ·exact h'
 ·simp [World.cell?,Array.getElem?_eq_none h'] at h
def GlobMet (w:World):Prop:=∀ b o u,glob b o=some u→b < w.heap.size∧b < 100∧w.cell? ⟨b,o,none⟩=some u∧flat u=true
theorem glob_ok {w:World} {laid:List (String × DataW Unit)} (hL:laidMet Tryz.prog laid w) (hmem:("primer/frame.halves", Rows.laid_primer_frame_halves) ∈ laid):GlobMet w:=by
 intro b o u h
 have main:b < 100∧w.cell? ⟨b,o,none⟩=some u∧flat u=true:=by
  unfold glob at h
  split at h
  ·have h2:=lay_get h
   refine ⟨by decide,?_,flatL_all _ halves_flat _ _ h2⟩
   exact laid_cell hL (name:= "primer/frame.halves") hmem (g:=0) (t:=176) (by kernel_rfl) (by kernel_rfl) halves_is o u h2
  ·cases h
 exact ⟨block_of_cell main.2.1,main⟩
def noMemo:FuncId→List Value→St→Option (Value × St):=fun _ _ _=>none
theorem noMemo_ok {G N0:Nat} {g:Glob}:MemoOk Tryz.prog G N0 g noMemo:=fun f args st v st' h=>by cases h
#print axioms glob_ok
end Go.Proofs.YtniamhbcmcgonaaGreatDoor
