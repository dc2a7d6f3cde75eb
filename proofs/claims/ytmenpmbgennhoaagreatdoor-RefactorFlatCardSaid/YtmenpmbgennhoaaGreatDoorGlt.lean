/- The tables that RefactorFlat's first line reads. -/
import Derived.Test.YtmenpmbgennhoaaGreatDoorEvD
import Derived.Test.YtmenpmbgennhoaaGreatDoorExt
import Derived.LaidMore
namespace Go.Proofs.YtmenpmbgennhoaaGreatDoor
open Go.Ev
noncomputable def cellsU:List Value:=(cellsAs Tryz.prog 5 180 Rows.laid_internal_strconv_uint64pow10).getD []
noncomputable def tabU:T Value:=T.lay .nil 0 cellsU
noncomputable def glob:Glob:=fun b o=>
 match b with
 | 1=>tabU.get o
 | _=>none
theorem cellsU_is:cellsAs Tryz.prog 5 180 Rows.laid_internal_strconv_uint64pow10=some cellsU:=by
 have h:(cellsAs Tryz.prog 5 180 Rows.laid_internal_strconv_uint64pow10).isSome=true:=by kernel_rfl
 unfold cellsU
 cases hc:cellsAs Tryz.prog 5 180 Rows.laid_internal_strconv_uint64pow10 with
 | none=>rw [hc] at h; cases h
 | some l=>rfl
theorem flatU:flatL cellsU=true:=by kernel_rfl
def laidAll:List (String × DataW Unit):=[("math/bits.deBruijn32tab", Rows.laid_math_bits_deBruijn32tab),("math/bits.deBruijn64tab", Rows.laid_math_bits_deBruijn64tab),("internal/strconv.uint64pow10", Rows.laid_internal_strconv_uint64pow10)]
theorem lay_get {l:List Value} {o:Nat} {u:Value} (h:(T.lay .nil 0 l).get o=some u):l[o]?=some u:=by
 rw [T.get_lay] at h
 split at h
 ·simpa using h
 ·rw [T.get_nil] at h; cases h
theorem block_of_cell {w:World} {b o:Nat} {u:Value} (h:w.cell? ⟨b,o,none⟩=some u):b < w.heap.size:=by
 rcases Nat.lt_or_ge b w.heap.size with h' | h'
 ·exact h'
 ·simp [World.cell?,Array.getElem?_eq_none h'] at h
theorem laid_u {w:World} (hL:laidMet Tryz.prog laidAll w) (o:Nat) (u:Value) (h:cellsU[o]?=some u):w.cell? ⟨1,o,none⟩=some u:=
 laid_cell hL (name:= "internal/strconv.uint64pow10") (by simp [laidAll]) (g:=1) (t:=180) (by kernel_rfl) (by kernel_rfl) cellsU_is o u h
theorem glob_ok {w:World} (hL:laidMet Tryz.prog laidAll w):∀ b o u,glob b o=some u→b < w.heap.size∧b < 100∧w.cell? ⟨b,o,none⟩=some u∧flat u=true:=by
 intro b o u h
 have main:b < 100∧w.cell? ⟨b,o,none⟩=some u∧flat u=true:=by
  unfold glob at h
  split at h
  ·have h2:=lay_get h
   exact ⟨by decide,laid_u hL o u h2,flatL_all _ flatU _ _ h2⟩
  ·cases h
 exact ⟨block_of_cell main.2.1,main⟩
def noMemo:FuncId→List Value→St→Option (Value × St):=fun _ _ _=>none
theorem noMemo_ok {G N0:Nat} {g:Glob}:MemoOk Tryz.prog G N0 g noMemo:=fun f args st v st' h=>by cases h
end Go.Proofs.YtmenpmbgennhoaaGreatDoor
