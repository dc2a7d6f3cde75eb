/- RefactorFlat: the row's function, from its arguments to its results. -/
import Derived.Test.YtmenpmbgennhoaaGreatDoorRfl
import Derived.Test.YtmenpmbgennhoaaGreatDoorLaw
namespace Go.Proofs.YtmenpmbgennhoaaGreatDoor
open Go.ChangeShapes Go.WideShapes Go.ChangeAt Go.RowKit
open Go.ChangeMaps (open_string shut_string)
def refactorFlatLaid:List (String × DataW Unit):=[("math/bits.deBruijn32tab", Rows.laid_math_bits_deBruijn32tab),("math/bits.deBruijn64tab", Rows.laid_math_bits_deBruijn64tab),("internal/strconv.uint64pow10", Rows.laid_internal_strconv_uint64pow10)]
theorem refactorFlat_params:Tryz.f3.params=#[9]:=by kernel_rfl
set_option maxRecDepth 100000 in
theorem refactorFlat_lifted (os:Os) (started:os.Started) (H:Type) (enc:TypeId × Value→H) :
  ReturnsInHanded {} Tryz.checked os 3 .any (fun w args=>(Rows.refactorFlatSpec.pre enc Tryz.prog Tryz.f3 [] false w args∧laidMetH Tryz.prog refactorFlatLaid w)∧sizedMet enc Tryz.prog Tryz.f3 (OpenSpec.ofChange Rows.refactorFlatSpec) false w args)
   (Rows.refactorFlatSpec.post enc Tryz.prog Tryz.f3 false true false false):=by
 refine returnsInHanded_of_calls (C:=Tryz.checked) own started (by kernel_rfl)
  (ChangeSpec.witness_shaped (enc:=enc) (C:=Tryz.checked) (os:=os) (X:=fun w _=>laidMetH Tryz.prog refactorFlatLaid w) false (World.laidAll Tryz.prog os refactorFlatLaid) #[.string ⟨#[]⟩] 8 (World.laidAll_os _ _ _)
   (World.shaped_of_ZipB (by kernel_rfl) (by kernel_rfl)) (by kernel_rfl) (by kernel_rfl) (by kernel_rfl)
   (by rw [MakeChecks.laidMetH_plain _ _ _ (by kernel_rfl)]; exact laidMet_laidAll _ (by kernel_rfl) (by kernel_rfl))) ?_
 intro w tape i _ hsh _ hok hpre _
 obtain ⟨_,_,_,fn',hfn',_,_,_,_,hv0⟩:=hok
 obtain rfl:fn'=Tryz.f3:=(Option.some.inj (Tryz.func3.symm.trans hfn')).symm
 obtain ⟨⟨⟨ds,gs,before,hw,_⟩,hx⟩,_⟩:=hpre
 have hW0:=DataW.Whole.of_heap (w':=w.forCall tape i) (by rfl) hw
 have hL0:laidMetH Tryz.prog refactorFlatLaid (w.forCall tape i):=hx.of_heap (by rfl)
 rw [MakeChecks.laidMetH_plain _ _ _ (by kernel_rfl)] at hL0
 suffices h:∀ (W:World) (base:Nat) (args:Array Value),(∀ (j:Nat) t v,Tryz.f3.params[j]?=some t→args[j]?=some v→Value.okWide Tryz.prog W .any base t v)→
   DataW.Whole enc Tryz.prog Tryz.f3.params.toList Rows.refactorFlatSpec.vars false W args.toList ds gs before→laidMet Tryz.prog refactorFlatLaid W→W.ShapedOpen Tryz.prog→
   Calls Tryz.prog 3 args W fun e W'=>∃ v,e= .returned v∧Rows.refactorFlatSpec.post enc Tryz.prog Tryz.f3 false true false false W args v W' from
  (h (w.forCall tape i) w.heap.size i.args hv0 hW0 hL0 hsh).mono fun e W' ⟨v,he,hp⟩=>by
   subst he
   exact ChangeSpec.post_blind hp
 clear hw hx hW0 hL0 hsh hv0
 intro W base args hval0 hW hL hsh
 have hval:∀ (j:Nat) t v,Tryz.f3.params[j]?=some t→args[j]?=some v→Value.okWide Tryz.prog W .any base t v:=hval0
 have hW':=hW
 obtain ⟨p,q,hA0,hV,rfl,_,_⟩:=hW
 have hA:DataW.TrodAll enc Tryz.prog W 0 (fun _=>true) true Tryz.f3.params.toList args.toList ds p:=hA0
 rw [refactorFlat_params] at hA hval
 obtain ⟨v0,d0,rfl,rfl,h0⟩:=trodAll_one hA
 obtain ⟨rfl,rfl⟩:=trodVars_none hV
 obtain ⟨s,rfl,rfl,rfl,hs⟩:=open_string Tryz.underlying9 (hval 0 9 v0 rfl rfl) h0
 refine (flats_any s W hL hsh).mono fun e W' ⟨he,hB⟩=> ?_
 subst he
 exact ⟨_,rfl,law_post hW' hB rfl (by kernel_rfl) (by rw [refactorFlat_params]; intro t ht; simp at ht; subst ht; exact ⟨by kernel_rfl,of_decide_eq_true (by kernel_rfl)⟩) rfl⟩
end Go.Proofs.YtmenpmbgennhoaaGreatDoor
