/- ReplicaDeaf: the row's function, from its arguments to its results. -/
import Derived.Test.YtniamhbcmcgonaaGreatDoorRlw
import Derived.Test.YtniamhbcmcgonaaGreatDoorLaw
namespace Go.Proofs.YtniamhbcmcgonaaGreatDoor
open Go.ChangeShapes Go.WideShapes Go.ChangeAt Go.RowKit
open Go.ChangeMaps (open_string shut_string)
def replicaDeafLaid:List (String × DataW Unit):=[("math/bits.deBruijn32tab", Rows.laid_math_bits_deBruijn32tab),("math/bits.deBruijn64tab", Rows.laid_math_bits_deBruijn64tab),("internal/strconv.uint64pow10", Rows.laid_internal_strconv_uint64pow10),("primer/frame.halves", Rows.laid_primer_frame_halves)]
theorem replicaDeaf_params:Tryz.f3.params=#[9,22]:=by kernel_rfl
set_option maxRecDepth 100000 in
theorem replicaDeaf_lifted (os:Os) (started:os.Started) (H:Type) (enc:TypeId × Value→H) :
  ReturnsInHanded {} Tryz.checked os 3 .any (fun w args=>(Rows.replicaDeafSpec.pre enc Tryz.prog Tryz.f3 [] false w args∧laidMetH Tryz.prog replicaDeafLaid w)∧sizedMet enc Tryz.prog Tryz.f3 (OpenSpec.ofChange Rows.replicaDeafSpec) false w args)
   (Rows.replicaDeafSpec.post enc Tryz.prog Tryz.f3 false true false false):=by
 refine returnsInHanded_of_change_and (C:=Tryz.checked) (X:=fun w _=>laidMetH Tryz.prog replicaDeafLaid w) (fun _ _ _ hh h=>h.of_heap hh) own started (by kernel_rfl) Tryz.func3
  (ChangeSpec.witness_shaped (enc:=enc) (C:=Tryz.checked) (os:=os) (X:=fun w _=>laidMetH Tryz.prog replicaDeafLaid w) false (World.laidAll Tryz.prog os replicaDeafLaid) #[.string ⟨#[]⟩,.agg #[.int .i64 0,.int .i64 0]] 8 (World.laidAll_os _ _ _)
   (World.shaped_of_ZipB (by kernel_rfl) (by kernel_rfl)) (by kernel_rfl) (by kernel_rfl) (by kernel_rfl)
   (by rw [MakeChecks.laidMetH_plain _ _ _ (by kernel_rfl)]; exact laidMet_laidAll _ (by kernel_rfl) (by kernel_rfl))) ?_
 intro W base args ds gs before hval0 hW _ _ hL _
 rw [MakeChecks.laidMetH_plain _ _ _ (by kernel_rfl)] at hL
 have hval:∀ (j:Nat) t v,Tryz.f3.params[j]?=some t→args[j]?=some v→Value.okWide Tryz.prog W .any base t v:=hval0
 have hW':=hW
 obtain ⟨p,q,hA0,hV,rfl,_,_⟩:=hW
 have hA:DataW.TrodAll enc Tryz.prog W 0 (fun _=>true) true Tryz.f3.params.toList args.toList ds p:=hA0
 rw [replicaDeaf_params] at hA hval
 obtain ⟨v0,v1,d0,d1,p0,p1,rfl,rfl,rfl,h0,h1⟩:=trodAll_two hA
 obtain ⟨rfl,rfl⟩:=trodVars_none hV
 obtain ⟨s,rfl,rfl,rfl,hs⟩:=open_string Tryz.underlying9 (hval 0 9 v0 rfl rfl) h0
 obtain ⟨x,y,rfl⟩:=open_two (hval 1 22 v1 rfl rfl) h1
 refine (deaf_any s.data.toList x y W (glob_ok hL (by simp [replicaDeafLaid])) (world_pos (glob_ok hL (by simp [replicaDeafLaid])))).mono fun e W' ⟨he,hB⟩=> ?_
 subst he
 exact ⟨_,rfl,law_post hW' hB rfl (by kernel_rfl) (by rw [replicaDeaf_params]; intro t ht; simp at ht; rcases ht with rfl | rfl <;> exact ⟨by kernel_rfl,of_decide_eq_true (by kernel_rfl)⟩) rfl⟩
end Go.Proofs.YtniamhbcmcgonaaGreatDoor
