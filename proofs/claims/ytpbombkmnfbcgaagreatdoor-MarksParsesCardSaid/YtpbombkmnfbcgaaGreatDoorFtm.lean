/- The text of a float: some bytes, the same in every world. -/
import Derived.Test.YtpbombkmnfbcgaaGreatDoorFto
namespace Go.Proofs.YtpbombkmnfbcgaaGreatDoor
open Go.RowKit Go.Lib Go.Ev

theorem DgS.same {blk d nd : Nat} {p : Int} {W w w0 : World} {vals : Nat → Value} {D : Nat → Bool} {vs : Nat → Value} (h : DgS blk d nd p W vals D vs w) (hB : Below blk w0 W) (hs : blk ≤ W.heap.size) : ∀ i, i < blk → w.heap[i]? = w0.heap[i]? := by
  intro i hi
  cases h5 : D 5 with
  | false => rw [h.pre h5]; exact hB.block i hi
  | true => exact ((h.post h5).2.1.block i (Nat.lt_of_lt_of_le hi hs) (fun e => (by cases e; omega))).trans (hB.block i hi)
theorem tabIs_same {w w' : World} {n : Nat} {zs : List Int} (h : TabIs Tryz.prog w "internal/strconv.uint64pow10" .u64 zs) (hb : ∀ i, i < n → w'.heap[i]? = w.heap[i]?) (hn : 6 < n) : TabIs Tryz.prog w' "internal/strconv.uint64pow10" .u64 zs := by
  unfold TabIs at h ⊢
  rw [← h]
  have hg : Tryz.prog.globalNamed "internal/strconv.uint64pow10" = some 6 := by kernel_rfl
  unfold World.var?
  rw [hg]
  simp only [Option.bind_some]
  rw [hb _ hn]
theorem zero_cells {w : World} {b : Nat} (h : w.heap[b]? = some (.cells (Array.replicate 32 (.int .u8 0)) 70 (0, 0))) : ∀ j, j < 32 → w.cell? ⟨b, j, none⟩ = some (.int .u8 0) ∧ w.frozen? ⟨b, j, none⟩ = false := by
  intro j hj
  refine ⟨?_, ?_⟩
  · simp [World.cell?, h, hj]
  · simp [World.frozen?, h]
theorem eo_of {N blk : Nat} {w0 w w' : World} {v : Value} {cs : Array Value} (h : Er N w0 v [] w) (hO : Onl blk w w') (hcs : w'.heap[blk]? = some (.cells cs 70 (0, 0))) (hlt : ∀ g, v.ownBlock = some g → g < blk) (hNb : N ≤ blk) : Eo N blk cs w0 v [] w' :=
  ⟨ownsRow_same h.own fun g hv => hO.block g (h.own.lt g hv).2 (fun e => (by cases e; have := hlt _ hv; omega)), hcs, h.blw.trans (hO.blw hNb h.ns), Nat.le_trans h.ns hO.size⟩

set_option maxRecDepth 100000 in
set_option maxHeartbeats 8000000 in
theorem ftf_any (tH tL : Nat → Nat) (N k E M : Nat) (ng : Bool) (eE : bits .and .i64 (IntKind.i64.wrap ((k : Int) / 4503599627370496)) 2047 = (E : Int)) (hE : E ≤ 2046) (eM : bits .and .u64 (k : Int) 4503599627370495 = (M : Int)) (hM : M ≤ 4503599627370495) (eng : ((k : Int) / 9223372036854775808 != 0) = ng)
    (hH : ∀ i, i < 696 → tH i < 18446744073709551616) (hL : ∀ i, i < 696 → tL i < 18446744073709551616) (hgN : 6 < N) :
    ∃ L, ∀ (w0 w : World) (v : Value), TabAt tH tL N w → TabIs Tryz.prog w "internal/strconv.uint64pow10" .u64 Lib.pow10Tab → Er N w0 v [] w → Calls Tryz.prog 28 #[v, .float .f64 k, .int .u8 103, .int .i64 (-1)] w fun e w' => ∃ v', e = .returned v' ∧ Er N w0 v' L w' := by
  have hm : Tryz.prog.follows .mixedOrders = true := by kernel_rfl

  have wr1 : IntKind.i64.wrap 2048 = 2048 := by rfl
  have wr2 : IntKind.i64.wrap 2047 = 2047 := by rfl
  obtain ⟨M2, hM2, eM2⟩ := or52 M hM
  obtain ⟨Y, mt, hY0, hY1⟩ : ∃ Y mt : Nat, (E = 0 → Y = 1 ∧ mt = M) ∧ (E ≠ 0 → Y = E ∧ mt = M2) := by
    by_cases h : E = 0
    · exact ⟨1, M, fun _ => ⟨rfl, rfl⟩, fun h' => absurd h h'⟩
    · exact ⟨E, M2, fun h' => absurd h' h, fun _ => ⟨rfl, rfl⟩⟩
  have hmt : mt < 9007199254740992 ∧ 1 ≤ Y ∧ Y ≤ 2046 := by
    by_cases h : E = 0
    · obtain ⟨rfl, rfl⟩ := hY0 h; omega
    · obtain ⟨rfl, rfl⟩ := hY1 h; omega
  obtain ⟨hmt, hYa, hYb⟩ := hmt
  have hEi : (E : Int) ≤ 2046 := by omega
  have hE47 : ((E : Int) == 2047) = false := beq_ne (by omega)
  clear hM
  by_cases hm0 : mt = 0
  · refine ⟨zOut ng, fun w0 w v hT hU hR => ?_⟩
    have hR := Hid.mk hR.drew
    clear hT hU hH hL
    go_enter Tryz.func28, Tryz.ntmps28
    have hfb := run_fb k
    go_wp2_with (fail)
    refine Go.Ev.wp_region_planE (fun v => v = w.drew) hm (by kernel_rfl) (by kernel_rfl) rfl ?_
    iterate 9
      refine Go.Ev.planE_cons _ (by rintro v K rfl hK; go_simp; exact hK _ rfl) ?_
      simp only [Act.put, List.setIfInBounds_toArray, List.set_cons_succ, List.set_cons_zero]
    rintro w1 rfl
    go_upto_if 78 with fail
    go_cut [14, 15] (fun x y wr => wr = w.drew ∧ x = .int .i64 (Y : Nat) ∧ y = .int .u64 (mt : Nat))
    case first => as_aux_lemma =>
      clear hR
      by_cases h : E = 0
      · obtain ⟨rfl, rfl⟩ := hY0 h
        subst h
        clear hY0 hY1 eM2 hE47 hmt hYa hYb  hM2 eM eE eng hm hE hEi hfb wr1 wr2 hm0
        go_wp2_with (fail)
        go_meet
        exact ⟨rfl, rfl, rfl⟩
      · obtain ⟨rfl, rfl⟩ := hY1 h
        have hE0 : ((Y : Int) == 0) = false := beq_ne (by omega)
        clear hY0 hY1  hM2 eM eE eng hm hE hEi hfb wr1 wr2 hm0 hmt hYa hYb hE47 h
        go_wp2_with (fail)
        go_meet
        exact ⟨rfl, rfl, rfl⟩
    case rest => as_aux_lemma =>
      obtain ⟨hwr, rfl, rfl⟩ := hcut
      subst hwr
      subst hm0
      have hYi : (Y : Int) ≤ 2046 := by omega
      clear eM2 eM hY0 hY1 eE hE47
      go_wp2_with (fail)
      go_at_call 38
      refine (efz_any N ng v w0 _ hR.out).mono ?_
      rintro e w2 ⟨v', rfl, hE⟩
      go_wp2_with (fail)
      go_ret
      exact ⟨_, rfl, hE⟩
  · obtain ⟨q, b, hb, hb53, hq, hq63, hq11, hn1, hn2⟩ := norm64 hm0 hmt
    obtain ⟨n1, hn⟩ : ∃ n1, mt * 2 ^ q = n1 := ⟨_, rfl⟩
    have en : IntKind.u64.wrap ((mt : Int) * 2 ^ q) = (n1 : Int) := by
      have e1 : ((mt * 2 ^ q : Nat) : Int) = (mt : Int) * 2 ^ q := by push_cast; rfl
      rw [← e1, hn]
      exact wu64 (by omega) (by omega)
    rw [hn] at hn1 hn2
    obtain ⟨d, p, hd, hp1, hp2, hS⟩ := sho_any tH tL N n1 ((Y : Int) + -1023 - (q : Int) - 52) hn1 hn2 (by omega) (by omega) hH hL
    refine ⟨tOut ng d p, fun w0 w v hT hU hR => ?_⟩
    have hR := Hid.mk hR
    have hSH := Hid.mk hS
    have hTH := Hid.mk hT
    have hUH := Hid.mk hU
    clear hT hU hH hL hS hn
    go_enter Tryz.func28, Tryz.ntmps28
    have hfb := run_fb k
    go_wp2_with (fail)
    refine Go.Ev.wp_region_planE (fun v => v = w.drew) hm (by kernel_rfl) (by kernel_rfl) rfl ?_
    iterate 9
      refine Go.Ev.planE_cons _ (by rintro v K rfl hK; go_simp; exact hK _ rfl) ?_
      simp only [Act.put, List.setIfInBounds_toArray, List.set_cons_succ, List.set_cons_zero]
    rintro w1 rfl
    go_upto_if 78 with fail
    go_cut [14, 15] (fun x y wr => wr = w.drew ∧ x = .int .i64 (Y : Nat) ∧ y = .int .u64 (mt : Nat))
    case first => as_aux_lemma =>
      clear hR hSH hTH hUH en hn1 hn2 hb hq
      by_cases h : E = 0
      · obtain ⟨rfl, rfl⟩ := hY0 h
        subst h
        clear hY0 hY1 eM2 hE47 hmt hYa hYb  hM2 eM eE eng hm hE hEi hfb wr1 wr2 hm0
        go_wp2_with (fail)
        go_meet
        exact ⟨rfl, rfl, rfl⟩
      · obtain ⟨rfl, rfl⟩ := hY1 h
        have hE0 : ((Y : Int) == 0) = false := beq_ne (by omega)
        clear hY0 hY1  hM2 eM eE eng hm hE hEi hfb wr1 wr2 hm0 hmt hYa hYb hE47 h
        go_wp2_with (fail)
        go_meet
        exact ⟨rfl, rfl, rfl⟩
    case rest => as_aux_lemma =>
      obtain ⟨hwr, rfl, rfl⟩ := hcut
      subst hwr
      have hYi : (Y : Int) ≤ 2046 := by omega
      have hm00 : ((mt : Int) == 0) = false := beq_ne (by omega)
      have hqi : (q : Int) ≤ 63 := by omega
      have hbi : (b : Int) ≤ 53 := by omega
      have hU2 : (mt : Int) < 9007199254740992 := by omega
      have ml := fun w => (Tryz.bits_Len64 (mt : Int) w (by omega) (by omega)).mono fun _ _ h => (⟨h.1, h.2.symm⟩ : _ ∧ w = _)
      rw [Int.toNat_natCast, hb] at ml
      have mlH := Hid.mk ml
      clear eM2 eM hY0 hY1 eE hE47 hn1 hn2 hm0 hmt hb ml
      go_wp2_with (first | (go_at_call 39; refine (mlH.out _).mono ?_; rintro e w' ⟨rfl, rfl⟩))
      generalize hwA : World.drew _ = wA
      have hBA : Below w.heap.size w wA := by subst hwA; exact ((Below.refl _ w).alloc (Nat.le_refl _) _).drew
      have hbA : wA.heap[w.heap.size]? = some (.cells (Array.replicate 32 (.int .u8 0)) 70 (0, 0)) := by subst hwA; exact heap_alloc_new _ _
      have hRA : Er N w0 v [] wA := by subst hwA; exact (hR.out.alloc _).drew
      clear hwA
      have hNs := hR.out.ns
      have hszA : w.heap.size < wA.heap.size := (Array.getElem?_eq_some_iff.1 hbA).1
      refine (hSH.out wA (hTH.out.keep (hBA.mono hNs)) (Nat.le_trans hNs hBA.size)).mono ?_
      rintro e w2 ⟨rfl, hB⟩
      have hbuf : Hid (w2.drew.heap[w.heap.size]? = some (.cells (Array.replicate 32 (.int .u8 0)) 70 (0, 0))) := .mk ((hB.block _ hszA).trans hbA)
      have hR2 : Hid (Er N w0 v [] w2.drew) := .mk (hRA.below hB).drew
      have hB0 : Below w.heap.size w w2.drew := (hBA.trans (hB.mono (Nat.le_of_lt hszA))).drew
      have hg6 : 6 < w.heap.size := Nat.lt_of_lt_of_le hgN hNs
      have hUH2 : Hid (∀ w' : World, (∀ i, i < w.heap.size → w'.heap[i]? = w.heap[i]?) → TabIs Tryz.prog w' "internal/strconv.uint64pow10" .u64 Lib.pow10Tab) := .mk fun w' h => tabIs_same hUH.out h hg6
      have hz0 : Hid (∀ j, j < 32 → w2.drew.cell? ⟨w.heap.size, j, none⟩ = some (.int .u8 0) ∧ w2.drew.frozen? ⟨w.heap.size, j, none⟩ = false) := .mk (zero_cells hbuf.out)
      have hlt : Hid (∀ g, v.ownBlock = some g → g < w.heap.size) := .mk fun g hv => (hR.out.own.lt g hv).2
      have hNb : N ≤ w.heap.size := hNs
      have hd' := hd
      have hS0 : DgS w.heap.size d (nDg d) p w2.drew (dgVals w.heap.size d (nDg d) p (strip d (nDg d) (nDg d))) (fun _ => false) (fun _ => undef) w2.drew := ⟨fun i h => (by cases h), fun _ => rfl, fun h => (by cases h)⟩
      clear hR hSH hTH hUH hRA hbA hBA hB
      go_wp2_with (fail)
      (try clear hYi)
      (try clear hm00)
      (try clear hqi)
      (try clear hbi)
      (try clear hU2)
      (try clear en)
      (try clear hq)
      (try clear hq11)
      (try clear hq63)
      (try clear hb53)
      (try clear hYa)
      (try clear hYb)
      (try clear hk)
      (try clear hkl)
      (try clear hfb)
      (try clear wr1)
      (try clear wr2)
      (try clear hM2)
      (try clear hEi)
      (try clear hE)
      (try clear mlH)
      (try clear hszA)
      (try clear hNs)
      (try clear eng)
      refine Go.Ev.wp_region_inv _ hm (by kernel_rfl) (by kernel_rfl) hS0 ?_
      refine ⟨fun D vs w1 K hS hd hdep hcl hK => ?_, ?_⟩
      · go_simp
        exact hK _ _ (hS.pure (by decide) rfl)
      simp only [Act.put, List.setIfInBounds_toArray, List.set_cons_succ, List.set_cons_zero, Nat.reduceAdd]
      refine ⟨fun D vs w1 K hS hd hdep hcl hK => ?_, ?_⟩
      · go_simp
        exact hK _ _ (hS.pure (by decide) rfl)
      simp only [Act.put, List.setIfInBounds_toArray, List.set_cons_succ, List.set_cons_zero, Nat.reduceAdd]
      refine ⟨fun D vs w1 K hS hd hdep hcl hK => ?_, ?_⟩
      · go_simp
        exact hK _ _ (hS.pure (by decide) rfl)
      simp only [Act.put, List.setIfInBounds_toArray, List.set_cons_succ, List.set_cons_zero, Nat.reduceAdd]
      refine ⟨fun D vs w1 K hS hd hdep hcl hK => ?_, ?_⟩
      · go_simp
        exact hK _ _ (hS.pure (by decide) rfl)
      simp only [Act.put, List.setIfInBounds_toArray, List.set_cons_succ, List.set_cons_zero, Nat.reduceAdd]
      refine ⟨fun D vs w1 K hS hd hdep hcl hK => ?_, ?_⟩
      · have e3 : vs 3 = dgVals w.heap.size d (nDg d) p (strip d (nDg d) (nDg d)) 3 := hS.vals 3 (depB hdep 3 (by kernel_rfl))
        unfold dgVals at e3
        simp only [e3] at hK ⊢
        go_wp2_with (fail)
        go_at_call 42
        refine (nd_any d w1 hd' (hUH2.out _ (hS.same hB0 hB0.size))).mono ?_
        rintro e w2 ⟨rfl, rfl⟩
        go_wp2_with (fail)
        exact hS.pure (by decide) rfl
      simp only [Act.put, List.setIfInBounds_toArray, List.set_cons_succ, List.set_cons_zero, Nat.reduceAdd]
      refine ⟨fun D vs w1 K hS hd hdep hcl hK => ?_, ?_⟩
      · have e0 : vs 0 = dgVals w.heap.size d (nDg d) p (strip d (nDg d) (nDg d)) 0 := hS.vals 0 (depB hdep 0 (by kernel_rfl))
        unfold dgVals at e0
        have e1 : vs 1 = dgVals w.heap.size d (nDg d) p (strip d (nDg d) (nDg d)) 1 := hS.vals 1 (depB hdep 1 (by kernel_rfl))
        unfold dgVals at e1
        have e2 : vs 2 = dgVals w.heap.size d (nDg d) p (strip d (nDg d) (nDg d)) 2 := hS.vals 2 (depB hdep 2 (by kernel_rfl))
        unfold dgVals at e2
        have e4 : vs 4 = dgVals w.heap.size d (nDg d) p (strip d (nDg d) (nDg d)) 4 := hS.vals 4 (depB hdep 4 (by kernel_rfl))
        unfold dgVals at e4
        simp only [e0, e1, e2, e4] at hK ⊢
        obtain rfl := hS.pre hd
        go_wp2_with (fail)
        go_at_call 41
        refine (sd_any w.heap.size d p _ hd' (by omega) (by omega) hz0.out).mono ?_
        rintro e w2 ⟨rfl, hp⟩
        go_wp2_with (fail)
        exact hS.call rfl hp
      simp only [Act.put, List.setIfInBounds_toArray, List.set_cons_succ, List.set_cons_zero, Nat.reduceAdd]
      refine ⟨fun D vs w1 K hS hd hdep hcl hK => ?_, ?_⟩
      · have e5 : vs 5 = dgVals w.heap.size d (nDg d) p (strip d (nDg d) (nDg d)) 5 := hS.vals 5 (depB hdep 5 (by kernel_rfl))
        unfold dgVals at e5
        simp only [e5] at hK ⊢
        go_simp
        exact hK _ _ (hS.pure (by decide) rfl)
      simp only [Act.put, List.setIfInBounds_toArray, List.set_cons_succ, List.set_cons_zero, Nat.reduceAdd]
      refine ⟨fun D vs w1 K hS hd hdep hcl hK => ?_, ?_⟩
      · have e6 : vs 6 = dgVals w.heap.size d (nDg d) p (strip d (nDg d) (nDg d)) 6 := hS.vals 6 (depB hdep 6 (by kernel_rfl))
        unfold dgVals at e6
        simp only [e6] at hK ⊢
        go_simp
        exact hK _ _ (hS.pure (by decide) rfl)
      simp only [Act.put, List.setIfInBounds_toArray, List.set_cons_succ, List.set_cons_zero, Nat.reduceAdd]
      refine ⟨fun D vs w1 K hS hd hdep hcl hK => ?_, ?_⟩
      · have e6 : vs 6 = dgVals w.heap.size d (nDg d) p (strip d (nDg d) (nDg d)) 6 := hS.vals 6 (depB hdep 6 (by kernel_rfl))
        unfold dgVals at e6
        simp only [e6] at hK ⊢
        go_simp
        exact hK _ _ (hS.pure (by decide) rfl)
      simp only [Act.put, List.setIfInBounds_toArray, List.set_cons_succ, List.set_cons_zero, Nat.reduceAdd]
      refine ⟨fun D vs w1 K hS hd hdep hcl hK => ?_, ?_⟩
      · have e7 : vs 7 = dgVals w.heap.size d (nDg d) p (strip d (nDg d) (nDg d)) 7 := hS.vals 7 (depB hdep 7 (by kernel_rfl))
        unfold dgVals at e7
        simp only [e7] at hK ⊢
        go_simp
        exact hK _ _ (hS.pure (by decide) rfl)
      simp only [Act.put, List.setIfInBounds_toArray, List.set_cons_succ, List.set_cons_zero, Nat.reduceAdd]
      refine ⟨fun D vs w1 K hS hd hdep hcl hK => ?_, ?_⟩
      · have e8 : vs 8 = dgVals w.heap.size d (nDg d) p (strip d (nDg d) (nDg d)) 8 := hS.vals 8 (depB hdep 8 (by kernel_rfl))
        unfold dgVals at e8
        simp only [e8] at hK ⊢
        go_simp
        exact hK _ _ (hS.pure (by decide) rfl)
      simp only [Act.put, List.setIfInBounds_toArray, List.set_cons_succ, List.set_cons_zero, Nat.reduceAdd]
      intro vs D w3 hS3 hall
      have e9 : vs 9 = dgVals w.heap.size d (nDg d) p (strip d (nDg d) (nDg d)) 9 := hS3.vals 9 (hall 9 (by decide))
      have e10 : vs 10 = dgVals w.heap.size d (nDg d) p (strip d (nDg d) (nDg d)) 10 := hS3.vals 10 (hall 10 (by decide))
      unfold dgVals at e9 e10
      obtain ⟨hDg, hOn, hKp⟩ := hS3.post (hall 5 (by decide))
      obtain ⟨cs, hcs⟩ := hKp _ _ _ hbuf.out
      have hEo : Hid (Eo N w.heap.size cs w0 v [] w3) := .mk (eo_of hR2.out hOn hcs hlt.out hNb)
      have hDgH := Hid.mk hDg
      clear hS3 hall hOn hKp hcs hDg
      simp only [e9, e10]
      clear e9 e10
      go_wp2_with (fail)
      go_at_call 38
      refine (eft_any N w.heap.size d cs p ng v w0 w3 hEo.out hd' (by omega) (by omega) hDgH.out).mono ?_
      rintro e w4 ⟨v', rfl, hE4⟩
      go_wp2_with (fail)
      go_ret
      exact ⟨_, rfl, hE4⟩
end Go.Proofs.YtpbombkmnfbcgaaGreatDoor
