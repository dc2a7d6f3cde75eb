/- The law TaskBytes, walked. -/
import Derived.Test.YtcdcchkaohnkdaaGreatDoorTlw
namespace Go.Proofs.YtcdcchkaohnkdaaGreatDoor
open Go.RowKit Go.Ev

set_option maxRecDepth 100000 in
set_option maxHeartbeats 6400000 in
theorem bytes_any (nm : Str) (yes no : List (List Str)) (b : Bool) (f : Nat) (s : Str) (v : Value) (w : World) (hv : RawV w v nm yes no b f) :
    Calls Tryz.prog 3 #[v, .string (bs s)] w fun e w' => e = .returned (.bool true) ∧ Below w.heap.size w w' := by
  have hm : Tryz.prog.follows .mixedOrders = true := by kernel_rfl
  have rsf := run_store_float
  have hsz : (bs s).size = s.length := bs_size s
  have hmk : Hid (∀ w1, Below (w.heap.size + 1) (w.alloc (.cells v.cells 25 (0, 0))) w1 → Calls Tryz.prog 5 #[v] w1 fun e w' => ∃ v1 v2, e = .returned (.tuple #[v1, v2]) ∧ TkV w' v1 ⟨nm.take 40, fewS yes, fewS no, b, f⟩ ∧ TkV w' v2 ⟨nm.take 40, fewS yes, fewS no, b, f⟩ ∧ Below w1.heap.size w1 w') := by
    intro w1 h1
    refine made_any nm yes no b f v w1 ?_
    obtain ⟨vy, vn, e, ⟨ay, cy, ey, hy⟩, ⟨an, cn, en, hn⟩, hw⟩ := hv
    have hb : Below w.heap.size w w1 := ((Below.refl _ w).alloc (Nat.le_refl _) _).trans (h1.mono (by omega))
    exact ⟨vy, vn, e, ⟨ay, cy, ey, (hy.below hb).mono hb.size⟩, ⟨an, cn, en, (hn.below hb).mono hb.size⟩, hw⟩
  obtain ⟨vy, vn, rfl, ⟨ay, cy, rfl, hy⟩, ⟨an, cn, rfl, hn⟩, hw⟩ := hv
  have hok : Hid ((getT s).1.ok) := get_ok s
  have hpg : Hid ((getT s).2 = 0 → goodT (getT s).1 = true ∧ putT (getT s).1 = s) := put_getT
  have hts : Hid (Tk.small ⟨nm.take 40, fewS yes, fewS no, b, f⟩) := ⟨by rw [List.length_take]; omega, fewS_small _, fewS_small _, hw⟩
  clear hy hn hw
  generalize (⟨nm.take 40, fewS yes, fewS no, b, f⟩ : Tk) = t at *
  generalize yes.length = ly at *
  generalize no.length = ln at *
  go_enter Tryz.func3, Tryz.ntmps3
  go_wp2_with (fail)
  go_at_call 4
  refine (speaks_any _).mono ?_
  rintro e w1 ⟨rfl, hB1⟩
  by_cases h2000 : 2000 < s.length
  · have h2i : ((2000 : Int) < (s.length : Int)) = True := by simp; omega
    go_wp2_with (fail)
    go_ret
    exact ⟨rfl, ((Below.refl _ w).alloc (Nat.le_refl _) _).trans (hB1.mono (by simp))⟩
  have h2i : ((2000 : Int) < (s.length : Int)) = False := by simp; omega
  have hB1' : Below (w.heap.size + 1) (w.alloc (.cells #[.string (bs nm), .slice ay ly cy, .slice an ln cn, .bool b, .int .u64 (f : Nat)] 25 (0, 0))) w1 := hB1.mono (by simp)
  have htg : Hid (∀ w, Calls Tryz.prog 7 #[.string (bs s)] w fun e w' => ∃ v, e = .returned (.tuple #[v, .int .i64 ((getT s).2 : Nat)]) ∧ TkV w' v (getT s).1 ∧ Below w.heap.size w w') := fun w => tget_any s (by omega) w
  have hrg : Hid (∀ w, Calls Tryz.prog 12 #[.string (bs s)] w fun e w' => ∃ v, e = .returned (.tuple #[v, .int .i64 ((getT s).2 : Nat)]) ∧ TkV w' v (getT s).1 ∧ Below w.heap.size w w') := fun w => rtget_any s (by omega) w
  generalize getT s = G4 at *
  obtain ⟨t4, y4⟩ := G4
  simp only at hok hpg htg hrg
  have hbox := (hB1'.block w.heap.size (by omega)).trans (heap_alloc_new w _)
  have c0 := cell_of_row w1 _ 0 _ _ _ hbox
  have c1 := cell_of_row w1 _ 1 _ _ _ hbox
  have c2 := cell_of_row w1 _ 2 _ _ _ hbox
  have c3 := cell_of_row w1 _ 3 _ _ _ hbox
  have c4 := cell_of_row w1 _ 4 _ _ _ hbox
  simp at c0 c1 c2 c3 c4
  have hmade := hmk.out w1 hB1'
  have hBH : Hid (Below w.heap.size w w1) := ((Below.refl _ w).alloc (Nat.le_refl _) _).trans (hB1.mono (by simp))
  clear hmk hB1 hB1' hbox
  go_wp2_with (fail)
  go_at_call 5
  refine hmade.mono ?_
  rintro e w2 ⟨v1, v2, rfl, hT1, hT2, hB2⟩
  have hbH2 : Hid (Below w.heap.size w w2) := hBH.out.trans (hB2.mono hBH.out.size)
  clear hmade c0 c1 c2 c3 c4 hB2 hBH
  obtain ⟨⟨vy1, vn1, e1, ⟨ay1, cy1, ey1, hy1⟩, ⟨an1, cn1, en1, hn1⟩⟩, hw1⟩ := id hT1
  obtain ⟨⟨vy2, vn2, e2, ⟨ay2, cy2, ey2, hy2⟩, ⟨an2, cn2, en2, hn2⟩⟩, hw2⟩ := id hT2
  subst ey1 en1 ey2 en2 e1 e2
  clear hy1 hn1 hw1 hy2 hn2 hw2
  have hT1H : Hid (TkV w2 _ t) := hT1
  have hT2H : Hid (TkV w2 _ t) := hT2
  clear hT1 hT2
  go_wp2_with (fail)
  generalize hW : World.alloc (World.alloc w2 _) _ = W
  have h5 : Hid (Var5 29 w2.heap.size #[.string (bs t.name), .slice ay1 t.yes.length cy1, .slice an1 t.no.length cn1, .bool t.clear, .float .f64 t.wt] t W) := by subst hW; exact (Var5.alloc hT1H.out).keep ((Below.refl _ _).alloc (Nat.le_refl _) _)
  have h6 : Hid (Var5 30 (w2.heap.size + 1) #[.string (bs t.name), .slice ay2 t.yes.length cy2, .slice an2 t.no.length cn2, .bool t.clear, .float .f64 t.wt] t W) := by subst hW; exact Var5.alloc' (hT2H.out.keep ((Below.refl _ _).alloc (Nat.le_refl _) _)) (by simp)
  have hbW : Hid (Below w.heap.size w W) := by subst hW; exact (hbH2.out.alloc hbH2.out.size _).alloc (by have := hbH2.out.size; simp; omega) _
  clear hW hT1H hT2H hbH2
  go_at_call 6
  refine (tput_any t _ W h5.out.2 hts.out).mono ?_
  rintro e w3 ⟨rfl, hB3⟩
  have h5c : Hid (Var5 29 w2.heap.size #[.string (bs t.name), .slice ay1 t.yes.length cy1, .slice an1 t.no.length cn1, .bool t.clear, .float .f64 t.wt] t w3) := h5.out.keep hB3
  have h6c : Hid (Var5 30 (w2.heap.size + 1) #[.string (bs t.name), .slice ay2 t.yes.length cy2, .slice an2 t.no.length cn2, .bool t.clear, .float .f64 t.wt] t w3) := h6.out.keep hB3
  have hb3 : Hid (Below w.heap.size w w3) := hbW.out.trans (hB3.mono hbW.out.size)
  clear h5 h6 hbW hB3
  go_wp2_with (fail)
  go_at_call 7
  refine (tget_any (putT t) (putT_le hts.out) w3).mono ?_
  rintro e w4 ⟨v3, rfl, hT3, hB4⟩
  have h5d : Hid (Var5 29 w2.heap.size #[.string (bs t.name), .slice ay1 t.yes.length cy1, .slice an1 t.no.length cn1, .bool t.clear, .float .f64 t.wt] t w4) := h5c.out.keep hB4
  have h6d : Hid (Var5 30 (w2.heap.size + 1) #[.string (bs t.name), .slice ay2 t.yes.length cy2, .slice an2 t.no.length cn2, .bool t.clear, .float .f64 t.wt] t w4) := h6c.out.keep hB4
  have hb4 : Hid (Below w.heap.size w w4) := hb3.out.trans (hB4.mono hb3.out.size)
  clear h5c h6c hb3 hB4
  have hgp : Hid (goodT t = true → getT (putT t) = (t, 0)) := fun h => getT_put h
  generalize getT (putT t) = G at *
  obtain ⟨t3, y3⟩ := G
  simp only at hT3 ⊢
  obtain ⟨⟨vy3, vn3, e3, ⟨ay3, cy3, ey3, hy3⟩, ⟨an3, cn3, en3, hn3⟩⟩, hw3⟩ := id hT3
  subst ey3 en3 e3
  clear hy3 hn3 hw3
  have hT3H : Hid (TkV w4 _ t3) := hT3
  clear hT3
  go_wp2_with (fail)
  generalize hW : World.alloc w4 _ = W
  have h5x : Hid (Var5 29 w2.heap.size #[.string (bs t.name), .slice ay1 t.yes.length cy1, .slice an1 t.no.length cn1, .bool t.clear, .float .f64 t.wt] t W) := by subst hW; exact h5d.out.keep ((Below.refl _ _).alloc (Nat.le_refl _) _)
  have h6x : Hid (Var5 30 (w2.heap.size + 1) #[.string (bs t.name), .slice ay2 t.yes.length cy2, .slice an2 t.no.length cn2, .bool t.clear, .float .f64 t.wt] t W) := by subst hW; exact h6d.out.keep ((Below.refl _ _).alloc (Nat.le_refl _) _)
  have hbW : Hid (Below w.heap.size w W) := by subst hW; exact hb4.out.alloc hb4.out.size _
  have h8x : Hid (Var5 29 w4.heap.size #[.string (bs t3.name), .slice ay3 t3.yes.length cy3, .slice an3 t3.no.length cn3, .bool t3.clear, .float .f64 t3.wt] t3 W) := by subst hW; exact Var5.alloc hT3H.out
  clear hW h5d h6d hb4 hT3H
  have kP : Hid (∀ v, Below W.heap.size W v → Calls Tryz.prog 8 #[.agg #[.string (bs t.name), .slice ay2 t.yes.length cy2, .slice an2 t.no.length cn2, .bool t.clear, .float .f64 t.wt]] v fun e w' => e = .returned (.string (bs (putT t))) ∧ Below v.heap.size v w') := fun v hv => rtput_any t _ v (h6x.out.keep hv).2 hts.out
  have kG : Hid (∀ v, Below W.heap.size W v → Calls Tryz.prog 9 #[.agg #[.string (bs t.name), .slice ay1 t.yes.length cy1, .slice an1 t.no.length cn1, .bool t.clear, .float .f64 t.wt]] v fun e w' => e = .returned (.bool (goodT t)) ∧ Below v.heap.size v w') := fun v hv => tgood_any t _ hts.out.ok v (h5x.out.keep hv).2
  have kR : Hid (∀ v, Below W.heap.size W v → Calls Tryz.prog 10 #[.agg #[.string (bs t.name), .slice ay2 t.yes.length cy2, .slice an2 t.no.length cn2, .bool t.clear, .float .f64 t.wt]] v fun e w' => e = .returned (.bool (goodT t)) ∧ Below v.heap.size v w') := fun v hv => rtgood_any t _ hts.out.ok v (h6x.out.keep hv).2
  cases hg : goodT t with
  | true =>
    obtain ⟨e1, e2⟩ := Prod.mk.inj (hgp.out hg)
    subst e1 e2
    rw [hg] at kG kR
    have kS : Hid (∀ v, Below W.heap.size W v → Calls Tryz.prog 11 #[.agg #[.string (bs t3.name), .slice ay3 t3.yes.length cy3, .slice an3 t3.no.length cn3, .bool t3.clear, .float .f64 t3.wt], .agg #[.string (bs t3.name), .slice ay2 t3.yes.length cy2, .slice an2 t3.no.length cn2, .bool t3.clear, .float .f64 t3.wt]] v fun e w' => e = .returned (.bool true) ∧ Below v.heap.size v w') := fun v hv => same_any t3 _ _ hts.out.ok v (h8x.out.keep hv).2 (h6x.out.keep hv).2
    clear hgp hg
    refine Go.Ev.wp_region_plan (fun v => Below W.heap.size W v) [.string (bs (putT t3)), .agg #[.string (bs t3.name), .slice ay2 t3.yes.length cy2, .slice an2 t3.no.length cn2, .bool t3.clear, .float .f64 t3.wt], .string (bs (putT t3)), .bool false, .bool false, .agg #[.string (bs t3.name), .slice ay1 t3.yes.length cy1, .slice an1 t3.no.length cn1, .bool t3.clear, .float .f64 t3.wt], .bool true, .agg #[.string (bs t3.name), .slice ay2 t3.yes.length cy2, .slice an2 t3.no.length cn2, .bool t3.clear, .float .f64 t3.wt], .bool true, .bool false, .bool false, .bool false, .agg #[.string (bs t3.name), .slice ay2 t3.yes.length cy2, .slice an2 t3.no.length cn2, .bool t3.clear, .float .f64 t3.wt], .bool true, .bool true, .int .i64 0, .bool false, .bool false, .agg #[.string (bs t3.name), .slice ay3 t3.yes.length cy3, .slice an3 t3.no.length cn3, .bool t3.clear, .float .f64 t3.wt], .agg #[.string (bs t3.name), .slice ay2 t3.yes.length cy2, .slice an2 t3.no.length cn2, .bool t3.clear, .float .f64 t3.wt], .bool true, .bool false, .bool false, .bool false, .bool false] hm (by kernel_rfl) (by kernel_rfl) ((Below.refl _ _).drew) ?_
    refine ⟨fun v K hv hK => ?_, ?_⟩
    · go_simp; exact hK _ hv
    simp only [Act.put, List.setIfInBounds_toArray, List.set_cons_succ, List.set_cons_zero, List.headD_cons, List.tail_cons]
    refine ⟨fun v K hv hK => ?_, ?_⟩
    · obtain ⟨c0, c1, c2, c3, c4⟩ := (h6x.out.keep hv).cells; go_simp; exact hK _ hv
    simp only [Act.put, List.setIfInBounds_toArray, List.set_cons_succ, List.set_cons_zero, List.headD_cons, List.tail_cons]
    refine ⟨fun v K hv hK => ?_, ?_⟩
    · go_simp; refine (kP.out v hv).mono ?_; rintro e w' ⟨rfl, hB⟩; exact hK _ (hv.trans (hB.mono hv.size))
    simp only [Act.put, List.setIfInBounds_toArray, List.set_cons_succ, List.set_cons_zero, List.headD_cons, List.tail_cons]
    refine ⟨fun v K hv hK => ?_, ?_⟩
    · go_simp; exact hK _ hv
    simp only [Act.put, List.setIfInBounds_toArray, List.set_cons_succ, List.set_cons_zero, List.headD_cons, List.tail_cons]
    refine ⟨fun v K hv hK => ?_, ?_⟩
    · go_simp; exact hK _ hv
    simp only [Act.put, List.setIfInBounds_toArray, List.set_cons_succ, List.set_cons_zero, List.headD_cons, List.tail_cons]
    refine ⟨fun v K hv hK => ?_, ?_⟩
    · obtain ⟨c0, c1, c2, c3, c4⟩ := (h5x.out.keep hv).cells; go_simp; exact hK _ hv
    simp only [Act.put, List.setIfInBounds_toArray, List.set_cons_succ, List.set_cons_zero, List.headD_cons, List.tail_cons]
    refine ⟨fun v K hv hK => ?_, ?_⟩
    · go_simp; refine (kG.out v hv).mono ?_; rintro e w' ⟨rfl, hB⟩; exact hK _ (hv.trans (hB.mono hv.size))
    simp only [Act.put, List.setIfInBounds_toArray, List.set_cons_succ, List.set_cons_zero, List.headD_cons, List.tail_cons]
    refine ⟨fun v K hv hK => ?_, ?_⟩
    · obtain ⟨c0, c1, c2, c3, c4⟩ := (h6x.out.keep hv).cells; go_simp; exact hK _ hv
    simp only [Act.put, List.setIfInBounds_toArray, List.set_cons_succ, List.set_cons_zero, List.headD_cons, List.tail_cons]
    refine ⟨fun v K hv hK => ?_, ?_⟩
    · go_simp; refine (kR.out v hv).mono ?_; rintro e w' ⟨rfl, hB⟩; exact hK _ (hv.trans (hB.mono hv.size))
    simp only [Act.put, List.setIfInBounds_toArray, List.set_cons_succ, List.set_cons_zero, List.headD_cons, List.tail_cons]
    refine ⟨fun v K hv hK => ?_, ?_⟩
    · go_simp; exact hK _ hv
    simp only [Act.put, List.setIfInBounds_toArray, List.set_cons_succ, List.set_cons_zero, List.headD_cons, List.tail_cons]
    refine ⟨fun v K hv hK => ?_, ?_⟩
    · go_simp; exact hK _ hv
    simp only [Act.put, List.setIfInBounds_toArray, List.set_cons_succ, List.set_cons_zero, List.headD_cons, List.tail_cons]
    refine ⟨fun v K hv hK => ?_, ?_⟩
    · go_simp; exact hK _ hv
    simp only [Act.put, List.setIfInBounds_toArray, List.set_cons_succ, List.set_cons_zero, List.headD_cons, List.tail_cons]
    refine ⟨fun v K hv hK => ?_, ?_⟩
    · obtain ⟨c0, c1, c2, c3, c4⟩ := (h6x.out.keep hv).cells; go_simp; exact hK _ hv
    simp only [Act.put, List.setIfInBounds_toArray, List.set_cons_succ, List.set_cons_zero, List.headD_cons, List.tail_cons]
    refine ⟨fun v K hv hK => ?_, ?_⟩
    · go_simp; refine (kR.out v hv).mono ?_; rintro e w' ⟨rfl, hB⟩; exact hK _ (hv.trans (hB.mono hv.size))
    simp only [Act.put, List.setIfInBounds_toArray, List.set_cons_succ, List.set_cons_zero, List.headD_cons, List.tail_cons]
    refine ⟨fun v K hv hK => ?_, ?_⟩
    · go_simp; exact hK _ hv
    simp only [Act.put, List.setIfInBounds_toArray, List.set_cons_succ, List.set_cons_zero, List.headD_cons, List.tail_cons]
    refine ⟨fun v K hv hK => ?_, ?_⟩
    · go_simp; exact hK _ hv
    simp only [Act.put, List.setIfInBounds_toArray, List.set_cons_succ, List.set_cons_zero, List.headD_cons, List.tail_cons]
    refine ⟨fun v K hv hK => ?_, ?_⟩
    · go_simp; exact hK _ hv
    simp only [Act.put, List.setIfInBounds_toArray, List.set_cons_succ, List.set_cons_zero, List.headD_cons, List.tail_cons]
    refine ⟨fun v K hv hK => ?_, ?_⟩
    · go_simp; exact hK _ hv
    simp only [Act.put, List.setIfInBounds_toArray, List.set_cons_succ, List.set_cons_zero, List.headD_cons, List.tail_cons]
    refine ⟨fun v K hv hK => ?_, ?_⟩
    · obtain ⟨c0, c1, c2, c3, c4⟩ := (h8x.out.keep hv).cells; go_simp; exact hK _ hv
    simp only [Act.put, List.setIfInBounds_toArray, List.set_cons_succ, List.set_cons_zero, List.headD_cons, List.tail_cons]
    refine ⟨fun v K hv hK => ?_, ?_⟩
    · obtain ⟨c0, c1, c2, c3, c4⟩ := (h6x.out.keep hv).cells; go_simp; exact hK _ hv
    simp only [Act.put, List.setIfInBounds_toArray, List.set_cons_succ, List.set_cons_zero, List.headD_cons, List.tail_cons]
    refine ⟨fun v K hv hK => ?_, ?_⟩
    · go_simp; refine (kS.out v hv).mono ?_; rintro e w' ⟨rfl, hB⟩; exact hK _ (hv.trans (hB.mono hv.size))
    simp only [Act.put, List.setIfInBounds_toArray, List.set_cons_succ, List.set_cons_zero, List.headD_cons, List.tail_cons]
    refine ⟨fun v K hv hK => ?_, ?_⟩
    · go_simp; exact hK _ hv
    simp only [Act.put, List.setIfInBounds_toArray, List.set_cons_succ, List.set_cons_zero, List.headD_cons, List.tail_cons]
    refine ⟨fun v K hv hK => ?_, ?_⟩
    · go_simp; exact hK _ hv
    simp only [Act.put, List.setIfInBounds_toArray, List.set_cons_succ, List.set_cons_zero, List.headD_cons, List.tail_cons]
    refine ⟨fun v K hv hK => ?_, ?_⟩
    · go_simp; exact hK _ hv
    simp only [Act.put, List.setIfInBounds_toArray, List.set_cons_succ, List.set_cons_zero, List.headD_cons, List.tail_cons]
    refine ⟨fun v K hv hK => ?_, ?_⟩
    · go_simp; exact hK _ hv
    simp only [Act.put, List.setIfInBounds_toArray, List.set_cons_succ, List.set_cons_zero, List.headD_cons, List.tail_cons]
    intro w5 hv5
    have hb5 : Hid (Below w.heap.size w w5) := hbW.out.trans (hv5.mono hbW.out.size)
    clear h5x h6x h8x kP kG kR kS hv5 hbW
    go_wp2_with (fail)
    go_at_call 7
    refine (htg.out w5).mono ?_
    rintro e w6 ⟨v4, rfl, hT4, hB6⟩
    have hb6 : Hid (Below w.heap.size w w6) := hb5.out.trans (hB6.mono hb5.out.size)
    clear hb5 hB6
    obtain ⟨⟨vy4, vn4, e4, ⟨ay4, cy4, ey4, hy4⟩, ⟨an4, cn4, en4, hn4⟩⟩, hw4⟩ := id hT4
    subst ey4 en4 e4
    clear hy4 hn4 hw4
    have hT4H : Hid (TkV w6 _ t4) := hT4
    clear hT4
    go_wp2_with (fail)
    generalize hW7 : World.alloc w6 _ = W7
    have h10 : Hid (Var5 29 w6.heap.size #[.string (bs t4.name), .slice ay4 t4.yes.length cy4, .slice an4 t4.no.length cn4, .bool t4.clear, .float .f64 t4.wt] t4 W7) := by subst hW7; exact Var5.alloc hT4H.out
    have hb7 : Hid (Below w.heap.size w W7) := by subst hW7; exact hb6.out.alloc hb6.out.size _
    clear hW7 hT4H hb6
    go_at_call 12
    refine (hrg.out W7).mono ?_
    rintro e w8 ⟨v5, rfl, hT5, hB8⟩
    have h10b : Hid (Var5 29 w6.heap.size #[.string (bs t4.name), .slice ay4 t4.yes.length cy4, .slice an4 t4.no.length cn4, .bool t4.clear, .float .f64 t4.wt] t4 w8) := h10.out.keep hB8
    have hb8 : Hid (Below w.heap.size w w8) := hb7.out.trans (hB8.mono hb7.out.size)
    clear h10 hb7 hB8
    obtain ⟨⟨vy5, vn5, e5, ⟨ay5, cy5, ey5, hy5⟩, ⟨an5, cn5, en5, hn5⟩⟩, hw5⟩ := id hT5
    subst ey5 en5 e5
    clear hy5 hn5 hw5
    have hT5H : Hid (TkV w8 _ t4) := hT5
    clear hT5
    have h10n : Hid (Var5 29 w6.heap.size #[.string (bs t4.name), .slice ay4 t4.yes.length cy4, .slice an4 t4.no.length cn4, .bool t4.clear, .float .f64 t4.wt] t4 (w8.alloc (.cells #[.string (bs t4.name), .slice ay5 t4.yes.length cy5, .slice an5 t4.no.length cn5, .bool t4.clear, .float .f64 t4.wt] 30 (0, 0)))) := h10b.out.keep ((Below.refl _ _).alloc (Nat.le_refl _) _)
    have h12n : Hid (Var5 30 w8.heap.size #[.string (bs t4.name), .slice ay5 t4.yes.length cy5, .slice an5 t4.no.length cn5, .bool t4.clear, .float .f64 t4.wt] t4 (w8.alloc (.cells #[.string (bs t4.name), .slice ay5 t4.yes.length cy5, .slice an5 t4.no.length cn5, .bool t4.clear, .float .f64 t4.wt] 30 (0, 0)))) := Var5.alloc hT5H.out
    obtain ⟨q0, q1, q2, q3, q4⟩ := h10n.out.cells
    clear h10b hT5H
    by_cases hy40 : y4 = 0
    · obtain ⟨hg4, hp4⟩ := hpg.out hy40
      have hsm := good_small hg4
      subst hy40
      have hgH : Hid (goodT t4 = true) := hg4
      have hpH : Hid (putT t4 = s) := hp4
      have hsH : Hid t4.small := hsm
      clear hg4 hp4 hsm hpg
      go_wp2_with (fail)
      generalize hW9 : World.alloc w8 _ = W9 at *
      have hb9 : Hid (Below w.heap.size w W9) := by subst hW9; exact hb8.out.alloc hb8.out.size _
      clear hW9 hb8 q0 q1 q2 q3 q4
      go_at_call 11
      refine (same_any t4 _ _ hok.out W9 h10n.out.2 h12n.out.2).mono ?_
      rintro e wa ⟨rfl, hBa⟩
      have h10a : Hid (Var5 29 w6.heap.size #[.string (bs t4.name), .slice ay4 t4.yes.length cy4, .slice an4 t4.no.length cn4, .bool t4.clear, .float .f64 t4.wt] t4 wa) := h10n.out.keep hBa
      have hba : Hid (Below w.heap.size w wa) := hb9.out.trans (hBa.mono hb9.out.size)
      obtain ⟨q0, q1, q2, q3, q4⟩ := h10a.out.cells
      clear h10n h12n hBa hb9
      go_wp2_with (fail)
      go_at_call 9
      refine (tgood_any t4 _ hok.out wa h10a.out.2).mono ?_
      rintro e wb ⟨rfl, hBb⟩
      rw [hgH.out]
      have h10d : Hid (Var5 29 w6.heap.size #[.string (bs t4.name), .slice ay4 t4.yes.length cy4, .slice an4 t4.no.length cn4, .bool t4.clear, .float .f64 t4.wt] t4 wb) := h10a.out.keep hBb
      have hbb : Hid (Below w.heap.size w wb) := hba.out.trans (hBb.mono hba.out.size)
      clear q0 q1 q2 q3 q4 h10a hBb hba
      obtain ⟨q0, q1, q2, q3, q4⟩ := h10d.out.cells
      go_wp2_with (fail)
      go_at_call 6
      refine (tput_any t4 _ wb h10d.out.2 hsH.out).mono ?_
      rintro e wc ⟨rfl, hBc⟩
      rw [hpH.out]
      have hbc : Hid (Below w.heap.size w wc) := hbb.out.trans (hBc.mono hbb.out.size)
      clear q0 q1 q2 q3 q4 h10d hBc hbb
      go_wp2_with (fail)
      go_ret
      exact ⟨rfl, hbc.out⟩
    · have hyi : ((y4 : Int) != 0) = true := by rw [ne0_nat]; simp [hy40]
      go_wp2_with (fail)
      generalize hW9 : World.alloc w8 _ = W9 at *
      have hb9 : Hid (Below w.heap.size w W9) := by subst hW9; exact hb8.out.alloc hb8.out.size _
      clear hW9 hb8 q0 q1 q2 q3 q4
      go_at_call 11
      refine (same_any t4 _ _ hok.out W9 h10n.out.2 h12n.out.2).mono ?_
      rintro e wa ⟨rfl, hBa⟩
      have hba : Hid (Below w.heap.size w wa) := hb9.out.trans (hBa.mono hb9.out.size)
      clear h10n h12n hBa hb9 hy40
      go_wp2_with (fail)
      go_ret
      exact ⟨rfl, hba.out⟩
  | false =>
    rw [hg] at kG kR
    have kS : True := trivial
    clear hgp hg
    refine Go.Ev.wp_region_plan (fun v => Below W.heap.size W v) [.string (bs (putT t)), .agg #[.string (bs t.name), .slice ay2 t.yes.length cy2, .slice an2 t.no.length cn2, .bool t.clear, .float .f64 t.wt], .string (bs (putT t)), .bool false, .bool false, .agg #[.string (bs t.name), .slice ay1 t.yes.length cy1, .slice an1 t.no.length cn1, .bool t.clear, .float .f64 t.wt], .bool false, .agg #[.string (bs t.name), .slice ay2 t.yes.length cy2, .slice an2 t.no.length cn2, .bool t.clear, .float .f64 t.wt], .bool false, .bool false, .bool false, .bool false, .agg #[.string (bs t.name), .slice ay2 t.yes.length cy2, .slice an2 t.no.length cn2, .bool t.clear, .float .f64 t.wt], .bool false, .bool false, undef, undef, undef, undef, undef, undef, undef, undef, .bool false, .bool false] hm (by kernel_rfl) (by kernel_rfl) ((Below.refl _ _).drew) ?_
    refine ⟨fun v K hv hK => ?_, ?_⟩
    · go_simp; exact hK _ hv
    simp only [Act.put, List.setIfInBounds_toArray, List.set_cons_succ, List.set_cons_zero, List.headD_cons, List.tail_cons]
    refine ⟨fun v K hv hK => ?_, ?_⟩
    · obtain ⟨c0, c1, c2, c3, c4⟩ := (h6x.out.keep hv).cells; go_simp; exact hK _ hv
    simp only [Act.put, List.setIfInBounds_toArray, List.set_cons_succ, List.set_cons_zero, List.headD_cons, List.tail_cons]
    refine ⟨fun v K hv hK => ?_, ?_⟩
    · go_simp; refine (kP.out v hv).mono ?_; rintro e w' ⟨rfl, hB⟩; exact hK _ (hv.trans (hB.mono hv.size))
    simp only [Act.put, List.setIfInBounds_toArray, List.set_cons_succ, List.set_cons_zero, List.headD_cons, List.tail_cons]
    refine ⟨fun v K hv hK => ?_, ?_⟩
    · go_simp; exact hK _ hv
    simp only [Act.put, List.setIfInBounds_toArray, List.set_cons_succ, List.set_cons_zero, List.headD_cons, List.tail_cons]
    refine ⟨fun v K hv hK => ?_, ?_⟩
    · go_simp; exact hK _ hv
    simp only [Act.put, List.setIfInBounds_toArray, List.set_cons_succ, List.set_cons_zero, List.headD_cons, List.tail_cons]
    refine ⟨fun v K hv hK => ?_, ?_⟩
    · obtain ⟨c0, c1, c2, c3, c4⟩ := (h5x.out.keep hv).cells; go_simp; exact hK _ hv
    simp only [Act.put, List.setIfInBounds_toArray, List.set_cons_succ, List.set_cons_zero, List.headD_cons, List.tail_cons]
    refine ⟨fun v K hv hK => ?_, ?_⟩
    · go_simp; refine (kG.out v hv).mono ?_; rintro e w' ⟨rfl, hB⟩; exact hK _ (hv.trans (hB.mono hv.size))
    simp only [Act.put, List.setIfInBounds_toArray, List.set_cons_succ, List.set_cons_zero, List.headD_cons, List.tail_cons]
    refine ⟨fun v K hv hK => ?_, ?_⟩
    · obtain ⟨c0, c1, c2, c3, c4⟩ := (h6x.out.keep hv).cells; go_simp; exact hK _ hv
    simp only [Act.put, List.setIfInBounds_toArray, List.set_cons_succ, List.set_cons_zero, List.headD_cons, List.tail_cons]
    refine ⟨fun v K hv hK => ?_, ?_⟩
    · go_simp; refine (kR.out v hv).mono ?_; rintro e w' ⟨rfl, hB⟩; exact hK _ (hv.trans (hB.mono hv.size))
    simp only [Act.put, List.setIfInBounds_toArray, List.set_cons_succ, List.set_cons_zero, List.headD_cons, List.tail_cons]
    refine ⟨fun v K hv hK => ?_, ?_⟩
    · go_simp; exact hK _ hv
    simp only [Act.put, List.setIfInBounds_toArray, List.set_cons_succ, List.set_cons_zero, List.headD_cons, List.tail_cons]
    refine ⟨fun v K hv hK => ?_, ?_⟩
    · go_simp; exact hK _ hv
    simp only [Act.put, List.setIfInBounds_toArray, List.set_cons_succ, List.set_cons_zero, List.headD_cons, List.tail_cons]
    refine ⟨fun v K hv hK => ?_, ?_⟩
    · go_simp; exact hK _ hv
    simp only [Act.put, List.setIfInBounds_toArray, List.set_cons_succ, List.set_cons_zero, List.headD_cons, List.tail_cons]
    refine ⟨fun v K hv hK => ?_, ?_⟩
    · obtain ⟨c0, c1, c2, c3, c4⟩ := (h6x.out.keep hv).cells; go_simp; exact hK _ hv
    simp only [Act.put, List.setIfInBounds_toArray, List.set_cons_succ, List.set_cons_zero, List.headD_cons, List.tail_cons]
    refine ⟨fun v K hv hK => ?_, ?_⟩
    · go_simp; refine (kR.out v hv).mono ?_; rintro e w' ⟨rfl, hB⟩; exact hK _ (hv.trans (hB.mono hv.size))
    simp only [Act.put, List.setIfInBounds_toArray, List.set_cons_succ, List.set_cons_zero, List.headD_cons, List.tail_cons]
    refine ⟨fun v K hv hK => ?_, ?_⟩
    · go_simp; exact hK _ hv
    simp only [Act.put, List.setIfInBounds_toArray, List.set_cons_succ, List.set_cons_zero, List.headD_cons, List.tail_cons]
    refine ⟨fun v K hv hK => ?_, ?_⟩
    · go_simp; exact hK _ hv
    simp only [Act.put, List.setIfInBounds_toArray, List.set_cons_succ, List.set_cons_zero, List.headD_cons, List.tail_cons]
    refine ⟨fun v K hv hK => ?_, ?_⟩
    · go_simp; exact hK _ hv
    simp only [Act.put, List.setIfInBounds_toArray, List.set_cons_succ, List.set_cons_zero, List.headD_cons, List.tail_cons]
    refine ⟨fun v K hv hK => ?_, ?_⟩
    · go_simp; exact hK _ hv
    simp only [Act.put, List.setIfInBounds_toArray, List.set_cons_succ, List.set_cons_zero, List.headD_cons, List.tail_cons]
    refine ⟨fun v K hv hK => ?_, ?_⟩
    · go_simp; exact hK _ hv
    simp only [Act.put, List.setIfInBounds_toArray, List.set_cons_succ, List.set_cons_zero, List.headD_cons, List.tail_cons]
    refine ⟨fun v K hv hK => ?_, ?_⟩
    · go_simp; exact hK _ hv
    simp only [Act.put, List.setIfInBounds_toArray, List.set_cons_succ, List.set_cons_zero, List.headD_cons, List.tail_cons]
    refine ⟨fun v K hv hK => ?_, ?_⟩
    · go_simp; exact hK _ hv
    simp only [Act.put, List.setIfInBounds_toArray, List.set_cons_succ, List.set_cons_zero, List.headD_cons, List.tail_cons]
    refine ⟨fun v K hv hK => ?_, ?_⟩
    · go_simp; exact hK _ hv
    simp only [Act.put, List.setIfInBounds_toArray, List.set_cons_succ, List.set_cons_zero, List.headD_cons, List.tail_cons]
    refine ⟨fun v K hv hK => ?_, ?_⟩
    · go_simp; exact hK _ hv
    simp only [Act.put, List.setIfInBounds_toArray, List.set_cons_succ, List.set_cons_zero, List.headD_cons, List.tail_cons]
    refine ⟨fun v K hv hK => ?_, ?_⟩
    · go_simp; exact hK _ hv
    simp only [Act.put, List.setIfInBounds_toArray, List.set_cons_succ, List.set_cons_zero, List.headD_cons, List.tail_cons]
    refine ⟨fun v K hv hK => ?_, ?_⟩
    · go_simp; exact hK _ hv
    simp only [Act.put, List.setIfInBounds_toArray, List.set_cons_succ, List.set_cons_zero, List.headD_cons, List.tail_cons]
    intro w5 hv5
    have hb5 : Hid (Below w.heap.size w w5) := hbW.out.trans (hv5.mono hbW.out.size)
    clear h5x h6x h8x kP kG kR kS hv5 hbW
    go_wp2_with (fail)
    go_at_call 7
    refine (htg.out w5).mono ?_
    rintro e w6 ⟨v4, rfl, hT4, hB6⟩
    have hb6 : Hid (Below w.heap.size w w6) := hb5.out.trans (hB6.mono hb5.out.size)
    clear hb5 hB6
    obtain ⟨⟨vy4, vn4, e4, ⟨ay4, cy4, ey4, hy4⟩, ⟨an4, cn4, en4, hn4⟩⟩, hw4⟩ := id hT4
    subst ey4 en4 e4
    clear hy4 hn4 hw4
    have hT4H : Hid (TkV w6 _ t4) := hT4
    clear hT4
    go_wp2_with (fail)
    generalize hW7 : World.alloc w6 _ = W7
    have h10 : Hid (Var5 29 w6.heap.size #[.string (bs t4.name), .slice ay4 t4.yes.length cy4, .slice an4 t4.no.length cn4, .bool t4.clear, .float .f64 t4.wt] t4 W7) := by subst hW7; exact Var5.alloc hT4H.out
    have hb7 : Hid (Below w.heap.size w W7) := by subst hW7; exact hb6.out.alloc hb6.out.size _
    clear hW7 hT4H hb6
    go_at_call 12
    refine (hrg.out W7).mono ?_
    rintro e w8 ⟨v5, rfl, hT5, hB8⟩
    have h10b : Hid (Var5 29 w6.heap.size #[.string (bs t4.name), .slice ay4 t4.yes.length cy4, .slice an4 t4.no.length cn4, .bool t4.clear, .float .f64 t4.wt] t4 w8) := h10.out.keep hB8
    have hb8 : Hid (Below w.heap.size w w8) := hb7.out.trans (hB8.mono hb7.out.size)
    clear h10 hb7 hB8
    obtain ⟨⟨vy5, vn5, e5, ⟨ay5, cy5, ey5, hy5⟩, ⟨an5, cn5, en5, hn5⟩⟩, hw5⟩ := id hT5
    subst ey5 en5 e5
    clear hy5 hn5 hw5
    have hT5H : Hid (TkV w8 _ t4) := hT5
    clear hT5
    have h10n : Hid (Var5 29 w6.heap.size #[.string (bs t4.name), .slice ay4 t4.yes.length cy4, .slice an4 t4.no.length cn4, .bool t4.clear, .float .f64 t4.wt] t4 (w8.alloc (.cells #[.string (bs t4.name), .slice ay5 t4.yes.length cy5, .slice an5 t4.no.length cn5, .bool t4.clear, .float .f64 t4.wt] 30 (0, 0)))) := h10b.out.keep ((Below.refl _ _).alloc (Nat.le_refl _) _)
    have h12n : Hid (Var5 30 w8.heap.size #[.string (bs t4.name), .slice ay5 t4.yes.length cy5, .slice an5 t4.no.length cn5, .bool t4.clear, .float .f64 t4.wt] t4 (w8.alloc (.cells #[.string (bs t4.name), .slice ay5 t4.yes.length cy5, .slice an5 t4.no.length cn5, .bool t4.clear, .float .f64 t4.wt] 30 (0, 0)))) := Var5.alloc hT5H.out
    obtain ⟨q0, q1, q2, q3, q4⟩ := h10n.out.cells
    clear h10b hT5H
    by_cases hy40 : y4 = 0
    · obtain ⟨hg4, hp4⟩ := hpg.out hy40
      have hsm := good_small hg4
      subst hy40
      have hgH : Hid (goodT t4 = true) := hg4
      have hpH : Hid (putT t4 = s) := hp4
      have hsH : Hid t4.small := hsm
      clear hg4 hp4 hsm hpg
      go_wp2_with (fail)
      generalize hW9 : World.alloc w8 _ = W9 at *
      have hb9 : Hid (Below w.heap.size w W9) := by subst hW9; exact hb8.out.alloc hb8.out.size _
      clear hW9 hb8 q0 q1 q2 q3 q4
      go_at_call 11
      refine (same_any t4 _ _ hok.out W9 h10n.out.2 h12n.out.2).mono ?_
      rintro e wa ⟨rfl, hBa⟩
      have h10a : Hid (Var5 29 w6.heap.size #[.string (bs t4.name), .slice ay4 t4.yes.length cy4, .slice an4 t4.no.length cn4, .bool t4.clear, .float .f64 t4.wt] t4 wa) := h10n.out.keep hBa
      have hba : Hid (Below w.heap.size w wa) := hb9.out.trans (hBa.mono hb9.out.size)
      obtain ⟨q0, q1, q2, q3, q4⟩ := h10a.out.cells
      clear h10n h12n hBa hb9
      go_wp2_with (fail)
      go_at_call 9
      refine (tgood_any t4 _ hok.out wa h10a.out.2).mono ?_
      rintro e wb ⟨rfl, hBb⟩
      rw [hgH.out]
      have h10d : Hid (Var5 29 w6.heap.size #[.string (bs t4.name), .slice ay4 t4.yes.length cy4, .slice an4 t4.no.length cn4, .bool t4.clear, .float .f64 t4.wt] t4 wb) := h10a.out.keep hBb
      have hbb : Hid (Below w.heap.size w wb) := hba.out.trans (hBb.mono hba.out.size)
      clear q0 q1 q2 q3 q4 h10a hBb hba
      obtain ⟨q0, q1, q2, q3, q4⟩ := h10d.out.cells
      go_wp2_with (fail)
      go_at_call 6
      refine (tput_any t4 _ wb h10d.out.2 hsH.out).mono ?_
      rintro e wc ⟨rfl, hBc⟩
      rw [hpH.out]
      have hbc : Hid (Below w.heap.size w wc) := hbb.out.trans (hBc.mono hbb.out.size)
      clear q0 q1 q2 q3 q4 h10d hBc hbb
      go_wp2_with (fail)
      go_ret
      exact ⟨rfl, hbc.out⟩
    · have hyi : ((y4 : Int) != 0) = true := by rw [ne0_nat]; simp [hy40]
      go_wp2_with (fail)
      generalize hW9 : World.alloc w8 _ = W9 at *
      have hb9 : Hid (Below w.heap.size w W9) := by subst hW9; exact hb8.out.alloc hb8.out.size _
      clear hW9 hb8 q0 q1 q2 q3 q4
      go_at_call 11
      refine (same_any t4 _ _ hok.out W9 h10n.out.2 h12n.out.2).mono ?_
      rintro e wa ⟨rfl, hBa⟩
      have hba : Hid (Below w.heap.size w wa) := hb9.out.trans (hBa.mono hb9.out.size)
      clear h10n h12n hBa hb9 hy40
      go_wp2_with (fail)
      go_ret
      exact ⟨rfl, hba.out⟩
end Go.Proofs.YtcdcchkaohnkdaaGreatDoor
