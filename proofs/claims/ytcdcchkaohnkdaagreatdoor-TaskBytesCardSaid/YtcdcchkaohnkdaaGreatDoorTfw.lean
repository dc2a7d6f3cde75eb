/- Few words of many: what the law cuts its argument to. -/
import Derived.Test.YtcdcchkaohnkdaaGreatDoorTin
import Derived.Test.YtcdcchkaohnkdaaGreatDoorSid
import Derived.LoopTactic
import Derived.Deep.AppendLies
namespace Go.Proofs.YtcdcchkaohnkdaaGreatDoor
open Go.RowKit Go.Ev

/-- Where a region stands that appends to one row, in whatever order. -/
structure OneS (w0 : World) (M : Nat) (a : App) (cp : Nat) (pu : Nat → Prop) (vals : Nat → Value) (d : Nat → Bool) (vs : Nat → Value) (w : World) : Prop where
  cpy : d cp = true → d a.app = true ∧ vs cp = vs a.app
  vals : ∀ i, pu i → d i = true → vs i = vals i
  bel : Below M w0 w
  sz : M ≤ w.heap.size
  sa : Side M a.k a.z a.e a.v a.R a.c (d a.box) (d a.app) (vs a.box) (vs a.app) w

section
variable {w0 : World} {M : Nat} {a : App} {cp : Nat} {pu : Nat → Prop} {vals : Nat → Value} {d : Nat → Bool} {vs : Nat → Value} {w : World}

theorem OneS.pure (h : OneS w0 M a cp pu vals d vs w) {i : Nat} (hi : i ≠ a.box ∧ i ≠ a.app ∧ i ≠ cp) {u : Value} (hu : u = vals i) : OneS w0 M a cp pu vals (upd d i true) (upd vs i u) w := by
  obtain ⟨h1, h2, h3⟩ := hi
  refine ⟨?_, fun j hj hd => ?_, h.bel, h.sz, ?_⟩
  · rw [upd_other _ _ h3.symm, upd_other _ _ h2.symm, upd_other _ _ h3.symm, upd_other _ _ h2.symm]; exact h.cpy
  · by_cases e : j = i
    · subst e; rw [upd_same]; exact hu
    · rw [upd_other _ _ e] at hd ⊢; exact h.vals j hj hd
  · rw [upd_other _ _ h1.symm, upd_other _ _ h2.symm, upd_other _ _ h1.symm, upd_other _ _ h2.symm]; exact h.sa

theorem OneS.copy (h : OneS w0 M a cp pu vals d vs w) (hi : cp ≠ a.box ∧ cp ≠ a.app) (hp : ¬ pu cp) (hd : d a.app = true) : OneS w0 M a cp pu vals (upd d cp true) (upd vs cp (vs a.app)) w := by
  obtain ⟨h1, h2⟩ := hi
  refine ⟨fun _ => ?_, fun j hj hd => ?_, h.bel, h.sz, ?_⟩
  · rw [upd_other _ _ h2.symm, upd_same, upd_other _ _ h2.symm]; exact ⟨hd, rfl⟩
  · have hne : j ≠ cp := fun e => hp (e ▸ hj)
    rw [upd_other _ _ hne] at hd ⊢; exact h.vals j hj hd
  · rw [upd_other _ _ h1.symm, upd_other _ _ h2.symm, upd_other _ _ h1.symm, upd_other _ _ h2.symm]; exact h.sa

theorem OneS.box (h : OneS w0 M a cp pu vals d vs w) (n1 : a.box ≠ a.app ∧ cp ≠ a.box) (hp : ¬ pu a.box) (h4 : d a.app = false) {t : TypeId} (cs : Array Value) (hc : cs.toList = a.c) :
    OneS w0 M a cp pu vals (upd d a.box true) (upd vs a.box (.slice (some ⟨w.heap.size, 0, none⟩) 1 1)) (w.alloc (.cells cs t)) := by
  obtain ⟨n1, n2⟩ := n1
  have e4 : upd d a.box true a.app = false := (upd_other _ _ n1.symm).trans h4
  have f4 : upd vs a.box (Value.slice (some ⟨w.heap.size, 0, none⟩) 1 1) a.app = vs a.app := upd_other _ _ n1.symm
  refine ⟨fun hc => ?_, fun j hj hd => ?_, h.bel.alloc h.sz _, by have := h.sz; simp; omega, ?_⟩
  · rw [upd_other _ _ n2] at hc
    have := (h.cpy hc).1
    rw [h4] at this
    cases this
  · have hne : j ≠ a.box := fun e => hp (e ▸ hj)
    rw [upd_other _ _ hne] at hd ⊢; exact h.vals j hj hd
  · rw [upd_same, upd_same, e4, f4]
    refine ⟨fun _ => ownsRow_below (h.sa.own0 h4) ((Below.refl _ w).alloc (Nat.le_refl _) _), fun h => (by cases h), fun _ _ => ⟨w.heap.size, rfl, h.sz, by simp, fun j u hu => ?_⟩⟩
    rw [cell_of_row _ _ _ _ _ _ (heap_alloc_new w _)]
    rw [← hc] at hu
    simpa using hu

theorem OneS.app (h : OneS w0 M a cp pu vals d vs w) (n1 : a.box ≠ a.app ∧ cp ≠ a.app) (hp : ¬ pu a.app) (hd : d a.app = false) {v' : Value} {w' : World}
    (hO : w'.ownsRow M a.e a.z v' (a.k + 1) (a.R ++ a.c)) (hgr : w.grownBy w' a.v.ownBlock) :
    OneS w0 M a cp pu vals (upd d a.app true) (upd vs a.app v') w' := by
  obtain ⟨n1, n2⟩ := n1
  have hge : ∀ j, a.v.ownBlock = some j → M ≤ j := fun j hj => ((h.sa.own0 hd).lt j hj).1
  refine ⟨fun hc => ?_, fun j hj hd => ?_, h.bel.grown hgr h.sz (fun j hj => hge j hj), Nat.le_trans h.sz hgr.size, ?_⟩
  · rw [upd_other _ _ n2] at hc
    have := (h.cpy hc).1
    rw [hd] at this
    cases this
  · have hne : j ≠ a.app := fun e => hp (e ▸ hj)
    rw [upd_other _ _ hne] at hd ⊢; exact h.vals j hj hd
  · rw [upd_other _ _ n1, upd_same, upd_same, upd_other _ _ n1]
    exact ⟨fun h => (by cases h), fun _ => hO, fun _ h => (by cases h)⟩
end

/-! ## What is left -/
def fewL (l : List Str) : List Str := (l.take 70).map fun s => s.take 20
def fewS (ll : List (List Str)) : List (List Str) := (ll.take 70).map fewL

theorem fewL_small (l : List Str) : (fewL l).length ≤ 70 ∧ ∀ s ∈ fewL l, s.length ≤ 70 := by
  unfold fewL
  refine ⟨by rw [List.length_map, List.length_take]; omega, fun s hs => ?_⟩
  obtain ⟨t, _, rfl⟩ := List.mem_map.1 hs
  rw [List.length_take]; omega
theorem fewS_small (ll : List (List Str)) : (fewS ll).length ≤ 70 ∧ ∀ ts ∈ fewS ll, ts.length ≤ 70 ∧ ∀ s ∈ ts, s.length ≤ 70 := by
  unfold fewS
  refine ⟨by rw [List.length_map, List.length_take]; omega, fun ts hs => ?_⟩
  obtain ⟨t, _, rfl⟩ := List.mem_map.1 hs
  exact fewL_small t
theorem take_map_snoc {α β : Type} (f : α → β) (l : List α) (k : Nat) (d : α) (h : k < l.length) : (l.take (k + 1)).map f = (l.take k).map f ++ [f (l.getD k d)] := by
  rw [List.take_add_one, List.getElem?_eq_getElem h, List.map_append, List.getD, List.getElem?_eq_getElem h]; rfl
theorem take_min (s : Str) (n : Nat) : s.take (min s.length n) = s.take n := by
  rcases Nat.le_total s.length n with h | h
  · rw [Nat.min_eq_left h, List.take_of_length_le (Nat.le_refl _), List.take_of_length_le h]
  · rw [Nat.min_eq_right h]
theorem take_70 {α : Type} (l : List α) (k : Nat) (h1 : k ≤ l.length) (h2 : k ≤ 70) (h3 : ¬ (k < l.length ∧ k < 70)) : l.take k = l.take 70 := by
  by_cases h : k = 70
  · rw [h]
  · rw [List.take_of_length_le (by omega), List.take_of_length_le (by omega)]
theorem words_below {N : Nat} {w w' : World} {vs : List Value} {ll : List (List Str)} (h : WordsOwn N w vs ll) (hb : Below w.heap.size w w') : WordsOwn N w' vs ll := ⟨h.1, fun j hj => ownsRow_below (h.2 j hj) hb⟩
theorem words_base {N N' : Nat} {w : World} {vs : List Value} {ll : List (List Str)} (h : WordsOwn N w vs ll) (hN : N' ≤ N) : WordsOwn N' w vs ll := ⟨h.1, fun j hj => own_base (h.2 j hj) hN⟩

/-- What the operations of one round yield. -/
def fewVals (u : Value) (b off n cap k b' off' m cap' q : Nat) (s : Str) : Nat → Value
  | 0 => u
  | 1 => .slice (some ⟨b, off, none⟩) n cap
  | 2 => .int .i64 (k : Nat)
  | 3 => .pointer (some ⟨b, off + k, none⟩)
  | 4 => .slice (some ⟨b', off', none⟩) m cap'
  | 5 => .int .i64 (q : Nat)
  | 6 => .pointer (some ⟨b', off' + q, none⟩)
  | 7 => .string (bs s)
  | 8 => .slice (some ⟨b, off, none⟩) n cap
  | 9 => .int .i64 (k : Nat)
  | 10 => .pointer (some ⟨b, off + k, none⟩)
  | 11 => .slice (some ⟨b', off', none⟩) m cap'
  | 12 => .int .i64 (q : Nat)
  | 13 => .pointer (some ⟨b', off' + q, none⟩)
  | 14 => .string (bs s)
  | 15 => .int .i64 (s.length : Nat)
  | 16 => .int .i64 (min s.length 20 : Nat)
  | 17 => .string (bs (s.take 20))
  | _ => undef

set_option maxRecDepth 100000 in
set_option maxHeartbeats 6400000 in
theorem few_any (a : Option Addr) (ll : List (List Str)) (cap : Nat) (w : World) (hL : ListsAt w.heap.size w a ll) :
    Calls Tryz.prog 16 #[.slice a ll.length cap] w fun e w' => ∃ v us, e = .returned v ∧ w'.ownsRow w.heap.size 47 1 v (fewS ll).length us ∧ WordsOwn w.heap.size w' us (fewS ll) ∧ Below w.heap.size w w' := by
  obtain ⟨i0, z0, hInf⟩ := lstInfo
  obtain ⟨i1, z1, hStr⟩ := strInfo
  have hm : Tryz.prog.follows .mixedOrders = true := by kernel_rfl
  have hLH : Hid (ListsAt w.heap.size w a ll) := hL
  clear hL
  go_enter Tryz.func16, Tryz.ntmps16
  go_wp2_with (fail)
  go_loopw [3, 4, 5, 6] (fun v i _ _ wr => ∃ (k : Nat) (us : List Value), k ≤ ll.length ∧ k ≤ 70 ∧ i = .int .i64 k ∧ wr.ownsRow w.heap.size 47 1 v k us ∧ WordsOwn w.heap.size wr us ((ll.take k).map fewL) ∧ Below w.heap.size w wr) (fun _ i _ _ _ => 70 - (intOf i).toNat)
  case atStart => exact ⟨0, [], Nat.zero_le _, by omega, rfl, World.ownsRow_nil _ _ _ _, by simpa using WordsOwn.nil _ _, Below.refl _ _⟩
  case round =>
    obtain ⟨k, us, hk, hk70, rfl, hown, hwo, hB⟩ := hrel
    by_cases hlt : k < ll.length ∧ k < 70
    · obtain ⟨h1, h2⟩ := hlt
      obtain ⟨b, off, u, rfl, hbN, hcell, a', cap', rfl, hS⟩ := hLH.out k h1
      have hSH : Hid (StrsAt w.heap.size w a' (ll.getD k [])) := hS
      have htk : Hid ((ll.take (k + 1)).map fewL = (ll.take k).map fewL ++ [fewL (ll.getD k [])]) := take_map_snoc fewL ll k [] h1
      have h70 : (k : Int) < 70 := by omega
      have hownH : Hid (wr.ownsRow w.heap.size 47 1 u3 k us) := hown
      have hwoH : Hid (WordsOwn w.heap.size wr us ((ll.take k).map fewL)) := hwo
      have hBH : Hid (Below w.heap.size w wr) := hB
      have hszr : w.heap.size ≤ wr.heap.size := hB.size
      clear hS hown hwo hB
      generalize ll.getD k [] = l at *
      obtain ⟨wa, hwa⟩ : ∃ wa : World, wa = wr := ⟨wr, rfl⟩
      subst hwa
      go_wp2_with (fail)
      go_loopw [5, 6] (fun wv j wq => ∃ q : Nat, q ≤ l.length ∧ q ≤ 70 ∧ j = .int .i64 q ∧ wq.ownsRow wa.heap.size 9 1 wv q (strVals ((l.take q).map fun s => s.take 20)) ∧ Below wa.heap.size wa wq) (fun _ j _ => 70 - (intOf j).toNat)
      case atStart => exact ⟨0, Nat.zero_le _, by omega, rfl, World.ownsRow_nil _ _ _ _, Below.refl _ _⟩
      case round =>
        obtain ⟨q, hq, hq70, rfl, hownq, hBq⟩ := hrel
        have hB2 : Hid (Below w.heap.size w wr) := hBH.out.trans (hBq.mono hszr)
        have hc := (hB2.out.cell (p := ⟨b, off + k, none⟩) (by exact hbN)).trans hcell
        by_cases hltq : q < l.length ∧ q < 70
        · obtain ⟨h1q, h2q⟩ := hltq
          obtain ⟨b', off', rfl, hbN', hcell'⟩ := hSH.out q h1q
          have hc' := (hB2.out.cell (p := ⟨b', off' + q, none⟩) (by exact hbN')).trans hcell'
          have htq : Hid (strVals ((l.take (q + 1)).map fun s => s.take 20) = strVals ((l.take q).map fun s => s.take 20) ++ [.string (bs ((l.getD q []).take 20))]) := by
            unfold Hid; rw [take_map_snoc _ l q [] h1q]; exact List.map_append
          have h70q : (q : Int) < 70 := by omega
          generalize l.getD q [] = s at *
          have hownqH : Hid (wr.ownsRow wa.heap.size 9 1 u5 q (strVals ((l.take q).map fun s => s.take 20))) := hownq
          have hBqH : Hid (Below wa.heap.size wa wr) := hBq
          have hsz : (bs s).size = s.length := bs_size s
          clear hownq hBq
          generalize strVals ((l.take q).map fun s => s.take 20) = R at *
          have hbM : b < wa.heap.size := Nat.lt_of_lt_of_le hbN hszr
          have hbM' : b' < wa.heap.size := Nat.lt_of_lt_of_le hbN' hszr
          have hcM : Hid (wa.cell? ⟨b, off + k, none⟩ = some (.slice (some ⟨b', off', none⟩) l.length cap') ∧ wa.cell? ⟨b', off' + q, none⟩ = some (.string (bs s))) :=
            ⟨(hBH.out.cell (p := ⟨b, off + k, none⟩) (by exact hbN)).trans hcell, (hBH.out.cell (p := ⟨b', off' + q, none⟩) (by exact hbN')).trans hcell'⟩
          have hS0 : OneS wa wa.heap.size ⟨q, 1, 9, u5, R, [.string (bs (s.take 20))], 18, 19⟩ 20 (fun i => i ≠ 18 ∧ i ≠ 19 ∧ i ≠ 20) (fewVals u5 b off ll.length cap k b' off' l.length cap' q s) (fun _ => false) (fun _ => undef) wr.drew :=
            ⟨fun h => (by cases h), fun i _ h => (by cases h), hBqH.out.drew, hBqH.out.size, ⟨fun _ => hownqH.out, fun h => (by cases h), fun h => (by cases h)⟩⟩
          go_wp2_with (fail)
          clear hc hc'
          refine Go.Ev.wp_region_inv _ hm (by kernel_rfl) (by kernel_rfl) hS0 ?_
          refine ⟨fun d vs w1 K hS hd hdep hcl hK => ?_, ?_⟩
          · go_simp
            exact hK _ _ (hS.pure (by show 0 ≠ 18 ∧ 0 ≠ 19 ∧ 0 ≠ 20; decide) rfl)
          simp only [Act.put, List.setIfInBounds_toArray, List.set_cons_succ, List.set_cons_zero, Nat.reduceAdd]
          refine ⟨fun d vs w1 K hS hd hdep hcl hK => ?_, ?_⟩
          · go_simp
            exact hK _ _ (hS.pure (by show 1 ≠ 18 ∧ 1 ≠ 19 ∧ 1 ≠ 20; decide) rfl)
          simp only [Act.put, List.setIfInBounds_toArray, List.set_cons_succ, List.set_cons_zero, Nat.reduceAdd]
          refine ⟨fun d vs w1 K hS hd hdep hcl hK => ?_, ?_⟩
          · go_simp
            exact hK _ _ (hS.pure (by show 2 ≠ 18 ∧ 2 ≠ 19 ∧ 2 ≠ 20; decide) rfl)
          simp only [Act.put, List.setIfInBounds_toArray, List.set_cons_succ, List.set_cons_zero, Nat.reduceAdd]
          refine ⟨fun d vs w1 K hS hd hdep hcl hK => ?_, ?_⟩
          · have e1 : vs 1 = .slice (some ⟨b, off, none⟩) ll.length cap := hS.vals 1 (by decide) (depB hdep 1 (by kernel_rfl))
            have e2 : vs 2 = .int .i64 (k : Nat) := hS.vals 2 (by decide) (depB hdep 2 (by kernel_rfl))
            simp only [e1, e2] at hK ⊢
            go_simp
            exact hK _ _ (hS.pure (by show 3 ≠ 18 ∧ 3 ≠ 19 ∧ 3 ≠ 20; decide) rfl)
          simp only [Act.put, List.setIfInBounds_toArray, List.set_cons_succ, List.set_cons_zero, Nat.reduceAdd]
          refine ⟨fun d vs w1 K hS hd hdep hcl hK => ?_, ?_⟩
          · have e3 : vs 3 = .pointer (some ⟨b, off + k, none⟩) := hS.vals 3 (by decide) (depB hdep 3 (by kernel_rfl))
            have hx := (hS.bel.cell (p := ⟨b, off + k, none⟩) (by exact hbM)).trans hcM.out.1
            simp only [e3] at hK ⊢
            go_simp
            exact hK _ _ (hS.pure (by show 4 ≠ 18 ∧ 4 ≠ 19 ∧ 4 ≠ 20; decide) rfl)
          simp only [Act.put, List.setIfInBounds_toArray, List.set_cons_succ, List.set_cons_zero, Nat.reduceAdd]
          refine ⟨fun d vs w1 K hS hd hdep hcl hK => ?_, ?_⟩
          · go_simp
            exact hK _ _ (hS.pure (by show 5 ≠ 18 ∧ 5 ≠ 19 ∧ 5 ≠ 20; decide) rfl)
          simp only [Act.put, List.setIfInBounds_toArray, List.set_cons_succ, List.set_cons_zero, Nat.reduceAdd]
          refine ⟨fun d vs w1 K hS hd hdep hcl hK => ?_, ?_⟩
          · have e4 : vs 4 = .slice (some ⟨b', off', none⟩) l.length cap' := hS.vals 4 (by decide) (depB hdep 4 (by kernel_rfl))
            have e5 : vs 5 = .int .i64 (q : Nat) := hS.vals 5 (by decide) (depB hdep 5 (by kernel_rfl))
            simp only [e4, e5] at hK ⊢
            go_simp
            exact hK _ _ (hS.pure (by show 6 ≠ 18 ∧ 6 ≠ 19 ∧ 6 ≠ 20; decide) rfl)
          simp only [Act.put, List.setIfInBounds_toArray, List.set_cons_succ, List.set_cons_zero, Nat.reduceAdd]
          refine ⟨fun d vs w1 K hS hd hdep hcl hK => ?_, ?_⟩
          · have e6 : vs 6 = .pointer (some ⟨b', off' + q, none⟩) := hS.vals 6 (by decide) (depB hdep 6 (by kernel_rfl))
            have hx := (hS.bel.cell (p := ⟨b', off' + q, none⟩) (by exact hbM')).trans hcM.out.2
            simp only [e6] at hK ⊢
            go_simp
            exact hK _ _ (hS.pure (by show 7 ≠ 18 ∧ 7 ≠ 19 ∧ 7 ≠ 20; decide) rfl)
          simp only [Act.put, List.setIfInBounds_toArray, List.set_cons_succ, List.set_cons_zero, Nat.reduceAdd]
          refine ⟨fun d vs w1 K hS hd hdep hcl hK => ?_, ?_⟩
          · go_simp
            exact hK _ _ (hS.pure (by show 8 ≠ 18 ∧ 8 ≠ 19 ∧ 8 ≠ 20; decide) rfl)
          simp only [Act.put, List.setIfInBounds_toArray, List.set_cons_succ, List.set_cons_zero, Nat.reduceAdd]
          refine ⟨fun d vs w1 K hS hd hdep hcl hK => ?_, ?_⟩
          · go_simp
            exact hK _ _ (hS.pure (by show 9 ≠ 18 ∧ 9 ≠ 19 ∧ 9 ≠ 20; decide) rfl)
          simp only [Act.put, List.setIfInBounds_toArray, List.set_cons_succ, List.set_cons_zero, Nat.reduceAdd]
          refine ⟨fun d vs w1 K hS hd hdep hcl hK => ?_, ?_⟩
          · have e8 : vs 8 = .slice (some ⟨b, off, none⟩) ll.length cap := hS.vals 8 (by decide) (depB hdep 8 (by kernel_rfl))
            have e9 : vs 9 = .int .i64 (k : Nat) := hS.vals 9 (by decide) (depB hdep 9 (by kernel_rfl))
            simp only [e8, e9] at hK ⊢
            go_simp
            exact hK _ _ (hS.pure (by show 10 ≠ 18 ∧ 10 ≠ 19 ∧ 10 ≠ 20; decide) rfl)
          simp only [Act.put, List.setIfInBounds_toArray, List.set_cons_succ, List.set_cons_zero, Nat.reduceAdd]
          refine ⟨fun d vs w1 K hS hd hdep hcl hK => ?_, ?_⟩
          · have e10 : vs 10 = .pointer (some ⟨b, off + k, none⟩) := hS.vals 10 (by decide) (depB hdep 10 (by kernel_rfl))
            have hx := (hS.bel.cell (p := ⟨b, off + k, none⟩) (by exact hbM)).trans hcM.out.1
            simp only [e10] at hK ⊢
            go_simp
            exact hK _ _ (hS.pure (by show 11 ≠ 18 ∧ 11 ≠ 19 ∧ 11 ≠ 20; decide) rfl)
          simp only [Act.put, List.setIfInBounds_toArray, List.set_cons_succ, List.set_cons_zero, Nat.reduceAdd]
          refine ⟨fun d vs w1 K hS hd hdep hcl hK => ?_, ?_⟩
          · go_simp
            exact hK _ _ (hS.pure (by show 12 ≠ 18 ∧ 12 ≠ 19 ∧ 12 ≠ 20; decide) rfl)
          simp only [Act.put, List.setIfInBounds_toArray, List.set_cons_succ, List.set_cons_zero, Nat.reduceAdd]
          refine ⟨fun d vs w1 K hS hd hdep hcl hK => ?_, ?_⟩
          · have e11 : vs 11 = .slice (some ⟨b', off', none⟩) l.length cap' := hS.vals 11 (by decide) (depB hdep 11 (by kernel_rfl))
            have e12 : vs 12 = .int .i64 (q : Nat) := hS.vals 12 (by decide) (depB hdep 12 (by kernel_rfl))
            simp only [e11, e12] at hK ⊢
            go_simp
            exact hK _ _ (hS.pure (by show 13 ≠ 18 ∧ 13 ≠ 19 ∧ 13 ≠ 20; decide) rfl)
          simp only [Act.put, List.setIfInBounds_toArray, List.set_cons_succ, List.set_cons_zero, Nat.reduceAdd]
          refine ⟨fun d vs w1 K hS hd hdep hcl hK => ?_, ?_⟩
          · have e13 : vs 13 = .pointer (some ⟨b', off' + q, none⟩) := hS.vals 13 (by decide) (depB hdep 13 (by kernel_rfl))
            have hx := (hS.bel.cell (p := ⟨b', off' + q, none⟩) (by exact hbM')).trans hcM.out.2
            simp only [e13] at hK ⊢
            go_simp
            exact hK _ _ (hS.pure (by show 14 ≠ 18 ∧ 14 ≠ 19 ∧ 14 ≠ 20; decide) rfl)
          simp only [Act.put, List.setIfInBounds_toArray, List.set_cons_succ, List.set_cons_zero, Nat.reduceAdd]
          refine ⟨fun d vs w1 K hS hd hdep hcl hK => ?_, ?_⟩
          · have e14 : vs 14 = .string (bs s) := hS.vals 14 (by decide) (depB hdep 14 (by kernel_rfl))
            simp only [e14] at hK ⊢
            go_simp
            exact hK _ _ (hS.pure (by show 15 ≠ 18 ∧ 15 ≠ 19 ∧ 15 ≠ 20; decide) rfl)
          simp only [Act.put, List.setIfInBounds_toArray, List.set_cons_succ, List.set_cons_zero, Nat.reduceAdd]
          refine ⟨fun d vs w1 K hS hd hdep hcl hK => ?_, ?_⟩
          · have e15 : vs 15 = .int .i64 (s.length : Nat) := hS.vals 15 (by decide) (depB hdep 15 (by kernel_rfl))
            have hmin : min (s.length : Int) 20 = ((min s.length 20 : Nat) : Int) := by omega
            simp only [e15] at hK ⊢
            go_simp
            exact hK _ _ (hS.pure (by show 16 ≠ 18 ∧ 16 ≠ 19 ∧ 16 ≠ 20; decide) rfl)
          simp only [Act.put, List.setIfInBounds_toArray, List.set_cons_succ, List.set_cons_zero, Nat.reduceAdd]
          refine ⟨fun d vs w1 K hS hd hdep hcl hK => ?_, ?_⟩
          · have e7 : vs 7 = .string (bs s) := hS.vals 7 (by decide) (depB hdep 7 (by kernel_rfl))
            have e16 : vs 16 = .int .i64 (min s.length 20 : Nat) := hS.vals 16 (by decide) (depB hdep 16 (by kernel_rfl))
            have hx17 : (bs s).extract 0 (min s.length 20) = bs (s.take 20) := by rw [bs_take, take_min]
            have hl17 : min s.length 20 ≤ s.length := Nat.min_le_left _ _
            simp only [e7, e16] at hK ⊢
            go_simp
            exact hK _ _ (hS.pure (by show 17 ≠ 18 ∧ 17 ≠ 19 ∧ 17 ≠ 20; decide) rfl)
          simp only [Act.put, List.setIfInBounds_toArray, List.set_cons_succ, List.set_cons_zero, Nat.reduceAdd]
          refine ⟨fun d vs w1 K hS hd hdep hcl hK => ?_, ?_⟩
          · have e17 : vs 17 = .string (bs (s.take 20)) := hS.vals 17 (by decide) (depB hdep 17 (by kernel_rfl))
            have h19 := closedF hcl 19 18 (by kernel_rfl) hd
            simp only [e17] at hK ⊢
            go_simp
            exact hK _ _ (hS.box (by show 18 ≠ 19 ∧ 20 ≠ 18; decide) (by show ¬ (18 ≠ 18 ∧ 18 ≠ 19 ∧ 18 ≠ 20); decide) h19 _ rfl)
          simp only [Act.put, List.setIfInBounds_toArray, List.set_cons_succ, List.set_cons_zero, Nat.reduceAdd]
          refine ⟨fun d vs w1 K hS hd hdep hcl hK => ?_, ?_⟩
          · have e0 : vs 0 = u5 := hS.vals 0 (by decide) (depB hdep 0 (by kernel_rfl))
            have d18 := depB hdep 18 (by kernel_rfl)
            obtain ⟨g, eg, hg1, hg2, hgc⟩ := hS.sa.box d18 hd
            refine step_append_lies _ ?ga (.tmp 30) (.tmp 48) 47 ?gb wa.heap.size 9 i1 z1 1 16 hStr.sl hStr.info hStr.zero hStr.hsz hStr.hby hStr.hcl (by decide) u5 q R ?gc (hS.sa.own0 hd) ⟨g, 0, none⟩ 1 1 [.string (bs (s.take 20))] ?gd rfl ?_ ?_ (by decide) ?_ ?_ hS.sz w1.heap.size rfl ?_
            case ga => rfl
            case gb => rfl
            case gc => exact e0
            case gd => exact eg
            · intro j u hu
              rw [Addr.add_lit, Nat.zero_add]
              exact hgc j u hu
            · intro u hu; simp at hu; subst hu; rfl
            · unfold maxLen; omega
            · omega
            intro g' cap2 w' hO' hgr hgb hlt'
            exact hK _ _ (hS.app (by show 18 ≠ 19 ∧ 20 ≠ 19; decide) (by show ¬ (19 ≠ 18 ∧ 19 ≠ 19 ∧ 19 ≠ 20); decide) hd hO' hgr)
          simp only [Act.put, List.setIfInBounds_toArray, List.set_cons_succ, List.set_cons_zero, Nat.reduceAdd]
          refine ⟨fun d vs w1 K hS hd hdep hcl hK => ?_, ?_⟩
          · have d19 := depB hdep 19 (by kernel_rfl)
            go_simp
            exact hK _ _ (hS.copy (by show 20 ≠ 18 ∧ 20 ≠ 19; decide) (by show ¬ (20 ≠ 18 ∧ 20 ≠ 19 ∧ 20 ≠ 20); decide) d19)
          simp only [Act.put, List.setIfInBounds_toArray, List.set_cons_succ, List.set_cons_zero, Nat.reduceAdd]
          intro vs d w' hS hall
          obtain ⟨hd19, e20⟩ := hS.cpy (hall 20 (by decide))
          have hown' := hS.sa.own1 hd19
          have hB3 : Hid (Below wa.heap.size wa w') := hS.bel
          rw [← e20] at hown'
          rw [← htq.out] at hown'
          clear hS hS0 hall
          go_wp2_with (fail)
          go_roundw
          case rel => exact ⟨q + 1, by omega, by omega, by go_num, hown', hB3.out⟩
          case measure => simp [intOf]; omega
        · have e70 := take_70 l q hq hq70 hltq
          have hlen : (fewL l).length = q := by unfold fewL; rw [List.length_map, ← e70, List.length_take]; omega
          have hwq : wr.ownsRow wa.heap.size 9 1 u5 (fewL l).length (strVals (fewL l)) := by
            rw [hlen]; unfold fewL; rw [← e70]; exact hownq
          have hout := ownsRow_below hownH.out hBq
          have hwo2 : Hid (WordsOwn w.heap.size wr (us ++ [u5]) (((ll.take k).map fewL) ++ [fewL l])) := (words_below hwoH.out hBq).snoc (own_base hwq hszr)
          have hszq : w.heap.size ≤ wr.heap.size := Nat.le_trans hszr hBq.size
          obtain ⟨ua, uc, rfl⟩ : ∃ a c, u5 = .slice a (fewL l).length c := by
            rcases hwq.2 with ⟨rfl, h0⟩ | ⟨g, cap, cur, rfl, _⟩
            · exact ⟨none, 0, by rw [h0]⟩
            · exact ⟨_, _, rfl⟩
          generalize (fewL l).length = nf at *
          clear e70 hlen hwq hownq hBq
          rcases Nat.lt_or_ge q l.length with hA | hA
          all_goals
            first | have h70q : ¬ ((q : Int) < 70) := by omega | skip
            clear hltq
            go_wp2_with (first
              | (at_builtin; refine wpList_append_own _ rfl _ _ 22 rfl w.heap.size 47 i0 z0 1 24 hInf.sl hInf.info hInf.zero hInf.hsz hInf.hby hInf.hcl (by decide) _ _ _ rfl (hout.alloc _) ⟨wr.heap.size, 0, none⟩ 1 1 [.slice ua nf uc] rfl rfl ?c1 ?c2 ?c3 ?c4 ?c5 ?_)
              | fail)
            try case c1 =>
              intro j u hj
              match j, hj with
              | 0, hj => simp at hj; subst hj; simp [Addr.add]
            case c2 => first | rfl | (intro u hu; simp at hu; subst hu; rfl)
            case c3 => unfold maxLen; omega
            case c4 => omega
            case c5 => first | omega | (simp; omega)
            intro v' w3 hown3 hg3 _
            have hB3 : Hid (Below w.heap.size w w3) := (hB2.out.alloc hszq _).grown hg3 (by simp; omega) (fun j hj => (hout.lt j hj).1)
            have hwo3 : Hid (WordsOwn w.heap.size w3 (us ++ [.slice ua nf uc]) ((ll.take (k + 1)).map fewL)) := by
              unfold Hid; rw [htk.out]; exact (hwo2.out.alloc _).grown (hout.alloc _) hg3 (by decide)
            clear hg3 hout hwo2
            go_wp2_with (fail)
            go_roundw
            case rel => exact ⟨k + 1, us ++ [.slice ua nf uc], by omega, by omega, by go_num, hown3, hwo3.out, hB3.out⟩
            case measure => simp [intOf]; omega
    · have e70 := take_70 ll k hk hk70 hlt
      have hlen : (fewS ll).length = k := by unfold fewS; rw [List.length_map, ← e70, List.length_take]; omega
      have hF : Hid (wr.ownsRow w.heap.size 47 1 u3 (fewS ll).length us ∧ WordsOwn w.heap.size wr us (fewS ll) ∧ Below w.heap.size w wr) := by
        unfold Hid; rw [hlen]; refine ⟨hown, ?_, hB⟩; unfold fewS; rw [← e70]; exact hwo
      clear hown hwo hB e70 hlen
      rcases Nat.lt_or_ge k ll.length with hA | hA
      all_goals
        first | have h70q : ¬ ((k : Int) < 70) := by omega | skip
        clear hlt
        go_wp2_with (fail)
        go_ret
        first | exact ⟨_, rfl, us, hF.out⟩ | exact ⟨_, us, rfl, hF.out⟩
end Go.Proofs.YtcdcchkaohnkdaaGreatDoor
