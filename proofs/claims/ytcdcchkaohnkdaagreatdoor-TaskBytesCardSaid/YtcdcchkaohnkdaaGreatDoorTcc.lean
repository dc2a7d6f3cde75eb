/- Which tasks are good: the program's answer. -/
import Derived.Test.YtcdcchkaohnkdaaGreatDoorTgd
import Derived.Test.YtcdcchkaohnkdaaGreatDoorTfl
import Derived.Test.YtcdcchkaohnkdaaGreatDoorPln
namespace Go.Proofs.YtcdcchkaohnkdaaGreatDoor
open Go.RowKit

set_option maxRecDepth 100000 in
set_option maxHeartbeats 3200000 in
theorem grow_any (n : Nat) (h0 : 0 < n) (hn : n ≤ 2000) (w : World) :
    Calls Tryz.prog 74 #[.slice none 0 0, .int .i64 (n : Nat)] w fun e w' => ∃ v, e = .returned v ∧ w'.ownsRow w.heap.size 47 1 v 0 [] ∧ Below w.heap.size w w' := by
  obtain ⟨i, z, hI⟩ := lstInfo
  have hint : Tryz.prog.underlying 3 = some (.int .i64) := by kernel_rfl
  have hrz : ∀ ty, (Builtin.append_ #[22, 3] ty #[.slice none 0 0, .int .i64 (n : Nat)]).run Tryz.prog w =
      .ok (.slice (some ⟨w.heap.size, 0, none⟩) n (grownCap w n 0 47)) (w.drew.alloc (.cells (#[] ++ Builtin.zeroCells z.cells n ++ Builtin.zeroCells z.cells (grownCap w n 0 47 - n)) 47)) := fun ty => by
    have h := Lib.run_append_grow_zeros w 22 3 ty 47 i z .i64 .i64 hI.sl hint hI.info hI.zero none 0 0 [] (by rw [hI.hsz]; exact run_firstCells_none w.drew 1 0 0 0) n h0 (by rw [hI.hsz]; omega) (by omega) (by omega) (by rw [hI.hby]; omega)
      (growslice_fits (by omega) (by rw [hI.hby]; omega))
    rw [Nat.zero_add] at h
    exact h
  have hge : n ≤ grownCap w n 0 47 := grownCap_ge w _ _ _
  have hle : grownCap w n 0 47 ≤ maxLen := grownCap_le_maxLen w n 0 _ (by unfold maxLen; omega)
  have hzs : z.cells.size = 1 := hI.hcl
  obtain ⟨G, hG⟩ : ∃ G, G = grownCap w n 0 47 := ⟨_, rfl⟩
  rw [← hG] at hrz hge hle
  have hG63 : G ≤ 9223372036854775807 := by unfold maxLen at hle; omega
  have hleH : Hid (G ≤ maxLen) := hle
  have h1 : ¬ ((n : Int) < 0) := by omega
  have h4 : (0 : Int) < (n : Int) := by omega
  obtain ⟨A, hA⟩ : ∃ A : Array Value, A = (#[] ++ Builtin.zeroCells z.cells n ++ Builtin.zeroCells z.cells (G - n)) := ⟨_, rfl⟩
  have hAs : Hid (A.size = G * 1) := by
    unfold Hid
    rw [hA]
    simp only [Array.size_append, size_zeroCells, hzs, List.size_toArray, List.length_nil]
    omega
  rw [← hA] at hrz
  clear hG hle hA hzs
  go_enter Tryz.func74, Tryz.ntmps74
  go_wp2_with (at_builtin; refine Lib.wpList_append_run _ rfl _ _ _ _ rfl _ _ rfl rfl _ _ (hrz _) ?_)
  go_ret
  refine ⟨_, rfl, World.ownsRow_made w.drew _ G (Nat.le_refl _) hleH.out hAs.out, ((Below.refl _ w).drew).alloc (Nat.le_refl _) _⟩

/-- A slice of words, its values. -/
theorem lists_vals {N : Nat} {w : World} {a : Option Addr} {ll : List (List Str)} (h : ListsAt N w a ll) : ∃ vs : List Value, vs.length = ll.length ∧ (∀ j u, vs[j]? = some u → ∃ p, a = some p ∧ w.cell? (p.add j) = some u) ∧
    (∀ u ∈ vs, u.oneCell' = true) ∧ ∀ j, j < ll.length → StrsV N w (vs.getD j undef) (ll.getD j []) := by
  refine ⟨(List.range ll.length).map fun j => match a with | some ⟨b, off, _⟩ => (w.cell? ⟨b, off + j, none⟩).getD undef | none => undef, by simp, fun j u hu => ?_, fun u hu => ?_, fun j hj => ?_⟩
  · have hj : j < ll.length := by
      rcases Nat.lt_or_ge j ll.length with h' | h'
      · exact h'
      · rw [List.getElem?_eq_none (by simpa using h')] at hu; cases hu
    obtain ⟨b, off, v, rfl, _, hc, _⟩ := h j hj
    rw [List.getElem?_map, List.getElem?_range hj] at hu
    simp only [Option.map_some, hc, Option.getD_some, Option.some.injEq] at hu
    subst hu
    exact ⟨_, rfl, by rw [Go.WideShapes.add_plain]; exact hc⟩
  · obtain ⟨j, hj, rfl⟩ := List.mem_map.1 hu
    obtain ⟨b, off, v, rfl, _, hc, a', c', rfl, _⟩ := h j (List.mem_range.1 hj)
    simp only [hc, Option.getD_some]
    rfl
  · obtain ⟨b, off, v, rfl, _, hc, hv⟩ := h j hj
    rw [List.getD, List.getElem?_map, List.getElem?_range hj]
    simp only [Option.map_some, hc, Option.getD_some]
    exact hv

set_option maxRecDepth 100000 in
set_option maxHeartbeats 6400000 in
theorem concat_any (g : Nat) (ys ns : List (List Str)) (ay an : Option Addr) (cy cn : Nat) (w : World) (hg : g < w.heap.size) (c0 : w.cell? ⟨g, 0, none⟩ = some (.slice ay ys.length cy)) (c1 : w.cell? ⟨g, 1, none⟩ = some (.slice an ns.length cn))
    (hY : ListsAt w.heap.size w ay ys) (hN : ListsAt w.heap.size w an ns) (h0 : 0 < ys.length + ns.length) (h1000 : ys.length + ns.length ≤ 2000) :
    Calls Tryz.prog 34 #[.slice (some ⟨g, 0, none⟩) 2 2] w fun e w' => ∃ v, e = .returned v ∧ ListsV w'.heap.size w' v (ys ++ ns) ∧ Below w.heap.size w w' := by
  obtain ⟨i0, z0, hInf⟩ := lstInfo
  obtain ⟨vy, hvy1, hvy2, hvy3, hvy4⟩ := lists_vals hY
  obtain ⟨vn, hvn1, hvn2, hvn3, hvn4⟩ := lists_vals hN
  have hyH : Hid ((∀ j u, vy[j]? = some u → ∃ p, ay = some p ∧ w.cell? (p.add j) = some u) ∧ (∀ u ∈ vy, u.oneCell' = true) ∧ vy.length = ys.length) := ⟨hvy2, hvy3, hvy1⟩
  have hnH : Hid ((∀ j u, vn[j]? = some u → ∃ p, an = some p ∧ w.cell? (p.add j) = some u) ∧ (∀ u ∈ vn, u.oneCell' = true) ∧ vn.length = ns.length) := ⟨hvn2, hvn3, hvn1⟩
  have hfin : Hid (∀ (w' : World) (v : Value), Below w.heap.size w w' → w'.ownsRow w.heap.size 47 1 v (ys.length + ns.length) (vy ++ vn) → ListsV w'.heap.size w' v (ys ++ ns)) := fun w' v hB ho => by
    have hl : (ys ++ ns).length = ys.length + ns.length := List.length_append
    rw [← hl] at ho
    refine lists_of_own (by rw [List.length_append, hl, hvy1, hvn1]) ho fun j hj => ?_
    rw [hl] at hj
    by_cases hj1 : j < ys.length
    · have e1 : (vy ++ vn).getD j undef = vy.getD j undef := by simp [List.getD, List.getElem?_append_left (show j < vy.length by omega)]
      have e2 : (ys ++ ns).getD j [] = ys.getD j [] := by simp [List.getD, List.getElem?_append_left hj1]
      rw [e1, e2]
      exact ((hvy4 j hj1).below hB).mono hB.size
    · have e1 : (vy ++ vn).getD j undef = vn.getD (j - ys.length) undef := by simp [List.getD, List.getElem?_append_right (show vy.length ≤ j by omega), hvy1]
      have e2 : (ys ++ ns).getD j [] = ns.getD (j - ys.length) [] := by simp [List.getD, List.getElem?_append_right (show ys.length ≤ j by omega)]
      rw [e1, e2]
      exact ((hvn4 _ (by omega)).below hB).mono hB.size
  have hcH : Hid (w.cell? ⟨g, 0, none⟩ = some (.slice ay ys.length cy) ∧ w.cell? ⟨g, 1, none⟩ = some (.slice an ns.length cn)) := ⟨c0, c1⟩
  clear hY hN hvy1 hvy2 hvy3 hvy4 hvn1 hvn2 hvn3 hvn4 c0 c1
  generalize ys.length = ny at *
  generalize ns.length = nn at *
  go_enter Tryz.func34, Tryz.ntmps34
  go_wp2_with (fail)
  go_loopw [3, 5, 11] (fun sz _ i wr => (i = .int .i64 0 ∧ sz = .int .i64 0 ∨ i = .int .i64 1 ∧ sz = .int .i64 (ny : Nat) ∨ i = .int .i64 2 ∧ sz = .int .i64 ((ny + nn : Nat) : Int)) ∧ Below w.heap.size w wr) (fun _ _ i _ => 2 - (intOf i).toNat)
  case atStart => exact ⟨.inl ⟨rfl, rfl⟩, Below.refl _ _⟩
  case round =>
    obtain ⟨hcase, hB⟩ := hrel
    have d0 := (hB.cell (p := ⟨g, 0, none⟩) (by exact hg)).trans hcH.out.1
    have d1 := (hB.cell (p := ⟨g, 1, none⟩) (by exact hg)).trans hcH.out.2
    rcases hcase with ⟨rfl, rfl⟩ | ⟨rfl, rfl⟩ | ⟨rfl, rfl⟩
    · have hs1 : ¬ ((ny : Int) < 0) := by omega
      go_wp2_with (fail)
      go_roundw
      case rel => exact ⟨.inr (.inl ⟨by go_num, by go_num⟩), hB⟩
      case measure => simp [intOf]
    · have hs2 : ¬ ((ny : Int) + (nn : Int) < 0) := by omega
      have hs1 : wrap64 ((ny : Int) + (nn : Int)) = (ny : Int) + (nn : Int) := by unfold wrap64; omega
      go_wp2_with (fail)
      go_roundw
      case rel => exact ⟨.inr (.inr ⟨by go_num, by go_num⟩), hB⟩
      case measure => simp [intOf]
    · clear d0 d1
      have hBH : Hid (Below w.heap.size w wr) := hB
      clear hB
      go_wp2_with (fail)
      go_at_call 74
      refine (grow_any (ny + nn) h0 h1000 wr).mono ?_
      rintro e w2 ⟨v2, rfl, hown2, hB2⟩
      have hB3 : Hid (Below w.heap.size w w2) := hBH.out.trans (hB2.mono hBH.out.size)
      have hown3 : Hid (w2.ownsRow w.heap.size 47 1 v2 0 []) := own_base hown2 hBH.out.size
      clear hB2 hown2
      go_wp2_with (fail)
      go_loopw [6, 8, 27] (fun v _ i wq => (i = .int .i64 0 ∧ wq.ownsRow w.heap.size 47 1 v 0 [] ∨ i = .int .i64 1 ∧ wq.ownsRow w.heap.size 47 1 v ny vy ∨ i = .int .i64 2 ∧ wq.ownsRow w.heap.size 47 1 v (ny + nn) (vy ++ vn)) ∧ Below w.heap.size w wq) (fun _ _ i _ => 2 - (intOf i).toNat)
      case atStart => exact ⟨.inl ⟨rfl, hown3.out⟩, hB3.out⟩
      case round =>
        obtain ⟨hcase, hB⟩ := hrel
        have d0 := (hB.cell (p := ⟨g, 0, none⟩) (by exact hg)).trans hcH.out.1
        have d1 := (hB.cell (p := ⟨g, 1, none⟩) (by exact hg)).trans hcH.out.2
        rcases hcase with ⟨rfl, hown⟩ | ⟨rfl, hown⟩ | ⟨rfl, hown⟩
        · obtain ⟨v', w', hr, hown', hg'⟩ := run_append_any (ty := 22) (w := wr) hInf (by decide) hown ay ny cy vy (by have := hyH.out.2.2; omega) (fun j u hu => by
            obtain ⟨p, hp, hc⟩ := hyH.out.1 j u hu
            exact ⟨p, hp, by rw [hB.cell (by have := World.block_lt_of_cell? _ _ hc; simpa using this)]; exact hc⟩) hyH.out.2.1 (by unfold maxLen; omega) (by omega) hB.size
          have hB4 : Hid (Below w.heap.size w w') := hB.grown hg' hB.size (fun j hj => (hown.lt j hj).1)
          rw [Nat.zero_add, List.nil_append] at hown'
          have hrH : Hid ((Builtin.append_ #[22, 22] 22 #[u6, .slice ay ny cy]).run Tryz.prog wr = .ok v' w') := hr
          clear hr hg' hB hown
          go_wp2_with (at_builtin; refine Lib.wpList_append_run _ rfl _ _ _ _ rfl _ _ rfl rfl _ _ hrH.out ?_)
          go_roundw
          case rel => exact ⟨.inr (.inl ⟨by go_num, hown'⟩), hB4.out⟩
          case measure => simp [intOf]
        · obtain ⟨v', w', hr, hown', hg'⟩ := run_append_any (ty := 22) (w := wr) hInf (by decide) hown an nn cn vn (by have := hnH.out.2.2; omega) (fun j u hu => by
            obtain ⟨p, hp, hc⟩ := hnH.out.1 j u hu
            exact ⟨p, hp, by rw [hB.cell (by have := World.block_lt_of_cell? _ _ hc; simpa using this)]; exact hc⟩) hnH.out.2.1 (by unfold maxLen; omega) (by omega) hB.size
          have hB4 : Hid (Below w.heap.size w w') := hB.grown hg' hB.size (fun j hj => (hown.lt j hj).1)
          have hrH : Hid ((Builtin.append_ #[22, 22] 22 #[u6, .slice an nn cn]).run Tryz.prog wr = .ok v' w') := hr
          clear hr hg' hB hown
          go_wp2_with (at_builtin; refine Lib.wpList_append_run _ rfl _ _ _ _ rfl _ _ rfl rfl _ _ hrH.out ?_)
          go_roundw
          case rel => exact ⟨.inr (.inr ⟨by go_num, hown'⟩), hB4.out⟩
          case measure => simp [intOf]
        · have hF : Hid (ListsV wr.heap.size wr u6 (ys ++ ns)) := hfin.out wr u6 hB hown
          clear d0 d1 hown
          go_wp2_with (fail)
          go_ret
          exact ⟨_, rfl, hF.out, hB⟩

/-- A task, as a value. -/
structure TkV (w : World) (v : Value) (t : Tk) : Prop where
  ex : ∃ vy vn, v = .agg #[.string (bs t.name), vy, vn, .bool t.clear, .float .f64 t.wt] ∧ ListsV w.heap.size w vy t.yes ∧ ListsV w.heap.size w vn t.no
  wt : t.wt < 18446744073709551616
theorem ListsV.keep {w w' : World} {v : Value} {ll : List (List Str)} (h : ListsV w.heap.size w v ll) (hb : Below w.heap.size w w') : ListsV w'.heap.size w' v ll := (h.below hb).mono hb.size
theorem TkV.keep {w w' : World} {v : Value} {t : Tk} (h : TkV w v t) (hb : Below w.heap.size w w') : TkV w' v t := by
  obtain ⟨⟨vy, vn, e, h1, h2⟩, h3⟩ := h
  exact ⟨⟨vy, vn, e, h1.keep hb, h2.keep hb⟩, h3⟩

/-- What a task must be for its bytes to be few. -/
def Tk.small (t : Tk) : Prop := t.name.length ≤ 70 ∧ (t.yes.length ≤ 70 ∧ ∀ ts ∈ t.yes, ts.length ≤ 70 ∧ ∀ s ∈ ts, s.length ≤ 70) ∧ (t.no.length ≤ 70 ∧ ∀ ts ∈ t.no, ts.length ≤ 70 ∧ ∀ s ∈ ts, s.length ≤ 70) ∧ t.wt < 18446744073709551616

/-- .. and for its walks to count without overflow. -/
def Tk.ok (t : Tk) : Prop := t.name.length ≤ 1000000 ∧ (t.yes.length ≤ 1000 ∧ ∀ ts ∈ t.yes, ts.length ≤ 1000) ∧ (t.no.length ≤ 1000 ∧ ∀ ts ∈ t.no, ts.length ≤ 1000)
theorem Tk.small.ok {t : Tk} (h : t.small) : t.ok := by
  obtain ⟨h1, ⟨h2, h3⟩, ⟨h4, h5⟩, _⟩ := h
  exact ⟨by omega, ⟨by omega, fun ts hts => by have := (h3 ts hts).1; omega⟩, ⟨by omega, fun ts hts => by have := (h5 ts hts).1; omega⟩⟩

theorem goodT_eq (t : Tk) (hw : t.wt < 18446744073709551616) : goodT t = (goodName t.name && (decide (1 ≤ t.yes.length + t.no.length) && (decide (t.yes.length + t.no.length ≤ 64) && (!((t.yes ++ t.no).any fun l => !goodWord l) &&
    (((FloatKind.f64.format.order t.wt 0 == some Ordering.gt) || (FloatKind.f64.format.order t.wt 0 == some Ordering.eq)) && (!bigN t.wt && decide (canN t.wt = t.wt))))))) := by
  unfold goodT
  rw [wt_good hw, List.any_append]
  congr 3
  congr 1
  rw [Bool.not_or, List.all_eq_not_any_not, List.all_eq_not_any_not]
end Go.Proofs.YtcdcchkaohnkdaaGreatDoor
