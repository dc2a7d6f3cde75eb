/- The reference's 'Rank': what it returns. -/
import Derived.Test.YtedncponpbieeaaDoorBfr
import Derived.OwnWalk
namespace Go.Proofs.YtedncponpbieeaaDoor
open Go.RowKit

theorem info3 : (Tryd.prog.info? 3).map (fun i => (i.zero, i.size, i.bytes)) = some (some (.int .i64 0), 1, 8) := by kernel_rfl
theorem under45 : Tryd.prog.underlying 45 = some (.slice 3) := by kernel_rfl

/-- How many of the first places stand ahead. -/
def cntUp (fs : List Nat) (i j : Nat) : Nat := ((List.range j).filter fun k => ltR fs k i).length

theorem cntUp_succ (fs : List Nat) (i j : Nat) : cntUp fs i (j + 1) = if ltR fs j i = true then cntUp fs i j + 1 else cntUp fs i j := by
  unfold cntUp
  rw [List.range_succ, List.filter_append, List.length_append]
  cases h : ltR fs j i with
  | true => simp [h]
  | false => simp [h]

theorem cntUp_le (fs : List Nat) (i j : Nat) : cntUp fs i j ≤ j := by
  unfold cntUp
  exact Nat.le_trans (List.length_filter_le _ _) (by simp)

/-- What a slice of numbers is known by. -/
def IntsAt (w : World) (a : Option Addr) (L : List Nat) : Prop :=
  ∀ j, j < L.length → ∃ b, a = some ⟨b, 0, none⟩ ∧ b < w.heap.size ∧ w.cell? ⟨b, j, none⟩ = some (.int .i64 (L.getD j 0 : Nat))

theorem IntsAt.below {w w' : World} {a : Option Addr} {L : List Nat} (h : IntsAt w a L) (hb : Below w.heap.size w w') : IntsAt w' a L := fun j hj => by
  obtain ⟨b, e, hlt, hcell⟩ := h j hj
  exact ⟨b, e, Nat.lt_of_lt_of_le hlt hb.size, by rw [hb.cell (by exact hlt)]; exact hcell⟩

theorem own_kept {w wr wz : World} {v : Value} {n : Nat} {xs : List Value} (h : wr.ownsRow w.heap.size 3 1 v n xs) (hb : Below wr.heap.size wr wz) : wz.ownsRow w.heap.size 3 1 v n xs :=
  h.kept (row := none) ⟨hb.os, hb.tape, hb.output, hb.size, fun k hk _ => hb.block k hk⟩ (by
    rcases h.2 with ⟨h', _⟩ | ⟨g', cap', cur, h', _⟩
    · exact .inl (by rw [h']; rfl)
    · exact .inr (by rw [h']; simp [Value.ownBlock]))

theorem ranks_in {fs : List Nat} {n : Nat} {xs : List Value} (hx : ∀ i, i < n → xs[cntR fs n i]? = some (.int .i64 (i : Nat))) : ∃ L, RankOk fs L n ∧ ∀ p, p < n → xs[p]? = some (.int .i64 (L.getD p 0 : Nat)) := by
  obtain ⟨l, hp, hs⟩ := sorted_exists fs n
  have h := rankOk_of_sorted hp hs
  exact ⟨l, h, fun p hpn => by
    have := h.2 p hpn
    have h2 := hx _ this.1
    rwa [this.2] at h2⟩

set_option maxHeartbeats 3200000 in
set_option maxRecDepth 100000 in
theorem rrank_any (a : Option Addr) (cap : Nat) (fs : List Nat) (w : World) (h40 : fs.length ≤ 40) (h64 : ∀ f ∈ fs, f < 18446744073709551616) (hc : FloatsAt w a fs) :
    Calls Tryd.prog 27 #[.slice a fs.length cap] w fun e w' => ∃ a' L, e = .returned (.slice a' fs.length fs.length) ∧ RankOk fs L fs.length ∧ Below w.heap.size w w' ∧ IntsAt w' a' L := by
  obtain ⟨i0, hi, hz0, hz1, hz2⟩ := info_parts info3
  have hbf : Hid (∀ wr, Below w.heap.size w wr → ∀ i k, i < fs.length → k < fs.length → Calls Tryd.prog 42 #[.slice a fs.length cap, .int .i64 (i : Nat), .int .i64 (k : Nat)] wr fun e w' => e = .returned (.bool (ltR fs i k)) ∧ Below wr.heap.size wr w') :=
    fun wr hb i k hi hk => before_any a cap fs i k wr h40 hi hk h64 (hc.below hb)
  have hcf : Hid (∀ i, i < fs.length → cntR fs fs.length i < fs.length) := (cnt_facts fs fs.length).1
  have hci : Hid (∀ i j, i < fs.length → j < fs.length → cntR fs fs.length i = cntR fs fs.length j → i = j) := (cnt_facts fs fs.length).2.1
  have hcu : Hid (∀ i, cntUp fs i fs.length = cntR fs fs.length i) := fun i => rfl
  clear hc h64
  generalize hn : fs.length = n at *
  clear hn
  go_enter Tryd.func27, Tryd.ntmps27
  go_wp2_with (at_make; refine wpList_make_full _ rfl _ _ 45 rfl w.heap.size 3 i0 (.int .i64 0) 1 under45 hi hz0 hz1 .i64 .i64 _ _ n rfl rfl (by omega) (by omega) (by rw [hz2]; omega) (by unfold maxLen; omega) (Nat.le_refl _) ?_)
  intro w2 hown2 hgrow2
  have hb2 : Below w.heap.size w w2 := (Below.refl _ _).grown hgrow2 (Nat.le_refl _) (by simp)
  clear hgrow2 hi hz0 hz1 hz2
  go_wp2
  go_loopw [4] (fun i wr => ∃ (k : Nat) (xs : List Value), k ≤ n ∧ i = .int .i64 k ∧ (∀ i, i < k → xs[cntR fs n i]? = some (.int .i64 (i : Nat))) ∧
      wr.ownsRow w.heap.size 3 1 (.slice (some ⟨w.heap.size, 0, none⟩) n n) n xs ∧ Below w.heap.size w wr)
    (fun i _ => n - (intOf i).toNat)
  case atStart => exact ⟨0, _, Nat.zero_le _, rfl, fun i hi => absurd hi (Nat.not_lt_zero _), hown2, hb2⟩
  case round =>
    obtain ⟨k, xs, hk, rfl, hxs, hown, hb⟩ := hrel
    have hxsH : Hid (∀ i, i < k → xs[cntR fs n i]? = some (.int .i64 (i : Nat))) := hxs
    clear hxs hown2 hb2
    by_cases hlt : k < n
    · go_wp2
      obtain ⟨wo, hwo⟩ : ∃ wo, wo = wr := ⟨_, rfl⟩
      subst hwo
      go_loopw [5, 6] (fun t j wy => ∃ (q : Nat), q ≤ n ∧ j = .int .i64 q ∧ t = .int .i64 (cntUp fs k q : Nat) ∧ Below wo.heap.size wo wy)
        (fun _ j _ => n - (intOf j).toNat)
      case atStart => exact ⟨0, Nat.zero_le _, rfl, rfl, Below.refl _ _⟩
      case round =>
        obtain ⟨q, hq, rfl, rfl, hbz⟩ := hrel
        by_cases hlt2 : q < n
        · by_cases hqk : q = k
          · subst hqk
            have hs : Hid (cntUp fs q (q + 1) = cntUp fs q q) := by unfold Hid; rw [cntUp_succ, ltR_irrefl]; rfl
            go_wp2
            go_roundw
            case rel => exact ⟨q + 1, by omega, by go_num, by rw [hs.out], hbz⟩
            case measure => simp [intOf]; omega
          · have hle := cntUp_le fs k q
            have hcall : Hid (Calls Tryd.prog 42 #[.slice a n cap, .int .i64 (q : Nat), .int .i64 (k : Nat)] wr fun e w' => e = .returned (.bool (ltR fs q k)) ∧ Below wr.heap.size wr w') := hbf.out wr (hb.trans (hbz.mono hb.size)) q k hlt2 hlt
            have hqk' : ¬ ((q : Int) = (k : Int)) := by omega
            cases hr : ltR fs q k with
            | true =>
              rw [hr] at hcall
              have hs : Hid (cntUp fs k (q + 1) = cntUp fs k q + 1) := by unfold Hid; rw [cntUp_succ, if_pos hr]
              clear hr
              go_wp2_with (go_at_call 42; refine hcall.out.mono ?_; clear hcall; rintro e w' ⟨rfl, hb'⟩)
              go_roundw
              case rel => exact ⟨q + 1, by omega, by go_num, by rw [hs.out]; go_num, hbz.trans (hb'.mono hbz.size)⟩
              case measure => simp [intOf]; omega
            | false =>
              rw [hr] at hcall
              have hs : Hid (cntUp fs k (q + 1) = cntUp fs k q) := by unfold Hid; rw [cntUp_succ, if_neg (by rw [hr]; simp)]
              clear hr
              go_wp2_with (go_at_call 42; refine hcall.out.mono ?_; clear hcall; rintro e w' ⟨rfl, hb'⟩)
              go_roundw
              case rel => exact ⟨q + 1, by omega, by go_num, by rw [hs.out], hbz.trans (hb'.mono hbz.size)⟩
              case measure => simp [intOf]; omega
        · have hqn : q = n := by omega
          subst hqn
          have hc1 := hcu.out k
          have hclt := hcf.out k hlt
          rw [← hc1] at hclt
          have hown2 := own_kept hown hbz
          have hlen : xs.length = q := by have := hown.1; omega
          have hcl : cntUp fs k q < xs.length := by omega
          have hcell := hown2.cellAt (cntUp fs k q) (by omega)
          have hfr := hown2.frozenAt (cntUp fs k q)
          rw [List.getElem?_eq_getElem hcl] at hcell
          have hst := hown2.stored (cntUp fs k q) (.int .i64 (k : Nat))
          have hnew : Hid (∀ i, i < k + 1 → (xs.set (cntUp fs k q) (.int .i64 (k : Nat)))[cntR fs q i]? = some (.int .i64 (i : Nat))) := by
            intro i hi
            by_cases hik : i = k
            · subst hik
              rw [hc1, List.getElem?_set_self (by rw [← hc1]; omega)]
            · rw [hc1, List.getElem?_set_ne (fun e => hik (hci.out _ _ (by omega) (by omega) e.symm))]
              exact hxsH.out i (by omega)
          have hbS : Below w.heap.size w (wr.setCell ⟨w.heap.size, cntUp fs k q, none⟩ (.int .i64 (k : Nat))) := (hb.trans (hbz.mono hb.size)).setCell (Nat.le_refl _) _
          have hownH := hst.1
          clear hst hc1 hown2 hown
          generalize cntUp fs k q = c at *
          go_wp2
          go_roundw
          case rel => exact ⟨k + 1, _, by omega, by go_num, hnew.out, hownH, hbS⟩
          case measure => simp [intOf]; omega
    · have hkn : k = n := by omega
      subst hkn
      have hfin := ranks_in hxsH.out
      go_wp2
      go_ret
      obtain ⟨L, hL, hL2⟩ := hfin
      refine ⟨_, L, rfl, hL, hb, fun j hj => ?_⟩
      have hjk : j < k := by have := hL.1; omega
      exact ⟨w.heap.size, rfl, (hown.lt w.heap.size rfl).2, by rw [hown.cellAt j (by omega)]; exact hL2 j hjk⟩
end Go.Proofs.YtedncponpbieeaaDoor
