/- The words of a slice as floats: what the law makes of its arguments. -/
import Derived.Test.YtedncponpbieeaaDoorWlc

namespace Go.Proofs.YtedncponpbieeaaDoor
open Go.RowKit

theorem info23 : (Tryd.prog.info? 23).map (fun i => (i.zero, i.size, i.bytes)) = some (some (.float .f64 0), 1, 8) := by kernel_rfl
theorem under38 : Tryd.prog.underlying 38 = some (.slice 23) := by kernel_rfl

theorem nat_take_succ (ns : List Nat) (k : Nat) (hk : k < ns.length) : ns.take (k + 1) = ns.take k ++ [ns[k]?.getD 0] := by
  rw [List.take_add_one, List.getElem?_eq_getElem hk]; rfl

theorem flo_take_succ (ns : List Nat) (k : Nat) (hk : k < ns.length) : (ns.map (Value.float .f64)).take (k + 1) = (ns.map (Value.float .f64)).take k ++ [.float .f64 (ns[k]?.getD 0)] := by
  rw [← List.map_take, nat_take_succ ns k hk, List.map_append, List.map_take]; rfl

theorem floats_keep {B k : Nat} {ns : List Nat} {w wr w1 : World} {u v' : Value} {o : Obj} (hk : k < ns.length) (hBw : B ≤ wr.heap.size) (hnx : Below B w wr)
    (hown : wr.ownsRow B 23 1 u k ((ns.map (Value.float .f64)).take k))
    (hown' : w1.ownsRow B 23 1 v' (k + 1) ((ns.map (Value.float .f64)).take k ++ [.float .f64 (ns[k]?.getD 0)])) (hgrow : (wr.alloc o).grownBy w1 u.ownBlock) :
    w1.ownsRow B 23 1 v' (k + 1) ((ns.map (Value.float .f64)).take (k + 1)) ∧ Below B w w1 := by
  refine ⟨by rw [flo_take_succ ns k hk]; exact hown', (hnx.alloc hBw o).grown hgrow (by simp; omega) (fun j hj => by have := (hown.lt j hj).1; omega)⟩

set_option maxHeartbeats 1600000 in
set_option maxRecDepth 1000000 in
theorem floats_any (b off len cap : Nat) (ns : List Nat) (w : World) (hz : len ≤ ns.length) (hb : b < w.heap.size)
    (hc : ∀ j, j < ns.length → w.cell? ⟨b, off + j, none⟩ = some (.int .u64 (ns.getD j 0 : Nat))) :
    Calls Tryd.prog 19 #[.slice (some ⟨b, off, none⟩) len cap] w fun e w' =>
      ∃ v, e = .returned v ∧ w'.ownsRow w.heap.size 23 1 v (min len 40) ((ns.map (Value.float .f64)).take (min len 40)) ∧ Below w.heap.size w w' := by
  obtain ⟨i0, hi, hz0, hz1, hz2⟩ := info_parts info23
  have r12 := run_of12'
  go_enter Tryd.func19, Tryd.ntmps19
  go_wp2
  go_loopw [3, 4] (fun v i wr => ∃ k : Nat, k ≤ len ∧ k ≤ 40 ∧ i = .int .i64 k ∧ wr.ownsRow w.heap.size 23 1 v k ((ns.map (Value.float .f64)).take k) ∧ Below w.heap.size w wr)
    (fun _ i _ => 40 - (intOf i).toNat)
  case atStart => exact ⟨0, Nat.zero_le _, by omega, rfl, World.ownsRow_nil _ _ _ _, Below.refl _ _⟩
  case round =>
    obtain ⟨k, hk, hk40, rfl, hown, hnx⟩ := hrel
    have hcx : k < len → wr.cell? ⟨b, off + k, none⟩ = some (.int .u64 (ns.getD k 0 : Nat)) := fun _ => (hnx.cell (by exact hb)).trans (hc k (by omega))
    go_wp2_with (first
      | (at_builtin; refine wpList_append_own _ rfl _ _ 38 rfl w.heap.size 23 i0 (.float .f64 0) 1 8 under38 hi hz0 hz1 hz2 rfl (by decide) _ _ _ rfl (hown.alloc _) ⟨wr.heap.size, 0, none⟩ 1 1 [.float .f64 (ns.getD k 0)] rfl rfl ?c1 ?c2 ?c3 ?c4 ?c5 ?_)
      | go_in)
    case c1 =>
      intro j u hj
      match j, hj with
      | 0, hj => simp at hj; subst hj; simp [Addr.add]
    case c2 => intro u hu; simp at hu; subst hu; rfl
    case c3 => unfold maxLen; omega
    case c4 => omega
    case c5 => have := hnx.size; simp; omega
    · intro v' w1 hown' hgrow _
      have hlt : k < len := by assumption
      have h40 : (k : Int) < 40 := by assumption
      have R := floats_keep (by omega) hnx.size hnx hown hown' hgrow
      clear hown' hgrow hown hcx
      go_wp2
      go_roundw
      case rel => exact ⟨k + 1, by omega, by omega, by simp, R.1, R.2⟩
      case measure => simp [intOf]; omega
    · have hmin : min len 40 = k := by omega
      go_ret
      rw [hmin]
      exact ⟨_, rfl, hown, hnx⟩
    · have hmin : min len 40 = k := by omega
      go_ret
      rw [hmin]
      exact ⟨_, rfl, hown, hnx⟩
end Go.Proofs.YtedncponpbieeaaDoor
