/- The walk of the function of TaskTotals. -/
import Derived.Test.YtlkcpjekiplhbaaGreatDoorTto
import Derived.Test.YtlkcpjekiplhbaaGreatDoorTsp
namespace Go.Proofs.YtlkcpjekiplhbaaGreatDoor
open Go.RowKit

theorem run_bits_f (n : Nat) (w : World) : (callFunc 8 #[.float .f64 n]).run Tryz.prog w = .ok (.value (.int .u64 n)) w := run_bits n w
theorem run_of_f (n : Nat) (w : World) : (callFunc 5 #[.int .u64 (n : Int)]).run Tryz.prog w = .ok (.value (.float .f64 n)) w := run_float n w

theorem take_min20 (ns : List Nat) (k : Nat) (h1 : k ≤ ns.length) (h2 : k ≤ 20) (h3 : ¬ (k < ns.length ∧ k < 20)) : (ns.map (Value.float .f64)).take k = (ns.take 20).map (Value.float .f64) ∧ ns.take k = ns.take 20 ∧ (ns.take 20).length = k := by
  have h : ns.take k = ns.take 20 := by
    by_cases h : k = 20
    · rw [h]
    · rw [List.take_of_length_le (by omega), List.take_of_length_le (by omega)]
  exact ⟨by rw [← List.map_take, h], h, by rw [← h, List.length_take]; omega⟩

/-- Rows of other types lie apart. -/
theorem sep_types {w : World} {B B' : Nat} {e e' : TypeId} {z z' n n' : Nat} {v v' : Value} {xs xs' : List Value} (h : w.ownsRow B e z v n xs) (h' : w.ownsRow B' e' z' v' n' xs') (hne : e ≠ e') : ∀ g, v.ownBlock = some g → v'.ownBlock ≠ some g := by
  intro g hg hg'
  rcases h.2 with ⟨rfl, _⟩ | ⟨g1, _, _, rfl, _, hh, _⟩
  · cases hg
  rcases h'.2 with ⟨rfl, _⟩ | ⟨g2, _, _, rfl, _, hh', _⟩
  · cases hg'
  cases hg; cases hg'
  rw [hh] at hh'
  cases hh'
  exact hne rfl

theorem taskCells_one (f : Nat) : ∀ u ∈ taskCells f, u.oneCell' = true := by
  intro u hu
  simp only [taskCells, List.mem_cons, List.not_mem_nil, or_false] at hu
  rcases hu with rfl | rfl | rfl | rfl | rfl <;> rfl

set_option maxHeartbeats 6400000 in
set_option maxRecDepth 1000000 in
theorem totals_any (a a' : Option Addr) (cap cap' : Nat) (vs ws : List Nat) (w : World) (hV : WordsAt w a vs) (hW : WordsAt w a' ws) (hv : ∀ f ∈ vs, f < 18446744073709551616) (hw : ∀ f ∈ ws, f < 18446744073709551616) :
    Calls Tryz.prog 3 #[.slice a vs.length cap, .slice a' ws.length cap'] w fun e w' => e = .returned (.bool true) ∧ Below w.heap.size w w' := by
  obtain ⟨i0, z0, hI⟩ := floInfo
  obtain ⟨i1, z1, hT⟩ := taskInfo
  have rof := run_of_f
  have hVH : Hid (WordsAt w a vs) := hV
  have hWH : Hid (WordsAt w a' ws) := hW
  have hvH : Hid (∀ f ∈ vs.take 20, f < 18446744073709551616) := fun f hf => hv f (List.mem_of_mem_take hf)
  have hwH : Hid (∀ f ∈ ws.take 20, f < 18446744073709551616) := fun f hf => hw f (List.mem_of_mem_take hf)
  clear hV hW hv hw
  go_enter Tryz.func3, Tryz.ntmps3
  go_wp2_with (fail)
  go_at_call 4
  refine (speaks_any _).mono ?_
  rintro e w1 ⟨rfl, hB1⟩
  go_wp2_with (fail)
  go_loopw [5, 6, 8, 9] (fun t u i f wr => ∃ k : Nat, k ≤ vs.length ∧ k ≤ 20 ∧ i = .int .i64 k ∧ wr.ownsRow w1.heap.size 31 5 t k (taskRow (vs.take k)) ∧ wr.ownsRow w1.heap.size 26 1 u k ((vs.map (Value.float .f64)).take k) ∧ Below w1.heap.size w1 wr)
    (fun _ _ i _ _ => 20 - (intOf i).toNat)
  case atStart => exact ⟨0, Nat.zero_le _, by omega, rfl, World.ownsRow_nil _ _ _ _, World.ownsRow_nil _ _ _ _, Below.refl _ _⟩
  case round =>
    obtain ⟨k, hk, hk20, rfl, hownT, hownU, hnx⟩ := hrel
    by_cases hlt : k < vs.length ∧ k < 20
    · obtain ⟨h1, h2⟩ := hlt
      obtain ⟨b, off, rfl, hbw, hcell⟩ := hVH.out k h1
      have hb1 : b < w1.heap.size := Nat.lt_of_lt_of_le hbw hB1.size
      have hc : wr.cell? ⟨b, off + k, none⟩ = some (.int .u64 (vs.getD k 0 : Nat)) := (hnx.cell (by exact hb1)).trans ((hB1.cell (by exact hbw)).trans hcell)
      have htT : Hid (taskRow (vs.take (k + 1)) = taskRow (vs.take k) ++ taskCells (vs.getD k 0)) := task_take_succ vs k h1
      have htU : Hid ((vs.map (Value.float .f64)).take (k + 1) = (vs.map (Value.float .f64)).take k ++ [.float .f64 (vs.getD k 0)]) := flo_take_succ vs k h1
      clear hcell
      generalize vs.getD k 0 = x at *
      have h20 : (k : Int) < 20 := by omega
      go_wp2_with (first
        | (at_builtin; refine wpList_append_own _ rfl _ _ 24 rfl w1.heap.size 31 i1 z1 5 80 hT.sl hT.info hT.zero hT.hsz hT.hby hT.hcl (by decide) _ _ _ rfl (hownT.alloc _) ⟨wr.heap.size, 0, none⟩ 1 1 (taskCells x) rfl rfl ?c1 ?c2 ?c3 ?c4 ?c5 ?_)
        | go_in)
      case c1 =>
        intro j u hj
        rw [Addr.add_lit, Nat.zero_add, cell_of_row _ _ _ _ _ _ (heap_alloc_new wr _)]
        rw [List.getElem?_toArray]
        exact hj
      case c2 => exact taskCells_one x
      case c3 => unfold maxLen; omega
      case c4 => omega
      case c5 => have := hnx.size; simp; omega
      intro t' w2 hT2 hgT _
      have hU2 := row_grown (hownU.alloc _) hgT (sep_types hownU hownT (by decide))
      have hB2 : Below w1.heap.size w1 w2 := (hnx.alloc hnx.size _).grown hgT (by have := hnx.size; simp; omega) (fun j hj => (hownT.lt j hj).1)
      clear hgT hownT hownU hnx hc
      go_wp2_with (first
        | (at_builtin; refine wpList_append_own _ rfl _ _ 25 rfl w1.heap.size 26 i0 z0 1 8 hI.sl hI.info hI.zero hI.hsz hI.hby hI.hcl (by decide) _ _ _ rfl (hU2.alloc _) ⟨w2.heap.size, 0, none⟩ 1 1 [.float .f64 x] rfl rfl ?c1 ?c2 ?c3 ?c4 ?c5 ?_)
        | go_in)
      case c1 =>
        intro j u hj
        match j, hj with
        | 0, hj => simp at hj; subst hj; simp [Addr.add]
      case c2 => intro u hu; simp at hu; subst hu; rfl
      case c3 => unfold maxLen; omega
      case c4 => omega
      case c5 => have := hB2.size; simp; omega
      intro u' w3 hU3 hgU _
      have hT3 := row_grown (hT2.alloc _) hgU (sep_types hT2 hU2 (by decide))
      have hB3 : Below w1.heap.size w1 w3 := (hB2.alloc hB2.size _).grown hgU (by have := hB2.size; simp; omega) (fun j hj => (hU2.lt j hj).1)
      rw [← htT.out] at hT3
      rw [← htU.out] at hU3
      clear hgU hT2 hU2 hB2 htT htU
      go_wp2
      go_roundw
      case rel => exact ⟨k + 1, by omega, by omega, by simp, hT3, hU3, hB3⟩
      case measure => simp [intOf]; omega
    · obtain ⟨wa, hwa⟩ : ∃ wa : World, wa = wr := ⟨wr, rfl⟩
      subst hwa
      obtain ⟨e1, e2, e3⟩ := take_min20 vs k hk hk20 hlt
      rw [e1, ← e3] at hownU
      rw [e2, ← e3] at hownT
      obtain ⟨aT, cT, rfl, hTA⟩ := tasks_of_own hownT
      obtain ⟨aU, cU, rfl, hUA⟩ := floats_of_own (w := w) hownU
      have hBwr : Hid (Below w.heap.size w wa) := hB1.trans (hnx.mono hB1.size)
      have hTH : Hid (TasksAt wa aT (vs.take 20)) := hTA
      have hUH : Hid (FloatsAt wa aU (vs.take 20)) := hUA
      have hfs : (vs.take 20).length ≤ 20 := by rw [e3]; exact hk20
      have hfk : (vs.take 20).length = k := e3
      clear e1 e2 e3 hownU hownT hTA hUA
      generalize vs.take 20 = fs at *
      subst hfk
      have hcut : fs.length < vs.length → fs.length = 20 := by omega
      rcases Nat.lt_or_ge fs.length vs.length with hA | hA
      all_goals
        first | have h20 : ¬ ((fs.length : Int) < 20) := by omega | skip
        clear hlt hcut hk hk20
        go_wp2_with fail
        go_loopw [7, 10] (fun m i wq => ∃ k : Nat, k ≤ ws.length ∧ k ≤ 20 ∧ i = .int .i64 k ∧ wq.ownsRow wa.heap.size 26 1 m k ((ws.map (Value.float .f64)).take k) ∧ Below wa.heap.size wa wq)
          (fun _ i _ => 20 - (intOf i).toNat)
        case atStart => exact ⟨0, Nat.zero_le _, by omega, rfl, World.ownsRow_nil _ _ _ _, Below.refl _ _⟩
        case round =>
          obtain ⟨k, hk, hk20, rfl, hownM, hny⟩ := hrel
          by_cases hlt : k < ws.length ∧ k < 20
          · obtain ⟨h1, h2⟩ := hlt
            obtain ⟨b, off, rfl, hbw, hcell⟩ := hWH.out k h1
            have hbr : b < wa.heap.size := Nat.lt_of_lt_of_le hbw hBwr.out.size
            have hc : wr.cell? ⟨b, off + k, none⟩ = some (.int .u64 (ws.getD k 0 : Nat)) := (hny.cell (by exact hbr)).trans ((hBwr.out.cell (by exact hbw)).trans hcell)
            have htM : Hid ((ws.map (Value.float .f64)).take (k + 1) = (ws.map (Value.float .f64)).take k ++ [.float .f64 (ws.getD k 0)]) := flo_take_succ ws k h1
            clear hcell
            generalize ws.getD k 0 = x at *
            have h20' : (k : Int) < 20 := by omega
            go_wp2_with (first
              | (at_builtin; refine wpList_append_own _ rfl _ _ 25 rfl wa.heap.size 26 i0 z0 1 8 hI.sl hI.info hI.zero hI.hsz hI.hby hI.hcl (by decide) _ _ _ rfl (hownM.alloc _) ⟨wr.heap.size, 0, none⟩ 1 1 [.float .f64 x] rfl rfl ?c1 ?c2 ?c3 ?c4 ?c5 ?_)
              | go_in)
            case c1 =>
              intro j u hj
              match j, hj with
              | 0, hj => simp at hj; subst hj; simp [Addr.add]
            case c2 => intro u hu; simp at hu; subst hu; rfl
            case c3 => unfold maxLen; omega
            case c4 => omega
            case c5 => have := hny.size; simp; omega
            intro m' w2 hM2 hgM _
            have hB2 : Below wa.heap.size wa w2 := (hny.alloc hny.size _).grown hgM (by have := hny.size; simp; omega) (fun j hj => (hownM.lt j hj).1)
            rw [← htM.out] at hM2
            clear hgM hownM hny hc htM
            go_wp2
            go_roundw
            case rel => exact ⟨k + 1, by omega, by omega, by simp, hM2, hB2⟩
            case measure => simp [intOf]; omega
          · obtain ⟨e1, e2, e3⟩ := take_min20 ws k hk hk20 hlt
            rw [e1, ← e3] at hownM
            obtain ⟨aM, cM, rfl, hMA⟩ := floats_of_own (w := w) hownM
            have hgk : (ws.take 20).length = k := e3
            have hgs : (ws.take 20).length ≤ 20 := by rw [e3]; exact hk20
            clear e1 e2 e3 hownM
            generalize ws.take 20 = gs at *
            subst hgk
            have hcut : gs.length < ws.length → gs.length = 20 := by omega
            have hBwq : Hid (Below w.heap.size w wr) := hBwr.out.trans (hny.mono hBwr.out.size)
            have hcT : Hid (Calls Tryz.prog 6 #[.slice aT fs.length cT, .slice aM gs.length cM] wr fun e w' => e = .returned (.tuple #[.float .f64 (weighE gs fs).1, .int .i64 (weighE gs fs).2]) ∧ Below wr.heap.size wr w') :=
              total_any aT aM cT cM fs gs wr (by omega) (by omega) (hTH.out.below hny) hMA
            have hcW : Hid (∀ w', Below wr.heap.size wr w' → Calls Tryz.prog 7 #[.slice aM gs.length cM, .slice aU fs.length cU] w' fun e w'' => e = .returned (.tuple #[.float .f64 (weighE gs fs).1, .int .i64 (weighE gs fs).2]) ∧ Below w'.heap.size w' w'') :=
              fun w' hb => rweigh_any aM aU cM cU gs fs w' (by omega) (by omega) hwH.out hvH.out (FloatsAt.below hMA hb) (FloatsAt.below (FloatsAt.below hUH.out hny) hb)
            clear hMA hwH hvH hTH hUH hny
            generalize weighE gs fs = rr at *
            rcases Nat.lt_or_ge gs.length ws.length with hC | hC
            all_goals
              first | have h20' : ¬ ((gs.length : Int) < 20) := by omega | skip
              clear hlt hcut hk hk20
              have rbf := run_bits_f
              go_wp2_with fail
              go_at_call 6
              refine (hcT.out).mono ?_
              rintro e w5 ⟨rfl, hB5⟩
              go_wp2_with fail
              go_at_call 7
              refine (hcW.out _ hB5).mono ?_
              rintro e w6 ⟨rfl, hB6⟩
              go_wp2_with fail
              go_ret
              exact ⟨by simp, hBwq.out.trans ((hB5.trans (hB6.mono hB5.size)).mono hBwq.out.size)⟩
end Go.Proofs.YtlkcpjekiplhbaaGreatDoor
