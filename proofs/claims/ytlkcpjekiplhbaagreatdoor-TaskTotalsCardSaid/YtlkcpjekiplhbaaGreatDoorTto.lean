/- task.Total: what it returns. -/
import Derived.Test.YtlkcpjekiplhbaaGreatDoorTsk

namespace Go.Proofs.YtlkcpjekiplhbaaGreatDoor
open Go.RowKit

theorem taskInfo : ∃ i z, RowInfo 24 31 5 80 i z := rowInfo_of (by kernel_rfl)
theorem floInfo : ∃ i z, RowInfo 25 26 1 8 i z := rowInfo_of (by kernel_rfl)

theorem flo_take_succ (ns : List Nat) (k : Nat) (hk : k < ns.length) : (ns.map (Value.float .f64)).take (k + 1) = (ns.map (Value.float .f64)).take k ++ [.float .f64 (ns.getD k 0)] := by
  rw [List.take_add_one, List.getElem?_map, List.getElem?_eq_getElem hk, List.getD, List.getElem?_eq_getElem hk]; rfl

theorem task_take_succ (ns : List Nat) (k : Nat) (hk : k < ns.length) : taskRow (ns.take (k + 1)) = taskRow (ns.take k) ++ taskCells (ns.getD k 0) := by
  rw [List.take_add_one, List.getElem?_eq_getElem hk, taskRow_append, List.getD, List.getElem?_eq_getElem hk]
  simp [taskRow_one]

theorem run_store_float (w : World) (a : Addr) (m : Mode) (n : Nat) : (store a (.float .f64 n) m).run Tryz.prog w = stored Tryz.prog w a (.float .f64 n) m := run_store Tryz.prog w a _ m rfl

/-- A row that another one's growth leaves as it is. -/
theorem row_grown {w w' : World} {base : Nat} {e : TypeId} {size n : Nat} {v : Value} {xs : List Value} {u : Value} (h : w.ownsRow base e size v n xs) (hg : w.grownBy w' u.ownBlock) (hne : ∀ g, v.ownBlock = some g → u.ownBlock ≠ some g) : w'.ownsRow base e size v n xs :=
  ownsRow_same h fun g hv => hg.block g (h.lt g hv).2 fun e => hne g hv e.symm

set_option maxHeartbeats 6400000 in
set_option maxRecDepth 1000000 in
theorem total_any (a a' : Option Addr) (cap cap' : Nat) (ws vs : List Nat) (w : World) (h40 : ws.length ≤ 40) (h40' : vs.length ≤ 40) (hT : TasksAt w a ws) (hF : FloatsAt w a' vs) :
    Calls Tryz.prog 6 #[.slice a ws.length cap, .slice a' vs.length cap'] w fun e w' => e = .returned (.tuple #[.float .f64 (weighE vs ws).1, .int .i64 (weighE vs ws).2]) ∧ Below w.heap.size w w' := by
  obtain ⟨i0, z0, hI⟩ := floInfo
  have rsf := run_store_float
  have hTH : Hid (TasksAt w a ws) := hT
  have hFH : Hid (FloatsAt w a' vs) := hF
  clear hT hF
  go_enter Tryz.func6, Tryz.ntmps6
  go_wp2
  go_loopw [6, 8, 11] (fun v p i wr => ∃ k : Nat, k ≤ ws.length ∧ i = .int .i64 k ∧ wr.ownsRow w.heap.size 26 1 v k ((ws.map (Value.float .f64)).take k) ∧ Below w.heap.size w wr)
    (fun _ _ i _ => ws.length - (intOf i).toNat)
  case atStart => exact ⟨0, Nat.zero_le _, rfl, World.ownsRow_nil _ _ _ _, Below.refl _ _⟩
  case round =>
    obtain ⟨k, hk, rfl, hown, hnx⟩ := hrel
    by_cases hlt : k < ws.length
    · obtain ⟨b, off, rfl, hbw, hcell⟩ := hTH.out k hlt
      have c0 : wr.cell? ⟨b, off + k * 5, none⟩ = some (.string ByteArray.empty) := (hnx.cell (by exact hbw)).trans (hcell 0 _ rfl)
      have c1 : wr.cell? ⟨b, off + k * 5 + 1, none⟩ = some (.slice none 0 0) := (hnx.cell (by exact hbw)).trans (hcell 1 _ rfl)
      have c2 : wr.cell? ⟨b, off + k * 5 + 2, none⟩ = some (.slice none 0 0) := (hnx.cell (by exact hbw)).trans (hcell 2 _ rfl)
      have c3 : wr.cell? ⟨b, off + k * 5 + 3, none⟩ = some (.bool false) := (hnx.cell (by exact hbw)).trans (hcell 3 _ rfl)
      have c4 : wr.cell? ⟨b, off + k * 5 + 4, none⟩ = some (.float .f64 (ws.getD k 0)) := (hnx.cell (by exact hbw)).trans (hcell 4 _ rfl)
      have htk : Hid ((ws.map (Value.float .f64)).take (k + 1) = (ws.map (Value.float .f64)).take k ++ [.float .f64 (ws.getD k 0)]) := flo_take_succ ws k hlt
      clear hcell
      generalize ws.getD k 0 = f at *
      go_wp2_with (first
        | (at_builtin; refine wpList_append_own _ rfl _ _ 25 rfl w.heap.size 26 i0 z0 1 8 hI.sl hI.info hI.zero hI.hsz hI.hby hI.hcl (by decide) _ _ _ rfl ((hown.alloc _).alloc _) ⟨wr.heap.size + 1, 0, none⟩ 1 1 [.float .f64 f] rfl rfl ?c1 ?c2 ?c3 ?c4 ?c5 ?_)
        | go_in)
      case c1 =>
        intro j u hj
        match j, hj with
        | 0, hj => simp at hj; subst hj; simp [Addr.add]
      case c2 => intro u hu; simp at hu; subst hu; rfl
      case c3 => unfold maxLen; omega
      case c4 => omega
      case c5 => have := hnx.size; simp; omega
      intro v' w1 hown' hgrow _
      have hR : w1.ownsRow w.heap.size 26 1 v' (k + 1) ((ws.map (Value.float .f64)).take (k + 1)) ∧ Below w.heap.size w w1 := by
        refine ⟨by rw [htk.out]; exact hown', ((hnx.alloc hnx.size _).alloc (by have := hnx.size; simp; omega) _).grown hgrow (by have := hnx.size; simp; omega) (fun j hj => by have := (hown.lt j hj).1; omega)⟩
      clear hown' hgrow hown hnx c0 c1 c2 c3 c4
      go_wp2
      go_roundw
      case rel => exact ⟨k + 1, by omega, by simp, hR.1, hR.2⟩
      case measure => simp [intOf]; omega
    · have hk' : k = ws.length := by omega
      subst hk'
      have hall : (ws.map (Value.float .f64)).take ws.length = ws.map (Value.float .f64) := List.take_of_length_le (by simp)
      rw [hall] at hown
      obtain ⟨aw, cw, rfl, hW⟩ := floats_of_own (w := w) hown
      have hcall := weigh_any a' aw cap' cw vs ws wr h40' h40 (hFH.out.below hnx) hW
      have hcH : Hid (Calls Tryz.prog 11 #[.slice a' vs.length cap', .slice aw ws.length cw] wr fun e w' => e = .returned (.tuple #[.float .f64 (weighE vs ws).1, .int .i64 (weighE vs ws).2]) ∧ Below wr.heap.size wr w') := hcall
      clear hcall hown hall
      go_wp2_with (go_at_call 11; refine (hcH.out).mono ?_; rintro e w' ⟨rfl, hB⟩)
      go_ret2
      exact ⟨rfl, hnx.trans (hB.mono hnx.size)⟩
end Go.Proofs.YtlkcpjekiplhbaaGreatDoor
