/- Agree. -/
import Derived.Test.YtekmkmidjoenoaaGreatDoorOps
import Derived.LoopTactic
namespace Go.Proofs.YtekmkmidjoenoaaGreatDoor
open Go.RowKit Go.Ev

noncomputable def agreeB (b : Nat) (es : List Ent) (c : Nat) (fs : List Ent) : Bool := @decide (Agrees b es c fs) (Classical.propDecidable _)

abbrev logRow (b : Int) (st : ByteArray) (v : Value) : Obj := .cells #[.int .i64 b, .string st, v] 26

set_option maxRecDepth 100000 in
set_option maxHeartbeats 6400000 in
theorem agree_any (b c : Nat) (st su : ByteArray) (v u : Value) (es fs : List Ent) (w : World) (hL : Lies w.heap.size w v es) (hM : Lies w.heap.size w u fs)
    (hn : b + es.length < 4611686018427387904) (hm : c + fs.length < 4611686018427387904) :
    Calls Tryz.prog 10 #[lv b st v, lv c su u] w fun e w' => e = .returned (.bool (agreeB b es c fs)) ∧ Below w.heap.size w w' := by
  obtain ⟨W1, hW1⟩ : ∃ W1, W1 = (w.alloc (logRow b st v)).alloc (logRow c su u) := ⟨_, rfl⟩
  have hB1 : Below w.heap.size w W1 := by
    rw [hW1]; exact ((Below.refl _ w).alloc (Nat.le_refl _) _).alloc (by simp) _
  have hs1 : W1.heap.size = w.heap.size + 2 := by rw [hW1]; simp
  have hL1 : ∀ wr, Below W1.heap.size W1 wr → Lies w.heap.size wr v es := fun wr h => hL.below (hB1.trans (h.mono (by omega)))
  have hM1 : ∀ wr, Below W1.heap.size W1 wr → Lies w.heap.size wr u fs := fun wr h => hM.below (hB1.trans (h.mono (by omega)))
  have hs2 : ∀ wr, Below W1.heap.size W1 wr → w.heap.size + 2 ≤ wr.heap.size := fun wr h => hs1 ▸ h.size
  obtain ⟨a1, cap1, rfl, _⟩ := hL
  obtain ⟨a2, cap2, rfl, _⟩ := hM
  have p0 : Hid (∀ wr, Below W1.heap.size W1 wr → wr.cell? ⟨w.heap.size, 0, none⟩ = some (.int .i64 b)) := fun wr h => (h.cell (by show w.heap.size < _; omega)).trans (by rw [hW1]; simp [logRow])
  have p1 : Hid (∀ wr, Below W1.heap.size W1 wr → wr.cell? ⟨w.heap.size, 1, none⟩ = some (.string st)) := fun wr h => (h.cell (by show w.heap.size < _; omega)).trans (by rw [hW1]; simp [logRow])
  have p2 : Hid (∀ wr, Below W1.heap.size W1 wr → wr.cell? ⟨w.heap.size, 2, none⟩ = some (.slice a1 es.length cap1)) := fun wr h => (h.cell (by show w.heap.size < _; omega)).trans (by rw [hW1]; simp [logRow])
  have q0 : Hid (∀ wr, Below W1.heap.size W1 wr → wr.cell? ⟨w.heap.size + 1, 0, none⟩ = some (.int .i64 c)) := fun wr h => (h.cell (by show w.heap.size + 1 < _; omega)).trans (by rw [hW1]; simp [logRow])
  have q1 : Hid (∀ wr, Below W1.heap.size W1 wr → wr.cell? ⟨w.heap.size + 1, 1, none⟩ = some (.string su)) := fun wr h => (h.cell (by show w.heap.size + 1 < _; omega)).trans (by rw [hW1]; simp [logRow])
  have q2 : Hid (∀ wr, Below W1.heap.size W1 wr → wr.cell? ⟨w.heap.size + 1, 2, none⟩ = some (.slice a2 fs.length cap2)) := fun wr h => (h.cell (by show w.heap.size + 1 < _; omega)).trans (by rw [hW1]; simp [logRow])
  obtain ⟨A, hA⟩ : ∃ A : Int, A = ((b + es.length : Nat) : Int) := ⟨_, rfl⟩
  obtain ⟨C, hC⟩ : ∃ C : Int, C = ((c + fs.length : Nat) : Int) := ⟨_, rfl⟩
  have o1 : Hid (∀ wr, Calls Tryz.prog 11 #[lv b st (.slice a1 es.length cap1)] wr fun e w' => e = .returned (.int .i64 A) ∧ Below wr.heap.size wr w') := fun wr => hA ▸ op_any b es.length st a1 cap1 wr hn
  have o2 : Hid (∀ wr, Calls Tryz.prog 11 #[lv c su (.slice a2 fs.length cap2)] wr fun e w' => e = .returned (.int .i64 C) ∧ Below wr.heap.size wr w') := fun wr => hC ▸ op_any c fs.length su a2 cap2 wr hm
  have t1 : Hid (∀ (k : Nat) (x : Ent) (wr : World), Below W1.heap.size W1 wr → b < k → es[k - b - 1]? = some x → Calls Tryz.prog 24 #[lv b st (.slice a1 es.length cap1), .int .i64 (k : Nat)] wr fun r w' => r = .returned (.tuple #[x.val, .bool true]) ∧ Below wr.heap.size wr w') := fun k x wr h hk hx => by
    have := at_any b (k - b - 1) st (.slice a1 es.length cap1) es x wr w.heap.size (by have := hs2 wr h; omega) hx (hL1 wr h) hn
    rwa [show b + (k - b - 1) + 1 = k by omega] at this
  have t2 : Hid (∀ (k : Nat) (x : Ent) (wr : World), Below W1.heap.size W1 wr → c < k → fs[k - c - 1]? = some x → Calls Tryz.prog 24 #[lv c su (.slice a2 fs.length cap2), .int .i64 (k : Nat)] wr fun r w' => r = .returned (.tuple #[x.val, .bool true]) ∧ Below wr.heap.size wr w') := fun k x wr h hk hx => by
    have := at_any c (k - c - 1) su (.slice a2 fs.length cap2) fs x wr w.heap.size (by have := hs2 wr h; omega) hx (hM1 wr h) hm
    rwa [show c + (k - c - 1) + 1 = k by omega] at this
  have hA' : Hid (A = ((b + es.length : Nat) : Int)) := hA
  have hC' : Hid (C = ((c + fs.length : Nat) : Int)) := hC
  have hn' : Hid (b + es.length < 4611686018427387904 ∧ c + fs.length < 4611686018427387904) := ⟨hn, hm⟩
  clear hL1 hM1 hs2 hA hC hn hm
  have hbnd : b < 4611686018427387904 ∧ c < 4611686018427387904 := by have := hn'.out; omega
  go_enter Tryz.func10, Tryz.ntmps10
  go_wp2
  go_loopw [5] (fun op wr => ∃ k : Nat, max b c < k ∧ k < 4611686018427387905 ∧ op = .int .i64 (k : Nat) ∧ Hid (∀ j : Nat, b < j → c < j → j < k → j ≤ b + es.length → j ≤ c + fs.length → es[j - b - 1]? = fs[j - c - 1]?) ∧ Below W1.heap.size W1 wr)
    (fun op _ => 4611686018427387905 - (intOf op).toNat)
  case atStart => exact ⟨max b c + 1, by omega, by omega, by simp; omega, fun j h1 h2 h3 => by omega, by rw [hW1]; exact Below.refl _ _⟩
  case round =>
    obtain ⟨k, hk, hk2, rfl, hag, hb⟩ := hrel
    go_wp2
    refine Go.Ev.wp_region_plan (fun x => Below W1.heap.size W1 x) [.int .i64 (k : Nat), lv b st (.slice a1 es.length cap1), .int .i64 A, lv c su (.slice a2 fs.length cap2), .int .i64 C, .int .i64 (min A C), .bool (decide ((k : Int) ≤ min A C))] mixed (by kernel_rfl) (by kernel_rfl) hb.drew ?_
    refine ⟨fun x K hv hK => ?_, ?_⟩
    · go_simp; exact hK _ hv
    simp only [Act.put, List.setIfInBounds_toArray, List.set_cons_succ, List.set_cons_zero, List.headD_cons, List.tail_cons]
    refine ⟨fun x K hv hK => ?_, ?_⟩
    · have g0 := p0.out x hv; have g1 := p1.out x hv; have g2 := p2.out x hv; go_simp; exact hK _ hv
    simp only [Act.put, List.setIfInBounds_toArray, List.set_cons_succ, List.set_cons_zero, List.headD_cons, List.tail_cons]
    refine ⟨fun x K hv hK => ?_, ?_⟩
    · go_simp; refine (o1.out _).mono ?_; rintro e w' ⟨rfl, hB⟩; exact hK _ (hv.trans (hB.mono hv.size))
    simp only [Act.put, List.setIfInBounds_toArray, List.set_cons_succ, List.set_cons_zero, List.headD_cons, List.tail_cons]
    refine ⟨fun x K hv hK => ?_, ?_⟩
    · have g0 := q0.out x hv; have g1 := q1.out x hv; have g2 := q2.out x hv; go_simp; exact hK _ hv
    simp only [Act.put, List.setIfInBounds_toArray, List.set_cons_succ, List.set_cons_zero, List.headD_cons, List.tail_cons]
    refine ⟨fun x K hv hK => ?_, ?_⟩
    · go_simp; refine (o2.out _).mono ?_; rintro e w' ⟨rfl, hB⟩; exact hK _ (hv.trans (hB.mono hv.size))
    simp only [Act.put, List.setIfInBounds_toArray, List.set_cons_succ, List.set_cons_zero, List.headD_cons, List.tail_cons]
    refine ⟨fun x K hv hK => ?_, ?_⟩
    · go_simp; exact hK _ hv
    simp only [Act.put, List.setIfInBounds_toArray, List.set_cons_succ, List.set_cons_zero, List.headD_cons, List.tail_cons]
    refine ⟨fun x K hv hK => ?_, ?_⟩
    · go_simp; exact hK _ hv
    simp only [Act.put, List.setIfInBounds_toArray, List.set_cons_succ, List.set_cons_zero, List.headD_cons, List.tail_cons]
    intro wc hc
    by_cases hle : (k : Int) ≤ min A C
    · have hlen : b < k ∧ c < k ∧ k ≤ b + es.length ∧ k ≤ c + fs.length := by have := hA'.out; have := hC'.out; omega
      obtain ⟨x, hx⟩ : ∃ x, es[k - b - 1]? = some x := ⟨_, List.getElem?_eq_getElem (by omega)⟩
      obtain ⟨y, hy⟩ : ∃ y, fs[k - c - 1]? = some y := ⟨_, List.getElem?_eq_getElem (by omega)⟩
      have t1' : Hid (∀ wr, Below W1.heap.size W1 wr → Calls Tryz.prog 24 #[lv b st (.slice a1 es.length cap1), .int .i64 (k : Nat)] wr fun r w' => r = .returned (.tuple #[x.val, .bool true]) ∧ Below wr.heap.size wr w') := fun wr h => t1.out k x wr h hlen.1 hx
      have t2' : Hid (∀ wr, Below W1.heap.size W1 wr → Calls Tryz.prog 24 #[lv c su (.slice a2 fs.length cap2), .int .i64 (k : Nat)] wr fun r w' => r = .returned (.tuple #[y.val, .bool true]) ∧ Below wr.heap.size wr w') := fun wr h => t2.out k y wr h hlen.2.1 hy
      clear t1 t2
      obtain ⟨x0, x1, x2⟩ := x
      obtain ⟨y0, y1, y2⟩ := y
      have hne : Hid (∀ w, (binOp .neq 34 (.agg #[.int .i64 x0, .int .i64 x1, .string x2]) (.agg #[.int .i64 y0, .int .i64 y1, .string y2])).run Tryz.prog w = .ok (.bool (!decide ((x0, x1, x2) = (y0, y1, y2)))) w) := fun w => ne_ent (x0, x1, x2) (y0, y1, y2) w
      simp only [Ent.val] at t1' t2'
      have g0 := p0.out wc hc; have g1 := p1.out wc hc; have g2 := p2.out wc hc
      go_wp2_with (fail)
      go_at_call 24
      refine (t1'.out _ hc).mono ?_
      rintro e w5 ⟨rfl, hB5⟩
      have hc5 := hc.trans (hB5.mono hc.size)
      have f0 : ∀ o, (w5.alloc o).cell? _ = some _ := fun o => Lib.cell?_alloc_some o (q0.out w5 hc5)
      have f1 : ∀ o, (w5.alloc o).cell? _ = some _ := fun o => Lib.cell?_alloc_some o (q1.out w5 hc5)
      have f2 : ∀ o, (w5.alloc o).cell? _ = some _ := fun o => Lib.cell?_alloc_some o (q2.out w5 hc5)
      clear g0 g1 g2
      go_wp2_with (
        go_at_call 24
        refine (t2'.out _ (hc5.alloc hc5.size _)).mono ?_
        rintro e w6 ⟨rfl, hB6⟩
        have r0 : ∀ o, (w6.alloc o).cell? ⟨w5.heap.size, 0, none⟩ = some (.int .i64 x0) := fun o => Lib.cell?_alloc_some o ((hB6.cell (by simp)).trans (by simp))
        have r1 : ∀ o, (w6.alloc o).cell? ⟨w5.heap.size, 1, none⟩ = some (.int .i64 x1) := fun o => Lib.cell?_alloc_some o ((hB6.cell (by simp)).trans (by simp))
        have r2 : ∀ o, (w6.alloc o).cell? ⟨w5.heap.size, 2, none⟩ = some (.string x2) := fun o => Lib.cell?_alloc_some o ((hB6.cell (by simp)).trans (by simp))
        have hc6 : Below W1.heap.size W1 w6 := (hc5.alloc hc5.size _).trans (hB6.mono (by have := hc5.size; simp; omega))
        have hne' := hne.out
        clear f0 f1 f2)
      · rename_i hd
        have hno : ¬ Agrees b es c fs := fun h => by
          have := h k hlen.1 hlen.2.1 hlen.2.2.1 hlen.2.2.2
          rw [hx, hy] at this
          simp only [Option.some.injEq, Prod.mk.injEq] at this
          obtain ⟨rfl, rfl, rfl⟩ := this
          simp at hd
        go_ret
        refine ⟨?_, hB1.trans ((hc6.alloc hc6.size _).mono (by omega))⟩
        have : agreeB b es c fs = false := @decide_eq_false _ (Classical.propDecidable _) hno
        rw [this]; rfl
      · rename_i hd
        simp only [Bool.not_eq_false', decide_eq_true_eq] at hd
        obtain ⟨rfl, rfl, rfl⟩ := hd
        have hnn := hn'.out
        refine ⟨⟨k + 1, by omega, by omega, by simp, fun j h1 h2 h3 h4 h5 => ?_, hc6.alloc hc6.size _⟩, by simp [intOf]; omega⟩
        rcases Nat.lt_or_ge j k with h | h
        · exact hag.out j h1 h2 h h4 h5
        · obtain rfl : j = k := by omega
          rw [hx, hy]
    · go_wp2
      go_ret
      refine ⟨?_, hB1.trans (hc.mono (by omega))⟩
      have hyes : Agrees b es c fs := fun op h1 h2 h3 h4 => hag.out op h1 h2 (by have := hA'.out; have := hC'.out; omega) h3 h4
      have : agreeB b es c fs = true := @decide_eq_true _ (Classical.propDecidable _) hyes
      rw [this]; rfl
#print axioms agree_any
end Go.Proofs.YtekmkmidjoenoaaGreatDoor
