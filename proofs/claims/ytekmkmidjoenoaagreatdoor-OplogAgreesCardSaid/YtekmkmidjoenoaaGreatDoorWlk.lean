/- The walk of the function of OplogAgrees. -/
import Derived.Test.YtekmkmidjoenoaaGreatDoorLog
import Derived.Test.YtekmkmidjoenoaaGreatDoorSpo
namespace Go.Proofs.YtekmkmidjoenoaaGreatDoor
open Go.RowKit Go.Ev

theorem calls_gen {P : Program} {f : FuncId} {args : Array Value} {Q : Ending → World → Prop} {w0 : World} (h : ∀ W, W = w0 → Calls P f args W Q) : Calls P f args w0 Q := h _ rfl

theorem agreeB_true {b c : Nat} {es fs : List Ent} (h : Agrees b es c fs) : agreeB b es c fs = true := @decide_eq_true _ (Classical.propDecidable _) h
theorem agreeB_symm (b c : Nat) (es fs : List Ent) : agreeB b es c fs = agreeB c fs b es := by
  by_cases h : Agrees b es c fs
  · rw [agreeB_true h, agreeB_true h.symm]
  · have h' : ¬ Agrees c fs b es := fun k => h k.symm
    rw [show agreeB b es c fs = false from @decide_eq_false _ (Classical.propDecidable _) h, show agreeB c fs b es = false from @decide_eq_false _ (Classical.propDecidable _) h']

/-- Cut, whatever the number. -/
theorem cut_any (st su : ByteArray) (v : Value) (es : List Ent) (op : Int) (w : World) (hL : Lies w.heap.size w v es) (hn : es.length < 1000) :
    Calls Tryz.prog 8 #[lv 3 st v, .int .i64 op, .string su] w fun e w' => ∃ (D : Nat) (sd : ByteArray) (vd : Value) (b : Bool), e = .returned (.tuple #[lv (D : Nat) sd vd, .bool b]) ∧ Below w.heap.size w w' ∧ Lies w'.heap.size w' vd (es.drop (D - 3)) ∧ 3 ≤ D ∧ D ≤ 3 + es.length := by
  by_cases h : op ≤ 3 ∨ (3 : Int) + es.length < op
  · refine (cut_out 3 st su v es op w hL (by omega) h).mono ?_
    rintro e w' ⟨rfl, hB⟩
    exact ⟨3, st, v, false, rfl, hB, by simpa using (hL.below hB).mono hB.size, by omega, by omega⟩
  · obtain ⟨k, rfl⟩ : ∃ k : Nat, op = ((3 + k : Nat) : Int) := ⟨(op - 3).toNat, by omega⟩
    refine (cut_in 3 st su v es k w hL (by omega) (by omega) (by omega)).mono ?_
    rintro e w' ⟨v', rfl, hB, hL'⟩
    exact ⟨3 + k, su, v', true, rfl, hB, by rw [show 3 + k - 3 = k by omega]; exact hL', by omega, by omega⟩

theorem lies_slice {N : Nat} {W : World} {v : Value} {es : List Ent} (h : Lies N W v es) : ∃ a n c, v = .slice a n c ∧ Hid (n = es.length) := by
  obtain ⟨a, cap, rfl, _⟩ := h
  exact ⟨_, _, _, rfl, rfl⟩

set_option maxRecDepth 100000 in
set_option maxHeartbeats 25600000 in
theorem agrees_any (vl vm : Value) (es fs : List Ent) (op : Int) (w : World) (hL : Lies w.heap.size w vl es) (hM : Lies w.heap.size w vm fs) (he : es.length < 9223372036854775808) (hf : fs.length < 9223372036854775808) :
    Calls Tryz.prog 3 #[vl, vm, .int .i64 op] w fun e w' => e = .returned (.bool true) ∧ Below w.heap.size w w' := by
  go_enter Tryz.func3, Tryz.ntmps3
  go_wp2_with (fail)
  go_at_call 5
  refine (speaks_any _).mono ?_
  rintro e w1 ⟨rfl, hB1⟩
  go_wp2_with (fail)
  go_at_call 6
  refine (logs_any _ _ es _ ((hL.below hB1).mono hB1.size) he).mono ?_
  rintro e w2 ⟨va, a2, n2, c2, rfl, hB2, hLa⟩
  obtain ⟨aA, nA, cA, rfl, hnA⟩ := lies_slice hLa
  generalize hA : es.take 30 = A at *
  have hA30 : A.length ≤ 30 := by rw [← hA, List.length_take]; omega
  have hBB2 : Below w.heap.size w w2 := hB1.trans (hB2.mono hB1.size)
  go_wp2_with (fail)
  go_at_call 6
  refine calls_gen fun W3 hW3 => ?_
  have hs3 : W3.heap.size = w2.heap.size + 2 := by rw [hW3]; simp
  have hB3 : Below w2.heap.size w2 W3 := by rw [hW3]; exact ((Below.refl _ w2).alloc (Nat.le_refl _) _).alloc (by simp) _
  have a70 : Hid (∀ wr, Below W3.heap.size W3 wr → wr.cell? ⟨w2.heap.size, 0, none⟩ = some (.int .i64 3)) := fun wr h => (h.cell (by show w2.heap.size < W3.heap.size; omega)).trans (by rw [hW3]; simp)
  have a71 : Hid (∀ wr, Below W3.heap.size W3 wr → wr.cell? ⟨w2.heap.size, 1, none⟩ = some (.string ⟨#[115]⟩)) := fun wr h => (h.cell (by show w2.heap.size < W3.heap.size; omega)).trans (by rw [hW3]; simp)
  have a72 : Hid (∀ wr, Below W3.heap.size W3 wr → wr.cell? ⟨w2.heap.size, 2, none⟩ = some (.slice aA nA cA)) := fun wr h => (h.cell (by show w2.heap.size < W3.heap.size; omega)).trans (by rw [hW3]; simp)
  clear hW3
  have hBB3 : Below w.heap.size w W3 := hBB2.trans (hB3.mono hBB2.size)
  refine (logs_any _ _ fs _ ((hM.below hBB3).mono hBB3.size) hf).mono ?_
  rintro e w4 ⟨vb, a4, n4, c4, rfl, hB4, hLb⟩
  obtain ⟨aB, nB, cB, rfl, hnB⟩ := lies_slice hLb
  generalize hB : fs.take 30 = B at *
  have hB30 : B.length ≤ 30 := by rw [← hB, List.length_take]; omega
  have fa70 : ∀ o0 o1 : Obj, ((w4.alloc o0).alloc o1).cell? _ = some _ := fun _ _ => (Lib.cell?_alloc_some _ (Lib.cell?_alloc_some _ (a70.out w4 hB4)))
  have fa71 : ∀ o0 o1 : Obj, ((w4.alloc o0).alloc o1).cell? _ = some _ := fun _ _ => (Lib.cell?_alloc_some _ (Lib.cell?_alloc_some _ (a71.out w4 hB4)))
  have fa72 : ∀ o0 o1 : Obj, ((w4.alloc o0).alloc o1).cell? _ = some _ := fun _ _ => (Lib.cell?_alloc_some _ (Lib.cell?_alloc_some _ (a72.out w4 hB4)))
  go_wp2_with (fail)
  go_at_call 7
  refine calls_gen fun W5 hW5 => ?_
  clear fa70 fa71 fa72
  have hs5 : W5.heap.size = w4.heap.size + 2 := by rw [hW5]; simp
  have hB5 : Below w4.heap.size w4 W5 := by rw [hW5]; exact ((Below.refl _ w4).alloc (Nat.le_refl _) _).alloc (by simp) _
  have b90 : Hid (∀ wr, Below W5.heap.size W5 wr → wr.cell? ⟨w4.heap.size, 0, none⟩ = some (.int .i64 3)) := fun wr h => (h.cell (by show w4.heap.size < W5.heap.size; omega)).trans (by rw [hW5]; simp)
  have b91 : Hid (∀ wr, Below W5.heap.size W5 wr → wr.cell? ⟨w4.heap.size, 1, none⟩ = some (.string ⟨#[115]⟩)) := fun wr h => (h.cell (by show w4.heap.size < W5.heap.size; omega)).trans (by rw [hW5]; simp)
  have b92 : Hid (∀ wr, Below W5.heap.size W5 wr → wr.cell? ⟨w4.heap.size, 2, none⟩ = some (.slice aB nB cB)) := fun wr h => (h.cell (by show w4.heap.size < W5.heap.size; omega)).trans (by rw [hW5]; simp)
  clear hW5
  have hB35 : Below W3.heap.size W3 W5 := hB4.trans (hB5.mono hB4.size)
  have hB25 : Below w2.heap.size w2 W5 := hB3.trans (hB35.mono hB3.size)
  refine (add_any 3 _ _ A (1, 1, ⟨#[120]⟩) _ ((hLa.below hB25).mono hB25.size) (by omega)).mono ?_
  rintro e w6 ⟨vc, rfl, hB6, hLc⟩
  obtain ⟨aC, nC, cC, rfl, hnC⟩ := lies_slice hLc
  have hCl : (A ++ [((1, 1, ⟨#[120]⟩) : Ent)]).length = A.length + 1 := by simp
  go_wp2_with (fail)
  go_at_call 8
  refine calls_gen fun W7 hW7 => ?_
  have hs7 : W7.heap.size = w6.heap.size + 1 := by rw [hW7]; simp
  have hB7 : Below w6.heap.size w6 W7 := by rw [hW7]; exact (Below.refl _ w6).alloc (Nat.le_refl _) _
  have c110 : Hid (∀ wr, Below W7.heap.size W7 wr → wr.cell? ⟨w6.heap.size, 0, none⟩ = some (.int .i64 3)) := fun wr h => (h.cell (by show w6.heap.size < W7.heap.size; omega)).trans (by rw [hW7]; simp)
  have c111 : Hid (∀ wr, Below W7.heap.size W7 wr → wr.cell? ⟨w6.heap.size, 1, none⟩ = some (.string ⟨#[115]⟩)) := fun wr h => (h.cell (by show w6.heap.size < W7.heap.size; omega)).trans (by rw [hW7]; simp)
  have c112 : Hid (∀ wr, Below W7.heap.size W7 wr → wr.cell? ⟨w6.heap.size, 2, none⟩ = some (.slice aC nC cC)) := fun wr h => (h.cell (by show w6.heap.size < W7.heap.size; omega)).trans (by rw [hW7]; simp)
  clear hW7
  refine (cut_any _ _ _ (A ++ [(1, 1, ⟨#[120]⟩)]) op _ ((hLc.below hB7).mono hB7.size) (by omega)).mono ?_
  rintro e w8 ⟨D, sd, vd, bd, rfl, hB8, hLd, hD1, hD2⟩
  obtain ⟨aD, nD, cD, rfl, hnD⟩ := lies_slice hLd
  have hB57 : Below W5.heap.size W5 W7 := hB6.trans (hB7.mono hB6.size)
  have hB37 : Below W3.heap.size W3 W7 := hB35.trans (hB57.mono hB35.size)
  have hB38 : Below W3.heap.size W3 w8 := hB37.trans (hB8.mono hB37.size)
  have fa70 : ∀ o0 : Obj, (w8.alloc o0).cell? _ = some _ := fun _ => (Lib.cell?_alloc_some _ (a70.out w8 hB38))
  have fa71 : ∀ o0 : Obj, (w8.alloc o0).cell? _ = some _ := fun _ => (Lib.cell?_alloc_some _ (a71.out w8 hB38))
  have fa72 : ∀ o0 : Obj, (w8.alloc o0).cell? _ = some _ := fun _ => (Lib.cell?_alloc_some _ (a72.out w8 hB38))
  go_wp2_with (fail)
  go_at_call 9
  refine calls_gen fun W9 hW9 => ?_
  clear fa70 fa71 fa72
  have hs9 : W9.heap.size = w8.heap.size + 1 := by rw [hW9]; simp
  have hB9 : Below w8.heap.size w8 W9 := by rw [hW9]; exact (Below.refl _ w8).alloc (Nat.le_refl _) _
  have d120 : Hid (∀ wr, Below W9.heap.size W9 wr → wr.cell? ⟨w8.heap.size, 0, none⟩ = some (.int .i64 (D : Nat))) := fun wr h => (h.cell (by show w8.heap.size < W9.heap.size; omega)).trans (by rw [hW9]; simp)
  have d121 : Hid (∀ wr, Below W9.heap.size W9 wr → wr.cell? ⟨w8.heap.size, 1, none⟩ = some (.string sd)) := fun wr h => (h.cell (by show w8.heap.size < W9.heap.size; omega)).trans (by rw [hW9]; simp)
  have d122 : Hid (∀ wr, Below W9.heap.size W9 wr → wr.cell? ⟨w8.heap.size, 2, none⟩ = some (.slice aD nD cD)) := fun wr h => (h.cell (by show w8.heap.size < W9.heap.size; omega)).trans (by rw [hW9]; simp)
  clear hW9
  refine (merge_new 3 D _ _ _ _ _ _ _ _ _ hD1).mono ?_
  rintro e w10 ⟨rfl, hB10⟩
  go_wp2_with (fail)
  refine wp_genl fun W11 hW11 => ?_
  have hs11 : W11.heap.size = w10.heap.size + 1 := by rw [hW11]; simp
  have hB11 : Below w10.heap.size w10 W11 := by rw [hW11]; exact (Below.refl _ w10).alloc (Nat.le_refl _) _
  have e140 : Hid (∀ wr, Below W11.heap.size W11 wr → wr.cell? ⟨w10.heap.size, 0, none⟩ = some (.int .i64 (D : Nat))) := fun wr h => (h.cell (by show w10.heap.size < W11.heap.size; omega)).trans (by rw [hW11]; simp)
  have e141 : Hid (∀ wr, Below W11.heap.size W11 wr → wr.cell? ⟨w10.heap.size, 1, none⟩ = some (.string sd)) := fun wr h => (h.cell (by show w10.heap.size < W11.heap.size; omega)).trans (by rw [hW11]; simp)
  have e142 : Hid (∀ wr, Below W11.heap.size W11 wr → wr.cell? ⟨w10.heap.size, 2, none⟩ = some (.slice aD nD cD)) := fun wr h => (h.cell (by show w10.heap.size < W11.heap.size; omega)).trans (by rw [hW11]; simp)
  clear hW11
  have hB911 : Below W9.heap.size W9 W11 := hB10.trans (hB11.mono hB10.size)
  have hB811 : Below w8.heap.size w8 W11 := hB9.trans (hB911.mono hB9.size)
  have hB711 : Below W7.heap.size W7 W11 := hB8.trans (hB811.mono hB8.size)
  have hB511 : Below W5.heap.size W5 W11 := hB57.trans (hB711.mono hB57.size)
  have hB311 : Below W3.heap.size W3 W11 := hB35.trans (hB511.mono hB35.size)
  have hBw11 : Below w.heap.size w W11 := hBB3.trans (hB311.mono hBB3.size)
  obtain ⟨M, hMM⟩ : ∃ M : Int, M = ((3 + (A.length + 1) : Nat) : Int) := ⟨_, rfl⟩
  obtain ⟨r, hr⟩ : ∃ r : Bool, r = agreeB 3 A 3 B := ⟨_, rfl⟩
  have hB2w : Below w2.heap.size w2 W11 := hB3.trans (hB311.mono hB3.size)
  have hB4w : Below w4.heap.size w4 W11 := hB5.trans (hB511.mono hB5.size)
  have hB6w : Below w6.heap.size w6 W11 := hB7.trans (hB711.mono hB7.size)
  have hDl : ((A ++ [((1, 1, ⟨#[120]⟩) : Ent)]).drop (D - 3)).length = A.length + 1 - (D - 3) := by rw [List.length_drop, hCl]
  have LA : ∀ x, Below W11.heap.size W11 x → Lies x.heap.size x (.slice aA nA cA) A := fun x h => (hLa.below (hB2w.trans (h.mono hB2w.size))).mono (Nat.le_trans hB2w.size h.size)
  have LB : ∀ x, Below W11.heap.size W11 x → Lies x.heap.size x (.slice aB nB cB) B := fun x h => (hLb.below (hB4w.trans (h.mono hB4w.size))).mono (Nat.le_trans hB4w.size h.size)
  have LC : ∀ x, Below W11.heap.size W11 x → Lies x.heap.size x (.slice aC nC cC) (A ++ [((1, 1, ⟨#[120]⟩) : Ent)]) := fun x h => (hLc.below (hB6w.trans (h.mono hB6w.size))).mono (Nat.le_trans hB6w.size h.size)
  have LD : ∀ x, Below W11.heap.size W11 x → Lies x.heap.size x (.slice aD nD cD) ((A ++ [((1, 1, ⟨#[120]⟩) : Ent)]).drop (D - 3)) := fun x h => (hLd.below (hB811.trans (h.mono hB811.size))).mono (Nat.le_trans hB811.size h.size)
  have ag : ∀ (b c : Nat) (st su : ByteArray) (u v : Value) (es fs : List Ent) (q : Bool), (∀ x, Below W11.heap.size W11 x → Lies x.heap.size x u es) → (∀ x, Below W11.heap.size W11 x → Lies x.heap.size x v fs) → q = agreeB b es c fs → b + es.length < 4611686018427387904 → c + fs.length < 4611686018427387904 →
      Hid (∀ x, Below W11.heap.size W11 x → Calls Tryz.prog 10 #[lv b st u, lv c su v] x fun e w' => e = .returned (.bool q) ∧ Below x.heap.size x w') := fun b c st su u v es fs q h1 h2 h3 h4 h5 x hx => h3 ▸ agree_any b c st su u v es fs x (h1 x hx) (h2 x hx) h4 h5
  have opc : ∀ (b n : Nat) (st : ByteArray) (a : Option Addr) (cap : Nat) (m : Int), m = ((b + n : Nat) : Int) → b + n < 4611686018427387904 →
      Hid (∀ x, Below W11.heap.size W11 x → Calls Tryz.prog 11 #[lv b st (.slice a n cap)] x fun e w' => e = .returned (.int .i64 m) ∧ Below x.heap.size x w') := fun b n st a cap m h1 h2 x hx => h1 ▸ op_any b n st a cap x h2
  have hcut : Agrees 3 (A ++ [((1, 1, ⟨#[120]⟩) : Ent)]) D ((A ++ [((1, 1, ⟨#[120]⟩) : Ent)]).drop (D - 3)) := by
    have := agrees_cut 3 (D - 3) (A ++ [((1, 1, ⟨#[120]⟩) : Ent)]) (by omega)
    rwa [show 3 + (D - 3) = D by omega] at this
  have hacut : Agrees 3 A D ((A ++ [((1, 1, ⟨#[120]⟩) : Ent)]).drop (D - 3)) := by
    have := agrees_add_cut 3 (D - 3) A ((1, 1, ⟨#[120]⟩) : Ent) (by omega)
    rwa [show 3 + (D - 3) = D by omega] at this
  have kab := ag 3 3 ⟨#[115]⟩ ⟨#[115]⟩ _ _ A B r LA LB hr (by omega) (by omega)
  have kba := ag 3 3 ⟨#[115]⟩ ⟨#[115]⟩ _ _ B A r LB LA (hr.trans (agreeB_symm _ _ _ _)) (by omega) (by omega)
  have kaa := ag 3 3 ⟨#[115]⟩ ⟨#[115]⟩ _ _ A A true LA LA (agreeB_true (agrees_self 3 A)).symm (by omega) (by omega)
  have kac := ag 3 3 ⟨#[115]⟩ ⟨#[115]⟩ _ _ A _ true LA LC (agreeB_true (agrees_add 3 A _)).symm (by omega) (by omega)
  have kcd := ag 3 D ⟨#[115]⟩ sd _ _ _ _ true LC LD (agreeB_true hcut).symm (by omega) (by omega)
  have kad := ag 3 D ⟨#[115]⟩ sd _ _ A _ true LA LD (agreeB_true hacut).symm (by omega) (by omega)
  have kdc := ag D 3 sd ⟨#[115]⟩ _ _ _ _ true LD LC (agreeB_true hcut.symm).symm (by omega) (by omega)
  have kod := opc D nD sd aD cD M (by rw [hMM, hnD.out, hDl]; omega) (by have := hnD.out; omega)
  have koc := opc 3 nC ⟨#[115]⟩ aC cC M (by rw [hMM, hnC.out, hCl]) (by have := hnC.out; omega)
  clear ag opc LA LB LC LD hLa hLb hLc hLd hcut hacut hr hMM
  have k70 : Hid (∀ x, Below W11.heap.size W11 x → x.cell? ⟨w2.heap.size, 0, none⟩ = some (.int .i64 3)) := fun x h => a70.out x (hB311.trans (h.mono hB311.size))
  have k71 : Hid (∀ x, Below W11.heap.size W11 x → x.cell? ⟨w2.heap.size, 1, none⟩ = some (.string ⟨#[115]⟩)) := fun x h => a71.out x (hB311.trans (h.mono hB311.size))
  have k72 : Hid (∀ x, Below W11.heap.size W11 x → x.cell? ⟨w2.heap.size, 2, none⟩ = some (.slice aA nA cA)) := fun x h => a72.out x (hB311.trans (h.mono hB311.size))
  have k90 : Hid (∀ x, Below W11.heap.size W11 x → x.cell? ⟨w4.heap.size, 0, none⟩ = some (.int .i64 3)) := fun x h => b90.out x (hB511.trans (h.mono hB511.size))
  have k91 : Hid (∀ x, Below W11.heap.size W11 x → x.cell? ⟨w4.heap.size, 1, none⟩ = some (.string ⟨#[115]⟩)) := fun x h => b91.out x (hB511.trans (h.mono hB511.size))
  have k92 : Hid (∀ x, Below W11.heap.size W11 x → x.cell? ⟨w4.heap.size, 2, none⟩ = some (.slice aB nB cB)) := fun x h => b92.out x (hB511.trans (h.mono hB511.size))
  have k110 : Hid (∀ x, Below W11.heap.size W11 x → x.cell? ⟨w6.heap.size, 0, none⟩ = some (.int .i64 3)) := fun x h => c110.out x (hB711.trans (h.mono hB711.size))
  have k111 : Hid (∀ x, Below W11.heap.size W11 x → x.cell? ⟨w6.heap.size, 1, none⟩ = some (.string ⟨#[115]⟩)) := fun x h => c111.out x (hB711.trans (h.mono hB711.size))
  have k112 : Hid (∀ x, Below W11.heap.size W11 x → x.cell? ⟨w6.heap.size, 2, none⟩ = some (.slice aC nC cC)) := fun x h => c112.out x (hB711.trans (h.mono hB711.size))
  have k120 : Hid (∀ x, Below W11.heap.size W11 x → x.cell? ⟨w8.heap.size, 0, none⟩ = some (.int .i64 (D : Nat))) := fun x h => d120.out x (hB911.trans (h.mono hB911.size))
  have k121 : Hid (∀ x, Below W11.heap.size W11 x → x.cell? ⟨w8.heap.size, 1, none⟩ = some (.string sd)) := fun x h => d121.out x (hB911.trans (h.mono hB911.size))
  have k122 : Hid (∀ x, Below W11.heap.size W11 x → x.cell? ⟨w8.heap.size, 2, none⟩ = some (.slice aD nD cD)) := fun x h => d122.out x (hB911.trans (h.mono hB911.size))
  have k140 : Hid (∀ x, Below W11.heap.size W11 x → x.cell? ⟨w10.heap.size, 0, none⟩ = some (.int .i64 (D : Nat))) := fun x h => e140.out x (h)
  have k141 : Hid (∀ x, Below W11.heap.size W11 x → x.cell? ⟨w10.heap.size, 1, none⟩ = some (.string sd)) := fun x h => e141.out x (h)
  have k142 : Hid (∀ x, Below W11.heap.size W11 x → x.cell? ⟨w10.heap.size, 2, none⟩ = some (.slice aD nD cD)) := fun x h => e142.out x (h)
  clear a70 a71 a72 b90 b91 b92 c110 c111 c112 d120 d121 d122 e140 e141 e142
  have wv : ∀ x, Below W11.heap.size W11 x → Below w.heap.size w x := fun x h => hBw11.trans (h.mono hBw11.size)
  refine Go.Ev.wp_region_plan (fun x => Below W11.heap.size W11 x) [lv 3 ⟨#[115]⟩ (.slice aA nA cA), lv 3 ⟨#[115]⟩ (.slice aB nB cB), .bool r, lv 3 ⟨#[115]⟩ (.slice aB nB cB), lv 3 ⟨#[115]⟩ (.slice aA nA cA), .bool r, .bool true, .bool true, lv 3 ⟨#[115]⟩ (.slice aA nA cA), lv 3 ⟨#[115]⟩ (.slice aA nA cA), .bool true, .bool true, .bool true, lv 3 ⟨#[115]⟩ (.slice aA nA cA), lv 3 ⟨#[115]⟩ (.slice aC nC cC), .bool true, .bool true, .bool true, lv 3 ⟨#[115]⟩ (.slice aC nC cC), lv (D : Nat) sd (.slice aD nD cD), .bool true, .bool true, .bool true, lv 3 ⟨#[115]⟩ (.slice aA nA cA), lv (D : Nat) sd (.slice aD nD cD), .bool true, .bool true, .bool true, lv (D : Nat) sd (.slice aD nD cD), lv 3 ⟨#[115]⟩ (.slice aC nC cC), .bool true, .bool true, .bool true, lv (D : Nat) sd (.slice aD nD cD), .int .i64 M, lv 3 ⟨#[115]⟩ (.slice aC nC cC), .int .i64 M, .bool true, .bool true, .bool true, lv (D : Nat) sd (.slice aD nD cD), .int .i64 M, lv 3 ⟨#[115]⟩ (.slice aC nC cC), .int .i64 M, .bool true, .bool true, .bool true] mixed (by kernel_rfl) (by kernel_rfl) ((Below.refl _ _).drew) ?_
  refine ⟨fun x K hv hK => ?_, ?_⟩
  · have g0 := k70.out x hv; have g1 := k71.out x hv; have g2 := k72.out x hv; go_simp; exact hK _ hv
  simp only [Act.put, List.setIfInBounds_toArray, List.set_cons_succ, List.set_cons_zero, List.headD_cons, List.tail_cons]
  refine ⟨fun x K hv hK => ?_, ?_⟩
  · have g0 := k90.out x hv; have g1 := k91.out x hv; have g2 := k92.out x hv; go_simp; exact hK _ hv
  simp only [Act.put, List.setIfInBounds_toArray, List.set_cons_succ, List.set_cons_zero, List.headD_cons, List.tail_cons]
  refine ⟨fun x K hv hK => ?_, ?_⟩
  · go_simp; refine (kab.out x hv).mono ?_; rintro e w' ⟨rfl, hB⟩; exact hK _ (hv.trans (hB.mono hv.size))
  simp only [Act.put, List.setIfInBounds_toArray, List.set_cons_succ, List.set_cons_zero, List.headD_cons, List.tail_cons]
  refine ⟨fun x K hv hK => ?_, ?_⟩
  · have g0 := k90.out x hv; have g1 := k91.out x hv; have g2 := k92.out x hv; go_simp; exact hK _ hv
  simp only [Act.put, List.setIfInBounds_toArray, List.set_cons_succ, List.set_cons_zero, List.headD_cons, List.tail_cons]
  refine ⟨fun x K hv hK => ?_, ?_⟩
  · have g0 := k70.out x hv; have g1 := k71.out x hv; have g2 := k72.out x hv; go_simp; exact hK _ hv
  simp only [Act.put, List.setIfInBounds_toArray, List.set_cons_succ, List.set_cons_zero, List.headD_cons, List.tail_cons]
  refine ⟨fun x K hv hK => ?_, ?_⟩
  · go_simp; refine (kba.out x hv).mono ?_; rintro e w' ⟨rfl, hB⟩; exact hK _ (hv.trans (hB.mono hv.size))
  simp only [Act.put, List.setIfInBounds_toArray, List.set_cons_succ, List.set_cons_zero, List.headD_cons, List.tail_cons]
  refine ⟨fun x K hv hK => ?_, ?_⟩
  · go_simp; exact hK _ hv
  simp only [Act.put, List.setIfInBounds_toArray, List.set_cons_succ, List.set_cons_zero, List.headD_cons, List.tail_cons]
  refine ⟨fun x K hv hK => ?_, ?_⟩
  · go_simp; exact hK _ hv
  simp only [Act.put, List.setIfInBounds_toArray, List.set_cons_succ, List.set_cons_zero, List.headD_cons, List.tail_cons]
  refine ⟨fun x K hv hK => ?_, ?_⟩
  · have g0 := k70.out x hv; have g1 := k71.out x hv; have g2 := k72.out x hv; go_simp; exact hK _ hv
  simp only [Act.put, List.setIfInBounds_toArray, List.set_cons_succ, List.set_cons_zero, List.headD_cons, List.tail_cons]
  refine ⟨fun x K hv hK => ?_, ?_⟩
  · have g0 := k70.out x hv; have g1 := k71.out x hv; have g2 := k72.out x hv; go_simp; exact hK _ hv
  simp only [Act.put, List.setIfInBounds_toArray, List.set_cons_succ, List.set_cons_zero, List.headD_cons, List.tail_cons]
  refine ⟨fun x K hv hK => ?_, ?_⟩
  · go_simp; refine (kaa.out x hv).mono ?_; rintro e w' ⟨rfl, hB⟩; exact hK _ (hv.trans (hB.mono hv.size))
  simp only [Act.put, List.setIfInBounds_toArray, List.set_cons_succ, List.set_cons_zero, List.headD_cons, List.tail_cons]
  refine ⟨fun x K hv hK => ?_, ?_⟩
  · go_simp; exact hK _ hv
  simp only [Act.put, List.setIfInBounds_toArray, List.set_cons_succ, List.set_cons_zero, List.headD_cons, List.tail_cons]
  refine ⟨fun x K hv hK => ?_, ?_⟩
  · go_simp; exact hK _ hv
  simp only [Act.put, List.setIfInBounds_toArray, List.set_cons_succ, List.set_cons_zero, List.headD_cons, List.tail_cons]
  refine ⟨fun x K hv hK => ?_, ?_⟩
  · have g0 := k70.out x hv; have g1 := k71.out x hv; have g2 := k72.out x hv; go_simp; exact hK _ hv
  simp only [Act.put, List.setIfInBounds_toArray, List.set_cons_succ, List.set_cons_zero, List.headD_cons, List.tail_cons]
  refine ⟨fun x K hv hK => ?_, ?_⟩
  · have g0 := k110.out x hv; have g1 := k111.out x hv; have g2 := k112.out x hv; go_simp; exact hK _ hv
  simp only [Act.put, List.setIfInBounds_toArray, List.set_cons_succ, List.set_cons_zero, List.headD_cons, List.tail_cons]
  refine ⟨fun x K hv hK => ?_, ?_⟩
  · go_simp; refine (kac.out x hv).mono ?_; rintro e w' ⟨rfl, hB⟩; exact hK _ (hv.trans (hB.mono hv.size))
  simp only [Act.put, List.setIfInBounds_toArray, List.set_cons_succ, List.set_cons_zero, List.headD_cons, List.tail_cons]
  refine ⟨fun x K hv hK => ?_, ?_⟩
  · go_simp; exact hK _ hv
  simp only [Act.put, List.setIfInBounds_toArray, List.set_cons_succ, List.set_cons_zero, List.headD_cons, List.tail_cons]
  refine ⟨fun x K hv hK => ?_, ?_⟩
  · go_simp; exact hK _ hv
  simp only [Act.put, List.setIfInBounds_toArray, List.set_cons_succ, List.set_cons_zero, List.headD_cons, List.tail_cons]
  refine ⟨fun x K hv hK => ?_, ?_⟩
  · have g0 := k110.out x hv; have g1 := k111.out x hv; have g2 := k112.out x hv; go_simp; exact hK _ hv
  simp only [Act.put, List.setIfInBounds_toArray, List.set_cons_succ, List.set_cons_zero, List.headD_cons, List.tail_cons]
  refine ⟨fun x K hv hK => ?_, ?_⟩
  · have g0 := k120.out x hv; have g1 := k121.out x hv; have g2 := k122.out x hv; go_simp; exact hK _ hv
  simp only [Act.put, List.setIfInBounds_toArray, List.set_cons_succ, List.set_cons_zero, List.headD_cons, List.tail_cons]
  refine ⟨fun x K hv hK => ?_, ?_⟩
  · go_simp; refine (kcd.out x hv).mono ?_; rintro e w' ⟨rfl, hB⟩; exact hK _ (hv.trans (hB.mono hv.size))
  simp only [Act.put, List.setIfInBounds_toArray, List.set_cons_succ, List.set_cons_zero, List.headD_cons, List.tail_cons]
  refine ⟨fun x K hv hK => ?_, ?_⟩
  · go_simp; exact hK _ hv
  simp only [Act.put, List.setIfInBounds_toArray, List.set_cons_succ, List.set_cons_zero, List.headD_cons, List.tail_cons]
  refine ⟨fun x K hv hK => ?_, ?_⟩
  · go_simp; exact hK _ hv
  simp only [Act.put, List.setIfInBounds_toArray, List.set_cons_succ, List.set_cons_zero, List.headD_cons, List.tail_cons]
  refine ⟨fun x K hv hK => ?_, ?_⟩
  · have g0 := k70.out x hv; have g1 := k71.out x hv; have g2 := k72.out x hv; go_simp; exact hK _ hv
  simp only [Act.put, List.setIfInBounds_toArray, List.set_cons_succ, List.set_cons_zero, List.headD_cons, List.tail_cons]
  refine ⟨fun x K hv hK => ?_, ?_⟩
  · have g0 := k120.out x hv; have g1 := k121.out x hv; have g2 := k122.out x hv; go_simp; exact hK _ hv
  simp only [Act.put, List.setIfInBounds_toArray, List.set_cons_succ, List.set_cons_zero, List.headD_cons, List.tail_cons]
  refine ⟨fun x K hv hK => ?_, ?_⟩
  · go_simp; refine (kad.out x hv).mono ?_; rintro e w' ⟨rfl, hB⟩; exact hK _ (hv.trans (hB.mono hv.size))
  simp only [Act.put, List.setIfInBounds_toArray, List.set_cons_succ, List.set_cons_zero, List.headD_cons, List.tail_cons]
  refine ⟨fun x K hv hK => ?_, ?_⟩
  · go_simp; exact hK _ hv
  simp only [Act.put, List.setIfInBounds_toArray, List.set_cons_succ, List.set_cons_zero, List.headD_cons, List.tail_cons]
  refine ⟨fun x K hv hK => ?_, ?_⟩
  · go_simp; exact hK _ hv
  simp only [Act.put, List.setIfInBounds_toArray, List.set_cons_succ, List.set_cons_zero, List.headD_cons, List.tail_cons]
  refine ⟨fun x K hv hK => ?_, ?_⟩
  · have g0 := k140.out x hv; have g1 := k141.out x hv; have g2 := k142.out x hv; go_simp; exact hK _ hv
  simp only [Act.put, List.setIfInBounds_toArray, List.set_cons_succ, List.set_cons_zero, List.headD_cons, List.tail_cons]
  refine ⟨fun x K hv hK => ?_, ?_⟩
  · have g0 := k110.out x hv; have g1 := k111.out x hv; have g2 := k112.out x hv; go_simp; exact hK _ hv
  simp only [Act.put, List.setIfInBounds_toArray, List.set_cons_succ, List.set_cons_zero, List.headD_cons, List.tail_cons]
  refine ⟨fun x K hv hK => ?_, ?_⟩
  · go_simp; refine (kdc.out x hv).mono ?_; rintro e w' ⟨rfl, hB⟩; exact hK _ (hv.trans (hB.mono hv.size))
  simp only [Act.put, List.setIfInBounds_toArray, List.set_cons_succ, List.set_cons_zero, List.headD_cons, List.tail_cons]
  refine ⟨fun x K hv hK => ?_, ?_⟩
  · go_simp; exact hK _ hv
  simp only [Act.put, List.setIfInBounds_toArray, List.set_cons_succ, List.set_cons_zero, List.headD_cons, List.tail_cons]
  refine ⟨fun x K hv hK => ?_, ?_⟩
  · go_simp; exact hK _ hv
  simp only [Act.put, List.setIfInBounds_toArray, List.set_cons_succ, List.set_cons_zero, List.headD_cons, List.tail_cons]
  refine ⟨fun x K hv hK => ?_, ?_⟩
  · have g0 := k140.out x hv; have g1 := k141.out x hv; have g2 := k142.out x hv; go_simp; exact hK _ hv
  simp only [Act.put, List.setIfInBounds_toArray, List.set_cons_succ, List.set_cons_zero, List.headD_cons, List.tail_cons]
  refine ⟨fun x K hv hK => ?_, ?_⟩
  · go_simp; refine (kod.out x hv).mono ?_; rintro e w' ⟨rfl, hB⟩; exact hK _ (hv.trans (hB.mono hv.size))
  simp only [Act.put, List.setIfInBounds_toArray, List.set_cons_succ, List.set_cons_zero, List.headD_cons, List.tail_cons]
  refine ⟨fun x K hv hK => ?_, ?_⟩
  · have g0 := k110.out x hv; have g1 := k111.out x hv; have g2 := k112.out x hv; go_simp; exact hK _ hv
  simp only [Act.put, List.setIfInBounds_toArray, List.set_cons_succ, List.set_cons_zero, List.headD_cons, List.tail_cons]
  refine ⟨fun x K hv hK => ?_, ?_⟩
  · go_simp; refine (koc.out x hv).mono ?_; rintro e w' ⟨rfl, hB⟩; exact hK _ (hv.trans (hB.mono hv.size))
  simp only [Act.put, List.setIfInBounds_toArray, List.set_cons_succ, List.set_cons_zero, List.headD_cons, List.tail_cons]
  refine ⟨fun x K hv hK => ?_, ?_⟩
  · go_simp; exact hK _ hv
  simp only [Act.put, List.setIfInBounds_toArray, List.set_cons_succ, List.set_cons_zero, List.headD_cons, List.tail_cons]
  refine ⟨fun x K hv hK => ?_, ?_⟩
  · go_simp; exact hK _ hv
  simp only [Act.put, List.setIfInBounds_toArray, List.set_cons_succ, List.set_cons_zero, List.headD_cons, List.tail_cons]
  refine ⟨fun x K hv hK => ?_, ?_⟩
  · go_simp; exact hK _ hv
  simp only [Act.put, List.setIfInBounds_toArray, List.set_cons_succ, List.set_cons_zero, List.headD_cons, List.tail_cons]
  refine ⟨fun x K hv hK => ?_, ?_⟩
  · have g0 := k120.out x hv; have g1 := k121.out x hv; have g2 := k122.out x hv; go_simp; exact hK _ hv
  simp only [Act.put, List.setIfInBounds_toArray, List.set_cons_succ, List.set_cons_zero, List.headD_cons, List.tail_cons]
  refine ⟨fun x K hv hK => ?_, ?_⟩
  · go_simp; refine (kod.out x hv).mono ?_; rintro e w' ⟨rfl, hB⟩; exact hK _ (hv.trans (hB.mono hv.size))
  simp only [Act.put, List.setIfInBounds_toArray, List.set_cons_succ, List.set_cons_zero, List.headD_cons, List.tail_cons]
  refine ⟨fun x K hv hK => ?_, ?_⟩
  · have g0 := k110.out x hv; have g1 := k111.out x hv; have g2 := k112.out x hv; go_simp; exact hK _ hv
  simp only [Act.put, List.setIfInBounds_toArray, List.set_cons_succ, List.set_cons_zero, List.headD_cons, List.tail_cons]
  refine ⟨fun x K hv hK => ?_, ?_⟩
  · go_simp; refine (koc.out x hv).mono ?_; rintro e w' ⟨rfl, hB⟩; exact hK _ (hv.trans (hB.mono hv.size))
  simp only [Act.put, List.setIfInBounds_toArray, List.set_cons_succ, List.set_cons_zero, List.headD_cons, List.tail_cons]
  refine ⟨fun x K hv hK => ?_, ?_⟩
  · go_simp; exact hK _ hv
  simp only [Act.put, List.setIfInBounds_toArray, List.set_cons_succ, List.set_cons_zero, List.headD_cons, List.tail_cons]
  refine ⟨fun x K hv hK => ?_, ?_⟩
  · go_simp; exact hK _ hv
  simp only [Act.put, List.setIfInBounds_toArray, List.set_cons_succ, List.set_cons_zero, List.headD_cons, List.tail_cons]
  refine ⟨fun x K hv hK => ?_, ?_⟩
  · go_simp; exact hK _ hv
  simp only [Act.put, List.setIfInBounds_toArray, List.set_cons_succ, List.set_cons_zero, List.headD_cons, List.tail_cons]
  intro wc hc
  go_wp2_with (fail)
  go_ret
  exact ⟨rfl, wv wc hc⟩
#print axioms agrees_any
end Go.Proofs.YtekmkmidjoenoaaGreatDoor
