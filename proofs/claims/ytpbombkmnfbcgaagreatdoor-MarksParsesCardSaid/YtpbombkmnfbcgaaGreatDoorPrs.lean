/- A float of a short decimal: always answered. -/
import Derived.Test.YtpbombkmnfbcgaaGreatDoorUsc
import Derived.Laws.FloatArith
import Derived.WalkLawsBesides
namespace Go.Proofs.YtpbombkmnfbcgaaGreatDoor
open Go.RowKit

theorem pk_any (m e : Int) (w : World) : Calls Tryz.prog 90 #[.int .u64 m, .int .i64 e] w fun e w' => IsFE e ∧ w = w' := by
  have hff := fun (z : Int) (w : World) => run_ff z w
  go_enter Tryz.func90, Tryz.ntmps90
  go_wp2_with (fail)
  all_goals
    go_ret2
    exact ⟨⟨_, _, by first | exact .inl rfl | exact .inr (.inl rfl), rfl⟩, rfl⟩

theorem run_fneg (n : Nat) (w : World) : (Op.unary UnOp.neg (.float .f64 n)).run Tryz.prog w = .ok (.float .f64 (Op.negFloat .f64 n)) w := rfl
/-- A product or a quotient of floats: some float; nothing else changes, but for a draw. -/
theorem fop (op : BinOp) (ho : op = .mul ∨ op = .quo) (t : TypeId) (x y : Nat) (w : World) :
    ∃ r w1, (binOp op t (.float .f64 x) (.float .f64 y)).run Tryz.prog w = .ok (.float .f64 r) w1 ∧ (w1 = w ∨ w1 = w.drew) := by
  cases h : floatBits op .f64 x y with
  | some r => exact ⟨r, w, run_float_arith w op t .f64 x y r h, .inl rfl⟩
  | none =>
    refine ⟨Question.cut (.nanBits .f64 x y) (w.tape w.drawn (.nanBits .f64 x y)), w.drew, ?_, .inr rfl⟩
    rcases ho with rfl | rfl <;> (unfold floatBits at h; simp only at h; simp [binOp, Op.floatArith, h, choose, Sem.run, Question.forced])
/-- Powers of ten as floats, in memory. -/
def P10At (N : Nat) (w : World) : Prop := ∃ pb off cap, w.cell? ⟨9, 0, none⟩ = some (.slice (some ⟨pb, off, none⟩) 23 cap) ∧ pb < N ∧ 9 < N ∧ ∀ i, i < 23 → ∃ k : Nat, w.cell? ⟨pb, off + i, none⟩ = some (.float .f64 k)
theorem P10At.keep {N : Nat} {w w' : World} (h : P10At N w) (hb : Below N w w') : P10At N w' := by
  obtain ⟨pb, off, cap, h1, h2, h3, h4⟩ := h
  exact ⟨pb, off, cap, (hb.cell (by exact h3)).trans h1, h2, h3, fun i hi => let ⟨k, hk⟩ := h4 i hi; ⟨k, (hb.cell (by exact h2)).trans hk⟩⟩

/-- An answer: a float, yes or no. -/
def IsFBo (e : Ending) : Prop := ∃ (k : Nat) (b : Bool), e = .returned (.tuple #[.float .f64 k, .bool b])

set_option maxRecDepth 100000 in
set_option maxHeartbeats 1600000 in
theorem exa_any (N m : Nat) (p : Int) (neg : Bool) (w : World) (hm : m < 18446744073709551616) (hF : FltAt N w) (hP : P10At N w) (hp1 : -1000 ≤ p) (hp2 : p ≤ 1000) :
    Calls Tryz.prog 60 #[.int .u64 (m : Nat), .int .i64 p, .bool neg] w fun e w' => IsFBo e ∧ Below w.heap.size w w' := by
  have f0 := hF.m
  obtain ⟨pb, off, cap, g1, g2, g3, g4⟩ := hP
  have g4H := Hid.mk g4
  clear hF g4
  have hneg := fun (n : Nat) (w : World) => run_fneg n w
  go_enter Tryz.func60, Tryz.ntmps60
  by_cases hbig : 4503599627370496 ≤ m
  · have hb : ((m : Int) / 4503599627370496 != 0) = true := by simp; omega
    go_wp2_with (fail)
    go_ret2
    exact ⟨⟨_, _, rfl⟩, by repeat (first | exact Below.refl _ _ | refine Below.drew ?_)⟩
  have hb : ((m : Int) / 4503599627370496 != 0) = false := by simp; omega
  go_upto_if 15 with fail
  go_cut [6] (fun x wr => wr = w ∧ ∃ k : Nat, x = .float .f64 k)
  case first =>
    cases neg
    all_goals
      go_wp2_with (fail)
      go_meet
      exact ⟨rfl, _, rfl⟩
  case rest =>
    obtain ⟨hwr, k, rfl⟩ := hcut
    subst hwr
    by_cases h0 : p = 0
    · subst h0
      go_wp2_with (fail)
      go_ret2
      exact ⟨⟨_, _, rfl⟩, by repeat (first | exact Below.refl _ _ | refine Below.drew ?_)⟩
    have h0b : (p == 0) = false := beq_ne h0
    by_cases hpos : 0 < p
    · obtain ⟨n, rfl⟩ : ∃ n : Nat, p = (n : Int) := ⟨p.toNat, by omega⟩
      have hn0 : 0 < n := by omega
      by_cases h37 : n ≤ 37
      · have h37i : (n : Int) ≤ 37 := by omega
        by_cases h22 : n ≤ 22
        · have h22i : ((22 : Int) < (n : Int)) = False := eq_false (by omega)
          have h22n : (22 < n) = False := eq_false (by omega)
          obtain ⟨v, hv⟩ := g4H.out n (by omega)
          have hn23 : (n : Int) < 23 := by omega
          obtain ⟨r, w1, hrun, hw1⟩ := fop .mul (.inl rfl) 23 k v wc
          rcases hw1 with rfl | rfl
          all_goals go_wp2_with (fail)
          all_goals
            go_ret2
            exact ⟨⟨_, _, rfl⟩, by repeat (first | exact Below.refl _ _ | refine Below.drew ?_)⟩
        · have h22i : ((22 : Int) < (n : Int)) = True := eq_true (by omega)
          have h22n : (22 < n) = True := eq_true (by omega)
          obtain ⟨v, hv⟩ := g4H.out 22 (by omega)
          obtain ⟨j, hj⟩ : ∃ j : Nat, (n : Int) - 22 = (j : Int) := ⟨n - 22, by omega⟩
          obtain ⟨v2, hv2⟩ := g4H.out j (by omega)
          have hj23 : (j : Int) < 23 := by omega
          obtain ⟨r, w1, hrun, hw1⟩ := fop .mul (.inl rfl) 23 k v2 wc
          obtain ⟨r2, w2, hrun2, hw2⟩ := fop .mul (.inl rfl) 23 r v w1
          rcases hw1 with rfl | rfl
          all_goals rcases hw2 with rfl | rfl
          all_goals go_wp2_with (fail)
          all_goals
            go_ret2
            exact ⟨⟨_, _, rfl⟩, by repeat (first | exact Below.refl _ _ | refine Below.drew ?_)⟩
      · have h37i : ((n : Int) ≤ 37) = False := eq_false (by omega)
        have h37n : (n ≤ 37) = False := eq_false (by omega)
        have hneg0 : ((n : Int) < 0) = False := eq_false (by omega)
        go_wp2_with (fail)
        go_ret2
        exact ⟨⟨_, _, rfl⟩, by repeat (first | exact Below.refl _ _ | refine Below.drew ?_)⟩
    · obtain ⟨n, rfl⟩ : ∃ n : Nat, p = -(n : Int) := ⟨(-p).toNat, by omega⟩
      have hn0 : 0 < n := by omega
      have hpo : ((0 : Int) < -(n : Int)) = False := eq_false (by omega)
      have hpn : (-(n : Int) < 0) = True := eq_true (by omega)
      by_cases h22 : n ≤ 22
      · have h22i : (-22 ≤ -(n : Int)) = True := eq_true (by omega)
        obtain ⟨v, hv⟩ := g4H.out n (by omega)
        have hn23 : (n : Int) < 23 := by omega
        have hwn : IntKind.i64.wrap (n : Int) = (n : Int) := wi64 (by omega) (by omega)
        obtain ⟨r, w1, hrun, hw1⟩ := fop .quo (.inr rfl) 23 k v wc
        rcases hw1 with rfl | rfl
        all_goals
          go_wp2_with (fail)
          go_ret2
          exact ⟨⟨_, _, rfl⟩, by repeat (first | exact Below.refl _ _ | refine Below.drew ?_)⟩
      · have h22i : (-22 ≤ -(n : Int)) = False := eq_false (by omega)
        go_wp2_with (fail)
        go_ret2
        exact ⟨⟨_, _, rfl⟩, by repeat (first | exact Below.refl _ _ | refine Below.drew ?_)⟩
end Go.Proofs.YtpbombkmnfbcgaaGreatDoor
