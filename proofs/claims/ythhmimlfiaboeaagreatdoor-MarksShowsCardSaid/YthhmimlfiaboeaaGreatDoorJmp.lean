/- A scope whose gotos lead forward: at a goto the rest from its label is walked at once, up to so many jumps one behind the other. -/
import Derived.ScopeJumps
namespace Go.Proofs.YthhmimlfiaboeaaGreatDoor
open Go

/-- As Q; by a goto to label l: J l. -/
def jumps (J : Nat → Act → World → Prop) (Q : Exit → Act → World → Prop) : Exit → Act → World → Prop
  | .goto l, a, w => J l a w
  | e, a, w => Q e a w

theorem jumps_ret {J : Nat → Act → World → Prop} {Q : Exit → Act → World → Prop} {a : Act} {w : World} (h : Q .ret a w) : jumps J Q .ret a w := h
theorem jumps_normal {J : Nat → Act → World → Prop} {Q : Exit → Act → World → Prop} {a : Act} {w : World} (h : Q .normal a w) : jumps J Q .normal a w := h

section
variable {P : Program} {a : Act} {w : World} {Q : Exit → Act → World → Prop}

/-- The rest from a label runs to its end, by so many jumps at most. -/
def Rest (P : Program) (c : Code) (Q : Exit → Act → World → Prop) : Nat → Nat → Act → World → Prop
  | 0, _, _, _ => False
  | n + 1, l, a, w => ∃ rest, findLabel c l = some rest ∧ rest.wp P (jumps (Rest P c Q n) Q) a w

theorem wp_scope_inline {c : Code} (n : Nat) (first : c.wp P (jumps (Rest P c Q n) Q) a w) : (Code.scope c).wp P Q a w := by
  intro b k cs
  have hg : ∀ l rest, findLabel c l = some rest → gotoIn l (.inScope c :: k) = some (.code rest :: .inScope c :: k) := fun l rest h => by simp [gotoIn, h]
  have key : ∀ n l a w, Rest P c Q n l a w → ∃ rest, findLabel c l = some rest ∧ ∃ e a' w', Q e a' w' ∧ Arrives P (lone (b.at a (.code rest :: .inScope c :: k)) cs w) b k cs e a' w' := by
    intro n
    induction n with
    | zero => intro l a w h; exact h.elim
    | succ n ih =>
      intro l a w hJ
      obtain ⟨rest, hr, hw⟩ := hJ
      refine ⟨rest, hr, ?_⟩
      obtain ⟨e, a₁, w₁, hq, harr⟩ := hw b (.inScope c :: k) cs
      cases e with
      | normal => exact ⟨.normal, a₁, w₁, hq, Steps.trans harr (.one step_inScope)⟩
      | exit id => exact ⟨.exit id, a₁, w₁, hq, fun k' hk => harr k' (by simp [exitTo, hk])⟩
      | goto l' =>
        obtain ⟨rest', hr', e₂, a₂, w₂, hq₂, harr₂⟩ := ih _ a₁ w₁ hq
        exact ⟨e₂, a₂, w₂, hq₂, .of_steps (harr _ (hg _ _ hr')) harr₂⟩
      | ret => exact ⟨_, a₁, w₁, hq, harr⟩
      | panic ch => exact ⟨_, a₁, w₁, hq, harr⟩
      | outgrown => exact ⟨_, a₁, w₁, hq, harr⟩
  obtain ⟨e, a₁, w₁, hq, harr⟩ := first b (.inScope c :: k) cs
  cases e with
  | normal => exact ⟨.normal, a₁, w₁, hq, .head step_scope (Steps.trans harr (.one step_inScope))⟩
  | exit id => exact ⟨.exit id, a₁, w₁, hq, fun k' hk => .head step_scope (harr k' (by simp [exitTo, hk]))⟩
  | goto l' =>
    obtain ⟨rest', hr', e₂, a₂, w₂, hq₂, harr₂⟩ := key _ _ a₁ w₁ hq
    exact ⟨e₂, a₂, w₂, hq₂, .of_steps (.head step_scope (harr _ (hg _ _ hr'))) harr₂⟩
  | ret => exact ⟨_, a₁, w₁, hq, .of_steps (.one step_scope) harr⟩
  | panic ch => exact ⟨_, a₁, w₁, hq, .of_steps (.one step_scope) harr⟩
  | outgrown => exact ⟨_, a₁, w₁, hq, .of_steps (.one step_scope) harr⟩
end
end Go.Proofs.YthhmimlfiaboeaaGreatDoor
