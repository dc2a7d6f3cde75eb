/- The program's task and the document's, made of the law's argument. -/
import Derived.Test.YtcdcchkaohnkdaaGreatDoorTfw
import Derived.Test.YtcdcchkaohnkdaaGreatDoorTgt
import Derived.Test.YtcdcchkaohnkdaaGreatDoorTop
import Derived.Laws.ResultCell
namespace Go.Proofs.YtcdcchkaohnkdaaGreatDoor
open Go.RowKit Go.Ev

/-- Functions whose two results are cells. -/
theorem results_cell_cell {fn : Func} {p u : Tmp} {ta tb : TypeId} (h : fn.results = #[.cell p ta, .cell u tb]) (tmps : Array Value) (P : Program) (w : World) :
    (results fn tmps).run P w =
      ((asAddr (tmps.getD p undef)).run P w).andThen fun a w₁ => ((loadVar ta a).run P w₁).andThen fun v w₂ =>
        ((asAddr (tmps.getD u undef)).run P w₂).andThen fun b w₃ => ((loadVar tb b).run P w₃).andThen fun v' w₄ => .ok (.tuple #[v, v']) w₄ := by
  simp only [results, h]
  simp [Sem.run_bind, Result.andThen]

theorem res_row22 {P : Program} {fn : Func} {p u : Tmp} {ta tb : TypeId} (h : fn.results = #[.cell p ta, .cell u tb]) (tmps : Array Value) (w : World) (g g' : Nat) (t t' : TypeId) (cs cs' : Array Value) (fr fr' : Nat × Nat) (d d' : TypeDesc)
    (hp : tmps.getD p undef = .pointer (some ⟨g, 0, none⟩)) (hg : w.heap[g]? = some (.cells cs t fr))
    (hu : P.underlying ta = some d) (hd : (match d with | .struct _ | .array _ _ => true | _ => false) = true) (hi : (P.info? ta).map (·.size) = some cs.size)
    (hp' : tmps.getD u undef = .pointer (some ⟨g', 0, none⟩)) (hg' : w.heap[g']? = some (.cells cs' t' fr'))
    (hu' : P.underlying tb = some d') (hd' : (match d' with | .struct _ | .array _ _ => true | _ => false) = true) (hi' : (P.info? tb).map (·.size) = some cs'.size) :
    (results fn tmps).run P w = .ok (.tuple #[.agg cs, .agg cs']) w := by
  rw [results_cell_cell h, hp, hp']
  simp [asAddr, run_loadVar_row w g t ta cs fr d hg hu hd hi, run_loadVar_row w g' t' tb cs' fr' d' hg' hu' hd' hi']

/-- A task's value in rows of its own. -/
def Agg5 (N : Nat) (nm : Str) (b : Bool) (f : Nat) (yes no : List (List Str)) (w : World) (v : Value) : Prop :=
  ∃ v3 v6, v = .agg #[.string (bs nm), v3, v6, .bool b, .float .f64 f] ∧ ListO N w v3 yes ∧ ListO N w v6 no
def zero5 : Array Value := #[.string ⟨#[]⟩, .slice none 0 0, .slice none 0 0, .bool false, .float .f64 0]
/-- A variable's row: as it was made, or the task. -/
def Row5 (N : Nat) (nm : Str) (b : Bool) (f : Nat) (yes no : List (List Str)) (t : TypeId) (A : Nat) (done : Bool) (w : World) : Prop :=
  ∃ cs, w.heap[A]? = some (.cells cs t (0, 0)) ∧ (done = false → cs = zero5) ∧ (done = true → Agg5 N nm b f yes no w (.agg cs))

def clM (i : Nat) : Bool := i == 3 || i == 6 || i == 14 || i == 17
def puM (i : Nat) : Bool := !(clM i || i == 10 || i == 21 || i == 22 || i == 23)
def llM (yes no : List (List Str)) (i : Nat) : List (List Str) := if i = 3 ∨ i = 14 then yes else no

structure MadeS (ta tc : TypeId) (W : World) (A C : Nat) (nm : Str) (b : Bool) (f : Nat) (yes no : List (List Str)) (vals : Nat → Value) (d : Nat → Bool) (vs : Nat → Value) (w : World) : Prop where
  vals : ∀ i, puM i = true → d i = true → vs i = vals i
  bel : Below A W w
  sz : W.heap.size ≤ w.heap.size
  lt : A < C ∧ C < W.heap.size
  lc : ∀ i, clM i = true → d i = true → ListO (C + 1) w (vs i) (llM yes no i)
  b10 : d 10 = true → Agg5 (C + 1) nm b f yes no w (vs 10)
  b21 : d 21 = true → Agg5 (C + 1) nm b f yes no w (vs 21)
  ra : Row5 (C + 1) nm b f yes no ta A (d 22) w
  rc : Row5 (C + 1) nm b f yes no tc C (d 23) w

section
variable {N : Nat} {ta tc : TypeId} {W : World} {A C : Nat} {nm : Str} {b : Bool} {f : Nat} {yes no : List (List Str)} {vals : Nat → Value} {d : Nat → Bool} {vs : Nat → Value} {w w' : World}

theorem Agg5.move {v : Value} (h : Agg5 N nm b f yes no w v) (hl : ∀ v l, ListO N w v l → ListO N w' v l) : Agg5 N nm b f yes no w' v := by
  obtain ⟨v3, v6, e, h1, h2⟩ := h
  exact ⟨v3, v6, e, hl _ _ h1, hl _ _ h2⟩
theorem Row5.move {t : TypeId} {X : Nat} {done : Bool} (h : Row5 N nm b f yes no t X done w) (hl : ∀ v l, ListO N w v l → ListO N w' v l) (hr : w'.heap[X]? = w.heap[X]?) : Row5 N nm b f yes no t X done w' := by
  obtain ⟨cs, e, h1, h2⟩ := h
  exact ⟨cs, hr.trans e, h1, fun hd => (h2 hd).move hl⟩

/-- One step of any kind. -/
theorem MadeS.step (h : MadeS ta tc W A C nm b f yes no vals d vs w) (i : Nat) (u : Value) (hl : ∀ v l, ListO (C + 1) w v l → ListO (C + 1) w' v l) (hb : Below A W w') (hz : W.heap.size ≤ w'.heap.size)
    (hp : puM i = true → u = vals i) (hc : clM i = true → ListO (C + 1) w' u (llM yes no i)) (h10 : i = 10 → Agg5 (C + 1) nm b f yes no w' u) (h21 : i = 21 → Agg5 (C + 1) nm b f yes no w' u)
    (ha : Row5 (C + 1) nm b f yes no ta A (upd d i true 22) w') (hcc : Row5 (C + 1) nm b f yes no tc C (upd d i true 23) w') : MadeS ta tc W A C nm b f yes no vals (upd d i true) (upd vs i u) w' := by
  refine ⟨fun j hj hd => ?_, hb, hz, h.lt, fun j hj hd => ?_, fun hd => ?_, fun hd => ?_, ha, hcc⟩
  · by_cases e : j = i
    · subst e; rw [upd_same]; exact hp hj
    · rw [upd_other _ _ e] at hd ⊢; exact h.vals j hj hd
  · by_cases e : j = i
    · subst e; rw [upd_same]; exact hc hj
    · rw [upd_other _ _ e] at hd ⊢; exact hl _ _ (h.lc j hj hd)
  · by_cases e : 10 = i
    · subst e; rw [upd_same]; exact h10 rfl
    · rw [upd_other _ _ e] at hd ⊢; exact (h.b10 hd).move hl
  · by_cases e : 21 = i
    · subst e; rw [upd_same]; exact h21 rfl
    · rw [upd_other _ _ e] at hd ⊢; exact (h.b21 hd).move hl

theorem MadeS.pure (h : MadeS ta tc W A C nm b f yes no vals d vs w) {i : Nat} (hi : puM i = true ∧ clM i = false ∧ i ≠ 10 ∧ i ≠ 21 ∧ i ≠ 22 ∧ i ≠ 23) {u : Value} (hu : u = vals i) : MadeS ta tc W A C nm b f yes no vals (upd d i true) (upd vs i u) w := by
  obtain ⟨h1, h2, h3, h4, h5, h6⟩ := hi
  refine h.step i u (fun _ _ h => h) h.bel h.sz (fun _ => hu) (fun e => ?_) (fun e => absurd e h3) (fun e => absurd e h4) ?_ ?_
  · rw [h2] at e; cases e
  · rw [upd_other _ _ h5.symm]; exact h.ra
  · rw [upd_other _ _ h6.symm]; exact h.rc

theorem MadeS.ltA (h : MadeS ta tc W A C nm b f yes no vals d vs w) : A < w.heap.size ∧ C < w.heap.size := ⟨by have := h.lt; have := h.sz; omega, by have := h.lt; have := h.sz; omega⟩

theorem MadeS.call (h : MadeS ta tc W A C nm b f yes no vals d vs w) {i : Nat} (hi : puM i = false ∧ i ≠ 10 ∧ i ≠ 21 ∧ i ≠ 22 ∧ i ≠ 23) {u : Value} (hb : Below w.heap.size w w') (hl : ListO w.heap.size w' u (llM yes no i)) :
    MadeS ta tc W A C nm b f yes no vals (upd d i true) (upd vs i u) w' := by
  obtain ⟨h1, h3, h4, h5, h6⟩ := hi
  have hm : ∀ v l, ListO (C + 1) w v l → ListO (C + 1) w' v l := fun v l h => h.below hb
  have hz := h.ltA
  refine h.step i u hm (h.bel.trans (hb.mono (by omega))) (Nat.le_trans h.sz hb.size) (fun e => ?_) (fun _ => hl.base (by omega)) (fun e => absurd e h3) (fun e => absurd e h4) ?_ ?_
  · rw [h1] at e; cases e
  · rw [upd_other _ _ h5.symm]; exact h.ra.move hm (hb.block A hz.1)
  · rw [upd_other _ _ h6.symm]; exact h.rc.move hm (hb.block C hz.2)

theorem MadeS.build (h : MadeS ta tc W A C nm b f yes no vals d vs w) {i : Nat} (hi : puM i = false ∧ clM i = false ∧ i ≠ 22 ∧ i ≠ 23) {u : Value} (hu : Agg5 (C + 1) nm b f yes no w u) :
    MadeS ta tc W A C nm b f yes no vals (upd d i true) (upd vs i u) w := by
  obtain ⟨h1, h2, h5, h6⟩ := hi
  refine h.step i u (fun _ _ h => h) h.bel h.sz (fun e => ?_) (fun e => ?_) (fun _ => hu) (fun _ => hu) ?_ ?_
  · rw [h1] at e; cases e
  · rw [h2] at e; cases e
  · rw [upd_other _ _ h5.symm]; exact h.ra
  · rw [upd_other _ _ h6.symm]; exact h.rc

theorem onl5' {w : World} {R B : Nat} (hR : R = B) {a' b' c' d' e' : Value} :
    Onl B w (((((w.setCell ⟨R, 0, none⟩ a').setCell ⟨R, 1, none⟩ b').setCell ⟨R, 2, none⟩ c').setCell ⟨R, 3, none⟩ d').setCell ⟨R, 4, none⟩ e') := by subst hR; exact onl5

/-- The first variable is written. -/
theorem MadeS.storeA (h : MadeS ta tc W A C nm b f yes no vals d vs w) (hd : d 22 = false) {v3 v6 u : Value} (h3 : ListO (C + 1) w v3 yes) (h6 : ListO (C + 1) w v6 no) :
    MadeS ta tc W A C nm b f yes no vals (upd d 22 true) (upd vs 22 u) (((((w.setCell ⟨A, 0, none⟩ (.string (bs nm))).setCell ⟨A, 1, none⟩ v3).setCell ⟨A, 2, none⟩ v6).setCell ⟨A, 3, none⟩ (.bool b)).setCell ⟨A, 4, none⟩ (.float .f64 f)) := by
  have hlt := h.lt
  have hz := h.ltA
  have ho := onl5 (w := w) (R := A) (a' := .string (bs nm)) (b' := v3) (c' := v6) (d' := .bool b) (e' := .float .f64 f)
  have hm : ∀ v l, ListO (C + 1) w v l → ListO (C + 1) _ v l := fun v l h => h.onl ho (by omega)
  obtain ⟨cs, hA, h0, _⟩ := h.ra
  obtain rfl := h0 hd
  refine h.step 22 u hm (below5 h.bel (Nat.le_refl _)) (Nat.le_trans h.sz ho.size) (fun e => by cases e) (fun e => by cases e) (fun e => by cases e) (fun e => by cases e) ?_ ?_
  · rw [upd_same]
    exact ⟨_, row5 hA, (fun e => by cases e), fun _ => ⟨_, _, rfl, hm _ _ h3, hm _ _ h6⟩⟩
  · rw [upd_other _ _ (by decide)]
    exact h.rc.move hm (World.grownBy.block ho C hz.2 (fun e => by have := Option.some.inj e; omega))
theorem MadeS.storeC (h : MadeS ta tc W A C nm b f yes no vals d vs w) (hd : d 23 = false) {v3 v6 u : Value} (h3 : ListO (C + 1) w v3 yes) (h6 : ListO (C + 1) w v6 no) :
    MadeS ta tc W A C nm b f yes no vals (upd d 23 true) (upd vs 23 u) (((((w.setCell ⟨C, 0, none⟩ (.string (bs nm))).setCell ⟨C, 1, none⟩ v3).setCell ⟨C, 2, none⟩ v6).setCell ⟨C, 3, none⟩ (.bool b)).setCell ⟨C, 4, none⟩ (.float .f64 f)) := by
  have hlt := h.lt
  have hz := h.ltA
  have ho := onl5 (w := w) (R := C) (a' := .string (bs nm)) (b' := v3) (c' := v6) (d' := .bool b) (e' := .float .f64 f)
  have hm : ∀ v l, ListO (C + 1) w v l → ListO (C + 1) _ v l := fun v l h => h.onl ho (by omega)
  obtain ⟨cs, hA, h0, _⟩ := h.rc
  obtain rfl := h0 hd
  refine h.step 23 u hm (below5 h.bel (by omega)) (Nat.le_trans h.sz ho.size) (fun e => by cases e) (fun e => by cases e) (fun e => by cases e) (fun e => by cases e) ?_ ?_
  · rw [upd_other _ _ (by decide)]
    exact h.ra.move hm (World.grownBy.block ho A hz.1 (fun e => by have := Option.some.inj e; omega))
  · rw [upd_same]
    exact ⟨_, row5 hA, (fun e => by cases e), fun _ => ⟨_, _, rfl, hm _ _ h3, hm _ _ h6⟩⟩
end
end Go.Proofs.YtcdcchkaohnkdaaGreatDoor
