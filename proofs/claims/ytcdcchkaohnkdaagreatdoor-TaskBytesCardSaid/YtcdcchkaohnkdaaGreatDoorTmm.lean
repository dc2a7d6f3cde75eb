/- Slices of texts, and slices of such slices: what is known of the memory that they lie in. -/
import Derived.Test.YtcdcchkaohnkdaaGreatDoorTnm
import Derived.Test.YtcdcchkaohnkdaaGreatDoorSid
import Derived.ChangeSlices
namespace Go.Proofs.YtcdcchkaohnkdaaGreatDoor
open Go.ChangeShapes Go.WideShapes Go.ChangeAt Go.RowKit

abbrev Str := List UInt8

/-- A slice of texts, in a block below N. -/
def StrsAt (N : Nat) (w : World) (a : Option Addr) (l : List Str) : Prop :=
  ∀ j, j < l.length → ∃ b off, a = some ⟨b, off, none⟩ ∧ b < N ∧ w.cell? ⟨b, off + j, none⟩ = some (.string (bs (l.getD j [])))

theorem StrsAt.below {N : Nat} {w w' : World} {a : Option Addr} {l : List Str} (h : StrsAt N w a l) (hb : Below N w w') : StrsAt N w' a l := fun j hj => by
  obtain ⟨b, off, e, hlt, hcell⟩ := h j hj
  exact ⟨b, off, e, hlt, by rw [hb.cell (by exact hlt)]; exact hcell⟩
theorem StrsAt.mono {N N' : Nat} {w : World} {a : Option Addr} {l : List Str} (h : StrsAt N w a l) (hN : N ≤ N') : StrsAt N' w a l := fun j hj => by
  obtain ⟨b, off, e, hlt, hcell⟩ := h j hj
  exact ⟨b, off, e, Nat.lt_of_lt_of_le hlt hN, hcell⟩

/-- What a value is that a word lies behind. -/
def StrsV (N : Nat) (w : World) (v : Value) (l : List Str) : Prop := ∃ a cap, v = .slice a l.length cap ∧ StrsAt N w a l
theorem StrsV.below {N : Nat} {w w' : World} {v : Value} {l : List Str} (h : StrsV N w v l) (hb : Below N w w') : StrsV N w' v l := by
  obtain ⟨a, cap, e, h⟩ := h
  exact ⟨a, cap, e, h.below hb⟩
theorem StrsV.mono {N N' : Nat} {w : World} {v : Value} {l : List Str} (h : StrsV N w v l) (hN : N ≤ N') : StrsV N' w v l := by
  obtain ⟨a, cap, e, h⟩ := h
  exact ⟨a, cap, e, h.mono hN⟩

/-- A slice of words, all in blocks below N. -/
def ListsAt (N : Nat) (w : World) (a : Option Addr) (ll : List (List Str)) : Prop :=
  ∀ j, j < ll.length → ∃ b off v, a = some ⟨b, off, none⟩ ∧ b < N ∧ w.cell? ⟨b, off + j, none⟩ = some v ∧ StrsV N w v (ll.getD j [])

theorem ListsAt.below {N : Nat} {w w' : World} {a : Option Addr} {ll : List (List Str)} (h : ListsAt N w a ll) (hb : Below N w w') : ListsAt N w' a ll := fun j hj => by
  obtain ⟨b, off, v, e, hlt, hcell, hv⟩ := h j hj
  exact ⟨b, off, v, e, hlt, by rw [hb.cell (by exact hlt)]; exact hcell, hv.below hb⟩
theorem ListsAt.mono {N N' : Nat} {w : World} {a : Option Addr} {ll : List (List Str)} (h : ListsAt N w a ll) (hN : N ≤ N') : ListsAt N' w a ll := fun j hj => by
  obtain ⟨b, off, v, e, hlt, hcell, hv⟩ := h j hj
  exact ⟨b, off, v, e, Nat.lt_of_lt_of_le hlt hN, hcell, hv.mono hN⟩

def ListsV (N : Nat) (w : World) (v : Value) (ll : List (List Str)) : Prop := ∃ a cap, v = .slice a ll.length cap ∧ ListsAt N w a ll
theorem ListsV.below {N : Nat} {w w' : World} {v : Value} {ll : List (List Str)} (h : ListsV N w v ll) (hb : Below N w w') : ListsV N w' v ll := by
  obtain ⟨a, cap, e, h⟩ := h
  exact ⟨a, cap, e, h.below hb⟩
theorem ListsV.mono {N N' : Nat} {w : World} {v : Value} {ll : List (List Str)} (h : ListsV N w v ll) (hN : N ≤ N') : ListsV N' w v ll := by
  obtain ⟨a, cap, e, h⟩ := h
  exact ⟨a, cap, e, h.mono hN⟩

def strVals (l : List Str) : List Value := l.map fun s => .string (bs s)

theorem row_of_own {w' : World} {B : Nat} {e : TypeId} {v : Value} {xs : List Value} (hown : w'.ownsRow B e 1 v xs.length xs) :
    ∃ a cap, v = .slice a xs.length cap ∧ ∀ j u, xs[j]? = some u → ∃ b off, a = some ⟨b, off, none⟩ ∧ b < w'.heap.size ∧ w'.cell? ⟨b, off + j, none⟩ = some u := by
  rcases hown.2 with ⟨rfl, h0⟩ | ⟨g, cap, cs, rfl, _⟩
  · have : xs = [] := List.eq_nil_of_length_eq_zero h0
    subst this
    exact ⟨none, 0, rfl, fun j u hu => by simp at hu⟩
  · refine ⟨_, cap, rfl, fun j u hu => ⟨g, 0, rfl, (hown.lt g rfl).2, ?_⟩⟩
    have := hown.cells (g := g) rfl j u hu
    rw [← Go.WideShapes.add_plain]; exact this

theorem strs_of_own {w' : World} {B : Nat} {e : TypeId} {v : Value} {l : List Str} (hown : w'.ownsRow B e 1 v l.length (strVals l)) : StrsV w'.heap.size w' v l := by
  have hl : (strVals l).length = l.length := by simp [strVals]
  rw [← hl] at hown
  obtain ⟨a, cap, rfl, h⟩ := row_of_own hown
  refine ⟨a, cap, by rw [hl], fun j hj => h j _ ?_⟩
  simp [strVals, hj]

theorem lists_of_own {w' : World} {B : Nat} {e : TypeId} {v : Value} {ll : List (List Str)} {vs : List Value} (hlen : vs.length = ll.length) (hown : w'.ownsRow B e 1 v ll.length vs)
    (hv : ∀ j, j < ll.length → StrsV w'.heap.size w' (vs.getD j undef) (ll.getD j [])) : ListsV w'.heap.size w' v ll := by
  rw [← hlen] at hown
  obtain ⟨a, cap, rfl, h⟩ := row_of_own hown
  refine ⟨a, cap, by rw [hlen], fun j hj => ?_⟩
  obtain ⟨b, off, e1, e2, e3⟩ := h j (vs.getD j undef) (by simp [List.getD, hlen, hj])
  exact ⟨b, off, _, e1, e2, e3, hv j hj⟩

theorem strInfo : ∃ i z, RowInfo 47 9 1 16 i z := rowInfo_of (by kernel_rfl)
theorem lstInfo : ∃ i z, RowInfo 22 47 1 24 i z := rowInfo_of (by kernel_rfl)
/-! ## One block turns, the others of those that were there don't -/
def Onl (B : Nat) (w w' : World) : Prop := w.grownBy w' (some B)
theorem Onl.refl (B : Nat) (w : World) : Onl B w w := ⟨rfl, rfl, rfl, Nat.le_refl _, fun _ _ _ => rfl⟩
theorem Onl.size {B : Nat} {w w' : World} (h : Onl B w w') : w.heap.size ≤ w'.heap.size := World.grownBy.size h
theorem Onl.trans {B : Nat} {a b c : World} (h : Onl B a b) (k : Onl B b c) : Onl B a c :=
  ⟨(World.grownBy.os k).trans (World.grownBy.os h), (World.grownBy.tape k).trans (World.grownBy.tape h), (World.grownBy.output k).trans (World.grownBy.output h), Nat.le_trans h.size k.size,
    fun i hi hn => (World.grownBy.block k i (Nat.lt_of_lt_of_le hi h.size) hn).trans (World.grownBy.block h i hi hn)⟩
theorem Onl.of {w w' : World} (B : Nat) (h : Below w.heap.size w w') : Onl B w w' := ⟨h.os, h.tape, h.output, h.size, fun i hi _ => h.block i hi⟩
theorem Onl.setCell {B : Nat} {a w : World} (h : Onl B a w) {p : Addr} (hp : B = p.block) (u : Value) : Onl B a (w.setCell p u) :=
  h.trans ⟨rfl, rfl, rfl, Nat.le_of_eq (by simp), fun i _ hn => Below.heap_setCell w p u i (fun e => hn (by rw [hp, e]))⟩
theorem Onl.alloc {B : Nat} {a w : World} (h : Onl B a w) (o : Obj) : Onl B a (w.alloc o) := h.trans (World.grownBy_alloc w o (some B))
theorem Onl.drew {B : Nat} {a w : World} (h : Onl B a w) : Onl B a w.drew := h.trans ⟨rfl, rfl, rfl, Nat.le_refl _, fun _ _ _ => rfl⟩
theorem Onl.grown {B : Nat} {a w w' : World} {row : Option Nat} (h : Onl B a w) (hg : w.grownBy w' row) (hr : ∀ k, row = some k → a.heap.size ≤ k) : Onl B a w' :=
  ⟨hg.os.trans (World.grownBy.os h), hg.tape.trans (World.grownBy.tape h), hg.output.trans (World.grownBy.output h), Nat.le_trans h.size hg.size,
    fun i hi hn => (hg.block i (Nat.lt_of_lt_of_le hi h.size) (fun e => by have := hr i e.symm; omega)).trans (World.grownBy.block h i hi hn)⟩
theorem Onl.below {B N : Nat} {w w' : World} (h : Onl B w w') (hB : N ≤ B) (hN : N ≤ w.heap.size) : Below N w w' :=
  ⟨World.grownBy.os h, World.grownBy.tape h, World.grownBy.output h, h.size, fun i hi => World.grownBy.block h i (by omega) (fun e => by cases e; omega)⟩

/-! ## Rows -/
theorem own_base {w : World} {N N' : Nat} {e : TypeId} {size n : Nat} {v : Value} {xs : List Value} (h : w.ownsRow N e size v n xs) (hN : N' ≤ N) : w.ownsRow N' e size v n xs := by
  obtain ⟨h1, h2⟩ := h
  refine ⟨h1, ?_⟩
  rcases h2 with h2 | ⟨g, cap, cur, rfl, hg, hh, k⟩
  · exact .inl h2
  · exact .inr ⟨g, cap, cur, rfl, Nat.le_trans hN hg, hh, k⟩
theorem own_onl {w w' : World} {N B : Nat} {e : TypeId} {size n : Nat} {v : Value} {xs : List Value} (h : w.ownsRow N e size v n xs) (ho : Onl B w w') (hB : B < N) : w'.ownsRow N e size v n xs := by
  refine h.kept ho ?_
  cases hv : v.ownBlock with
  | none => exact .inl rfl
  | some g =>
    have := (h.lt g hv).1
    exact .inr (fun e => by cases e; omega)
/-- A row that another one's growth leaves as it is. -/
theorem own_grown {w w' : World} {N : Nat} {e : TypeId} {size n : Nat} {v : Value} {xs : List Value} {u : Value} (h : w.ownsRow N e size v n xs) (hg : w.grownBy w' u.ownBlock) (hne : ∀ g, v.ownBlock = some g → u.ownBlock ≠ some g) : w'.ownsRow N e size v n xs := by
  refine h.kept hg ?_
  cases hv : v.ownBlock with
  | none => exact .inl rfl
  | some g => exact .inr (fun e => hne g hv e.symm)
/-- Rows of other types lie apart. -/
theorem own_apart {w : World} {B B' : Nat} {e e' : TypeId} {z z' n n' : Nat} {v v' : Value} {xs xs' : List Value} (h : w.ownsRow B e z v n xs) (h' : w.ownsRow B' e' z' v' n' xs') (hne : e ≠ e') : ∀ g, v.ownBlock = some g → v'.ownBlock ≠ some g := by
  intro g hg hg'
  rcases h.2 with ⟨rfl, _⟩ | ⟨g1, _, _, rfl, _, hh, _⟩
  · cases hg
  rcases h'.2 with ⟨rfl, _⟩ | ⟨g2, _, _, rfl, _, hh', _⟩
  · cases hg'
  cases hg; cases hg'
  rw [hh] at hh'
  cases hh'
  exact hne rfl

/-- Words, each in a row of its own. -/
def WordsOwn (N : Nat) (w : World) (vs : List Value) (ll : List (List Str)) : Prop :=
  vs.length = ll.length ∧ ∀ j, j < ll.length → w.ownsRow N 9 1 (vs.getD j undef) (ll.getD j []).length (strVals (ll.getD j []))
theorem WordsOwn.nil (N : Nat) (w : World) : WordsOwn N w [] [] := ⟨rfl, fun j hj => by simp at hj⟩
theorem WordsOwn.onl {N B : Nat} {w w' : World} {vs : List Value} {ll : List (List Str)} (h : WordsOwn N w vs ll) (ho : Onl B w w') (hB : B < N) : WordsOwn N w' vs ll := ⟨h.1, fun j hj => own_onl (h.2 j hj) ho hB⟩
theorem WordsOwn.alloc {N : Nat} {w : World} {vs : List Value} {ll : List (List Str)} (h : WordsOwn N w vs ll) (o : Obj) : WordsOwn N (w.alloc o) vs ll := ⟨h.1, fun j hj => (h.2 j hj).alloc o⟩
theorem WordsOwn.grown {N N' : Nat} {w w' : World} {vs : List Value} {ll : List (List Str)} {e : TypeId} {z n : Nat} {u : Value} {xs : List Value} (h : WordsOwn N w vs ll) (hu : w.ownsRow N' e z u n xs) (hg : w.grownBy w' u.ownBlock) (hne : 9 ≠ e) : WordsOwn N w' vs ll :=
  ⟨h.1, fun j hj => own_grown (h.2 j hj) hg (own_apart (h.2 j hj) hu hne)⟩
theorem WordsOwn.snoc {N : Nat} {w : World} {vs : List Value} {ll : List (List Str)} {v : Value} {l : List Str} (h : WordsOwn N w vs ll) (hv : w.ownsRow N 9 1 v l.length (strVals l)) : WordsOwn N w (vs ++ [v]) (ll ++ [l]) := by
  refine ⟨by simp [h.1], fun j hj => ?_⟩
  rw [List.length_append] at hj
  by_cases hlt : j < ll.length
  · have h1 : (vs ++ [v]).getD j undef = vs.getD j undef := by simp [List.getD, List.getElem?_append_left (show j < vs.length by rw [h.1]; exact hlt)]
    have h2 : (ll ++ [l]).getD j [] = ll.getD j [] := by simp [List.getD, List.getElem?_append_left hlt]
    rw [h1, h2]
    exact h.2 j hlt
  · have hj' : j = ll.length := by simp at hj; omega
    have h1 : (vs ++ [v]).getD j undef = v := by rw [hj', ← h.1]; simp [List.getD]
    have h2 : (ll ++ [l]).getD j [] = l := by rw [hj']; simp [List.getD]
    rw [h1, h2]
    exact hv
theorem lists_own {w : World} {N N' : Nat} {v : Value} {vs : List Value} {ll : List (List Str)} (h : w.ownsRow N 47 1 v ll.length vs) (hw : WordsOwn N' w vs ll) : ListsV w.heap.size w v ll :=
  lists_of_own hw.1 h fun j hj => strs_of_own (hw.2 j hj)

/-- What is appended to a row: any slice, none at all too. -/
theorem run_append_any {w : World} {B : Nat} {t ty e : TypeId} {size bytes : Nat} {i : TypeInfo} {z : Value} (hI : RowInfo t e size bytes i z) (hsz : 0 < size) {v : Value} {n : Nat} {xs : List Value} (hown : w.ownsRow B e size v n xs)
    (oa : Option Addr) (m c : Nat) (news : List Value) (hl : news.length = m * size) (hnews : ∀ j u, news[j]? = some u → ∃ a, oa = some a ∧ w.cell? (a.add j) = some u) (h1 : ∀ u ∈ news, u.oneCell' = true)
    (h63 : n + m ≤ maxLen) (hbytes : (n + m) * bytes ≤ 140737488355328) (hbase : B ≤ w.heap.size) :
    ∃ v' w', (Builtin.append_ #[t, t] ty #[v, .slice oa m c]).run Tryz.prog w = .ok v' w' ∧ w'.ownsRow B e size v' (n + m) (xs ++ news) ∧ w.grownBy w' v.ownBlock := by
  cases oa with
  | some a =>
    obtain ⟨v', w', h2, h3, h4, _⟩ := run_append_own (P := Tryz.prog) w B t ty e i z size bytes hI.sl hI.info hI.zero hI.hsz hI.hby hI.hcl hsz v n xs hown a m c news hl (fun j u hu => by
      obtain ⟨a', ha, hc⟩ := hnews j u hu
      cases ha; exact hc) h1 h63 hbytes hbase
    exact ⟨v', w', h2, h3, h4⟩
  | none =>
    have hn : news = [] := by
      cases news with
      | nil => rfl
      | cons u l => obtain ⟨a, ha, _⟩ := hnews 0 u rfl; cases ha
    subst hn
    have hm : m = 0 := by
      rcases Nat.eq_zero_or_pos m with h | h
      · exact h
      · have := Nat.mul_pos h hsz; simp at hl; omega
    subst hm
    refine ⟨v, w, ?_, by simpa using hown, ⟨rfl, rfl, rfl, Nat.le_refl _, fun _ _ _ => rfl⟩⟩
    rcases hown.2 with ⟨rfl, rfl⟩ | ⟨g, cap, cur, rfl, _, _, hnc, _⟩
    · simp [Builtin.append_, run_underlying hI.sl, sizeOf, typeInfo, hI.info, Builtin.lenOf, Builtin.firstCells, loadCells, loadCellsFrom]
    · simp [Builtin.append_, run_underlying hI.sl, sizeOf, typeInfo, hI.info, Builtin.lenOf, Builtin.firstCells, loadCells, loadCellsFrom, storeCells, hnc]

/-! ## How long what is written is -/
theorem take_flat {α : Type} (f : α → Str) (l : List α) (k : Nat) (d : α) (hk : k < l.length) : (l.take (k + 1)).flatMap f = (l.take k).flatMap f ++ f (l.getD k d) := by
  rw [List.take_add_one, List.getElem?_eq_getElem hk, List.flatMap_append, List.getD, List.getElem?_eq_getElem hk]
  simp

theorem putN_len8 (n : Nat) (h : n ≤ 9007199254740992) : (putN n).length ≤ 8 := by
  have := digs_len7 h
  unfold putN; simp; omega

theorem flat_le (l : List Str) (m : Nat) (h : ∀ s ∈ l, s.length ≤ 70) (k : Nat) : ((l.take k).flatMap textP).length ≤ 78 * l.length := by
  induction l generalizing k with
  | nil => simp
  | cons s l ih =>
    cases k with
    | zero => simp
    | succ k =>
      have h1 := ih (fun s hs => h s (by simp [hs])) k
      have h2 := h s (by simp)
      have h3 := putN_len8 s.length (by omega)
      rw [List.take_succ_cons, List.flatMap_cons, List.length_append]
      have : (textP s).length = (putN s.length).length + s.length := by unfold textP; rw [List.length_append]
      simp only [List.length_cons]
      omega

theorem texts_le (ts : List Str) (h : ts.length ≤ 70) (hs : ∀ s ∈ ts, s.length ≤ 70) : (textsP ts).length ≤ 5468 := by
  have h1 := flat_le ts 0 hs ts.length
  have h2 := putN_len8 ts.length (by omega)
  rw [List.take_length] at h1
  unfold textsP
  rw [List.length_append]
  omega

theorem lists_le (ll : List (List Str)) (h : ∀ ts ∈ ll, ts.length ≤ 70 ∧ ∀ s ∈ ts, s.length ≤ 70) (k : Nat) : ((ll.take k).flatMap textsP).length ≤ 5468 * ll.length := by
  induction ll generalizing k with
  | nil => simp
  | cons ts ll ih =>
    cases k with
    | zero => simp
    | succ k =>
      have h1 := ih (fun s hs => h s (by simp [hs])) k
      have h2 := h ts (by simp)
      have h3 := texts_le ts h2.1 h2.2
      rw [List.take_succ_cons, List.flatMap_cons, List.length_append]
      simp only [List.length_cons]
      omega

theorem listP_le (ll : List (List Str)) (h1 : ll.length ≤ 70) (h : ∀ ts ∈ ll, ts.length ≤ 70 ∧ ∀ s ∈ ts, s.length ≤ 70) : (listP ll).length ≤ 390000 := by
  have h2 := lists_le ll h ll.length
  have h3 := putN_len8 ll.length (by omega)
  have h4 : 5468 * ll.length ≤ 5468 * 70 := Nat.mul_le_mul_left _ h1
  rw [List.take_length] at h2
  unfold listP
  rw [List.length_append]
  omega
theorem textP_le (s : Str) (h : s.length ≤ 70) : (textP s).length ≤ 78 := by
  have := putN_len8 s.length (by omega)
  unfold textP; rw [List.length_append]; omega
end Go.Proofs.YtcdcchkaohnkdaaGreatDoor
