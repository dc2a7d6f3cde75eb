/- Writing a task's bytes: what lies in the writer behind each of its functions. -/
import Derived.Test.YtcdcchkaohnkdaaGreatDoorTmm
import Derived.Test.YtcdcchkaohnkdaaGreatDoorEvD
import Derived.Lib.AppendStr
import Derived.Laws.Rows
import Derived.Laws.BytesArg
namespace Go.Proofs.YtcdcchkaohnkdaaGreatDoor
open Go.RowKit Go.Ev

def pglob : Glob := fun _ _ => none

theorem outInfo : (Tryz.prog.info? 5).map (fun i => (i.zero, i.size, i.bytes)) = some (some (.int .u8 0), 1, 1) := by kernel_rfl

/-! ## Small numbers -/
noncomputable def pnB (n : Nat) : Bool :=
  match evalCall Tryz.prog 100 pglob ext 100000 60 (.fn 61) [.int .i64 (.ofNat n)] ⟨.nil, .nil, 100⟩ with
  | some (u, _) => valEq u (.string ⟨⟨if Nat.beq n 0 then [0] else [1, UInt8.ofNat n]⟩⟩)
  | none => false
set_option maxRecDepth 100000 in
theorem pn_all : ((List.range 71).all pnB) = true := by kernel_rfl

theorem putN_small {n : Nat} (h : n ≤ 70) : putN n = if Nat.beq n 0 then [0] else [1, UInt8.ofNat n] := by
  unfold putN
  by_cases h0 : n = 0
  · subst h0; rw [digs_zero]; rfl
  · have hb : Nat.beq n 0 = false := by
      cases hb : Nat.beq n 0 with
      | true => exact absurd (Nat.eq_of_beq_eq_true hb) h0
      | false => rfl
    rw [digs_pos h0, show n / 256 = 0 by omega, digs_zero, show n % 256 = n by omega, hb]
    rfl

theorem oput_small {n : Nat} (h : n ≤ 70) (w : World) : Calls Tryz.prog 61 #[.int .i64 (n : Nat)] w fun e w' => e = .returned (.string (bs (putN n))) ∧ Below w.heap.size w w' := by
  have hb := List.all_eq_true.1 pn_all n (List.mem_range.2 (by omega))
  unfold pnB at hb
  split at hb
  · rename_i u st' hr
    rw [valEq_spec hb] at hr
    rw [putN_small h]
    exact run_closed (args := [.int .i64 (.ofNat n)]) mixed ext_ok hr rfl rfl (fun b o u h => by cases h)
  · cases hb

theorem putN_ne (n : Nat) : putN n ≠ [] := by unfold putN; simp

/-! ## The writer -/
theorem out_slice {w : World} {base : Nat} {e : TypeId} {size n : Nat} {v : Value} {xs : List Value} (h : w.ownsRow base e size v n xs) : ∃ a c, v = .slice a n c := by
  rcases h.2 with ⟨rfl, rfl⟩ | ⟨g, cap, cur, rfl, _⟩
  · exact ⟨_, _, rfl⟩
  · exact ⟨_, _, rfl⟩

theorem out_same {w w' : World} {base : Nat} {e : TypeId} {size n : Nat} {v : Value} {xs : List Value} (h : w.ownsRow base e size v n xs) (hk : ∀ g, v.ownBlock = some g → w'.heap[g]? = w.heap[g]?) : w'.ownsRow base e size v n xs := by
  obtain ⟨h1, h2⟩ := h
  refine ⟨h1, ?_⟩
  rcases h2 with h2 | ⟨g, cap, cur, rfl, hg', hh, k⟩
  · exact .inl h2
  · exact .inr ⟨g, cap, cur, rfl, hg', (hk g rfl).trans hh, k⟩

def byteVals (l : Str) : List Value := l.map fun b => .int .u8 b.toNat

/-- What is written so far. -/
def OutAt (N B : Nat) (l : Str) (w : World) : Prop :=
  N ≤ B ∧ ∃ v : Value, w.heap[B]? = some (.cells #[v, .bool false] 68 (0, 0)) ∧ w.ownsRow N 5 1 v l.length (byteVals l)

theorem OutAt.size {N B : Nat} {l : Str} {w : World} (h : OutAt N B l w) : N ≤ w.heap.size := by
  obtain ⟨h1, v, h2, _⟩ := h
  have := (Array.getElem?_eq_some_iff.1 h2).1
  omega

theorem OutAt.below {N B : Nat} {l : Str} {w w' : World} (h : OutAt N B l w) (hb : Below w.heap.size w w') : OutAt N B l w' := by
  obtain ⟨h1, v, h2, h3⟩ := h
  exact ⟨h1, v, (hb.block B (Array.getElem?_eq_some_iff.1 h2).1).trans h2, out_same h3 fun g hg => hb.block g (h3.lt g hg).2⟩

theorem out_sep {w : World} {B N n t e : Nat} {v : Value} {xs : List Value} {cs : Array Value} (h : w.ownsRow N e 1 v n xs) (hB : w.heap[B]? = some (.cells cs t (0, 0))) (hne : e ≠ t) : ∀ g, v.ownBlock = some g → B ≠ g := by
  intro g hg he
  subst he
  rcases h.2 with ⟨rfl, _⟩ | ⟨g1, _, _, rfl, _, hh, _⟩
  · cases hg
  · cases hg
    rw [hB] at hh
    cases hh
    exact hne rfl

set_option maxRecDepth 100000 in
set_option maxHeartbeats 1600000 in
theorem put_any (N B : Nat) (l s : Str) (w : World) (hO : OutAt N B l w) (hL : l.length + s.length ≤ 1000000) :
    Calls Tryz.prog 60 #[.pointer (some ⟨B, 0, none⟩), .string (bs s), .bool true] w fun e w' => e = .returned (.tuple #[]) ∧ OutAt N B (l ++ s) w' ∧ Below N w w' := by
  obtain ⟨hNB, v, hB, hown⟩ := hO
  obtain ⟨i0, hi, hz0, hz1, hz2⟩ := info_parts outInfo
  obtain ⟨av, cv, rfl⟩ := out_slice hown
  have hsep := out_sep hown hB (by decide)
  have hNw : N ≤ w.heap.size := by have := (Array.getElem?_eq_some_iff.1 hB).1; omega
  have hbsz : (bs s).size = s.length := bs_size s
  have c0 : w.cell? ⟨B, 0, none⟩ = some (.slice av l.length cv) := by rw [cell_of_row _ _ _ _ _ _ hB]; rfl
  have c1 : w.cell? ⟨B, 1, none⟩ = some (.bool false) := by rw [cell_of_row _ _ _ _ _ _ hB]; rfl
  go_enter Tryz.func60, Tryz.ntmps60
  go_wp2_with (first
    | (at_builtin; refine Lib.wpList_append_own_string _ rfl _ _ 66 9 rfl N 5 i0 Tryz.underlying66 Tryz.underlying9 hi hz0 hz1 hz2 _ _ _ rfl hown (bs s) rfl ?c3 ?c4 ?c5 ?_)
    | go_in)
  case c3 => unfold maxLen; rw [hbsz]; omega
  case c4 => rw [hbsz]; omega
  case c5 => exact hNw
  intro v' w1 hown' hgrow _
  have hB1 : w1.heap[B]? = some (.cells #[.slice av l.length cv, .bool false] 68 (0, 0)) := (hgrow.block B (Array.getElem?_eq_some_iff.1 hB).1 (fun e => hsep B e.symm rfl)).trans hB
  obtain ⟨av', cv', rfl⟩ := out_slice hown'
  have d0 : w1.cell? ⟨B, 0, none⟩ = some (.slice av l.length cv) := by rw [cell_of_row _ _ _ _ _ _ hB1]; rfl
  have d1 : w1.cell? ⟨B, 1, none⟩ = some (.bool false) := by rw [cell_of_row _ _ _ _ _ _ hB1]; rfl
  have f0 := frozen_of_row w1 B 0 _ _ hB1
  have f1 := frozen_of_row w1 B 1 _ _ hB1
  have hB2 : Below N w w1 := (Below.refl N w).grown hgrow hNw (fun j hj => (hown.lt j hj).1)
  have hsep' := out_sep hown' hB1 (by decide)
  clear hgrow hown hB hsep c0 c1
  go_wp2
  go_end0
  refine ⟨rfl, ⟨hNB, .slice av' (l.length + (bs s).size) cv', ?_, ?_⟩, (hB2.setCell hNB _).setCell hNB _⟩
  · rw [heap_setCell_same _ B 1 _ _ _ (heap_setCell_same w1 B 0 _ _ _ hB1)]
    rfl
  · have e : byteVals (l ++ s) = byteVals l ++ Lib.strCells (bs s) := by unfold byteVals; rw [List.map_append]; rfl
    rw [e, List.length_append]
    refine out_same hown' fun g hg => ?_
    have hne := hsep' g hg
    rw [Below.heap_setCell _ _ _ _ (fun h => hne h.symm), Below.heap_setCell _ _ _ _ (fun h => hne h.symm)]

theorem bs_ne {l : Str} (h : l ≠ []) : (bs l).toList.isEmpty = false := by
  rw [ByteArray.toList_eq]
  cases l with
  | nil => exact absurd rfl h
  | cons => rfl

set_option maxRecDepth 100000 in
set_option maxHeartbeats 1600000 in
theorem oint_any (N B n : Nat) (l : Str) (hn : n ≤ 70) (w : World) (hO : OutAt N B l w) (hL : l.length ≤ 900000) :
    Calls Tryz.prog 62 #[.pointer (some ⟨B, 0, none⟩), .int .i64 (n : Nat)] w fun e w' => e = .returned (.tuple #[]) ∧ OutAt N B (l ++ putN n) w' ∧ Below N w w' := by
  have hpH : Hid (∀ w, Calls Tryz.prog 61 #[.int .i64 (n : Nat)] w fun e w' => e = .returned (.string (bs (putN n))) ∧ Below w.heap.size w w') := fun w => oput_small hn w
  have hOH : Hid (OutAt N B l w) := hO
  have hNw := hO.size
  have hne := bs_ne (putN_ne n)
  have hlen : Hid (l.length + (putN n).length ≤ 1000000) := by
    unfold Hid putN
    have := digs_len7 (n := n) (by omega)
    simp; omega
  clear hO hn hL
  generalize putN n = s at *
  go_enter Tryz.func62, Tryz.ntmps62
  go_wp2_with (fail)
  go_at_call 61
  refine (hpH.out _).mono ?_
  rintro e w1 ⟨rfl, hB1⟩
  go_wp2_with (fail)
  go_at_call 60
  refine (put_any N B l s w1 (hOH.out.below hB1) hlen.out).mono ?_
  rintro e w2 ⟨rfl, h2, hB2⟩
  go_wp2_with (fail)
  go_end0
  exact ⟨rfl, h2, (hB1.mono hNw).trans hB2⟩

set_option maxRecDepth 100000 in
set_option maxHeartbeats 1600000 in
theorem ocount_any (N B n : Nat) (l : Str) (hn : n ≤ 70) (w : World) (hO : OutAt N B l w) (hL : l.length ≤ 900000) :
    Calls Tryz.prog 109 #[.pointer (some ⟨B, 0, none⟩), .int .i64 (n : Nat)] w fun e w' => e = .returned (.tuple #[]) ∧ OutAt N B (l ++ putN n) w' ∧ Below N w w' := by
  have hpH : Hid (∀ w, Calls Tryz.prog 61 #[.int .i64 (n : Nat)] w fun e w' => e = .returned (.string (bs (putN n))) ∧ Below w.heap.size w w') := fun w => oput_small hn w
  have hOH : Hid (OutAt N B l w) := hO
  have hNw := hO.size
  have hle : (n : Int) ≤ 65536 := by omega
  have hlen : Hid (l.length + (putN n).length ≤ 1000000) := by
    unfold Hid putN
    have := digs_len7 (n := n) (by omega)
    simp; omega
  clear hO hn hL
  generalize putN n = s at *
  go_enter Tryz.func109, Tryz.ntmps109
  go_wp2_with (fail)
  go_at_call 61
  refine (hpH.out _).mono ?_
  rintro e w1 ⟨rfl, hB1⟩
  go_wp2_with (fail)
  go_at_call 60
  refine (put_any N B l s w1 (hOH.out.below hB1) hlen.out).mono ?_
  rintro e w2 ⟨rfl, h2, hB2⟩
  go_wp2_with (fail)
  go_end0
  exact ⟨rfl, h2, (hB1.mono hNw).trans hB2⟩

set_option maxRecDepth 100000 in
set_option maxHeartbeats 1600000 in
theorem otext_any (N B : Nat) (l t : Str) (ht : t.length ≤ 70) (w : World) (hO : OutAt N B l w) (hL : l.length ≤ 900000) :
    Calls Tryz.prog 17 #[.pointer (some ⟨B, 0, none⟩), .string (bs t)] w fun e w' => e = .returned (.tuple #[]) ∧ OutAt N B (l ++ textP t) w' ∧ Below N w w' := by
  have hpH : Hid (∀ w, Calls Tryz.prog 61 #[.int .i64 (t.length : Nat)] w fun e w' => e = .returned (.string (bs (putN t.length))) ∧ Below w.heap.size w w') := fun w => oput_small ht w
  have hOH : Hid (OutAt N B l w) := hO
  have hNw := hO.size
  have hsz : (bs t).size = t.length := bs_size t
  have hle : ¬ (65536 < (t.length : Int)) := by omega
  have hlen : Hid (l.length + (putN t.length).length + t.length ≤ 1000000) := by
    unfold Hid putN
    have := digs_len7 (n := t.length) (by omega)
    simp; omega
  have hres : Hid (l ++ textP t = (l ++ putN t.length) ++ t) := by unfold Hid textP; rw [List.append_assoc]
  clear hO ht hL
  generalize putN t.length = s at *
  go_enter Tryz.func17, Tryz.ntmps17
  go_wp2_with (fail)
  go_at_call 61
  refine (hpH.out _).mono ?_
  rintro e w1 ⟨rfl, hB1⟩
  go_wp2_with (fail)
  go_at_call 60
  refine (put_any N B l s w1 (hOH.out.below hB1) (by have := hlen.out; omega)).mono ?_
  rintro e w2 ⟨rfl, h2, hB2⟩
  go_wp2_with (fail)
  go_at_call 60
  refine (put_any N B (l ++ s) t w2 h2 (by have := hlen.out; rw [List.length_append]; omega)).mono ?_
  rintro e w3 ⟨rfl, h3, hB3⟩
  go_wp2_with (fail)
  go_end0
  exact ⟨rfl, by rw [hres.out]; exact h3, ((hB1.mono hNw).trans hB2).trans hB3⟩

set_option maxRecDepth 100000 in
set_option maxHeartbeats 3200000 in
theorem otexts_any (N B : Nat) (l : Str) (ts : List Str) (a : Option Addr) (cap : Nat) (hts : ts.length ≤ 70) (hs : ∀ s ∈ ts, s.length ≤ 70) (w : World) (hO : OutAt N B l w) (hT : StrsAt N w a ts) (hL : l.length ≤ 800000) :
    Calls Tryz.prog 63 #[.pointer (some ⟨B, 0, none⟩), .slice a ts.length cap] w fun e w' => e = .returned (.tuple #[]) ∧ OutAt N B (l ++ textsP ts) w' ∧ Below N w w' := by
  have hcount : Hid (Calls Tryz.prog 109 #[.pointer (some ⟨B, 0, none⟩), .int .i64 (ts.length : Nat)] w fun e w' => e = .returned (.tuple #[]) ∧ OutAt N B (l ++ putN ts.length) w' ∧ Below N w w') := ocount_any N B ts.length l hts w hO (by omega)
  have hTH : Hid (StrsAt N w a ts) := hT
  have hsH : Hid (∀ s ∈ ts, s.length ≤ 70) := hs
  have hbnd : Hid (∀ k, (l ++ putN ts.length ++ (ts.take k).flatMap textP).length ≤ 900000) := fun k => by
    have h1 := flat_le ts 0 hs k
    have h2 := putN_len8 ts.length (by omega)
    simp only [List.length_append]
    omega
  clear hO hT hs hL
  go_enter Tryz.func63, Tryz.ntmps63
  go_wp2_with (fail)
  go_at_call 109
  refine hcount.out.mono ?_
  rintro e w1 ⟨rfl, h1, hB1⟩
  go_wp2_with (fail)
  go_loopw [5, 12] (fun _ i wr => ∃ k : Nat, k ≤ ts.length ∧ i = .int .i64 k ∧ OutAt N B (l ++ putN ts.length ++ (ts.take k).flatMap textP) wr ∧ Below N w wr) (fun _ i _ => ts.length - (intOf i).toNat)
  case atStart => exact ⟨0, Nat.zero_le _, rfl, by simpa using h1, hB1⟩
  case round =>
    obtain ⟨k, hk, rfl, hOk, hBk⟩ := hrel
    by_cases hlt : k < ts.length
    · obtain ⟨b, off, rfl, hbN, hcell⟩ := hTH.out k hlt
      have hc : wr.cell? ⟨b, off + k, none⟩ = some (.string (bs (ts.getD k []))) := (hBk.cell (by exact hbN)).trans hcell
      have htk : Hid ((ts.take (k + 1)).flatMap textP = (ts.take k).flatMap textP ++ textP (ts.getD k [])) := take_flat textP ts k [] hlt
      have ht70 : Hid ((ts.getD k []).length ≤ 70) := hsH.out _ (by rw [List.getD, List.getElem?_eq_getElem hlt]; exact List.getElem_mem _)
      have hOH : Hid (OutAt N B (l ++ putN ts.length ++ (ts.take k).flatMap textP) wr) := hOk
      clear hcell hOk
      generalize ts.getD k [] = t at *
      go_wp2_with (fail)
      go_at_call 17
      refine (otext_any N B _ t ht70.out wr hOH.out (hbnd.out k)).mono ?_
      rintro e w2 ⟨rfl, h2, hB2⟩
      rw [List.append_assoc, ← htk.out] at h2
      go_wp2_with (fail)
      go_roundw
      case rel => exact ⟨k + 1, by omega, by simp, by rw [List.append_assoc] at h2 ⊢; exact h2, hBk.trans hB2⟩
      case measure => simp [intOf]; omega
    · have hk' : k = ts.length := by omega
      subst hk'
      have hres : Hid (l ++ textsP ts = l ++ putN ts.length ++ (ts.take ts.length).flatMap textP) := by unfold Hid textsP; rw [List.take_length, List.append_assoc]
      go_wp2_with (fail)
      go_end0
      exact ⟨rfl, by rw [hres.out]; exact hOk, hBk⟩

set_option maxRecDepth 100000 in
set_option maxHeartbeats 3200000 in
theorem owords_any (N B : Nat) (l : Str) (ll : List (List Str)) (a : Option Addr) (cap : Nat) (hll : ll.length ≤ 70) (hs : ∀ ts ∈ ll, ts.length ≤ 70 ∧ ∀ s ∈ ts, s.length ≤ 70) (w : World) (hO : OutAt N B l w) (hT : ListsAt N w a ll) (hL : l.length ≤ 400000) :
    Calls Tryz.prog 18 #[.pointer (some ⟨B, 0, none⟩), .slice a ll.length cap] w fun e w' => e = .returned (.tuple #[]) ∧ OutAt N B (l ++ listP ll) w' ∧ Below N w w' := by
  have hcount : Hid (Calls Tryz.prog 62 #[.pointer (some ⟨B, 0, none⟩), .int .i64 (ll.length : Nat)] w fun e w' => e = .returned (.tuple #[]) ∧ OutAt N B (l ++ putN ll.length) w' ∧ Below N w w') := oint_any N B ll.length l hll w hO (by omega)
  have hTH : Hid (ListsAt N w a ll) := hT
  have hsH : Hid (∀ ts ∈ ll, ts.length ≤ 70 ∧ ∀ s ∈ ts, s.length ≤ 70) := hs
  have hbnd : Hid (∀ k, (l ++ putN ll.length ++ (ll.take k).flatMap textsP).length ≤ 800000) := fun k => by
    have h1 := lists_le ll hs k
    have h2 := putN_len8 ll.length (by omega)
    have h3 : 5468 * ll.length ≤ 5468 * 70 := Nat.mul_le_mul_left _ hll
    simp only [List.length_append]
    omega
  clear hO hT hs hL
  go_enter Tryz.func18, Tryz.ntmps18
  go_wp2_with (fail)
  go_at_call 62
  refine hcount.out.mono ?_
  rintro e w1 ⟨rfl, h1, hB1⟩
  go_wp2_with (fail)
  go_loopw [5, 12] (fun _ i wr => ∃ k : Nat, k ≤ ll.length ∧ i = .int .i64 k ∧ OutAt N B (l ++ putN ll.length ++ (ll.take k).flatMap textsP) wr ∧ Below N w wr) (fun _ i _ => ll.length - (intOf i).toNat)
  case atStart => exact ⟨0, Nat.zero_le _, rfl, by simpa using h1, hB1⟩
  case round =>
    obtain ⟨k, hk, rfl, hOk, hBk⟩ := hrel
    by_cases hlt : k < ll.length
    · obtain ⟨b, off, v, rfl, hbN, hcell, a', cap', rfl, hS⟩ := hTH.out k hlt
      have hc : wr.cell? ⟨b, off + k, none⟩ = some (.slice a' (ll.getD k []).length cap') := (hBk.cell (by exact hbN)).trans hcell
      have hSH : Hid (StrsAt N wr a' (ll.getD k [])) := hS.below hBk
      have htk : Hid ((ll.take (k + 1)).flatMap textsP = (ll.take k).flatMap textsP ++ textsP (ll.getD k [])) := take_flat textsP ll k [] hlt
      have ht70 : Hid ((ll.getD k []).length ≤ 70 ∧ ∀ s ∈ ll.getD k [], s.length ≤ 70) := hsH.out _ (by rw [List.getD, List.getElem?_eq_getElem hlt]; exact List.getElem_mem _)
      have hOH : Hid (OutAt N B (l ++ putN ll.length ++ (ll.take k).flatMap textsP) wr) := hOk
      clear hcell hOk hS
      generalize ll.getD k [] = t at *
      go_wp2_with (fail)
      go_at_call 63
      refine (otexts_any N B _ t a' cap' ht70.out.1 ht70.out.2 wr hOH.out hSH.out (hbnd.out k)).mono ?_
      rintro e w2 ⟨rfl, h2, hB2⟩
      rw [List.append_assoc, ← htk.out] at h2
      go_wp2_with (fail)
      go_roundw
      case rel => exact ⟨k + 1, by omega, by simp, by rw [List.append_assoc] at h2 ⊢; exact h2, hBk.trans hB2⟩
      case measure => simp [intOf]; omega
    · have hk' : k = ll.length := by omega
      subst hk'
      have hres : Hid (l ++ listP ll = l ++ putN ll.length ++ (ll.take ll.length).flatMap textsP) := by unfold Hid listP; rw [List.take_length, List.append_assoc]
      go_wp2_with (fail)
      go_end0
      exact ⟨rfl, by rw [hres.out]; exact hOk, hBk⟩

set_option maxRecDepth 100000 in
set_option maxHeartbeats 1600000 in
theorem obool_any (N B : Nat) (l : Str) (b : Bool) (w : World) (hO : OutAt N B l w) (hL : l.length ≤ 900000) :
    Calls Tryz.prog 19 #[.pointer (some ⟨B, 0, none⟩), .bool b] w fun e w' => e = .returned (.tuple #[]) ∧ OutAt N B (l ++ [if b = true then 1 else 0]) w' ∧ Below N w w' := by
  have h1 : Hid (Calls Tryz.prog 60 #[.pointer (some ⟨B, 0, none⟩), .string ⟨#[1]⟩, .bool true] w fun e w' => e = .returned (.tuple #[]) ∧ OutAt N B (l ++ [1]) w' ∧ Below N w w') := put_any N B l [1] w hO (by simp; omega)
  have h0 : Hid (Calls Tryz.prog 60 #[.pointer (some ⟨B, 0, none⟩), .string ⟨#[0]⟩, .bool true] w fun e w' => e = .returned (.tuple #[]) ∧ OutAt N B (l ++ [0]) w' ∧ Below N w w') := put_any N B l [0] w hO (by simp; omega)
  clear hO hL
  cases b
  · go_enter Tryz.func19, Tryz.ntmps19
    go_wp2_with (fail)
    go_at_call 60
    refine h0.out.mono ?_
    rintro e w2 ⟨rfl, h2, hB2⟩
    go_wp2_with (fail)
    go_end0
    exact ⟨rfl, h2, hB2⟩
  · go_enter Tryz.func19, Tryz.ntmps19
    go_wp2_with (fail)
    go_at_call 60
    refine h1.out.mono ?_
    rintro e w2 ⟨rfl, h2, hB2⟩
    go_wp2_with (fail)
    go_end0
    exact ⟨rfl, h2, hB2⟩

set_option maxRecDepth 100000 in
set_option maxHeartbeats 1600000 in
theorem obytes_any (N B : Nat) (l : Str) (w : World) (hO : OutAt N B l w) : Calls Tryz.prog 21 #[.pointer (some ⟨B, 0, none⟩)] w fun e w' => e = .returned (.tuple #[.string (bs l), .bool true]) ∧ w' = w := by
  obtain ⟨hNB, v, hB, hown⟩ := hO
  obtain ⟨av, cv, rfl⟩ := out_slice hown
  have c0 : w.cell? ⟨B, 0, none⟩ = some (.slice av l.length cv) := by rw [cell_of_row _ _ _ _ _ _ hB]; rfl
  have c1 : w.cell? ⟨B, 1, none⟩ = some (.bool false) := by rw [cell_of_row _ _ _ _ _ _ hB]; rfl
  have hconv : (convert 66 9 (.slice av l.length cv)).run Tryz.prog w = .ok (.string (bs l)) w := by
    rcases hown.2 with ⟨he, h0⟩ | ⟨g, cap, cur, he, _, hg, hn, hm, hs, ht⟩
    · simp only [Value.slice.injEq] at he
      obtain ⟨rfl, _, rfl⟩ := he
      have : l = [] := List.eq_nil_of_length_eq_zero h0
      subst this
      simp only [convert, Sem.run_bind, run_underlying Tryz.underlying66, run_underlying Tryz.underlying9, run_underlying Tryz.underlying5, Result.andThen_ok]
      rfl
    · cases he
      have := run_convert_bytes_arg (P := Tryz.prog) w 66 5 Tryz.underlying66 Tryz.underlying5 g 0 l.length cv (l.map fun b => (b.toNat : Int)) (by simp) (fun i hi => by
        have hc := hown.cells (g := g) rfl i (.int .u8 (l.getD i 0).toNat) (by unfold byteVals; rw [List.getElem?_map, List.getD, List.getElem?_eq_getElem (by omega)]; rfl)
        rw [Addr.add_lit] at hc
        rw [hc, List.getD, List.getD, List.getElem?_map, List.getElem?_eq_getElem (by omega)]
        rfl) 9 Tryz.underlying9
      rw [this]
      congr 2
      unfold strOfNums bs
      rw [List.map_map]
      congr 2
      conv => rhs; rw [← List.map_id l]
      apply List.map_congr_left
      intro b _
      simp
  clear hown hB
  go_enter Tryz.func21, Tryz.ntmps21
  go_wp2
  go_ret2
  exact ⟨rfl, rfl⟩
end Go.Proofs.YtcdcchkaohnkdaaGreatDoor
