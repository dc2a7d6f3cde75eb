/- Which names and words are good: the program's answers, and the reference's. -/
import Derived.Test.YtcdcchkaohnkdaaGreatDoorTmm
import Derived.Test.YtcdcchkaohnkdaaGreatDoorEvD
import Derived.Lib.AppendZerosOnto
import Derived.Lib.AppendZeros
import Derived.Laws.AppendOwn
import Derived.LoopTactic
namespace Go.Proofs.YtcdcchkaohnkdaaGreatDoor
open Go.RowKit Go.Ev

/-! ## Bytes of names -/
def gglob : Glob := fun _ _ => none
noncomputable def byB (f : Nat) (p : Nat → Bool) (n : Nat) : Bool :=
  match evalCall Tryz.prog 100 gglob ext 100000 60 (.fn f) [.int .u8 (.ofNat n)] ⟨.nil, .nil, 100⟩ with
  | some (u, _) => valEq u (.bool (p n))
  | none => false
def letterN (n : Nat) : Bool := (decide (97 ≤ n) && decide (n ≤ 122)) || (decide (65 ≤ n) && decide (n ≤ 90))
def restN (n : Nat) : Bool := letterN n || (decide (48 ≤ n) && decide (n ≤ 57)) || decide (n = 95) || decide (n = 45)
set_option maxRecDepth 100000 in
theorem by1 : ((List.range 256).all (byB 71 letterN)) = true := by kernel_rfl
set_option maxRecDepth 100000 in
theorem by2 : ((List.range 256).all (byB 72 restN)) = true := by kernel_rfl
set_option maxRecDepth 100000 in
theorem by3 : ((List.range 256).all (byB 79 letterN)) = true := by kernel_rfl
set_option maxRecDepth 100000 in
theorem by4 : ((List.range 256).all (byB 80 restN)) = true := by kernel_rfl

theorem by_any {f : Nat} {p : Nat → Bool} (h : ((List.range 256).all (byB f p)) = true) (c : UInt8) (w : World) :
    Calls Tryz.prog f #[.int .u8 (c.toNat : Nat)] w fun e w' => e = .returned (.bool (p c.toNat)) ∧ Below w.heap.size w w' := by
  have hb := List.all_eq_true.1 h c.toNat (List.mem_range.2 c.toNat_lt)
  unfold byB at hb
  split at hb
  · rename_i u st' hr
    rw [valEq_spec hb] at hr
    exact run_closed (args := [.int .u8 (.ofNat c.toNat)]) mixed ext_ok hr rfl rfl (fun b o u h => by cases h)
  · cases hb

theorem all_snoc (p : UInt8 → Bool) (s : Str) (k : Nat) (h : k < s.length) : (s.take (k + 1)).all p = ((s.take k).all p && p (s.getD k 0)) := by
  rw [List.take_add_one, List.getElem?_eq_getElem h, List.all_append, List.getD, List.getElem?_eq_getElem h]
  simp
theorem all_false {p : UInt8 → Bool} {s : Str} {k : Nat} (h : k < s.length) (hp : p (s.getD k 0) = false) : s.all p = false := by
  rw [List.all_eq_false]
  refine ⟨s.getD k 0, ?_, by rw [hp]; simp⟩
  rw [List.getD, List.getElem?_eq_getElem h]
  exact List.getElem_mem _

set_option maxRecDepth 100000 in
set_option maxHeartbeats 3200000 in
theorem lgood_any (s : Str) (hsb : s.length ≤ 1000000) (w : World) : Calls Tryz.prog 32 #[.string (bs s)] w fun e w' => e = .returned (.bool (goodName s)) ∧ Below w.heap.size w w' := by
  have hsz : (bs s).size = s.length := bs_size s
  cases hs : s with
  | nil =>
    have hne : (bs []).toList.isEmpty = true := by rw [bs_empty]; rfl
    go_enter Tryz.func32, Tryz.ntmps32
    go_wp2
    go_ret
    exact ⟨rfl, Below.refl _ _⟩
  | cons c t =>
    rw [← hs]
    have hne : (bs s).toList.isEmpty = false := by rw [ByteArray.toList_eq, hs]; rfl
    have hg0 : Hid (goodName s = (letterC c && (decide (s.length ≤ 32) && s.all restC))) := by unfold Hid; rw [hs]; rfl
    have h0 : 0 < (bs s).size := by rw [hsz, hs]; simp
    have hz0 : (bs s)[0] = c := by rw [bs_get, hs]; rfl
    clear hs
    by_cases hlen : 32 < s.length
    · have hres : Hid (goodName s = false) := by unfold Hid; rw [hg0.out, decide_eq_false (by omega)]; simp
      have hli : (32 : Int) < (s.length : Int) := by omega
      clear hg0 hlen hz0
      go_enter Tryz.func32, Tryz.ntmps32
      go_wp2_with (fail)
      go_ret
      exact ⟨by first | (rw [hres.out]; done) | (rw [hres.out]; rfl), Below.refl _ _⟩
    · have hli : ¬ ((32 : Int) < (s.length : Int)) := by omega
      have hl1 : Hid (∀ w, Calls Tryz.prog 71 #[.int .u8 (c.toNat : Nat)] w fun e w' => e = .returned (.bool (letterC c)) ∧ Below w.heap.size w w') := fun w => by_any by1 c w
      cases hlc : letterC c with
      | false =>
        have hres : Hid (goodName s = false) := by unfold Hid; rw [hg0.out, hlc]; rfl
        rw [hlc] at hl1
        clear hg0 hlen hlc
        go_enter Tryz.func32, Tryz.ntmps32
        go_wp2_with (go_at_call 71; refine (hl1.out _).mono ?_; rintro e w1 ⟨rfl, hB1⟩)
        go_ret
        exact ⟨by first | (rw [hres.out]; done) | (rw [hres.out]; rfl), hB1⟩
      | true =>
        have hres : Hid (goodName s = s.all restC) := by unfold Hid; rw [hg0.out, hlc, decide_eq_true (by omega)]; simp
        rw [hlc] at hl1
        clear hg0 hlen hlc
        go_enter Tryz.func32, Tryz.ntmps32
        go_wp2_with (go_at_call 71; refine (hl1.out _).mono ?_; rintro e w1 ⟨rfl, hB1⟩)
        clear hz0
        go_loopw [3, 19] (fun _ i wr => ∃ k : Nat, k ≤ s.length ∧ i = .int .i64 k ∧ (s.take k).all restC = true ∧ Below w.heap.size w wr) (fun _ i _ => s.length - (intOf i).toNat)
        case atStart => exact ⟨0, Nat.zero_le _, rfl, rfl, hB1⟩
        case round =>
          obtain ⟨k, hk, rfl, hall, hB⟩ := hrel
          by_cases hlt : k < s.length
          · have hks : k < (bs s).size := by omega
            have hgk : (bs s)[k] = s.getD k 0 := bs_get s k hks
            have hsn : Hid ((s.take (k + 1)).all restC = restC (s.getD k 0)) := by unfold Hid; rw [all_snoc _ _ _ hlt, hall]; rfl
            have hf : Hid (restC (s.getD k 0) = false → s.all restC = false) := fun h => all_false hlt h
            have hl2 : Hid (∀ w, Calls Tryz.prog 72 #[.int .u8 ((s.getD k 0).toNat : Nat)] w fun e w' => e = .returned (.bool (restC (s.getD k 0))) ∧ Below w.heap.size w w') := fun w => by_any by2 (s.getD k 0) w
            have hkb : k < 1000000 := by omega
            clear hall
            generalize s.getD k 0 = c2 at *
            cases hrc : restC c2 with
            | false =>
              rw [hrc] at hl2
              go_wp2_with (go_at_call 72; refine (hl2.out _).mono ?_; rintro e w2 ⟨rfl, hB2⟩)
              go_ret
              exact ⟨by first | (rw [hres.out, hf.out hrc]; done) | (rw [hres.out, hf.out hrc]; rfl), hB.trans (hB2.mono hB.size)⟩
            | true =>
              rw [hrc] at hl2
              go_wp2_with (go_at_call 72; refine (hl2.out _).mono ?_; rintro e w2 ⟨rfl, hB2⟩)
              go_roundw
              case rel => exact ⟨k + 1, by omega, by go_num, by rw [hsn.out, hrc], hB.trans (hB2.mono hB.size)⟩
              case measure => simp [intOf]; omega
          · have hkl : k = s.length := by omega
            rw [hkl, List.take_length] at hall
            have hres' : Hid (goodName s = true) := by unfold Hid; rw [hres.out, hall]
            clear hall
            go_wp2_with (fail)
            go_ret
            exact ⟨by first | (rw [hres'.out]; done) | (rw [hres'.out]; rfl), hB⟩

set_option maxRecDepth 100000 in
set_option maxHeartbeats 3200000 in
theorem rlgood_any (s : Str) (hsb : s.length ≤ 1000000) (w : World) : Calls Tryz.prog 40 #[.string (bs s)] w fun e w' => e = .returned (.bool (goodName s)) ∧ Below w.heap.size w w' := by
  have hsz : (bs s).size = s.length := bs_size s
  have hg0 : Hid (goodName s = (decide (0 < s.length) && (letterC (s.getD 0 0) && (decide (s.length ≤ 32) && s.all restC)))) := by
    unfold Hid
    cases s with
    | nil => rfl
    | cons c t => simp [goodName]
  go_enter Tryz.func40, Tryz.ntmps40
  go_wp2_with (fail)
  go_loopw [3] (fun i wr => ∃ k : Nat, k ≤ s.length ∧ i = .int .i64 k ∧ (s.take k).all restC = true ∧ (0 < k → letterC (s.getD 0 0) = true) ∧ Below w.heap.size w wr) (fun i _ => s.length - (intOf i).toNat)
  case atStart => exact ⟨0, Nat.zero_le _, rfl, rfl, fun h => by omega, Below.refl _ _⟩
  case round =>
    obtain ⟨k, hk, rfl, hall, hlet, hB⟩ := hrel
    by_cases hlt : k < s.length
    · have hks : k < (bs s).size := by omega
      have hgk : (bs s)[k] = s.getD k 0 := bs_get s k hks
      have hsn : Hid ((s.take (k + 1)).all restC = restC (s.getD k 0)) := by unfold Hid; rw [all_snoc _ _ _ hlt, hall]; rfl
      have hf : Hid (restC (s.getD k 0) = false → s.all restC = false) := fun h => all_false hlt h
      have hl2 : Hid (∀ w, Calls Tryz.prog 80 #[.int .u8 ((s.getD k 0).toNat : Nat)] w fun e w' => e = .returned (.bool (restC (s.getD k 0))) ∧ Below w.heap.size w w') := fun w => by_any by4 (s.getD k 0) w
      have hlH : Hid (0 < k → letterC (s.getD 0 0) = true) := hlet
      have hkb : k < 1000000 := by omega
      clear hall hlet
      by_cases hk0 : k = 0
      · subst hk0
        have hl1 : Hid (∀ w, Calls Tryz.prog 79 #[.int .u8 ((s.getD 0 0).toNat : Nat)] w fun e w' => e = .returned (.bool (letterC (s.getD 0 0))) ∧ Below w.heap.size w w') := fun w => by_any by3 (s.getD 0 0) w
        have hpre : Hid ((letterC (s.getD 0 0) && restC (s.getD 0 0)) = false → goodName s = false) := fun h => by
          rw [hg0.out]
          cases h1 : letterC (s.getD 0 0) with
          | false => simp
          | true => rw [h1] at h; rw [hf.out (by simpa using h)]; simp
        generalize hc : s.getD 0 0 = c at *
        cases hlc : letterC c with
        | false =>
          rw [hlc] at hl1 hpre
          go_wp2_with (go_at_call 79; refine (hl1.out _).mono ?_; rintro e w2 ⟨rfl, hB2⟩)
          go_ret
          exact ⟨by first | (rw [hpre.out rfl]; done) | (rw [hpre.out rfl]; rfl), hB.trans (hB2.mono hB.size)⟩
        | true =>
          rw [hlc] at hl1 hpre
          cases hrc : restC c with
          | false =>
            rw [hrc] at hl2 hpre
            go_wp2_with (first
              | (go_at_call 79; refine (hl1.out _).mono ?_; rintro e w2 ⟨rfl, hB2⟩)
              | (go_at_call 80; refine (hl2.out _).mono ?_; rintro e w3 ⟨rfl, hB3⟩))
            go_ret
            exact ⟨by first | (rw [hpre.out rfl]; done) | (rw [hpre.out rfl]; rfl), hB.trans ((hB2.trans (hB3.mono hB2.size)).mono hB.size)⟩
          | true =>
            rw [hrc] at hl2
            go_wp2_with (first
              | (go_at_call 79; refine (hl1.out _).mono ?_; rintro e w2 ⟨rfl, hB2⟩)
              | (go_at_call 80; refine (hl2.out _).mono ?_; rintro e w3 ⟨rfl, hB3⟩))
            go_roundw
            case rel => exact ⟨0 + 1, by omega, by go_num, by rw [hsn.out, hrc], fun _ => by first | exact hlc | trivial, hB.trans ((hB2.trans (hB3.mono hB2.size)).mono hB.size)⟩
            case measure => simp [intOf]; omega
      · have hkn : ¬ ((k : Int) = 0) := by omega
        have hkb : ((k : Int) == 0) = false := by simp; omega
        generalize hc : s.getD k 0 = c at *
        cases hrc : restC c with
        | false =>
          have hfin : Hid (goodName s = false) := by unfold Hid; rw [hg0.out, hf.out hrc]; simp
          rw [hrc] at hl2
          go_wp2_with (go_at_call 80; refine (hl2.out _).mono ?_; rintro e w3 ⟨rfl, hB3⟩)
          go_ret
          exact ⟨by first | (rw [hfin.out]; done) | (rw [hfin.out]; rfl), hB.trans (hB3.mono hB.size)⟩
        | true =>
          rw [hrc] at hl2
          go_wp2_with (go_at_call 80; refine (hl2.out _).mono ?_; rintro e w3 ⟨rfl, hB3⟩)
          go_roundw
          case rel => exact ⟨k + 1, by omega, by go_num, by rw [hsn.out, hrc], fun _ => hlH.out (by omega), hB.trans (hB3.mono hB.size)⟩
          case measure => simp [intOf]; omega
    · have hkl : k = s.length := by omega
      subst hkl
      rw [List.take_length] at hall
      have hres : Hid (goodName s = (decide (0 < s.length) && decide (s.length < 33))) := by
        unfold Hid
        rw [hg0.out, hall]
        by_cases h0 : 0 < s.length
        · rw [hlet h0, decide_eq_true h0]
          simp only [Bool.true_and, Bool.and_true, decide_eq_decide]
          omega
        · rw [decide_eq_false h0]; rfl
      clear hall hlet hg0
      by_cases h0 : 0 < s.length
      · have h0i : (0 : Int) < (s.length : Int) := by omega
        have hr2 : Hid (goodName s = decide ((s.length : Int) < 33)) := by
          unfold Hid
          rw [hres.out, decide_eq_true h0, Bool.true_and, decide_eq_decide]; omega
        clear hres
        go_wp2_with (fail)
        go_ret
        exact ⟨by first | (rw [hr2.out]; done) | (rw [hr2.out]; rfl), hB⟩
      · have h0i : ¬ ((0 : Int) < (s.length : Int)) := by omega
        rw [decide_eq_false h0] at hres
        go_wp2_with (fail)
        go_ret
        exact ⟨by first | (rw [hres.out]; done) | (rw [hres.out]; rfl), hB⟩

/-! ## Words -/
def badS (s : Str) : Bool := s.isEmpty || decide (16 < s.length)
theorem goodWord_eq (l : List Str) : goodWord l = (decide (l.length ≤ 64) && !l.any badS) := by
  unfold goodWord
  congr 1
  rw [List.all_eq_not_any_not]
  congr 2
  funext s
  unfold badS
  rw [Bool.not_and, Bool.not_not]
  congr 1
  rw [← decide_not]
  simp

set_option maxRecDepth 100000 in
set_option maxHeartbeats 1600000 in
theorem bad_any (s : Str) (w : World) : Calls Tryz.prog 76 #[.string (bs s)] w fun e w' => e = .returned (.bool (badS s)) ∧ w' = w := by
  have hsz : (bs s).size = s.length := bs_size s
  have hem := bs_empty s
  cases he : s.isEmpty with
  | true =>
    rw [he] at hem
    have hres : Hid (badS s = true) := by unfold Hid badS; rw [he]; rfl
    go_enter Tryz.func76, Tryz.ntmps76
    go_wp2_with (fail)
    go_ret
    exact ⟨by first | (rw [hres.out]; done) | (rw [hres.out]; rfl), rfl⟩
  | false =>
    rw [he] at hem
    have hres : Hid (badS s = decide ((16 : Int) < (s.length : Int))) := by unfold Hid badS; rw [he, Bool.false_or, decide_eq_decide]; omega
    go_enter Tryz.func76, Tryz.ntmps76
    go_wp2_with (fail)
    go_ret
    exact ⟨by first | (rw [hres.out]; done) | (rw [hres.out]; rfl), rfl⟩

theorem any_true {α : Type} {p : α → Bool} {l : List α} {k : Nat} {d : α} (h : k < l.length) (hp : p (l.getD k d) = true) : l.any p = true := by
  rw [List.any_eq_true]
  refine ⟨l.getD k d, ?_, hp⟩
  rw [List.getD, List.getElem?_eq_getElem h]
  exact List.getElem_mem _
theorem any_snoc {α : Type} (p : α → Bool) (l : List α) (k : Nat) (d : α) (h : k < l.length) : (l.take (k + 1)).any p = ((l.take k).any p || p (l.getD k d)) := by
  rw [List.take_add_one, List.getElem?_eq_getElem h, List.any_append, List.getD, List.getElem?_eq_getElem h]
  simp

set_option maxRecDepth 100000 in
set_option maxHeartbeats 3200000 in
theorem index_str (a : Option Addr) (l : List Str) (cap : Nat) (hlb : l.length ≤ 1000000) (w : World) (hS : StrsAt w.heap.size w a l) :
    Calls Tryz.prog 113 #[.slice a l.length cap, .func (.func 76) #[] #[]] w fun e w' => (∃ n : Int, e = .returned (.int .i64 n) ∧ decide (0 ≤ n) = l.any badS) ∧ Below w.heap.size w w' := by
  have hSH : Hid (StrsAt w.heap.size w a l) := hS
  clear hS
  go_enter Tryz.func113, Tryz.ntmps113
  go_wp2_with (fail)
  go_loopw [5, 8] (fun _ i wr => ∃ k : Nat, k ≤ l.length ∧ i = .int .i64 k ∧ (l.take k).any badS = false ∧ Below w.heap.size w wr) (fun _ i _ => l.length - (intOf i).toNat)
  case atStart => exact ⟨0, Nat.zero_le _, rfl, rfl, Below.refl _ _⟩
  case round =>
    obtain ⟨k, hk, rfl, hany, hB⟩ := hrel
    by_cases hlt : k < l.length
    · obtain ⟨b, off, rfl, hbN, hcell⟩ := hSH.out k hlt
      have hc : wr.cell? ⟨b, off + k, none⟩ = some (.string (bs (l.getD k []))) := (hB.cell (by exact hbN)).trans hcell
      have hsn : Hid ((l.take (k + 1)).any badS = badS (l.getD k [])) := by unfold Hid; rw [any_snoc _ _ _ [] hlt, hany]; rfl
      have hf : Hid (badS (l.getD k []) = true → l.any badS = true) := fun h => any_true hlt h
      have hcall : Hid (∀ w, Calls Tryz.prog 76 #[.string (bs (l.getD k []))] w fun e w' => e = .returned (.bool (badS (l.getD k []))) ∧ w' = w) := fun w => bad_any _ w
      clear hcell hany
      have hkb : k < 1000000 := by omega
      generalize l.getD k [] = s at *
      cases hbd : badS s with
      | true =>
        rw [hbd] at hcall
        go_wp2_with (go_at_call 76; refine (hcall.out _).mono ?_; rintro e w2 ⟨rfl, rfl⟩)
        go_ret
        exact ⟨⟨_, rfl, by rw [hf.out hbd]; simp⟩, hB⟩
      | false =>
        rw [hbd] at hcall
        go_wp2_with (go_at_call 76; refine (hcall.out _).mono ?_; rintro e w2 ⟨rfl, rfl⟩)
        go_roundw
        case rel => exact ⟨k + 1, by omega, by go_num, by rw [hsn.out, hbd], hB⟩
        case measure => simp [intOf]; omega
    · have hkl : k = l.length := by omega
      rw [hkl, List.take_length] at hany
      have hany' : Hid (l.any badS = false) := hany
      clear hany
      go_wp2_with (fail)
      go_ret
      exact ⟨⟨_, rfl, by first | (rw [hany'.out]; done) | (rw [hany'.out]; rfl)⟩, hB⟩

set_option maxRecDepth 100000 in
set_option maxHeartbeats 1600000 in
theorem contains_str (a : Option Addr) (l : List Str) (cap : Nat) (hlb : l.length ≤ 1000000) (w : World) (hS : StrsAt w.heap.size w a l) :
    Calls Tryz.prog 75 #[.slice a l.length cap, .func (.func 76) #[] #[]] w fun e w' => e = .returned (.bool (l.any badS)) ∧ Below w.heap.size w w' := by
  have hix := index_str a l cap hlb w hS
  have hixH : Hid (Calls Tryz.prog 113 #[.slice a l.length cap, .func (.func 76) #[] #[]] w fun e w' => (∃ n : Int, e = .returned (.int .i64 n) ∧ decide (0 ≤ n) = l.any badS) ∧ Below w.heap.size w w') := hix
  clear hix hS
  go_enter Tryz.func75, Tryz.ntmps75
  go_wp2_with (fail)
  go_at_call 113
  refine hixH.out.mono ?_
  rintro e w1 ⟨⟨n, rfl, hn⟩, hB⟩
  have hnH : Hid (decide (0 ≤ n) = l.any badS) := hn
  clear hn
  go_wp2_with (fail)
  go_ret
  exact ⟨by first | (rw [← hnH.out]; done) | (rw [← hnH.out]; rfl), hB⟩

set_option maxRecDepth 100000 in
set_option maxHeartbeats 1600000 in
theorem word_any (a : Option Addr) (l : List Str) (cap : Nat) (hlb : l.length ≤ 1000000) (w : World) (hS : StrsAt w.heap.size w a l) :
    Calls Tryz.prog 36 #[.slice a l.length cap] w fun e w' => e = .returned (.bool (goodWord l)) ∧ Below w.heap.size w w' := by
  have hc : Hid (Calls Tryz.prog 75 #[.slice a l.length cap, .func (.func 76) #[] #[]] w fun e w' => e = .returned (.bool (l.any badS)) ∧ Below w.heap.size w w') := contains_str a l cap hlb w hS
  clear hS
  by_cases h : l.length ≤ 64
  · have hres : Hid (goodWord l = !l.any badS) := by unfold Hid; rw [goodWord_eq, decide_eq_true h, Bool.true_and]
    have hi : (l.length : Int) ≤ 64 := by omega
    generalize l.any badS = bb at *
    go_enter Tryz.func36, Tryz.ntmps36
    go_wp2_with (fail)
    go_at_call 75
    refine hc.out.mono ?_
    rintro e w1 ⟨rfl, hB⟩
    go_wp2_with (fail)
    go_ret
    exact ⟨by first | (rw [hres.out]; done) | (rw [hres.out]; rfl), hB⟩
  · have hres : Hid (goodWord l = false) := by unfold Hid; rw [goodWord_eq, decide_eq_false h, Bool.false_and]
    have hi : ¬ ((l.length : Int) ≤ 64) := by omega
    clear hc
    go_enter Tryz.func36, Tryz.ntmps36
    go_wp2_with (fail)
    go_ret
    exact ⟨by first | (rw [hres.out]; done) | (rw [hres.out]; rfl), Below.refl _ _⟩

set_option maxRecDepth 100000 in
set_option maxHeartbeats 1600000 in
theorem notword_any (a : Option Addr) (l : List Str) (cap : Nat) (hlb : l.length ≤ 1000000) (w : World) (hS : StrsAt w.heap.size w a l) :
    Calls Tryz.prog 35 #[.slice a l.length cap] w fun e w' => e = .returned (.bool (!goodWord l)) ∧ Below w.heap.size w w' := by
  have hc : Hid (Calls Tryz.prog 36 #[.slice a l.length cap] w fun e w' => e = .returned (.bool (goodWord l)) ∧ Below w.heap.size w w') := word_any a l cap hlb w hS
  clear hS
  generalize goodWord l = bb at *
  go_enter Tryz.func35, Tryz.ntmps35
  go_wp2_with (fail)
  go_at_call 36
  refine hc.out.mono ?_
  rintro e w1 ⟨rfl, hB⟩
  go_wp2_with (fail)
  go_ret
  exact ⟨rfl, hB⟩

theorem listsAt_below {w w' : World} {a : Option Addr} {ll : List (List Str)} (h : ListsAt w.heap.size w a ll) (hb : Below w.heap.size w w') : ListsAt w'.heap.size w' a ll := (h.below hb).mono hb.size

set_option maxRecDepth 100000 in
set_option maxHeartbeats 3200000 in
theorem index_lst (a : Option Addr) (ll : List (List Str)) (cap : Nat) (hlb : ll.length ≤ 1000000) (hlb2 : ∀ l ∈ ll, l.length ≤ 1000000) (w : World) (hL : ListsAt w.heap.size w a ll) :
    Calls Tryz.prog 73 #[.slice a ll.length cap, .func (.func 35) #[] #[]] w fun e w' => (∃ n : Int, e = .returned (.int .i64 n) ∧ decide (0 ≤ n) = ll.any fun l => !goodWord l) ∧ Below w.heap.size w w' := by
  have hLH : Hid (ListsAt w.heap.size w a ll) := hL
  have hlbH : Hid (∀ l ∈ ll, l.length ≤ 1000000) := hlb2
  clear hL hlb2
  go_enter Tryz.func73, Tryz.ntmps73
  go_wp2_with (fail)
  go_loopw [5, 8] (fun _ i wr => ∃ k : Nat, k ≤ ll.length ∧ i = .int .i64 k ∧ ((ll.take k).any fun l => !goodWord l) = false ∧ Below w.heap.size w wr) (fun _ i _ => ll.length - (intOf i).toNat)
  case atStart => exact ⟨0, Nat.zero_le _, rfl, rfl, Below.refl _ _⟩
  case round =>
    obtain ⟨k, hk, rfl, hany, hB⟩ := hrel
    by_cases hlt : k < ll.length
    · obtain ⟨b, off, v, rfl, hbN, hcell, a', cap', rfl, hS⟩ := hLH.out k hlt
      have hc : wr.cell? ⟨b, off + k, none⟩ = some (.slice a' (ll.getD k []).length cap') := (hB.cell (by exact hbN)).trans hcell
      have hsn : Hid (((ll.take (k + 1)).any fun l => !goodWord l) = !goodWord (ll.getD k [])) := by unfold Hid; rw [any_snoc _ _ _ [] hlt, hany]; rfl
      have hf : Hid ((!goodWord (ll.getD k [])) = true → (ll.any fun l => !goodWord l) = true) := fun h => any_true (d := []) hlt h
      have hcall : Hid (Calls Tryz.prog 35 #[.slice a' (ll.getD k []).length cap'] wr fun e w' => e = .returned (.bool (!goodWord (ll.getD k []))) ∧ Below wr.heap.size wr w') := notword_any _ _ _ (hlbH.out _ (by rw [List.getD, List.getElem?_eq_getElem hlt]; exact List.getElem_mem _)) wr ((hS.below hB).mono hB.size)
      clear hcell hany hS
      have hkb : k < 1000000 := by omega
      generalize ll.getD k [] = l at *
      cases hbd : goodWord l with
      | false =>
        rw [hbd] at hcall
        go_wp2_with (fail)
        go_at_call 35
        refine hcall.out.mono ?_
        rintro e w2 ⟨rfl, hB2⟩
        go_wp2_with (fail)
        go_ret
        exact ⟨⟨_, rfl, by rw [hf.out (by rw [hbd]; rfl)]; simp⟩, hB.trans (hB2.mono hB.size)⟩
      | true =>
        rw [hbd] at hcall
        go_wp2_with (fail)
        go_at_call 35
        refine hcall.out.mono ?_
        rintro e w2 ⟨rfl, hB2⟩
        go_wp2_with (fail)
        go_roundw
        case rel => exact ⟨k + 1, by omega, by go_num, by rw [hsn.out, hbd]; rfl, hB.trans (hB2.mono hB.size)⟩
        case measure => simp [intOf]; omega
    · have hkl : k = ll.length := by omega
      rw [hkl, List.take_length] at hany
      have hany' : Hid ((ll.any fun l => !goodWord l) = false) := hany
      clear hany
      go_wp2_with (fail)
      go_ret
      exact ⟨⟨_, rfl, by first | (rw [hany'.out]; done) | (rw [hany'.out]; rfl)⟩, hB⟩

set_option maxRecDepth 100000 in
set_option maxHeartbeats 1600000 in
theorem contains_lst (a : Option Addr) (ll : List (List Str)) (cap : Nat) (hlb : ll.length ≤ 1000000) (hlb2 : ∀ l ∈ ll, l.length ≤ 1000000) (w : World) (hL : ListsAt w.heap.size w a ll) :
    Calls Tryz.prog 33 #[.slice a ll.length cap, .func (.func 35) #[] #[]] w fun e w' => e = .returned (.bool (ll.any fun l => !goodWord l)) ∧ Below w.heap.size w w' := by
  have hixH : Hid (Calls Tryz.prog 73 #[.slice a ll.length cap, .func (.func 35) #[] #[]] w fun e w' => (∃ n : Int, e = .returned (.int .i64 n) ∧ decide (0 ≤ n) = ll.any fun l => !goodWord l) ∧ Below w.heap.size w w') := index_lst a ll cap hlb hlb2 w hL
  clear hL
  go_enter Tryz.func33, Tryz.ntmps33
  go_wp2_with (fail)
  go_at_call 73
  refine hixH.out.mono ?_
  rintro e w1 ⟨⟨n, rfl, hn⟩, hB⟩
  have hnH : Hid (decide (0 ≤ n) = ll.any fun l => !goodWord l) := hn
  clear hn
  go_wp2_with (fail)
  go_ret
  exact ⟨by first | (rw [← hnH.out]; done) | (rw [← hnH.out]; rfl), hB⟩
end Go.Proofs.YtcdcchkaohnkdaaGreatDoor
