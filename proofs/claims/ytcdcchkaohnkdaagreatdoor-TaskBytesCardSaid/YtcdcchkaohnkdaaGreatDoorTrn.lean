/- Numbers of bytes, the reference's: what its 'Put' and its 'Get' return. -/
import Derived.Test.YtcdcchkaohnkdaaGreatDoorTmm
import Derived.Test.YtcdcchkaohnkdaaGreatDoorPln
namespace Go.Proofs.YtcdcchkaohnkdaaGreatDoor
open Go.RowKit

/-- A number's bytes, whatever the number. -/
def putZ (n : Int) : Str := if n < -9007199254740992 ∨ 9007199254740992 < n then [] else UInt8.ofNat ((if n < 0 then 128 else 0) + (digs n.natAbs).length) :: digs n.natAbs

theorem putZ_nat {n : Nat} (h : n ≤ 9007199254740992) : putZ (n : Int) = putN n := by
  unfold putZ putN
  rw [if_neg (by omega), if_neg (by omega), Int.natAbs_natCast, Nat.zero_add]

theorem digs_step {m : Nat} (h : 0 < m) (l : Str) : digs m ++ l = digs (m / 256) ++ (UInt8.ofNat (m % 256) :: l) := by
  rw [digs_pos (by omega), List.append_assoc]; rfl

theorem bs_cat (a b : Str) : bs a ++ bs b = bs (a ++ b) := by
  unfold bs
  apply ByteArray.ext
  simp [ByteArray.data_append]

theorem byte_of (n : Nat) : (⟨⟨[UInt8.ofNat ((n : Int) % 256).toNat]⟩⟩ : ByteArray) = bs [UInt8.ofNat (n % 256)] := by
  have : ((n : Int) % 256).toNat = n % 256 := by omega
  rw [this]; rfl

theorem cat_one' (x : UInt8) (l : Str) : (⟨⟨[x]⟩⟩ : ByteArray) ++ bs l = bs (x :: l) := cat_one x l

set_option maxRecDepth 100000 in
set_option maxHeartbeats 1600000 in
theorem r1put_pos (m : Nat) (hm : m ≤ 9007199254740992) (w : World) : Calls Tryz.prog 69 #[.int .i64 (m : Nat)] w fun e w' => e = .returned (.string (bs (putN m))) ∧ Below w.heap.size w w' := by
  have h1 : ¬ ((m : Int) < -9007199254740992) := by omega
  have h2 : ¬ ((9007199254740992 : Int) < (m : Int)) := by omega
  have h3 : ¬ ((m : Int) < 0) := by omega
  have hmb : Hid (m ≤ 9007199254740992) := hm
  have h7 : Hid ((digs m).length ≤ 7) := digs_len7 hm
  clear hm
  have r52 := run_conv1
  go_enter Tryz.func69, Tryz.ntmps69
  go_wp2_with fail
  go_loopw [0, 4] (fun nn s wr => ∃ (j : Nat) (l : Str), j ≤ m ∧ nn = .int .i64 j ∧ s = .string (bs l) ∧ digs m = digs j ++ l ∧ Below w.heap.size w wr) (fun nn _ _ => (intOf nn).toNat)
  case atStart => exact ⟨m, [], Nat.le_refl _, rfl, rfl, by simp, Below.refl _ _⟩
  case round =>
    obtain ⟨j, l, hj, rfl, rfl, hd, hB⟩ := hrel
    have hdH : Hid (digs m = digs j ++ l) := hd
    have hsz : (bs l).size = l.length := bs_size l
    have hl7 : l.length ≤ 7 := by
      have := h7.out
      rw [hd, List.length_append] at this
      omega
    clear hd
    by_cases hp : 0 < j
    · have hpi : (0 : Int) < (j : Int) := by omega
      have hjb : j ≤ 9007199254740992 := Nat.le_trans hj hmb.out
      have hst : Hid (digs m = digs (j / 256) ++ (UInt8.ofNat (j % 256) :: l)) := by unfold Hid; rw [hdH.out, digs_step hp]
      have hcat : Hid ((⟨⟨[UInt8.ofNat (j % 256)]⟩⟩ : ByteArray) ++ bs l = bs (UInt8.ofNat (j % 256) :: l)) := cat_one _ _
      go_wp2_with fail
      exact ⟨⟨j / 256, UInt8.ofNat (j % 256) :: l, by omega, by simp, by rw [hcat.out], hst.out, hB.alloc hB.size _⟩, by simp [intOf]; omega⟩
    · have hj0 : j = 0 := by omega
      subst hj0
      have hdl : Hid (digs m = l) := by unfold Hid; rw [hdH.out, digs_zero]; rfl
      go_wp2_with fail
      go_ret
      refine ⟨?_, hB.alloc hB.size _⟩
      unfold putN
      rw [hdl.out, ← cat_one']
      rfl
set_option maxRecDepth 100000 in
set_option maxHeartbeats 1600000 in
theorem r1put_neg (m : Nat) (h1m : 1 ≤ m) (hm : m ≤ 9007199254740992) (w : World) : Calls Tryz.prog 69 #[.int .i64 (-(m : Int))] w fun e w' => e = .returned (.string (bs (UInt8.ofNat (128 + (digs m).length) :: digs m))) ∧ Below w.heap.size w w' := by
  have h1 : ¬ (-(m : Int) < -9007199254740992) := by omega
  have h2 : ¬ ((9007199254740992 : Int) < -(m : Int)) := by omega
  have h3 : -(m : Int) < 0 := by omega
  have hmb : Hid (m ≤ 9007199254740992) := hm
  have h7 : Hid ((digs m).length ≤ 7) := digs_len7 hm
  clear hm
  have r52 := run_conv1
  go_enter Tryz.func69, Tryz.ntmps69
  go_wp2_with fail
  go_loopw [0, 4] (fun nn s wr => ∃ (j : Nat) (l : Str), j ≤ m ∧ nn = .int .i64 j ∧ s = .string (bs l) ∧ digs m = digs j ++ l ∧ Below w.heap.size w wr) (fun nn _ _ => (intOf nn).toNat)
  case atStart => exact ⟨m, [], Nat.le_refl _, rfl, rfl, by simp, Below.refl _ _⟩
  case round =>
    obtain ⟨j, l, hj, rfl, rfl, hd, hB⟩ := hrel
    have hdH : Hid (digs m = digs j ++ l) := hd
    have hsz : (bs l).size = l.length := bs_size l
    have hl7 : l.length ≤ 7 := by
      have := h7.out
      rw [hd, List.length_append] at this
      omega
    clear hd
    by_cases hp : 0 < j
    · have hpi : (0 : Int) < (j : Int) := by omega
      have hjb : j ≤ 9007199254740992 := Nat.le_trans hj hmb.out
      have hst : Hid (digs m = digs (j / 256) ++ (UInt8.ofNat (j % 256) :: l)) := by unfold Hid; rw [hdH.out, digs_step hp]
      have hcat : Hid ((⟨⟨[UInt8.ofNat (j % 256)]⟩⟩ : ByteArray) ++ bs l = bs (UInt8.ofNat (j % 256) :: l)) := cat_one _ _
      go_wp2_with fail
      exact ⟨⟨j / 256, UInt8.ofNat (j % 256) :: l, by omega, by simp, by rw [hcat.out], hst.out, hB.alloc hB.size _⟩, by simp [intOf]; omega⟩
    · have hj0 : j = 0 := by omega
      subst hj0
      have hdl : Hid (digs m = l) := by unfold Hid; rw [hdH.out, digs_zero]; rfl
      go_wp2_with fail
      go_ret
      refine ⟨?_, hB.alloc hB.size _⟩
      rw [hdl.out, ← cat_one', UInt8.ofNat_add]
      rfl

set_option maxRecDepth 100000 in
set_option maxHeartbeats 1600000 in
theorem r1put_big (n : Int) (h : n < -9007199254740992 ∨ 9007199254740992 < n) (w : World) : Calls Tryz.prog 69 #[.int .i64 n] w fun e w' => e = .returned (.string (bs [])) ∧ Below w.heap.size w w' := by
  by_cases h1 : n < -9007199254740992
  · clear h
    go_enter Tryz.func69, Tryz.ntmps69
    go_wp2_with fail
    go_ret
    exact ⟨rfl, Below.refl _ _⟩
  · have h2 : 9007199254740992 < n := by omega
    clear h
    go_enter Tryz.func69, Tryz.ntmps69
    go_wp2_with fail
    go_ret
    exact ⟨rfl, Below.refl _ _⟩

theorem r1put_any (n : Int) (w : World) : Calls Tryz.prog 69 #[.int .i64 n] w fun e w' => e = .returned (.string (bs (putZ n))) ∧ Below w.heap.size w w' := by
  by_cases h : n < -9007199254740992 ∨ 9007199254740992 < n
  · have : putZ n = [] := if_pos h
    rw [this]
    exact r1put_big n h w
  · by_cases hn : n < 0
    · have e : n = -((n.natAbs : Nat) : Int) := by omega
      have : putZ n = UInt8.ofNat (128 + (digs n.natAbs).length) :: digs n.natAbs := by unfold putZ; rw [if_neg h, if_pos hn]
      rw [this, e, Int.natAbs_neg, Int.natAbs_natCast]
      exact r1put_neg n.natAbs (by omega) (by omega) w
    · have e : n = ((n.natAbs : Nat) : Int) := by omega
      have : putZ n = putN n.natAbs := by
        unfold putZ putN
        rw [if_neg h, if_neg hn, Nat.zero_add]
      rw [this, e, Int.natAbs_natCast]
      exact r1put_pos n.natAbs (by omega) w

/-- What the reference compares. -/
theorem putZ_iff {c : UInt8} {t : Str} {k : Nat} {b : Bool} (hk : k = c.toNat % 128) (hb : b = decide (128 ≤ c.toNat)) (hbk : ¬ (b = true ∧ k = 0)) (hl : ¬ t.length < k) :
    putZ (if b = true then -(beN (t.take k) : Int) else (beN (t.take k) : Int)) = c :: t.take k ↔ ¬ (9007199254740992 < beN (t.take k) ∨ (t.take k).head? = some 0) := by
  have hlen : (t.take k).length = k := by rw [List.length_take]; omega
  have hcl := c.toNat_lt
  have habs : (if b = true then -(beN (t.take k) : Int) else (beN (t.take k) : Int)).natAbs = beN (t.take k) := by split <;> omega
  have hcase : (if b = true then -(beN (t.take k) : Int) else (beN (t.take k) : Int)) = -(beN (t.take k) : Int) ∨ (if b = true then -(beN (t.take k) : Int) else (beN (t.take k) : Int)) = (beN (t.take k) : Int) := by split <;> simp
  constructor
  · generalize (if b = true then -(beN (t.take k) : Int) else (beN (t.take k) : Int)) = N at *
    intro h hh
    unfold putZ at h
    split at h
    · cases h
    · rename_i h1
      rw [habs] at h
      have h2 : digs (beN (t.take k)) = t.take k := (List.cons.inj h).2
      rcases hh with hh | hh
      · omega
      · rw [← h2] at hh
        exact digs_head _ hh
  · intro h
    rw [not_or] at h
    obtain ⟨h1, h2⟩ := h
    have hd := digs_beN _ h2
    have hneg : (if b = true then -(beN (t.take k) : Int) else (beN (t.take k) : Int)) < 0 ↔ b = true := by
      cases b with
      | true =>
        have hk0 : k ≠ 0 := fun h => hbk ⟨rfl, h⟩
        have hm : beN (t.take k) ≠ 0 := by
          intro h0
          have := beN_zero _ h0 h2
          rw [this] at hlen
          simp at hlen
          omega
        rw [if_pos rfl]
        simp
        omega
      | false => simp
    generalize (if b = true then -(beN (t.take k) : Int) else (beN (t.take k) : Int)) = N at *
    unfold putZ
    rw [habs, hd, hlen, if_neg (by omega)]
    congr 1
    apply UInt8.toNat_inj.1
    by_cases hbt : b = true
    · have h128 : 128 ≤ c.toNat := by rw [hbt] at hb; simpa using hb.symm
      rw [if_pos (hneg.2 hbt)]
      simp
      omega
    · have h128 : ¬ 128 ≤ c.toNat := by
        intro h
        apply hbt
        rw [hb, decide_eq_true h]
      rw [if_neg (fun h => hbt (hneg.1 h))]
      simp
      omega

theorem bs_toList (l : Str) : (bs l).toList = l := by rw [ByteArray.toList_eq]; rfl
theorem bs_inj {a b : Str} (h : bs a = bs b) : a = b := by
  have := congrArg (fun x : ByteArray => x.data.toList) h
  exact this

theorem mul_add_i {n b : Nat} (h : n < 281474976710656) (hb : b < 256) : (256 * (n : Int)) + (b : Int) = ((256 * n + b : Nat) : Int) := by omega

set_option maxRecDepth 100000 in
set_option maxHeartbeats 3200000 in
theorem r1get_any (s : ByteArray) (hbig : s.size < 4611686018427387904) (w : World) : Calls Tryz.prog 114 #[.string s] w fun e w' =>
    e = .returned (.tuple #[.int .i64 (getN s.data.toList).1, .int .i64 ((getN s.data.toList).2.1 : Nat), .int .i64 ((getN s.data.toList).2.2 : Nat)]) ∧ Below w.heap.size w w' := by
  have hl := len_size s
  have hm : Tryz.prog.follows .mixedOrders = true := by kernel_rfl
  cases hs : s.data.toList with
  | nil =>
    have hne : s.toList.isEmpty = true := by rw [ByteArray.toList_eq, hs]; rfl
    clear hs hl hbig
    go_enter Tryz.func114, Tryz.ntmps114
    go_wp2
    go_ret3
    exact ⟨rfl, Below.refl _ _⟩
  | cons c t =>
    have hne : s.toList.isEmpty = false := by rw [ByteArray.toList_eq, hs]; rfl
    obtain ⟨hsz, hz0, hz1⟩ := front_cons hs
    have h0 : 0 < s.size := by omega
    have hcl := c.toNat_lt
    have hz0' : s[0] = c := hz0 h0
    clear hz0
    obtain ⟨k, hk⟩ : ∃ k : Nat, k = c.toNat % 128 := ⟨_, rfl⟩
    have hwb : wrap64 (c.toNat : Int) = (c.toNat : Int) := wrap64_nat (by omega)
    have hmk : (c.toNat : Int).tmod 128 = (k : Int) := by rw [hk, Int.tmod_eq_emod_of_nonneg (by omega)]; omega
    have hwk : wrap64 (k : Int) = (k : Int) := wrap64_nat (by omega)
    have hgn : Hid (getN (c :: t) = if 7 < k ∨ c.toNat = 128 then (0, 0, 2) else if t.length < k then (0, 0, 3) else if 9007199254740992 < beN (t.take k) ∨ (t.take k).head? = some 0 then (0, 0, 2) else (if 128 ≤ c.toNat then -(beN (t.take k) : Int) else (beN (t.take k) : Int), k + 1, 0)) := by
      unfold Hid; rw [getN_cons, ← hk]
    by_cases hA : 7 < k
    · have hr : Hid (getN (c :: t) = (0, 0, 2)) := by unfold Hid; rw [hgn.out, if_pos (.inl hA)]
      have hAi : (7 : Int) < (k : Int) := by omega
      clear hs hl hz1 hsz hbig hA hk hcl
      go_enter Tryz.func114, Tryz.ntmps114
      go_wp2
      all_goals go_ret3
      all_goals exact ⟨by rw [hr.out]; rfl, Below.refl _ w⟩
    have hk7 : ¬ ((7 : Int) < (k : Int)) := by omega
    have hk7n : k ≤ 7 := by omega
    by_cases hBx : c.toNat = 128
    · have hr : Hid (getN (c :: t) = (0, 0, 2)) := by unfold Hid; rw [hgn.out, if_pos (.inr hBx)]
      have hBi : ((c.toNat : Int) == 128) = true := by simp; omega
      clear hs hl hz1 hsz hbig hA hk hcl hBx
      go_enter Tryz.func114, Tryz.ntmps114
      go_wp2
      all_goals go_ret3
      all_goals exact ⟨by rw [hr.out]; rfl, Below.refl _ w⟩
    have hBi : ((c.toNat : Int) == 128) = false := by simp; omega
    by_cases hC : t.length < k
    · have hr : Hid (getN (c :: t) = (0, 0, 3)) := by unfold Hid; rw [hgn.out, if_neg (by intro h; rcases h with h | h; exact hA h; exact hBx h), if_pos hC]
      have hle : (s.size : Int) < (k : Int) + 1 := by omega
      clear hs hl hz1 hsz hbig hA hk hcl hBx hC
      go_enter Tryz.func114, Tryz.ntmps114
      go_wp2
      all_goals go_ret3
      all_goals exact ⟨by rw [hr.out]; rfl, Below.refl _ w⟩
    have hkl : ¬ ((s.size : Int) < (k : Int) + 1) := by omega
    have hgn2 : Hid (getN (c :: t) = if 9007199254740992 < beN (t.take k) ∨ (t.take k).head? = some 0 then (0, 0, 2) else (if 128 ≤ c.toNat then -(beN (t.take k) : Int) else (beN (t.take k) : Int), k + 1, 0)) := by
      unfold Hid; rw [hgn.out, if_neg (by intro h; rcases h with h | h; exact hA h; exact hBx h), if_neg hC]
    have hbuf : Hid (∀ j, j ≤ k + 1 → (s.data.toList.take j).drop 1 = t.take (j - 1)) := by
      intro j hj
      rw [hs]
      cases j with
      | zero => simp
      | succ j => simp
    have hkb : k + 1 ≤ s.size := by omega
    have hmlt : Hid (beN (t.take k) < 72057594037927936) := by
      have := part_lt s (k + 1) (by omega)
      rw [hbuf.out (k + 1) (Nat.le_refl _)] at this
      exact this
    have hput := putZ_iff (c := c) (t := t) (k := k) (b := decide (128 ≤ c.toNat)) hk rfl (by rw [decide_eq_true_eq]; omega) hC
    have hext : s.extract 0 (k + 1) = bs (c :: t.take k) := by
      apply ByteArray.ext
      apply Array.ext'
      rw [ByteArray.data_extract, Array.toList_extract]
      simp [hs, bs, List.extract]
    obtain ⟨m, hmm0⟩ : ∃ m, beN (t.take k) = m := ⟨_, rfl⟩
    have hmm : Hid (beN (t.take k) = m) := hmm0
    rw [hmm0] at hmlt hput hgn2
    obtain ⟨X, hX⟩ : ∃ X, c :: t.take k = X := ⟨_, rfl⟩
    rw [hX] at hext
    have hwk1 : IntKind.i64.wrap ((k : Int) + 1) = (k : Int) + 1 := by rw [IntKind.wrap_i64]; omega
    have hnn : (0 : Int) ≤ (k : Int) + 1 := by omega
    rw [hX] at hput
    clear hmm0 hl hs hsz hz1 hgn hA hBx hC hk hX
    by_cases h128 : 128 ≤ c.toNat
    · have h127 : (127 : Int) < (c.toNat : Int) := by omega
      rw [decide_eq_true h128] at hput
      simp only [if_true] at hput
      rw [if_pos h128] at hgn2
      clear h128 hcl
      by_cases hbad : 9007199254740992 < m ∨ (t.take k).head? = some 0
      · have hr1 : Hid (getN (c :: t) = (0, 0, 2)) := by unfold Hid; rw [hgn2.out, if_pos hbad]
        have hcmp : Hid ((!((bs (putZ (-(m : Int)))).toList == (bs X).toList)) = true) := by
          unfold Hid
          rw [bs_toList, bs_toList, Bool.not_eq_true', beq_eq_false_iff_ne]
          intro h
          exact hput.1 h hbad
        clear hput hbad hgn2
        go_enter Tryz.func114, Tryz.ntmps114
        go_wp2
        go_loop [6, 7] (fun n i => ∃ j : Nat, 1 ≤ j ∧ j ≤ k + 1 ∧ i = .int .i64 j ∧ n = .int .i64 (beN ((s.data.toList.take j).drop 1))) (fun _ i => k + 1 - (intOf i).toNat)
        case atStart => exact ⟨1, Nat.le_refl _, by omega, rfl, by rw [hbuf.out 1 (by omega)]; rfl⟩
        case round =>
          obtain ⟨j, hj1, hj, rfl, rfl⟩ := hrel
          by_cases hlt : j ≤ k
          · have hjs : j < s.size := by omega
            have hji : (j : Int) ≤ (k : Int) := by omega
            have hround : Hid (256 * ((beN ((s.data.toList.take j).drop 1) : Nat) : Int) + (s[j].toNat : Int) = ((beN ((s.data.toList.take (j + 1)).drop 1) : Nat) : Int)) := by
              unfold Hid
              rw [mul_add_i (part_lt6 s j (by omega)) s[j].toNat_lt, part_snoc s j hj1 hjs, beN_snoc]
            have hwb2 : wrap64 (s[j].toNat : Int) = (s[j].toNat : Int) := wrap64_nat (by have := s[j].toNat_lt; omega)
            have hsj := s[j].toNat_lt
            have hlt6 := part_lt6 s j (by omega)
            generalize beN ((s.data.toList.take j).drop 1) = n at *
            go_wp2
            go_round
            case rel => exact ⟨j + 1, by omega, by omega, by go_num, by first | (rw [← hround.out]; done) | (rw [← hround.out]; go_num)⟩
            case measure => simp [intOf]; omega
          · have hji : ¬ ((j : Int) ≤ (k : Int)) := by omega
            have hjk : j = k + 1 := by omega
            have hm2 : Hid (beN ((s.data.toList.take j).drop 1) = m) := by unfold Hid; rw [hbuf.out j (by omega), hjk, Nat.add_sub_cancel]; exact hmm.out
            rw [hm2.out]
            clear hm2 hbuf
            have hmlt' : m < 72057594037927936 := hmlt.out
            go_wp2
            refine Go.Ev.wp_region_plan (fun v => Below w.heap.size w v) [.int .i64 (-(m : Int)), .string (bs (putZ (-(m : Int)))), .string s, .int .i64 (k : Nat), .int .i64 ((k : Int) + 1), .string (bs X), .bool true] hm (by kernel_rfl) (by kernel_rfl) ((Below.refl _ _).drew) ?_
            refine ⟨fun v K hv hK => ?_, ?_⟩
            · go_simp; exact hK _ hv
            simp only [Act.put, List.setIfInBounds_toArray, List.set_cons_succ, List.set_cons_zero, List.headD_cons, List.tail_cons]
            refine ⟨fun v K hv hK => ?_, ?_⟩
            · go_simp; refine (r1put_any _ _).mono ?_; rintro e w' ⟨rfl, hB⟩; exact hK _ (hv.trans (hB.mono hv.size))
            simp only [Act.put, List.setIfInBounds_toArray, List.set_cons_succ, List.set_cons_zero, List.headD_cons, List.tail_cons]
            refine ⟨fun v K hv hK => ?_, ?_⟩
            · go_simp; exact hK _ hv
            simp only [Act.put, List.setIfInBounds_toArray, List.set_cons_succ, List.set_cons_zero, List.headD_cons, List.tail_cons]
            refine ⟨fun v K hv hK => ?_, ?_⟩
            · go_simp; exact hK _ hv
            simp only [Act.put, List.setIfInBounds_toArray, List.set_cons_succ, List.set_cons_zero, List.headD_cons, List.tail_cons]
            refine ⟨fun v K hv hK => ?_, ?_⟩
            · go_simp; exact hK _ hv
            simp only [Act.put, List.setIfInBounds_toArray, List.set_cons_succ, List.set_cons_zero, List.headD_cons, List.tail_cons]
            refine ⟨fun v K hv hK => ?_, ?_⟩
            · go_simp; exact hK _ hv
            simp only [Act.put, List.setIfInBounds_toArray, List.set_cons_succ, List.set_cons_zero, List.headD_cons, List.tail_cons]
            refine ⟨fun v K hv hK => ?_, ?_⟩
            · go_simp; rw [hcmp.out]; exact hK _ hv
            simp only [Act.put, List.setIfInBounds_toArray, List.set_cons_succ, List.set_cons_zero, List.headD_cons, List.tail_cons]
            intro w' hv
            go_wp2
            go_ret3
            exact ⟨by rw [hr1.out]; rfl, hv⟩
      · have hr1 : Hid (getN (c :: t) = (-(m : Int), k + 1, 0)) := by unfold Hid; rw [hgn2.out, if_neg hbad]
        have hcmp : Hid ((!((bs (putZ (-(m : Int)))).toList == (bs X).toList)) = false) := by
          unfold Hid
          rw [hput.2 hbad]
          simp
        clear hput hbad hgn2
        go_enter Tryz.func114, Tryz.ntmps114
        go_wp2
        go_loop [6, 7] (fun n i => ∃ j : Nat, 1 ≤ j ∧ j ≤ k + 1 ∧ i = .int .i64 j ∧ n = .int .i64 (beN ((s.data.toList.take j).drop 1))) (fun _ i => k + 1 - (intOf i).toNat)
        case atStart => exact ⟨1, Nat.le_refl _, by omega, rfl, by rw [hbuf.out 1 (by omega)]; rfl⟩
        case round =>
          obtain ⟨j, hj1, hj, rfl, rfl⟩ := hrel
          by_cases hlt : j ≤ k
          · have hjs : j < s.size := by omega
            have hji : (j : Int) ≤ (k : Int) := by omega
            have hround : Hid (256 * ((beN ((s.data.toList.take j).drop 1) : Nat) : Int) + (s[j].toNat : Int) = ((beN ((s.data.toList.take (j + 1)).drop 1) : Nat) : Int)) := by
              unfold Hid
              rw [mul_add_i (part_lt6 s j (by omega)) s[j].toNat_lt, part_snoc s j hj1 hjs, beN_snoc]
            have hwb2 : wrap64 (s[j].toNat : Int) = (s[j].toNat : Int) := wrap64_nat (by have := s[j].toNat_lt; omega)
            have hsj := s[j].toNat_lt
            have hlt6 := part_lt6 s j (by omega)
            generalize beN ((s.data.toList.take j).drop 1) = n at *
            go_wp2
            go_round
            case rel => exact ⟨j + 1, by omega, by omega, by go_num, by first | (rw [← hround.out]; done) | (rw [← hround.out]; go_num)⟩
            case measure => simp [intOf]; omega
          · have hji : ¬ ((j : Int) ≤ (k : Int)) := by omega
            have hjk : j = k + 1 := by omega
            have hm2 : Hid (beN ((s.data.toList.take j).drop 1) = m) := by unfold Hid; rw [hbuf.out j (by omega), hjk, Nat.add_sub_cancel]; exact hmm.out
            rw [hm2.out]
            clear hm2 hbuf
            have hmlt' : m < 72057594037927936 := hmlt.out
            go_wp2
            refine Go.Ev.wp_region_plan (fun v => Below w.heap.size w v) [.int .i64 (-(m : Int)), .string (bs (putZ (-(m : Int)))), .string s, .int .i64 (k : Nat), .int .i64 ((k : Int) + 1), .string (bs X), .bool false] hm (by kernel_rfl) (by kernel_rfl) ((Below.refl _ _).drew) ?_
            refine ⟨fun v K hv hK => ?_, ?_⟩
            · go_simp; exact hK _ hv
            simp only [Act.put, List.setIfInBounds_toArray, List.set_cons_succ, List.set_cons_zero, List.headD_cons, List.tail_cons]
            refine ⟨fun v K hv hK => ?_, ?_⟩
            · go_simp; refine (r1put_any _ _).mono ?_; rintro e w' ⟨rfl, hB⟩; exact hK _ (hv.trans (hB.mono hv.size))
            simp only [Act.put, List.setIfInBounds_toArray, List.set_cons_succ, List.set_cons_zero, List.headD_cons, List.tail_cons]
            refine ⟨fun v K hv hK => ?_, ?_⟩
            · go_simp; exact hK _ hv
            simp only [Act.put, List.setIfInBounds_toArray, List.set_cons_succ, List.set_cons_zero, List.headD_cons, List.tail_cons]
            refine ⟨fun v K hv hK => ?_, ?_⟩
            · go_simp; exact hK _ hv
            simp only [Act.put, List.setIfInBounds_toArray, List.set_cons_succ, List.set_cons_zero, List.headD_cons, List.tail_cons]
            refine ⟨fun v K hv hK => ?_, ?_⟩
            · go_simp; exact hK _ hv
            simp only [Act.put, List.setIfInBounds_toArray, List.set_cons_succ, List.set_cons_zero, List.headD_cons, List.tail_cons]
            refine ⟨fun v K hv hK => ?_, ?_⟩
            · go_simp; exact hK _ hv
            simp only [Act.put, List.setIfInBounds_toArray, List.set_cons_succ, List.set_cons_zero, List.headD_cons, List.tail_cons]
            refine ⟨fun v K hv hK => ?_, ?_⟩
            · go_simp; rw [hcmp.out]; exact hK _ hv
            simp only [Act.put, List.setIfInBounds_toArray, List.set_cons_succ, List.set_cons_zero, List.headD_cons, List.tail_cons]
            intro w' hv
            go_wp2
            go_ret3
            exact ⟨by rw [hr1.out]; rfl, hv⟩
    · have h127 : ¬ ((127 : Int) < (c.toNat : Int)) := by omega
      rw [decide_eq_false h128] at hput
      simp only [Bool.false_eq_true, if_false] at hput
      rw [if_neg h128] at hgn2
      clear h128 hcl
      by_cases hbad : 9007199254740992 < m ∨ (t.take k).head? = some 0
      · have hr1 : Hid (getN (c :: t) = (0, 0, 2)) := by unfold Hid; rw [hgn2.out, if_pos hbad]
        have hcmp : Hid ((!((bs (putZ ((m : Int)))).toList == (bs X).toList)) = true) := by
          unfold Hid
          rw [bs_toList, bs_toList, Bool.not_eq_true', beq_eq_false_iff_ne]
          intro h
          exact hput.1 h hbad
        clear hput hbad hgn2
        go_enter Tryz.func114, Tryz.ntmps114
        go_wp2
        go_loop [6, 7] (fun n i => ∃ j : Nat, 1 ≤ j ∧ j ≤ k + 1 ∧ i = .int .i64 j ∧ n = .int .i64 (beN ((s.data.toList.take j).drop 1))) (fun _ i => k + 1 - (intOf i).toNat)
        case atStart => exact ⟨1, Nat.le_refl _, by omega, rfl, by rw [hbuf.out 1 (by omega)]; rfl⟩
        case round =>
          obtain ⟨j, hj1, hj, rfl, rfl⟩ := hrel
          by_cases hlt : j ≤ k
          · have hjs : j < s.size := by omega
            have hji : (j : Int) ≤ (k : Int) := by omega
            have hround : Hid (256 * ((beN ((s.data.toList.take j).drop 1) : Nat) : Int) + (s[j].toNat : Int) = ((beN ((s.data.toList.take (j + 1)).drop 1) : Nat) : Int)) := by
              unfold Hid
              rw [mul_add_i (part_lt6 s j (by omega)) s[j].toNat_lt, part_snoc s j hj1 hjs, beN_snoc]
            have hwb2 : wrap64 (s[j].toNat : Int) = (s[j].toNat : Int) := wrap64_nat (by have := s[j].toNat_lt; omega)
            have hsj := s[j].toNat_lt
            have hlt6 := part_lt6 s j (by omega)
            generalize beN ((s.data.toList.take j).drop 1) = n at *
            go_wp2
            go_round
            case rel => exact ⟨j + 1, by omega, by omega, by go_num, by first | (rw [← hround.out]; done) | (rw [← hround.out]; go_num)⟩
            case measure => simp [intOf]; omega
          · have hji : ¬ ((j : Int) ≤ (k : Int)) := by omega
            have hjk : j = k + 1 := by omega
            have hm2 : Hid (beN ((s.data.toList.take j).drop 1) = m) := by unfold Hid; rw [hbuf.out j (by omega), hjk, Nat.add_sub_cancel]; exact hmm.out
            rw [hm2.out]
            clear hm2 hbuf
            have hmlt' : m < 72057594037927936 := hmlt.out
            go_wp2
            refine Go.Ev.wp_region_plan (fun v => Below w.heap.size w v) [.int .i64 ((m : Int)), .string (bs (putZ ((m : Int)))), .string s, .int .i64 (k : Nat), .int .i64 ((k : Int) + 1), .string (bs X), .bool true] hm (by kernel_rfl) (by kernel_rfl) ((Below.refl _ _).drew) ?_
            refine ⟨fun v K hv hK => ?_, ?_⟩
            · go_simp; exact hK _ hv
            simp only [Act.put, List.setIfInBounds_toArray, List.set_cons_succ, List.set_cons_zero, List.headD_cons, List.tail_cons]
            refine ⟨fun v K hv hK => ?_, ?_⟩
            · go_simp; refine (r1put_any _ _).mono ?_; rintro e w' ⟨rfl, hB⟩; exact hK _ (hv.trans (hB.mono hv.size))
            simp only [Act.put, List.setIfInBounds_toArray, List.set_cons_succ, List.set_cons_zero, List.headD_cons, List.tail_cons]
            refine ⟨fun v K hv hK => ?_, ?_⟩
            · go_simp; exact hK _ hv
            simp only [Act.put, List.setIfInBounds_toArray, List.set_cons_succ, List.set_cons_zero, List.headD_cons, List.tail_cons]
            refine ⟨fun v K hv hK => ?_, ?_⟩
            · go_simp; exact hK _ hv
            simp only [Act.put, List.setIfInBounds_toArray, List.set_cons_succ, List.set_cons_zero, List.headD_cons, List.tail_cons]
            refine ⟨fun v K hv hK => ?_, ?_⟩
            · go_simp; exact hK _ hv
            simp only [Act.put, List.setIfInBounds_toArray, List.set_cons_succ, List.set_cons_zero, List.headD_cons, List.tail_cons]
            refine ⟨fun v K hv hK => ?_, ?_⟩
            · go_simp; exact hK _ hv
            simp only [Act.put, List.setIfInBounds_toArray, List.set_cons_succ, List.set_cons_zero, List.headD_cons, List.tail_cons]
            refine ⟨fun v K hv hK => ?_, ?_⟩
            · go_simp; rw [hcmp.out]; exact hK _ hv
            simp only [Act.put, List.setIfInBounds_toArray, List.set_cons_succ, List.set_cons_zero, List.headD_cons, List.tail_cons]
            intro w' hv
            go_wp2
            go_ret3
            exact ⟨by rw [hr1.out]; rfl, hv⟩
      · have hr1 : Hid (getN (c :: t) = ((m : Int), k + 1, 0)) := by unfold Hid; rw [hgn2.out, if_neg hbad]
        have hcmp : Hid ((!((bs (putZ ((m : Int)))).toList == (bs X).toList)) = false) := by
          unfold Hid
          rw [hput.2 hbad]
          simp
        clear hput hbad hgn2
        go_enter Tryz.func114, Tryz.ntmps114
        go_wp2
        go_loop [6, 7] (fun n i => ∃ j : Nat, 1 ≤ j ∧ j ≤ k + 1 ∧ i = .int .i64 j ∧ n = .int .i64 (beN ((s.data.toList.take j).drop 1))) (fun _ i => k + 1 - (intOf i).toNat)
        case atStart => exact ⟨1, Nat.le_refl _, by omega, rfl, by rw [hbuf.out 1 (by omega)]; rfl⟩
        case round =>
          obtain ⟨j, hj1, hj, rfl, rfl⟩ := hrel
          by_cases hlt : j ≤ k
          · have hjs : j < s.size := by omega
            have hji : (j : Int) ≤ (k : Int) := by omega
            have hround : Hid (256 * ((beN ((s.data.toList.take j).drop 1) : Nat) : Int) + (s[j].toNat : Int) = ((beN ((s.data.toList.take (j + 1)).drop 1) : Nat) : Int)) := by
              unfold Hid
              rw [mul_add_i (part_lt6 s j (by omega)) s[j].toNat_lt, part_snoc s j hj1 hjs, beN_snoc]
            have hwb2 : wrap64 (s[j].toNat : Int) = (s[j].toNat : Int) := wrap64_nat (by have := s[j].toNat_lt; omega)
            have hsj := s[j].toNat_lt
            have hlt6 := part_lt6 s j (by omega)
            generalize beN ((s.data.toList.take j).drop 1) = n at *
            go_wp2
            go_round
            case rel => exact ⟨j + 1, by omega, by omega, by go_num, by first | (rw [← hround.out]; done) | (rw [← hround.out]; go_num)⟩
            case measure => simp [intOf]; omega
          · have hji : ¬ ((j : Int) ≤ (k : Int)) := by omega
            have hjk : j = k + 1 := by omega
            have hm2 : Hid (beN ((s.data.toList.take j).drop 1) = m) := by unfold Hid; rw [hbuf.out j (by omega), hjk, Nat.add_sub_cancel]; exact hmm.out
            rw [hm2.out]
            clear hm2 hbuf
            have hmlt' : m < 72057594037927936 := hmlt.out
            go_wp2
            refine Go.Ev.wp_region_plan (fun v => Below w.heap.size w v) [.int .i64 ((m : Int)), .string (bs (putZ ((m : Int)))), .string s, .int .i64 (k : Nat), .int .i64 ((k : Int) + 1), .string (bs X), .bool false] hm (by kernel_rfl) (by kernel_rfl) ((Below.refl _ _).drew) ?_
            refine ⟨fun v K hv hK => ?_, ?_⟩
            · go_simp; exact hK _ hv
            simp only [Act.put, List.setIfInBounds_toArray, List.set_cons_succ, List.set_cons_zero, List.headD_cons, List.tail_cons]
            refine ⟨fun v K hv hK => ?_, ?_⟩
            · go_simp; refine (r1put_any _ _).mono ?_; rintro e w' ⟨rfl, hB⟩; exact hK _ (hv.trans (hB.mono hv.size))
            simp only [Act.put, List.setIfInBounds_toArray, List.set_cons_succ, List.set_cons_zero, List.headD_cons, List.tail_cons]
            refine ⟨fun v K hv hK => ?_, ?_⟩
            · go_simp; exact hK _ hv
            simp only [Act.put, List.setIfInBounds_toArray, List.set_cons_succ, List.set_cons_zero, List.headD_cons, List.tail_cons]
            refine ⟨fun v K hv hK => ?_, ?_⟩
            · go_simp; exact hK _ hv
            simp only [Act.put, List.setIfInBounds_toArray, List.set_cons_succ, List.set_cons_zero, List.headD_cons, List.tail_cons]
            refine ⟨fun v K hv hK => ?_, ?_⟩
            · go_simp; exact hK _ hv
            simp only [Act.put, List.setIfInBounds_toArray, List.set_cons_succ, List.set_cons_zero, List.headD_cons, List.tail_cons]
            refine ⟨fun v K hv hK => ?_, ?_⟩
            · go_simp; exact hK _ hv
            simp only [Act.put, List.setIfInBounds_toArray, List.set_cons_succ, List.set_cons_zero, List.headD_cons, List.tail_cons]
            refine ⟨fun v K hv hK => ?_, ?_⟩
            · go_simp; rw [hcmp.out]; exact hK _ hv
            simp only [Act.put, List.setIfInBounds_toArray, List.set_cons_succ, List.set_cons_zero, List.headD_cons, List.tail_cons]
            intro w' hv
            go_wp2
            go_ret3
            exact ⟨by rw [hr1.out]; rfl, hv⟩
end Go.Proofs.YtcdcchkaohnkdaaGreatDoor
