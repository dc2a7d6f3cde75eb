/- Numbers of bytes, the program's and the reference's: what 'Get' and the reference's 'Put' return. -/
import Derived.Test.YtcdcchkaohnkdaaGreatDoorPlb
namespace Go.Proofs.YtcdcchkaohnkdaaGreatDoor
open Go.RowKit

def bs (l : List UInt8) : ByteArray := ⟨⟨l⟩⟩
theorem bs_self (s : ByteArray) : bs s.data.toList = s := rfl
theorem bs_size (l : List UInt8) : (bs l).size = l.length := rfl
theorem bs_get (s : List UInt8) (k : Nat) (h : k < (bs s).size) : (bs s)[k] = s.getD k 0 := by
  have hk : k < s.length := h
  rw [List.getD, List.getElem?_eq_getElem hk]
  rfl
theorem bs_empty (s : List UInt8) : (bs s).toList.isEmpty = s.isEmpty := by rw [ByteArray.toList_eq]; rfl

theorem len_size (s : ByteArray) : s.data.toList.length = s.size := by rw [Array.length_toList]; rfl

theorem shl_or_i {a b : Nat} (ha : a < 281474976710656) (hb : b < 256) : bits .or .i64 ((a : Int) * 256) (b : Int) = ((256 * a + b : Nat) : Int) := by
  have h1 : ((a : Int) * 256) = ((a * 256 : Nat) : Int) := by omega
  have h4 : a * 256 ||| b = 256 * a + b := by
    have h3 : a * 256 = a <<< 8 := by rw [Nat.shiftLeft_eq]
    have h5 : a <<< 8 + b = a <<< 8 ||| b := Nat.shiftLeft_add_eq_or_of_lt (by omega : b < 2 ^ 8) a
    rw [h3, ← h5, ← h3, Nat.mul_comm]
  have h5 : (BitVec.ofInt 64 ((a * 256 : Nat) : Int) ||| BitVec.ofInt 64 (b : Int)).toNat = a * 256 ||| b := by
    rw [BitVec.toNat_or, BitVec.toNat_ofInt, BitVec.toNat_ofInt]
    congr 1
    · omega
    · omega
  rw [h1]
  show IntKind.i64.wrap ((BitVec.ofInt 64 ((a * 256 : Nat) : Int) ||| BitVec.ofInt 64 (b : Int)).toNat : Nat) = _
  rw [h5, h4, IntKind.wrap_i64]
  omega

theorem byte_low (c : UInt8) : bits .andNot .u8 (c.toNat : Int) 128 = ((c.toNat % 128 : Nat) : Int) := by
  have key : ∀ n : Fin 256, bits .andNot .u8 (n.val : Int) 128 = ((n.val % 128 : Nat) : Int) := by decide +kernel
  exact key ⟨c.toNat, c.toNat_lt⟩
theorem byte_high (c : UInt8) : bits .and .u8 (c.toNat : Int) 128 = if 128 ≤ c.toNat then 128 else 0 := by
  have key : ∀ n : Fin 256, bits .and .u8 (n.val : Int) 128 = if 128 ≤ n.val then 128 else 0 := by decide +kernel
  exact key ⟨c.toNat, c.toNat_lt⟩

theorem part_snoc (s : ByteArray) (i : Nat) (h1 : 1 ≤ i) (h : i < s.size) : (s.data.toList.take (i + 1)).drop 1 = (s.data.toList.take i).drop 1 ++ [s[i]] := by
  have hl := len_size s
  rw [take_snoc s i h, List.drop_append_of_le_length (by rw [List.length_take]; omega)]

theorem part_lt (s : ByteArray) (i : Nat) (h : i ≤ 8) : beN ((s.data.toList.take i).drop 1) < 72057594037927936 := by
  have h1 := beN_lt ((s.data.toList.take i).drop 1)
  have h2 : (256 : Nat) ^ ((s.data.toList.take i).drop 1).length ≤ 256 ^ 7 := Nat.pow_le_pow_right (by omega) (by rw [List.length_drop, List.length_take]; omega)
  have h3 : (256 : Nat) ^ 7 = 72057594037927936 := by decide
  omega
theorem part_lt6 (s : ByteArray) (i : Nat) (h : i ≤ 7) : beN ((s.data.toList.take i).drop 1) < 281474976710656 := by
  have h1 := beN_lt ((s.data.toList.take i).drop 1)
  have h2 : (256 : Nat) ^ ((s.data.toList.take i).drop 1).length ≤ 256 ^ 6 := Nat.pow_le_pow_right (by omega) (by rw [List.length_drop, List.length_take]; omega)
  have h3 : (256 : Nat) ^ 6 = 281474976710656 := by decide
  omega


theorem wrap64_nat {n : Nat} (h : n < 9223372036854775808) : wrap64 (n : Int) = n := by unfold wrap64; omega

/-- A byte at the front. -/
theorem front_cons {s : ByteArray} {c : UInt8} {t : List UInt8} (hs : s.data.toList = c :: t) : s.size = t.length + 1 ∧ (∀ h : 0 < s.size, s[0]'h = c) ∧ (∀ (d : UInt8) (r : List UInt8), t = d :: r → ∀ h : 1 < s.size, s[1]'h = d) := by
  have hl := len_size s
  have key : ∀ (i : Nat) (x : UInt8), s.data.toList[i]? = some x → ∀ h : i < s.size, s[i]'h = x := fun i x hx h => by
    rw [List.getElem?_eq_getElem (by rw [hl]; exact h)] at hx
    exact Option.some.inj hx
  refine ⟨by rw [← hl, hs]; rfl, key 0 c (by rw [hs]; rfl), fun d r ht => key 1 d (by rw [hs, ht]; rfl)⟩

set_option maxRecDepth 100000 in
set_option maxHeartbeats 3200000 in
theorem oget_any (s : ByteArray) (hbig : s.size < 4611686018427387904) (w : World) : Calls Tryz.prog 110 #[.string s] w fun e w' =>
    e = .returned (.tuple #[.int .i64 (getN s.data.toList).1, .int .i64 ((getN s.data.toList).2.1 : Nat), .int .i64 ((getN s.data.toList).2.2 : Nat)]) ∧ Below w.heap.size w w' := by
  have hl := len_size s
  cases hs : s.data.toList with
  | nil =>
    have hne : s.toList.isEmpty = true := by rw [ByteArray.toList_eq, hs]; rfl
    clear hs hl hbig
    go_enter Tryz.func110, Tryz.ntmps110
    go_wp2
    go_ret3
    exact ⟨rfl, Below.refl _ _⟩
  | cons c t =>
    have hne : s.toList.isEmpty = false := by rw [ByteArray.toList_eq, hs]; rfl
    obtain ⟨hsz, hz0, hz1⟩ := front_cons hs
    have h0 : 0 < s.size := by omega
    have hb1 := byte_low c
    have hb2 := byte_high c
    have hcl := c.toNat_lt
    have hz0' : s[0] = c := hz0 h0
    clear hz0
    obtain ⟨k, hk⟩ : ∃ k : Nat, k = c.toNat % 128 := ⟨_, rfl⟩
    obtain ⟨b, hb⟩ : ∃ b : Bool, b = decide (128 ≤ c.toNat) := ⟨_, rfl⟩
    have hnz : (bits .and .u8 (c.toNat : Int) 128 != 0) = b := by
      rw [hb2, hb]
      by_cases h : 128 ≤ c.toNat <;> simp [h]
    have hbk : c.toNat = 128 ↔ b = true ∧ k = 0 := by rw [hb, hk, decide_eq_true_eq]; omega
    have hgn : Hid (getN (c :: t) = if 7 < k ∨ (b = true ∧ k = 0) then (0, 0, 2) else if t.length < k then (0, 0, 3) else if 9007199254740992 < beN (t.take k) ∨ (t.take k).head? = some 0 then (0, 0, 2) else (if b = true then -(beN (t.take k) : Int) else (beN (t.take k) : Int), k + 1, 0)) := by
      unfold Hid
      rw [getN_cons, ← hk, hb]
      simp only [decide_eq_true_eq]
      have e : (7 < k ∨ c.toNat = 128) ↔ (7 < k ∨ (128 ≤ c.toNat ∧ k = 0)) := by rw [hbk, hb, decide_eq_true_eq]
      simp only [e]
    rw [← hk] at hb1
    have hwk : wrap64 (k : Int) = (k : Int) := wrap64_nat (by omega)
    clear hk hb hb2 hbk hcl
    by_cases hA : 7 < k
    · -- too many digits
      have hr : Hid (getN (c :: t) = (0, 0, 2)) := by unfold Hid; rw [hgn.out, if_pos (.inl hA)]
      have hAi : (7 : Int) < (k : Int) := by omega
      clear hs hl hz1 hsz hbig hA
      go_enter Tryz.func110, Tryz.ntmps110
      go_wp2
      go_region
      go_wp2
      all_goals go_ret3
      all_goals exact ⟨by rw [hr.out]; rfl, (Below.refl _ w).drew⟩
    have hk7 : ¬ ((7 : Int) < (k : Int)) := by omega
    have hk7n : k ≤ 7 := by omega
    by_cases hBx : b = true ∧ k = 0
    · -- a sign, and no digit
      have hr : Hid (getN (c :: t) = (0, 0, 2)) := by unfold Hid; rw [hgn.out, if_pos (.inr hBx)]
      obtain ⟨rfl, rfl⟩ := hBx
      clear hs hl hz1 hsz hbig hA
      go_enter Tryz.func110, Tryz.ntmps110
      go_wp2
      go_region
      go_wp2
      all_goals go_ret3
      all_goals exact ⟨by rw [hr.out]; rfl, (Below.refl _ w).drew⟩
    have hgn2 : Hid (getN (c :: t) = if t.length < k then (0, 0, 3) else if 9007199254740992 < beN (t.take k) ∨ (t.take k).head? = some 0 then (0, 0, 2) else (if b = true then -(beN (t.take k) : Int) else (beN (t.take k) : Int), k + 1, 0)) := by
      unfold Hid; rw [hgn.out, if_neg (by intro h; rcases h with h | h; exact hA h; exact hBx h)]
    have hk0 : b = true → ((k : Int) == 0) = false := fun h => by
      have : k ≠ 0 := fun h' => hBx ⟨h, h'⟩
      simp; omega
    clear hA hgn
    by_cases hC : t.length < k
    · -- too few bytes
      have hr : Hid (getN (c :: t) = (0, 0, 3)) := by unfold Hid; rw [hgn2.out, if_pos hC]
      have hle : (s.size : Int) ≤ (k : Int) := by omega
      clear hs hl hz1 hsz hbig hC hBx
      cases b
      all_goals
        first | have hk0' := hk0 rfl | skip
        clear hk0
        go_enter Tryz.func110, Tryz.ntmps110
        go_wp2
        go_region
        go_wp2
        all_goals go_ret3
        all_goals exact ⟨by rw [hr.out]; rfl, (Below.refl _ w).drew⟩
    have hkl : ¬ ((s.size : Int) ≤ (k : Int)) := by omega
    have hbuf : Hid (∀ j, j ≤ k + 1 → (s.data.toList.take j).drop 1 = t.take (j - 1)) := by
      intro j hj
      rw [hs]
      cases j with
      | zero => simp
      | succ j => simp
    have hkb : k + 1 ≤ s.size := by omega
    have hr : Hid (getN (c :: t) = if 9007199254740992 < beN (t.take k) ∨ (t.take k).head? = some 0 then (0, 0, 2) else (if b = true then -(beN (t.take k) : Int) else (beN (t.take k) : Int), k + 1, 0)) := by
      unfold Hid; rw [hgn2.out, if_neg hC]
    have hmlt : Hid (beN (t.take k) < 72057594037927936) := by
      have := part_lt s (k + 1) (by omega)
      rw [hbuf.out (k + 1) (Nat.le_refl _)] at this
      exact this
    -- the first digit
    have hd : k = 0 ∧ b = false ∨ 1 ≤ k ∧ ∃ d : UInt8, (t.take k).head? = some d ∧ ∃ h : 1 < s.size, s[1]'h = d := by
      rcases Nat.eq_zero_or_pos k with h | h
      · left
        refine ⟨h, ?_⟩
        cases b with
        | false => rfl
        | true => exact absurd ⟨rfl, h⟩ hBx
      · right
        refine ⟨h, ?_⟩
        cases ht : t with
        | nil => rw [ht] at hC; simp at hC; omega
        | cons d r =>
          refine ⟨d, ?_, by omega, hz1 d r ht _⟩
          obtain ⟨k', rfl⟩ : ∃ k', k = k' + 1 := ⟨k - 1, by omega⟩
          simp
    clear hl hgn2 hz1 hC hBx hs hsz
    rcases hd with ⟨hk00, rfl⟩ | ⟨h1k, d, hd1, hs1, hd2⟩
    · have hkp : ¬ ((0 : Int) < (k : Int)) := by omega
      have hd0 : Hid ((t.take k).head? = none) := by unfold Hid; rw [hk00]; rfl
      clear hk0 hk00
      go_enter Tryz.func110, Tryz.ntmps110
      go_wp2
      go_region
      go_wp2
      go_loop [7, 8] (fun n i => ∃ j : Nat, 1 ≤ j ∧ j ≤ k + 1 ∧ i = .int .i64 j ∧ n = .int .i64 (beN ((s.data.toList.take j).drop 1))) (fun _ i => k + 1 - (intOf i).toNat)
      case atStart => exact ⟨1, Nat.le_refl _, by omega, rfl, by rw [hbuf.out 1 (by omega)]; rfl⟩
      case round =>
        obtain ⟨j, hj1, hj, rfl, rfl⟩ := hrel
        by_cases hlt : j ≤ k
        · have hjs : j < s.size := by omega
          have hji : (j : Int) ≤ (k : Int) := by omega
          have hround : Hid (bits .or .i64 ((beN ((s.data.toList.take j).drop 1) : Nat) * 256) (s[j].toNat : Int) = ((beN ((s.data.toList.take (j + 1)).drop 1) : Nat) : Int)) := by
            unfold Hid
            rw [shl_or_i (part_lt6 s j (by omega)) s[j].toNat_lt, part_snoc s j hj1 hjs, beN_snoc]
          have hwb : wrap64 (s[j].toNat : Int) = (s[j].toNat : Int) := wrap64_nat (by have := s[j].toNat_lt; omega)
          have hlt6 := part_lt6 s j (by omega)
          generalize beN ((s.data.toList.take j).drop 1) = n at *
          go_wp2
          go_round
          case rel => exact ⟨j + 1, by omega, by omega, by go_num, by rw [hround.out]⟩
          case measure => simp [intOf]; omega
        · have hji : ¬ ((j : Int) ≤ (k : Int)) := by omega
          have hjk : j = k + 1 := by omega
          have hm : Hid (beN ((s.data.toList.take j).drop 1) = beN (t.take k)) := by unfold Hid; rw [hbuf.out j (by omega), hjk, Nat.add_sub_cancel]
          rw [hm.out]
          clear hm hbuf
          generalize beN (t.take k) = m at *
          have hmlt' : m < 72057594037927936 := hmlt.out
          by_cases hbig2 : 9007199254740992 < m
          · have hbi : (9007199254740992 : Int) < (m : Int) := by omega
            have hr1 : Hid (getN (c :: t) = (0, 0, 2)) := by unfold Hid; rw [hr.out, if_pos (.inl hbig2)]
            clear hbig2 hmlt hr
            go_wp2
            go_ret3
            exact ⟨by rw [hr1.out]; rfl, (Below.refl _ w).drew⟩
          · have hbi : ¬ ((9007199254740992 : Int) < (m : Int)) := by omega
            have hr1 : Hid (getN (c :: t) = ((m : Int), k + 1, 0)) := by unfold Hid; rw [hr.out, hd0.out, if_neg (by simp; omega)]; rfl
            clear hmlt hr hbig2
            go_wp2
            go_ret3
            exact ⟨by rw [hr1.out]; rfl, (Below.refl _ w).drew⟩
    · have hkp : (0 : Int) < (k : Int) := by omega
      have hkz : ((k : Int) == 0) = false := by simp; omega
      clear hk0
      cases b with
      | false =>
        go_enter Tryz.func110, Tryz.ntmps110
        go_wp2
        go_region
        go_wp2
        go_loop [7, 8] (fun n i => ∃ j : Nat, 1 ≤ j ∧ j ≤ k + 1 ∧ i = .int .i64 j ∧ n = .int .i64 (beN ((s.data.toList.take j).drop 1))) (fun _ i => k + 1 - (intOf i).toNat)
        case atStart => exact ⟨1, Nat.le_refl _, by omega, rfl, by rw [hbuf.out 1 (by omega)]; rfl⟩
        case round =>
          obtain ⟨j, hj1, hj, rfl, rfl⟩ := hrel
          by_cases hlt : j ≤ k
          · have hjs : j < s.size := by omega
            have hji : (j : Int) ≤ (k : Int) := by omega
            have hround : Hid (bits .or .i64 ((beN ((s.data.toList.take j).drop 1) : Nat) * 256) (s[j].toNat : Int) = ((beN ((s.data.toList.take (j + 1)).drop 1) : Nat) : Int)) := by
              unfold Hid
              rw [shl_or_i (part_lt6 s j (by omega)) s[j].toNat_lt, part_snoc s j hj1 hjs, beN_snoc]
            have hwb : wrap64 (s[j].toNat : Int) = (s[j].toNat : Int) := wrap64_nat (by have := s[j].toNat_lt; omega)
            have hlt6 := part_lt6 s j (by omega)
            generalize beN ((s.data.toList.take j).drop 1) = n at *
            go_wp2
            go_round
            case rel => exact ⟨j + 1, by omega, by omega, by go_num, by rw [hround.out]⟩
            case measure => simp [intOf]; omega
          · have hji : ¬ ((j : Int) ≤ (k : Int)) := by omega
            have hjk : j = k + 1 := by omega
            have hm : Hid (beN ((s.data.toList.take j).drop 1) = beN (t.take k)) := by unfold Hid; rw [hbuf.out j (by omega), hjk, Nat.add_sub_cancel]
            rw [hm.out]
            clear hm hbuf
            generalize beN (t.take k) = m at *
            have hmlt' : m < 72057594037927936 := hmlt.out
            by_cases hbig2 : 9007199254740992 < m
            · have hbi : (9007199254740992 : Int) < (m : Int) := by omega
              have hr1 : Hid (getN (c :: t) = (0, 0, 2)) := by unfold Hid; rw [hr.out, if_pos (.inl hbig2)]
              clear hbig2 hmlt hr
              go_wp2
              go_ret3
              exact ⟨by rw [hr1.out]; rfl, (Below.refl _ w).drew⟩
            · have hbi : ¬ ((9007199254740992 : Int) < (m : Int)) := by omega
              by_cases hdz : d = 0
              · have hr1 : Hid (getN (c :: t) = (0, 0, 2)) := by unfold Hid; rw [hr.out, hd1, hdz, if_pos (.inr rfl)]
                subst hdz
                clear hmlt hr hbig2 hd1
                go_wp2
                go_ret3
                exact ⟨by rw [hr1.out]; rfl, (Below.refl _ w).drew⟩
              · have hdn : ((d.toNat : Int) == 0) = false := by
                  have : d.toNat ≠ 0 := fun h => hdz (UInt8.toNat_inj.1 h)
                  simp; omega
                have hr1 : Hid (getN (c :: t) = (if false = true then -(m : Int) else (m : Int), k + 1, 0)) := by
                  unfold Hid; rw [hr.out, hd1, if_neg (by intro h; rcases h with h | h; exact hbig2 h; exact hdz (by simpa using h))]; try simp
                clear hmlt hr hbig2 hd1 hdz
                go_wp2
                go_ret3
                exact ⟨by rw [hr1.out]; rfl, (Below.refl _ w).drew⟩
      | true =>
        go_enter Tryz.func110, Tryz.ntmps110
        go_wp2
        go_region
        go_wp2
        go_loop [7, 8] (fun n i => ∃ j : Nat, 1 ≤ j ∧ j ≤ k + 1 ∧ i = .int .i64 j ∧ n = .int .i64 (beN ((s.data.toList.take j).drop 1))) (fun _ i => k + 1 - (intOf i).toNat)
        case atStart => exact ⟨1, Nat.le_refl _, by omega, rfl, by rw [hbuf.out 1 (by omega)]; rfl⟩
        case round =>
          obtain ⟨j, hj1, hj, rfl, rfl⟩ := hrel
          by_cases hlt : j ≤ k
          · have hjs : j < s.size := by omega
            have hji : (j : Int) ≤ (k : Int) := by omega
            have hround : Hid (bits .or .i64 ((beN ((s.data.toList.take j).drop 1) : Nat) * 256) (s[j].toNat : Int) = ((beN ((s.data.toList.take (j + 1)).drop 1) : Nat) : Int)) := by
              unfold Hid
              rw [shl_or_i (part_lt6 s j (by omega)) s[j].toNat_lt, part_snoc s j hj1 hjs, beN_snoc]
            have hwb : wrap64 (s[j].toNat : Int) = (s[j].toNat : Int) := wrap64_nat (by have := s[j].toNat_lt; omega)
            have hlt6 := part_lt6 s j (by omega)
            generalize beN ((s.data.toList.take j).drop 1) = n at *
            go_wp2
            go_round
            case rel => exact ⟨j + 1, by omega, by omega, by go_num, by rw [hround.out]⟩
            case measure => simp [intOf]; omega
          · have hji : ¬ ((j : Int) ≤ (k : Int)) := by omega
            have hjk : j = k + 1 := by omega
            have hm : Hid (beN ((s.data.toList.take j).drop 1) = beN (t.take k)) := by unfold Hid; rw [hbuf.out j (by omega), hjk, Nat.add_sub_cancel]
            rw [hm.out]
            clear hm hbuf
            generalize beN (t.take k) = m at *
            have hmlt' : m < 72057594037927936 := hmlt.out
            by_cases hbig2 : 9007199254740992 < m
            · have hbi : (9007199254740992 : Int) < (m : Int) := by omega
              have hr1 : Hid (getN (c :: t) = (0, 0, 2)) := by unfold Hid; rw [hr.out, if_pos (.inl hbig2)]
              clear hbig2 hmlt hr
              go_wp2
              go_ret3
              exact ⟨by rw [hr1.out]; rfl, (Below.refl _ w).drew⟩
            · have hbi : ¬ ((9007199254740992 : Int) < (m : Int)) := by omega
              by_cases hdz : d = 0
              · have hr1 : Hid (getN (c :: t) = (0, 0, 2)) := by unfold Hid; rw [hr.out, hd1, hdz, if_pos (.inr rfl)]
                subst hdz
                clear hmlt hr hbig2 hd1
                go_wp2
                go_ret3
                exact ⟨by rw [hr1.out]; rfl, (Below.refl _ w).drew⟩
              · have hdn : ((d.toNat : Int) == 0) = false := by
                  have : d.toNat ≠ 0 := fun h => hdz (UInt8.toNat_inj.1 h)
                  simp; omega
                have hr1 : Hid (getN (c :: t) = (if true = true then -(m : Int) else (m : Int), k + 1, 0)) := by
                  unfold Hid; rw [hr.out, hd1, if_neg (by intro h; rcases h with h | h; exact hbig2 h; exact hdz (by simpa using h))]; try simp
                clear hmlt hr hbig2 hd1 hdz
                go_wp2
                go_ret3
                exact ⟨by rw [hr1.out]; rfl, (Below.refl _ w).drew⟩
end Go.Proofs.YtcdcchkaohnkdaaGreatDoor
