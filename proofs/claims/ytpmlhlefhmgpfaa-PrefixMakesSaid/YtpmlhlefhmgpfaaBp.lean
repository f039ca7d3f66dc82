/- Bits of bytes, plain. No condition. -/
import Derived.Test.YtpmlhlefhmgpfaaFrm
namespace Go.Proofs.Ytpmlhlefhmgpfaa
open Go.RowKit
set_option linter.unusedVariables false
set_option linter.unusedSimpArgs false

/-- bit j of a row of bytes, the lowest bit of a byte first -/
def bitAt (bs : List (BitVec 8)) (j : Nat) : Bool := (bs.getD (j / 8) 0#8).getLsbD (j % 8)
/-- the number of n bits -/
def num (f : Nat → Bool) : Nat → Nat
  | 0 => 0
  | n + 1 => num f n + 2 ^ n * (f n).toNat

theorem num_lt (f : Nat → Bool) : ∀ n, num f n < 2 ^ n
  | 0 => by simp [num]
  | n + 1 => by
    have := num_lt f n
    unfold num
    rw [Nat.pow_succ]
    cases f n <;> simp <;> omega
theorem num_bit (f : Nat → Bool) : ∀ n j, (num f n).testBit j = (decide (j < n) && f j)
  | 0, j => by simp [num]
  | n + 1, j => by
    have h := num_lt f n
    unfold num
    rw [Nat.add_comm]
    cases hf : f n with
    | false =>
      simp only [Bool.toNat_false, Nat.mul_zero, Nat.zero_add, num_bit f n j]
      by_cases hj : j = n
      · subst hj; simp [hf]
      · have : (j < n) = (j < n + 1) := by apply propext; omega
        simp only [this]
    | true =>
      simp only [Bool.toNat_true, Nat.mul_one]
      by_cases hj : j < n
      · rw [Nat.testBit_two_pow_add_gt (by omega), num_bit f n j]
        have : j < n + 1 := by omega
        simp [hj, this]
      · by_cases hj2 : j = n
        · subst hj2
          rw [Nat.testBit_two_pow_add_eq, Nat.testBit_lt_two_pow h]
          simp [hf]
        · have h2 : 2 ^ n + num f n < 2 ^ j := by
            have : 2 ^ (n + 1) ≤ 2 ^ j := Nat.pow_le_pow_right (by decide) (by omega)
            rw [Nat.pow_succ] at this
            omega
          rw [Nat.testBit_lt_two_pow h2]
          have : ¬ j < n + 1 := by omega
          simp [this]
theorem num_eq (f : Nat → Bool) (n x : Nat) (h : ∀ j, x.testBit j = (decide (j < n) && f j)) : x = num f n :=
  Nat.eq_of_testBit_eq fun j => by rw [h, num_bit]
theorem num_bv {k : Nat} (f : Nat → Bool) (n : Nat) (x : BitVec k) (h : ∀ j, x.getLsbD j = (decide (j < n) && f j)) : x.toNat = num f n :=
  num_eq f n _ h
theorem num_congr {f g : Nat → Bool} : ∀ n, (∀ j, j < n → f j = g j) → num f n = num g n
  | 0, _ => rfl
  | n + 1, h => by
    unfold num
    rw [num_congr n (fun j hj => h j (by omega)), h n (by omega)]
/-- rows of bytes of one length with the same bits are one -/
theorem bits_ext {a b : List (BitVec 8)} (hl : a.length = b.length) (h : ∀ j, bitAt a j = bitAt b j) : a = b := by
  apply List.ext_getElem hl
  intro i h1 h2
  apply BitVec.eq_of_getLsbD_eq
  intro j hj
  have := h (8 * i + j)
  unfold bitAt at this
  rw [show (8 * i + j) / 8 = i by omega, show (8 * i + j) % 8 = j by omega] at this
  simpa [List.getD_eq_getElem?_getD, List.getElem?_eq_getElem h1, List.getElem?_eq_getElem h2] using this
theorem bitAt_app (a b : List (BitVec 8)) (j : Nat) : bitAt (a ++ b) j = if j < 8 * a.length then bitAt a j else bitAt b (j - 8 * a.length) := by
  unfold bitAt
  by_cases h : j < 8 * a.length
  · rw [if_pos h, List.getD_eq_getElem?_getD, List.getD_eq_getElem?_getD, List.getElem?_append_left (by omega)]
  · rw [if_neg h, List.getD_eq_getElem?_getD, List.getD_eq_getElem?_getD, List.getElem?_append_right (by omega), show j / 8 - a.length = (j - 8 * a.length) / 8 by omega, show j % 8 = (j - 8 * a.length) % 8 by omega]
theorem bitAt_out (a : List (BitVec 8)) (j : Nat) (h : 8 * a.length ≤ j) : bitAt a j = false := by
  unfold bitAt
  rw [List.getD_eq_getElem?_getD, List.getElem?_eq_none (by omega)]
  simp
theorem bitAt_set (a : List (BitVec 8)) (k : Nat) (x : BitVec 8) (hk : k < a.length) (j : Nat) : bitAt (a.set k x) j = if j / 8 = k then x.getLsbD (j % 8) else bitAt a j := by
  unfold bitAt
  rw [List.getD_eq_getElem?_getD, List.getD_eq_getElem?_getD, List.getElem?_set]
  by_cases h : k = j / 8
  · rw [if_pos h, if_pos h.symm, if_pos (by omega)]; simp
  · rw [if_neg h, if_neg (fun e => h e.symm)]
/-- a row of bits as bytes -/
def pack (l : List Bool) : List (BitVec 8) := (List.range ((l.length + 7) / 8)).map fun i => BitVec.ofNat 8 (num (fun j => l.getD (8 * i + j) false) 8)
theorem pack_len (l : List Bool) : (pack l).length = (l.length + 7) / 8 := by simp [pack]
theorem pack_bit (l : List Bool) (j : Nat) : bitAt (pack l) j = l.getD j false := by
  unfold bitAt pack
  by_cases h : j / 8 < (l.length + 7) / 8
  · simp only [List.getD_eq_getElem?_getD, List.getElem?_map, List.getElem?_range h, Option.map_some, Option.getD_some, BitVec.getLsbD_ofNat, num_bit]
    have : j % 8 < 8 := Nat.mod_lt _ (by decide)
    simp only [this, decide_true, Bool.true_and]
    rw [show 8 * (j / 8) + j % 8 = j by omega]
  · rw [List.getD_eq_getElem?_getD, List.getElem?_eq_none (by simpa using h), List.getD_eq_getElem?_getD, List.getElem?_eq_none (by omega)]
    simp
theorem pack_eq (l : List Bool) (bs : List (BitVec 8)) (hl : bs.length = (l.length + 7) / 8) (h : ∀ j, bitAt bs j = l.getD j false) : bs = pack l :=
  bits_ext (by rw [hl, pack_len]) fun j => by rw [h, pack_bit]
theorem fdiv_bit (v : Int) (hv : -9223372036854775808 ≤ v ∧ v ≤ 9223372036854775807) (i : Nat) : (BitVec.ofInt 64 (v.fdiv (2 ^ i))) = (BitVec.ofInt 64 v).sshiftRight i := by
  apply BitVec.eq_of_toInt_eq
  rw [BitVec.toInt_sshiftRight, Int.shiftRight_eq_div_pow]
  have h1 : (BitVec.ofInt 64 v).toInt = v := by
    rw [BitVec.toInt_ofInt, Int.bmod_eq_of_le (by omega) (by omega)]
  have hp : (0:Int) < 2 ^ i := Int.pow_pos (by decide)
  rw [h1, BitVec.toInt_ofInt, Int.fdiv_eq_ediv_of_nonneg _ (Int.le_of_lt hp)]
  rw [show ((2 ^ i : Nat) : Int) = 2 ^ i by simp]
  have h2 : -9223372036854775808 ≤ v / 2 ^ i := by
    apply Int.le_ediv_of_mul_le hp
    have : (-9223372036854775808 : Int) * 2 ^ i ≤ -9223372036854775808 * 1 := Int.mul_le_mul_of_nonpos_left (by decide) (by omega)
    omega
  have h3 : v / 2 ^ i ≤ 9223372036854775807 := by
    by_cases h0 : 0 ≤ v
    · have := Int.ediv_le_self (2 ^ i) h0
      omega
    · have := Int.ediv_neg_of_neg_of_pos (by omega : v < 0) hp
      omega
  rw [Int.bmod_eq_of_le (by omega) (by omega)]
theorem bit_fdiv (v : Int) (hv : -9223372036854775808 ≤ v ∧ v ≤ 9223372036854775807) (i : Nat) (hi : i < 64) : (BitVec.ofInt 64 (v.fdiv (2 ^ i))).getLsbD 0 = (BitVec.ofInt 64 v).getLsbD i := by
  rw [fdiv_bit v hv, BitVec.getLsbD_sshiftRight]
  simp [hi]
theorem and_one (x : BitVec 64) : (x &&& 1#64) = if x.getLsbD 0 then 1#64 else 0#64 := by
  apply BitVec.eq_of_getLsbD_eq
  intro j hj
  by_cases h : j = 0
  · subst h; rw [BitVec.getLsbD_and]; cases hx : x.getLsbD 0 <;> simp
  · cases hx : x.getLsbD 0 <;> simp [hx, BitVec.getLsbD_one, h]
theorem ofInt_32 (v : Int) : BitVec.ofInt 32 v = (BitVec.ofInt 64 v).setWidth 32 := by
  apply BitVec.eq_of_toNat_eq
  simp
  omega
theorem mask_bit (n : Nat) (hn : n ≤ 31) (j : Nat) : ((1#32 <<< n) - 1#32).getLsbD j = decide (j < n) := by
  have h : ((1#32 <<< n) - 1#32).toNat = 2 ^ n - 1 := by
    have hp : 2 ^ n ≤ 2 ^ 31 := Nat.pow_le_pow_right (by decide) hn
    have hp0 : 0 < 2 ^ n := Nat.pow_pos (by decide)
    have h1 : (1#32 <<< n).toNat = 2 ^ n := by
      rw [BitVec.toNat_shiftLeft, Nat.shiftLeft_eq]
      simp
      omega
    rw [BitVec.toNat_sub, h1]
    simp
    omega
  show ((1#32 <<< n) - 1#32).toNat.testBit j = _
  rw [h, Nat.testBit_two_pow_sub_one]
theorem acc_step (bs : List (BitVec 8)) (p i : Nat) (acc : BitVec 32) (hi : i < 3) (hacc : ∀ j, acc.getLsbD j = (decide (j < 8 * i) && bitAt bs (8 * p + j))) (hk : p + i < bs.length) :
    ∀ j, (acc ||| ((bs[p + i]).setWidth 32 <<< (8 * i))).getLsbD j = (decide (j < 8 * (i + 1)) && bitAt bs (8 * p + j)) := by
  intro j
  rw [BitVec.getLsbD_or, hacc, BitVec.getLsbD_shiftLeft, BitVec.getLsbD_setWidth]
  by_cases h1 : j < 8 * i
  · have h2 : j < 8 * (i + 1) := by omega
    simp [h1, h2]
  · by_cases h2 : j < 8 * (i + 1)
    · have h3 : j < 32 := by omega
      have h4 : j - 8 * i < 32 := by omega
      simp only [h1, h2, h3, h4, decide_true, decide_false, Bool.true_and, Bool.false_and, Bool.false_or, Bool.not_false]
      unfold bitAt
      rw [show (8 * p + j) / 8 = p + i by omega, show (8 * p + j) % 8 = j - 8 * i by omega, List.getD_eq_getElem?_getD, List.getElem?_eq_getElem hk]
      rfl
    · have h5 : (bs[p + i]).getLsbD (j - 8 * i) = false := BitVec.getLsbD_of_ge _ _ (by omega)
      simp [h1, h2, h5]
theorem acc_out (bs : List (BitVec 8)) (p i : Nat) (acc : BitVec 32) (hacc : ∀ j, acc.getLsbD j = (decide (j < 8 * i) && bitAt bs (8 * p + j))) (hk : ¬ p + i < bs.length) :
    ∀ j, acc.getLsbD j = (decide (j < 8 * (i + 1)) && bitAt bs (8 * p + j)) := by
  intro j
  rw [hacc]
  by_cases h1 : j < 8 * i
  · have h2 : j < 8 * (i + 1) := by omega
    simp [h1, h2]
  · rw [bitAt_out bs (8 * p + j) (by omega)]
    simp
theorem take_val (bs : List (BitVec 8)) (a n : Nat) (acc : BitVec 32) (hn : n ≤ 16) (hacc : ∀ j, acc.getLsbD j = (decide (j < 8 * 3) && bitAt bs (8 * (a / 8) + j))) :
    ((acc >>> (a % 8)) &&& ((1#32 <<< n) - 1#32)).toNat = num (fun j => bitAt bs (a + j)) n := by
  apply num_bv
  intro j
  rw [BitVec.getLsbD_and, BitVec.getLsbD_ushiftRight, hacc, mask_bit n (by omega)]
  by_cases h : j < n
  · have h2 : a % 8 + j < 8 * 3 := by omega
    simp only [h, h2, decide_true, Bool.and_true, Bool.true_and]
    rw [show 8 * (a / 8) + (a % 8 + j) = a + j by omega]
  · simp [h]

/-- the lowest bits of a number, as a row -/
def vbits (v : Int) (n : Nat) : List Bool := (List.range n).map fun i => (BitVec.ofInt 64 v).getLsbD i
theorem vbits_len (v : Int) (n : Nat) : (vbits v n).length = n := by simp [vbits]
theorem vbits_at (v : Int) (n i : Nat) : (vbits v n).getD i false = (decide (i < n) && (BitVec.ofInt 64 v).getLsbD i) := by
  unfold vbits
  by_cases h : i < n
  · simp [List.getD_eq_getElem?_getD, h]
  · simp [List.getD_eq_getElem?_getD, h]
theorem vbits_succ (v : Int) (n : Nat) : vbits v (n + 1) = vbits v n ++ [(BitVec.ofInt 64 v).getLsbD n] := by
  simp [vbits, List.range_succ]
/-- what Put's number holds -/
theorem put_acc (v : Int) (n s : Nat) (hn : n ≤ 16) (hs : s < 8) (j : Nat) : ((BitVec.ofInt 32 v &&& ((1#32 <<< n) - 1#32)) <<< s).getLsbD j = (decide (s ≤ j) && (decide (j < s + n) && (BitVec.ofInt 64 v).getLsbD (j - s))) := by
  rw [BitVec.getLsbD_shiftLeft, BitVec.getLsbD_and, mask_bit n (by omega), ofInt_32, BitVec.getLsbD_setWidth]
  by_cases h1 : s ≤ j
  · by_cases h2 : j < s + n
    · have h3 : j < 32 := by omega
      have h4 : ¬ j < s := by omega
      have h5 : j - s < n := by omega
      have h6 : j - s < 32 := by omega
      simp [h1, h2, h3, h4, h5, h6]
    · have h5 : ¬ j - s < n := by omega
      simp [h2, h5]
  · have h4 : j < s := by omega
    simp [h1, h4]
/-- Put's rounds: how far the bytes are filled -/
structure PutInv (l : List Bool) (v : Int) (n i : Nat) (bs : List (BitVec 8)) : Prop where
  len : bs.length = max ((l.length + 7) / 8) (min (l.length / 8 + i) ((l.length + n + 7) / 8))
  bit : ∀ j, bitAt bs j = (l.getD j false || (decide (l.length ≤ j) && (decide (j < l.length + n) && (decide (j < 8 * (l.length / 8 + i)) && (BitVec.ofInt 64 v).getLsbD (j - l.length)))))
theorem getD_out (l : List Bool) (j : Nat) (h : l.length ≤ j) : l.getD j false = false := by
  rw [List.getD_eq_getElem?_getD, List.getElem?_eq_none h]; rfl
theorem put_init (l : List Bool) (v : Int) (n : Nat) : PutInv l v n 0 (pack l) where
  len := by rw [pack_len]; omega
  bit := fun j => by
    rw [pack_bit]
    by_cases h : l.length ≤ j ∧ j < 8 * (l.length / 8 + 0)
    · omega
    · by_cases h1 : l.length ≤ j
      · have : ¬ j < 8 * (l.length / 8 + 0) := by omega
        simp only [this, decide_false, Bool.false_and, Bool.and_false, Bool.or_false]
      · simp only [h1, decide_false, Bool.false_and, Bool.or_false]
theorem put_done {l : List Bool} {v : Int} {n : Nat} {bs : List (BitVec 8)} (hn : n ≤ 16) (h : PutInv l v n 3 bs) : bs = pack (l ++ vbits v n) := by
  apply pack_eq
  · rw [h.len, List.length_append, vbits_len]; omega
  · intro j
    rw [h.bit]
    by_cases h1 : l.length ≤ j
    · have h3 : (l ++ vbits v n).getD j false = (vbits v n).getD (j - l.length) false := by
        rw [List.getD_eq_getElem?_getD, List.getD_eq_getElem?_getD, List.getElem?_append_right h1]
      rw [h3, vbits_at, getD_out l j h1]
      by_cases h2 : j < l.length + n
      · have h4 : j < 8 * (l.length / 8 + 3) := by omega
        have h5 : j - l.length < n := by omega
        simp [h1, h2, h4, h5]
      · have h5 : ¬ j - l.length < n := by omega
        simp [h2, h5]
    · have h3 : (l ++ vbits v n).getD j false = l.getD j false := by
        rw [List.getD_eq_getElem?_getD, List.getD_eq_getElem?_getD, List.getElem?_append_left (by omega)]
      rw [h3]
      simp [h1]
/-- a nought behind -/
theorem put_app {l : List Bool} {v : Int} {n i : Nat} {bs : List (BitVec 8)} (h : PutInv l v n i bs) (h1 : bs.length ≤ l.length / 8 + i) (h2 : l.length / 8 + i < (l.length + n + 7) / 8) :
    (bs ++ [0#8]).length = l.length / 8 + i + 1 ∧ ∀ j, bitAt (bs ++ [0#8]) j = bitAt bs j := by
  have hl := h.len
  refine ⟨by rw [List.length_append, List.length_singleton]; omega, fun j => ?_⟩
  rw [bitAt_app]
  split
  · rfl
  · rename_i hh
    rw [bitAt_out bs j (by omega)]
    unfold bitAt
    rw [List.getD_eq_getElem?_getD]
    cases h' : (j - 8 * bs.length) / 8 with
    | zero => simp
    | succ k => simp
theorem put_set {l : List Bool} {v : Int} {n i : Nat} {bs bs' : List (BitVec 8)} {acc : BitVec 32} (hi : i < 3) (h : PutInv l v n i bs) (hb : ∀ j, bitAt bs' j = bitAt bs j) (hl : bs'.length = max ((l.length + 7) / 8) (min (l.length / 8 + (i + 1)) ((l.length + n + 7) / 8)))
    (hk : l.length / 8 + i < bs'.length) (hacc : ∀ j, acc.getLsbD j = (decide (l.length % 8 ≤ j) && (decide (j < l.length % 8 + n) && (BitVec.ofInt 64 v).getLsbD (j - l.length % 8)))) :
    PutInv l v n (i + 1) (bs'.set (l.length / 8 + i) (bs'[l.length / 8 + i] ||| (acc >>> (8 * i)).setWidth 8)) where
  len := by rw [List.length_set]; exact hl
  bit := fun j => by
    rw [bitAt_set _ _ _ hk]
    split
    · rename_i hj
      have e1 : (bs'[l.length / 8 + i]).getLsbD (j % 8) = bitAt bs j := by
        rw [← hb j]
        unfold bitAt
        rw [hj, List.getD_eq_getElem?_getD, List.getElem?_eq_getElem hk]; rfl
      rw [BitVec.getLsbD_or, e1, BitVec.getLsbD_setWidth, BitVec.getLsbD_ushiftRight, hacc, h.bit]
      have hj8 : j % 8 < 8 := Nat.mod_lt _ (by decide)
      have hj2 : j < 8 * (l.length / 8 + (i + 1)) := by omega
      have hj3 : ¬ j < 8 * (l.length / 8 + i) := by omega
      have e2 : (l.length % 8 ≤ 8 * i + j % 8) = (l.length ≤ j) := by apply propext; omega
      have e3 : (8 * i + j % 8 < l.length % 8 + n) = (j < l.length + n) := by apply propext; omega
      have e4 : 8 * i + j % 8 - l.length % 8 = j - l.length := by omega
      simp only [hj8, hj2, hj3, e2, e3, e4, decide_true, decide_false, Bool.true_and, Bool.false_and, Bool.and_false, Bool.or_false]
    · rename_i hj
      rw [hb, h.bit]
      by_cases h1 : l.length ≤ j
      · have e : (j < 8 * (l.length / 8 + (i + 1))) = (j < 8 * (l.length / 8 + i)) := by apply propext; omega
        simp only [e]
      · simp [h1]
theorem put_skip {l : List Bool} {v : Int} {n i : Nat} {bs : List (BitVec 8)} (hi : i < 3) (h : PutInv l v n i bs) (hk : ¬ l.length / 8 + i < bs.length) (hm : ¬ l.length / 8 + i < (l.length + n + 7) / 8) : PutInv l v n (i + 1) bs where
  len := by have := h.len; omega
  bit := fun j => by
    have hl := h.len
    rw [h.bit]
    by_cases h1 : j < l.length + n
    · have e : (j < 8 * (l.length / 8 + (i + 1))) = (j < 8 * (l.length / 8 + i)) := by apply propext; omega
      simp only [e]
    · simp [h1]
end Go.Proofs.Ytpmlhlefhmgpfaa
