/- Plain facts on the sum CRC-32 in steps of a bit and of a byte. No condition. -/
namespace Go.Proofs.Ytmilnijpnlhcoaa
set_option linter.unusedVariables false
set_option linter.unusedSimpArgs false
namespace Crc

/-- one bit -/
def bs (x : BitVec 32) : BitVec 32 := (x >>> 1) ^^^ (3988292384#32 &&& -(x &&& 1#32))
def bsN : Nat → BitVec 32 → BitVec 32
  | 0, x => x
  | j + 1, x => bs (bsN j x)
/-- what a byte does -/
def tab (i : BitVec 8) : BitVec 32 := bsN 8 (i.setWidth 32)
def stp (x : BitVec 32) (c : BitVec 8) : BitVec 32 := tab (x.setWidth 8 ^^^ c) ^^^ (x >>> 8)
def fold (x : BitVec 32) (l : List (BitVec 8)) : BitVec 32 := l.foldl stp x
/-- the sum of bytes behind a sum -/
def add (s : Int) (l : List (BitVec 8)) : Int := ((~~~ (fold (~~~ (BitVec.ofInt 32 s)) l)).toNat : Int)

theorem fold_nil (x : BitVec 32) : fold x [] = x := rfl
theorem fold_cons (x : BitVec 32) (c : BitVec 8) (l : List (BitVec 8)) : fold x (c :: l) = fold (stp x c) l := rfl
theorem fold_append (x : BitVec 32) (l m : List (BitVec 8)) : fold x (l ++ m) = fold (fold x l) m := by unfold fold; rw [List.foldl_append]
theorem fold_take (x : BitVec 32) (l : List (BitVec 8)) (k : Nat) (h : k < l.length) : fold x (l.take (k + 1)) = stp (fold x (l.take k)) l[k] := by
  unfold fold
  rw [List.take_succ_eq_append_getElem h, List.foldl_append]
  rfl

theorem add_range (s : Int) (l : List (BitVec 8)) : 0 ≤ add s l ∧ add s l < 4294967296 := by
  unfold add
  have := (~~~ (fold (~~~ (BitVec.ofInt 32 s)) l)).isLt
  omega

theorem ofInt_toNat (x : BitVec 32) : BitVec.ofInt 32 (x.toNat : Int) = x := by
  rw [BitVec.ofInt_natCast, BitVec.ofNat_toNat, BitVec.setWidth_eq]

/-- a sum behind a sum is the sum of both -/
theorem add_add (s : Int) (l m : List (BitVec 8)) : add (add s l) m = add s (l ++ m) := by
  unfold add
  rw [ofInt_toNat, BitVec.not_not, fold_append]

/-! ### one bit -/
theorem and_one (x : BitVec 32) : x &&& 1#32 = if x.getLsbD 0 then 1#32 else 0#32 := by
  apply BitVec.eq_of_getLsbD_eq
  intro i hi
  rw [BitVec.getLsbD_and]
  have h1 : (1#32).getLsbD i = decide (i = 0) := by
    rw [BitVec.getLsbD_one]
    by_cases h : i = 0 <;> simp [h]
  rw [h1]
  by_cases h : i = 0
  · subst h
    cases x.getLsbD 0 <;> simp
  · cases x.getLsbD 0 <;> simp [h]

theorem bs_eq (x : BitVec 32) : bs x = if x.getLsbD 0 then (x >>> 1) ^^^ 3988292384#32 else x >>> 1 := by
  unfold bs
  rw [and_one]
  cases x.getLsbD 0
  · simp
  · simp only [if_true]
    congr 1

theorem bs_xor (a b : BitVec 32) : bs (a ^^^ b) = bs a ^^^ bs b := by
  rw [bs_eq, bs_eq, bs_eq, BitVec.getLsbD_xor, BitVec.ushiftRight_xor_distrib]
  cases a.getLsbD 0 <;> cases b.getLsbD 0 <;> simp
  · rw [BitVec.xor_assoc]
  · rw [BitVec.xor_assoc, BitVec.xor_assoc, BitVec.xor_comm (b >>> 1)]
  · generalize a >>> 1 = p
    generalize b >>> 1 = q
    rw [BitVec.xor_assoc p, ← BitVec.xor_assoc 3988292384#32 q, BitVec.xor_comm 3988292384#32 q, BitVec.xor_assoc q, BitVec.xor_self, BitVec.xor_zero]

theorem bsN_xor (j : Nat) (a b : BitVec 32) : bsN j (a ^^^ b) = bsN j a ^^^ bsN j b := by
  induction j with
  | zero => rfl
  | succ j ih => simp only [bsN, ih, bs_xor]

theorem bsN_add (j k : Nat) (x : BitVec 32) : bsN (j + k) x = bsN j (bsN k x) := by
  induction j with
  | zero => rw [Nat.zero_add]; rfl
  | succ j ih => rw [Nat.add_right_comm]; simp only [bsN, ih]

theorem bsN_zero (j : Nat) : bsN j 0#32 = 0#32 := by
  induction j with
  | zero => rfl
  | succ j ih => simp only [bsN, ih]; decide

/-- the lower bits are nought: a shift -/
theorem bsN_shift (x : BitVec 32) (m : Nat) : ∀ j, j ≤ m → bsN j (x <<< m) = (x <<< m) >>> j
  | 0, _ => by simp [bsN]
  | j + 1, h => by
    simp only [bsN]
    rw [bsN_shift x m j (by omega), bs_eq]
    have h0 : ((x <<< m) >>> j).getLsbD 0 = false := by
      rw [BitVec.getLsbD_ushiftRight, BitVec.getLsbD_shiftLeft]
      have : j + 0 < m := by omega
      rw [decide_eq_true this]
      simp
    rw [h0]
    simp [BitVec.shiftRight_add]

theorem split8 (x : BitVec 32) : x = (x.setWidth 8).setWidth 32 ^^^ ((x >>> 8) <<< 8) := by
  apply BitVec.eq_of_getLsbD_eq
  intro i hi
  rw [BitVec.getLsbD_xor, BitVec.getLsbD_setWidth, BitVec.getLsbD_setWidth, BitVec.getLsbD_shiftLeft, BitVec.getLsbD_ushiftRight]
  by_cases h : i < 8
  · simp [h, hi]
  · have : 8 + (i - 8) = i := by omega
    simp [h, hi, this]

/-- a byte is eight bits -/
theorem stp_eq (x : BitVec 32) (c : BitVec 8) : stp x c = bsN 8 (x ^^^ c.setWidth 32) := by
  unfold stp tab
  have hx : bsN 8 x = bsN 8 ((x.setWidth 8).setWidth 32) ^^^ (x >>> 8) := by
    conv => lhs; rw [split8 x]
    rw [bsN_xor, bsN_shift _ 8 8 (by omega)]
    congr 1
    apply BitVec.eq_of_getLsbD_eq
    intro i hi
    rw [BitVec.getLsbD_ushiftRight, BitVec.getLsbD_shiftLeft, BitVec.getLsbD_ushiftRight]
    by_cases h : 8 + i < 32
    · simp [h]
    · rw [BitVec.getLsbD_ushiftRight, BitVec.getLsbD_of_ge x (8 + i) (by omega)]
      simp [h]
  rw [bsN_xor, hx]
  have hs : (x.setWidth 8 ^^^ c).setWidth 32 = (x.setWidth 8).setWidth 32 ^^^ c.setWidth 32 := by
    apply BitVec.eq_of_getLsbD_eq
    intro i hi
    simp only [BitVec.getLsbD_setWidth, BitVec.getLsbD_xor]
    by_cases h : i < 8 <;> simp [h, hi]
  rw [hs, bsN_xor, BitVec.xor_assoc, BitVec.xor_assoc, BitVec.xor_comm (x >>> 8)]

/-- as the reference says it -/
theorem bs_ref (x : BitVec 32) : bs x = if x % 2#32 = 1#32 then (x / 2#32) ^^^ 3988292384#32 else x / 2#32 := by
  rw [bs_eq]
  have h1 : x / 2#32 = x >>> 1 := by
    apply BitVec.eq_of_toNat_eq
    rw [BitVec.toNat_udiv, BitVec.toNat_ushiftRight, Nat.shiftRight_eq_div_pow]
    rfl
  have h2 : (x % 2#32 = 1#32) ↔ x.getLsbD 0 = true := by
    rw [BitVec.toNat_eq, BitVec.toNat_umod, BitVec.getLsbD, Nat.testBit_zero]
    simp
  rw [h1]
  by_cases h : x % 2#32 = 1#32
  · rw [if_pos h, if_pos (h2.1 h)]
  · rw [if_neg h, if_neg (fun h' => h (h2.2 h'))]

/-! ### two rows of bytes -/
theorem stp_xor (x y : BitVec 32) (c d : BitVec 8) : stp (x ^^^ y) (c ^^^ d) = stp x c ^^^ stp y d := by
  rw [stp_eq, stp_eq, stp_eq, ← bsN_xor]
  congr 1
  have hs : (c ^^^ d).setWidth 32 = c.setWidth 32 ^^^ d.setWidth 32 := by
    apply BitVec.eq_of_getLsbD_eq
    intro i hi
    simp only [BitVec.getLsbD_setWidth, BitVec.getLsbD_xor]
    by_cases h : i < 32 <;> simp [h, hi]
  rw [hs, BitVec.xor_assoc, BitVec.xor_assoc, ← BitVec.xor_assoc y, BitVec.xor_comm y, BitVec.xor_assoc]

theorem fold_xor : ∀ (l m : List (BitVec 8)) (x y : BitVec 32), l.length = m.length → fold (x ^^^ y) (List.zipWith (· ^^^ ·) l m) = fold x l ^^^ fold y m
  | [], [], x, y, _ => rfl
  | c :: l, d :: m, x, y, h => by
    simp only [List.zipWith_cons_cons, fold_cons]
    rw [stp_xor]
    exact fold_xor l m _ _ (by simpa using h)
  | [], _ :: _, _, _, h => by simp at h
  | _ :: _, [], _, _, h => by simp at h

/-! ### four bytes -/
/-- the number of up to four bytes, the least first -/
def le : List (BitVec 8) → BitVec 32
  | [] => 0#32
  | c :: l => c.setWidth 32 ^^^ (le l <<< 8)

theorem fold_le (l : List (BitVec 8)) : ∀ x, l.length ≤ 4 → fold x l = bsN (8 * l.length) (x ^^^ le l) := by
  induction l with
  | nil => intro x _; simp [fold, bsN, le]
  | cons c l ih =>
    intro x h
    simp only [List.length_cons] at h
    rw [fold_cons, ih _ (by omega), stp_eq, List.length_cons, Nat.mul_add, Nat.mul_one, bsN_add]
    congr 1
    rw [le, bsN_xor, bsN_xor, bsN_xor]
    have h8 : bsN 8 (le l <<< 8) = le l := by
      rw [bsN_shift _ 8 8 (by omega)]
      have hb : ∀ (m : List (BitVec 8)) i, m.length ≤ 3 → 24 ≤ i → (le m).getLsbD i = false := by
        intro m
        induction m with
        | nil => intro i _ _; simp [le]
        | cons d m ihm =>
          intro i hm hi
          rw [le, BitVec.getLsbD_xor, BitVec.getLsbD_setWidth, BitVec.getLsbD_shiftLeft]
          have h0 : d.getLsbD i = false := BitVec.getLsbD_of_ge d i (by omega)
          have hlen : m.length ≤ 2 := by simp at hm; omega
          have h1 : (le m).getLsbD (i - 8) = false := by
            match m, hlen with
            | [], _ => simp [le]
            | [a], _ =>
              rw [le, BitVec.getLsbD_xor, BitVec.getLsbD_setWidth, BitVec.getLsbD_of_ge a _ (by omega)]
              simp [le]
            | [a, b], _ =>
              rw [le, BitVec.getLsbD_xor, BitVec.getLsbD_setWidth, BitVec.getLsbD_of_ge a _ (by omega), BitVec.getLsbD_shiftLeft, le, BitVec.getLsbD_xor, BitVec.getLsbD_setWidth, BitVec.getLsbD_of_ge b _ (by omega)]
              simp [le]
          rw [h0, h1]
          simp
      apply BitVec.eq_of_getLsbD_eq
      intro i hi
      rw [BitVec.getLsbD_ushiftRight, BitVec.getLsbD_shiftLeft]
      by_cases hh : 8 + i < 32
      · simp [hh]
      · rw [hb l i (by omega) (by omega)]
        simp [hh]
    rw [h8, BitVec.xor_assoc]

/-! ### a bit can be undone -/
def un (y : BitVec 32) : BitVec 32 := if y.getLsbD 31 then ((y ^^^ 3988292384#32) <<< 1) ||| 1#32 else y <<< 1
theorem un_bs (x : BitVec 32) : un (bs x) = x := by
  have hp : (3988292384#32).getLsbD 31 = true := by decide
  rw [bs_eq]
  unfold un
  have hs : (x >>> 1).getLsbD 31 = false := by rw [BitVec.getLsbD_ushiftRight]; exact BitVec.getLsbD_of_ge _ _ (by omega)
  cases h : x.getLsbD 0
  · simp only [Bool.false_eq_true, if_false, hs]
    apply BitVec.eq_of_getLsbD_eq
    intro i hi
    rw [BitVec.getLsbD_shiftLeft, BitVec.getLsbD_ushiftRight]
    by_cases h0 : i = 0
    · subst h0; rw [h]; simp
    · have : 1 + (i - 1) = i := by omega
      have h1 : ¬ i < 1 := by omega
      simp [this, h1, hi]
  · simp only [if_true, BitVec.getLsbD_xor, hs, hp, Bool.false_xor, BitVec.xor_assoc, BitVec.xor_self, BitVec.xor_zero]
    apply BitVec.eq_of_getLsbD_eq
    intro i hi
    rw [BitVec.getLsbD_or, BitVec.getLsbD_shiftLeft, BitVec.getLsbD_ushiftRight, BitVec.getLsbD_one]
    by_cases h0 : i = 0
    · subst h0; simp [h]
    · have : 1 + (i - 1) = i := by omega
      have h1 : ¬ i < 1 := by omega
      simp [this, h0, h1, hi]

theorem bs_inj {x y : BitVec 32} (h : bs x = bs y) : x = y := by rw [← un_bs x, ← un_bs y, h]
theorem bsN_inj (j : Nat) {x y : BitVec 32} (h : bsN j x = bsN j y) : x = y := by
  induction j with
  | zero => exact h
  | succ j ih => exact ih (bs_inj h)
theorem xor_left_inj {a b c : BitVec 32} (h : a ^^^ c = b ^^^ c) : a = b := by
  have := congrArg (· ^^^ c) h
  simpa [BitVec.xor_assoc] using this
theorem stp_inj {x y : BitVec 32} {c : BitVec 8} (h : stp x c = stp y c) : x = y := by
  rw [stp_eq, stp_eq] at h
  exact xor_left_inj (bsN_inj 8 h)
theorem fold_inj : ∀ (l : List (BitVec 8)) {x y : BitVec 32}, fold x l = fold y l → x = y
  | [], _, _, h => h
  | c :: l, _, _, h => stp_inj (fold_inj l h)

theorem le_inj : ∀ (l m : List (BitVec 8)), l.length = m.length → l.length ≤ 4 → le l = le m → l = m
  | [], [], _, _, _ => rfl
  | c :: l, d :: m, h1, h2, h => by
    simp only [List.length_cons] at h1 h2
    have hb : ∀ i, (le (c :: l)).getLsbD i = (le (d :: m)).getLsbD i := fun i => by rw [h]
    have hcd : c = d := by
      apply BitVec.eq_of_getLsbD_eq
      intro i hi
      have := hb i
      simp only [le, BitVec.getLsbD_xor, BitVec.getLsbD_setWidth, BitVec.getLsbD_shiftLeft] at this
      have h3 : i < 32 := by omega
      simpa [hi, h3] using this
    subst hcd
    have hlm : le l <<< 8 = le m <<< 8 := by
      have : (le l <<< 8) ^^^ c.setWidth 32 = (le m <<< 8) ^^^ c.setWidth 32 := by
        simp only [le] at h
        rw [BitVec.xor_comm, h, BitVec.xor_comm]
      exact xor_left_inj this
    have hlen : l.length ≤ 3 := by omega
    have ht : ∀ (m : List (BitVec 8)), m.length ≤ 3 → le m = (le m <<< 8) >>> 8 := by
      intro m hm
      have := fold_le (0#8 :: m) 0#32 (by simp; omega)
      rw [fold_cons, fold_le m _ (by omega)] at this
      have h0 : stp 0#32 0#8 = 0#32 := by decide
      rw [h0, BitVec.zero_xor, BitVec.zero_xor, List.length_cons, Nat.mul_add, Nat.mul_one, bsN_add] at this
      have h2 := bsN_inj _ this
      have h3 : (0#8).setWidth 32 = 0#32 := by decide
      rw [show le (0#8 :: m) = le m <<< 8 from by rw [le, h3, BitVec.zero_xor], bsN_shift _ 8 8 (by omega)] at h2
      exact h2
    rw [le_inj l m (by omega) (by omega) (by rw [ht l hlen, ht m (by omega), hlm])]
  | [], _ :: _, h, _, _ => by simp at h
  | _ :: _, [], h, _, _ => by simp at h

/-- a window of up to four bytes that was turned turns the sum -/
theorem fold_window {x : BitVec 32} {p q r s : List (BitVec 8)} (hl : q.length = r.length) (h4 : q.length ≤ 4) (h : fold x (p ++ (q ++ s)) = fold x (p ++ (r ++ s))) : q = r := by
  rw [fold_append, fold_append, fold_append, fold_append] at h
  have h1 := fold_inj s h
  rw [fold_le q _ h4, fold_le r _ (by omega), hl] at h1
  have h2 := bsN_inj _ h1
  rw [BitVec.xor_comm, BitVec.xor_comm _ (le r)] at h2
  exact le_inj q r hl h4 (xor_left_inj h2)

end Crc
end Go.Proofs.Ytmilnijpnlhcoaa
