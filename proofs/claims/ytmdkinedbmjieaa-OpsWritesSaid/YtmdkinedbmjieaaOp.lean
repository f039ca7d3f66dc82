/- Instructions as bytes, plain. No condition. -/
import Derived.Test.YtmdkinedbmjieaaEu
namespace Go.Proofs.Ytmdkinedbmjieaa
open Go.RowKit
set_option linter.unusedVariables false
set_option linter.unusedSimpArgs false

abbrev Bs := List (BitVec 8)
/-- the number of a row of bytes, the greatest first -/
def bigN (l : Bs) : Nat := l.foldl (fun v b => v * 256 + b.toNat) 0
theorem bigN_snoc (l : Bs) (b : BitVec 8) : bigN (l ++ [b]) = bigN l * 256 + b.toNat := by simp [bigN]
theorem bigN_from : ∀ (l : Bs) (v : Nat), l.foldl (fun v b => v * 256 + b.toNat) v < (v + 1) * 256 ^ l.length
  | [], v => by simp
  | b :: l, v => by
    have h := bigN_from l (v * 256 + b.toNat)
    have hb := b.isLt
    simp only [List.foldl_cons, List.length_cons]
    refine Nat.lt_of_lt_of_le h ?_
    rw [Nat.pow_succ, Nat.mul_comm (256 ^ l.length) 256, ← Nat.mul_assoc]
    exact Nat.mul_le_mul_right _ (by omega)
theorem bigN_lt (l : Bs) : bigN l < 256 ^ l.length := by have := bigN_from l 0; rw [Nat.zero_add, Nat.one_mul] at this; exact this
theorem step64 (m : Nat) (b : BitVec 8) (h : m < 72057594037927936) : BitVec.ofNat 64 m <<< 8 ||| b.setWidth 64 = BitVec.ofNat 64 (m * 256 + b.toNat) := by
  apply BitVec.eq_of_toNat_eq
  have hb := b.isLt
  have h1 : (BitVec.ofNat 64 m <<< 8).toNat = m <<< 8 := by
    rw [BitVec.toNat_shiftLeft, BitVec.toNat_ofNat, Nat.mod_eq_of_lt (show m < 2 ^ 64 by omega), Nat.mod_eq_of_lt]
    rw [Nat.shiftLeft_eq]; omega
  have h2 : (b.setWidth 64).toNat = b.toNat := by
    rw [BitVec.toNat_setWidth, Nat.mod_eq_of_lt (by omega)]
  rw [BitVec.toNat_or, h1, h2, ← Nat.shiftLeft_add_eq_or_of_lt (show b.toNat < 2 ^ 8 by omega), BitVec.toNat_ofNat, Nat.shiftLeft_eq, Nat.mod_eq_of_lt (by omega)]
/-- the number of n bytes at a place; nought where it isn't -/
def numZ (cs : Bs) (p n : Nat) : Nat := if p + n ≤ cs.length then bigN ((cs.drop p).take n) else 0
theorem numZ_lt (cs : Bs) (p n : Nat) : numZ cs p n < 256 ^ n := by
  unfold numZ
  split
  · have := bigN_lt ((cs.drop p).take n)
    rwa [List.length_take, List.length_drop, Nat.min_eq_left (by omega)] at this
  · exact Nat.pow_pos (by decide)
theorem numZ_in {cs : Bs} {p n : Nat} (h : p + n ≤ cs.length) : numZ cs p n = bigN ((cs.drop p).take n) := if_pos h
theorem numZ_out {cs : Bs} {p n : Nat} (h : ¬ p + n ≤ cs.length) : numZ cs p n = 0 := if_neg h
theorem numZ_one {cs : Bs} {p : Nat} (h : p < cs.length) : numZ cs p 1 = (cs[p]).toNat := by
  rw [numZ_in (by omega), List.drop_eq_getElem_cons h]
  show (0 * 256 + (cs[p]).toNat) = _
  omega
/-- with its sign -/
def sg (bits v : Nat) : Int := if v < 2 ^ (bits - 1) then v else (v : Int) - 2 ^ bits
def far (cs : Bs) (p : Nat) : Int := sg 32 (numZ cs p 4)
theorem sg32_b (v : Nat) (h : v < 4294967296) : -2147483648 ≤ sg 32 v ∧ sg 32 v ≤ 2147483647 := by
  unfold sg; split <;> omega
theorem far_b (cs : Bs) (p : Nat) : -2147483648 ≤ far cs p ∧ far cs p ≤ 2147483647 := sg32_b _ (numZ_lt cs p 4)
theorem sg_wrap32 (v : Nat) (h : v < 4294967296) : IntKind.i32.wrap (v : Int) = sg 32 v := by
  unfold sg
  have he : (v : Int) % 2 ^ IntKind.i32.bits = v := Int.emod_eq_of_lt (by omega) (show (v : Int) < 2 ^ 32 by omega)
  unfold IntKind.wrap
  by_cases hv : v < 2 ^ (32 - 1)
  · rw [if_pos hv, he, if_neg]
    simp only [Bool.and_eq_true, decide_eq_true_eq]
    intro hh
    have h2 : (v : Int) ≥ 2 ^ (32 - 1) := hh.2
    omega
  · rw [if_neg hv, he, if_pos]
    · rfl
    · simp only [Bool.and_eq_true, decide_eq_true_eq]
      exact ⟨rfl, show (v : Int) ≥ 2 ^ (32 - 1) by omega⟩
theorem sg_wrap16 (v : Nat) (h : v < 65536) : IntKind.i16.wrap (v : Int) = sg 16 v := by
  unfold sg
  have he : (v : Int) % 2 ^ IntKind.i16.bits = v := Int.emod_eq_of_lt (by omega) (show (v : Int) < 2 ^ 16 by omega)
  unfold IntKind.wrap
  by_cases hv : v < 2 ^ (16 - 1)
  · rw [if_pos hv, he, if_neg]
    simp only [Bool.and_eq_true, decide_eq_true_eq]
    intro hh
    have h2 : (v : Int) ≥ 2 ^ (16 - 1) := hh.2
    omega
  · rw [if_neg hv, he, if_pos]
    · rfl
    · simp only [Bool.and_eq_true, decide_eq_true_eq]
      exact ⟨rfl, show (v : Int) ≥ 2 ^ (16 - 1) by omega⟩
theorem sg_wrap8 (v : Nat) (h : v < 256) : IntKind.i8.wrap (v : Int) = sg 8 v := by
  unfold sg
  have he : (v : Int) % 2 ^ IntKind.i8.bits = v := Int.emod_eq_of_lt (by omega) (show (v : Int) < 2 ^ 8 by omega)
  unfold IntKind.wrap
  by_cases hv : v < 2 ^ (8 - 1)
  · rw [if_pos hv, he, if_neg]
    simp only [Bool.and_eq_true, decide_eq_true_eq]
    intro hh
    have h2 : (v : Int) ≥ 2 ^ (8 - 1) := hh.2
    omega
  · rw [if_neg hv, he, if_pos]
    · rfl
    · simp only [Bool.and_eq_true, decide_eq_true_eq]
      exact ⟨rfl, show (v : Int) ≥ 2 ^ (8 - 1) by omega⟩
/-- the next fourth place -/
def up4 (p : Nat) : Nat := (p + 3) / 4 * 4
/-- n noughts from a place on -/
def zer (cs : Bs) (p : Nat) : Nat → Bool
  | 0 => true
  | n + 1 => zer cs p n && decide (cs[p + n]? = some 0#8)
/-- an instruction -/
structure Ins where
  p : Int
  len : Int
  op : Int
  a : Int
  b : Int
  keys : List Int
  jumps : List Int
deriving DecidableEq
/-- ranges -/
def inR (n : Nat) : List (Nat × Nat) → Bool
  | [] => false
  | r :: l => (decide (r.1 ≤ n) && decide (n ≤ r.2)) || inR n l
def rBare : List (Nat × Nat) := [(0, 10), (26, 33), (42, 47), (50, 53), (59, 66), (75, 80), (83, 97), (100, 101), (104, 105), (108, 109), (112, 113), (116, 117), (120, 131), (133, 133), (136, 136), (145, 148), (172, 173), (176, 177), (190, 191)]
def rLow : List (Nat × Nat) := [(18, 18), (21, 22), (25, 25), (54, 55), (58, 58), (188, 188)]
def rWide : List (Nat × Nat) := [(19, 20), (178, 184), (187, 187), (189, 189), (192, 193)]
def rHop : List (Nat × Nat) := [(153, 167), (198, 199)]
/-- how an instruction is laid -/
def wayOf (n : Nat) : Nat :=
  if inR n rBare then 1 else if inR n rLow then 2 else if inR n rWide then 4 else if inR n rHop then 7
  else if n = 16 then 3 else if n = 17 then 5 else if n = 132 then 6 else if n = 170 then 8 else if n = 171 then 9 else if n = 185 then 10 else 0
/-- keys rise -/
def rise (cs : Bs) (q : Nat) (n : Nat) : Prop := ∀ i, 0 < i → i < n → far cs (q + 8 * (i - 1)) < far cs (q + 8 * i)
instance (cs : Bs) (q n : Nat) : Decidable (rise cs q n) :=
  decidable_of_iff (∀ i : Fin n, 0 < i.val → far cs (q + 8 * (i.val - 1)) < far cs (q + 8 * i.val)) ⟨fun h i h0 hi => h ⟨i, hi⟩ h0, fun h i h0 => h i.val h0 i.isLt⟩
def tabKeys (cs : Bs) (q n : Nat) : List Int := (List.range n).map (fun i : Nat => far cs (q + 4) + (i : Int))
def tabJumps (cs : Bs) (p q n : Nat) : List Int := ((p : Int) + far cs q) :: (List.range n).map (fun i => (p : Int) + far cs (q + 12 + 4 * i))
def tabN (cs : Bs) (q : Nat) : Nat := (far cs (q + 8) - far cs (q + 4) + 1).toNat
def lukKeys (cs : Bs) (q n : Nat) : List Int := (List.range n).map (fun i => far cs (q + 8 + 8 * i))
def lukJumps (cs : Bs) (p q n : Nat) : List Int := ((p : Int) + far cs q) :: (List.range n).map (fun i => (p : Int) + far cs (q + 8 + 8 * i + 4))
def lukN (cs : Bs) (q : Nat) : Nat := (far cs (q + 4)).toNat
/-- is it there? -/
def oneOk (cs : Bs) (p : Nat) : Nat → Prop
  | 1 => True
  | 2 => p + 2 ≤ cs.length
  | 3 => p + 2 ≤ cs.length
  | 4 => p + 3 ≤ cs.length
  | 5 => p + 3 ≤ cs.length
  | 6 => p + 3 ≤ cs.length
  | 7 => p + 3 ≤ cs.length
  | 8 => zer cs (p + 1) (up4 (p + 1) - (p + 1)) = true ∧ up4 (p + 1) + 12 ≤ cs.length ∧ far cs (up4 (p + 1) + 4) ≤ far cs (up4 (p + 1) + 8) ∧ up4 (p + 1) + 12 + 4 * tabN cs (up4 (p + 1)) ≤ cs.length
  | 9 => zer cs (p + 1) (up4 (p + 1) - (p + 1)) = true ∧ up4 (p + 1) + 8 ≤ cs.length ∧ 0 ≤ far cs (up4 (p + 1) + 4) ∧ up4 (p + 1) + 8 + 8 * lukN cs (up4 (p + 1)) ≤ cs.length ∧ rise cs (up4 (p + 1) + 8) (lukN cs (up4 (p + 1)))
  | 10 => p + 5 ≤ cs.length ∧ numZ cs (p + 4) 1 = 0
  | _ => False
instance (cs : Bs) (p w : Nat) : Decidable (oneOk cs p w) := by
  unfold oneOk; split <;> infer_instance
def oneIs (cs : Bs) (p op : Nat) : Nat → Ins
  | 2 => ⟨p, 2, op, numZ cs (p + 1) 1, 0, [], []⟩
  | 3 => ⟨p, 2, op, sg 8 (numZ cs (p + 1) 1), 0, [], []⟩
  | 4 => ⟨p, 3, op, numZ cs (p + 1) 2, 0, [], []⟩
  | 5 => ⟨p, 3, op, sg 16 (numZ cs (p + 1) 2), 0, [], []⟩
  | 6 => ⟨p, 3, op, numZ cs (p + 1) 1, sg 8 (numZ cs (p + 2) 1), [], []⟩
  | 7 => ⟨p, 3, op, 0, 0, [], [(p : Int) + sg 16 (numZ cs (p + 1) 2)]⟩
  | 8 => ⟨p, ((up4 (p + 1) + 12 + 4 * tabN cs (up4 (p + 1)) - p : Nat) : Int), op, 0, 0, tabKeys cs (up4 (p + 1)) (tabN cs (up4 (p + 1))), tabJumps cs p (up4 (p + 1)) (tabN cs (up4 (p + 1)))⟩
  | 9 => ⟨p, ((up4 (p + 1) + 8 + 8 * lukN cs (up4 (p + 1)) - p : Nat) : Int), op, 0, 0, lukKeys cs (up4 (p + 1)) (lukN cs (up4 (p + 1))), lukJumps cs p (up4 (p + 1)) (lukN cs (up4 (p + 1)))⟩
  | 10 => ⟨p, 5, op, numZ cs (p + 1) 2, numZ cs (p + 3) 1, [], []⟩
  | _ => ⟨p, 1, op, 0, 0, [], []⟩
def opAt (cs : Bs) (p : Nat) : Nat := (cs.getD p 0#8).toNat
def rdOne (cs : Bs) (p : Nat) : Option Ins := if oneOk cs p (wayOf (opAt cs p)) then some (oneIs cs p (opAt cs p) (wayOf (opAt cs p))) else none
theorem up4_ge (p : Nat) : p ≤ up4 p := by unfold up4; omega
theorem up4_lt (p : Nat) : up4 p < p + 4 := by unfold up4; omega
theorem wayOf_le (n : Nat) : wayOf n ≤ 10 := by
  unfold wayOf
  repeat' split
  all_goals omega
theorem rdOne_len {cs : Bs} {p : Nat} {x : Ins} (h : rdOne cs p = some x) (hp : p < cs.length) : x.p = p ∧ 1 ≤ x.len ∧ (p : Int) + x.len ≤ cs.length := by
  unfold rdOne at h
  split at h
  next hok =>
    obtain rfl := Option.some.inj h
    have hu := up4_ge (p + 1)
    have hw := wayOf_le (opAt cs p)
    generalize wayOf (opAt cs p) = w at hok hw
    match w, hw with
    | 0, _ => exact absurd hok id
    | 1, _ => simp only [oneIs]; exact ⟨trivial, by omega, by omega⟩
    | 2, _ | 3, _ | 4, _ | 5, _ | 6, _ | 7, _ => simp only [oneIs, oneOk] at *; exact ⟨trivial, by omega, by omega⟩
    | 8, _ => simp only [oneIs, oneOk] at *; exact ⟨trivial, by omega, by omega⟩
    | 9, _ => simp only [oneIs, oneOk] at *; exact ⟨trivial, by omega, by omega⟩
    | 10, _ => simp only [oneIs, oneOk] at *; exact ⟨trivial, by omega, by omega⟩
    | n + 11, h => omega
  next => cases h
/-- all from a place on -/
def rdFrom (cs : Bs) (p : Nat) : Option (List Ins) :=
  if h : p < cs.length then
    match rdOne cs p with
    | none => none
    | some x => (rdFrom cs (p + (x.len.toNat - 1) + 1)).map (x :: ·)
  else some []
termination_by cs.length - p
theorem rdFrom_end {cs : Bs} {p : Nat} (h : ¬ p < cs.length) : rdFrom cs p = some [] := by
  rw [rdFrom, dif_neg h]
theorem rdFrom_none {cs : Bs} {p : Nat} (h : p < cs.length) (h1 : rdOne cs p = none) : rdFrom cs p = none := by
  rw [rdFrom, dif_pos h, h1]
theorem rdFrom_some {cs : Bs} {p : Nat} {x : Ins} (h : p < cs.length) (h1 : rdOne cs p = some x) : rdFrom cs p = (rdFrom cs (p + x.len.toNat)).map (x :: ·) := by
  have h2 := rdOne_len h1 h
  rw [rdFrom, dif_pos h, h1]
  simp only
  rw [show p + (x.len.toNat - 1) + 1 = p + x.len.toNat by omega]
def lands (xs : List Ins) : Prop := ∀ x ∈ xs, ∀ t ∈ x.jumps, t ∈ xs.map Ins.p
instance (xs : List Ins) : Decidable (lands xs) := by unfold lands; infer_instance
/-- what the bytes are -/
def rd (cs : Bs) : Option (List Ins) :=
  match rdFrom cs 0 with
  | none => none
  | some xs => if xs ≠ [] ∧ lands xs then some xs else none
end Go.Proofs.Ytmdkinedbmjieaa
