/- Canonical prefix codes, plain. No condition. -/
import Derived.Test.YtpmlhlefhmgpfaaBp
namespace Go.Proofs.Ytpmlhlefhmgpfaa
open Go.RowKit
set_option linter.unusedVariables false
set_option linter.unusedSimpArgs false

/-- the symbols of a length; none has the length 0 -/
def syms (L : List Nat) (n : Nat) : List Nat := (List.range L.length).filter (fun s => decide (L.getD s 0 = n ∧ n ≠ 0))
def cnt (L : List Nat) (n : Nat) : Nat := (syms L n).length
/-- the first word of a length -/
def fst (L : List Nat) : Nat → Nat
  | 0 => 0
  | n + 1 => 2 * (fst L n + cnt L n)
/-- how much the words up to a length take, in parts of 2^15 -/
def kr (L : List Nat) : Nat → Nat
  | 0 => 0
  | n + 1 => kr L n + cnt L (n + 1) * 2 ^ (15 - (n + 1))
def used (L : List Nat) : Nat := (L.filter (fun x => decide (x ≠ 0))).length

theorem syms_app (L : List Nat) (x n : Nat) : syms (L ++ [x]) n = syms L n ++ (if x = n ∧ n ≠ 0 then [L.length] else []) := by
  unfold syms
  rw [List.length_append, List.length_singleton, List.range_succ, List.filter_append]
  congr 1
  · apply List.filter_congr
    intro s hs
    rw [List.mem_range] at hs
    rw [List.getD_eq_getElem?_getD, List.getElem?_append_left hs, ← List.getD_eq_getElem?_getD]
  · rw [List.filter_cons, List.filter_nil]
    rw [List.getD_eq_getElem?_getD, List.getElem?_append_right (Nat.le_refl _), Nat.sub_self]
    simp
theorem cnt_app (L : List Nat) (x n : Nat) : cnt (L ++ [x]) n = cnt L n + (if x = n ∧ n ≠ 0 then 1 else 0) := by
  unfold cnt
  rw [syms_app, List.length_append]
  congr 1
  split <;> rfl
theorem syms_nil (n : Nat) : syms [] n = [] := rfl
theorem cnt_nil (n : Nat) : cnt [] n = 0 := rfl
theorem syms_zero (L : List Nat) : syms L 0 = [] := by
  unfold syms
  rw [List.filter_eq_nil_iff]
  intro s _
  simp
theorem cnt_zero (L : List Nat) : cnt L 0 = 0 := by unfold cnt; rw [syms_zero]; rfl
theorem used_app (L : List Nat) (x : Nat) : used (L ++ [x]) = used L + (if x ≠ 0 then 1 else 0) := by
  unfold used
  rw [List.filter_append, List.length_append, List.filter_cons, List.filter_nil]
  congr 1
  by_cases h : x = 0 <;> simp [h]
theorem take_succ' (L : List Nat) (i : Nat) (h : i < L.length) : L.take (i + 1) = L.take i ++ [L[i]] := by
  rw [List.take_succ_eq_append_getElem h]
theorem syms_take (L : List Nat) (i n : Nat) (h : i < L.length) : syms (L.take (i + 1)) n = syms (L.take i) n ++ (if L[i] = n ∧ n ≠ 0 then [i] else []) := by
  rw [take_succ' L i h, syms_app, List.length_take, Nat.min_eq_left (Nat.le_of_lt h)]
theorem cnt_take (L : List Nat) (i n : Nat) (h : i < L.length) : cnt (L.take (i + 1)) n = cnt (L.take i) n + (if L[i] = n ∧ n ≠ 0 then 1 else 0) := by
  rw [take_succ' L i h, cnt_app]
theorem used_take (L : List Nat) (i : Nat) (h : i < L.length) : used (L.take (i + 1)) = used (L.take i) + (if L[i] ≠ 0 then 1 else 0) := by
  rw [take_succ' L i h, used_app]
theorem cnt_take_le (L : List Nat) (n : Nat) : ∀ (d i : Nat), i + d ≤ L.length → cnt (L.take i) n ≤ cnt (L.take (i + d)) n
  | 0, i, _ => Nat.le_refl _
  | d + 1, i, h => by
    have := cnt_take_le L n d i (by omega)
    rw [← Nat.add_assoc, cnt_take L (i + d) n (by omega)]
    omega
theorem cnt_pre (L : List Nat) (i n : Nat) (h : i ≤ L.length) : cnt (L.take i) n ≤ cnt L n := by
  have := cnt_take_le L n (L.length - i) i (by omega)
  rwa [show i + (L.length - i) = L.length by omega, List.take_length] at this
theorem cnt_lt (L : List Nat) (i : Nat) (h : i < L.length) (h0 : L[i] ≠ 0) : cnt (L.take i) L[i] < cnt L L[i] := by
  have := cnt_pre L (i + 1) L[i] (by omega)
  rw [cnt_take L i _ h, if_pos ⟨rfl, h0⟩] at this
  omega
theorem cnt_le (L : List Nat) (n : Nat) : cnt L n ≤ L.length := by
  unfold cnt syms
  have := List.length_filter_le (fun s => decide (L.getD s 0 = n ∧ n ≠ 0)) (List.range L.length)
  simpa using this
theorem used_le (L : List Nat) : used L ≤ L.length := List.length_filter_le _ _
/-- the place of a symbol among those of its length -/
theorem syms_at (L : List Nat) (s : Nat) (h : s < L.length) (h0 : L[s] ≠ 0) : (syms L L[s])[cnt (L.take s) L[s]]? = some s := by
  have key : ∀ d, s + 1 + d ≤ L.length → (syms (L.take (s + 1 + d)) L[s])[cnt (L.take s) L[s]]? = some s := by
    intro d
    induction d with
    | zero =>
      intro _
      rw [Nat.add_zero, syms_take L s _ h, if_pos ⟨rfl, h0⟩]
      unfold cnt
      rw [List.getElem?_append_right (Nat.le_refl _), Nat.sub_self]
      rfl
    | succ d ih =>
      intro hd
      have := ih (by omega)
      rw [← Nat.add_assoc, syms_take L (s + 1 + d) _ (by omega), List.getElem?_append_left (List.getElem?_eq_some_iff.1 this).1]
      exact this
  have := key (L.length - (s + 1)) (by omega)
  rwa [show s + 1 + (L.length - (s + 1)) = L.length by omega, List.take_length] at this
theorem syms_mem (L : List Nat) (n k s : Nat) (h : (syms L n)[k]? = some s) : ∃ hs : s < L.length, L[s] = n ∧ n ≠ 0 := by
  have hm := List.mem_of_getElem? h
  unfold syms at hm
  rw [List.mem_filter, List.mem_range] at hm
  have h2 := of_decide_eq_true hm.2
  refine ⟨hm.1, ?_, h2.2⟩
  have := h2.1
  rwa [List.getD_eq_getElem?_getD, List.getElem?_eq_getElem hm.1] at this
theorem kr_fst (L : List Nat) : ∀ n, n ≤ 15 → (fst L n + cnt L n) * 2 ^ (15 - n) = kr L n
  | 0, _ => by rw [cnt_zero]; unfold fst kr; simp
  | n + 1, h => by
    have ih := kr_fst L n (by omega)
    unfold fst kr
    rw [← ih, show 15 - n = (15 - (n + 1)) + 1 by omega, Nat.pow_succ, Nat.add_mul]
    congr 1
    rw [Nat.mul_comm 2, Nat.mul_assoc, Nat.mul_comm 2]
theorem kr_mono (L : List Nat) (n : Nat) : ∀ d, kr L n ≤ kr L (n + d)
  | 0 => Nat.le_refl _
  | d + 1 => by
    have := kr_mono L n d
    show kr L n ≤ kr L (n + d) + _
    omega
theorem kr_le (L : List Nat) (n : Nat) (h : n ≤ 15) : kr L n ≤ kr L 15 := by
  have := kr_mono L n (15 - n)
  rwa [show n + (15 - n) = 15 by omega] at this
theorem kr_app (L : List Nat) (x : Nat) : ∀ n, kr (L ++ [x]) n = kr L n + (if x ≠ 0 ∧ x ≤ n then 2 ^ (15 - x) else 0)
  | 0 => by
    rw [if_neg (by omega)]; rfl
  | n + 1 => by
    unfold kr
    rw [kr_app L x n, cnt_app, Nat.add_mul]
    by_cases h : x = n + 1
    · subst h
      rw [if_neg (by omega), if_pos ⟨rfl, by omega⟩, if_pos ⟨by omega, Nat.le_refl _⟩]
      omega
    · rw [if_neg (show ¬ (x = n + 1 ∧ n + 1 ≠ 0) from fun hh => h hh.1)]
      by_cases h2 : x ≠ 0 ∧ x ≤ n
      · rw [if_pos h2, if_pos ⟨h2.1, by omega⟩]; omega
      · rw [if_neg h2, if_neg (by omega)]; omega
theorem kr_take (L : List Nat) (i : Nat) (h : i < L.length) (h15 : L[i] ≤ 15) : kr (L.take (i + 1)) 15 = kr (L.take i) 15 + (if L[i] ≠ 0 then 2 ^ (15 - L[i]) else 0) := by
  rw [take_succ' L i h, kr_app]
  congr 1
  by_cases h0 : L[i] = 0
  · rw [if_neg (by omega), if_neg (by omega)]
  · rw [if_pos ⟨h0, h15⟩, if_pos h0]
theorem kr_used_take (L : List Nat) (hL : ∀ x ∈ L, x ≤ 15) : ∀ i, i ≤ L.length → kr (L.take i) 15 ≤ used (L.take i) * 2 ^ 14
  | 0, _ => by rw [List.take_zero]; decide
  | i + 1, h => by
    have ih := kr_used_take L hL i (by omega)
    have h15 := hL _ (List.getElem_mem (show i < L.length by omega))
    rw [kr_take L i (by omega) h15, used_take L i (by omega)]
    by_cases h0 : L[i] = 0
    · rw [if_neg (by omega), if_neg (by omega)]; omega
    · rw [if_pos h0, if_pos h0, Nat.add_mul]
      have : 2 ^ (15 - L[i]) ≤ 2 ^ 14 := Nat.pow_le_pow_right (by decide) (by omega)
      omega
theorem kr_used (L : List Nat) (hL : ∀ x ∈ L, x ≤ 15) : kr L 15 ≤ used L * 2 ^ 14 := by
  have := kr_used_take L hL L.length (Nat.le_refl _)
  rwa [List.take_length] at this

/-- the lengths are a code -/
def Fit (L : List Nat) (lone : Bool) : Prop := kr L 15 = 32768 ∨ (lone = true ∧ (used L = 0 ∨ (used L = 1 ∧ cnt L 1 = 1)))
instance (L : List Nat) (lone : Bool) : Decidable (Fit L lone) := by unfold Fit; infer_instance
theorem Fit.le {L : List Nat} {lone : Bool} (h : Fit L lone) (hL : ∀ x ∈ L, x ≤ 15) : kr L 15 ≤ 32768 := by
  rcases h with h | ⟨_, h⟩
  · omega
  · have := kr_used L hL
    omega
/-- the words of a length lie below its power -/
theorem fst_lt {L : List Nat} (h : kr L 15 ≤ 32768) (n : Nat) (hn : n ≤ 15) : fst L n + cnt L n ≤ 2 ^ n := by
  have h1 := kr_fst L n hn
  have h2 := kr_le L n hn
  have hp : 0 < 2 ^ (15 - n) := Nat.pow_pos (by decide)
  have h3 : 2 ^ n * 2 ^ (15 - n) = 32768 := by
    rw [← Nat.pow_add, show n + (15 - n) = 15 by omega]
  exact Nat.le_of_mul_le_mul_right (by rw [h1, h3]; omega) hp
theorem fst_lt15 {L : List Nat} (h : kr L 15 ≤ 32768) (n : Nat) (hn : n ≤ 15) : fst L n + cnt L n ≤ 32768 := by
  have h1 := fst_lt h n hn
  have : 2 ^ n ≤ 2 ^ 15 := Nat.pow_le_pow_right (by decide) hn
  omega
/-- longer words lie above the shorter ones -/
theorem fst_up (L : List Nat) (m : Nat) : ∀ d, (fst L m + cnt L m) * 2 ^ (d + 1) ≤ fst L (m + d + 1)
  | 0 => by show _ ≤ 2 * (fst L m + cnt L m); omega
  | d + 1 => by
    have ih := fst_up L m d
    show _ ≤ 2 * (fst L (m + d + 1) + cnt L (m + d + 1))
    rw [Nat.pow_succ, ← Nat.mul_assoc]
    omega
/-- a symbol's word, and how many bits it has -/
def wdN (L : List Nat) (s : Nat) : Nat × Nat := if L.getD s 0 = 0 then (0, 0) else (fst L (L.getD s 0) + cnt (L.take s) (L.getD s 0), L.getD s 0)
def wd (L : List Nat) (s : Int) : Nat × Nat := if s < 0 then (0, 0) else wdN L s.toNat
theorem wdN_out (L : List Nat) (s : Nat) (h : L.length ≤ s) : wdN L s = (0, 0) := by
  unfold wdN
  rw [if_pos (by rw [List.getD_eq_getElem?_getD, List.getElem?_eq_none h]; rfl)]
theorem wdN_at (L : List Nat) (s : Nat) (h : s < L.length) (h0 : L[s] ≠ 0) : wdN L s = (fst L L[s] + cnt (L.take s) L[s], L[s]) := by
  have e : L.getD s 0 = L[s] := by rw [List.getD_eq_getElem?_getD, List.getElem?_eq_getElem h]; rfl
  unfold wdN
  rw [e, if_neg h0]
theorem wdN_none (L : List Nat) (s : Nat) (h : s < L.length) (h0 : L[s] = 0) : wdN L s = (0, 0) := by
  have e : L.getD s 0 = L[s] := by rw [List.getD_eq_getElem?_getD, List.getElem?_eq_getElem h]; rfl
  unfold wdN
  rw [e, if_pos h0]
/-- what stands under a word -/
def hit (L : List Nat) (n b : Nat) : Option Nat := if fst L n ≤ b then (syms L n)[b - fst L n]? else none
/-- the greatest length -/
def mostL : List Nat → Nat := List.foldl max 0
theorem foldl_max (L : List Nat) : ∀ a, L.foldl max a = max a (mostL L) := by
  induction L with
  | nil => intro a; simp [mostL]
  | cons x L ih => intro a; unfold mostL; rw [List.foldl_cons, List.foldl_cons, ih, ih]; omega
theorem most_app (L : List Nat) (x : Nat) : mostL (L ++ [x]) = max (mostL L) x := by
  unfold mostL; rw [List.foldl_append]; rfl
theorem most_take (L : List Nat) (i : Nat) (h : i < L.length) : mostL (L.take (i + 1)) = max (mostL (L.take i)) L[i] := by
  rw [take_succ' L i h, most_app]
theorem most_le (L : List Nat) : ∀ x ∈ L, x ≤ mostL L := by
  induction L with
  | nil => intro x h; simp at h
  | cons y L ih =>
    intro x h
    unfold mostL
    rw [List.foldl_cons, foldl_max]
    rcases List.mem_cons.1 h with rfl | h
    · omega
    · have := ih x h; omega
theorem most_mem (L : List Nat) : mostL L = 0 ∨ mostL L ∈ L := by
  induction L with
  | nil => left; rfl
  | cons y L ih =>
    unfold mostL
    rw [List.foldl_cons, foldl_max, show max 0 y = y by omega]
    rcases Nat.le_total y (mostL L) with h | h
    · rw [Nat.max_eq_right h]
      rcases ih with ih | ih
      · left; exact ih
      · right; exact List.mem_cons_of_mem _ ih
    · rw [Nat.max_eq_left h]; right; exact List.mem_cons_self
theorem most_15 (L : List Nat) (hL : ∀ x ∈ L, x ≤ 15) : mostL L ≤ 15 := by
  rcases most_mem L with h | h
  · omega
  · exact hL _ h
/-- none of a greater length -/
theorem cnt_above (L : List Nat) (n : Nat) (h : mostL L < n) : cnt L n = 0 := by
  unfold cnt syms
  rw [List.length_eq_zero_iff, List.filter_eq_nil_iff]
  intro s hs
  rw [List.mem_range] at hs
  have := most_le L _ (List.getElem_mem hs)
  rw [List.getD_eq_getElem?_getD, List.getElem?_eq_getElem hs]
  simp
  intro hh
  omega
theorem cnt_most (L : List Nat) (h : mostL L ≠ 0) : cnt L (mostL L) ≠ 0 := by
  rcases most_mem L with h' | h'
  · exact absurd h' h
  · obtain ⟨s, hs, e⟩ := List.getElem_of_mem h'
    have := cnt_lt L s hs (by rw [e]; exact h)
    rw [e] at this
    omega
/-- what Next answers: the symbol, the error, how many bits were passed; k bits may come yet, n came with this word -/
def nx (L : List Nat) (bs : List (BitVec 8)) : Nat → Nat → Nat → Nat → Int × Int × Nat
  | 0, n, b, p => (0, 6, p)
  | k + 1, n, b, p => if 8 * bs.length ≤ p then (0, 2, p) else
      match hit L (n + 1) (2 * b + (bitAt bs p).toNat) with
      | some s => ((s : Int), 0, p + 1)
      | none => nx L bs k (n + 1) (2 * b + (bitAt bs p).toNat) (p + 1)
theorem nx_short {L : List Nat} {bs : List (BitVec 8)} {k n b p : Nat} (h : 8 * bs.length ≤ p) : nx L bs (k + 1) n b p = (0, 2, p) := if_pos h
theorem nx_hit {L : List Nat} {bs : List (BitVec 8)} {k n b p s : Nat} (h : ¬ 8 * bs.length ≤ p) (hh : hit L (n + 1) (2 * b + (bitAt bs p).toNat) = some s) : nx L bs (k + 1) n b p = ((s : Int), 0, p + 1) := by
  unfold nx; rw [if_neg h, hh]
theorem nx_on {L : List Nat} {bs : List (BitVec 8)} {k n b p : Nat} (h : ¬ 8 * bs.length ≤ p) (hh : hit L (n + 1) (2 * b + (bitAt bs p).toNat) = none) : nx L bs (k + 1) n b p = nx L bs k (n + 1) (2 * b + (bitAt bs p).toNat) (p + 1) := by
  rw [nx, if_neg h, hh]
theorem nx_pos (L : List Nat) (bs : List (BitVec 8)) : ∀ k n b p, p ≤ 8 * bs.length → p ≤ (nx L bs k n b p).2.2 ∧ (nx L bs k n b p).2.2 ≤ 8 * bs.length ∧ ((nx L bs k n b p).2.1 = 0 → p < (nx L bs k n b p).2.2)
  | 0, n, b, p, h => by unfold nx; exact ⟨Nat.le_refl _, h, by simp⟩
  | k + 1, n, b, p, h => by
    by_cases hp : 8 * bs.length ≤ p
    · rw [nx_short hp]; exact ⟨Nat.le_refl _, h, by simp⟩
    · cases hh : hit L (n + 1) (2 * b + (bitAt bs p).toNat) with
      | some s => rw [nx_hit hp hh]; exact ⟨by simp, by simp; omega, by simp⟩
      | none =>
        rw [nx_on hp hh]
        have := nx_pos L bs k (n + 1) (2 * b + (bitAt bs p).toNat) (p + 1) (by omega)
        exact ⟨by omega, this.2.1, fun h => by have := this.2.2 h; omega⟩
/-- a symbol's word lies where it is found -/
theorem hit_at (L : List Nat) (s : Nat) (h : s < L.length) (h0 : L[s] ≠ 0) : hit L L[s] (fst L L[s] + cnt (L.take s) L[s]) = some s := by
  unfold hit
  rw [if_pos (by omega), Nat.add_sub_cancel_left]
  exact syms_at L s h h0
/-- no beginning of a word is a word -/
theorem hit_pre (L : List Nat) (s m d : Nat) (h : s < L.length) (h0 : L[s] ≠ 0) (hm : m + d + 1 = L[s]) : hit L m ((fst L L[s] + cnt (L.take s) L[s]) / 2 ^ (d + 1)) = none := by
  unfold hit
  have h1 := fst_up L m d
  rw [hm] at h1
  have hp : 0 < 2 ^ (d + 1) := Nat.pow_pos (by decide)
  have h2 : fst L m + cnt L m ≤ (fst L L[s] + cnt (L.take s) L[s]) / 2 ^ (d + 1) := by
    rw [Nat.le_div_iff_mul_le hp]; omega
  split
  · rw [List.getElem?_eq_none]
    show cnt L m ≤ _
    omega
  · rfl
end Go.Proofs.Ytpmlhlefhmgpfaa
