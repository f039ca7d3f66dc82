/- Copies within a string, plain. No condition beyond what each lemma names. -/
import Derived.Test.YtchbidckckmobaaDoorHl
namespace Go.Proofs.YtchbidckckmobaaDoor
open Go.RowKit E
set_option linter.unusedVariables false
set_option linter.unusedSimpArgs false
set_option maxRecDepth 100000
attribute [local irreducible] ow qw kw kq cw opW Ret
theorem StrAt.cell {ws L : List Int} {p : Int} {us : Us} (h : StrAt ws L p us) {x : Nat} (hx : x < us.length) : cellH ws L p (x : Int) = (p + 1 + x, false, 0) := by
  obtain ⟨c, hk⟩ := h.look
  obtain ⟨q, c', m, rfl, hp, ho, hl, hu⟩ := h
  unfold cellH
  rw [hk, if_neg (by simp), if_neg (by simp only; omega), show (q : Int).toNat = q from by omega, ho]
  simp [refB]
theorem StrAt.get {ws L : List Int} {p : Int} {us : Us} (h : StrAt ws L p us) {x : Nat} (hx : x < us.length) : getH ws L p (x : Int) = (ui (us[x]), 0) := by
  have hc := h.cell hx
  obtain ⟨q, c', m, rfl, hp, ho, hl, hu⟩ := h
  unfold getH
  rw [hc, if_neg (by simp)]
  simp only
  rw [show ((q : Int) + 1 + (x : Int)).toNat = q + 1 + x from by omega, hu x hx]
theorem getD_set {l : List Int} {a b : Nat} {v : Int} : (l.set a v).getD b 0 = if a = b ∧ a < l.length then v else l.getD b 0 := by
  simp only [List.getD, List.getElem?_set]
  by_cases h : a = b
  · subst h
    by_cases h2 : a < l.length
    · simp [h2]
    · simp [h2]
  · simp [h]
theorem StrAt.set {ws L : List Int} {p : Int} {us : Us} (h : StrAt ws L p us) {x : Nat} (hx : x < us.length) (v : BitVec 16) : (setH ws L p (x : Int) (ui v)).1 = 0 ∧ StrAt (setH ws L p (x : Int) (ui v)).2 L p (us.set x v) := by
  have hc := h.cell hx
  obtain ⟨q, c', m, rfl, hp, ho, hl, hu⟩ := h
  unfold setH
  rw [hc, if_neg (by simp), if_neg (by simp)]
  refine ⟨rfl, q, c', m, rfl, hp, ?_, by simp; omega, fun y hy => ?_⟩
  · simp only
    rw [getD_set, if_neg (by omega), ho]
    simp
  · simp only
    rw [List.length_set] at hy
    rw [getD_set]
    by_cases hxy : x = y
    · subst hxy
      rw [if_pos (by omega)]
      simp
    · rw [if_neg (by omega), hu y hy, List.getElem_set_ne hxy]
theorem StrAt.step {ws L : List Int} {p : Int} {us : Us} (h : StrAt ws L p us) {a b : Nat} (ha : a < us.length) (hb : b < us.length) (i k j : Int) (hia : i + j = a) (hkb : k + j = b) : StrAt (stepC L p i p k ws j) L p (us.set b (us[a])) := by
  unfold stepC
  rw [hia, hkb, h.get ha]
  exact (h.set hb _).2
/-- after m cells -/
theorem run_str {L : List Int} {p : Int} {ws : List Int} {us : Us} (h : StrAt ws L p us) (i k n : Nat) (h1 : i + n ≤ us.length) (h2 : k + n ≤ us.length) (m : Nat) (hm : m ≤ n) :
    ∃ vs : Us, StrAt (runC L p i p k n (p = p ∧ (i : Int) < k) ws m) L p vs ∧ vs.length = us.length ∧ ∀ x, vs[x]? = if (if i < k then k + n - m ≤ x ∧ x < k + n else k ≤ x ∧ x < k + m) then us[i + x - k]? else us[x]? := by
  induction m with
  | zero => exact ⟨us, h, rfl, fun x => by split <;> rw [if_neg (by omega)]⟩
  | succ m ih =>
    obtain ⟨vs, hs, hl, hx⟩ := ih (by omega)
    by_cases hik : i < k
    · have ho : ordC (p = p ∧ (i : Int) < k) n m = ((n - 1 - m : Nat) : Int) := by unfold ordC; rw [if_pos ⟨rfl, by omega⟩]; omega
      have hst := hs.step (a := i + (n - 1 - m)) (b := k + (n - 1 - m)) (by omega) (by omega) i k (n - 1 - m : Nat) (by omega) (by omega)
      refine ⟨_, by show StrAt (stepC L p i p k _ (ordC _ _ m)) L p _; rw [ho]; exact hst, by simp [hl], fun x => ?_⟩
      have hsrc := hx (i + (n - 1 - m))
      simp only [if_pos hik] at hx hsrc ⊢
      rw [if_neg (by omega)] at hsrc
      rw [List.getElem?_set, hx x]
      by_cases hb : k + (n - 1 - m) = x
      · subst hb
        rw [if_pos rfl, if_pos (by omega), if_pos (by omega), ← List.getElem?_eq_getElem, hsrc]
        congr 1
        omega
      · rw [if_neg hb]
        by_cases hin : k + n - m ≤ x ∧ x < k + n
        · rw [if_pos hin, if_pos (by omega)]
        · rw [if_neg hin, if_neg (by omega)]
    · have ho : ordC (p = p ∧ (i : Int) < k) n m = (m : Int) := by unfold ordC; rw [if_neg (by omega)]
      have hst := hs.step (a := i + m) (b := k + m) (by omega) (by omega) i k m (by omega) (by omega)
      refine ⟨_, by show StrAt (stepC L p i p k _ (ordC _ _ m)) L p _; rw [ho]; exact hst, by simp [hl], fun x => ?_⟩
      have hsrc := hx (i + m)
      simp only [if_neg hik] at hx hsrc ⊢
      rw [if_neg (by omega)] at hsrc
      rw [List.getElem?_set, hx x]
      by_cases hb : k + m = x
      · subst hb
        rw [if_pos rfl, if_pos (by omega), if_pos (by omega), ← List.getElem?_eq_getElem, hsrc]
        congr 1
        omega
      · rw [if_neg hb]
        by_cases hin : k ≤ x ∧ x < k + m
        · rw [if_pos hin, if_pos (by omega)]
        · rw [if_neg hin, if_neg (by omega)]
def cpU (us : Us) (i k n : Nat) : Us := us.take k ++ (us.drop i).take n ++ us.drop (k + n)
theorem cpU_at (us : Us) (i k n : Nat) (h1 : i + n ≤ us.length) (h2 : k + n ≤ us.length) (x : Nat) : (cpU us i k n)[x]? = if k ≤ x ∧ x < k + n then us[i + x - k]? else us[x]? := by
  unfold cpU
  have l1 : (us.take k).length = k := by simp; omega
  have l2 : ((us.drop i).take n).length = n := by simp; omega
  by_cases hx : x < k
  · rw [if_neg (by omega), List.getElem?_append_left (by simp; omega), List.getElem?_append_left (by omega), List.getElem?_take_of_lt hx]
  · by_cases hx2 : x < k + n
    · rw [if_pos (by omega), List.getElem?_append_left (by simp; omega), List.getElem?_append_right (by omega), l1, List.getElem?_take_of_lt (by omega), List.getElem?_drop]
      congr 1; omega
    · rw [if_neg (by omega), List.getElem?_append_right (by simp; omega), List.getElem?_drop, List.length_append, l1, l2]
      congr 1; omega
theorem cpU_len (us : Us) (i k n : Nat) (h1 : i + n ≤ us.length) (h2 : k + n ≤ us.length) : (cpU us i k n).length = us.length := by
  unfold cpU; simp; omega
theorem copy_str {L : List Int} {p : Int} {ws : List Int} {us : Us} (h : StrAt ws L p us) (i k n : Nat) :
    if i + n ≤ us.length ∧ k + n ≤ us.length then ∃ ws', copyN ws L p i p k n = (0, ws') ∧ StrAt ws' L p (cpU us i k n) else copyN ws L p i p k n = (1, ws) := by
  obtain ⟨c, hk⟩ := h.look
  have e : copyN ws L p i p k n = if (n : Int) < 0 ∨ (i : Int) < 0 ∨ (k : Int) < 0 ∨ (us.length : Int) - n < i ∨ (us.length : Int) - n < k then (1, ws) else (0, runC L p i p k n (p = p ∧ (i : Int) < k) ws (n : Int).toNat) := by
    unfold copyN
    rw [hk]
    dsimp only
    rw [if_neg (fun hh => hh rfl), if_neg (fun hh => hh rfl), if_neg (by simp)]
  by_cases hf : i + n ≤ us.length ∧ k + n ≤ us.length
  · rw [if_pos hf]
    rw [if_neg (by omega)] at e
    obtain ⟨vs, hs, hl, hx⟩ := run_str h i k n hf.1 hf.2 n (Nat.le_refl _)
    refine ⟨_, e, ?_⟩
    have hv : vs = cpU us i k n := by
      refine List.ext_getElem? fun x => ?_
      rw [hx x, cpU_at us i k n hf.1 hf.2]
      by_cases hin : k ≤ x ∧ x < k + n
      · rw [if_pos hin, if_pos (by split <;> omega)]
      · rw [if_neg hin, if_neg (by split <;> omega)]
    rw [← hv, show ((n : Int)).toNat = n from by omega]
    exact hs
  · rw [if_neg hf, e, if_pos (by omega)]
end Go.Proofs.YtchbidckckmobaaDoor
