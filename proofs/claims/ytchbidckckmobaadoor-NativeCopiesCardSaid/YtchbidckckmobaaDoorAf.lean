/- What the blocks of words are; the walk of the program's Blocks. No condition beyond what each contract names. -/
import Derived.Test.YtchbidckckmobaaDoorAe
namespace Go.Proofs.YtchbidckckmobaaDoor
open Go.RowKit E
set_option linter.unusedVariables false
set_option linter.unusedSimpArgs false
set_option maxRecDepth 100000
attribute [local irreducible] ow qw kw kq cw opW Ret
def chain (ws : List Int) (p : Nat) : Option (List Int) :=
  if h : p < ws.length then
    if (openW (ws.getD p 0)).2.2.2.2 = 0 ∧ (openW (ws.getD p 0)).2.2.1 ≤ (ws.length : Int) - p - 1 then (chain ws (p + 1 + (openW (ws.getD p 0)).2.2.1.toNat)).map ((p : Int) :: ·) else none
  else some []
termination_by ws.length - p
theorem chain_end (ws : List Int) (p : Nat) (h : ¬ p < ws.length) : chain ws p = some [] := by rw [chain, dif_neg h]
theorem chain_no (ws : List Int) (p : Nat) (h : p < ws.length) (hc : ¬ ((openW (ws[p])).2.2.2.2 = 0 ∧ (openW (ws[p])).2.2.1 ≤ (ws.length : Int) - p - 1)) : chain ws p = none := by
  have e : ws.getD p 0 = ws[p] := by rw [List.getD_eq_getElem?_getD, List.getElem?_eq_getElem h]; rfl
  rw [chain, dif_pos h, e, if_neg hc]
theorem chain_yes (ws : List Int) (p : Nat) (h : p < ws.length) (hc : (openW (ws[p])).2.2.2.2 = 0 ∧ (openW (ws[p])).2.2.1 ≤ (ws.length : Int) - p - 1) : chain ws p = (chain ws (p + 1 + (openW (ws[p])).2.2.1.toNat)).map ((p : Int) :: ·) := by
  have e : ws.getD p 0 = ws[p] := by rw [List.getD_eq_getElem?_getD, List.getElem?_eq_getElem h]; rfl
  rw [chain, dif_pos h, e, if_pos hc]
def refOk (ws L : List Int) (b : Int) : Prop := ∀ r ∈ refsW ws b, ws.getD r.toNat 0 ∈ (0 :: L)
instance (ws L : List Int) (b : Int) : Decidable (refOk ws L b) := by unfold refOk; infer_instance
def blocksW (ws : List Int) : Option (List Int) :=
  if ws.length = 0 ∨ ws.getD 0 0 ≠ 0 then none else
  match chain ws 1 with
  | none => none
  | some L => if ∀ b ∈ L, refOk ws L b then some L else none
/-- what Blocks answers -/
def BlkRes (w w' : World) (v : Value) (ws : List Int) : Prop :=
  match blocksW ws with
  | some L => ∃ s, v = .tuple #[s, .int .i64 0] ∧ SlNew w w' s L
  | none => v = .tuple #[.slice none 0 0, .int .i64 24] ∧ Keep [] w w'
theorem blk_none {w w' : World} {ws : List Int} (h : blocksW ws = none) (hk : Keep [] w w') : BlkRes w w' (.tuple #[.slice none 0 0, .int .i64 24]) ws := by
  unfold BlkRes; rw [h]; exact ⟨rfl, hk⟩
theorem blk_some {w w' : World} {ws L : List Int} {s : Value} (h : blocksW ws = some L) (hs : SlNew w w' s L) : BlkRes w w' (.tuple #[s, .int .i64 0]) ws := by
  unfold BlkRes; rw [h]; exact ⟨s, rfl, hs⟩
theorem blocks_c (ws : List Int) (h0 : 0 < ws.length) (hz : ws[0] = 0) (hc : chain ws 1 = none) : blocksW ws = none := by
  have e : ws.getD 0 0 = ws[0] := by rw [List.getD_eq_getElem?_getD, List.getElem?_eq_getElem h0]; rfl
  unfold blocksW
  rw [if_neg (by rw [e]; omega), hc]
theorem blocks_b (ws L : List Int) (h0 : 0 < ws.length) (hz : ws[0] = 0) (hc : chain ws 1 = some L) : blocksW ws = if ∀ b ∈ L, refOk ws L b then some L else none := by
  have e : ws.getD 0 0 = ws[0] := by rw [List.getD_eq_getElem?_getD, List.getElem?_eq_getElem h0]; rfl
  unfold blocksW
  rw [if_neg (by rw [e]; omega), hc]
theorem refU_lt (kind mask p : Int) (i : Nat) : ∀ r ∈ refU kind mask p i, p + 1 ≤ r ∧ r ≤ p + i := by
  induction i with
  | zero => intro r hr; simp [refU] at hr
  | succ i ih =>
    intro r hr
    unfold refU at hr
    rcases List.mem_append.1 hr with h | h
    · have := ih r h; omega
    · split at h
      · simp at h; omega
      · simp at h
theorem refs_lt (ws : List Int) (p : Int) : ∀ r ∈ refsW ws p, 0 ≤ r ∧ r < ws.length := by
  intro r hr
  unfold refsW at hr
  split at hr
  · unfold refsO at hr
    split at hr
    · rename_i h1 h2
      have := refU_lt _ _ _ _ r hr
      omega
    · simp at hr
  · simp at hr
theorem refs_len (ws : List Int) (p : Int) : (refsW ws p).length ≤ 65536 := by
  unfold refsW
  split
  · unfold refsO
    split
    · rename_i h1 h2
      have hF := open_f _ h2.1
      have := refU_le (openW (ws.getD p.toNat 0)).1 (openW (ws.getD p.toNat 0)).2.2.2.1 p (openW (ws.getD p.toNat 0)).2.2.1.toNat
      have h3 := hF.n1
      omega
    · simp
  · simp
theorem inf4 : infB Tryd.prog 4 1 1 (.bool false) := by
  refine ⟨_, rfl, rfl, rfl, rfl⟩
theorem sl_mp {κ : Type} {w : World} {E : TypeId} {sz : Nat} {a : Option Addr} {m c r : Nat} {xs : List Value} {kv : κ → Value} {l : List (κ × Value)} (hs : Sl w E sz a m c xs) (hm : Mp w r kv l) : r ∉ blkOf a := by
  obtain ⟨_, hs⟩ := hs
  obtain ⟨es, ck, hh, _⟩ := hm
  rcases hs with ⟨rfl, _⟩ | ⟨g, cur, rfl, hb, _⟩
  · simp [blkOf]
  · intro hr
    simp [blkOf] at hr
    subst hr
    unfold Blk at hb
    rw [hh] at hb
    simp at hb
/-- the map of the heads -/
def HM (l : List (Int × Value)) (L : List Int) : Prop := ∀ x, getM l x = if x ∈ (0 :: L) then some (.bool true) else none
theorem HM.put {l : List (Int × Value)} {L : List Int} (h : HM l L) (p : Int) : HM (putM l p (.bool true)) (L ++ [p]) := by
  intro x
  rw [getM_put, h x]
  by_cases hx : x = p
  · subst hx; simp
  · simp [hx]
theorem HM.look {l : List (Int × Value)} {L : List Int} (h : HM l L) (x : Int) : (getM l x).getD (.bool false) = .bool (decide (x ∈ (0 :: L))) := by
  rw [h x]
  by_cases hx : x ∈ (0 :: L)
  · rw [if_pos hx, decide_eq_true hx]; rfl
  · rw [if_neg hx, decide_eq_false hx]; rfl
end Go.Proofs.YtchbidckckmobaaDoor
