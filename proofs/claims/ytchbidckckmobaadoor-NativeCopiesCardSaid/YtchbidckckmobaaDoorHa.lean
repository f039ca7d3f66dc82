/- Heads and blocks, plain: what was shown with the arena's laws; cells that are set. No condition beyond what each lemma names. -/
import Derived.Test.YtchbidckckmobaaDoorAj
namespace Go.Proofs.YtchbidckckmobaaDoor
open Go.RowKit E
set_option linter.unusedVariables false
set_option linter.unusedSimpArgs false
set_option maxRecDepth 100000
attribute [local irreducible] ow qw kw kq cw opW Ret
theorem open_head (k c n m : Int) (h : hOk k c n m) : openW (k + 4 * c + 262144 * n + 16777216 * m) = (k, c, n, m, 0) := by
  have hy := head_yes h
  obtain ⟨h1, h2, h3, h4, h5, h6, h7, h8⟩ := h
  have hm : 0 ≤ m ∧ m < 4294967296 := by
    by_cases hk : k = 1
    · have := h8 hk
      have hp := ipow32 n.toNat (by omega)
      omega
    · have := h7 hk; omega
  have h9 : k = 1 → n ≤ 32 := fun hk => (h8 hk).1
  clear h8
  refine open_yes _ k c n m (by unfold pk; omega) (by unfold pc; omega) ?_ ?_ hy
  · unfold pn
    split <;> omega
  · unfold pm
    split <;> omega
theorem open_err (x : Int) (h : (openW x).2.2.2.2 ≠ 0) : openW x = (0, 0, 0, 0, 24) := by
  unfold openW at h ⊢
  split at h
  · simp at h
  · rename_i hh; rw [if_neg hh]
theorem open_back (x : Int) (h : (openW x).2.2.2.2 = 0) : headW (openW x).1 (openW x).2.1 (openW x).2.2.1 (openW x).2.2.2.1 = (x, 0) := by
  unfold openW at h ⊢
  split at h
  · rename_i hh; rw [if_pos hh]; exact hh
  · simp at h
theorem head_open (k c n m : Int) (h : (headW k c n m).2 = 0) : openW (headW k c n m).1 = (k, c, n, m, 0) := by
  by_cases hk : hOk k c n m
  · rw [head_yes hk]; exact open_head k c n m hk
  · rw [head_no hk] at h; simp at h
theorem open_rng (x : Int) (h : (openW x).2.2.2.2 = 0) : (-9223372036854775808 ≤ (openW x).2.1 ∧ (openW x).2.1 ≤ 9223372036854775807) := by
  unfold openW at h ⊢
  split at h
  · rename_i hh; rw [if_pos hh]; simp only; unfold pc; omega
  · simp at h
theorem ap_at (ws t : List Int) (p : Nat) (h : p < ws.length) (h' : p < (ws ++ t).length) : (ws ++ t)[p] = ws[p] := List.getElem_append_left h
theorem chain_app' (ws zs : List Int) (hd : Int) (hz : (openW hd).2.2.2.2 = 0) (hn : (openW hd).2.2.1 = zs.length) (d : Nat) : ∀ p, ws.length - p ≤ d → p ≤ ws.length → ∀ L, chain ws p = some L → chain (ws ++ hd :: zs) p = some (L ++ [(ws.length : Int)]) := by
  induction d with
  | zero =>
    intro p hp hpl L hL
    have hp' : p = ws.length := by omega
    subst hp'
    rw [chain_end ws _ (by omega)] at hL
    obtain rfl := Option.some.inj hL
    have hlt : ws.length < (ws ++ hd :: zs).length := by simp
    have e : (ws ++ hd :: zs)[ws.length] = hd := by simp
    rw [chain_yes _ _ hlt (by rw [e, hz, hn]; simp; omega), e, hn, chain_end _ _ (by simp; omega)]
    rfl
  | succ d ih =>
    intro p hp hpl L hL
    by_cases h : p < ws.length
    · have hlt : p < (ws ++ hd :: zs).length := by simp; omega
      by_cases hc : (openW (ws[p])).2.2.2.2 = 0 ∧ (openW (ws[p])).2.2.1 ≤ (ws.length : Int) - p - 1
      · rw [chain_yes ws p h hc] at hL
        obtain ⟨M, hM, rfl⟩ := Option.map_eq_some_iff.1 hL
        have h0 := (open_f _ hc.1).n0
        rw [chain_yes _ _ hlt (by rw [ap_at _ _ _ h]; refine ⟨hc.1, ?_⟩; have := hc.2; simp; omega), ap_at _ _ _ h, ih _ (by omega) (by omega) M hM]
        rfl
      · rw [chain_no ws p h hc] at hL
        simp at hL
    · have hp' : p = ws.length := by omega
      subst hp'
      rw [chain_end ws _ (by omega)] at hL
      obtain rfl := Option.some.inj hL
      have hlt : ws.length < (ws ++ hd :: zs).length := by simp
      have e : (ws ++ hd :: zs)[ws.length] = hd := by simp
      rw [chain_yes _ _ hlt (by rw [e, hz, hn]; simp; omega), e, hn, chain_end _ _ (by simp; omega)]
      rfl
/-- each place of the row of blocks is a block -/
theorem chain_ok' (ws : List Int) (d : Nat) : ∀ p, ws.length - p ≤ d → ∀ L, chain ws p = some L → ∀ x ∈ L, ∃ k : Nat, ∃ h : k < ws.length, x = k ∧ (openW (ws[k])).2.2.2.2 = 0 ∧ (openW (ws[k])).2.2.1 ≤ (ws.length : Int) - k - 1 := by
  induction d with
  | zero =>
    intro p hp L hL x hx
    rw [chain_end ws p (by omega)] at hL
    obtain rfl := Option.some.inj hL
    simp at hx
  | succ d ih =>
    intro p hp L hL x hx
    by_cases h : p < ws.length
    · by_cases hc : (openW (ws[p])).2.2.2.2 = 0 ∧ (openW (ws[p])).2.2.1 ≤ (ws.length : Int) - p - 1
      · rw [chain_yes ws p h hc] at hL
        obtain ⟨M, hM, rfl⟩ := Option.map_eq_some_iff.1 hL
        rcases List.mem_cons.1 hx with h' | h'
        · exact ⟨p, h, h', hc⟩
        · exact ih _ (by omega) M hM x h'
      · rw [chain_no ws p h hc] at hL
        simp at hL
    · rw [chain_end ws p h] at hL
      obtain rfl := Option.some.inj hL
      simp at hx
theorem refs_app (ws t : List Int) (k : Nat) (h : k < ws.length) (hc : (openW (ws[k])).2.2.2.2 = 0 ∧ (openW (ws[k])).2.2.1 ≤ (ws.length : Int) - k - 1) : refsW (ws ++ t) (k : Int) = refsW ws (k : Int) := by
  have hlt : k < (ws ++ t).length := by simp; omega
  rw [refsW_at _ k hlt, refsW_at _ k h, ap_at _ _ _ h]
  unfold refsO
  rw [if_pos hc, if_pos ⟨hc.1, by have := hc.2; simp; omega⟩]
theorem blocks_app (ws zs L : List Int) (hd : Int) (hz : (openW hd).2.2.2.2 = 0) (hn : (openW hd).2.2.1 = zs.length) (h0 : ∀ z ∈ zs, z = 0) (hb : blocksW ws = some L) : blocksW (ws ++ hd :: zs) = some (L ++ [(ws.length : Int)]) := by
  have hb' := hb
  unfold blocksW at hb'
  split at hb'
  · simp at hb'
  · rename_i hne
    have hl0 : 0 < ws.length := by omega
    have hw0 : ws[0] = 0 := by
      have := getD_at ws 0 hl0
      omega
    cases hc : chain ws 1 with
    | none => rw [hc] at hb'; simp at hb'
    | some M =>
      rw [hc] at hb'
      simp only at hb'
      split at hb'
      · rename_i hok
        obtain rfl := Option.some.inj hb'
        have hlt : 0 < (ws ++ hd :: zs).length := by simp; omega
        rw [blocks_b (ws ++ hd :: zs) (M ++ [(ws.length : Int)]) hlt (by rw [ap_at _ _ _ hl0]; exact hw0) (chain_app' ws zs hd hz hn _ 1 (Nat.le_refl _) (by omega) M hc), if_pos]
        intro b hbm
        rcases List.mem_append.1 hbm with h' | h'
        · obtain ⟨k, hk, rfl, hcc⟩ := chain_ok' ws _ 1 (Nat.le_refl _) M hc b h'
          have := hok _ h'
          unfold refOk at this ⊢
          rw [refs_app ws _ k hk hcc]
          intro r hr
          have hrr := refs_lt ws k r hr
          have h1 := this r hr
          have hr' : r.toNat < ws.length := by omega
          have hr2 : r.toNat < (ws ++ hd :: zs).length := by simp; omega
          rw [getD_at _ _ hr2, ap_at _ _ _ hr', ← getD_at _ _ hr']
          rcases List.mem_cons.1 h1 with h2 | h2
          · rw [h2]; simp
          · exact List.mem_cons_of_mem _ (List.mem_append_left _ h2)
        · have hbe : b = ws.length := by simpa using h'
          subst hbe
          intro r hr
          have hlt2 : ws.length < (ws ++ hd :: zs).length := by simp
          have hrr := refs_lt _ _ r hr
          rw [refsW_at _ _ hlt2] at hr
          unfold refsO at hr
          split at hr
          · have h3 := refU_lt _ _ _ _ r hr
            have hr2 : r.toNat < (ws ++ hd :: zs).length := by omega
            have h4 : (ws ++ hd :: zs)[r.toNat] ∈ zs := by
              rw [List.getElem_append_right (by omega), List.getElem_cons]
              rw [dif_neg (by omega)]
              exact List.getElem_mem _
            rw [getD_at _ _ hr2, h0 _ h4]
            simp
          · simp at hr
      · simp at hb'
theorem chain_step {ws : List Int} {p : Nat} {L : List Int} (h : chain ws p = some L) (hp : p < ws.length) : ∃ L', L = (p : Int) :: L' ∧ ((openW (ws[p])).2.2.2.2 = 0 ∧ (openW (ws[p])).2.2.1 ≤ (ws.length : Int) - p - 1) ∧ chain ws (p + 1 + (openW (ws[p])).2.2.1.toNat) = some L' := by
  by_cases hc : (openW (ws[p])).2.2.2.2 = 0 ∧ (openW (ws[p])).2.2.1 ≤ (ws.length : Int) - p - 1
  · rw [chain_yes ws p hp hc] at h
    cases h1 : chain ws (p + 1 + (openW (ws[p])).2.2.1.toNat) with
    | none => rw [h1] at h; cases h
    | some L' => rw [h1] at h; cases h; exact ⟨L', rfl, hc, rfl⟩
  · rw [chain_no ws p hp hc] at h; cases h
theorem chain_ge' (ws : List Int) (d : Nat) : ∀ p, ws.length - p ≤ d → ∀ L, chain ws p = some L → ∀ x ∈ L, (p : Int) ≤ x := by
  induction d with
  | zero =>
    intro p hd L h x hx
    rw [chain_end ws p (by omega)] at h
    cases h; cases hx
  | succ d ih =>
    intro p hd L h x hx
    by_cases hp : p < ws.length
    · obtain ⟨L', rfl, hc, h'⟩ := chain_step h hp
      rcases List.mem_cons.1 hx with rfl | hx
      · exact Int.le_refl _
      · have := ih _ (by omega) L' h' x hx; omega
    · rw [chain_end ws p hp] at h
      cases h; cases hx
theorem chain_ge {ws : List Int} {p : Nat} {L : List Int} (h : chain ws p = some L) : ∀ x ∈ L, (p : Int) ≤ x := chain_ge' ws _ p (Nat.le_refl _) L h
theorem chain_set' (ws : List Int) (q : Nat) (v : Int) (d : Nat) : ∀ p, ws.length - p ≤ d → ∀ L, chain ws p = some L → (q : Int) ∉ L → chain (ws.set q v) p = some L := by
  induction d with
  | zero =>
    intro p hd L h hq
    rw [chain_end ws p (by omega)] at h
    rw [chain_end _ p (by rw [List.length_set]; omega)]
    exact h
  | succ d ih =>
    intro p hd L h hq
    by_cases hp : p < ws.length
    · obtain ⟨L', rfl, hc, h'⟩ := chain_step h hp
      have hne : q ≠ p := fun e => hq (by rw [e]; simp)
      have hget : (ws.set q v)[p]'(by rw [List.length_set]; exact hp) = ws[p] := List.getElem_set_ne hne _
      rw [chain_yes (ws.set q v) p (by rw [List.length_set]; exact hp) (by rw [hget, List.length_set]; exact hc), hget, ih _ (by omega) L' h' (fun hm => hq (by simp [hm]))]
      rfl
    · rw [chain_end ws p hp] at h
      rw [chain_end _ p (by rw [List.length_set]; omega)]
      exact h
theorem chain_gap' (ws : List Int) (d : Nat) : ∀ p, ws.length - p ≤ d → ∀ L, chain ws p = some L → ∀ (b : Nat), (b : Int) ∈ L → ∀ q : Int, (b : Int) < q → q ≤ b + (openW (ws.getD b 0)).2.2.1 → q ∉ L := by
  induction d with
  | zero =>
    intro p hd L h b hb
    rw [chain_end ws p (by omega)] at h
    cases h; cases hb
  | succ d ih =>
    intro p hd L h b hb q h1 h2
    by_cases hp : p < ws.length
    · obtain ⟨L', rfl, hc, h'⟩ := chain_step h hp
      have hn := (open_f _ hc.1).n0
      rcases List.mem_cons.1 hb with hb | hb
      · have hbp : b = p := by omega
        subst hbp
        rw [List.getD_eq_getElem?_getD, List.getElem?_eq_getElem hp] at h2
        simp only [Option.getD_some] at h2
        intro hm
        rcases List.mem_cons.1 hm with hm | hm
        · omega
        · have := chain_ge h' q hm; omega
      · have hge := chain_ge h' _ hb
        intro hm
        rcases List.mem_cons.1 hm with hm | hm
        · omega
        · exact ih _ (by omega) L' h' b hb q h1 h2 hm
    · rw [chain_end ws p hp] at h
      cases h; cases hb
/-- a heap's words and the places of its blocks -/
structure WFH (ws L : List Int) : Prop where
  pos : 0 < ws.length
  ch : chain ws 1 = some L
  rng : ∀ x ∈ ws, -9223372036854775808 ≤ x ∧ x ≤ 9223372036854775807
  len : ws.length ≤ 65537
theorem WFH.at {ws L : List Int} (h : WFH ws L) {x : Int} (hx : x ∈ L) : ∃ k : Nat, ∃ hk : k < ws.length, x = k ∧ 1 ≤ k ∧ (openW (ws[k])).2.2.2.2 = 0 ∧ (openW (ws[k])).2.2.1 ≤ (ws.length : Int) - k - 1 := by
  obtain ⟨k, hk, h1, h2⟩ := chain_ok' ws _ 1 (Nat.le_refl _) L h.ch x hx
  have := chain_ge h.ch x hx
  exact ⟨k, hk, h1, by omega, h2⟩
theorem getD_get (ws : List Int) (k : Nat) (h : k < ws.length) : ws.getD k 0 = ws[k] := by rw [List.getD_eq_getElem?_getD, List.getElem?_eq_getElem h]; rfl
theorem WFH.set {ws L : List Int} (h : WFH ws L) {b : Nat} (hb : (b : Int) ∈ L) {q : Nat} (h1 : b < q) (h2 : (q : Int) ≤ b + (openW (ws.getD b 0)).2.2.1) {v : Int} (hv : -9223372036854775808 ≤ v ∧ v ≤ 9223372036854775807) : WFH (ws.set q v) L := by
  refine ⟨by rw [List.length_set]; exact h.pos, chain_set' ws q v _ 1 (Nat.le_refl _) L h.ch (chain_gap' ws _ 1 (Nat.le_refl _) L h.ch b hb q (by omega) h2), fun x hx => ?_, by rw [List.length_set]; exact h.len⟩
  rcases List.mem_or_eq_of_mem_set hx with hx | rfl
  · exact h.rng x hx
  · exact hv
theorem WFH.app {ws L : List Int} (h : WFH ws L) {hd : Int} {n : Nat} (hz : (openW hd).2.2.2.2 = 0) (hn : (openW hd).2.2.1 = n) (hr : -9223372036854775808 ≤ hd ∧ hd ≤ 9223372036854775807) (hl : ws.length + 1 + n ≤ 65537) : WFH (ws ++ hd :: List.replicate n 0) (L ++ [(ws.length : Int)]) := by
  refine ⟨by simp; omega, chain_app' ws (List.replicate n 0) hd hz (by simpa using hn) _ 1 (Nat.le_refl _) (by have := h.pos; omega) L h.ch, fun x hx => ?_, by simp; omega⟩
  rcases List.mem_append.1 hx with hx | hx
  · exact h.rng x hx
  · rcases List.mem_cons.1 hx with rfl | hx
    · exact hr
    · rw [List.eq_of_mem_replicate hx]; decide
theorem WFH.one : WFH [0] [] := ⟨by decide, by rw [chain_end _ _ (by decide)], by decide, by decide⟩
end Go.Proofs.YtchbidckckmobaaDoor
