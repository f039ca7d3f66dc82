/- The blocks of a longer row: plain. No condition. -/
import Derived.Test.YtchbidckckmobaaAi
import Derived.Test.YtchbidckckmobaaAk
namespace Go.Proofs.Ytchbidckckmobaa
open Go.RowKit E
set_option linter.unusedVariables false
set_option linter.unusedSimpArgs false
set_option maxRecDepth 100000
attribute [local irreducible] ow qw kw kq cw opW Ret
theorem ap_at (ws t : List Int) (p : Nat) (h : p < ws.length) (h' : p < (ws ++ t).length) : (ws ++ t)[p] = ws[p] := List.getElem_append_left h
theorem chain_app' (ws zs : List Int) (hd : Int) (hz : (openW hd).2.2.2.2 = 0) (hn : (openW hd).2.2.1 = zs.length) (d : Nat) : ∀ p, ws.length - p ≤ d → p ≤ ws.length → ∀ L, chain ws p = some L → chain (ws ++ hd :: zs) p = some (L ++ [(ws.length : Int)]) := by
  induction d with
  | zero =>
    intro p hp hpl L hL
    have hp' : p = ws.length := by omega
    subst hp'
    rw [chain_end ws _ (by omega)] at hL
    obtain rfl := Option.some.inj hL
    have hlt : ws.length < (ws ++ hd :: zs).length := by simp
    have e : (ws ++ hd :: zs)[ws.length] = hd := by simp
    rw [chain_yes _ _ hlt (by rw [e, hz, hn]; simp; omega), e, hn, chain_end _ _ (by simp; omega)]
    rfl
  | succ d ih =>
    intro p hp hpl L hL
    by_cases h : p < ws.length
    · have hlt : p < (ws ++ hd :: zs).length := by simp; omega
      by_cases hc : (openW (ws[p])).2.2.2.2 = 0 ∧ (openW (ws[p])).2.2.1 ≤ (ws.length : Int) - p - 1
      · rw [chain_yes ws p h hc] at hL
        obtain ⟨M, hM, rfl⟩ := Option.map_eq_some_iff.1 hL
        have h0 := (open_f _ hc.1).n0
        rw [chain_yes _ _ hlt (by rw [ap_at _ _ _ h]; refine ⟨hc.1, ?_⟩; have := hc.2; simp; omega), ap_at _ _ _ h, ih _ (by omega) (by omega) M hM]
        rfl
      · rw [chain_no ws p h hc] at hL
        simp at hL
    · have hp' : p = ws.length := by omega
      subst hp'
      rw [chain_end ws _ (by omega)] at hL
      obtain rfl := Option.some.inj hL
      have hlt : ws.length < (ws ++ hd :: zs).length := by simp
      have e : (ws ++ hd :: zs)[ws.length] = hd := by simp
      rw [chain_yes _ _ hlt (by rw [e, hz, hn]; simp; omega), e, hn, chain_end _ _ (by simp; omega)]
      rfl
/-- each place of the row of blocks is a block -/
theorem chain_ok' (ws : List Int) (d : Nat) : ∀ p, ws.length - p ≤ d → ∀ L, chain ws p = some L → ∀ x ∈ L, ∃ k : Nat, ∃ h : k < ws.length, x = k ∧ (openW (ws[k])).2.2.2.2 = 0 ∧ (openW (ws[k])).2.2.1 ≤ (ws.length : Int) - k - 1 := by
  induction d with
  | zero =>
    intro p hp L hL x hx
    rw [chain_end ws p (by omega)] at hL
    obtain rfl := Option.some.inj hL
    simp at hx
  | succ d ih =>
    intro p hp L hL x hx
    by_cases h : p < ws.length
    · by_cases hc : (openW (ws[p])).2.2.2.2 = 0 ∧ (openW (ws[p])).2.2.1 ≤ (ws.length : Int) - p - 1
      · rw [chain_yes ws p h hc] at hL
        obtain ⟨M, hM, rfl⟩ := Option.map_eq_some_iff.1 hL
        rcases List.mem_cons.1 hx with h' | h'
        · exact ⟨p, h, h', hc⟩
        · exact ih _ (by omega) M hM x h'
      · rw [chain_no ws p h hc] at hL
        simp at hL
    · rw [chain_end ws p h] at hL
      obtain rfl := Option.some.inj hL
      simp at hx
end Go.Proofs.Ytchbidckckmobaa
