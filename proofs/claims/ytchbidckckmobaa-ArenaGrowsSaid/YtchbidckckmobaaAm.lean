/- The blocks of a longer row: the answer of Blocks. No condition. -/
import Derived.Test.YtchbidckckmobaaAl
namespace Go.Proofs.Ytchbidckckmobaa
open Go.RowKit E
set_option linter.unusedVariables false
set_option linter.unusedSimpArgs false
set_option maxRecDepth 100000
attribute [local irreducible] ow qw kw kq cw opW Ret
theorem refs_app (ws t : List Int) (k : Nat) (h : k < ws.length) (hc : (openW (ws[k])).2.2.2.2 = 0 ∧ (openW (ws[k])).2.2.1 ≤ (ws.length : Int) - k - 1) : refsW (ws ++ t) (k : Int) = refsW ws (k : Int) := by
  have hlt : k < (ws ++ t).length := by simp; omega
  rw [refsW_at _ k hlt, refsW_at _ k h, ap_at _ _ _ h]
  unfold refsO
  rw [if_pos hc, if_pos ⟨hc.1, by have := hc.2; simp; omega⟩]
theorem blocks_app (ws zs L : List Int) (hd : Int) (hz : (openW hd).2.2.2.2 = 0) (hn : (openW hd).2.2.1 = zs.length) (h0 : ∀ z ∈ zs, z = 0) (hb : blocksW ws = some L) : blocksW (ws ++ hd :: zs) = some (L ++ [(ws.length : Int)]) := by
  have hb' := hb
  unfold blocksW at hb'
  split at hb'
  · simp at hb'
  · rename_i hne
    have hl0 : 0 < ws.length := by omega
    have hw0 : ws[0] = 0 := by
      have := getD_at ws 0 hl0
      omega
    cases hc : chain ws 1 with
    | none => rw [hc] at hb'; simp at hb'
    | some M =>
      rw [hc] at hb'
      simp only at hb'
      split at hb'
      · rename_i hok
        obtain rfl := Option.some.inj hb'
        have hlt : 0 < (ws ++ hd :: zs).length := by simp; omega
        rw [blocks_b (ws ++ hd :: zs) (M ++ [(ws.length : Int)]) hlt (by rw [ap_at _ _ _ hl0]; exact hw0) (chain_app' ws zs hd hz hn _ 1 (Nat.le_refl _) (by omega) M hc), if_pos]
        intro b hbm
        rcases List.mem_append.1 hbm with h' | h'
        · obtain ⟨k, hk, rfl, hcc⟩ := chain_ok' ws _ 1 (Nat.le_refl _) M hc b h'
          have := hok _ h'
          unfold refOk at this ⊢
          rw [refs_app ws _ k hk hcc]
          intro r hr
          have hrr := refs_lt ws k r hr
          have h1 := this r hr
          have hr' : r.toNat < ws.length := by omega
          have hr2 : r.toNat < (ws ++ hd :: zs).length := by simp; omega
          rw [getD_at _ _ hr2, ap_at _ _ _ hr', ← getD_at _ _ hr']
          rcases List.mem_cons.1 h1 with h2 | h2
          · rw [h2]; simp
          · exact List.mem_cons_of_mem _ (List.mem_append_left _ h2)
        · have hbe : b = ws.length := by simpa using h'
          subst hbe
          intro r hr
          have hlt2 : ws.length < (ws ++ hd :: zs).length := by simp
          have hrr := refs_lt _ _ r hr
          rw [refsW_at _ _ hlt2] at hr
          unfold refsO at hr
          split at hr
          · have h3 := refU_lt _ _ _ _ r hr
            have hr2 : r.toNat < (ws ++ hd :: zs).length := by omega
            have h4 : (ws ++ hd :: zs)[r.toNat] ∈ zs := by
              rw [List.getElem_append_right (by omega), List.getElem_cons]
              rw [dif_neg (by omega)]
              exact List.getElem_mem _
            rw [getD_at _ _ hr2, h0 _ h4]
            simp
          · simp at hr
      · simp at hb'
end Go.Proofs.Ytchbidckckmobaa
