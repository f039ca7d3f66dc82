/- The walk of the program's Blocks. No condition beyond what each contract names. -/
import Derived.Test.YtchbidckckmobaaDoorAf
namespace Go.Proofs.YtchbidckckmobaaDoor
open Go.RowKit E
set_option linter.unusedVariables false
set_option linter.unusedSimpArgs false
set_option maxRecDepth 100000
attribute [local irreducible] ow qw kw kq cw opW Ret
theorem getD_at (ws : List Int) (k : Nat) (h : k < ws.length) : ws.getD k 0 = ws[k] := by rw [List.getD_eq_getElem?_getD, List.getElem?_eq_getElem h]; rfl
theorem fresh_app2 {w w4 w5 : World} {a2 a5 : Option Addr} (hfr : ∀ q, a2 = some q → w.heap.size ≤ q.block) (hk : Keep [] w w4) (hv5 : (a5 = a2 ∧ w5.heap.size = w4.heap.size) ∨ (∃ g, a5 = some ⟨g, 0, none⟩ ∧ w4.heap.size = g ∧ w5.heap.size = g + 1)) : ∀ q, a5 = some q → w.heap.size ≤ q.block := by
  intro q hq
  have hsz := hk.size
  rcases hv5 with ⟨h1, _⟩ | ⟨g5, h1, h2, _⟩
  · exact hfr q (h1.symm.trans hq)
  · have : q = ⟨g5, 0, none⟩ := by rw [h1] at hq; simpa using hq.symm
    rw [this]; simp only; omega
theorem off_ne {w : World} {E : TypeId} {sz : Nat} {a : Option Addr} {m c r : Nat} {xs : List Value} {κ : Type} {kv : κ → Value} {l : List (κ × Value)} (hs : Sl w E sz a m c xs) (hm : Mp w r kv l) : Off [r] a := by
  intro p hp
  have := sl_mp hs hm
  subst hp
  simp [blkOf] at this ⊢
  exact fun h => this h.symm
theorem blocks_ok (w : World) (a : Option Addr) (n c : Nat) (ws : List Int) (hW : Rd w a (ws.map iv)) (hn : ws.length = n) (hl : n ≤ 10000000000000) :
    Ret Tryd.prog 23 [.slice a n c] w (fun v w' => BlkRes w w' v ws) := by
  refine fn_enter (n := 86) Tryd.func23 rfl rfl (Nat.le_of_ble_eq_true rfl) (fun e => ?_)
  refine k_seq ?_
  refine k_region ?_
  refine m_sl rfl rfl ?_
  refine m_int rfl rfl ?_
  refine o_nil ?_
  refine k_seq ?_
  refine k_seq ?_
  refine k_region ?_
  refine m_sl rfl rfl ?_
  refine o_lens Tryd.underlying22 rfl ?_
  refine b_eql rfl rfl ?_
  refine m_bool rfl rfl ?_
  refine o_split (t := 19) rfl (fun h => ?_) (fun h => ?_)
  ·
    refine g_no rfl rfl rfl ?_
    refine g_no rfl rfl rfl ?_
    refine g_no rfl rfl rfl ?_
    refine g_no rfl rfl rfl ?_
    refine pick_t rfl rfl ?_
    refine o_nil ?_
    refine k_condt rfl ?_
    refine k_seq ?_
    refine k_region ?_
    refine m_sl rfl rfl ?_
    refine m_int rfl rfl ?_
    refine o_nil ?_
    refine k_ret (ret_tmps (ts := [2, 3]) (v := .tuple #[.slice _ _ _, .int _ _]) rfl rfl ?_)
    exact blk_none (if_pos (.inl (by omega))) (Keep.refl _ _)
  ·
    have h0 : 0 < n := by omega
    obtain ⟨b1, o1, rfl, _⟩ := hW.at 0 (by simpa using (by omega : 0 < ws.length))
    refine g_yes rfl rfl ?_
    refine m_sl rfl rfl ?_
    refine g_yes rfl rfl ?_
    refine o_ixs1 (m := 0) Tryd.underlying22 rfl rfl rfl h0 ?_
    refine g_yes rfl rfl ?_
    refine o_ld rfl rfl (hW.cellK (Keep.refl _ _) (iv_at ws 0 (by omega))) ?_
    refine g_yes rfl rfl ?_
    refine b_neq rfl rfl ?_
    refine pick_f rfl rfl ?_
    refine o_nil ?_
    refine k_cond rfl (fun h => ?_) (fun h => ?_)
    ·
      refine k_seq ?_
      refine k_region ?_
      refine m_sl rfl rfl ?_
      refine m_int rfl rfl ?_
      refine o_nil ?_
      refine k_ret (ret_tmps (ts := [2, 3]) (v := .tuple #[.slice _ _ _, .int _ _]) rfl rfl ?_)
      exact blk_none (if_pos (.inr (by rw [getD_at ws 0 (by omega)]; exact h))) (Keep.refl _ _)
    have hz : ws[0]'(by omega) = 0 := Decidable.of_not_not h
    refine k_skip ?_
    refine k_seq ?_
    refine k_region ?_
    refine m_sl rfl rfl ?_
    refine o_nil ?_
    refine k_seq ?_
    refine k_region ?_
    refine o_mkmap (Value.int .i64) (fun r w2 hM2 hK2 hb2 hZ2 => ?_)
    refine o_mput (κ := Int) (q := 0) Tryd.underlying104 (key_int Tryd.underlying2) rfl rfl rfl hM2 (.inr rfl) (fun w3 hM3 hK3 hZ3 => ?_)
    refine m_map rfl rfl ?_
    refine m_map rfl rfl ?_
    refine o_nil ?_
    refine k_seq ?_
    refine k_seq ?_
    refine k_region ?_
    refine m_int rfl rfl ?_
    refine o_nil ?_
    refine k_block ?_
    refine k_loop (σ := Nat × List Int × Option Addr × Nat × List (Int × Value)) (fun s => [(0, .slice (some ⟨b1, o1, none⟩) n c), (4, .slice s.2.2.1 s.2.1.length s.2.2.2.1), (5, .map (some r)), (6, .int .i64 (s.1 : Int))]) (fun s w' => 1 ≤ s.1 ∧ s.1 ≤ n ∧ s.2.1.length < s.1 ∧ chain ws 1 = (chain ws s.1).map (s.2.1 ++ ·) ∧ Sl w' 3 1 s.2.2.1 s.2.1.length s.2.2.2.1 (s.2.1.map iv) ∧ Mp w' r (Value.int .i64) s.2.2.2.2 ∧ HM s.2.2.2.2 s.2.1 ∧ Keep [] w w' ∧ ∀ q, s.2.2.1 = some q → w.heap.size ≤ q.block) (fun s => n - s.1) (1, [], none, 0, putM [] 0 (.bool true)) ⟨rfl, rfl, rfl, rfl, trivial⟩ ⟨by simp, by simp only; omega, by simp, by simp, Sl.nil _ _ _, hM3, ?_, hK2.tr1 hK3 (by omega), by simp⟩ (fun s e w4 hJ => ?_)
    · intro x
      rw [getM_put, getM_nil]
      simp
    obtain ⟨p, outs, a2, c2, l⟩ := s
    obtain ⟨hp1, hpn, hol, hch, hS, hM, hH, hk4, hfr⟩ := hJ
    simp only at hp1 hpn hol hch hS hM hH hk4 hfr ⊢
    refine k_seq ?_
    refine k_seq ?_
    refine k_region ?_
    refine m_int rfl rfl ?_
    refine m_sl rfl rfl ?_
    refine o_lens Tryd.underlying22 rfl ?_
    refine b_lss rfl rfl ?_
    refine o_nil ?_
    refine k_cond rfl (fun h => ?_) (fun h => ?_)
    rotate_left
    ·
      have hc1 : chain ws 1 = some outs := by
       rw [hch, chain_end ws p (by omega)]; simp
      have hbb := blocks_b ws outs (by omega) hz hc1
      refine k_exit rfl ?_
      refine k_seq ?_
      refine k_seq ?_
      refine k_region ?_
      refine m_sl rfl rfl ?_
      refine o_lens Tryd.underlying23 rfl ?_
      refine m_int rfl rfl ?_
      refine o_nil ?_
      refine k_block ?_
      refine k_loop (σ := Nat) (fun i => [(0, .slice (some ⟨b1, o1, none⟩) n c), (4, .slice a2 outs.length c2), (5, .map (some r)), (62, .slice a2 outs.length c2), (63, .int .i64 (outs.length : Int)), (64, .int .i64 (i : Int))]) (fun i w' => i ≤ outs.length ∧ (∀ j b, j < i → outs[j]? = some b → refOk ws outs b) ∧ Keep [] w4 w') (fun i => outs.length - i) 0 ⟨rfl, rfl, rfl, rfl, rfl, rfl, trivial⟩ ⟨by omega, by intro j b hj; omega, Keep.refl _ _⟩ (fun i e w5 hJ => ?_)
      obtain ⟨hi, hpre, hk5⟩ := hJ
      refine k_seq ?_
      refine k_region ?_
      refine b_lss rfl rfl ?_
      refine o_nil ?_
      refine k_seq ?_
      refine k_cond rfl (fun h => ?_) (fun h => ?_)
      rotate_left
      ·
        refine k_exit rfl ?_
        refine k_seq ?_
        refine k_region ?_
        refine m_sl rfl rfl ?_
        refine m_sl rfl rfl ?_
        refine m_int rfl rfl ?_
        refine o_nil ?_
        refine k_ret (ret_tmps (ts := [2, 3]) (v := .tuple #[.slice _ _ _, .int _ _]) rfl rfl ?_)
        refine blk_some (L := outs) ?_ ⟨a2, c2, rfl, hS.new hk5, hk4.tr hk5, hfr⟩
        rw [hbb, if_pos]
        intro b hb
        obtain ⟨j, hj, rfl⟩ := List.getElem_of_mem hb
        exact hpre j _ (by omega) (List.getElem?_eq_getElem hj)
      have hio : i < outs.length := by omega
      obtain ⟨b2, o2, rfl, _⟩ := hS.rd.at i (by simpa using hio)
      refine k_skip ?_
      refine k_seq ?_
      refine k_block ?_
      refine k_seq ?_
      refine k_region ?_
      refine o_ixs1 Tryd.underlying23 rfl rfl rfl hio ?_
      refine o_ld rfl rfl (hS.rd.cellK hk5 (iv_at outs i hio)) ?_
      refine m_int rfl rfl ?_
      refine o_nil ?_
      refine k_seq ?_
      refine k_region ?_
      refine m_sl rfl rfl ?_
      refine m_int rfl rfl ?_
      refine o_call rfl rfl (refs_ok w5 _ n c ws outs[i] (hW.new (hk4.tr hk5)) hn (by omega)) (fun v w6 hv => ?_)
      obtain ⟨a6, c6, rfl, hS6, hK6, hf6⟩ := hv
      have hlen := refs_len ws outs[i]
      have hrl := refs_lt ws outs[i]
      refine o_lens Tryd.underlying23 rfl ?_
      refine m_int rfl rfl ?_
      refine o_nil ?_
      refine k_block ?_
      refine k_loop (σ := Nat) (fun k => [(0, .slice (some ⟨b1, o1, none⟩) n c), (4, .slice (some ⟨b2, o2, none⟩) outs.length c2), (5, .map (some r)), (62, .slice (some ⟨b2, o2, none⟩) outs.length c2), (63, .int .i64 (outs.length : Int)), (64, .int .i64 (i : Int)), (70, .slice a6 (refsW ws outs[i]).length c6), (71, .int .i64 ((refsW ws outs[i]).length : Int)), (72, .int .i64 (k : Int))]) (fun k w' => k ≤ (refsW ws outs[i]).length ∧ (∀ j b, j < k → (refsW ws outs[i])[j]? = some b → ws.getD b.toNat 0 ∈ (0 :: outs)) ∧ Keep [] w6 w') (fun k => (refsW ws outs[i]).length - k) 0 ⟨rfl, rfl, rfl, rfl, rfl, rfl, rfl, rfl, rfl, trivial⟩ ⟨by omega, by intro j b hj; omega, Keep.refl _ _⟩ (fun k e w7 hJ => ?_)
      obtain ⟨hk, hpr3, hk7⟩ := hJ
      refine k_seq ?_
      refine k_region ?_
      refine b_lss rfl rfl ?_
      refine o_nil ?_
      refine k_seq ?_
      refine k_cond rfl (fun h => ?_) (fun h => ?_)
      rotate_left
      ·
        refine k_exit rfl ?_
        refine k_blk ?_
        refine k_region ?_
        refine n_add rfl rfl (by omega) ?_
        refine m_int rfl rfl ?_
        refine o_nil ?_
        refine k_goal ⟨i + 1, ⟨rfl, rfl, rfl, rfl, rfl, rfl, trivial⟩, ⟨by omega, ?_, hk5.tr (hK6.tr hk7)⟩, by omega⟩
        intro j b hj hb
        by_cases hji : j = i
        · subst hji
          rw [List.getElem?_eq_getElem hio] at hb
          obtain rfl := Option.some.inj hb
          intro q hq
          obtain ⟨t, ht, rfl⟩ := List.getElem_of_mem hq
          exact hpr3 t _ (by omega) (List.getElem?_eq_getElem ht)
        · exact hpre j b (by omega) hb
      have hkl : k < (refsW ws outs[i]).length := by omega
      have hkm := List.getElem_mem hkl
      have hrr := hrl _ hkm
      obtain ⟨ρ, hρ⟩ : ∃ ρ : Nat, (refsW ws outs[i])[k] = ρ := ⟨((refsW ws outs[i])[k]).toNat, by omega⟩
      have hρn : ρ < n := by omega
      have hρw : ρ < ws.length := by omega
      obtain ⟨b7, o7, rfl, _⟩ := hS6.rd.at k (by simpa using hkl)
      refine k_skip ?_
      refine k_seq ?_
      refine k_block ?_
      refine k_seq ?_
      refine k_region ?_
      refine o_ixs1 Tryd.underlying23 rfl rfl rfl hkl ?_
      refine o_ld rfl rfl (hS6.rd.cellK hk7 (iv_at _ k hkl)) ?_
      rw [hρ]
      refine m_int rfl rfl ?_
      refine o_nil ?_
      refine k_seq ?_
      refine k_region ?_
      refine m_map rfl rfl ?_
      refine m_sl rfl rfl ?_
      refine m_int rfl rfl ?_
      refine o_ixs1 (m := ρ) Tryd.underlying22 rfl rfl rfl hρn ?_
      refine o_ld rfl rfl (hW.cellK (hk4.tr (hk5.tr (hK6.tr hk7))) (iv_at ws ρ hρw)) ?_
      refine o_look (κ := Int) (q := ws[ρ]) Tryd.underlying104 (key_int Tryd.underlying2) inf4 rfl rfl (hM.keep (hk5.tr (hK6.tr hk7)) (by simp)) (hH.look _) ?_
      refine u_not rfl ?_
      refine o_nil ?_
      refine k_cond rfl (fun h => ?_) (fun h => ?_)
      ·
        refine k_seq ?_
        refine k_region ?_
        refine m_sl rfl rfl ?_
        refine m_int rfl rfl ?_
        refine o_nil ?_
        refine k_ret (ret_tmps (ts := [2, 3]) (v := .tuple #[.slice _ _ _, .int _ _]) rfl rfl ?_)
        refine blk_none ?_ (hk4.tr (hk5.tr (hK6.tr hk7)))
        rw [hbb, if_neg]
        intro H
        have := H outs[i] (List.getElem_mem hio) _ hkm
        rw [hρ, Int.toNat_natCast, getD_at ws ρ hρw] at this
        exact h this
      have hin : ws[ρ] ∈ 0 :: outs := Decidable.of_not_not h
      refine k_skip ?_
      refine k_blk ?_
      refine k_region ?_
      refine n_add rfl rfl (by omega) ?_
      refine m_int rfl rfl ?_
      refine o_nil ?_
      refine k_goal ⟨k + 1, ⟨rfl, rfl, rfl, rfl, rfl, rfl, rfl, rfl, rfl, trivial⟩, ⟨by omega, ?_, hk7⟩, by omega⟩
      intro j b hj hb
      by_cases hji : j = k
      · subst hji
        rw [List.getElem?_eq_getElem hkl] at hb
        obtain rfl := Option.some.inj hb
        rw [hρ, Int.toNat_natCast, getD_at ws ρ hρw]
        exact hin
      · exact hpr3 j b (by omega) hb
    have hpl : p < n := by omega
    have hpw : p < ws.length := by omega
    refine k_skip ?_
    refine k_block ?_
    refine k_seq ?_
    refine k_region ?_
    refine m_sl rfl rfl ?_
    refine m_int rfl rfl ?_
    refine o_ixs1 Tryd.underlying22 rfl rfl rfl hpl ?_
    refine o_ld rfl rfl (hW.cellK hk4 (iv_at ws p hpw)) ?_
    refine o_call rfl rfl (open_ok w4 _) (fun v w5 hv => ?_)
    obtain ⟨rfl, rfl⟩ := hv
    refine m_any rfl rfl ?_
    refine o_extr rfl rfl ?_
    refine o_extr rfl rfl ?_
    refine o_extr rfl rfl ?_
    refine o_extr rfl rfl ?_
    refine o_extr rfl rfl ?_
    refine m_int rfl rfl ?_
    refine m_int rfl rfl ?_
    refine m_int rfl rfl ?_
    refine m_int rfl rfl ?_
    refine m_int rfl rfl ?_
    refine o_nil ?_
    refine k_seq ?_
    refine k_seq ?_
    refine k_region ?_
    refine m_int rfl rfl ?_
    refine b_neq rfl rfl ?_
    refine m_bool rfl rfl ?_
    refine o_split (t := 44) rfl (fun h => ?_) (fun h => ?_)
    ·
      refine g_no rfl rfl rfl ?_
      refine g_no rfl rfl rfl ?_
      refine g_no rfl rfl rfl ?_
      refine g_no rfl rfl rfl ?_
      refine g_no rfl rfl rfl ?_
      refine g_no rfl rfl rfl ?_
      refine pick_t rfl rfl ?_
      refine o_nil ?_
      refine k_condt rfl ?_
      refine k_seq ?_
      refine k_region ?_
      refine m_sl rfl rfl ?_
      refine m_int rfl rfl ?_
      refine o_nil ?_
      refine k_ret (ret_tmps (ts := [2, 3]) (v := .tuple #[.slice _ _ _, .int _ _]) rfl rfl ?_)
      refine blk_none (blocks_c ws (by omega) hz ?_) hk4
      rw [hch, chain_no ws p hpw (fun H => h H.1)]; rfl
    ·
      have he0 : (openW (ws[p])).2.2.2.2 = 0 := Decidable.of_not_not h
      have hF := open_f _ he0
      have hF0 := hF.n0
      have hF1 := hF.n1
      refine g_yes rfl rfl ?_
      refine m_int rfl rfl ?_
      refine g_yes rfl rfl ?_
      refine m_sl rfl rfl ?_
      refine g_yes rfl rfl ?_
      refine o_lens Tryd.underlying22 rfl ?_
      refine g_yes rfl rfl ?_
      refine m_int rfl rfl ?_
      refine g_yes rfl rfl ?_
      refine n_sub rfl rfl (by omega) ?_
      refine g_yes rfl rfl ?_
      refine b_geq rfl rfl ?_
      refine pick_f rfl rfl ?_
      refine o_nil ?_
      refine k_cond rfl (fun h => ?_) (fun h => ?_)
      ·
        refine k_seq ?_
        refine k_region ?_
        refine m_sl rfl rfl ?_
        refine m_int rfl rfl ?_
        refine o_nil ?_
        refine k_ret (ret_tmps (ts := [2, 3]) (v := .tuple #[.slice _ _ _, .int _ _]) rfl rfl ?_)
        refine blk_none (blocks_c ws (by omega) hz ?_) hk4
        rw [hch, chain_no ws p hpw (fun H => by have := H.2; omega)]; rfl
      refine k_skip ?_
      refine k_seq ?_
      refine k_region ?_
      refine m_sl rfl rfl ?_
      refine m_int rfl rfl ?_
      refine o_bsl (E := 3) (cs := #[.int .i64 (p : Int)]) rfl (fun _ => by kernel_rfl) (fun g w6 hB6 hK6 hb6 hZ6 => ?_)
      refine o_app Tryd.underlying23 inf3 rfl (by decide) rfl rfl (hS.new hK6) hB6.rd rfl (by intro u hu; simp at hu; subst hu; rfl) (by simp [maxLen]; omega) (by omega) (fun a7 c7 w7 hS7 hK7 hv7 => ?_)
      have hM7 := (hM.keep hK6 (by simp)).keep hK7 (sl_mp (hS.new hK6) (hM.keep hK6 (by simp)))
      refine m_sl rfl rfl ?_
      refine o_nil ?_
      refine k_seq ?_
      refine k_region ?_
      refine m_map rfl rfl ?_
      refine m_int rfl rfl ?_
      refine o_mput (κ := Int) (q := (p : Int)) Tryd.underlying104 (key_int Tryd.underlying2) rfl rfl rfl hM7 (.inl rfl) (fun w8 hM8 hK8 hZ8 => ?_)
      refine o_nil ?_
      refine k_region ?_
      refine m_int rfl rfl ?_
      refine m_int rfl rfl ?_
      refine n_add rfl rfl (by omega) ?_
      refine n_add rfl rfl (by omega) ?_
      refine m_int rfl rfl ?_
      refine o_nil ?_
      refine k_blk ?_
      have hcy := chain_yes ws p hpw ⟨he0, by omega⟩
      have hk7' := Keep.trb (hk4.tr hK6) hK7 hfr
      refine k_goal ⟨(p + 1 + (openW (ws[p])).2.2.1.toNat, outs ++ [(p : Int)], a7, c7, putM l (p : Int) (.bool true)), ⟨rfl, ?_, rfl, ?_, trivial⟩, ⟨by simp only; omega, by simp only; omega, by simp only [List.length_append, List.length_singleton]; omega, ?_, ?_, hM8, hH.put _, hk7'.tr1 hK8 (by omega), fresh_app2 hfr (hk4.tr hK6) hv7⟩, by simp only; omega⟩
      · simp only [List.length_append]; rfl
      · show Value.int .i64 ((p : Int) + (1 + (openW (ws[p])).2.2.1)) = _
        congr 1
        simp only
        omega
      · simp only
        rw [hch, hcy, Option.map_map]
        congr 1
        funext L
        simp
      · have := hS7.keep hK8 (off_ne hS7 hM7)
        simp only [List.length_append, List.map_append]
        exact this
end Go.Proofs.YtchbidckckmobaaDoor
