/- The walk of the document's Blocks. No condition beyond what each contract names. -/
import Derived.Test.YtchbidckckmobaaDoorAg
namespace Go.Proofs.YtchbidckckmobaaDoor
open Go.RowKit E
set_option linter.unusedVariables false
set_option linter.unusedSimpArgs false
set_option maxRecDepth 100000
attribute [local irreducible] ow qw kw kq cw opW Ret
/-- the places that begin a block -/
def BG (w : World) (g n : Nat) (L : List Int) : Prop := ∃ cs : Array Value, Blk w g cs 4 ∧ cs.size = n ∧ ∀ k, k < n → cs[k]? = some (.bool (decide ((k : Int) ∈ L)))
theorem BG.keep {S : List Nat} {w w' : World} {g n : Nat} {L : List Int} (h : BG w g n L) (hk : Keep S w w') (hn : g ∉ S) : BG w' g n L := by
  obtain ⟨cs, h1, h2, h3⟩ := h
  exact ⟨cs, h1.keep hk hn, h2, h3⟩
theorem BG.make {w : World} {g n : Nat} (h : Sl w 4 1 (some ⟨g, 0, none⟩) n n (madeCells (Value.cells (.bool false)) (n * 1)).toList) : BG w g n [] := by
  obtain ⟨_, h⟩ := h
  rcases h with ⟨h, _⟩ | ⟨g', cur, hg, hb, _, _, hs, ht⟩
  · simp at h
  · simp at hg
    subst hg
    refine ⟨cur, hb, by omega, fun k hk => ?_⟩
    rw [List.take_of_length_le (by simp; omega)] at ht
    rw [← Array.getElem?_toList, ht]
    show (madeCells #[Value.bool false] (n * 1)).toList[k]? = _
    rw [Nat.mul_one, toList_madeCells_one, List.getElem?_replicate, if_pos hk]
    simp
theorem BG.set {w' : World} {g n p : Nat} {L : List Int} {cs : Array Value} (h2 : cs.size = n) (h3 : ∀ k, k < n → cs[k]? = some (.bool (decide ((k : Int) ∈ L)))) (hb : Blk w' g (cs.setIfInBounds (0 + p) (.bool true)) 4) : BG w' g n (L ++ [(p : Int)]) := by
  refine ⟨_, hb, by simp [h2], fun k hk => ?_⟩
  rw [Nat.zero_add]
  by_cases hkp : k = p
  · subst hkp
    rw [Array.getElem?_setIfInBounds_self_of_lt (by omega)]
    simp
  · rw [Array.getElem?_setIfInBounds_ne (fun h => hkp h.symm), h3 k hk]
    have : ((k : Int) ∈ L ++ [(p : Int)]) ↔ ((k : Int) ∈ L) := by simp; omega
    simp only [this]
theorem sl_bg {w : World} {a : Option Addr} {m c g n : Nat} {xs : List Value} {L : List Int} (hs : Sl w 3 1 a m c xs) (hm : BG w g n L) : g ∉ blkOf a := by
  obtain ⟨_, hs⟩ := hs
  obtain ⟨cs, hb', _⟩ := hm
  rcases hs with ⟨rfl, _⟩ | ⟨g', cur, rfl, hb, _⟩
  · simp [blkOf]
  · intro hr
    simp [blkOf] at hr
    subst hr
    unfold Blk at hb hb'
    rw [hb'] at hb
    simp at hb
theorem off_bg {w : World} {a : Option Addr} {m c g n : Nat} {xs : List Value} {L : List Int} (hs : Sl w 3 1 a m c xs) (hm : BG w g n L) : Off [g] a := by
  intro p hp
  have := sl_bg hs hm
  subst hp
  simp [blkOf] at this ⊢
  exact fun h => this h.symm
theorem chain_rng' (ws : List Int) (d : Nat) : ∀ p, ws.length - p ≤ d → ∀ L, chain ws p = some L → ∀ x ∈ L, 0 ≤ x ∧ x < ws.length := by
  induction d with
  | zero =>
    intro p hp L hL x hx
    rw [chain_end ws p (by omega)] at hL
    obtain rfl := Option.some.inj hL
    simp at hx
  | succ d ih =>
    intro p hp L hL x hx
    by_cases h : p < ws.length
    · by_cases hc : (openW (ws[p])).2.2.2.2 = 0 ∧ (openW (ws[p])).2.2.1 ≤ (ws.length : Int) - p - 1
      · rw [chain_yes ws p h hc] at hL
        obtain ⟨M, hM, rfl⟩ := Option.map_eq_some_iff.1 hL
        rcases List.mem_cons.1 hx with h' | h'
        · omega
        · exact ih _ (by omega) M hM x h'
      · rw [chain_no ws p h hc] at hL
        simp at hL
    · rw [chain_end ws p h] at hL
      obtain rfl := Option.some.inj hL
      simp at hx
theorem chain_rng (ws L : List Int) (h : chain ws 1 = some L) : ∀ x ∈ L, 0 ≤ x ∧ x < ws.length := chain_rng' ws _ 1 (Nat.le_refl _) L h
theorem mem_rng {ws outs : List Int} {x : Int} (h0 : 0 < ws.length) (hr : ∀ x ∈ outs, 0 ≤ x ∧ x < ws.length) (H : x ∈ 0 :: outs) : 0 ≤ x ∧ x < ws.length := by
  rcases List.mem_cons.1 H with h | h
  · omega
  · exact hr x h
theorem rblocks_ok (w : World) (a : Option Addr) (n c : Nat) (ws : List Int) (hW : Rd w a (ws.map iv)) (hn : ws.length = n) (hl : n ≤ 10000000000000) (hx : ∀ x ∈ ws, x ≤ 9223372036854775807) :
    Ret Tryd.prog 64 [.slice a n c] w (fun v w' => BlkRes w w' v ws) := by
  refine fn_enter (n := 108) Tryd.func64 rfl rfl (Nat.le_of_ble_eq_true rfl) (fun e => ?_)
  refine k_seq ?_
  refine k_region ?_
  refine m_sl rfl rfl ?_
  refine m_int rfl rfl ?_
  refine o_nil ?_
  refine k_seq ?_
  refine k_seq ?_
  refine k_region ?_
  refine m_sl rfl rfl ?_
  refine o_lens Tryd.underlying22 rfl ?_
  refine b_eql rfl rfl ?_
  refine m_bool rfl rfl ?_
  refine o_split (t := 19) rfl (fun h => ?_) (fun h => ?_)
  ·
    refine g_no rfl rfl rfl ?_
    refine g_no rfl rfl rfl ?_
    refine g_no rfl rfl rfl ?_
    refine g_no rfl rfl rfl ?_
    refine pick_t rfl rfl ?_
    refine o_nil ?_
    refine k_condt rfl ?_
    refine k_seq ?_
    refine k_region ?_
    refine m_sl rfl rfl ?_
    refine m_int rfl rfl ?_
    refine o_nil ?_
    refine k_ret (ret_tmps (ts := [2, 3]) (v := .tuple #[.slice _ _ _, .int _ _]) rfl rfl ?_)
    exact blk_none (if_pos (.inl (by omega))) (Keep.refl _ _)
  ·
    have h0 : 0 < n := by omega
    obtain ⟨b1, o1, rfl, _⟩ := hW.at 0 (by simpa using (by omega : 0 < ws.length))
    refine g_yes rfl rfl ?_
    refine m_sl rfl rfl ?_
    refine g_yes rfl rfl ?_
    refine o_ixs1 (m := 0) Tryd.underlying22 rfl rfl rfl h0 ?_
    refine g_yes rfl rfl ?_
    refine o_ld rfl rfl (hW.cellK (Keep.refl _ _) (iv_at ws 0 (by omega))) ?_
    refine g_yes rfl rfl ?_
    refine b_neq rfl rfl ?_
    refine pick_f rfl rfl ?_
    refine o_nil ?_
    refine k_cond rfl (fun h => ?_) (fun h => ?_)
    ·
      refine k_seq ?_
      refine k_region ?_
      refine m_sl rfl rfl ?_
      refine m_int rfl rfl ?_
      refine o_nil ?_
      refine k_ret (ret_tmps (ts := [2, 3]) (v := .tuple #[.slice _ _ _, .int _ _]) rfl rfl ?_)
      exact blk_none (if_pos (.inr (by rw [getD_at ws 0 (by omega)]; exact h))) (Keep.refl _ _)
    have hz : ws[0]'(by omega) = 0 := Decidable.of_not_not h
    refine k_skip ?_
    refine k_seq ?_
    refine k_region ?_
    refine m_sl rfl rfl ?_
    refine o_nil ?_
    refine k_seq ?_
    refine k_region ?_
    refine m_sl rfl rfl ?_
    refine o_lens Tryd.underlying22 rfl ?_
    refine o_make (m := n) Tryd.underlying63 inf4 rfl rfl (by simp [maxLen]; omega) (by omega) (fun g w2 hS2 hK2 hb2 hZ2 => ?_)
    obtain ⟨cs2, hB2, hs2, hc2⟩ := BG.make hS2
    refine m_sl rfl rfl ?_
    refine o_nil ?_
    refine k_seq ?_
    refine k_region ?_
    refine m_sl rfl rfl ?_
    refine o_ixs1 (m := 0) Tryd.underlying63 rfl rfl rfl h0 ?_
    refine o_st (v := .bool true) rfl rfl rfl rfl hB2 (by omega) (fun w3 hB3 hK3 hZ3 => ?_)
    have hG3 : BG w3 g n [0] := BG.set (p := 0) hs2 hc2 hB3
    refine o_nil ?_
    refine k_seq ?_
    refine k_seq ?_
    refine k_region ?_
    refine m_int rfl rfl ?_
    refine o_nil ?_
    refine k_block ?_
    refine k_loop (σ := Nat × List Int × Option Addr × Nat) (fun s => [(0, .slice (some ⟨b1, o1, none⟩) n c), (4, .slice s.2.2.1 s.2.1.length s.2.2.2), (5, .slice (some ⟨g, 0, none⟩) n n), (6, .int .i64 (s.1 : Int))]) (fun s w' => 1 ≤ s.1 ∧ s.1 ≤ n ∧ s.2.1.length < s.1 ∧ chain ws 1 = (chain ws s.1).map (s.2.1 ++ ·) ∧ Sl w' 3 1 s.2.2.1 s.2.1.length s.2.2.2 (s.2.1.map iv) ∧ BG w' g n (0 :: s.2.1) ∧ Keep [] w w' ∧ ∀ q, s.2.2.1 = some q → w.heap.size ≤ q.block) (fun s => n - s.1) (1, [], none, 0) ⟨rfl, rfl, rfl, rfl, trivial⟩ ⟨by simp, by simp only; omega, by simp, by simp, Sl.nil _ _ _, hG3, hK2.tr1 hK3 (by omega), by simp⟩ (fun s e w4 hJ => ?_)
    obtain ⟨p, outs, a2, c2⟩ := s
    obtain ⟨hp1, hpn, hol, hch, hS, hG, hk4, hfr⟩ := hJ
    simp only at hp1 hpn hol hch hS hG hk4 hfr ⊢
    refine k_seq ?_
    refine k_seq ?_
    refine k_region ?_
    refine m_int rfl rfl ?_
    refine m_sl rfl rfl ?_
    refine o_lens Tryd.underlying22 rfl ?_
    refine b_lss rfl rfl ?_
    refine o_nil ?_
    refine k_cond rfl (fun h => ?_) (fun h => ?_)
    rotate_left
    ·
      have hc1 : chain ws 1 = some outs := by
       rw [hch, chain_end ws p (by omega)]; simp
      have hbb := blocks_b ws outs (by omega) hz hc1
      refine k_exit rfl ?_
      refine k_seq ?_
      refine k_seq ?_
      refine k_region ?_
      refine m_int rfl rfl ?_
      refine o_nil ?_
      refine k_block ?_
      refine k_loop (σ := Nat) (fun i => [(0, .slice (some ⟨b1, o1, none⟩) n c), (4, .slice a2 outs.length c2), (5, .slice (some ⟨g, 0, none⟩) n n), (12, .int .i64 (i : Int))]) (fun i w' => i ≤ outs.length ∧ (∀ j b, j < i → outs[j]? = some b → refOk ws outs b) ∧ Keep [] w4 w') (fun i => outs.length - i) 0 ⟨rfl, rfl, rfl, rfl, trivial⟩ ⟨by omega, by intro j b hj; omega, Keep.refl _ _⟩ (fun i e w5 hJ => ?_)
      obtain ⟨hi, hpre, hk5⟩ := hJ
      refine k_seq ?_
      refine k_seq ?_
      refine k_region ?_
      refine m_int rfl rfl ?_
      refine m_sl rfl rfl ?_
      refine o_lens Tryd.underlying23 rfl ?_
      refine b_lss rfl rfl ?_
      refine o_nil ?_
      refine k_cond rfl (fun h => ?_) (fun h => ?_)
      rotate_left
      ·
        refine k_exit rfl ?_
        refine k_seq ?_
        refine k_region ?_
        refine m_sl rfl rfl ?_
        refine m_sl rfl rfl ?_
        refine m_int rfl rfl ?_
        refine o_nil ?_
        refine k_ret (ret_tmps (ts := [2, 3]) (v := .tuple #[.slice _ _ _, .int _ _]) rfl rfl ?_)
        refine blk_some (L := outs) ?_ ⟨a2, c2, rfl, hS.new hk5, hk4.tr hk5, hfr⟩
        rw [hbb, if_pos]
        intro b hb
        obtain ⟨j, hj, rfl⟩ := List.getElem_of_mem hb
        exact hpre j _ (by omega) (List.getElem?_eq_getElem hj)
      have hio : i < outs.length := by omega
      obtain ⟨b2, o2, rfl, _⟩ := hS.rd.at i (by simpa using hio)
      refine k_skip ?_
      refine k_seq ?_
      refine k_block ?_
      refine k_seq ?_
      refine k_region ?_
      refine m_sl rfl rfl ?_
      refine m_sl rfl rfl ?_
      refine m_int rfl rfl ?_
      refine o_ixs1 Tryd.underlying23 rfl rfl rfl hio ?_
      refine o_ld rfl rfl (hS.rd.cellK hk5 (iv_at outs i hio)) ?_
      refine o_call rfl rfl (rrefs_ok w5 _ n c ws outs[i] (hW.new (hk4.tr hk5)) hn (by omega) hx) (fun v w6 hv => ?_)
      obtain ⟨a6, c6, rfl, hS6, hK6, hf6⟩ := hv
      have hlen := refs_len ws outs[i]
      have hrl := refs_lt ws outs[i]
      refine m_sl rfl rfl ?_
      refine o_nil ?_
      refine k_seq ?_
      refine k_region ?_
      refine m_int rfl rfl ?_
      refine o_nil ?_
      refine k_block ?_
      refine k_loop (σ := Nat) (fun k => [(0, .slice (some ⟨b1, o1, none⟩) n c), (4, .slice (some ⟨b2, o2, none⟩) outs.length c2), (5, .slice (some ⟨g, 0, none⟩) n n), (12, .int .i64 (i : Int)), (13, .slice a6 (refsW ws outs[i]).length c6), (14, .int .i64 (k : Int))]) (fun k w' => k ≤ (refsW ws outs[i]).length ∧ (∀ j b, j < k → (refsW ws outs[i])[j]? = some b → ws.getD b.toNat 0 ∈ (0 :: outs)) ∧ Keep [] w6 w') (fun k => (refsW ws outs[i]).length - k) 0 ⟨rfl, rfl, rfl, rfl, rfl, rfl, trivial⟩ ⟨by omega, by intro j b hj; omega, Keep.refl _ _⟩ (fun k e w7 hJ => ?_)
      obtain ⟨hk, hpr3, hk7⟩ := hJ
      refine k_seq ?_
      refine k_seq ?_
      refine k_region ?_
      refine m_int rfl rfl ?_
      refine m_sl rfl rfl ?_
      refine o_lens Tryd.underlying23 rfl ?_
      refine b_lss rfl rfl ?_
      refine o_nil ?_
      refine k_cond rfl (fun h => ?_) (fun h => ?_)
      rotate_left
      ·
        refine k_exit rfl ?_
        refine k_blk ?_
        refine k_region ?_
        refine m_int rfl rfl ?_
        refine n_add rfl rfl (by omega) ?_
        refine m_int rfl rfl ?_
        refine o_nil ?_
        refine k_goal ⟨i + 1, ⟨rfl, rfl, rfl, rfl, trivial⟩, ⟨by omega, ?_, hk5.tr (hK6.tr hk7)⟩, by omega⟩
        intro j b hj hb
        by_cases hji : j = i
        · subst hji
          rw [List.getElem?_eq_getElem hio] at hb
          obtain rfl := Option.some.inj hb
          intro q hq
          obtain ⟨t, ht, rfl⟩ := List.getElem_of_mem hq
          exact hpr3 t _ (by omega) (List.getElem?_eq_getElem ht)
        · exact hpre j b (by omega) hb
      have hkl : k < (refsW ws outs[i]).length := by omega
      have hkm := List.getElem_mem hkl
      have hrr := hrl _ hkm
      obtain ⟨ρ, hρ⟩ : ∃ ρ : Nat, (refsW ws outs[i])[k] = ρ := ⟨((refsW ws outs[i])[k]).toNat, by omega⟩
      have hρn : ρ < n := by omega
      have hρw : ρ < ws.length := by omega
      obtain ⟨b7, o7, rfl, _⟩ := hS6.rd.at k (by simpa using hkl)
      have hbad : ¬ (ws[ρ] ∈ 0 :: outs) → blocksW ws = none := by
       intro hno
       rw [hbb, if_neg]
       intro H
       have := H outs[i] (List.getElem_mem hio) _ hkm
       rw [hρ, Int.toNat_natCast, getD_at ws ρ hρw] at this
       exact hno this
      have hG7 := hG.keep (hk5.tr (hK6.tr hk7)) (by simp)
      have hrng := chain_rng ws outs hc1
      refine k_skip ?_
      refine k_seq ?_
      refine k_block ?_
      refine k_seq ?_
      refine k_region ?_
      refine m_sl rfl rfl ?_
      refine m_sl rfl rfl ?_
      refine m_int rfl rfl ?_
      refine o_ixs1 Tryd.underlying23 rfl rfl rfl hkl ?_
      refine o_ld rfl rfl (hS6.rd.cellK hk7 (iv_at _ k hkl)) ?_
      rw [hρ]
      refine o_ixs1 (m := ρ) Tryd.underlying22 rfl rfl rfl hρn ?_
      refine o_ld rfl rfl (hW.cellK (hk4.tr (hk5.tr (hK6.tr hk7))) (iv_at ws ρ hρw)) ?_
      refine m_int rfl rfl ?_
      refine o_nil ?_
      refine k_seq ?_
      refine k_region ?_
      refine m_int rfl rfl ?_
      refine b_lss rfl rfl ?_
      refine m_bool rfl rfl ?_
      refine o_split (t := 94) rfl (fun h => ?_) (fun h => ?_)
      ·
        refine g_no rfl rfl rfl ?_
        refine g_no rfl rfl rfl ?_
        refine g_no rfl rfl rfl ?_
        refine g_no rfl rfl rfl ?_
        refine pick_t rfl rfl ?_
        refine m_bool rfl rfl ?_
        refine g_no rfl rfl rfl ?_
        refine g_no rfl rfl rfl ?_
        refine g_no rfl rfl rfl ?_
        refine g_no rfl rfl rfl ?_
        refine g_no rfl rfl rfl ?_
        refine pick_t rfl rfl ?_
        refine o_nil ?_
        refine k_condt rfl ?_
        refine k_seq ?_
        refine k_region ?_
        refine m_sl rfl rfl ?_
        refine m_int rfl rfl ?_
        refine o_nil ?_
        refine k_ret (ret_tmps (ts := [2, 3]) (v := .tuple #[.slice _ _ _, .int _ _]) rfl rfl ?_)
        exact blk_none (hbad (fun H => by have := mem_rng (by omega) hrng H; omega)) (hk4.tr (hk5.tr (hK6.tr hk7)))
      ·
        refine g_yes rfl rfl ?_
        refine m_int rfl rfl ?_
        refine g_yes rfl rfl ?_
        refine m_sl rfl rfl ?_
        refine g_yes rfl rfl ?_
        refine o_lens Tryd.underlying22 rfl ?_
        refine g_yes rfl rfl ?_
        refine b_geq rfl rfl ?_
        refine pick_f rfl rfl ?_
        refine m_bool rfl rfl ?_
        refine o_split (t := 100) rfl (fun h => ?_) (fun h => ?_)
        ·
          refine g_no rfl rfl rfl ?_
          refine g_no rfl rfl rfl ?_
          refine g_no rfl rfl rfl ?_
          refine g_no rfl rfl rfl ?_
          refine g_no rfl rfl rfl ?_
          refine pick_t rfl rfl ?_
          refine o_nil ?_
          refine k_condt rfl ?_
          refine k_seq ?_
          refine k_region ?_
          refine m_sl rfl rfl ?_
          refine m_int rfl rfl ?_
          refine o_nil ?_
          refine k_ret (ret_tmps (ts := [2, 3]) (v := .tuple #[.slice _ _ _, .int _ _]) rfl rfl ?_)
          exact blk_none (hbad (fun H => by have := mem_rng (by omega) hrng H; omega)) (hk4.tr (hk5.tr (hK6.tr hk7)))
        ·
          obtain ⟨x, hxw⟩ : ∃ x : Nat, ws[ρ] = x := ⟨(ws[ρ]).toNat, by omega⟩
          have hxn : x < n := by omega
          rw [hxw]
          rw [hxw] at hbad
          obtain ⟨cs7, hB7, hs7, hc7⟩ := hG7
          refine g_yes rfl rfl ?_
          refine m_sl rfl rfl ?_
          refine g_yes rfl rfl ?_
          refine m_int rfl rfl ?_
          refine g_yes rfl rfl ?_
          refine o_ixs1 (m := x) Tryd.underlying63 rfl rfl rfl hxn ?_
          refine g_yes rfl rfl ?_
          refine o_ld rfl rfl (by rw [hB7.cell, Nat.zero_add]; exact hc7 x hxn) ?_
          refine g_yes rfl rfl ?_
          refine u_not rfl ?_
          refine pick_f rfl rfl ?_
          refine o_nil ?_
          refine k_cond rfl (fun h => ?_) (fun h => ?_)
          ·
            refine k_seq ?_
            refine k_region ?_
            refine m_sl rfl rfl ?_
            refine m_int rfl rfl ?_
            refine o_nil ?_
            refine k_ret (ret_tmps (ts := [2, 3]) (v := .tuple #[.slice _ _ _, .int _ _]) rfl rfl ?_)
            exact blk_none (hbad h) (hk4.tr (hk5.tr (hK6.tr hk7)))
          have hin : (x : Int) ∈ 0 :: outs := Decidable.of_not_not h
          refine k_skip ?_
          refine k_blk ?_
          refine k_region ?_
          refine m_int rfl rfl ?_
          refine n_add rfl rfl (by omega) ?_
          refine m_int rfl rfl ?_
          refine o_nil ?_
          refine k_goal ⟨k + 1, ⟨rfl, rfl, rfl, rfl, rfl, rfl, trivial⟩, ⟨by omega, ?_, hk7⟩, by omega⟩
          intro j b hj hb
          by_cases hji : j = k
          · subst hji
            rw [List.getElem?_eq_getElem hkl] at hb
            obtain rfl := Option.some.inj hb
            rw [hρ, Int.toNat_natCast, getD_at ws ρ hρw, hxw]
            exact hin
          · exact hpr3 j b (by omega) hb
    have hpl : p < n := by omega
    have hpw : p < ws.length := by omega
    refine k_skip ?_
    refine k_block ?_
    refine k_seq ?_
    refine k_region ?_
    refine m_sl rfl rfl ?_
    refine m_int rfl rfl ?_
    refine o_ixs1 Tryd.underlying22 rfl rfl rfl hpl ?_
    refine o_ld rfl rfl (hW.cellK hk4 (iv_at ws p hpw)) ?_
    refine o_call rfl rfl (ropen_ok w4 _ (hx _ (List.getElem_mem _))) (fun v w5 hv => ?_)
    obtain ⟨rfl, rfl⟩ := hv
    refine m_any rfl rfl ?_
    refine o_extr rfl rfl ?_
    refine o_extr rfl rfl ?_
    refine o_extr rfl rfl ?_
    refine o_extr rfl rfl ?_
    refine o_extr rfl rfl ?_
    refine m_int rfl rfl ?_
    refine m_int rfl rfl ?_
    refine m_int rfl rfl ?_
    refine m_int rfl rfl ?_
    refine m_int rfl rfl ?_
    refine o_nil ?_
    refine k_seq ?_
    refine k_seq ?_
    refine k_region ?_
    refine m_int rfl rfl ?_
    refine b_neq rfl rfl ?_
    refine m_bool rfl rfl ?_
    refine o_split (t := 47) rfl (fun h => ?_) (fun h => ?_)
    ·
      refine g_no rfl rfl rfl ?_
      refine g_no rfl rfl rfl ?_
      refine g_no rfl rfl rfl ?_
      refine g_no rfl rfl rfl ?_
      refine g_no rfl rfl rfl ?_
      refine g_no rfl rfl rfl ?_
      refine g_no rfl rfl rfl ?_
      refine pick_t rfl rfl ?_
      refine o_nil ?_
      refine k_condt rfl ?_
      refine k_seq ?_
      refine k_region ?_
      refine m_sl rfl rfl ?_
      refine m_int rfl rfl ?_
      refine o_nil ?_
      refine k_ret (ret_tmps (ts := [2, 3]) (v := .tuple #[.slice _ _ _, .int _ _]) rfl rfl ?_)
      refine blk_none (blocks_c ws (by omega) hz ?_) hk4
      rw [hch, chain_no ws p hpw (fun H => h H.1)]; rfl
    ·
      have he0 : (openW (ws[p])).2.2.2.2 = 0 := Decidable.of_not_not h
      have hF := open_f _ he0
      have hF0 := hF.n0
      have hF1 := hF.n1
      refine g_yes rfl rfl ?_
      refine m_int rfl rfl ?_
      refine g_yes rfl rfl ?_
      refine m_sl rfl rfl ?_
      refine g_yes rfl rfl ?_
      refine o_lens Tryd.underlying22 rfl ?_
      refine g_yes rfl rfl ?_
      refine m_int rfl rfl ?_
      refine g_yes rfl rfl ?_
      refine n_sub rfl rfl (by omega) ?_
      refine g_yes rfl rfl ?_
      refine n_sub rfl rfl (by omega) ?_
      refine g_yes rfl rfl ?_
      refine b_gtr rfl rfl ?_
      refine pick_f rfl rfl ?_
      refine o_nil ?_
      refine k_cond rfl (fun h => ?_) (fun h => ?_)
      ·
        refine k_seq ?_
        refine k_region ?_
        refine m_sl rfl rfl ?_
        refine m_int rfl rfl ?_
        refine o_nil ?_
        refine k_ret (ret_tmps (ts := [2, 3]) (v := .tuple #[.slice _ _ _, .int _ _]) rfl rfl ?_)
        refine blk_none (blocks_c ws (by omega) hz ?_) hk4
        rw [hch, chain_no ws p hpw (fun H => by have := H.2; omega)]; rfl
      refine k_skip ?_
      refine k_seq ?_
      refine k_region ?_
      refine m_sl rfl rfl ?_
      refine m_int rfl rfl ?_
      refine o_bsl (E := 3) (cs := #[.int .i64 (p : Int)]) rfl (fun _ => by kernel_rfl) (fun g6 w6 hB6 hK6 hb6 hZ6 => ?_)
      refine o_app Tryd.underlying23 inf3 rfl (by decide) rfl rfl (hS.new hK6) hB6.rd rfl (by intro u hu; simp at hu; subst hu; rfl) (by simp [maxLen]; omega) (by omega) (fun a7 c7 w7 hS7 hK7 hv7 => ?_)
      have hG7 := (hG.keep hK6 (by simp)).keep hK7 (sl_bg (hS.new hK6) (hG.keep hK6 (by simp)))
      have hoff := off_bg hS7 hG7
      obtain ⟨cs7, hB7, hs7, hc7⟩ := hG7
      refine m_sl rfl rfl ?_
      refine o_nil ?_
      refine k_seq ?_
      refine k_region ?_
      refine m_sl rfl rfl ?_
      refine m_int rfl rfl ?_
      refine o_ixs1 (m := p) Tryd.underlying63 rfl rfl rfl hpl ?_
      refine o_st (v := .bool true) rfl rfl rfl rfl hB7 (by omega) (fun w8 hB8 hK8 hZ8 => ?_)
      refine o_nil ?_
      refine k_region ?_
      refine m_int rfl rfl ?_
      refine n_add rfl rfl (by omega) ?_
      refine m_int rfl rfl ?_
      refine n_add rfl rfl (by omega) ?_
      refine m_int rfl rfl ?_
      refine o_nil ?_
      refine k_blk ?_
      have hcy := chain_yes ws p hpw ⟨he0, by omega⟩
      have hk7' := Keep.trb (hk4.tr hK6) hK7 hfr
      have hG8 : BG w8 g n (0 :: (outs ++ [(p : Int)])) := BG.set hs7 hc7 hB8
      refine k_goal ⟨(p + 1 + (openW (ws[p])).2.2.1.toNat, outs ++ [(p : Int)], a7, c7), ⟨rfl, ?_, rfl, ?_, trivial⟩, ⟨by simp only; omega, by simp only; omega, by simp only [List.length_append, List.length_singleton]; omega, ?_, ?_, hG8, hk7'.tr1 hK8 (by omega), fresh_app2 hfr (hk4.tr hK6) hv7⟩, by simp only; omega⟩
      · simp only [List.length_append]; rfl
      · show Value.int .i64 ((p : Int) + 1 + (openW (ws[p])).2.2.1) = _
        congr 1
        simp only
        omega
      · simp only
        rw [hch, hcy, Option.map_map]
        congr 1
        funext L
        simp
      · have := hS7.keep hK8 hoff
        simp only [List.length_append, List.map_append]
        exact this
end Go.Proofs.YtchbidckckmobaaDoor
