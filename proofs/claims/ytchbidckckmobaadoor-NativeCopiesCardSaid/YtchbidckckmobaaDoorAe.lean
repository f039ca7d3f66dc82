/- The walk of the document's Refs. No condition beyond what each contract names. -/
import Derived.Test.YtchbidckckmobaaDoorAd
namespace Go.Proofs.YtchbidckckmobaaDoor
open Go.RowKit E
set_option linter.unusedVariables false
set_option linter.unusedSimpArgs false
set_option maxRecDepth 100000
attribute [local irreducible] ow qw kw kq cw opW Ret
theorem half_mod (x : Int) (h : 0 ≤ x) : x.tmod 2 = x % 2 := Int.tmod_eq_emod_of_nonneg h
theorem div_step (mask : Int) (i : Nat) (h : 0 ≤ mask ∧ mask ≤ 4294967296) : IntKind.i64.wrap ((mask / 2 ^ i).tdiv 2) = mask / 2 ^ (i + 1) := by
  have h1 : 0 ≤ mask / 2 ^ i := Int.ediv_nonneg h.1 (Int.le_of_lt (Int.pow_pos (by decide)))
  have h2 : mask / 2 ^ i ≤ mask := Int.ediv_le_self _ h.1
  rw [wq _ 2 (by omega) (by omega), Int.ediv_ediv_of_nonneg (Int.le_of_lt (Int.pow_pos (by decide))), ← Int.pow_succ]
theorem rrefs_ok (w : World) (a : Option Addr) (n c : Nat) (ws : List Int) (p : Int) (hW : Rd w a (ws.map iv)) (hn : ws.length = n) (hl : n ≤ 1000000000000000) (hx : ∀ x ∈ ws, x ≤ 9223372036854775807) :
    Ret Tryd.prog 65 [.slice a n c, .int .i64 p] w (fun v w' => SlNew w w' v (refsW ws p)) := by
  refine fn_enter (n := 68) Tryd.func65 rfl rfl (Nat.le_of_ble_eq_true rfl) (fun e => ?_)
  refine k_seq ?_
  refine k_region ?_
  refine m_sl rfl rfl ?_
  refine o_nil ?_
  refine k_seq ?_
  refine k_seq ?_
  refine k_region ?_
  refine m_int rfl rfl ?_
  refine b_lss rfl rfl ?_
  refine m_bool rfl rfl ?_
  refine o_split (t := 14) rfl (fun h => ?_) (fun h => ?_)
  ·
    refine g_no rfl rfl rfl ?_
    refine g_no rfl rfl rfl ?_
    refine g_no rfl rfl rfl ?_
    refine g_no rfl rfl rfl ?_
    refine pick_t rfl rfl ?_
    refine o_nil ?_
    refine k_condt rfl ?_
    refine k_seq ?_
    refine k_region ?_
    refine m_sl rfl rfl ?_
    refine o_nil ?_
    refine k_ret (ret_tmps (ts := [4]) (v := .slice _ _ _) rfl rfl ?_)
    exact SlNew.nil (refsW_out _ _ (by omega)) (Keep.refl _ _)
  ·
    refine g_yes rfl rfl ?_
    refine m_int rfl rfl ?_
    refine g_yes rfl rfl ?_
    refine m_sl rfl rfl ?_
    refine g_yes rfl rfl ?_
    refine o_lens Tryd.underlying22 rfl ?_
    refine g_yes rfl rfl ?_
    refine b_geq rfl rfl ?_
    refine pick_f rfl rfl ?_
    refine o_nil ?_
    refine k_cond rfl (fun h => ?_) (fun h => ?_)
    ·
      refine k_seq ?_
      refine k_region ?_
      refine m_sl rfl rfl ?_
      refine o_nil ?_
      refine k_ret (ret_tmps (ts := [4]) (v := .slice _ _ _) rfl rfl ?_)
      exact SlNew.nil (refsW_out _ _ (by omega)) (Keep.refl _ _)
    obtain ⟨k, rfl⟩ : ∃ k : Nat, p = k := ⟨p.toNat, by omega⟩
    have hk : k < n := by omega
    have hr := refsW_at ws k (by omega)
    rw [hr]
    clear hr
    obtain ⟨b1, o1, rfl, _⟩ := hW.at k (by simpa using (by omega : k < ws.length))
    refine k_skip ?_
    refine k_seq ?_
    refine k_region ?_
    refine m_sl rfl rfl ?_
    refine m_int rfl rfl ?_
    refine o_ixs1 Tryd.underlying22 rfl rfl rfl hk ?_
    refine o_ld rfl rfl (hW.cellK (Keep.refl _ _) (iv_at ws k (by omega))) ?_
    refine o_call rfl rfl (ropen_ok w _ (hx _ (List.getElem_mem _))) (fun v w1 hv => ?_)
    obtain ⟨rfl, rfl⟩ := hv
    have hF := open_f (ws[k]'(by omega))
    generalize openW (ws[k]'(by omega)) = o at hF ⊢
    obtain ⟨kind, cl, N, mask, er⟩ := o
    simp only at hF ⊢
    refine m_any rfl rfl ?_
    refine o_extr rfl rfl ?_
    refine o_extr rfl rfl ?_
    refine o_extr rfl rfl ?_
    refine o_extr rfl rfl ?_
    refine o_extr rfl rfl ?_
    refine m_int rfl rfl ?_
    refine m_int rfl rfl ?_
    refine m_int rfl rfl ?_
    refine m_int rfl rfl ?_
    refine m_int rfl rfl ?_
    refine o_nil ?_
    refine k_seq ?_
    refine k_seq ?_
    refine k_region ?_
    refine m_int rfl rfl ?_
    refine b_neq rfl rfl ?_
    refine m_bool rfl rfl ?_
    refine o_split (t := 33) rfl (fun h => ?_) (fun h => ?_)
    ·
      refine g_no rfl rfl rfl ?_
      refine g_no rfl rfl rfl ?_
      refine g_no rfl rfl rfl ?_
      refine g_no rfl rfl rfl ?_
      refine g_no rfl rfl rfl ?_
      refine g_no rfl rfl rfl ?_
      refine g_no rfl rfl rfl ?_
      refine pick_t rfl rfl ?_
      refine o_nil ?_
      refine k_condt rfl ?_
      refine k_seq ?_
      refine k_region ?_
      refine m_sl rfl rfl ?_
      refine o_nil ?_
      refine k_ret (ret_tmps (ts := [4]) (v := .slice _ _ _) rfl rfl ?_)
      exact SlNew.nil (if_neg (fun H => h H.1)) (Keep.refl _ _)
    ·
      have hz : er = 0 := Decidable.of_not_not h
      obtain ⟨hk1, hk3, hn0, hn1, hm0, hm1, hzz, hff⟩ := hF hz
      simp only at hk1 hk3 hn0 hn1 hm0 hm1 hzz hff
      refine g_yes rfl rfl ?_
      refine m_int rfl rfl ?_
      refine g_yes rfl rfl ?_
      refine m_sl rfl rfl ?_
      refine g_yes rfl rfl ?_
      refine o_lens Tryd.underlying22 rfl ?_
      refine g_yes rfl rfl ?_
      refine m_int rfl rfl ?_
      refine g_yes rfl rfl ?_
      refine n_sub rfl rfl (by omega) ?_
      refine g_yes rfl rfl ?_
      refine n_sub rfl rfl (by omega) ?_
      refine g_yes rfl rfl ?_
      refine b_gtr rfl rfl ?_
      refine pick_f rfl rfl ?_
      refine o_nil ?_
      refine k_cond rfl (fun h => ?_) (fun h => ?_)
      ·
        refine k_seq ?_
        refine k_region ?_
        refine m_sl rfl rfl ?_
        refine o_nil ?_
        refine k_ret (ret_tmps (ts := [4]) (v := .slice _ _ _) rfl rfl ?_)
        exact SlNew.nil (if_neg (fun H => by have := H.2; simp only at this; omega)) (Keep.refl _ _)
      refine k_skip ?_
      refine k_seq ?_
      refine k_region ?_
      refine m_sl rfl rfl ?_
      refine o_nil ?_
      refine k_seq ?_
      refine k_seq ?_
      refine k_region ?_
      refine m_int rfl rfl ?_
      refine o_nil ?_
      refine k_block ?_
      have hro : refsO (kind, cl, N, mask, er) (ws.length : Int) (k : Int) = refU kind mask (k : Int) N.toNat := if_pos ⟨hz, by simp only; omega⟩
      rw [hro]
      clear hro
      refine k_loop (σ := Nat × Option Addr × Nat × Nat) (fun s => [(1, .int .i64 (k : Int)), (5, .int .i64 kind), (7, .int .i64 N), (8, .int .i64 (mask / 2 ^ s.1)), (10, .slice s.2.1 s.2.2.1 s.2.2.2), (11, .int .i64 (s.1 : Int))]) (fun s w' => (s.1 : Int) ≤ N ∧ s.2.2.1 = (refU kind mask (k : Int) s.1).length ∧ Sl w' 3 1 s.2.1 s.2.2.1 s.2.2.2 ((refU kind mask (k : Int) s.1).map iv) ∧ Keep [] w1 w' ∧ ∀ q, s.2.1 = some q → w1.heap.size ≤ q.block) (fun s => N.toNat - s.1) (0, none, 0, 0) ⟨rfl, rfl, rfl, (by rw [Int.pow_zero, Int.ediv_one]; rfl), rfl, rfl, trivial⟩ ⟨by simp only; omega, rfl, Sl.nil _ _ _, Keep.refl _ _, by simp⟩ (fun s e w3 hJ => ?_)
      obtain ⟨i, a2, m, c2⟩ := s
      obtain ⟨hi, hm, hS, hk3', hfr⟩ := hJ
      simp only at hi hm hS hfr ⊢
      have hle := refU_le kind mask (k : Int) i
      have hmp : 0 ≤ mask / 2 ^ i := Int.ediv_nonneg hm0 (Int.le_of_lt (Int.pow_pos (by decide)))
      refine k_seq ?_
      refine k_seq ?_
      refine k_region ?_
      refine m_int rfl rfl ?_
      refine m_int rfl rfl ?_
      refine b_lss rfl rfl ?_
      refine o_nil ?_
      refine k_cond rfl (fun h => ?_) (fun h => ?_)
      rotate_left
      ·
        refine k_exit rfl ?_
        refine k_seq ?_
        refine k_region ?_
        refine m_sl rfl rfl ?_
        refine m_sl rfl rfl ?_
        refine o_nil ?_
        refine k_ret (ret_tmps (ts := [4]) (v := .slice _ _ _) rfl rfl ?_)
        have hiN : N.toNat = i := by omega
        rw [hiN]
        subst hm
        exact ⟨a2, c2, rfl, hS, hk3', hfr⟩
      refine k_skip ?_
      refine k_seq ?_
      refine k_block ?_
      refine k_seq ?_
      refine k_seq ?_
      refine k_region ?_
      refine m_int rfl rfl ?_
      refine b_eql rfl rfl ?_
      refine m_bool rfl rfl ?_
      refine o_split (t := 49) rfl (fun h => ?_) (fun h => ?_)
      ·
        refine g_no rfl rfl rfl ?_
        refine g_no rfl rfl rfl ?_
        refine g_no rfl rfl rfl ?_
        refine g_un rfl rfl ?_
        refine g_un rfl rfl ?_
        refine g_un rfl rfl ?_
        refine g_no rfl rfl rfl ?_
        refine pick_t rfl rfl ?_
        refine o_nil ?_
        refine k_condt rfl ?_
        refine k_region ?_
        refine m_sl rfl rfl ?_
        refine m_int rfl rfl ?_
        refine n_add rfl rfl (by omega) ?_
        refine m_int rfl rfl ?_
        refine n_add rfl rfl (by omega) ?_
        refine o_bsl (E := 3) (cs := #[.int .i64 ((k : Int) + 1 + i)]) rfl (fun _ => by kernel_rfl) (fun g w4 hB4 hK4 hb4 hZ4 => ?_)
        refine o_app Tryd.underlying23 inf3 rfl (by decide) rfl rfl (hS.new hK4) hB4.rd rfl (by intro u hu; simp at hu; subst hu; rfl) (by simp [maxLen]; omega) (by omega) (fun a5 c5 w5 hS5 hK5 hv5 => ?_)
        refine m_sl rfl rfl ?_
        refine o_nil ?_
        refine k_region ?_
        refine m_int rfl rfl ?_
        refine b_quo rfl rfl (by omega) ?_
        rw [div_step mask i ⟨hm0, hm1⟩]
        refine m_int rfl rfl ?_
        refine o_nil ?_
        refine k_blk ?_
        refine k_region ?_
        refine m_int rfl rfl ?_
        refine n_add rfl rfl (by omega) ?_
        refine m_int rfl rfl ?_
        refine o_nil ?_
        have hb : refB kind mask i = true := decide_eq_true (by omega)
        have hs : refU kind mask (k : Int) (i + 1) = refU kind mask (k : Int) i ++ [(k : Int) + 1 + i] := by show _ ++ _ = _; rw [hb]; rfl
        refine k_goal ⟨(i + 1, a5, m + 1, c5), ⟨rfl, rfl, rfl, rfl, rfl, rfl, trivial⟩, ⟨by simp only; omega, ?_, ?_, Keep.trb (hk3'.tr hK4) hK5 hfr, ?_⟩, by simp only; omega⟩
        · rw [hs, List.length_append, ← hm]; rfl
        · rw [hs, List.map_append]; exact hS5
        · intro q hq
          have hsz := (hk3'.tr hK4).size
          rcases hv5 with ⟨h1, _⟩ | ⟨g5, h1, h2, _⟩
          · exact hfr q (h1.symm.trans hq)
          · have : q = ⟨g5, 0, none⟩ := by rw [h1] at hq; simpa using hq.symm
            rw [this]; simp only; omega
      ·
        refine g_yes rfl rfl ?_
        refine m_int rfl rfl ?_
        refine g_yes rfl rfl ?_
        refine b_eql rfl rfl ?_
        refine g_yes rfl rfl ?_
        refine m_bool rfl rfl ?_
        refine o_split (t := 52) rfl (fun h => ?_) (fun h => ?_)
        ·
          refine g_yes rfl rfl ?_
          refine m_int rfl rfl ?_
          refine g_yes rfl rfl ?_
          refine b_rem rfl rfl (by omega) ?_
          rw [half_mod _ hmp]
          refine g_yes rfl rfl ?_
          refine b_eql rfl rfl ?_
          refine g_yes rfl rfl ?_
          refine pick_t rfl rfl ?_
          refine pick_f rfl rfl ?_
          refine o_nil ?_
          refine k_cond rfl (fun h => ?_) (fun h => ?_)
          ·
            refine k_region ?_
            refine m_sl rfl rfl ?_
            refine m_int rfl rfl ?_
            refine n_add rfl rfl (by omega) ?_
            refine m_int rfl rfl ?_
            refine n_add rfl rfl (by omega) ?_
            refine o_bsl (E := 3) (cs := #[.int .i64 ((k : Int) + 1 + i)]) rfl (fun _ => by kernel_rfl) (fun g w4 hB4 hK4 hb4 hZ4 => ?_)
            refine o_app Tryd.underlying23 inf3 rfl (by decide) rfl rfl (hS.new hK4) hB4.rd rfl (by intro u hu; simp at hu; subst hu; rfl) (by simp [maxLen]; omega) (by omega) (fun a5 c5 w5 hS5 hK5 hv5 => ?_)
            refine m_sl rfl rfl ?_
            refine o_nil ?_
            refine k_region ?_
            refine m_int rfl rfl ?_
            refine b_quo rfl rfl (by omega) ?_
            rw [div_step mask i ⟨hm0, hm1⟩]
            refine m_int rfl rfl ?_
            refine o_nil ?_
            refine k_blk ?_
            refine k_region ?_
            refine m_int rfl rfl ?_
            refine n_add rfl rfl (by omega) ?_
            refine m_int rfl rfl ?_
            refine o_nil ?_
            have hb : refB kind mask i = true := decide_eq_true (by omega)
            have hs : refU kind mask (k : Int) (i + 1) = refU kind mask (k : Int) i ++ [(k : Int) + 1 + i] := by show _ ++ _ = _; rw [hb]; rfl
            refine k_goal ⟨(i + 1, a5, m + 1, c5), ⟨rfl, rfl, rfl, rfl, rfl, rfl, trivial⟩, ⟨by simp only; omega, ?_, ?_, Keep.trb (hk3'.tr hK4) hK5 hfr, ?_⟩, by simp only; omega⟩
            · rw [hs, List.length_append, ← hm]; rfl
            · rw [hs, List.map_append]; exact hS5
            · intro q hq
              have hsz := (hk3'.tr hK4).size
              rcases hv5 with ⟨h1, _⟩ | ⟨g5, h1, h2, _⟩
              · exact hfr q (h1.symm.trans hq)
              · have : q = ⟨g5, 0, none⟩ := by rw [h1] at hq; simpa using hq.symm
                rw [this]; simp only; omega
          refine k_skip ?_
          refine k_region ?_
          refine m_int rfl rfl ?_
          refine b_quo rfl rfl (by omega) ?_
          rw [div_step mask i ⟨hm0, hm1⟩]
          refine m_int rfl rfl ?_
          refine o_nil ?_
          refine k_blk ?_
          refine k_region ?_
          refine m_int rfl rfl ?_
          refine n_add rfl rfl (by omega) ?_
          refine m_int rfl rfl ?_
          refine o_nil ?_
          have hb : refB kind mask i = false := decide_eq_false (by omega)
          have hs : refU kind mask (k : Int) (i + 1) = refU kind mask (k : Int) i := by show _ ++ _ = _; rw [hb]; simp
          refine k_goal ⟨(i + 1, a2, m, c2), ⟨rfl, rfl, rfl, rfl, rfl, rfl, trivial⟩, ⟨by simp only; omega, ?_, ?_, hk3', hfr⟩, by simp only; omega⟩
          · rw [hs]; exact hm
          · rw [hs]; exact hS
        ·
          refine g_no rfl rfl rfl ?_
          refine g_no rfl rfl rfl ?_
          refine g_no rfl rfl rfl ?_
          refine g_yes rfl rfl ?_
          refine pick_f rfl rfl ?_
          refine pick_f rfl rfl ?_
          refine o_nil ?_
          refine k_condf rfl ?_
          refine k_skip ?_
          refine k_region ?_
          refine m_int rfl rfl ?_
          refine b_quo rfl rfl (by omega) ?_
          rw [div_step mask i ⟨hm0, hm1⟩]
          refine m_int rfl rfl ?_
          refine o_nil ?_
          refine k_blk ?_
          refine k_region ?_
          refine m_int rfl rfl ?_
          refine n_add rfl rfl (by omega) ?_
          refine m_int rfl rfl ?_
          refine o_nil ?_
          have hb : refB kind mask i = false := decide_eq_false (by omega)
          have hs : refU kind mask (k : Int) (i + 1) = refU kind mask (k : Int) i := by show _ ++ _ = _; rw [hb]; simp
          refine k_goal ⟨(i + 1, a2, m, c2), ⟨rfl, rfl, rfl, rfl, rfl, rfl, trivial⟩, ⟨by simp only; omega, ?_, ?_, hk3', hfr⟩, by simp only; omega⟩
          · rw [hs]; exact hm
          · rw [hs]; exact hS
end Go.Proofs.YtchbidckckmobaaDoor
