/- NativeCopies. No condition beyond what each contract names. -/
import Derived.Test.YtchbidckckmobaaDoorHn
import Derived.Test.YtchbidckckmobaaDoorHk
namespace Go.Proofs.YtchbidckckmobaaDoor
open Go.RowKit E
set_option linter.unusedVariables false
set_option linter.unusedSimpArgs false
set_option maxRecDepth 100000
attribute [local irreducible] ow qw kw kq cw opW Ret
theorem sameu_ok' (w : World) (a1 a2 : Option Addr) (c1 c2 m2 : Nat) (us vs : Us) (hm : m2 = vs.length) (hR1 : Rd w a1 (us.map u16v)) (hR2 : Rd w a2 (vs.map u16v)) (hu : us.length ≤ 9223372036854775807) (hv : vs.length ≤ 9223372036854775807) :
    Ret Tryd.prog 49 [.slice a1 us.length c1, .slice a2 m2 c2] w (fun v w' => v = .bool (decide (us = vs)) ∧ Keep [] w w') := by
  subst hm
  exact sameu_ok w a1 a2 c1 c2 us vs hR1 hR2 hu hv
theorem ncopies_ok (w : World) (a : Option Addr) (c : Nat) (us : Us) (i k n : BitVec 8) (hR : Rd w a (us.map u16v)) (hc : us.length ≤ c) (hu : us.length ≤ 9223372036854775807) (ht : Tab10 w) :
    Ret Tryd.prog 14 [.slice a us.length c, .int .u8 (i.toNat : Int), .int .u8 (k.toNat : Int), .int .u8 (n.toNat : Int)] w (fun v w' => v = .bool true ∧ Keep [] w w') := by
  have hib := i.isLt
  have hkb := k.isLt
  have hnb := n.isLt
  refine fn_enter (n := 109) Tryd.func14 rfl rfl (Nat.le_of_ble_eq_true rfl) (fun e => ?_)
  refine k_seq ?_
  refine k_region ?_
  refine m_bool rfl rfl ?_
  refine o_nil ?_
  refine k_seq ?_
  refine k_seq ?_
  refine k_region ?_
  refine o_call rfl rfl (fixed24_ok w ht) (fun v w1 hv => ?_)
  obtain ⟨rfl, hK1⟩ := hv
  refine u_not (p := True) rfl ?_
  refine o_nil ?_
  refine k_no rfl ((fun h => h trivial)) ?_
  refine k_skip ?_
  refine k_seq ?_
  refine k_seq ?_
  refine k_region ?_
  refine m_sl rfl rfl ?_
  refine o_lens Tryd.underlying77 rfl ?_
  refine b_gtr rfl rfl ?_
  refine o_nil ?_
  refine k_cond rfl (fun h => ?_) (fun h => ?_)
  ·
    refine k_seq ?_
    refine k_region ?_
    refine m_bool rfl rfl ?_
    refine o_nil ?_
    refine k_ret (ret_tmps (ts := [8]) (v := .bool _) rfl rfl ?_)
    exact ⟨rfl, hK1⟩
  have hu3 : us.length ≤ 1000 := by omega
  obtain ⟨ws1, L1, e1, l1, s1, x1⟩ := make_x (ws := [0]) (L := []) (lim := 65536) (cl := 2) (us := us) (by decide) (by show (us.length : Int) < 65536 - (1 - 1); omega) (by omega)
  obtain ⟨er, ws2, vs, ec, sv, hfx, hvT, hvF⟩ : ∃ er ws2 vs, copyN ws1 L1 (([0] : List Int).length : Int) i.toNat (([0] : List Int).length : Int) k.toNat n.toNat = (er, ws2) ∧ StrAt ws2 L1 (([0] : List Int).length : Int) vs ∧ (((i.toNat + n.toNat ≤ us.length ∧ k.toNat + n.toNat ≤ us.length) ∧ er = 0) ∨ (¬ (i.toNat + n.toNat ≤ us.length ∧ k.toNat + n.toNat ≤ us.length) ∧ er = 1)) ∧ ((i.toNat + n.toNat ≤ us.length ∧ k.toNat + n.toNat ≤ us.length) → vs = cpU us i.toNat k.toNat n.toNat) ∧ (¬ (i.toNat + n.toNat ≤ us.length ∧ k.toNat + n.toNat ≤ us.length) → vs = us) := by
    have hcs := copy_str s1 i.toNat k.toNat n.toNat
    by_cases hF : i.toNat + n.toNat ≤ us.length ∧ k.toNat + n.toNat ≤ us.length
    · rw [if_pos hF] at hcs
      obtain ⟨ws', e', s'⟩ := hcs
      exact ⟨0, ws', _, e', s', .inl ⟨hF, rfl⟩, fun _ => rfl, fun hh => absurd hF hh⟩
    · rw [if_neg hF] at hcs
      exact ⟨1, ws1, us, hcs, s1, .inr ⟨hF, rfl⟩, fun hh => absurd hh hF, fun _ => rfl⟩
  have hvl : vs.length = us.length := by
    rcases hfx with ⟨hF, _⟩ | ⟨hF, _⟩
    · rw [hvT hF, cpU_len _ _ _ _ hF.1 hF.2]
    · rw [hvF hF]
  refine k_skip ?_
  refine k_seq ?_
  refine k_region ?_
  refine o_call rfl rfl (hnew_ok w1 65536) (fun v w2 hv => ?_)
  obtain ⟨hK2, hv⟩ := hv
  rw [if_pos (by decide)] at hv
  obtain ⟨hb, rfl, hH2⟩ := hv
  refine m_any rfl rfl ?_
  refine o_extr rfl rfl ?_
  refine o_extr rfl rfl ?_
  refine m_ptr rfl rfl ?_
  refine m_int rfl rfl ?_
  refine o_nil ?_
  refine k_seq ?_
  refine k_seq ?_
  refine k_region ?_
  refine m_ptr rfl rfl ?_
  refine b_eqlp Tryd.underlying41 rfl rfl ?_
  refine o_nil ?_
  refine k_no rfl ((by intro h; cases h)) ?_
  refine k_skip ?_
  refine k_seq ?_
  refine k_region ?_
  refine m_ptr rfl rfl ?_
  refine m_sl rfl rfl ?_
  refine o_call rfl rfl (make_ok w1.heap.size w2 hb [0] 65536 [] 2 a c us hH2 WFH.one (by decide) (by decide) hK2.size (by decide) ((hR.new hK1).new hK2) hu (fun w' hk' => (hR.new hK1).new (hk'.below hK2 (Nat.le_refl _)))) (fun v w3 hv => ?_)
  rw [e1] at hv
  obtain ⟨rfl, hH3, hW3, hu3', hKH3⟩ := hv
  dsimp only at hH3 hW3 hu3' ⊢
  have hK13 : Keep [] w1 w3 := hKH3.below hK2 (Nat.le_refl _)
  refine m_any rfl rfl ?_
  refine o_extr rfl rfl ?_
  refine o_extr rfl rfl ?_
  refine m_int rfl rfl ?_
  refine m_int rfl rfl ?_
  refine o_nil ?_
  refine k_seq ?_
  refine k_region ?_
  refine m_ptr rfl rfl ?_
  refine m_int rfl rfl ?_
  refine m_int rfl rfl ?_
  refine cv8_i rfl Tryd.underlying2 rfl ?_
  refine m_int rfl rfl ?_
  refine m_int rfl rfl ?_
  refine cv8_i rfl Tryd.underlying2 rfl ?_
  refine m_int rfl rfl ?_
  refine cv8_i rfl Tryd.underlying2 rfl ?_
  refine o_call rfl rfl (copy_ok w1.heap.size w3 hb ws1 65536 L1 _ _ _ _ _ hH3 hW3 hu3' (by omega) (by omega) (by omega)) (fun v w4 hv => ?_)
  rw [ec] at hv
  obtain ⟨rfl, hH4, hW4, hu4, hKH4⟩ := hv
  dsimp only at hH4 hW4 hu4 ⊢
  have hK14 : Keep [] w1 w4 := hKH4.below hK13 (Nat.le_refl _)
  refine m_int rfl rfl ?_
  refine o_nil ?_
  refine k_seq ?_
  refine k_region ?_
  refine m_ptr rfl rfl ?_
  refine m_int rfl rfl ?_
  refine o_call rfl rfl (units_ok w1.heap.size w4 hb ws2 65536 L1 _ hH4 hW4) (fun v w5 hv => ?_)
  rw [sv.units] at hv
  obtain ⟨⟨a5, c5, rfl, hS5, hf5⟩, hK5⟩ := hv
  dsimp only at hS5 ⊢
  have hK15 := hK14.tr hK5
  refine m_any rfl rfl ?_
  refine o_extr rfl rfl ?_
  refine o_extr rfl rfl ?_
  refine m_sl rfl rfl ?_
  refine m_int rfl rfl ?_
  refine o_nil ?_
  refine k_seq ?_
  refine k_region ?_
  refine o_bsl (E := 47) (cs := #[]) rfl (fun _ => by kernel_rfl) (fun g6 w6 hB6 hK6 hb6 hZ6 => ?_)
  refine m_sl rfl rfl ?_
  refine o_app0 Tryd.underlying77 inf47 rfl (by decide) rfl rfl hB6 (((hR.new hK1).new hK15).new hK6) (by simp) (u16_one _) (by simp [maxLen]; omega) (by omega) (fun a7 c7 w7 hS7 hK7 hf7 => ?_)
  have hK57 := hK6.tr hK7
  have hfr7 : ∀ z, a7 = some z → w5.heap.size ≤ z.block := fun z hz => by have := hf7 z hz; have := hK6.size; omega
  refine m_sl rfl rfl ?_
  refine o_nil ?_
  refine k_seq ?_
  refine k_region ?_
  refine m_int rfl rfl ?_
  refine cv8_i rfl Tryd.underlying3 rfl ?_
  refine m_int rfl rfl ?_
  refine cv8_i rfl Tryd.underlying3 rfl ?_
  refine n_add rfl rfl (by omega) ?_
  refine m_sl rfl rfl ?_
  refine o_lens Tryd.underlying77 rfl ?_
  refine b_leq rfl rfl ?_
  refine m_bool rfl rfl ?_
  refine o_split (t := 62) rfl (fun h => ?_) (fun h => ?_)
  ·
    refine g_yes rfl rfl ?_
    refine m_int rfl rfl ?_
    refine g_yes rfl rfl ?_
    refine cv8_i rfl Tryd.underlying3 rfl ?_
    refine g_yes rfl rfl ?_
    refine m_int rfl rfl ?_
    refine g_yes rfl rfl ?_
    refine cv8_i rfl Tryd.underlying3 rfl ?_
    refine g_yes rfl rfl ?_
    refine n_add rfl rfl (by omega) ?_
    refine g_yes rfl rfl ?_
    refine m_sl rfl rfl ?_
    refine g_yes rfl rfl ?_
    refine o_lens Tryd.underlying77 rfl ?_
    refine g_yes rfl rfl ?_
    refine b_leq rfl rfl ?_
    refine pick_t rfl rfl ?_
    refine m_bool rfl rfl ?_
    refine o_nil ?_
    refine k_seq ?_
    refine k_seq ?_
    refine k_region ?_
    refine m_bool rfl rfl ?_
    refine o_nil ?_
    refine k_cut (σ := Unit) (fun _ => [(12, .int .i64 0), (13, .int .i64 er), (14, .slice a5 vs.length c5), (15, .int .i64 0), (16, .slice a7 us.length c7), (17, .bool (decide ((k.toNat : Int) + (n.toNat : Int) ≤ (us.length : Int))))]) (fun _ w' => Sl w' 47 1 a7 us.length c7 (vs.map u16v) ∧ Keep [] w5 w') ?_ (fun s e w10 hJ => ?_)
    ·
      refine k_cond rfl (fun h => ?_) (fun h => ?_)
      ·
        have hF : i.toNat + n.toNat ≤ us.length ∧ k.toNat + n.toNat ≤ us.length := by omega
        refine k_qk 11 rfl rfl rfl rfl rfl ?_
        refine q_step (fun w1 hC => m_sl rfl rfl (o_nil ⟨rfl, hC⟩)) ?_
        refine q_step (fun w1 hC => m_int rfl rfl (o_nil ⟨rfl, hC⟩)) ?_
        refine q_step (fun w1 hC => o_sll (sz := 1) Tryd.underlying77 rfl rfl rfl (by omega) (o_nil ⟨rfl, hC⟩)) ?_
        refine q_step (fun w1 hC => m_sl rfl rfl (o_nil ⟨rfl, hC⟩)) ?_
        refine q_step (fun w1 hC => m_int rfl rfl (o_nil ⟨rfl, hC⟩)) ?_
        refine q_step (fun w1 hC => m_int rfl rfl (o_nil ⟨rfl, hC⟩)) ?_
        refine q_step (fun w1 hC => cv8_i rfl Tryd.underlying3 rfl (o_nil ⟨rfl, hC⟩)) ?_
        refine q_step (fun w1 hC => m_int rfl rfl (o_nil ⟨rfl, hC⟩)) ?_
        refine q_step (fun w1 hC => cv8_i rfl Tryd.underlying3 rfl (o_nil ⟨rfl, hC⟩)) ?_
        refine q_step (fun w1 hC => n_add rfl rfl (by omega) (o_nil ⟨rfl, hC⟩)) ?_
        refine q_step (fun w1 hC => o_sllh (hi := i.toNat + n.toNat) (sz := 1) Tryd.underlying77 rfl rfl rfl rfl (by omega) (by omega) (o_nil ⟨rfl, hC⟩)) ?_
        refine q_nil ?_
        intro w8 hC8
        have hRs := ((((hR.new hK1).new hK15).new (hK57.tr hC8)))
        have hcut := (cutAt_rd (lo := i.toNat) (cap := c) (sz := 1) hRs (by simp; omega) (by omega) (by simp; omega)).take n.toNat
        refine o_copy Tryd.underlying77 (by kernel_rfl) rfl rfl (by simp; omega) (hS7.new hC8) hcut (by simp; omega) (fun v hv => u16_one us v (List.mem_of_mem_drop (List.mem_of_mem_take hv))) (fun w9 hS9 hK9 => ?_)
        refine o_nil ?_
        refine k_goal ⟨(), ⟨rfl, rfl, rfl, rfl, rfl, rfl, trivial⟩, ?_, (hK57.tr hC8).trb hK9 hfr7⟩
        have hmm : vs.map u16v = List.take k.toNat (us.map u16v) ++ List.take n.toNat (List.drop (i.toNat * 1) (us.map u16v)) ++ List.drop (k.toNat + (List.take n.toNat (List.drop (i.toNat * 1) (us.map u16v))).length) (us.map u16v) := by
          rw [hvT hF]
          have hll : (List.take n.toNat (List.drop (i.toNat * 1) (us.map u16v))).length = n.toNat := by simp; omega
          rw [hll]
          simp [cpU, List.map_take, List.map_drop]
        rw [hmm]
        exact hS9
      refine k_skip ?_
      refine k_goal ⟨(), ⟨rfl, rfl, rfl, rfl, rfl, rfl, trivial⟩, by rw [hvF (by omega)]; exact hS7, hK57⟩
    obtain ⟨hS10, hK510⟩ := hJ
    have hq : decide (er = 0) = decide ((k.toNat : Int) + (n.toNat : Int) ≤ (us.length : Int)) := decide_eq_decide.2 (by omega)
    refine k_seq ?_
    refine k_region ?_
    refine m_int rfl rfl ?_
    refine b_eql rfl rfl ?_
    refine m_bool rfl rfl ?_
    refine o_true (t := 87) rfl (rfl) ?_
    refine g_yes rfl rfl ?_
    refine m_int rfl rfl ?_
    refine g_yes rfl rfl ?_
    refine b_eql rfl rfl ?_
    refine pick_t rfl rfl ?_
    refine m_bool rfl rfl ?_
    refine o_true (t := 91) rfl (rfl) ?_
    refine g_yes rfl rfl ?_
    refine m_int rfl rfl ?_
    refine g_yes rfl rfl ?_
    refine b_eql rfl rfl ?_
    refine g_yes rfl rfl ?_
    refine m_bool rfl rfl ?_
    refine g_yes rfl rfl ?_
    refine b_eqlb Tryd.underlying4 rfl rfl ?_
    refine pick_t rfl rfl ?_
    refine m_bool rfl rfl ?_
    refine o_true (t := 97) rfl (hq) ?_
    refine g_yes rfl rfl ?_
    refine m_bool rfl rfl ?_
    refine g_yes rfl rfl ?_
    refine m_bool rfl rfl ?_
    refine o_split (t := 99) rfl (fun h => ?_) (fun h => ?_)
    ·
      refine g_no rfl rfl rfl ?_
      refine g_no rfl rfl rfl ?_
      refine g_yes rfl rfl ?_
      refine pick_t rfl rfl ?_
      refine pick_t rfl rfl ?_
      refine m_bool rfl rfl ?_
      refine g_yes rfl rfl ?_
      refine m_sl rfl rfl ?_
      refine g_yes rfl rfl ?_
      refine m_sl rfl rfl ?_
      refine g_yes rfl rfl ?_
      refine o_call rfl rfl (sameu_ok' _ a5 a7 c5 c7 _ vs vs hvl.symm (hS5.new hK510).rd hS10.rd (by omega) (by omega)) (fun v w11 hv => ?_)
      obtain ⟨rfl, hK11⟩ := hv
      refine pick_t rfl rfl ?_
      refine m_bool rfl rfl ?_
      refine o_nil ?_
      refine k_ret (ret_tmps (ts := [8]) (v := .bool _) rfl rfl ?_)
      exact ⟨congrArg Value.bool (decide_eq_true rfl), ((hK1.tr hK15).tr hK510).tr hK11⟩
    ·
      refine g_yes rfl rfl ?_
      refine m_int rfl rfl ?_
      refine g_yes rfl rfl ?_
      refine b_eql rfl rfl ?_
      refine g_yes rfl rfl ?_
      refine pick_f rfl rfl ?_
      refine pick_t rfl rfl ?_
      refine m_bool rfl rfl ?_
      refine o_true (t := 104) rfl ((by omega)) ?_
      refine g_yes rfl rfl ?_
      refine m_sl rfl rfl ?_
      refine g_yes rfl rfl ?_
      refine m_sl rfl rfl ?_
      refine g_yes rfl rfl ?_
      refine o_call rfl rfl (sameu_ok' _ a5 a7 c5 c7 _ vs vs hvl.symm (hS5.new hK510).rd hS10.rd (by omega) (by omega)) (fun v w11 hv => ?_)
      obtain ⟨rfl, hK11⟩ := hv
      refine pick_t rfl rfl ?_
      refine m_bool rfl rfl ?_
      refine o_nil ?_
      refine k_ret (ret_tmps (ts := [8]) (v := .bool _) rfl rfl ?_)
      exact ⟨congrArg Value.bool (decide_eq_true rfl), ((hK1.tr hK15).tr hK510).tr hK11⟩
  ·
    have hS10 : Sl w7 47 1 a7 us.length c7 (vs.map u16v) := by rw [hvF (by omega)]; exact hS7
    have hK510 := hK57
    have hq : decide (er = 0) = false := decide_eq_false (by omega)
    refine g_no rfl rfl rfl ?_
    refine g_no rfl rfl rfl ?_
    refine g_no rfl rfl rfl ?_
    refine g_no rfl rfl rfl ?_
    refine g_no rfl rfl rfl ?_
    refine g_no rfl rfl rfl ?_
    refine g_no rfl rfl rfl ?_
    refine g_no rfl rfl rfl ?_
    refine pick_f rfl rfl ?_
    refine m_bool rfl rfl ?_
    refine o_nil ?_
    refine k_seq ?_
    refine k_seq ?_
    refine k_region ?_
    refine m_bool rfl rfl ?_
    refine o_nil ?_
    refine k_condf rfl ?_
    refine k_skip ?_
    refine k_seq ?_
    refine k_region ?_
    refine m_int rfl rfl ?_
    refine b_eql rfl rfl ?_
    refine m_bool rfl rfl ?_
    refine o_true (t := 87) rfl (rfl) ?_
    refine g_yes rfl rfl ?_
    refine m_int rfl rfl ?_
    refine g_yes rfl rfl ?_
    refine b_eql rfl rfl ?_
    refine pick_t rfl rfl ?_
    refine m_bool rfl rfl ?_
    refine o_true (t := 91) rfl (rfl) ?_
    refine g_yes rfl rfl ?_
    refine m_int rfl rfl ?_
    refine g_yes rfl rfl ?_
    refine b_eql rfl rfl ?_
    refine g_yes rfl rfl ?_
    refine m_bool rfl rfl ?_
    refine g_yes rfl rfl ?_
    refine b_eqlb Tryd.underlying4 rfl rfl ?_
    refine pick_t rfl rfl ?_
    refine m_bool rfl rfl ?_
    refine o_true (t := 97) rfl (hq) ?_
    refine g_yes rfl rfl ?_
    refine m_bool rfl rfl ?_
    refine g_yes rfl rfl ?_
    refine m_bool rfl rfl ?_
    refine g_yes rfl rfl ?_
    refine m_int rfl rfl ?_
    refine g_yes rfl rfl ?_
    refine b_eql rfl rfl ?_
    refine g_yes rfl rfl ?_
    refine pick_f rfl rfl ?_
    refine pick_t rfl rfl ?_
    refine m_bool rfl rfl ?_
    refine o_true (t := 104) rfl ((by omega)) ?_
    refine g_yes rfl rfl ?_
    refine m_sl rfl rfl ?_
    refine g_yes rfl rfl ?_
    refine m_sl rfl rfl ?_
    refine g_yes rfl rfl ?_
    refine o_call rfl rfl (sameu_ok' _ a5 a7 c5 c7 _ vs vs hvl.symm (hS5.new hK510).rd hS10.rd (by omega) (by omega)) (fun v w11 hv => ?_)
    obtain ⟨rfl, hK11⟩ := hv
    refine pick_t rfl rfl ?_
    refine m_bool rfl rfl ?_
    refine o_nil ?_
    refine k_ret (ret_tmps (ts := [8]) (v := .bool _) rfl rfl ?_)
    exact ⟨congrArg Value.bool (decide_eq_true rfl), ((hK1.tr hK15).tr hK510).tr hK11⟩
end Go.Proofs.YtchbidckckmobaaDoor
