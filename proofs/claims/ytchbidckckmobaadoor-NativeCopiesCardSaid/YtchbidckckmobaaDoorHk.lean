/- NativeStrings. No condition beyond what each contract names. -/
import Derived.Test.YtchbidckckmobaaDoorHj
namespace Go.Proofs.YtchbidckckmobaaDoor
open Go.RowKit E
set_option linter.unusedVariables false
set_option linter.unusedSimpArgs false
set_option maxRecDepth 100000
attribute [local irreducible] ow qw kw kq cw opW Ret
theorem make_x {ws L : List Int} {lim cl : Int} {us : Us} (hc : 0 ≤ cl ∧ cl ≤ 65535) (hr : (us.length : Int) < lim - ((ws.length : Int) - 1)) (hn : us.length ≤ 65536) :
    ∃ ws' L', makeN ws L lim cl us = ((ws.length : Int), 0, ws', L') ∧ ws'.length = ws.length + us.length + 1 ∧ StrAt ws' L' (ws.length : Int) us ∧ ∀ p vs, StrAt ws L p vs → StrAt ws' L' p vs := by
  obtain ⟨t, M, h1, h2, h3⟩ := make_fits (ws := ws) (L := L) (lim := lim) (cl := cl) (us := us) hc hr hn
  exact ⟨_, _, h1, by rw [List.length_append, h2]; omega, h3, fun p vs h => h.app t M⟩
theorem conc_x {ws L : List Int} {lim cl p q : Int} {us vs : Us} (h1 : StrAt ws L p us) (h2 : StrAt ws L q vs) (hc : 0 ≤ cl ∧ cl ≤ 65535) (hr : ((us ++ vs).length : Int) < lim - ((ws.length : Int) - 1)) (hn : (us ++ vs).length ≤ 65536) :
    ∃ ws' L', concN ws L lim cl p q = ((ws.length : Int), 0, ws', L') ∧ ws'.length = ws.length + (us ++ vs).length + 1 ∧ StrAt ws' L' (ws.length : Int) (us ++ vs) ∧ ∀ p vs, StrAt ws L p vs → StrAt ws' L' p vs := by
  obtain ⟨t, M, h1, h2, h3⟩ := conc_fits (lim := lim) (cl := cl) h1 h2 hc hr hn
  exact ⟨_, _, h1, by rw [List.length_append, h2]; omega, h3, fun p vs h => h.app t M⟩
theorem nstrings_ok (w : World) (a1 a2 : Option Addr) (c1 c2 : Nat) (us vs : Us) (hR1 : Rd w a1 (us.map u16v)) (hR2 : Rd w a2 (vs.map u16v)) (hu : us.length ≤ 9223372036854775807) (hv : vs.length ≤ 9223372036854775807) (ht : Tab10 w) :
    Ret Tryd.prog 13 [.slice a1 us.length c1, .slice a2 vs.length c2] w (fun v w' => v = .bool true ∧ Keep [] w w') := by
  refine fn_enter (n := 154) Tryd.func13 rfl rfl (Nat.le_of_ble_eq_true rfl) (fun e => ?_)
  refine k_seq ?_
  refine k_region ?_
  refine m_bool rfl rfl ?_
  refine o_nil ?_
  refine k_seq ?_
  refine k_seq ?_
  refine k_region ?_
  refine o_call rfl rfl (fixed24_ok w ht) (fun v w1 hv => ?_)
  obtain ⟨rfl, hK1⟩ := hv
  refine u_not (p := True) rfl ?_
  refine o_nil ?_
  refine k_no rfl ((fun h => h trivial)) ?_
  refine k_skip ?_
  refine k_seq ?_
  refine k_seq ?_
  refine k_region ?_
  refine m_sl rfl rfl ?_
  refine o_lens Tryd.underlying77 rfl ?_
  refine b_gtr rfl rfl ?_
  refine m_bool rfl rfl ?_
  refine o_split (t := 28) rfl (fun h => ?_) (fun h => ?_)
  ·
    refine g_no rfl rfl rfl ?_
    refine g_no rfl rfl rfl ?_
    refine g_no rfl rfl rfl ?_
    refine pick_t rfl rfl ?_
    refine o_nil ?_
    refine k_condt rfl ?_
    refine k_seq ?_
    refine k_region ?_
    refine m_bool rfl rfl ?_
    refine o_nil ?_
    refine k_ret (ret_tmps (ts := [4]) (v := .bool _) rfl rfl ?_)
    exact ⟨rfl, hK1⟩
  ·
    have hu3 : us.length ≤ 3000 := by omega
    refine g_yes rfl rfl ?_
    refine m_sl rfl rfl ?_
    refine g_yes rfl rfl ?_
    refine o_lens Tryd.underlying77 rfl ?_
    refine g_yes rfl rfl ?_
    refine b_gtr rfl rfl ?_
    refine pick_f rfl rfl ?_
    refine o_nil ?_
    refine k_cond rfl (fun h => ?_) (fun h => ?_)
    ·
      refine k_seq ?_
      refine k_region ?_
      refine m_bool rfl rfl ?_
      refine o_nil ?_
      refine k_ret (ret_tmps (ts := [4]) (v := .bool _) rfl rfl ?_)
      exact ⟨rfl, hK1⟩
    have hv3 : vs.length ≤ 3000 := by omega
    obtain ⟨ws1, L1, e1, l1, s1, x1⟩ := make_x (ws := [0]) (L := []) (lim := 65536) (cl := 9) (us := us) (by decide) (by show (us.length : Int) < 65536 - (1 - 1); omega) (by omega)
    change ws1.length = 1 + us.length + 1 at l1
    obtain ⟨ws2, L2, e2, l2, s2, x2⟩ := make_x (ws := ws1) (L := L1) (lim := 65536) (cl := 9) (us := vs) (by decide) (by omega) (by omega)
    have sa2 := x2 _ _ s1
    have hlA : (us ++ vs).length = us.length + vs.length := List.length_append
    obtain ⟨ws3, L3, e3, l3, s3, x3⟩ := conc_x (lim := 65536) (cl := 9) sa2 s2 (by decide) (by omega) (by omega)
    obtain ⟨ws4, L4, e4, l4, s4, x4⟩ := conc_x (lim := 65536) (cl := 9) (x3 _ _ sa2) (x3 _ _ s2) (by decide) (by omega) (by omega)
    have sc := x4 _ _ s3
    have sa4 := x4 _ _ (x3 _ _ sa2)
    have sb4 := x4 _ _ (x3 _ _ s2)
    refine k_skip ?_
    refine k_seq ?_
    refine k_region ?_
    refine o_call rfl rfl (hnew_ok w1 65536) (fun v w2 hv => ?_)
    obtain ⟨hK2, hv⟩ := hv
    rw [if_pos (by decide)] at hv
    obtain ⟨hb, rfl, hH2⟩ := hv
    refine m_any rfl rfl ?_
    refine o_extr rfl rfl ?_
    refine o_extr rfl rfl ?_
    refine m_ptr rfl rfl ?_
    refine m_int rfl rfl ?_
    refine o_nil ?_
    refine k_seq ?_
    refine k_seq ?_
    refine k_region ?_
    refine m_ptr rfl rfl ?_
    refine b_eqlp Tryd.underlying41 rfl rfl ?_
    refine o_nil ?_
    refine k_no rfl ((by intro h; cases h)) ?_
    refine k_skip ?_
    refine k_seq ?_
    refine k_region ?_
    refine m_ptr rfl rfl ?_
    refine m_sl rfl rfl ?_
    refine o_call rfl rfl (make_ok w1.heap.size w2 hb [0] 65536 [] 9 a1 c1 us hH2 WFH.one (by decide) (by decide) hK2.size (by decide) ((hR1.new hK1).new hK2) hu (fun w' hk' => (hR1.new hK1).new (hk'.below hK2 (Nat.le_refl _)))) (fun v w3 hv => ?_)
    rw [e1] at hv
    obtain ⟨rfl, hH3, hW3, hu3', hKH3⟩ := hv
    dsimp only at hH3 hW3 hu3' ⊢
    have hK13 : Keep [] w1 w3 := hKH3.below hK2 (Nat.le_refl _)
    refine m_any rfl rfl ?_
    refine o_extr rfl rfl ?_
    refine o_extr rfl rfl ?_
    refine m_int rfl rfl ?_
    refine m_int rfl rfl ?_
    refine o_nil ?_
    refine k_seq ?_
    refine k_region ?_
    refine m_ptr rfl rfl ?_
    refine m_sl rfl rfl ?_
    refine o_call rfl rfl (make_ok w1.heap.size w3 hb ws1 65536 L1 9 a2 c2 vs hH3 hW3 (by decide) hu3' hK13.size (by decide) ((hR2.new hK1).new hK13) hv (fun w' hk' => (hR2.new hK1).new (hk'.below hK13 (Nat.le_refl _)))) (fun v w4 hv => ?_)
    rw [e2] at hv
    obtain ⟨rfl, hH4, hW4, hu4, hKH4⟩ := hv
    dsimp only at hH4 hW4 hu4 ⊢
    have hK14 : Keep [] w1 w4 := hKH4.below hK13 (Nat.le_refl _)
    refine m_any rfl rfl ?_
    refine o_extr rfl rfl ?_
    refine o_extr rfl rfl ?_
    refine m_int rfl rfl ?_
    refine m_int rfl rfl ?_
    refine o_nil ?_
    refine k_seq ?_
    refine k_region ?_
    refine m_ptr rfl rfl ?_
    refine m_int rfl rfl ?_
    refine m_int rfl rfl ?_
    refine o_call rfl rfl (conc_ok w1.heap.size w4 hb ws2 65536 L2 9 _ _ hH4 hW4 (by decide) hu4 hK14.size (by decide)) (fun v w5 hv => ?_)
    rw [e3] at hv
    obtain ⟨rfl, hH5, hW5, hu5, hKH5⟩ := hv
    dsimp only at hH5 hW5 hu5 ⊢
    have hK15 : Keep [] w1 w5 := hKH5.below hK14 (Nat.le_refl _)
    refine m_any rfl rfl ?_
    refine o_extr rfl rfl ?_
    refine o_extr rfl rfl ?_
    refine m_int rfl rfl ?_
    refine m_int rfl rfl ?_
    refine o_nil ?_
    refine k_seq ?_
    refine k_region ?_
    refine m_ptr rfl rfl ?_
    refine m_int rfl rfl ?_
    refine m_int rfl rfl ?_
    refine o_call rfl rfl (conc_ok w1.heap.size w5 hb ws3 65536 L3 9 _ _ hH5 hW5 (by decide) hu5 hK15.size (by decide)) (fun v w6 hv => ?_)
    rw [e4] at hv
    obtain ⟨rfl, hH6, hW6, hu6, hKH6⟩ := hv
    dsimp only at hH6 hW6 hu6 ⊢
    have hK16 : Keep [] w1 w6 := hKH6.below hK15 (Nat.le_refl _)
    refine m_any rfl rfl ?_
    refine o_extr rfl rfl ?_
    refine o_extr rfl rfl ?_
    refine m_int rfl rfl ?_
    refine m_int rfl rfl ?_
    refine o_nil ?_
    refine k_seq ?_
    refine k_seq ?_
    refine k_region ?_
    refine m_int rfl rfl ?_
    refine b_neq rfl rfl ?_
    refine m_bool rfl rfl ?_
    refine o_false (t := 67) rfl ((fun h => h rfl)) ?_
    refine g_yes rfl rfl ?_
    refine m_int rfl rfl ?_
    refine g_yes rfl rfl ?_
    refine b_neq rfl rfl ?_
    refine pick_f rfl rfl ?_
    refine m_bool rfl rfl ?_
    refine o_false (t := 71) rfl ((fun h => h rfl)) ?_
    refine g_yes rfl rfl ?_
    refine m_int rfl rfl ?_
    refine g_yes rfl rfl ?_
    refine b_neq rfl rfl ?_
    refine pick_f rfl rfl ?_
    refine m_bool rfl rfl ?_
    refine o_false (t := 75) rfl ((fun h => h rfl)) ?_
    refine g_yes rfl rfl ?_
    refine m_int rfl rfl ?_
    refine g_yes rfl rfl ?_
    refine b_neq rfl rfl ?_
    refine pick_f rfl rfl ?_
    refine m_bool rfl rfl ?_
    refine o_false (t := 79) rfl ((fun h => h rfl)) ?_
    refine g_yes rfl rfl ?_
    refine m_int rfl rfl ?_
    refine g_yes rfl rfl ?_
    refine m_int rfl rfl ?_
    refine g_yes rfl rfl ?_
    refine b_eql rfl rfl ?_
    refine pick_f rfl rfl ?_
    refine m_bool rfl rfl ?_
    refine o_false (t := 84) rfl ((by omega)) ?_
    refine g_yes rfl rfl ?_
    refine m_ptr rfl rfl ?_
    refine g_yes rfl rfl ?_
    refine m_int rfl rfl ?_
    refine g_yes rfl rfl ?_
    refine m_int rfl rfl ?_
    refine g_yes rfl rfl ?_
    refine o_call rfl rfl (equ_ok w1.heap.size w6 hb ws4 65536 L4 _ _ hH6 hW6) (fun v w7 hv => ?_)
    rw [equ_str sc s4] at hv
    obtain ⟨rfl, hK7⟩ := hv
    refine g_yes rfl rfl ?_
    refine u_not (p := us ++ vs = us ++ vs) rfl ?_
    refine pick_f rfl rfl ?_
    refine o_nil ?_
    refine k_no rfl ((fun h => h rfl)) ?_
    refine k_skip ?_
    refine k_seq ?_
    refine k_region ?_
    refine o_bsl (E := 47) (cs := #[]) rfl (fun _ => by kernel_rfl) (fun g8 w8 hB8 hK8 hb8 hZ8 => ?_)
    refine m_sl rfl rfl ?_
    refine o_app0 Tryd.underlying77 inf47 rfl (by decide) rfl rfl hB8 (((hR1.new hK1).new hK16).new (hK7.tr hK8)) (by simp) (u16_one _) (by simp [maxLen]; omega) (by omega) (fun a9 c9 w9 hS9 hK9 hf9 => ?_)
    have hK79 : Keep [] w7 w9 := hK8.tr hK9
    refine m_sl rfl rfl ?_
    refine o_app Tryd.underlying77 inf47 rfl (by decide) rfl rfl hS9 (((hR2.new hK1).new hK16).new (hK7.tr hK79)) (by simp) (u16_one _) (by simp [maxLen]; omega) (by omega) (fun a10 c10 w10 hS10 hK10 hv10 => ?_)
    have hK710 : Keep [] w7 w10 := hK79.trb hK10 (fun z hz => by have := hf9 z hz; have := hK8.size; omega)
    rw [← List.map_append] at hS10
    have hll : us.length + vs.length = (us ++ vs).length := by simp
    rw [hll] at hS10 ⊢
    have hK610 := hK7.tr hK710
    refine m_sl rfl rfl ?_
    refine o_nil ?_
    refine k_seq ?_
    refine k_region ?_
    refine m_ptr rfl rfl ?_
    refine m_int rfl rfl ?_
    refine o_call rfl rfl (units_ok w1.heap.size w10 hb ws4 65536 L4 _ (hH6.new hK610) hW6) (fun v w11 hv => ?_)
    rw [sc.units] at hv
    obtain ⟨⟨a11, c11, rfl, hS11, hf11⟩, hK11⟩ := hv
    dsimp only at hS11 ⊢
    refine m_any rfl rfl ?_
    refine o_extr rfl rfl ?_
    refine o_extr rfl rfl ?_
    refine m_sl rfl rfl ?_
    refine m_int rfl rfl ?_
    refine o_nil ?_
    refine k_seq ?_
    refine k_seq ?_
    refine k_region ?_
    refine m_int rfl rfl ?_
    refine b_neq rfl rfl ?_
    refine m_bool rfl rfl ?_
    refine o_false (t := 104) rfl ((fun h => h rfl)) ?_
    refine g_yes rfl rfl ?_
    refine m_sl rfl rfl ?_
    refine g_yes rfl rfl ?_
    refine m_sl rfl rfl ?_
    refine g_yes rfl rfl ?_
    refine o_call rfl rfl (sameu_ok w11 a11 a10 c11 c10 (us ++ vs) (us ++ vs) hS11.rd (hS10.new hK11).rd (by omega) (by omega)) (fun v w12 hv => ?_)
    obtain ⟨rfl, hK12⟩ := hv
    refine g_yes rfl rfl ?_
    refine u_not (p := us ++ vs = us ++ vs) rfl ?_
    refine pick_f rfl rfl ?_
    refine m_bool rfl rfl ?_
    refine o_false (t := 110) rfl ((fun h => h rfl)) ?_
    refine g_yes rfl rfl ?_
    refine m_ptr rfl rfl ?_
    refine g_yes rfl rfl ?_
    refine m_int rfl rfl ?_
    refine g_yes rfl rfl ?_
    refine m_int rfl rfl ?_
    refine g_yes rfl rfl ?_
    refine o_call rfl rfl (equ_ok w1.heap.size w12 hb ws4 65536 L4 _ _ (hH6.new (hK610.tr (hK11.tr hK12))) hW6) (fun v w13 hv => ?_)
    rw [equ_str sa4 sb4] at hv
    obtain ⟨rfl, hK13'⟩ := hv
    have hK613 := (hK610.tr (hK11.tr hK12)).tr hK13'
    refine g_yes rfl rfl ?_
    refine m_sl rfl rfl ?_
    refine g_yes rfl rfl ?_
    refine m_sl rfl rfl ?_
    refine g_yes rfl rfl ?_
    refine o_call rfl rfl (sameu_ok w13 a1 a2 c1 c2 us vs (((hR1.new hK1).new hK16).new hK613) (((hR2.new hK1).new hK16).new hK613) hu hv) (fun v w14 hv => ?_)
    obtain ⟨rfl, hK14'⟩ := hv
    have hK614 := hK613.tr hK14'
    have hS14 := ((hS10.new hK11).new hK12).new (hK13'.tr hK14')
    refine g_yes rfl rfl ?_
    refine b_neqb Tryd.underlying4 rfl rfl ?_
    refine pick_f rfl rfl ?_
    refine o_nil ?_
    refine k_no rfl ((by simp)) ?_
    refine k_skip ?_
    refine k_seq ?_
    refine k_seq ?_
    refine k_region ?_
    refine m_sl rfl rfl ?_
    refine o_lens Tryd.underlying77 rfl ?_
    refine m_int rfl rfl ?_
    refine o_nil ?_
    refine k_block ?_
    refine k_loop (σ := Nat) (fun i => [(5, .pointer (some ⟨hb, 0, none⟩)), (11, .int .i64 (ws2.length : Int)), (15, .slice a10 (us ++ vs).length c10), (121, .int .i64 ((us ++ vs).length : Int)), (122, .int .i64 (i : Int))]) (fun i w' => i ≤ (us ++ vs).length ∧ w' = w14) (fun i => (us ++ vs).length - i) 0 ⟨rfl, rfl, rfl, rfl, rfl, trivial⟩ ⟨Nat.zero_le _, rfl⟩ (fun i e w15 hJ => ?_)
    obtain ⟨hi, rfl⟩ := hJ
    have hRA := hS14.rd
    refine k_seq ?_
    refine k_region ?_
    refine b_lss rfl rfl ?_
    refine o_nil ?_
    refine k_seq ?_
    refine k_cond rfl (fun h => ?_) (fun h => ?_)
    rotate_left
    ·
      refine k_exit rfl ?_
      refine k_seq ?_
      refine k_region ?_
      refine m_ptr rfl rfl ?_
      refine m_int rfl rfl ?_
      refine m_sl rfl rfl ?_
      refine o_lens Tryd.underlying77 rfl ?_
      refine o_call rfl rfl (char_ok w1.heap.size w15 hb ws4 65536 L4 _ _ (hH6.new hK614) hW6) (fun v w16 hv => ?_)
      rw [sc.charEnd _ (.inr (Int.le_refl _))] at hv
      obtain ⟨rfl, rfl⟩ := hv
      refine m_any rfl rfl ?_
      refine o_extr rfl rfl ?_
      refine o_extr rfl rfl ?_
      refine m_int rfl rfl ?_
      refine m_int rfl rfl ?_
      refine o_nil ?_
      refine k_seq ?_
      refine k_region ?_
      refine m_int rfl rfl ?_
      refine b_eql rfl rfl ?_
      refine m_bool rfl rfl ?_
      refine o_nil ?_
      refine k_ret (ret_tmps (ts := [4]) (v := .bool _) rfl rfl ?_)
      exact ⟨rfl, (hK1.tr hK16).tr hK614⟩
    have hin : i < (us ++ vs).length := by omega
    have hx := u16_at (us ++ vs) i hin
    obtain ⟨b1, o1, hae, _⟩ := hRA _ _ hx
    subst hae
    refine k_skip ?_
    refine k_seq ?_
    refine k_block ?_
    refine k_seq ?_
    refine k_region ?_
    refine m_int rfl rfl ?_
    refine m_int rfl rfl ?_
    refine o_nil ?_
    refine k_seq ?_
    refine k_region ?_
    refine m_ptr rfl rfl ?_
    refine m_int rfl rfl ?_
    refine m_int rfl rfl ?_
    refine o_call rfl rfl (char_ok w1.heap.size w15 hb ws4 65536 L4 _ _ (hH6.new hK614) hW6) (fun v w16 hv => ?_)
    rw [sc.char i hin] at hv
    obtain ⟨rfl, rfl⟩ := hv
    dsimp only
    refine m_any rfl rfl ?_
    refine o_extr rfl rfl ?_
    refine o_extr rfl rfl ?_
    refine m_int rfl rfl ?_
    refine m_int rfl rfl ?_
    refine o_nil ?_
    refine k_seq ?_
    refine k_region ?_
    refine m_int rfl rfl ?_
    refine b_neq rfl rfl ?_
    refine m_bool rfl rfl ?_
    refine o_false (t := 134) rfl ((fun h => h rfl)) ?_
    refine g_yes rfl rfl ?_
    refine m_int rfl rfl ?_
    refine g_yes rfl rfl ?_
    refine m_sl rfl rfl ?_
    refine g_yes rfl rfl ?_
    refine m_int rfl rfl ?_
    refine g_yes rfl rfl ?_
    refine o_ixs1 Tryd.underlying77 rfl rfl rfl hin ?_
    refine g_yes rfl rfl ?_
    refine o_ld rfl rfl (hRA.cellK (Keep.refl _ _) hx) ?_
    refine g_yes rfl rfl ?_
    refine cv16_i rfl Tryd.underlying2 rfl ?_
    refine g_yes rfl rfl ?_
    refine b_neq rfl rfl ?_
    refine pick_f rfl rfl ?_
    refine o_nil ?_
    refine k_no rfl ((fun h => h rfl)) ?_
    refine k_skip ?_
    refine k_blk ?_
    refine k_region ?_
    refine n_add rfl rfl (by omega) ?_
    refine m_int rfl rfl ?_
    refine o_nil ?_
    refine k_goal ⟨i + 1, ⟨rfl, rfl, rfl, rfl, rfl, trivial⟩, ⟨by omega, rfl⟩, by omega⟩
end Go.Proofs.YtchbidckckmobaaDoor
