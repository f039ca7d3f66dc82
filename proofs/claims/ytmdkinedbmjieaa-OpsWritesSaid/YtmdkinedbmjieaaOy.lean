/- Ops: the walk of OpsReads. No condition beyond what its contract names. -/
import Derived.Test.YtmdkinedbmjieaaOx
namespace Go.Proofs.Ytmdkinedbmjieaa
open Go.RowKit E
set_option linter.unusedVariables false
set_option linter.unusedSimpArgs false
set_option maxRecDepth 100000
attribute [local irreducible] ow qw kw kq cw opW Ret
set_option maxHeartbeats 1000000 in
theorem reads_ok (w : World) (a : Option Addr) (n c : Nat) (cs : Bs) (hn : cs.length = n) (hR : Rd w a (cs.map u8v)) (hc : n ≤ c) (hl : c ≤ 9223372036854775807) (hby : c ≤ 140737488351232) :
    Ret Try.prog 3 [.slice a n c] w (fun v w' => v = .bool true ∧ Keep [] w w') := by
  subst hn
  refine fn_enter (n := 36) Try.func3 rfl rfl (Nat.le_of_ble_eq_true rfl) (fun e => ?_)
  refine k_seq ?_
  refine k_region ?_
  refine m_bool rfl rfl ?_
  refine o_nil ?_
  refine k_seq ?_
  refine k_seq ?_
  refine k_region ?_
  refine o_call rfl rfl (fixed_ok w) (fun v w1 hv => ?_)
  obtain ⟨rfl, hK1⟩ := hv
  refine u_notb rfl ?_
  refine o_nil ?_
  refine k_condf rfl ?_
  refine k_skip ?_
  refine k_seq ?_
  refine k_region ?_
  refine o_bsl (E := 5) (cs := #[]) rfl (fun _ => by kernel_rfl) (fun g w2 hB2 hK2 hb2 hZ2 => ?_)
  refine m_sl rfl rfl ?_
  refine o_app Try.underlying22 inf5 rfl (by decide) rfl rfl (hB2.sl (sz := 1) (len := 0) rfl (by decide)) (hR.new (hK1.tr hK2)) (by simp) (u8_one cs) (by simp [maxLen]; omega) (by omega) (fun a3 c3 w3 hS3 hK3 hv3 => ?_)
  have hK03 : Keep [] w w3 := (hK1.tr hK2).trb hK3 (by intro p hp; cases hp; have := hK1.size; simp; omega)
  have hS3' : Sl w3 5 1 a3 cs.length c3 (cs.map u8v) := by have := hS3; rwa [Array.toList_empty, List.nil_append, Nat.zero_add] at this
  rw [show 0 + cs.length = cs.length by omega]
  refine m_sl rfl rfl ?_
  refine o_nil ?_
  refine k_seq ?_
  refine k_region ?_
  refine m_sl rfl rfl ?_
  refine o_call rfl rfl (read_ok w3 a3 c3 cs hS3'.rd hS3'.le (by omega)) (fun v w4 hv => ?_)
  obtain ⟨a4, c4, vs4, rfl, hS4, hX4, hf4, hK4⟩ := hv
  have hK04 := hK03.tr hK4
  refine m_any rfl rfl ?_
  refine o_extr rfl rfl ?_
  refine o_extr rfl rfl ?_
  refine m_sl rfl rfl ?_
  refine m_int rfl rfl ?_
  refine o_nil ?_
  refine k_seq ?_
  refine k_region ?_
  refine m_sl rfl rfl ?_
  refine o_call rfl rfl (rread_ok w4 a c cs (hR.new hK04) hc (by omega)) (fun v w5 hv => ?_)
  obtain ⟨a5, c5, vs5, rfl, hR5, hX5, hK5⟩ := hv
  have hK05 := hK04.tr hK5
  refine m_any rfl rfl ?_
  refine o_extr rfl rfl ?_
  refine o_extr rfl rfl ?_
  refine m_sl rfl rfl ?_
  refine m_int rfl rfl ?_
  refine o_nil ?_
  refine k_seq ?_
  refine k_region ?_
  refine m_int rfl rfl ?_
  refine m_int rfl rfl ?_
  refine b_eql rfl rfl ?_
  refine m_bool rfl rfl ?_
  refine o_true (t := 26) rfl (rfl) ?_
  refine g_yes rfl rfl ?_
  refine m_sl rfl rfl ?_
  refine g_yes rfl rfl ?_
  refine m_sl rfl rfl ?_
  refine g_yes rfl rfl ?_
  refine o_call rfl rfl (rsame_ok w5 a4 a5 c4 c5 vs4 vs5 (rdV cs) (rdV cs) (hS4.rd.new hK5) (hX4.mono fun v l hv => hv.gr.new hK5) hR5 hX5 (sl_max hS4) (sl_max hS4)) (fun v w6 hv => ?_)
  obtain ⟨rfl, hK6⟩ := hv
  refine pick_t rfl rfl ?_
  refine m_bool rfl rfl ?_
  refine o_true (t := 31) rfl (rfl) ?_
  refine g_yes rfl rfl ?_
  refine m_sl rfl rfl ?_
  refine g_yes rfl rfl ?_
  refine m_sl rfl rfl ?_
  refine g_yes rfl rfl ?_
  refine o_call rfl rfl (bsame_ok w6 a3 a c3 c cs cs (hS3'.rd.new ((hK4.tr hK5).tr hK6)) (hR.new (hK05.tr hK6)) (by omega)) (fun v w7 hv => ?_)
  obtain ⟨rfl, hK7⟩ := hv
  refine pick_t rfl rfl ?_
  refine m_bool rfl rfl ?_
  refine o_nil ?_
  refine k_ret (ret_tmps (ts := [2]) (v := .bool _) rfl rfl ?_)
  exact ⟨congrArg Value.bool (decide_eq_true rfl), (hK05.tr hK6).tr hK7⟩
end Go.Proofs.Ytmdkinedbmjieaa
