/- The walk of the law SumBytes. No condition beyond what the contract names. -/
import Derived.Test.YtmilnijpnlhcoaaWc
namespace Go.Proofs.Ytmilnijpnlhcoaa
open Go.RowKit E
set_option linter.unusedVariables false
set_option linter.unusedSimpArgs false
set_option maxRecDepth 100000
attribute [local irreducible] ow qw kw kq cw opW Ret
theorem of_one (w : World) (a b : Option Addr) (c g : Nat) (l : List (BitVec 8)) (hB : Blk w g #[.slice a l.length c] 22) (hR : Rd w a (l.map u8v)) (hl : l.length ≤ 9223372036854775807) :
    Ret Try.prog 12 [.slice (some ⟨g, 0, none⟩) 1 1] w (fun v w' => v = .int .i64 (Crc.add 0 l) ∧ Keep [] w w') :=
  of_ok w (some ⟨g, 0, none⟩) 1 [⟨a, c, l⟩] hB.rd (by intro p hp; simp at hp; subst hp; exact ⟨hR, hl⟩) (Nat.le_of_ble_eq_true rfl)

theorem sumBytes_ok (w : World) (s : Int) (a : Option Addr) (c : Nat) (l : List (BitVec 8)) (hR : Rd w a (l.map u8v)) (hl : l.length ≤ 9223372036854775807) :
    Ret Try.prog 3 [.int .i64 s, .slice a l.length c] w (fun v w' => v = .bool true ∧ Keep [] w w') := by
  refine fn_enter (n := 23) Try.func3 rfl rfl (Nat.le_of_ble_eq_true rfl) (fun e => ?_)
  refine k_seq ?_
  refine k_region ?_
  refine m_bool rfl rfl ?_
  refine o_nil ?_
  refine k_seq ?_
  refine k_seq ?_
  refine k_region ?_
  refine o_call rfl rfl (fixed_ok w) (fun v w1 hv => ?_)
  obtain ⟨rfl, hK1⟩ := hv
  refine u_notb rfl ?_
  refine o_nil ?_
  refine k_condf rfl ?_
  refine k_skip ?_
  refine k_seq ?_
  refine k_region ?_
  refine o_call rfl rfl (new_ok w1) (fun v w2 hv => ?_)
  obtain ⟨tb, rfl, htb, hB, hK2⟩ := hv
  have hk2 := hK1.tr hK2
  refine m_int rfl rfl ?_
  refine m_sl rfl rfl ?_
  refine o_call rfl rfl (add_ok w2 tb 42 s a c l hB (hR.new hk2) hl) (fun v w3 hv => ?_)
  obtain ⟨rfl, rfl⟩ := hv
  refine m_int rfl rfl ?_
  refine m_sl rfl rfl ?_
  refine o_call rfl rfl (radd_ok w3 s a c l (hR.new hk2) hl) (fun v w4 hv => ?_)
  obtain ⟨rfl, rfl⟩ := hv
  refine b_eql rfl rfl ?_
  refine m_bool rfl rfl ?_
  refine o_true (t := 15) rfl (rfl) ?_
  refine g_yes rfl rfl ?_
  refine m_sl rfl rfl ?_
  refine g_yes rfl rfl ?_
  refine o_bsl (E := 22) (cs := #[.slice a l.length c]) rfl (fun _ => by kernel_rfl) (fun g w5 hB5 hK5 hb5 hZ5 => ?_)
  have hk5 := hk2.tr hK5
  refine g_yes rfl rfl ?_
  refine o_call rfl rfl (of_one w5 a a c g l hB5 (hR.new hk5) hl) (fun v w6 hv => ?_)
  obtain ⟨rfl, hK6⟩ := hv
  have hk6 := hk5.tr hK6
  refine g_yes rfl rfl ?_
  refine m_sl rfl rfl ?_
  refine g_yes rfl rfl ?_
  refine o_call rfl rfl (rof_ok w6 a c l (hR.new hk6) hl) (fun v w7 hv => ?_)
  obtain ⟨rfl, rfl⟩ := hv
  refine g_yes rfl rfl ?_
  refine b_eql rfl rfl ?_
  refine pick_t rfl rfl ?_
  refine m_bool rfl rfl ?_
  refine o_nil ?_
  refine k_ret (ret_tmps (ts := [4]) (v := .bool _) rfl rfl ?_)
  exact ⟨by simp, hk6⟩
end Go.Proofs.Ytmilnijpnlhcoaa
