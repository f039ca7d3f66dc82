/- The walks of the laws' fixed, of ArenaHeads and of ArenaBack. No condition beyond what each contract names. -/
import Derived.Test.YtchbidckckmobaaAg
namespace Go.Proofs.Ytchbidckckmobaa
open Go.RowKit E
set_option linter.unusedVariables false
set_option linter.unusedSimpArgs false
set_option maxRecDepth 100000
attribute [local irreducible] ow qw kw kq cw opW Ret
theorem o_c : openW 262147 = (3, 0, 1, 0, 0) := by decide
theorem ch1 (x : Int) : chain [0, 262147, x] 1 = some [1] := by
  rw [chain_yes [0, 262147, x] 1 (by simp) (by show (openW 262147).2.2.2.2 = 0 ∧ _; rw [show ([0, 262147, x] : List Int)[1] = 262147 from rfl, o_c]; simp)]
  rw [show ([0, 262147, x] : List Int)[1] = 262147 from rfl, o_c, chain_end _ _ (by simp)]
  rfl
theorem rf1 (x : Int) : refsW [0, 262147, x] 1 = [2] := by
  have h := refsW_at [0, 262147, x] 1 (by simp)
  rw [show ([0, 262147, x] : List Int)[1] = 262147 from rfl, o_c] at h
  exact h
theorem bl1 : blocksW [0, 262147, 1] = some [1] := by
  rw [blocks_b _ _ (by simp) rfl (ch1 1), if_pos]
  intro b hb
  simp at hb
  subst hb
  unfold refOk
  rw [rf1]
  simp
theorem bl2 : blocksW [0, 262147, 2] = none := by
  rw [blocks_b _ _ (by simp) rfl (ch1 2), if_neg]
  intro H
  have := H 1 (by simp)
  unfold refOk at this
  rw [rf1] at this
  simp at this
theorem bl3 : blocksW [] = none := rfl
theorem fixed_ok (w : World) : Ret Try.prog 7 [] w (fun v w' => v = .bool true ∧ Keep [] w w') := by
  refine fn_enter (n := 93) Try.func7 rfl rfl (Nat.le_of_ble_eq_true rfl) (fun e => ?_)
  refine k_seq ?_
  refine k_region ?_
  refine m_bool rfl rfl ?_
  refine o_nil ?_
  refine k_seq ?_
  refine k_region ?_
  refine o_call rfl rfl (head_ok w 2 3 5 0 (by omega) (by omega) (by omega)) (fun v w1 hv => ?_)
  obtain ⟨rfl, rfl⟩ := hv
  rw [show headW 2 3 5 0 = (1310734, 0) by decide]
  refine m_any rfl rfl ?_
  refine o_extr rfl rfl ?_
  refine o_extr rfl rfl ?_
  refine m_int rfl rfl ?_
  refine m_int rfl rfl ?_
  refine o_nil ?_
  refine k_seq ?_
  refine k_region ?_
  refine o_call rfl rfl (head_ok w1 1 0 2 2 (by omega) (by omega) (by omega)) (fun v w1 hv => ?_)
  obtain ⟨rfl, rfl⟩ := hv
  rw [show headW 1 0 2 2 = (34078721, 0) by decide]
  refine m_any rfl rfl ?_
  refine o_extr rfl rfl ?_
  refine o_extr rfl rfl ?_
  refine m_int rfl rfl ?_
  refine m_int rfl rfl ?_
  refine o_nil ?_
  refine k_seq ?_
  refine k_region ?_
  refine o_call rfl rfl (head_ok w1 1 0 2 4 (by omega) (by omega) (by omega)) (fun v w1 hv => ?_)
  obtain ⟨rfl, rfl⟩ := hv
  rw [show headW 1 0 2 4 = (0, 1) by decide]
  refine m_any rfl rfl ?_
  refine o_extr rfl rfl ?_
  refine o_extr rfl rfl ?_
  refine m_int rfl rfl ?_
  refine m_int rfl rfl ?_
  refine o_nil ?_
  refine k_seq ?_
  refine k_region ?_
  refine o_call rfl rfl (head_ok w1 3 0 1 0 (by omega) (by omega) (by omega)) (fun v w1 hv => ?_)
  obtain ⟨rfl, rfl⟩ := hv
  rw [show headW 3 0 1 0 = (262147, 0) by decide]
  refine m_any rfl rfl ?_
  refine o_extr rfl rfl ?_
  refine o_extr rfl rfl ?_
  refine m_int rfl rfl ?_
  refine m_int rfl rfl ?_
  refine o_nil ?_
  refine k_seq ?_
  refine k_region ?_
  refine m_int rfl rfl ?_
  refine o_bsl (E := 2) (cs := ([0, 262147, 1].map iv).toArray) rfl (fun _ => by kernel_rfl) (fun g2 w2 hB2 hK2 hb2 hZ2 => ?_)
  refine o_call rfl rfl (blocks_ok w2 _ 3 3 [0, 262147, 1] hB2.rd rfl (by omega)) (fun v w3 hv => ?_)
  unfold BlkRes at hv
  rw [bl1] at hv
  obtain ⟨s, rfl, a3, c3, rfl, hS3, hK3, hf3⟩ := hv
  refine m_any rfl rfl ?_
  refine o_extr rfl rfl ?_
  refine o_extr rfl rfl ?_
  refine m_sl rfl rfl ?_
  refine m_int rfl rfl ?_
  refine o_nil ?_
  refine k_seq ?_
  refine k_region ?_
  refine m_int rfl rfl ?_
  refine o_bsl (E := 2) (cs := ([0, 262147, 2].map iv).toArray) rfl (fun _ => by kernel_rfl) (fun g4 w4 hB4 hK4 hb4 hZ4 => ?_)
  refine o_call rfl rfl (blocks_ok w4 _ 3 3 [0, 262147, 2] hB4.rd rfl (by omega)) (fun v w5 hv => ?_)
  unfold BlkRes at hv
  rw [bl2] at hv
  obtain ⟨rfl, hK5⟩ := hv
  refine m_any rfl rfl ?_
  refine o_extr rfl rfl ?_
  refine o_extr rfl rfl ?_
  refine m_sl rfl rfl ?_
  refine m_int rfl rfl ?_
  refine o_nil ?_
  refine k_seq ?_
  refine k_region ?_
  refine o_call rfl rfl (blocks_ok w5 _ 0 0 [] (Rd.nil _ _) rfl (by omega)) (fun v w6 hv => ?_)
  unfold BlkRes at hv
  rw [bl3] at hv
  obtain ⟨rfl, hK6⟩ := hv
  refine m_any rfl rfl ?_
  refine o_extr rfl rfl ?_
  refine o_extr rfl rfl ?_
  refine m_sl rfl rfl ?_
  refine m_int rfl rfl ?_
  refine o_nil ?_
  refine k_seq ?_
  refine k_region ?_
  refine m_int rfl rfl ?_
  refine b_eql rfl rfl ?_
  refine m_bool rfl rfl ?_
  refine o_true (t := 49) rfl (rfl) ?_
  refine g_yes rfl rfl ?_
  refine m_int rfl rfl ?_
  refine g_yes rfl rfl ?_
  refine b_eql rfl rfl ?_
  refine pick_t rfl rfl ?_
  refine m_bool rfl rfl ?_
  refine o_true (t := 53) rfl (rfl) ?_
  refine g_yes rfl rfl ?_
  refine m_int rfl rfl ?_
  refine g_yes rfl rfl ?_
  refine b_eql rfl rfl ?_
  refine pick_t rfl rfl ?_
  refine m_bool rfl rfl ?_
  refine o_true (t := 57) rfl (rfl) ?_
  refine g_yes rfl rfl ?_
  refine m_int rfl rfl ?_
  refine g_yes rfl rfl ?_
  refine b_eql rfl rfl ?_
  refine pick_t rfl rfl ?_
  refine m_bool rfl rfl ?_
  refine o_true (t := 61) rfl (rfl) ?_
  refine g_yes rfl rfl ?_
  refine m_int rfl rfl ?_
  refine g_yes rfl rfl ?_
  refine b_eql rfl rfl ?_
  refine pick_t rfl rfl ?_
  refine m_bool rfl rfl ?_
  refine o_true (t := 65) rfl (rfl) ?_
  refine g_yes rfl rfl ?_
  refine m_int rfl rfl ?_
  refine g_yes rfl rfl ?_
  refine b_eql rfl rfl ?_
  refine pick_t rfl rfl ?_
  refine m_bool rfl rfl ?_
  refine o_true (t := 69) rfl (rfl) ?_
  refine g_yes rfl rfl ?_
  refine m_sl rfl rfl ?_
  refine g_yes rfl rfl ?_
  refine o_bsl (E := 3) (cs := ([1].map iv).toArray) rfl (fun _ => by kernel_rfl) (fun g7 w7 hB7 hK7 hb7 hZ7 => ?_)
  refine g_yes rfl rfl ?_
  refine o_call rfl rfl (same_ok w7 a3 _ 1 1 c3 1 [1] [1] (hS3.rd.new (hK4.tr (hK5.tr (hK6.tr hK7)))) hB7.rd rfl rfl (by omega)) (fun v w8 hv => ?_)
  obtain ⟨rfl, hK8⟩ := hv
  refine pick_t rfl rfl ?_
  refine m_bool rfl rfl ?_
  refine o_true (t := 74) rfl (rfl) ?_
  refine g_yes rfl rfl ?_
  refine m_int rfl rfl ?_
  refine g_yes rfl rfl ?_
  refine b_eql rfl rfl ?_
  refine pick_t rfl rfl ?_
  refine m_bool rfl rfl ?_
  refine o_true (t := 78) rfl (rfl) ?_
  refine g_yes rfl rfl ?_
  refine m_int rfl rfl ?_
  refine g_yes rfl rfl ?_
  refine b_eql rfl rfl ?_
  refine pick_t rfl rfl ?_
  refine m_bool rfl rfl ?_
  refine o_true (t := 82) rfl (rfl) ?_
  refine g_yes rfl rfl ?_
  refine m_int rfl rfl ?_
  refine g_yes rfl rfl ?_
  refine b_eql rfl rfl ?_
  refine pick_t rfl rfl ?_
  refine m_bool rfl rfl ?_
  refine o_true (t := 86) rfl (rfl) ?_
  refine g_yes rfl rfl ?_
  refine m_int rfl rfl ?_
  refine g_yes rfl rfl ?_
  refine o_bsl (E := 2) (cs := ([0, 262147, 1].map iv).toArray) rfl (fun _ => by kernel_rfl) (fun g9 w9 hB9 hK9 hb9 hZ9 => ?_)
  refine g_yes rfl rfl ?_
  refine o_call rfl rfl (refs_ok w9 _ 3 3 [0, 262147, 1] 1 hB9.rd rfl (by omega)) (fun v w10 hv => ?_)
  rw [rf1] at hv
  obtain ⟨a10, c10, rfl, hS10, hK10, hf10⟩ := hv
  refine g_yes rfl rfl ?_
  refine o_bsl (E := 3) (cs := ([2].map iv).toArray) rfl (fun _ => by kernel_rfl) (fun g11 w11 hB11 hK11 hb11 hZ11 => ?_)
  refine g_yes rfl rfl ?_
  refine o_call rfl rfl (same_ok w11 a10 _ 1 1 c10 1 [2] [2] (hS10.rd.new hK11) hB11.rd rfl rfl (by omega)) (fun v w12 hv => ?_)
  obtain ⟨rfl, hK12⟩ := hv
  refine pick_t rfl rfl ?_
  refine m_bool rfl rfl ?_
  refine o_nil ?_
  refine k_ret (ret_tmps (ts := [0]) (v := .bool _) rfl rfl ?_)
  exact ⟨rfl, hK2.tr (hK3.tr (hK4.tr (hK5.tr (hK6.tr (hK7.tr (hK8.tr (hK9.tr (hK10.tr (hK11.tr hK12)))))))))⟩

theorem heads_ok (w : World) (kind cl n mask x : Int) (hc : -9223372036854775808 ≤ cl ∧ cl ≤ 9223372036854775807) (hn : -9223372036854775808 ≤ n ∧ n ≤ 9223372036854775807) (hm : -9223372036854775808 ≤ mask ∧ mask ≤ 9223372036854775807) (hx : x ≤ 9223372036854775807) :
    Ret Try.prog 3 [.int .i64 kind, .int .i64 cl, .int .i64 n, .int .i64 mask, .int .i64 x] w (fun v w' => v = .bool true ∧ Keep [] w w') := by
  refine fn_enter (n := 92) Try.func3 rfl rfl (Nat.le_of_ble_eq_true rfl) (fun e => ?_)
  refine k_seq ?_
  refine k_region ?_
  refine m_bool rfl rfl ?_
  refine o_nil ?_
  refine k_seq ?_
  refine k_seq ?_
  refine k_region ?_
  refine o_call rfl rfl (fixed_ok w) (fun v w1 hv => ?_)
  obtain ⟨rfl, hK1⟩ := hv
  refine u_notb rfl ?_
  refine o_nil ?_
  refine k_condf rfl ?_
  refine k_skip ?_
  refine k_seq ?_
  refine k_region ?_
  refine m_int rfl rfl ?_
  refine m_int rfl rfl ?_
  refine m_int rfl rfl ?_
  refine m_int rfl rfl ?_
  refine o_call rfl rfl (head_ok w1 _ _ _ _ hc hn hm) (fun v w2 hv => ?_)
  obtain ⟨rfl, rfl⟩ := hv
  refine m_any rfl rfl ?_
  refine o_extr rfl rfl ?_
  refine o_extr rfl rfl ?_
  refine m_int rfl rfl ?_
  refine m_int rfl rfl ?_
  refine o_nil ?_
  refine k_seq ?_
  refine k_region ?_
  refine m_int rfl rfl ?_
  refine m_int rfl rfl ?_
  refine m_int rfl rfl ?_
  refine m_int rfl rfl ?_
  refine o_call rfl rfl (rhead_ok w2 _ _ _ _ hm) (fun v w3 hv => ?_)
  obtain ⟨rfl, rfl⟩ := hv
  refine m_any rfl rfl ?_
  refine o_extr rfl rfl ?_
  refine o_extr rfl rfl ?_
  refine m_int rfl rfl ?_
  refine m_int rfl rfl ?_
  refine o_nil ?_
  refine k_seq ?_
  refine k_region ?_
  refine m_int rfl rfl ?_
  refine o_call rfl rfl (open_ok w3 _) (fun v w4 hv => ?_)
  obtain ⟨rfl, rfl⟩ := hv
  refine m_any rfl rfl ?_
  refine o_extr rfl rfl ?_
  refine o_extr rfl rfl ?_
  refine o_extr rfl rfl ?_
  refine o_extr rfl rfl ?_
  refine o_extr rfl rfl ?_
  refine m_int rfl rfl ?_
  refine m_int rfl rfl ?_
  refine m_int rfl rfl ?_
  refine m_int rfl rfl ?_
  refine m_int rfl rfl ?_
  refine o_nil ?_
  refine k_seq ?_
  refine k_region ?_
  refine m_int rfl rfl ?_
  refine o_call rfl rfl (ropen_ok w4 _ hx) (fun v w5 hv => ?_)
  obtain ⟨rfl, rfl⟩ := hv
  refine m_any rfl rfl ?_
  refine o_extr rfl rfl ?_
  refine o_extr rfl rfl ?_
  refine o_extr rfl rfl ?_
  refine o_extr rfl rfl ?_
  refine o_extr rfl rfl ?_
  refine m_int rfl rfl ?_
  refine m_int rfl rfl ?_
  refine m_int rfl rfl ?_
  refine m_int rfl rfl ?_
  refine m_int rfl rfl ?_
  refine o_nil ?_
  refine k_seq ?_
  refine k_region ?_
  refine m_int rfl rfl ?_
  refine m_int rfl rfl ?_
  refine b_eql rfl rfl ?_
  refine m_bool rfl rfl ?_
  refine o_true (t := 62) rfl (rfl) ?_
  refine g_yes rfl rfl ?_
  refine m_int rfl rfl ?_
  refine g_yes rfl rfl ?_
  refine m_int rfl rfl ?_
  refine g_yes rfl rfl ?_
  refine b_eql rfl rfl ?_
  refine pick_t rfl rfl ?_
  refine m_bool rfl rfl ?_
  refine o_true (t := 67) rfl (rfl) ?_
  refine g_yes rfl rfl ?_
  refine m_int rfl rfl ?_
  refine g_yes rfl rfl ?_
  refine m_int rfl rfl ?_
  refine g_yes rfl rfl ?_
  refine b_eql rfl rfl ?_
  refine pick_t rfl rfl ?_
  refine m_bool rfl rfl ?_
  refine o_true (t := 72) rfl (rfl) ?_
  refine g_yes rfl rfl ?_
  refine m_int rfl rfl ?_
  refine g_yes rfl rfl ?_
  refine m_int rfl rfl ?_
  refine g_yes rfl rfl ?_
  refine b_eql rfl rfl ?_
  refine pick_t rfl rfl ?_
  refine m_bool rfl rfl ?_
  refine o_true (t := 77) rfl (rfl) ?_
  refine g_yes rfl rfl ?_
  refine m_int rfl rfl ?_
  refine g_yes rfl rfl ?_
  refine m_int rfl rfl ?_
  refine g_yes rfl rfl ?_
  refine b_eql rfl rfl ?_
  refine pick_t rfl rfl ?_
  refine m_bool rfl rfl ?_
  refine o_true (t := 82) rfl (rfl) ?_
  refine g_yes rfl rfl ?_
  refine m_int rfl rfl ?_
  refine g_yes rfl rfl ?_
  refine m_int rfl rfl ?_
  refine g_yes rfl rfl ?_
  refine b_eql rfl rfl ?_
  refine pick_t rfl rfl ?_
  refine m_bool rfl rfl ?_
  refine o_true (t := 87) rfl (rfl) ?_
  refine g_yes rfl rfl ?_
  refine m_int rfl rfl ?_
  refine g_yes rfl rfl ?_
  refine m_int rfl rfl ?_
  refine g_yes rfl rfl ?_
  refine b_eql rfl rfl ?_
  refine pick_t rfl rfl ?_
  refine m_bool rfl rfl ?_
  refine o_nil ?_
  refine k_ret (ret_tmps (ts := [10]) (v := .bool _) rfl rfl ?_)
  exact ⟨congrArg Value.bool (decide_eq_true rfl), hK1⟩
end Go.Proofs.Ytchbidckckmobaa
