/- Plain facts of quotients and conditions; the walks of the laws WordDivides, WordHolds. No condition beyond what each contract names. -/
import Derived.Test.YtahhgocfgniejaaWf
namespace Go.Proofs.Ytahhgocfgniejaa
open Go.RowKit E
set_option linter.unusedVariables false
set_option linter.unusedSimpArgs false
set_option maxRecDepth 100000
attribute [local irreducible] ow qw kw kq cw opW Ret
theorem i108 (a b : Int) : W.wInt 108 a b = if W.L b = 0 then (0, 35) else (W.L ((W.L a).tdiv (W.L b)), 0) := by
  unfold W.wInt W.rk
  rw [if_neg (by decide), if_neg (by decide), if_neg (by decide)]
  by_cases h : W.L b = 0
  · rw [if_pos h, if_pos ⟨.inl rfl, h⟩]
  · rw [if_neg h, if_neg (fun h' => h h'.2)]; rfl
theorem i112 (a b : Int) : W.wInt 112 a b = if W.L b = 0 then (0, 35) else ((W.L a).tmod (W.L b), 0) := by
  unfold W.wInt W.rk
  rw [if_neg (by decide), if_neg (by decide), if_neg (by decide)]
  by_cases h : W.L b = 0
  · rw [if_pos h, if_pos ⟨.inr rfl, h⟩]
  · rw [if_neg h, if_neg (fun h' => h h'.2)]; rfl
theorem l109 (a b : Int) : W.wLong 109 a b = if b = 0 then (0, 35) else (IntKind.i64.wrap (a.tdiv b), 0) := by
  unfold W.wLong W.rk
  rw [if_neg (by decide), if_neg (by decide), if_neg (by decide), show IntKind.i64.wrap (109 - 1) = 108 by decide]
  by_cases h : b = 0
  · rw [if_pos h, if_pos ⟨.inl rfl, h⟩]
  · rw [if_neg h, if_neg (fun h' => h h'.2)]; rfl
theorem l113 (a b : Int) : W.wLong 113 a b = if b = 0 then (0, 35) else (a.tmod b, 0) := by
  unfold W.wLong W.rk
  rw [if_neg (by decide), if_neg (by decide), if_neg (by decide), show IntKind.i64.wrap (113 - 1) = 112 by decide]
  by_cases h : b = 0
  · rw [if_pos h, if_pos ⟨.inr rfl, h⟩]
  · rw [if_neg h, if_neg (fun h' => h h'.2)]; rfl
theorem backI (a b : Int) : W.L (W.L (W.L (W.L (W.L ((W.L a).tdiv (W.L b))) * W.L b)) + W.L ((W.L a).tmod (W.L b))) = W.L a := by
  have h := Int.tdiv_mul_add_tmod (W.L a) (W.L b)
  have e : W.L ((W.L a).tdiv (W.L b) * W.L b + (W.L a).tmod (W.L b)) = W.L (W.L a) := by rw [h]
  rw [W.L_L] at e
  refine Eq.trans ?_ e
  generalize W.L b = y
  generalize W.L a = x
  simp only [Lb, Int.bmod_add_bmod, Int.add_bmod_bmod, Int.bmod_mul_bmod, Int.mul_bmod_bmod, Int.bmod_bmod]
theorem backL (a b : Int) (ha : -9223372036854775808 ≤ a ∧ a ≤ 9223372036854775807) : IntKind.i64.wrap (IntKind.i64.wrap (IntKind.i64.wrap (a.tdiv b) * b) + a.tmod b) = a := by
  have h := Int.tdiv_mul_add_tmod a b
  have e : IntKind.i64.wrap (a.tdiv b * b + a.tmod b) = a := by rw [h, IntWalk.i64_in a ha]
  refine Eq.trans ?_ e
  simp only [Qb, Int.bmod_add_bmod, Int.add_bmod_bmod, Int.bmod_mul_bmod, Int.mul_bmod_bmod, Int.bmod_bmod]

theorem divides_ok (w : World) (a b : Int) (ha : -9223372036854775808 ≤ a ∧ a ≤ 9223372036854775807) : Ret Try.prog 8 [.int .i64 a, .int .i64 b] w (fun v w' => v = .bool true ∧ Keep [] w w') := by
  refine fn_enter (n := 96) Try.func8 rfl rfl (Nat.le_of_ble_eq_true rfl) (fun e => ?_)
  refine k_seq ?_
  refine k_region ?_
  refine m_bool rfl rfl ?_
  refine o_nil ?_
  refine k_seq ?_
  refine k_seq ?_
  refine k_region ?_
  refine o_call rfl rfl (fixed_ok w) (fun v w1 hv => ?_)
  obtain ⟨rfl, rfl⟩ := hv
  refine u_notb rfl ?_
  refine o_nil ?_
  refine k_condf rfl ?_
  refine k_skip ?_
  refine k_seq ?_
  refine k_region ?_
  refine m_int rfl rfl ?_
  refine m_int rfl rfl ?_
  refine o_call rfl rfl (int_ok w1 108 a b) (fun v w1 hv => ?_)
  obtain ⟨rfl, rfl⟩ := hv
  refine m_any rfl rfl ?_
  refine o_extr rfl rfl ?_
  refine o_extr rfl rfl ?_
  refine m_int rfl rfl ?_
  refine m_int rfl rfl ?_
  refine o_nil ?_
  refine k_seq ?_
  refine k_region ?_
  refine m_int rfl rfl ?_
  refine m_int rfl rfl ?_
  refine o_call rfl rfl (int_ok w1 112 a b) (fun v w1 hv => ?_)
  obtain ⟨rfl, rfl⟩ := hv
  refine m_any rfl rfl ?_
  refine o_extr rfl rfl ?_
  refine o_extr rfl rfl ?_
  refine m_int rfl rfl ?_
  refine m_int rfl rfl ?_
  refine o_nil ?_
  refine k_seq ?_
  refine k_seq ?_
  refine k_region ?_
  refine m_int rfl rfl ?_
  refine c_int rfl Try.underlying21 rfl ?_
  refine b_eql rfl rfl ?_
  refine o_nil ?_
  refine k_cond rfl (fun h => ?_) (fun h => ?_)
  ·
    have hb : W.L b = 0 := h
    rw [i108, i112, if_pos hb, if_pos hb]
    refine k_seq ?_
    refine k_region ?_
    refine m_int rfl rfl ?_
    refine b_eql rfl rfl ?_
    refine m_bool rfl rfl ?_
    refine o_true (t := 32) rfl (rfl) ?_
    refine g_yes rfl rfl ?_
    refine m_int rfl rfl ?_
    refine g_yes rfl rfl ?_
    refine b_eql rfl rfl ?_
    refine pick_t rfl rfl ?_
    refine m_bool rfl rfl ?_
    refine o_true (t := 36) rfl (rfl) ?_
    refine g_yes rfl rfl ?_
    refine m_int rfl rfl ?_
    refine g_yes rfl rfl ?_
    refine b_eql rfl rfl ?_
    refine pick_t rfl rfl ?_
    refine m_bool rfl rfl ?_
    refine o_true (t := 40) rfl (rfl) ?_
    refine g_yes rfl rfl ?_
    refine m_int rfl rfl ?_
    refine g_yes rfl rfl ?_
    refine b_eql rfl rfl ?_
    refine pick_t rfl rfl ?_
    refine m_bool rfl rfl ?_
    refine o_nil ?_
    refine k_ret (ret_tmps (ts := [4]) (v := .bool _) rfl rfl ?_)
    exact ⟨rfl, Keep.refl _ _⟩
  have hb : ¬ W.L b = 0 := h
  rw [i108, i112, if_neg hb, if_neg hb]
  refine k_skip ?_
  refine k_seq ?_
  refine k_seq ?_
  refine k_region ?_
  refine m_int rfl rfl ?_
  refine b_neq rfl rfl ?_
  refine m_bool rfl rfl ?_
  refine o_false (t := 46) rfl (fun h => h rfl) ?_
  refine g_yes rfl rfl ?_
  refine m_int rfl rfl ?_
  refine g_yes rfl rfl ?_
  refine b_neq rfl rfl ?_
  refine pick_f rfl rfl ?_
  refine m_bool rfl rfl ?_
  refine o_false (t := 50) rfl (fun h => h rfl) ?_
  refine g_yes rfl rfl ?_
  refine m_int rfl rfl ?_
  refine g_yes rfl rfl ?_
  refine m_int rfl rfl ?_
  refine g_yes rfl rfl ?_
  refine o_call rfl rfl (reckonF_ok w1 104 _ _) (fun v w1 hv => ?_)
  obtain ⟨rfl, rfl⟩ := hv
  refine g_yes rfl rfl ?_
  refine m_int rfl rfl ?_
  refine g_yes rfl rfl ?_
  refine o_call rfl rfl (reckonF_ok w1 96 _ _) (fun v w1 hv => ?_)
  obtain ⟨rfl, rfl⟩ := hv
  refine g_yes rfl rfl ?_
  refine m_int rfl rfl ?_
  refine g_yes rfl rfl ?_
  refine c_int rfl Try.underlying21 rfl ?_
  refine g_yes rfl rfl ?_
  refine c_i64 rfl Try.underlying2 rfl (i32_64 _) ?_
  refine g_yes rfl rfl ?_
  refine b_neq rfl rfl ?_
  refine pick_f rfl rfl ?_
  refine o_nil ?_
  refine k_no rfl (fun h => h (backI a b)) ?_
  refine k_skip ?_
  refine k_seq ?_
  refine k_region ?_
  refine m_int rfl rfl ?_
  refine m_int rfl rfl ?_
  refine o_call rfl rfl (long_ok w1 109 a b) (fun v w1 hv => ?_)
  obtain ⟨rfl, rfl⟩ := hv
  refine m_any rfl rfl ?_
  refine o_extr rfl rfl ?_
  refine o_extr rfl rfl ?_
  refine m_int rfl rfl ?_
  refine m_int rfl rfl ?_
  refine o_nil ?_
  refine k_seq ?_
  refine k_region ?_
  refine m_int rfl rfl ?_
  refine m_int rfl rfl ?_
  refine o_call rfl rfl (long_ok w1 113 a b) (fun v w1 hv => ?_)
  obtain ⟨rfl, rfl⟩ := hv
  refine m_any rfl rfl ?_
  refine o_extr rfl rfl ?_
  refine o_extr rfl rfl ?_
  refine m_int rfl rfl ?_
  refine m_int rfl rfl ?_
  refine o_nil ?_
  refine k_seq ?_
  refine k_seq ?_
  refine k_region ?_
  refine m_int rfl rfl ?_
  refine b_eql rfl rfl ?_
  refine o_nil ?_
  refine k_cond rfl (fun h => ?_) (fun h => ?_)
  ·
    rw [l109, l113, if_pos h, if_pos h]
    refine k_seq ?_
    refine k_region ?_
    refine m_int rfl rfl ?_
    refine b_eql rfl rfl ?_
    refine m_bool rfl rfl ?_
    refine o_true (t := 77) rfl (rfl) ?_
    refine g_yes rfl rfl ?_
    refine m_int rfl rfl ?_
    refine g_yes rfl rfl ?_
    refine b_eql rfl rfl ?_
    refine pick_t rfl rfl ?_
    refine m_bool rfl rfl ?_
    refine o_nil ?_
    refine k_ret (ret_tmps (ts := [4]) (v := .bool _) rfl rfl ?_)
    exact ⟨rfl, Keep.refl _ _⟩
  rw [l109, l113, if_neg h, if_neg h]
  refine k_skip ?_
  refine k_seq ?_
  refine k_region ?_
  refine m_int rfl rfl ?_
  refine b_eql rfl rfl ?_
  refine m_bool rfl rfl ?_
  refine o_true (t := 83) rfl (rfl) ?_
  refine g_yes rfl rfl ?_
  refine m_int rfl rfl ?_
  refine g_yes rfl rfl ?_
  refine b_eql rfl rfl ?_
  refine pick_t rfl rfl ?_
  refine m_bool rfl rfl ?_
  refine o_true (t := 87) rfl (rfl) ?_
  refine g_yes rfl rfl ?_
  refine m_int rfl rfl ?_
  refine g_yes rfl rfl ?_
  refine m_int rfl rfl ?_
  refine g_yes rfl rfl ?_
  refine o_call rfl rfl (reckonT_ok w1 105 _ _) (fun v w1 hv => ?_)
  obtain ⟨rfl, rfl⟩ := hv
  refine g_yes rfl rfl ?_
  refine m_int rfl rfl ?_
  refine g_yes rfl rfl ?_
  refine o_call rfl rfl (reckonT_ok w1 97 _ _) (fun v w1 hv => ?_)
  obtain ⟨rfl, rfl⟩ := hv
  refine g_yes rfl rfl ?_
  refine m_int rfl rfl ?_
  refine g_yes rfl rfl ?_
  refine b_eql rfl rfl ?_
  refine pick_t rfl rfl ?_
  refine m_bool rfl rfl ?_
  refine o_nil ?_
  refine k_ret (ret_tmps (ts := [4]) (v := .bool _) rfl rfl ?_)
  exact ⟨congrArg Value.bool (decide_eq_true (backL a b ha)), Keep.refl _ _⟩
end Go.Proofs.Ytahhgocfgniejaa
