/- A head and its parts; the walk of ArenaBack. No condition beyond what each contract names. -/
import Derived.Test.YtchbidckckmobaaAh
namespace Go.Proofs.Ytchbidckckmobaa
open Go.RowKit E
set_option linter.unusedVariables false
set_option linter.unusedSimpArgs false
set_option maxRecDepth 100000
attribute [local irreducible] ow qw kw kq cw opW Ret
theorem open_head (k c n m : Int) (h : hOk k c n m) : openW (k + 4 * c + 262144 * n + 16777216 * m) = (k, c, n, m, 0) := by
  have hy := head_yes h
  obtain ⟨h1, h2, h3, h4, h5, h6, h7, h8⟩ := h
  have hm : 0 ≤ m ∧ m < 4294967296 := by
    by_cases hk : k = 1
    · have := h8 hk
      have hp := ipow32 n.toNat (by omega)
      omega
    · have := h7 hk; omega
  have h9 : k = 1 → n ≤ 32 := fun hk => (h8 hk).1
  clear h8
  refine open_yes _ k c n m (by unfold pk; omega) (by unfold pc; omega) ?_ ?_ hy
  · unfold pn
    split <;> omega
  · unfold pm
    split <;> omega
theorem open_err (x : Int) (h : (openW x).2.2.2.2 ≠ 0) : openW x = (0, 0, 0, 0, 24) := by
  unfold openW at h ⊢
  split at h
  · simp at h
  · rename_i hh; rw [if_neg hh]
theorem open_back (x : Int) (h : (openW x).2.2.2.2 = 0) : headW (openW x).1 (openW x).2.1 (openW x).2.2.1 (openW x).2.2.2.1 = (x, 0) := by
  unfold openW at h ⊢
  split at h
  · rename_i hh; rw [if_pos hh]; exact hh
  · simp at h
theorem head_open (k c n m : Int) (h : (headW k c n m).2 = 0) : openW (headW k c n m).1 = (k, c, n, m, 0) := by
  by_cases hk : hOk k c n m
  · rw [head_yes hk]; exact open_head k c n m hk
  · rw [head_no hk] at h; simp at h
theorem open_rng (x : Int) (h : (openW x).2.2.2.2 = 0) : (-9223372036854775808 ≤ (openW x).2.1 ∧ (openW x).2.1 ≤ 9223372036854775807) := by
  unfold openW at h ⊢
  split at h
  · rename_i hh; rw [if_pos hh]; simp only; unfold pc; omega
  · simp at h
theorem back_ok (w : World) (kind cl n mask x : Int) (hc : -9223372036854775808 ≤ cl ∧ cl ≤ 9223372036854775807) (hn : -9223372036854775808 ≤ n ∧ n ≤ 9223372036854775807) (hm : -9223372036854775808 ≤ mask ∧ mask ≤ 9223372036854775807) :
    Ret Try.prog 4 [.int .i64 kind, .int .i64 cl, .int .i64 n, .int .i64 mask, .int .i64 x] w (fun v w' => v = .bool true ∧ Keep [] w w') := by
  refine fn_enter (n := 106) Try.func4 rfl rfl (Nat.le_of_ble_eq_true rfl) (fun e => ?_)
  refine k_seq ?_
  refine k_region ?_
  refine m_bool rfl rfl ?_
  refine o_nil ?_
  refine k_seq ?_
  refine k_seq ?_
  refine k_region ?_
  refine o_call rfl rfl (fixed_ok w) (fun v w1 hv => ?_)
  obtain ⟨rfl, hK1⟩ := hv
  refine u_notb rfl ?_
  refine o_nil ?_
  refine k_condf rfl ?_
  refine k_skip ?_
  refine k_seq ?_
  refine k_region ?_
  refine m_int rfl rfl ?_
  refine m_int rfl rfl ?_
  refine m_int rfl rfl ?_
  refine m_int rfl rfl ?_
  refine o_call rfl rfl (head_ok w1 _ _ _ _ hc hn hm) (fun v w1 hv => ?_)
  obtain ⟨rfl, rfl⟩ := hv
  refine m_any rfl rfl ?_
  refine o_extr rfl rfl ?_
  refine o_extr rfl rfl ?_
  refine m_int rfl rfl ?_
  refine m_int rfl rfl ?_
  refine o_nil ?_
  refine k_seq ?_
  refine k_seq ?_
  refine k_region ?_
  refine m_int rfl rfl ?_
  refine b_eql rfl rfl ?_
  refine o_nil ?_
  refine k_cond rfl (fun h => ?_) (fun h => ?_)
  ·
    refine k_seq ?_
    refine k_region ?_
    refine m_int rfl rfl ?_
    refine o_call rfl rfl (open_ok w1 _) (fun v w1 hv => ?_)
    obtain ⟨rfl, rfl⟩ := hv
    rw [head_open kind cl n mask h]
    refine m_any rfl rfl ?_
    refine o_extr rfl rfl ?_
    refine o_extr rfl rfl ?_
    refine o_extr rfl rfl ?_
    refine o_extr rfl rfl ?_
    refine o_extr rfl rfl ?_
    refine m_int rfl rfl ?_
    refine m_int rfl rfl ?_
    refine m_int rfl rfl ?_
    refine m_int rfl rfl ?_
    refine m_int rfl rfl ?_
    refine o_nil ?_
    refine k_seq ?_
    refine k_region ?_
    refine m_int rfl rfl ?_
    refine b_neq rfl rfl ?_
    refine m_bool rfl rfl ?_
    refine o_false (t := 47) rfl (fun h => h rfl) ?_
    refine g_yes rfl rfl ?_
    refine m_int rfl rfl ?_
    refine g_yes rfl rfl ?_
    refine m_int rfl rfl ?_
    refine g_yes rfl rfl ?_
    refine b_neq rfl rfl ?_
    refine pick_f rfl rfl ?_
    refine m_bool rfl rfl ?_
    refine o_false (t := 52) rfl (fun h => h rfl) ?_
    refine g_yes rfl rfl ?_
    refine m_int rfl rfl ?_
    refine g_yes rfl rfl ?_
    refine m_int rfl rfl ?_
    refine g_yes rfl rfl ?_
    refine b_neq rfl rfl ?_
    refine pick_f rfl rfl ?_
    refine m_bool rfl rfl ?_
    refine o_false (t := 57) rfl (fun h => h rfl) ?_
    refine g_yes rfl rfl ?_
    refine m_int rfl rfl ?_
    refine g_yes rfl rfl ?_
    refine m_int rfl rfl ?_
    refine g_yes rfl rfl ?_
    refine b_neq rfl rfl ?_
    refine pick_f rfl rfl ?_
    refine m_bool rfl rfl ?_
    refine o_false (t := 62) rfl (fun h => h rfl) ?_
    refine g_yes rfl rfl ?_
    refine m_int rfl rfl ?_
    refine g_yes rfl rfl ?_
    refine m_int rfl rfl ?_
    refine g_yes rfl rfl ?_
    refine b_neq rfl rfl ?_
    refine pick_f rfl rfl ?_
    refine o_nil ?_
    refine k_no rfl (fun h => h rfl) ?_
    refine k_skip ?_
    refine k_seq ?_
    refine k_region ?_
    refine m_int rfl rfl ?_
    refine o_call rfl rfl (open_ok w1 x) (fun v w1 hv => ?_)
    obtain ⟨rfl, rfl⟩ := hv
    refine m_any rfl rfl ?_
    refine o_extr rfl rfl ?_
    refine o_extr rfl rfl ?_
    refine o_extr rfl rfl ?_
    refine o_extr rfl rfl ?_
    refine o_extr rfl rfl ?_
    refine m_int rfl rfl ?_
    refine m_int rfl rfl ?_
    refine m_int rfl rfl ?_
    refine m_int rfl rfl ?_
    refine m_int rfl rfl ?_
    refine o_nil ?_
    refine k_seq ?_
    refine k_seq ?_
    refine k_region ?_
    refine m_int rfl rfl ?_
    refine b_neq rfl rfl ?_
    refine o_nil ?_
    refine k_cond rfl (fun h => ?_) (fun h => ?_)
    ·
      rw [open_err x h]
      refine k_seq ?_
      refine k_region ?_
      refine m_int rfl rfl ?_
      refine b_eql rfl rfl ?_
      refine m_bool rfl rfl ?_
      refine o_true (t := 79) rfl (rfl) ?_
      refine g_yes rfl rfl ?_
      refine m_int rfl rfl ?_
      refine g_yes rfl rfl ?_
      refine b_eql rfl rfl ?_
      refine pick_t rfl rfl ?_
      refine m_bool rfl rfl ?_
      refine o_true (t := 83) rfl (rfl) ?_
      refine g_yes rfl rfl ?_
      refine m_int rfl rfl ?_
      refine g_yes rfl rfl ?_
      refine b_eql rfl rfl ?_
      refine pick_t rfl rfl ?_
      refine m_bool rfl rfl ?_
      refine o_true (t := 87) rfl (rfl) ?_
      refine g_yes rfl rfl ?_
      refine m_int rfl rfl ?_
      refine g_yes rfl rfl ?_
      refine b_eql rfl rfl ?_
      refine pick_t rfl rfl ?_
      refine m_bool rfl rfl ?_
      refine o_nil ?_
      refine k_ret (ret_tmps (ts := [10]) (v := .bool _) rfl rfl ?_)
      first | exact ⟨rfl, hK1⟩ | exact ⟨congrArg Value.bool (decide_eq_true rfl), hK1⟩
    have hz : (openW x).2.2.2.2 = 0 := Decidable.of_not_not h
    have hF := open_f x hz
    have hF0 := hF.n0
    have hF1 := hF.n1
    have hF2 := hF.m0
    have hF3 := hF.m1
    refine k_skip ?_
    refine k_seq ?_
    refine k_region ?_
    refine m_int rfl rfl ?_
    refine m_int rfl rfl ?_
    refine m_int rfl rfl ?_
    refine m_int rfl rfl ?_
    refine o_call rfl rfl (head_ok w1 _ _ _ _ (open_rng x hz) (by omega) (by omega)) (fun v w1 hv => ?_)
    obtain ⟨rfl, rfl⟩ := hv
    rw [open_back x hz]
    refine m_any rfl rfl ?_
    refine o_extr rfl rfl ?_
    refine o_extr rfl rfl ?_
    refine m_int rfl rfl ?_
    refine m_int rfl rfl ?_
    refine o_nil ?_
    refine k_seq ?_
    refine k_region ?_
    refine m_int rfl rfl ?_
    refine b_eql rfl rfl ?_
    refine m_bool rfl rfl ?_
    refine o_true (t := 101) rfl (rfl) ?_
    refine g_yes rfl rfl ?_
    refine m_int rfl rfl ?_
    refine g_yes rfl rfl ?_
    refine m_int rfl rfl ?_
    refine g_yes rfl rfl ?_
    refine b_eql rfl rfl ?_
    refine pick_t rfl rfl ?_
    refine m_bool rfl rfl ?_
    refine o_nil ?_
    refine k_ret (ret_tmps (ts := [10]) (v := .bool _) rfl rfl ?_)
    first | exact ⟨rfl, hK1⟩ | exact ⟨congrArg Value.bool (decide_eq_true rfl), hK1⟩
  refine k_skip ?_
  refine k_seq ?_
  refine k_region ?_
  refine m_int rfl rfl ?_
  refine o_call rfl rfl (open_ok w1 x) (fun v w1 hv => ?_)
  obtain ⟨rfl, rfl⟩ := hv
  refine m_any rfl rfl ?_
  refine o_extr rfl rfl ?_
  refine o_extr rfl rfl ?_
  refine o_extr rfl rfl ?_
  refine o_extr rfl rfl ?_
  refine o_extr rfl rfl ?_
  refine m_int rfl rfl ?_
  refine m_int rfl rfl ?_
  refine m_int rfl rfl ?_
  refine m_int rfl rfl ?_
  refine m_int rfl rfl ?_
  refine o_nil ?_
  refine k_seq ?_
  refine k_seq ?_
  refine k_region ?_
  refine m_int rfl rfl ?_
  refine b_neq rfl rfl ?_
  refine o_nil ?_
  refine k_cond rfl (fun h => ?_) (fun h => ?_)
  ·
    rw [open_err x h]
    refine k_seq ?_
    refine k_region ?_
    refine m_int rfl rfl ?_
    refine b_eql rfl rfl ?_
    refine m_bool rfl rfl ?_
    refine o_true (t := 79) rfl (rfl) ?_
    refine g_yes rfl rfl ?_
    refine m_int rfl rfl ?_
    refine g_yes rfl rfl ?_
    refine b_eql rfl rfl ?_
    refine pick_t rfl rfl ?_
    refine m_bool rfl rfl ?_
    refine o_true (t := 83) rfl (rfl) ?_
    refine g_yes rfl rfl ?_
    refine m_int rfl rfl ?_
    refine g_yes rfl rfl ?_
    refine b_eql rfl rfl ?_
    refine pick_t rfl rfl ?_
    refine m_bool rfl rfl ?_
    refine o_true (t := 87) rfl (rfl) ?_
    refine g_yes rfl rfl ?_
    refine m_int rfl rfl ?_
    refine g_yes rfl rfl ?_
    refine b_eql rfl rfl ?_
    refine pick_t rfl rfl ?_
    refine m_bool rfl rfl ?_
    refine o_nil ?_
    refine k_ret (ret_tmps (ts := [10]) (v := .bool _) rfl rfl ?_)
    first | exact ⟨rfl, hK1⟩ | exact ⟨congrArg Value.bool (decide_eq_true rfl), hK1⟩
  have hz : (openW x).2.2.2.2 = 0 := Decidable.of_not_not h
  have hF := open_f x hz
  have hF0 := hF.n0
  have hF1 := hF.n1
  have hF2 := hF.m0
  have hF3 := hF.m1
  refine k_skip ?_
  refine k_seq ?_
  refine k_region ?_
  refine m_int rfl rfl ?_
  refine m_int rfl rfl ?_
  refine m_int rfl rfl ?_
  refine m_int rfl rfl ?_
  refine o_call rfl rfl (head_ok w1 _ _ _ _ (open_rng x hz) (by omega) (by omega)) (fun v w1 hv => ?_)
  obtain ⟨rfl, rfl⟩ := hv
  rw [open_back x hz]
  refine m_any rfl rfl ?_
  refine o_extr rfl rfl ?_
  refine o_extr rfl rfl ?_
  refine m_int rfl rfl ?_
  refine m_int rfl rfl ?_
  refine o_nil ?_
  refine k_seq ?_
  refine k_region ?_
  refine m_int rfl rfl ?_
  refine b_eql rfl rfl ?_
  refine m_bool rfl rfl ?_
  refine o_true (t := 101) rfl (rfl) ?_
  refine g_yes rfl rfl ?_
  refine m_int rfl rfl ?_
  refine g_yes rfl rfl ?_
  refine m_int rfl rfl ?_
  refine g_yes rfl rfl ?_
  refine b_eql rfl rfl ?_
  refine pick_t rfl rfl ?_
  refine m_bool rfl rfl ?_
  refine o_nil ?_
  refine k_ret (ret_tmps (ts := [10]) (v := .bool _) rfl rfl ?_)
  first | exact ⟨rfl, hK1⟩ | exact ⟨congrArg Value.bool (decide_eq_true rfl), hK1⟩
end Go.Proofs.Ytchbidckckmobaa
