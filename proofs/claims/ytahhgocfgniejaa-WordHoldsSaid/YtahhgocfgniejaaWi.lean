/- Plain facts of the conditions; the walk of the law WordHolds. No condition beyond what each contract names. -/
import Derived.Test.YtahhgocfgniejaaEx
import Derived.Test.YtahhgocfgniejaaWh
namespace Go.Proofs.Ytahhgocfgniejaa
open Go.RowKit E
set_option linter.unusedVariables false
set_option linter.unusedSimpArgs false
set_option maxRecDepth 100000
attribute [local irreducible] ow qw kw kq cw opW Ret
theorem hold_in (op a b : Int) (h : (holdsW op a b).2 = 0) : 153 ≤ op ∧ op ≤ 164 := by
  by_cases h1 : 153 ≤ op ∧ op ≤ 158
  · omega
  · unfold holdsW at h
    rw [if_neg h1] at h
    unfold hold2 at h
    (repeat' split at h) <;> first | omega | (simp at h)
theorem hold_pair (op o2 a b : Int) (h : 153 ≤ op ∧ op ≤ 164) (ho : ((op - 153) % 2 = 1 ∧ o2 = op - 1) ∨ ((op - 153) % 2 = 0 ∧ o2 = op + 1)) : (holdsW o2 a b).2 = 0 ∧ (holdsW o2 a b).1 ≠ (holdsW op a b).1 := by
  have hc : op = 153 ∨ op = 154 ∨ op = 155 ∨ op = 156 ∨ op = 157 ∨ op = 158 ∨ op = 159 ∨ op = 160 ∨ op = 161 ∨ op = 162 ∨ op = 163 ∨ op = 164 := by omega
  have ho' : o2 = if (op - 153) % 2 = 1 then op - 1 else op + 1 := by split <;> omega
  clear ho h
  subst ho'
  rcases hc with rfl | rfl | rfl | rfl | rfl | rfl | rfl | rfl | rfl | rfl | rfl | rfl
  all_goals refine ⟨rfl, ?_⟩
  all_goals simp [holdsW, hold2]
  all_goals omega

theorem hlaw_ok (w : World) (op a b : Int) : Ret Try.prog 6 [.int .i64 op, .int .i64 a, .int .i64 b] w (fun v w' => v = .bool true ∧ Keep [] w w') := by
  refine fn_enter (n := 86) Try.func6 rfl rfl (Nat.le_of_ble_eq_true rfl) (fun e => ?_)
  refine k_seq ?_
  refine k_region ?_
  refine m_bool rfl rfl ?_
  refine o_nil ?_
  refine k_seq ?_
  refine k_seq ?_
  refine k_region ?_
  refine o_call rfl rfl (fixed_ok w) (fun v w1 hv => ?_)
  obtain ⟨rfl, rfl⟩ := hv
  refine u_notb rfl ?_
  refine o_nil ?_
  refine k_condf rfl ?_
  refine k_skip ?_
  refine k_seq ?_
  refine k_region ?_
  refine m_int rfl rfl ?_
  refine m_int rfl rfl ?_
  refine m_int rfl rfl ?_
  refine o_call rfl rfl (holds_ok w1 op a b) (fun v w1 hv => ?_)
  obtain ⟨rfl, rfl⟩ := hv
  refine m_any rfl rfl ?_
  refine o_extr rfl rfl ?_
  refine o_extr rfl rfl ?_
  refine m_bool rfl rfl ?_
  refine m_int rfl rfl ?_
  refine o_nil ?_
  refine k_seq ?_
  refine k_region ?_
  refine m_int rfl rfl ?_
  refine m_int rfl rfl ?_
  refine m_int rfl rfl ?_
  refine o_call rfl rfl (rholds_ok w1 op a b) (fun v w1 hv => ?_)
  obtain ⟨rfl, rfl⟩ := hv
  refine m_any rfl rfl ?_
  refine o_extr rfl rfl ?_
  refine o_extr rfl rfl ?_
  refine m_bool rfl rfl ?_
  refine m_int rfl rfl ?_
  refine o_nil ?_
  refine k_seq ?_
  refine k_seq ?_
  refine k_region ?_
  refine m_bool rfl rfl ?_
  refine m_bool rfl rfl ?_
  refine b_neqb Try.underlying4 rfl rfl ?_
  refine m_bool rfl rfl ?_
  refine o_false (t := 33) rfl (fun h => h rfl) ?_
  refine g_yes rfl rfl ?_
  refine m_int rfl rfl ?_
  refine g_yes rfl rfl ?_
  refine m_int rfl rfl ?_
  refine g_yes rfl rfl ?_
  refine b_neq rfl rfl ?_
  refine pick_f rfl rfl ?_
  refine m_bool rfl rfl ?_
  refine o_false (t := 38) rfl (fun h => h rfl) ?_
  refine g_yes rfl rfl ?_
  refine m_int rfl rfl ?_
  refine g_yes rfl rfl ?_
  refine b_neq rfl rfl ?_
  refine pick_f rfl rfl ?_
  refine o_nil ?_
  refine k_cond rfl (fun h => ?_) (fun h => ?_)
  ·
    refine k_seq ?_
    refine k_region ?_
    refine m_bool rfl rfl ?_
    refine m_bool rfl rfl ?_
    refine b_eqlb Try.underlying4 rfl rfl ?_
    refine m_bool rfl rfl ?_
    refine o_true (t := 45) rfl (rfl) ?_
    refine g_yes rfl rfl ?_
    refine m_int rfl rfl ?_
    refine g_yes rfl rfl ?_
    refine m_int rfl rfl ?_
    refine g_yes rfl rfl ?_
    refine b_eql rfl rfl ?_
    refine pick_t rfl rfl ?_
    refine m_bool rfl rfl ?_
    refine o_nil ?_
    refine k_ret (ret_tmps (ts := [6]) (v := .bool _) rfl rfl ?_)
    first | exact ⟨congrArg Value.bool (decide_eq_true rfl), Keep.refl _ _⟩ | exact ⟨congrArg Value.bool (decide_eq_true (hold_pair op _ a b hop (by omega)).2), Keep.refl _ _⟩
  have h2 : (holdsW op a b).2 = 0 := Decidable.of_not_not h
  have hop := hold_in op a b h2
  have m1 : (op - 153).tmod 2 = (op - 153) % 2 := Int.tmod_eq_emod_of_nonneg (by omega)
  have m2 : 158 < op → (op - 159).tmod 2 = (op - 159) % 2 := fun _ => Int.tmod_eq_emod_of_nonneg (by omega)
  refine k_skip ?_
  refine k_seq ?_
  refine k_region ?_
  refine m_int rfl rfl ?_
  refine n_add rfl rfl (by omega) ?_
  refine m_int rfl rfl ?_
  refine o_nil ?_
  refine k_seq ?_
  refine k_seq ?_
  refine k_region ?_
  refine m_int rfl rfl ?_
  refine b_leq rfl rfl ?_
  refine m_bool rfl rfl ?_
  refine o_split (t := 54) rfl (fun h => ?_) (fun h => ?_)
  ·
    refine g_yes rfl rfl ?_
    refine m_int rfl rfl ?_
    refine g_yes rfl rfl ?_
    refine n_sub rfl rfl (by omega) ?_
    refine g_yes rfl rfl ?_
    refine b_rem rfl rfl (by omega) ?_
    refine g_yes rfl rfl ?_
    refine b_eql rfl rfl ?_
    refine pick_t rfl rfl ?_
    refine m_bool rfl rfl ?_
    refine o_split (t := 60) rfl (fun h => ?_) (fun h => ?_)
    ·
      refine g_no rfl rfl rfl ?_
      refine g_no rfl rfl rfl ?_
      refine g_no rfl rfl rfl ?_
      refine g_un rfl rfl ?_
      refine g_un rfl rfl ?_
      refine g_un rfl rfl ?_
      refine g_un rfl rfl ?_
      refine g_no rfl rfl rfl ?_
      refine pick_t rfl rfl ?_
      refine o_nil ?_
      refine k_condt rfl ?_
      refine k_region ?_
      refine m_int rfl rfl ?_
      refine n_sub rfl rfl (by omega) ?_
      refine m_int rfl rfl ?_
      refine o_nil ?_
      refine k_seq ?_
      refine k_region ?_
      refine m_int rfl rfl ?_
      refine m_int rfl rfl ?_
      refine m_int rfl rfl ?_
      refine o_call rfl rfl (holds_ok w1 _ a b) (fun v w1 hv => ?_)
      obtain ⟨rfl, rfl⟩ := hv
      refine m_any rfl rfl ?_
      refine o_extr rfl rfl ?_
      refine o_extr rfl rfl ?_
      refine m_bool rfl rfl ?_
      refine m_int rfl rfl ?_
      refine o_nil ?_
      refine k_seq ?_
      refine k_region ?_
      refine m_int rfl rfl ?_
      refine b_eql rfl rfl ?_
      refine m_bool rfl rfl ?_
      refine o_true (t := 81) rfl ((hold_pair op _ a b hop (by omega)).1) ?_
      refine g_yes rfl rfl ?_
      refine m_bool rfl rfl ?_
      refine g_yes rfl rfl ?_
      refine m_bool rfl rfl ?_
      refine g_yes rfl rfl ?_
      refine b_neqb Try.underlying4 rfl rfl ?_
      refine pick_t rfl rfl ?_
      refine m_bool rfl rfl ?_
      refine o_nil ?_
      refine k_ret (ret_tmps (ts := [6]) (v := .bool _) rfl rfl ?_)
      first | exact ⟨congrArg Value.bool (decide_eq_true rfl), Keep.refl _ _⟩ | exact ⟨congrArg Value.bool (decide_eq_true (hold_pair op _ a b hop (by omega)).2), Keep.refl _ _⟩
    ·
      refine g_yes rfl rfl ?_
      refine m_int rfl rfl ?_
      refine g_yes rfl rfl ?_
      refine b_gtr rfl rfl ?_
      refine g_yes rfl rfl ?_
      refine m_bool rfl rfl ?_
      refine o_split (t := 63) rfl (fun h => ?_) (fun h => ?_)
      ·
        refine g_yes rfl rfl ?_
        refine m_int rfl rfl ?_
        refine g_yes rfl rfl ?_
        refine n_sub rfl rfl (by omega) ?_
        refine g_yes rfl rfl ?_
        refine b_rem rfl rfl (by omega) ?_
        refine g_yes rfl rfl ?_
        refine b_eql rfl rfl ?_
        refine g_yes rfl rfl ?_
        refine pick_t rfl rfl ?_
        refine pick_f rfl rfl ?_
        refine o_nil ?_
        refine k_cond rfl (fun h => ?_) (fun h => ?_)
        ·
          refine k_region ?_
          refine m_int rfl rfl ?_
          refine n_sub rfl rfl (by omega) ?_
          refine m_int rfl rfl ?_
          refine o_nil ?_
          refine k_seq ?_
          refine k_region ?_
          refine m_int rfl rfl ?_
          refine m_int rfl rfl ?_
          refine m_int rfl rfl ?_
          refine o_call rfl rfl (holds_ok w1 _ a b) (fun v w1 hv => ?_)
          obtain ⟨rfl, rfl⟩ := hv
          refine m_any rfl rfl ?_
          refine o_extr rfl rfl ?_
          refine o_extr rfl rfl ?_
          refine m_bool rfl rfl ?_
          refine m_int rfl rfl ?_
          refine o_nil ?_
          refine k_seq ?_
          refine k_region ?_
          refine m_int rfl rfl ?_
          refine b_eql rfl rfl ?_
          refine m_bool rfl rfl ?_
          refine o_true (t := 81) rfl ((hold_pair op _ a b hop (by omega)).1) ?_
          refine g_yes rfl rfl ?_
          refine m_bool rfl rfl ?_
          refine g_yes rfl rfl ?_
          refine m_bool rfl rfl ?_
          refine g_yes rfl rfl ?_
          refine b_neqb Try.underlying4 rfl rfl ?_
          refine pick_t rfl rfl ?_
          refine m_bool rfl rfl ?_
          refine o_nil ?_
          refine k_ret (ret_tmps (ts := [6]) (v := .bool _) rfl rfl ?_)
          first | exact ⟨congrArg Value.bool (decide_eq_true rfl), Keep.refl _ _⟩ | exact ⟨congrArg Value.bool (decide_eq_true (hold_pair op _ a b hop (by omega)).2), Keep.refl _ _⟩
        refine k_skip ?_
        refine k_seq ?_
        refine k_region ?_
        refine m_int rfl rfl ?_
        refine m_int rfl rfl ?_
        refine m_int rfl rfl ?_
        refine o_call rfl rfl (holds_ok w1 _ a b) (fun v w1 hv => ?_)
        obtain ⟨rfl, rfl⟩ := hv
        refine m_any rfl rfl ?_
        refine o_extr rfl rfl ?_
        refine o_extr rfl rfl ?_
        refine m_bool rfl rfl ?_
        refine m_int rfl rfl ?_
        refine o_nil ?_
        refine k_seq ?_
        refine k_region ?_
        refine m_int rfl rfl ?_
        refine b_eql rfl rfl ?_
        refine m_bool rfl rfl ?_
        refine o_true (t := 81) rfl ((hold_pair op _ a b hop (by omega)).1) ?_
        refine g_yes rfl rfl ?_
        refine m_bool rfl rfl ?_
        refine g_yes rfl rfl ?_
        refine m_bool rfl rfl ?_
        refine g_yes rfl rfl ?_
        refine b_neqb Try.underlying4 rfl rfl ?_
        refine pick_t rfl rfl ?_
        refine m_bool rfl rfl ?_
        refine o_nil ?_
        refine k_ret (ret_tmps (ts := [6]) (v := .bool _) rfl rfl ?_)
        first | exact ⟨congrArg Value.bool (decide_eq_true rfl), Keep.refl _ _⟩ | exact ⟨congrArg Value.bool (decide_eq_true (hold_pair op _ a b hop (by omega)).2), Keep.refl _ _⟩
      ·
        refine g_no rfl rfl rfl ?_
        refine g_no rfl rfl rfl ?_
        refine g_no rfl rfl rfl ?_
        refine g_no rfl rfl rfl ?_
        refine g_yes rfl rfl ?_
        refine pick_f rfl rfl ?_
        refine pick_f rfl rfl ?_
        refine o_nil ?_
        refine k_condf rfl ?_
        refine k_skip ?_
        refine k_seq ?_
        refine k_region ?_
        refine m_int rfl rfl ?_
        refine m_int rfl rfl ?_
        refine m_int rfl rfl ?_
        refine o_call rfl rfl (holds_ok w1 _ a b) (fun v w1 hv => ?_)
        obtain ⟨rfl, rfl⟩ := hv
        refine m_any rfl rfl ?_
        refine o_extr rfl rfl ?_
        refine o_extr rfl rfl ?_
        refine m_bool rfl rfl ?_
        refine m_int rfl rfl ?_
        refine o_nil ?_
        refine k_seq ?_
        refine k_region ?_
        refine m_int rfl rfl ?_
        refine b_eql rfl rfl ?_
        refine m_bool rfl rfl ?_
        refine o_true (t := 81) rfl ((hold_pair op _ a b hop (by omega)).1) ?_
        refine g_yes rfl rfl ?_
        refine m_bool rfl rfl ?_
        refine g_yes rfl rfl ?_
        refine m_bool rfl rfl ?_
        refine g_yes rfl rfl ?_
        refine b_neqb Try.underlying4 rfl rfl ?_
        refine pick_t rfl rfl ?_
        refine m_bool rfl rfl ?_
        refine o_nil ?_
        refine k_ret (ret_tmps (ts := [6]) (v := .bool _) rfl rfl ?_)
        first | exact ⟨congrArg Value.bool (decide_eq_true rfl), Keep.refl _ _⟩ | exact ⟨congrArg Value.bool (decide_eq_true (hold_pair op _ a b hop (by omega)).2), Keep.refl _ _⟩
  ·
    refine g_no rfl rfl rfl ?_
    refine g_no rfl rfl rfl ?_
    refine g_no rfl rfl rfl ?_
    refine g_no rfl rfl rfl ?_
    refine pick_f rfl rfl ?_
    refine m_bool rfl rfl ?_
    refine g_yes rfl rfl ?_
    refine m_int rfl rfl ?_
    refine g_yes rfl rfl ?_
    refine b_gtr rfl rfl ?_
    refine g_yes rfl rfl ?_
    refine m_bool rfl rfl ?_
    refine o_split (t := 63) rfl (fun h => ?_) (fun h => ?_)
    ·
      refine g_yes rfl rfl ?_
      refine m_int rfl rfl ?_
      refine g_yes rfl rfl ?_
      refine n_sub rfl rfl (by omega) ?_
      refine g_yes rfl rfl ?_
      refine b_rem rfl rfl (by omega) ?_
      refine g_yes rfl rfl ?_
      refine b_eql rfl rfl ?_
      refine g_yes rfl rfl ?_
      refine pick_t rfl rfl ?_
      refine pick_f rfl rfl ?_
      refine o_nil ?_
      refine k_cond rfl (fun h => ?_) (fun h => ?_)
      ·
        refine k_region ?_
        refine m_int rfl rfl ?_
        refine n_sub rfl rfl (by omega) ?_
        refine m_int rfl rfl ?_
        refine o_nil ?_
        refine k_seq ?_
        refine k_region ?_
        refine m_int rfl rfl ?_
        refine m_int rfl rfl ?_
        refine m_int rfl rfl ?_
        refine o_call rfl rfl (holds_ok w1 _ a b) (fun v w1 hv => ?_)
        obtain ⟨rfl, rfl⟩ := hv
        refine m_any rfl rfl ?_
        refine o_extr rfl rfl ?_
        refine o_extr rfl rfl ?_
        refine m_bool rfl rfl ?_
        refine m_int rfl rfl ?_
        refine o_nil ?_
        refine k_seq ?_
        refine k_region ?_
        refine m_int rfl rfl ?_
        refine b_eql rfl rfl ?_
        refine m_bool rfl rfl ?_
        refine o_true (t := 81) rfl ((hold_pair op _ a b hop (by omega)).1) ?_
        refine g_yes rfl rfl ?_
        refine m_bool rfl rfl ?_
        refine g_yes rfl rfl ?_
        refine m_bool rfl rfl ?_
        refine g_yes rfl rfl ?_
        refine b_neqb Try.underlying4 rfl rfl ?_
        refine pick_t rfl rfl ?_
        refine m_bool rfl rfl ?_
        refine o_nil ?_
        refine k_ret (ret_tmps (ts := [6]) (v := .bool _) rfl rfl ?_)
        first | exact ⟨congrArg Value.bool (decide_eq_true rfl), Keep.refl _ _⟩ | exact ⟨congrArg Value.bool (decide_eq_true (hold_pair op _ a b hop (by omega)).2), Keep.refl _ _⟩
      refine k_skip ?_
      refine k_seq ?_
      refine k_region ?_
      refine m_int rfl rfl ?_
      refine m_int rfl rfl ?_
      refine m_int rfl rfl ?_
      refine o_call rfl rfl (holds_ok w1 _ a b) (fun v w1 hv => ?_)
      obtain ⟨rfl, rfl⟩ := hv
      refine m_any rfl rfl ?_
      refine o_extr rfl rfl ?_
      refine o_extr rfl rfl ?_
      refine m_bool rfl rfl ?_
      refine m_int rfl rfl ?_
      refine o_nil ?_
      refine k_seq ?_
      refine k_region ?_
      refine m_int rfl rfl ?_
      refine b_eql rfl rfl ?_
      refine m_bool rfl rfl ?_
      refine o_true (t := 81) rfl ((hold_pair op _ a b hop (by omega)).1) ?_
      refine g_yes rfl rfl ?_
      refine m_bool rfl rfl ?_
      refine g_yes rfl rfl ?_
      refine m_bool rfl rfl ?_
      refine g_yes rfl rfl ?_
      refine b_neqb Try.underlying4 rfl rfl ?_
      refine pick_t rfl rfl ?_
      refine m_bool rfl rfl ?_
      refine o_nil ?_
      refine k_ret (ret_tmps (ts := [6]) (v := .bool _) rfl rfl ?_)
      first | exact ⟨congrArg Value.bool (decide_eq_true rfl), Keep.refl _ _⟩ | exact ⟨congrArg Value.bool (decide_eq_true (hold_pair op _ a b hop (by omega)).2), Keep.refl _ _⟩
    ·
      refine g_no rfl rfl rfl ?_
      refine g_no rfl rfl rfl ?_
      refine g_no rfl rfl rfl ?_
      refine g_no rfl rfl rfl ?_
      refine g_yes rfl rfl ?_
      refine pick_f rfl rfl ?_
      refine pick_f rfl rfl ?_
      refine o_nil ?_
      refine k_condf rfl ?_
      refine k_skip ?_
      refine k_seq ?_
      refine k_region ?_
      refine m_int rfl rfl ?_
      refine m_int rfl rfl ?_
      refine m_int rfl rfl ?_
      refine o_call rfl rfl (holds_ok w1 _ a b) (fun v w1 hv => ?_)
      obtain ⟨rfl, rfl⟩ := hv
      refine m_any rfl rfl ?_
      refine o_extr rfl rfl ?_
      refine o_extr rfl rfl ?_
      refine m_bool rfl rfl ?_
      refine m_int rfl rfl ?_
      refine o_nil ?_
      refine k_seq ?_
      refine k_region ?_
      refine m_int rfl rfl ?_
      refine b_eql rfl rfl ?_
      refine m_bool rfl rfl ?_
      refine o_true (t := 81) rfl ((hold_pair op _ a b hop (by omega)).1) ?_
      refine g_yes rfl rfl ?_
      refine m_bool rfl rfl ?_
      refine g_yes rfl rfl ?_
      refine m_bool rfl rfl ?_
      refine g_yes rfl rfl ?_
      refine b_neqb Try.underlying4 rfl rfl ?_
      refine pick_t rfl rfl ?_
      refine m_bool rfl rfl ?_
      refine o_nil ?_
      refine k_ret (ret_tmps (ts := [6]) (v := .bool _) rfl rfl ?_)
      first | exact ⟨congrArg Value.bool (decide_eq_true rfl), Keep.refl _ _⟩ | exact ⟨congrArg Value.bool (decide_eq_true (hold_pair op _ a b hop (by omega)).2), Keep.refl _ _⟩
end Go.Proofs.Ytahhgocfgniejaa
