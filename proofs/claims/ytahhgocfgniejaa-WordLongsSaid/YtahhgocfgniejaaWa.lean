/- The walks of the program's functions on numbers of 32 and 64 bits. No condition beyond what each contract names. -/
import Derived.Test.YtahhgocfgniejaaPl
namespace Go.Proofs.Ytahhgocfgniejaa
open Go.RowKit E
set_option linter.unusedVariables false
set_option linter.unusedSimpArgs false
set_option maxRecDepth 100000
attribute [local irreducible] ow qw kw kq cw opW Ret
theorem rk32_ok (w : World) (op x y : Int) : Ret Try.prog 23 [.int .i64 op, .int .i32 x, .int .i32 y] w (fun v w' => v = .tuple #[.int .i32 (W.rk .i32 op x y).1, .int .i64 (W.rk .i32 op x y).2] ∧ w' = w) := by
  refine fn_enter (n := 64) Try.func23 rfl rfl (Nat.le_of_ble_eq_true rfl) (fun e => ?_)
  refine k_seq ?_
  refine k_region ?_
  refine m_int rfl rfl ?_
  refine m_int rfl rfl ?_
  refine o_nil ?_
  refine k_seq ?_
  refine k_seq ?_
  refine k_region ?_
  refine m_int rfl rfl ?_
  refine b_eql rfl rfl ?_
  refine m_bool rfl rfl ?_
  refine o_split (t := 10) rfl (fun h => ?_) (fun h => ?_)
  ·
    refine g_no rfl rfl rfl ?_
    refine g_no rfl rfl rfl ?_
    refine pick_t rfl rfl ?_
    refine m_bool rfl rfl ?_
    refine g_yes rfl rfl ?_
    refine m_int rfl rfl ?_
    refine g_yes rfl rfl ?_
    refine b_eql rfl rfl ?_
    refine pick_t rfl rfl ?_
    refine o_nil ?_
    refine k_cond rfl (fun h => ?_) (fun h => ?_)
    ·
      refine k_seq ?_
      refine k_region ?_
      refine m_int rfl rfl ?_
      refine m_int rfl rfl ?_
      refine o_nil ?_
      refine k_ret (ret_tmps (ts := [6, 7]) (v := .tuple #[.int _ _, .int _ _]) rfl rfl ?_)
      refine ⟨?_, rfl⟩
      unfold W.rk
      (repeat' split) <;> first | rfl | (exfalso; omega)
    refine k_skip ?_
    refine k_seq ?_
    refine k_seq ?_
    refine k_region ?_
    refine m_int rfl rfl ?_
    refine o_nil ?_
    refine k_block ?_
    refine k_seq ?_
    refine k_region ?_
    refine b_eql rfl rfl ?_
    refine m_bool rfl rfl ?_
    refine o_nil ?_
    refine k_cond rfl (fun h => ?_) (fun h => ?_)
    ·
      refine k_region ?_
      refine m_int rfl rfl ?_
      refine m_int rfl rfl ?_
      refine b_add rfl rfl ?_
      refine m_int rfl rfl ?_
      refine o_nil ?_
      refine k_blk ?_
      refine k_seq ?_
      refine k_region ?_
      refine m_int rfl rfl ?_
      refine m_int rfl rfl ?_
      refine m_int rfl rfl ?_
      refine o_nil ?_
      refine k_ret (ret_tmps (ts := [6, 7]) (v := .tuple #[.int _ _, .int _ _]) rfl rfl ?_)
      refine ⟨?_, rfl⟩
      unfold W.rk
      (repeat' split) <;> first | rfl | (exfalso; omega)
    refine k_seq ?_
    refine k_region ?_
    refine b_eql rfl rfl ?_
    refine m_bool rfl rfl ?_
    refine o_nil ?_
    refine k_cond rfl (fun h => ?_) (fun h => ?_)
    ·
      refine k_region ?_
      refine m_int rfl rfl ?_
      refine m_int rfl rfl ?_
      refine b_sub rfl rfl ?_
      refine m_int rfl rfl ?_
      refine o_nil ?_
      refine k_blk ?_
      refine k_seq ?_
      refine k_region ?_
      refine m_int rfl rfl ?_
      refine m_int rfl rfl ?_
      refine m_int rfl rfl ?_
      refine o_nil ?_
      refine k_ret (ret_tmps (ts := [6, 7]) (v := .tuple #[.int _ _, .int _ _]) rfl rfl ?_)
      refine ⟨?_, rfl⟩
      unfold W.rk
      (repeat' split) <;> first | rfl | (exfalso; omega)
    refine k_seq ?_
    refine k_region ?_
    refine b_eql rfl rfl ?_
    refine m_bool rfl rfl ?_
    refine o_nil ?_
    refine k_cond rfl (fun h => ?_) (fun h => ?_)
    ·
      refine k_region ?_
      refine m_int rfl rfl ?_
      refine m_int rfl rfl ?_
      refine b_mul rfl rfl ?_
      refine m_int rfl rfl ?_
      refine o_nil ?_
      refine k_blk ?_
      refine k_seq ?_
      refine k_region ?_
      refine m_int rfl rfl ?_
      refine m_int rfl rfl ?_
      refine m_int rfl rfl ?_
      refine o_nil ?_
      refine k_ret (ret_tmps (ts := [6, 7]) (v := .tuple #[.int _ _, .int _ _]) rfl rfl ?_)
      refine ⟨?_, rfl⟩
      unfold W.rk
      (repeat' split) <;> first | rfl | (exfalso; omega)
    refine k_seq ?_
    refine k_region ?_
    refine b_eql rfl rfl ?_
    refine m_bool rfl rfl ?_
    refine o_nil ?_
    refine k_cond rfl (fun h => ?_) (fun h => ?_)
    ·
      refine k_region ?_
      refine m_int rfl rfl ?_
      refine m_int rfl rfl ?_
      refine b_quo rfl rfl (by omega) ?_
      refine m_int rfl rfl ?_
      refine o_nil ?_
      refine k_blk ?_
      refine k_seq ?_
      refine k_region ?_
      refine m_int rfl rfl ?_
      refine m_int rfl rfl ?_
      refine m_int rfl rfl ?_
      refine o_nil ?_
      refine k_ret (ret_tmps (ts := [6, 7]) (v := .tuple #[.int _ _, .int _ _]) rfl rfl ?_)
      refine ⟨?_, rfl⟩
      unfold W.rk
      (repeat' split) <;> first | rfl | (exfalso; omega)
    refine k_seq ?_
    refine k_region ?_
    refine b_eql rfl rfl ?_
    refine m_bool rfl rfl ?_
    refine o_nil ?_
    refine k_cond rfl (fun h => ?_) (fun h => ?_)
    ·
      refine k_region ?_
      refine m_int rfl rfl ?_
      refine m_int rfl rfl ?_
      refine b_rem rfl rfl (by omega) ?_
      refine m_int rfl rfl ?_
      refine o_nil ?_
      refine k_blk ?_
      refine k_seq ?_
      refine k_region ?_
      refine m_int rfl rfl ?_
      refine m_int rfl rfl ?_
      refine m_int rfl rfl ?_
      refine o_nil ?_
      refine k_ret (ret_tmps (ts := [6, 7]) (v := .tuple #[.int _ _, .int _ _]) rfl rfl ?_)
      refine ⟨?_, rfl⟩
      unfold W.rk
      (repeat' split) <;> first | rfl | (exfalso; omega)
    refine k_seq ?_
    refine k_region ?_
    refine b_eql rfl rfl ?_
    refine m_bool rfl rfl ?_
    refine o_nil ?_
    refine k_cond rfl (fun h => ?_) (fun h => ?_)
    ·
      refine k_region ?_
      refine m_int rfl rfl ?_
      refine u_neg rfl ?_
      refine m_int rfl rfl ?_
      refine o_nil ?_
      refine k_blk ?_
      refine k_seq ?_
      refine k_region ?_
      refine m_int rfl rfl ?_
      refine m_int rfl rfl ?_
      refine m_int rfl rfl ?_
      refine o_nil ?_
      refine k_ret (ret_tmps (ts := [6, 7]) (v := .tuple #[.int _ _, .int _ _]) rfl rfl ?_)
      refine ⟨?_, rfl⟩
      unfold W.rk
      (repeat' split) <;> first | rfl | (exfalso; omega)
    refine k_seq ?_
    refine k_region ?_
    refine b_eql rfl rfl ?_
    refine m_bool rfl rfl ?_
    refine o_nil ?_
    refine k_cond rfl (fun h => ?_) (fun h => ?_)
    ·
      refine k_region ?_
      refine m_int rfl rfl ?_
      refine m_int rfl rfl ?_
      refine b_and rfl rfl ?_
      refine m_int rfl rfl ?_
      refine o_nil ?_
      refine k_blk ?_
      refine k_seq ?_
      refine k_region ?_
      refine m_int rfl rfl ?_
      refine m_int rfl rfl ?_
      refine m_int rfl rfl ?_
      refine o_nil ?_
      refine k_ret (ret_tmps (ts := [6, 7]) (v := .tuple #[.int _ _, .int _ _]) rfl rfl ?_)
      refine ⟨?_, rfl⟩
      unfold W.rk
      (repeat' split) <;> first | rfl | (exfalso; omega)
    refine k_seq ?_
    refine k_region ?_
    refine b_eql rfl rfl ?_
    refine m_bool rfl rfl ?_
    refine o_nil ?_
    refine k_cond rfl (fun h => ?_) (fun h => ?_)
    ·
      refine k_region ?_
      refine m_int rfl rfl ?_
      refine m_int rfl rfl ?_
      refine b_or rfl rfl ?_
      refine m_int rfl rfl ?_
      refine o_nil ?_
      refine k_blk ?_
      refine k_seq ?_
      refine k_region ?_
      refine m_int rfl rfl ?_
      refine m_int rfl rfl ?_
      refine m_int rfl rfl ?_
      refine o_nil ?_
      refine k_ret (ret_tmps (ts := [6, 7]) (v := .tuple #[.int _ _, .int _ _]) rfl rfl ?_)
      refine ⟨?_, rfl⟩
      unfold W.rk
      (repeat' split) <;> first | rfl | (exfalso; omega)
    refine k_seq ?_
    refine k_region ?_
    refine b_eql rfl rfl ?_
    refine m_bool rfl rfl ?_
    refine o_nil ?_
    refine k_cond rfl (fun h => ?_) (fun h => ?_)
    rotate_left
    ·
      refine k_seq ?_
      refine k_region ?_
      refine m_int rfl rfl ?_
      refine m_int rfl rfl ?_
      refine o_nil ?_
      refine k_ret (ret_tmps (ts := [6, 7]) (v := .tuple #[.int _ _, .int _ _]) rfl rfl ?_)
      refine ⟨?_, rfl⟩
      unfold W.rk
      (repeat' split) <;> first | rfl | (exfalso; omega)
    refine k_region ?_
    refine m_int rfl rfl ?_
    refine m_int rfl rfl ?_
    refine b_xor rfl rfl ?_
    refine m_int rfl rfl ?_
    refine o_nil ?_
    refine k_blk ?_
    refine k_seq ?_
    refine k_region ?_
    refine m_int rfl rfl ?_
    refine m_int rfl rfl ?_
    refine m_int rfl rfl ?_
    refine o_nil ?_
    refine k_ret (ret_tmps (ts := [6, 7]) (v := .tuple #[.int _ _, .int _ _]) rfl rfl ?_)
    refine ⟨?_, rfl⟩
    unfold W.rk
    (repeat' split) <;> first | rfl | (exfalso; omega)
  ·
    refine g_yes rfl rfl ?_
    refine m_int rfl rfl ?_
    refine g_yes rfl rfl ?_
    refine b_eql rfl rfl ?_
    refine pick_f rfl rfl ?_
    refine m_bool rfl rfl ?_
    refine o_split (t := 14) rfl (fun h => ?_) (fun h => ?_)
    ·
      refine g_yes rfl rfl ?_
      refine m_int rfl rfl ?_
      refine g_yes rfl rfl ?_
      refine b_eql rfl rfl ?_
      refine pick_t rfl rfl ?_
      refine o_nil ?_
      refine k_cond rfl (fun h => ?_) (fun h => ?_)
      ·
        refine k_seq ?_
        refine k_region ?_
        refine m_int rfl rfl ?_
        refine m_int rfl rfl ?_
        refine o_nil ?_
        refine k_ret (ret_tmps (ts := [6, 7]) (v := .tuple #[.int _ _, .int _ _]) rfl rfl ?_)
        refine ⟨?_, rfl⟩
        unfold W.rk
        (repeat' split) <;> first | rfl | (exfalso; omega)
      refine k_skip ?_
      refine k_seq ?_
      refine k_seq ?_
      refine k_region ?_
      refine m_int rfl rfl ?_
      refine o_nil ?_
      refine k_block ?_
      refine k_seq ?_
      refine k_region ?_
      refine b_eql rfl rfl ?_
      refine m_bool rfl rfl ?_
      refine o_nil ?_
      refine k_cond rfl (fun h => ?_) (fun h => ?_)
      ·
        refine k_region ?_
        refine m_int rfl rfl ?_
        refine m_int rfl rfl ?_
        refine b_add rfl rfl ?_
        refine m_int rfl rfl ?_
        refine o_nil ?_
        refine k_blk ?_
        refine k_seq ?_
        refine k_region ?_
        refine m_int rfl rfl ?_
        refine m_int rfl rfl ?_
        refine m_int rfl rfl ?_
        refine o_nil ?_
        refine k_ret (ret_tmps (ts := [6, 7]) (v := .tuple #[.int _ _, .int _ _]) rfl rfl ?_)
        refine ⟨?_, rfl⟩
        unfold W.rk
        (repeat' split) <;> first | rfl | (exfalso; omega)
      refine k_seq ?_
      refine k_region ?_
      refine b_eql rfl rfl ?_
      refine m_bool rfl rfl ?_
      refine o_nil ?_
      refine k_cond rfl (fun h => ?_) (fun h => ?_)
      ·
        refine k_region ?_
        refine m_int rfl rfl ?_
        refine m_int rfl rfl ?_
        refine b_sub rfl rfl ?_
        refine m_int rfl rfl ?_
        refine o_nil ?_
        refine k_blk ?_
        refine k_seq ?_
        refine k_region ?_
        refine m_int rfl rfl ?_
        refine m_int rfl rfl ?_
        refine m_int rfl rfl ?_
        refine o_nil ?_
        refine k_ret (ret_tmps (ts := [6, 7]) (v := .tuple #[.int _ _, .int _ _]) rfl rfl ?_)
        refine ⟨?_, rfl⟩
        unfold W.rk
        (repeat' split) <;> first | rfl | (exfalso; omega)
      refine k_seq ?_
      refine k_region ?_
      refine b_eql rfl rfl ?_
      refine m_bool rfl rfl ?_
      refine o_nil ?_
      refine k_cond rfl (fun h => ?_) (fun h => ?_)
      ·
        refine k_region ?_
        refine m_int rfl rfl ?_
        refine m_int rfl rfl ?_
        refine b_mul rfl rfl ?_
        refine m_int rfl rfl ?_
        refine o_nil ?_
        refine k_blk ?_
        refine k_seq ?_
        refine k_region ?_
        refine m_int rfl rfl ?_
        refine m_int rfl rfl ?_
        refine m_int rfl rfl ?_
        refine o_nil ?_
        refine k_ret (ret_tmps (ts := [6, 7]) (v := .tuple #[.int _ _, .int _ _]) rfl rfl ?_)
        refine ⟨?_, rfl⟩
        unfold W.rk
        (repeat' split) <;> first | rfl | (exfalso; omega)
      refine k_seq ?_
      refine k_region ?_
      refine b_eql rfl rfl ?_
      refine m_bool rfl rfl ?_
      refine o_nil ?_
      refine k_cond rfl (fun h => ?_) (fun h => ?_)
      ·
        refine k_region ?_
        refine m_int rfl rfl ?_
        refine m_int rfl rfl ?_
        refine b_quo rfl rfl (by omega) ?_
        refine m_int rfl rfl ?_
        refine o_nil ?_
        refine k_blk ?_
        refine k_seq ?_
        refine k_region ?_
        refine m_int rfl rfl ?_
        refine m_int rfl rfl ?_
        refine m_int rfl rfl ?_
        refine o_nil ?_
        refine k_ret (ret_tmps (ts := [6, 7]) (v := .tuple #[.int _ _, .int _ _]) rfl rfl ?_)
        refine ⟨?_, rfl⟩
        unfold W.rk
        (repeat' split) <;> first | rfl | (exfalso; omega)
      refine k_seq ?_
      refine k_region ?_
      refine b_eql rfl rfl ?_
      refine m_bool rfl rfl ?_
      refine o_nil ?_
      refine k_cond rfl (fun h => ?_) (fun h => ?_)
      ·
        refine k_region ?_
        refine m_int rfl rfl ?_
        refine m_int rfl rfl ?_
        refine b_rem rfl rfl (by omega) ?_
        refine m_int rfl rfl ?_
        refine o_nil ?_
        refine k_blk ?_
        refine k_seq ?_
        refine k_region ?_
        refine m_int rfl rfl ?_
        refine m_int rfl rfl ?_
        refine m_int rfl rfl ?_
        refine o_nil ?_
        refine k_ret (ret_tmps (ts := [6, 7]) (v := .tuple #[.int _ _, .int _ _]) rfl rfl ?_)
        refine ⟨?_, rfl⟩
        unfold W.rk
        (repeat' split) <;> first | rfl | (exfalso; omega)
      refine k_seq ?_
      refine k_region ?_
      refine b_eql rfl rfl ?_
      refine m_bool rfl rfl ?_
      refine o_nil ?_
      refine k_cond rfl (fun h => ?_) (fun h => ?_)
      ·
        refine k_region ?_
        refine m_int rfl rfl ?_
        refine u_neg rfl ?_
        refine m_int rfl rfl ?_
        refine o_nil ?_
        refine k_blk ?_
        refine k_seq ?_
        refine k_region ?_
        refine m_int rfl rfl ?_
        refine m_int rfl rfl ?_
        refine m_int rfl rfl ?_
        refine o_nil ?_
        refine k_ret (ret_tmps (ts := [6, 7]) (v := .tuple #[.int _ _, .int _ _]) rfl rfl ?_)
        refine ⟨?_, rfl⟩
        unfold W.rk
        (repeat' split) <;> first | rfl | (exfalso; omega)
      refine k_seq ?_
      refine k_region ?_
      refine b_eql rfl rfl ?_
      refine m_bool rfl rfl ?_
      refine o_nil ?_
      refine k_cond rfl (fun h => ?_) (fun h => ?_)
      ·
        refine k_region ?_
        refine m_int rfl rfl ?_
        refine m_int rfl rfl ?_
        refine b_and rfl rfl ?_
        refine m_int rfl rfl ?_
        refine o_nil ?_
        refine k_blk ?_
        refine k_seq ?_
        refine k_region ?_
        refine m_int rfl rfl ?_
        refine m_int rfl rfl ?_
        refine m_int rfl rfl ?_
        refine o_nil ?_
        refine k_ret (ret_tmps (ts := [6, 7]) (v := .tuple #[.int _ _, .int _ _]) rfl rfl ?_)
        refine ⟨?_, rfl⟩
        unfold W.rk
        (repeat' split) <;> first | rfl | (exfalso; omega)
      refine k_seq ?_
      refine k_region ?_
      refine b_eql rfl rfl ?_
      refine m_bool rfl rfl ?_
      refine o_nil ?_
      refine k_cond rfl (fun h => ?_) (fun h => ?_)
      ·
        refine k_region ?_
        refine m_int rfl rfl ?_
        refine m_int rfl rfl ?_
        refine b_or rfl rfl ?_
        refine m_int rfl rfl ?_
        refine o_nil ?_
        refine k_blk ?_
        refine k_seq ?_
        refine k_region ?_
        refine m_int rfl rfl ?_
        refine m_int rfl rfl ?_
        refine m_int rfl rfl ?_
        refine o_nil ?_
        refine k_ret (ret_tmps (ts := [6, 7]) (v := .tuple #[.int _ _, .int _ _]) rfl rfl ?_)
        refine ⟨?_, rfl⟩
        unfold W.rk
        (repeat' split) <;> first | rfl | (exfalso; omega)
      refine k_seq ?_
      refine k_region ?_
      refine b_eql rfl rfl ?_
      refine m_bool rfl rfl ?_
      refine o_nil ?_
      refine k_cond rfl (fun h => ?_) (fun h => ?_)
      rotate_left
      ·
        refine k_seq ?_
        refine k_region ?_
        refine m_int rfl rfl ?_
        refine m_int rfl rfl ?_
        refine o_nil ?_
        refine k_ret (ret_tmps (ts := [6, 7]) (v := .tuple #[.int _ _, .int _ _]) rfl rfl ?_)
        refine ⟨?_, rfl⟩
        unfold W.rk
        (repeat' split) <;> first | rfl | (exfalso; omega)
      refine k_region ?_
      refine m_int rfl rfl ?_
      refine m_int rfl rfl ?_
      refine b_xor rfl rfl ?_
      refine m_int rfl rfl ?_
      refine o_nil ?_
      refine k_blk ?_
      refine k_seq ?_
      refine k_region ?_
      refine m_int rfl rfl ?_
      refine m_int rfl rfl ?_
      refine m_int rfl rfl ?_
      refine o_nil ?_
      refine k_ret (ret_tmps (ts := [6, 7]) (v := .tuple #[.int _ _, .int _ _]) rfl rfl ?_)
      refine ⟨?_, rfl⟩
      unfold W.rk
      (repeat' split) <;> first | rfl | (exfalso; omega)
    ·
      refine g_no rfl rfl rfl ?_
      refine g_no rfl rfl rfl ?_
      refine pick_f rfl rfl ?_
      refine o_nil ?_
      refine k_condf rfl ?_
      refine k_skip ?_
      refine k_seq ?_
      refine k_seq ?_
      refine k_region ?_
      refine m_int rfl rfl ?_
      refine o_nil ?_
      refine k_block ?_
      refine k_seq ?_
      refine k_region ?_
      refine b_eql rfl rfl ?_
      refine m_bool rfl rfl ?_
      refine o_nil ?_
      refine k_cond rfl (fun h => ?_) (fun h => ?_)
      ·
        refine k_region ?_
        refine m_int rfl rfl ?_
        refine m_int rfl rfl ?_
        refine b_add rfl rfl ?_
        refine m_int rfl rfl ?_
        refine o_nil ?_
        refine k_blk ?_
        refine k_seq ?_
        refine k_region ?_
        refine m_int rfl rfl ?_
        refine m_int rfl rfl ?_
        refine m_int rfl rfl ?_
        refine o_nil ?_
        refine k_ret (ret_tmps (ts := [6, 7]) (v := .tuple #[.int _ _, .int _ _]) rfl rfl ?_)
        refine ⟨?_, rfl⟩
        unfold W.rk
        (repeat' split) <;> first | rfl | (exfalso; omega)
      refine k_seq ?_
      refine k_region ?_
      refine b_eql rfl rfl ?_
      refine m_bool rfl rfl ?_
      refine o_nil ?_
      refine k_cond rfl (fun h => ?_) (fun h => ?_)
      ·
        refine k_region ?_
        refine m_int rfl rfl ?_
        refine m_int rfl rfl ?_
        refine b_sub rfl rfl ?_
        refine m_int rfl rfl ?_
        refine o_nil ?_
        refine k_blk ?_
        refine k_seq ?_
        refine k_region ?_
        refine m_int rfl rfl ?_
        refine m_int rfl rfl ?_
        refine m_int rfl rfl ?_
        refine o_nil ?_
        refine k_ret (ret_tmps (ts := [6, 7]) (v := .tuple #[.int _ _, .int _ _]) rfl rfl ?_)
        refine ⟨?_, rfl⟩
        unfold W.rk
        (repeat' split) <;> first | rfl | (exfalso; omega)
      refine k_seq ?_
      refine k_region ?_
      refine b_eql rfl rfl ?_
      refine m_bool rfl rfl ?_
      refine o_nil ?_
      refine k_cond rfl (fun h => ?_) (fun h => ?_)
      ·
        refine k_region ?_
        refine m_int rfl rfl ?_
        refine m_int rfl rfl ?_
        refine b_mul rfl rfl ?_
        refine m_int rfl rfl ?_
        refine o_nil ?_
        refine k_blk ?_
        refine k_seq ?_
        refine k_region ?_
        refine m_int rfl rfl ?_
        refine m_int rfl rfl ?_
        refine m_int rfl rfl ?_
        refine o_nil ?_
        refine k_ret (ret_tmps (ts := [6, 7]) (v := .tuple #[.int _ _, .int _ _]) rfl rfl ?_)
        refine ⟨?_, rfl⟩
        unfold W.rk
        (repeat' split) <;> first | rfl | (exfalso; omega)
      refine k_seq ?_
      refine k_region ?_
      refine b_eql rfl rfl ?_
      refine m_bool rfl rfl ?_
      refine o_nil ?_
      refine k_cond rfl (fun h => ?_) (fun h => ?_)
      ·
        refine k_region ?_
        refine m_int rfl rfl ?_
        refine m_int rfl rfl ?_
        refine b_quo rfl rfl (by omega) ?_
        refine m_int rfl rfl ?_
        refine o_nil ?_
        refine k_blk ?_
        refine k_seq ?_
        refine k_region ?_
        refine m_int rfl rfl ?_
        refine m_int rfl rfl ?_
        refine m_int rfl rfl ?_
        refine o_nil ?_
        refine k_ret (ret_tmps (ts := [6, 7]) (v := .tuple #[.int _ _, .int _ _]) rfl rfl ?_)
        refine ⟨?_, rfl⟩
        unfold W.rk
        (repeat' split) <;> first | rfl | (exfalso; omega)
      refine k_seq ?_
      refine k_region ?_
      refine b_eql rfl rfl ?_
      refine m_bool rfl rfl ?_
      refine o_nil ?_
      refine k_cond rfl (fun h => ?_) (fun h => ?_)
      ·
        refine k_region ?_
        refine m_int rfl rfl ?_
        refine m_int rfl rfl ?_
        refine b_rem rfl rfl (by omega) ?_
        refine m_int rfl rfl ?_
        refine o_nil ?_
        refine k_blk ?_
        refine k_seq ?_
        refine k_region ?_
        refine m_int rfl rfl ?_
        refine m_int rfl rfl ?_
        refine m_int rfl rfl ?_
        refine o_nil ?_
        refine k_ret (ret_tmps (ts := [6, 7]) (v := .tuple #[.int _ _, .int _ _]) rfl rfl ?_)
        refine ⟨?_, rfl⟩
        unfold W.rk
        (repeat' split) <;> first | rfl | (exfalso; omega)
      refine k_seq ?_
      refine k_region ?_
      refine b_eql rfl rfl ?_
      refine m_bool rfl rfl ?_
      refine o_nil ?_
      refine k_cond rfl (fun h => ?_) (fun h => ?_)
      ·
        refine k_region ?_
        refine m_int rfl rfl ?_
        refine u_neg rfl ?_
        refine m_int rfl rfl ?_
        refine o_nil ?_
        refine k_blk ?_
        refine k_seq ?_
        refine k_region ?_
        refine m_int rfl rfl ?_
        refine m_int rfl rfl ?_
        refine m_int rfl rfl ?_
        refine o_nil ?_
        refine k_ret (ret_tmps (ts := [6, 7]) (v := .tuple #[.int _ _, .int _ _]) rfl rfl ?_)
        refine ⟨?_, rfl⟩
        unfold W.rk
        (repeat' split) <;> first | rfl | (exfalso; omega)
      refine k_seq ?_
      refine k_region ?_
      refine b_eql rfl rfl ?_
      refine m_bool rfl rfl ?_
      refine o_nil ?_
      refine k_cond rfl (fun h => ?_) (fun h => ?_)
      ·
        refine k_region ?_
        refine m_int rfl rfl ?_
        refine m_int rfl rfl ?_
        refine b_and rfl rfl ?_
        refine m_int rfl rfl ?_
        refine o_nil ?_
        refine k_blk ?_
        refine k_seq ?_
        refine k_region ?_
        refine m_int rfl rfl ?_
        refine m_int rfl rfl ?_
        refine m_int rfl rfl ?_
        refine o_nil ?_
        refine k_ret (ret_tmps (ts := [6, 7]) (v := .tuple #[.int _ _, .int _ _]) rfl rfl ?_)
        refine ⟨?_, rfl⟩
        unfold W.rk
        (repeat' split) <;> first | rfl | (exfalso; omega)
      refine k_seq ?_
      refine k_region ?_
      refine b_eql rfl rfl ?_
      refine m_bool rfl rfl ?_
      refine o_nil ?_
      refine k_cond rfl (fun h => ?_) (fun h => ?_)
      ·
        refine k_region ?_
        refine m_int rfl rfl ?_
        refine m_int rfl rfl ?_
        refine b_or rfl rfl ?_
        refine m_int rfl rfl ?_
        refine o_nil ?_
        refine k_blk ?_
        refine k_seq ?_
        refine k_region ?_
        refine m_int rfl rfl ?_
        refine m_int rfl rfl ?_
        refine m_int rfl rfl ?_
        refine o_nil ?_
        refine k_ret (ret_tmps (ts := [6, 7]) (v := .tuple #[.int _ _, .int _ _]) rfl rfl ?_)
        refine ⟨?_, rfl⟩
        unfold W.rk
        (repeat' split) <;> first | rfl | (exfalso; omega)
      refine k_seq ?_
      refine k_region ?_
      refine b_eql rfl rfl ?_
      refine m_bool rfl rfl ?_
      refine o_nil ?_
      refine k_cond rfl (fun h => ?_) (fun h => ?_)
      rotate_left
      ·
        refine k_seq ?_
        refine k_region ?_
        refine m_int rfl rfl ?_
        refine m_int rfl rfl ?_
        refine o_nil ?_
        refine k_ret (ret_tmps (ts := [6, 7]) (v := .tuple #[.int _ _, .int _ _]) rfl rfl ?_)
        refine ⟨?_, rfl⟩
        unfold W.rk
        (repeat' split) <;> first | rfl | (exfalso; omega)
      refine k_region ?_
      refine m_int rfl rfl ?_
      refine m_int rfl rfl ?_
      refine b_xor rfl rfl ?_
      refine m_int rfl rfl ?_
      refine o_nil ?_
      refine k_blk ?_
      refine k_seq ?_
      refine k_region ?_
      refine m_int rfl rfl ?_
      refine m_int rfl rfl ?_
      refine m_int rfl rfl ?_
      refine o_nil ?_
      refine k_ret (ret_tmps (ts := [6, 7]) (v := .tuple #[.int _ _, .int _ _]) rfl rfl ?_)
      refine ⟨?_, rfl⟩
      unfold W.rk
      (repeat' split) <;> first | rfl | (exfalso; omega)

theorem rk64_ok (w : World) (op x y : Int) : Ret Try.prog 28 [.int .i64 op, .int .i64 x, .int .i64 y] w (fun v w' => v = .tuple #[.int .i64 (W.rk .i64 op x y).1, .int .i64 (W.rk .i64 op x y).2] ∧ w' = w) := by
  refine fn_enter (n := 64) Try.func28 rfl rfl (Nat.le_of_ble_eq_true rfl) (fun e => ?_)
  refine k_seq ?_
  refine k_region ?_
  refine m_int rfl rfl ?_
  refine m_int rfl rfl ?_
  refine o_nil ?_
  refine k_seq ?_
  refine k_seq ?_
  refine k_region ?_
  refine m_int rfl rfl ?_
  refine b_eql rfl rfl ?_
  refine m_bool rfl rfl ?_
  refine o_split (t := 10) rfl (fun h => ?_) (fun h => ?_)
  ·
    refine g_no rfl rfl rfl ?_
    refine g_no rfl rfl rfl ?_
    refine pick_t rfl rfl ?_
    refine m_bool rfl rfl ?_
    refine g_yes rfl rfl ?_
    refine m_int rfl rfl ?_
    refine g_yes rfl rfl ?_
    refine b_eql rfl rfl ?_
    refine pick_t rfl rfl ?_
    refine o_nil ?_
    refine k_cond rfl (fun h => ?_) (fun h => ?_)
    ·
      refine k_seq ?_
      refine k_region ?_
      refine m_int rfl rfl ?_
      refine m_int rfl rfl ?_
      refine o_nil ?_
      refine k_ret (ret_tmps (ts := [6, 7]) (v := .tuple #[.int _ _, .int _ _]) rfl rfl ?_)
      refine ⟨?_, rfl⟩
      unfold W.rk
      (repeat' split) <;> first | rfl | (exfalso; omega)
    refine k_skip ?_
    refine k_seq ?_
    refine k_seq ?_
    refine k_region ?_
    refine m_int rfl rfl ?_
    refine o_nil ?_
    refine k_block ?_
    refine k_seq ?_
    refine k_region ?_
    refine b_eql rfl rfl ?_
    refine m_bool rfl rfl ?_
    refine o_nil ?_
    refine k_cond rfl (fun h => ?_) (fun h => ?_)
    ·
      refine k_region ?_
      refine m_int rfl rfl ?_
      refine m_int rfl rfl ?_
      refine b_add rfl rfl ?_
      refine m_int rfl rfl ?_
      refine o_nil ?_
      refine k_blk ?_
      refine k_seq ?_
      refine k_region ?_
      refine m_int rfl rfl ?_
      refine m_int rfl rfl ?_
      refine m_int rfl rfl ?_
      refine o_nil ?_
      refine k_ret (ret_tmps (ts := [6, 7]) (v := .tuple #[.int _ _, .int _ _]) rfl rfl ?_)
      refine ⟨?_, rfl⟩
      unfold W.rk
      (repeat' split) <;> first | rfl | (exfalso; omega)
    refine k_seq ?_
    refine k_region ?_
    refine b_eql rfl rfl ?_
    refine m_bool rfl rfl ?_
    refine o_nil ?_
    refine k_cond rfl (fun h => ?_) (fun h => ?_)
    ·
      refine k_region ?_
      refine m_int rfl rfl ?_
      refine m_int rfl rfl ?_
      refine b_sub rfl rfl ?_
      refine m_int rfl rfl ?_
      refine o_nil ?_
      refine k_blk ?_
      refine k_seq ?_
      refine k_region ?_
      refine m_int rfl rfl ?_
      refine m_int rfl rfl ?_
      refine m_int rfl rfl ?_
      refine o_nil ?_
      refine k_ret (ret_tmps (ts := [6, 7]) (v := .tuple #[.int _ _, .int _ _]) rfl rfl ?_)
      refine ⟨?_, rfl⟩
      unfold W.rk
      (repeat' split) <;> first | rfl | (exfalso; omega)
    refine k_seq ?_
    refine k_region ?_
    refine b_eql rfl rfl ?_
    refine m_bool rfl rfl ?_
    refine o_nil ?_
    refine k_cond rfl (fun h => ?_) (fun h => ?_)
    ·
      refine k_region ?_
      refine m_int rfl rfl ?_
      refine m_int rfl rfl ?_
      refine b_mul rfl rfl ?_
      refine m_int rfl rfl ?_
      refine o_nil ?_
      refine k_blk ?_
      refine k_seq ?_
      refine k_region ?_
      refine m_int rfl rfl ?_
      refine m_int rfl rfl ?_
      refine m_int rfl rfl ?_
      refine o_nil ?_
      refine k_ret (ret_tmps (ts := [6, 7]) (v := .tuple #[.int _ _, .int _ _]) rfl rfl ?_)
      refine ⟨?_, rfl⟩
      unfold W.rk
      (repeat' split) <;> first | rfl | (exfalso; omega)
    refine k_seq ?_
    refine k_region ?_
    refine b_eql rfl rfl ?_
    refine m_bool rfl rfl ?_
    refine o_nil ?_
    refine k_cond rfl (fun h => ?_) (fun h => ?_)
    ·
      refine k_region ?_
      refine m_int rfl rfl ?_
      refine m_int rfl rfl ?_
      refine b_quo rfl rfl (by omega) ?_
      refine m_int rfl rfl ?_
      refine o_nil ?_
      refine k_blk ?_
      refine k_seq ?_
      refine k_region ?_
      refine m_int rfl rfl ?_
      refine m_int rfl rfl ?_
      refine m_int rfl rfl ?_
      refine o_nil ?_
      refine k_ret (ret_tmps (ts := [6, 7]) (v := .tuple #[.int _ _, .int _ _]) rfl rfl ?_)
      refine ⟨?_, rfl⟩
      unfold W.rk
      (repeat' split) <;> first | rfl | (exfalso; omega)
    refine k_seq ?_
    refine k_region ?_
    refine b_eql rfl rfl ?_
    refine m_bool rfl rfl ?_
    refine o_nil ?_
    refine k_cond rfl (fun h => ?_) (fun h => ?_)
    ·
      refine k_region ?_
      refine m_int rfl rfl ?_
      refine m_int rfl rfl ?_
      refine b_rem rfl rfl (by omega) ?_
      refine m_int rfl rfl ?_
      refine o_nil ?_
      refine k_blk ?_
      refine k_seq ?_
      refine k_region ?_
      refine m_int rfl rfl ?_
      refine m_int rfl rfl ?_
      refine m_int rfl rfl ?_
      refine o_nil ?_
      refine k_ret (ret_tmps (ts := [6, 7]) (v := .tuple #[.int _ _, .int _ _]) rfl rfl ?_)
      refine ⟨?_, rfl⟩
      unfold W.rk
      (repeat' split) <;> first | rfl | (exfalso; omega)
    refine k_seq ?_
    refine k_region ?_
    refine b_eql rfl rfl ?_
    refine m_bool rfl rfl ?_
    refine o_nil ?_
    refine k_cond rfl (fun h => ?_) (fun h => ?_)
    ·
      refine k_region ?_
      refine m_int rfl rfl ?_
      refine u_neg rfl ?_
      refine m_int rfl rfl ?_
      refine o_nil ?_
      refine k_blk ?_
      refine k_seq ?_
      refine k_region ?_
      refine m_int rfl rfl ?_
      refine m_int rfl rfl ?_
      refine m_int rfl rfl ?_
      refine o_nil ?_
      refine k_ret (ret_tmps (ts := [6, 7]) (v := .tuple #[.int _ _, .int _ _]) rfl rfl ?_)
      refine ⟨?_, rfl⟩
      unfold W.rk
      (repeat' split) <;> first | rfl | (exfalso; omega)
    refine k_seq ?_
    refine k_region ?_
    refine b_eql rfl rfl ?_
    refine m_bool rfl rfl ?_
    refine o_nil ?_
    refine k_cond rfl (fun h => ?_) (fun h => ?_)
    ·
      refine k_region ?_
      refine m_int rfl rfl ?_
      refine m_int rfl rfl ?_
      refine b_and rfl rfl ?_
      refine m_int rfl rfl ?_
      refine o_nil ?_
      refine k_blk ?_
      refine k_seq ?_
      refine k_region ?_
      refine m_int rfl rfl ?_
      refine m_int rfl rfl ?_
      refine m_int rfl rfl ?_
      refine o_nil ?_
      refine k_ret (ret_tmps (ts := [6, 7]) (v := .tuple #[.int _ _, .int _ _]) rfl rfl ?_)
      refine ⟨?_, rfl⟩
      unfold W.rk
      (repeat' split) <;> first | rfl | (exfalso; omega)
    refine k_seq ?_
    refine k_region ?_
    refine b_eql rfl rfl ?_
    refine m_bool rfl rfl ?_
    refine o_nil ?_
    refine k_cond rfl (fun h => ?_) (fun h => ?_)
    ·
      refine k_region ?_
      refine m_int rfl rfl ?_
      refine m_int rfl rfl ?_
      refine b_or rfl rfl ?_
      refine m_int rfl rfl ?_
      refine o_nil ?_
      refine k_blk ?_
      refine k_seq ?_
      refine k_region ?_
      refine m_int rfl rfl ?_
      refine m_int rfl rfl ?_
      refine m_int rfl rfl ?_
      refine o_nil ?_
      refine k_ret (ret_tmps (ts := [6, 7]) (v := .tuple #[.int _ _, .int _ _]) rfl rfl ?_)
      refine ⟨?_, rfl⟩
      unfold W.rk
      (repeat' split) <;> first | rfl | (exfalso; omega)
    refine k_seq ?_
    refine k_region ?_
    refine b_eql rfl rfl ?_
    refine m_bool rfl rfl ?_
    refine o_nil ?_
    refine k_cond rfl (fun h => ?_) (fun h => ?_)
    rotate_left
    ·
      refine k_seq ?_
      refine k_region ?_
      refine m_int rfl rfl ?_
      refine m_int rfl rfl ?_
      refine o_nil ?_
      refine k_ret (ret_tmps (ts := [6, 7]) (v := .tuple #[.int _ _, .int _ _]) rfl rfl ?_)
      refine ⟨?_, rfl⟩
      unfold W.rk
      (repeat' split) <;> first | rfl | (exfalso; omega)
    refine k_region ?_
    refine m_int rfl rfl ?_
    refine m_int rfl rfl ?_
    refine b_xor rfl rfl ?_
    refine m_int rfl rfl ?_
    refine o_nil ?_
    refine k_blk ?_
    refine k_seq ?_
    refine k_region ?_
    refine m_int rfl rfl ?_
    refine m_int rfl rfl ?_
    refine m_int rfl rfl ?_
    refine o_nil ?_
    refine k_ret (ret_tmps (ts := [6, 7]) (v := .tuple #[.int _ _, .int _ _]) rfl rfl ?_)
    refine ⟨?_, rfl⟩
    unfold W.rk
    (repeat' split) <;> first | rfl | (exfalso; omega)
  ·
    refine g_yes rfl rfl ?_
    refine m_int rfl rfl ?_
    refine g_yes rfl rfl ?_
    refine b_eql rfl rfl ?_
    refine pick_f rfl rfl ?_
    refine m_bool rfl rfl ?_
    refine o_split (t := 14) rfl (fun h => ?_) (fun h => ?_)
    ·
      refine g_yes rfl rfl ?_
      refine m_int rfl rfl ?_
      refine g_yes rfl rfl ?_
      refine b_eql rfl rfl ?_
      refine pick_t rfl rfl ?_
      refine o_nil ?_
      refine k_cond rfl (fun h => ?_) (fun h => ?_)
      ·
        refine k_seq ?_
        refine k_region ?_
        refine m_int rfl rfl ?_
        refine m_int rfl rfl ?_
        refine o_nil ?_
        refine k_ret (ret_tmps (ts := [6, 7]) (v := .tuple #[.int _ _, .int _ _]) rfl rfl ?_)
        refine ⟨?_, rfl⟩
        unfold W.rk
        (repeat' split) <;> first | rfl | (exfalso; omega)
      refine k_skip ?_
      refine k_seq ?_
      refine k_seq ?_
      refine k_region ?_
      refine m_int rfl rfl ?_
      refine o_nil ?_
      refine k_block ?_
      refine k_seq ?_
      refine k_region ?_
      refine b_eql rfl rfl ?_
      refine m_bool rfl rfl ?_
      refine o_nil ?_
      refine k_cond rfl (fun h => ?_) (fun h => ?_)
      ·
        refine k_region ?_
        refine m_int rfl rfl ?_
        refine m_int rfl rfl ?_
        refine b_add rfl rfl ?_
        refine m_int rfl rfl ?_
        refine o_nil ?_
        refine k_blk ?_
        refine k_seq ?_
        refine k_region ?_
        refine m_int rfl rfl ?_
        refine m_int rfl rfl ?_
        refine m_int rfl rfl ?_
        refine o_nil ?_
        refine k_ret (ret_tmps (ts := [6, 7]) (v := .tuple #[.int _ _, .int _ _]) rfl rfl ?_)
        refine ⟨?_, rfl⟩
        unfold W.rk
        (repeat' split) <;> first | rfl | (exfalso; omega)
      refine k_seq ?_
      refine k_region ?_
      refine b_eql rfl rfl ?_
      refine m_bool rfl rfl ?_
      refine o_nil ?_
      refine k_cond rfl (fun h => ?_) (fun h => ?_)
      ·
        refine k_region ?_
        refine m_int rfl rfl ?_
        refine m_int rfl rfl ?_
        refine b_sub rfl rfl ?_
        refine m_int rfl rfl ?_
        refine o_nil ?_
        refine k_blk ?_
        refine k_seq ?_
        refine k_region ?_
        refine m_int rfl rfl ?_
        refine m_int rfl rfl ?_
        refine m_int rfl rfl ?_
        refine o_nil ?_
        refine k_ret (ret_tmps (ts := [6, 7]) (v := .tuple #[.int _ _, .int _ _]) rfl rfl ?_)
        refine ⟨?_, rfl⟩
        unfold W.rk
        (repeat' split) <;> first | rfl | (exfalso; omega)
      refine k_seq ?_
      refine k_region ?_
      refine b_eql rfl rfl ?_
      refine m_bool rfl rfl ?_
      refine o_nil ?_
      refine k_cond rfl (fun h => ?_) (fun h => ?_)
      ·
        refine k_region ?_
        refine m_int rfl rfl ?_
        refine m_int rfl rfl ?_
        refine b_mul rfl rfl ?_
        refine m_int rfl rfl ?_
        refine o_nil ?_
        refine k_blk ?_
        refine k_seq ?_
        refine k_region ?_
        refine m_int rfl rfl ?_
        refine m_int rfl rfl ?_
        refine m_int rfl rfl ?_
        refine o_nil ?_
        refine k_ret (ret_tmps (ts := [6, 7]) (v := .tuple #[.int _ _, .int _ _]) rfl rfl ?_)
        refine ⟨?_, rfl⟩
        unfold W.rk
        (repeat' split) <;> first | rfl | (exfalso; omega)
      refine k_seq ?_
      refine k_region ?_
      refine b_eql rfl rfl ?_
      refine m_bool rfl rfl ?_
      refine o_nil ?_
      refine k_cond rfl (fun h => ?_) (fun h => ?_)
      ·
        refine k_region ?_
        refine m_int rfl rfl ?_
        refine m_int rfl rfl ?_
        refine b_quo rfl rfl (by omega) ?_
        refine m_int rfl rfl ?_
        refine o_nil ?_
        refine k_blk ?_
        refine k_seq ?_
        refine k_region ?_
        refine m_int rfl rfl ?_
        refine m_int rfl rfl ?_
        refine m_int rfl rfl ?_
        refine o_nil ?_
        refine k_ret (ret_tmps (ts := [6, 7]) (v := .tuple #[.int _ _, .int _ _]) rfl rfl ?_)
        refine ⟨?_, rfl⟩
        unfold W.rk
        (repeat' split) <;> first | rfl | (exfalso; omega)
      refine k_seq ?_
      refine k_region ?_
      refine b_eql rfl rfl ?_
      refine m_bool rfl rfl ?_
      refine o_nil ?_
      refine k_cond rfl (fun h => ?_) (fun h => ?_)
      ·
        refine k_region ?_
        refine m_int rfl rfl ?_
        refine m_int rfl rfl ?_
        refine b_rem rfl rfl (by omega) ?_
        refine m_int rfl rfl ?_
        refine o_nil ?_
        refine k_blk ?_
        refine k_seq ?_
        refine k_region ?_
        refine m_int rfl rfl ?_
        refine m_int rfl rfl ?_
        refine m_int rfl rfl ?_
        refine o_nil ?_
        refine k_ret (ret_tmps (ts := [6, 7]) (v := .tuple #[.int _ _, .int _ _]) rfl rfl ?_)
        refine ⟨?_, rfl⟩
        unfold W.rk
        (repeat' split) <;> first | rfl | (exfalso; omega)
      refine k_seq ?_
      refine k_region ?_
      refine b_eql rfl rfl ?_
      refine m_bool rfl rfl ?_
      refine o_nil ?_
      refine k_cond rfl (fun h => ?_) (fun h => ?_)
      ·
        refine k_region ?_
        refine m_int rfl rfl ?_
        refine u_neg rfl ?_
        refine m_int rfl rfl ?_
        refine o_nil ?_
        refine k_blk ?_
        refine k_seq ?_
        refine k_region ?_
        refine m_int rfl rfl ?_
        refine m_int rfl rfl ?_
        refine m_int rfl rfl ?_
        refine o_nil ?_
        refine k_ret (ret_tmps (ts := [6, 7]) (v := .tuple #[.int _ _, .int _ _]) rfl rfl ?_)
        refine ⟨?_, rfl⟩
        unfold W.rk
        (repeat' split) <;> first | rfl | (exfalso; omega)
      refine k_seq ?_
      refine k_region ?_
      refine b_eql rfl rfl ?_
      refine m_bool rfl rfl ?_
      refine o_nil ?_
      refine k_cond rfl (fun h => ?_) (fun h => ?_)
      ·
        refine k_region ?_
        refine m_int rfl rfl ?_
        refine m_int rfl rfl ?_
        refine b_and rfl rfl ?_
        refine m_int rfl rfl ?_
        refine o_nil ?_
        refine k_blk ?_
        refine k_seq ?_
        refine k_region ?_
        refine m_int rfl rfl ?_
        refine m_int rfl rfl ?_
        refine m_int rfl rfl ?_
        refine o_nil ?_
        refine k_ret (ret_tmps (ts := [6, 7]) (v := .tuple #[.int _ _, .int _ _]) rfl rfl ?_)
        refine ⟨?_, rfl⟩
        unfold W.rk
        (repeat' split) <;> first | rfl | (exfalso; omega)
      refine k_seq ?_
      refine k_region ?_
      refine b_eql rfl rfl ?_
      refine m_bool rfl rfl ?_
      refine o_nil ?_
      refine k_cond rfl (fun h => ?_) (fun h => ?_)
      ·
        refine k_region ?_
        refine m_int rfl rfl ?_
        refine m_int rfl rfl ?_
        refine b_or rfl rfl ?_
        refine m_int rfl rfl ?_
        refine o_nil ?_
        refine k_blk ?_
        refine k_seq ?_
        refine k_region ?_
        refine m_int rfl rfl ?_
        refine m_int rfl rfl ?_
        refine m_int rfl rfl ?_
        refine o_nil ?_
        refine k_ret (ret_tmps (ts := [6, 7]) (v := .tuple #[.int _ _, .int _ _]) rfl rfl ?_)
        refine ⟨?_, rfl⟩
        unfold W.rk
        (repeat' split) <;> first | rfl | (exfalso; omega)
      refine k_seq ?_
      refine k_region ?_
      refine b_eql rfl rfl ?_
      refine m_bool rfl rfl ?_
      refine o_nil ?_
      refine k_cond rfl (fun h => ?_) (fun h => ?_)
      rotate_left
      ·
        refine k_seq ?_
        refine k_region ?_
        refine m_int rfl rfl ?_
        refine m_int rfl rfl ?_
        refine o_nil ?_
        refine k_ret (ret_tmps (ts := [6, 7]) (v := .tuple #[.int _ _, .int _ _]) rfl rfl ?_)
        refine ⟨?_, rfl⟩
        unfold W.rk
        (repeat' split) <;> first | rfl | (exfalso; omega)
      refine k_region ?_
      refine m_int rfl rfl ?_
      refine m_int rfl rfl ?_
      refine b_xor rfl rfl ?_
      refine m_int rfl rfl ?_
      refine o_nil ?_
      refine k_blk ?_
      refine k_seq ?_
      refine k_region ?_
      refine m_int rfl rfl ?_
      refine m_int rfl rfl ?_
      refine m_int rfl rfl ?_
      refine o_nil ?_
      refine k_ret (ret_tmps (ts := [6, 7]) (v := .tuple #[.int _ _, .int _ _]) rfl rfl ?_)
      refine ⟨?_, rfl⟩
      unfold W.rk
      (repeat' split) <;> first | rfl | (exfalso; omega)
    ·
      refine g_no rfl rfl rfl ?_
      refine g_no rfl rfl rfl ?_
      refine pick_f rfl rfl ?_
      refine o_nil ?_
      refine k_condf rfl ?_
      refine k_skip ?_
      refine k_seq ?_
      refine k_seq ?_
      refine k_region ?_
      refine m_int rfl rfl ?_
      refine o_nil ?_
      refine k_block ?_
      refine k_seq ?_
      refine k_region ?_
      refine b_eql rfl rfl ?_
      refine m_bool rfl rfl ?_
      refine o_nil ?_
      refine k_cond rfl (fun h => ?_) (fun h => ?_)
      ·
        refine k_region ?_
        refine m_int rfl rfl ?_
        refine m_int rfl rfl ?_
        refine b_add rfl rfl ?_
        refine m_int rfl rfl ?_
        refine o_nil ?_
        refine k_blk ?_
        refine k_seq ?_
        refine k_region ?_
        refine m_int rfl rfl ?_
        refine m_int rfl rfl ?_
        refine m_int rfl rfl ?_
        refine o_nil ?_
        refine k_ret (ret_tmps (ts := [6, 7]) (v := .tuple #[.int _ _, .int _ _]) rfl rfl ?_)
        refine ⟨?_, rfl⟩
        unfold W.rk
        (repeat' split) <;> first | rfl | (exfalso; omega)
      refine k_seq ?_
      refine k_region ?_
      refine b_eql rfl rfl ?_
      refine m_bool rfl rfl ?_
      refine o_nil ?_
      refine k_cond rfl (fun h => ?_) (fun h => ?_)
      ·
        refine k_region ?_
        refine m_int rfl rfl ?_
        refine m_int rfl rfl ?_
        refine b_sub rfl rfl ?_
        refine m_int rfl rfl ?_
        refine o_nil ?_
        refine k_blk ?_
        refine k_seq ?_
        refine k_region ?_
        refine m_int rfl rfl ?_
        refine m_int rfl rfl ?_
        refine m_int rfl rfl ?_
        refine o_nil ?_
        refine k_ret (ret_tmps (ts := [6, 7]) (v := .tuple #[.int _ _, .int _ _]) rfl rfl ?_)
        refine ⟨?_, rfl⟩
        unfold W.rk
        (repeat' split) <;> first | rfl | (exfalso; omega)
      refine k_seq ?_
      refine k_region ?_
      refine b_eql rfl rfl ?_
      refine m_bool rfl rfl ?_
      refine o_nil ?_
      refine k_cond rfl (fun h => ?_) (fun h => ?_)
      ·
        refine k_region ?_
        refine m_int rfl rfl ?_
        refine m_int rfl rfl ?_
        refine b_mul rfl rfl ?_
        refine m_int rfl rfl ?_
        refine o_nil ?_
        refine k_blk ?_
        refine k_seq ?_
        refine k_region ?_
        refine m_int rfl rfl ?_
        refine m_int rfl rfl ?_
        refine m_int rfl rfl ?_
        refine o_nil ?_
        refine k_ret (ret_tmps (ts := [6, 7]) (v := .tuple #[.int _ _, .int _ _]) rfl rfl ?_)
        refine ⟨?_, rfl⟩
        unfold W.rk
        (repeat' split) <;> first | rfl | (exfalso; omega)
      refine k_seq ?_
      refine k_region ?_
      refine b_eql rfl rfl ?_
      refine m_bool rfl rfl ?_
      refine o_nil ?_
      refine k_cond rfl (fun h => ?_) (fun h => ?_)
      ·
        refine k_region ?_
        refine m_int rfl rfl ?_
        refine m_int rfl rfl ?_
        refine b_quo rfl rfl (by omega) ?_
        refine m_int rfl rfl ?_
        refine o_nil ?_
        refine k_blk ?_
        refine k_seq ?_
        refine k_region ?_
        refine m_int rfl rfl ?_
        refine m_int rfl rfl ?_
        refine m_int rfl rfl ?_
        refine o_nil ?_
        refine k_ret (ret_tmps (ts := [6, 7]) (v := .tuple #[.int _ _, .int _ _]) rfl rfl ?_)
        refine ⟨?_, rfl⟩
        unfold W.rk
        (repeat' split) <;> first | rfl | (exfalso; omega)
      refine k_seq ?_
      refine k_region ?_
      refine b_eql rfl rfl ?_
      refine m_bool rfl rfl ?_
      refine o_nil ?_
      refine k_cond rfl (fun h => ?_) (fun h => ?_)
      ·
        refine k_region ?_
        refine m_int rfl rfl ?_
        refine m_int rfl rfl ?_
        refine b_rem rfl rfl (by omega) ?_
        refine m_int rfl rfl ?_
        refine o_nil ?_
        refine k_blk ?_
        refine k_seq ?_
        refine k_region ?_
        refine m_int rfl rfl ?_
        refine m_int rfl rfl ?_
        refine m_int rfl rfl ?_
        refine o_nil ?_
        refine k_ret (ret_tmps (ts := [6, 7]) (v := .tuple #[.int _ _, .int _ _]) rfl rfl ?_)
        refine ⟨?_, rfl⟩
        unfold W.rk
        (repeat' split) <;> first | rfl | (exfalso; omega)
      refine k_seq ?_
      refine k_region ?_
      refine b_eql rfl rfl ?_
      refine m_bool rfl rfl ?_
      refine o_nil ?_
      refine k_cond rfl (fun h => ?_) (fun h => ?_)
      ·
        refine k_region ?_
        refine m_int rfl rfl ?_
        refine u_neg rfl ?_
        refine m_int rfl rfl ?_
        refine o_nil ?_
        refine k_blk ?_
        refine k_seq ?_
        refine k_region ?_
        refine m_int rfl rfl ?_
        refine m_int rfl rfl ?_
        refine m_int rfl rfl ?_
        refine o_nil ?_
        refine k_ret (ret_tmps (ts := [6, 7]) (v := .tuple #[.int _ _, .int _ _]) rfl rfl ?_)
        refine ⟨?_, rfl⟩
        unfold W.rk
        (repeat' split) <;> first | rfl | (exfalso; omega)
      refine k_seq ?_
      refine k_region ?_
      refine b_eql rfl rfl ?_
      refine m_bool rfl rfl ?_
      refine o_nil ?_
      refine k_cond rfl (fun h => ?_) (fun h => ?_)
      ·
        refine k_region ?_
        refine m_int rfl rfl ?_
        refine m_int rfl rfl ?_
        refine b_and rfl rfl ?_
        refine m_int rfl rfl ?_
        refine o_nil ?_
        refine k_blk ?_
        refine k_seq ?_
        refine k_region ?_
        refine m_int rfl rfl ?_
        refine m_int rfl rfl ?_
        refine m_int rfl rfl ?_
        refine o_nil ?_
        refine k_ret (ret_tmps (ts := [6, 7]) (v := .tuple #[.int _ _, .int _ _]) rfl rfl ?_)
        refine ⟨?_, rfl⟩
        unfold W.rk
        (repeat' split) <;> first | rfl | (exfalso; omega)
      refine k_seq ?_
      refine k_region ?_
      refine b_eql rfl rfl ?_
      refine m_bool rfl rfl ?_
      refine o_nil ?_
      refine k_cond rfl (fun h => ?_) (fun h => ?_)
      ·
        refine k_region ?_
        refine m_int rfl rfl ?_
        refine m_int rfl rfl ?_
        refine b_or rfl rfl ?_
        refine m_int rfl rfl ?_
        refine o_nil ?_
        refine k_blk ?_
        refine k_seq ?_
        refine k_region ?_
        refine m_int rfl rfl ?_
        refine m_int rfl rfl ?_
        refine m_int rfl rfl ?_
        refine o_nil ?_
        refine k_ret (ret_tmps (ts := [6, 7]) (v := .tuple #[.int _ _, .int _ _]) rfl rfl ?_)
        refine ⟨?_, rfl⟩
        unfold W.rk
        (repeat' split) <;> first | rfl | (exfalso; omega)
      refine k_seq ?_
      refine k_region ?_
      refine b_eql rfl rfl ?_
      refine m_bool rfl rfl ?_
      refine o_nil ?_
      refine k_cond rfl (fun h => ?_) (fun h => ?_)
      rotate_left
      ·
        refine k_seq ?_
        refine k_region ?_
        refine m_int rfl rfl ?_
        refine m_int rfl rfl ?_
        refine o_nil ?_
        refine k_ret (ret_tmps (ts := [6, 7]) (v := .tuple #[.int _ _, .int _ _]) rfl rfl ?_)
        refine ⟨?_, rfl⟩
        unfold W.rk
        (repeat' split) <;> first | rfl | (exfalso; omega)
      refine k_region ?_
      refine m_int rfl rfl ?_
      refine m_int rfl rfl ?_
      refine b_xor rfl rfl ?_
      refine m_int rfl rfl ?_
      refine o_nil ?_
      refine k_blk ?_
      refine k_seq ?_
      refine k_region ?_
      refine m_int rfl rfl ?_
      refine m_int rfl rfl ?_
      refine m_int rfl rfl ?_
      refine o_nil ?_
      refine k_ret (ret_tmps (ts := [6, 7]) (v := .tuple #[.int _ _, .int _ _]) rfl rfl ?_)
      refine ⟨?_, rfl⟩
      unfold W.rk
      (repeat' split) <;> first | rfl | (exfalso; omega)
end Go.Proofs.Ytahhgocfgniejaa
