/- The walks of the reference's Compare, Holds, Cut, and of the law's fixed and reckon. No condition beyond what each contract names. -/
import Derived.Test.YtahhgocfgniejaaWd
namespace Go.Proofs.Ytahhgocfgniejaa
open Go.RowKit E
set_option linter.unusedVariables false
set_option linter.unusedSimpArgs false
set_option maxRecDepth 100000
attribute [local irreducible] ow qw kw kq cw opW Ret
theorem rcmp_ok (w : World) (a b : Int) : Ret Try.prog 18 [.int .i64 a, .int .i64 b] w (fun v w' => v = .int .i64 (cmpW a b) ∧ w' = w) := by
  refine fn_enter (n := 11) Try.func18 rfl rfl (Nat.le_of_ble_eq_true rfl) (fun e => ?_)
  refine k_seq ?_
  refine k_region ?_
  refine m_int rfl rfl ?_
  refine o_nil ?_
  refine k_seq ?_
  refine k_seq ?_
  refine k_region ?_
  refine m_int rfl rfl ?_
  refine m_int rfl rfl ?_
  refine b_lss rfl rfl ?_
  refine o_nil ?_
  refine k_cond rfl (fun h => ?_) (fun h => ?_)
  ·
    refine k_seq ?_
    refine k_region ?_
    refine m_int rfl rfl ?_
    refine o_nil ?_
    refine k_ret (ret_tmps (ts := [4]) (v := .int _ _) rfl rfl ?_)
    refine ⟨?_, rfl⟩
    unfold cmpW
    (repeat' split) <;> first | rfl | (exfalso; omega)
  refine k_skip ?_
  refine k_seq ?_
  refine k_seq ?_
  refine k_region ?_
  refine m_int rfl rfl ?_
  refine m_int rfl rfl ?_
  refine b_gtr rfl rfl ?_
  refine o_nil ?_
  refine k_cond rfl (fun h => ?_) (fun h => ?_)
  ·
    refine k_seq ?_
    refine k_region ?_
    refine m_int rfl rfl ?_
    refine o_nil ?_
    refine k_ret (ret_tmps (ts := [4]) (v := .int _ _) rfl rfl ?_)
    refine ⟨?_, rfl⟩
    unfold cmpW
    (repeat' split) <;> first | rfl | (exfalso; omega)
  refine k_skip ?_
  refine k_seq ?_
  refine k_region ?_
  refine m_int rfl rfl ?_
  refine o_nil ?_
  refine k_ret (ret_tmps (ts := [4]) (v := .int _ _) rfl rfl ?_)
  refine ⟨?_, rfl⟩
  unfold cmpW
  (repeat' split) <;> first | rfl | (exfalso; omega)

theorem rholds_ok (w : World) (op a b : Int) : Ret Try.prog 20 [.int .i64 op, .int .i64 a, .int .i64 b] w (fun v w' => v = .tuple #[.bool (holdsW op a b).1, .int .i64 (holdsW op a b).2] ∧ w' = w) := by
  refine fn_enter (n := 51) Try.func20 rfl rfl (Nat.le_of_ble_eq_true rfl) (fun e => ?_)
  refine k_seq ?_
  refine k_region ?_
  refine m_bool rfl rfl ?_
  refine m_int rfl rfl ?_
  refine o_nil ?_
  refine k_seq ?_
  refine k_region ?_
  refine m_int rfl rfl ?_
  refine o_call rfl rfl (low_ok w _) (fun v w1 hv => ?_)
  obtain ⟨rfl, rfl⟩ := hv
  refine m_int rfl rfl ?_
  refine o_call rfl rfl (low_ok w1 _) (fun v w2 hv => ?_)
  obtain ⟨rfl, rfl⟩ := hv
  refine m_int rfl rfl ?_
  refine m_int rfl rfl ?_
  refine o_nil ?_
  refine k_seq ?_
  refine k_seq ?_
  refine k_region ?_
  refine m_int rfl rfl ?_
  refine b_geq rfl rfl ?_
  refine m_bool rfl rfl ?_
  refine o_split (t := 14) rfl (fun h => ?_) (fun h => ?_)
  ·
    refine g_yes rfl rfl ?_
    refine m_int rfl rfl ?_
    refine g_yes rfl rfl ?_
    refine b_leq rfl rfl ?_
    refine pick_t rfl rfl ?_
    refine o_nil ?_
    refine k_cond rfl (fun h => ?_) (fun h => ?_)
    ·
      refine k_region ?_
      refine m_int rfl rfl ?_
      refine n_add rfl rfl (by omega) ?_
      refine m_int rfl rfl ?_
      refine m_int rfl rfl ?_
      refine o_nil ?_
      refine k_seq ?_
      refine k_seq ?_
      refine k_region ?_
      refine m_int rfl rfl ?_
      refine o_nil ?_
      refine k_block ?_
      refine k_seq ?_
      refine k_region ?_
      refine b_eql rfl rfl ?_
      refine m_bool rfl rfl ?_
      refine o_nil ?_
      refine k_cond rfl (fun h => ?_) (fun h => ?_)
      ·
        refine k_seq ?_
        refine k_region ?_
        refine m_int rfl rfl ?_
        refine m_int rfl rfl ?_
        refine b_eql rfl rfl ?_
        refine m_bool rfl rfl ?_
        refine m_int rfl rfl ?_
        refine o_nil ?_
        refine k_ret (ret_tmps (ts := [6, 7]) (v := .tuple #[.bool _, .int _ _]) rfl rfl ?_)
        refine ⟨?_, rfl⟩
        unfold holdsW
        split
        all_goals first | (exfalso; omega) | skip
        all_goals
         unfold hold2
         (repeat' split) <;> first | rfl | (exfalso; omega)
      refine k_seq ?_
      refine k_region ?_
      refine b_eql rfl rfl ?_
      refine m_bool rfl rfl ?_
      refine o_nil ?_
      refine k_cond rfl (fun h => ?_) (fun h => ?_)
      ·
        refine k_seq ?_
        refine k_region ?_
        refine m_int rfl rfl ?_
        refine m_int rfl rfl ?_
        refine b_neq rfl rfl ?_
        refine m_bool rfl rfl ?_
        refine m_int rfl rfl ?_
        refine o_nil ?_
        refine k_ret (ret_tmps (ts := [6, 7]) (v := .tuple #[.bool _, .int _ _]) rfl rfl ?_)
        refine ⟨?_, rfl⟩
        unfold holdsW
        split
        all_goals first | (exfalso; omega) | skip
        all_goals
         unfold hold2
         (repeat' split) <;> first | rfl | (exfalso; omega)
      refine k_seq ?_
      refine k_region ?_
      refine b_eql rfl rfl ?_
      refine m_bool rfl rfl ?_
      refine o_nil ?_
      refine k_cond rfl (fun h => ?_) (fun h => ?_)
      ·
        refine k_seq ?_
        refine k_region ?_
        refine m_int rfl rfl ?_
        refine m_int rfl rfl ?_
        refine b_lss rfl rfl ?_
        refine m_bool rfl rfl ?_
        refine m_int rfl rfl ?_
        refine o_nil ?_
        refine k_ret (ret_tmps (ts := [6, 7]) (v := .tuple #[.bool _, .int _ _]) rfl rfl ?_)
        refine ⟨?_, rfl⟩
        unfold holdsW
        split
        all_goals first | (exfalso; omega) | skip
        all_goals
         unfold hold2
         (repeat' split) <;> first | rfl | (exfalso; omega)
      refine k_seq ?_
      refine k_region ?_
      refine b_eql rfl rfl ?_
      refine m_bool rfl rfl ?_
      refine o_nil ?_
      refine k_cond rfl (fun h => ?_) (fun h => ?_)
      ·
        refine k_seq ?_
        refine k_region ?_
        refine m_int rfl rfl ?_
        refine m_int rfl rfl ?_
        refine b_geq rfl rfl ?_
        refine m_bool rfl rfl ?_
        refine m_int rfl rfl ?_
        refine o_nil ?_
        refine k_ret (ret_tmps (ts := [6, 7]) (v := .tuple #[.bool _, .int _ _]) rfl rfl ?_)
        refine ⟨?_, rfl⟩
        unfold holdsW
        split
        all_goals first | (exfalso; omega) | skip
        all_goals
         unfold hold2
         (repeat' split) <;> first | rfl | (exfalso; omega)
      refine k_seq ?_
      refine k_region ?_
      refine b_eql rfl rfl ?_
      refine m_bool rfl rfl ?_
      refine o_nil ?_
      refine k_cond rfl (fun h => ?_) (fun h => ?_)
      ·
        refine k_seq ?_
        refine k_region ?_
        refine m_int rfl rfl ?_
        refine m_int rfl rfl ?_
        refine b_gtr rfl rfl ?_
        refine m_bool rfl rfl ?_
        refine m_int rfl rfl ?_
        refine o_nil ?_
        refine k_ret (ret_tmps (ts := [6, 7]) (v := .tuple #[.bool _, .int _ _]) rfl rfl ?_)
        refine ⟨?_, rfl⟩
        unfold holdsW
        split
        all_goals first | (exfalso; omega) | skip
        all_goals
         unfold hold2
         (repeat' split) <;> first | rfl | (exfalso; omega)
      refine k_seq ?_
      refine k_region ?_
      refine b_eql rfl rfl ?_
      refine m_bool rfl rfl ?_
      refine o_nil ?_
      refine k_cond rfl (fun h => ?_) (fun h => ?_)
      ·
        refine k_seq ?_
        refine k_region ?_
        refine m_int rfl rfl ?_
        refine m_int rfl rfl ?_
        refine b_leq rfl rfl ?_
        refine m_bool rfl rfl ?_
        refine m_int rfl rfl ?_
        refine o_nil ?_
        refine k_ret (ret_tmps (ts := [6, 7]) (v := .tuple #[.bool _, .int _ _]) rfl rfl ?_)
        refine ⟨?_, rfl⟩
        unfold holdsW
        split
        all_goals first | (exfalso; omega) | skip
        all_goals
         unfold hold2
         (repeat' split) <;> first | rfl | (exfalso; omega)
      refine k_skip ?_
      refine k_blk ?_
      refine k_seq ?_
      refine k_region ?_
      refine m_bool rfl rfl ?_
      refine m_int rfl rfl ?_
      refine o_nil ?_
      refine k_ret (ret_tmps (ts := [6, 7]) (v := .tuple #[.bool _, .int _ _]) rfl rfl ?_)
      refine ⟨?_, rfl⟩
      unfold holdsW
      split
      all_goals first | (exfalso; omega) | skip
      all_goals
       unfold hold2
       (repeat' split) <;> first | rfl | (exfalso; omega)
    refine k_skip ?_
    refine k_seq ?_
    refine k_seq ?_
    refine k_region ?_
    refine m_int rfl rfl ?_
    refine o_nil ?_
    refine k_block ?_
    refine k_seq ?_
    refine k_region ?_
    refine b_eql rfl rfl ?_
    refine m_bool rfl rfl ?_
    refine o_nil ?_
    refine k_cond rfl (fun h => ?_) (fun h => ?_)
    ·
      refine k_seq ?_
      refine k_region ?_
      refine m_int rfl rfl ?_
      refine m_int rfl rfl ?_
      refine b_eql rfl rfl ?_
      refine m_bool rfl rfl ?_
      refine m_int rfl rfl ?_
      refine o_nil ?_
      refine k_ret (ret_tmps (ts := [6, 7]) (v := .tuple #[.bool _, .int _ _]) rfl rfl ?_)
      refine ⟨?_, rfl⟩
      unfold holdsW
      split
      all_goals first | (exfalso; omega) | skip
      all_goals
       unfold hold2
       (repeat' split) <;> first | rfl | (exfalso; omega)
    refine k_seq ?_
    refine k_region ?_
    refine b_eql rfl rfl ?_
    refine m_bool rfl rfl ?_
    refine o_nil ?_
    refine k_cond rfl (fun h => ?_) (fun h => ?_)
    ·
      refine k_seq ?_
      refine k_region ?_
      refine m_int rfl rfl ?_
      refine m_int rfl rfl ?_
      refine b_neq rfl rfl ?_
      refine m_bool rfl rfl ?_
      refine m_int rfl rfl ?_
      refine o_nil ?_
      refine k_ret (ret_tmps (ts := [6, 7]) (v := .tuple #[.bool _, .int _ _]) rfl rfl ?_)
      refine ⟨?_, rfl⟩
      unfold holdsW
      split
      all_goals first | (exfalso; omega) | skip
      all_goals
       unfold hold2
       (repeat' split) <;> first | rfl | (exfalso; omega)
    refine k_seq ?_
    refine k_region ?_
    refine b_eql rfl rfl ?_
    refine m_bool rfl rfl ?_
    refine o_nil ?_
    refine k_cond rfl (fun h => ?_) (fun h => ?_)
    ·
      refine k_seq ?_
      refine k_region ?_
      refine m_int rfl rfl ?_
      refine m_int rfl rfl ?_
      refine b_lss rfl rfl ?_
      refine m_bool rfl rfl ?_
      refine m_int rfl rfl ?_
      refine o_nil ?_
      refine k_ret (ret_tmps (ts := [6, 7]) (v := .tuple #[.bool _, .int _ _]) rfl rfl ?_)
      refine ⟨?_, rfl⟩
      unfold holdsW
      split
      all_goals first | (exfalso; omega) | skip
      all_goals
       unfold hold2
       (repeat' split) <;> first | rfl | (exfalso; omega)
    refine k_seq ?_
    refine k_region ?_
    refine b_eql rfl rfl ?_
    refine m_bool rfl rfl ?_
    refine o_nil ?_
    refine k_cond rfl (fun h => ?_) (fun h => ?_)
    ·
      refine k_seq ?_
      refine k_region ?_
      refine m_int rfl rfl ?_
      refine m_int rfl rfl ?_
      refine b_geq rfl rfl ?_
      refine m_bool rfl rfl ?_
      refine m_int rfl rfl ?_
      refine o_nil ?_
      refine k_ret (ret_tmps (ts := [6, 7]) (v := .tuple #[.bool _, .int _ _]) rfl rfl ?_)
      refine ⟨?_, rfl⟩
      unfold holdsW
      split
      all_goals first | (exfalso; omega) | skip
      all_goals
       unfold hold2
       (repeat' split) <;> first | rfl | (exfalso; omega)
    refine k_seq ?_
    refine k_region ?_
    refine b_eql rfl rfl ?_
    refine m_bool rfl rfl ?_
    refine o_nil ?_
    refine k_cond rfl (fun h => ?_) (fun h => ?_)
    ·
      refine k_seq ?_
      refine k_region ?_
      refine m_int rfl rfl ?_
      refine m_int rfl rfl ?_
      refine b_gtr rfl rfl ?_
      refine m_bool rfl rfl ?_
      refine m_int rfl rfl ?_
      refine o_nil ?_
      refine k_ret (ret_tmps (ts := [6, 7]) (v := .tuple #[.bool _, .int _ _]) rfl rfl ?_)
      refine ⟨?_, rfl⟩
      unfold holdsW
      split
      all_goals first | (exfalso; omega) | skip
      all_goals
       unfold hold2
       (repeat' split) <;> first | rfl | (exfalso; omega)
    refine k_seq ?_
    refine k_region ?_
    refine b_eql rfl rfl ?_
    refine m_bool rfl rfl ?_
    refine o_nil ?_
    refine k_cond rfl (fun h => ?_) (fun h => ?_)
    ·
      refine k_seq ?_
      refine k_region ?_
      refine m_int rfl rfl ?_
      refine m_int rfl rfl ?_
      refine b_leq rfl rfl ?_
      refine m_bool rfl rfl ?_
      refine m_int rfl rfl ?_
      refine o_nil ?_
      refine k_ret (ret_tmps (ts := [6, 7]) (v := .tuple #[.bool _, .int _ _]) rfl rfl ?_)
      refine ⟨?_, rfl⟩
      unfold holdsW
      split
      all_goals first | (exfalso; omega) | skip
      all_goals
       unfold hold2
       (repeat' split) <;> first | rfl | (exfalso; omega)
    refine k_skip ?_
    refine k_blk ?_
    refine k_seq ?_
    refine k_region ?_
    refine m_bool rfl rfl ?_
    refine m_int rfl rfl ?_
    refine o_nil ?_
    refine k_ret (ret_tmps (ts := [6, 7]) (v := .tuple #[.bool _, .int _ _]) rfl rfl ?_)
    refine ⟨?_, rfl⟩
    unfold holdsW
    split
    all_goals first | (exfalso; omega) | skip
    all_goals
     unfold hold2
     (repeat' split) <;> first | rfl | (exfalso; omega)
  ·
    refine g_no rfl rfl rfl ?_
    refine g_no rfl rfl rfl ?_
    refine pick_f rfl rfl ?_
    refine o_nil ?_
    refine k_condf rfl ?_
    refine k_skip ?_
    refine k_seq ?_
    refine k_seq ?_
    refine k_region ?_
    refine m_int rfl rfl ?_
    refine o_nil ?_
    refine k_block ?_
    refine k_seq ?_
    refine k_region ?_
    refine b_eql rfl rfl ?_
    refine m_bool rfl rfl ?_
    refine o_nil ?_
    refine k_cond rfl (fun h => ?_) (fun h => ?_)
    ·
      refine k_seq ?_
      refine k_region ?_
      refine m_int rfl rfl ?_
      refine m_int rfl rfl ?_
      refine b_eql rfl rfl ?_
      refine m_bool rfl rfl ?_
      refine m_int rfl rfl ?_
      refine o_nil ?_
      refine k_ret (ret_tmps (ts := [6, 7]) (v := .tuple #[.bool _, .int _ _]) rfl rfl ?_)
      refine ⟨?_, rfl⟩
      unfold holdsW
      split
      all_goals first | (exfalso; omega) | skip
      all_goals
       unfold hold2
       (repeat' split) <;> first | rfl | (exfalso; omega)
    refine k_seq ?_
    refine k_region ?_
    refine b_eql rfl rfl ?_
    refine m_bool rfl rfl ?_
    refine o_nil ?_
    refine k_cond rfl (fun h => ?_) (fun h => ?_)
    ·
      refine k_seq ?_
      refine k_region ?_
      refine m_int rfl rfl ?_
      refine m_int rfl rfl ?_
      refine b_neq rfl rfl ?_
      refine m_bool rfl rfl ?_
      refine m_int rfl rfl ?_
      refine o_nil ?_
      refine k_ret (ret_tmps (ts := [6, 7]) (v := .tuple #[.bool _, .int _ _]) rfl rfl ?_)
      refine ⟨?_, rfl⟩
      unfold holdsW
      split
      all_goals first | (exfalso; omega) | skip
      all_goals
       unfold hold2
       (repeat' split) <;> first | rfl | (exfalso; omega)
    refine k_seq ?_
    refine k_region ?_
    refine b_eql rfl rfl ?_
    refine m_bool rfl rfl ?_
    refine o_nil ?_
    refine k_cond rfl (fun h => ?_) (fun h => ?_)
    ·
      refine k_seq ?_
      refine k_region ?_
      refine m_int rfl rfl ?_
      refine m_int rfl rfl ?_
      refine b_lss rfl rfl ?_
      refine m_bool rfl rfl ?_
      refine m_int rfl rfl ?_
      refine o_nil ?_
      refine k_ret (ret_tmps (ts := [6, 7]) (v := .tuple #[.bool _, .int _ _]) rfl rfl ?_)
      refine ⟨?_, rfl⟩
      unfold holdsW
      split
      all_goals first | (exfalso; omega) | skip
      all_goals
       unfold hold2
       (repeat' split) <;> first | rfl | (exfalso; omega)
    refine k_seq ?_
    refine k_region ?_
    refine b_eql rfl rfl ?_
    refine m_bool rfl rfl ?_
    refine o_nil ?_
    refine k_cond rfl (fun h => ?_) (fun h => ?_)
    ·
      refine k_seq ?_
      refine k_region ?_
      refine m_int rfl rfl ?_
      refine m_int rfl rfl ?_
      refine b_geq rfl rfl ?_
      refine m_bool rfl rfl ?_
      refine m_int rfl rfl ?_
      refine o_nil ?_
      refine k_ret (ret_tmps (ts := [6, 7]) (v := .tuple #[.bool _, .int _ _]) rfl rfl ?_)
      refine ⟨?_, rfl⟩
      unfold holdsW
      split
      all_goals first | (exfalso; omega) | skip
      all_goals
       unfold hold2
       (repeat' split) <;> first | rfl | (exfalso; omega)
    refine k_seq ?_
    refine k_region ?_
    refine b_eql rfl rfl ?_
    refine m_bool rfl rfl ?_
    refine o_nil ?_
    refine k_cond rfl (fun h => ?_) (fun h => ?_)
    ·
      refine k_seq ?_
      refine k_region ?_
      refine m_int rfl rfl ?_
      refine m_int rfl rfl ?_
      refine b_gtr rfl rfl ?_
      refine m_bool rfl rfl ?_
      refine m_int rfl rfl ?_
      refine o_nil ?_
      refine k_ret (ret_tmps (ts := [6, 7]) (v := .tuple #[.bool _, .int _ _]) rfl rfl ?_)
      refine ⟨?_, rfl⟩
      unfold holdsW
      split
      all_goals first | (exfalso; omega) | skip
      all_goals
       unfold hold2
       (repeat' split) <;> first | rfl | (exfalso; omega)
    refine k_seq ?_
    refine k_region ?_
    refine b_eql rfl rfl ?_
    refine m_bool rfl rfl ?_
    refine o_nil ?_
    refine k_cond rfl (fun h => ?_) (fun h => ?_)
    ·
      refine k_seq ?_
      refine k_region ?_
      refine m_int rfl rfl ?_
      refine m_int rfl rfl ?_
      refine b_leq rfl rfl ?_
      refine m_bool rfl rfl ?_
      refine m_int rfl rfl ?_
      refine o_nil ?_
      refine k_ret (ret_tmps (ts := [6, 7]) (v := .tuple #[.bool _, .int _ _]) rfl rfl ?_)
      refine ⟨?_, rfl⟩
      unfold holdsW
      split
      all_goals first | (exfalso; omega) | skip
      all_goals
       unfold hold2
       (repeat' split) <;> first | rfl | (exfalso; omega)
    refine k_skip ?_
    refine k_blk ?_
    refine k_seq ?_
    refine k_region ?_
    refine m_bool rfl rfl ?_
    refine m_int rfl rfl ?_
    refine o_nil ?_
    refine k_ret (ret_tmps (ts := [6, 7]) (v := .tuple #[.bool _, .int _ _]) rfl rfl ?_)
    refine ⟨?_, rfl⟩
    unfold holdsW
    split
    all_goals first | (exfalso; omega) | skip
    all_goals
     unfold hold2
     (repeat' split) <;> first | rfl | (exfalso; omega)

theorem posmod (x s : Int) (hs : 0 < s) : (x.tmod s + s).tmod s = x % s := by
  have h1 := Int.tmod_lt_of_pos x hs
  have h2 : -s < x.tmod s := by
    have := Int.tmod_lt_of_pos (-x) hs
    rw [Int.neg_tmod] at this
    omega
  rw [Int.tmod_eq_emod_of_nonneg (by omega), Int.add_emod_right, Int.emod_eq_emod_iff_emod_sub_eq_zero, tm_eq]
  split
  · have h3 := Int.mul_ediv_add_emod x s
    rw [show x % s - x = s * (-(x / s)) by rw [Int.mul_neg]; omega, Int.mul_emod_right]
  · have h3 := Int.mul_ediv_add_emod (-x) s
    rw [show -(-x % s) - x = s * (-x / s) by omega, Int.mul_emod_right]
theorem wtoNat64 (a : BitVec 64) : IntKind.i64.wrap (a.toNat : Int) = a.toInt := by
  rw [IntKind.wrap_i64, BitVec.toInt_eq_toNat_cond]
  have := a.isLt
  split <;> omega

theorem rcut_ok (w : World) (d : BitVec 8) (n : Int) : Ret Try.prog 16 [.int .u8 (d.toNat : Int), .int .i64 n] w (fun v w' => v = .int .i64 (cutW d n) ∧ w' = w) := by
  have hr := W.L_range n
  have p8 := posmod (W.L n) 256 (by omega)
  have p16 := posmod (W.L n) 65536 (by omega)
  have p2 := posmod (W.L n) 2 (by omega)
  have r8 := tdiv_range (W.L n) 256 _ _ hr (by omega) (by omega)
  have r16 := tdiv_range (W.L n) 65536 _ _ hr (by omega) (by omega)
  have r2 := tdiv_range (W.L n) 2 _ _ hr (by omega) (by omega)
  have hL : W.L n = (n + 2147483648) % 4294967296 - 2147483648 := by unfold W.L; exact IntKind.wrap_i32 n
  have f8 : IntKind.i8.wrap n = (n + 128) % 256 - 128 := by
    simp only [IntKind.wrap, IntKind.bits, IntKind.signed]; simp; split <;> omega
  have f16 : IntKind.i16.wrap n = (n + 32768) % 65536 - 32768 := by
    simp only [IntKind.wrap, IntKind.bits, IntKind.signed]; simp; split <;> omega
  have fu : ((BitVec.ofInt 16 n).toNat : Int) = n % 65536 := by rw [BitVec.toNat_ofInt]; omega
  have fz : IntKind.i64.wrap (BitVec.ofInt IntKind.i64.bits n &&& BitVec.ofInt IntKind.i64.bits 1).toNat = n % 2 := by
    have h1 := bit_val (BitVec.ofInt 64 n) 0
    have h2 := bit0 n
    unfold bitI at h2
    rw [h2, BitVec.ushiftRight_zero] at h1
    rw [show (1#64 : BitVec 64) = BitVec.ofInt 64 1 by decide] at h1
    rw [← h1]
    exact wtoNat64 _
  have q8 : IntKind.i64.wrap (Int.tdiv 256 2) = 128 := by decide
  have q16 : IntKind.i64.wrap (Int.tdiv 65536 2) = 32768 := by decide
  refine fn_enter (n := 42) Try.func16 rfl rfl (Nat.le_of_ble_eq_true rfl) (fun e => ?_)
  refine k_seq ?_
  refine k_region ?_
  refine m_int rfl rfl ?_
  refine o_nil ?_
  refine k_seq ?_
  refine k_region ?_
  refine m_int rfl rfl ?_
  refine o_call rfl rfl (low_ok w _) (fun v w1 hv => ?_)
  obtain ⟨rfl, rfl⟩ := hv
  refine m_int rfl rfl ?_
  refine m_int rfl rfl ?_
  refine m_bool rfl rfl ?_
  refine o_nil ?_
  refine k_seq ?_
  refine k_seq ?_
  refine k_region ?_
  refine m_int rfl rfl ?_
  refine o_nil ?_
  refine k_block ?_
  refine k_seq ?_
  refine k_region ?_
  refine v8_eql (b := 66#8) rfl rfl ?_
  refine m_bool rfl rfl ?_
  refine o_nil ?_
  refine k_cond rfl (fun h => ?_) (fun h => ?_)
  ·
    refine k_region ?_
    refine m_int rfl rfl ?_
    refine o_nil ?_
    refine k_blk ?_
    refine k_seq ?_
    refine k_region ?_
    refine m_int rfl rfl ?_
    refine m_int rfl rfl ?_
    refine b_rem rfl rfl (by omega) ?_
    refine m_int rfl rfl ?_
    refine n_add rfl rfl (by omega) ?_
    refine m_int rfl rfl ?_
    refine b_rem rfl rfl (by omega) ?_
    first | rw [p8] | rw [p16] | rw [p2]
    refine m_int rfl rfl ?_
    refine o_nil ?_
    refine k_seq ?_
    refine k_seq ?_
    refine k_region ?_
    refine m_bool rfl rfl ?_
    refine m_bool rfl rfl ?_
    refine g_yes rfl rfl ?_
    refine m_int rfl rfl ?_
    refine g_yes rfl rfl ?_
    refine m_int rfl rfl ?_
    refine g_yes rfl rfl ?_
    refine b_quo rfl rfl (by omega) ?_
    refine g_yes rfl rfl ?_
    refine b_geq rfl rfl ?_
    refine pick_t rfl rfl ?_
    refine o_nil ?_
    refine k_cond rfl (fun h => ?_) (fun h => ?_)
    ·
      refine k_region ?_
      refine m_int rfl rfl ?_
      refine m_int rfl rfl ?_
      refine n_sub rfl rfl (by omega) ?_
      refine m_int rfl rfl ?_
      refine o_nil ?_
      refine k_seq ?_
      refine k_region ?_
      refine m_int rfl rfl ?_
      refine m_int rfl rfl ?_
      refine o_nil ?_
      refine k_ret (ret_tmps (ts := [4]) (v := .int _ _) rfl rfl ?_)
      refine ⟨congrArg (Value.int .i64) ?_, rfl⟩
      unfold cutW
      (repeat' split) <;> first | contradiction | (subst_vars; contradiction) | omega | rfl
    refine k_skip ?_
    refine k_seq ?_
    refine k_region ?_
    refine m_int rfl rfl ?_
    refine m_int rfl rfl ?_
    refine o_nil ?_
    refine k_ret (ret_tmps (ts := [4]) (v := .int _ _) rfl rfl ?_)
    refine ⟨congrArg (Value.int .i64) ?_, rfl⟩
    unfold cutW
    (repeat' split) <;> first | contradiction | (subst_vars; contradiction) | omega | rfl
  refine k_seq ?_
  refine k_region ?_
  refine v8_eql (b := 67#8) rfl rfl ?_
  refine m_bool rfl rfl ?_
  refine o_nil ?_
  refine k_cond rfl (fun h => ?_) (fun h => ?_)
  ·
    refine k_region ?_
    refine m_int rfl rfl ?_
    refine m_bool rfl rfl ?_
    refine o_nil ?_
    refine k_blk ?_
    refine k_seq ?_
    refine k_region ?_
    refine m_int rfl rfl ?_
    refine m_int rfl rfl ?_
    refine b_rem rfl rfl (by omega) ?_
    refine m_int rfl rfl ?_
    refine n_add rfl rfl (by omega) ?_
    refine m_int rfl rfl ?_
    refine b_rem rfl rfl (by omega) ?_
    first | rw [p8] | rw [p16] | rw [p2]
    refine m_int rfl rfl ?_
    refine o_nil ?_
    refine k_seq ?_
    refine k_seq ?_
    refine k_region ?_
    refine m_bool rfl rfl ?_
    refine m_bool rfl rfl ?_
    refine g_no rfl rfl rfl ?_
    refine g_no rfl rfl rfl ?_
    refine g_no rfl rfl rfl ?_
    refine g_no rfl rfl rfl ?_
    refine pick_f rfl rfl ?_
    refine o_nil ?_
    refine k_condf rfl ?_
    refine k_skip ?_
    refine k_seq ?_
    refine k_region ?_
    refine m_int rfl rfl ?_
    refine m_int rfl rfl ?_
    refine o_nil ?_
    refine k_ret (ret_tmps (ts := [4]) (v := .int _ _) rfl rfl ?_)
    refine ⟨congrArg (Value.int .i64) ?_, rfl⟩
    unfold cutW
    (repeat' split) <;> first | contradiction | (subst_vars; contradiction) | omega | rfl
  refine k_seq ?_
  refine k_region ?_
  refine v8_eql (b := 83#8) rfl rfl ?_
  refine m_bool rfl rfl ?_
  refine o_nil ?_
  refine k_cond rfl (fun h => ?_) (fun h => ?_)
  ·
    refine k_region ?_
    refine m_int rfl rfl ?_
    refine o_nil ?_
    refine k_blk ?_
    refine k_seq ?_
    refine k_region ?_
    refine m_int rfl rfl ?_
    refine m_int rfl rfl ?_
    refine b_rem rfl rfl (by omega) ?_
    refine m_int rfl rfl ?_
    refine n_add rfl rfl (by omega) ?_
    refine m_int rfl rfl ?_
    refine b_rem rfl rfl (by omega) ?_
    first | rw [p8] | rw [p16] | rw [p2]
    refine m_int rfl rfl ?_
    refine o_nil ?_
    refine k_seq ?_
    refine k_seq ?_
    refine k_region ?_
    refine m_bool rfl rfl ?_
    refine m_bool rfl rfl ?_
    refine g_yes rfl rfl ?_
    refine m_int rfl rfl ?_
    refine g_yes rfl rfl ?_
    refine m_int rfl rfl ?_
    refine g_yes rfl rfl ?_
    refine b_quo rfl rfl (by omega) ?_
    refine g_yes rfl rfl ?_
    refine b_geq rfl rfl ?_
    refine pick_t rfl rfl ?_
    refine o_nil ?_
    refine k_cond rfl (fun h => ?_) (fun h => ?_)
    ·
      refine k_region ?_
      refine m_int rfl rfl ?_
      refine m_int rfl rfl ?_
      refine n_sub rfl rfl (by omega) ?_
      refine m_int rfl rfl ?_
      refine o_nil ?_
      refine k_seq ?_
      refine k_region ?_
      refine m_int rfl rfl ?_
      refine m_int rfl rfl ?_
      refine o_nil ?_
      refine k_ret (ret_tmps (ts := [4]) (v := .int _ _) rfl rfl ?_)
      refine ⟨congrArg (Value.int .i64) ?_, rfl⟩
      unfold cutW
      (repeat' split) <;> first | contradiction | (subst_vars; contradiction) | omega | rfl
    refine k_skip ?_
    refine k_seq ?_
    refine k_region ?_
    refine m_int rfl rfl ?_
    refine m_int rfl rfl ?_
    refine o_nil ?_
    refine k_ret (ret_tmps (ts := [4]) (v := .int _ _) rfl rfl ?_)
    refine ⟨congrArg (Value.int .i64) ?_, rfl⟩
    unfold cutW
    (repeat' split) <;> first | contradiction | (subst_vars; contradiction) | omega | rfl
  refine k_seq ?_
  refine k_region ?_
  refine v8_eql (b := 90#8) rfl rfl ?_
  refine m_bool rfl rfl ?_
  refine o_nil ?_
  refine k_cond rfl (fun h => ?_) (fun h => ?_)
  rotate_left
  ·
    refine k_seq ?_
    refine k_region ?_
    refine v8_eql (b := 73#8) rfl rfl ?_
    refine m_bool rfl rfl ?_
    refine o_nil ?_
    refine k_cond rfl (fun h => ?_) (fun h => ?_)
    ·
      refine k_seq ?_
      refine k_region ?_
      refine m_int rfl rfl ?_
      refine m_int rfl rfl ?_
      refine o_nil ?_
      refine k_ret (ret_tmps (ts := [4]) (v := .int _ _) rfl rfl ?_)
      refine ⟨congrArg (Value.int .i64) ?_, rfl⟩
      unfold cutW
      (repeat' split) <;> first | contradiction | (subst_vars; contradiction) | omega | rfl
    refine k_seq ?_
    refine k_region ?_
    refine m_int rfl rfl ?_
    refine m_int rfl rfl ?_
    refine o_nil ?_
    refine k_ret (ret_tmps (ts := [4]) (v := .int _ _) rfl rfl ?_)
    refine ⟨congrArg (Value.int .i64) ?_, rfl⟩
    unfold cutW
    (repeat' split) <;> first | contradiction | (subst_vars; contradiction) | omega | rfl
  refine k_region ?_
  refine m_int rfl rfl ?_
  refine m_bool rfl rfl ?_
  refine o_nil ?_
  refine k_blk ?_
  refine k_seq ?_
  refine k_region ?_
  refine m_int rfl rfl ?_
  refine m_int rfl rfl ?_
  refine b_rem rfl rfl (by omega) ?_
  refine m_int rfl rfl ?_
  refine n_add rfl rfl (by omega) ?_
  refine m_int rfl rfl ?_
  refine b_rem rfl rfl (by omega) ?_
  first | rw [p8] | rw [p16] | rw [p2]
  refine m_int rfl rfl ?_
  refine o_nil ?_
  refine k_seq ?_
  refine k_seq ?_
  refine k_region ?_
  refine m_bool rfl rfl ?_
  refine m_bool rfl rfl ?_
  refine g_no rfl rfl rfl ?_
  refine g_no rfl rfl rfl ?_
  refine g_no rfl rfl rfl ?_
  refine g_no rfl rfl rfl ?_
  refine pick_f rfl rfl ?_
  refine o_nil ?_
  refine k_condf rfl ?_
  refine k_skip ?_
  refine k_seq ?_
  refine k_region ?_
  refine m_int rfl rfl ?_
  refine m_int rfl rfl ?_
  refine o_nil ?_
  refine k_ret (ret_tmps (ts := [4]) (v := .int _ _) rfl rfl ?_)
  refine ⟨congrArg (Value.int .i64) ?_, rfl⟩
  unfold cutW
  (repeat' split) <;> first | contradiction | (subst_vars; contradiction) | omega | rfl

def rck (long : Bool) (op a b : Int) : Int := if long then (W.wLong op a b).1 else (W.wInt op a b).1
theorem reckonT_ok (w : World) (op a b : Int) : Ret Try.prog 22 [.int .i64 op, .int .i64 a, .int .i64 b, .bool true] w (fun v w' => v = .int .i64 (W.wLong op a b).1 ∧ w' = w) := by
  refine fn_enter (n := 30) Try.func22 rfl rfl (Nat.le_of_ble_eq_true rfl) (fun e => ?_)
  refine k_seq ?_
  refine k_region ?_
  refine m_int rfl rfl ?_
  refine o_nil ?_
  refine k_seq ?_
  refine k_seq ?_
  refine k_region ?_
  refine m_bool rfl rfl ?_
  refine o_nil ?_
  refine k_condt rfl ?_
  refine k_seq ?_
  refine k_region ?_
  refine m_int rfl rfl ?_
  refine m_int rfl rfl ?_
  refine m_int rfl rfl ?_
  refine o_call rfl rfl (long_ok w _ _ _) (fun v w1 hv => ?_)
  obtain ⟨rfl, rfl⟩ := hv
  refine m_any rfl rfl ?_
  refine o_extr rfl rfl ?_
  refine o_extr rfl rfl ?_
  refine m_int rfl rfl ?_
  refine m_int rfl rfl ?_
  refine o_nil ?_
  refine k_seq ?_
  refine k_region ?_
  refine m_int rfl rfl ?_
  refine m_int rfl rfl ?_
  refine o_nil ?_
  refine k_ret (ret_tmps (ts := [8]) (v := .int _ _) rfl rfl ?_)
  exact ⟨rfl, rfl⟩
theorem reckonF_ok (w : World) (op a b : Int) : Ret Try.prog 22 [.int .i64 op, .int .i64 a, .int .i64 b, .bool false] w (fun v w' => v = .int .i64 (W.wInt op a b).1 ∧ w' = w) := by
  refine fn_enter (n := 30) Try.func22 rfl rfl (Nat.le_of_ble_eq_true rfl) (fun e => ?_)
  refine k_seq ?_
  refine k_region ?_
  refine m_int rfl rfl ?_
  refine o_nil ?_
  refine k_seq ?_
  refine k_seq ?_
  refine k_region ?_
  refine m_bool rfl rfl ?_
  refine o_nil ?_
  refine k_condf rfl ?_
  refine k_skip ?_
  refine k_seq ?_
  refine k_region ?_
  refine m_int rfl rfl ?_
  refine m_int rfl rfl ?_
  refine m_int rfl rfl ?_
  refine o_call rfl rfl (int_ok w _ _ _) (fun v w1 hv => ?_)
  obtain ⟨rfl, rfl⟩ := hv
  refine m_any rfl rfl ?_
  refine o_extr rfl rfl ?_
  refine o_extr rfl rfl ?_
  refine m_int rfl rfl ?_
  refine m_int rfl rfl ?_
  refine o_nil ?_
  refine k_seq ?_
  refine k_region ?_
  refine m_int rfl rfl ?_
  refine m_int rfl rfl ?_
  refine o_nil ?_
  refine k_ret (ret_tmps (ts := [8]) (v := .int _ _) rfl rfl ?_)
  exact ⟨rfl, rfl⟩
theorem reckon_ok (w : World) (op a b : Int) (long : Bool) : Ret Try.prog 22 [.int .i64 op, .int .i64 a, .int .i64 b, .bool long] w (fun v w' => v = .int .i64 (rck long op a b) ∧ w' = w) := by
  cases long
  · exact reckonF_ok w op a b
  · exact reckonT_ok w op a b

theorem fixed_ok (w : World) : Ret Try.prog 10 [] w (fun v w' => v = .bool true ∧ w' = w) := by
  refine fn_enter (n := 58) Try.func10 rfl rfl (Nat.le_of_ble_eq_true rfl) (fun e => ?_)
  refine k_seq ?_
  refine k_region ?_
  refine m_bool rfl rfl ?_
  refine o_nil ?_
  refine k_seq ?_
  refine k_region ?_
  refine o_call rfl rfl (int_ok w _ _ _) (fun v w1 hv => ?_)
  obtain ⟨rfl, rfl⟩ := hv
  rw [show W.wInt 96 2147483647 1 = (-2147483648, 0) by decide]
  refine m_any rfl rfl ?_
  refine o_extr rfl rfl ?_
  refine o_extr rfl rfl ?_
  refine m_int rfl rfl ?_
  refine m_int rfl rfl ?_
  refine o_nil ?_
  refine k_seq ?_
  refine k_region ?_
  refine o_call rfl rfl (int_ok w1 _ _ _) (fun v w2 hv => ?_)
  obtain ⟨rfl, rfl⟩ := hv
  rw [show W.wInt 108 1 4294967296 = (0, 35) by decide]
  refine m_any rfl rfl ?_
  refine o_extr rfl rfl ?_
  refine o_extr rfl rfl ?_
  refine m_int rfl rfl ?_
  refine m_int rfl rfl ?_
  refine o_nil ?_
  refine k_seq ?_
  refine k_region ?_
  refine o_call rfl rfl (long_ok w2 _ _ _) (fun v w3 hv => ?_)
  obtain ⟨rfl, rfl⟩ := hv
  rw [show W.wLong 125 (-1) 60 = (15, 0) by decide]
  refine m_any rfl rfl ?_
  refine o_extr rfl rfl ?_
  refine o_extr rfl rfl ?_
  refine m_int rfl rfl ?_
  refine m_int rfl rfl ?_
  refine o_nil ?_
  refine k_seq ?_
  refine k_region ?_
  refine o_call rfl rfl (holds_ok w3 _ _ _) (fun v w4 hv => ?_)
  obtain ⟨rfl, rfl⟩ := hv
  rw [show holdsW 155 4294967295 7 = (true, 0) by decide]
  refine m_any rfl rfl ?_
  refine o_extr rfl rfl ?_
  refine o_extr rfl rfl ?_
  refine m_bool rfl rfl ?_
  refine m_int rfl rfl ?_
  refine o_nil ?_
  refine k_seq ?_
  refine k_region ?_
  refine m_int rfl rfl ?_
  refine b_eql rfl rfl ?_
  refine m_bool rfl rfl ?_
  refine o_true (t := 27) rfl (rfl) ?_
  refine g_yes rfl rfl ?_
  refine m_int rfl rfl ?_
  refine g_yes rfl rfl ?_
  refine b_eql rfl rfl ?_
  refine pick_t rfl rfl ?_
  refine m_bool rfl rfl ?_
  refine o_true (t := 31) rfl (rfl) ?_
  refine g_yes rfl rfl ?_
  refine m_int rfl rfl ?_
  refine g_yes rfl rfl ?_
  refine b_eql rfl rfl ?_
  refine pick_t rfl rfl ?_
  refine m_bool rfl rfl ?_
  refine o_true (t := 35) rfl (rfl) ?_
  refine g_yes rfl rfl ?_
  refine m_int rfl rfl ?_
  refine g_yes rfl rfl ?_
  refine b_eql rfl rfl ?_
  refine pick_t rfl rfl ?_
  refine m_bool rfl rfl ?_
  refine o_true (t := 39) rfl (rfl) ?_
  refine g_yes rfl rfl ?_
  refine m_int rfl rfl ?_
  refine g_yes rfl rfl ?_
  refine b_eql rfl rfl ?_
  refine pick_t rfl rfl ?_
  refine m_bool rfl rfl ?_
  refine o_true (t := 43) rfl (rfl) ?_
  refine g_yes rfl rfl ?_
  refine m_bool rfl rfl ?_
  refine pick_t rfl rfl ?_
  refine m_bool rfl rfl ?_
  refine o_true (t := 46) (p := True) rfl trivial ?_
  refine g_yes rfl rfl ?_
  refine m_int rfl rfl ?_
  refine g_yes rfl rfl ?_
  refine b_eql rfl rfl ?_
  refine pick_t rfl rfl ?_
  refine m_bool rfl rfl ?_
  refine o_true (t := 50) rfl (rfl) ?_
  refine g_yes rfl rfl ?_
  refine o_call rfl rfl (cut_ok w4 66#8 200) (fun v w5 hv => ?_)
  obtain ⟨rfl, rfl⟩ := hv
  rw [show cutW 66#8 200 = -56 by decide]
  refine g_yes rfl rfl ?_
  refine b_eql rfl rfl ?_
  refine pick_t rfl rfl ?_
  refine m_bool rfl rfl ?_
  refine o_true (t := 54) rfl (rfl) ?_
  refine g_yes rfl rfl ?_
  refine o_call rfl rfl (cmp_ok w5 _ _) (fun v w6 hv => ?_)
  obtain ⟨rfl, rfl⟩ := hv
  refine g_yes rfl rfl ?_
  refine b_eql rfl rfl ?_
  refine pick_t rfl rfl ?_
  refine m_bool rfl rfl ?_
  refine o_nil ?_
  refine k_ret (ret_tmps (ts := [0]) (v := .bool _) rfl rfl ?_)
  exact ⟨rfl, rfl⟩
end Go.Proofs.Ytahhgocfgniejaa
