/- The walks of the document's Head and of both Open. No condition beyond what each contract names. -/
import Derived.Test.YtchbidckckmobaaDoorAa
namespace Go.Proofs.YtchbidckckmobaaDoor
open Go.RowKit E
set_option linter.unusedVariables false
set_option linter.unusedSimpArgs false
set_option maxRecDepth 100000
attribute [local irreducible] ow qw kw kq cw opW Ret
theorem ipow32 (i : Nat) (h : i ≤ 32) : (1 : Int) ≤ 2 ^ i ∧ (2 : Int) ^ i ≤ 4294967296 := by
  have h1 := pow32 i h
  have h2 : 0 < 2 ^ i := Nat.pow_pos (by decide)
  have e2 : (2 : Int) ^ i = ((2 ^ i : Nat) : Int) := by simp
  rw [e2]; omega
theorem rhead_ok (w : World) (kind cl n mask : Int) (hm : -9223372036854775808 ≤ mask ∧ mask ≤ 9223372036854775807) :
    Ret Tryd.prog 73 [.int .i64 kind, .int .i64 cl, .int .i64 n, .int .i64 mask] w (fun v w' => v = .tuple #[.int .i64 (headW kind cl n mask).1, .int .i64 (headW kind cl n mask).2] ∧ w' = w) := by
  refine fn_enter (n := 76) Tryd.func73 rfl rfl (Nat.le_of_ble_eq_true rfl) (fun e => ?_)
  refine k_seq ?_
  refine k_region ?_
  refine m_int rfl rfl ?_
  refine m_int rfl rfl ?_
  refine o_nil ?_
  refine k_seq ?_
  refine k_seq ?_
  refine k_region ?_
  refine m_int rfl rfl ?_
  refine b_lss rfl rfl ?_
  refine m_bool rfl rfl ?_
  refine o_split (t := 14) rfl (fun h => ?_) (fun h => ?_)
  ·
    refine g_no rfl rfl rfl ?_
    refine g_no rfl rfl rfl ?_
    refine pick_t rfl rfl ?_
    refine m_bool rfl rfl ?_
    refine g_no rfl rfl rfl ?_
    refine g_no rfl rfl rfl ?_
    refine pick_t rfl rfl ?_
    refine m_bool rfl rfl ?_
    refine g_no rfl rfl rfl ?_
    refine g_no rfl rfl rfl ?_
    refine pick_t rfl rfl ?_
    refine m_bool rfl rfl ?_
    refine g_no rfl rfl rfl ?_
    refine g_no rfl rfl rfl ?_
    refine pick_t rfl rfl ?_
    refine m_bool rfl rfl ?_
    refine g_no rfl rfl rfl ?_
    refine g_no rfl rfl rfl ?_
    refine pick_t rfl rfl ?_
    refine m_bool rfl rfl ?_
    refine g_no rfl rfl rfl ?_
    refine g_no rfl rfl rfl ?_
    refine pick_t rfl rfl ?_
    refine o_nil ?_
    refine k_condt rfl ?_
    refine k_seq ?_
    refine k_region ?_
    refine m_int rfl rfl ?_
    refine m_int rfl rfl ?_
    refine o_nil ?_
    refine k_ret (ret_tmps (ts := [8, 9]) (v := .tuple #[.int _ _, .int _ _]) rfl rfl ?_)
    refine ⟨?_, rfl⟩
    first
     | exact tup2 (head_no (fun H => by unfold hOk at H; omega))
     | exact tup2 (head_no (fun H => by
         have hi : n.toNat = i := by omega
         unfold hOk at H
         rw [hi] at H
         omega))
     | (have H : hOk kind cl n mask := by
         unfold hOk
         first | omega | (rw [hi]; omega)
        rw [head_yes H]
        exact congrArg (fun x => Value.tuple #[.int .i64 x, .int .i64 0]) (by omega))
  ·
    refine g_yes rfl rfl ?_
    refine m_int rfl rfl ?_
    refine g_yes rfl rfl ?_
    refine b_gtr rfl rfl ?_
    refine pick_f rfl rfl ?_
    refine m_bool rfl rfl ?_
    refine o_split (t := 18) rfl (fun h => ?_) (fun h => ?_)
    ·
      refine g_no rfl rfl rfl ?_
      refine g_no rfl rfl rfl ?_
      refine pick_t rfl rfl ?_
      refine m_bool rfl rfl ?_
      refine g_no rfl rfl rfl ?_
      refine g_no rfl rfl rfl ?_
      refine pick_t rfl rfl ?_
      refine m_bool rfl rfl ?_
      refine g_no rfl rfl rfl ?_
      refine g_no rfl rfl rfl ?_
      refine pick_t rfl rfl ?_
      refine m_bool rfl rfl ?_
      refine g_no rfl rfl rfl ?_
      refine g_no rfl rfl rfl ?_
      refine pick_t rfl rfl ?_
      refine m_bool rfl rfl ?_
      refine g_no rfl rfl rfl ?_
      refine g_no rfl rfl rfl ?_
      refine pick_t rfl rfl ?_
      refine o_nil ?_
      refine k_condt rfl ?_
      refine k_seq ?_
      refine k_region ?_
      refine m_int rfl rfl ?_
      refine m_int rfl rfl ?_
      refine o_nil ?_
      refine k_ret (ret_tmps (ts := [8, 9]) (v := .tuple #[.int _ _, .int _ _]) rfl rfl ?_)
      refine ⟨?_, rfl⟩
      first
       | exact tup2 (head_no (fun H => by unfold hOk at H; omega))
       | exact tup2 (head_no (fun H => by
           have hi : n.toNat = i := by omega
           unfold hOk at H
           rw [hi] at H
           omega))
       | (have H : hOk kind cl n mask := by
           unfold hOk
           first | omega | (rw [hi]; omega)
          rw [head_yes H]
          exact congrArg (fun x => Value.tuple #[.int .i64 x, .int .i64 0]) (by omega))
    ·
      refine g_yes rfl rfl ?_
      refine m_int rfl rfl ?_
      refine g_yes rfl rfl ?_
      refine b_lss rfl rfl ?_
      refine pick_f rfl rfl ?_
      refine m_bool rfl rfl ?_
      refine o_split (t := 22) rfl (fun h => ?_) (fun h => ?_)
      ·
        refine g_no rfl rfl rfl ?_
        refine g_no rfl rfl rfl ?_
        refine pick_t rfl rfl ?_
        refine m_bool rfl rfl ?_
        refine g_no rfl rfl rfl ?_
        refine g_no rfl rfl rfl ?_
        refine pick_t rfl rfl ?_
        refine m_bool rfl rfl ?_
        refine g_no rfl rfl rfl ?_
        refine g_no rfl rfl rfl ?_
        refine pick_t rfl rfl ?_
        refine m_bool rfl rfl ?_
        refine g_no rfl rfl rfl ?_
        refine g_no rfl rfl rfl ?_
        refine pick_t rfl rfl ?_
        refine o_nil ?_
        refine k_condt rfl ?_
        refine k_seq ?_
        refine k_region ?_
        refine m_int rfl rfl ?_
        refine m_int rfl rfl ?_
        refine o_nil ?_
        refine k_ret (ret_tmps (ts := [8, 9]) (v := .tuple #[.int _ _, .int _ _]) rfl rfl ?_)
        refine ⟨?_, rfl⟩
        first
         | exact tup2 (head_no (fun H => by unfold hOk at H; omega))
         | exact tup2 (head_no (fun H => by
             have hi : n.toNat = i := by omega
             unfold hOk at H
             rw [hi] at H
             omega))
         | (have H : hOk kind cl n mask := by
             unfold hOk
             first | omega | (rw [hi]; omega)
            rw [head_yes H]
            exact congrArg (fun x => Value.tuple #[.int .i64 x, .int .i64 0]) (by omega))
      ·
        refine g_yes rfl rfl ?_
        refine m_int rfl rfl ?_
        refine g_yes rfl rfl ?_
        refine b_gtr rfl rfl ?_
        refine pick_f rfl rfl ?_
        refine m_bool rfl rfl ?_
        refine o_split (t := 26) rfl (fun h => ?_) (fun h => ?_)
        ·
          refine g_no rfl rfl rfl ?_
          refine g_no rfl rfl rfl ?_
          refine pick_t rfl rfl ?_
          refine m_bool rfl rfl ?_
          refine g_no rfl rfl rfl ?_
          refine g_no rfl rfl rfl ?_
          refine pick_t rfl rfl ?_
          refine m_bool rfl rfl ?_
          refine g_no rfl rfl rfl ?_
          refine g_no rfl rfl rfl ?_
          refine pick_t rfl rfl ?_
          refine o_nil ?_
          refine k_condt rfl ?_
          refine k_seq ?_
          refine k_region ?_
          refine m_int rfl rfl ?_
          refine m_int rfl rfl ?_
          refine o_nil ?_
          refine k_ret (ret_tmps (ts := [8, 9]) (v := .tuple #[.int _ _, .int _ _]) rfl rfl ?_)
          refine ⟨?_, rfl⟩
          first
           | exact tup2 (head_no (fun H => by unfold hOk at H; omega))
           | exact tup2 (head_no (fun H => by
               have hi : n.toNat = i := by omega
               unfold hOk at H
               rw [hi] at H
               omega))
           | (have H : hOk kind cl n mask := by
               unfold hOk
               first | omega | (rw [hi]; omega)
              rw [head_yes H]
              exact congrArg (fun x => Value.tuple #[.int .i64 x, .int .i64 0]) (by omega))
        ·
          refine g_yes rfl rfl ?_
          refine m_int rfl rfl ?_
          refine g_yes rfl rfl ?_
          refine b_lss rfl rfl ?_
          refine pick_f rfl rfl ?_
          refine m_bool rfl rfl ?_
          refine o_split (t := 30) rfl (fun h => ?_) (fun h => ?_)
          ·
            refine g_no rfl rfl rfl ?_
            refine g_no rfl rfl rfl ?_
            refine pick_t rfl rfl ?_
            refine m_bool rfl rfl ?_
            refine g_no rfl rfl rfl ?_
            refine g_no rfl rfl rfl ?_
            refine pick_t rfl rfl ?_
            refine o_nil ?_
            refine k_condt rfl ?_
            refine k_seq ?_
            refine k_region ?_
            refine m_int rfl rfl ?_
            refine m_int rfl rfl ?_
            refine o_nil ?_
            refine k_ret (ret_tmps (ts := [8, 9]) (v := .tuple #[.int _ _, .int _ _]) rfl rfl ?_)
            refine ⟨?_, rfl⟩
            first
             | exact tup2 (head_no (fun H => by unfold hOk at H; omega))
             | exact tup2 (head_no (fun H => by
                 have hi : n.toNat = i := by omega
                 unfold hOk at H
                 rw [hi] at H
                 omega))
             | (have H : hOk kind cl n mask := by
                 unfold hOk
                 first | omega | (rw [hi]; omega)
                rw [head_yes H]
                exact congrArg (fun x => Value.tuple #[.int .i64 x, .int .i64 0]) (by omega))
          ·
            refine g_yes rfl rfl ?_
            refine m_int rfl rfl ?_
            refine g_yes rfl rfl ?_
            refine b_gtr rfl rfl ?_
            refine pick_f rfl rfl ?_
            refine m_bool rfl rfl ?_
            refine o_split (t := 34) rfl (fun h => ?_) (fun h => ?_)
            ·
              refine g_no rfl rfl rfl ?_
              refine g_no rfl rfl rfl ?_
              refine pick_t rfl rfl ?_
              refine o_nil ?_
              refine k_condt rfl ?_
              refine k_seq ?_
              refine k_region ?_
              refine m_int rfl rfl ?_
              refine m_int rfl rfl ?_
              refine o_nil ?_
              refine k_ret (ret_tmps (ts := [8, 9]) (v := .tuple #[.int _ _, .int _ _]) rfl rfl ?_)
              refine ⟨?_, rfl⟩
              first
               | exact tup2 (head_no (fun H => by unfold hOk at H; omega))
               | exact tup2 (head_no (fun H => by
                   have hi : n.toNat = i := by omega
                   unfold hOk at H
                   rw [hi] at H
                   omega))
               | (have H : hOk kind cl n mask := by
                   unfold hOk
                   first | omega | (rw [hi]; omega)
                  rw [head_yes H]
                  exact congrArg (fun x => Value.tuple #[.int .i64 x, .int .i64 0]) (by omega))
            ·
              refine g_yes rfl rfl ?_
              refine m_int rfl rfl ?_
              refine g_yes rfl rfl ?_
              refine b_lss rfl rfl ?_
              refine pick_f rfl rfl ?_
              refine o_nil ?_
              refine k_cond rfl (fun h => ?_) (fun h => ?_)
              ·
                refine k_seq ?_
                refine k_region ?_
                refine m_int rfl rfl ?_
                refine m_int rfl rfl ?_
                refine o_nil ?_
                refine k_ret (ret_tmps (ts := [8, 9]) (v := .tuple #[.int _ _, .int _ _]) rfl rfl ?_)
                refine ⟨?_, rfl⟩
                first
                 | exact tup2 (head_no (fun H => by unfold hOk at H; omega))
                 | exact tup2 (head_no (fun H => by
                     have hi : n.toNat = i := by omega
                     unfold hOk at H
                     rw [hi] at H
                     omega))
                 | (have H : hOk kind cl n mask := by
                     unfold hOk
                     first | omega | (rw [hi]; omega)
                    rw [head_yes H]
                    exact congrArg (fun x => Value.tuple #[.int .i64 x, .int .i64 0]) (by omega))
              refine k_skip ?_
              refine k_seq ?_
              refine k_seq ?_
              refine k_region ?_
              refine m_int rfl rfl ?_
              refine b_neq rfl rfl ?_
              refine o_nil ?_
              refine k_cond rfl (fun h => ?_) (fun h => ?_)
              ·
                refine k_seq ?_
                refine k_seq ?_
                refine k_region ?_
                refine m_int rfl rfl ?_
                refine b_neq rfl rfl ?_
                refine o_nil ?_
                refine k_cond rfl (fun h => ?_) (fun h => ?_)
                ·
                  refine k_seq ?_
                  refine k_region ?_
                  refine m_int rfl rfl ?_
                  refine m_int rfl rfl ?_
                  refine o_nil ?_
                  refine k_ret (ret_tmps (ts := [8, 9]) (v := .tuple #[.int _ _, .int _ _]) rfl rfl ?_)
                  refine ⟨?_, rfl⟩
                  first
                   | exact tup2 (head_no (fun H => by unfold hOk at H; omega))
                   | exact tup2 (head_no (fun H => by
                       have hi : n.toNat = i := by omega
                       unfold hOk at H
                       rw [hi] at H
                       omega))
                   | (have H : hOk kind cl n mask := by
                       unfold hOk
                       first | omega | (rw [hi]; omega)
                      rw [head_yes H]
                      exact congrArg (fun x => Value.tuple #[.int .i64 x, .int .i64 0]) (by omega))
                refine k_skip ?_
                refine k_seq ?_
                refine k_region ?_
                refine m_int rfl rfl ?_
                refine m_int rfl rfl ?_
                refine n_mul rfl rfl (by omega) ?_
                refine n_add rfl rfl (by omega) ?_
                refine m_int rfl rfl ?_
                refine n_mul rfl rfl (by omega) ?_
                refine n_add rfl rfl (by omega) ?_
                refine m_int rfl rfl ?_
                refine m_int rfl rfl ?_
                refine o_nil ?_
                refine k_ret (ret_tmps (ts := [8, 9]) (v := .tuple #[.int _ _, .int _ _]) rfl rfl ?_)
                refine ⟨?_, rfl⟩
                first
                 | exact tup2 (head_no (fun H => by unfold hOk at H; omega))
                 | exact tup2 (head_no (fun H => by
                     have hi : n.toNat = i := by omega
                     unfold hOk at H
                     rw [hi] at H
                     omega))
                 | (have H : hOk kind cl n mask := by
                     unfold hOk
                     first | omega | (rw [hi]; omega)
                    rw [head_yes H]
                    exact congrArg (fun x => Value.tuple #[.int .i64 x, .int .i64 0]) (by omega))
              refine k_skip ?_
              refine k_seq ?_
              refine k_region ?_
              refine m_int rfl rfl ?_
              refine o_nil ?_
              refine k_seq ?_
              refine k_seq ?_
              refine k_region ?_
              refine m_int rfl rfl ?_
              refine o_nil ?_
              refine k_block ?_
              refine k_loop (σ := Nat) (fun i => [(1, .int .i64 cl), (2, .int .i64 n), (3, .int .i64 mask), (10, .int .i64 (2 ^ i)), (11, .int .i64 (i : Int))]) (fun i w' => i ≤ 33 ∧ (i : Int) ≤ n ∧ w' = w) (fun i => 33 - i) 0 ⟨rfl, rfl, rfl, rfl, rfl, trivial⟩ ⟨by omega, by omega, rfl⟩ (fun i e w3 hJ => ?_)
              obtain ⟨hi1, hi2, rfl⟩ := hJ
              refine k_seq ?_
              refine k_seq ?_
              refine k_region ?_
              refine m_int rfl rfl ?_
              refine m_int rfl rfl ?_
              refine b_lss rfl rfl ?_
              refine m_bool rfl rfl ?_
              refine o_split (t := 52) rfl (fun h => ?_) (fun h => ?_)
              ·
                refine g_yes rfl rfl ?_
                refine m_int rfl rfl ?_
                refine g_yes rfl rfl ?_
                refine b_leq rfl rfl ?_
                refine pick_t rfl rfl ?_
                refine o_nil ?_
                refine k_cond rfl (fun h => ?_) (fun h => ?_)
                rotate_left
                ·
                  refine k_exit rfl ?_
                  refine k_seq ?_
                  refine k_seq ?_
                  refine k_region ?_
                  refine m_int rfl rfl ?_
                  refine b_gtr rfl rfl ?_
                  refine m_bool rfl rfl ?_
                  refine o_split (t := 62) rfl (fun h => ?_) (fun h => ?_)
                  ·
                    refine g_no rfl rfl rfl ?_
                    refine g_no rfl rfl rfl ?_
                    refine g_no rfl rfl rfl ?_
                    refine pick_t rfl rfl ?_
                    refine o_nil ?_
                    refine k_condt rfl ?_
                    refine k_seq ?_
                    refine k_region ?_
                    refine m_int rfl rfl ?_
                    refine m_int rfl rfl ?_
                    refine o_nil ?_
                    refine k_ret (ret_tmps (ts := [8, 9]) (v := .tuple #[.int _ _, .int _ _]) rfl rfl ?_)
                    refine ⟨?_, rfl⟩
                    first
                     | exact tup2 (head_no (fun H => by unfold hOk at H; omega))
                     | exact tup2 (head_no (fun H => by
                         have hi : n.toNat = i := by omega
                         unfold hOk at H
                         rw [hi] at H
                         omega))
                     | (have H : hOk kind cl n mask := by
                         unfold hOk
                         first | omega | (rw [hi]; omega)
                        rw [head_yes H]
                        exact congrArg (fun x => Value.tuple #[.int .i64 x, .int .i64 0]) (by omega))
                  ·
                    refine g_yes rfl rfl ?_
                    refine m_int rfl rfl ?_
                    refine g_yes rfl rfl ?_
                    refine m_int rfl rfl ?_
                    refine g_yes rfl rfl ?_
                    refine b_geq rfl rfl ?_
                    refine pick_f rfl rfl ?_
                    refine o_nil ?_
                    refine k_cond rfl (fun h => ?_) (fun h => ?_)
                    ·
                      refine k_seq ?_
                      refine k_region ?_
                      refine m_int rfl rfl ?_
                      refine m_int rfl rfl ?_
                      refine o_nil ?_
                      refine k_ret (ret_tmps (ts := [8, 9]) (v := .tuple #[.int _ _, .int _ _]) rfl rfl ?_)
                      refine ⟨?_, rfl⟩
                      first
                       | exact tup2 (head_no (fun H => by unfold hOk at H; omega))
                       | exact tup2 (head_no (fun H => by
                           have hi : n.toNat = i := by omega
                           unfold hOk at H
                           rw [hi] at H
                           omega))
                       | (have H : hOk kind cl n mask := by
                           unfold hOk
                           first | omega | (rw [hi]; omega)
                          rw [head_yes H]
                          exact congrArg (fun x => Value.tuple #[.int .i64 x, .int .i64 0]) (by omega))
                    have hi : n.toNat = i := by omega
                    have hp := ipow32 i (by omega)
                    refine k_skip ?_
                    refine k_seq ?_
                    refine k_region ?_
                    refine m_int rfl rfl ?_
                    refine n_mul rfl rfl (by omega) ?_
                    refine n_add rfl rfl (by omega) ?_
                    refine m_int rfl rfl ?_
                    refine n_mul rfl rfl (by omega) ?_
                    refine n_add rfl rfl (by omega) ?_
                    refine m_int rfl rfl ?_
                    refine n_mul rfl rfl (by omega) ?_
                    refine n_add rfl rfl (by omega) ?_
                    refine m_int rfl rfl ?_
                    refine m_int rfl rfl ?_
                    refine o_nil ?_
                    refine k_ret (ret_tmps (ts := [8, 9]) (v := .tuple #[.int _ _, .int _ _]) rfl rfl ?_)
                    refine ⟨?_, rfl⟩
                    first
                     | exact tup2 (head_no (fun H => by unfold hOk at H; omega))
                     | exact tup2 (head_no (fun H => by
                         have hi : n.toNat = i := by omega
                         unfold hOk at H
                         rw [hi] at H
                         omega))
                     | (have H : hOk kind cl n mask := by
                         unfold hOk
                         first | omega | (rw [hi]; omega)
                        rw [head_yes H]
                        exact congrArg (fun x => Value.tuple #[.int .i64 x, .int .i64 0]) (by omega))
                refine k_skip ?_
                refine k_seq ?_
                refine k_block ?_
                refine k_region ?_
                refine m_int rfl rfl ?_
                have hp := ipow32 i (by omega)
                refine n_mul rfl rfl (by omega) ?_
                refine m_int rfl rfl ?_
                refine o_nil ?_
                refine k_blk ?_
                refine k_region ?_
                refine m_int rfl rfl ?_
                refine n_add rfl rfl (by omega) ?_
                refine m_int rfl rfl ?_
                refine o_nil ?_
                refine k_goal ⟨i + 1, ⟨rfl, rfl, rfl, ?_, rfl, trivial⟩, ⟨by omega, by omega, rfl⟩, by omega⟩
                show Value.int .i64 (2 * 2 ^ i) = _
                rw [Int.pow_succ, Int.mul_comm]
              ·
                refine g_no rfl rfl rfl ?_
                refine g_no rfl rfl rfl ?_
                refine pick_f rfl rfl ?_
                refine o_nil ?_
                refine k_condf rfl ?_
                refine k_exit rfl ?_
                refine k_seq ?_
                refine k_seq ?_
                refine k_region ?_
                refine m_int rfl rfl ?_
                refine b_gtr rfl rfl ?_
                refine m_bool rfl rfl ?_
                refine o_split (t := 62) rfl (fun h => ?_) (fun h => ?_)
                ·
                  refine g_no rfl rfl rfl ?_
                  refine g_no rfl rfl rfl ?_
                  refine g_no rfl rfl rfl ?_
                  refine pick_t rfl rfl ?_
                  refine o_nil ?_
                  refine k_condt rfl ?_
                  refine k_seq ?_
                  refine k_region ?_
                  refine m_int rfl rfl ?_
                  refine m_int rfl rfl ?_
                  refine o_nil ?_
                  refine k_ret (ret_tmps (ts := [8, 9]) (v := .tuple #[.int _ _, .int _ _]) rfl rfl ?_)
                  refine ⟨?_, rfl⟩
                  first
                   | exact tup2 (head_no (fun H => by unfold hOk at H; omega))
                   | exact tup2 (head_no (fun H => by
                       have hi : n.toNat = i := by omega
                       unfold hOk at H
                       rw [hi] at H
                       omega))
                   | (have H : hOk kind cl n mask := by
                       unfold hOk
                       first | omega | (rw [hi]; omega)
                      rw [head_yes H]
                      exact congrArg (fun x => Value.tuple #[.int .i64 x, .int .i64 0]) (by omega))
                ·
                  refine g_yes rfl rfl ?_
                  refine m_int rfl rfl ?_
                  refine g_yes rfl rfl ?_
                  refine m_int rfl rfl ?_
                  refine g_yes rfl rfl ?_
                  refine b_geq rfl rfl ?_
                  refine pick_f rfl rfl ?_
                  refine o_nil ?_
                  refine k_cond rfl (fun h => ?_) (fun h => ?_)
                  ·
                    refine k_seq ?_
                    refine k_region ?_
                    refine m_int rfl rfl ?_
                    refine m_int rfl rfl ?_
                    refine o_nil ?_
                    refine k_ret (ret_tmps (ts := [8, 9]) (v := .tuple #[.int _ _, .int _ _]) rfl rfl ?_)
                    refine ⟨?_, rfl⟩
                    first
                     | exact tup2 (head_no (fun H => by unfold hOk at H; omega))
                     | exact tup2 (head_no (fun H => by
                         have hi : n.toNat = i := by omega
                         unfold hOk at H
                         rw [hi] at H
                         omega))
                     | (have H : hOk kind cl n mask := by
                         unfold hOk
                         first | omega | (rw [hi]; omega)
                        rw [head_yes H]
                        exact congrArg (fun x => Value.tuple #[.int .i64 x, .int .i64 0]) (by omega))
                  have hi : n.toNat = i := by omega
                  have hp := ipow32 i (by omega)
                  refine k_skip ?_
                  refine k_seq ?_
                  refine k_region ?_
                  refine m_int rfl rfl ?_
                  refine n_mul rfl rfl (by omega) ?_
                  refine n_add rfl rfl (by omega) ?_
                  refine m_int rfl rfl ?_
                  refine n_mul rfl rfl (by omega) ?_
                  refine n_add rfl rfl (by omega) ?_
                  refine m_int rfl rfl ?_
                  refine n_mul rfl rfl (by omega) ?_
                  refine n_add rfl rfl (by omega) ?_
                  refine m_int rfl rfl ?_
                  refine m_int rfl rfl ?_
                  refine o_nil ?_
                  refine k_ret (ret_tmps (ts := [8, 9]) (v := .tuple #[.int _ _, .int _ _]) rfl rfl ?_)
                  refine ⟨?_, rfl⟩
                  first
                   | exact tup2 (head_no (fun H => by unfold hOk at H; omega))
                   | exact tup2 (head_no (fun H => by
                       have hi : n.toNat = i := by omega
                       unfold hOk at H
                       rw [hi] at H
                       omega))
                   | (have H : hOk kind cl n mask := by
                       unfold hOk
                       first | omega | (rw [hi]; omega)
                      rw [head_yes H]
                      exact congrArg (fun x => Value.tuple #[.int .i64 x, .int .i64 0]) (by omega))

def pk (x : Int) : Int := x % 4
def pc (x : Int) : Int := x / 4 % 65536
def pn (x : Int) : Int := if x % 4 = 1 then x / 262144 % 64 else x % 18446744073709551616 / 262144
def pm (x : Int) : Int := if x % 4 = 1 then x % 18446744073709551616 / 16777216 else 0
def openW (x : Int) : Int × Int × Int × Int × Int := if headW (pk x) (pc x) (pn x) (pm x) = (x, 0) then (pk x, pc x, pn x, pm x, 0) else (0, 0, 0, 0, 24)
theorem open_no (x k c n m : Int) (hk : pk x = k) (hc : pc x = c) (hn : pn x = n) (hm : pm x = m) (h : headW k c n m ≠ (x, 0)) : openW x = (0, 0, 0, 0, 24) := by
  unfold openW; subst hk hc hn hm; rw [if_neg h]
theorem open_yes (x k c n m : Int) (hk : pk x = k) (hc : pc x = c) (hn : pn x = n) (hm : pm x = m) (h : headW k c n m = (x, 0)) : openW x = (k, c, n, m, 0) := by
  unfold openW; subst hk hc hn hm; rw [if_pos h]
theorem open_neg (x : Int) (h : x < 0) : openW x = (0, 0, 0, 0, 24) := by
  refine open_no x _ _ _ _ rfl rfl rfl rfl (fun H => ?_)
  unfold headW at H
  split at H
  · rename_i hk
    obtain ⟨h1, h2, h3, h4, h5, h6, h7, h8⟩ := hk
    have h9 : 0 ≤ pm x := by
      by_cases hk : pk x = 1
      · exact (h8 hk).2.1
      · rw [h7 hk]; omega
    have := congrArg Prod.fst H
    simp only at this
    omega
  · have := congrArg Prod.snd H
    simp at this
theorem tup5 {x : Int} {p : Int × Int × Int × Int × Int} (h : openW x = p) : Value.tuple #[.int .i64 p.1, .int .i64 p.2.1, .int .i64 p.2.2.1, .int .i64 p.2.2.2.1, .int .i64 p.2.2.2.2] = .tuple #[.int .i64 (openW x).1, .int .i64 (openW x).2.1, .int .i64 (openW x).2.2.1, .int .i64 (openW x).2.2.2.1, .int .i64 (openW x).2.2.2.2] := by rw [h]

theorem b3 (x : Int) : (BitVec.ofInt 64 x &&& 3#64).toInt = x % 4 := by
  have e : (BitVec.ofInt 64 x &&& 3#64).toNat = (x % 4).toNat := by
    rw [BitVec.toNat_and, ofZ, show (3#64).toNat = 2 ^ 2 - 1 by decide, Nat.and_two_pow_sub_one_eq_mod]; omega
  rw [BitVec.toInt_eq_toNat_of_lt (by rw [e]; omega), e]; omega
theorem b63 (x : Int) : (BitVec.ofInt 64 x >>> 18 &&& 63#64).toInt = x / 262144 % 64 := by
  have e : (BitVec.ofInt 64 x >>> 18 &&& 63#64).toNat = (x / 262144 % 64).toNat := by
    rw [BitVec.toNat_and, BitVec.toNat_ushiftRight, ofZ, show (63#64).toNat = 2 ^ 6 - 1 by decide, Nat.and_two_pow_sub_one_eq_mod, Nat.shiftRight_eq_div_pow]; omega
  rw [BitVec.toInt_eq_toNat_of_lt (by rw [e]; omega), e]; omega
theorem b18 (x : Int) : (BitVec.ofInt 64 x >>> 18).toInt = x % 18446744073709551616 / 262144 := by
  have e : (BitVec.ofInt 64 x >>> 18).toNat = (x % 18446744073709551616 / 262144).toNat := by
    rw [BitVec.toNat_ushiftRight, ofZ, Nat.shiftRight_eq_div_pow]; omega
  rw [BitVec.toInt_eq_toNat_of_lt (by rw [e]; omega), e]; omega
theorem b24 (x : Int) : (BitVec.ofInt 64 x >>> 24).toInt = x % 18446744073709551616 / 16777216 := by
  have e : (BitVec.ofInt 64 x >>> 24).toNat = (x % 18446744073709551616 / 16777216).toNat := by
    rw [BitVec.toNat_ushiftRight, ofZ, Nat.shiftRight_eq_div_pow]; omega
  rw [BitVec.toInt_eq_toNat_of_lt (by rw [e]; omega), e]; omega
theorem b16 (x : Int) : (((BitVec.ofInt 64 x >>> 2).setWidth 16).toNat : Int) = x / 4 % 65536 := by
  rw [BitVec.toNat_setWidth, BitVec.toNat_ushiftRight, ofZ, Nat.shiftRight_eq_div_pow]; omega

theorem open_ok (w : World) (x : Int) : Ret Tryd.prog 24 [.int .i64 x] w (fun v w' => v = .tuple #[.int .i64 (openW x).1, .int .i64 (openW x).2.1, .int .i64 (openW x).2.2.1, .int .i64 (openW x).2.2.2.1, .int .i64 (openW x).2.2.2.2] ∧ w' = w) := by
  refine fn_enter (n := 50) Tryd.func24 rfl rfl (Nat.le_of_ble_eq_true rfl) (fun e => ?_)
  refine k_seq ?_
  refine k_region ?_
  refine m_int rfl rfl ?_
  refine m_int rfl rfl ?_
  refine m_int rfl rfl ?_
  refine m_int rfl rfl ?_
  refine m_int rfl rfl ?_
  refine o_nil ?_
  refine k_seq ?_
  refine k_region ?_
  refine m_int rfl rfl ?_
  refine cv64 rfl Tryd.underlying105 rfl ?_
  refine m_int rfl rfl ?_
  refine o_nil ?_
  refine k_seq ?_
  refine k_region ?_
  refine m_int rfl rfl ?_
  refine v64_and (b := 3#64) rfl rfl ?_
  refine cv64_i rfl Tryd.underlying3 rfl ?_
  rw [b3]
  refine m_int rfl rfl ?_
  refine v64_shrn (c := 2) rfl rfl ?_
  refine cv64_16 rfl Tryd.underlying47 rfl ?_
  refine cv16_i rfl Tryd.underlying3 rfl ?_
  rw [b16]
  refine m_int rfl rfl ?_
  refine m_int rfl rfl ?_
  refine o_nil ?_
  refine k_seq ?_
  refine k_seq ?_
  refine k_region ?_
  refine m_int rfl rfl ?_
  refine v64_shrn (c := 18) rfl rfl ?_
  refine cv64_i rfl Tryd.underlying3 rfl ?_
  rw [b18]
  refine m_int rfl rfl ?_
  refine o_nil ?_
  refine k_seq ?_
  refine k_region ?_
  refine m_int rfl rfl ?_
  refine b_eql rfl rfl ?_
  refine o_nil ?_
  refine k_cond rfl (fun h => ?_) (fun h => ?_)
  ·
    have en : pn x = x / 262144 % 64 := if_pos h
    have em : pm x = x % 18446744073709551616 / 16777216 := if_pos h
    refine k_region ?_
    refine m_int rfl rfl ?_
    refine v64_shrn (c := 18) rfl rfl ?_
    refine v64_and (b := 63#64) rfl rfl ?_
    refine cv64_i rfl Tryd.underlying3 rfl ?_
    rw [b63]
    refine m_int rfl rfl ?_
    refine v64_shrn (c := 24) rfl rfl ?_
    refine cv64_i rfl Tryd.underlying2 rfl ?_
    rw [b24]
    refine m_int rfl rfl ?_
    refine m_int rfl rfl ?_
    refine o_nil ?_
    refine k_seq ?_
    refine k_seq ?_
    refine k_region ?_
    refine m_int rfl rfl ?_
    refine m_int rfl rfl ?_
    refine m_int rfl rfl ?_
    refine m_int rfl rfl ?_
    refine o_call rfl rfl (head_ok w _ _ _ _ (by omega) (by omega) (by omega)) (fun v w1 hv => ?_)
    obtain ⟨rfl, rfl⟩ := hv
    refine m_any rfl rfl ?_
    refine o_extr rfl rfl ?_
    refine o_extr rfl rfl ?_
    refine m_int rfl rfl ?_
    refine m_int rfl rfl ?_
    refine o_nil ?_
    refine k_seq ?_
    refine k_region ?_
    refine m_int rfl rfl ?_
    refine b_neq rfl rfl ?_
    refine m_bool rfl rfl ?_
    refine o_split (t := 41) rfl (fun h => ?_) (fun h => ?_)
    ·
      refine g_no rfl rfl rfl ?_
      refine g_no rfl rfl rfl ?_
      refine g_no rfl rfl rfl ?_
      refine pick_t rfl rfl ?_
      refine o_nil ?_
      refine k_condt rfl ?_
      refine k_seq ?_
      refine k_region ?_
      refine m_int rfl rfl ?_
      refine m_int rfl rfl ?_
      refine m_int rfl rfl ?_
      refine m_int rfl rfl ?_
      refine m_int rfl rfl ?_
      refine o_nil ?_
      refine k_ret (ret_tmps (ts := [2, 3, 4, 5, 6]) (v := .tuple #[.int _ _, .int _ _, .int _ _, .int _ _, .int _ _]) rfl rfl ?_)
      refine ⟨?_, rfl⟩
      first
       | exact tup5 (open_no x _ _ _ _ rfl rfl en em (fun H => by
           have h1 := congrArg Prod.fst H
           have h2 := congrArg Prod.snd H
           contradiction))
       | exact tup5 (open_yes x _ _ _ _ rfl rfl en em (Prod.ext (Decidable.of_not_not (by assumption)) (Decidable.of_not_not (by assumption))))
    ·
      refine g_yes rfl rfl ?_
      refine m_int rfl rfl ?_
      refine g_yes rfl rfl ?_
      refine m_int rfl rfl ?_
      refine g_yes rfl rfl ?_
      refine b_neq rfl rfl ?_
      refine pick_f rfl rfl ?_
      refine o_nil ?_
      refine k_cond rfl (fun h => ?_) (fun h => ?_)
      ·
        refine k_seq ?_
        refine k_region ?_
        refine m_int rfl rfl ?_
        refine m_int rfl rfl ?_
        refine m_int rfl rfl ?_
        refine m_int rfl rfl ?_
        refine m_int rfl rfl ?_
        refine o_nil ?_
        refine k_ret (ret_tmps (ts := [2, 3, 4, 5, 6]) (v := .tuple #[.int _ _, .int _ _, .int _ _, .int _ _, .int _ _]) rfl rfl ?_)
        refine ⟨?_, rfl⟩
        first
         | exact tup5 (open_no x _ _ _ _ rfl rfl en em (fun H => by
             have h1 := congrArg Prod.fst H
             have h2 := congrArg Prod.snd H
             contradiction))
         | exact tup5 (open_yes x _ _ _ _ rfl rfl en em (Prod.ext (Decidable.of_not_not (by assumption)) (Decidable.of_not_not (by assumption))))
      refine k_skip ?_
      refine k_seq ?_
      refine k_region ?_
      refine m_int rfl rfl ?_
      refine m_int rfl rfl ?_
      refine m_int rfl rfl ?_
      refine m_int rfl rfl ?_
      refine m_int rfl rfl ?_
      refine m_int rfl rfl ?_
      refine m_int rfl rfl ?_
      refine m_int rfl rfl ?_
      refine m_int rfl rfl ?_
      refine o_nil ?_
      refine k_ret (ret_tmps (ts := [2, 3, 4, 5, 6]) (v := .tuple #[.int _ _, .int _ _, .int _ _, .int _ _, .int _ _]) rfl rfl ?_)
      refine ⟨?_, rfl⟩
      first
       | exact tup5 (open_no x _ _ _ _ rfl rfl en em (fun H => by
           have h1 := congrArg Prod.fst H
           have h2 := congrArg Prod.snd H
           contradiction))
       | exact tup5 (open_yes x _ _ _ _ rfl rfl en em (Prod.ext (Decidable.of_not_not (by assumption)) (Decidable.of_not_not (by assumption))))
  have en : pn x = x % 18446744073709551616 / 262144 := if_neg h
  have em : pm x = 0 := if_neg h
  refine k_skip ?_
  refine k_seq ?_
  refine k_seq ?_
  refine k_region ?_
  refine m_int rfl rfl ?_
  refine m_int rfl rfl ?_
  refine m_int rfl rfl ?_
  refine m_int rfl rfl ?_
  refine o_call rfl rfl (head_ok w _ _ _ _ (by omega) (by omega) (by omega)) (fun v w1 hv => ?_)
  obtain ⟨rfl, rfl⟩ := hv
  refine m_any rfl rfl ?_
  refine o_extr rfl rfl ?_
  refine o_extr rfl rfl ?_
  refine m_int rfl rfl ?_
  refine m_int rfl rfl ?_
  refine o_nil ?_
  refine k_seq ?_
  refine k_region ?_
  refine m_int rfl rfl ?_
  refine b_neq rfl rfl ?_
  refine m_bool rfl rfl ?_
  refine o_split (t := 41) rfl (fun h => ?_) (fun h => ?_)
  ·
    refine g_no rfl rfl rfl ?_
    refine g_no rfl rfl rfl ?_
    refine g_no rfl rfl rfl ?_
    refine pick_t rfl rfl ?_
    refine o_nil ?_
    refine k_condt rfl ?_
    refine k_seq ?_
    refine k_region ?_
    refine m_int rfl rfl ?_
    refine m_int rfl rfl ?_
    refine m_int rfl rfl ?_
    refine m_int rfl rfl ?_
    refine m_int rfl rfl ?_
    refine o_nil ?_
    refine k_ret (ret_tmps (ts := [2, 3, 4, 5, 6]) (v := .tuple #[.int _ _, .int _ _, .int _ _, .int _ _, .int _ _]) rfl rfl ?_)
    refine ⟨?_, rfl⟩
    first
     | exact tup5 (open_no x _ _ _ _ rfl rfl en em (fun H => by
         have h1 := congrArg Prod.fst H
         have h2 := congrArg Prod.snd H
         contradiction))
     | exact tup5 (open_yes x _ _ _ _ rfl rfl en em (Prod.ext (Decidable.of_not_not (by assumption)) (Decidable.of_not_not (by assumption))))
  ·
    refine g_yes rfl rfl ?_
    refine m_int rfl rfl ?_
    refine g_yes rfl rfl ?_
    refine m_int rfl rfl ?_
    refine g_yes rfl rfl ?_
    refine b_neq rfl rfl ?_
    refine pick_f rfl rfl ?_
    refine o_nil ?_
    refine k_cond rfl (fun h => ?_) (fun h => ?_)
    ·
      refine k_seq ?_
      refine k_region ?_
      refine m_int rfl rfl ?_
      refine m_int rfl rfl ?_
      refine m_int rfl rfl ?_
      refine m_int rfl rfl ?_
      refine m_int rfl rfl ?_
      refine o_nil ?_
      refine k_ret (ret_tmps (ts := [2, 3, 4, 5, 6]) (v := .tuple #[.int _ _, .int _ _, .int _ _, .int _ _, .int _ _]) rfl rfl ?_)
      refine ⟨?_, rfl⟩
      first
       | exact tup5 (open_no x _ _ _ _ rfl rfl en em (fun H => by
           have h1 := congrArg Prod.fst H
           have h2 := congrArg Prod.snd H
           contradiction))
       | exact tup5 (open_yes x _ _ _ _ rfl rfl en em (Prod.ext (Decidable.of_not_not (by assumption)) (Decidable.of_not_not (by assumption))))
    refine k_skip ?_
    refine k_seq ?_
    refine k_region ?_
    refine m_int rfl rfl ?_
    refine m_int rfl rfl ?_
    refine m_int rfl rfl ?_
    refine m_int rfl rfl ?_
    refine m_int rfl rfl ?_
    refine m_int rfl rfl ?_
    refine m_int rfl rfl ?_
    refine m_int rfl rfl ?_
    refine m_int rfl rfl ?_
    refine o_nil ?_
    refine k_ret (ret_tmps (ts := [2, 3, 4, 5, 6]) (v := .tuple #[.int _ _, .int _ _, .int _ _, .int _ _, .int _ _]) rfl rfl ?_)
    refine ⟨?_, rfl⟩
    first
     | exact tup5 (open_no x _ _ _ _ rfl rfl en em (fun H => by
         have h1 := congrArg Prod.fst H
         have h2 := congrArg Prod.snd H
         contradiction))
     | exact tup5 (open_yes x _ _ _ _ rfl rfl en em (Prod.ext (Decidable.of_not_not (by assumption)) (Decidable.of_not_not (by assumption))))

theorem wq (x k : Int) (h : 0 ≤ x ∧ x ≤ 9223372036854775807) (hk : 1 ≤ k) : IntKind.i64.wrap (x.tdiv k) = x / k := by
  rw [Int.tdiv_eq_ediv_of_nonneg h.1]
  refine IntWalk.i64_in _ ⟨?_, ?_⟩
  · have := Int.ediv_nonneg h.1 (show 0 ≤ k by omega); omega
  · have := Int.ediv_le_self k h.1; omega
theorem ropen_ok (w : World) (x : Int) (hx : x ≤ 9223372036854775807) : Ret Tryd.prog 38 [.int .i64 x] w (fun v w' => v = .tuple #[.int .i64 (openW x).1, .int .i64 (openW x).2.1, .int .i64 (openW x).2.2.1, .int .i64 (openW x).2.2.2.1, .int .i64 (openW x).2.2.2.2] ∧ w' = w) := by
  refine fn_enter (n := 48) Tryd.func38 rfl rfl (Nat.le_of_ble_eq_true rfl) (fun e => ?_)
  refine k_seq ?_
  refine k_region ?_
  refine m_int rfl rfl ?_
  refine m_int rfl rfl ?_
  refine m_int rfl rfl ?_
  refine m_int rfl rfl ?_
  refine m_int rfl rfl ?_
  refine o_nil ?_
  refine k_seq ?_
  refine k_seq ?_
  refine k_region ?_
  refine m_int rfl rfl ?_
  refine b_lss rfl rfl ?_
  refine o_nil ?_
  refine k_cond rfl (fun h => ?_) (fun h => ?_)
  ·
    have hng := open_neg x (by omega)
    refine k_seq ?_
    refine k_region ?_
    refine m_int rfl rfl ?_
    refine m_int rfl rfl ?_
    refine m_int rfl rfl ?_
    refine m_int rfl rfl ?_
    refine m_int rfl rfl ?_
    refine o_nil ?_
    refine k_ret (ret_tmps (ts := [2, 3, 4, 5, 6]) (v := .tuple #[.int _ _, .int _ _, .int _ _, .int _ _, .int _ _]) rfl rfl ?_)
    refine ⟨?_, rfl⟩
    first
     | exact tup5 hng
     | exact tup5 (open_no x _ _ _ _ rfl rfl en em (fun H => by
         have h1 := congrArg Prod.fst H
         have h2 := congrArg Prod.snd H
         contradiction))
     | exact tup5 (open_yes x _ _ _ _ rfl rfl en em (Prod.ext (Decidable.of_not_not (by assumption)) (Decidable.of_not_not (by assumption))))
  refine k_skip ?_
  refine k_seq ?_
  refine k_region ?_
  refine m_int rfl rfl ?_
  refine b_rem rfl rfl (by omega) ?_
  rw [Int.tmod_eq_emod_of_nonneg (show 0 ≤ x by omega)]
  refine m_int rfl rfl ?_
  refine b_quo rfl rfl (by omega) ?_
  rw [wq x 4 (by omega) (by omega)]
  refine b_rem rfl rfl (by omega) ?_
  rw [Int.tmod_eq_emod_of_nonneg (show 0 ≤ x / 4 by omega)]
  refine m_int rfl rfl ?_
  refine b_quo rfl rfl (by omega) ?_
  rw [wq x 262144 (by omega) (by omega)]
  refine m_int rfl rfl ?_
  refine m_int rfl rfl ?_
  refine m_int rfl rfl ?_
  refine m_int rfl rfl ?_
  refine o_nil ?_
  refine k_seq ?_
  refine k_seq ?_
  refine k_region ?_
  refine m_int rfl rfl ?_
  refine b_eql rfl rfl ?_
  refine o_nil ?_
  refine k_cond rfl (fun h => ?_) (fun h => ?_)
  ·
    have en : pn x = x / 262144 % 64 := if_pos h
    have em : pm x = x / 16777216 := (if_pos h).trans (by omega)
    refine k_region ?_
    refine m_int rfl rfl ?_
    refine b_quo rfl rfl (by omega) ?_
    rw [wq x 262144 (by omega) (by omega)]
    refine b_rem rfl rfl (by omega) ?_
    rw [Int.tmod_eq_emod_of_nonneg (show 0 ≤ x / 262144 by omega)]
    refine m_int rfl rfl ?_
    refine b_quo rfl rfl (by omega) ?_
    rw [wq x 16777216 (by omega) (by omega)]
    refine m_int rfl rfl ?_
    refine m_int rfl rfl ?_
    refine o_nil ?_
    refine k_seq ?_
    refine k_region ?_
    refine m_int rfl rfl ?_
    refine m_int rfl rfl ?_
    refine m_int rfl rfl ?_
    refine m_int rfl rfl ?_
    refine o_call rfl rfl (rhead_ok w _ _ _ _ (by omega)) (fun v w1 hv => ?_)
    obtain ⟨rfl, rfl⟩ := hv
    refine m_any rfl rfl ?_
    refine o_extr rfl rfl ?_
    refine o_extr rfl rfl ?_
    refine m_int rfl rfl ?_
    refine m_int rfl rfl ?_
    refine o_nil ?_
    refine k_seq ?_
    refine k_seq ?_
    refine k_region ?_
    refine m_int rfl rfl ?_
    refine b_neq rfl rfl ?_
    refine m_bool rfl rfl ?_
    refine o_split (t := 39) rfl (fun h => ?_) (fun h => ?_)
    ·
      refine g_no rfl rfl rfl ?_
      refine g_no rfl rfl rfl ?_
      refine g_no rfl rfl rfl ?_
      refine pick_t rfl rfl ?_
      refine o_nil ?_
      refine k_condt rfl ?_
      refine k_seq ?_
      refine k_region ?_
      refine m_int rfl rfl ?_
      refine m_int rfl rfl ?_
      refine m_int rfl rfl ?_
      refine m_int rfl rfl ?_
      refine m_int rfl rfl ?_
      refine o_nil ?_
      refine k_ret (ret_tmps (ts := [2, 3, 4, 5, 6]) (v := .tuple #[.int _ _, .int _ _, .int _ _, .int _ _, .int _ _]) rfl rfl ?_)
      refine ⟨?_, rfl⟩
      first
       | exact tup5 hng
       | exact tup5 (open_no x _ _ _ _ rfl rfl en em (fun H => by
           have h1 := congrArg Prod.fst H
           have h2 := congrArg Prod.snd H
           contradiction))
       | exact tup5 (open_yes x _ _ _ _ rfl rfl en em (Prod.ext (Decidable.of_not_not (by assumption)) (Decidable.of_not_not (by assumption))))
    ·
      refine g_yes rfl rfl ?_
      refine m_int rfl rfl ?_
      refine g_yes rfl rfl ?_
      refine m_int rfl rfl ?_
      refine g_yes rfl rfl ?_
      refine b_neq rfl rfl ?_
      refine pick_f rfl rfl ?_
      refine o_nil ?_
      refine k_cond rfl (fun h => ?_) (fun h => ?_)
      ·
        refine k_seq ?_
        refine k_region ?_
        refine m_int rfl rfl ?_
        refine m_int rfl rfl ?_
        refine m_int rfl rfl ?_
        refine m_int rfl rfl ?_
        refine m_int rfl rfl ?_
        refine o_nil ?_
        refine k_ret (ret_tmps (ts := [2, 3, 4, 5, 6]) (v := .tuple #[.int _ _, .int _ _, .int _ _, .int _ _, .int _ _]) rfl rfl ?_)
        refine ⟨?_, rfl⟩
        first
         | exact tup5 hng
         | exact tup5 (open_no x _ _ _ _ rfl rfl en em (fun H => by
             have h1 := congrArg Prod.fst H
             have h2 := congrArg Prod.snd H
             contradiction))
         | exact tup5 (open_yes x _ _ _ _ rfl rfl en em (Prod.ext (Decidable.of_not_not (by assumption)) (Decidable.of_not_not (by assumption))))
      refine k_skip ?_
      refine k_seq ?_
      refine k_region ?_
      refine m_int rfl rfl ?_
      refine m_int rfl rfl ?_
      refine m_int rfl rfl ?_
      refine m_int rfl rfl ?_
      refine m_int rfl rfl ?_
      refine m_int rfl rfl ?_
      refine m_int rfl rfl ?_
      refine m_int rfl rfl ?_
      refine m_int rfl rfl ?_
      refine o_nil ?_
      refine k_ret (ret_tmps (ts := [2, 3, 4, 5, 6]) (v := .tuple #[.int _ _, .int _ _, .int _ _, .int _ _, .int _ _]) rfl rfl ?_)
      refine ⟨?_, rfl⟩
      first
       | exact tup5 hng
       | exact tup5 (open_no x _ _ _ _ rfl rfl en em (fun H => by
           have h1 := congrArg Prod.fst H
           have h2 := congrArg Prod.snd H
           contradiction))
       | exact tup5 (open_yes x _ _ _ _ rfl rfl en em (Prod.ext (Decidable.of_not_not (by assumption)) (Decidable.of_not_not (by assumption))))
  have en : pn x = x / 262144 := (if_neg h).trans (by omega)
  have em : pm x = 0 := if_neg h
  refine k_skip ?_
  refine k_seq ?_
  refine k_region ?_
  refine m_int rfl rfl ?_
  refine m_int rfl rfl ?_
  refine m_int rfl rfl ?_
  refine m_int rfl rfl ?_
  refine o_call rfl rfl (rhead_ok w _ _ _ _ (by omega)) (fun v w1 hv => ?_)
  obtain ⟨rfl, rfl⟩ := hv
  refine m_any rfl rfl ?_
  refine o_extr rfl rfl ?_
  refine o_extr rfl rfl ?_
  refine m_int rfl rfl ?_
  refine m_int rfl rfl ?_
  refine o_nil ?_
  refine k_seq ?_
  refine k_seq ?_
  refine k_region ?_
  refine m_int rfl rfl ?_
  refine b_neq rfl rfl ?_
  refine m_bool rfl rfl ?_
  refine o_split (t := 39) rfl (fun h => ?_) (fun h => ?_)
  ·
    refine g_no rfl rfl rfl ?_
    refine g_no rfl rfl rfl ?_
    refine g_no rfl rfl rfl ?_
    refine pick_t rfl rfl ?_
    refine o_nil ?_
    refine k_condt rfl ?_
    refine k_seq ?_
    refine k_region ?_
    refine m_int rfl rfl ?_
    refine m_int rfl rfl ?_
    refine m_int rfl rfl ?_
    refine m_int rfl rfl ?_
    refine m_int rfl rfl ?_
    refine o_nil ?_
    refine k_ret (ret_tmps (ts := [2, 3, 4, 5, 6]) (v := .tuple #[.int _ _, .int _ _, .int _ _, .int _ _, .int _ _]) rfl rfl ?_)
    refine ⟨?_, rfl⟩
    first
     | exact tup5 hng
     | exact tup5 (open_no x _ _ _ _ rfl rfl en em (fun H => by
         have h1 := congrArg Prod.fst H
         have h2 := congrArg Prod.snd H
         contradiction))
     | exact tup5 (open_yes x _ _ _ _ rfl rfl en em (Prod.ext (Decidable.of_not_not (by assumption)) (Decidable.of_not_not (by assumption))))
  ·
    refine g_yes rfl rfl ?_
    refine m_int rfl rfl ?_
    refine g_yes rfl rfl ?_
    refine m_int rfl rfl ?_
    refine g_yes rfl rfl ?_
    refine b_neq rfl rfl ?_
    refine pick_f rfl rfl ?_
    refine o_nil ?_
    refine k_cond rfl (fun h => ?_) (fun h => ?_)
    ·
      refine k_seq ?_
      refine k_region ?_
      refine m_int rfl rfl ?_
      refine m_int rfl rfl ?_
      refine m_int rfl rfl ?_
      refine m_int rfl rfl ?_
      refine m_int rfl rfl ?_
      refine o_nil ?_
      refine k_ret (ret_tmps (ts := [2, 3, 4, 5, 6]) (v := .tuple #[.int _ _, .int _ _, .int _ _, .int _ _, .int _ _]) rfl rfl ?_)
      refine ⟨?_, rfl⟩
      first
       | exact tup5 hng
       | exact tup5 (open_no x _ _ _ _ rfl rfl en em (fun H => by
           have h1 := congrArg Prod.fst H
           have h2 := congrArg Prod.snd H
           contradiction))
       | exact tup5 (open_yes x _ _ _ _ rfl rfl en em (Prod.ext (Decidable.of_not_not (by assumption)) (Decidable.of_not_not (by assumption))))
    refine k_skip ?_
    refine k_seq ?_
    refine k_region ?_
    refine m_int rfl rfl ?_
    refine m_int rfl rfl ?_
    refine m_int rfl rfl ?_
    refine m_int rfl rfl ?_
    refine m_int rfl rfl ?_
    refine m_int rfl rfl ?_
    refine m_int rfl rfl ?_
    refine m_int rfl rfl ?_
    refine m_int rfl rfl ?_
    refine o_nil ?_
    refine k_ret (ret_tmps (ts := [2, 3, 4, 5, 6]) (v := .tuple #[.int _ _, .int _ _, .int _ _, .int _ _, .int _ _]) rfl rfl ?_)
    refine ⟨?_, rfl⟩
    first
     | exact tup5 hng
     | exact tup5 (open_no x _ _ _ _ rfl rfl en em (fun H => by
         have h1 := congrArg Prod.fst H
         have h2 := congrArg Prod.snd H
         contradiction))
     | exact tup5 (open_yes x _ _ _ _ rfl rfl en em (Prod.ext (Decidable.of_not_not (by assumption)) (Decidable.of_not_not (by assumption))))
end Go.Proofs.YtchbidckckmobaaDoor
