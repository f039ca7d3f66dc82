/- The walks of word.Int, Long, Cut, Compare, Holds. No condition beyond what each contract names. -/
import Derived.Test.YtahhgocfgniejaaWa
namespace Go.Proofs.Ytahhgocfgniejaa
open Go.RowKit E
set_option linter.unusedVariables false
set_option linter.unusedSimpArgs false
set_option maxRecDepth 100000
attribute [local irreducible] ow qw kw kq cw opW Ret
theorem i32_64 (n : Int) : -9223372036854775808 ≤ IntKind.i32.wrap n ∧ IntKind.i32.wrap n ≤ 9223372036854775807 := by
  have := W.L_range n
  unfold W.L at this
  omega
theorem i8_64 (n : Int) : -9223372036854775808 ≤ IntKind.i8.wrap n ∧ IntKind.i8.wrap n ≤ 9223372036854775807 := by
  simp only [IntKind.wrap, IntKind.bits, IntKind.signed]; simp; split <;> omega
theorem i16_64 (n : Int) : -9223372036854775808 ≤ IntKind.i16.wrap n ∧ IntKind.i16.wrap n ≤ 9223372036854775807 := by
  simp only [IntKind.wrap, IntKind.bits, IntKind.signed]; simp; split <;> omega
theorem fdiv_range (n : Int) (c : Nat) (lo hi : Int) (h : lo ≤ n ∧ n ≤ hi) (hl : lo ≤ 0) (hh : 0 ≤ hi) : lo ≤ n.fdiv (2 ^ c) ∧ n.fdiv (2 ^ c) ≤ hi := by
  rw [Int.fdiv_eq_ediv_of_nonneg _ (Int.le_of_lt (Int.pow_pos (by decide)))]
  have hp : (0 : Int) < 2 ^ c := Int.pow_pos (by decide)
  constructor
  · by_cases h0 : 0 ≤ n
    · exact Int.le_trans hl (Int.ediv_nonneg h0 (Int.le_of_lt hp))
    · have : n ≤ n / 2 ^ c := by
        rw [Int.le_ediv_iff_mul_le hp]
        have h1 : (1 : Int) ≤ 2 ^ c := hp
        have h2 : n * 2 ^ c ≤ n * 1 := Int.mul_le_mul_of_nonpos_left (by omega) h1
        omega
      omega
  · by_cases h0 : 0 ≤ n
    · exact Int.le_trans (Int.ediv_le_self _ h0) h.2
    · have : n / 2 ^ c < 0 := Int.ediv_neg_of_neg_of_pos (by omega) hp
      omega
theorem tdiv_range (x y : Int) (lo hi : Int) (h : lo ≤ x ∧ x ≤ hi) (hl : lo ≤ 0) (hh : 0 ≤ hi) : lo ≤ x.tmod y ∧ x.tmod y ≤ hi := by
  by_cases h0 : 0 ≤ x
  · have h1 := Int.tmod_nonneg y h0
    have h2 : x.tmod y ≤ x := by
      rw [Int.tmod_eq_emod_of_nonneg h0]
      by_cases hy : y = 0
      · subst hy; simp
      · have h3 := Int.emod_nonneg x hy
        have h4 := Int.ediv_mul_add_emod x y
        have h5 : 0 ≤ x / y * y := by
          rcases Int.lt_or_gt_of_ne hy with hn | hp
          · have := Int.ediv_nonpos_of_nonneg_of_nonpos h0 (Int.le_of_lt hn)
            exact Int.mul_nonneg_of_nonpos_of_nonpos this (Int.le_of_lt hn)
          · exact Int.mul_nonneg (Int.ediv_nonneg h0 (Int.le_of_lt hp)) (Int.le_of_lt hp)
        omega
    omega
  · have e : x.tmod y = - ((-x).tmod y) := by rw [Int.neg_tmod]; omega
    have h1 := Int.tmod_nonneg y (show 0 ≤ -x by omega)
    have h2 : (-x).tmod y ≤ -x := by
      rw [Int.tmod_eq_emod_of_nonneg (by omega)]
      by_cases hy : y = 0
      · subst hy; simp
      · have h3 := Int.emod_nonneg (-x) hy
        have h4 := Int.ediv_mul_add_emod (-x) y
        have h5 : 0 ≤ (-x) / y * y := by
          rcases Int.lt_or_gt_of_ne hy with hn | hp
          · have := Int.ediv_nonpos_of_nonneg_of_nonpos (show 0 ≤ -x by omega) (Int.le_of_lt hn)
            exact Int.mul_nonneg_of_nonpos_of_nonpos this (Int.le_of_lt hn)
          · exact Int.mul_nonneg (Int.ediv_nonneg (by omega) (Int.le_of_lt hp)) (Int.le_of_lt hp)
        omega
    omega
theorem rk32_range (op x y : Int) (hx : -2147483648 ≤ x ∧ x ≤ 2147483647) : -2147483648 ≤ (W.rk .i32 op x y).1 ∧ (W.rk .i32 op x y).1 ≤ 2147483647 := by
  have hw : ∀ n, -2147483648 ≤ IntKind.i32.wrap n ∧ IntKind.i32.wrap n ≤ 2147483647 := W.L_range
  have ht := tdiv_range x y _ _ hx (by omega) (by omega)
  unfold W.rk
  (repeat' split) <;> first | exact hw _ | exact ht | (simp; done)

theorem int_ok (w : World) (op a b : Int) : Ret Try.prog 11 [.int .i64 op, .int .i64 a, .int .i64 b] w (fun v w' => v = .tuple #[.int .i64 (W.wInt op a b).1, .int .i64 (W.wInt op a b).2] ∧ w' = w) := by
  refine fn_enter (n := 49) Try.func11 rfl rfl (Nat.le_of_ble_eq_true rfl) (fun e => ?_)
  refine k_seq ?_
  refine k_region ?_
  refine m_int rfl rfl ?_
  refine m_int rfl rfl ?_
  refine o_nil ?_
  refine k_seq ?_
  refine k_region ?_
  refine m_int rfl rfl ?_
  refine c_int rfl Try.underlying21 rfl ?_
  refine m_int rfl rfl ?_
  refine cv32 rfl Try.underlying37 rfl ?_
  refine v32_and (b := 31#32) rfl rfl ?_
  refine m_int rfl rfl ?_
  refine m_int rfl rfl ?_
  refine o_nil ?_
  refine k_seq ?_
  refine k_seq ?_
  refine k_region ?_
  refine m_int rfl rfl ?_
  refine o_nil ?_
  refine k_block ?_
  refine k_seq ?_
  refine k_region ?_
  refine b_eql rfl rfl ?_
  refine m_bool rfl rfl ?_
  refine o_nil ?_
  refine k_cond rfl (fun h => ?_) (fun h => ?_)
  ·
    refine k_seq ?_
    refine k_region ?_
    refine m_int rfl rfl ?_
    refine m_int rfl rfl ?_
    refine b_shln rfl rfl ?_
    refine c_i64 rfl Try.underlying2 rfl (i32_64 _) ?_
    refine m_int rfl rfl ?_
    refine m_int rfl rfl ?_
    refine o_nil ?_
    refine k_ret (ret_tmps (ts := [6, 7]) (v := .tuple #[.int _ _, .int _ _]) rfl rfl ?_)
    refine ⟨?_, rfl⟩
    unfold W.wInt
    (repeat' split) <;> first | rfl | (exfalso; omega)
  refine k_seq ?_
  refine k_region ?_
  refine b_eql rfl rfl ?_
  refine m_bool rfl rfl ?_
  refine o_nil ?_
  refine k_cond rfl (fun h => ?_) (fun h => ?_)
  ·
    refine k_seq ?_
    refine k_region ?_
    refine m_int rfl rfl ?_
    refine m_int rfl rfl ?_
    refine b_shrn rfl rfl ?_
    refine c_i64 rfl Try.underlying2 rfl (by have := fdiv_range (IntKind.i32.wrap a) (min (BitVec.ofInt 32 b &&& 31#32).toNat 32) _ _ (W.L_range a) (by omega) (by omega); simp only [IntKind.bits]; omega) ?_
    refine m_int rfl rfl ?_
    refine m_int rfl rfl ?_
    refine o_nil ?_
    refine k_ret (ret_tmps (ts := [6, 7]) (v := .tuple #[.int _ _, .int _ _]) rfl rfl ?_)
    refine ⟨?_, rfl⟩
    unfold W.wInt
    (repeat' split) <;> first | rfl | (exfalso; omega)
  refine k_seq ?_
  refine k_region ?_
  refine b_eql rfl rfl ?_
  refine m_bool rfl rfl ?_
  refine o_nil ?_
  refine k_cond rfl (fun h => ?_) (fun h => ?_)
  ·
    refine k_seq ?_
    refine k_region ?_
    refine m_int rfl rfl ?_
    refine cv32 rfl Try.underlying37 rfl ?_
    refine m_int rfl rfl ?_
    refine v32_shrn rfl rfl ?_
    refine c_int rfl Try.underlying21 rfl ?_
    refine c_i64 rfl Try.underlying2 rfl (i32_64 _) ?_
    refine m_int rfl rfl ?_
    refine m_int rfl rfl ?_
    refine o_nil ?_
    refine k_ret (ret_tmps (ts := [6, 7]) (v := .tuple #[.int _ _, .int _ _]) rfl rfl ?_)
    refine ⟨?_, rfl⟩
    unfold W.wInt
    (repeat' split) <;> first | rfl | (exfalso; omega)
  refine k_skip ?_
  refine k_blk ?_
  refine k_seq ?_
  refine k_region ?_
  refine m_int rfl rfl ?_
  refine m_int rfl rfl ?_
  refine m_int rfl rfl ?_
  refine c_int rfl Try.underlying21 rfl ?_
  refine o_call rfl rfl (rk32_ok w _ _ _) (fun v w1 hv => ?_)
  obtain ⟨rfl, rfl⟩ := hv
  refine m_any rfl rfl ?_
  refine o_extr rfl rfl ?_
  refine o_extr rfl rfl ?_
  refine m_int rfl rfl ?_
  refine m_int rfl rfl ?_
  refine o_nil ?_
  refine k_seq ?_
  refine k_region ?_
  refine m_int rfl rfl ?_
  refine c_i64 rfl Try.underlying2 rfl (by have := rk32_range op (IntKind.i32.wrap a) (IntKind.i32.wrap b) (W.L_range a); omega) ?_
  refine m_int rfl rfl ?_
  refine m_int rfl rfl ?_
  refine m_int rfl rfl ?_
  refine o_nil ?_
  refine k_ret (ret_tmps (ts := [6, 7]) (v := .tuple #[.int _ _, .int _ _]) rfl rfl ?_)
  refine ⟨?_, rfl⟩
  unfold W.wInt
  (repeat' split) <;> first | rfl | (exfalso; omega)

theorem long_ok (w : World) (op a b : Int) : Ret Try.prog 13 [.int .i64 op, .int .i64 a, .int .i64 b] w (fun v w' => v = .tuple #[.int .i64 (W.wLong op a b).1, .int .i64 (W.wLong op a b).2] ∧ w' = w) := by
  refine fn_enter (n := 37) Try.func13 rfl rfl (Nat.le_of_ble_eq_true rfl) (fun e => ?_)
  refine k_seq ?_
  refine k_region ?_
  refine m_int rfl rfl ?_
  refine m_int rfl rfl ?_
  refine o_nil ?_
  refine k_seq ?_
  refine k_region ?_
  refine m_int rfl rfl ?_
  refine cv64 rfl Try.underlying43 rfl ?_
  refine v64_and (b := 63#64) rfl rfl ?_
  refine m_int rfl rfl ?_
  refine o_nil ?_
  refine k_seq ?_
  refine k_seq ?_
  refine k_region ?_
  refine m_int rfl rfl ?_
  refine o_nil ?_
  refine k_block ?_
  refine k_seq ?_
  refine k_region ?_
  refine b_eql rfl rfl ?_
  refine m_bool rfl rfl ?_
  refine o_nil ?_
  refine k_cond rfl (fun h => ?_) (fun h => ?_)
  ·
    refine k_seq ?_
    refine k_region ?_
    refine m_int rfl rfl ?_
    refine m_int rfl rfl ?_
    refine b_shln rfl rfl ?_
    refine m_int rfl rfl ?_
    refine m_int rfl rfl ?_
    refine o_nil ?_
    refine k_ret (ret_tmps (ts := [6, 7]) (v := .tuple #[.int _ _, .int _ _]) rfl rfl ?_)
    refine ⟨?_, rfl⟩
    unfold W.wLong
    (repeat' split) <;> first | rfl | (exfalso; omega)
  refine k_seq ?_
  refine k_region ?_
  refine b_eql rfl rfl ?_
  refine m_bool rfl rfl ?_
  refine o_nil ?_
  refine k_cond rfl (fun h => ?_) (fun h => ?_)
  ·
    refine k_seq ?_
    refine k_region ?_
    refine m_int rfl rfl ?_
    refine m_int rfl rfl ?_
    refine b_shrn rfl rfl ?_
    refine m_int rfl rfl ?_
    refine m_int rfl rfl ?_
    refine o_nil ?_
    refine k_ret (ret_tmps (ts := [6, 7]) (v := .tuple #[.int _ _, .int _ _]) rfl rfl ?_)
    refine ⟨?_, rfl⟩
    unfold W.wLong
    (repeat' split) <;> first | rfl | (exfalso; omega)
  refine k_seq ?_
  refine k_region ?_
  refine b_eql rfl rfl ?_
  refine m_bool rfl rfl ?_
  refine o_nil ?_
  refine k_cond rfl (fun h => ?_) (fun h => ?_)
  ·
    refine k_seq ?_
    refine k_region ?_
    refine m_int rfl rfl ?_
    refine cv64 rfl Try.underlying43 rfl ?_
    refine m_int rfl rfl ?_
    refine v64_shrn rfl rfl ?_
    refine cv64_i rfl Try.underlying2 rfl ?_
    refine m_int rfl rfl ?_
    refine m_int rfl rfl ?_
    refine o_nil ?_
    refine k_ret (ret_tmps (ts := [6, 7]) (v := .tuple #[.int _ _, .int _ _]) rfl rfl ?_)
    refine ⟨?_, rfl⟩
    unfold W.wLong
    (repeat' split) <;> first | rfl | (exfalso; omega)
  refine k_skip ?_
  refine k_blk ?_
  refine k_seq ?_
  refine k_region ?_
  refine m_int rfl rfl ?_
  refine b_sub rfl rfl ?_
  refine m_int rfl rfl ?_
  refine m_int rfl rfl ?_
  refine o_call rfl rfl (rk64_ok w _ _ _) (fun v w1 hv => ?_)
  obtain ⟨rfl, rfl⟩ := hv
  refine o_extr rfl rfl ?_
  refine o_extr rfl rfl ?_
  refine m_int rfl rfl ?_
  refine m_int rfl rfl ?_
  refine o_nil ?_
  refine k_ret (ret_tmps (ts := [6, 7]) (v := .tuple #[.int _ _, .int _ _]) rfl rfl ?_)
  refine ⟨?_, rfl⟩
  unfold W.wLong
  (repeat' split) <;> first | rfl | (exfalso; omega)

/-- word.Cut -/
def cutW (d : BitVec 8) (n : Int) : Int :=
  if d = 66#8 then IntKind.i8.wrap n else if d = 67#8 then ((BitVec.ofInt 16 n).toNat : Int) else if d = 83#8 then IntKind.i16.wrap n
  else if d = 90#8 then IntKind.i64.wrap (BitVec.ofInt IntKind.i64.bits n &&& BitVec.ofInt IntKind.i64.bits 1).toNat else if d = 73#8 then IntKind.i32.wrap n else n
theorem cut_ok (w : World) (d : BitVec 8) (n : Int) : Ret Try.prog 15 [.int .u8 (d.toNat : Int), .int .i64 n] w (fun v w' => v = .int .i64 (cutW d n) ∧ w' = w) := by
  refine fn_enter (n := 31) Try.func15 rfl rfl (Nat.le_of_ble_eq_true rfl) (fun e => ?_)
  refine k_seq ?_
  refine k_region ?_
  refine m_int rfl rfl ?_
  refine o_nil ?_
  refine k_seq ?_
  refine k_seq ?_
  refine k_region ?_
  refine m_int rfl rfl ?_
  refine o_nil ?_
  refine k_block ?_
  refine k_seq ?_
  refine k_region ?_
  refine v8_eql (b := 66#8) rfl rfl ?_
  refine m_bool rfl rfl ?_
  refine o_nil ?_
  refine k_cond rfl (fun h => ?_) (fun h => ?_)
  ·
    refine k_seq ?_
    refine k_region ?_
    refine m_int rfl rfl ?_
    refine c_int rfl Try.underlying44 rfl ?_
    refine c_i64 rfl Try.underlying2 rfl (i8_64 _) ?_
    refine m_int rfl rfl ?_
    refine o_nil ?_
    refine k_ret (ret_tmps (ts := [4]) (v := .int _ _) rfl rfl ?_)
    refine ⟨?_, rfl⟩
    unfold cutW
    (repeat' split) <;> first | rfl | contradiction | (subst_vars; contradiction)
  refine k_seq ?_
  refine k_region ?_
  refine v8_eql (b := 67#8) rfl rfl ?_
  refine m_bool rfl rfl ?_
  refine o_nil ?_
  refine k_cond rfl (fun h => ?_) (fun h => ?_)
  ·
    refine k_seq ?_
    refine k_region ?_
    refine m_int rfl rfl ?_
    refine cv16 rfl Try.underlying45 rfl ?_
    refine cv16_i rfl Try.underlying2 rfl ?_
    refine m_int rfl rfl ?_
    refine o_nil ?_
    refine k_ret (ret_tmps (ts := [4]) (v := .int _ _) rfl rfl ?_)
    refine ⟨?_, rfl⟩
    unfold cutW
    (repeat' split) <;> first | rfl | contradiction | (subst_vars; contradiction)
  refine k_seq ?_
  refine k_region ?_
  refine v8_eql (b := 83#8) rfl rfl ?_
  refine m_bool rfl rfl ?_
  refine o_nil ?_
  refine k_cond rfl (fun h => ?_) (fun h => ?_)
  ·
    refine k_seq ?_
    refine k_region ?_
    refine m_int rfl rfl ?_
    refine c_int rfl Try.underlying46 rfl ?_
    refine c_i64 rfl Try.underlying2 rfl (i16_64 _) ?_
    refine m_int rfl rfl ?_
    refine o_nil ?_
    refine k_ret (ret_tmps (ts := [4]) (v := .int _ _) rfl rfl ?_)
    refine ⟨?_, rfl⟩
    unfold cutW
    (repeat' split) <;> first | rfl | contradiction | (subst_vars; contradiction)
  refine k_seq ?_
  refine k_region ?_
  refine v8_eql (b := 90#8) rfl rfl ?_
  refine m_bool rfl rfl ?_
  refine o_nil ?_
  refine k_cond rfl (fun h => ?_) (fun h => ?_)
  ·
    refine k_seq ?_
    refine k_region ?_
    refine m_int rfl rfl ?_
    refine b_and rfl rfl ?_
    refine m_int rfl rfl ?_
    refine o_nil ?_
    refine k_ret (ret_tmps (ts := [4]) (v := .int _ _) rfl rfl ?_)
    refine ⟨?_, rfl⟩
    unfold cutW
    (repeat' split) <;> first | rfl | contradiction | (subst_vars; contradiction)
  refine k_seq ?_
  refine k_region ?_
  refine v8_eql (b := 73#8) rfl rfl ?_
  refine m_bool rfl rfl ?_
  refine o_nil ?_
  refine k_cond rfl (fun h => ?_) (fun h => ?_)
  ·
    refine k_seq ?_
    refine k_region ?_
    refine m_int rfl rfl ?_
    refine c_int rfl Try.underlying21 rfl ?_
    refine c_i64 rfl Try.underlying2 rfl (i32_64 _) ?_
    refine m_int rfl rfl ?_
    refine o_nil ?_
    refine k_ret (ret_tmps (ts := [4]) (v := .int _ _) rfl rfl ?_)
    refine ⟨?_, rfl⟩
    unfold cutW
    (repeat' split) <;> first | rfl | contradiction | (subst_vars; contradiction)
  refine k_skip ?_
  refine k_blk ?_
  refine k_seq ?_
  refine k_region ?_
  refine m_int rfl rfl ?_
  refine m_int rfl rfl ?_
  refine o_nil ?_
  refine k_ret (ret_tmps (ts := [4]) (v := .int _ _) rfl rfl ?_)
  refine ⟨?_, rfl⟩
  unfold cutW
  (repeat' split) <;> first | rfl | contradiction | (subst_vars; contradiction)

def cmpW (a b : Int) : Int := if a < b then -1 else if b < a then 1 else 0
theorem cmp_ok (w : World) (a b : Int) : Ret Try.prog 17 [.int .i64 a, .int .i64 b] w (fun v w' => v = .int .i64 (cmpW a b) ∧ w' = w) := by
  refine fn_enter (n := 13) Try.func17 rfl rfl (Nat.le_of_ble_eq_true rfl) (fun e => ?_)
  refine k_seq ?_
  refine k_region ?_
  refine m_int rfl rfl ?_
  refine o_nil ?_
  refine k_seq ?_
  refine k_block ?_
  refine k_seq ?_
  refine k_region ?_
  refine m_int rfl rfl ?_
  refine m_int rfl rfl ?_
  refine b_lss rfl rfl ?_
  refine m_bool rfl rfl ?_
  refine o_nil ?_
  refine k_cond rfl (fun h => ?_) (fun h => ?_)
  ·
    refine k_seq ?_
    refine k_region ?_
    refine m_int rfl rfl ?_
    refine o_nil ?_
    refine k_ret (ret_tmps (ts := [4]) (v := .int _ _) rfl rfl ?_)
    refine ⟨?_, rfl⟩
    unfold cmpW
    (repeat' split) <;> first | rfl | (exfalso; omega)
  refine k_seq ?_
  refine k_region ?_
  refine m_int rfl rfl ?_
  refine m_int rfl rfl ?_
  refine b_gtr rfl rfl ?_
  refine m_bool rfl rfl ?_
  refine o_nil ?_
  refine k_cond rfl (fun h => ?_) (fun h => ?_)
  ·
    refine k_seq ?_
    refine k_region ?_
    refine m_int rfl rfl ?_
    refine o_nil ?_
    refine k_ret (ret_tmps (ts := [4]) (v := .int _ _) rfl rfl ?_)
    refine ⟨?_, rfl⟩
    unfold cmpW
    (repeat' split) <;> first | rfl | (exfalso; omega)
  refine k_skip ?_
  refine k_blk ?_
  refine k_seq ?_
  refine k_region ?_
  refine m_int rfl rfl ?_
  refine o_nil ?_
  refine k_ret (ret_tmps (ts := [4]) (v := .int _ _) rfl rfl ?_)
  refine ⟨?_, rfl⟩
  unfold cmpW
  (repeat' split) <;> first | rfl | (exfalso; omega)

/-- word.Holds -/
def hold2 (o x y : Int) : Bool × Int :=
  if o = 159 then (decide (x = y), 0) else if o = 160 then (decide (x ≠ y), 0) else if o = 161 then (decide (x < y), 0)
  else if o = 162 then (decide (y ≤ x), 0) else if o = 163 then (decide (y < x), 0) else if o = 164 then (decide (x ≤ y), 0) else (false, 1)
def holdsW (op a b : Int) : Bool × Int := if 153 ≤ op ∧ op ≤ 158 then hold2 (op + 6) (W.L a) 0 else hold2 op (W.L a) (W.L b)
theorem holds_ok (w : World) (op a b : Int) : Ret Try.prog 19 [.int .i64 op, .int .i64 a, .int .i64 b] w (fun v w' => v = .tuple #[.bool (holdsW op a b).1, .int .i64 (holdsW op a b).2] ∧ w' = w) := by
  refine fn_enter (n := 53) Try.func19 rfl rfl (Nat.le_of_ble_eq_true rfl) (fun e => ?_)
  refine k_seq ?_
  refine k_region ?_
  refine m_bool rfl rfl ?_
  refine m_int rfl rfl ?_
  refine o_nil ?_
  refine k_seq ?_
  refine k_region ?_
  refine m_int rfl rfl ?_
  refine c_int rfl Try.underlying21 rfl ?_
  refine m_int rfl rfl ?_
  refine c_int rfl Try.underlying21 rfl ?_
  refine m_int rfl rfl ?_
  refine m_int rfl rfl ?_
  refine o_nil ?_
  refine k_seq ?_
  refine k_seq ?_
  refine k_region ?_
  refine m_int rfl rfl ?_
  refine b_geq rfl rfl ?_
  refine m_bool rfl rfl ?_
  refine o_split (t := 16) rfl (fun h => ?_) (fun h => ?_)
  ·
    refine g_yes rfl rfl ?_
    refine m_int rfl rfl ?_
    refine g_yes rfl rfl ?_
    refine b_leq rfl rfl ?_
    refine pick_t rfl rfl ?_
    refine o_nil ?_
    refine k_cond rfl (fun h => ?_) (fun h => ?_)
    ·
      refine k_region ?_
      refine m_int rfl rfl ?_
      refine n_add rfl rfl (by omega) ?_
      refine m_int rfl rfl ?_
      refine m_int rfl rfl ?_
      refine o_nil ?_
      refine k_seq ?_
      refine k_seq ?_
      refine k_region ?_
      refine m_int rfl rfl ?_
      refine o_nil ?_
      refine k_block ?_
      refine k_seq ?_
      refine k_region ?_
      refine b_eql rfl rfl ?_
      refine m_bool rfl rfl ?_
      refine o_nil ?_
      refine k_cond rfl (fun h => ?_) (fun h => ?_)
      ·
        refine k_seq ?_
        refine k_region ?_
        refine m_int rfl rfl ?_
        refine m_int rfl rfl ?_
        refine b_eql rfl rfl ?_
        refine m_bool rfl rfl ?_
        refine m_int rfl rfl ?_
        refine o_nil ?_
        refine k_ret (ret_tmps (ts := [6, 7]) (v := .tuple #[.bool _, .int _ _]) rfl rfl ?_)
        refine ⟨?_, rfl⟩
        unfold holdsW
        split
        all_goals first | (exfalso; omega) | skip
        all_goals
         unfold hold2
         (repeat' split) <;> first | rfl | (exfalso; omega)
      refine k_seq ?_
      refine k_region ?_
      refine b_eql rfl rfl ?_
      refine m_bool rfl rfl ?_
      refine o_nil ?_
      refine k_cond rfl (fun h => ?_) (fun h => ?_)
      ·
        refine k_seq ?_
        refine k_region ?_
        refine m_int rfl rfl ?_
        refine m_int rfl rfl ?_
        refine b_neq rfl rfl ?_
        refine m_bool rfl rfl ?_
        refine m_int rfl rfl ?_
        refine o_nil ?_
        refine k_ret (ret_tmps (ts := [6, 7]) (v := .tuple #[.bool _, .int _ _]) rfl rfl ?_)
        refine ⟨?_, rfl⟩
        unfold holdsW
        split
        all_goals first | (exfalso; omega) | skip
        all_goals
         unfold hold2
         (repeat' split) <;> first | rfl | (exfalso; omega)
      refine k_seq ?_
      refine k_region ?_
      refine b_eql rfl rfl ?_
      refine m_bool rfl rfl ?_
      refine o_nil ?_
      refine k_cond rfl (fun h => ?_) (fun h => ?_)
      ·
        refine k_seq ?_
        refine k_region ?_
        refine m_int rfl rfl ?_
        refine m_int rfl rfl ?_
        refine b_lss rfl rfl ?_
        refine m_bool rfl rfl ?_
        refine m_int rfl rfl ?_
        refine o_nil ?_
        refine k_ret (ret_tmps (ts := [6, 7]) (v := .tuple #[.bool _, .int _ _]) rfl rfl ?_)
        refine ⟨?_, rfl⟩
        unfold holdsW
        split
        all_goals first | (exfalso; omega) | skip
        all_goals
         unfold hold2
         (repeat' split) <;> first | rfl | (exfalso; omega)
      refine k_seq ?_
      refine k_region ?_
      refine b_eql rfl rfl ?_
      refine m_bool rfl rfl ?_
      refine o_nil ?_
      refine k_cond rfl (fun h => ?_) (fun h => ?_)
      ·
        refine k_seq ?_
        refine k_region ?_
        refine m_int rfl rfl ?_
        refine m_int rfl rfl ?_
        refine b_geq rfl rfl ?_
        refine m_bool rfl rfl ?_
        refine m_int rfl rfl ?_
        refine o_nil ?_
        refine k_ret (ret_tmps (ts := [6, 7]) (v := .tuple #[.bool _, .int _ _]) rfl rfl ?_)
        refine ⟨?_, rfl⟩
        unfold holdsW
        split
        all_goals first | (exfalso; omega) | skip
        all_goals
         unfold hold2
         (repeat' split) <;> first | rfl | (exfalso; omega)
      refine k_seq ?_
      refine k_region ?_
      refine b_eql rfl rfl ?_
      refine m_bool rfl rfl ?_
      refine o_nil ?_
      refine k_cond rfl (fun h => ?_) (fun h => ?_)
      ·
        refine k_seq ?_
        refine k_region ?_
        refine m_int rfl rfl ?_
        refine m_int rfl rfl ?_
        refine b_gtr rfl rfl ?_
        refine m_bool rfl rfl ?_
        refine m_int rfl rfl ?_
        refine o_nil ?_
        refine k_ret (ret_tmps (ts := [6, 7]) (v := .tuple #[.bool _, .int _ _]) rfl rfl ?_)
        refine ⟨?_, rfl⟩
        unfold holdsW
        split
        all_goals first | (exfalso; omega) | skip
        all_goals
         unfold hold2
         (repeat' split) <;> first | rfl | (exfalso; omega)
      refine k_seq ?_
      refine k_region ?_
      refine b_eql rfl rfl ?_
      refine m_bool rfl rfl ?_
      refine o_nil ?_
      refine k_cond rfl (fun h => ?_) (fun h => ?_)
      ·
        refine k_seq ?_
        refine k_region ?_
        refine m_int rfl rfl ?_
        refine m_int rfl rfl ?_
        refine b_leq rfl rfl ?_
        refine m_bool rfl rfl ?_
        refine m_int rfl rfl ?_
        refine o_nil ?_
        refine k_ret (ret_tmps (ts := [6, 7]) (v := .tuple #[.bool _, .int _ _]) rfl rfl ?_)
        refine ⟨?_, rfl⟩
        unfold holdsW
        split
        all_goals first | (exfalso; omega) | skip
        all_goals
         unfold hold2
         (repeat' split) <;> first | rfl | (exfalso; omega)
      refine k_skip ?_
      refine k_blk ?_
      refine k_seq ?_
      refine k_region ?_
      refine m_bool rfl rfl ?_
      refine m_int rfl rfl ?_
      refine o_nil ?_
      refine k_ret (ret_tmps (ts := [6, 7]) (v := .tuple #[.bool _, .int _ _]) rfl rfl ?_)
      refine ⟨?_, rfl⟩
      unfold holdsW
      split
      all_goals first | (exfalso; omega) | skip
      all_goals
       unfold hold2
       (repeat' split) <;> first | rfl | (exfalso; omega)
    refine k_skip ?_
    refine k_seq ?_
    refine k_seq ?_
    refine k_region ?_
    refine m_int rfl rfl ?_
    refine o_nil ?_
    refine k_block ?_
    refine k_seq ?_
    refine k_region ?_
    refine b_eql rfl rfl ?_
    refine m_bool rfl rfl ?_
    refine o_nil ?_
    refine k_cond rfl (fun h => ?_) (fun h => ?_)
    ·
      refine k_seq ?_
      refine k_region ?_
      refine m_int rfl rfl ?_
      refine m_int rfl rfl ?_
      refine b_eql rfl rfl ?_
      refine m_bool rfl rfl ?_
      refine m_int rfl rfl ?_
      refine o_nil ?_
      refine k_ret (ret_tmps (ts := [6, 7]) (v := .tuple #[.bool _, .int _ _]) rfl rfl ?_)
      refine ⟨?_, rfl⟩
      unfold holdsW
      split
      all_goals first | (exfalso; omega) | skip
      all_goals
       unfold hold2
       (repeat' split) <;> first | rfl | (exfalso; omega)
    refine k_seq ?_
    refine k_region ?_
    refine b_eql rfl rfl ?_
    refine m_bool rfl rfl ?_
    refine o_nil ?_
    refine k_cond rfl (fun h => ?_) (fun h => ?_)
    ·
      refine k_seq ?_
      refine k_region ?_
      refine m_int rfl rfl ?_
      refine m_int rfl rfl ?_
      refine b_neq rfl rfl ?_
      refine m_bool rfl rfl ?_
      refine m_int rfl rfl ?_
      refine o_nil ?_
      refine k_ret (ret_tmps (ts := [6, 7]) (v := .tuple #[.bool _, .int _ _]) rfl rfl ?_)
      refine ⟨?_, rfl⟩
      unfold holdsW
      split
      all_goals first | (exfalso; omega) | skip
      all_goals
       unfold hold2
       (repeat' split) <;> first | rfl | (exfalso; omega)
    refine k_seq ?_
    refine k_region ?_
    refine b_eql rfl rfl ?_
    refine m_bool rfl rfl ?_
    refine o_nil ?_
    refine k_cond rfl (fun h => ?_) (fun h => ?_)
    ·
      refine k_seq ?_
      refine k_region ?_
      refine m_int rfl rfl ?_
      refine m_int rfl rfl ?_
      refine b_lss rfl rfl ?_
      refine m_bool rfl rfl ?_
      refine m_int rfl rfl ?_
      refine o_nil ?_
      refine k_ret (ret_tmps (ts := [6, 7]) (v := .tuple #[.bool _, .int _ _]) rfl rfl ?_)
      refine ⟨?_, rfl⟩
      unfold holdsW
      split
      all_goals first | (exfalso; omega) | skip
      all_goals
       unfold hold2
       (repeat' split) <;> first | rfl | (exfalso; omega)
    refine k_seq ?_
    refine k_region ?_
    refine b_eql rfl rfl ?_
    refine m_bool rfl rfl ?_
    refine o_nil ?_
    refine k_cond rfl (fun h => ?_) (fun h => ?_)
    ·
      refine k_seq ?_
      refine k_region ?_
      refine m_int rfl rfl ?_
      refine m_int rfl rfl ?_
      refine b_geq rfl rfl ?_
      refine m_bool rfl rfl ?_
      refine m_int rfl rfl ?_
      refine o_nil ?_
      refine k_ret (ret_tmps (ts := [6, 7]) (v := .tuple #[.bool _, .int _ _]) rfl rfl ?_)
      refine ⟨?_, rfl⟩
      unfold holdsW
      split
      all_goals first | (exfalso; omega) | skip
      all_goals
       unfold hold2
       (repeat' split) <;> first | rfl | (exfalso; omega)
    refine k_seq ?_
    refine k_region ?_
    refine b_eql rfl rfl ?_
    refine m_bool rfl rfl ?_
    refine o_nil ?_
    refine k_cond rfl (fun h => ?_) (fun h => ?_)
    ·
      refine k_seq ?_
      refine k_region ?_
      refine m_int rfl rfl ?_
      refine m_int rfl rfl ?_
      refine b_gtr rfl rfl ?_
      refine m_bool rfl rfl ?_
      refine m_int rfl rfl ?_
      refine o_nil ?_
      refine k_ret (ret_tmps (ts := [6, 7]) (v := .tuple #[.bool _, .int _ _]) rfl rfl ?_)
      refine ⟨?_, rfl⟩
      unfold holdsW
      split
      all_goals first | (exfalso; omega) | skip
      all_goals
       unfold hold2
       (repeat' split) <;> first | rfl | (exfalso; omega)
    refine k_seq ?_
    refine k_region ?_
    refine b_eql rfl rfl ?_
    refine m_bool rfl rfl ?_
    refine o_nil ?_
    refine k_cond rfl (fun h => ?_) (fun h => ?_)
    ·
      refine k_seq ?_
      refine k_region ?_
      refine m_int rfl rfl ?_
      refine m_int rfl rfl ?_
      refine b_leq rfl rfl ?_
      refine m_bool rfl rfl ?_
      refine m_int rfl rfl ?_
      refine o_nil ?_
      refine k_ret (ret_tmps (ts := [6, 7]) (v := .tuple #[.bool _, .int _ _]) rfl rfl ?_)
      refine ⟨?_, rfl⟩
      unfold holdsW
      split
      all_goals first | (exfalso; omega) | skip
      all_goals
       unfold hold2
       (repeat' split) <;> first | rfl | (exfalso; omega)
    refine k_skip ?_
    refine k_blk ?_
    refine k_seq ?_
    refine k_region ?_
    refine m_bool rfl rfl ?_
    refine m_int rfl rfl ?_
    refine o_nil ?_
    refine k_ret (ret_tmps (ts := [6, 7]) (v := .tuple #[.bool _, .int _ _]) rfl rfl ?_)
    refine ⟨?_, rfl⟩
    unfold holdsW
    split
    all_goals first | (exfalso; omega) | skip
    all_goals
     unfold hold2
     (repeat' split) <;> first | rfl | (exfalso; omega)
  ·
    refine g_no rfl rfl rfl ?_
    refine g_no rfl rfl rfl ?_
    refine pick_f rfl rfl ?_
    refine o_nil ?_
    refine k_condf rfl ?_
    refine k_skip ?_
    refine k_seq ?_
    refine k_seq ?_
    refine k_region ?_
    refine m_int rfl rfl ?_
    refine o_nil ?_
    refine k_block ?_
    refine k_seq ?_
    refine k_region ?_
    refine b_eql rfl rfl ?_
    refine m_bool rfl rfl ?_
    refine o_nil ?_
    refine k_cond rfl (fun h => ?_) (fun h => ?_)
    ·
      refine k_seq ?_
      refine k_region ?_
      refine m_int rfl rfl ?_
      refine m_int rfl rfl ?_
      refine b_eql rfl rfl ?_
      refine m_bool rfl rfl ?_
      refine m_int rfl rfl ?_
      refine o_nil ?_
      refine k_ret (ret_tmps (ts := [6, 7]) (v := .tuple #[.bool _, .int _ _]) rfl rfl ?_)
      refine ⟨?_, rfl⟩
      unfold holdsW
      split
      all_goals first | (exfalso; omega) | skip
      all_goals
       unfold hold2
       (repeat' split) <;> first | rfl | (exfalso; omega)
    refine k_seq ?_
    refine k_region ?_
    refine b_eql rfl rfl ?_
    refine m_bool rfl rfl ?_
    refine o_nil ?_
    refine k_cond rfl (fun h => ?_) (fun h => ?_)
    ·
      refine k_seq ?_
      refine k_region ?_
      refine m_int rfl rfl ?_
      refine m_int rfl rfl ?_
      refine b_neq rfl rfl ?_
      refine m_bool rfl rfl ?_
      refine m_int rfl rfl ?_
      refine o_nil ?_
      refine k_ret (ret_tmps (ts := [6, 7]) (v := .tuple #[.bool _, .int _ _]) rfl rfl ?_)
      refine ⟨?_, rfl⟩
      unfold holdsW
      split
      all_goals first | (exfalso; omega) | skip
      all_goals
       unfold hold2
       (repeat' split) <;> first | rfl | (exfalso; omega)
    refine k_seq ?_
    refine k_region ?_
    refine b_eql rfl rfl ?_
    refine m_bool rfl rfl ?_
    refine o_nil ?_
    refine k_cond rfl (fun h => ?_) (fun h => ?_)
    ·
      refine k_seq ?_
      refine k_region ?_
      refine m_int rfl rfl ?_
      refine m_int rfl rfl ?_
      refine b_lss rfl rfl ?_
      refine m_bool rfl rfl ?_
      refine m_int rfl rfl ?_
      refine o_nil ?_
      refine k_ret (ret_tmps (ts := [6, 7]) (v := .tuple #[.bool _, .int _ _]) rfl rfl ?_)
      refine ⟨?_, rfl⟩
      unfold holdsW
      split
      all_goals first | (exfalso; omega) | skip
      all_goals
       unfold hold2
       (repeat' split) <;> first | rfl | (exfalso; omega)
    refine k_seq ?_
    refine k_region ?_
    refine b_eql rfl rfl ?_
    refine m_bool rfl rfl ?_
    refine o_nil ?_
    refine k_cond rfl (fun h => ?_) (fun h => ?_)
    ·
      refine k_seq ?_
      refine k_region ?_
      refine m_int rfl rfl ?_
      refine m_int rfl rfl ?_
      refine b_geq rfl rfl ?_
      refine m_bool rfl rfl ?_
      refine m_int rfl rfl ?_
      refine o_nil ?_
      refine k_ret (ret_tmps (ts := [6, 7]) (v := .tuple #[.bool _, .int _ _]) rfl rfl ?_)
      refine ⟨?_, rfl⟩
      unfold holdsW
      split
      all_goals first | (exfalso; omega) | skip
      all_goals
       unfold hold2
       (repeat' split) <;> first | rfl | (exfalso; omega)
    refine k_seq ?_
    refine k_region ?_
    refine b_eql rfl rfl ?_
    refine m_bool rfl rfl ?_
    refine o_nil ?_
    refine k_cond rfl (fun h => ?_) (fun h => ?_)
    ·
      refine k_seq ?_
      refine k_region ?_
      refine m_int rfl rfl ?_
      refine m_int rfl rfl ?_
      refine b_gtr rfl rfl ?_
      refine m_bool rfl rfl ?_
      refine m_int rfl rfl ?_
      refine o_nil ?_
      refine k_ret (ret_tmps (ts := [6, 7]) (v := .tuple #[.bool _, .int _ _]) rfl rfl ?_)
      refine ⟨?_, rfl⟩
      unfold holdsW
      split
      all_goals first | (exfalso; omega) | skip
      all_goals
       unfold hold2
       (repeat' split) <;> first | rfl | (exfalso; omega)
    refine k_seq ?_
    refine k_region ?_
    refine b_eql rfl rfl ?_
    refine m_bool rfl rfl ?_
    refine o_nil ?_
    refine k_cond rfl (fun h => ?_) (fun h => ?_)
    ·
      refine k_seq ?_
      refine k_region ?_
      refine m_int rfl rfl ?_
      refine m_int rfl rfl ?_
      refine b_leq rfl rfl ?_
      refine m_bool rfl rfl ?_
      refine m_int rfl rfl ?_
      refine o_nil ?_
      refine k_ret (ret_tmps (ts := [6, 7]) (v := .tuple #[.bool _, .int _ _]) rfl rfl ?_)
      refine ⟨?_, rfl⟩
      unfold holdsW
      split
      all_goals first | (exfalso; omega) | skip
      all_goals
       unfold hold2
       (repeat' split) <;> first | rfl | (exfalso; omega)
    refine k_skip ?_
    refine k_blk ?_
    refine k_seq ?_
    refine k_region ?_
    refine m_bool rfl rfl ?_
    refine m_int rfl rfl ?_
    refine o_nil ?_
    refine k_ret (ret_tmps (ts := [6, 7]) (v := .tuple #[.bool _, .int _ _]) rfl rfl ?_)
    refine ⟨?_, rfl⟩
    unfold holdsW
    split
    all_goals first | (exfalso; omega) | skip
    all_goals
     unfold hold2
     (repeat' split) <;> first | rfl | (exfalso; omega)
end Go.Proofs.Ytahhgocfgniejaa
