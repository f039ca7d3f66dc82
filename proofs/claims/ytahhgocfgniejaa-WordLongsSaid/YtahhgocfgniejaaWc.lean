/- The walks of the reference's functions Low, bit, up, down, bits. No condition beyond what each contract names. -/
import Derived.Test.YtahhgocfgniejaaWb
namespace Go.Proofs.Ytahhgocfgniejaa
open Go.RowKit E
set_option linter.unusedVariables false
set_option linter.unusedSimpArgs false
set_option maxRecDepth 100000
attribute [local irreducible] ow qw kw kq cw opW Ret
theorem tm_eq (n k : Int) : n.tmod k = if 0 ≤ n then n % k else -((-n) % k) := by
  by_cases h : 0 ≤ n
  · rw [if_pos h, Int.tmod_eq_emod_of_nonneg h]
  · rw [if_neg h, ← Int.tmod_eq_emod_of_nonneg (by omega), Int.neg_tmod]; omega

theorem low_ok (w : World) (n : Int) : Ret Try.prog 24 [.int .i64 n] w (fun v w' => v = .int .i64 (W.L n) ∧ w' = w) := by
  have ht := tm_eq n 4294967296
  have hL : W.L n = (n + 2147483648) % 4294967296 - 2147483648 := by unfold W.L; exact IntKind.wrap_i32 n
  refine fn_enter (n := 15) Try.func24 rfl rfl (Nat.le_of_ble_eq_true rfl) (fun e => ?_)
  refine k_seq ?_
  refine k_region ?_
  refine m_int rfl rfl ?_
  refine o_nil ?_
  refine k_seq ?_
  refine k_region ?_
  refine m_int rfl rfl ?_
  refine b_rem rfl rfl (by omega) ?_
  obtain ⟨m, hm⟩ : ∃ m, m = n.tmod 4294967296 := ⟨_, rfl⟩
  rw [← hm] at ht ⊢
  have ht2 : (0 ≤ n ∧ m = n % 4294967296) ∨ (n < 0 ∧ m = -((-n) % 4294967296)) := by
   split at ht
   · exact .inl ⟨by assumption, ht⟩
   · exact .inr ⟨by omega, ht⟩
  clear ht hm
  refine m_int rfl rfl ?_
  refine o_nil ?_
  refine k_seq ?_
  refine k_seq ?_
  refine k_region ?_
  refine m_int rfl rfl ?_
  refine b_lss rfl rfl ?_
  refine o_nil ?_
  refine k_cond rfl (fun h => ?_) (fun h => ?_)
  ·
    refine k_region ?_
    refine m_int rfl rfl ?_
    refine n_add rfl rfl (by omega) ?_
    refine m_int rfl rfl ?_
    refine o_nil ?_
    refine k_seq ?_
    refine k_seq ?_
    refine k_region ?_
    refine m_int rfl rfl ?_
    refine b_geq rfl rfl ?_
    refine o_nil ?_
    refine k_cond rfl (fun h => ?_) (fun h => ?_)
    ·
      refine k_region ?_
      refine m_int rfl rfl ?_
      refine n_sub rfl rfl (by omega) ?_
      refine m_int rfl rfl ?_
      refine o_nil ?_
      refine k_seq ?_
      refine k_region ?_
      refine m_int rfl rfl ?_
      refine m_int rfl rfl ?_
      refine o_nil ?_
      refine k_ret (ret_tmps (ts := [2]) (v := .int _ _) rfl rfl ?_)
      refine ⟨congrArg (Value.int .i64) ?_, rfl⟩
      omega
    refine k_skip ?_
    refine k_seq ?_
    refine k_region ?_
    refine m_int rfl rfl ?_
    refine m_int rfl rfl ?_
    refine o_nil ?_
    refine k_ret (ret_tmps (ts := [2]) (v := .int _ _) rfl rfl ?_)
    refine ⟨congrArg (Value.int .i64) ?_, rfl⟩
    omega
  refine k_skip ?_
  refine k_seq ?_
  refine k_seq ?_
  refine k_region ?_
  refine m_int rfl rfl ?_
  refine b_geq rfl rfl ?_
  refine o_nil ?_
  refine k_cond rfl (fun h => ?_) (fun h => ?_)
  ·
    refine k_region ?_
    refine m_int rfl rfl ?_
    refine n_sub rfl rfl (by omega) ?_
    refine m_int rfl rfl ?_
    refine o_nil ?_
    refine k_seq ?_
    refine k_region ?_
    refine m_int rfl rfl ?_
    refine m_int rfl rfl ?_
    refine o_nil ?_
    refine k_ret (ret_tmps (ts := [2]) (v := .int _ _) rfl rfl ?_)
    refine ⟨congrArg (Value.int .i64) ?_, rfl⟩
    omega
  refine k_skip ?_
  refine k_seq ?_
  refine k_region ?_
  refine m_int rfl rfl ?_
  refine m_int rfl rfl ?_
  refine o_nil ?_
  refine k_ret (ret_tmps (ts := [2]) (v := .int _ _) rfl rfl ?_)
  refine ⟨congrArg (Value.int .i64) ?_, rfl⟩
  omega

/-- one bit of a number of 64 -/
def bitI (n : Int) (i : Nat) : Int := if (BitVec.ofInt 64 n).getLsbD i then 1 else 0
theorem bitI_01 (n : Int) (i : Nat) : 0 ≤ bitI n i ∧ bitI n i ≤ 1 := by unfold bitI; split <;> omega
theorem bit_val (X : BitVec 64) (k : Nat) : ((X >>> k) &&& 1#64).toInt = if X.getLsbD k then 1 else 0 := by
  have h : (X >>> k) &&& 1#64 = if X.getLsbD k then 1#64 else 0#64 := by
    apply BitVec.eq_of_getLsbD_eq
    intro i hi
    rw [BitVec.getLsbD_and, BitVec.getLsbD_ushiftRight, BitVec.getLsbD_one]
    by_cases h0 : i = 0
    · subst h0
      cases hb : X.getLsbD k <;> simp [hb]
    · cases hb : X.getLsbD k <;> simp [h0]
  rw [h]
  cases X.getLsbD k <;> rfl
theorem cnt64 (i : Nat) (h : i < 18446744073709551616) : (BitVec.ofInt 64 (i : Int)).toNat = i := by
  rw [BitVec.toNat_ofInt]
  omega
theorem bit_ok (w : World) (n : Int) (i : Nat) (hi : i < 64) : Ret Try.prog 29 [.int .i64 n, .int .i64 (i : Int)] w (fun v w' => v = .int .i64 (bitI n i) ∧ w' = w) := by
  refine fn_enter (n := 12) Try.func29 rfl rfl (Nat.le_of_ble_eq_true rfl) (fun e => ?_)
  refine k_seq ?_
  refine k_region ?_
  refine m_int rfl rfl ?_
  refine o_nil ?_
  refine k_seq ?_
  refine k_region ?_
  refine m_int rfl rfl ?_
  refine cv64 rfl Try.underlying43 rfl ?_
  refine m_int rfl rfl ?_
  refine cv64 rfl Try.underlying47 rfl ?_
  refine v64_shrn rfl rfl ?_
  refine v64_and (b := 1#64) rfl rfl ?_
  refine cv64_i rfl Try.underlying2 rfl ?_
  refine m_int rfl rfl ?_
  refine o_nil ?_
  refine k_ret (ret_tmps (ts := [4]) (v := .int _ _) rfl rfl ?_)
  refine ⟨?_, rfl⟩
  rw [cnt64 i (by omega), bit_val]
  rfl

theorem wrap_dbl (x : Int) : IntKind.i64.wrap (IntKind.i64.wrap x + IntKind.i64.wrap x) = IntKind.i64.wrap (x * 2) := by
  rw [IntKind.wrap_i64, IntKind.wrap_i64, IntKind.wrap_i64]; omega
theorem up_ok (w : World) (a : Int) (k : Nat) (ha : -9223372036854775808 ≤ a ∧ a ≤ 9223372036854775807) (hk : k < 64) : Ret Try.prog 25 [.int .i64 a, .int .i64 (k : Int)] w (fun v w' => v = .int .i64 (IntKind.i64.wrap (a * 2 ^ k)) ∧ w' = w) := by
  refine fn_enter (n := 13) Try.func25 rfl rfl (Nat.le_of_ble_eq_true rfl) (fun e => ?_)
  refine k_seq ?_
  refine k_region ?_
  refine m_int rfl rfl ?_
  refine o_nil ?_
  refine k_seq ?_
  refine k_block ?_
  refine k_loop (σ := Nat) (fun j => [(0, .int .i64 (IntKind.i64.wrap (a * 2 ^ j))), (1, .int .i64 ((k - j : Nat) : Int))]) (fun j w' => j ≤ k ∧ w' = w) (fun j => k - j) 0 ⟨(by rw [Int.pow_zero, Int.mul_one, IntWalk.i64_in a ha]; rfl), rfl, trivial⟩ ⟨by omega, rfl⟩ (fun j e w3 hJ => ?_)
  obtain ⟨hj, rfl⟩ := hJ
  refine k_seq ?_
  refine k_seq ?_
  refine k_region ?_
  refine m_int rfl rfl ?_
  refine b_gtr rfl rfl ?_
  refine o_nil ?_
  refine k_cond rfl (fun h => ?_) (fun h => ?_)
  rotate_left
  ·
    refine k_exit rfl ?_
    refine k_seq ?_
    refine k_region ?_
    refine m_int rfl rfl ?_
    refine m_int rfl rfl ?_
    refine o_nil ?_
    refine k_ret (ret_tmps (ts := [4]) (v := .int _ _) rfl rfl ?_)
    have : j = k := by omega
    subst this
    exact ⟨rfl, rfl⟩
  refine k_skip ?_
  refine k_seq ?_
  refine k_block ?_
  refine k_region ?_
  refine m_int rfl rfl ?_
  refine m_int rfl rfl ?_
  refine b_add rfl rfl ?_
  refine m_int rfl rfl ?_
  refine o_nil ?_
  refine k_blk ?_
  refine k_region ?_
  refine m_int rfl rfl ?_
  refine n_sub rfl rfl (by omega) ?_
  refine m_int rfl rfl ?_
  refine o_nil ?_
  refine k_goal ⟨j + 1, ⟨?_, ?_, trivial⟩, ⟨by omega, rfl⟩, by omega⟩
  · show Value.int .i64 (IntKind.i64.wrap (IntKind.i64.wrap (a * 2 ^ j) + IntKind.i64.wrap (a * 2 ^ j))) = _
    rw [wrap_dbl, Int.mul_assoc, ← Int.pow_succ]
  · show Value.int .i64 (((k - j : Nat) : Int) - 1) = _
    congr 1
    omega

theorem bit0 (n : Int) : bitI n 0 = n % 2 := by
  unfold bitI
  rw [BitVec.getLsbD, Nat.testBit_zero, BitVec.toNat_ofInt]
  have : ((n % ((2 ^ 64 : Nat) : Int)).toNat % 2 = 1) ↔ n % 2 = 1 := by omega
  by_cases h : n % 2 = 1
  · rw [decide_eq_true (this.2 h), h]; rfl
  · rw [decide_eq_false (fun h' => h (this.1 h'))]
    simp
    omega
theorem half (x : Int) : (x - x % 2).tdiv 2 = x / 2 := by
  rw [tdiv_eq_if]
  split <;> omega
theorem down_ok (w : World) (a : Int) (k : Nat) (ha : -9223372036854775808 ≤ a ∧ a ≤ 9223372036854775807) (hk : k < 64) : Ret Try.prog 26 [.int .i64 a, .int .i64 (k : Int)] w (fun v w' => v = .int .i64 (a / 2 ^ k) ∧ w' = w) := by
  refine fn_enter (n := 15) Try.func26 rfl rfl (Nat.le_of_ble_eq_true rfl) (fun e => ?_)
  refine k_seq ?_
  refine k_region ?_
  refine m_int rfl rfl ?_
  refine o_nil ?_
  refine k_seq ?_
  refine k_block ?_
  refine k_loop (σ := Nat) (fun j => [(0, .int .i64 (a / 2 ^ j)), (1, .int .i64 ((k - j : Nat) : Int))]) (fun j w' => j ≤ k ∧ w' = w) (fun j => k - j) 0 ⟨(by rw [Int.pow_zero, Int.ediv_one]; rfl), rfl, trivial⟩ ⟨by omega, rfl⟩ (fun j e w3 hJ => ?_)
  obtain ⟨hj, rfl⟩ := hJ
  have hr : -9223372036854775808 ≤ a / 2 ^ j ∧ a / 2 ^ j ≤ 9223372036854775807 := by
   have := fdiv_range a j _ _ ha (by omega) (by omega)
   rw [Int.fdiv_eq_ediv_of_nonneg _ (Int.le_of_lt (Int.pow_pos (by decide)))] at this
   exact this
  refine k_seq ?_
  refine k_seq ?_
  refine k_region ?_
  refine m_int rfl rfl ?_
  refine b_gtr rfl rfl ?_
  refine o_nil ?_
  refine k_cond rfl (fun h => ?_) (fun h => ?_)
  rotate_left
  ·
    refine k_exit rfl ?_
    refine k_seq ?_
    refine k_region ?_
    refine m_int rfl rfl ?_
    refine m_int rfl rfl ?_
    refine o_nil ?_
    refine k_ret (ret_tmps (ts := [4]) (v := .int _ _) rfl rfl ?_)
    have : j = k := by omega
    subst this
    exact ⟨rfl, rfl⟩
  refine k_skip ?_
  refine k_seq ?_
  refine k_block ?_
  refine k_region ?_
  refine m_int rfl rfl ?_
  refine m_int rfl rfl ?_
  refine o_call rfl rfl (bit_ok w3 _ 0 (by omega)) (fun v w4 hv => ?_)
  obtain ⟨rfl, rfl⟩ := hv
  rw [bit0]
  refine n_sub rfl rfl (by omega) ?_
  refine b_quo rfl rfl (by omega) ?_
  rw [half, IntWalk.i64_in _ (by omega)]
  refine m_int rfl rfl ?_
  refine o_nil ?_
  refine k_blk ?_
  refine k_region ?_
  refine m_int rfl rfl ?_
  refine n_sub rfl rfl (by omega) ?_
  refine m_int rfl rfl ?_
  refine o_nil ?_
  refine k_goal ⟨j + 1, ⟨?_, ?_, trivial⟩, ⟨by omega, rfl⟩, by omega⟩
  · show Value.int .i64 (a / 2 ^ j / 2) = _
    rw [Int.ediv_ediv_of_nonneg (Int.le_of_lt (Int.pow_pos (by decide))), ← Int.pow_succ]
  · show Value.int .i64 (((k - j : Nat) : Int) - 1) = _
    congr 1
    omega
end Go.Proofs.Ytahhgocfgniejaa
