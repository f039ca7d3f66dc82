/- The walk of the reference's bits. No condition beyond what each contract names. -/
import Derived.Test.YtahhgocfgniejaaWc
namespace Go.Proofs.Ytahhgocfgniejaa
open Go.RowKit E
set_option linter.unusedVariables false
set_option linter.unusedSimpArgs false
set_option maxRecDepth 100000
attribute [local irreducible] ow qw kw kq cw opW Ret
def bop (how : Int) (A B : BitVec 64) : BitVec 64 := if how = 0 then A &&& B else if how = 1 then A ||| B else A ^^^ B
theorem bop_bit (how a b : Int) (i : Nat) (hh : how = 0 ∨ how = 1 ∨ how = 2) :
    (if (bop how (BitVec.ofInt 64 a) (BitVec.ofInt 64 b)).getLsbD i then (1 : Int) else 0) = if how = 2 then bitI a i + bitI b i - 2 * bitI a i * bitI b i else if how = 1 then bitI a i + bitI b i - bitI a i * bitI b i else bitI a i * bitI b i := by
  unfold bop bitI
  rcases hh with rfl | rfl | rfl <;> simp only [Int.reduceEq, if_true, if_false, BitVec.getLsbD_and, BitVec.getLsbD_or, BitVec.getLsbD_xor] <;> cases (BitVec.ofInt 64 a).getLsbD i <;> cases (BitVec.ofInt 64 b).getLsbD i <;> simp
theorem low_step (C : BitVec 64) (i : Nat) (hi : i < 64) (z : Int) (hz : (if C.getLsbD i then (1 : Int) else 0) = z) : BitVec.ofNat 64 (C.toNat % 2 ^ i) + (BitVec.ofInt 64 z <<< (BitVec.ofInt 64 (i : Int)).toNat) = BitVec.ofNat 64 (C.toNat % 2 ^ (i + 1)) := by
  rw [cnt64 i (by omega), Nat.mod_pow_succ]
  have hb : C.getLsbD i = decide (C.toNat / 2 ^ i % 2 = 1) := by
    rw [BitVec.getLsbD, Nat.testBit_eq_decide_div_mod_eq]
  have h2 : C.toNat / 2 ^ i % 2 < 2 := Nat.mod_lt _ (by decide)
  rw [hb] at hz
  apply BitVec.eq_of_toNat_eq
  rw [BitVec.toNat_add, BitVec.toNat_shiftLeft, BitVec.toNat_ofNat, BitVec.toNat_ofNat, Nat.shiftLeft_eq]
  by_cases h1 : C.toNat / 2 ^ i % 2 = 1
  · rw [decide_eq_true h1] at hz
    simp only [if_true] at hz
    subst hz
    rw [h1]
    have : (BitVec.ofInt 64 1).toNat = 1 := by decide
    rw [this, Nat.one_mul, Nat.mul_one, Nat.add_mod]
    simp
  · have h0 : C.toNat / 2 ^ i % 2 = 0 := by omega
    rw [decide_eq_false h1] at hz
    simp only [Bool.false_eq_true, if_false] at hz
    subst hz
    rw [h0]
    have : (BitVec.ofInt 64 0).toNat = 0 := by decide
    rw [this]
    simp

theorem bits_ok (w : World) (a b how : Int) (hh : how = 0 ∨ how = 1 ∨ how = 2) : Ret Try.prog 27 [.int .i64 a, .int .i64 b, .int .i64 how] w (fun v w' => v = .int .i64 (bop how (BitVec.ofInt 64 a) (BitVec.ofInt 64 b)).toInt ∧ w' = w) := by
  refine fn_enter (n := 53) Try.func27 rfl rfl (Nat.le_of_ble_eq_true rfl) (fun e => ?_)
  refine k_seq ?_
  refine k_region ?_
  refine m_int rfl rfl ?_
  refine o_nil ?_
  refine k_seq ?_
  refine k_region ?_
  refine m_int rfl rfl ?_
  refine o_nil ?_
  refine k_seq ?_
  refine k_seq ?_
  refine k_region ?_
  refine m_int rfl rfl ?_
  refine o_nil ?_
  refine k_block ?_
  refine k_loop (σ := Nat) (fun i => [(0, .int .i64 a), (1, .int .i64 b), (2, .int .i64 how), (7, .int .u64 ((BitVec.ofNat 64 ((bop how (BitVec.ofInt 64 a) (BitVec.ofInt 64 b)).toNat % 2 ^ i)).toNat : Int)), (8, .int .i64 (i : Int))]) (fun i w' => i ≤ 64 ∧ w' = w) (fun i => 64 - i) 0 ⟨rfl, rfl, rfl, (by rw [Nat.pow_zero, Nat.mod_one]; rfl), rfl, trivial⟩ ⟨by omega, rfl⟩ (fun i e w3 hJ => ?_)
  obtain ⟨hi, rfl⟩ := hJ
  refine k_seq ?_
  refine k_seq ?_
  refine k_region ?_
  refine m_int rfl rfl ?_
  refine b_lss rfl rfl ?_
  refine o_nil ?_
  refine k_cond rfl (fun h => ?_) (fun h => ?_)
  rotate_left
  ·
    refine k_exit rfl ?_
    refine k_seq ?_
    refine k_region ?_
    refine m_int rfl rfl ?_
    refine cv64_i rfl Try.underlying2 rfl ?_
    refine m_int rfl rfl ?_
    refine o_nil ?_
    refine k_ret (ret_tmps (ts := [6]) (v := .int _ _) rfl rfl ?_)
    have : i = 64 := by omega
    subst this
    refine ⟨?_, rfl⟩
    rw [Nat.mod_eq_of_lt (bop how (BitVec.ofInt 64 a) (BitVec.ofInt 64 b)).isLt, BitVec.ofNat_toNat, BitVec.setWidth_eq]
  refine k_skip ?_
  refine k_seq ?_
  refine k_block ?_
  refine k_seq ?_
  refine k_region ?_
  refine m_int rfl rfl ?_
  refine m_int rfl rfl ?_
  refine o_call rfl rfl (bit_ok w3 a i (by omega)) (fun v w4 hv => ?_)
  obtain ⟨rfl, rfl⟩ := hv
  refine m_int rfl rfl ?_
  refine m_int rfl rfl ?_
  refine o_call rfl rfl (bit_ok w4 b i (by omega)) (fun v w5 hv => ?_)
  obtain ⟨rfl, rfl⟩ := hv
  have hx := bitI_01 a i
  have hy := bitI_01 b i
  have hxy : 0 ≤ bitI a i * bitI b i ∧ bitI a i * bitI b i ≤ 1 := by unfold bitI; split <;> split <;> simp
  have hxy2 : 0 ≤ 2 * bitI a i * bitI b i ∧ 2 * bitI a i * bitI b i ≤ 2 := by unfold bitI; split <;> split <;> simp
  have hst := bop_bit how a b i hh
  refine m_int rfl rfl ?_
  refine m_int rfl rfl ?_
  refine o_nil ?_
  refine k_seq ?_
  refine k_region ?_
  refine m_int rfl rfl ?_
  refine m_int rfl rfl ?_
  refine n_mul rfl rfl (by omega) ?_
  refine m_int rfl rfl ?_
  refine o_nil ?_
  refine k_seq ?_
  refine k_seq ?_
  refine k_region ?_
  refine m_int rfl rfl ?_
  refine b_eql rfl rfl ?_
  refine o_nil ?_
  refine k_cond rfl (fun h => ?_) (fun h => ?_)
  ·
    refine k_region ?_
    refine m_int rfl rfl ?_
    refine m_int rfl rfl ?_
    refine n_add rfl rfl (by omega) ?_
    refine m_int rfl rfl ?_
    refine m_int rfl rfl ?_
    refine n_mul rfl rfl (by omega) ?_
    refine n_sub rfl rfl (by omega) ?_
    refine m_int rfl rfl ?_
    refine o_nil ?_
    refine k_seq ?_
    refine k_seq ?_
    refine k_region ?_
    refine m_int rfl rfl ?_
    refine b_eql rfl rfl ?_
    refine o_nil ?_
    refine k_cond rfl (fun h => ?_) (fun h => ?_)
    ·
      refine k_region ?_
      refine m_int rfl rfl ?_
      refine m_int rfl rfl ?_
      refine n_add rfl rfl (by omega) ?_
      refine m_int rfl rfl ?_
      refine n_mul rfl rfl (by omega) ?_
      refine m_int rfl rfl ?_
      refine n_mul rfl rfl (by omega) ?_
      refine n_sub rfl rfl (by omega) ?_
      refine m_int rfl rfl ?_
      refine o_nil ?_
      refine k_region ?_
      refine m_int rfl rfl ?_
      refine m_int rfl rfl ?_
      refine cv64 rfl Try.underlying43 rfl ?_
      refine m_int rfl rfl ?_
      refine cv64 rfl Try.underlying47 rfl ?_
      refine v64_shln rfl rfl ?_
      refine v64_add rfl rfl ?_
      refine m_int rfl rfl ?_
      refine o_nil ?_
      refine k_blk ?_
      refine k_region ?_
      refine m_int rfl rfl ?_
      refine n_add rfl rfl (by omega) ?_
      refine m_int rfl rfl ?_
      refine o_nil ?_
      refine k_goal ⟨i + 1, ⟨rfl, rfl, rfl, ?_, rfl, trivial⟩, ⟨by omega, rfl⟩, by omega⟩
      rw [← low_step _ i (by omega) _ hst]
      (repeat' split) <;> first | rfl | (exfalso; omega)
    refine k_skip ?_
    refine k_region ?_
    refine m_int rfl rfl ?_
    refine m_int rfl rfl ?_
    refine cv64 rfl Try.underlying43 rfl ?_
    refine m_int rfl rfl ?_
    refine cv64 rfl Try.underlying47 rfl ?_
    refine v64_shln rfl rfl ?_
    refine v64_add rfl rfl ?_
    refine m_int rfl rfl ?_
    refine o_nil ?_
    refine k_blk ?_
    refine k_region ?_
    refine m_int rfl rfl ?_
    refine n_add rfl rfl (by omega) ?_
    refine m_int rfl rfl ?_
    refine o_nil ?_
    refine k_goal ⟨i + 1, ⟨rfl, rfl, rfl, ?_, rfl, trivial⟩, ⟨by omega, rfl⟩, by omega⟩
    rw [← low_step _ i (by omega) _ hst]
    (repeat' split) <;> first | rfl | (exfalso; omega)
  refine k_skip ?_
  refine k_seq ?_
  refine k_seq ?_
  refine k_region ?_
  refine m_int rfl rfl ?_
  refine b_eql rfl rfl ?_
  refine o_nil ?_
  refine k_cond rfl (fun h => ?_) (fun h => ?_)
  ·
    refine k_region ?_
    refine m_int rfl rfl ?_
    refine m_int rfl rfl ?_
    refine n_add rfl rfl (by omega) ?_
    refine m_int rfl rfl ?_
    refine n_mul rfl rfl (by omega) ?_
    refine m_int rfl rfl ?_
    refine n_mul rfl rfl (by omega) ?_
    refine n_sub rfl rfl (by omega) ?_
    refine m_int rfl rfl ?_
    refine o_nil ?_
    refine k_region ?_
    refine m_int rfl rfl ?_
    refine m_int rfl rfl ?_
    refine cv64 rfl Try.underlying43 rfl ?_
    refine m_int rfl rfl ?_
    refine cv64 rfl Try.underlying47 rfl ?_
    refine v64_shln rfl rfl ?_
    refine v64_add rfl rfl ?_
    refine m_int rfl rfl ?_
    refine o_nil ?_
    refine k_blk ?_
    refine k_region ?_
    refine m_int rfl rfl ?_
    refine n_add rfl rfl (by omega) ?_
    refine m_int rfl rfl ?_
    refine o_nil ?_
    refine k_goal ⟨i + 1, ⟨rfl, rfl, rfl, ?_, rfl, trivial⟩, ⟨by omega, rfl⟩, by omega⟩
    rw [← low_step _ i (by omega) _ hst]
    (repeat' split) <;> first | rfl | (exfalso; omega)
  refine k_skip ?_
  refine k_region ?_
  refine m_int rfl rfl ?_
  refine m_int rfl rfl ?_
  refine cv64 rfl Try.underlying43 rfl ?_
  refine m_int rfl rfl ?_
  refine cv64 rfl Try.underlying47 rfl ?_
  refine v64_shln rfl rfl ?_
  refine v64_add rfl rfl ?_
  refine m_int rfl rfl ?_
  refine o_nil ?_
  refine k_blk ?_
  refine k_region ?_
  refine m_int rfl rfl ?_
  refine n_add rfl rfl (by omega) ?_
  refine m_int rfl rfl ?_
  refine o_nil ?_
  refine k_goal ⟨i + 1, ⟨rfl, rfl, rfl, ?_, rfl, trivial⟩, ⟨by omega, rfl⟩, by omega⟩
  rw [← low_step _ i (by omega) _ hst]
  (repeat' split) <;> first | rfl | (exfalso; omega)
end Go.Proofs.Ytahhgocfgniejaa
