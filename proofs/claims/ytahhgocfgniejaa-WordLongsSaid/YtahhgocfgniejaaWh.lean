/- Plain facts of shifts and conditions; the walks of the laws WordShifts, WordHolds. No condition beyond what each contract names. -/
import Derived.Test.YtahhgocfgniejaaWg
namespace Go.Proofs.Ytahhgocfgniejaa
open Go.RowKit E
set_option linter.unusedVariables false
set_option linter.unusedSimpArgs false
set_option maxRecDepth 100000
attribute [local irreducible] ow qw kw kq cw opW Ret
theorem and31 (i : Nat) (hi : i < 32) : (BitVec.ofInt 32 (i : Int) &&& 31#32).toNat = i := by
  rw [BitVec.toNat_and, BitVec.toNat_ofInt, show (31#32).toNat = 2 ^ 5 - 1 by decide, Nat.and_two_pow_sub_one_eq_mod]
  omega
theorem and63 (i : Nat) (hi : i < 64) : (BitVec.ofInt 64 (i : Int) &&& 63#64).toNat = i := by
  rw [BitVec.toNat_and, BitVec.toNat_ofInt, show (63#64).toNat = 2 ^ 6 - 1 by decide, Nat.and_two_pow_sub_one_eq_mod]
  omega
theorem ofL (n : Int) : BitVec.ofInt 32 (W.L n) = BitVec.ofInt 32 n := by
  apply BitVec.eq_of_toInt_eq
  rw [BitVec.toInt_ofInt, BitVec.toInt_ofInt, Lb]
  simp
theorem ofNat32 (X : BitVec 32) : BitVec.ofInt 32 (X.toNat : Int) = X := by
  rw [BitVec.ofInt_natCast, BitVec.ofNat_toNat, BitVec.setWidth_eq]
theorem s120 (a : Int) (i : Nat) (hi : i < 32) : (W.wInt 120 a (i : Int)).1 = W.L (W.L a * 2 ^ i) := by
  have e : (W.wInt 120 a (i : Int)).1 = W.L (W.L a * 2 ^ min (BitVec.ofInt 32 (i : Int) &&& 31#32).toNat 32) := rfl
  rw [e, and31 i hi, Nat.min_eq_left (by omega)]
theorem s124 (a : Int) (i : Nat) (hi : i < 32) : (W.wInt 124 a (i : Int)).1 = W.L ((BitVec.ofInt 32 a) >>> i).toNat := by
  have e : (W.wInt 124 a (i : Int)).1 = W.L ((BitVec.ofInt 32 (W.L a)) >>> (BitVec.ofInt 32 (i : Int) &&& 31#32).toNat).toNat := rfl
  rw [e, and31 i hi, ofL]
theorem s126 (a b : Int) : (W.wInt 126 a b).1 = W.L (BitVec.ofInt 32 a &&& BitVec.ofInt 32 b).toNat := by
  have e : (W.wInt 126 a b).1 = W.L (BitVec.ofInt 32 (W.L a) &&& BitVec.ofInt 32 (W.L b)).toNat := rfl
  rw [e, ofL, ofL]
theorem l121 (a : Int) (i : Nat) (hi : i < 64) : (W.wLong 121 a (i : Int)).1 = IntKind.i64.wrap (a * 2 ^ i) := by
  have e : (W.wLong 121 a (i : Int)).1 = IntKind.i64.wrap (a * 2 ^ min (BitVec.ofInt 64 (i : Int) &&& 63#64).toNat 64) := rfl
  rw [e, and63 i hi, Nat.min_eq_left (by omega)]
theorem l125 (a : Int) (i : Nat) (hi : i < 64) : (W.wLong 125 a (i : Int)).1 = ((BitVec.ofInt 64 a) >>> i).toInt := by
  have e : (W.wLong 125 a (i : Int)).1 = ((BitVec.ofInt 64 a) >>> (BitVec.ofInt 64 (i : Int) &&& 63#64).toNat).toInt := rfl
  rw [e, and63 i hi]
theorem E1 (a : Int) (i k : Nat) (h : (i : Int) + k < 32) : (W.wInt 120 (W.wInt 120 a i).1 k).1 = (W.wInt 120 a ((i : Int) + k)).1 := by
  rw [← Int.natCast_add, s120 _ i (by omega), s120 _ k (by omega), s120 _ (i + k) (by omega)]
  simp only [Lb, Int.bmod_mul_bmod, Int.bmod_bmod, Int.pow_add, Int.mul_assoc]
theorem ofShl (x : Int) (i : Nat) : BitVec.ofInt 32 (x * 2 ^ i) = BitVec.ofInt 32 x <<< i := by
  have e : (2 : Int) ^ i = ((2 ^ i : Nat) : Int) := by simp
  rw [BitVec.ofInt_mul, e, BitVec.ofInt_natCast, BitVec.shiftLeft_eq_mul_twoPow]
  congr 1
  apply BitVec.eq_of_toNat_eq
  simp [BitVec.toNat_twoPow]
theorem E2 (a : Int) (i : Nat) (hi : i < 32) : (W.wInt 124 (W.wInt 120 a i).1 i).1 = (W.wInt 126 a (W.wInt 124 (-1) i).1).1 := by
  rw [s120 _ i hi, s124 _ i hi, s124 _ i hi, s126, ofL, ofShl, ofL, ofL, ofNat32]
  congr 3
  apply BitVec.eq_of_getLsbD_eq
  intro j hj
  rw [show BitVec.ofInt 32 (-1) = BitVec.allOnes 32 by decide, BitVec.getLsbD_and, BitVec.getLsbD_ushiftRight, BitVec.getLsbD_ushiftRight, BitVec.getLsbD_shiftLeft, BitVec.getLsbD_allOnes]
  have e1 : i + j - i = j := by omega
  have e2 : ¬ (i + j < i) := by omega
  by_cases h : i + j < 32 <;> simp [h, e1, e2]
theorem E3 (a : Int) (i k : Nat) (hi : i < 32) (hk : k < 32) : (W.wLong 121 (W.wLong 121 a i).1 k).1 = (W.wLong 121 a ((i : Int) + k)).1 := by
  rw [← Int.natCast_add, l121 _ i (by omega), l121 _ k (by omega), l121 _ (i + k) (by omega)]
  simp only [Qb, Int.bmod_mul_bmod, Int.bmod_bmod, Int.pow_add, Int.mul_assoc]
theorem E4 (a : Int) (i k : Nat) (hi : i < 32) (hk : k < 32) : (W.wLong 125 (W.wLong 125 a i).1 k).1 = (W.wLong 125 a ((i : Int) + k)).1 := by
  rw [← Int.natCast_add, l125 _ i (by omega), l125 _ k (by omega), l125 _ (i + k) (by omega), BitVec.ofInt_toInt, BitVec.shiftRight_add]

theorem shifts_ok (w : World) (a m0 n0 : Int) (hm : 0 ≤ m0 ∧ m0 ≤ 255) (hn : 0 ≤ n0 ∧ n0 ≤ 255) : Ret Try.prog 9 [.int .i64 a, .int .u8 m0, .int .u8 n0] w (fun v w' => v = .bool true ∧ Keep [] w w') := by
  obtain ⟨m, rfl⟩ : ∃ d : BitVec 8, m0 = (d.toNat : Int) := ⟨BitVec.ofInt 8 m0, by rw [BitVec.toNat_ofInt]; omega⟩
  obtain ⟨n, rfl⟩ : ∃ d : BitVec 8, n0 = (d.toNat : Int) := ⟨BitVec.ofInt 8 n0, by rw [BitVec.toNat_ofInt]; omega⟩
  have hi : (m % 32#8).toNat < 32 := by rw [BitVec.toNat_umod]; exact Nat.mod_lt _ (by decide)
  have hk : (n % 32#8).toNat < 32 := by rw [BitVec.toNat_umod]; exact Nat.mod_lt _ (by decide)
  refine fn_enter (n := 68) Try.func9 rfl rfl (Nat.le_of_ble_eq_true rfl) (fun e => ?_)
  refine k_seq ?_
  refine k_region ?_
  refine m_bool rfl rfl ?_
  refine o_nil ?_
  refine k_seq ?_
  refine k_seq ?_
  refine k_region ?_
  refine o_call rfl rfl (fixed_ok w) (fun v w1 hv => ?_)
  obtain ⟨rfl, rfl⟩ := hv
  refine u_notb rfl ?_
  refine o_nil ?_
  refine k_condf rfl ?_
  refine k_skip ?_
  refine k_seq ?_
  refine k_region ?_
  refine m_int rfl rfl ?_
  refine v8_rem (b := 32#8) rfl rfl (by decide) ?_
  refine cv8_i rfl Try.underlying2 rfl ?_
  refine m_int rfl rfl ?_
  refine v8_rem (b := 32#8) rfl rfl (by decide) ?_
  refine cv8_i rfl Try.underlying2 rfl ?_
  generalize (m % 32#8).toNat = i at hi ⊢
  generalize (n % 32#8).toNat = k at hk ⊢
  refine m_int rfl rfl ?_
  refine m_int rfl rfl ?_
  refine o_nil ?_
  refine k_seq ?_
  refine k_seq ?_
  refine k_region ?_
  refine m_int rfl rfl ?_
  refine m_int rfl rfl ?_
  refine n_add rfl rfl (by omega) ?_
  refine b_lss rfl rfl ?_
  refine m_bool rfl rfl ?_
  refine o_split (t := 21) rfl (fun h => ?_) (fun h => ?_)
  ·
    refine g_yes rfl rfl ?_
    refine m_int rfl rfl ?_
    refine g_yes rfl rfl ?_
    refine m_int rfl rfl ?_
    refine g_yes rfl rfl ?_
    refine o_call rfl rfl (reckonF_ok w1 120 _ _) (fun v w1 hv => ?_)
    obtain ⟨rfl, rfl⟩ := hv
    refine g_yes rfl rfl ?_
    refine m_int rfl rfl ?_
    refine g_yes rfl rfl ?_
    refine o_call rfl rfl (reckonF_ok w1 120 _ _) (fun v w1 hv => ?_)
    obtain ⟨rfl, rfl⟩ := hv
    refine g_yes rfl rfl ?_
    refine m_int rfl rfl ?_
    refine g_yes rfl rfl ?_
    refine m_int rfl rfl ?_
    refine g_yes rfl rfl ?_
    refine m_int rfl rfl ?_
    refine g_yes rfl rfl ?_
    refine n_add rfl rfl (by omega) ?_
    refine g_yes rfl rfl ?_
    refine o_call rfl rfl (reckonF_ok w1 120 _ _) (fun v w1 hv => ?_)
    obtain ⟨rfl, rfl⟩ := hv
    refine g_yes rfl rfl ?_
    refine b_neq rfl rfl ?_
    refine pick_t rfl rfl ?_
    refine o_nil ?_
    refine k_no rfl (fun h' => h' (E1 a i k h)) ?_
    refine k_skip ?_
    refine k_seq ?_
    refine k_seq ?_
    refine k_region ?_
    refine m_int rfl rfl ?_
    refine m_int rfl rfl ?_
    refine o_call rfl rfl (reckonF_ok w1 120 _ _) (fun v w1 hv => ?_)
    obtain ⟨rfl, rfl⟩ := hv
    refine m_int rfl rfl ?_
    refine o_call rfl rfl (reckonF_ok w1 124 _ _) (fun v w1 hv => ?_)
    obtain ⟨rfl, rfl⟩ := hv
    refine m_int rfl rfl ?_
    refine m_int rfl rfl ?_
    refine o_call rfl rfl (reckonF_ok w1 124 _ _) (fun v w1 hv => ?_)
    obtain ⟨rfl, rfl⟩ := hv
    refine o_call rfl rfl (reckonF_ok w1 126 _ _) (fun v w1 hv => ?_)
    obtain ⟨rfl, rfl⟩ := hv
    refine b_neq rfl rfl ?_
    refine o_nil ?_
    refine k_no rfl (fun h' => h' (E2 a i hi)) ?_
    refine k_skip ?_
    refine k_seq ?_
    refine k_region ?_
    refine m_int rfl rfl ?_
    refine m_int rfl rfl ?_
    refine o_call rfl rfl (reckonT_ok w1 121 _ _) (fun v w1 hv => ?_)
    obtain ⟨rfl, rfl⟩ := hv
    refine m_int rfl rfl ?_
    refine o_call rfl rfl (reckonT_ok w1 121 _ _) (fun v w1 hv => ?_)
    obtain ⟨rfl, rfl⟩ := hv
    refine m_int rfl rfl ?_
    refine m_int rfl rfl ?_
    refine m_int rfl rfl ?_
    refine n_add rfl rfl (by omega) ?_
    refine o_call rfl rfl (reckonT_ok w1 121 _ _) (fun v w1 hv => ?_)
    obtain ⟨rfl, rfl⟩ := hv
    refine b_eql rfl rfl ?_
    refine m_bool rfl rfl ?_
    refine o_true (t := 55) rfl (E3 a i k hi hk) ?_
    refine g_yes rfl rfl ?_
    refine m_int rfl rfl ?_
    refine g_yes rfl rfl ?_
    refine m_int rfl rfl ?_
    refine g_yes rfl rfl ?_
    refine o_call rfl rfl (reckonT_ok w1 125 _ _) (fun v w1 hv => ?_)
    obtain ⟨rfl, rfl⟩ := hv
    refine g_yes rfl rfl ?_
    refine m_int rfl rfl ?_
    refine g_yes rfl rfl ?_
    refine o_call rfl rfl (reckonT_ok w1 125 _ _) (fun v w1 hv => ?_)
    obtain ⟨rfl, rfl⟩ := hv
    refine g_yes rfl rfl ?_
    refine m_int rfl rfl ?_
    refine g_yes rfl rfl ?_
    refine m_int rfl rfl ?_
    refine g_yes rfl rfl ?_
    refine m_int rfl rfl ?_
    refine g_yes rfl rfl ?_
    refine n_add rfl rfl (by omega) ?_
    refine g_yes rfl rfl ?_
    refine o_call rfl rfl (reckonT_ok w1 125 _ _) (fun v w1 hv => ?_)
    obtain ⟨rfl, rfl⟩ := hv
    refine g_yes rfl rfl ?_
    refine b_eql rfl rfl ?_
    refine pick_t rfl rfl ?_
    refine m_bool rfl rfl ?_
    refine o_nil ?_
    refine k_ret (ret_tmps (ts := [6]) (v := .bool _) rfl rfl ?_)
    exact ⟨congrArg Value.bool (decide_eq_true (E4 a i k hi hk)), Keep.refl _ _⟩
  ·
    refine g_no rfl rfl rfl ?_
    refine g_no rfl rfl rfl ?_
    refine g_no rfl rfl rfl ?_
    refine g_no rfl rfl rfl ?_
    refine g_no rfl rfl rfl ?_
    refine g_no rfl rfl rfl ?_
    refine g_no rfl rfl rfl ?_
    refine g_no rfl rfl rfl ?_
    refine g_no rfl rfl rfl ?_
    refine g_no rfl rfl rfl ?_
    refine g_no rfl rfl rfl ?_
    refine pick_f rfl rfl ?_
    refine o_nil ?_
    refine k_condf rfl ?_
    refine k_skip ?_
    refine k_seq ?_
    refine k_seq ?_
    refine k_region ?_
    refine m_int rfl rfl ?_
    refine m_int rfl rfl ?_
    refine o_call rfl rfl (reckonF_ok w1 120 _ _) (fun v w1 hv => ?_)
    obtain ⟨rfl, rfl⟩ := hv
    refine m_int rfl rfl ?_
    refine o_call rfl rfl (reckonF_ok w1 124 _ _) (fun v w1 hv => ?_)
    obtain ⟨rfl, rfl⟩ := hv
    refine m_int rfl rfl ?_
    refine m_int rfl rfl ?_
    refine o_call rfl rfl (reckonF_ok w1 124 _ _) (fun v w1 hv => ?_)
    obtain ⟨rfl, rfl⟩ := hv
    refine o_call rfl rfl (reckonF_ok w1 126 _ _) (fun v w1 hv => ?_)
    obtain ⟨rfl, rfl⟩ := hv
    refine b_neq rfl rfl ?_
    refine o_nil ?_
    refine k_no rfl (fun h' => h' (E2 a i hi)) ?_
    refine k_skip ?_
    refine k_seq ?_
    refine k_region ?_
    refine m_int rfl rfl ?_
    refine m_int rfl rfl ?_
    refine o_call rfl rfl (reckonT_ok w1 121 _ _) (fun v w1 hv => ?_)
    obtain ⟨rfl, rfl⟩ := hv
    refine m_int rfl rfl ?_
    refine o_call rfl rfl (reckonT_ok w1 121 _ _) (fun v w1 hv => ?_)
    obtain ⟨rfl, rfl⟩ := hv
    refine m_int rfl rfl ?_
    refine m_int rfl rfl ?_
    refine m_int rfl rfl ?_
    refine n_add rfl rfl (by omega) ?_
    refine o_call rfl rfl (reckonT_ok w1 121 _ _) (fun v w1 hv => ?_)
    obtain ⟨rfl, rfl⟩ := hv
    refine b_eql rfl rfl ?_
    refine m_bool rfl rfl ?_
    refine o_true (t := 55) rfl (E3 a i k hi hk) ?_
    refine g_yes rfl rfl ?_
    refine m_int rfl rfl ?_
    refine g_yes rfl rfl ?_
    refine m_int rfl rfl ?_
    refine g_yes rfl rfl ?_
    refine o_call rfl rfl (reckonT_ok w1 125 _ _) (fun v w1 hv => ?_)
    obtain ⟨rfl, rfl⟩ := hv
    refine g_yes rfl rfl ?_
    refine m_int rfl rfl ?_
    refine g_yes rfl rfl ?_
    refine o_call rfl rfl (reckonT_ok w1 125 _ _) (fun v w1 hv => ?_)
    obtain ⟨rfl, rfl⟩ := hv
    refine g_yes rfl rfl ?_
    refine m_int rfl rfl ?_
    refine g_yes rfl rfl ?_
    refine m_int rfl rfl ?_
    refine g_yes rfl rfl ?_
    refine m_int rfl rfl ?_
    refine g_yes rfl rfl ?_
    refine n_add rfl rfl (by omega) ?_
    refine g_yes rfl rfl ?_
    refine o_call rfl rfl (reckonT_ok w1 125 _ _) (fun v w1 hv => ?_)
    obtain ⟨rfl, rfl⟩ := hv
    refine g_yes rfl rfl ?_
    refine b_eql rfl rfl ?_
    refine pick_t rfl rfl ?_
    refine m_bool rfl rfl ?_
    refine o_nil ?_
    refine k_ret (ret_tmps (ts := [6]) (v := .bool _) rfl rfl ?_)
    exact ⟨congrArg Value.bool (decide_eq_true (E4 a i k hi hk)), Keep.refl _ _⟩
end Go.Proofs.Ytahhgocfgniejaa
