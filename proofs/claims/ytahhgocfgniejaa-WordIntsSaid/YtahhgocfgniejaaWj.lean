/- Plain facts: what the reference's Int and Long answer is what the program's do; the walks of both. No condition beyond what each contract names. -/
import Derived.Test.YtahhgocfgniejaaEx
import Derived.Test.YtahhgocfgniejaaWh
namespace Go.Proofs.Ytahhgocfgniejaa
open Go.RowKit E
set_option linter.unusedVariables false
set_option linter.unusedSimpArgs false
set_option maxRecDepth 100000
attribute [local irreducible] ow qw kw kq cw opW Ret
theorem L64 (n : Int) : W.L (IntKind.i64.wrap n) = W.L n := by
  unfold W.L; rw [IntKind.wrap_i32, IntKind.wrap_i32, IntKind.wrap_i64]; omega
theorem q96 (a b : Int) : W.wInt 96 a b = (W.L (W.L a + W.L b), 0) := rfl
theorem q100 (a b : Int) : W.wInt 100 a b = (W.L (W.L a - W.L b), 0) := rfl
theorem q104 (a b : Int) : W.wInt 104 a b = (W.L (W.L a * W.L b), 0) := rfl
theorem q0 (op a b : Int) (h : W.L b = 0) (ho : op = 108 ∨ op = 112) : W.wInt op a b = (0, 35) := by
  rcases ho with rfl | rfl
  · rw [i108, if_pos h]
  · rw [i112, if_pos h]
theorem q108 (a b : Int) (h : ¬ W.L b = 0) : W.wInt 108 a b = (W.L (IntKind.i64.wrap ((W.L a).tdiv (W.L b))), 0) := by
  rw [i108, if_neg h, L64]
theorem q112 (a b : Int) (h : ¬ W.L b = 0) : W.wInt 112 a b = (W.L ((W.L a).tmod (W.L b)), 0) := by
  rw [i112, if_neg h, W.L_eq _ (tdiv_range _ _ _ _ (W.L_range a) (by omega) (by omega))]
theorem q116 (a b : Int) : W.wInt 116 a b = (W.L (IntKind.i64.wrap (0 - W.L a)), 0) := by
  have e : W.wInt 116 a b = (W.L (0 - W.L a), 0) := rfl
  rw [e, L64]
theorem cnt32 (b : Int) (k : Nat) (hk : (k : Int) = W.L b % 32) : (BitVec.ofInt 32 b &&& 31#32).toNat = k := by
  rw [BitVec.toNat_and, BitVec.toNat_ofInt, show (31#32).toNat = 2 ^ 5 - 1 by decide, Nat.and_two_pow_sub_one_eq_mod]
  have hL : W.L b = (b + 2147483648) % 4294967296 - 2147483648 := by unfold W.L; exact IntKind.wrap_i32 b
  omega
theorem cntl (b : Int) (k : Nat) (hk : (k : Int) = b % 64) : (BitVec.ofInt 64 b &&& 63#64).toNat = k := by
  rw [BitVec.toNat_and, BitVec.toNat_ofInt, show (63#64).toNat = 2 ^ 6 - 1 by decide, Nat.and_two_pow_sub_one_eq_mod]
  omega
theorem q120 (a b : Int) (k : Nat) (hk : (k : Int) = W.L b % 32) : W.wInt 120 a b = (W.L (IntKind.i64.wrap (W.L a * 2 ^ k)), 0) := by
  have e : W.wInt 120 a b = (W.L (W.L a * 2 ^ min (BitVec.ofInt 32 b &&& 31#32).toNat 32), 0) := rfl
  rw [e, cnt32 b k hk, Nat.min_eq_left (by omega), L64]
theorem q122 (a b : Int) (k : Nat) (hk : (k : Int) = W.L b % 32) : W.wInt 122 a b = (W.L a / 2 ^ k, 0) := by
  have e : W.wInt 122 a b = ((W.L a).fdiv (2 ^ min (BitVec.ofInt 32 b &&& 31#32).toNat 32), 0) := rfl
  rw [e, cnt32 b k hk, Nat.min_eq_left (by omega), Int.fdiv_eq_ediv_of_nonneg _ (Int.le_of_lt (Int.pow_pos (by decide)))]
theorem q124 (a b x : Int) (k : Nat) (hk : (k : Int) = W.L b % 32) (hx : x = if W.L a < 0 then W.L a + 4294967296 else W.L a) : W.wInt 124 a b = (W.L (x / 2 ^ k), 0) := by
  have e : W.wInt 124 a b = (W.L ((BitVec.ofInt 32 (W.L a)) >>> (BitVec.ofInt 32 b &&& 31#32).toNat).toNat, 0) := rfl
  have h1 : x = ((BitVec.ofInt 32 (W.L a)).toNat : Int) := by
    have := W.L_range a
    rw [BitVec.toNat_ofInt, hx]
    split <;> omega
  rw [e, cnt32 b k hk, BitVec.toNat_ushiftRight, Nat.shiftRight_eq_div_pow, h1]
  simp
theorem wtoNat32 (a : BitVec 32) : IntKind.i32.wrap (a.toNat : Int) = a.toInt := by
  rw [IntKind.wrap_i32, BitVec.toInt_eq_toNat_cond]
  have := a.isLt
  split <;> omega
theorem sx (n : Int) (h : -2147483648 ≤ n ∧ n ≤ 2147483647) : BitVec.ofInt 64 n = (BitVec.ofInt 32 n).signExtend 64 := by
  apply BitVec.eq_of_toInt_eq
  rw [BitVec.toInt_signExtend_of_le (by decide), BitVec.toInt_ofInt, BitVec.toInt_ofInt, Int.bmod_def, Int.bmod_def]
  split <;> split <;> omega
theorem qbits (how a b : Int) (F : BitVec 32 → BitVec 32 → BitVec 32) (hF : ∀ A B : BitVec 32, bop how (A.signExtend 64) (B.signExtend 64) = (F A B).signExtend 64) :
    IntKind.i32.wrap ((F (BitVec.ofInt IntKind.i32.bits (W.L a)) (BitVec.ofInt IntKind.i32.bits (W.L b))).toNat : Int) = (bop how (BitVec.ofInt 64 (W.L a)) (BitVec.ofInt 64 (W.L b))).toInt := by
  rw [sx _ (W.L_range a), sx _ (W.L_range b), hF, BitVec.toInt_signExtend_of_le (by decide)]
  exact wtoNat32 _
theorem q126 (a b : Int) : W.wInt 126 a b = ((bop 0 (BitVec.ofInt 64 (W.L a)) (BitVec.ofInt 64 (W.L b))).toInt, 0) := by
  rw [← qbits 0 a b (· &&& ·) (fun A B => (BitVec.signExtend_and).symm)]; rfl
theorem q128 (a b : Int) : W.wInt 128 a b = ((bop 1 (BitVec.ofInt 64 (W.L a)) (BitVec.ofInt 64 (W.L b))).toInt, 0) := by
  rw [← qbits 1 a b (· ||| ·) (fun A B => (BitVec.signExtend_or).symm)]; rfl
theorem q130 (a b : Int) : W.wInt 130 a b = ((bop 2 (BitVec.ofInt 64 (W.L a)) (BitVec.ofInt 64 (W.L b))).toInt, 0) := by
  rw [← qbits 2 a b (· ^^^ ·) (fun A B => (BitVec.signExtend_xor).symm)]; rfl
theorem qelse (op a b : Int) (h : ¬ (op = 96 ∨ op = 100 ∨ op = 104 ∨ op = 108 ∨ op = 112 ∨ op = 116 ∨ op = 120 ∨ op = 122 ∨ op = 124 ∨ op = 126 ∨ op = 128 ∨ op = 130)) : W.wInt op a b = (0, 1) := by
  unfold W.wInt W.rk
  rw [if_neg (by omega), if_neg (by omega), if_neg (by omega), if_neg (fun h' => by have := h'.1; omega), if_neg (by omega), if_neg (by omega), if_neg (by omega), if_neg (by omega), if_neg (by omega), if_neg (by omega), if_neg (by omega), if_neg (by omega), if_neg (by omega)]
theorem mulr (x y : Int) (hx : -2147483648 ≤ x ∧ x ≤ 2147483647) (hy : -2147483648 ≤ y ∧ y ≤ 2147483647) : -4611686018427387904 ≤ x * y ∧ x * y ≤ 4611686018427387904 := by
  have h : (x * y).natAbs ≤ 2147483648 * 2147483648 := by
    rw [Int.natAbs_mul]; exact Nat.mul_le_mul (by omega) (by omega)
  omega
theorem tup {op a b : Int} {p : Int × Int} (h : W.wInt op a b = p) : Value.tuple #[.int .i64 p.1, .int .i64 p.2] = .tuple #[.int .i64 (W.wInt op a b).1, .int .i64 (W.wInt op a b).2] := by rw [h]

theorem rint_ok (w : World) (op a b : Int) : Ret Try.prog 12 [.int .i64 op, .int .i64 a, .int .i64 b] w (fun v w' => v = .tuple #[.int .i64 (W.wInt op a b).1, .int .i64 (W.wInt op a b).2] ∧ w' = w) := by
  have hA := W.L_range a
  have hB := W.L_range b
  have hm := mulr _ _ hA hB
  have r32 := tdiv_range (W.L b) 32 _ _ hB (by omega) (by omega)
  obtain ⟨k, hk⟩ : ∃ k : Nat, (k : Int) = W.L b % 32 := ⟨(W.L b % 32).toNat, by omega⟩
  have p32 := posmod (W.L b) 32 (by omega)
  refine fn_enter (n := 92) Try.func12 rfl rfl (Nat.le_of_ble_eq_true rfl) (fun e => ?_)
  refine k_seq ?_
  refine k_region ?_
  refine m_int rfl rfl ?_
  refine m_int rfl rfl ?_
  refine o_nil ?_
  refine k_seq ?_
  refine k_region ?_
  refine m_int rfl rfl ?_
  refine o_call rfl rfl (low_ok w _) (fun v w1 hv => ?_)
  obtain ⟨rfl, rfl⟩ := hv
  refine m_int rfl rfl ?_
  refine o_call rfl rfl (low_ok w1 _) (fun v w1 hv => ?_)
  obtain ⟨rfl, rfl⟩ := hv
  refine m_int rfl rfl ?_
  refine m_int rfl rfl ?_
  refine o_nil ?_
  refine k_seq ?_
  refine k_region ?_
  refine m_int rfl rfl ?_
  refine b_rem rfl rfl (by omega) ?_
  refine n_add rfl rfl (by omega) ?_
  refine b_rem rfl rfl (by omega) ?_
  rw [p32, ← hk]
  refine m_int rfl rfl ?_
  refine o_nil ?_
  refine k_seq ?_
  refine k_seq ?_
  refine k_region ?_
  refine m_int rfl rfl ?_
  refine o_nil ?_
  refine k_block ?_
  refine k_seq ?_
  refine k_region ?_
  refine b_eql rfl rfl ?_
  refine m_bool rfl rfl ?_
  refine o_nil ?_
  refine k_cond rfl (fun h => ?_) (fun h => ?_)
  ·
    refine k_seq ?_
    refine k_region ?_
    refine m_int rfl rfl ?_
    refine m_int rfl rfl ?_
    refine n_add rfl rfl (by omega) ?_
    refine o_call rfl rfl (low_ok w1 _) (fun v w1 hv => ?_)
    obtain ⟨rfl, rfl⟩ := hv
    refine m_int rfl rfl ?_
    refine m_int rfl rfl ?_
    refine o_nil ?_
    refine k_ret (ret_tmps (ts := [6, 7]) (v := .tuple #[.int _ _, .int _ _]) rfl rfl ?_)
    refine ⟨?_, rfl⟩
    first
     | exact tup (qelse op a b (by omega))
     | exact tup (q0 op a b (by assumption) (by omega))
     | (obtain rfl : op = 96 := by omega
        exact tup (q96 a b))
     | (obtain rfl : op = 100 := by omega
        exact tup (q100 a b))
     | (obtain rfl : op = 104 := by omega
        exact tup (q104 a b))
     | (obtain rfl : op = 108 := by omega
        exact tup (q108 a b (by assumption)))
     | (obtain rfl : op = 112 := by omega
        exact tup (q112 a b (by assumption)))
     | (obtain rfl : op = 116 := by omega
        exact tup (q116 a b))
     | (obtain rfl : op = 120 := by omega
        exact tup (q120 a b k hk))
     | (obtain rfl : op = 122 := by omega
        exact tup (q122 a b k hk))
     | (obtain rfl : op = 124 := by omega
        exact tup (q124 a b _ k hk (by first | rw [if_pos (by assumption)] | rw [if_neg (by assumption)])))
     | (obtain rfl : op = 126 := by omega
        exact tup (q126 a b))
     | (obtain rfl : op = 128 := by omega
        exact tup (q128 a b))
     | (obtain rfl : op = 130 := by omega
        exact tup (q130 a b))
     | (exfalso; omega)
  refine k_seq ?_
  refine k_region ?_
  refine b_eql rfl rfl ?_
  refine m_bool rfl rfl ?_
  refine o_nil ?_
  refine k_cond rfl (fun h => ?_) (fun h => ?_)
  ·
    refine k_seq ?_
    refine k_region ?_
    refine m_int rfl rfl ?_
    refine m_int rfl rfl ?_
    refine n_sub rfl rfl (by omega) ?_
    refine o_call rfl rfl (low_ok w1 _) (fun v w1 hv => ?_)
    obtain ⟨rfl, rfl⟩ := hv
    refine m_int rfl rfl ?_
    refine m_int rfl rfl ?_
    refine o_nil ?_
    refine k_ret (ret_tmps (ts := [6, 7]) (v := .tuple #[.int _ _, .int _ _]) rfl rfl ?_)
    refine ⟨?_, rfl⟩
    first
     | exact tup (qelse op a b (by omega))
     | exact tup (q0 op a b (by assumption) (by omega))
     | (obtain rfl : op = 96 := by omega
        exact tup (q96 a b))
     | (obtain rfl : op = 100 := by omega
        exact tup (q100 a b))
     | (obtain rfl : op = 104 := by omega
        exact tup (q104 a b))
     | (obtain rfl : op = 108 := by omega
        exact tup (q108 a b (by assumption)))
     | (obtain rfl : op = 112 := by omega
        exact tup (q112 a b (by assumption)))
     | (obtain rfl : op = 116 := by omega
        exact tup (q116 a b))
     | (obtain rfl : op = 120 := by omega
        exact tup (q120 a b k hk))
     | (obtain rfl : op = 122 := by omega
        exact tup (q122 a b k hk))
     | (obtain rfl : op = 124 := by omega
        exact tup (q124 a b _ k hk (by first | rw [if_pos (by assumption)] | rw [if_neg (by assumption)])))
     | (obtain rfl : op = 126 := by omega
        exact tup (q126 a b))
     | (obtain rfl : op = 128 := by omega
        exact tup (q128 a b))
     | (obtain rfl : op = 130 := by omega
        exact tup (q130 a b))
     | (exfalso; omega)
  refine k_seq ?_
  refine k_region ?_
  refine b_eql rfl rfl ?_
  refine m_bool rfl rfl ?_
  refine o_nil ?_
  refine k_cond rfl (fun h => ?_) (fun h => ?_)
  ·
    refine k_seq ?_
    refine k_region ?_
    refine m_int rfl rfl ?_
    refine m_int rfl rfl ?_
    refine n_mul rfl rfl (by omega) ?_
    refine o_call rfl rfl (low_ok w1 _) (fun v w1 hv => ?_)
    obtain ⟨rfl, rfl⟩ := hv
    refine m_int rfl rfl ?_
    refine m_int rfl rfl ?_
    refine o_nil ?_
    refine k_ret (ret_tmps (ts := [6, 7]) (v := .tuple #[.int _ _, .int _ _]) rfl rfl ?_)
    refine ⟨?_, rfl⟩
    first
     | exact tup (qelse op a b (by omega))
     | exact tup (q0 op a b (by assumption) (by omega))
     | (obtain rfl : op = 96 := by omega
        exact tup (q96 a b))
     | (obtain rfl : op = 100 := by omega
        exact tup (q100 a b))
     | (obtain rfl : op = 104 := by omega
        exact tup (q104 a b))
     | (obtain rfl : op = 108 := by omega
        exact tup (q108 a b (by assumption)))
     | (obtain rfl : op = 112 := by omega
        exact tup (q112 a b (by assumption)))
     | (obtain rfl : op = 116 := by omega
        exact tup (q116 a b))
     | (obtain rfl : op = 120 := by omega
        exact tup (q120 a b k hk))
     | (obtain rfl : op = 122 := by omega
        exact tup (q122 a b k hk))
     | (obtain rfl : op = 124 := by omega
        exact tup (q124 a b _ k hk (by first | rw [if_pos (by assumption)] | rw [if_neg (by assumption)])))
     | (obtain rfl : op = 126 := by omega
        exact tup (q126 a b))
     | (obtain rfl : op = 128 := by omega
        exact tup (q128 a b))
     | (obtain rfl : op = 130 := by omega
        exact tup (q130 a b))
     | (exfalso; omega)
  refine k_seq ?_
  refine k_seq ?_
  refine k_region ?_
  refine b_eql rfl rfl ?_
  refine m_bool rfl rfl ?_
  refine o_nil ?_
  refine k_cond rfl (fun h => ?_) (fun h => ?_)
  ·
    refine k_skip ?_
    refine k_cond rfl (fun h => ?_) (fun h => ?_)
    ·
      refine k_seq ?_
      refine k_seq ?_
      refine k_region ?_
      refine m_int rfl rfl ?_
      refine b_eql rfl rfl ?_
      refine o_nil ?_
      refine k_cond rfl (fun h => ?_) (fun h => ?_)
      ·
        refine k_seq ?_
        refine k_region ?_
        refine m_int rfl rfl ?_
        refine m_int rfl rfl ?_
        refine o_nil ?_
        refine k_ret (ret_tmps (ts := [6, 7]) (v := .tuple #[.int _ _, .int _ _]) rfl rfl ?_)
        refine ⟨?_, rfl⟩
        first
         | exact tup (qelse op a b (by omega))
         | exact tup (q0 op a b (by assumption) (by omega))
         | (obtain rfl : op = 96 := by omega
            exact tup (q96 a b))
         | (obtain rfl : op = 100 := by omega
            exact tup (q100 a b))
         | (obtain rfl : op = 104 := by omega
            exact tup (q104 a b))
         | (obtain rfl : op = 108 := by omega
            exact tup (q108 a b (by assumption)))
         | (obtain rfl : op = 112 := by omega
            exact tup (q112 a b (by assumption)))
         | (obtain rfl : op = 116 := by omega
            exact tup (q116 a b))
         | (obtain rfl : op = 120 := by omega
            exact tup (q120 a b k hk))
         | (obtain rfl : op = 122 := by omega
            exact tup (q122 a b k hk))
         | (obtain rfl : op = 124 := by omega
            exact tup (q124 a b _ k hk (by first | rw [if_pos (by assumption)] | rw [if_neg (by assumption)])))
         | (obtain rfl : op = 126 := by omega
            exact tup (q126 a b))
         | (obtain rfl : op = 128 := by omega
            exact tup (q128 a b))
         | (obtain rfl : op = 130 := by omega
            exact tup (q130 a b))
         | (exfalso; omega)
      refine k_skip ?_
      refine k_seq ?_
      refine k_seq ?_
      refine k_region ?_
      refine m_int rfl rfl ?_
      refine b_eql rfl rfl ?_
      refine o_nil ?_
      refine k_cond rfl (fun h => ?_) (fun h => ?_)
      ·
        refine k_seq ?_
        refine k_region ?_
        refine m_int rfl rfl ?_
        refine m_int rfl rfl ?_
        refine b_quo rfl rfl (by omega) ?_
        refine o_call rfl rfl (low_ok w1 _) (fun v w1 hv => ?_)
        obtain ⟨rfl, rfl⟩ := hv
        refine m_int rfl rfl ?_
        refine m_int rfl rfl ?_
        refine o_nil ?_
        refine k_ret (ret_tmps (ts := [6, 7]) (v := .tuple #[.int _ _, .int _ _]) rfl rfl ?_)
        refine ⟨?_, rfl⟩
        first
         | exact tup (qelse op a b (by omega))
         | exact tup (q0 op a b (by assumption) (by omega))
         | (obtain rfl : op = 96 := by omega
            exact tup (q96 a b))
         | (obtain rfl : op = 100 := by omega
            exact tup (q100 a b))
         | (obtain rfl : op = 104 := by omega
            exact tup (q104 a b))
         | (obtain rfl : op = 108 := by omega
            exact tup (q108 a b (by assumption)))
         | (obtain rfl : op = 112 := by omega
            exact tup (q112 a b (by assumption)))
         | (obtain rfl : op = 116 := by omega
            exact tup (q116 a b))
         | (obtain rfl : op = 120 := by omega
            exact tup (q120 a b k hk))
         | (obtain rfl : op = 122 := by omega
            exact tup (q122 a b k hk))
         | (obtain rfl : op = 124 := by omega
            exact tup (q124 a b _ k hk (by first | rw [if_pos (by assumption)] | rw [if_neg (by assumption)])))
         | (obtain rfl : op = 126 := by omega
            exact tup (q126 a b))
         | (obtain rfl : op = 128 := by omega
            exact tup (q128 a b))
         | (obtain rfl : op = 130 := by omega
            exact tup (q130 a b))
         | (exfalso; omega)
      refine k_skip ?_
      refine k_seq ?_
      refine k_region ?_
      refine m_int rfl rfl ?_
      refine m_int rfl rfl ?_
      refine b_rem rfl rfl (by omega) ?_
      refine o_call rfl rfl (low_ok w1 _) (fun v w1 hv => ?_)
      obtain ⟨rfl, rfl⟩ := hv
      refine m_int rfl rfl ?_
      refine m_int rfl rfl ?_
      refine o_nil ?_
      refine k_ret (ret_tmps (ts := [6, 7]) (v := .tuple #[.int _ _, .int _ _]) rfl rfl ?_)
      refine ⟨?_, rfl⟩
      first
       | exact tup (qelse op a b (by omega))
       | exact tup (q0 op a b (by assumption) (by omega))
       | (obtain rfl : op = 96 := by omega
          exact tup (q96 a b))
       | (obtain rfl : op = 100 := by omega
          exact tup (q100 a b))
       | (obtain rfl : op = 104 := by omega
          exact tup (q104 a b))
       | (obtain rfl : op = 108 := by omega
          exact tup (q108 a b (by assumption)))
       | (obtain rfl : op = 112 := by omega
          exact tup (q112 a b (by assumption)))
       | (obtain rfl : op = 116 := by omega
          exact tup (q116 a b))
       | (obtain rfl : op = 120 := by omega
          exact tup (q120 a b k hk))
       | (obtain rfl : op = 122 := by omega
          exact tup (q122 a b k hk))
       | (obtain rfl : op = 124 := by omega
          exact tup (q124 a b _ k hk (by first | rw [if_pos (by assumption)] | rw [if_neg (by assumption)])))
       | (obtain rfl : op = 126 := by omega
          exact tup (q126 a b))
       | (obtain rfl : op = 128 := by omega
          exact tup (q128 a b))
       | (obtain rfl : op = 130 := by omega
          exact tup (q130 a b))
       | (exfalso; omega)
    refine k_seq ?_
    refine k_region ?_
    refine b_eql rfl rfl ?_
    refine m_bool rfl rfl ?_
    refine o_nil ?_
    refine k_cond rfl (fun h => ?_) (fun h => ?_)
    ·
      refine k_seq ?_
      refine k_region ?_
      refine m_int rfl rfl ?_
      refine u_neg rfl ?_
      refine o_call rfl rfl (low_ok w1 _) (fun v w1 hv => ?_)
      obtain ⟨rfl, rfl⟩ := hv
      refine m_int rfl rfl ?_
      refine m_int rfl rfl ?_
      refine o_nil ?_
      refine k_ret (ret_tmps (ts := [6, 7]) (v := .tuple #[.int _ _, .int _ _]) rfl rfl ?_)
      refine ⟨?_, rfl⟩
      first
       | exact tup (qelse op a b (by omega))
       | exact tup (q0 op a b (by assumption) (by omega))
       | (obtain rfl : op = 96 := by omega
          exact tup (q96 a b))
       | (obtain rfl : op = 100 := by omega
          exact tup (q100 a b))
       | (obtain rfl : op = 104 := by omega
          exact tup (q104 a b))
       | (obtain rfl : op = 108 := by omega
          exact tup (q108 a b (by assumption)))
       | (obtain rfl : op = 112 := by omega
          exact tup (q112 a b (by assumption)))
       | (obtain rfl : op = 116 := by omega
          exact tup (q116 a b))
       | (obtain rfl : op = 120 := by omega
          exact tup (q120 a b k hk))
       | (obtain rfl : op = 122 := by omega
          exact tup (q122 a b k hk))
       | (obtain rfl : op = 124 := by omega
          exact tup (q124 a b _ k hk (by first | rw [if_pos (by assumption)] | rw [if_neg (by assumption)])))
       | (obtain rfl : op = 126 := by omega
          exact tup (q126 a b))
       | (obtain rfl : op = 128 := by omega
          exact tup (q128 a b))
       | (obtain rfl : op = 130 := by omega
          exact tup (q130 a b))
       | (exfalso; omega)
    refine k_seq ?_
    refine k_region ?_
    refine b_eql rfl rfl ?_
    refine m_bool rfl rfl ?_
    refine o_nil ?_
    refine k_cond rfl (fun h => ?_) (fun h => ?_)
    ·
      refine k_seq ?_
      refine k_region ?_
      refine m_int rfl rfl ?_
      refine m_int rfl rfl ?_
      refine o_call rfl rfl (up_ok w1 _ k (by omega) (by omega)) (fun v w1 hv => ?_)
      obtain ⟨rfl, rfl⟩ := hv
      refine o_call rfl rfl (low_ok w1 _) (fun v w1 hv => ?_)
      obtain ⟨rfl, rfl⟩ := hv
      refine m_int rfl rfl ?_
      refine m_int rfl rfl ?_
      refine o_nil ?_
      refine k_ret (ret_tmps (ts := [6, 7]) (v := .tuple #[.int _ _, .int _ _]) rfl rfl ?_)
      refine ⟨?_, rfl⟩
      first
       | exact tup (qelse op a b (by omega))
       | exact tup (q0 op a b (by assumption) (by omega))
       | (obtain rfl : op = 96 := by omega
          exact tup (q96 a b))
       | (obtain rfl : op = 100 := by omega
          exact tup (q100 a b))
       | (obtain rfl : op = 104 := by omega
          exact tup (q104 a b))
       | (obtain rfl : op = 108 := by omega
          exact tup (q108 a b (by assumption)))
       | (obtain rfl : op = 112 := by omega
          exact tup (q112 a b (by assumption)))
       | (obtain rfl : op = 116 := by omega
          exact tup (q116 a b))
       | (obtain rfl : op = 120 := by omega
          exact tup (q120 a b k hk))
       | (obtain rfl : op = 122 := by omega
          exact tup (q122 a b k hk))
       | (obtain rfl : op = 124 := by omega
          exact tup (q124 a b _ k hk (by first | rw [if_pos (by assumption)] | rw [if_neg (by assumption)])))
       | (obtain rfl : op = 126 := by omega
          exact tup (q126 a b))
       | (obtain rfl : op = 128 := by omega
          exact tup (q128 a b))
       | (obtain rfl : op = 130 := by omega
          exact tup (q130 a b))
       | (exfalso; omega)
    refine k_seq ?_
    refine k_region ?_
    refine b_eql rfl rfl ?_
    refine m_bool rfl rfl ?_
    refine o_nil ?_
    refine k_cond rfl (fun h => ?_) (fun h => ?_)
    ·
      refine k_seq ?_
      refine k_region ?_
      refine m_int rfl rfl ?_
      refine m_int rfl rfl ?_
      refine o_call rfl rfl (down_ok w1 _ k (by omega) (by omega)) (fun v w1 hv => ?_)
      obtain ⟨rfl, rfl⟩ := hv
      refine m_int rfl rfl ?_
      refine m_int rfl rfl ?_
      refine o_nil ?_
      refine k_ret (ret_tmps (ts := [6, 7]) (v := .tuple #[.int _ _, .int _ _]) rfl rfl ?_)
      refine ⟨?_, rfl⟩
      first
       | exact tup (qelse op a b (by omega))
       | exact tup (q0 op a b (by assumption) (by omega))
       | (obtain rfl : op = 96 := by omega
          exact tup (q96 a b))
       | (obtain rfl : op = 100 := by omega
          exact tup (q100 a b))
       | (obtain rfl : op = 104 := by omega
          exact tup (q104 a b))
       | (obtain rfl : op = 108 := by omega
          exact tup (q108 a b (by assumption)))
       | (obtain rfl : op = 112 := by omega
          exact tup (q112 a b (by assumption)))
       | (obtain rfl : op = 116 := by omega
          exact tup (q116 a b))
       | (obtain rfl : op = 120 := by omega
          exact tup (q120 a b k hk))
       | (obtain rfl : op = 122 := by omega
          exact tup (q122 a b k hk))
       | (obtain rfl : op = 124 := by omega
          exact tup (q124 a b _ k hk (by first | rw [if_pos (by assumption)] | rw [if_neg (by assumption)])))
       | (obtain rfl : op = 126 := by omega
          exact tup (q126 a b))
       | (obtain rfl : op = 128 := by omega
          exact tup (q128 a b))
       | (obtain rfl : op = 130 := by omega
          exact tup (q130 a b))
       | (exfalso; omega)
    refine k_seq ?_
    refine k_region ?_
    refine b_eql rfl rfl ?_
    refine m_bool rfl rfl ?_
    refine o_nil ?_
    refine k_cond rfl (fun h => ?_) (fun h => ?_)
    ·
      refine k_seq ?_
      refine k_seq ?_
      refine k_region ?_
      refine m_int rfl rfl ?_
      refine b_lss rfl rfl ?_
      refine o_nil ?_
      refine k_cond rfl (fun h => ?_) (fun h => ?_)
      ·
        refine k_region ?_
        refine m_int rfl rfl ?_
        refine n_add rfl rfl (by omega) ?_
        refine m_int rfl rfl ?_
        refine o_nil ?_
        refine k_seq ?_
        refine k_region ?_
        refine m_int rfl rfl ?_
        refine m_int rfl rfl ?_
        refine o_call rfl rfl (down_ok w1 _ k (by omega) (by omega)) (fun v w1 hv => ?_)
        obtain ⟨rfl, rfl⟩ := hv
        refine o_call rfl rfl (low_ok w1 _) (fun v w1 hv => ?_)
        obtain ⟨rfl, rfl⟩ := hv
        refine m_int rfl rfl ?_
        refine m_int rfl rfl ?_
        refine o_nil ?_
        refine k_ret (ret_tmps (ts := [6, 7]) (v := .tuple #[.int _ _, .int _ _]) rfl rfl ?_)
        refine ⟨?_, rfl⟩
        first
         | exact tup (qelse op a b (by omega))
         | exact tup (q0 op a b (by assumption) (by omega))
         | (obtain rfl : op = 96 := by omega
            exact tup (q96 a b))
         | (obtain rfl : op = 100 := by omega
            exact tup (q100 a b))
         | (obtain rfl : op = 104 := by omega
            exact tup (q104 a b))
         | (obtain rfl : op = 108 := by omega
            exact tup (q108 a b (by assumption)))
         | (obtain rfl : op = 112 := by omega
            exact tup (q112 a b (by assumption)))
         | (obtain rfl : op = 116 := by omega
            exact tup (q116 a b))
         | (obtain rfl : op = 120 := by omega
            exact tup (q120 a b k hk))
         | (obtain rfl : op = 122 := by omega
            exact tup (q122 a b k hk))
         | (obtain rfl : op = 124 := by omega
            exact tup (q124 a b _ k hk (by first | rw [if_pos (by assumption)] | rw [if_neg (by assumption)])))
         | (obtain rfl : op = 126 := by omega
            exact tup (q126 a b))
         | (obtain rfl : op = 128 := by omega
            exact tup (q128 a b))
         | (obtain rfl : op = 130 := by omega
            exact tup (q130 a b))
         | (exfalso; omega)
      refine k_skip ?_
      refine k_seq ?_
      refine k_region ?_
      refine m_int rfl rfl ?_
      refine m_int rfl rfl ?_
      refine o_call rfl rfl (down_ok w1 _ k (by omega) (by omega)) (fun v w1 hv => ?_)
      obtain ⟨rfl, rfl⟩ := hv
      refine o_call rfl rfl (low_ok w1 _) (fun v w1 hv => ?_)
      obtain ⟨rfl, rfl⟩ := hv
      refine m_int rfl rfl ?_
      refine m_int rfl rfl ?_
      refine o_nil ?_
      refine k_ret (ret_tmps (ts := [6, 7]) (v := .tuple #[.int _ _, .int _ _]) rfl rfl ?_)
      refine ⟨?_, rfl⟩
      first
       | exact tup (qelse op a b (by omega))
       | exact tup (q0 op a b (by assumption) (by omega))
       | (obtain rfl : op = 96 := by omega
          exact tup (q96 a b))
       | (obtain rfl : op = 100 := by omega
          exact tup (q100 a b))
       | (obtain rfl : op = 104 := by omega
          exact tup (q104 a b))
       | (obtain rfl : op = 108 := by omega
          exact tup (q108 a b (by assumption)))
       | (obtain rfl : op = 112 := by omega
          exact tup (q112 a b (by assumption)))
       | (obtain rfl : op = 116 := by omega
          exact tup (q116 a b))
       | (obtain rfl : op = 120 := by omega
          exact tup (q120 a b k hk))
       | (obtain rfl : op = 122 := by omega
          exact tup (q122 a b k hk))
       | (obtain rfl : op = 124 := by omega
          exact tup (q124 a b _ k hk (by first | rw [if_pos (by assumption)] | rw [if_neg (by assumption)])))
       | (obtain rfl : op = 126 := by omega
          exact tup (q126 a b))
       | (obtain rfl : op = 128 := by omega
          exact tup (q128 a b))
       | (obtain rfl : op = 130 := by omega
          exact tup (q130 a b))
       | (exfalso; omega)
    refine k_seq ?_
    refine k_region ?_
    refine b_eql rfl rfl ?_
    refine m_bool rfl rfl ?_
    refine o_nil ?_
    refine k_cond rfl (fun h => ?_) (fun h => ?_)
    ·
      refine k_seq ?_
      refine k_region ?_
      refine m_int rfl rfl ?_
      refine m_int rfl rfl ?_
      refine o_call rfl rfl (bits_ok w1 _ _ 0 (by omega)) (fun v w1 hv => ?_)
      obtain ⟨rfl, rfl⟩ := hv
      refine m_int rfl rfl ?_
      refine m_int rfl rfl ?_
      refine o_nil ?_
      refine k_ret (ret_tmps (ts := [6, 7]) (v := .tuple #[.int _ _, .int _ _]) rfl rfl ?_)
      refine ⟨?_, rfl⟩
      first
       | exact tup (qelse op a b (by omega))
       | exact tup (q0 op a b (by assumption) (by omega))
       | (obtain rfl : op = 96 := by omega
          exact tup (q96 a b))
       | (obtain rfl : op = 100 := by omega
          exact tup (q100 a b))
       | (obtain rfl : op = 104 := by omega
          exact tup (q104 a b))
       | (obtain rfl : op = 108 := by omega
          exact tup (q108 a b (by assumption)))
       | (obtain rfl : op = 112 := by omega
          exact tup (q112 a b (by assumption)))
       | (obtain rfl : op = 116 := by omega
          exact tup (q116 a b))
       | (obtain rfl : op = 120 := by omega
          exact tup (q120 a b k hk))
       | (obtain rfl : op = 122 := by omega
          exact tup (q122 a b k hk))
       | (obtain rfl : op = 124 := by omega
          exact tup (q124 a b _ k hk (by first | rw [if_pos (by assumption)] | rw [if_neg (by assumption)])))
       | (obtain rfl : op = 126 := by omega
          exact tup (q126 a b))
       | (obtain rfl : op = 128 := by omega
          exact tup (q128 a b))
       | (obtain rfl : op = 130 := by omega
          exact tup (q130 a b))
       | (exfalso; omega)
    refine k_seq ?_
    refine k_region ?_
    refine b_eql rfl rfl ?_
    refine m_bool rfl rfl ?_
    refine o_nil ?_
    refine k_cond rfl (fun h => ?_) (fun h => ?_)
    ·
      refine k_seq ?_
      refine k_region ?_
      refine m_int rfl rfl ?_
      refine m_int rfl rfl ?_
      refine o_call rfl rfl (bits_ok w1 _ _ 1 (by omega)) (fun v w1 hv => ?_)
      obtain ⟨rfl, rfl⟩ := hv
      refine m_int rfl rfl ?_
      refine m_int rfl rfl ?_
      refine o_nil ?_
      refine k_ret (ret_tmps (ts := [6, 7]) (v := .tuple #[.int _ _, .int _ _]) rfl rfl ?_)
      refine ⟨?_, rfl⟩
      first
       | exact tup (qelse op a b (by omega))
       | exact tup (q0 op a b (by assumption) (by omega))
       | (obtain rfl : op = 96 := by omega
          exact tup (q96 a b))
       | (obtain rfl : op = 100 := by omega
          exact tup (q100 a b))
       | (obtain rfl : op = 104 := by omega
          exact tup (q104 a b))
       | (obtain rfl : op = 108 := by omega
          exact tup (q108 a b (by assumption)))
       | (obtain rfl : op = 112 := by omega
          exact tup (q112 a b (by assumption)))
       | (obtain rfl : op = 116 := by omega
          exact tup (q116 a b))
       | (obtain rfl : op = 120 := by omega
          exact tup (q120 a b k hk))
       | (obtain rfl : op = 122 := by omega
          exact tup (q122 a b k hk))
       | (obtain rfl : op = 124 := by omega
          exact tup (q124 a b _ k hk (by first | rw [if_pos (by assumption)] | rw [if_neg (by assumption)])))
       | (obtain rfl : op = 126 := by omega
          exact tup (q126 a b))
       | (obtain rfl : op = 128 := by omega
          exact tup (q128 a b))
       | (obtain rfl : op = 130 := by omega
          exact tup (q130 a b))
       | (exfalso; omega)
    refine k_seq ?_
    refine k_region ?_
    refine b_eql rfl rfl ?_
    refine m_bool rfl rfl ?_
    refine o_nil ?_
    refine k_cond rfl (fun h => ?_) (fun h => ?_)
    ·
      refine k_seq ?_
      refine k_region ?_
      refine m_int rfl rfl ?_
      refine m_int rfl rfl ?_
      refine o_call rfl rfl (bits_ok w1 _ _ 2 (by omega)) (fun v w1 hv => ?_)
      obtain ⟨rfl, rfl⟩ := hv
      refine m_int rfl rfl ?_
      refine m_int rfl rfl ?_
      refine o_nil ?_
      refine k_ret (ret_tmps (ts := [6, 7]) (v := .tuple #[.int _ _, .int _ _]) rfl rfl ?_)
      refine ⟨?_, rfl⟩
      first
       | exact tup (qelse op a b (by omega))
       | exact tup (q0 op a b (by assumption) (by omega))
       | (obtain rfl : op = 96 := by omega
          exact tup (q96 a b))
       | (obtain rfl : op = 100 := by omega
          exact tup (q100 a b))
       | (obtain rfl : op = 104 := by omega
          exact tup (q104 a b))
       | (obtain rfl : op = 108 := by omega
          exact tup (q108 a b (by assumption)))
       | (obtain rfl : op = 112 := by omega
          exact tup (q112 a b (by assumption)))
       | (obtain rfl : op = 116 := by omega
          exact tup (q116 a b))
       | (obtain rfl : op = 120 := by omega
          exact tup (q120 a b k hk))
       | (obtain rfl : op = 122 := by omega
          exact tup (q122 a b k hk))
       | (obtain rfl : op = 124 := by omega
          exact tup (q124 a b _ k hk (by first | rw [if_pos (by assumption)] | rw [if_neg (by assumption)])))
       | (obtain rfl : op = 126 := by omega
          exact tup (q126 a b))
       | (obtain rfl : op = 128 := by omega
          exact tup (q128 a b))
       | (obtain rfl : op = 130 := by omega
          exact tup (q130 a b))
       | (exfalso; omega)
    refine k_skip ?_
    refine k_blk ?_
    refine k_seq ?_
    refine k_region ?_
    refine m_int rfl rfl ?_
    refine m_int rfl rfl ?_
    refine o_nil ?_
    refine k_ret (ret_tmps (ts := [6, 7]) (v := .tuple #[.int _ _, .int _ _]) rfl rfl ?_)
    refine ⟨?_, rfl⟩
    first
     | exact tup (qelse op a b (by omega))
     | exact tup (q0 op a b (by assumption) (by omega))
     | (obtain rfl : op = 96 := by omega
        exact tup (q96 a b))
     | (obtain rfl : op = 100 := by omega
        exact tup (q100 a b))
     | (obtain rfl : op = 104 := by omega
        exact tup (q104 a b))
     | (obtain rfl : op = 108 := by omega
        exact tup (q108 a b (by assumption)))
     | (obtain rfl : op = 112 := by omega
        exact tup (q112 a b (by assumption)))
     | (obtain rfl : op = 116 := by omega
        exact tup (q116 a b))
     | (obtain rfl : op = 120 := by omega
        exact tup (q120 a b k hk))
     | (obtain rfl : op = 122 := by omega
        exact tup (q122 a b k hk))
     | (obtain rfl : op = 124 := by omega
        exact tup (q124 a b _ k hk (by first | rw [if_pos (by assumption)] | rw [if_neg (by assumption)])))
     | (obtain rfl : op = 126 := by omega
        exact tup (q126 a b))
     | (obtain rfl : op = 128 := by omega
        exact tup (q128 a b))
     | (obtain rfl : op = 130 := by omega
        exact tup (q130 a b))
     | (exfalso; omega)
  refine k_region ?_
  refine b_eql rfl rfl ?_
  refine m_bool rfl rfl ?_
  refine o_nil ?_
  refine k_cond rfl (fun h => ?_) (fun h => ?_)
  ·
    refine k_seq ?_
    refine k_seq ?_
    refine k_region ?_
    refine m_int rfl rfl ?_
    refine b_eql rfl rfl ?_
    refine o_nil ?_
    refine k_cond rfl (fun h => ?_) (fun h => ?_)
    ·
      refine k_seq ?_
      refine k_region ?_
      refine m_int rfl rfl ?_
      refine m_int rfl rfl ?_
      refine o_nil ?_
      refine k_ret (ret_tmps (ts := [6, 7]) (v := .tuple #[.int _ _, .int _ _]) rfl rfl ?_)
      refine ⟨?_, rfl⟩
      first
       | exact tup (qelse op a b (by omega))
       | exact tup (q0 op a b (by assumption) (by omega))
       | (obtain rfl : op = 96 := by omega
          exact tup (q96 a b))
       | (obtain rfl : op = 100 := by omega
          exact tup (q100 a b))
       | (obtain rfl : op = 104 := by omega
          exact tup (q104 a b))
       | (obtain rfl : op = 108 := by omega
          exact tup (q108 a b (by assumption)))
       | (obtain rfl : op = 112 := by omega
          exact tup (q112 a b (by assumption)))
       | (obtain rfl : op = 116 := by omega
          exact tup (q116 a b))
       | (obtain rfl : op = 120 := by omega
          exact tup (q120 a b k hk))
       | (obtain rfl : op = 122 := by omega
          exact tup (q122 a b k hk))
       | (obtain rfl : op = 124 := by omega
          exact tup (q124 a b _ k hk (by first | rw [if_pos (by assumption)] | rw [if_neg (by assumption)])))
       | (obtain rfl : op = 126 := by omega
          exact tup (q126 a b))
       | (obtain rfl : op = 128 := by omega
          exact tup (q128 a b))
       | (obtain rfl : op = 130 := by omega
          exact tup (q130 a b))
       | (exfalso; omega)
    refine k_skip ?_
    refine k_seq ?_
    refine k_seq ?_
    refine k_region ?_
    refine m_int rfl rfl ?_
    refine b_eql rfl rfl ?_
    refine o_nil ?_
    refine k_cond rfl (fun h => ?_) (fun h => ?_)
    ·
      refine k_seq ?_
      refine k_region ?_
      refine m_int rfl rfl ?_
      refine m_int rfl rfl ?_
      refine b_quo rfl rfl (by omega) ?_
      refine o_call rfl rfl (low_ok w1 _) (fun v w1 hv => ?_)
      obtain ⟨rfl, rfl⟩ := hv
      refine m_int rfl rfl ?_
      refine m_int rfl rfl ?_
      refine o_nil ?_
      refine k_ret (ret_tmps (ts := [6, 7]) (v := .tuple #[.int _ _, .int _ _]) rfl rfl ?_)
      refine ⟨?_, rfl⟩
      first
       | exact tup (qelse op a b (by omega))
       | exact tup (q0 op a b (by assumption) (by omega))
       | (obtain rfl : op = 96 := by omega
          exact tup (q96 a b))
       | (obtain rfl : op = 100 := by omega
          exact tup (q100 a b))
       | (obtain rfl : op = 104 := by omega
          exact tup (q104 a b))
       | (obtain rfl : op = 108 := by omega
          exact tup (q108 a b (by assumption)))
       | (obtain rfl : op = 112 := by omega
          exact tup (q112 a b (by assumption)))
       | (obtain rfl : op = 116 := by omega
          exact tup (q116 a b))
       | (obtain rfl : op = 120 := by omega
          exact tup (q120 a b k hk))
       | (obtain rfl : op = 122 := by omega
          exact tup (q122 a b k hk))
       | (obtain rfl : op = 124 := by omega
          exact tup (q124 a b _ k hk (by first | rw [if_pos (by assumption)] | rw [if_neg (by assumption)])))
       | (obtain rfl : op = 126 := by omega
          exact tup (q126 a b))
       | (obtain rfl : op = 128 := by omega
          exact tup (q128 a b))
       | (obtain rfl : op = 130 := by omega
          exact tup (q130 a b))
       | (exfalso; omega)
    refine k_skip ?_
    refine k_seq ?_
    refine k_region ?_
    refine m_int rfl rfl ?_
    refine m_int rfl rfl ?_
    refine b_rem rfl rfl (by omega) ?_
    refine o_call rfl rfl (low_ok w1 _) (fun v w1 hv => ?_)
    obtain ⟨rfl, rfl⟩ := hv
    refine m_int rfl rfl ?_
    refine m_int rfl rfl ?_
    refine o_nil ?_
    refine k_ret (ret_tmps (ts := [6, 7]) (v := .tuple #[.int _ _, .int _ _]) rfl rfl ?_)
    refine ⟨?_, rfl⟩
    first
     | exact tup (qelse op a b (by omega))
     | exact tup (q0 op a b (by assumption) (by omega))
     | (obtain rfl : op = 96 := by omega
        exact tup (q96 a b))
     | (obtain rfl : op = 100 := by omega
        exact tup (q100 a b))
     | (obtain rfl : op = 104 := by omega
        exact tup (q104 a b))
     | (obtain rfl : op = 108 := by omega
        exact tup (q108 a b (by assumption)))
     | (obtain rfl : op = 112 := by omega
        exact tup (q112 a b (by assumption)))
     | (obtain rfl : op = 116 := by omega
        exact tup (q116 a b))
     | (obtain rfl : op = 120 := by omega
        exact tup (q120 a b k hk))
     | (obtain rfl : op = 122 := by omega
        exact tup (q122 a b k hk))
     | (obtain rfl : op = 124 := by omega
        exact tup (q124 a b _ k hk (by first | rw [if_pos (by assumption)] | rw [if_neg (by assumption)])))
     | (obtain rfl : op = 126 := by omega
        exact tup (q126 a b))
     | (obtain rfl : op = 128 := by omega
        exact tup (q128 a b))
     | (obtain rfl : op = 130 := by omega
        exact tup (q130 a b))
     | (exfalso; omega)
  refine k_seq ?_
  refine k_region ?_
  refine b_eql rfl rfl ?_
  refine m_bool rfl rfl ?_
  refine o_nil ?_
  refine k_cond rfl (fun h => ?_) (fun h => ?_)
  ·
    refine k_seq ?_
    refine k_region ?_
    refine m_int rfl rfl ?_
    refine u_neg rfl ?_
    refine o_call rfl rfl (low_ok w1 _) (fun v w1 hv => ?_)
    obtain ⟨rfl, rfl⟩ := hv
    refine m_int rfl rfl ?_
    refine m_int rfl rfl ?_
    refine o_nil ?_
    refine k_ret (ret_tmps (ts := [6, 7]) (v := .tuple #[.int _ _, .int _ _]) rfl rfl ?_)
    refine ⟨?_, rfl⟩
    first
     | exact tup (qelse op a b (by omega))
     | exact tup (q0 op a b (by assumption) (by omega))
     | (obtain rfl : op = 96 := by omega
        exact tup (q96 a b))
     | (obtain rfl : op = 100 := by omega
        exact tup (q100 a b))
     | (obtain rfl : op = 104 := by omega
        exact tup (q104 a b))
     | (obtain rfl : op = 108 := by omega
        exact tup (q108 a b (by assumption)))
     | (obtain rfl : op = 112 := by omega
        exact tup (q112 a b (by assumption)))
     | (obtain rfl : op = 116 := by omega
        exact tup (q116 a b))
     | (obtain rfl : op = 120 := by omega
        exact tup (q120 a b k hk))
     | (obtain rfl : op = 122 := by omega
        exact tup (q122 a b k hk))
     | (obtain rfl : op = 124 := by omega
        exact tup (q124 a b _ k hk (by first | rw [if_pos (by assumption)] | rw [if_neg (by assumption)])))
     | (obtain rfl : op = 126 := by omega
        exact tup (q126 a b))
     | (obtain rfl : op = 128 := by omega
        exact tup (q128 a b))
     | (obtain rfl : op = 130 := by omega
        exact tup (q130 a b))
     | (exfalso; omega)
  refine k_seq ?_
  refine k_region ?_
  refine b_eql rfl rfl ?_
  refine m_bool rfl rfl ?_
  refine o_nil ?_
  refine k_cond rfl (fun h => ?_) (fun h => ?_)
  ·
    refine k_seq ?_
    refine k_region ?_
    refine m_int rfl rfl ?_
    refine m_int rfl rfl ?_
    refine o_call rfl rfl (up_ok w1 _ k (by omega) (by omega)) (fun v w1 hv => ?_)
    obtain ⟨rfl, rfl⟩ := hv
    refine o_call rfl rfl (low_ok w1 _) (fun v w1 hv => ?_)
    obtain ⟨rfl, rfl⟩ := hv
    refine m_int rfl rfl ?_
    refine m_int rfl rfl ?_
    refine o_nil ?_
    refine k_ret (ret_tmps (ts := [6, 7]) (v := .tuple #[.int _ _, .int _ _]) rfl rfl ?_)
    refine ⟨?_, rfl⟩
    first
     | exact tup (qelse op a b (by omega))
     | exact tup (q0 op a b (by assumption) (by omega))
     | (obtain rfl : op = 96 := by omega
        exact tup (q96 a b))
     | (obtain rfl : op = 100 := by omega
        exact tup (q100 a b))
     | (obtain rfl : op = 104 := by omega
        exact tup (q104 a b))
     | (obtain rfl : op = 108 := by omega
        exact tup (q108 a b (by assumption)))
     | (obtain rfl : op = 112 := by omega
        exact tup (q112 a b (by assumption)))
     | (obtain rfl : op = 116 := by omega
        exact tup (q116 a b))
     | (obtain rfl : op = 120 := by omega
        exact tup (q120 a b k hk))
     | (obtain rfl : op = 122 := by omega
        exact tup (q122 a b k hk))
     | (obtain rfl : op = 124 := by omega
        exact tup (q124 a b _ k hk (by first | rw [if_pos (by assumption)] | rw [if_neg (by assumption)])))
     | (obtain rfl : op = 126 := by omega
        exact tup (q126 a b))
     | (obtain rfl : op = 128 := by omega
        exact tup (q128 a b))
     | (obtain rfl : op = 130 := by omega
        exact tup (q130 a b))
     | (exfalso; omega)
  refine k_seq ?_
  refine k_region ?_
  refine b_eql rfl rfl ?_
  refine m_bool rfl rfl ?_
  refine o_nil ?_
  refine k_cond rfl (fun h => ?_) (fun h => ?_)
  ·
    refine k_seq ?_
    refine k_region ?_
    refine m_int rfl rfl ?_
    refine m_int rfl rfl ?_
    refine o_call rfl rfl (down_ok w1 _ k (by omega) (by omega)) (fun v w1 hv => ?_)
    obtain ⟨rfl, rfl⟩ := hv
    refine m_int rfl rfl ?_
    refine m_int rfl rfl ?_
    refine o_nil ?_
    refine k_ret (ret_tmps (ts := [6, 7]) (v := .tuple #[.int _ _, .int _ _]) rfl rfl ?_)
    refine ⟨?_, rfl⟩
    first
     | exact tup (qelse op a b (by omega))
     | exact tup (q0 op a b (by assumption) (by omega))
     | (obtain rfl : op = 96 := by omega
        exact tup (q96 a b))
     | (obtain rfl : op = 100 := by omega
        exact tup (q100 a b))
     | (obtain rfl : op = 104 := by omega
        exact tup (q104 a b))
     | (obtain rfl : op = 108 := by omega
        exact tup (q108 a b (by assumption)))
     | (obtain rfl : op = 112 := by omega
        exact tup (q112 a b (by assumption)))
     | (obtain rfl : op = 116 := by omega
        exact tup (q116 a b))
     | (obtain rfl : op = 120 := by omega
        exact tup (q120 a b k hk))
     | (obtain rfl : op = 122 := by omega
        exact tup (q122 a b k hk))
     | (obtain rfl : op = 124 := by omega
        exact tup (q124 a b _ k hk (by first | rw [if_pos (by assumption)] | rw [if_neg (by assumption)])))
     | (obtain rfl : op = 126 := by omega
        exact tup (q126 a b))
     | (obtain rfl : op = 128 := by omega
        exact tup (q128 a b))
     | (obtain rfl : op = 130 := by omega
        exact tup (q130 a b))
     | (exfalso; omega)
  refine k_seq ?_
  refine k_region ?_
  refine b_eql rfl rfl ?_
  refine m_bool rfl rfl ?_
  refine o_nil ?_
  refine k_cond rfl (fun h => ?_) (fun h => ?_)
  ·
    refine k_seq ?_
    refine k_seq ?_
    refine k_region ?_
    refine m_int rfl rfl ?_
    refine b_lss rfl rfl ?_
    refine o_nil ?_
    refine k_cond rfl (fun h => ?_) (fun h => ?_)
    ·
      refine k_region ?_
      refine m_int rfl rfl ?_
      refine n_add rfl rfl (by omega) ?_
      refine m_int rfl rfl ?_
      refine o_nil ?_
      refine k_seq ?_
      refine k_region ?_
      refine m_int rfl rfl ?_
      refine m_int rfl rfl ?_
      refine o_call rfl rfl (down_ok w1 _ k (by omega) (by omega)) (fun v w1 hv => ?_)
      obtain ⟨rfl, rfl⟩ := hv
      refine o_call rfl rfl (low_ok w1 _) (fun v w1 hv => ?_)
      obtain ⟨rfl, rfl⟩ := hv
      refine m_int rfl rfl ?_
      refine m_int rfl rfl ?_
      refine o_nil ?_
      refine k_ret (ret_tmps (ts := [6, 7]) (v := .tuple #[.int _ _, .int _ _]) rfl rfl ?_)
      refine ⟨?_, rfl⟩
      first
       | exact tup (qelse op a b (by omega))
       | exact tup (q0 op a b (by assumption) (by omega))
       | (obtain rfl : op = 96 := by omega
          exact tup (q96 a b))
       | (obtain rfl : op = 100 := by omega
          exact tup (q100 a b))
       | (obtain rfl : op = 104 := by omega
          exact tup (q104 a b))
       | (obtain rfl : op = 108 := by omega
          exact tup (q108 a b (by assumption)))
       | (obtain rfl : op = 112 := by omega
          exact tup (q112 a b (by assumption)))
       | (obtain rfl : op = 116 := by omega
          exact tup (q116 a b))
       | (obtain rfl : op = 120 := by omega
          exact tup (q120 a b k hk))
       | (obtain rfl : op = 122 := by omega
          exact tup (q122 a b k hk))
       | (obtain rfl : op = 124 := by omega
          exact tup (q124 a b _ k hk (by first | rw [if_pos (by assumption)] | rw [if_neg (by assumption)])))
       | (obtain rfl : op = 126 := by omega
          exact tup (q126 a b))
       | (obtain rfl : op = 128 := by omega
          exact tup (q128 a b))
       | (obtain rfl : op = 130 := by omega
          exact tup (q130 a b))
       | (exfalso; omega)
    refine k_skip ?_
    refine k_seq ?_
    refine k_region ?_
    refine m_int rfl rfl ?_
    refine m_int rfl rfl ?_
    refine o_call rfl rfl (down_ok w1 _ k (by omega) (by omega)) (fun v w1 hv => ?_)
    obtain ⟨rfl, rfl⟩ := hv
    refine o_call rfl rfl (low_ok w1 _) (fun v w1 hv => ?_)
    obtain ⟨rfl, rfl⟩ := hv
    refine m_int rfl rfl ?_
    refine m_int rfl rfl ?_
    refine o_nil ?_
    refine k_ret (ret_tmps (ts := [6, 7]) (v := .tuple #[.int _ _, .int _ _]) rfl rfl ?_)
    refine ⟨?_, rfl⟩
    first
     | exact tup (qelse op a b (by omega))
     | exact tup (q0 op a b (by assumption) (by omega))
     | (obtain rfl : op = 96 := by omega
        exact tup (q96 a b))
     | (obtain rfl : op = 100 := by omega
        exact tup (q100 a b))
     | (obtain rfl : op = 104 := by omega
        exact tup (q104 a b))
     | (obtain rfl : op = 108 := by omega
        exact tup (q108 a b (by assumption)))
     | (obtain rfl : op = 112 := by omega
        exact tup (q112 a b (by assumption)))
     | (obtain rfl : op = 116 := by omega
        exact tup (q116 a b))
     | (obtain rfl : op = 120 := by omega
        exact tup (q120 a b k hk))
     | (obtain rfl : op = 122 := by omega
        exact tup (q122 a b k hk))
     | (obtain rfl : op = 124 := by omega
        exact tup (q124 a b _ k hk (by first | rw [if_pos (by assumption)] | rw [if_neg (by assumption)])))
     | (obtain rfl : op = 126 := by omega
        exact tup (q126 a b))
     | (obtain rfl : op = 128 := by omega
        exact tup (q128 a b))
     | (obtain rfl : op = 130 := by omega
        exact tup (q130 a b))
     | (exfalso; omega)
  refine k_seq ?_
  refine k_region ?_
  refine b_eql rfl rfl ?_
  refine m_bool rfl rfl ?_
  refine o_nil ?_
  refine k_cond rfl (fun h => ?_) (fun h => ?_)
  ·
    refine k_seq ?_
    refine k_region ?_
    refine m_int rfl rfl ?_
    refine m_int rfl rfl ?_
    refine o_call rfl rfl (bits_ok w1 _ _ 0 (by omega)) (fun v w1 hv => ?_)
    obtain ⟨rfl, rfl⟩ := hv
    refine m_int rfl rfl ?_
    refine m_int rfl rfl ?_
    refine o_nil ?_
    refine k_ret (ret_tmps (ts := [6, 7]) (v := .tuple #[.int _ _, .int _ _]) rfl rfl ?_)
    refine ⟨?_, rfl⟩
    first
     | exact tup (qelse op a b (by omega))
     | exact tup (q0 op a b (by assumption) (by omega))
     | (obtain rfl : op = 96 := by omega
        exact tup (q96 a b))
     | (obtain rfl : op = 100 := by omega
        exact tup (q100 a b))
     | (obtain rfl : op = 104 := by omega
        exact tup (q104 a b))
     | (obtain rfl : op = 108 := by omega
        exact tup (q108 a b (by assumption)))
     | (obtain rfl : op = 112 := by omega
        exact tup (q112 a b (by assumption)))
     | (obtain rfl : op = 116 := by omega
        exact tup (q116 a b))
     | (obtain rfl : op = 120 := by omega
        exact tup (q120 a b k hk))
     | (obtain rfl : op = 122 := by omega
        exact tup (q122 a b k hk))
     | (obtain rfl : op = 124 := by omega
        exact tup (q124 a b _ k hk (by first | rw [if_pos (by assumption)] | rw [if_neg (by assumption)])))
     | (obtain rfl : op = 126 := by omega
        exact tup (q126 a b))
     | (obtain rfl : op = 128 := by omega
        exact tup (q128 a b))
     | (obtain rfl : op = 130 := by omega
        exact tup (q130 a b))
     | (exfalso; omega)
  refine k_seq ?_
  refine k_region ?_
  refine b_eql rfl rfl ?_
  refine m_bool rfl rfl ?_
  refine o_nil ?_
  refine k_cond rfl (fun h => ?_) (fun h => ?_)
  ·
    refine k_seq ?_
    refine k_region ?_
    refine m_int rfl rfl ?_
    refine m_int rfl rfl ?_
    refine o_call rfl rfl (bits_ok w1 _ _ 1 (by omega)) (fun v w1 hv => ?_)
    obtain ⟨rfl, rfl⟩ := hv
    refine m_int rfl rfl ?_
    refine m_int rfl rfl ?_
    refine o_nil ?_
    refine k_ret (ret_tmps (ts := [6, 7]) (v := .tuple #[.int _ _, .int _ _]) rfl rfl ?_)
    refine ⟨?_, rfl⟩
    first
     | exact tup (qelse op a b (by omega))
     | exact tup (q0 op a b (by assumption) (by omega))
     | (obtain rfl : op = 96 := by omega
        exact tup (q96 a b))
     | (obtain rfl : op = 100 := by omega
        exact tup (q100 a b))
     | (obtain rfl : op = 104 := by omega
        exact tup (q104 a b))
     | (obtain rfl : op = 108 := by omega
        exact tup (q108 a b (by assumption)))
     | (obtain rfl : op = 112 := by omega
        exact tup (q112 a b (by assumption)))
     | (obtain rfl : op = 116 := by omega
        exact tup (q116 a b))
     | (obtain rfl : op = 120 := by omega
        exact tup (q120 a b k hk))
     | (obtain rfl : op = 122 := by omega
        exact tup (q122 a b k hk))
     | (obtain rfl : op = 124 := by omega
        exact tup (q124 a b _ k hk (by first | rw [if_pos (by assumption)] | rw [if_neg (by assumption)])))
     | (obtain rfl : op = 126 := by omega
        exact tup (q126 a b))
     | (obtain rfl : op = 128 := by omega
        exact tup (q128 a b))
     | (obtain rfl : op = 130 := by omega
        exact tup (q130 a b))
     | (exfalso; omega)
  refine k_seq ?_
  refine k_region ?_
  refine b_eql rfl rfl ?_
  refine m_bool rfl rfl ?_
  refine o_nil ?_
  refine k_cond rfl (fun h => ?_) (fun h => ?_)
  ·
    refine k_seq ?_
    refine k_region ?_
    refine m_int rfl rfl ?_
    refine m_int rfl rfl ?_
    refine o_call rfl rfl (bits_ok w1 _ _ 2 (by omega)) (fun v w1 hv => ?_)
    obtain ⟨rfl, rfl⟩ := hv
    refine m_int rfl rfl ?_
    refine m_int rfl rfl ?_
    refine o_nil ?_
    refine k_ret (ret_tmps (ts := [6, 7]) (v := .tuple #[.int _ _, .int _ _]) rfl rfl ?_)
    refine ⟨?_, rfl⟩
    first
     | exact tup (qelse op a b (by omega))
     | exact tup (q0 op a b (by assumption) (by omega))
     | (obtain rfl : op = 96 := by omega
        exact tup (q96 a b))
     | (obtain rfl : op = 100 := by omega
        exact tup (q100 a b))
     | (obtain rfl : op = 104 := by omega
        exact tup (q104 a b))
     | (obtain rfl : op = 108 := by omega
        exact tup (q108 a b (by assumption)))
     | (obtain rfl : op = 112 := by omega
        exact tup (q112 a b (by assumption)))
     | (obtain rfl : op = 116 := by omega
        exact tup (q116 a b))
     | (obtain rfl : op = 120 := by omega
        exact tup (q120 a b k hk))
     | (obtain rfl : op = 122 := by omega
        exact tup (q122 a b k hk))
     | (obtain rfl : op = 124 := by omega
        exact tup (q124 a b _ k hk (by first | rw [if_pos (by assumption)] | rw [if_neg (by assumption)])))
     | (obtain rfl : op = 126 := by omega
        exact tup (q126 a b))
     | (obtain rfl : op = 128 := by omega
        exact tup (q128 a b))
     | (obtain rfl : op = 130 := by omega
        exact tup (q130 a b))
     | (exfalso; omega)
  refine k_skip ?_
  refine k_blk ?_
  refine k_seq ?_
  refine k_region ?_
  refine m_int rfl rfl ?_
  refine m_int rfl rfl ?_
  refine o_nil ?_
  refine k_ret (ret_tmps (ts := [6, 7]) (v := .tuple #[.int _ _, .int _ _]) rfl rfl ?_)
  refine ⟨?_, rfl⟩
  first
   | exact tup (qelse op a b (by omega))
   | exact tup (q0 op a b (by assumption) (by omega))
   | (obtain rfl : op = 96 := by omega
      exact tup (q96 a b))
   | (obtain rfl : op = 100 := by omega
      exact tup (q100 a b))
   | (obtain rfl : op = 104 := by omega
      exact tup (q104 a b))
   | (obtain rfl : op = 108 := by omega
      exact tup (q108 a b (by assumption)))
   | (obtain rfl : op = 112 := by omega
      exact tup (q112 a b (by assumption)))
   | (obtain rfl : op = 116 := by omega
      exact tup (q116 a b))
   | (obtain rfl : op = 120 := by omega
      exact tup (q120 a b k hk))
   | (obtain rfl : op = 122 := by omega
      exact tup (q122 a b k hk))
   | (obtain rfl : op = 124 := by omega
      exact tup (q124 a b _ k hk (by first | rw [if_pos (by assumption)] | rw [if_neg (by assumption)])))
   | (obtain rfl : op = 126 := by omega
      exact tup (q126 a b))
   | (obtain rfl : op = 128 := by omega
      exact tup (q128 a b))
   | (obtain rfl : op = 130 := by omega
      exact tup (q130 a b))
   | (exfalso; omega)

theorem ints_ok (w : World) (op a b : Int) : Ret Try.prog 3 [.int .i64 op, .int .i64 a, .int .i64 b] w (fun v w' => v = .bool true ∧ Keep [] w w') := by
  refine fn_enter (n := 35) Try.func3 rfl rfl (Nat.le_of_ble_eq_true rfl) (fun e => ?_)
  refine k_seq ?_
  refine k_region ?_
  refine m_bool rfl rfl ?_
  refine o_nil ?_
  refine k_seq ?_
  refine k_seq ?_
  refine k_region ?_
  refine o_call rfl rfl (fixed_ok w) (fun v w1 hv => ?_)
  obtain ⟨rfl, rfl⟩ := hv
  refine u_notb rfl ?_
  refine o_nil ?_
  refine k_condf rfl ?_
  refine k_skip ?_
  refine k_seq ?_
  refine k_region ?_
  refine m_int rfl rfl ?_
  refine m_int rfl rfl ?_
  refine m_int rfl rfl ?_
  refine o_call rfl rfl (int_ok w1 _ _ _) (fun v w1 hv => ?_)
  obtain ⟨rfl, rfl⟩ := hv
  refine m_any rfl rfl ?_
  refine o_extr rfl rfl ?_
  refine o_extr rfl rfl ?_
  refine m_int rfl rfl ?_
  refine m_int rfl rfl ?_
  refine o_nil ?_
  refine k_seq ?_
  refine k_region ?_
  refine m_int rfl rfl ?_
  refine m_int rfl rfl ?_
  refine m_int rfl rfl ?_
  refine o_call rfl rfl (rint_ok w1 _ _ _) (fun v w1 hv => ?_)
  obtain ⟨rfl, rfl⟩ := hv
  refine m_any rfl rfl ?_
  refine o_extr rfl rfl ?_
  refine o_extr rfl rfl ?_
  refine m_int rfl rfl ?_
  refine m_int rfl rfl ?_
  refine o_nil ?_
  refine k_seq ?_
  refine k_region ?_
  refine m_int rfl rfl ?_
  refine m_int rfl rfl ?_
  refine b_eql rfl rfl ?_
  refine m_bool rfl rfl ?_
  refine o_true (t := 30) rfl (rfl) ?_
  refine g_yes rfl rfl ?_
  refine m_int rfl rfl ?_
  refine g_yes rfl rfl ?_
  refine m_int rfl rfl ?_
  refine g_yes rfl rfl ?_
  refine b_eql rfl rfl ?_
  refine pick_t rfl rfl ?_
  refine m_bool rfl rfl ?_
  refine o_nil ?_
  refine k_ret (ret_tmps (ts := [6]) (v := .bool _) rfl rfl ?_)
  exact ⟨congrArg Value.bool (decide_eq_true rfl), Keep.refl _ _⟩
end Go.Proofs.Ytahhgocfgniejaa
