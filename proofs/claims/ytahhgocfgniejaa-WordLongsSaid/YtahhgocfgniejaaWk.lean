/- Plain facts: what the reference's Long answers is what the program's does; the walk of it. No condition beyond what each contract names. -/
import Derived.Test.YtahhgocfgniejaaWj
namespace Go.Proofs.Ytahhgocfgniejaa
open Go.RowKit E
set_option linter.unusedVariables false
set_option linter.unusedSimpArgs false
set_option maxRecDepth 100000
attribute [local irreducible] ow qw kw kq cw opW Ret
theorem lrk (op a b : Int) (m : Int) (h0 : op ≠ 121 ∧ op ≠ 123 ∧ op ≠ 125) (hm : IntKind.i64.wrap (op - 1) = m) : W.wLong op a b = W.rk .i64 m a b := by
  unfold W.wLong
  rw [if_neg h0.1, if_neg h0.2.1, if_neg h0.2.2, hm]
theorem r97 (a b : Int) : W.wLong 97 a b = (IntKind.i64.wrap (a + b), 0) := rfl
theorem r101 (a b : Int) : W.wLong 101 a b = (IntKind.i64.wrap (a - b), 0) := rfl
theorem r105 (a b : Int) : W.wLong 105 a b = (IntKind.i64.wrap (a * b), 0) := rfl
theorem r117 (a b : Int) : W.wLong 117 a b = (IntKind.i64.wrap (0 - a), 0) := rfl
theorem r0 (op a b : Int) (h : b = 0) (ho : op = 109 ∨ op = 113) : W.wLong op a b = (0, 35) := by
  rcases ho with rfl | rfl
  · rw [l109, if_pos h]
  · rw [l113, if_pos h]
theorem r109 (a b : Int) (h : ¬ b = 0) : W.wLong 109 a b = (IntKind.i64.wrap (a.tdiv b), 0) := by rw [l109, if_neg h]
theorem r113 (a b : Int) (h : ¬ b = 0) : W.wLong 113 a b = (a.tmod b, 0) := by rw [l113, if_neg h]
theorem r109l (a b : Int) (ha : a = -9223372036854775808) (hb : b = -1) : W.wLong 109 a b = (a, 0) := by subst ha hb; decide
theorem r113l (a b : Int) (ha : a = -9223372036854775808) (hb : b = -1) : W.wLong 113 a b = (0, 0) := by subst ha hb; decide
theorem r121 (a b : Int) (k : Nat) (hk : (k : Int) = b % 64) : W.wLong 121 a b = (IntKind.i64.wrap (a * 2 ^ k), 0) := by
  have e : W.wLong 121 a b = (IntKind.i64.wrap (a * 2 ^ min (BitVec.ofInt 64 b &&& 63#64).toNat 64), 0) := rfl
  rw [e, cntl b k hk, Nat.min_eq_left (by omega)]
theorem r123 (a b : Int) (k : Nat) (hk : (k : Int) = b % 64) : W.wLong 123 a b = (a / 2 ^ k, 0) := by
  have e : W.wLong 123 a b = (a.fdiv (2 ^ min (BitVec.ofInt 64 b &&& 63#64).toNat 64), 0) := rfl
  rw [e, cntl b k hk, Nat.min_eq_left (by omega), Int.fdiv_eq_ediv_of_nonneg _ (Int.le_of_lt (Int.pow_pos (by decide)))]
theorem r125z (a b : Int) (ha : -9223372036854775808 ≤ a ∧ a ≤ 9223372036854775807) (hk : ((0 : Nat) : Int) = b % 64) : W.wLong 125 a b = (a, 0) := by
  have e : W.wLong 125 a b = (((BitVec.ofInt 64 a) >>> (BitVec.ofInt 64 b &&& 63#64).toNat).toInt, 0) := rfl
  rw [e, cntl b 0 hk, BitVec.ushiftRight_zero, BitVec.toInt_ofInt, Int.bmod_def]
  congr 1
  split <;> omega
theorem r125 (a b x : Int) (j : Nat) (ha : -9223372036854775808 ≤ a ∧ a ≤ 9223372036854775807) (hk : ((j + 1 : Nat) : Int) = b % 64) (hx : x = if a / 2 ^ 1 < 0 then a / 2 ^ 1 - (-9223372036854775808) else a / 2 ^ 1) : W.wLong 125 a b = (x / 2 ^ j, 0) := by
  have e : W.wLong 125 a b = (((BitVec.ofInt 64 a) >>> (BitVec.ofInt 64 b &&& 63#64).toNat).toInt, 0) := rfl
  have h1 : x = ((BitVec.ofInt 64 a).toNat : Int) / 2 := by
    rw [BitVec.toNat_ofInt, hx]
    split <;> omega
  have h2 : ((BitVec.ofInt 64 a) >>> (j + 1)).toNat = (BitVec.ofInt 64 a).toNat / 2 / 2 ^ j := by
    rw [BitVec.toNat_ushiftRight, Nat.shiftRight_eq_div_pow, Nat.pow_succ, Nat.mul_comm, Nat.div_div_eq_div_mul]
  have h3 : (BitVec.ofInt 64 a).toNat / 2 / 2 ^ j ≤ (BitVec.ofInt 64 a).toNat / 2 := Nat.div_le_self _ _
  have h4 := (BitVec.ofInt 64 a).isLt
  rw [e, cntl b (j + 1) hk, BitVec.toInt_eq_toNat_of_lt (by omega), h2, h1]
  simp
theorem r127 (a b : Int) : W.wLong 127 a b = ((bop 0 (BitVec.ofInt 64 a) (BitVec.ofInt 64 b)).toInt, 0) := by
  rw [← wtoNat64]; rfl
theorem r129 (a b : Int) : W.wLong 129 a b = ((bop 1 (BitVec.ofInt 64 a) (BitVec.ofInt 64 b)).toInt, 0) := by
  rw [← wtoNat64]; rfl
theorem r131 (a b : Int) : W.wLong 131 a b = ((bop 2 (BitVec.ofInt 64 a) (BitVec.ofInt 64 b)).toInt, 0) := by
  rw [← wtoNat64]; rfl
theorem relse (op a b : Int) (hr : -9223372036854775808 ≤ op ∧ op ≤ 9223372036854775807) (h : ¬ (op = 97 ∨ op = 101 ∨ op = 105 ∨ op = 109 ∨ op = 113 ∨ op = 117 ∨ op = 121 ∨ op = 123 ∨ op = 125 ∨ op = 127 ∨ op = 129 ∨ op = 131)) : W.wLong op a b = (0, 1) := by
  have hw := IntKind.wrap_i64 (op - 1)
  rw [lrk op a b _ ⟨by omega, by omega, by omega⟩ rfl]
  unfold W.rk
  rw [if_neg (fun h' => by have := h'.1; omega), if_neg (by omega), if_neg (by omega), if_neg (by omega), if_neg (by omega), if_neg (by omega), if_neg (by omega), if_neg (by omega), if_neg (by omega), if_neg (by omega)]
theorem tupl {op a b : Int} {p : Int × Int} (h : W.wLong op a b = p) : Value.tuple #[.int .i64 p.1, .int .i64 p.2] = .tuple #[.int .i64 (W.wLong op a b).1, .int .i64 (W.wLong op a b).2] := by rw [h]
theorem tdr (x y : Int) (hy : 0 < y) : -y < x.tmod y ∧ x.tmod y < y := by
  have h1 := Int.tmod_lt_of_pos x hy
  have h2 := Int.tmod_lt_of_pos (-x) hy
  rw [Int.neg_tmod] at h2
  omega

theorem rlong_ok (w : World) (op a b : Int) (hop : -9223372036854775808 ≤ op ∧ op ≤ 9223372036854775807) (ha : -9223372036854775808 ≤ a ∧ a ≤ 9223372036854775807) : Ret Try.prog 14 [.int .i64 op, .int .i64 a, .int .i64 b] w (fun v w' => v = .tuple #[.int .i64 (W.wLong op a b).1, .int .i64 (W.wLong op a b).2] ∧ w' = w) := by
  have r64 := tdr b 64 (by omega)
  obtain ⟨k, hk⟩ : ∃ k : Nat, (k : Int) = b % 64 := ⟨(b % 64).toNat, by omega⟩
  have p64 := posmod b 64 (by omega)
  refine fn_enter (n := 95) Try.func14 rfl rfl (Nat.le_of_ble_eq_true rfl) (fun e => ?_)
  refine k_seq ?_
  refine k_region ?_
  refine m_int rfl rfl ?_
  refine m_int rfl rfl ?_
  refine o_nil ?_
  refine k_seq ?_
  refine k_region ?_
  refine m_int rfl rfl ?_
  refine b_rem rfl rfl (by omega) ?_
  refine n_add rfl rfl (by omega) ?_
  refine b_rem rfl rfl (by omega) ?_
  rw [p64, ← hk]
  refine m_int rfl rfl ?_
  refine o_nil ?_
  refine k_seq ?_
  refine k_seq ?_
  refine k_region ?_
  refine m_int rfl rfl ?_
  refine o_nil ?_
  refine k_block ?_
  refine k_seq ?_
  refine k_region ?_
  refine b_eql rfl rfl ?_
  refine m_bool rfl rfl ?_
  refine o_nil ?_
  refine k_cond rfl (fun h => ?_) (fun h => ?_)
  ·
    refine k_seq ?_
    refine k_region ?_
    refine m_int rfl rfl ?_
    refine m_int rfl rfl ?_
    refine b_add rfl rfl ?_
    refine m_int rfl rfl ?_
    refine m_int rfl rfl ?_
    refine o_nil ?_
    refine k_ret (ret_tmps (ts := [6, 7]) (v := .tuple #[.int _ _, .int _ _]) rfl rfl ?_)
    refine ⟨?_, rfl⟩
    first
     | exact tupl (relse op a b hop (by omega))
     | exact tupl (r0 op a b (by assumption) (by omega))
     | (obtain rfl : op = 97 := by omega
        exact tupl (r97 a b))
     | (obtain rfl : op = 101 := by omega
        exact tupl (r101 a b))
     | (obtain rfl : op = 105 := by omega
        exact tupl (r105 a b))
     | (obtain rfl : op = 109 := by omega
        first | exact tupl (r109 a b (by assumption)) | exact tupl (r109l a b (by assumption) (by assumption)))
     | (obtain rfl : op = 113 := by omega
        first | exact tupl (r113 a b (by assumption)) | exact tupl (r113l a b (by assumption) (by assumption)))
     | (obtain rfl : op = 117 := by omega
        exact tupl (r117 a b))
     | (obtain rfl : op = 121 := by omega
        exact tupl (r121 a b k hk))
     | (obtain rfl : op = 123 := by omega
        exact tupl (r123 a b k hk))
     | (obtain rfl : op = 125 := by omega
        exact tupl (r125z a b ha hk))
     | (obtain rfl : op = 125 := by omega
        exact tupl (r125 a b _ j ha hk (by first | rw [if_pos (by assumption)] | rw [if_neg (by assumption)])))
     | (obtain rfl : op = 127 := by omega
        exact tupl (r127 a b))
     | (obtain rfl : op = 129 := by omega
        exact tupl (r129 a b))
     | (obtain rfl : op = 131 := by omega
        exact tupl (r131 a b))
     | (exfalso; omega)
  refine k_seq ?_
  refine k_region ?_
  refine b_eql rfl rfl ?_
  refine m_bool rfl rfl ?_
  refine o_nil ?_
  refine k_cond rfl (fun h => ?_) (fun h => ?_)
  ·
    refine k_seq ?_
    refine k_region ?_
    refine m_int rfl rfl ?_
    refine m_int rfl rfl ?_
    refine b_sub rfl rfl ?_
    refine m_int rfl rfl ?_
    refine m_int rfl rfl ?_
    refine o_nil ?_
    refine k_ret (ret_tmps (ts := [6, 7]) (v := .tuple #[.int _ _, .int _ _]) rfl rfl ?_)
    refine ⟨?_, rfl⟩
    first
     | exact tupl (relse op a b hop (by omega))
     | exact tupl (r0 op a b (by assumption) (by omega))
     | (obtain rfl : op = 97 := by omega
        exact tupl (r97 a b))
     | (obtain rfl : op = 101 := by omega
        exact tupl (r101 a b))
     | (obtain rfl : op = 105 := by omega
        exact tupl (r105 a b))
     | (obtain rfl : op = 109 := by omega
        first | exact tupl (r109 a b (by assumption)) | exact tupl (r109l a b (by assumption) (by assumption)))
     | (obtain rfl : op = 113 := by omega
        first | exact tupl (r113 a b (by assumption)) | exact tupl (r113l a b (by assumption) (by assumption)))
     | (obtain rfl : op = 117 := by omega
        exact tupl (r117 a b))
     | (obtain rfl : op = 121 := by omega
        exact tupl (r121 a b k hk))
     | (obtain rfl : op = 123 := by omega
        exact tupl (r123 a b k hk))
     | (obtain rfl : op = 125 := by omega
        exact tupl (r125z a b ha hk))
     | (obtain rfl : op = 125 := by omega
        exact tupl (r125 a b _ j ha hk (by first | rw [if_pos (by assumption)] | rw [if_neg (by assumption)])))
     | (obtain rfl : op = 127 := by omega
        exact tupl (r127 a b))
     | (obtain rfl : op = 129 := by omega
        exact tupl (r129 a b))
     | (obtain rfl : op = 131 := by omega
        exact tupl (r131 a b))
     | (exfalso; omega)
  refine k_seq ?_
  refine k_region ?_
  refine b_eql rfl rfl ?_
  refine m_bool rfl rfl ?_
  refine o_nil ?_
  refine k_cond rfl (fun h => ?_) (fun h => ?_)
  ·
    refine k_seq ?_
    refine k_region ?_
    refine m_int rfl rfl ?_
    refine m_int rfl rfl ?_
    refine b_mul rfl rfl ?_
    refine m_int rfl rfl ?_
    refine m_int rfl rfl ?_
    refine o_nil ?_
    refine k_ret (ret_tmps (ts := [6, 7]) (v := .tuple #[.int _ _, .int _ _]) rfl rfl ?_)
    refine ⟨?_, rfl⟩
    first
     | exact tupl (relse op a b hop (by omega))
     | exact tupl (r0 op a b (by assumption) (by omega))
     | (obtain rfl : op = 97 := by omega
        exact tupl (r97 a b))
     | (obtain rfl : op = 101 := by omega
        exact tupl (r101 a b))
     | (obtain rfl : op = 105 := by omega
        exact tupl (r105 a b))
     | (obtain rfl : op = 109 := by omega
        first | exact tupl (r109 a b (by assumption)) | exact tupl (r109l a b (by assumption) (by assumption)))
     | (obtain rfl : op = 113 := by omega
        first | exact tupl (r113 a b (by assumption)) | exact tupl (r113l a b (by assumption) (by assumption)))
     | (obtain rfl : op = 117 := by omega
        exact tupl (r117 a b))
     | (obtain rfl : op = 121 := by omega
        exact tupl (r121 a b k hk))
     | (obtain rfl : op = 123 := by omega
        exact tupl (r123 a b k hk))
     | (obtain rfl : op = 125 := by omega
        exact tupl (r125z a b ha hk))
     | (obtain rfl : op = 125 := by omega
        exact tupl (r125 a b _ j ha hk (by first | rw [if_pos (by assumption)] | rw [if_neg (by assumption)])))
     | (obtain rfl : op = 127 := by omega
        exact tupl (r127 a b))
     | (obtain rfl : op = 129 := by omega
        exact tupl (r129 a b))
     | (obtain rfl : op = 131 := by omega
        exact tupl (r131 a b))
     | (exfalso; omega)
  refine k_seq ?_
  refine k_seq ?_
  refine k_region ?_
  refine b_eql rfl rfl ?_
  refine m_bool rfl rfl ?_
  refine o_nil ?_
  refine k_cond rfl (fun h => ?_) (fun h => ?_)
  ·
    refine k_skip ?_
    refine k_cond rfl (fun h => ?_) (fun h => ?_)
    ·
      refine k_seq ?_
      refine k_seq ?_
      refine k_region ?_
      refine m_int rfl rfl ?_
      refine b_eql rfl rfl ?_
      refine o_nil ?_
      refine k_cond rfl (fun h => ?_) (fun h => ?_)
      ·
        refine k_seq ?_
        refine k_region ?_
        refine m_int rfl rfl ?_
        refine m_int rfl rfl ?_
        refine o_nil ?_
        refine k_ret (ret_tmps (ts := [6, 7]) (v := .tuple #[.int _ _, .int _ _]) rfl rfl ?_)
        refine ⟨?_, rfl⟩
        first
         | exact tupl (relse op a b hop (by omega))
         | exact tupl (r0 op a b (by assumption) (by omega))
         | (obtain rfl : op = 97 := by omega
            exact tupl (r97 a b))
         | (obtain rfl : op = 101 := by omega
            exact tupl (r101 a b))
         | (obtain rfl : op = 105 := by omega
            exact tupl (r105 a b))
         | (obtain rfl : op = 109 := by omega
            first | exact tupl (r109 a b (by assumption)) | exact tupl (r109l a b (by assumption) (by assumption)))
         | (obtain rfl : op = 113 := by omega
            first | exact tupl (r113 a b (by assumption)) | exact tupl (r113l a b (by assumption) (by assumption)))
         | (obtain rfl : op = 117 := by omega
            exact tupl (r117 a b))
         | (obtain rfl : op = 121 := by omega
            exact tupl (r121 a b k hk))
         | (obtain rfl : op = 123 := by omega
            exact tupl (r123 a b k hk))
         | (obtain rfl : op = 125 := by omega
            exact tupl (r125z a b ha hk))
         | (obtain rfl : op = 125 := by omega
            exact tupl (r125 a b _ j ha hk (by first | rw [if_pos (by assumption)] | rw [if_neg (by assumption)])))
         | (obtain rfl : op = 127 := by omega
            exact tupl (r127 a b))
         | (obtain rfl : op = 129 := by omega
            exact tupl (r129 a b))
         | (obtain rfl : op = 131 := by omega
            exact tupl (r131 a b))
         | (exfalso; omega)
      refine k_skip ?_
      refine k_seq ?_
      refine k_seq ?_
      refine k_region ?_
      refine m_int rfl rfl ?_
      refine b_eql rfl rfl ?_
      refine m_bool rfl rfl ?_
      refine o_split (t := 36) rfl (fun h => ?_) (fun h => ?_)
      ·
        refine g_yes rfl rfl ?_
        refine m_int rfl rfl ?_
        refine g_yes rfl rfl ?_
        refine b_eql rfl rfl ?_
        refine pick_t rfl rfl ?_
        refine o_nil ?_
        refine k_cond rfl (fun h => ?_) (fun h => ?_)
        ·
          refine k_seq ?_
          refine k_seq ?_
          refine k_region ?_
          refine m_int rfl rfl ?_
          refine b_eql rfl rfl ?_
          refine o_nil ?_
          refine k_cond rfl (fun h => ?_) (fun h => ?_)
          ·
            refine k_seq ?_
            refine k_region ?_
            refine m_int rfl rfl ?_
            refine m_int rfl rfl ?_
            refine m_int rfl rfl ?_
            refine o_nil ?_
            refine k_ret (ret_tmps (ts := [6, 7]) (v := .tuple #[.int _ _, .int _ _]) rfl rfl ?_)
            refine ⟨?_, rfl⟩
            first
             | exact tupl (relse op a b hop (by omega))
             | exact tupl (r0 op a b (by assumption) (by omega))
             | (obtain rfl : op = 97 := by omega
                exact tupl (r97 a b))
             | (obtain rfl : op = 101 := by omega
                exact tupl (r101 a b))
             | (obtain rfl : op = 105 := by omega
                exact tupl (r105 a b))
             | (obtain rfl : op = 109 := by omega
                first | exact tupl (r109 a b (by assumption)) | exact tupl (r109l a b (by assumption) (by assumption)))
             | (obtain rfl : op = 113 := by omega
                first | exact tupl (r113 a b (by assumption)) | exact tupl (r113l a b (by assumption) (by assumption)))
             | (obtain rfl : op = 117 := by omega
                exact tupl (r117 a b))
             | (obtain rfl : op = 121 := by omega
                exact tupl (r121 a b k hk))
             | (obtain rfl : op = 123 := by omega
                exact tupl (r123 a b k hk))
             | (obtain rfl : op = 125 := by omega
                exact tupl (r125z a b ha hk))
             | (obtain rfl : op = 125 := by omega
                exact tupl (r125 a b _ j ha hk (by first | rw [if_pos (by assumption)] | rw [if_neg (by assumption)])))
             | (obtain rfl : op = 127 := by omega
                exact tupl (r127 a b))
             | (obtain rfl : op = 129 := by omega
                exact tupl (r129 a b))
             | (obtain rfl : op = 131 := by omega
                exact tupl (r131 a b))
             | (exfalso; omega)
          refine k_skip ?_
          refine k_seq ?_
          refine k_region ?_
          refine m_int rfl rfl ?_
          refine m_int rfl rfl ?_
          refine o_nil ?_
          refine k_ret (ret_tmps (ts := [6, 7]) (v := .tuple #[.int _ _, .int _ _]) rfl rfl ?_)
          refine ⟨?_, rfl⟩
          first
           | exact tupl (relse op a b hop (by omega))
           | exact tupl (r0 op a b (by assumption) (by omega))
           | (obtain rfl : op = 97 := by omega
              exact tupl (r97 a b))
           | (obtain rfl : op = 101 := by omega
              exact tupl (r101 a b))
           | (obtain rfl : op = 105 := by omega
              exact tupl (r105 a b))
           | (obtain rfl : op = 109 := by omega
              first | exact tupl (r109 a b (by assumption)) | exact tupl (r109l a b (by assumption) (by assumption)))
           | (obtain rfl : op = 113 := by omega
              first | exact tupl (r113 a b (by assumption)) | exact tupl (r113l a b (by assumption) (by assumption)))
           | (obtain rfl : op = 117 := by omega
              exact tupl (r117 a b))
           | (obtain rfl : op = 121 := by omega
              exact tupl (r121 a b k hk))
           | (obtain rfl : op = 123 := by omega
              exact tupl (r123 a b k hk))
           | (obtain rfl : op = 125 := by omega
              exact tupl (r125z a b ha hk))
           | (obtain rfl : op = 125 := by omega
              exact tupl (r125 a b _ j ha hk (by first | rw [if_pos (by assumption)] | rw [if_neg (by assumption)])))
           | (obtain rfl : op = 127 := by omega
              exact tupl (r127 a b))
           | (obtain rfl : op = 129 := by omega
              exact tupl (r129 a b))
           | (obtain rfl : op = 131 := by omega
              exact tupl (r131 a b))
           | (exfalso; omega)
        refine k_skip ?_
        refine k_seq ?_
        refine k_seq ?_
        refine k_region ?_
        refine m_int rfl rfl ?_
        refine b_eql rfl rfl ?_
        refine o_nil ?_
        refine k_cond rfl (fun h => ?_) (fun h => ?_)
        ·
          refine k_seq ?_
          refine k_region ?_
          refine m_int rfl rfl ?_
          refine m_int rfl rfl ?_
          refine b_quo rfl rfl (by omega) ?_
          refine m_int rfl rfl ?_
          refine m_int rfl rfl ?_
          refine o_nil ?_
          refine k_ret (ret_tmps (ts := [6, 7]) (v := .tuple #[.int _ _, .int _ _]) rfl rfl ?_)
          refine ⟨?_, rfl⟩
          first
           | exact tupl (relse op a b hop (by omega))
           | exact tupl (r0 op a b (by assumption) (by omega))
           | (obtain rfl : op = 97 := by omega
              exact tupl (r97 a b))
           | (obtain rfl : op = 101 := by omega
              exact tupl (r101 a b))
           | (obtain rfl : op = 105 := by omega
              exact tupl (r105 a b))
           | (obtain rfl : op = 109 := by omega
              first | exact tupl (r109 a b (by assumption)) | exact tupl (r109l a b (by assumption) (by assumption)))
           | (obtain rfl : op = 113 := by omega
              first | exact tupl (r113 a b (by assumption)) | exact tupl (r113l a b (by assumption) (by assumption)))
           | (obtain rfl : op = 117 := by omega
              exact tupl (r117 a b))
           | (obtain rfl : op = 121 := by omega
              exact tupl (r121 a b k hk))
           | (obtain rfl : op = 123 := by omega
              exact tupl (r123 a b k hk))
           | (obtain rfl : op = 125 := by omega
              exact tupl (r125z a b ha hk))
           | (obtain rfl : op = 125 := by omega
              exact tupl (r125 a b _ j ha hk (by first | rw [if_pos (by assumption)] | rw [if_neg (by assumption)])))
           | (obtain rfl : op = 127 := by omega
              exact tupl (r127 a b))
           | (obtain rfl : op = 129 := by omega
              exact tupl (r129 a b))
           | (obtain rfl : op = 131 := by omega
              exact tupl (r131 a b))
           | (exfalso; omega)
        refine k_skip ?_
        refine k_seq ?_
        refine k_region ?_
        refine m_int rfl rfl ?_
        refine m_int rfl rfl ?_
        refine b_rem rfl rfl (by omega) ?_
        refine m_int rfl rfl ?_
        refine m_int rfl rfl ?_
        refine o_nil ?_
        refine k_ret (ret_tmps (ts := [6, 7]) (v := .tuple #[.int _ _, .int _ _]) rfl rfl ?_)
        refine ⟨?_, rfl⟩
        first
         | exact tupl (relse op a b hop (by omega))
         | exact tupl (r0 op a b (by assumption) (by omega))
         | (obtain rfl : op = 97 := by omega
            exact tupl (r97 a b))
         | (obtain rfl : op = 101 := by omega
            exact tupl (r101 a b))
         | (obtain rfl : op = 105 := by omega
            exact tupl (r105 a b))
         | (obtain rfl : op = 109 := by omega
            first | exact tupl (r109 a b (by assumption)) | exact tupl (r109l a b (by assumption) (by assumption)))
         | (obtain rfl : op = 113 := by omega
            first | exact tupl (r113 a b (by assumption)) | exact tupl (r113l a b (by assumption) (by assumption)))
         | (obtain rfl : op = 117 := by omega
            exact tupl (r117 a b))
         | (obtain rfl : op = 121 := by omega
            exact tupl (r121 a b k hk))
         | (obtain rfl : op = 123 := by omega
            exact tupl (r123 a b k hk))
         | (obtain rfl : op = 125 := by omega
            exact tupl (r125z a b ha hk))
         | (obtain rfl : op = 125 := by omega
            exact tupl (r125 a b _ j ha hk (by first | rw [if_pos (by assumption)] | rw [if_neg (by assumption)])))
         | (obtain rfl : op = 127 := by omega
            exact tupl (r127 a b))
         | (obtain rfl : op = 129 := by omega
            exact tupl (r129 a b))
         | (obtain rfl : op = 131 := by omega
            exact tupl (r131 a b))
         | (exfalso; omega)
      ·
        refine g_no rfl rfl rfl ?_
        refine g_no rfl rfl rfl ?_
        refine pick_f rfl rfl ?_
        refine o_nil ?_
        refine k_condf rfl ?_
        refine k_skip ?_
        refine k_seq ?_
        refine k_seq ?_
        refine k_region ?_
        refine m_int rfl rfl ?_
        refine b_eql rfl rfl ?_
        refine o_nil ?_
        refine k_cond rfl (fun h => ?_) (fun h => ?_)
        ·
          refine k_seq ?_
          refine k_region ?_
          refine m_int rfl rfl ?_
          refine m_int rfl rfl ?_
          refine b_quo rfl rfl (by omega) ?_
          refine m_int rfl rfl ?_
          refine m_int rfl rfl ?_
          refine o_nil ?_
          refine k_ret (ret_tmps (ts := [6, 7]) (v := .tuple #[.int _ _, .int _ _]) rfl rfl ?_)
          refine ⟨?_, rfl⟩
          first
           | exact tupl (relse op a b hop (by omega))
           | exact tupl (r0 op a b (by assumption) (by omega))
           | (obtain rfl : op = 97 := by omega
              exact tupl (r97 a b))
           | (obtain rfl : op = 101 := by omega
              exact tupl (r101 a b))
           | (obtain rfl : op = 105 := by omega
              exact tupl (r105 a b))
           | (obtain rfl : op = 109 := by omega
              first | exact tupl (r109 a b (by assumption)) | exact tupl (r109l a b (by assumption) (by assumption)))
           | (obtain rfl : op = 113 := by omega
              first | exact tupl (r113 a b (by assumption)) | exact tupl (r113l a b (by assumption) (by assumption)))
           | (obtain rfl : op = 117 := by omega
              exact tupl (r117 a b))
           | (obtain rfl : op = 121 := by omega
              exact tupl (r121 a b k hk))
           | (obtain rfl : op = 123 := by omega
              exact tupl (r123 a b k hk))
           | (obtain rfl : op = 125 := by omega
              exact tupl (r125z a b ha hk))
           | (obtain rfl : op = 125 := by omega
              exact tupl (r125 a b _ j ha hk (by first | rw [if_pos (by assumption)] | rw [if_neg (by assumption)])))
           | (obtain rfl : op = 127 := by omega
              exact tupl (r127 a b))
           | (obtain rfl : op = 129 := by omega
              exact tupl (r129 a b))
           | (obtain rfl : op = 131 := by omega
              exact tupl (r131 a b))
           | (exfalso; omega)
        refine k_skip ?_
        refine k_seq ?_
        refine k_region ?_
        refine m_int rfl rfl ?_
        refine m_int rfl rfl ?_
        refine b_rem rfl rfl (by omega) ?_
        refine m_int rfl rfl ?_
        refine m_int rfl rfl ?_
        refine o_nil ?_
        refine k_ret (ret_tmps (ts := [6, 7]) (v := .tuple #[.int _ _, .int _ _]) rfl rfl ?_)
        refine ⟨?_, rfl⟩
        first
         | exact tupl (relse op a b hop (by omega))
         | exact tupl (r0 op a b (by assumption) (by omega))
         | (obtain rfl : op = 97 := by omega
            exact tupl (r97 a b))
         | (obtain rfl : op = 101 := by omega
            exact tupl (r101 a b))
         | (obtain rfl : op = 105 := by omega
            exact tupl (r105 a b))
         | (obtain rfl : op = 109 := by omega
            first | exact tupl (r109 a b (by assumption)) | exact tupl (r109l a b (by assumption) (by assumption)))
         | (obtain rfl : op = 113 := by omega
            first | exact tupl (r113 a b (by assumption)) | exact tupl (r113l a b (by assumption) (by assumption)))
         | (obtain rfl : op = 117 := by omega
            exact tupl (r117 a b))
         | (obtain rfl : op = 121 := by omega
            exact tupl (r121 a b k hk))
         | (obtain rfl : op = 123 := by omega
            exact tupl (r123 a b k hk))
         | (obtain rfl : op = 125 := by omega
            exact tupl (r125z a b ha hk))
         | (obtain rfl : op = 125 := by omega
            exact tupl (r125 a b _ j ha hk (by first | rw [if_pos (by assumption)] | rw [if_neg (by assumption)])))
         | (obtain rfl : op = 127 := by omega
            exact tupl (r127 a b))
         | (obtain rfl : op = 129 := by omega
            exact tupl (r129 a b))
         | (obtain rfl : op = 131 := by omega
            exact tupl (r131 a b))
         | (exfalso; omega)
    refine k_seq ?_
    refine k_region ?_
    refine b_eql rfl rfl ?_
    refine m_bool rfl rfl ?_
    refine o_nil ?_
    refine k_cond rfl (fun h => ?_) (fun h => ?_)
    ·
      refine k_seq ?_
      refine k_region ?_
      refine m_int rfl rfl ?_
      refine b_sub rfl rfl ?_
      refine m_int rfl rfl ?_
      refine m_int rfl rfl ?_
      refine o_nil ?_
      refine k_ret (ret_tmps (ts := [6, 7]) (v := .tuple #[.int _ _, .int _ _]) rfl rfl ?_)
      refine ⟨?_, rfl⟩
      first
       | exact tupl (relse op a b hop (by omega))
       | exact tupl (r0 op a b (by assumption) (by omega))
       | (obtain rfl : op = 97 := by omega
          exact tupl (r97 a b))
       | (obtain rfl : op = 101 := by omega
          exact tupl (r101 a b))
       | (obtain rfl : op = 105 := by omega
          exact tupl (r105 a b))
       | (obtain rfl : op = 109 := by omega
          first | exact tupl (r109 a b (by assumption)) | exact tupl (r109l a b (by assumption) (by assumption)))
       | (obtain rfl : op = 113 := by omega
          first | exact tupl (r113 a b (by assumption)) | exact tupl (r113l a b (by assumption) (by assumption)))
       | (obtain rfl : op = 117 := by omega
          exact tupl (r117 a b))
       | (obtain rfl : op = 121 := by omega
          exact tupl (r121 a b k hk))
       | (obtain rfl : op = 123 := by omega
          exact tupl (r123 a b k hk))
       | (obtain rfl : op = 125 := by omega
          exact tupl (r125z a b ha hk))
       | (obtain rfl : op = 125 := by omega
          exact tupl (r125 a b _ j ha hk (by first | rw [if_pos (by assumption)] | rw [if_neg (by assumption)])))
       | (obtain rfl : op = 127 := by omega
          exact tupl (r127 a b))
       | (obtain rfl : op = 129 := by omega
          exact tupl (r129 a b))
       | (obtain rfl : op = 131 := by omega
          exact tupl (r131 a b))
       | (exfalso; omega)
    refine k_seq ?_
    refine k_region ?_
    refine b_eql rfl rfl ?_
    refine m_bool rfl rfl ?_
    refine o_nil ?_
    refine k_cond rfl (fun h => ?_) (fun h => ?_)
    ·
      refine k_seq ?_
      refine k_region ?_
      refine m_int rfl rfl ?_
      refine m_int rfl rfl ?_
      refine o_call rfl rfl (up_ok w _ k ha (by omega)) (fun v w1 hv => ?_)
      obtain ⟨rfl, rfl⟩ := hv
      refine m_int rfl rfl ?_
      refine m_int rfl rfl ?_
      refine o_nil ?_
      refine k_ret (ret_tmps (ts := [6, 7]) (v := .tuple #[.int _ _, .int _ _]) rfl rfl ?_)
      refine ⟨?_, rfl⟩
      first
       | exact tupl (relse op a b hop (by omega))
       | exact tupl (r0 op a b (by assumption) (by omega))
       | (obtain rfl : op = 97 := by omega
          exact tupl (r97 a b))
       | (obtain rfl : op = 101 := by omega
          exact tupl (r101 a b))
       | (obtain rfl : op = 105 := by omega
          exact tupl (r105 a b))
       | (obtain rfl : op = 109 := by omega
          first | exact tupl (r109 a b (by assumption)) | exact tupl (r109l a b (by assumption) (by assumption)))
       | (obtain rfl : op = 113 := by omega
          first | exact tupl (r113 a b (by assumption)) | exact tupl (r113l a b (by assumption) (by assumption)))
       | (obtain rfl : op = 117 := by omega
          exact tupl (r117 a b))
       | (obtain rfl : op = 121 := by omega
          exact tupl (r121 a b k hk))
       | (obtain rfl : op = 123 := by omega
          exact tupl (r123 a b k hk))
       | (obtain rfl : op = 125 := by omega
          exact tupl (r125z a b ha hk))
       | (obtain rfl : op = 125 := by omega
          exact tupl (r125 a b _ j ha hk (by first | rw [if_pos (by assumption)] | rw [if_neg (by assumption)])))
       | (obtain rfl : op = 127 := by omega
          exact tupl (r127 a b))
       | (obtain rfl : op = 129 := by omega
          exact tupl (r129 a b))
       | (obtain rfl : op = 131 := by omega
          exact tupl (r131 a b))
       | (exfalso; omega)
    refine k_seq ?_
    refine k_region ?_
    refine b_eql rfl rfl ?_
    refine m_bool rfl rfl ?_
    refine o_nil ?_
    refine k_cond rfl (fun h => ?_) (fun h => ?_)
    ·
      refine k_seq ?_
      refine k_region ?_
      refine m_int rfl rfl ?_
      refine m_int rfl rfl ?_
      refine o_call rfl rfl (down_ok w _ k ha (by omega)) (fun v w1 hv => ?_)
      obtain ⟨rfl, rfl⟩ := hv
      refine m_int rfl rfl ?_
      refine m_int rfl rfl ?_
      refine o_nil ?_
      refine k_ret (ret_tmps (ts := [6, 7]) (v := .tuple #[.int _ _, .int _ _]) rfl rfl ?_)
      refine ⟨?_, rfl⟩
      first
       | exact tupl (relse op a b hop (by omega))
       | exact tupl (r0 op a b (by assumption) (by omega))
       | (obtain rfl : op = 97 := by omega
          exact tupl (r97 a b))
       | (obtain rfl : op = 101 := by omega
          exact tupl (r101 a b))
       | (obtain rfl : op = 105 := by omega
          exact tupl (r105 a b))
       | (obtain rfl : op = 109 := by omega
          first | exact tupl (r109 a b (by assumption)) | exact tupl (r109l a b (by assumption) (by assumption)))
       | (obtain rfl : op = 113 := by omega
          first | exact tupl (r113 a b (by assumption)) | exact tupl (r113l a b (by assumption) (by assumption)))
       | (obtain rfl : op = 117 := by omega
          exact tupl (r117 a b))
       | (obtain rfl : op = 121 := by omega
          exact tupl (r121 a b k hk))
       | (obtain rfl : op = 123 := by omega
          exact tupl (r123 a b k hk))
       | (obtain rfl : op = 125 := by omega
          exact tupl (r125z a b ha hk))
       | (obtain rfl : op = 125 := by omega
          exact tupl (r125 a b _ j ha hk (by first | rw [if_pos (by assumption)] | rw [if_neg (by assumption)])))
       | (obtain rfl : op = 127 := by omega
          exact tupl (r127 a b))
       | (obtain rfl : op = 129 := by omega
          exact tupl (r129 a b))
       | (obtain rfl : op = 131 := by omega
          exact tupl (r131 a b))
       | (exfalso; omega)
    refine k_seq ?_
    refine k_region ?_
    refine b_eql rfl rfl ?_
    refine m_bool rfl rfl ?_
    refine o_nil ?_
    refine k_cond rfl (fun h => ?_) (fun h => ?_)
    ·
      refine k_seq ?_
      refine k_seq ?_
      refine k_region ?_
      refine m_int rfl rfl ?_
      refine b_eql rfl rfl ?_
      refine o_nil ?_
      refine k_cond rfl (fun h => ?_) (fun h => ?_)
      ·
        obtain rfl : k = 0 := by omega
        refine k_seq ?_
        refine k_region ?_
        refine m_int rfl rfl ?_
        refine m_int rfl rfl ?_
        refine m_int rfl rfl ?_
        refine o_nil ?_
        refine k_ret (ret_tmps (ts := [6, 7]) (v := .tuple #[.int _ _, .int _ _]) rfl rfl ?_)
        refine ⟨?_, rfl⟩
        first
         | exact tupl (relse op a b hop (by omega))
         | exact tupl (r0 op a b (by assumption) (by omega))
         | (obtain rfl : op = 97 := by omega
            exact tupl (r97 a b))
         | (obtain rfl : op = 101 := by omega
            exact tupl (r101 a b))
         | (obtain rfl : op = 105 := by omega
            exact tupl (r105 a b))
         | (obtain rfl : op = 109 := by omega
            first | exact tupl (r109 a b (by assumption)) | exact tupl (r109l a b (by assumption) (by assumption)))
         | (obtain rfl : op = 113 := by omega
            first | exact tupl (r113 a b (by assumption)) | exact tupl (r113l a b (by assumption) (by assumption)))
         | (obtain rfl : op = 117 := by omega
            exact tupl (r117 a b))
         | (obtain rfl : op = 121 := by omega
            exact tupl (r121 a b k hk))
         | (obtain rfl : op = 123 := by omega
            exact tupl (r123 a b k hk))
         | (obtain rfl : op = 125 := by omega
            exact tupl (r125z a b ha hk))
         | (obtain rfl : op = 125 := by omega
            exact tupl (r125 a b _ j ha hk (by first | rw [if_pos (by assumption)] | rw [if_neg (by assumption)])))
         | (obtain rfl : op = 127 := by omega
            exact tupl (r127 a b))
         | (obtain rfl : op = 129 := by omega
            exact tupl (r129 a b))
         | (obtain rfl : op = 131 := by omega
            exact tupl (r131 a b))
         | (exfalso; omega)
      obtain ⟨j, rfl⟩ : ∃ j, k = j + 1 := ⟨k - 1, by omega⟩
      refine k_skip ?_
      refine k_seq ?_
      refine k_region ?_
      refine m_int rfl rfl ?_
      refine o_call rfl rfl (down_ok w a 1 ha (by omega)) (fun v w1 hv => ?_)
      obtain ⟨rfl, rfl⟩ := hv
      refine m_int rfl rfl ?_
      refine o_nil ?_
      refine k_seq ?_
      refine k_seq ?_
      refine k_region ?_
      refine m_int rfl rfl ?_
      refine b_lss rfl rfl ?_
      refine o_nil ?_
      refine k_cond rfl (fun h => ?_) (fun h => ?_)
      ·
        refine k_region ?_
        refine m_int rfl rfl ?_
        refine n_sub rfl rfl (by omega) ?_
        refine m_int rfl rfl ?_
        refine o_nil ?_
        refine k_seq ?_
        refine k_region ?_
        refine m_int rfl rfl ?_
        refine m_int rfl rfl ?_
        refine n_sub rfl rfl (by omega) ?_
        rw [show (((j + 1 : Nat) : Int) - 1) = (j : Int) by omega]
        refine o_call rfl rfl (down_ok w1 _ j (by omega) (by omega)) (fun v w1 hv => ?_)
        obtain ⟨rfl, rfl⟩ := hv
        refine m_int rfl rfl ?_
        refine m_int rfl rfl ?_
        refine o_nil ?_
        refine k_ret (ret_tmps (ts := [6, 7]) (v := .tuple #[.int _ _, .int _ _]) rfl rfl ?_)
        refine ⟨?_, rfl⟩
        first
         | exact tupl (relse op a b hop (by omega))
         | exact tupl (r0 op a b (by assumption) (by omega))
         | (obtain rfl : op = 97 := by omega
            exact tupl (r97 a b))
         | (obtain rfl : op = 101 := by omega
            exact tupl (r101 a b))
         | (obtain rfl : op = 105 := by omega
            exact tupl (r105 a b))
         | (obtain rfl : op = 109 := by omega
            first | exact tupl (r109 a b (by assumption)) | exact tupl (r109l a b (by assumption) (by assumption)))
         | (obtain rfl : op = 113 := by omega
            first | exact tupl (r113 a b (by assumption)) | exact tupl (r113l a b (by assumption) (by assumption)))
         | (obtain rfl : op = 117 := by omega
            exact tupl (r117 a b))
         | (obtain rfl : op = 121 := by omega
            exact tupl (r121 a b k hk))
         | (obtain rfl : op = 123 := by omega
            exact tupl (r123 a b k hk))
         | (obtain rfl : op = 125 := by omega
            exact tupl (r125z a b ha hk))
         | (obtain rfl : op = 125 := by omega
            exact tupl (r125 a b _ j ha hk (by first | rw [if_pos (by assumption)] | rw [if_neg (by assumption)])))
         | (obtain rfl : op = 127 := by omega
            exact tupl (r127 a b))
         | (obtain rfl : op = 129 := by omega
            exact tupl (r129 a b))
         | (obtain rfl : op = 131 := by omega
            exact tupl (r131 a b))
         | (exfalso; omega)
      refine k_skip ?_
      refine k_seq ?_
      refine k_region ?_
      refine m_int rfl rfl ?_
      refine m_int rfl rfl ?_
      refine n_sub rfl rfl (by omega) ?_
      rw [show (((j + 1 : Nat) : Int) - 1) = (j : Int) by omega]
      refine o_call rfl rfl (down_ok w1 _ j (by omega) (by omega)) (fun v w1 hv => ?_)
      obtain ⟨rfl, rfl⟩ := hv
      refine m_int rfl rfl ?_
      refine m_int rfl rfl ?_
      refine o_nil ?_
      refine k_ret (ret_tmps (ts := [6, 7]) (v := .tuple #[.int _ _, .int _ _]) rfl rfl ?_)
      refine ⟨?_, rfl⟩
      first
       | exact tupl (relse op a b hop (by omega))
       | exact tupl (r0 op a b (by assumption) (by omega))
       | (obtain rfl : op = 97 := by omega
          exact tupl (r97 a b))
       | (obtain rfl : op = 101 := by omega
          exact tupl (r101 a b))
       | (obtain rfl : op = 105 := by omega
          exact tupl (r105 a b))
       | (obtain rfl : op = 109 := by omega
          first | exact tupl (r109 a b (by assumption)) | exact tupl (r109l a b (by assumption) (by assumption)))
       | (obtain rfl : op = 113 := by omega
          first | exact tupl (r113 a b (by assumption)) | exact tupl (r113l a b (by assumption) (by assumption)))
       | (obtain rfl : op = 117 := by omega
          exact tupl (r117 a b))
       | (obtain rfl : op = 121 := by omega
          exact tupl (r121 a b k hk))
       | (obtain rfl : op = 123 := by omega
          exact tupl (r123 a b k hk))
       | (obtain rfl : op = 125 := by omega
          exact tupl (r125z a b ha hk))
       | (obtain rfl : op = 125 := by omega
          exact tupl (r125 a b _ j ha hk (by first | rw [if_pos (by assumption)] | rw [if_neg (by assumption)])))
       | (obtain rfl : op = 127 := by omega
          exact tupl (r127 a b))
       | (obtain rfl : op = 129 := by omega
          exact tupl (r129 a b))
       | (obtain rfl : op = 131 := by omega
          exact tupl (r131 a b))
       | (exfalso; omega)
    refine k_seq ?_
    refine k_region ?_
    refine b_eql rfl rfl ?_
    refine m_bool rfl rfl ?_
    refine o_nil ?_
    refine k_cond rfl (fun h => ?_) (fun h => ?_)
    ·
      refine k_seq ?_
      refine k_region ?_
      refine m_int rfl rfl ?_
      refine m_int rfl rfl ?_
      refine o_call rfl rfl (bits_ok w _ _ 0 (by omega)) (fun v w1 hv => ?_)
      obtain ⟨rfl, rfl⟩ := hv
      refine m_int rfl rfl ?_
      refine m_int rfl rfl ?_
      refine o_nil ?_
      refine k_ret (ret_tmps (ts := [6, 7]) (v := .tuple #[.int _ _, .int _ _]) rfl rfl ?_)
      refine ⟨?_, rfl⟩
      first
       | exact tupl (relse op a b hop (by omega))
       | exact tupl (r0 op a b (by assumption) (by omega))
       | (obtain rfl : op = 97 := by omega
          exact tupl (r97 a b))
       | (obtain rfl : op = 101 := by omega
          exact tupl (r101 a b))
       | (obtain rfl : op = 105 := by omega
          exact tupl (r105 a b))
       | (obtain rfl : op = 109 := by omega
          first | exact tupl (r109 a b (by assumption)) | exact tupl (r109l a b (by assumption) (by assumption)))
       | (obtain rfl : op = 113 := by omega
          first | exact tupl (r113 a b (by assumption)) | exact tupl (r113l a b (by assumption) (by assumption)))
       | (obtain rfl : op = 117 := by omega
          exact tupl (r117 a b))
       | (obtain rfl : op = 121 := by omega
          exact tupl (r121 a b k hk))
       | (obtain rfl : op = 123 := by omega
          exact tupl (r123 a b k hk))
       | (obtain rfl : op = 125 := by omega
          exact tupl (r125z a b ha hk))
       | (obtain rfl : op = 125 := by omega
          exact tupl (r125 a b _ j ha hk (by first | rw [if_pos (by assumption)] | rw [if_neg (by assumption)])))
       | (obtain rfl : op = 127 := by omega
          exact tupl (r127 a b))
       | (obtain rfl : op = 129 := by omega
          exact tupl (r129 a b))
       | (obtain rfl : op = 131 := by omega
          exact tupl (r131 a b))
       | (exfalso; omega)
    refine k_seq ?_
    refine k_region ?_
    refine b_eql rfl rfl ?_
    refine m_bool rfl rfl ?_
    refine o_nil ?_
    refine k_cond rfl (fun h => ?_) (fun h => ?_)
    ·
      refine k_seq ?_
      refine k_region ?_
      refine m_int rfl rfl ?_
      refine m_int rfl rfl ?_
      refine o_call rfl rfl (bits_ok w _ _ 1 (by omega)) (fun v w1 hv => ?_)
      obtain ⟨rfl, rfl⟩ := hv
      refine m_int rfl rfl ?_
      refine m_int rfl rfl ?_
      refine o_nil ?_
      refine k_ret (ret_tmps (ts := [6, 7]) (v := .tuple #[.int _ _, .int _ _]) rfl rfl ?_)
      refine ⟨?_, rfl⟩
      first
       | exact tupl (relse op a b hop (by omega))
       | exact tupl (r0 op a b (by assumption) (by omega))
       | (obtain rfl : op = 97 := by omega
          exact tupl (r97 a b))
       | (obtain rfl : op = 101 := by omega
          exact tupl (r101 a b))
       | (obtain rfl : op = 105 := by omega
          exact tupl (r105 a b))
       | (obtain rfl : op = 109 := by omega
          first | exact tupl (r109 a b (by assumption)) | exact tupl (r109l a b (by assumption) (by assumption)))
       | (obtain rfl : op = 113 := by omega
          first | exact tupl (r113 a b (by assumption)) | exact tupl (r113l a b (by assumption) (by assumption)))
       | (obtain rfl : op = 117 := by omega
          exact tupl (r117 a b))
       | (obtain rfl : op = 121 := by omega
          exact tupl (r121 a b k hk))
       | (obtain rfl : op = 123 := by omega
          exact tupl (r123 a b k hk))
       | (obtain rfl : op = 125 := by omega
          exact tupl (r125z a b ha hk))
       | (obtain rfl : op = 125 := by omega
          exact tupl (r125 a b _ j ha hk (by first | rw [if_pos (by assumption)] | rw [if_neg (by assumption)])))
       | (obtain rfl : op = 127 := by omega
          exact tupl (r127 a b))
       | (obtain rfl : op = 129 := by omega
          exact tupl (r129 a b))
       | (obtain rfl : op = 131 := by omega
          exact tupl (r131 a b))
       | (exfalso; omega)
    refine k_seq ?_
    refine k_region ?_
    refine b_eql rfl rfl ?_
    refine m_bool rfl rfl ?_
    refine o_nil ?_
    refine k_cond rfl (fun h => ?_) (fun h => ?_)
    ·
      refine k_seq ?_
      refine k_region ?_
      refine m_int rfl rfl ?_
      refine m_int rfl rfl ?_
      refine o_call rfl rfl (bits_ok w _ _ 2 (by omega)) (fun v w1 hv => ?_)
      obtain ⟨rfl, rfl⟩ := hv
      refine m_int rfl rfl ?_
      refine m_int rfl rfl ?_
      refine o_nil ?_
      refine k_ret (ret_tmps (ts := [6, 7]) (v := .tuple #[.int _ _, .int _ _]) rfl rfl ?_)
      refine ⟨?_, rfl⟩
      first
       | exact tupl (relse op a b hop (by omega))
       | exact tupl (r0 op a b (by assumption) (by omega))
       | (obtain rfl : op = 97 := by omega
          exact tupl (r97 a b))
       | (obtain rfl : op = 101 := by omega
          exact tupl (r101 a b))
       | (obtain rfl : op = 105 := by omega
          exact tupl (r105 a b))
       | (obtain rfl : op = 109 := by omega
          first | exact tupl (r109 a b (by assumption)) | exact tupl (r109l a b (by assumption) (by assumption)))
       | (obtain rfl : op = 113 := by omega
          first | exact tupl (r113 a b (by assumption)) | exact tupl (r113l a b (by assumption) (by assumption)))
       | (obtain rfl : op = 117 := by omega
          exact tupl (r117 a b))
       | (obtain rfl : op = 121 := by omega
          exact tupl (r121 a b k hk))
       | (obtain rfl : op = 123 := by omega
          exact tupl (r123 a b k hk))
       | (obtain rfl : op = 125 := by omega
          exact tupl (r125z a b ha hk))
       | (obtain rfl : op = 125 := by omega
          exact tupl (r125 a b _ j ha hk (by first | rw [if_pos (by assumption)] | rw [if_neg (by assumption)])))
       | (obtain rfl : op = 127 := by omega
          exact tupl (r127 a b))
       | (obtain rfl : op = 129 := by omega
          exact tupl (r129 a b))
       | (obtain rfl : op = 131 := by omega
          exact tupl (r131 a b))
       | (exfalso; omega)
    refine k_skip ?_
    refine k_blk ?_
    refine k_seq ?_
    refine k_region ?_
    refine m_int rfl rfl ?_
    refine m_int rfl rfl ?_
    refine o_nil ?_
    refine k_ret (ret_tmps (ts := [6, 7]) (v := .tuple #[.int _ _, .int _ _]) rfl rfl ?_)
    refine ⟨?_, rfl⟩
    first
     | exact tupl (relse op a b hop (by omega))
     | exact tupl (r0 op a b (by assumption) (by omega))
     | (obtain rfl : op = 97 := by omega
        exact tupl (r97 a b))
     | (obtain rfl : op = 101 := by omega
        exact tupl (r101 a b))
     | (obtain rfl : op = 105 := by omega
        exact tupl (r105 a b))
     | (obtain rfl : op = 109 := by omega
        first | exact tupl (r109 a b (by assumption)) | exact tupl (r109l a b (by assumption) (by assumption)))
     | (obtain rfl : op = 113 := by omega
        first | exact tupl (r113 a b (by assumption)) | exact tupl (r113l a b (by assumption) (by assumption)))
     | (obtain rfl : op = 117 := by omega
        exact tupl (r117 a b))
     | (obtain rfl : op = 121 := by omega
        exact tupl (r121 a b k hk))
     | (obtain rfl : op = 123 := by omega
        exact tupl (r123 a b k hk))
     | (obtain rfl : op = 125 := by omega
        exact tupl (r125z a b ha hk))
     | (obtain rfl : op = 125 := by omega
        exact tupl (r125 a b _ j ha hk (by first | rw [if_pos (by assumption)] | rw [if_neg (by assumption)])))
     | (obtain rfl : op = 127 := by omega
        exact tupl (r127 a b))
     | (obtain rfl : op = 129 := by omega
        exact tupl (r129 a b))
     | (obtain rfl : op = 131 := by omega
        exact tupl (r131 a b))
     | (exfalso; omega)
  refine k_region ?_
  refine b_eql rfl rfl ?_
  refine m_bool rfl rfl ?_
  refine o_nil ?_
  refine k_cond rfl (fun h => ?_) (fun h => ?_)
  ·
    refine k_seq ?_
    refine k_seq ?_
    refine k_region ?_
    refine m_int rfl rfl ?_
    refine b_eql rfl rfl ?_
    refine o_nil ?_
    refine k_cond rfl (fun h => ?_) (fun h => ?_)
    ·
      refine k_seq ?_
      refine k_region ?_
      refine m_int rfl rfl ?_
      refine m_int rfl rfl ?_
      refine o_nil ?_
      refine k_ret (ret_tmps (ts := [6, 7]) (v := .tuple #[.int _ _, .int _ _]) rfl rfl ?_)
      refine ⟨?_, rfl⟩
      first
       | exact tupl (relse op a b hop (by omega))
       | exact tupl (r0 op a b (by assumption) (by omega))
       | (obtain rfl : op = 97 := by omega
          exact tupl (r97 a b))
       | (obtain rfl : op = 101 := by omega
          exact tupl (r101 a b))
       | (obtain rfl : op = 105 := by omega
          exact tupl (r105 a b))
       | (obtain rfl : op = 109 := by omega
          first | exact tupl (r109 a b (by assumption)) | exact tupl (r109l a b (by assumption) (by assumption)))
       | (obtain rfl : op = 113 := by omega
          first | exact tupl (r113 a b (by assumption)) | exact tupl (r113l a b (by assumption) (by assumption)))
       | (obtain rfl : op = 117 := by omega
          exact tupl (r117 a b))
       | (obtain rfl : op = 121 := by omega
          exact tupl (r121 a b k hk))
       | (obtain rfl : op = 123 := by omega
          exact tupl (r123 a b k hk))
       | (obtain rfl : op = 125 := by omega
          exact tupl (r125z a b ha hk))
       | (obtain rfl : op = 125 := by omega
          exact tupl (r125 a b _ j ha hk (by first | rw [if_pos (by assumption)] | rw [if_neg (by assumption)])))
       | (obtain rfl : op = 127 := by omega
          exact tupl (r127 a b))
       | (obtain rfl : op = 129 := by omega
          exact tupl (r129 a b))
       | (obtain rfl : op = 131 := by omega
          exact tupl (r131 a b))
       | (exfalso; omega)
    refine k_skip ?_
    refine k_seq ?_
    refine k_seq ?_
    refine k_region ?_
    refine m_int rfl rfl ?_
    refine b_eql rfl rfl ?_
    refine m_bool rfl rfl ?_
    refine o_split (t := 36) rfl (fun h => ?_) (fun h => ?_)
    ·
      refine g_yes rfl rfl ?_
      refine m_int rfl rfl ?_
      refine g_yes rfl rfl ?_
      refine b_eql rfl rfl ?_
      refine pick_t rfl rfl ?_
      refine o_nil ?_
      refine k_cond rfl (fun h => ?_) (fun h => ?_)
      ·
        refine k_seq ?_
        refine k_seq ?_
        refine k_region ?_
        refine m_int rfl rfl ?_
        refine b_eql rfl rfl ?_
        refine o_nil ?_
        refine k_cond rfl (fun h => ?_) (fun h => ?_)
        ·
          refine k_seq ?_
          refine k_region ?_
          refine m_int rfl rfl ?_
          refine m_int rfl rfl ?_
          refine m_int rfl rfl ?_
          refine o_nil ?_
          refine k_ret (ret_tmps (ts := [6, 7]) (v := .tuple #[.int _ _, .int _ _]) rfl rfl ?_)
          refine ⟨?_, rfl⟩
          first
           | exact tupl (relse op a b hop (by omega))
           | exact tupl (r0 op a b (by assumption) (by omega))
           | (obtain rfl : op = 97 := by omega
              exact tupl (r97 a b))
           | (obtain rfl : op = 101 := by omega
              exact tupl (r101 a b))
           | (obtain rfl : op = 105 := by omega
              exact tupl (r105 a b))
           | (obtain rfl : op = 109 := by omega
              first | exact tupl (r109 a b (by assumption)) | exact tupl (r109l a b (by assumption) (by assumption)))
           | (obtain rfl : op = 113 := by omega
              first | exact tupl (r113 a b (by assumption)) | exact tupl (r113l a b (by assumption) (by assumption)))
           | (obtain rfl : op = 117 := by omega
              exact tupl (r117 a b))
           | (obtain rfl : op = 121 := by omega
              exact tupl (r121 a b k hk))
           | (obtain rfl : op = 123 := by omega
              exact tupl (r123 a b k hk))
           | (obtain rfl : op = 125 := by omega
              exact tupl (r125z a b ha hk))
           | (obtain rfl : op = 125 := by omega
              exact tupl (r125 a b _ j ha hk (by first | rw [if_pos (by assumption)] | rw [if_neg (by assumption)])))
           | (obtain rfl : op = 127 := by omega
              exact tupl (r127 a b))
           | (obtain rfl : op = 129 := by omega
              exact tupl (r129 a b))
           | (obtain rfl : op = 131 := by omega
              exact tupl (r131 a b))
           | (exfalso; omega)
        refine k_skip ?_
        refine k_seq ?_
        refine k_region ?_
        refine m_int rfl rfl ?_
        refine m_int rfl rfl ?_
        refine o_nil ?_
        refine k_ret (ret_tmps (ts := [6, 7]) (v := .tuple #[.int _ _, .int _ _]) rfl rfl ?_)
        refine ⟨?_, rfl⟩
        first
         | exact tupl (relse op a b hop (by omega))
         | exact tupl (r0 op a b (by assumption) (by omega))
         | (obtain rfl : op = 97 := by omega
            exact tupl (r97 a b))
         | (obtain rfl : op = 101 := by omega
            exact tupl (r101 a b))
         | (obtain rfl : op = 105 := by omega
            exact tupl (r105 a b))
         | (obtain rfl : op = 109 := by omega
            first | exact tupl (r109 a b (by assumption)) | exact tupl (r109l a b (by assumption) (by assumption)))
         | (obtain rfl : op = 113 := by omega
            first | exact tupl (r113 a b (by assumption)) | exact tupl (r113l a b (by assumption) (by assumption)))
         | (obtain rfl : op = 117 := by omega
            exact tupl (r117 a b))
         | (obtain rfl : op = 121 := by omega
            exact tupl (r121 a b k hk))
         | (obtain rfl : op = 123 := by omega
            exact tupl (r123 a b k hk))
         | (obtain rfl : op = 125 := by omega
            exact tupl (r125z a b ha hk))
         | (obtain rfl : op = 125 := by omega
            exact tupl (r125 a b _ j ha hk (by first | rw [if_pos (by assumption)] | rw [if_neg (by assumption)])))
         | (obtain rfl : op = 127 := by omega
            exact tupl (r127 a b))
         | (obtain rfl : op = 129 := by omega
            exact tupl (r129 a b))
         | (obtain rfl : op = 131 := by omega
            exact tupl (r131 a b))
         | (exfalso; omega)
      refine k_skip ?_
      refine k_seq ?_
      refine k_seq ?_
      refine k_region ?_
      refine m_int rfl rfl ?_
      refine b_eql rfl rfl ?_
      refine o_nil ?_
      refine k_cond rfl (fun h => ?_) (fun h => ?_)
      ·
        refine k_seq ?_
        refine k_region ?_
        refine m_int rfl rfl ?_
        refine m_int rfl rfl ?_
        refine b_quo rfl rfl (by omega) ?_
        refine m_int rfl rfl ?_
        refine m_int rfl rfl ?_
        refine o_nil ?_
        refine k_ret (ret_tmps (ts := [6, 7]) (v := .tuple #[.int _ _, .int _ _]) rfl rfl ?_)
        refine ⟨?_, rfl⟩
        first
         | exact tupl (relse op a b hop (by omega))
         | exact tupl (r0 op a b (by assumption) (by omega))
         | (obtain rfl : op = 97 := by omega
            exact tupl (r97 a b))
         | (obtain rfl : op = 101 := by omega
            exact tupl (r101 a b))
         | (obtain rfl : op = 105 := by omega
            exact tupl (r105 a b))
         | (obtain rfl : op = 109 := by omega
            first | exact tupl (r109 a b (by assumption)) | exact tupl (r109l a b (by assumption) (by assumption)))
         | (obtain rfl : op = 113 := by omega
            first | exact tupl (r113 a b (by assumption)) | exact tupl (r113l a b (by assumption) (by assumption)))
         | (obtain rfl : op = 117 := by omega
            exact tupl (r117 a b))
         | (obtain rfl : op = 121 := by omega
            exact tupl (r121 a b k hk))
         | (obtain rfl : op = 123 := by omega
            exact tupl (r123 a b k hk))
         | (obtain rfl : op = 125 := by omega
            exact tupl (r125z a b ha hk))
         | (obtain rfl : op = 125 := by omega
            exact tupl (r125 a b _ j ha hk (by first | rw [if_pos (by assumption)] | rw [if_neg (by assumption)])))
         | (obtain rfl : op = 127 := by omega
            exact tupl (r127 a b))
         | (obtain rfl : op = 129 := by omega
            exact tupl (r129 a b))
         | (obtain rfl : op = 131 := by omega
            exact tupl (r131 a b))
         | (exfalso; omega)
      refine k_skip ?_
      refine k_seq ?_
      refine k_region ?_
      refine m_int rfl rfl ?_
      refine m_int rfl rfl ?_
      refine b_rem rfl rfl (by omega) ?_
      refine m_int rfl rfl ?_
      refine m_int rfl rfl ?_
      refine o_nil ?_
      refine k_ret (ret_tmps (ts := [6, 7]) (v := .tuple #[.int _ _, .int _ _]) rfl rfl ?_)
      refine ⟨?_, rfl⟩
      first
       | exact tupl (relse op a b hop (by omega))
       | exact tupl (r0 op a b (by assumption) (by omega))
       | (obtain rfl : op = 97 := by omega
          exact tupl (r97 a b))
       | (obtain rfl : op = 101 := by omega
          exact tupl (r101 a b))
       | (obtain rfl : op = 105 := by omega
          exact tupl (r105 a b))
       | (obtain rfl : op = 109 := by omega
          first | exact tupl (r109 a b (by assumption)) | exact tupl (r109l a b (by assumption) (by assumption)))
       | (obtain rfl : op = 113 := by omega
          first | exact tupl (r113 a b (by assumption)) | exact tupl (r113l a b (by assumption) (by assumption)))
       | (obtain rfl : op = 117 := by omega
          exact tupl (r117 a b))
       | (obtain rfl : op = 121 := by omega
          exact tupl (r121 a b k hk))
       | (obtain rfl : op = 123 := by omega
          exact tupl (r123 a b k hk))
       | (obtain rfl : op = 125 := by omega
          exact tupl (r125z a b ha hk))
       | (obtain rfl : op = 125 := by omega
          exact tupl (r125 a b _ j ha hk (by first | rw [if_pos (by assumption)] | rw [if_neg (by assumption)])))
       | (obtain rfl : op = 127 := by omega
          exact tupl (r127 a b))
       | (obtain rfl : op = 129 := by omega
          exact tupl (r129 a b))
       | (obtain rfl : op = 131 := by omega
          exact tupl (r131 a b))
       | (exfalso; omega)
    ·
      refine g_no rfl rfl rfl ?_
      refine g_no rfl rfl rfl ?_
      refine pick_f rfl rfl ?_
      refine o_nil ?_
      refine k_condf rfl ?_
      refine k_skip ?_
      refine k_seq ?_
      refine k_seq ?_
      refine k_region ?_
      refine m_int rfl rfl ?_
      refine b_eql rfl rfl ?_
      refine o_nil ?_
      refine k_cond rfl (fun h => ?_) (fun h => ?_)
      ·
        refine k_seq ?_
        refine k_region ?_
        refine m_int rfl rfl ?_
        refine m_int rfl rfl ?_
        refine b_quo rfl rfl (by omega) ?_
        refine m_int rfl rfl ?_
        refine m_int rfl rfl ?_
        refine o_nil ?_
        refine k_ret (ret_tmps (ts := [6, 7]) (v := .tuple #[.int _ _, .int _ _]) rfl rfl ?_)
        refine ⟨?_, rfl⟩
        first
         | exact tupl (relse op a b hop (by omega))
         | exact tupl (r0 op a b (by assumption) (by omega))
         | (obtain rfl : op = 97 := by omega
            exact tupl (r97 a b))
         | (obtain rfl : op = 101 := by omega
            exact tupl (r101 a b))
         | (obtain rfl : op = 105 := by omega
            exact tupl (r105 a b))
         | (obtain rfl : op = 109 := by omega
            first | exact tupl (r109 a b (by assumption)) | exact tupl (r109l a b (by assumption) (by assumption)))
         | (obtain rfl : op = 113 := by omega
            first | exact tupl (r113 a b (by assumption)) | exact tupl (r113l a b (by assumption) (by assumption)))
         | (obtain rfl : op = 117 := by omega
            exact tupl (r117 a b))
         | (obtain rfl : op = 121 := by omega
            exact tupl (r121 a b k hk))
         | (obtain rfl : op = 123 := by omega
            exact tupl (r123 a b k hk))
         | (obtain rfl : op = 125 := by omega
            exact tupl (r125z a b ha hk))
         | (obtain rfl : op = 125 := by omega
            exact tupl (r125 a b _ j ha hk (by first | rw [if_pos (by assumption)] | rw [if_neg (by assumption)])))
         | (obtain rfl : op = 127 := by omega
            exact tupl (r127 a b))
         | (obtain rfl : op = 129 := by omega
            exact tupl (r129 a b))
         | (obtain rfl : op = 131 := by omega
            exact tupl (r131 a b))
         | (exfalso; omega)
      refine k_skip ?_
      refine k_seq ?_
      refine k_region ?_
      refine m_int rfl rfl ?_
      refine m_int rfl rfl ?_
      refine b_rem rfl rfl (by omega) ?_
      refine m_int rfl rfl ?_
      refine m_int rfl rfl ?_
      refine o_nil ?_
      refine k_ret (ret_tmps (ts := [6, 7]) (v := .tuple #[.int _ _, .int _ _]) rfl rfl ?_)
      refine ⟨?_, rfl⟩
      first
       | exact tupl (relse op a b hop (by omega))
       | exact tupl (r0 op a b (by assumption) (by omega))
       | (obtain rfl : op = 97 := by omega
          exact tupl (r97 a b))
       | (obtain rfl : op = 101 := by omega
          exact tupl (r101 a b))
       | (obtain rfl : op = 105 := by omega
          exact tupl (r105 a b))
       | (obtain rfl : op = 109 := by omega
          first | exact tupl (r109 a b (by assumption)) | exact tupl (r109l a b (by assumption) (by assumption)))
       | (obtain rfl : op = 113 := by omega
          first | exact tupl (r113 a b (by assumption)) | exact tupl (r113l a b (by assumption) (by assumption)))
       | (obtain rfl : op = 117 := by omega
          exact tupl (r117 a b))
       | (obtain rfl : op = 121 := by omega
          exact tupl (r121 a b k hk))
       | (obtain rfl : op = 123 := by omega
          exact tupl (r123 a b k hk))
       | (obtain rfl : op = 125 := by omega
          exact tupl (r125z a b ha hk))
       | (obtain rfl : op = 125 := by omega
          exact tupl (r125 a b _ j ha hk (by first | rw [if_pos (by assumption)] | rw [if_neg (by assumption)])))
       | (obtain rfl : op = 127 := by omega
          exact tupl (r127 a b))
       | (obtain rfl : op = 129 := by omega
          exact tupl (r129 a b))
       | (obtain rfl : op = 131 := by omega
          exact tupl (r131 a b))
       | (exfalso; omega)
  refine k_seq ?_
  refine k_region ?_
  refine b_eql rfl rfl ?_
  refine m_bool rfl rfl ?_
  refine o_nil ?_
  refine k_cond rfl (fun h => ?_) (fun h => ?_)
  ·
    refine k_seq ?_
    refine k_region ?_
    refine m_int rfl rfl ?_
    refine b_sub rfl rfl ?_
    refine m_int rfl rfl ?_
    refine m_int rfl rfl ?_
    refine o_nil ?_
    refine k_ret (ret_tmps (ts := [6, 7]) (v := .tuple #[.int _ _, .int _ _]) rfl rfl ?_)
    refine ⟨?_, rfl⟩
    first
     | exact tupl (relse op a b hop (by omega))
     | exact tupl (r0 op a b (by assumption) (by omega))
     | (obtain rfl : op = 97 := by omega
        exact tupl (r97 a b))
     | (obtain rfl : op = 101 := by omega
        exact tupl (r101 a b))
     | (obtain rfl : op = 105 := by omega
        exact tupl (r105 a b))
     | (obtain rfl : op = 109 := by omega
        first | exact tupl (r109 a b (by assumption)) | exact tupl (r109l a b (by assumption) (by assumption)))
     | (obtain rfl : op = 113 := by omega
        first | exact tupl (r113 a b (by assumption)) | exact tupl (r113l a b (by assumption) (by assumption)))
     | (obtain rfl : op = 117 := by omega
        exact tupl (r117 a b))
     | (obtain rfl : op = 121 := by omega
        exact tupl (r121 a b k hk))
     | (obtain rfl : op = 123 := by omega
        exact tupl (r123 a b k hk))
     | (obtain rfl : op = 125 := by omega
        exact tupl (r125z a b ha hk))
     | (obtain rfl : op = 125 := by omega
        exact tupl (r125 a b _ j ha hk (by first | rw [if_pos (by assumption)] | rw [if_neg (by assumption)])))
     | (obtain rfl : op = 127 := by omega
        exact tupl (r127 a b))
     | (obtain rfl : op = 129 := by omega
        exact tupl (r129 a b))
     | (obtain rfl : op = 131 := by omega
        exact tupl (r131 a b))
     | (exfalso; omega)
  refine k_seq ?_
  refine k_region ?_
  refine b_eql rfl rfl ?_
  refine m_bool rfl rfl ?_
  refine o_nil ?_
  refine k_cond rfl (fun h => ?_) (fun h => ?_)
  ·
    refine k_seq ?_
    refine k_region ?_
    refine m_int rfl rfl ?_
    refine m_int rfl rfl ?_
    refine o_call rfl rfl (up_ok w _ k ha (by omega)) (fun v w1 hv => ?_)
    obtain ⟨rfl, rfl⟩ := hv
    refine m_int rfl rfl ?_
    refine m_int rfl rfl ?_
    refine o_nil ?_
    refine k_ret (ret_tmps (ts := [6, 7]) (v := .tuple #[.int _ _, .int _ _]) rfl rfl ?_)
    refine ⟨?_, rfl⟩
    first
     | exact tupl (relse op a b hop (by omega))
     | exact tupl (r0 op a b (by assumption) (by omega))
     | (obtain rfl : op = 97 := by omega
        exact tupl (r97 a b))
     | (obtain rfl : op = 101 := by omega
        exact tupl (r101 a b))
     | (obtain rfl : op = 105 := by omega
        exact tupl (r105 a b))
     | (obtain rfl : op = 109 := by omega
        first | exact tupl (r109 a b (by assumption)) | exact tupl (r109l a b (by assumption) (by assumption)))
     | (obtain rfl : op = 113 := by omega
        first | exact tupl (r113 a b (by assumption)) | exact tupl (r113l a b (by assumption) (by assumption)))
     | (obtain rfl : op = 117 := by omega
        exact tupl (r117 a b))
     | (obtain rfl : op = 121 := by omega
        exact tupl (r121 a b k hk))
     | (obtain rfl : op = 123 := by omega
        exact tupl (r123 a b k hk))
     | (obtain rfl : op = 125 := by omega
        exact tupl (r125z a b ha hk))
     | (obtain rfl : op = 125 := by omega
        exact tupl (r125 a b _ j ha hk (by first | rw [if_pos (by assumption)] | rw [if_neg (by assumption)])))
     | (obtain rfl : op = 127 := by omega
        exact tupl (r127 a b))
     | (obtain rfl : op = 129 := by omega
        exact tupl (r129 a b))
     | (obtain rfl : op = 131 := by omega
        exact tupl (r131 a b))
     | (exfalso; omega)
  refine k_seq ?_
  refine k_region ?_
  refine b_eql rfl rfl ?_
  refine m_bool rfl rfl ?_
  refine o_nil ?_
  refine k_cond rfl (fun h => ?_) (fun h => ?_)
  ·
    refine k_seq ?_
    refine k_region ?_
    refine m_int rfl rfl ?_
    refine m_int rfl rfl ?_
    refine o_call rfl rfl (down_ok w _ k ha (by omega)) (fun v w1 hv => ?_)
    obtain ⟨rfl, rfl⟩ := hv
    refine m_int rfl rfl ?_
    refine m_int rfl rfl ?_
    refine o_nil ?_
    refine k_ret (ret_tmps (ts := [6, 7]) (v := .tuple #[.int _ _, .int _ _]) rfl rfl ?_)
    refine ⟨?_, rfl⟩
    first
     | exact tupl (relse op a b hop (by omega))
     | exact tupl (r0 op a b (by assumption) (by omega))
     | (obtain rfl : op = 97 := by omega
        exact tupl (r97 a b))
     | (obtain rfl : op = 101 := by omega
        exact tupl (r101 a b))
     | (obtain rfl : op = 105 := by omega
        exact tupl (r105 a b))
     | (obtain rfl : op = 109 := by omega
        first | exact tupl (r109 a b (by assumption)) | exact tupl (r109l a b (by assumption) (by assumption)))
     | (obtain rfl : op = 113 := by omega
        first | exact tupl (r113 a b (by assumption)) | exact tupl (r113l a b (by assumption) (by assumption)))
     | (obtain rfl : op = 117 := by omega
        exact tupl (r117 a b))
     | (obtain rfl : op = 121 := by omega
        exact tupl (r121 a b k hk))
     | (obtain rfl : op = 123 := by omega
        exact tupl (r123 a b k hk))
     | (obtain rfl : op = 125 := by omega
        exact tupl (r125z a b ha hk))
     | (obtain rfl : op = 125 := by omega
        exact tupl (r125 a b _ j ha hk (by first | rw [if_pos (by assumption)] | rw [if_neg (by assumption)])))
     | (obtain rfl : op = 127 := by omega
        exact tupl (r127 a b))
     | (obtain rfl : op = 129 := by omega
        exact tupl (r129 a b))
     | (obtain rfl : op = 131 := by omega
        exact tupl (r131 a b))
     | (exfalso; omega)
  refine k_seq ?_
  refine k_region ?_
  refine b_eql rfl rfl ?_
  refine m_bool rfl rfl ?_
  refine o_nil ?_
  refine k_cond rfl (fun h => ?_) (fun h => ?_)
  ·
    refine k_seq ?_
    refine k_seq ?_
    refine k_region ?_
    refine m_int rfl rfl ?_
    refine b_eql rfl rfl ?_
    refine o_nil ?_
    refine k_cond rfl (fun h => ?_) (fun h => ?_)
    ·
      obtain rfl : k = 0 := by omega
      refine k_seq ?_
      refine k_region ?_
      refine m_int rfl rfl ?_
      refine m_int rfl rfl ?_
      refine m_int rfl rfl ?_
      refine o_nil ?_
      refine k_ret (ret_tmps (ts := [6, 7]) (v := .tuple #[.int _ _, .int _ _]) rfl rfl ?_)
      refine ⟨?_, rfl⟩
      first
       | exact tupl (relse op a b hop (by omega))
       | exact tupl (r0 op a b (by assumption) (by omega))
       | (obtain rfl : op = 97 := by omega
          exact tupl (r97 a b))
       | (obtain rfl : op = 101 := by omega
          exact tupl (r101 a b))
       | (obtain rfl : op = 105 := by omega
          exact tupl (r105 a b))
       | (obtain rfl : op = 109 := by omega
          first | exact tupl (r109 a b (by assumption)) | exact tupl (r109l a b (by assumption) (by assumption)))
       | (obtain rfl : op = 113 := by omega
          first | exact tupl (r113 a b (by assumption)) | exact tupl (r113l a b (by assumption) (by assumption)))
       | (obtain rfl : op = 117 := by omega
          exact tupl (r117 a b))
       | (obtain rfl : op = 121 := by omega
          exact tupl (r121 a b k hk))
       | (obtain rfl : op = 123 := by omega
          exact tupl (r123 a b k hk))
       | (obtain rfl : op = 125 := by omega
          exact tupl (r125z a b ha hk))
       | (obtain rfl : op = 125 := by omega
          exact tupl (r125 a b _ j ha hk (by first | rw [if_pos (by assumption)] | rw [if_neg (by assumption)])))
       | (obtain rfl : op = 127 := by omega
          exact tupl (r127 a b))
       | (obtain rfl : op = 129 := by omega
          exact tupl (r129 a b))
       | (obtain rfl : op = 131 := by omega
          exact tupl (r131 a b))
       | (exfalso; omega)
    obtain ⟨j, rfl⟩ : ∃ j, k = j + 1 := ⟨k - 1, by omega⟩
    refine k_skip ?_
    refine k_seq ?_
    refine k_region ?_
    refine m_int rfl rfl ?_
    refine o_call rfl rfl (down_ok w a 1 ha (by omega)) (fun v w1 hv => ?_)
    obtain ⟨rfl, rfl⟩ := hv
    refine m_int rfl rfl ?_
    refine o_nil ?_
    refine k_seq ?_
    refine k_seq ?_
    refine k_region ?_
    refine m_int rfl rfl ?_
    refine b_lss rfl rfl ?_
    refine o_nil ?_
    refine k_cond rfl (fun h => ?_) (fun h => ?_)
    ·
      refine k_region ?_
      refine m_int rfl rfl ?_
      refine n_sub rfl rfl (by omega) ?_
      refine m_int rfl rfl ?_
      refine o_nil ?_
      refine k_seq ?_
      refine k_region ?_
      refine m_int rfl rfl ?_
      refine m_int rfl rfl ?_
      refine n_sub rfl rfl (by omega) ?_
      rw [show (((j + 1 : Nat) : Int) - 1) = (j : Int) by omega]
      refine o_call rfl rfl (down_ok w1 _ j (by omega) (by omega)) (fun v w1 hv => ?_)
      obtain ⟨rfl, rfl⟩ := hv
      refine m_int rfl rfl ?_
      refine m_int rfl rfl ?_
      refine o_nil ?_
      refine k_ret (ret_tmps (ts := [6, 7]) (v := .tuple #[.int _ _, .int _ _]) rfl rfl ?_)
      refine ⟨?_, rfl⟩
      first
       | exact tupl (relse op a b hop (by omega))
       | exact tupl (r0 op a b (by assumption) (by omega))
       | (obtain rfl : op = 97 := by omega
          exact tupl (r97 a b))
       | (obtain rfl : op = 101 := by omega
          exact tupl (r101 a b))
       | (obtain rfl : op = 105 := by omega
          exact tupl (r105 a b))
       | (obtain rfl : op = 109 := by omega
          first | exact tupl (r109 a b (by assumption)) | exact tupl (r109l a b (by assumption) (by assumption)))
       | (obtain rfl : op = 113 := by omega
          first | exact tupl (r113 a b (by assumption)) | exact tupl (r113l a b (by assumption) (by assumption)))
       | (obtain rfl : op = 117 := by omega
          exact tupl (r117 a b))
       | (obtain rfl : op = 121 := by omega
          exact tupl (r121 a b k hk))
       | (obtain rfl : op = 123 := by omega
          exact tupl (r123 a b k hk))
       | (obtain rfl : op = 125 := by omega
          exact tupl (r125z a b ha hk))
       | (obtain rfl : op = 125 := by omega
          exact tupl (r125 a b _ j ha hk (by first | rw [if_pos (by assumption)] | rw [if_neg (by assumption)])))
       | (obtain rfl : op = 127 := by omega
          exact tupl (r127 a b))
       | (obtain rfl : op = 129 := by omega
          exact tupl (r129 a b))
       | (obtain rfl : op = 131 := by omega
          exact tupl (r131 a b))
       | (exfalso; omega)
    refine k_skip ?_
    refine k_seq ?_
    refine k_region ?_
    refine m_int rfl rfl ?_
    refine m_int rfl rfl ?_
    refine n_sub rfl rfl (by omega) ?_
    rw [show (((j + 1 : Nat) : Int) - 1) = (j : Int) by omega]
    refine o_call rfl rfl (down_ok w1 _ j (by omega) (by omega)) (fun v w1 hv => ?_)
    obtain ⟨rfl, rfl⟩ := hv
    refine m_int rfl rfl ?_
    refine m_int rfl rfl ?_
    refine o_nil ?_
    refine k_ret (ret_tmps (ts := [6, 7]) (v := .tuple #[.int _ _, .int _ _]) rfl rfl ?_)
    refine ⟨?_, rfl⟩
    first
     | exact tupl (relse op a b hop (by omega))
     | exact tupl (r0 op a b (by assumption) (by omega))
     | (obtain rfl : op = 97 := by omega
        exact tupl (r97 a b))
     | (obtain rfl : op = 101 := by omega
        exact tupl (r101 a b))
     | (obtain rfl : op = 105 := by omega
        exact tupl (r105 a b))
     | (obtain rfl : op = 109 := by omega
        first | exact tupl (r109 a b (by assumption)) | exact tupl (r109l a b (by assumption) (by assumption)))
     | (obtain rfl : op = 113 := by omega
        first | exact tupl (r113 a b (by assumption)) | exact tupl (r113l a b (by assumption) (by assumption)))
     | (obtain rfl : op = 117 := by omega
        exact tupl (r117 a b))
     | (obtain rfl : op = 121 := by omega
        exact tupl (r121 a b k hk))
     | (obtain rfl : op = 123 := by omega
        exact tupl (r123 a b k hk))
     | (obtain rfl : op = 125 := by omega
        exact tupl (r125z a b ha hk))
     | (obtain rfl : op = 125 := by omega
        exact tupl (r125 a b _ j ha hk (by first | rw [if_pos (by assumption)] | rw [if_neg (by assumption)])))
     | (obtain rfl : op = 127 := by omega
        exact tupl (r127 a b))
     | (obtain rfl : op = 129 := by omega
        exact tupl (r129 a b))
     | (obtain rfl : op = 131 := by omega
        exact tupl (r131 a b))
     | (exfalso; omega)
  refine k_seq ?_
  refine k_region ?_
  refine b_eql rfl rfl ?_
  refine m_bool rfl rfl ?_
  refine o_nil ?_
  refine k_cond rfl (fun h => ?_) (fun h => ?_)
  ·
    refine k_seq ?_
    refine k_region ?_
    refine m_int rfl rfl ?_
    refine m_int rfl rfl ?_
    refine o_call rfl rfl (bits_ok w _ _ 0 (by omega)) (fun v w1 hv => ?_)
    obtain ⟨rfl, rfl⟩ := hv
    refine m_int rfl rfl ?_
    refine m_int rfl rfl ?_
    refine o_nil ?_
    refine k_ret (ret_tmps (ts := [6, 7]) (v := .tuple #[.int _ _, .int _ _]) rfl rfl ?_)
    refine ⟨?_, rfl⟩
    first
     | exact tupl (relse op a b hop (by omega))
     | exact tupl (r0 op a b (by assumption) (by omega))
     | (obtain rfl : op = 97 := by omega
        exact tupl (r97 a b))
     | (obtain rfl : op = 101 := by omega
        exact tupl (r101 a b))
     | (obtain rfl : op = 105 := by omega
        exact tupl (r105 a b))
     | (obtain rfl : op = 109 := by omega
        first | exact tupl (r109 a b (by assumption)) | exact tupl (r109l a b (by assumption) (by assumption)))
     | (obtain rfl : op = 113 := by omega
        first | exact tupl (r113 a b (by assumption)) | exact tupl (r113l a b (by assumption) (by assumption)))
     | (obtain rfl : op = 117 := by omega
        exact tupl (r117 a b))
     | (obtain rfl : op = 121 := by omega
        exact tupl (r121 a b k hk))
     | (obtain rfl : op = 123 := by omega
        exact tupl (r123 a b k hk))
     | (obtain rfl : op = 125 := by omega
        exact tupl (r125z a b ha hk))
     | (obtain rfl : op = 125 := by omega
        exact tupl (r125 a b _ j ha hk (by first | rw [if_pos (by assumption)] | rw [if_neg (by assumption)])))
     | (obtain rfl : op = 127 := by omega
        exact tupl (r127 a b))
     | (obtain rfl : op = 129 := by omega
        exact tupl (r129 a b))
     | (obtain rfl : op = 131 := by omega
        exact tupl (r131 a b))
     | (exfalso; omega)
  refine k_seq ?_
  refine k_region ?_
  refine b_eql rfl rfl ?_
  refine m_bool rfl rfl ?_
  refine o_nil ?_
  refine k_cond rfl (fun h => ?_) (fun h => ?_)
  ·
    refine k_seq ?_
    refine k_region ?_
    refine m_int rfl rfl ?_
    refine m_int rfl rfl ?_
    refine o_call rfl rfl (bits_ok w _ _ 1 (by omega)) (fun v w1 hv => ?_)
    obtain ⟨rfl, rfl⟩ := hv
    refine m_int rfl rfl ?_
    refine m_int rfl rfl ?_
    refine o_nil ?_
    refine k_ret (ret_tmps (ts := [6, 7]) (v := .tuple #[.int _ _, .int _ _]) rfl rfl ?_)
    refine ⟨?_, rfl⟩
    first
     | exact tupl (relse op a b hop (by omega))
     | exact tupl (r0 op a b (by assumption) (by omega))
     | (obtain rfl : op = 97 := by omega
        exact tupl (r97 a b))
     | (obtain rfl : op = 101 := by omega
        exact tupl (r101 a b))
     | (obtain rfl : op = 105 := by omega
        exact tupl (r105 a b))
     | (obtain rfl : op = 109 := by omega
        first | exact tupl (r109 a b (by assumption)) | exact tupl (r109l a b (by assumption) (by assumption)))
     | (obtain rfl : op = 113 := by omega
        first | exact tupl (r113 a b (by assumption)) | exact tupl (r113l a b (by assumption) (by assumption)))
     | (obtain rfl : op = 117 := by omega
        exact tupl (r117 a b))
     | (obtain rfl : op = 121 := by omega
        exact tupl (r121 a b k hk))
     | (obtain rfl : op = 123 := by omega
        exact tupl (r123 a b k hk))
     | (obtain rfl : op = 125 := by omega
        exact tupl (r125z a b ha hk))
     | (obtain rfl : op = 125 := by omega
        exact tupl (r125 a b _ j ha hk (by first | rw [if_pos (by assumption)] | rw [if_neg (by assumption)])))
     | (obtain rfl : op = 127 := by omega
        exact tupl (r127 a b))
     | (obtain rfl : op = 129 := by omega
        exact tupl (r129 a b))
     | (obtain rfl : op = 131 := by omega
        exact tupl (r131 a b))
     | (exfalso; omega)
  refine k_seq ?_
  refine k_region ?_
  refine b_eql rfl rfl ?_
  refine m_bool rfl rfl ?_
  refine o_nil ?_
  refine k_cond rfl (fun h => ?_) (fun h => ?_)
  ·
    refine k_seq ?_
    refine k_region ?_
    refine m_int rfl rfl ?_
    refine m_int rfl rfl ?_
    refine o_call rfl rfl (bits_ok w _ _ 2 (by omega)) (fun v w1 hv => ?_)
    obtain ⟨rfl, rfl⟩ := hv
    refine m_int rfl rfl ?_
    refine m_int rfl rfl ?_
    refine o_nil ?_
    refine k_ret (ret_tmps (ts := [6, 7]) (v := .tuple #[.int _ _, .int _ _]) rfl rfl ?_)
    refine ⟨?_, rfl⟩
    first
     | exact tupl (relse op a b hop (by omega))
     | exact tupl (r0 op a b (by assumption) (by omega))
     | (obtain rfl : op = 97 := by omega
        exact tupl (r97 a b))
     | (obtain rfl : op = 101 := by omega
        exact tupl (r101 a b))
     | (obtain rfl : op = 105 := by omega
        exact tupl (r105 a b))
     | (obtain rfl : op = 109 := by omega
        first | exact tupl (r109 a b (by assumption)) | exact tupl (r109l a b (by assumption) (by assumption)))
     | (obtain rfl : op = 113 := by omega
        first | exact tupl (r113 a b (by assumption)) | exact tupl (r113l a b (by assumption) (by assumption)))
     | (obtain rfl : op = 117 := by omega
        exact tupl (r117 a b))
     | (obtain rfl : op = 121 := by omega
        exact tupl (r121 a b k hk))
     | (obtain rfl : op = 123 := by omega
        exact tupl (r123 a b k hk))
     | (obtain rfl : op = 125 := by omega
        exact tupl (r125z a b ha hk))
     | (obtain rfl : op = 125 := by omega
        exact tupl (r125 a b _ j ha hk (by first | rw [if_pos (by assumption)] | rw [if_neg (by assumption)])))
     | (obtain rfl : op = 127 := by omega
        exact tupl (r127 a b))
     | (obtain rfl : op = 129 := by omega
        exact tupl (r129 a b))
     | (obtain rfl : op = 131 := by omega
        exact tupl (r131 a b))
     | (exfalso; omega)
  refine k_skip ?_
  refine k_blk ?_
  refine k_seq ?_
  refine k_region ?_
  refine m_int rfl rfl ?_
  refine m_int rfl rfl ?_
  refine o_nil ?_
  refine k_ret (ret_tmps (ts := [6, 7]) (v := .tuple #[.int _ _, .int _ _]) rfl rfl ?_)
  refine ⟨?_, rfl⟩
  first
   | exact tupl (relse op a b hop (by omega))
   | exact tupl (r0 op a b (by assumption) (by omega))
   | (obtain rfl : op = 97 := by omega
      exact tupl (r97 a b))
   | (obtain rfl : op = 101 := by omega
      exact tupl (r101 a b))
   | (obtain rfl : op = 105 := by omega
      exact tupl (r105 a b))
   | (obtain rfl : op = 109 := by omega
      first | exact tupl (r109 a b (by assumption)) | exact tupl (r109l a b (by assumption) (by assumption)))
   | (obtain rfl : op = 113 := by omega
      first | exact tupl (r113 a b (by assumption)) | exact tupl (r113l a b (by assumption) (by assumption)))
   | (obtain rfl : op = 117 := by omega
      exact tupl (r117 a b))
   | (obtain rfl : op = 121 := by omega
      exact tupl (r121 a b k hk))
   | (obtain rfl : op = 123 := by omega
      exact tupl (r123 a b k hk))
   | (obtain rfl : op = 125 := by omega
      exact tupl (r125z a b ha hk))
   | (obtain rfl : op = 125 := by omega
      exact tupl (r125 a b _ j ha hk (by first | rw [if_pos (by assumption)] | rw [if_neg (by assumption)])))
   | (obtain rfl : op = 127 := by omega
      exact tupl (r127 a b))
   | (obtain rfl : op = 129 := by omega
      exact tupl (r129 a b))
   | (obtain rfl : op = 131 := by omega
      exact tupl (r131 a b))
   | (exfalso; omega)

theorem longs_ok (w : World) (op a b : Int) (hop : -9223372036854775808 ≤ op ∧ op ≤ 9223372036854775807) (ha : -9223372036854775808 ≤ a ∧ a ≤ 9223372036854775807) : Ret Try.prog 4 [.int .i64 op, .int .i64 a, .int .i64 b] w (fun v w' => v = .bool true ∧ Keep [] w w') := by
  refine fn_enter (n := 35) Try.func4 rfl rfl (Nat.le_of_ble_eq_true rfl) (fun e => ?_)
  refine k_seq ?_
  refine k_region ?_
  refine m_bool rfl rfl ?_
  refine o_nil ?_
  refine k_seq ?_
  refine k_seq ?_
  refine k_region ?_
  refine o_call rfl rfl (fixed_ok w) (fun v w1 hv => ?_)
  obtain ⟨rfl, rfl⟩ := hv
  refine u_notb rfl ?_
  refine o_nil ?_
  refine k_condf rfl ?_
  refine k_skip ?_
  refine k_seq ?_
  refine k_region ?_
  refine m_int rfl rfl ?_
  refine m_int rfl rfl ?_
  refine m_int rfl rfl ?_
  refine o_call rfl rfl (long_ok w1 _ _ _) (fun v w1 hv => ?_)
  obtain ⟨rfl, rfl⟩ := hv
  refine m_any rfl rfl ?_
  refine o_extr rfl rfl ?_
  refine o_extr rfl rfl ?_
  refine m_int rfl rfl ?_
  refine m_int rfl rfl ?_
  refine o_nil ?_
  refine k_seq ?_
  refine k_region ?_
  refine m_int rfl rfl ?_
  refine m_int rfl rfl ?_
  refine m_int rfl rfl ?_
  refine o_call rfl rfl (rlong_ok w1 _ _ _ hop ha) (fun v w1 hv => ?_)
  obtain ⟨rfl, rfl⟩ := hv
  refine m_any rfl rfl ?_
  refine o_extr rfl rfl ?_
  refine o_extr rfl rfl ?_
  refine m_int rfl rfl ?_
  refine m_int rfl rfl ?_
  refine o_nil ?_
  refine k_seq ?_
  refine k_region ?_
  refine m_int rfl rfl ?_
  refine m_int rfl rfl ?_
  refine b_eql rfl rfl ?_
  refine m_bool rfl rfl ?_
  refine o_true (t := 30) rfl (rfl) ?_
  refine g_yes rfl rfl ?_
  refine m_int rfl rfl ?_
  refine g_yes rfl rfl ?_
  refine m_int rfl rfl ?_
  refine g_yes rfl rfl ?_
  refine b_eql rfl rfl ?_
  refine pick_t rfl rfl ?_
  refine m_bool rfl rfl ?_
  refine o_nil ?_
  refine k_ret (ret_tmps (ts := [6]) (v := .bool _) rfl rfl ?_)
  exact ⟨congrArg Value.bool (decide_eq_true rfl), Keep.refl _ _⟩
end Go.Proofs.Ytahhgocfgniejaa
