/- The heads of blocks: the walks of Head, of the program and of the document. No condition beyond what each contract names. -/
import Derived.Test.YtchbidckckmobaaDoorEr
namespace Go.Proofs.YtchbidckckmobaaDoor
open Go.RowKit E
set_option linter.unusedVariables false
set_option linter.unusedSimpArgs false
set_option maxRecDepth 100000
attribute [local irreducible] ow qw kw kq cw opW Ret
/-- numbers that make a head -/
def hOk (kind cl n mask : Int) : Prop := 1 ≤ kind ∧ kind ≤ 3 ∧ 0 ≤ cl ∧ cl ≤ 65535 ∧ 0 ≤ n ∧ n ≤ 65536 ∧ (kind ≠ 1 → mask = 0) ∧ (kind = 1 → n ≤ 32 ∧ 0 ≤ mask ∧ mask < 2 ^ n.toNat)
instance (kind cl n mask : Int) : Decidable (hOk kind cl n mask) := by unfold hOk; infer_instance
def headW (kind cl n mask : Int) : Int × Int := if hOk kind cl n mask then (kind + 4 * cl + 262144 * n + 16777216 * mask, 0) else (0, 1)
theorem head_yes {kind cl n mask : Int} (h : hOk kind cl n mask) : headW kind cl n mask = (kind + 4 * cl + 262144 * n + 16777216 * mask, 0) := if_pos h
theorem head_no {kind cl n mask : Int} (h : ¬ hOk kind cl n mask) : headW kind cl n mask = (0, 1) := if_neg h
theorem tup2 {kind cl n mask : Int} {p : Int × Int} (h : headW kind cl n mask = p) : Value.tuple #[.int .i64 p.1, .int .i64 p.2] = .tuple #[.int .i64 (headW kind cl n mask).1, .int .i64 (headW kind cl n mask).2] := by rw [h]

theorem orA (a b i : Nat) (h : a < 2 ^ i) : a ||| b <<< i = a + b * 2 ^ i := by
  rw [Nat.or_comm, ← Nat.shiftLeft_add_eq_or_of_lt h, Nat.shiftLeft_eq]; omega
theorem ofZ (x : Int) : (BitVec.ofInt 64 x).toNat = (x % 18446744073709551616).toNat := by
  rw [BitVec.toNat_ofInt]; rfl
theorem pow32 (n : Nat) (h : n ≤ 32) : 2 ^ n ≤ 4294967296 := Nat.pow_le_pow_right (n := 2) (by decide) h
theorem head_val (kind cl n mask : Int) (h : hOk kind cl n mask) :
    (((BitVec.ofInt 64 kind ||| BitVec.ofInt 64 cl <<< 2) ||| BitVec.ofInt 64 n <<< 18) ||| BitVec.ofInt 64 mask <<< 24).toInt = kind + 4 * cl + 262144 * n + 16777216 * mask := by
  obtain ⟨h1, h2, h3, h4, h5, h6, h7, h8⟩ := h
  have hm : 0 ≤ mask ∧ mask < 4294967296 := by
    by_cases hk : kind = 1
    · have := h8 hk
      have hp := pow32 n.toNat (by omega)
      have : mask < ((2 ^ n.toNat : Nat) : Int) := by simpa using this.2.2
      omega
    · have := h7 hk; omega
  have h9 : kind = 1 → n ≤ 32 := fun hk => (h8 hk).1
  clear h8
  obtain ⟨k, rfl⟩ : ∃ k : Nat, kind = k := ⟨kind.toNat, by omega⟩
  obtain ⟨c, rfl⟩ : ∃ k : Nat, cl = k := ⟨cl.toNat, by omega⟩
  obtain ⟨l, rfl⟩ : ∃ k : Nat, n = k := ⟨n.toNat, by omega⟩
  obtain ⟨m, rfl⟩ : ∃ k : Nat, mask = k := ⟨mask.toNat, by omega⟩
  have e : (((BitVec.ofInt 64 (k : Int) ||| BitVec.ofInt 64 (c : Int) <<< 2) ||| BitVec.ofInt 64 (l : Int) <<< 18) ||| BitVec.ofInt 64 (m : Int) <<< 24).toNat = k + 4 * c + 262144 * l + 16777216 * m := by
    rw [BitVec.toNat_or, BitVec.toNat_or, BitVec.toNat_or, BitVec.toNat_shiftLeft, BitVec.toNat_shiftLeft, BitVec.toNat_shiftLeft, ofN k (by omega), ofN c (by omega), ofN l (by omega), ofN m (by omega)]
    rw [Nat.mod_eq_of_lt (a := c <<< 2) (by rw [Nat.shiftLeft_eq]; omega), Nat.mod_eq_of_lt (a := l <<< 18) (by rw [Nat.shiftLeft_eq]; omega), Nat.mod_eq_of_lt (a := m <<< 24) (by rw [Nat.shiftLeft_eq]; omega)]
    rw [orA k c 2 (by omega), orA (k + c * 2 ^ 2) l 18 (by omega)]
    by_cases hk : k = 1
    · rw [orA _ m 24 (by omega)]; omega
    · have : m = 0 := by omega
      subst this
      rw [Nat.zero_shiftLeft, Nat.or_zero]; omega
  rw [BitVec.toInt_eq_toNat_of_lt (by rw [e]; omega), e]
  omega
theorem shr0 (mask : Int) (n : Int) (hm : -9223372036854775808 ≤ mask ∧ mask ≤ 9223372036854775807) (hn : 0 ≤ n ∧ n ≤ 32) :
    (BitVec.ofInt 64 mask) >>> (BitVec.ofInt 64 n).toNat = 0#64 ↔ 0 ≤ mask ∧ mask < 2 ^ n.toNat := by
  obtain ⟨l, rfl⟩ : ∃ k : Nat, n = k := ⟨n.toNat, by omega⟩
  have hp := pow32 l (by omega)
  rw [ofN l (by omega), Int.toNat_natCast]
  have e : (BitVec.ofInt 64 mask) >>> l = 0#64 ↔ (BitVec.ofInt 64 mask).toNat / 2 ^ l = 0 := by
    constructor
    · intro h
      have := congrArg BitVec.toNat h
      rw [BitVec.toNat_ushiftRight, Nat.shiftRight_eq_div_pow] at this
      simpa using this
    · intro h
      apply BitVec.eq_of_toNat_eq
      rw [BitVec.toNat_ushiftRight, Nat.shiftRight_eq_div_pow, h]
      rfl
  have e2 : (2 : Int) ^ l = ((2 ^ l : Nat) : Int) := by simp
  rw [e, Nat.div_eq_zero_iff, ofZ, e2]
  have hp0 : 0 < 2 ^ l := Nat.pow_pos (by decide)
  omega

theorem head_ok (w : World) (kind cl n mask : Int) (hc : -9223372036854775808 ≤ cl ∧ cl ≤ 9223372036854775807) (hn : -9223372036854775808 ≤ n ∧ n ≤ 9223372036854775807) (hm : -9223372036854775808 ≤ mask ∧ mask ≤ 9223372036854775807) :
    Ret Tryd.prog 66 [.int .i64 kind, .int .i64 cl, .int .i64 n, .int .i64 mask] w (fun v w' => v = .tuple #[.int .i64 (headW kind cl n mask).1, .int .i64 (headW kind cl n mask).2] ∧ w' = w) := by
  have fc : (65535 < ((BitVec.ofInt 64 cl).toNat : Int)) ↔ ¬ (0 ≤ cl ∧ cl ≤ 65535) := by rw [ofZ]; omega
  have fn : (65536 < ((BitVec.ofInt 64 n).toNat : Int)) ↔ ¬ (0 ≤ n ∧ n ≤ 65536) := by rw [ofZ]; omega
  refine fn_enter (n := 65) Tryd.func66 rfl rfl (Nat.le_of_ble_eq_true rfl) (fun e => ?_)
  refine k_seq ?_
  refine k_region ?_
  refine m_int rfl rfl ?_
  refine m_int rfl rfl ?_
  refine o_nil ?_
  refine k_seq ?_
  refine k_seq ?_
  refine k_region ?_
  refine m_int rfl rfl ?_
  refine b_lss rfl rfl ?_
  refine m_bool rfl rfl ?_
  refine o_split (t := 13) rfl (fun h => ?_) (fun h => ?_)
  ·
    refine g_no rfl rfl rfl ?_
    refine g_no rfl rfl rfl ?_
    refine pick_t rfl rfl ?_
    refine m_bool rfl rfl ?_
    refine g_no rfl rfl rfl ?_
    refine g_no rfl rfl rfl ?_
    refine g_no rfl rfl rfl ?_
    refine pick_t rfl rfl ?_
    refine m_bool rfl rfl ?_
    refine g_no rfl rfl rfl ?_
    refine g_no rfl rfl rfl ?_
    refine g_no rfl rfl rfl ?_
    refine pick_t rfl rfl ?_
    refine o_nil ?_
    refine k_condt rfl ?_
    refine k_seq ?_
    refine k_region ?_
    refine m_int rfl rfl ?_
    refine m_int rfl rfl ?_
    refine o_nil ?_
    refine k_ret (ret_tmps (ts := [8, 9]) (v := .tuple #[.int _ _, .int _ _]) rfl rfl ?_)
    refine ⟨?_, rfl⟩
    first
     | exact tup2 (head_no (fun H => by unfold hOk at H; omega))
     | (have H : hOk kind cl n mask := by
         unfold hOk
         first | omega | (have hq := fm.1 (by first | assumption | exact Decidable.of_not_not (by assumption)); omega)
        have hv := head_val _ _ _ _ H
        rw [head_yes H]
        exact congrArg (fun x => Value.tuple #[.int .i64 x, .int .i64 0]) hv)
     | exact tup2 (head_no (fun H => by
         have hq := fm.2 (by unfold hOk at H; omega)
         contradiction))
  ·
    refine g_yes rfl rfl ?_
    refine m_int rfl rfl ?_
    refine g_yes rfl rfl ?_
    refine b_gtr rfl rfl ?_
    refine pick_f rfl rfl ?_
    refine m_bool rfl rfl ?_
    refine o_split (t := 17) rfl (fun h => ?_) (fun h => ?_)
    ·
      refine g_no rfl rfl rfl ?_
      refine g_no rfl rfl rfl ?_
      refine g_no rfl rfl rfl ?_
      refine pick_t rfl rfl ?_
      refine m_bool rfl rfl ?_
      refine g_no rfl rfl rfl ?_
      refine g_no rfl rfl rfl ?_
      refine g_no rfl rfl rfl ?_
      refine pick_t rfl rfl ?_
      refine o_nil ?_
      refine k_condt rfl ?_
      refine k_seq ?_
      refine k_region ?_
      refine m_int rfl rfl ?_
      refine m_int rfl rfl ?_
      refine o_nil ?_
      refine k_ret (ret_tmps (ts := [8, 9]) (v := .tuple #[.int _ _, .int _ _]) rfl rfl ?_)
      refine ⟨?_, rfl⟩
      first
       | exact tup2 (head_no (fun H => by unfold hOk at H; omega))
       | (have H : hOk kind cl n mask := by
           unfold hOk
           first | omega | (have hq := fm.1 (by first | assumption | exact Decidable.of_not_not (by assumption)); omega)
          have hv := head_val _ _ _ _ H
          rw [head_yes H]
          exact congrArg (fun x => Value.tuple #[.int .i64 x, .int .i64 0]) hv)
       | exact tup2 (head_no (fun H => by
           have hq := fm.2 (by unfold hOk at H; omega)
           contradiction))
    ·
      refine g_yes rfl rfl ?_
      refine m_int rfl rfl ?_
      refine g_yes rfl rfl ?_
      refine cv64 rfl Tryd.underlying49 rfl ?_
      refine g_yes rfl rfl ?_
      refine b_gtr rfl rfl ?_
      refine pick_f rfl rfl ?_
      refine m_bool rfl rfl ?_
      refine o_split (t := 22) rfl (fun h => ?_) (fun h => ?_)
      ·
        have h' := fc.1 h
        refine g_no rfl rfl rfl ?_
        refine g_no rfl rfl rfl ?_
        refine g_no rfl rfl rfl ?_
        refine pick_t rfl rfl ?_
        refine o_nil ?_
        refine k_condt rfl ?_
        refine k_seq ?_
        refine k_region ?_
        refine m_int rfl rfl ?_
        refine m_int rfl rfl ?_
        refine o_nil ?_
        refine k_ret (ret_tmps (ts := [8, 9]) (v := .tuple #[.int _ _, .int _ _]) rfl rfl ?_)
        refine ⟨?_, rfl⟩
        first
         | exact tup2 (head_no (fun H => by unfold hOk at H; omega))
         | (have H : hOk kind cl n mask := by
             unfold hOk
             first | omega | (have hq := fm.1 (by first | assumption | exact Decidable.of_not_not (by assumption)); omega)
            have hv := head_val _ _ _ _ H
            rw [head_yes H]
            exact congrArg (fun x => Value.tuple #[.int .i64 x, .int .i64 0]) hv)
         | exact tup2 (head_no (fun H => by
             have hq := fm.2 (by unfold hOk at H; omega)
             contradiction))
      ·
        have h' : 0 ≤ cl ∧ cl ≤ 65535 := by omega
        refine g_yes rfl rfl ?_
        refine m_int rfl rfl ?_
        refine g_yes rfl rfl ?_
        refine cv64 rfl Tryd.underlying49 rfl ?_
        refine g_yes rfl rfl ?_
        refine b_gtr rfl rfl ?_
        refine pick_f rfl rfl ?_
        refine o_nil ?_
        refine k_cond rfl (fun h => ?_) (fun h => ?_)
        ·
          have h'' := fn.1 h
          refine k_seq ?_
          refine k_region ?_
          refine m_int rfl rfl ?_
          refine m_int rfl rfl ?_
          refine o_nil ?_
          refine k_ret (ret_tmps (ts := [8, 9]) (v := .tuple #[.int _ _, .int _ _]) rfl rfl ?_)
          refine ⟨?_, rfl⟩
          first
           | exact tup2 (head_no (fun H => by unfold hOk at H; omega))
           | (have H : hOk kind cl n mask := by
               unfold hOk
               first | omega | (have hq := fm.1 (by first | assumption | exact Decidable.of_not_not (by assumption)); omega)
              have hv := head_val _ _ _ _ H
              rw [head_yes H]
              exact congrArg (fun x => Value.tuple #[.int .i64 x, .int .i64 0]) hv)
           | exact tup2 (head_no (fun H => by
               have hq := fm.2 (by unfold hOk at H; omega)
               contradiction))
        have h'' : 0 ≤ n ∧ n ≤ 65536 := by omega
        refine k_skip ?_
        refine k_seq ?_
        refine k_seq ?_
        refine k_region ?_
        refine m_int rfl rfl ?_
        refine b_gtr rfl rfl ?_
        refine m_bool rfl rfl ?_
        refine o_split (t := 29) rfl (fun h => ?_) (fun h => ?_)
        ·
          refine g_yes rfl rfl ?_
          refine m_int rfl rfl ?_
          refine g_yes rfl rfl ?_
          refine b_neq rfl rfl ?_
          refine pick_t rfl rfl ?_
          refine m_bool rfl rfl ?_
          refine o_split (t := 33) rfl (fun h => ?_) (fun h => ?_)
          ·
            refine g_no rfl rfl rfl ?_
            refine g_no rfl rfl rfl ?_
            refine g_no rfl rfl rfl ?_
            refine g_un rfl rfl ?_
            refine g_un rfl rfl ?_
            refine g_un rfl rfl ?_
            refine g_un rfl rfl ?_
            refine g_un rfl rfl ?_
            refine g_un rfl rfl ?_
            refine g_un rfl rfl ?_
            refine g_un rfl rfl ?_
            refine g_un rfl rfl ?_
            refine g_un rfl rfl ?_
            refine g_no rfl rfl rfl ?_
            refine pick_t rfl rfl ?_
            refine o_nil ?_
            refine k_condt rfl ?_
            refine k_seq ?_
            refine k_region ?_
            refine m_int rfl rfl ?_
            refine m_int rfl rfl ?_
            refine o_nil ?_
            refine k_ret (ret_tmps (ts := [8, 9]) (v := .tuple #[.int _ _, .int _ _]) rfl rfl ?_)
            refine ⟨?_, rfl⟩
            first
             | exact tup2 (head_no (fun H => by unfold hOk at H; omega))
             | (have H : hOk kind cl n mask := by
                 unfold hOk
                 first | omega | (have hq := fm.1 (by first | assumption | exact Decidable.of_not_not (by assumption)); omega)
                have hv := head_val _ _ _ _ H
                rw [head_yes H]
                exact congrArg (fun x => Value.tuple #[.int .i64 x, .int .i64 0]) hv)
             | exact tup2 (head_no (fun H => by
                 have hq := fm.2 (by unfold hOk at H; omega)
                 contradiction))
          ·
            refine g_yes rfl rfl ?_
            refine m_int rfl rfl ?_
            refine g_yes rfl rfl ?_
            refine b_eql rfl rfl ?_
            refine g_yes rfl rfl ?_
            refine m_bool rfl rfl ?_
            refine o_split (t := 36) rfl (fun h => ?_) (fun h => ?_)
            ·
              refine g_yes rfl rfl ?_
              refine m_int rfl rfl ?_
              refine g_yes rfl rfl ?_
              refine b_gtr rfl rfl ?_
              refine g_yes rfl rfl ?_
              refine m_bool rfl rfl ?_
              refine o_split (t := 39) rfl (fun h => ?_) (fun h => ?_)
              ·
                refine g_no rfl rfl rfl ?_
                refine g_no rfl rfl rfl ?_
                refine g_no rfl rfl rfl ?_
                refine g_no rfl rfl rfl ?_
                refine g_no rfl rfl rfl ?_
                refine g_no rfl rfl rfl ?_
                refine g_yes rfl rfl ?_
                refine pick_t rfl rfl ?_
                refine g_yes rfl rfl ?_
                refine pick_t rfl rfl ?_
                refine pick_f rfl rfl ?_
                refine o_nil ?_
                refine k_condt rfl ?_
                refine k_seq ?_
                refine k_region ?_
                refine m_int rfl rfl ?_
                refine m_int rfl rfl ?_
                refine o_nil ?_
                refine k_ret (ret_tmps (ts := [8, 9]) (v := .tuple #[.int _ _, .int _ _]) rfl rfl ?_)
                refine ⟨?_, rfl⟩
                first
                 | exact tup2 (head_no (fun H => by unfold hOk at H; omega))
                 | (have H : hOk kind cl n mask := by
                     unfold hOk
                     first | omega | (have hq := fm.1 (by first | assumption | exact Decidable.of_not_not (by assumption)); omega)
                    have hv := head_val _ _ _ _ H
                    rw [head_yes H]
                    exact congrArg (fun x => Value.tuple #[.int .i64 x, .int .i64 0]) hv)
                 | exact tup2 (head_no (fun H => by
                     have hq := fm.2 (by unfold hOk at H; omega)
                     contradiction))
              ·
                have fm := shr0 mask n hm (by omega)
                refine g_yes rfl rfl ?_
                refine m_int rfl rfl ?_
                refine g_yes rfl rfl ?_
                refine cv64 rfl Tryd.underlying105 rfl ?_
                refine g_yes rfl rfl ?_
                refine m_int rfl rfl ?_
                refine g_yes rfl rfl ?_
                refine cv64 rfl Tryd.underlying49 rfl ?_
                refine g_yes rfl rfl ?_
                refine v64_shrn rfl rfl ?_
                refine g_yes rfl rfl ?_
                refine v64_neq (b := 0#64) rfl rfl ?_
                refine g_yes rfl rfl ?_
                refine pick_f rfl rfl ?_
                refine g_yes rfl rfl ?_
                refine pick_t rfl rfl ?_
                refine pick_f rfl rfl ?_
                refine o_nil ?_
                refine k_cond rfl (fun h => ?_) (fun h => ?_)
                ·
                  refine k_seq ?_
                  refine k_region ?_
                  refine m_int rfl rfl ?_
                  refine m_int rfl rfl ?_
                  refine o_nil ?_
                  refine k_ret (ret_tmps (ts := [8, 9]) (v := .tuple #[.int _ _, .int _ _]) rfl rfl ?_)
                  refine ⟨?_, rfl⟩
                  first
                   | exact tup2 (head_no (fun H => by unfold hOk at H; omega))
                   | (have H : hOk kind cl n mask := by
                       unfold hOk
                       first | omega | (have hq := fm.1 (by first | assumption | exact Decidable.of_not_not (by assumption)); omega)
                      have hv := head_val _ _ _ _ H
                      rw [head_yes H]
                      exact congrArg (fun x => Value.tuple #[.int .i64 x, .int .i64 0]) hv)
                   | exact tup2 (head_no (fun H => by
                       have hq := fm.2 (by unfold hOk at H; omega)
                       contradiction))
                refine k_skip ?_
                refine k_seq ?_
                refine k_region ?_
                refine m_int rfl rfl ?_
                refine cv64 rfl Tryd.underlying105 rfl ?_
                refine m_int rfl rfl ?_
                refine cv64 rfl Tryd.underlying105 rfl ?_
                refine v64_shln (c := 2) rfl rfl ?_
                refine v64_or rfl rfl ?_
                refine m_int rfl rfl ?_
                refine cv64 rfl Tryd.underlying105 rfl ?_
                refine v64_shln (c := 18) rfl rfl ?_
                refine v64_or rfl rfl ?_
                refine m_int rfl rfl ?_
                refine cv64 rfl Tryd.underlying105 rfl ?_
                refine v64_shln (c := 24) rfl rfl ?_
                refine v64_or rfl rfl ?_
                refine m_int rfl rfl ?_
                refine o_nil ?_
                refine k_seq ?_
                refine k_region ?_
                refine m_int rfl rfl ?_
                refine cv64_i rfl Tryd.underlying2 rfl ?_
                refine m_int rfl rfl ?_
                refine m_int rfl rfl ?_
                refine o_nil ?_
                refine k_ret (ret_tmps (ts := [8, 9]) (v := .tuple #[.int _ _, .int _ _]) rfl rfl ?_)
                refine ⟨?_, rfl⟩
                first
                 | exact tup2 (head_no (fun H => by unfold hOk at H; omega))
                 | (have H : hOk kind cl n mask := by
                     unfold hOk
                     first | omega | (have hq := fm.1 (by first | assumption | exact Decidable.of_not_not (by assumption)); omega)
                    have hv := head_val _ _ _ _ H
                    rw [head_yes H]
                    exact congrArg (fun x => Value.tuple #[.int .i64 x, .int .i64 0]) hv)
                 | exact tup2 (head_no (fun H => by
                     have hq := fm.2 (by unfold hOk at H; omega)
                     contradiction))
            ·
              refine g_no rfl rfl rfl ?_
              refine g_no rfl rfl rfl ?_
              refine g_no rfl rfl rfl ?_
              refine g_un rfl rfl ?_
              refine g_un rfl rfl ?_
              refine g_un rfl rfl ?_
              refine g_un rfl rfl ?_
              refine g_un rfl rfl ?_
              refine g_un rfl rfl ?_
              refine g_no rfl rfl rfl ?_
              refine g_yes rfl rfl ?_
              refine pick_f rfl rfl ?_
              refine pick_f rfl rfl ?_
              refine o_nil ?_
              refine k_condf rfl ?_
              refine k_skip ?_
              refine k_seq ?_
              refine k_region ?_
              refine m_int rfl rfl ?_
              refine cv64 rfl Tryd.underlying105 rfl ?_
              refine m_int rfl rfl ?_
              refine cv64 rfl Tryd.underlying105 rfl ?_
              refine v64_shln (c := 2) rfl rfl ?_
              refine v64_or rfl rfl ?_
              refine m_int rfl rfl ?_
              refine cv64 rfl Tryd.underlying105 rfl ?_
              refine v64_shln (c := 18) rfl rfl ?_
              refine v64_or rfl rfl ?_
              refine m_int rfl rfl ?_
              refine cv64 rfl Tryd.underlying105 rfl ?_
              refine v64_shln (c := 24) rfl rfl ?_
              refine v64_or rfl rfl ?_
              refine m_int rfl rfl ?_
              refine o_nil ?_
              refine k_seq ?_
              refine k_region ?_
              refine m_int rfl rfl ?_
              refine cv64_i rfl Tryd.underlying2 rfl ?_
              refine m_int rfl rfl ?_
              refine m_int rfl rfl ?_
              refine o_nil ?_
              refine k_ret (ret_tmps (ts := [8, 9]) (v := .tuple #[.int _ _, .int _ _]) rfl rfl ?_)
              refine ⟨?_, rfl⟩
              first
               | exact tup2 (head_no (fun H => by unfold hOk at H; omega))
               | (have H : hOk kind cl n mask := by
                   unfold hOk
                   first | omega | (have hq := fm.1 (by first | assumption | exact Decidable.of_not_not (by assumption)); omega)
                  have hv := head_val _ _ _ _ H
                  rw [head_yes H]
                  exact congrArg (fun x => Value.tuple #[.int .i64 x, .int .i64 0]) hv)
               | exact tup2 (head_no (fun H => by
                   have hq := fm.2 (by unfold hOk at H; omega)
                   contradiction))
        ·
          refine g_no rfl rfl rfl ?_
          refine g_no rfl rfl rfl ?_
          refine pick_f rfl rfl ?_
          refine m_bool rfl rfl ?_
          refine g_yes rfl rfl ?_
          refine m_int rfl rfl ?_
          refine g_yes rfl rfl ?_
          refine b_eql rfl rfl ?_
          refine g_yes rfl rfl ?_
          refine m_bool rfl rfl ?_
          refine o_split (t := 36) rfl (fun h => ?_) (fun h => ?_)
          ·
            refine g_yes rfl rfl ?_
            refine m_int rfl rfl ?_
            refine g_yes rfl rfl ?_
            refine b_gtr rfl rfl ?_
            refine g_yes rfl rfl ?_
            refine m_bool rfl rfl ?_
            refine o_split (t := 39) rfl (fun h => ?_) (fun h => ?_)
            ·
              refine g_no rfl rfl rfl ?_
              refine g_no rfl rfl rfl ?_
              refine g_no rfl rfl rfl ?_
              refine g_no rfl rfl rfl ?_
              refine g_no rfl rfl rfl ?_
              refine g_no rfl rfl rfl ?_
              refine g_yes rfl rfl ?_
              refine pick_t rfl rfl ?_
              refine g_yes rfl rfl ?_
              refine pick_t rfl rfl ?_
              refine pick_f rfl rfl ?_
              refine o_nil ?_
              refine k_condt rfl ?_
              refine k_seq ?_
              refine k_region ?_
              refine m_int rfl rfl ?_
              refine m_int rfl rfl ?_
              refine o_nil ?_
              refine k_ret (ret_tmps (ts := [8, 9]) (v := .tuple #[.int _ _, .int _ _]) rfl rfl ?_)
              refine ⟨?_, rfl⟩
              first
               | exact tup2 (head_no (fun H => by unfold hOk at H; omega))
               | (have H : hOk kind cl n mask := by
                   unfold hOk
                   first | omega | (have hq := fm.1 (by first | assumption | exact Decidable.of_not_not (by assumption)); omega)
                  have hv := head_val _ _ _ _ H
                  rw [head_yes H]
                  exact congrArg (fun x => Value.tuple #[.int .i64 x, .int .i64 0]) hv)
               | exact tup2 (head_no (fun H => by
                   have hq := fm.2 (by unfold hOk at H; omega)
                   contradiction))
            ·
              have fm := shr0 mask n hm (by omega)
              refine g_yes rfl rfl ?_
              refine m_int rfl rfl ?_
              refine g_yes rfl rfl ?_
              refine cv64 rfl Tryd.underlying105 rfl ?_
              refine g_yes rfl rfl ?_
              refine m_int rfl rfl ?_
              refine g_yes rfl rfl ?_
              refine cv64 rfl Tryd.underlying49 rfl ?_
              refine g_yes rfl rfl ?_
              refine v64_shrn rfl rfl ?_
              refine g_yes rfl rfl ?_
              refine v64_neq (b := 0#64) rfl rfl ?_
              refine g_yes rfl rfl ?_
              refine pick_f rfl rfl ?_
              refine g_yes rfl rfl ?_
              refine pick_t rfl rfl ?_
              refine pick_f rfl rfl ?_
              refine o_nil ?_
              refine k_cond rfl (fun h => ?_) (fun h => ?_)
              ·
                refine k_seq ?_
                refine k_region ?_
                refine m_int rfl rfl ?_
                refine m_int rfl rfl ?_
                refine o_nil ?_
                refine k_ret (ret_tmps (ts := [8, 9]) (v := .tuple #[.int _ _, .int _ _]) rfl rfl ?_)
                refine ⟨?_, rfl⟩
                first
                 | exact tup2 (head_no (fun H => by unfold hOk at H; omega))
                 | (have H : hOk kind cl n mask := by
                     unfold hOk
                     first | omega | (have hq := fm.1 (by first | assumption | exact Decidable.of_not_not (by assumption)); omega)
                    have hv := head_val _ _ _ _ H
                    rw [head_yes H]
                    exact congrArg (fun x => Value.tuple #[.int .i64 x, .int .i64 0]) hv)
                 | exact tup2 (head_no (fun H => by
                     have hq := fm.2 (by unfold hOk at H; omega)
                     contradiction))
              refine k_skip ?_
              refine k_seq ?_
              refine k_region ?_
              refine m_int rfl rfl ?_
              refine cv64 rfl Tryd.underlying105 rfl ?_
              refine m_int rfl rfl ?_
              refine cv64 rfl Tryd.underlying105 rfl ?_
              refine v64_shln (c := 2) rfl rfl ?_
              refine v64_or rfl rfl ?_
              refine m_int rfl rfl ?_
              refine cv64 rfl Tryd.underlying105 rfl ?_
              refine v64_shln (c := 18) rfl rfl ?_
              refine v64_or rfl rfl ?_
              refine m_int rfl rfl ?_
              refine cv64 rfl Tryd.underlying105 rfl ?_
              refine v64_shln (c := 24) rfl rfl ?_
              refine v64_or rfl rfl ?_
              refine m_int rfl rfl ?_
              refine o_nil ?_
              refine k_seq ?_
              refine k_region ?_
              refine m_int rfl rfl ?_
              refine cv64_i rfl Tryd.underlying2 rfl ?_
              refine m_int rfl rfl ?_
              refine m_int rfl rfl ?_
              refine o_nil ?_
              refine k_ret (ret_tmps (ts := [8, 9]) (v := .tuple #[.int _ _, .int _ _]) rfl rfl ?_)
              refine ⟨?_, rfl⟩
              first
               | exact tup2 (head_no (fun H => by unfold hOk at H; omega))
               | (have H : hOk kind cl n mask := by
                   unfold hOk
                   first | omega | (have hq := fm.1 (by first | assumption | exact Decidable.of_not_not (by assumption)); omega)
                  have hv := head_val _ _ _ _ H
                  rw [head_yes H]
                  exact congrArg (fun x => Value.tuple #[.int .i64 x, .int .i64 0]) hv)
               | exact tup2 (head_no (fun H => by
                   have hq := fm.2 (by unfold hOk at H; omega)
                   contradiction))
          ·
            refine g_no rfl rfl rfl ?_
            refine g_no rfl rfl rfl ?_
            refine g_no rfl rfl rfl ?_
            refine g_un rfl rfl ?_
            refine g_un rfl rfl ?_
            refine g_un rfl rfl ?_
            refine g_un rfl rfl ?_
            refine g_un rfl rfl ?_
            refine g_un rfl rfl ?_
            refine g_no rfl rfl rfl ?_
            refine g_yes rfl rfl ?_
            refine pick_f rfl rfl ?_
            refine pick_f rfl rfl ?_
            refine o_nil ?_
            refine k_condf rfl ?_
            refine k_skip ?_
            refine k_seq ?_
            refine k_region ?_
            refine m_int rfl rfl ?_
            refine cv64 rfl Tryd.underlying105 rfl ?_
            refine m_int rfl rfl ?_
            refine cv64 rfl Tryd.underlying105 rfl ?_
            refine v64_shln (c := 2) rfl rfl ?_
            refine v64_or rfl rfl ?_
            refine m_int rfl rfl ?_
            refine cv64 rfl Tryd.underlying105 rfl ?_
            refine v64_shln (c := 18) rfl rfl ?_
            refine v64_or rfl rfl ?_
            refine m_int rfl rfl ?_
            refine cv64 rfl Tryd.underlying105 rfl ?_
            refine v64_shln (c := 24) rfl rfl ?_
            refine v64_or rfl rfl ?_
            refine m_int rfl rfl ?_
            refine o_nil ?_
            refine k_seq ?_
            refine k_region ?_
            refine m_int rfl rfl ?_
            refine cv64_i rfl Tryd.underlying2 rfl ?_
            refine m_int rfl rfl ?_
            refine m_int rfl rfl ?_
            refine o_nil ?_
            refine k_ret (ret_tmps (ts := [8, 9]) (v := .tuple #[.int _ _, .int _ _]) rfl rfl ?_)
            refine ⟨?_, rfl⟩
            first
             | exact tup2 (head_no (fun H => by unfold hOk at H; omega))
             | (have H : hOk kind cl n mask := by
                 unfold hOk
                 first | omega | (have hq := fm.1 (by first | assumption | exact Decidable.of_not_not (by assumption)); omega)
                have hv := head_val _ _ _ _ H
                rw [head_yes H]
                exact congrArg (fun x => Value.tuple #[.int .i64 x, .int .i64 0]) hv)
             | exact tup2 (head_no (fun H => by
                 have hq := fm.2 (by unfold hOk at H; omega)
                 contradiction))
end Go.Proofs.YtchbidckckmobaaDoor
