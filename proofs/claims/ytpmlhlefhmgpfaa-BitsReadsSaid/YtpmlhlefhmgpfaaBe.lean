/- The walk of the law BitsBack. No condition beyond what each contract names. -/
import Derived.Test.YtpmlhlefhmgpfaaBd
namespace Go.Proofs.Ytpmlhlefhmgpfaa
open Go.RowKit E
set_option linter.unusedVariables false
set_option linter.unusedSimpArgs false
set_option maxRecDepth 100000
attribute [local irreducible] ow qw kw kq cw opW Ret
/-- the bits of the first numbers in their widths -/
def wl (ws : List (BitVec 8)) (ns : List Int) : Nat → List Bool
  | 0 => []
  | i + 1 => wl ws ns i ++ vbits (ns.getD i 0) ((ws.getD i 0#8) % 17#8).toNat
theorem wl_step (ws : List (BitVec 8)) (ns : List Int) (i : Nat) (h1 : i < ws.length) (h2 : i < ns.length) : wl ws ns (i + 1) = wl ws ns i ++ vbits ns[i] (ws[i] % 17#8).toNat := by
  show wl ws ns i ++ _ = _
  rw [List.getD_eq_getElem?_getD, List.getD_eq_getElem?_getD, List.getElem?_eq_getElem h1, List.getElem?_eq_getElem h2]; rfl
theorem m17 (x : BitVec 8) : (x % 17#8).toNat ≤ 16 := by
  rw [BitVec.toNat_umod]
  have := Nat.mod_lt x.toNat (show 17 > 0 by decide)
  exact Nat.le_of_lt_succ this
theorem wl_len (ws : List (BitVec 8)) (ns : List Int) : ∀ i, (wl ws ns i).length ≤ 16 * i
  | 0 => by simp [wl]
  | i + 1 => by
    have := wl_len ws ns i
    have := m17 (ws.getD i 0#8)
    unfold wl
    rw [List.length_append, vbits_len]
    omega
theorem wl_mono (ws : List (BitVec 8)) (ns : List Int) (i d : Nat) : (wl ws ns i).length ≤ (wl ws ns (i + d)).length := by
  induction d with
  | zero => exact Nat.le_refl _
  | succ d ih =>
    show _ ≤ (wl ws ns (i + d) ++ _).length
    rw [List.length_append]; omega
theorem wl_pre (ws : List (BitVec 8)) (ns : List Int) (i : Nat) : ∀ d j, j < (wl ws ns i).length → (wl ws ns (i + d)).getD j false = (wl ws ns i).getD j false
  | 0, j, _ => rfl
  | d + 1, j, h => by
    have hd := wl_mono ws ns i d
    rw [← wl_pre ws ns i d j h, ← Nat.add_assoc]
    show (wl ws ns (i + d) ++ _).getD j false = _
    rw [List.getD_eq_getElem?_getD, List.getElem?_append_left (by omega), ← List.getD_eq_getElem?_getD]
theorem back_bits (ws : List (BitVec 8)) (ns : List Int) (i k : Nat) (hik : i < k) (h1 : i < ws.length) (h2 : i < ns.length) (j : Nat) (hj : j < (ws[i] % 17#8).toNat) : bitAt (pack (wl ws ns k)) ((wl ws ns i).length + j) = (BitVec.ofInt 64 ns[i]).getLsbD j := by
  obtain ⟨d, rfl⟩ : ∃ d, k = i + 1 + d := ⟨k - i - 1, by omega⟩
  have hs := wl_step ws ns i h1 h2
  rw [pack_bit, wl_pre ws ns (i + 1) d _ (by rw [hs, List.length_append, vbits_len]; omega), hs, List.getD_eq_getElem?_getD, List.getElem?_append_right (by omega), ← List.getD_eq_getElem?_getD, Nat.add_sub_cancel_left, vbits_at, decide_eq_true hj, Bool.true_and]
theorem mask64 (v : Int) (n : Nat) (hn : n ≤ 16) : IntKind.i64.wrap ((BitVec.ofInt IntKind.i64.bits v &&& BitVec.ofInt IntKind.i64.bits (IntKind.i64.wrap (1 * 2 ^ min n IntKind.i64.bits) - 1)).toNat : Int) = ((num (fun j => (BitVec.ofInt 64 v).getLsbD j) n : Nat) : Int) := by
  have hp : (2 : Nat) ^ n ≤ 2 ^ 16 := Nat.pow_le_pow_right (by decide) hn
  have hp0 : 0 < (2 : Nat) ^ n := Nat.pow_pos (by decide)
  have e0 : (2 : Int) ^ n = ((2 ^ n : Nat) : Int) := by simp
  have e1 : IntKind.i64.wrap (1 * 2 ^ min n IntKind.i64.bits) - 1 = ((2 ^ n - 1 : Nat) : Int) := by
    rw [show min n IntKind.i64.bits = n from Nat.min_eq_left (by simp [IntKind.bits]; omega), Int.one_mul, e0, IntWalk.i64_in _ (by omega)]
    omega
  rw [e1]
  show IntKind.i64.wrap ((BitVec.ofInt 64 v &&& BitVec.ofInt 64 ((2 ^ n - 1 : Nat) : Int)).toNat : Int) = _
  have e2 : (BitVec.ofInt 64 v &&& BitVec.ofInt 64 ((2 ^ n - 1 : Nat) : Int)).toNat = num (fun j => (BitVec.ofInt 64 v).getLsbD j) n := by
    apply num_bv
    intro j
    rw [BitVec.getLsbD_and]
    have : (BitVec.ofInt 64 ((2 ^ n - 1 : Nat) : Int)).getLsbD j = decide (j < n) := by
      show (BitVec.ofInt 64 ((2 ^ n - 1 : Nat) : Int)).toNat.testBit j = _
      rw [ofN _ (by omega), Nat.testBit_two_pow_sub_one]
    rw [this, Bool.and_comm]
  have := num_lt (fun j => (BitVec.ofInt 64 v).getLsbD j) n
  rw [e2, IntWalk.i64_in _ (by omega)]
theorem rbitN (v : Int) (hv : -9223372036854775808 ≤ v ∧ v ≤ 9223372036854775807) (i : Nat) (hi : i < 64) : IntKind.i64.wrap ((BitVec.ofInt IntKind.i64.bits (v.fdiv (2 ^ min i IntKind.i64.bits)) &&& BitVec.ofInt IntKind.i64.bits 1).toNat : Int) = (((BitVec.ofInt 64 v).getLsbD i).toNat : Int) := by
  rw [show min i IntKind.i64.bits = i from Nat.min_eq_left (by simp [IntKind.bits]; omega)]
  show IntKind.i64.wrap ((BitVec.ofInt 64 (v.fdiv (2 ^ i)) &&& 1#64).toNat : Int) = _
  rw [and_one, bit_fdiv v hv i hi]
  cases (BitVec.ofInt 64 v).getLsbD i <;> decide
theorem Rdr.keep1 {T T' : TypeId} {w w' : World} {r x : Nat} {bs : List (BitVec 8)} {p : Nat} {cs : Array Value} (h : Rdr T w r bs p) (hx : Blk w x cs T') (hrx : r ≠ x) (h5 : 5 ≠ T') (hk : Keep [x] w w') : Rdr T w' r bs p := by
  obtain ⟨a, c, hB, hS, hp, hl⟩ := h
  exact ⟨a, c, hB.keep hk (by simpa using hrx), hS.keep hk (hS.off hx h5), hp, hl⟩
theorem Wtr.oth {k : Nat} {w w' : World} {r x : Nat} {l : List Bool} {T : TypeId} {cs : Array Value} (h : Wtr k w r l) (hx : Blk w x cs T) (h27 : 27 ≠ T) (h5 : 5 ≠ T) (hk : Keep [x] w w') : Wtr k w' r l := by
  obtain ⟨a, c, hB, hS, h1, h2⟩ := h
  refine ⟨a, c, hB.keep hk (fun hm => ?_), hS.keep hk (hS.off hx h5), h1, h2⟩
  simp at hm
  subst hm
  exact h27 (hB.ty hx)
theorem p16 (q : Nat) (h : q ≤ 16) : (1 : Int) ≤ 2 ^ q ∧ (2 : Int) ^ q ≤ 65536 := by
  have hp : (2 : Nat) ^ q ≤ 2 ^ 16 := Nat.pow_le_pow_right (by decide) h
  have hp0 : 0 < (2 : Nat) ^ q := Nat.pow_pos (by decide)
  have e0 : (2 : Int) ^ q = ((2 ^ q : Nat) : Int) := by simp
  rw [e0]; omega
theorem back_ok (w : World) (a0 a1 : Option Addr) (n0 n1 c0 c1 : Nat) (ws : List (BitVec 8)) (ns : List Int) (hW : Rd w a0 (ws.map u8v)) (hN : Rd w a1 (ns.map iv)) (h0 : ws.length = n0) (h1 : ns.length = n1) (hb0 : n0 ≤ 9223372036854775807) (hb1 : n1 ≤ 9223372036854775807)
    (hns : ∀ z ∈ ns, -9223372036854775808 ≤ z ∧ z ≤ 9223372036854775807) :
    Ret Try.prog 4 [.slice a0 n0 c0, .slice a1 n1 c1] w (fun v w' => v = .bool true ∧ Keep [] w w') := by
  refine fn_enter (n := 116) Try.func4 rfl rfl (Nat.le_of_ble_eq_true rfl) (fun e => ?_)
  refine k_seq ?_
  refine k_region ?_
  refine m_bool rfl rfl ?_
  refine o_nil ?_
  refine k_seq ?_
  refine k_seq ?_
  refine k_region ?_
  refine o_call rfl rfl (fixed_ok w) (fun v w1 hv => ?_)
  obtain ⟨rfl, hK1⟩ := hv
  refine u_notb rfl ?_
  refine o_nil ?_
  refine k_condf rfl ?_
  refine k_skip ?_
  refine k_seq ?_
  refine k_region ?_
  refine o_build (v := .agg #[.slice none 0 0, .int .i64 0]) rfl (fun _ => by kernel_rfl) ?_
  refine o_box rfl rfl (fun b w2 hB2 hK2 hb2 hZ2 => ?_)
  have hk2 := hK1.tr hK2
  have hW2 : Wtr w.heap.size w2 b [] := wtr_new hB2 hb2 hK1.size
  refine m_ptr rfl rfl ?_
  refine o_nil ?_
  refine k_seq ?_
  refine k_region ?_
  refine m_sl rfl rfl ?_
  refine o_lens Try.underlying25 rfl ?_
  refine m_sl rfl rfl ?_
  refine o_lens Try.underlying42 rfl ?_
  refine o_min3 rfl rfl rfl ?_
  obtain ⟨k, hk⟩ : ∃ k : Nat, (if (300 : Int) < (if (n1 : Int) < n0 then (n1 : Int) else n0) then (300 : Int) else (if (n1 : Int) < n0 then (n1 : Int) else n0)) = k := ⟨_, (Int.toNat_of_nonneg (by split <;> (try split) <;> omega)).symm⟩
  have hkb : k ≤ n0 ∧ k ≤ n1 ∧ k ≤ 300 := by
   split at hk <;> split at hk <;> omega
  rw [hk]
  refine m_int rfl rfl ?_
  refine o_nil ?_
  refine k_seq ?_
  refine k_seq ?_
  refine k_region ?_
  refine m_int rfl rfl ?_
  refine o_nil ?_
  refine k_block ?_
  refine k_loop (σ := Nat) (fun i => [(0, .slice a0 n0 c0), (1, .slice a1 n1 c1), (5, .pointer (some ⟨b, 0, none⟩)), (6, .int .i64 (k : Int)), (7, .int .i64 (i : Int))]) (fun i w' => i ≤ k ∧ Wtr w.heap.size w' b (wl ws ns i) ∧ Keep [] w w') (fun i => k - i) 0 ⟨rfl, rfl, rfl, rfl, rfl, trivial⟩ ⟨by omega, hW2, hk2⟩ (fun i e w3 hJ => ?_)
  obtain ⟨hi, hW3, hk3⟩ := hJ
  have hwl := wl_len ws ns i
  refine k_seq ?_
  refine k_seq ?_
  refine k_region ?_
  refine m_int rfl rfl ?_
  refine m_int rfl rfl ?_
  refine b_lss rfl rfl ?_
  refine o_nil ?_
  refine k_cond rfl (fun h => ?_) (fun h => ?_)
  rotate_left
  ·
    obtain rfl : i = k := by omega
    refine k_exit rfl ?_
    refine k_seq ?_
    refine k_region ?_
    refine m_ptr rfl rfl ?_
    refine o_call rfl rfl (wbytes_ok w.heap.size w3 b _ (by omega) hW3) (fun v w4 hv => ?_)
    obtain ⟨⟨a4, c4, rfl, hS4, _⟩, hK4⟩ := hv
    have hpl := pack_len (wl ws ns i)
    have hW4 := hW3.new hK4
    have hk4 := hk3.tr hK4
    rw [List.length_map] at hS4 ⊢
    refine o_call rfl rfl (new_ok w4 a4 c4 _ hS4.rd (by omega)) (fun v w5 hv => ?_)
    obtain ⟨r, rfl, hR5, hK5, hr5⟩ := hv
    have hW5 := hW4.new hK5
    have hk5 := hk4.tr hK5
    refine m_ptr rfl rfl ?_
    refine o_call rfl rfl (wbytes_ok w.heap.size w5 b _ (by omega) hW5) (fun v w6 hv => ?_)
    obtain ⟨⟨a6, c6, rfl, hS6, _⟩, hK6⟩ := hv
    have hW6 := hW5.new hK6
    have hk6 := hk5.tr hK6
    have hR6 := hR5.new hK6
    rw [List.length_map] at hS6 ⊢
    refine o_call rfl rfl (new_ok w6 a6 c6 _ hS6.rd (by omega)) (fun v w7 hv => ?_)
    obtain ⟨s, rfl, hS7, hK7, hr7⟩ := hv
    have hW7 := hW6.new hK7
    have hk7 := hk6.tr hK7
    have hR7 := hR6.new hK7
    have hrs : r ≠ s := by
     obtain ⟨cs, hcs⟩ := hR6.blk
     have := hcs.lt
     omega
    have hwr : w.heap.size ≤ r := by have := hk4.size; omega
    have hws : w.heap.size ≤ s := by have := hk6.size; omega
    refine m_ptr rfl rfl ?_
    refine m_ptr rfl rfl ?_
    refine o_nil ?_
    refine k_seq ?_
    refine k_seq ?_
    refine k_region ?_
    refine m_int rfl rfl ?_
    refine o_nil ?_
    refine k_block ?_
    refine k_loop (σ := Nat) (fun j => [(0, .slice a0 n0 c0), (1, .slice a1 n1 c1), (5, .pointer (some ⟨b, 0, none⟩)), (6, .int .i64 (i : Int)), (8, .pointer (some ⟨r, 0, none⟩)), (9, .pointer (some ⟨s, 0, none⟩)), (10, .int .i64 (j : Int))]) (fun j w' => j ≤ i ∧ Wtr w.heap.size w' b (wl ws ns i) ∧ Rdr 79 w' r (pack (wl ws ns i)) (wl ws ns j).length ∧ Rdr 79 w' s (pack (wl ws ns i)) (wl ws ns j).length ∧ Keep [] w w') (fun j => i - j) 0 ⟨rfl, rfl, rfl, rfl, rfl, rfl, rfl, trivial⟩ ⟨by omega, hW7, hR7, hS7, hk7⟩ (fun j e w8 hJ => ?_)
    obtain ⟨hj, hW8, hR8, hS8, hk8⟩ := hJ
    refine k_seq ?_
    refine k_seq ?_
    refine k_region ?_
    refine m_int rfl rfl ?_
    refine m_int rfl rfl ?_
    refine b_lss rfl rfl ?_
    refine o_nil ?_
    refine k_cond rfl (fun h => ?_) (fun h => ?_)
    rotate_left
    ·
      obtain rfl : j = i := by omega
      refine k_exit rfl ?_
      refine k_seq ?_
      refine k_region ?_
      refine m_ptr rfl rfl ?_
      refine o_call rfl rfl (at_ok w8 r _ _ hR8) (fun v w9 hv => ?_)
      obtain ⟨rfl, rfl⟩ := hv
      refine m_ptr rfl rfl ?_
      refine o_call rfl rfl (wlen_ok _ w9 b _ hW8) (fun v w10 hv => ?_)
      obtain ⟨rfl, rfl⟩ := hv
      refine b_eql rfl rfl ?_
      refine m_bool rfl rfl ?_
      refine o_true (t := 111) rfl (rfl) ?_
      refine g_yes rfl rfl ?_
      refine m_ptr rfl rfl ?_
      refine g_yes rfl rfl ?_
      refine o_call rfl rfl (left_ok w10 r _ _ hR8) (fun v w11 hv => ?_)
      obtain ⟨rfl, hK11⟩ := hv
      refine g_yes rfl rfl ?_
      refine b_lss rfl rfl ?_
      refine pick_t rfl rfl ?_
      refine m_bool rfl rfl ?_
      refine o_nil ?_
      refine k_ret (ret_tmps (ts := [4]) (v := .bool _) rfl rfl ?_)
      exact ⟨congrArg Value.bool (decide_eq_true (by omega)), hk8.tr hK11⟩
    have hji : j < i := by omega
    have hj0 : j < ws.length := by omega
    have hj1 : j < ns.length := by omega
    have h17 := m17 ws[j]
    have hst := wl_step ws ns j hj0 hj1
    have hsl : (wl ws ns (j + 1)).length = (wl ws ns j).length + (ws[j] % 17#8).toNat := by rw [hst, List.length_append, vbits_len]
    have hmo := wl_mono ws ns (j + 1) (i - (j + 1))
    rw [show j + 1 + (i - (j + 1)) = i by omega] at hmo
    have hbb := back_bits ws ns j i hji hj0 hj1
    have hnj := hns _ (List.getElem_mem hj1)
    obtain ⟨b0, o0, rfl, _⟩ := hW.at j (by simpa using hj0)
    obtain ⟨b1, o1, rfl, _⟩ := hN.at j (by simpa using hj1)
    refine k_skip ?_
    refine k_seq ?_
    refine k_block ?_
    refine k_seq ?_
    refine k_region ?_
    refine m_sl rfl rfl ?_
    refine m_int rfl rfl ?_
    refine o_ixs1 Try.underlying25 rfl rfl rfl (by omega) ?_
    refine o_ld rfl rfl (hW.cellK hk8 (u8_at ws j hj0)) ?_
    refine v8_rem (b := 17#8) rfl rfl (by decide) ?_
    refine cv8_i rfl Try.underlying3 rfl ?_
    generalize (ws[j] % 17#8).toNat = q at *
    refine m_int rfl rfl ?_
    refine o_nil ?_
    refine k_seq ?_
    refine k_region ?_
    refine m_ptr rfl rfl ?_
    refine m_int rfl rfl ?_
    refine o_call rfl rfl (take_ok w8 r _ _ (q : Int) hR8) (fun v w9 hv => ?_)
    obtain ⟨rfl, hR9, hK9⟩ := hv
    rw [tk_ok h17 (by omega)] at hR9 ⊢
    obtain ⟨csr, hBr⟩ := hR8.blk
    have hS9 := hS8.keep1 hBr (fun e => hrs e.symm) (by decide) hK9
    have hW9 := hW8.oth hBr (by decide) (by decide) hK9
    have hk9 := hk8.tr1 hK9 hwr
    refine m_any rfl rfl ?_
    refine o_extr rfl rfl ?_
    refine o_extr rfl rfl ?_
    refine m_int rfl rfl ?_
    refine m_int rfl rfl ?_
    refine o_nil ?_
    refine k_seq ?_
    refine k_seq ?_
    refine k_region ?_
    refine m_int rfl rfl ?_
    refine b_neq rfl rfl ?_
    refine m_bool rfl rfl ?_
    refine o_false (t := 69) rfl ((by simp)) ?_
    refine g_yes rfl rfl ?_
    refine m_int rfl rfl ?_
    refine g_yes rfl rfl ?_
    refine m_sl rfl rfl ?_
    refine g_yes rfl rfl ?_
    refine m_int rfl rfl ?_
    refine g_yes rfl rfl ?_
    refine o_ixs1 Try.underlying42 rfl rfl rfl (by omega) ?_
    refine g_yes rfl rfl ?_
    refine o_ld rfl rfl (hN.cellK hk9 (iv_at ns j hj1)) ?_
    refine g_yes rfl rfl ?_
    refine m_int rfl rfl ?_
    refine g_yes rfl rfl ?_
    refine cv64 rfl Try.underlying47 rfl ?_
    rw [ofN q (by omega)]
    refine g_yes rfl rfl ?_
    refine b_shln rfl rfl ?_
    refine g_yes rfl rfl ?_
    refine n_sub rfl rfl (by rw [show min q IntKind.i64.bits = q from Nat.min_eq_left (by simp [IntKind.bits]; omega)]; have := p16 q h17; rw [Int.one_mul, IntWalk.i64_in _ (by omega)]; omega) ?_
    refine g_yes rfl rfl ?_
    refine b_and rfl rfl ?_
    rw [mask64 _ q h17]
    refine g_yes rfl rfl ?_
    refine b_neq rfl rfl ?_
    refine pick_f rfl rfl ?_
    refine o_nil ?_
    refine k_no rfl ((by rw [num_congr q (fun i hi => hbb i hi)]; simp)) ?_
    refine k_skip ?_
    refine k_seq ?_
    refine k_region ?_
    refine m_int rfl rfl ?_
    refine o_nil ?_
    refine k_block ?_
    refine k_loop (σ := Nat) (fun t => [(0, .slice (some ⟨b0, o0, none⟩) n0 c0), (1, .slice (some ⟨b1, o1, none⟩) n1 c1), (5, .pointer (some ⟨b, 0, none⟩)), (6, .int .i64 (i : Int)), (8, .pointer (some ⟨r, 0, none⟩)), (9, .pointer (some ⟨s, 0, none⟩)), (10, .int .i64 (j : Int)), (11, .int .i64 (q : Int)), (14, .int .i64 (t : Int))]) (fun t w' => t ≤ q ∧ Wtr w.heap.size w' b (wl ws ns i) ∧ Rdr 79 w' r (pack (wl ws ns i)) ((wl ws ns j).length + q) ∧ Rdr 79 w' s (pack (wl ws ns i)) ((wl ws ns j).length + t) ∧ Keep [] w w') (fun t => q - t) 0 ⟨rfl, rfl, rfl, rfl, rfl, rfl, rfl, rfl, rfl, trivial⟩ ⟨by omega, hW9, hR9, hS9, hk9⟩ (fun t e w10 hJ => ?_)
    obtain ⟨ht, hW10, hR10, hS10, hk10⟩ := hJ
    refine k_seq ?_
    refine k_seq ?_
    refine k_region ?_
    refine m_int rfl rfl ?_
    refine m_int rfl rfl ?_
    refine b_lss rfl rfl ?_
    refine o_nil ?_
    refine k_cond rfl (fun h => ?_) (fun h => ?_)
    rotate_left
    ·
      obtain rfl : t = q := by omega
      refine k_exit rfl ?_
      refine k_blk ?_
      refine k_region ?_
      refine m_int rfl rfl ?_
      refine n_add rfl rfl (by omega) ?_
      refine m_int rfl rfl ?_
      refine o_nil ?_
      refine k_goal ⟨j + 1, ⟨rfl, rfl, rfl, rfl, rfl, rfl, rfl, trivial⟩, ⟨by omega, hW10, by rw [hsl]; exact hR10, by rw [hsl]; exact hS10, hk10⟩, by omega⟩
    have htq : t < q := by omega
    refine k_skip ?_
    refine k_seq ?_
    refine k_block ?_
    refine k_seq ?_
    refine k_region ?_
    refine m_ptr rfl rfl ?_
    refine o_call rfl rfl (take_ok w10 s _ _ ((1 : Nat) : Int) hS10) (fun v w11 hv => ?_)
    obtain ⟨rfl, hS11, hK11⟩ := hv
    rw [tk_ok (by omega) (by omega)] at hS11 ⊢
    obtain ⟨css, hBs⟩ := hS10.blk
    have hR11 := hR10.keep1 hBs hrs (by decide) hK11
    have hW11 := hW10.oth hBs (by decide) (by decide) hK11
    have hk11 := hk10.tr1 hK11 hws
    refine m_any rfl rfl ?_
    refine o_extr rfl rfl ?_
    refine o_extr rfl rfl ?_
    refine m_int rfl rfl ?_
    refine m_int rfl rfl ?_
    refine o_nil ?_
    refine k_seq ?_
    refine k_region ?_
    refine m_int rfl rfl ?_
    refine b_neq rfl rfl ?_
    refine m_bool rfl rfl ?_
    refine o_false (t := 94) rfl ((by simp)) ?_
    refine g_yes rfl rfl ?_
    refine m_int rfl rfl ?_
    refine g_yes rfl rfl ?_
    refine m_sl rfl rfl ?_
    refine g_yes rfl rfl ?_
    refine m_int rfl rfl ?_
    refine g_yes rfl rfl ?_
    refine o_ixs1 Try.underlying42 rfl rfl rfl (by omega) ?_
    refine g_yes rfl rfl ?_
    refine o_ld rfl rfl (hN.cellK hk11 (iv_at ns j hj1)) ?_
    refine g_yes rfl rfl ?_
    refine m_int rfl rfl ?_
    refine g_yes rfl rfl ?_
    refine cv64 rfl Try.underlying47 rfl ?_
    rw [ofN t (by omega)]
    refine g_yes rfl rfl ?_
    refine b_shrn rfl rfl ?_
    refine g_yes rfl rfl ?_
    refine b_and rfl rfl ?_
    rw [rbitN _ hnj t (by omega)]
    refine g_yes rfl rfl ?_
    refine b_neq rfl rfl ?_
    refine pick_f rfl rfl ?_
    refine o_nil ?_
    refine k_no rfl ((by rw [← hbb t htq]; simp [num, Nat.add_zero])) ?_
    refine k_skip ?_
    refine k_blk ?_
    refine k_region ?_
    refine m_int rfl rfl ?_
    refine n_add rfl rfl (by omega) ?_
    refine m_int rfl rfl ?_
    refine o_nil ?_
    refine k_goal ⟨t + 1, ⟨rfl, rfl, rfl, rfl, rfl, rfl, rfl, rfl, rfl, trivial⟩, ⟨by omega, hW11, hR11, hS11, hk11⟩, by omega⟩
  have hik : i < k := by omega
  have hi0 : i < ws.length := by omega
  have hi1 : i < ns.length := by omega
  obtain ⟨b0, o0, rfl, _⟩ := hW.at i (by simpa using hi0)
  obtain ⟨b1, o1, rfl, _⟩ := hN.at i (by simpa using hi1)
  refine k_skip ?_
  refine k_seq ?_
  refine k_block ?_
  refine k_seq ?_
  refine k_qk 11 rfl rfl rfl rfl rfl ?_
  refine q_step (fun w1 hC => m_ptr rfl rfl (o_nil ⟨rfl, hC⟩)) ?_
  refine q_step (fun w1 hC => m_sl rfl rfl (o_nil ⟨rfl, hC⟩)) ?_
  refine q_step (fun w1 hC => m_int rfl rfl (o_nil ⟨rfl, hC⟩)) ?_
  refine q_step (fun w1 hC => o_ixs1 Try.underlying25 rfl rfl rfl (by omega) (o_nil ⟨rfl, hC⟩)) ?_
  refine q_step (fun w1 hC => o_ld rfl rfl (hW.cellK (hk3.tr hC) (u8_at ws i hi0)) (o_nil ⟨rfl, hC⟩)) ?_
  refine q_step (fun w1 hC => v8_rem (b := 17#8) rfl rfl (by decide) (o_nil ⟨rfl, hC⟩)) ?_
  refine q_step (fun w1 hC => cv8_i rfl Try.underlying3 rfl (o_nil ⟨rfl, hC⟩)) ?_
  refine q_step (fun w1 hC => m_sl rfl rfl (o_nil ⟨rfl, hC⟩)) ?_
  refine q_step (fun w1 hC => m_int rfl rfl (o_nil ⟨rfl, hC⟩)) ?_
  refine q_step (fun w1 hC => o_ixs1 Try.underlying42 rfl rfl rfl (by omega) (o_nil ⟨rfl, hC⟩)) ?_
  refine q_step (fun w1 hC => o_ld rfl rfl (hN.cellK (hk3.tr hC) (iv_at ns i hi1)) (o_nil ⟨rfl, hC⟩)) ?_
  refine q_nil ?_
  intro w4 hC4
  refine o_call rfl rfl (put_ok w.heap.size w4 b _ _ _ (by omega) (hW3.new hC4)) (fun v w5 hv => ?_)
  obtain ⟨rfl, hW5, hk5⟩ := hv
  rw [pt_ok (m17 _)] at hW5 ⊢
  refine b_neq rfl rfl ?_
  refine o_nil ?_
  refine k_no rfl ((by simp)) ?_
  refine k_skip ?_
  refine k_blk ?_
  refine k_region ?_
  refine m_int rfl rfl ?_
  refine n_add rfl rfl (by omega) ?_
  refine m_int rfl rfl ?_
  refine o_nil ?_
  refine k_goal ⟨i + 1, ⟨rfl, rfl, rfl, rfl, rfl, trivial⟩, ⟨by omega, ?_, hk5.below (hk3.tr hC4) (Nat.le_refl _)⟩, by omega⟩
  rw [wl_step ws ns i hi0 hi1]; exact hW5
end Go.Proofs.Ytpmlhlefhmgpfaa
