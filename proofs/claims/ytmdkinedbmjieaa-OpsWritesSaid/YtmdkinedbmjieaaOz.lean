/- Ops: the reference's PutLittle, Turn and PutBig. No condition beyond what each contract names. -/
import Derived.Test.YtmdkinedbmjieaaOy
namespace Go.Proofs.Ytmdkinedbmjieaa
open Go.RowKit E
set_option linter.unusedVariables false
set_option linter.unusedSimpArgs false
set_option maxRecDepth 100000
attribute [local irreducible] ow qw kw kq cw opW Ret
/-- a number's bytes, the least first -/
def lit8 (v : Int) (n : Nat) : Bs := (List.range n).map fun j => BitVec.ofInt 8 (v / 256 ^ j)
theorem lit8_succ (v : Int) (n : Nat) : lit8 v (n + 1) = lit8 v n ++ [BitVec.ofInt 8 (v / 256 ^ n)] := by simp [lit8, List.range_succ]
theorem lit8_len (v : Int) (n : Nat) : (lit8 v n).length = n := by simp [lit8]
theorem dig8 (v : Int) (k : Nat) (hk : k ≤ 3) : ((BitVec.ofInt 64 v) >>> (8 * k)).setWidth 8 = BitVec.ofInt 8 (v / 256 ^ k) := by
  apply BitVec.eq_of_toNat_eq
  rw [dig v k hk, BitVec.toNat_ofInt]
  rfl
theorem lit8_rev (v : Int) (n : Nat) (hn : n ≤ 4) : (lit8 v n).reverse = bigB n v := by
  apply List.ext_getElem
  · simp [lit8, bigB]
  · intro j h1 h2
    have hj : j < n := by simpa [bigB] using h2
    rw [List.getElem_reverse]
    simp only [lit8, bigB, List.getElem_map, List.getElem_range, List.length_map, List.length_range]
    rw [dig8 v (n - 1 - j) (by omega)]
theorem tmod2 (v : Int) : (v.tmod 256 + 256).tmod 256 = v % 256 := by
  have h1 : v.tmod 256 = if 0 ≤ v then v % 256 else -((-v) % 256) := by
    split
    · exact Int.tmod_eq_emod_of_nonneg (by assumption)
    · have : v.tmod 256 = -((-v).tmod 256) := by rw [Int.neg_tmod]; simp
      rw [this, Int.tmod_eq_emod_of_nonneg (by omega)]
  rw [h1]
  split
  · rw [Int.tmod_eq_emod_of_nonneg (by omega)]; omega
  · rw [Int.tmod_eq_emod_of_nonneg (by omega)]; omega
theorem tdiv2 (v : Int) : (v - v % 256).tdiv 256 = v / 256 := by
  rw [show v - v % 256 = 256 * (v / 256) by omega]
  exact Int.mul_tdiv_cancel_left _ (by decide)
theorem byte_mod (v : Int) : BitVec.ofInt 8 (v % 256) = BitVec.ofInt 8 v := by
  apply BitVec.eq_of_toNat_eq
  rw [BitVec.toNat_ofInt, BitVec.toNat_ofInt]
  omega
theorem div_in (v : Int) (h : -9223372036854775808 ≤ v ∧ v ≤ 9223372036854775807) : ∀ i : Nat, -9223372036854775808 ≤ v / 256 ^ i ∧ v / 256 ^ i ≤ 9223372036854775807
  | 0 => by simpa using h
  | i + 1 => by
    have := div_in v h i
    rw [Int.pow_succ, ← Int.ediv_ediv_of_nonneg (Int.le_of_lt (Int.pow_pos (by decide)))]
    omega
theorem litt_ok (w : World) (n : Nat) (v : Int) (h1 : 1 ≤ n) (h8 : n ≤ 8) (hv : -9223372036854775808 ≤ v ∧ v ≤ 9223372036854775807) :
    Ret Try.prog 37 [.int .i64 (n : Int), .int .i64 v] w (fun u w' => New w w' 5 u ((lit8 v n).map u8v) ∧ Keep [] w w') := by
  refine fn_enter (n := 33) Try.func37 rfl rfl (Nat.le_of_ble_eq_true rfl) (fun e => ?_)
  refine k_seq ?_
  refine k_region ?_
  refine m_sl rfl rfl ?_
  refine o_nil ?_
  refine k_seq ?_
  refine k_seq ?_
  refine k_region ?_
  refine m_int rfl rfl ?_
  refine b_lss rfl rfl ?_
  refine m_bool rfl rfl ?_
  refine o_false (t := 10) rfl ((by omega)) ?_
  refine g_yes rfl rfl ?_
  refine m_int rfl rfl ?_
  refine g_yes rfl rfl ?_
  refine b_gtr rfl rfl ?_
  refine pick_f rfl rfl ?_
  refine o_nil ?_
  refine k_no rfl ((by omega)) ?_
  refine k_skip ?_
  refine k_seq ?_
  refine k_region ?_
  refine m_sl rfl rfl ?_
  refine o_nil ?_
  refine k_seq ?_
  refine k_seq ?_
  refine k_region ?_
  refine m_int rfl rfl ?_
  refine o_nil ?_
  refine k_block ?_
  refine k_loop (σ := Nat × Option Addr × Nat) (fun s => [(0, .int .i64 (n : Int)), (1, .int .i64 (v / 256 ^ s.1)), (5, .slice s.2.1 s.1 s.2.2), (6, .int .i64 (s.1 : Int))]) (fun s w' => s.1 ≤ n ∧ Sl w' 5 1 s.2.1 s.1 s.2.2 ((lit8 v s.1).map u8v) ∧ (∀ z, s.2.1 = some z → w.heap.size ≤ z.block) ∧ Keep [] w w') (fun s => n - s.1) (0, none, 0) ⟨rfl, by simp; rfl, rfl, rfl, trivial⟩ ⟨Nat.zero_le _, Sl.nil _ _ _, by simp, Keep.refl _ _⟩ (fun s e w1 hJ => ?_)
  obtain ⟨i, a5, c5⟩ := s
  obtain ⟨hi, hS5, hf5, hK1⟩ := hJ
  change kw _ _ _ _ (ovr [(0, .int .i64 (n : Int)), (1, .int .i64 (v / 256 ^ i)), (5, .slice a5 i c5), (6, .int .i64 (i : Int))] e) w1
  simp only at hi hS5 hf5 hK1
  have hvi := div_in v hv i
  refine k_seq ?_
  refine k_seq ?_
  refine k_region ?_
  refine m_int rfl rfl ?_
  refine m_int rfl rfl ?_
  refine b_lss rfl rfl ?_
  refine o_nil ?_
  refine k_cond rfl (fun h => ?_) (fun h => ?_)
  rotate_left
  ·
    have hie : i = n := by omega
    subst hie
    refine k_exit rfl ?_
    refine k_seq ?_
    refine k_region ?_
    refine m_sl rfl rfl ?_
    refine m_sl rfl rfl ?_
    refine o_nil ?_
    refine k_ret (ret_tmps (ts := [4]) (v := .slice _ _ _) rfl rfl ?_)
    exact ⟨⟨a5, c5, by rw [List.length_map, lit8_len], by rw [List.length_map, lit8_len]; exact hS5, hf5⟩, hK1⟩
  refine k_skip ?_
  refine k_seq ?_
  refine k_block ?_
  refine k_seq ?_
  refine k_region ?_
  refine m_int rfl rfl ?_
  refine b_rem rfl rfl (by decide) ?_
  have htm := Int.tmod_lt_of_pos (v / 256 ^ i) (show (0 : Int) < 256 by decide)
  have htn : -256 < (v / 256 ^ i).tmod 256 := by
   have := Int.tmod_lt_of_pos (-(v / 256 ^ i)) (show (0 : Int) < 256 by decide)
   rw [Int.neg_tmod] at this
   omega
  refine n_add rfl rfl (by omega) ?_
  refine b_rem rfl rfl (by decide) ?_
  rw [tmod2]
  refine m_int rfl rfl ?_
  refine o_nil ?_
  refine k_seq ?_
  refine k_region ?_
  refine m_sl rfl rfl ?_
  refine m_int rfl rfl ?_
  refine cv8 rfl Try.underlying5 rfl ?_
  rw [byte_mod]
  refine o_bsl (E := 5) (cs := #[u8v (BitVec.ofInt 8 (v / 256 ^ i))]) rfl (fun _ => by kernel_rfl) (fun g w2 hB2 hK2 hb2 hZ2 => ?_)
  refine o_app Try.underlying22 inf5 rfl (by decide) rfl rfl (hS5.new hK2) hB2.rd rfl (by simp [u8v, Value.oneCell']) (by simp [maxLen]; omega) (by omega) (fun a3 c3 w3 hS3 hK3 hv3 => ?_)
  have hf3 := fresh_app (k := w.heap.size) (w := w2) (w' := w3) (a := a5) (a2 := a3) hf5 (by have := hK1.size; omega) hv3
  refine m_sl rfl rfl ?_
  refine o_nil ?_
  refine k_region ?_
  refine m_int rfl rfl ?_
  refine m_int rfl rfl ?_
  refine n_sub rfl rfl (by omega) ?_
  refine b_quo rfl rfl (by decide) ?_
  rw [tdiv2, wrap_in (k := .i64) (m := v / 256 ^ i / 256) (show -9223372036854775808 ≤ _ ∧ _ ≤ 9223372036854775807 from ⟨by omega, by omega⟩)]
  refine m_int rfl rfl ?_
  refine o_nil ?_
  refine k_blk ?_
  refine k_region ?_
  refine m_int rfl rfl ?_
  refine n_add rfl rfl (by omega) ?_
  refine m_int rfl rfl ?_
  refine o_nil ?_
  refine k_goal ⟨(i + 1, a3, c3), ⟨rfl, ?_, rfl, rfl, trivial⟩, ⟨by simp only; omega, ?_, hf3, (hK1.tr hK2).trb hK3 hf5⟩, by simp only; omega⟩
  · refine congrArg (Value.int .i64) ?_
    show v / 256 ^ i / 256 = v / 256 ^ (i + 1)
    rw [Int.pow_succ, Int.ediv_ediv_of_nonneg (Int.le_of_lt (Int.pow_pos (by decide)))]
  · simp only
    rw [lit8_succ, List.map_append]
    exact hS3
theorem turn_ok (w : World) (a : Option Addr) (c : Nat) (l : Bs) (hR : Rd w a (l.map u8v)) (hl : l.length ≤ 100000) :
    Ret Try.prog 36 [.slice a l.length c] w (fun u w' => New w w' 5 u (l.reverse.map u8v) ∧ Keep [] w w') := by
  refine fn_enter (n := 20) Try.func36 rfl rfl (Nat.le_of_ble_eq_true rfl) (fun e => ?_)
  refine k_seq ?_
  refine k_region ?_
  refine m_sl rfl rfl ?_
  refine o_nil ?_
  refine k_seq ?_
  refine k_region ?_
  refine m_sl rfl rfl ?_
  refine o_nil ?_
  refine k_seq ?_
  refine k_seq ?_
  refine k_region ?_
  refine m_sl rfl rfl ?_
  refine o_lens Try.underlying22 rfl ?_
  refine n_sub rfl rfl (by omega) ?_
  refine m_int rfl rfl ?_
  refine o_nil ?_
  refine k_block ?_
  refine k_loop (σ := Nat × Option Addr × Nat) (fun s => [(0, .slice a l.length c), (3, .slice s.2.1 s.1 s.2.2), (4, .int .i64 ((l.length : Int) - 1 - (s.1 : Int)))]) (fun s w' => s.1 ≤ l.length ∧ Sl w' 5 1 s.2.1 s.1 s.2.2 ((l.reverse.take s.1).map u8v) ∧ (∀ z, s.2.1 = some z → w.heap.size ≤ z.block) ∧ Keep [] w w') (fun s => l.length - s.1) (0, none, 0) ⟨rfl, rfl, by simp; rfl, trivial⟩ ⟨Nat.zero_le _, Sl.nil _ _ _, by simp, Keep.refl _ _⟩ (fun s e w1 hJ => ?_)
  obtain ⟨i, a5, c5⟩ := s
  obtain ⟨hi, hS5, hf5, hK1⟩ := hJ
  change kw _ _ _ _ (ovr [(0, .slice a l.length c), (3, .slice a5 i c5), (4, .int .i64 ((l.length : Int) - 1 - (i : Int)))] e) w1
  simp only at hi hS5 hf5 hK1
  refine k_seq ?_
  refine k_seq ?_
  refine k_region ?_
  refine m_int rfl rfl ?_
  refine b_geq rfl rfl ?_
  refine o_nil ?_
  refine k_cond rfl (fun h => ?_) (fun h => ?_)
  rotate_left
  ·
    have hie : i = l.length := by omega
    subst hie
    refine k_exit rfl ?_
    refine k_seq ?_
    refine k_region ?_
    refine m_sl rfl rfl ?_
    refine m_sl rfl rfl ?_
    refine o_nil ?_
    refine k_ret (ret_tmps (ts := [2]) (v := .slice _ _ _) rfl rfl ?_)
    have hrl : l.reverse.take l.length = l.reverse := List.take_of_length_le (by simp)
    rw [hrl] at hS5
    exact ⟨⟨a5, c5, by rw [List.length_map, List.length_reverse], by rw [List.length_map, List.length_reverse]; exact hS5, hf5⟩, hK1⟩
  have hin : i < l.length := by omega
  have hkl : l.length - 1 - i < l.length := by omega
  have hx := u8_at l (l.length - 1 - i) hkl
  obtain ⟨b1, o1, hae, _⟩ := hR _ _ hx
  subst hae
  refine k_skip ?_
  refine k_seq ?_
  refine k_block ?_
  refine k_region ?_
  refine m_sl rfl rfl ?_
  refine m_sl rfl rfl ?_
  refine m_int rfl rfl ?_
  refine o_ixs1 (m := l.length - 1 - i) Try.underlying22 rfl rfl (congrArg (Value.int .i64) (by omega)) hkl ?_
  refine o_ld (v := u8v (l[l.length - 1 - i])) rfl rfl (hR.cellK hK1 hx) ?_
  refine o_bsl (E := 5) (cs := #[u8v (l[l.length - 1 - i])]) rfl (fun _ => by kernel_rfl) (fun g w2 hB2 hK2 hb2 hZ2 => ?_)
  refine o_app Try.underlying22 inf5 rfl (by decide) rfl rfl (hS5.new hK2) hB2.rd rfl (by simp [u8v, Value.oneCell']) (by simp [maxLen]; omega) (by omega) (fun a3 c3 w3 hS3 hK3 hv3 => ?_)
  have hf3 := fresh_app (k := w.heap.size) (w := w2) (w' := w3) (a := a5) (a2 := a3) hf5 (by have := hK1.size; omega) hv3
  refine m_sl rfl rfl ?_
  refine o_nil ?_
  refine k_blk ?_
  refine k_region ?_
  refine m_int rfl rfl ?_
  refine n_sub rfl rfl (by omega) ?_
  refine m_int rfl rfl ?_
  refine o_nil ?_
  refine k_goal ⟨(i + 1, a3, c3), ⟨rfl, rfl, congrArg (Value.int .i64) (by simp only; omega), trivial⟩, ⟨by simp only; omega, ?_, hf3, (hK1.tr hK2).trb hK3 hf5⟩, by simp only; omega⟩
  simp only
  rw [List.take_succ_eq_append_getElem (by simp; omega), List.map_append, List.getElem_reverse]
  exact hS3
theorem rput_ok (w : World) (n : Nat) (v : Int) (h1 : 1 ≤ n) (h8 : n ≤ 4) (hv : -9223372036854775808 ≤ v ∧ v ≤ 9223372036854775807) :
    Ret Try.prog 30 [.int .i64 (n : Int), .int .i64 v] w (fun u w' => ∃ a2 c2, u = .slice a2 n c2 ∧ Sl w' 5 1 a2 n c2 ((bigB n v).map u8v) ∧ (∀ z, a2 = some z → w.heap.size ≤ z.block) ∧ Keep [] w w') := by
  refine fn_enter (n := 9) Try.func30 rfl rfl (Nat.le_of_ble_eq_true rfl) (fun e => ?_)
  refine k_seq ?_
  refine k_region ?_
  refine m_sl rfl rfl ?_
  refine o_nil ?_
  refine k_seq ?_
  refine k_region ?_
  refine m_int rfl rfl ?_
  refine m_int rfl rfl ?_
  refine o_call rfl rfl (litt_ok w n v h1 (by omega) hv) (fun u w1 hu => ?_)
  obtain ⟨⟨a1, c1, rfl, hS1, hf1⟩, hK1⟩ := hu
  have hll : ((lit8 v n).map u8v).length = (lit8 v n).length := by simp
  rw [hll]
  refine o_call rfl rfl (turn_ok w1 a1 c1 (lit8 v n) hS1.rd (by rw [lit8_len]; omega)) (fun u w2 hu => ?_)
  obtain ⟨⟨a2, c2, rfl, hS2, hf2⟩, hK2⟩ := hu
  have hl2 : ((lit8 v n).reverse.map u8v).length = n := by simp [lit8_len]
  rw [hl2] at hS2
  rw [hl2]
  rw [lit8_rev v n h8] at hS2
  refine m_sl rfl rfl ?_
  refine o_nil ?_
  refine k_ret (ret_tmps (ts := [4]) (v := .slice _ _ _) rfl rfl ?_)
  exact ⟨a2, c2, rfl, hS2, fun z hz => Nat.le_trans hK1.size (hf2 z hz), hK1.tr hK2⟩
end Go.Proofs.Ytmdkinedbmjieaa
