/- Plain facts of the ring and of the quotients; the walks of the laws WordCuts, WordRing, WordDivides, WordHolds. No condition beyond what each contract names. -/
import Derived.Test.YtahhgocfgniejaaWe
namespace Go.Proofs.Ytahhgocfgniejaa
open Go.RowKit E
set_option linter.unusedVariables false
set_option linter.unusedSimpArgs false
set_option maxRecDepth 100000
attribute [local irreducible] ow qw kw kq cw opW Ret
theorem Lb (n : Int) : W.L n = Int.bmod n 4294967296 := by
  unfold W.L; rw [IntKind.wrap_i32, Int.bmod_def]; split <;> omega
theorem Qb (n : Int) : IntKind.i64.wrap n = Int.bmod n 18446744073709551616 := by
  rw [IntKind.wrap_i64, Int.bmod_def]; split <;> omega
theorem i96 (a b : Int) : (W.wInt 96 a b).1 = W.L (W.L a + W.L b) := rfl
theorem i100 (a b : Int) : (W.wInt 100 a b).1 = W.L (W.L a - W.L b) := rfl
theorem i104 (a b : Int) : (W.wInt 104 a b).1 = W.L (W.L a * W.L b) := rfl
theorem l97 (a b : Int) : (W.wLong 97 a b).1 = IntKind.i64.wrap (a + b) := rfl
theorem l101 (a b : Int) : (W.wLong 101 a b).1 = IntKind.i64.wrap (a - b) := rfl
theorem l105 (a b : Int) : (W.wLong 105 a b).1 = IntKind.i64.wrap (a * b) := rfl

/-- the laws of a ring -/
structure Ring (long : Bool) (add mul sub a b c : Int) : Prop where
  h1 : rck long add a b = rck long add b a
  h2 : rck long mul a b = rck long mul b a
  h3 : rck long add (rck long add a b) c = rck long add a (rck long add b c)
  h4 : rck long mul a (rck long add b c) = rck long add (rck long mul a b) (rck long mul a c)
  h5 : rck long sub (rck long add a b) b = rck long add a 0
theorem ringI (a b c : Int) : Ring false 96 104 100 a b c := by
  constructor <;> simp only [rck, Bool.false_eq_true, if_false, i96, i100, i104, Lb, Int.bmod_add_bmod, Int.add_bmod_bmod, Int.bmod_mul_bmod, Int.mul_bmod_bmod, Int.bmod_sub_bmod, Int.sub_bmod_bmod, Int.bmod_bmod]
  · rw [Int.add_comm]
  · rw [Int.mul_comm]
  · rw [Int.add_assoc]
  · rw [Int.mul_add]
  · rw [Int.add_sub_cancel]; simp
theorem ringL (a b c : Int) : Ring true 97 105 101 a b c := by
  constructor <;> simp only [rck, if_true, l97, l101, l105, Qb, Int.bmod_add_bmod, Int.add_bmod_bmod, Int.bmod_mul_bmod, Int.mul_bmod_bmod, Int.bmod_sub_bmod, Int.sub_bmod_bmod, Int.bmod_bmod]
  · rw [Int.add_comm]
  · rw [Int.mul_comm]
  · rw [Int.add_assoc]
  · rw [Int.mul_add]
  · rw [Int.add_sub_cancel]; simp

theorem func3_ok (w : World) (a b c add mul sub : Int) (long : Bool) (H : Ring long add mul sub a b c) : Ret Try.prog 21 [.int .i64 a, .int .i64 b, .int .i64 c, .int .i64 add, .int .i64 mul, .int .i64 sub, .bool long] w (fun v w' => v = .bool true ∧ w' = w) := by
  refine fn_enter (n := 89) Try.func21 rfl rfl (Nat.le_of_ble_eq_true rfl) (fun e => ?_)
  refine k_seq ?_
  refine k_region ?_
  refine m_bool rfl rfl ?_
  refine o_nil ?_
  refine k_seq ?_
  refine k_region ?_
  refine m_int rfl rfl ?_
  refine m_int rfl rfl ?_
  refine m_int rfl rfl ?_
  refine m_bool rfl rfl ?_
  refine o_call rfl rfl (reckon_ok w _ _ _ _) (fun v w1 hv => ?_)
  obtain ⟨rfl, rfl⟩ := hv
  refine m_int rfl rfl ?_
  refine m_int rfl rfl ?_
  refine m_int rfl rfl ?_
  refine m_bool rfl rfl ?_
  refine o_call rfl rfl (reckon_ok w1 _ _ _ _) (fun v w1 hv => ?_)
  obtain ⟨rfl, rfl⟩ := hv
  refine m_int rfl rfl ?_
  refine m_int rfl rfl ?_
  refine o_nil ?_
  refine k_seq ?_
  refine k_seq ?_
  refine k_region ?_
  refine m_int rfl rfl ?_
  refine m_int rfl rfl ?_
  refine m_int rfl rfl ?_
  refine m_int rfl rfl ?_
  refine m_bool rfl rfl ?_
  refine o_call rfl rfl (reckon_ok w1 _ _ _ _) (fun v w1 hv => ?_)
  obtain ⟨rfl, rfl⟩ := hv
  refine b_neq rfl rfl ?_
  refine m_bool rfl rfl ?_
  refine o_false (t := 34) rfl (fun h => h H.h1) ?_
  refine g_yes rfl rfl ?_
  refine m_int rfl rfl ?_
  refine g_yes rfl rfl ?_
  refine m_int rfl rfl ?_
  refine g_yes rfl rfl ?_
  refine m_int rfl rfl ?_
  refine g_yes rfl rfl ?_
  refine m_int rfl rfl ?_
  refine g_yes rfl rfl ?_
  refine m_bool rfl rfl ?_
  refine g_yes rfl rfl ?_
  refine o_call rfl rfl (reckon_ok w1 _ _ _ _) (fun v w1 hv => ?_)
  obtain ⟨rfl, rfl⟩ := hv
  refine g_yes rfl rfl ?_
  refine b_neq rfl rfl ?_
  refine pick_f rfl rfl ?_
  refine m_bool rfl rfl ?_
  refine o_false (t := 43) rfl (fun h => h H.h2) ?_
  refine g_yes rfl rfl ?_
  refine m_int rfl rfl ?_
  refine g_yes rfl rfl ?_
  refine m_int rfl rfl ?_
  refine g_yes rfl rfl ?_
  refine m_int rfl rfl ?_
  refine g_yes rfl rfl ?_
  refine m_bool rfl rfl ?_
  refine g_yes rfl rfl ?_
  refine o_call rfl rfl (reckon_ok w1 _ _ _ _) (fun v w1 hv => ?_)
  obtain ⟨rfl, rfl⟩ := hv
  refine g_yes rfl rfl ?_
  refine m_int rfl rfl ?_
  refine g_yes rfl rfl ?_
  refine m_int rfl rfl ?_
  refine g_yes rfl rfl ?_
  refine m_int rfl rfl ?_
  refine g_yes rfl rfl ?_
  refine m_int rfl rfl ?_
  refine g_yes rfl rfl ?_
  refine m_int rfl rfl ?_
  refine g_yes rfl rfl ?_
  refine m_bool rfl rfl ?_
  refine g_yes rfl rfl ?_
  refine o_call rfl rfl (reckon_ok w1 _ _ _ _) (fun v w1 hv => ?_)
  obtain ⟨rfl, rfl⟩ := hv
  refine g_yes rfl rfl ?_
  refine m_bool rfl rfl ?_
  refine g_yes rfl rfl ?_
  refine o_call rfl rfl (reckon_ok w1 _ _ _ _) (fun v w1 hv => ?_)
  obtain ⟨rfl, rfl⟩ := hv
  refine g_yes rfl rfl ?_
  refine b_neq rfl rfl ?_
  refine pick_f rfl rfl ?_
  refine o_nil ?_
  refine k_no rfl (fun h => h H.h3) ?_
  refine k_skip ?_
  refine k_seq ?_
  refine k_seq ?_
  refine k_region ?_
  refine m_int rfl rfl ?_
  refine m_int rfl rfl ?_
  refine m_int rfl rfl ?_
  refine m_int rfl rfl ?_
  refine m_int rfl rfl ?_
  refine m_bool rfl rfl ?_
  refine o_call rfl rfl (reckon_ok w1 _ _ _ _) (fun v w1 hv => ?_)
  obtain ⟨rfl, rfl⟩ := hv
  refine m_bool rfl rfl ?_
  refine o_call rfl rfl (reckon_ok w1 _ _ _ _) (fun v w1 hv => ?_)
  obtain ⟨rfl, rfl⟩ := hv
  refine m_int rfl rfl ?_
  refine m_int rfl rfl ?_
  refine m_int rfl rfl ?_
  refine m_int rfl rfl ?_
  refine m_int rfl rfl ?_
  refine m_bool rfl rfl ?_
  refine o_call rfl rfl (reckon_ok w1 _ _ _ _) (fun v w1 hv => ?_)
  obtain ⟨rfl, rfl⟩ := hv
  refine m_bool rfl rfl ?_
  refine o_call rfl rfl (reckon_ok w1 _ _ _ _) (fun v w1 hv => ?_)
  obtain ⟨rfl, rfl⟩ := hv
  refine b_neq rfl rfl ?_
  refine o_nil ?_
  refine k_no rfl (fun h => h H.h4) ?_
  refine k_skip ?_
  refine k_seq ?_
  refine k_region ?_
  refine m_int rfl rfl ?_
  refine m_int rfl rfl ?_
  refine m_int rfl rfl ?_
  refine m_bool rfl rfl ?_
  refine o_call rfl rfl (reckon_ok w1 _ _ _ _) (fun v w1 hv => ?_)
  obtain ⟨rfl, rfl⟩ := hv
  refine m_int rfl rfl ?_
  refine m_int rfl rfl ?_
  refine m_bool rfl rfl ?_
  refine o_call rfl rfl (reckon_ok w1 _ _ _ _) (fun v w1 hv => ?_)
  obtain ⟨rfl, rfl⟩ := hv
  refine b_eql rfl rfl ?_
  refine m_bool rfl rfl ?_
  refine o_nil ?_
  refine k_ret (ret_tmps (ts := [14]) (v := .bool _) rfl rfl ?_)
  exact ⟨congrArg Value.bool (decide_eq_true H.h5), rfl⟩
theorem ring_ok (w : World) (a b c : Int) : Ret Try.prog 7 [.int .i64 a, .int .i64 b, .int .i64 c] w (fun v w' => v = .bool true ∧ Keep [] w w') := by
  refine fn_enter (n := 21) Try.func7 rfl rfl (Nat.le_of_ble_eq_true rfl) (fun e => ?_)
  refine k_seq ?_
  refine k_region ?_
  refine m_bool rfl rfl ?_
  refine o_nil ?_
  refine k_seq ?_
  refine k_seq ?_
  refine k_region ?_
  refine o_call rfl rfl (fixed_ok w) (fun v w1 hv => ?_)
  obtain ⟨rfl, rfl⟩ := hv
  refine u_notb rfl ?_
  refine o_nil ?_
  refine k_condf rfl ?_
  refine k_skip ?_
  refine k_seq ?_
  refine k_region ?_
  refine m_int rfl rfl ?_
  refine m_int rfl rfl ?_
  refine m_int rfl rfl ?_
  refine o_call rfl rfl (func3_ok w1 a b c 96 104 100 false (ringI a b c)) (fun v w1 hv => ?_)
  obtain ⟨rfl, rfl⟩ := hv
  refine m_bool rfl rfl ?_
  refine o_nil ?_
  refine k_seq ?_
  refine k_region ?_
  refine m_bool rfl rfl ?_
  refine m_bool rfl rfl ?_
  refine o_true (t := 15) (p := True) rfl trivial ?_
  refine g_yes rfl rfl ?_
  refine m_int rfl rfl ?_
  refine g_yes rfl rfl ?_
  refine m_int rfl rfl ?_
  refine g_yes rfl rfl ?_
  refine m_int rfl rfl ?_
  refine g_yes rfl rfl ?_
  refine o_call rfl rfl (func3_ok w1 a b c 97 105 101 true (ringL a b c)) (fun v w1 hv => ?_)
  obtain ⟨rfl, rfl⟩ := hv
  refine pick_t rfl rfl ?_
  refine m_bool rfl rfl ?_
  refine o_nil ?_
  refine k_ret (ret_tmps (ts := [6]) (v := .bool _) rfl rfl ?_)
  exact ⟨rfl, Keep.refl _ _⟩

theorem c8 (n : Int) : IntKind.i8.wrap n = (n + 128) % 256 - 128 := by
  simp only [IntKind.wrap, IntKind.bits, IntKind.signed]; simp; split <;> omega
theorem c16 (n : Int) : IntKind.i16.wrap n = (n + 32768) % 65536 - 32768 := by
  simp only [IntKind.wrap, IntKind.bits, IntKind.signed]; simp; split <;> omega
theorem cu (n : Int) : ((BitVec.ofInt 16 n).toNat : Int) = n % 65536 := by rw [BitVec.toNat_ofInt]; omega
theorem cz (n : Int) : IntKind.i64.wrap (BitVec.ofInt IntKind.i64.bits n &&& BitVec.ofInt IntKind.i64.bits 1).toNat = n % 2 := by
  have h1 := bit_val (BitVec.ofInt 64 n) 0
  have h2 := bit0 n
  unfold bitI at h2
  rw [h2, BitVec.ushiftRight_zero] at h1
  rw [show (1#64 : BitVec 64) = BitVec.ofInt 64 1 by decide] at h1
  rw [← h1]
  exact wtoNat64 _
theorem cut_idem (d : BitVec 8) (n : Int) : cutW d (cutW d n) = cutW d n := by
  have hL : ∀ n, IntKind.i32.wrap n = (n + 2147483648) % 4294967296 - 2147483648 := IntKind.wrap_i32
  unfold cutW
  (repeat' split) <;> first | contradiction | skip
  all_goals simp only [c8, c16, cu, cz, hL]
  all_goals omega
theorem cuts_ok (w : World) (a n m : Int) (ha : 0 ≤ a ∧ a ≤ 255) : Ret Try.prog 5 [.int .u8 a, .int .i64 n, .int .i64 m] w (fun v w' => v = .bool true ∧ Keep [] w w') := by
  obtain ⟨d, rfl⟩ : ∃ d : BitVec 8, a = (d.toNat : Int) := ⟨BitVec.ofInt 8 a, by rw [BitVec.toNat_ofInt]; omega⟩
  refine fn_enter (n := 36) Try.func5 rfl rfl (Nat.le_of_ble_eq_true rfl) (fun e => ?_)
  refine k_seq ?_
  refine k_region ?_
  refine m_bool rfl rfl ?_
  refine o_nil ?_
  refine k_seq ?_
  refine k_seq ?_
  refine k_region ?_
  refine o_call rfl rfl (fixed_ok w) (fun v w1 hv => ?_)
  obtain ⟨rfl, rfl⟩ := hv
  refine u_notb rfl ?_
  refine o_nil ?_
  refine k_condf rfl ?_
  refine k_skip ?_
  refine k_seq ?_
  refine k_region ?_
  refine m_int rfl rfl ?_
  refine m_int rfl rfl ?_
  refine o_call rfl rfl (cut_ok w1 _ _) (fun v w1 hv => ?_)
  obtain ⟨rfl, rfl⟩ := hv
  refine m_int rfl rfl ?_
  refine m_int rfl rfl ?_
  refine o_call rfl rfl (rcut_ok w1 _ _) (fun v w1 hv => ?_)
  obtain ⟨rfl, rfl⟩ := hv
  refine b_eql rfl rfl ?_
  refine m_bool rfl rfl ?_
  refine o_true (t := 16) rfl (rfl) ?_
  refine g_yes rfl rfl ?_
  refine m_int rfl rfl ?_
  refine g_yes rfl rfl ?_
  refine m_int rfl rfl ?_
  refine g_yes rfl rfl ?_
  refine m_int rfl rfl ?_
  refine g_yes rfl rfl ?_
  refine o_call rfl rfl (cut_ok w1 _ _) (fun v w1 hv => ?_)
  obtain ⟨rfl, rfl⟩ := hv
  refine g_yes rfl rfl ?_
  refine o_call rfl rfl (cut_ok w1 _ _) (fun v w1 hv => ?_)
  obtain ⟨rfl, rfl⟩ := hv
  refine g_yes rfl rfl ?_
  refine m_int rfl rfl ?_
  refine g_yes rfl rfl ?_
  refine m_int rfl rfl ?_
  refine g_yes rfl rfl ?_
  refine o_call rfl rfl (cut_ok w1 _ _) (fun v w1 hv => ?_)
  obtain ⟨rfl, rfl⟩ := hv
  refine g_yes rfl rfl ?_
  refine b_eql rfl rfl ?_
  refine pick_t rfl rfl ?_
  refine m_bool rfl rfl ?_
  refine o_true (t := 27) rfl (cut_idem d n) ?_
  refine g_yes rfl rfl ?_
  refine m_int rfl rfl ?_
  refine g_yes rfl rfl ?_
  refine m_int rfl rfl ?_
  refine g_yes rfl rfl ?_
  refine o_call rfl rfl (cmp_ok w1 _ _) (fun v w1 hv => ?_)
  obtain ⟨rfl, rfl⟩ := hv
  refine g_yes rfl rfl ?_
  refine m_int rfl rfl ?_
  refine g_yes rfl rfl ?_
  refine m_int rfl rfl ?_
  refine g_yes rfl rfl ?_
  refine o_call rfl rfl (rcmp_ok w1 _ _) (fun v w1 hv => ?_)
  obtain ⟨rfl, rfl⟩ := hv
  refine g_yes rfl rfl ?_
  refine b_eql rfl rfl ?_
  refine pick_t rfl rfl ?_
  refine m_bool rfl rfl ?_
  refine o_nil ?_
  refine k_ret (ret_tmps (ts := [6]) (v := .bool _) rfl rfl ?_)
  exact ⟨congrArg Value.bool (decide_eq_true rfl), Keep.refl _ _⟩
end Go.Proofs.Ytahhgocfgniejaa
