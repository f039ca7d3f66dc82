/- The calls that the document fixes; nil readers and writers; the law BitsNil. No condition beyond what each contract names. -/
import Derived.Test.YtpmlhlefhmgpfaaBc
namespace Go.Proofs.Ytpmlhlefhmgpfaa
open Go.RowKit E
set_option linter.unusedVariables false
set_option linter.unusedSimpArgs false
set_option maxRecDepth 100000
attribute [local irreducible] ow qw kw kq cw opW Ret
theorem Keep.same {w w' : World} (h : w' = w) : Keep [] w w' := h ▸ Keep.refl _ _
theorem wtr_new {w w1 w2 : World} {b : Nat} (hB : Blk w2 b #[.slice none 0 0, .int .i64 0] 27) (hb : w1.heap.size = b) (hk : w.heap.size ≤ w1.heap.size) : Wtr w.heap.size w2 b [] :=
  ⟨none, 0, hB, Sl.nil _ _ _, by omega, by simp⟩
theorem Wtr.lt {k : Nat} {w : World} {r : Nat} {l : List Bool} (h : Wtr k w r l) : r < w.heap.size := by
  obtain ⟨a, c, hB, _⟩ := h
  exact hB.lt
theorem fixed_ok (w : World) : Ret Try.prog 12 [] w (fun v w' => v = .bool true ∧ Keep [] w w') := by
  refine fn_enter (n := 85) Try.func12 rfl rfl (Nat.le_of_ble_eq_true rfl) (fun e => ?_)
  refine k_seq ?_
  refine k_region ?_
  refine m_bool rfl rfl ?_
  refine o_nil ?_
  refine k_seq ?_
  refine k_region ?_
  refine o_bsl (E := 5) (cs := #[.int .u8 5, .int .u8 128]) rfl (fun _ => by kernel_rfl) (fun g w1 hB1 hK1 hb1 hZ1 => ?_)
  refine o_call rfl rfl (new_ok w1 _ 2 [5#8, 128#8] hB1.rd (by decide)) (fun v w2 hv => ?_)
  obtain ⟨r, rfl, hR2, hK2, hr2⟩ := hv
  have hk2 := hK1.tr hK2
  refine m_ptr rfl rfl ?_
  refine o_nil ?_
  refine k_seq ?_
  refine k_region ?_
  refine m_ptr rfl rfl ?_
  refine o_call rfl rfl (take_ok w2 r _ _ 1 hR2) (fun v w3 hv => ?_)
  obtain ⟨rfl, hR3, hK3⟩ := hv
  have hk3 := hk2.tr1 hK3 (by have := hK1.size; omega)
  rw [show tk [5#8, 128#8] 0 1 = (1, 0, 1) by decide] at hR3 ⊢
  refine m_any rfl rfl ?_
  refine o_extr rfl rfl ?_
  refine o_extr rfl rfl ?_
  refine m_int rfl rfl ?_
  refine m_int rfl rfl ?_
  refine o_nil ?_
  refine k_seq ?_
  refine k_region ?_
  refine m_ptr rfl rfl ?_
  refine o_call rfl rfl (take_ok w3 r _ _ 3 hR3) (fun v w4 hv => ?_)
  obtain ⟨rfl, hR4, hK4⟩ := hv
  have hk4 := hk3.tr1 hK4 (by have := hK1.size; omega)
  rw [show tk [5#8, 128#8] 1 3 = (2, 0, 4) by decide] at hR4 ⊢
  refine m_any rfl rfl ?_
  refine o_extr rfl rfl ?_
  refine o_extr rfl rfl ?_
  refine m_int rfl rfl ?_
  refine m_int rfl rfl ?_
  refine o_nil ?_
  refine k_seq ?_
  refine k_region ?_
  refine m_ptr rfl rfl ?_
  refine o_call rfl rfl (take_ok w4 r _ _ 12 hR4) (fun v w5 hv => ?_)
  obtain ⟨rfl, hR5, hK5⟩ := hv
  have hk5 := hk4.tr1 hK5 (by have := hK1.size; omega)
  rw [show tk [5#8, 128#8] 4 12 = (2048, 0, 16) by decide] at hR5 ⊢
  refine m_any rfl rfl ?_
  refine o_extr rfl rfl ?_
  refine o_extr rfl rfl ?_
  refine m_int rfl rfl ?_
  refine m_int rfl rfl ?_
  refine o_nil ?_
  refine k_seq ?_
  refine k_region ?_
  refine m_ptr rfl rfl ?_
  refine o_call rfl rfl (take_ok w5 r _ _ 1 hR5) (fun v w6 hv => ?_)
  obtain ⟨rfl, hR6, hK6⟩ := hv
  have hk6 := hk5.tr1 hK6 (by have := hK1.size; omega)
  rw [show tk [5#8, 128#8] 16 1 = (0, 2, 16) by decide] at hR6 ⊢
  refine m_any rfl rfl ?_
  refine o_extr rfl rfl ?_
  refine o_extr rfl rfl ?_
  refine m_int rfl rfl ?_
  refine m_int rfl rfl ?_
  refine o_nil ?_
  refine k_seq ?_
  refine k_region ?_
  refine o_build (v := .agg #[.slice none 0 0, .int .i64 0]) rfl (fun _ => by kernel_rfl) ?_
  refine o_box rfl rfl (fun b w7 hB7 hK7 hb7 hZ7 => ?_)
  have hk7 := hk6.tr hK7
  have hW7 : Wtr w.heap.size w7 b [] := wtr_new hB7 hb7 hk6.size
  refine m_ptr rfl rfl ?_
  refine o_nil ?_
  refine k_seq ?_
  refine k_region ?_
  refine m_ptr rfl rfl ?_
  refine o_call rfl rfl (put_ok w.heap.size w7 b [] 3 5 (by decide) hW7) (fun v w8 hv => ?_)
  obtain ⟨_, hW8, hk8⟩ := hv
  refine o_nil ?_
  refine k_seq ?_
  refine k_region ?_
  refine m_ptr rfl rfl ?_
  refine o_call rfl rfl (put_ok w.heap.size w8 b _ 2 0 (by decide) hW8) (fun v w9 hv => ?_)
  obtain ⟨_, hW9, hk9⟩ := hv
  refine o_nil ?_
  refine k_seq ?_
  refine k_region ?_
  refine m_ptr rfl rfl ?_
  refine o_call rfl rfl (walign_ok w.heap.size w9 b _ (by decide) hW9) (fun v w10 hv => ?_)
  obtain ⟨hW10, hk10, _⟩ := hv
  have hk10' := (((hk8.tr hk9).tr hk10).below hk7 (Nat.le_refl _))
  refine o_nil ?_
  refine k_seq ?_
  refine k_region ?_
  refine m_ptr rfl rfl ?_
  refine o_bsl (E := 5) (cs := #[.int .u8 7]) rfl (fun _ => by kernel_rfl) (fun g2 w11 hB11 hK11 hb11 hZ11 => ?_)
  have hW11 := hW10.new hK11
  refine o_call rfl rfl (wadd_ok w.heap.size w11 b _ _ 1 [7#8] (by decide) (by decide) hW11 hB11.rd (fun _ p hp => by simp at hp; subst hp; have := hW10.lt; simp; omega)) (fun v w12 hv => ?_)
  obtain ⟨hW12, hk12⟩ := hv
  have hk12' := hk12.below (hk10'.tr hK11) (Nat.le_refl _)
  refine o_nil ?_
  refine k_seq ?_
  refine k_region ?_
  refine m_ptr rfl rfl ?_
  refine b_neqp Try.underlying43 rfl rfl ?_
  refine m_bool rfl rfl ?_
  refine o_true (t := 46) rfl ((by simp)) ?_
  refine g_yes rfl rfl ?_
  refine m_int rfl rfl ?_
  refine g_yes rfl rfl ?_
  refine b_eql rfl rfl ?_
  refine pick_t rfl rfl ?_
  refine m_bool rfl rfl ?_
  refine o_true (t := 50) rfl (rfl) ?_
  refine g_yes rfl rfl ?_
  refine m_int rfl rfl ?_
  refine g_yes rfl rfl ?_
  refine b_eql rfl rfl ?_
  refine pick_t rfl rfl ?_
  refine m_bool rfl rfl ?_
  refine o_true (t := 54) rfl (rfl) ?_
  refine g_yes rfl rfl ?_
  refine m_int rfl rfl ?_
  refine g_yes rfl rfl ?_
  refine b_eql rfl rfl ?_
  refine pick_t rfl rfl ?_
  refine m_bool rfl rfl ?_
  refine o_true (t := 58) rfl (rfl) ?_
  refine g_yes rfl rfl ?_
  refine m_int rfl rfl ?_
  refine g_yes rfl rfl ?_
  refine b_eql rfl rfl ?_
  refine pick_t rfl rfl ?_
  refine m_bool rfl rfl ?_
  refine o_true (t := 62) rfl (rfl) ?_
  refine g_yes rfl rfl ?_
  refine m_int rfl rfl ?_
  refine g_yes rfl rfl ?_
  refine b_eql rfl rfl ?_
  refine pick_t rfl rfl ?_
  refine m_bool rfl rfl ?_
  refine o_true (t := 66) rfl (rfl) ?_
  refine g_yes rfl rfl ?_
  refine m_int rfl rfl ?_
  refine g_yes rfl rfl ?_
  refine b_eql rfl rfl ?_
  refine pick_t rfl rfl ?_
  refine m_bool rfl rfl ?_
  refine o_true (t := 70) rfl (rfl) ?_
  refine g_yes rfl rfl ?_
  refine m_int rfl rfl ?_
  refine g_yes rfl rfl ?_
  refine b_eql rfl rfl ?_
  refine pick_t rfl rfl ?_
  refine m_bool rfl rfl ?_
  refine o_true (t := 74) rfl (rfl) ?_
  refine g_yes rfl rfl ?_
  refine m_ptr rfl rfl ?_
  refine g_yes rfl rfl ?_
  refine o_call rfl rfl (wlen_ok w.heap.size w12 b _ hW12) (fun v w13 hv => ?_)
  obtain ⟨rfl, rfl⟩ := hv
  refine g_yes rfl rfl ?_
  refine b_eql rfl rfl ?_
  refine pick_t rfl rfl ?_
  refine m_bool rfl rfl ?_
  refine o_true (t := 79) rfl (rfl) ?_
  refine g_yes rfl rfl ?_
  refine m_ptr rfl rfl ?_
  refine g_yes rfl rfl ?_
  refine o_call rfl rfl (wbytes_ok w.heap.size w13 b _ (by decide) hW12) (fun v w14 hv => ?_)
  obtain ⟨⟨a14, c14, rfl, hS14, _⟩, hK14⟩ := hv
  refine g_yes rfl rfl ?_
  refine o_bsl (E := 5) (cs := #[.int .u8 5, .int .u8 7]) rfl (fun _ => by kernel_rfl) (fun g3 w15 hB15 hK15 hb15 hZ15 => ?_)
  refine g_yes rfl rfl ?_
  refine o_call rfl rfl (same_ok w15 a14 _ c14 2 _ [5#8, 7#8] (hS14.rd.new hK15) hB15.rd (by decide)) (fun v w16 hv => ?_)
  obtain ⟨rfl, hK16⟩ := hv
  refine pick_t rfl rfl ?_
  refine m_bool rfl rfl ?_
  refine o_nil ?_
  refine k_ret (ret_tmps (ts := [0]) (v := .bool _) rfl rfl ?_)
  exact ⟨congrArg Value.bool (by decide), hk12'.tr (hK14.tr (hK15.tr hK16))⟩
theorem nalign (w : World) : Ret Try.prog 28 [.pointer none] w (fun v w' => w' = w) := by
  refine fn_enter (n := 13) Try.func28 rfl rfl (Nat.le_of_ble_eq_true rfl) (fun e => ?_)
  refine k_seq ?_
  refine k_region ?_
  refine m_ptr rfl rfl ?_
  refine b_neqp Try.underlying43 rfl rfl ?_
  refine o_nil ?_
  refine k_no rfl ((by simp)) ?_
  refine k_skip ?_
  refine k_end (end_tmps (ts := []) (v := .tuple #[]) rfl rfl ?_)
  rfl
theorem nwalign (w : World) : Ret Try.prog 15 [.pointer none] w (fun v w' => w' = w) := by
  refine fn_enter (n := 13) Try.func15 rfl rfl (Nat.le_of_ble_eq_true rfl) (fun e => ?_)
  refine k_seq ?_
  refine k_region ?_
  refine m_ptr rfl rfl ?_
  refine b_neqp Try.underlying24 rfl rfl ?_
  refine o_nil ?_
  refine k_no rfl ((by simp)) ?_
  refine k_skip ?_
  refine k_end (end_tmps (ts := []) (v := .tuple #[]) rfl rfl ?_)
  rfl
theorem nwadd (w : World) (a : Option Addr) (n c : Nat) : Ret Try.prog 17 [.pointer none, .slice a n c] w (fun v w' => w' = w) := by
  refine fn_enter (n := 27) Try.func17 rfl rfl (Nat.le_of_ble_eq_true rfl) (fun e => ?_)
  refine k_seq ?_
  refine k_seq ?_
  refine k_region ?_
  refine m_ptr rfl rfl ?_
  refine b_eqlp Try.underlying24 rfl rfl ?_
  refine o_nil ?_
  refine k_yes rfl (rfl) ?_
  refine k_ret (ret_tmps (ts := []) (v := .tuple #[]) rfl rfl ?_)
  rfl
theorem ntake (w : World) (n : Int) : Ret Try.prog 24 [.pointer none, .int .i64 n] w (fun v w' => v = .tuple #[.int .i64 0, .int .i64 1] ∧ w' = w) := by
  refine fn_enter (n := 88) Try.func24 rfl rfl (Nat.le_of_ble_eq_true rfl) (fun e => ?_)
  refine k_seq ?_
  refine k_region ?_
  refine m_int rfl rfl ?_
  refine m_int rfl rfl ?_
  refine o_nil ?_
  refine k_seq ?_
  refine k_seq ?_
  refine k_region ?_
  refine m_ptr rfl rfl ?_
  refine b_eqlp Try.underlying43 rfl rfl ?_
  refine m_bool rfl rfl ?_
  refine o_true (t := 12) rfl (rfl) ?_
  refine g_no rfl rfl rfl ?_
  refine g_no rfl rfl rfl ?_
  refine pick_t rfl rfl ?_
  refine m_bool rfl rfl ?_
  refine g_no rfl rfl rfl ?_
  refine g_no rfl rfl rfl ?_
  refine pick_t rfl rfl ?_
  refine o_nil ?_
  refine k_condt rfl ?_
  refine k_seq ?_
  refine k_region ?_
  refine m_int rfl rfl ?_
  refine m_int rfl rfl ?_
  refine o_nil ?_
  refine k_ret (ret_tmps (ts := [4, 5]) (v := .tuple #[.int _ _, .int _ _]) rfl rfl ?_)
  exact ⟨rfl, rfl⟩
theorem nbytes (w : World) (n : Int) : Ret Try.prog 30 [.pointer none, .int .i64 n] w (fun v w' => v = .tuple #[.slice none 0 0, .int .i64 1] ∧ w' = w) := by
  refine fn_enter (n := 46) Try.func30 rfl rfl (Nat.le_of_ble_eq_true rfl) (fun e => ?_)
  refine k_seq ?_
  refine k_region ?_
  refine m_sl rfl rfl ?_
  refine m_int rfl rfl ?_
  refine o_nil ?_
  refine k_seq ?_
  refine k_seq ?_
  refine k_region ?_
  refine m_ptr rfl rfl ?_
  refine b_eqlp Try.underlying43 rfl rfl ?_
  refine m_bool rfl rfl ?_
  refine o_true (t := 9) rfl (rfl) ?_
  refine g_no rfl rfl rfl ?_
  refine g_no rfl rfl rfl ?_
  refine pick_t rfl rfl ?_
  refine o_nil ?_
  refine k_condt rfl ?_
  refine k_seq ?_
  refine k_region ?_
  refine m_sl rfl rfl ?_
  refine m_int rfl rfl ?_
  refine o_nil ?_
  refine k_ret (ret_tmps (ts := [4, 5]) (v := .tuple #[.slice _ _ _, .int _ _]) rfl rfl ?_)
  exact ⟨rfl, rfl⟩
theorem nat_ (w : World) : Ret Try.prog 25 [.pointer none] w (fun v w' => v = .int .i64 0 ∧ w' = w) := by
  refine fn_enter (n := 9) Try.func25 rfl rfl (Nat.le_of_ble_eq_true rfl) (fun e => ?_)
  refine k_seq ?_
  refine k_region ?_
  refine m_int rfl rfl ?_
  refine o_nil ?_
  refine k_seq ?_
  refine k_seq ?_
  refine k_region ?_
  refine m_ptr rfl rfl ?_
  refine b_eqlp Try.underlying43 rfl rfl ?_
  refine o_nil ?_
  refine k_yes rfl (rfl) ?_
  refine k_seq ?_
  refine k_region ?_
  refine m_int rfl rfl ?_
  refine o_nil ?_
  refine k_ret (ret_tmps (ts := [2]) (v := .int _ _) rfl rfl ?_)
  exact ⟨rfl, rfl⟩
theorem nleft (w : World) : Ret Try.prog 26 [.pointer none] w (fun v w' => v = .int .i64 0 ∧ w' = w) := by
  refine fn_enter (n := 16) Try.func26 rfl rfl (Nat.le_of_ble_eq_true rfl) (fun e => ?_)
  refine k_seq ?_
  refine k_region ?_
  refine m_int rfl rfl ?_
  refine o_nil ?_
  refine k_seq ?_
  refine k_seq ?_
  refine k_region ?_
  refine m_ptr rfl rfl ?_
  refine b_eqlp Try.underlying43 rfl rfl ?_
  refine o_nil ?_
  refine k_yes rfl (rfl) ?_
  refine k_seq ?_
  refine k_region ?_
  refine m_int rfl rfl ?_
  refine o_nil ?_
  refine k_ret (ret_tmps (ts := [2]) (v := .int _ _) rfl rfl ?_)
  exact ⟨rfl, rfl⟩
theorem nput (w : World) (n v : Int) : Ret Try.prog 13 [.pointer none, .int .i64 n, .int .i64 v] w (fun x w' => x = .int .i64 1 ∧ w' = w) := by
  refine fn_enter (n := 103) Try.func13 rfl rfl (Nat.le_of_ble_eq_true rfl) (fun e => ?_)
  refine k_seq ?_
  refine k_region ?_
  refine m_int rfl rfl ?_
  refine o_nil ?_
  refine k_seq ?_
  refine k_seq ?_
  refine k_region ?_
  refine m_ptr rfl rfl ?_
  refine b_eqlp Try.underlying24 rfl rfl ?_
  refine m_bool rfl rfl ?_
  refine o_true (t := 12) rfl (rfl) ?_
  refine g_no rfl rfl rfl ?_
  refine g_no rfl rfl rfl ?_
  refine pick_t rfl rfl ?_
  refine m_bool rfl rfl ?_
  refine g_no rfl rfl rfl ?_
  refine g_no rfl rfl rfl ?_
  refine pick_t rfl rfl ?_
  refine o_nil ?_
  refine k_condt rfl ?_
  refine k_seq ?_
  refine k_region ?_
  refine m_int rfl rfl ?_
  refine o_nil ?_
  refine k_ret (ret_tmps (ts := [6]) (v := .int _ _) rfl rfl ?_)
  exact ⟨rfl, rfl⟩
theorem nlen (w : World) : Ret Try.prog 20 [.pointer none] w (fun v w' => v = .int .i64 0 ∧ w' = w) := by
  refine fn_enter (n := 9) Try.func20 rfl rfl (Nat.le_of_ble_eq_true rfl) (fun e => ?_)
  refine k_seq ?_
  refine k_region ?_
  refine m_int rfl rfl ?_
  refine o_nil ?_
  refine k_seq ?_
  refine k_seq ?_
  refine k_region ?_
  refine m_ptr rfl rfl ?_
  refine b_eqlp Try.underlying24 rfl rfl ?_
  refine o_nil ?_
  refine k_yes rfl (rfl) ?_
  refine k_seq ?_
  refine k_region ?_
  refine m_int rfl rfl ?_
  refine o_nil ?_
  refine k_ret (ret_tmps (ts := [2]) (v := .int _ _) rfl rfl ?_)
  exact ⟨rfl, rfl⟩
theorem nwbytes (w : World) : Ret Try.prog 19 [.pointer none] w (fun v w' => v = .slice none 0 0 ∧ w' = w) := by
  refine fn_enter (n := 11) Try.func19 rfl rfl (Nat.le_of_ble_eq_true rfl) (fun e => ?_)
  refine k_seq ?_
  refine k_region ?_
  refine m_sl rfl rfl ?_
  refine o_nil ?_
  refine k_seq ?_
  refine k_seq ?_
  refine k_region ?_
  refine m_ptr rfl rfl ?_
  refine b_eqlp Try.underlying24 rfl rfl ?_
  refine o_nil ?_
  refine k_yes rfl (rfl) ?_
  refine k_seq ?_
  refine k_region ?_
  refine m_sl rfl rfl ?_
  refine o_nil ?_
  refine k_ret (ret_tmps (ts := [2]) (v := .slice _ _ _) rfl rfl ?_)
  exact ⟨rfl, rfl⟩
theorem bitsNil_ok (w : World) (n v : Int) : Ret Try.prog 6 [.int .i64 n, .int .i64 v] w (fun v w' => v = .bool true ∧ Keep [] w w') := by
  refine fn_enter (n := 75) Try.func6 rfl rfl (Nat.le_of_ble_eq_true rfl) (fun e => ?_)
  refine k_seq ?_
  refine k_region ?_
  refine m_bool rfl rfl ?_
  refine o_nil ?_
  refine k_seq ?_
  refine k_seq ?_
  refine k_region ?_
  refine o_call rfl rfl (fixed_ok w) (fun v w1 hv => ?_)
  obtain ⟨rfl, hK1⟩ := hv
  refine u_notb rfl ?_
  refine o_nil ?_
  refine k_condf rfl ?_
  refine k_skip ?_
  refine k_seq ?_
  refine k_region ?_
  refine m_ptr rfl rfl ?_
  refine o_nil ?_
  refine k_seq ?_
  refine k_region ?_
  refine m_ptr rfl rfl ?_
  refine o_nil ?_
  refine k_seq ?_
  refine k_region ?_
  refine m_ptr rfl rfl ?_
  refine o_call rfl rfl (nalign w1) (fun v w2 hv => ?_)
  subst hv
  refine o_nil ?_
  refine k_seq ?_
  refine k_region ?_
  refine m_ptr rfl rfl ?_
  refine o_call rfl rfl (nwalign _) (fun v w3 hv => ?_)
  subst hv
  refine o_nil ?_
  refine k_seq ?_
  refine k_region ?_
  refine m_ptr rfl rfl ?_
  refine o_bsl (E := 5) (cs := #[.int .u8 1, .int .u8 2]) rfl (fun _ => by kernel_rfl) (fun g w4 hB4 hK4 hb4 hZ4 => ?_)
  refine o_call rfl rfl (nwadd _ _ _ _) (fun v w5 hv => ?_)
  subst hv
  refine o_nil ?_
  refine k_seq ?_
  refine k_region ?_
  refine m_ptr rfl rfl ?_
  refine m_int rfl rfl ?_
  refine o_call rfl rfl (ntake _ _) (fun v w6 hv => ?_)
  obtain ⟨rfl, rfl⟩ := hv
  refine m_any rfl rfl ?_
  refine o_extr rfl rfl ?_
  refine o_extr rfl rfl ?_
  refine m_int rfl rfl ?_
  refine m_int rfl rfl ?_
  refine o_nil ?_
  refine k_seq ?_
  refine k_region ?_
  refine m_ptr rfl rfl ?_
  refine m_int rfl rfl ?_
  refine o_call rfl rfl (nbytes _ _) (fun v w7 hv => ?_)
  obtain ⟨rfl, rfl⟩ := hv
  refine m_any rfl rfl ?_
  refine o_extr rfl rfl ?_
  refine o_extr rfl rfl ?_
  refine m_sl rfl rfl ?_
  refine m_int rfl rfl ?_
  refine o_nil ?_
  refine k_seq ?_
  refine k_region ?_
  refine m_int rfl rfl ?_
  refine b_eql rfl rfl ?_
  refine m_bool rfl rfl ?_
  refine o_true (t := 34) rfl (rfl) ?_
  refine g_yes rfl rfl ?_
  refine m_int rfl rfl ?_
  refine g_yes rfl rfl ?_
  refine b_eql rfl rfl ?_
  refine pick_t rfl rfl ?_
  refine m_bool rfl rfl ?_
  refine o_true (t := 38) rfl (rfl) ?_
  refine g_yes rfl rfl ?_
  refine m_sl rfl rfl ?_
  refine g_yes rfl rfl ?_
  refine o_lens Try.underlying25 rfl ?_
  refine g_yes rfl rfl ?_
  refine b_eql rfl rfl ?_
  refine pick_t rfl rfl ?_
  refine m_bool rfl rfl ?_
  refine o_true (t := 43) rfl (rfl) ?_
  refine g_yes rfl rfl ?_
  refine m_int rfl rfl ?_
  refine g_yes rfl rfl ?_
  refine b_eql rfl rfl ?_
  refine pick_t rfl rfl ?_
  refine m_bool rfl rfl ?_
  refine o_true (t := 47) rfl (rfl) ?_
  refine g_yes rfl rfl ?_
  refine m_ptr rfl rfl ?_
  refine g_yes rfl rfl ?_
  refine o_call rfl rfl (nat_ _) (fun v w8 hv => ?_)
  obtain ⟨rfl, rfl⟩ := hv
  refine g_yes rfl rfl ?_
  refine b_eql rfl rfl ?_
  refine pick_t rfl rfl ?_
  refine m_bool rfl rfl ?_
  refine o_true (t := 52) rfl (rfl) ?_
  refine g_yes rfl rfl ?_
  refine m_ptr rfl rfl ?_
  refine g_yes rfl rfl ?_
  refine o_call rfl rfl (nleft _) (fun v w9 hv => ?_)
  obtain ⟨rfl, rfl⟩ := hv
  refine g_yes rfl rfl ?_
  refine b_eql rfl rfl ?_
  refine pick_t rfl rfl ?_
  refine m_bool rfl rfl ?_
  refine o_true (t := 57) rfl (rfl) ?_
  refine g_yes rfl rfl ?_
  refine m_ptr rfl rfl ?_
  refine g_yes rfl rfl ?_
  refine m_int rfl rfl ?_
  refine g_yes rfl rfl ?_
  refine m_int rfl rfl ?_
  refine g_yes rfl rfl ?_
  refine o_call rfl rfl (nput _ _ _) (fun v w10 hv => ?_)
  obtain ⟨rfl, rfl⟩ := hv
  refine g_yes rfl rfl ?_
  refine b_eql rfl rfl ?_
  refine pick_t rfl rfl ?_
  refine m_bool rfl rfl ?_
  refine o_true (t := 64) rfl (rfl) ?_
  refine g_yes rfl rfl ?_
  refine m_ptr rfl rfl ?_
  refine g_yes rfl rfl ?_
  refine o_call rfl rfl (nlen _) (fun v w11 hv => ?_)
  obtain ⟨rfl, rfl⟩ := hv
  refine g_yes rfl rfl ?_
  refine b_eql rfl rfl ?_
  refine pick_t rfl rfl ?_
  refine m_bool rfl rfl ?_
  refine o_true (t := 69) rfl (rfl) ?_
  refine g_yes rfl rfl ?_
  refine m_ptr rfl rfl ?_
  refine g_yes rfl rfl ?_
  refine o_call rfl rfl (nwbytes _) (fun v w12 hv => ?_)
  obtain ⟨rfl, rfl⟩ := hv
  refine g_yes rfl rfl ?_
  refine o_lens Try.underlying25 rfl ?_
  refine g_yes rfl rfl ?_
  refine b_eql rfl rfl ?_
  refine pick_t rfl rfl ?_
  refine m_bool rfl rfl ?_
  refine o_nil ?_
  refine k_ret (ret_tmps (ts := [4]) (v := .bool _) rfl rfl ?_)
  exact ⟨rfl, hK1.tr hK4⟩
end Go.Proofs.Ytpmlhlefhmgpfaa
