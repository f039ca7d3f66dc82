/- law24.fixed. No condition beyond what each contract names. -/
import Derived.Test.YtchbidckckmobaaDoorHf
namespace Go.Proofs.YtchbidckckmobaaDoor
open Go.RowKit E
set_option linter.unusedVariables false
set_option linter.unusedSimpArgs false
set_option maxRecDepth 100000
attribute [local irreducible] ow qw kw kq cw opW Ret
theorem fx1 : makeN [0] [] 50 1 [97#16, 98#16] = (1, 0, [0, 524294, 97, 98], [1]) := by decide
theorem fx2 : makeN [0, 524294, 97, 98] [1] 50 1 [99#16] = (4, 0, [0, 524294, 97, 98, 262150, 99], [1, 4]) := by decide
theorem fx3 : concN [0, 524294, 97, 98, 262150, 99] [1, 4] 50 1 1 4 = (6, 0, [0, 524294, 97, 98, 262150, 99, 786438, 97, 98, 99], [1, 4, 6]) := by decide
theorem fx4 : unitsN [0, 524294, 97, 98, 262150, 99, 786438, 97, 98, 99] [1, 4, 6] 6 = ([97#16, 98#16, 99#16], 0) := by decide
theorem fx5 : charN [0, 524294, 97, 98, 262150, 99, 786438, 97, 98, 99] [1, 4, 6] 6 1 = (98, 0) := by decide
theorem fx6 : charN [0, 524294, 97, 98, 262150, 99, 786438, 97, 98, 99] [1, 4, 6] 6 3 = (0, 1) := by decide
theorem digs_lt {u : Nat} (h : u < 10) : Lib.decDigits u = [UInt8.ofNat (48 + u)] := by rw [Lib.decDigits, dif_pos h]
theorem digs_ge {u : Nat} (h : ¬ u < 10) : Lib.decDigits u = Lib.decDigits (u / 10) ++ [UInt8.ofNat (48 + u % 10)] := by rw [Lib.decDigits, dif_neg h]
theorem fx7 : Value.string ⟨#[45, 57, 50, 50, 51, 51, 55, 50, 48, 51, 54, 56, 53, 52, 55, 55, 53, 56, 48, 56]⟩ = .string ⟨(Lib.itoa (-9223372036854775808)).toArray⟩ := by
  have e : Lib.itoa (-9223372036854775808) = [45, 57, 50, 50, 51, 51, 55, 50, 48, 51, 54, 56, 53, 52, 55, 55, 53, 56, 48, 56] := by
    show (if (-9223372036854775808 : Int) < 0 then 45 :: Lib.decDigits 9223372036854775808 else _) = _
    rw [if_pos (by decide)]
    repeat rw [digs_ge (by decide)]
    rw [digs_lt (by decide)]
    rfl
  rw [e]
theorem fx8 : Value.string ⟨#[48]⟩ = .string ⟨(Lib.itoa 0).toArray⟩ := by
  have e : Lib.itoa 0 = [48] := by
    show (if (0 : Int) < 0 then _ else Lib.decDigits 0) = _
    rw [if_neg (by decide), digs_lt (by decide)]
    rfl
  rw [e]
theorem fixed24_ok (w : World) (ht : Tab10 w) : Ret Tryd.prog 42 [] w (fun v w' => v = .bool true ∧ Keep [] w w') := by
  refine fn_enter (n := 103) Tryd.func42 rfl rfl (Nat.le_of_ble_eq_true rfl) (fun e => ?_)
  refine k_seq ?_
  refine k_region ?_
  refine m_bool rfl rfl ?_
  refine o_nil ?_
  refine k_seq ?_
  refine k_region ?_
  refine o_call rfl rfl (hnew_ok w 50) (fun v w1 hv => ?_)
  obtain ⟨hK1, hv⟩ := hv
  rw [if_pos (by decide)] at hv
  obtain ⟨hb, rfl, hH1⟩ := hv
  refine m_any rfl rfl ?_
  refine o_extr rfl rfl ?_
  refine o_extr rfl rfl ?_
  refine m_ptr rfl rfl ?_
  refine m_int rfl rfl ?_
  refine o_nil ?_
  refine k_seq ?_
  refine k_seq ?_
  refine k_region ?_
  refine m_ptr rfl rfl ?_
  refine b_eqlp Tryd.underlying41 rfl rfl ?_
  refine o_nil ?_
  refine k_no rfl ((by intro h; cases h)) ?_
  refine k_skip ?_
  refine k_seq ?_
  refine k_region ?_
  refine m_ptr rfl rfl ?_
  refine o_bsl (E := 47) (cs := #[u16v 97#16, u16v 98#16]) rfl (fun _ => by kernel_rfl) (fun g2 w2 hB2 hK2 hb2 hZ2 => ?_)
  have hS2 : Sl w2 47 1 (some ⟨g2, 0, none⟩) 2 2 (([97#16, 98#16] : Us).map u16v) := hB2.sl (len := 2) (sz := 1) rfl (by decide)
  refine o_call rfl rfl (make_ok w.heap.size w2 hb [0] 50 [] 1 (some ⟨g2, 0, none⟩) 2 [97#16, 98#16] (hH1.new hK2) WFH.one (by decide) (by decide) (by have := hK1.size; have := hK2.size; omega) (by decide) hS2.rd (by decide) (fun w' hk' => (hS2.kh hk' (by decide)).rd)) (fun v w3 hv => ?_)
  rw [fx1] at hv
  obtain ⟨rfl, hH3, hW3, hu3, hKH3⟩ := hv
  dsimp only at hH3 hW3 hu3 ⊢
  refine m_any rfl rfl ?_
  refine o_extr rfl rfl ?_
  refine o_extr rfl rfl ?_
  refine m_int rfl rfl ?_
  refine m_int rfl rfl ?_
  refine o_nil ?_
  refine k_seq ?_
  refine k_region ?_
  refine m_ptr rfl rfl ?_
  refine o_bsl (E := 47) (cs := #[u16v 99#16]) rfl (fun _ => by kernel_rfl) (fun g4 w4 hB4 hK4 hb4 hZ4 => ?_)
  have hS4 : Sl w4 47 1 (some ⟨g4, 0, none⟩) 1 1 (([99#16] : Us).map u16v) := hB4.sl (len := 1) (sz := 1) rfl (by decide)
  have hz4 : w.heap.size ≤ w4.heap.size := by have := hK1.size; have := hK2.size; have := hKH3.size; have := hK4.size; omega
  refine o_call rfl rfl (make_ok w.heap.size w4 hb [0, 524294, 97, 98] 50 [1] 1 (some ⟨g4, 0, none⟩) 1 [99#16] (hH3.new hK4) hW3 (by decide) (by decide) hz4 (by decide) hS4.rd (by decide) (fun w' hk' => (hS4.kh hk' (by decide)).rd)) (fun v w5 hv => ?_)
  rw [fx2] at hv
  obtain ⟨rfl, hH5, hW5, hu5, hKH5⟩ := hv
  dsimp only at hH5 hW5 hu5 ⊢
  refine m_any rfl rfl ?_
  refine o_extr rfl rfl ?_
  refine o_extr rfl rfl ?_
  refine m_int rfl rfl ?_
  refine m_int rfl rfl ?_
  refine o_nil ?_
  refine k_seq ?_
  refine k_region ?_
  refine m_ptr rfl rfl ?_
  refine m_int rfl rfl ?_
  refine m_int rfl rfl ?_
  refine o_call rfl rfl (conc_ok w.heap.size w5 hb _ 50 _ 1 1 4 hH5 hW5 (by decide) (by decide) (by have := hKH5.size; omega) (by decide)) (fun v w6 hv => ?_)
  rw [fx3] at hv
  obtain ⟨rfl, hH6, hW6, hu6, hKH6⟩ := hv
  dsimp only at hH6 hW6 hu6 ⊢
  refine m_any rfl rfl ?_
  refine o_extr rfl rfl ?_
  refine o_extr rfl rfl ?_
  refine m_int rfl rfl ?_
  refine m_int rfl rfl ?_
  refine o_nil ?_
  refine k_seq ?_
  refine k_region ?_
  refine m_ptr rfl rfl ?_
  refine m_int rfl rfl ?_
  refine o_call rfl rfl (units_ok w.heap.size w6 hb _ 50 _ 6 hH6 hW6) (fun v w7 hv => ?_)
  rw [fx4] at hv
  obtain ⟨⟨a7, c7, rfl, hS7, hf7⟩, hK7⟩ := hv
  dsimp only at hS7 ⊢
  refine m_any rfl rfl ?_
  refine o_extr rfl rfl ?_
  refine o_extr rfl rfl ?_
  refine m_sl rfl rfl ?_
  refine m_int rfl rfl ?_
  refine o_nil ?_
  refine k_seq ?_
  refine k_region ?_
  refine m_ptr rfl rfl ?_
  refine m_int rfl rfl ?_
  refine o_call rfl rfl (char_ok w.heap.size w7 hb _ 50 _ 6 1 (hH6.new hK7) hW6) (fun v w8 hv => ?_)
  rw [fx5] at hv
  obtain ⟨rfl, rfl⟩ := hv
  dsimp only
  refine m_any rfl rfl ?_
  refine o_extr rfl rfl ?_
  refine o_extr rfl rfl ?_
  refine m_int rfl rfl ?_
  refine m_int rfl rfl ?_
  refine o_nil ?_
  refine k_seq ?_
  refine k_region ?_
  refine m_ptr rfl rfl ?_
  refine m_int rfl rfl ?_
  refine o_call rfl rfl (char_ok w.heap.size w8 hb _ 50 _ 6 3 (hH6.new hK7) hW6) (fun v w9 hv => ?_)
  rw [fx6] at hv
  obtain ⟨rfl, rfl⟩ := hv
  have hK : Keep [] w w9 := ((((hK2.h (k := w.heap.size)).tr hKH3).tr hK4.h).tr (hKH5.tr hKH6) |>.below hK1 (Nat.le_refl _)).tr hK7
  have hR7 := hS7.rd
  obtain ⟨b7, o7, ha7, _⟩ := hR7 2 _ (u16_at _ 2 (by decide))
  subst ha7
  dsimp only
  refine m_any rfl rfl ?_
  refine o_extr rfl rfl ?_
  refine o_extr rfl rfl ?_
  refine m_int rfl rfl ?_
  refine m_int rfl rfl ?_
  refine o_nil ?_
  refine k_seq ?_
  refine k_region ?_
  refine m_int rfl rfl ?_
  refine b_eql rfl rfl ?_
  refine m_bool rfl rfl ?_
  refine o_true (t := 60) rfl (rfl) ?_
  refine g_yes rfl rfl ?_
  refine m_int rfl rfl ?_
  refine g_yes rfl rfl ?_
  refine b_eql rfl rfl ?_
  refine pick_t rfl rfl ?_
  refine m_bool rfl rfl ?_
  refine o_true (t := 64) rfl (rfl) ?_
  refine g_yes rfl rfl ?_
  refine m_int rfl rfl ?_
  refine g_yes rfl rfl ?_
  refine b_eql rfl rfl ?_
  refine pick_t rfl rfl ?_
  refine m_bool rfl rfl ?_
  refine o_true (t := 68) rfl (rfl) ?_
  refine g_yes rfl rfl ?_
  refine m_int rfl rfl ?_
  refine g_yes rfl rfl ?_
  refine b_eql rfl rfl ?_
  refine pick_t rfl rfl ?_
  refine m_bool rfl rfl ?_
  refine o_true (t := 72) rfl (rfl) ?_
  refine g_yes rfl rfl ?_
  refine m_sl rfl rfl ?_
  refine g_yes rfl rfl ?_
  refine o_lens Tryd.underlying77 rfl ?_
  refine g_yes rfl rfl ?_
  refine b_eql rfl rfl ?_
  refine pick_t rfl rfl ?_
  refine m_bool rfl rfl ?_
  refine o_true (t := 77) rfl (rfl) ?_
  refine g_yes rfl rfl ?_
  refine m_sl rfl rfl ?_
  refine g_yes rfl rfl ?_
  refine o_ixs1 (m := 2) Tryd.underlying77 rfl rfl rfl (by decide) ?_
  refine g_yes rfl rfl ?_
  refine o_ld rfl rfl (hR7.cellK (Keep.refl _ _) (u16_at _ 2 (by decide))) ?_
  refine g_yes rfl rfl ?_
  refine v16_eql (b := 99#16) rfl rfl ?_
  refine pick_t rfl rfl ?_
  refine m_bool rfl rfl ?_
  refine o_true (t := 83) rfl (rfl) ?_
  refine g_yes rfl rfl ?_
  refine m_int rfl rfl ?_
  refine g_yes rfl rfl ?_
  refine b_eql rfl rfl ?_
  refine pick_t rfl rfl ?_
  refine m_bool rfl rfl ?_
  refine o_true (t := 87) rfl (rfl) ?_
  refine g_yes rfl rfl ?_
  refine m_int rfl rfl ?_
  refine g_yes rfl rfl ?_
  refine b_eql rfl rfl ?_
  refine pick_t rfl rfl ?_
  refine m_bool rfl rfl ?_
  refine o_true (t := 91) rfl (rfl) ?_
  refine g_yes rfl rfl ?_
  refine m_int rfl rfl ?_
  refine g_yes rfl rfl ?_
  refine b_eql rfl rfl ?_
  refine pick_t rfl rfl ?_
  refine m_bool rfl rfl ?_
  refine o_true (t := 95) rfl (rfl) ?_
  refine g_yes rfl rfl ?_
  refine o_call rfl rfl (digits_ok w9 (-9223372036854775808) (by decide) (by decide) (ht.new hK)) (fun v w10 hv => ?_)
  obtain ⟨rfl, hK10⟩ := hv
  refine g_yes rfl rfl ?_
  refine b_eqlstr (a := ⟨(Lib.itoa (-9223372036854775808)).toArray⟩) (b := ⟨(Lib.itoa (-9223372036854775808)).toArray⟩) Tryd.underlying9 rfl fx7 ?_
  refine pick_t rfl rfl ?_
  refine m_bool rfl rfl ?_
  refine o_true (t := 99) rfl (rfl) ?_
  refine g_yes rfl rfl ?_
  refine o_call rfl rfl (digits_ok w10 0 (by decide) (by decide) ((ht.new hK).new hK10)) (fun v w11 hv => ?_)
  obtain ⟨rfl, hK11⟩ := hv
  refine g_yes rfl rfl ?_
  refine b_eqlstr (a := ⟨(Lib.itoa 0).toArray⟩) (b := ⟨(Lib.itoa 0).toArray⟩) Tryd.underlying9 rfl fx8 ?_
  refine pick_t rfl rfl ?_
  refine m_bool rfl rfl ?_
  refine o_nil ?_
  refine k_ret (ret_tmps (ts := [0]) (v := .bool _) rfl rfl ?_)
  exact ⟨congrArg Value.bool (decide_eq_true rfl), (hK.tr hK10).tr hK11⟩
end Go.Proofs.YtchbidckckmobaaDoor
