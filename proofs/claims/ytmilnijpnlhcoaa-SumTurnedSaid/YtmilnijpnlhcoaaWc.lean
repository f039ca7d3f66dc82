/- The walk of the calls whose answers the document fixes, and of SumBytes. No condition beyond what each contract names. -/
import Derived.Test.YtmilnijpnlhcoaaWb
namespace Go.Proofs.Ytmilnijpnlhcoaa
open Go.RowKit E
set_option linter.unusedVariables false
set_option linter.unusedSimpArgs false
set_option maxRecDepth 100000
attribute [local irreducible] ow qw kw kq cw opW Ret

def l9 : List (BitVec 8) := [49#8, 50#8, 51#8, 52#8, 53#8, 54#8, 55#8, 56#8, 57#8]
theorem crc9 : Crc.add 0 l9 = 3421780262 := by decide +kernel
theorem crcA : Crc.add 0 [97#8] = 3904355907 := by decide +kernel
theorem sumOf_nil : sumOf [] = 0 := rfl
theorem sumOf_one (p : Part) : sumOf [p] = Crc.add 0 p.l := rfl
theorem sum9 (a : Option Addr) (c : Nat) : sumOf [⟨a, c, l9⟩] = 3421780262 := by rw [sumOf_one]; exact crc9
theorem sumA (a : Option Addr) (c : Nat) : sumOf [⟨a, c, [97#8]⟩] = 3904355907 := by rw [sumOf_one]; exact crcA
attribute [local irreducible] sumOf Crc.add

set_option maxHeartbeats 400000 in
theorem fixed_ok (w : World) : Ret Try.prog 8 [] w (fun v w' => v = .bool true ∧ Keep [] w w') := by
  refine fn_enter (n := 30) Try.func8 rfl rfl (Nat.le_of_ble_eq_true rfl) (fun e => ?_)
  refine k_seq ?_
  refine k_region ?_
  refine m_bool rfl rfl ?_
  refine o_nil ?_
  refine k_seq ?_
  refine k_region ?_
  refine o_call rfl rfl (new_ok w) (fun v w1 hv => ?_)
  obtain ⟨tb, rfl, htb, hB, hK⟩ := hv
  refine m_ptr rfl rfl ?_
  refine o_nil ?_
  refine k_seq ?_
  refine k_region ?_
  refine m_ptr rfl rfl ?_
  refine b_neqp Try.underlying24 rfl rfl ?_
  refine m_bool rfl rfl ?_
  refine o_true (t := 5) rfl (by simp) ?_
  refine g_yes rfl rfl ?_
  refine o_bsl (E := 5) (cs := (l9.map u8v).toArray) rfl (fun _ => by kernel_rfl) (fun g2 w2 hB2 hK2 hb2 hZ2 => ?_)
  refine g_yes rfl rfl ?_
  refine o_cbytes Try.underlying22 Try.underlying5 rfl hB2 (fun w3 hR3 hK3 hZ3 => ?_)
  have hk3 := (hK.tr hK2).tr1 hK3 (by have := hK.size; omega)
  refine g_yes rfl rfl ?_
  refine o_bsl (E := 22) (cs := #[.slice (some ⟨g2, 0, none⟩) 9 9]) rfl (fun _ => by kernel_rfl) (fun g4 w4 hB4 hK4 hb4 hZ4 => ?_)
  refine g_yes rfl rfl ?_
  refine o_call (vs := [.slice (some ⟨g4, 0, none⟩) 1 1]) rfl rfl (of_ok w4 (some ⟨g4, 0, none⟩) 1 [⟨some ⟨g2, 0, none⟩, 9, l9⟩] hB4.rd (by intro p hp; simp at hp; subst hp; exact ⟨hR3.new hK4, Nat.le_of_ble_eq_true rfl⟩) (Nat.le_of_ble_eq_true rfl)) (fun v w5 hv => ?_)
  obtain ⟨rfl, hK5⟩ := hv
  have hk5 := (hk3.tr hK4).tr hK5
  refine g_yes rfl rfl ?_
  refine b_eql rfl rfl ?_
  refine pick_t rfl rfl ?_
  refine m_bool rfl rfl ?_
  refine o_true (t := 12) rfl (sum9 _ _) ?_
  refine g_yes rfl rfl ?_
  refine o_call rfl rfl (of_ok w5 none 0 [] (Rd.nil _ _) (by simp) (by decide)) (fun v w6 hv => ?_)
  obtain ⟨rfl, hK6⟩ := hv
  have hk6 := hk5.tr hK6
  refine g_yes rfl rfl ?_
  refine b_eql rfl rfl ?_
  refine pick_t rfl rfl ?_
  refine m_bool rfl rfl ?_
  refine o_true (t := 16) rfl (sumOf_nil) ?_
  refine g_yes rfl rfl ?_
  refine o_bsl (E := 5) (cs := #[.int .u8 97]) rfl (fun _ => by kernel_rfl) (fun g7 w7 hB7 hK7 hb7 hZ7 => ?_)
  refine g_yes rfl rfl ?_
  refine o_cbytes Try.underlying22 Try.underlying5 rfl hB7 (fun w8 hR8 hK8 hZ8 => ?_)
  have hk8 := (hk6.tr hK7).tr1 hK8 (by have := hk6.size; omega)
  refine g_yes rfl rfl ?_
  refine o_bsl (E := 22) (cs := #[.slice (some ⟨g7, 0, none⟩) 1 1]) rfl (fun _ => by kernel_rfl) (fun g9 w9 hB9 hK9 hb9 hZ9 => ?_)
  refine g_yes rfl rfl ?_
  refine o_call rfl rfl (of_ok w9 (some ⟨g9, 0, none⟩) 1 [⟨some ⟨g7, 0, none⟩, 1, [97#8]⟩] hB9.rd (by intro p hp; simp at hp; subst hp; exact ⟨hR8.new hK9, Nat.le_of_ble_eq_true rfl⟩) (Nat.le_of_ble_eq_true rfl)) (fun v w10 hv => ?_)
  obtain ⟨rfl, hK10⟩ := hv
  have hk10 := (hk8.tr hK9).tr hK10
  refine g_yes rfl rfl ?_
  refine b_eql rfl rfl ?_
  refine pick_t rfl rfl ?_
  refine m_bool rfl rfl ?_
  refine o_true (t := 23) rfl (sumA _ _) ?_
  refine g_yes rfl rfl ?_
  refine m_ptr rfl rfl ?_
  refine g_yes rfl rfl ?_
  refine o_bsl (E := 5) (cs := #[.int .u8 97]) rfl (fun _ => by kernel_rfl) (fun g11 w11 hB11 hK11 hb11 hZ11 => ?_)
  refine g_yes rfl rfl ?_
  refine o_cbytes Try.underlying22 Try.underlying5 rfl hB11 (fun w12 hR12 hK12 hZ12 => ?_)
  have hk12 := (hk10.tr hK11).tr1 hK12 (by have := hk10.size; omega)
  have hBt : Blk w12 tb tabCells 42 := by
   have h1 : Keep [] w1 w10 := (((((((hK2.tr1 hK3 (by omega)).tr hK4).tr hK5).tr hK6).tr hK7).tr1 hK8 (by have := hK2.size; have := hK3.size; have := hK4.size; have := hK5.size; have := hK6.size; omega)).tr hK9).tr hK10
   exact hB.keep ((h1.tr hK11).tr1 hK12 (by have := h1.size; omega)) (by simp)
  refine g_yes rfl rfl ?_
  refine o_call rfl rfl (add_ok w12 tb 42 0 (some ⟨g11, 0, none⟩) 1 [97#8] hBt hR12 (by decide)) (fun v w13 hv => ?_)
  obtain ⟨rfl, rfl⟩ := hv
  refine g_yes rfl rfl ?_
  refine b_eql rfl rfl ?_
  refine pick_t rfl rfl ?_
  refine m_bool rfl rfl ?_
  refine o_nil ?_
  refine k_ret (ret_tmps (ts := [0]) (v := .bool _) rfl rfl ?_)
  exact ⟨congrArg Value.bool (decide_eq_true crcA), hk12⟩

end Go.Proofs.Ytmilnijpnlhcoaa
