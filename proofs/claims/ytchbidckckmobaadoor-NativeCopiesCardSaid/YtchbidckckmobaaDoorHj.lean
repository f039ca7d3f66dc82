/- Strings of the heap, plain; SameUnits. No condition beyond what each lemma names. -/
import Derived.Test.YtchbidckckmobaaDoorHg
namespace Go.Proofs.YtchbidckckmobaaDoor
open Go.RowKit E
set_option linter.unusedVariables false
set_option linter.unusedSimpArgs false
set_option maxRecDepth 100000
attribute [local irreducible] ow qw kw kq cw opW Ret
/-- at p there lies a string of the units us -/
def StrAt (ws L : List Int) (p : Int) (us : Us) : Prop := ∃ (q : Nat) (c m : Int), p = q ∧ p ∈ L ∧ openW (ws.getD q 0) = (2, c, (us.length : Int), m, 0) ∧ q + 1 + us.length ≤ ws.length ∧ ∀ i (h : i < us.length), ws.getD (q + 1 + i) 0 = ui (us[i])
theorem getD_app {l t : List Int} {i : Nat} (h : i < l.length) : (l ++ t).getD i 0 = l.getD i 0 := by
  simp [List.getD, List.getElem?_append_left h]
theorem StrAt.app {ws L : List Int} {p : Int} {us : Us} (h : StrAt ws L p us) (t M : List Int) : StrAt (ws ++ t) (L ++ M) p us := by
  obtain ⟨q, c, m, rfl, hp, ho, hl, hu⟩ := h
  refine ⟨q, c, m, rfl, List.mem_append_left _ hp, ?_, by simp; omega, fun i hi => ?_⟩
  · rw [getD_app (by omega)]; exact ho
  · rw [getD_app (by omega)]; exact hu i hi
theorem StrAt.look {ws L : List Int} {p : Int} {us : Us} (h : StrAt ws L p us) : ∃ c, lookH ws L p = (2, c, (us.length : Int), 0) := by
  obtain ⟨q, c, m, rfl, hp, ho, hl, hu⟩ := h
  exact ⟨c, by rw [look_in hp, show (q : Int).toNat = q from by omega, ho]⟩
theorem ui_back (u : BitVec 16) : BitVec.ofInt 16 (ui u) = u := by unfold ui; simp
theorem StrAt.units {ws L : List Int} {p : Int} {us : Us} (h : StrAt ws L p us) : unitsN ws L p = (us, 0) := by
  obtain ⟨c, hk⟩ := h.look
  obtain ⟨q, c', m, rfl, hp, ho, hl, hu⟩ := h
  unfold unitsN
  rw [hk, if_neg (by simp), if_neg (by simp)]
  refine Prod.ext ?_ rfl
  show (List.range ((us.length : Int)).toNat).map _ = us
  refine List.ext_getElem (by simp) fun i h1 h2 => ?_
  simp only [List.getElem_map, List.getElem_range, show (q : Int).toNat = q from by omega]
  rw [hu i h2, ui_back]
theorem StrAt.char {ws L : List Int} {p : Int} {us : Us} (h : StrAt ws L p us) (i : Nat) (hi : i < us.length) : charN ws L p (i : Int) = (ui (us[i]), 0) := by
  obtain ⟨c, hk⟩ := h.look
  obtain ⟨q, c', m, rfl, hp, ho, hl, hu⟩ := h
  unfold charN
  rw [hk, if_neg (by simp), if_neg (by simp; omega)]
  rw [show (q : Int).toNat = q from by omega, show (i : Int).toNat = i from by omega, hu i hi, ui_back]
theorem StrAt.charEnd {ws L : List Int} {p : Int} {us : Us} (h : StrAt ws L p us) (i : Int) (hi : i < 0 ∨ (us.length : Int) ≤ i) : charN ws L p i = (0, 1) := by
  obtain ⟨c, hk⟩ := h.look
  unfold charN
  rw [hk, if_neg (by simp), if_pos (by simp; omega)]
/-- Make, where there is room -/
theorem make_fits {ws L : List Int} {lim cl : Int} {us : Us} (hc : 0 ≤ cl ∧ cl ≤ 65535) (hr : (us.length : Int) < lim - ((ws.length : Int) - 1)) (hn : us.length ≤ 65536) :
    ∃ t M, makeN ws L lim cl us = ((ws.length : Int), 0, ws ++ t, L ++ M) ∧ t.length = us.length + 1 ∧ StrAt (ws ++ t) (L ++ M) (ws.length : Int) us := by
  have hok : hOk 2 cl us.length 0 := ⟨by decide, by decide, hc.1, hc.2, by omega, by omega, fun _ => rfl, fun h => by cases h⟩
  have hh := head_yes hok
  have hlay : (layH ws L lim 2 cl us.length 0).2.1 = 0 := by
    unfold layH
    rw [if_neg (by omega), if_neg (by omega), hh, if_neg (by simp)]
  refine ⟨(headW 2 cl us.length 0).1 :: us.map ui, [(ws.length : Int)], ?_, by simp, ⟨ws.length, cl, 0, rfl, by simp, ?_, by simp; omega, fun i hi => ?_⟩⟩
  · unfold makeN
    rw [if_neg (by simp [hlay])]
  · have : (ws ++ (headW 2 cl us.length 0).1 :: us.map ui).getD ws.length 0 = (headW 2 cl us.length 0).1 := by simp [List.getD]
    rw [this, hh]
    exact open_head 2 cl us.length 0 hok
  · simp only [List.getD]
    rw [List.getElem?_append_right (by omega), show ws.length + 1 + i - ws.length = i + 1 from by omega, List.getElem?_cons_succ, List.getElem?_map, List.getElem?_eq_getElem hi]
    rfl
theorem conc_fits {ws L : List Int} {lim cl p q : Int} {us vs : Us} (h1 : StrAt ws L p us) (h2 : StrAt ws L q vs) (hc : 0 ≤ cl ∧ cl ≤ 65535) (hr : ((us ++ vs).length : Int) < lim - ((ws.length : Int) - 1)) (hn : (us ++ vs).length ≤ 65536) :
    ∃ t M, concN ws L lim cl p q = ((ws.length : Int), 0, ws ++ t, L ++ M) ∧ t.length = (us ++ vs).length + 1 ∧ StrAt (ws ++ t) (L ++ M) (ws.length : Int) (us ++ vs) := by
  have := make_fits (ws := ws) (L := L) (lim := lim) (cl := cl) hc hr hn
  unfold concN
  rw [h1.units, h2.units, if_neg (by simp), if_neg (by simp)]
  exact this
theorem equ_str {ws L : List Int} {p q : Int} {us vs : Us} (h1 : StrAt ws L p us) (h2 : StrAt ws L q vs) : equN ws L p q = decide (us = vs) := by
  unfold equN
  rw [h1.units, h2.units]
  simp
theorem sameu_ok (w : World) (a1 a2 : Option Addr) (c1 c2 : Nat) (us vs : Us) (hR1 : Rd w a1 (us.map u16v)) (hR2 : Rd w a2 (vs.map u16v)) (hu : us.length ≤ 9223372036854775807) (hv : vs.length ≤ 9223372036854775807) :
    Ret Tryd.prog 49 [.slice a1 us.length c1, .slice a2 vs.length c2] w (fun v w' => v = .bool (decide (us = vs)) ∧ Keep [] w w') := by
  refine fn_enter (n := 26) Tryd.func49 rfl rfl (Nat.le_of_ble_eq_true rfl) (fun e => ?_)
  refine k_seq ?_
  refine k_region ?_
  refine m_bool rfl rfl ?_
  refine o_nil ?_
  refine k_seq ?_
  refine k_seq ?_
  refine k_region ?_
  refine m_sl rfl rfl ?_
  refine o_lens Tryd.underlying77 rfl ?_
  refine m_sl rfl rfl ?_
  refine o_lens Tryd.underlying77 rfl ?_
  refine b_neq rfl rfl ?_
  refine o_nil ?_
  refine k_cond rfl (fun h => ?_) (fun h => ?_)
  ·
    refine k_seq ?_
    refine k_region ?_
    refine m_bool rfl rfl ?_
    refine o_nil ?_
    refine k_ret (ret_tmps (ts := [4]) (v := .bool _) rfl rfl ?_)
    exact ⟨congrArg Value.bool (decide_eq_false (fun hh => h (by rw [hh]))).symm, Keep.refl _ _⟩
  have hlen : us.length = vs.length := by omega
  refine k_skip ?_
  refine k_seq ?_
  refine k_seq ?_
  refine k_region ?_
  refine m_int rfl rfl ?_
  refine o_nil ?_
  refine k_block ?_
  refine k_loop (σ := Nat) (fun i => [(0, .slice a1 us.length c1), (1, .slice a2 vs.length c2), (5, .int .i64 (i : Int))]) (fun i w' => i ≤ us.length ∧ (∀ j, j < i → us[j]? = vs[j]?) ∧ Keep [] w w') (fun i => us.length - i) 0 ⟨rfl, rfl, rfl, trivial⟩ ⟨Nat.zero_le _, (fun j hj => by omega), Keep.refl _ _⟩ (fun i e w3 hJ => ?_)
  obtain ⟨hi, hpre, hK3⟩ := hJ
  refine k_seq ?_
  refine k_seq ?_
  refine k_region ?_
  refine m_int rfl rfl ?_
  refine m_sl rfl rfl ?_
  refine o_lens Tryd.underlying77 rfl ?_
  refine b_lss rfl rfl ?_
  refine o_nil ?_
  refine k_cond rfl (fun h => ?_) (fun h => ?_)
  rotate_left
  ·
    refine k_exit rfl ?_
    refine k_seq ?_
    refine k_region ?_
    refine m_bool rfl rfl ?_
    refine o_nil ?_
    refine k_ret (ret_tmps (ts := [4]) (v := .bool _) rfl rfl ?_)
    refine ⟨congrArg Value.bool (decide_eq_true ?_).symm, hK3⟩
    refine List.ext_getElem? fun j => ?_
    by_cases hj : j < us.length
    · exact hpre j (by omega)
    · rw [List.getElem?_eq_none (by omega), List.getElem?_eq_none (by omega)]
  have hin : i < us.length := by omega
  have hx := u16_at us i hin
  have hy := u16_at vs i (by omega)
  obtain ⟨b1, o1, hae, _⟩ := hR1 _ _ hx
  obtain ⟨b2, o2, hbe, _⟩ := hR2 _ _ hy
  subst hae hbe
  refine k_skip ?_
  refine k_seq ?_
  refine k_block ?_
  refine k_seq ?_
  refine k_qk 8 rfl rfl rfl rfl rfl ?_
  refine q_step (fun w1 hC => m_sl rfl rfl (o_nil ⟨rfl, hC⟩)) ?_
  refine q_step (fun w1 hC => m_int rfl rfl (o_nil ⟨rfl, hC⟩)) ?_
  refine q_step (fun w1 hC => o_ixs1 Tryd.underlying77 rfl rfl rfl hin (o_nil ⟨rfl, hC⟩)) ?_
  refine q_step (fun w1 hC => o_ld rfl rfl (hR1.cellK (hK3.tr hC) hx) (o_nil ⟨rfl, hC⟩)) ?_
  refine q_step (fun w1 hC => m_sl rfl rfl (o_nil ⟨rfl, hC⟩)) ?_
  refine q_step (fun w1 hC => m_int rfl rfl (o_nil ⟨rfl, hC⟩)) ?_
  refine q_step (fun w1 hC => o_ixs1 Tryd.underlying77 rfl rfl rfl (by omega) (o_nil ⟨rfl, hC⟩)) ?_
  refine q_step (fun w1 hC => o_ld rfl rfl (hR2.cellK (hK3.tr hC) hy) (o_nil ⟨rfl, hC⟩)) ?_
  refine q_nil ?_
  intro w4 hC4
  refine v16_neq rfl rfl ?_
  refine o_nil ?_
  refine k_cond rfl (fun h => ?_) (fun h => ?_)
  ·
    refine k_seq ?_
    refine k_region ?_
    refine m_bool rfl rfl ?_
    refine o_nil ?_
    refine k_ret (ret_tmps (ts := [4]) (v := .bool _) rfl rfl ?_)
    refine ⟨congrArg Value.bool (decide_eq_false (fun hh => h ?_)).symm, hK3.tr hC4⟩
    subst hh
    rfl
  refine k_skip ?_
  refine k_blk ?_
  refine k_region ?_
  refine m_int rfl rfl ?_
  refine n_add rfl rfl (by omega) ?_
  refine m_int rfl rfl ?_
  refine o_nil ?_
  refine k_goal ⟨i + 1, ⟨rfl, rfl, rfl, trivial⟩, ⟨by omega, fun j hj => ?_, hK3.tr hC4⟩, by omega⟩
  by_cases hji : j = i
  · rw [hji, List.getElem?_eq_getElem hin, List.getElem?_eq_getElem (by omega)]
    exact congrArg some (Decidable.of_not_not h)
  · exact hpre j (by omega)
end Go.Proofs.YtchbidckckmobaaDoor
