/- The heap's Get and Set. No condition beyond what each contract names. -/
import Derived.Test.YtchbidckckmobaaDoorHc
namespace Go.Proofs.YtchbidckckmobaaDoor
open Go.RowKit E
set_option linter.unusedVariables false
set_option linter.unusedSimpArgs false
set_option maxRecDepth 100000
attribute [local irreducible] ow qw kw kq cw opW Ret
theorem cell_e {ws L : List Int} {p i : Int} (hW : WFH ws L) (h : (cellH ws L p i).2.2 = 0) : ∃ (q j : Nat) (hq : q < ws.length), p = q ∧ i = j ∧ (q : Int) ∈ L ∧ (openW (ws[q])).2.2.2.2 = 0 ∧ (j : Int) < (openW (ws[q])).2.2.1 ∧ q + 1 + j < ws.length ∧ cellH ws L p i = (((q + 1 + j : Nat) : Int), refB (openW (ws[q])).1 (openW (ws[q])).2.2.2.1 j, 0) := by
  by_cases he : (lookH ws L p).2.2.2 = 0
  · have hp := (look_e hW).1 he
    obtain ⟨q, hq, hpq, hq1, hq0, hqn⟩ := hW.at hp
    subst hpq
    have hgd : ws.getD (q : Int).toNat 0 = ws[q] := getD_get ws q hq
    by_cases hi : i < 0 ∨ (lookH ws L q).2.2.1 ≤ i
    · unfold cellH at h
      rw [if_neg (by simpa using he), if_pos hi] at h
      cases h
    · have hln : (lookH ws L q).2.2.1 = (openW (ws[q])).2.2.1 := by rw [look_in hp, hgd]
      rw [hln] at hi
      obtain ⟨j, hj⟩ : ∃ j : Nat, i = (j : Int) := ⟨i.toNat, by omega⟩
      subst hj
      refine ⟨q, j, hq, rfl, rfl, hp, hq0, by omega, by omega, ?_⟩
      unfold cellH
      rw [if_neg (by simpa using he), hln, if_neg hi, hgd]
      rfl
  · unfold cellH at h
    rw [if_pos he] at h
    exact absurd h he
def getH (ws L : List Int) (p i : Int) : Int × Int := if (cellH ws L p i).2.2 ≠ 0 then (0, (cellH ws L p i).2.2) else (ws.getD (cellH ws L p i).1.toNat 0, 0)
theorem get_ok (k : Nat) (w : World) (hb : Nat) (ws : List Int) (lim : Int) (L : List Int) (p i : Int) (h : HP k w hb ws lim L) (hW : WFH ws L) :
    Ret Tryd.prog 32 [.pointer (some ⟨hb, 0, none⟩), .int .i64 p, .int .i64 i] w (fun v w' => v = .tuple #[.int .i64 (getH ws L p i).1, .int .i64 (getH ws L p i).2] ∧ w' = w) := by
  have hHP := h
  obtain ⟨a, c, r, m, hB, hS, hM, hg, hk⟩ := h
  refine fn_enter (n := 29) Tryd.func32 rfl rfl (Nat.le_of_ble_eq_true rfl) (fun e => ?_)
  refine k_seq ?_
  refine k_region ?_
  refine m_int rfl rfl ?_
  refine m_int rfl rfl ?_
  refine o_nil ?_
  refine k_seq ?_
  refine k_region ?_
  refine m_ptr rfl rfl ?_
  refine m_int rfl rfl ?_
  refine m_int rfl rfl ?_
  refine o_call rfl rfl (cell_ok k w hb ws lim L p i hHP hW) (fun v w1 hv => ?_)
  obtain ⟨rfl, rfl⟩ := hv
  refine m_any rfl rfl ?_
  refine o_extr rfl rfl ?_
  refine o_extr rfl rfl ?_
  refine o_extr rfl rfl ?_
  refine m_int rfl rfl ?_
  refine m_bool rfl rfl ?_
  refine m_int rfl rfl ?_
  refine o_nil ?_
  refine k_seq ?_
  refine k_seq ?_
  refine k_region ?_
  refine m_int rfl rfl ?_
  refine b_neq rfl rfl ?_
  refine o_nil ?_
  refine k_cond rfl (fun h => ?_) (fun h => ?_)
  ·
    refine k_seq ?_
    refine k_region ?_
    refine m_int rfl rfl ?_
    refine m_int rfl rfl ?_
    refine m_int rfl rfl ?_
    refine o_nil ?_
    refine k_ret (ret_tmps (ts := [6, 7]) (v := .tuple #[.int _ _, .int _ _]) rfl rfl ?_)
    unfold getH; rw [if_pos h]; exact ⟨rfl, rfl⟩
  have h0 := Decidable.of_not_not h
  obtain ⟨q, j, hq, rfl, rfl, hqL, hq0, hjn, hin, hcell⟩ := cell_e hW h0
  have hx := iv_at ws (q + 1 + j) hin
  have hRS := hS.rd
  obtain ⟨b1, o1, hae, hc1⟩ := hRS _ _ hx
  subst hae
  rw [hcell]
  refine k_skip ?_
  refine k_seq ?_
  refine k_region ?_
  refine m_ptr rfl rfl ?_
  refine o_nilc rfl ?_
  refine o_fld0 rfl rfl ?_
  refine o_ld (v := .slice (some ⟨b1, o1, none⟩) ws.length c) rfl rfl (hB.at rfl) ?_
  refine m_int rfl rfl ?_
  refine o_ixs1 (m := q + 1 + j) Tryd.underlying22 rfl rfl rfl hin ?_
  refine o_ld (v := iv (ws[q + 1 + j])) rfl rfl hc1 ?_
  refine m_int rfl rfl ?_
  refine m_int rfl rfl ?_
  refine o_nil ?_
  refine k_ret (ret_tmps (ts := [6, 7]) (v := .tuple #[.int _ _, .int _ _]) rfl rfl ?_)
  refine ⟨?_, rfl⟩
  unfold getH
  rw [hcell, if_neg (fun hh => hh rfl)]
  show _ = Value.tuple #[.int .i64 (ws.getD (q + 1 + j) 0), .int .i64 0]
  rw [getD_get ws _ hin]
def setH (ws L : List Int) (p i v : Int) : Int × List Int :=
  if (cellH ws L p i).2.2 ≠ 0 then ((cellH ws L p i).2.2, ws)
  else if (cellH ws L p i).2.1 = true ∧ v ≠ 0 ∧ v ∉ L then (1, ws)
  else (0, ws.set (cellH ws L p i).1.toNat v)
theorem set_ok (k : Nat) (w : World) (hb : Nat) (ws : List Int) (lim : Int) (L : List Int) (p i x : Int) (h : HP k w hb ws lim L) (hW : WFH ws L) (hu : (ws.length : Int) ≤ lim + 1) (hx : -9223372036854775808 ≤ x ∧ x ≤ 9223372036854775807) :
    Ret Tryd.prog 30 [.pointer (some ⟨hb, 0, none⟩), .int .i64 p, .int .i64 i, .int .i64 x] w (fun v w' => v = .int .i64 (setH ws L p i x).1 ∧ HRes k w hb lim w' (setH ws L p i x).2 L) := by
  have hHP := h
  obtain ⟨a, c, r, m, hB, hS, hM, hg, hk1, hk2, hk3⟩ := h
  refine fn_enter (n := 44) Tryd.func30 rfl rfl (Nat.le_of_ble_eq_true rfl) (fun e => ?_)
  refine k_seq ?_
  refine k_region ?_
  refine m_int rfl rfl ?_
  refine o_nil ?_
  refine k_seq ?_
  refine k_region ?_
  refine m_ptr rfl rfl ?_
  refine m_int rfl rfl ?_
  refine m_int rfl rfl ?_
  refine o_call rfl rfl (cell_ok k w hb ws lim L p i hHP hW) (fun v w1 hv => ?_)
  obtain ⟨rfl, rfl⟩ := hv
  refine m_any rfl rfl ?_
  refine o_extr rfl rfl ?_
  refine o_extr rfl rfl ?_
  refine o_extr rfl rfl ?_
  refine m_int rfl rfl ?_
  refine m_bool rfl rfl ?_
  refine m_int rfl rfl ?_
  refine o_nil ?_
  refine k_seq ?_
  refine k_seq ?_
  refine k_region ?_
  refine m_int rfl rfl ?_
  refine b_neq rfl rfl ?_
  refine o_nil ?_
  refine k_cond rfl (fun h => ?_) (fun h => ?_)
  ·
    refine k_seq ?_
    refine k_region ?_
    refine m_int rfl rfl ?_
    refine m_int rfl rfl ?_
    refine o_nil ?_
    refine k_ret (ret_tmps (ts := [8]) (v := .int _ _) rfl rfl ?_)
    have e : setH ws L p i x = ((cellH ws L p i).2.2, ws) := if_pos h
    rw [e]; exact ⟨rfl, hHP, hW, hu, (Keep.refl [] _).h⟩
  have h0 := Decidable.of_not_not h
  obtain ⟨rf, hrf⟩ : ∃ rf, (cellH ws L p i).2.1 = rf := ⟨_, rfl⟩
  rw [hrf]
  refine k_skip ?_
  refine k_seq ?_
  refine k_seq ?_
  refine k_cut (σ := Unit) (fun s => [(0, .pointer (some ⟨hb, 0, none⟩)), (3, .int .i64 x), (9, .int .i64 (cellH ws L p i).1), (36, .bool (decide (rf = true ∧ x ≠ 0 ∧ x ∉ L)))]) (fun s w' => w' = w1) ?_ (fun s e w' hJ => ?_)
  ·
    refine k_region ?_
    refine m_bool rfl rfl ?_
    refine m_bool rfl rfl ?_
    refine o_split (t := 24) (p := rf = true) (by show Value.bool rf = _; cases rf <;> rfl) (fun h => ?_) (fun h => ?_)
    ·
      have h24 := h
      refine g_yes rfl rfl ?_
      refine m_int rfl rfl ?_
      refine g_yes rfl rfl ?_
      refine b_neq rfl rfl ?_
      refine pick_t rfl rfl ?_
      refine m_bool rfl rfl ?_
      refine o_split (t := 28) rfl (fun h => ?_) (fun h => ?_)
      ·
        have h28 := h
        refine g_yes rfl rfl ?_
        refine m_ptr rfl rfl ?_
        refine g_yes rfl rfl ?_
        refine o_nilc rfl ?_
        refine g_yes rfl rfl ?_
        refine o_fld (off := 2) rfl rfl ?_
        refine g_yes rfl rfl ?_
        refine o_ld (v := .map (some r)) rfl rfl (hB.at rfl) ?_
        refine g_yes rfl rfl ?_
        refine m_int rfl rfl ?_
        refine g_yes rfl rfl ?_
        refine o_look (kv := Value.int .i64) (q := x) (v := .bool (decide (x ∈ L))) Tryd.underlying104 (key_int Tryd.underlying2) inf4 rfl rfl hM (by rw [hg x]; by_cases hp : x ∈ L <;> simp [hp]) ?_
        refine g_yes rfl rfl ?_
        refine u_not rfl ?_
        refine pick_t rfl rfl ?_
        refine o_nil ?_
        refine k_goal ⟨(), ⟨rfl, rfl, rfl, congrArg Value.bool (decide_eq_decide.2 ⟨fun hh => ⟨h24, h28, hh⟩, fun hh => hh.2.2⟩), trivial⟩, rfl⟩
      ·
        have h28 := h
        refine g_no rfl rfl rfl ?_
        refine g_no rfl rfl rfl ?_
        refine g_no rfl rfl rfl ?_
        refine g_no rfl rfl rfl ?_
        refine g_no rfl rfl rfl ?_
        refine g_no rfl rfl rfl ?_
        refine g_no rfl rfl rfl ?_
        refine pick_f rfl rfl ?_
        refine o_nil ?_
        refine k_goal ⟨(), ⟨rfl, rfl, rfl, congrArg Value.bool (decide_eq_false (fun hh => h28 hh.2.1)).symm, trivial⟩, rfl⟩
    ·
      have h24 := h
      refine g_no rfl rfl rfl ?_
      refine g_no rfl rfl rfl ?_
      refine pick_f rfl rfl ?_
      refine m_bool rfl rfl ?_
      refine g_no rfl rfl rfl ?_
      refine g_no rfl rfl rfl ?_
      refine g_no rfl rfl rfl ?_
      refine g_no rfl rfl rfl ?_
      refine g_no rfl rfl rfl ?_
      refine g_no rfl rfl rfl ?_
      refine g_no rfl rfl rfl ?_
      refine pick_f rfl rfl ?_
      refine o_nil ?_
      refine k_goal ⟨(), ⟨rfl, rfl, rfl, congrArg Value.bool (decide_eq_false (fun hh => h24 hh.1)).symm, trivial⟩, rfl⟩
  subst hJ
  refine k_cond rfl (fun h => ?_) (fun h => ?_)
  ·
    refine k_seq ?_
    refine k_region ?_
    refine m_int rfl rfl ?_
    refine o_nil ?_
    refine k_ret (ret_tmps (ts := [8]) (v := .int _ _) rfl rfl ?_)
    have e : setH ws L p i x = (1, ws) := by unfold setH; rw [if_neg (by simpa using h0), hrf, if_pos h]
    rw [e]; exact ⟨rfl, hHP, hW, hu, (Keep.refl [] _).h⟩
  have e : setH ws L p i x = (0, ws.set (cellH ws L p i).1.toNat x) := by unfold setH; rw [if_neg (by simpa using h0), hrf, if_neg h]
  obtain ⟨q, j, hq, rfl, rfl, hqL, hq0, hjn, hin, hcell⟩ := cell_e hW h0
  rw [hcell] at e
  replace e : setH ws L (q : Int) (j : Int) x = (0, ws.set (q + 1 + j) x) := e
  rw [hcell]
  obtain ⟨g, cur, hae, hBg, hgs⟩ := hS.blk (by omega)
  subst hae
  refine k_skip ?_
  refine k_seq ?_
  refine k_region ?_
  refine m_ptr rfl rfl ?_
  refine o_nilc rfl ?_
  refine o_fld0 rfl rfl ?_
  refine o_ld (v := .slice (some ⟨g, 0, none⟩) ws.length c) rfl rfl (hB.at rfl) ?_
  refine m_int rfl rfl ?_
  refine m_int rfl rfl ?_
  refine o_ixs1 (m := q + 1 + j) Tryd.underlying22 rfl rfl rfl hin ?_
  refine o_st (v := iv x) rfl rfl rfl rfl hBg (by omega) (fun w3 hB3 hK3 hZ3 => ?_)
  have hS3 := Sl.set hS hin hBg hB3
  rw [show (ws.map iv).set (q + 1 + j) (iv x) = (ws.set (q + 1 + j) x).map iv by rw [List.map_set]] at hS3
  have hne : hb ≠ g := fun e => by subst e; exact absurd (hB.ty hBg) (by decide)
  have hrg : r ≠ g := fun e => by subst e; exact hM.blk hBg rfl
  refine o_nil ?_
  refine k_seq ?_
  refine k_region ?_
  refine m_int rfl rfl ?_
  refine o_nil ?_
  refine k_ret (ret_tmps (ts := [8]) (v := .int _ _) rfl rfl ?_)
  rw [e]
  refine ⟨rfl, ⟨some ⟨g, 0, none⟩, c, r, m, ?_, ?_, hM.keep hK3 (by simpa using hrg), hg, hk1, hk2, hk3⟩, hW.set hqL (by omega) (by rw [getD_get ws q hq]; omega) hx, by simp only [List.length_set]; exact hu, Keep.hb hK3 hBg (.inl rfl) (hk3 _ rfl)⟩
  · simp only [List.length_set]; exact hB.keep hK3 (by simpa using hne)
  · simp only [List.length_set]; exact hS3
end Go.Proofs.YtchbidckckmobaaDoor
