/- Texts of this proof laid together: Im, In, Io, Ip, Iq, Ka, Kb, Kc, Kd, Ke, Kf, Kg, Kh, Ki, Kj, Kk, Kl, Km, Kn, Jz. No condition beyond what each lemma names. -/
import Derived.Test.YtchbidckckmobaaDoorZd
import Derived.Test.YtchbidckckmobaaDoorZc
/- The reference's Copy. No condition beyond what each contract names. -/
namespace Go.Proofs.YtchbidckckmobaaDoor
open Go.RowKit E
set_option linter.unusedVariables false
set_option linter.unusedSimpArgs false
set_option maxRecDepth 100000
attribute [local irreducible] ow qw kw kq cw opW Ret
theorem KeepH.mono {k k' : Nat → Prop} {w w' : World} (h : KeepH k w w') (hk : ∀ b, k b → k' b) : KeepH k' w w' := by
  obtain ⟨S, h1, h2⟩ := h
  exact ⟨S, h1, fun b hb => ⟨hk b (h2 b hb).1, (h2 b hb).2⟩⟩
theorem RP.tight {k : Nat → Prop} {w : World} {rb : Nat} {ws : List Int} {lim : Int} (h : RP k w rb ws lim) : ∃ k' : Nat → Prop, (∀ b, k' b → k b ∧ b < w.heap.size) ∧ RP k' w rb ws lim := by
  obtain ⟨a, c, hB, hS, hk1, hk3⟩ := h
  refine ⟨fun b => b = rb ∨ ∃ z, a = some z ∧ b = z.block, fun b hb => ?_, a, c, hB, hS, .inl rfl, fun z hz => .inr ⟨z, hz, rfl⟩⟩
  rcases hb with rfl | ⟨z, hz, rfl⟩
  · exact ⟨hk1, hB.lt⟩
  · refine ⟨hk3 z hz, ?_⟩
    rcases hS.2 with ⟨h0, _⟩ | ⟨g, cur, h0, hBg, _⟩
    · rw [h0] at hz; cases hz
    · rw [h0] at hz; cases hz; exact hBg.lt
theorem RP.wide {k k' : Nat → Prop} {w : World} {rb : Nat} {ws : List Int} {lim : Int} (h : RP k w rb ws lim) (hk : ∀ b, k b → k' b) : RP k' w rb ws lim := by
  obtain ⟨a, c, hB, hS, hk1, hk3⟩ := h
  exact ⟨a, c, hB, hS, hk _ hk1, fun z hz => hk _ (hk3 z hz)⟩
def runS (L : List Int) (q k : Int) (vs : Nat → Int) (ws : List Int) : Nat → List Int
  | 0 => ws
  | m + 1 => (setH (runS L q k vs ws m) L q (k + m) (vs m)).2
def rcopyN (ws L : List Int) (p i q k n : Int) : Int × List Int :=
  if (lookH ws L p).2.2.2 ≠ 0 then ((lookH ws L p).2.2.2, ws)
  else if (lookH ws L q).2.2.2 ≠ 0 then ((lookH ws L q).2.2.2, ws)
  else if (lookH ws L p).1 = 1 ∨ (lookH ws L p).1 ≠ (lookH ws L q).1 ∨ (lookH ws L p).2.1 ≠ (lookH ws L q).2.1 then (28, ws)
  else if n < 0 ∨ i < 0 ∨ k < 0 ∨ (lookH ws L p).2.2.1 - n < i ∨ (lookH ws L q).2.2.1 - n < k then (1, ws)
  else (0, runS L q k (fun j => (getH ws L p (i + j)).1) ws n.toNat)
def cellsR (ws L : List Int) (p i : Int) (m : Nat) : List Int := (List.range m).map fun (j : Nat) => (getH ws L p (i + j)).1
theorem cellsR_len (ws L : List Int) (p i : Int) (m : Nat) : (cellsR ws L p i m).length = m := by simp [cellsR]
theorem cellsR_succ (ws L : List Int) (p i : Int) (m : Nat) : (cellsR ws L p i (m + 1)).map iv = (cellsR ws L p i m).map iv ++ [iv (getH ws L p (i + m)).1] := by
  unfold cellsR; rw [List.range_succ]; simp
theorem rcopy_ok (kk : Nat → Prop) (w : World) (rb : Nat) (ws : List Int) (lim : Int) (L : List Int) (p i q k n : Int) (hRP : RP kk w rb ws lim) (hW : WFH ws L)
    (hi : -9223372036854775808 ≤ i ∧ i ≤ 9223372036854775807) (hk : -9223372036854775808 ≤ k ∧ k ≤ 9223372036854775807) (hn : -9223372036854775808 ≤ n ∧ n ≤ 9223372036854775807) :
    Ret Tryd.prog 57 [.pointer (some ⟨rb, 0, none⟩), .int .i64 p, .int .i64 i, .int .i64 q, .int .i64 k, .int .i64 n] w (fun v w' => v = .int .i64 (rcopyN ws L p i q k n).1 ∧ RRes kk w rb lim w' (rcopyN ws L p i q k n).2 L) := by
  have hr1 := look_rng hW p
  have hr2 := look_rng hW q
  have keep0 : RRes kk w rb lim w ws L := ⟨hRP, hW, (Keep.refl [] _).h⟩
  refine fn_enter (n := 130) Tryd.func57 rfl rfl (Nat.le_of_ble_eq_true rfl) (fun e => ?_)
  refine k_seq ?_
  refine k_region ?_
  refine m_int rfl rfl ?_
  refine o_nil ?_
  refine k_seq ?_
  refine k_region ?_
  refine m_ptr rfl rfl ?_
  refine m_int rfl rfl ?_
  refine o_call rfl rfl (rlook_ok kk w rb ws lim L p hRP hW) (fun v w1 hv => ?_)
  obtain ⟨rfl, rfl⟩ := hv
  refine m_any rfl rfl ?_
  refine o_extr rfl rfl ?_
  refine o_extr rfl rfl ?_
  refine o_extr rfl rfl ?_
  refine o_extr rfl rfl ?_
  refine m_int rfl rfl ?_
  refine m_int rfl rfl ?_
  refine m_int rfl rfl ?_
  refine m_int rfl rfl ?_
  refine o_nil ?_
  refine k_seq ?_
  refine k_seq ?_
  refine k_region ?_
  refine m_int rfl rfl ?_
  refine b_neq rfl rfl ?_
  refine o_nil ?_
  refine k_cond rfl (fun h => ?_) (fun h => ?_)
  ·
    refine k_seq ?_
    refine k_region ?_
    refine m_int rfl rfl ?_
    refine m_int rfl rfl ?_
    refine o_nil ?_
    refine k_ret (ret_tmps (ts := [12]) (v := .int _ _) rfl rfl ?_)
    rw [show rcopyN ws L p i q k n = ((lookH ws L p).2.2.2, ws) from if_pos h]; exact ⟨rfl, keep0⟩
  have e1 : rcopyN ws L p i q k n = _ := if_neg h
  refine k_skip ?_
  refine k_seq ?_
  refine k_region ?_
  refine m_ptr rfl rfl ?_
  refine m_int rfl rfl ?_
  refine o_call rfl rfl (rlook_ok kk w1 rb ws lim L q hRP hW) (fun v w2 hv => ?_)
  obtain ⟨rfl, rfl⟩ := hv
  refine m_any rfl rfl ?_
  refine o_extr rfl rfl ?_
  refine o_extr rfl rfl ?_
  refine o_extr rfl rfl ?_
  refine o_extr rfl rfl ?_
  refine m_int rfl rfl ?_
  refine m_int rfl rfl ?_
  refine m_int rfl rfl ?_
  refine m_int rfl rfl ?_
  refine o_nil ?_
  refine k_seq ?_
  refine k_seq ?_
  refine k_region ?_
  refine m_int rfl rfl ?_
  refine b_neq rfl rfl ?_
  refine o_nil ?_
  refine k_cond rfl (fun h => ?_) (fun h => ?_)
  ·
    refine k_seq ?_
    refine k_region ?_
    refine m_int rfl rfl ?_
    refine m_int rfl rfl ?_
    refine o_nil ?_
    refine k_ret (ret_tmps (ts := [12]) (v := .int _ _) rfl rfl ?_)
    rw [e1, if_pos h]; exact ⟨rfl, keep0⟩
  rw [if_neg h] at e1
  refine k_skip ?_
  refine k_seq ?_
  refine k_seq ?_
  refine k_region ?_
  refine m_int rfl rfl ?_
  refine b_eql rfl rfl ?_
  refine m_bool rfl rfl ?_
  refine o_split (t := 49) rfl (fun h => ?_) (fun h => ?_)
  ·
    refine g_no rfl rfl rfl ?_
    refine g_no rfl rfl rfl ?_
    refine pick_t rfl rfl ?_
    refine m_bool rfl rfl ?_
    refine g_no rfl rfl rfl ?_
    refine g_no rfl rfl rfl ?_
    refine g_no rfl rfl rfl ?_
    refine pick_t rfl rfl ?_
    refine m_bool rfl rfl ?_
    refine g_no rfl rfl rfl ?_
    refine g_no rfl rfl rfl ?_
    refine g_no rfl rfl rfl ?_
    refine pick_t rfl rfl ?_
    refine o_nil ?_
    refine k_condt rfl ?_
    refine k_seq ?_
    refine k_region ?_
    refine m_int rfl rfl ?_
    refine o_nil ?_
    refine k_ret (ret_tmps (ts := [12]) (v := .int _ _) rfl rfl ?_)
    rw [e1, if_pos (by omega)]; exact ⟨rfl, keep0⟩
  ·
    refine g_yes rfl rfl ?_
    refine m_int rfl rfl ?_
    refine g_yes rfl rfl ?_
    refine b_eql rfl rfl ?_
    refine pick_f rfl rfl ?_
    refine m_bool rfl rfl ?_
    refine o_split (t := 53) rfl (fun h => ?_) (fun h => ?_)
    ·
      refine g_no rfl rfl rfl ?_
      refine g_no rfl rfl rfl ?_
      refine g_no rfl rfl rfl ?_
      refine pick_t rfl rfl ?_
      refine m_bool rfl rfl ?_
      refine g_no rfl rfl rfl ?_
      refine g_no rfl rfl rfl ?_
      refine g_no rfl rfl rfl ?_
      refine pick_t rfl rfl ?_
      refine o_nil ?_
      refine k_condt rfl ?_
      refine k_seq ?_
      refine k_region ?_
      refine m_int rfl rfl ?_
      refine o_nil ?_
      refine k_ret (ret_tmps (ts := [12]) (v := .int _ _) rfl rfl ?_)
      rw [e1, if_pos (by omega)]; exact ⟨rfl, keep0⟩
    ·
      refine g_yes rfl rfl ?_
      refine m_int rfl rfl ?_
      refine g_yes rfl rfl ?_
      refine m_int rfl rfl ?_
      refine g_yes rfl rfl ?_
      refine b_neq rfl rfl ?_
      refine pick_f rfl rfl ?_
      refine m_bool rfl rfl ?_
      refine o_split (t := 58) rfl (fun h => ?_) (fun h => ?_)
      ·
        refine g_no rfl rfl rfl ?_
        refine g_no rfl rfl rfl ?_
        refine g_no rfl rfl rfl ?_
        refine pick_t rfl rfl ?_
        refine o_nil ?_
        refine k_condt rfl ?_
        refine k_seq ?_
        refine k_region ?_
        refine m_int rfl rfl ?_
        refine o_nil ?_
        refine k_ret (ret_tmps (ts := [12]) (v := .int _ _) rfl rfl ?_)
        rw [e1, if_pos (by omega)]; exact ⟨rfl, keep0⟩
      ·
        refine g_yes rfl rfl ?_
        refine m_int rfl rfl ?_
        refine g_yes rfl rfl ?_
        refine m_int rfl rfl ?_
        refine g_yes rfl rfl ?_
        refine b_neq rfl rfl ?_
        refine pick_f rfl rfl ?_
        refine o_nil ?_
        refine k_cond rfl (fun h => ?_) (fun h => ?_)
        ·
          refine k_seq ?_
          refine k_region ?_
          refine m_int rfl rfl ?_
          refine o_nil ?_
          refine k_ret (ret_tmps (ts := [12]) (v := .int _ _) rfl rfl ?_)
          rw [e1, if_pos (by omega)]; exact ⟨rfl, keep0⟩
        rw [if_neg (by omega)] at e1
        refine k_skip ?_
        refine k_seq ?_
        refine k_seq ?_
        refine k_region ?_
        refine m_int rfl rfl ?_
        refine b_lss rfl rfl ?_
        refine m_bool rfl rfl ?_
        refine o_split (t := 65) rfl (fun h => ?_) (fun h => ?_)
        ·
          refine g_no rfl rfl rfl ?_
          refine g_no rfl rfl rfl ?_
          refine pick_t rfl rfl ?_
          refine m_bool rfl rfl ?_
          refine g_no rfl rfl rfl ?_
          refine g_no rfl rfl rfl ?_
          refine pick_t rfl rfl ?_
          refine m_bool rfl rfl ?_
          refine g_no rfl rfl rfl ?_
          refine g_no rfl rfl rfl ?_
          refine g_no rfl rfl rfl ?_
          refine pick_t rfl rfl ?_
          refine m_bool rfl rfl ?_
          refine g_no rfl rfl rfl ?_
          refine g_no rfl rfl rfl ?_
          refine g_no rfl rfl rfl ?_
          refine g_no rfl rfl rfl ?_
          refine g_no rfl rfl rfl ?_
          refine pick_t rfl rfl ?_
          refine m_bool rfl rfl ?_
          refine g_no rfl rfl rfl ?_
          refine g_no rfl rfl rfl ?_
          refine g_no rfl rfl rfl ?_
          refine pick_t rfl rfl ?_
          refine m_bool rfl rfl ?_
          refine g_no rfl rfl rfl ?_
          refine g_no rfl rfl rfl ?_
          refine g_no rfl rfl rfl ?_
          refine g_no rfl rfl rfl ?_
          refine g_no rfl rfl rfl ?_
          refine pick_t rfl rfl ?_
          refine o_nil ?_
          refine k_condt rfl ?_
          refine k_seq ?_
          refine k_region ?_
          refine m_int rfl rfl ?_
          refine o_nil ?_
          refine k_ret (ret_tmps (ts := [12]) (v := .int _ _) rfl rfl ?_)
          rw [e1, if_pos (by omega)]; exact ⟨rfl, keep0⟩
        ·
          refine g_yes rfl rfl ?_
          refine m_int rfl rfl ?_
          refine g_yes rfl rfl ?_
          refine b_lss rfl rfl ?_
          refine pick_f rfl rfl ?_
          refine m_bool rfl rfl ?_
          refine o_split (t := 69) rfl (fun h => ?_) (fun h => ?_)
          ·
            refine g_no rfl rfl rfl ?_
            refine g_no rfl rfl rfl ?_
            refine pick_t rfl rfl ?_
            refine m_bool rfl rfl ?_
            refine g_no rfl rfl rfl ?_
            refine g_no rfl rfl rfl ?_
            refine g_no rfl rfl rfl ?_
            refine pick_t rfl rfl ?_
            refine m_bool rfl rfl ?_
            refine g_no rfl rfl rfl ?_
            refine g_no rfl rfl rfl ?_
            refine g_no rfl rfl rfl ?_
            refine g_no rfl rfl rfl ?_
            refine g_no rfl rfl rfl ?_
            refine pick_t rfl rfl ?_
            refine m_bool rfl rfl ?_
            refine g_no rfl rfl rfl ?_
            refine g_no rfl rfl rfl ?_
            refine g_no rfl rfl rfl ?_
            refine pick_t rfl rfl ?_
            refine m_bool rfl rfl ?_
            refine g_no rfl rfl rfl ?_
            refine g_no rfl rfl rfl ?_
            refine g_no rfl rfl rfl ?_
            refine g_no rfl rfl rfl ?_
            refine g_no rfl rfl rfl ?_
            refine pick_t rfl rfl ?_
            refine o_nil ?_
            refine k_condt rfl ?_
            refine k_seq ?_
            refine k_region ?_
            refine m_int rfl rfl ?_
            refine o_nil ?_
            refine k_ret (ret_tmps (ts := [12]) (v := .int _ _) rfl rfl ?_)
            rw [e1, if_pos (by omega)]; exact ⟨rfl, keep0⟩
          ·
            refine g_yes rfl rfl ?_
            refine m_int rfl rfl ?_
            refine g_yes rfl rfl ?_
            refine b_lss rfl rfl ?_
            refine pick_f rfl rfl ?_
            refine m_bool rfl rfl ?_
            refine o_split (t := 73) rfl (fun h => ?_) (fun h => ?_)
            ·
              refine g_no rfl rfl rfl ?_
              refine g_no rfl rfl rfl ?_
              refine g_no rfl rfl rfl ?_
              refine pick_t rfl rfl ?_
              refine m_bool rfl rfl ?_
              refine g_no rfl rfl rfl ?_
              refine g_no rfl rfl rfl ?_
              refine g_no rfl rfl rfl ?_
              refine g_no rfl rfl rfl ?_
              refine g_no rfl rfl rfl ?_
              refine pick_t rfl rfl ?_
              refine m_bool rfl rfl ?_
              refine g_no rfl rfl rfl ?_
              refine g_no rfl rfl rfl ?_
              refine g_no rfl rfl rfl ?_
              refine pick_t rfl rfl ?_
              refine m_bool rfl rfl ?_
              refine g_no rfl rfl rfl ?_
              refine g_no rfl rfl rfl ?_
              refine g_no rfl rfl rfl ?_
              refine g_no rfl rfl rfl ?_
              refine g_no rfl rfl rfl ?_
              refine pick_t rfl rfl ?_
              refine o_nil ?_
              refine k_condt rfl ?_
              refine k_seq ?_
              refine k_region ?_
              refine m_int rfl rfl ?_
              refine o_nil ?_
              refine k_ret (ret_tmps (ts := [12]) (v := .int _ _) rfl rfl ?_)
              rw [e1, if_pos (by omega)]; exact ⟨rfl, keep0⟩
            ·
              refine g_yes rfl rfl ?_
              refine m_int rfl rfl ?_
              refine g_yes rfl rfl ?_
              refine m_int rfl rfl ?_
              refine g_yes rfl rfl ?_
              refine b_gtr rfl rfl ?_
              refine pick_f rfl rfl ?_
              refine m_bool rfl rfl ?_
              refine o_split (t := 78) rfl (fun h => ?_) (fun h => ?_)
              ·
                refine g_no rfl rfl rfl ?_
                refine g_no rfl rfl rfl ?_
                refine g_no rfl rfl rfl ?_
                refine g_no rfl rfl rfl ?_
                refine g_no rfl rfl rfl ?_
                refine pick_t rfl rfl ?_
                refine m_bool rfl rfl ?_
                refine g_no rfl rfl rfl ?_
                refine g_no rfl rfl rfl ?_
                refine g_no rfl rfl rfl ?_
                refine pick_t rfl rfl ?_
                refine m_bool rfl rfl ?_
                refine g_no rfl rfl rfl ?_
                refine g_no rfl rfl rfl ?_
                refine g_no rfl rfl rfl ?_
                refine g_no rfl rfl rfl ?_
                refine g_no rfl rfl rfl ?_
                refine pick_t rfl rfl ?_
                refine o_nil ?_
                refine k_condt rfl ?_
                refine k_seq ?_
                refine k_region ?_
                refine m_int rfl rfl ?_
                refine o_nil ?_
                refine k_ret (ret_tmps (ts := [12]) (v := .int _ _) rfl rfl ?_)
                rw [e1, if_pos (by omega)]; exact ⟨rfl, keep0⟩
              ·
                refine g_yes rfl rfl ?_
                refine m_int rfl rfl ?_
                refine g_yes rfl rfl ?_
                refine m_int rfl rfl ?_
                refine g_yes rfl rfl ?_
                refine m_int rfl rfl ?_
                refine g_yes rfl rfl ?_
                refine n_sub rfl rfl (by omega) ?_
                refine g_yes rfl rfl ?_
                refine b_gtr rfl rfl ?_
                refine pick_f rfl rfl ?_
                refine m_bool rfl rfl ?_
                refine o_split (t := 85) rfl (fun h => ?_) (fun h => ?_)
                ·
                  refine g_no rfl rfl rfl ?_
                  refine g_no rfl rfl rfl ?_
                  refine g_no rfl rfl rfl ?_
                  refine pick_t rfl rfl ?_
                  refine m_bool rfl rfl ?_
                  refine g_no rfl rfl rfl ?_
                  refine g_no rfl rfl rfl ?_
                  refine g_no rfl rfl rfl ?_
                  refine g_no rfl rfl rfl ?_
                  refine g_no rfl rfl rfl ?_
                  refine pick_t rfl rfl ?_
                  refine o_nil ?_
                  refine k_condt rfl ?_
                  refine k_seq ?_
                  refine k_region ?_
                  refine m_int rfl rfl ?_
                  refine o_nil ?_
                  refine k_ret (ret_tmps (ts := [12]) (v := .int _ _) rfl rfl ?_)
                  rw [e1, if_pos (by omega)]; exact ⟨rfl, keep0⟩
                ·
                  refine g_yes rfl rfl ?_
                  refine m_int rfl rfl ?_
                  refine g_yes rfl rfl ?_
                  refine m_int rfl rfl ?_
                  refine g_yes rfl rfl ?_
                  refine b_gtr rfl rfl ?_
                  refine pick_f rfl rfl ?_
                  refine m_bool rfl rfl ?_
                  refine o_split (t := 90) rfl (fun h => ?_) (fun h => ?_)
                  ·
                    refine g_no rfl rfl rfl ?_
                    refine g_no rfl rfl rfl ?_
                    refine g_no rfl rfl rfl ?_
                    refine g_no rfl rfl rfl ?_
                    refine g_no rfl rfl rfl ?_
                    refine pick_t rfl rfl ?_
                    refine o_nil ?_
                    refine k_condt rfl ?_
                    refine k_seq ?_
                    refine k_region ?_
                    refine m_int rfl rfl ?_
                    refine o_nil ?_
                    refine k_ret (ret_tmps (ts := [12]) (v := .int _ _) rfl rfl ?_)
                    rw [e1, if_pos (by omega)]; exact ⟨rfl, keep0⟩
                  ·
                    refine g_yes rfl rfl ?_
                    refine m_int rfl rfl ?_
                    refine g_yes rfl rfl ?_
                    refine m_int rfl rfl ?_
                    refine g_yes rfl rfl ?_
                    refine m_int rfl rfl ?_
                    refine g_yes rfl rfl ?_
                    refine n_sub rfl rfl (by omega) ?_
                    refine g_yes rfl rfl ?_
                    refine b_gtr rfl rfl ?_
                    refine pick_f rfl rfl ?_
                    refine o_nil ?_
                    refine k_cond rfl (fun h => ?_) (fun h => ?_)
                    ·
                      refine k_seq ?_
                      refine k_region ?_
                      refine m_int rfl rfl ?_
                      refine o_nil ?_
                      refine k_ret (ret_tmps (ts := [12]) (v := .int _ _) rfl rfl ?_)
                      rw [e1, if_pos (by omega)]; exact ⟨rfl, keep0⟩
                    rw [if_neg (by omega)] at e1
                    have hn0 : 0 ≤ n := by omega
                    refine k_skip ?_
                    refine k_seq ?_
                    refine k_region ?_
                    refine m_sl rfl rfl ?_
                    refine o_nil ?_
                    refine k_seq ?_
                    refine k_seq ?_
                    refine k_region ?_
                    refine m_int rfl rfl ?_
                    refine o_nil ?_
                    refine k_block ?_
                    refine k_loop (σ := Nat × Option Addr × Nat) (fun s => [(0, .pointer (some ⟨rb, 0, none⟩)), (1, .int .i64 p), (2, .int .i64 i), (3, .int .i64 q), (4, .int .i64 k), (5, .int .i64 n), (20, .slice s.2.1 s.1 s.2.2), (21, .int .i64 (s.1 : Int))]) (fun s w' => (s.1 : Int) ≤ n ∧ Sl w' 2 1 s.2.1 s.1 s.2.2 ((cellsR ws L p i s.1).map iv) ∧ (∀ z, s.2.1 = some z → w2.heap.size ≤ z.block) ∧ Keep [] w2 w') (fun s => n.toNat - s.1) (0, none, 0) ⟨rfl, rfl, rfl, rfl, rfl, rfl, rfl, rfl, trivial⟩ ⟨hn0, Sl.nil _ _ _, by simp, Keep.refl _ _⟩ (fun s e w3 hJ => ?_)
                    obtain ⟨m, a3, c3⟩ := s
                    obtain ⟨hm, hS3, hf3, hK3⟩ := hJ
                    dsimp only at hm hS3 hf3 ⊢
                    refine k_seq ?_
                    refine k_seq ?_
                    refine k_region ?_
                    refine m_int rfl rfl ?_
                    refine m_int rfl rfl ?_
                    refine b_lss rfl rfl ?_
                    refine o_nil ?_
                    refine k_cond rfl (fun h => ?_) (fun h => ?_)
                    rotate_left
                    ·
                      have hme : m = n.toNat := by omega
                      obtain ⟨k', hk', hRP'⟩ := hRP.tight
                      have hRc := hS3.rd
                      have hnk : ∀ z, a3 = some z → ¬ k' z.block := fun z hz hh => by have := (hk' _ hh).2; have := hf3 z hz; omega
                      refine k_exit rfl ?_
                      refine k_seq ?_
                      refine k_seq ?_
                      refine k_region ?_
                      refine m_int rfl rfl ?_
                      refine o_nil ?_
                      refine k_block ?_
                      refine k_loop (σ := Nat) (fun j => [(0, .pointer (some ⟨rb, 0, none⟩)), (3, .int .i64 q), (4, .int .i64 k), (5, .int .i64 n), (20, .slice a3 m c3), (24, .int .i64 (j : Int))]) (fun j w' => j ≤ m ∧ RRes k' w3 rb lim w' (runS L q k (fun j => (getH ws L p (i + j)).1) ws j) L) (fun j => m - j) 0 ⟨rfl, rfl, rfl, rfl, rfl, rfl, trivial⟩ ⟨Nat.zero_le _, hRP'.new hK3, hW, (Keep.refl [] _).h⟩ (fun j e w7 hJ => ?_)
                      obtain ⟨hj, hRP7, hW7, hKH7⟩ := hJ
                      refine k_seq ?_
                      refine k_seq ?_
                      refine k_region ?_
                      refine m_int rfl rfl ?_
                      refine m_int rfl rfl ?_
                      refine b_lss rfl rfl ?_
                      refine o_nil ?_
                      refine k_cond rfl (fun h => ?_) (fun h => ?_)
                      rotate_left
                      ·
                        have hje : j = n.toNat := by omega
                        rw [hje] at hRP7 hW7
                        refine k_exit rfl ?_
                        refine k_seq ?_
                        refine k_region ?_
                        refine m_int rfl rfl ?_
                        refine o_nil ?_
                        refine k_ret (ret_tmps (ts := [12]) (v := .int _ _) rfl rfl ?_)
                        rw [e1]
                        exact ⟨rfl, hRP7.wide (fun b hb => (hk' b hb).1), hW7, hK3.h.tr (hKH7.mono (fun b hb => (hk' b hb).1))⟩
                      have hjm : j < m := by omega
                      have hx := iv_at (cellsR ws L p i m) j (by rw [cellsR_len]; exact hjm)
                      have hR7 := hRc.kh hKH7 (fun _ => hnk)
                      obtain ⟨b1, o1, hae, hc1⟩ := hR7 _ _ hx
                      subst hae
                      have hcj : (cellsR ws L p i m)[j]'(by rw [cellsR_len]; exact hjm) = (getH ws L p (i + j)).1 := by simp [cellsR]
                      rw [hcj] at hc1
                      refine k_skip ?_
                      refine k_seq ?_
                      refine k_block ?_
                      refine k_region ?_
                      refine m_ptr rfl rfl ?_
                      refine m_int rfl rfl ?_
                      refine m_int rfl rfl ?_
                      refine m_int rfl rfl ?_
                      refine n_add rfl rfl (by omega) ?_
                      refine m_sl rfl rfl ?_
                      refine m_int rfl rfl ?_
                      refine o_ixs1 (m := j) Tryd.underlying22 rfl rfl rfl hjm ?_
                      refine o_ld (v := iv (getH ws L p (i + j)).1) rfl rfl hc1 ?_
                      refine o_call rfl rfl (rset_ok k' w7 rb _ lim L q (k + j) _ hRP7 hW7 (get_rng hW p (i + j))) (fun v w8 hv => ?_)
                      obtain ⟨rfl, hRP8, hW8, hKH8⟩ := hv
                      refine o_nil ?_
                      refine k_blk ?_
                      refine k_region ?_
                      refine m_int rfl rfl ?_
                      refine n_add rfl rfl (by omega) ?_
                      refine m_int rfl rfl ?_
                      refine o_nil ?_
                      refine k_goal ⟨j + 1, ⟨rfl, rfl, rfl, rfl, rfl, rfl, trivial⟩, ⟨by omega, hRP8, hW8, hKH7.tr hKH8⟩, by omega⟩
                    refine k_skip ?_
                    refine k_seq ?_
                    refine k_block ?_
                    refine k_seq ?_
                    refine k_region ?_
                    refine m_ptr rfl rfl ?_
                    refine m_int rfl rfl ?_
                    refine m_int rfl rfl ?_
                    refine m_int rfl rfl ?_
                    refine n_add rfl rfl (by omega) ?_
                    refine o_call rfl rfl (rget_ok kk w3 rb ws lim L p (i + m) (hRP.new hK3) hW) (fun v w4 hv => ?_)
                    obtain ⟨rfl, rfl⟩ := hv
                    refine m_any rfl rfl ?_
                    refine o_extr rfl rfl ?_
                    refine o_extr rfl rfl ?_
                    refine m_int rfl rfl ?_
                    refine m_int rfl rfl ?_
                    refine o_nil ?_
                    refine k_region ?_
                    refine m_sl rfl rfl ?_
                    refine m_int rfl rfl ?_
                    refine o_bsl (E := 2) (cs := #[iv (getH ws L p (i + m)).1]) rfl (fun _ => by kernel_rfl) (fun g5 w5 hB5 hK5 hb5 hZ5 => ?_)
                    refine o_app Tryd.underlying22 inf2 rfl (by decide) rfl rfl (hS3.new hK5) hB5.rd rfl (by simp [iv, Value.oneCell']) (by simp [maxLen]; omega) (by omega) (fun a6 c6 w6 hS6 hK6 hv6 => ?_)
                    have hS6' : Sl w6 2 1 a6 (m + 1) c6 ((cellsR ws L p i (m + 1)).map iv) := by rw [cellsR_succ]; exact hS6
                    have hK36 : Keep [] w2 w6 := (hK3.tr hK5).trb hK6 hf3
                    have hf6 : ∀ z, a6 = some z → w2.heap.size ≤ z.block := own_app (k := fun b => w2.heap.size ≤ b) hf3 (fun b hb => by have := (hK3.tr hK5).size; show w2.heap.size ≤ b; omega) hv6
                    refine m_sl rfl rfl ?_
                    refine o_nil ?_
                    refine k_blk ?_
                    refine k_region ?_
                    refine m_int rfl rfl ?_
                    refine n_add rfl rfl (by omega) ?_
                    refine m_int rfl rfl ?_
                    refine o_nil ?_
                    refine k_goal ⟨(m + 1, a6, c6), ⟨rfl, rfl, rfl, rfl, rfl, rfl, rfl, rfl, trivial⟩, ⟨by dsimp only; omega, hS6', hf6, hK36⟩, by dsimp only; omega⟩
end Go.Proofs.YtchbidckckmobaaDoor

/- Copies between blocks, plain: the program's order of cells and the document's end alike. No condition beyond what each lemma names. -/
namespace Go.Proofs.YtchbidckckmobaaDoor
open Go.RowKit E
set_option linter.unusedVariables false
set_option linter.unusedSimpArgs false
set_option maxRecDepth 100000
attribute [local irreducible] ow qw kw kq cw opW Ret
theorem look_congr {ws ws' L : List Int} {p : Nat} (h : ws'.getD p 0 = ws.getD p 0) : lookH ws' L (p : Int) = lookH ws L (p : Int) := by
  unfold lookH
  rw [show ((p : Int)).toNat = p from by omega, h]
theorem cell_of {ws L : List Int} {p i : Nat} {kd cl n : Int} (h : lookH ws L (p : Int) = (kd, cl, n, 0)) (hi : (i : Int) < n) : cellH ws L (p : Int) (i : Int) = ((p : Int) + 1 + (i : Int), refB (openW (ws.getD p 0)).1 (openW (ws.getD p 0)).2.2.2.1 i, 0) := by
  unfold cellH
  rw [h, if_neg (by simp), if_neg (by simp only; omega)]
  rw [show ((p : Int)).toNat = p from by omega, show ((i : Int)).toNat = i from by omega]
theorem get_of {ws L : List Int} {p i : Nat} {kd cl n : Int} (h : lookH ws L (p : Int) = (kd, cl, n, 0)) (hi : (i : Int) < n) : getH ws L (p : Int) (i : Int) = (ws.getD (p + 1 + i) 0, 0) := by
  unfold getH
  rw [cell_of h hi, if_neg (by simp)]
  rw [show ((p : Int) + 1 + (i : Int)).toNat = p + 1 + i by omega]
theorem set_of {ws L : List Int} {q j : Nat} {kd cl n : Int} (h : lookH ws L (q : Int) = (kd, cl, n, 0)) (hj : (j : Int) < n) (v : Int) : (setH ws L (q : Int) (j : Int) v).2 = if refB (openW (ws.getD q 0)).1 (openW (ws.getD q 0)).2.2.2.1 j = true ∧ v ≠ 0 ∧ v ∉ L then ws else ws.set (q + 1 + j) v := by
  unfold setH
  rw [cell_of h hj, if_neg (by simp)]
  by_cases hc : refB (openW (ws.getD q 0)).1 (openW (ws.getD q 0)).2.2.2.1 j = true ∧ v ≠ 0 ∧ v ∉ L
  · rw [if_pos hc, if_pos hc]
  · rw [if_neg hc, if_neg hc]
    show ws.set ((q : Int) + 1 + (j : Int)).toNat v = _
    rw [show ((q : Int) + 1 + (j : Int)).toNat = q + 1 + j by omega]
/-- the cells lo to hi of a row are set, where they may be -/
def Cp (ws : List Int) (base : Nat) (v : Nat → Int) (bad : Nat → Bool) (lo hi : Nat) (vs : List Int) : Prop :=
  vs.length = ws.length ∧ ∀ x, vs[x]? = if base + lo ≤ x ∧ x < base + hi ∧ bad (x - base) = false then some (v (x - base)) else ws[x]?
theorem Cp.same {ws vs : List Int} {base : Nat} {v : Nat → Int} {bad : Nat → Bool} {lo hi : Nat} (h : Cp ws base v bad lo hi vs) {x : Nat} (hx : ¬ (base + lo ≤ x ∧ x < base + hi)) : vs.getD x 0 = ws.getD x 0 := by
  rw [List.getD_eq_getElem?_getD, List.getD_eq_getElem?_getD, h.2 x, if_neg (by omega)]
theorem Cp.one {ws vs us : List Int} {base : Nat} {v : Nat → Int} {bad : Nat → Bool} {lo hi : Nat} (h : Cp ws base v bad lo hi vs) (h' : Cp ws base v bad lo hi us) : vs = us :=
  List.ext_getElem? fun x => by rw [h.2 x, h'.2 x]
theorem Cp.none (ws : List Int) (base : Nat) (v : Nat → Int) (bad : Nat → Bool) (lo : Nat) : Cp ws base v bad lo lo ws := ⟨rfl, fun x => by rw [if_neg (by omega)]⟩
theorem Cp.step {ws vs : List Int} {base : Nat} {v : Nat → Int} {bad : Nat → Bool} {lo hi lo' hi' o : Nat} (h : Cp ws base v bad lo hi vs) (ho : base + o < ws.length) (hlh : lo ≤ hi) (hs : (lo' = lo ∧ o = hi ∧ hi' = hi + 1) ∨ (lo = o + 1 ∧ lo' = o ∧ hi' = hi)) : Cp ws base v bad lo' hi' (if bad o = true then vs else vs.set (base + o) (v o)) := by
  refine ⟨by split <;> simp [h.1], fun x => ?_⟩
  by_cases hx : x = base + o
  · subst hx
    rw [show base + o - base = o by omega]
    by_cases hb : bad o = true
    · rw [if_pos hb, h.2, if_neg (by omega), if_neg (by rw [hb]; simp)]
    · have hbf : bad o = false := by simpa using hb
      rw [if_neg hb, if_pos ⟨by omega, by omega, hbf⟩, List.getElem?_set, if_pos rfl, if_pos (by rw [h.1]; exact ho)]
  · have e : (if bad o = true then vs else vs.set (base + o) (v o))[x]? = vs[x]? := by
      split
      · rfl
      · rw [List.getElem?_set, if_neg (fun e => hx e.symm)]
    rw [e, h.2 x]
    by_cases hc : base + lo ≤ x ∧ x < base + hi
    · by_cases hb : bad (x - base) = false
      · rw [if_pos ⟨hc.1, hc.2, hb⟩, if_pos ⟨by omega, by omega, hb⟩]
      · rw [if_neg (fun h => hb h.2.2), if_neg (fun h => hb h.2.2)]
    · rw [if_neg (by omega), if_neg (by omega)]
/-- the facts of two blocks between which is copied -/
structure CpF (ws L : List Int) (p q i k n : Nat) (np nq : Int) : Prop where
  lp : ∃ kd cl, lookH ws L (p : Int) = (kd, cl, np, 0)
  lq : ∃ kd cl, lookH ws L (q : Int) = (kd, cl, nq, 0)
  hi : (i : Int) + n ≤ np
  hk : (k : Int) + n ≤ nq
  le : (q : Int) + nq < ws.length
  pq : ∀ b : Nat, (b : Int) < nq → q + 1 + b ≠ p
  dis : p ≠ q → ∀ a b : Nat, (a : Int) < np → (b : Int) < nq → p + 1 + a ≠ q + 1 + b
def badC (ws L : List Int) (q k : Nat) (v : Nat → Int) (j : Nat) : Bool := decide (refB (openW (ws.getD q 0)).1 (openW (ws.getD q 0)).2.2.2.1 (k + j) = true ∧ v j ≠ 0 ∧ v j ∉ L)
theorem CpF.set {ws L : List Int} {p q i k n : Nat} {np nq : Int} (h : CpF ws L p q i k n np nq) {v : Nat → Int} {cur : List Int} {lo hi o : Nat} (hc : Cp ws (q + 1 + k) v (badC ws L q k v) lo hi cur) (ho : o < n) :
    (setH cur L (q : Int) ((k : Int) + (o : Int)) (v o)).2 = if badC ws L q k v o = true then cur else cur.set (q + 1 + k + o) (v o) := by
  obtain ⟨kd, cl, hl⟩ := h.lq
  have hg : cur.getD q 0 = ws.getD q 0 := hc.same (by omega)
  have hk := h.hk
  have := set_of (ws := cur) (L := L) (q := q) (j := k + o) ((look_congr hg).trans hl) (by push_cast; omega) (v o)
  rw [show ((k : Int) + (o : Int)) = ((k + o : Nat) : Int) by push_cast; rfl, this, hg, show q + 1 + (k + o) = q + 1 + k + o by omega]
  unfold badC
  simp only [decide_eq_true_eq]
theorem CpF.get {ws L : List Int} {p q i k n : Nat} {np nq : Int} (h : CpF ws L p q i k n np nq) {v : Nat → Int} {bad : Nat → Bool} {cur : List Int} {lo hi o : Nat} (hc : Cp ws (q + 1 + k) v bad lo hi cur) (hh : hi ≤ n) (ho : o < n) (hx : ¬ (q + 1 + k + lo ≤ p + 1 + i + o ∧ p + 1 + i + o < q + 1 + k + hi)) :
    getH cur L (p : Int) ((i : Int) + (o : Int)) = getH ws L (p : Int) ((i : Int) + (o : Int)) := by
  obtain ⟨kd, cl, hl⟩ := h.lp
  have hk := h.hk
  have hi' := h.hi
  have hg : cur.getD p 0 = ws.getD p 0 := hc.same (fun hcc => by
    have := h.pq (p - (q + 1)) (by omega)
    omega)
  rw [show ((i : Int) + (o : Int)) = ((i + o : Nat) : Int) by push_cast; rfl, get_of ((look_congr hg).trans hl) (by push_cast; omega), get_of hl (by push_cast; omega)]
  rw [hc.same (by omega)]
theorem CpF.runS {ws L : List Int} {p q i k n : Nat} {np nq : Int} (h : CpF ws L p q i k n np nq) (v : Nat → Int) (m : Nat) (hm : m ≤ n) : Cp ws (q + 1 + k) v (badC ws L q k v) 0 m (runS L (q : Int) (k : Int) v ws m) := by
  induction m with
  | zero => exact Cp.none _ _ _ _ _
  | succ m ih =>
    have hc := ih (by omega)
    show Cp _ _ _ _ _ _ (setH (Go.Proofs.YtchbidckckmobaaDoor.runS L q k v ws m) L q ((k : Int) + (m : Int)) (v m)).2
    rw [h.set hc (by omega)]
    have h1 := h.hk
    have h2 := h.le
    exact hc.step (by omega) (by omega) (.inl ⟨rfl, rfl, rfl⟩)
theorem CpF.runC {ws L : List Int} {p q i k n : Nat} {np nq : Int} (h : CpF ws L p q i k n np nq) (m : Nat) (hm : m ≤ n) :
    Cp ws (q + 1 + k) (fun j => (getH ws L (p : Int) ((i : Int) + (j : Int))).1) (badC ws L q k (fun j => (getH ws L (p : Int) ((i : Int) + (j : Int))).1)) (if (p : Int) = q ∧ (i : Int) < k then n - m else 0) (if (p : Int) = q ∧ (i : Int) < k then n else m) (runC L (p : Int) (i : Int) (q : Int) (k : Int) (n : Int) ((p : Int) = q ∧ (i : Int) < k) ws m) := by
  induction m with
  | zero =>
    split
    · exact Cp.none _ _ _ _ _
    · exact Cp.none _ _ _ _ _
  | succ m ih =>
    have hc := ih (by omega)
    have h1 := h.hk
    have h2 := h.le
    have h3 := h.hi
    have hdis := h.dis
    obtain ⟨cur, hcur⟩ : ∃ cur, Go.Proofs.YtchbidckckmobaaDoor.runC L (p : Int) (i : Int) (q : Int) (k : Int) (n : Int) ((p : Int) = q ∧ (i : Int) < k) ws m = cur := ⟨_, rfl⟩
    show Cp _ _ _ _ _ _ (stepC L p i q k (Go.Proofs.YtchbidckckmobaaDoor.runC L (p : Int) (i : Int) (q : Int) (k : Int) (n : Int) ((p : Int) = q ∧ (i : Int) < k) ws m) (ordC ((p : Int) = q ∧ (i : Int) < k) n m))
    rw [hcur] at hc ⊢
    by_cases hD : (p : Int) = q ∧ (i : Int) < k
    · simp only [if_pos hD] at hc ⊢
      have ho : ordC ((p : Int) = q ∧ (i : Int) < k) n m = ((n - 1 - m : Nat) : Int) := by unfold ordC; rw [if_pos hD]; omega
      rw [ho]
      unfold stepC
      rw [h.get hc (by omega) (by omega) (by omega), h.set (o := n - 1 - m) hc (by omega)]
      exact hc.step (by omega) (by omega) (.inr ⟨by omega, by omega, rfl⟩)
    · simp only [if_neg hD] at hc ⊢
      have ho : ordC ((p : Int) = q ∧ (i : Int) < k) n m = (m : Int) := by unfold ordC; rw [if_neg hD]
      rw [ho]
      unfold stepC
      rw [h.get hc (by omega) (by omega) (fun hcc => by
        by_cases hpq : p = q
        · omega
        · exact hdis hpq (i + m) (p + i + m - q) (by push_cast; omega) (by push_cast; omega) (by omega)), h.set (o := m) hc (by omega)]
      exact hc.step (by omega) (by omega) (.inl ⟨rfl, rfl, rfl⟩)
theorem copy_eq {ws L : List Int} (hW : WFH ws L) (p i q k n : Int) : rcopyN ws L p i q k n = copyN ws L p i q k n := by
  unfold rcopyN copyN
  by_cases h1 : (lookH ws L p).2.2.2 ≠ 0
  · rw [if_pos h1, if_pos h1]
  rw [if_neg h1, if_neg h1]
  by_cases h2 : (lookH ws L q).2.2.2 ≠ 0
  · rw [if_pos h2, if_pos h2]
  rw [if_neg h2, if_neg h2]
  by_cases h3 : (lookH ws L p).1 = 1 ∨ (lookH ws L p).1 ≠ (lookH ws L q).1 ∨ (lookH ws L p).2.1 ≠ (lookH ws L q).2.1
  · rw [if_pos h3, if_pos h3]
  rw [if_neg h3, if_neg h3]
  by_cases h4 : n < 0 ∨ i < 0 ∨ k < 0 ∨ (lookH ws L p).2.2.1 - n < i ∨ (lookH ws L q).2.2.1 - n < k
  · rw [if_pos h4, if_pos h4]
  rw [if_neg h4, if_neg h4]
  obtain ⟨P, hP, rfl, hPL, hP0, hPl, hPn0, hPn⟩ := look_n hW (Decidable.of_not_not h1)
  obtain ⟨Q, hQ, rfl, hQL, hQ0, hQl, hQn0, hQn⟩ := look_n hW (Decidable.of_not_not h2)
  rw [hPl, hQl] at h4
  simp only at h4
  obtain ⟨i, rfl⟩ : ∃ x : Nat, i = x := ⟨i.toNat, by omega⟩
  obtain ⟨k, rfl⟩ : ∃ x : Nat, k = x := ⟨k.toNat, by omega⟩
  obtain ⟨n, rfl⟩ : ∃ x : Nat, n = x := ⟨n.toNat, by omega⟩
  have gapP := chain_gap' ws _ 1 (Nat.le_refl _) L hW.ch P hPL
  have gapQ := chain_gap' ws _ 1 (Nat.le_refl _) L hW.ch Q hQL
  rw [getD_get ws P hP] at gapP
  rw [getD_get ws Q hQ] at gapQ
  have hF : CpF ws L P Q i k n (openW (ws[P])).2.2.1 (openW (ws[Q])).2.2.1 := by
    refine ⟨⟨_, _, hPl⟩, ⟨_, _, hQl⟩, by omega, by omega, by omega, fun b hb he => ?_, fun hne a b ha hb he => ?_⟩
    · exact gapQ P (by omega) (by omega) hPL
    · by_cases hlt : P < Q
      · exact gapP Q (by omega) (by omega) hQL
      · exact gapQ P (by omega) (by omega) hPL
  have c1 := hF.runS (fun j => (getH ws L (P : Int) ((i : Int) + (j : Int))).1) n (Nat.le_refl _)
  have c2 := hF.runC n (Nat.le_refl _)
  rw [show ((n : Int)).toNat = n from by omega]
  refine congrArg (fun x => ((0 : Int), x)) ?_
  refine c1.one ?_
  by_cases hD : (P : Int) = Q ∧ (i : Int) < k
  · simpa only [if_pos hD, Nat.sub_self] using c2
  · simpa only [if_neg hD] using c2
end Go.Proofs.YtchbidckckmobaaDoor

/- The acts of NativePlays; few; both heaps beside each other. No condition beyond what each contract names. -/
namespace Go.Proofs.YtchbidckckmobaaDoor
open Go.RowKit E
set_option linter.unusedVariables false
set_option linter.unusedSimpArgs false
set_option maxRecDepth 100000
attribute [local irreducible] ow qw kw kq cw opW Ret
structure NAct where
  kd : BitVec 8
  cl : Int
  ua : Option Addr
  uc : Nat
  us : Us
  a : Int
  b : Int
  i : Int
  k : Int
  n : Int
/-- an act's cells -/
def nactC (x : NAct) : List Value := [.int .u8 (x.kd.toNat : Int), iv x.cl, .slice x.ua x.us.length x.uc, iv x.a, iv x.b, iv x.i, iv x.k, iv x.n]
theorem nact_one (x : NAct) : ∀ u ∈ nactC x, u.oneCell' = true := by
  intro u hu
  simp only [nactC, List.mem_cons, List.not_mem_nil, or_false] at hu
  rcases hu with rfl | rfl | rfl | rfl | rfl | rfl | rfl | rfl <;> rfl
structure NActOk (w : World) (x : NAct) : Prop where
  rd : Rd w x.ua (x.us.map u16v)
  len : x.us.length ≤ 140737488355328
  cl : -9223372036854775808 ≤ x.cl ∧ x.cl ≤ 9223372036854775807
  i : -9223372036854775808 ≤ x.i ∧ x.i ≤ 9223372036854775807
  k : -9223372036854775808 ≤ x.k ∧ x.k ≤ 9223372036854775807
  n : -9223372036854775808 ≤ x.n ∧ x.n ≤ 9223372036854775807
theorem nact_at {w : World} {a : Option Addr} {acts : List NAct} (hR : Rd w a (acts.map nactC).flatten) {m : Nat} (hm : m < acts.length) : ∃ b o, a = some ⟨b, o, none⟩ ∧ ∀ j v, (nactC acts[m])[j]? = some v → w.cell? ⟨b, o + m * 8 + j, none⟩ = some v := by
  have hg : ∀ j v, (nactC acts[m])[j]? = some v → (acts.map nactC).flatten[m * 8 + j]? = some v := fun j v hv =>
    flatten_get (sz := 8) (acts.map nactC) (fun cs hcs => by obtain ⟨x, _, rfl⟩ := List.mem_map.1 hcs; rfl) m j (nactC acts[m]) v (by rw [List.getElem?_map, List.getElem?_eq_getElem hm]; rfl) hv
  obtain ⟨b, o, ha, _⟩ := hR _ _ (hg 0 _ rfl)
  refine ⟨b, o, ha, fun j v hv => ?_⟩
  obtain ⟨b', o', ha', hc⟩ := hR _ _ (hg j v hv)
  rw [ha] at ha'
  cases ha'
  rw [Nat.add_assoc]
  exact hc
theorem inf90 : infB Tryd.prog 90 8 80 (.agg #[.int .u8 0, .int .i64 0, .slice none 0 0, .int .i64 0, .int .i64 0, .int .i64 0, .int .i64 0, .int .i64 0]) := ⟨_, rfl, rfl, rfl, rfl⟩
theorem few24_ok (w : World) (a : Option Addr) (c : Nat) (acts : List NAct) (hR : Rd w a (acts.map nactC).flatten) (hl : acts.length ≤ 9223372036854775807) (hA : ∀ x ∈ acts, x.us.length ≤ 140737488355328) :
    Ret Tryd.prog 52 [.slice a acts.length c] w (fun v w' => (∃ b, v = .bool b ∧ (b = true → acts.length ≤ 61 ∧ ∀ x ∈ acts, x.us.length ≤ 3000)) ∧ Keep [] w w') := by
  refine fn_enter (n := 25) Tryd.func52 rfl rfl (Nat.le_of_ble_eq_true rfl) (fun e => ?_)
  refine k_seq ?_
  refine k_region ?_
  refine m_bool rfl rfl ?_
  refine o_nil ?_
  refine k_seq ?_
  refine k_region ?_
  refine m_int rfl rfl ?_
  refine o_nil ?_
  refine k_seq ?_
  refine k_seq ?_
  refine k_region ?_
  refine m_sl rfl rfl ?_
  refine o_lens Tryd.underlying87 rfl ?_
  refine m_int rfl rfl ?_
  refine o_nil ?_
  refine k_block ?_
  refine k_loop (σ := Nat × Int) (fun s => [(3, .int .i64 s.2), (6, .slice a acts.length c), (7, .int .i64 (acts.length : Int)), (8, .int .i64 (s.1 : Int))]) (fun s w' => s.1 ≤ acts.length ∧ s.1 ≤ 61 ∧ (0 ≤ s.2 ∧ s.2 ≤ 3000) ∧ (∀ x ∈ acts.take s.1, x.us.length ≤ 3000) ∧ Keep [] w w') (fun s => acts.length - s.1) (0, 0) ⟨rfl, rfl, rfl, rfl, trivial⟩ ⟨Nat.zero_le _, by decide, by decide, by simp, Keep.refl _ _⟩ (fun s e w1 hJ => ?_)
  obtain ⟨m, t⟩ := s
  obtain ⟨hm, hm61, ht, hpre, hK1⟩ := hJ
  dsimp only at hm hm61 ht hpre ⊢
  refine k_seq ?_
  refine k_region ?_
  refine b_lss rfl rfl ?_
  refine o_nil ?_
  refine k_seq ?_
  refine k_cond rfl (fun h => ?_) (fun h => ?_)
  rotate_left
  ·
    refine k_exit rfl ?_
    refine k_seq ?_
    refine k_region ?_
    refine m_bool rfl rfl ?_
    refine o_nil ?_
    refine k_ret (ret_tmps (ts := [2]) (v := .bool _) rfl rfl ?_)
    have hme : m = acts.length := by omega
    subst hme
    rw [List.take_length] at hpre
    exact ⟨⟨true, rfl, fun _ => ⟨hm61, hpre⟩⟩, hK1⟩
  have hml : m < acts.length := by omega
  obtain ⟨x, hx⟩ : ∃ x, acts[m] = x := ⟨_, rfl⟩
  have hxA : x.us.length ≤ 140737488355328 := by rw [← hx]; exact hA _ (List.getElem_mem _)
  obtain ⟨b1, o1, hae, hcell⟩ := nact_at (hR.new hK1) hml
  rw [hx] at hcell
  subst hae
  refine k_skip ?_
  refine k_seq ?_
  refine k_block ?_
  refine k_seq ?_
  refine k_region ?_
  refine m_int rfl rfl ?_
  refine o_ixs (m := m) (sz := 8) Tryd.underlying87 rfl rfl rfl hml ?_
  refine o_lda (xs := nactC x) rfl rfl rfl hcell ?_
  refine o_alloc inf90 rfl (fun b2 w2 hB2 hK2 hb2 hZ2 => ?_)
  refine m_int rfl rfl ?_
  refine o_sta (xs := nactC x) rfl rfl rfl (nact_one x) hB2 (Nat.le_refl 8) (fun w3 hB3 hK3 hZ3 => ?_)
  have hB3' : Blk w3 b2 (nactC x).toArray 90 := hB3
  have hK13 : Keep [] w1 w3 := hK2.tr1 hK3 (by omega)
  refine o_nil ?_
  refine k_seq ?_
  refine k_region ?_
  refine m_int rfl rfl ?_
  refine o_fld (off := 2) rfl rfl ?_
  refine o_ld (v := .slice x.ua x.us.length x.uc) rfl rfl (hB3'.at rfl) ?_
  refine o_lens Tryd.underlying77 rfl ?_
  refine n_add rfl rfl (by omega) ?_
  refine m_int rfl rfl ?_
  refine o_nil ?_
  refine k_seq ?_
  refine k_region ?_
  refine m_int rfl rfl ?_
  refine b_gtr rfl rfl ?_
  refine m_bool rfl rfl ?_
  refine o_split (t := 20) rfl (fun h => ?_) (fun h => ?_)
  ·
    refine g_no rfl rfl rfl ?_
    refine g_no rfl rfl rfl ?_
    refine pick_t rfl rfl ?_
    refine o_nil ?_
    refine k_condt rfl ?_
    refine k_seq ?_
    refine k_region ?_
    refine m_bool rfl rfl ?_
    refine o_nil ?_
    refine k_ret (ret_tmps (ts := [2]) (v := .bool _) rfl rfl ?_)
    exact ⟨⟨false, rfl, fun hh => by cases hh⟩, hK1.tr hK13⟩
  ·
    have h20 := h
    refine g_yes rfl rfl ?_
    refine m_int rfl rfl ?_
    refine g_yes rfl rfl ?_
    refine b_gtr rfl rfl ?_
    refine pick_f rfl rfl ?_
    refine o_nil ?_
    refine k_cond rfl (fun h => ?_) (fun h => ?_)
    ·
      refine k_seq ?_
      refine k_region ?_
      refine m_bool rfl rfl ?_
      refine o_nil ?_
      refine k_ret (ret_tmps (ts := [2]) (v := .bool _) rfl rfl ?_)
      exact ⟨⟨false, rfl, fun hh => by cases hh⟩, hK1.tr hK13⟩
    refine k_skip ?_
    refine k_blk ?_
    refine k_region ?_
    refine n_add rfl rfl (by omega) ?_
    refine m_int rfl rfl ?_
    refine o_nil ?_
    refine k_goal ⟨(m + 1, t + x.us.length), ⟨rfl, rfl, rfl, rfl, trivial⟩, ⟨by dsimp only; omega, by dsimp only; omega, by dsimp only; omega, ?_, hK1.tr hK13⟩, by dsimp only; omega⟩
    dsimp only
    rw [List.take_succ_eq_append_getElem hml, hx]
    intro y hy
    rcases List.mem_append.1 hy with hy | hy
    · exact hpre y hy
    · rw [List.mem_singleton.1 hy]; omega
theorem HP.wide {k k' : Nat → Prop} {w : World} {hb : Nat} {ws : List Int} {lim : Int} {L : List Int} (h : HP k w hb ws lim L) (hk : ∀ b, k b → k' b) : HP k' w hb ws lim L := by
  obtain ⟨a, c, r, m, h1, h2, h3, h4, h5, h6, h7⟩ := h
  exact ⟨a, c, r, m, h1, h2, h3, h4, hk _ h5, hk _ h6, fun z hz => hk _ (h7 z hz)⟩
theorem HP.tight {k : Nat → Prop} {w : World} {hb : Nat} {ws : List Int} {lim : Int} {L : List Int} (h : HP k w hb ws lim L) : ∃ k' : Nat → Prop, (∀ b, k' b → k b ∧ b < w.heap.size) ∧ HP k' w hb ws lim L := by
  obtain ⟨a, c, r, m, h1, h2, h3, h4, h5, h6, h7⟩ := h
  refine ⟨fun b => b = hb ∨ b = r ∨ ∃ z, a = some z ∧ b = z.block, fun b hb => ?_, a, c, r, m, h1, h2, h3, h4, .inl rfl, .inr (.inl rfl), fun z hz => .inr (.inr ⟨z, hz, rfl⟩)⟩
  rcases hb with rfl | rfl | ⟨z, hz, rfl⟩
  · exact ⟨h5, h1.lt⟩
  · exact ⟨h6, h3.lt⟩
  · exact ⟨h7 z hz, h2.lt z hz⟩
theorem HP.kh {k k' : Nat → Prop} {w w' : World} {hb : Nat} {ws : List Int} {lim : Int} {L : List Int} (h : HP k w hb ws lim L) (hK : KeepH k' w w') (hd : ∀ b, k b → ¬ k' b) : HP k w' hb ws lim L := by
  obtain ⟨a, c, r, m, h1, h2, h3, h4, h5, h6, h7⟩ := h
  obtain ⟨S, s1, s2⟩ := hK
  exact ⟨a, c, r, m, h1.keep s1 (fun hm => hd _ h5 (s2 _ hm).1), h2.keep s1 (fun z hz hm => hd _ (h7 z hz) (s2 _ hm).1), h3.keep s1 (fun hm => hd _ h6 (s2 _ hm).1), h4, h5, h6, h7⟩
theorem RP.kh {k k' : Nat → Prop} {w w' : World} {rb : Nat} {ws : List Int} {lim : Int} (h : RP k w rb ws lim) (hK : KeepH k' w w') (hd : ∀ b, k b → ¬ k' b) : RP k w' rb ws lim := by
  obtain ⟨a, c, h1, h2, h3, h4⟩ := h
  obtain ⟨S, s1, s2⟩ := hK
  exact ⟨a, c, h1.keep s1 (fun hm => hd _ h3 (s2 _ hm).1), h2.keep s1 (fun z hz hm => hd _ (h4 z hz) (s2 _ hm).1), h3, h4⟩
/-- both heaps, apart from each other and from what there was in w0 -/
def Two (w0 w : World) (hb rb : Nat) (ws : List Int) (lim : Int) (L : List Int) : Prop :=
  ∃ kH kR : Nat → Prop, HP kH w hb ws lim L ∧ RP kR w rb ws lim ∧ (∀ b, kH b → ¬ kR b) ∧ (∀ b, kH b → w0.heap.size ≤ b ∧ b < w.heap.size) ∧ (∀ b, kR b → w0.heap.size ≤ b ∧ b < w.heap.size) ∧ Keep [] w0 w
theorem Two.mk' {w0 w : World} {hb rb : Nat} {ws : List Int} {lim : Int} {L : List Int} {kH kR : Nat → Prop} (h1 : HP kH w hb ws lim L) (h2 : RP kR w rb ws lim) (hd : ∀ b, kH b → ¬ kR b) (hH : ∀ b, kH b → w0.heap.size ≤ b) (hR : ∀ b, kR b → w0.heap.size ≤ b) (hK : Keep [] w0 w) : Two w0 w hb rb ws lim L := by
  obtain ⟨k1, a1, a2⟩ := h1.tight
  obtain ⟨k2, b1, b2⟩ := h2.tight
  exact ⟨k1, k2, a2, b2, fun b x y => hd b (a1 b x).1 (b1 b y).1, fun b x => ⟨hH b (a1 b x).1, (a1 b x).2⟩, fun b x => ⟨hR b (b1 b x).1, (b1 b x).2⟩, hK⟩
theorem Two.keep {w0 w : World} {hb rb : Nat} {ws : List Int} {lim : Int} {L : List Int} (h : Two w0 w hb rb ws lim L) : Keep [] w0 w := by obtain ⟨_, _, _, _, _, _, _, h⟩ := h; exact h
theorem Two.new {w0 w w' : World} {hb rb : Nat} {ws : List Int} {lim : Int} {L : List Int} (h : Two w0 w hb rb ws lim L) (hK : Keep [] w w') : Two w0 w' hb rb ws lim L := by
  obtain ⟨kH, kR, h1, h2, h3, h4, h5, h6⟩ := h
  exact ⟨kH, kR, h1.new hK, h2.new hK, h3, fun b hb => ⟨(h4 b hb).1, Nat.lt_of_lt_of_le (h4 b hb).2 hK.size⟩, fun b hb => ⟨(h5 b hb).1, Nat.lt_of_lt_of_le (h5 b hb).2 hK.size⟩, h6.tr hK⟩
theorem Two.hp {w0 w : World} {hb rb : Nat} {ws : List Int} {lim : Int} {L : List Int} (h : Two w0 w hb rb ws lim L) : ∃ k, HP k w hb ws lim L := by obtain ⟨k, _, h, _⟩ := h; exact ⟨k, h⟩
theorem Two.rp {w0 w : World} {hb rb : Nat} {ws : List Int} {lim : Int} {L : List Int} (h : Two w0 w hb rb ws lim L) : ∃ k, RP k w rb ws lim := by obtain ⟨_, k, _, h, _⟩ := h; exact ⟨k, h⟩
/-- first the program turns its heap, then the document its own -/
theorem Two.turn {w0 w : World} {hb rb : Nat} {ws : List Int} {lim : Int} {L : List Int} (h : Two w0 w hb rb ws lim L) :
    ∃ k : Nat → Prop, HP k w hb ws lim L ∧ (∀ b, w.heap.size ≤ b → k b) ∧ (∀ w', KeepH k w w' → Keep [] w0 w') ∧
      ∀ w' ws' L', HRes k w hb lim w' ws' L' → WFH ws' L' ∧ (ws'.length : Int) ≤ lim + 1 ∧ Keep [] w0 w' ∧
        ∃ k' : Nat → Prop, RP k' w' rb ws lim ∧ (∀ b, w'.heap.size ≤ b → k' b) ∧ (∀ w'', KeepH k' w' w'' → Keep [] w0 w'') ∧ ∀ w'', RRes k' w' rb lim w'' ws' L' → Two w0 w'' hb rb ws' lim L' := by
  obtain ⟨kH, kR, h1, h2, h3, h4, h5, h6⟩ := h
  refine ⟨fun b => kH b ∨ w.heap.size ≤ b, h1.wide (fun b hb => .inl hb), fun b hb => .inr hb, fun w' hk => hk.below h6 (fun b hb => hb.elim (fun hh => (h4 b hh).1) (fun hh => Nat.le_trans h6.size hh)), fun w' ws' L' hr => ?_⟩
  obtain ⟨a1, a2, a3, a4⟩ := hr
  have hk6 : Keep [] w0 w' := a4.below h6 (fun b hb => hb.elim (fun hh => (h4 b hh).1) (fun hh => Nat.le_trans h6.size hh))
  have hR' : RP kR w' rb ws lim := h2.kh a4 (fun b hb hh => hh.elim (fun hh => h3 b hh hb) (fun hh => by have := (h5 b hb).2; omega))
  refine ⟨a2, a3, hk6, fun b => kR b ∨ w'.heap.size ≤ b, hR'.wide (fun b hb => .inl hb), fun b hb => .inr hb, fun w'' hk => hk.below hk6 (fun b hb => hb.elim (fun hh => (h5 b hh).1) (fun hh => Nat.le_trans hk6.size hh)), fun w'' hr => ?_⟩
  obtain ⟨b1, b2, b3⟩ := hr
  obtain ⟨k1, c1, c2⟩ := a1.tight
  have hdis : ∀ b, k1 b → ¬ (kR b ∨ w'.heap.size ≤ b) := fun b hb hh => by
    obtain ⟨x1, x2⟩ := c1 b hb
    rcases hh with hh | hh
    · rcases x1 with x1 | x1
      · exact h3 b x1 hh
      · have := (h5 b hh).2; omega
    · omega
  exact Two.mk' (c2.kh b3 hdis) b1 hdis (fun b hb => (c1 b hb).1.elim (fun hh => (h4 b hh).1) (fun hh => Nat.le_trans h6.size hh)) (fun b hb => hb.elim (fun hh => (h5 b hh).1) (fun hh => Nat.le_trans hk6.size hh)) (b3.below hk6 (fun b hb => hb.elim (fun hh => (h5 b hh).1) (fun hh => Nat.le_trans hk6.size hh)))
end Go.Proofs.YtchbidckckmobaaDoor

/- NativePlays. No condition beyond what each contract names. -/
namespace Go.Proofs.YtchbidckckmobaaDoor
open Go.RowKit E
set_option linter.unusedVariables false
set_option linter.unusedSimpArgs false
set_option maxRecDepth 100000
attribute [local irreducible] ow qw kw kq cw opW Ret
/-- what a turn leaves: its answers, alike; its units, alike -/
abbrev NS := Int × Int × Int × Option Addr × Nat × Option Addr × Nat × Us
def NJ (w0 w : World) (hb rb : Nat) (lim : Int) (s : NS) : Prop :=
  (∃ ws L, Two w0 w hb rb ws lim L ∧ WFH ws L ∧ (ws.length : Int) ≤ lim + 1) ∧ Rd w s.2.2.2.1 (s.2.2.2.2.2.2.2.map u16v) ∧ Rd w s.2.2.2.2.2.1 (s.2.2.2.2.2.2.2.map u16v) ∧ s.2.2.2.2.2.2.2.length ≤ 65537
theorem NJ.plain {w0 w : World} {hb rb : Nat} {ws L : List Int} {lim p e v : Int} (hT : Two w0 w hb rb ws lim L) (hW : WFH ws L) (hu : (ws.length : Int) ≤ lim + 1) : NJ w0 w hb rb lim (p, e, v, none, 0, none, 0, []) :=
  ⟨⟨ws, L, hT, hW, hu⟩, Rd.nil _ _, Rd.nil _ _, Nat.zero_le _⟩
theorem nplays_ok (w : World) (lim0 : BitVec 16) (a : Option Addr) (c : Nat) (acts : List NAct) (hR : Rd w a (acts.map nactC).flatten) (hl : acts.length ≤ 9223372036854775807) (hA : ∀ x ∈ acts, NActOk w x) (ht : Tab10 w) :
    Ret Tryd.prog 15 [.int .u16 (lim0.toNat : Int), .slice a acts.length c] w (fun v w' => v = .bool true ∧ Keep [] w w') := by
  refine fn_enter (n := 238) Tryd.func15 rfl rfl (Nat.le_of_ble_eq_true rfl) (fun e => ?_)
  refine k_seq ?_
  refine k_region ?_
  refine m_bool rfl rfl ?_
  refine o_nil ?_
  refine k_seq ?_
  refine k_seq ?_
  refine k_region ?_
  refine o_call rfl rfl (fixed24_ok w ht) (fun v w1 hv => ?_)
  obtain ⟨rfl, hK1⟩ := hv
  refine u_not (p := True) rfl ?_
  refine o_nil ?_
  refine k_no rfl ((fun h => h trivial)) ?_
  refine k_skip ?_
  refine k_seq ?_
  refine k_seq ?_
  refine k_region ?_
  refine m_sl rfl rfl ?_
  refine o_call rfl rfl (few24_ok w1 a c acts (hR.new hK1) hl (fun x hx => (hA x hx).len)) (fun v w2 hv => ?_)
  obtain ⟨⟨bf, rfl, hfew⟩, hK2⟩ := hv
  have hK02 := hK1.tr hK2
  refine u_notb rfl ?_
  refine o_nil ?_
  refine k_condb rfl (fun h => ?_) (fun h => ?_)
  ·
    refine k_seq ?_
    refine k_region ?_
    refine m_bool rfl rfl ?_
    refine o_nil ?_
    refine k_ret (ret_tmps (ts := [4]) (v := .bool _) rfl rfl ?_)
    exact ⟨rfl, hK02⟩
  obtain ⟨hl61, hl3⟩ := hfew (by cases bf <;> simp_all)
  clear hfew
  obtain ⟨lim, hlim⟩ : ∃ lim : Int, ((lim0 % 4000#16).toNat : Int) = lim := ⟨_, rfl⟩
  have hlim2 : 0 ≤ lim ∧ lim ≤ 65536 := by have := (lim0 % 4000#16).isLt; omega
  refine k_skip ?_
  refine k_seq ?_
  refine k_region ?_
  refine m_int rfl rfl ?_
  refine v16_rem (b := 4000#16) rfl rfl (by decide) ?_
  refine cv16_i rfl Tryd.underlying3 rfl ?_
  rw [hlim]
  refine o_call rfl rfl (hnew_ok w2 lim) (fun v w3 hv => ?_)
  obtain ⟨hK3, hv⟩ := hv
  rw [if_pos hlim2] at hv
  obtain ⟨hb, rfl, hHP3⟩ := hv
  refine m_any rfl rfl ?_
  refine o_extr rfl rfl ?_
  refine o_extr rfl rfl ?_
  refine m_ptr rfl rfl ?_
  refine m_int rfl rfl ?_
  refine o_nil ?_
  refine k_seq ?_
  refine k_region ?_
  refine m_int rfl rfl ?_
  refine v16_rem (b := 4000#16) rfl rfl (by decide) ?_
  refine cv16_i rfl Tryd.underlying3 rfl ?_
  rw [hlim]
  refine o_call rfl rfl (rnew_ok w3 lim) (fun v w4 hv => ?_)
  obtain ⟨hK4, hv⟩ := hv
  rw [if_pos hlim2] at hv
  obtain ⟨rb, rfl, hRP4⟩ := hv
  have hK03 := hK02.tr hK3
  have hK04 := hK03.tr hK4
  obtain ⟨k3, hk3, hHP3'⟩ := hHP3.tight
  have hT4 : Two w w4 hb rb [0] lim [] := Two.mk' (hHP3'.new hK4) hRP4 (fun b x y => by have := (hk3 b x).2; omega) (fun b x => Nat.le_trans hK02.size (hk3 b x).1) (fun b x => Nat.le_trans hK03.size x) hK04
  clear hHP3 hHP3' hRP4 hk3
  refine m_any rfl rfl ?_
  refine o_extr rfl rfl ?_
  refine o_extr rfl rfl ?_
  refine m_ptr rfl rfl ?_
  refine m_int rfl rfl ?_
  refine o_nil ?_
  refine k_seq ?_
  refine k_seq ?_
  refine k_region ?_
  refine m_ptr rfl rfl ?_
  refine b_eqlp Tryd.underlying41 rfl rfl ?_
  refine o_nil ?_
  refine k_no rfl ((by intro h; cases h)) ?_
  refine k_skip ?_
  refine k_seq ?_
  refine k_seq ?_
  refine k_region ?_
  refine m_sl rfl rfl ?_
  refine o_lens Tryd.underlying87 rfl ?_
  refine m_int rfl rfl ?_
  refine o_nil ?_
  refine k_block ?_
  refine k_loop (σ := Nat) (fun m => [(5, .pointer (some ⟨hb, 0, none⟩)), (7, .pointer (some ⟨rb, 0, none⟩)), (40, .slice a acts.length c), (41, .int .i64 (acts.length : Int)), (42, .int .i64 (m : Int))]) (fun m w' => m ≤ acts.length ∧ ∃ ws L, Two w w' hb rb ws lim L ∧ WFH ws L ∧ (ws.length : Int) ≤ lim + 1) (fun m => acts.length - m) 0 ⟨rfl, rfl, rfl, rfl, rfl, trivial⟩ ⟨Nat.zero_le _, [0], [], hT4, WFH.one, by simp; omega⟩ (fun m e w5 hJ => ?_)
  obtain ⟨hm, ws, L, hT5, hW5, hu5⟩ := hJ
  refine k_seq ?_
  refine k_region ?_
  refine b_lss rfl rfl ?_
  refine o_nil ?_
  refine k_seq ?_
  refine k_cond rfl (fun h => ?_) (fun h => ?_)
  rotate_left
  ·
    refine k_exit rfl ?_
    refine k_seq ?_
    refine k_region ?_
    refine m_bool rfl rfl ?_
    refine o_nil ?_
    refine k_ret (ret_tmps (ts := [4]) (v := .bool _) rfl rfl ?_)
    exact ⟨rfl, hT5.keep⟩
  have hml : m < acts.length := by omega
  obtain ⟨x, hx⟩ : ∃ x, acts[m] = x := ⟨_, rfl⟩
  have hxA : NActOk w x := by rw [← hx]; exact hA _ (List.getElem_mem _)
  have hx3 : x.us.length ≤ 3000 := by rw [← hx]; exact hl3 _ (List.getElem_mem _)
  have hxcl := hxA.cl
  have hxi := hxA.i
  have hxk := hxA.k
  have hxn := hxA.n
  obtain ⟨b1, o1, hae, hcell⟩ := nact_at (hR.new hT5.keep) hml
  rw [hx] at hcell
  subst hae
  refine k_skip ?_
  refine k_seq ?_
  refine k_block ?_
  refine k_seq ?_
  refine k_region ?_
  refine o_ixs (m := m) (sz := 8) Tryd.underlying87 rfl rfl rfl hml ?_
  refine o_lda (xs := nactC x) rfl rfl rfl hcell ?_
  refine o_alloc inf90 rfl (fun b6 w6 hB6 hK6 hb6 hZ6 => ?_)
  refine o_sta (xs := nactC x) rfl rfl rfl (nact_one x) hB6 (Nat.le_refl 8) (fun w7 hB7 hK7 hZ7 => ?_)
  have hB : Blk w7 b6 (nactC x).toArray 90 := hB7
  have hT7 := hT5.new (hK6.tr1 hK7 (by omega))
  have hK07 := hT7.keep
  clear hB6 hK6 hB7 hK7 hZ7 hT5
  obtain ⟨kH, hHP, hkH, hbel, hturn⟩ := hT7.turn
  refine o_nil ?_
  refine k_seq ?_
  refine k_region ?_
  refine m_int rfl rfl ?_
  refine m_int rfl rfl ?_
  refine o_nil ?_
  refine k_seq ?_
  refine k_region ?_
  refine m_int rfl rfl ?_
  refine m_int rfl rfl ?_
  refine o_nil ?_
  refine k_seq ?_
  refine k_region ?_
  refine m_int rfl rfl ?_
  refine m_int rfl rfl ?_
  refine o_nil ?_
  refine k_seq ?_
  refine k_region ?_
  refine m_sl rfl rfl ?_
  refine m_sl rfl rfl ?_
  refine o_nil ?_
  refine k_seq ?_
  refine k_seq ?_
  refine k_region ?_
  refine o_fld0 rfl rfl ?_
  refine o_ld (v := .int .u8 (x.kd.toNat : Int)) rfl rfl (hB.at rfl) ?_
  refine v8_rem (b := 8#8) rfl rfl (by decide) ?_
  refine o_nil ?_
  refine k_cut (σ := NS) (fun s => [(5, .pointer (some ⟨hb, 0, none⟩)), (7, .pointer (some ⟨rb, 0, none⟩)), (11, .int .i64 s.1), (12, .int .i64 s.1), (13, .int .i64 s.2.1), (14, .int .i64 s.2.1), (15, .int .i64 s.2.2.1), (16, .int .i64 s.2.2.1), (17, .slice s.2.2.2.1 s.2.2.2.2.2.2.2.length s.2.2.2.2.1), (18, .slice s.2.2.2.2.2.1 s.2.2.2.2.2.2.2.length s.2.2.2.2.2.2.1), (40, .slice (some ⟨b1, o1, none⟩) acts.length c), (41, .int .i64 (acts.length : Int)), (42, .int .i64 (m : Int))]) (fun s w' => NJ w w' hb rb lim s) ?_ (fun s e w9 hJ => ?_)
  ·
    refine k_block ?_
    refine k_seq ?_
    refine k_region ?_
    refine v8_eql (b := 0#8) rfl rfl ?_
    refine m_bool rfl rfl ?_
    refine o_nil ?_
    refine k_cond rfl (fun h => ?_) (fun h => ?_)
    ·
      refine k_seq ?_
      refine k_region ?_
      refine m_ptr rfl rfl ?_
      refine o_fld (off := 1) rfl rfl ?_
      refine o_ld (v := iv x.cl) rfl rfl (hB.at rfl) ?_
      refine o_fld (off := 2) rfl rfl ?_
      refine o_ld (v := .slice x.ua x.us.length x.uc) rfl rfl (hB.at rfl) ?_
      refine o_call rfl rfl (make_ok kH w7 hb ws lim L x.cl x.ua x.uc x.us hHP hW5 hlim2.2 hu5 hkH hxcl (hxA.rd.new hK07) (by omega) (fun w' hk' => hxA.rd.new (hbel w' hk'))) (fun v w8 hv => ?_)
      obtain ⟨rfl, hr⟩ := hv
      have hB8 := hB.kh hr.2.2.2 (by decide)
      obtain ⟨hW8, hu8, hK8, kR, hRP, hkR, hbel2, hback⟩ := hturn _ _ _ hr
      refine m_any rfl rfl ?_
      refine o_extr rfl rfl ?_
      refine o_extr rfl rfl ?_
      refine m_int rfl rfl ?_
      refine m_int rfl rfl ?_
      refine o_nil ?_
      refine k_region ?_
      refine m_ptr rfl rfl ?_
      refine o_fld (off := 1) rfl rfl ?_
      refine o_ld (v := iv x.cl) rfl rfl (hB8.at rfl) ?_
      refine o_fld (off := 2) rfl rfl ?_
      refine o_ld (v := .slice x.ua x.us.length x.uc) rfl rfl (hB8.at rfl) ?_
      refine o_call rfl rfl (rmake_ok kR w8 rb ws lim L x.cl x.ua x.uc x.us hRP hW5 hlim2.2 hlim2.1 hu5 hkR (by omega) (fun w' hk' => hxA.rd.new (hbel2 w' hk'))) (fun v w9 hv => ?_)
      obtain ⟨rfl, hr⟩ := hv
      refine m_any rfl rfl ?_
      refine o_extr rfl rfl ?_
      refine o_extr rfl rfl ?_
      refine m_int rfl rfl ?_
      refine m_int rfl rfl ?_
      refine o_nil ?_
      refine k_blk ?_
      refine k_goal ⟨((makeN ws L lim x.cl x.us).1, (makeN ws L lim x.cl x.us).2.1, 0, none, 0, none, 0, []), ⟨rfl, rfl, rfl, rfl, rfl, rfl, rfl, rfl, rfl, rfl, rfl, rfl, rfl, trivial⟩, NJ.plain (hback _ hr) hW8 hu8⟩
    refine k_seq ?_
    refine k_region ?_
    refine v8_eql (b := 1#8) rfl rfl ?_
    refine m_bool rfl rfl ?_
    refine o_nil ?_
    refine k_cond rfl (fun h => ?_) (fun h => ?_)
    ·
      refine k_seq ?_
      refine k_region ?_
      refine m_ptr rfl rfl ?_
      refine o_fld (off := 1) rfl rfl ?_
      refine o_ld (v := iv x.cl) rfl rfl (hB.at rfl) ?_
      refine o_fld (off := 3) rfl rfl ?_
      refine o_ld (v := iv x.a) rfl rfl (hB.at rfl) ?_
      refine o_fld (off := 4) rfl rfl ?_
      refine o_ld (v := iv x.b) rfl rfl (hB.at rfl) ?_
      refine o_call rfl rfl (conc_ok kH w7 hb ws lim L x.cl x.a x.b hHP hW5 hlim2.2 hu5 hkH hxcl) (fun v w8 hv => ?_)
      obtain ⟨rfl, hr⟩ := hv
      have hB8 := hB.kh hr.2.2.2 (by decide)
      obtain ⟨hW8, hu8, hK8, kR, hRP, hkR, hbel2, hback⟩ := hturn _ _ _ hr
      refine m_any rfl rfl ?_
      refine o_extr rfl rfl ?_
      refine o_extr rfl rfl ?_
      refine m_int rfl rfl ?_
      refine m_int rfl rfl ?_
      refine o_nil ?_
      refine k_region ?_
      refine m_ptr rfl rfl ?_
      refine o_fld (off := 1) rfl rfl ?_
      refine o_ld (v := iv x.cl) rfl rfl (hB8.at rfl) ?_
      refine o_fld (off := 3) rfl rfl ?_
      refine o_ld (v := iv x.a) rfl rfl (hB8.at rfl) ?_
      refine o_fld (off := 4) rfl rfl ?_
      refine o_ld (v := iv x.b) rfl rfl (hB8.at rfl) ?_
      refine o_call rfl rfl (rconc_ok kR w8 rb ws lim L x.cl x.a x.b hRP hW5 hlim2.2 hlim2.1 hu5 hkR) (fun v w9 hv => ?_)
      obtain ⟨rfl, hr⟩ := hv
      refine m_any rfl rfl ?_
      refine o_extr rfl rfl ?_
      refine o_extr rfl rfl ?_
      refine m_int rfl rfl ?_
      refine m_int rfl rfl ?_
      refine o_nil ?_
      refine k_blk ?_
      refine k_goal ⟨((concN ws L lim x.cl x.a x.b).1, (concN ws L lim x.cl x.a x.b).2.1, 0, none, 0, none, 0, []), ⟨rfl, rfl, rfl, rfl, rfl, rfl, rfl, rfl, rfl, rfl, rfl, rfl, rfl, trivial⟩, NJ.plain (hback _ hr) hW8 hu8⟩
    refine k_seq ?_
    refine k_region ?_
    refine v8_eql (b := 2#8) rfl rfl ?_
    refine m_bool rfl rfl ?_
    refine o_nil ?_
    refine k_cond rfl (fun h => ?_) (fun h => ?_)
    ·
      obtain ⟨kq, hRPq⟩ := hT7.rp
      refine k_seq ?_
      refine k_qk 11 rfl rfl rfl rfl rfl ?_
      refine q_step (fun w1 hC => m_ptr rfl rfl (o_nil ⟨rfl, hC⟩)) ?_
      refine q_step (fun w1 hC => o_fld (off := 3) rfl rfl (o_nil ⟨rfl, hC⟩)) ?_
      refine q_step (fun w1 hC => o_ld (v := iv x.a) rfl rfl (hB.kat hC rfl) (o_nil ⟨rfl, hC⟩)) ?_
      refine q_step (fun w1 hC => o_fld (off := 4) rfl rfl (o_nil ⟨rfl, hC⟩)) ?_
      refine q_step (fun w1 hC => o_ld (v := iv x.b) rfl rfl (hB.kat hC rfl) (o_nil ⟨rfl, hC⟩)) ?_
      refine q_step (v := .bool (equN ws L x.a x.b)) (fun w1 hC => o_call rfl rfl (equ_ok kH w1 hb ws lim L x.a x.b (hHP.new hC) hW5) (fun v w2 hv => by obtain ⟨rfl, hK⟩ := hv; exact o_nil ⟨rfl, hC.tr hK⟩)) ?_
      refine q_step (fun w1 hC => m_ptr rfl rfl (o_nil ⟨rfl, hC⟩)) ?_
      refine q_step (fun w1 hC => o_fld (off := 3) rfl rfl (o_nil ⟨rfl, hC⟩)) ?_
      refine q_step (fun w1 hC => o_ld (v := iv x.a) rfl rfl (hB.kat hC rfl) (o_nil ⟨rfl, hC⟩)) ?_
      refine q_step (fun w1 hC => o_fld (off := 4) rfl rfl (o_nil ⟨rfl, hC⟩)) ?_
      refine q_step (fun w1 hC => o_ld (v := iv x.b) rfl rfl (hB.kat hC rfl) (o_nil ⟨rfl, hC⟩)) ?_
      refine q_nil ?_
      intro w8 hC8
      refine o_call rfl rfl (requ_ok kq w8 rb ws lim L x.a x.b (hRPq.new hC8) hW5) (fun v w9 hv => ?_)
      obtain ⟨rfl, hK9⟩ := hv
      refine b_neqb Tryd.underlying4 rfl rfl ?_
      refine o_nil ?_
      refine k_no rfl ((fun h => h rfl)) ?_
      refine k_skip ?_
      refine k_blk ?_
      refine k_goal ⟨(0, 0, 0, none, 0, none, 0, []), ⟨rfl, rfl, rfl, rfl, rfl, rfl, rfl, rfl, rfl, rfl, rfl, rfl, rfl, trivial⟩, NJ.plain ((hT7.new hC8).new hK9) hW5 hu5⟩
    refine k_seq ?_
    refine k_region ?_
    refine v8_eql (b := 3#8) rfl rfl ?_
    refine m_bool rfl rfl ?_
    refine o_nil ?_
    refine k_cond rfl (fun h => ?_) (fun h => ?_)
    ·
      obtain ⟨kq, hRPq⟩ := hT7.rp
      refine k_seq ?_
      refine k_region ?_
      refine m_ptr rfl rfl ?_
      refine o_fld (off := 3) rfl rfl ?_
      refine o_ld (v := iv x.a) rfl rfl (hB.at rfl) ?_
      refine o_fld (off := 5) rfl rfl ?_
      refine o_ld (v := iv x.i) rfl rfl (hB.at rfl) ?_
      refine o_call rfl rfl (char_ok kH w7 hb ws lim L x.a x.i hHP hW5) (fun v w8 hv => ?_)
      obtain ⟨rfl, rfl⟩ := hv
      refine m_any rfl rfl ?_
      refine o_extr rfl rfl ?_
      refine o_extr rfl rfl ?_
      refine m_int rfl rfl ?_
      refine m_int rfl rfl ?_
      refine o_nil ?_
      refine k_region ?_
      refine m_ptr rfl rfl ?_
      refine o_fld (off := 3) rfl rfl ?_
      refine o_ld (v := iv x.a) rfl rfl (hB.at rfl) ?_
      refine o_fld (off := 5) rfl rfl ?_
      refine o_ld (v := iv x.i) rfl rfl (hB.at rfl) ?_
      refine o_call rfl rfl (rchar_ok kq w8 rb ws lim L x.a x.i hRPq hW5) (fun v w9 hv => ?_)
      obtain ⟨rfl, hK9⟩ := hv
      refine m_any rfl rfl ?_
      refine o_extr rfl rfl ?_
      refine o_extr rfl rfl ?_
      refine m_int rfl rfl ?_
      refine m_int rfl rfl ?_
      refine o_nil ?_
      refine k_blk ?_
      refine k_goal ⟨(0, (charN ws L x.a x.i).2, (charN ws L x.a x.i).1, none, 0, none, 0, []), ⟨rfl, rfl, rfl, rfl, rfl, rfl, rfl, rfl, rfl, rfl, rfl, rfl, rfl, trivial⟩, NJ.plain (hT7.new hK9) hW5 hu5⟩
    refine k_seq ?_
    refine k_region ?_
    refine v8_eql (b := 4#8) rfl rfl ?_
    refine m_bool rfl rfl ?_
    refine o_nil ?_
    refine k_cond rfl (fun h => ?_) (fun h => ?_)
    ·
      refine k_seq ?_
      refine k_region ?_
      refine m_ptr rfl rfl ?_
      refine o_fld (off := 3) rfl rfl ?_
      refine o_ld (v := iv x.a) rfl rfl (hB.at rfl) ?_
      refine o_fld (off := 5) rfl rfl ?_
      refine o_ld (v := iv x.i) rfl rfl (hB.at rfl) ?_
      refine o_fld (off := 4) rfl rfl ?_
      refine o_ld (v := iv x.b) rfl rfl (hB.at rfl) ?_
      refine o_fld (off := 6) rfl rfl ?_
      refine o_ld (v := iv x.k) rfl rfl (hB.at rfl) ?_
      refine o_fld (off := 7) rfl rfl ?_
      refine o_ld (v := iv x.n) rfl rfl (hB.at rfl) ?_
      refine o_call rfl rfl (copy_ok kH w7 hb ws lim L x.a x.i x.b x.k x.n hHP hW5 hu5 hxi hxk hxn) (fun v w8 hv => ?_)
      obtain ⟨rfl, hr⟩ := hv
      have hB8 := hB.kh hr.2.2.2 (by decide)
      obtain ⟨hW8, hu8, hK8, kR, hRP, hkR, hbel2, hback⟩ := hturn _ _ _ hr
      refine m_int rfl rfl ?_
      refine o_nil ?_
      refine k_region ?_
      refine m_ptr rfl rfl ?_
      refine o_fld (off := 3) rfl rfl ?_
      refine o_ld (v := iv x.a) rfl rfl (hB8.at rfl) ?_
      refine o_fld (off := 5) rfl rfl ?_
      refine o_ld (v := iv x.i) rfl rfl (hB8.at rfl) ?_
      refine o_fld (off := 4) rfl rfl ?_
      refine o_ld (v := iv x.b) rfl rfl (hB8.at rfl) ?_
      refine o_fld (off := 6) rfl rfl ?_
      refine o_ld (v := iv x.k) rfl rfl (hB8.at rfl) ?_
      refine o_fld (off := 7) rfl rfl ?_
      refine o_ld (v := iv x.n) rfl rfl (hB8.at rfl) ?_
      refine o_call rfl rfl (rcopy_ok kR w8 rb ws lim L x.a x.i x.b x.k x.n hRP hW5 hxi hxk hxn) (fun v w9 hv => ?_)
      rw [copy_eq hW5] at hv
      obtain ⟨rfl, hr⟩ := hv
      refine m_int rfl rfl ?_
      refine o_nil ?_
      refine k_blk ?_
      refine k_goal ⟨(0, (copyN ws L x.a x.i x.b x.k x.n).1, 0, none, 0, none, 0, []), ⟨rfl, rfl, rfl, rfl, rfl, rfl, rfl, rfl, rfl, rfl, rfl, rfl, rfl, trivial⟩, NJ.plain (hback _ hr) hW8 hu8⟩
    refine k_seq ?_
    refine k_region ?_
    refine v8_eql (b := 5#8) rfl rfl ?_
    refine m_bool rfl rfl ?_
    refine o_nil ?_
    refine k_cond rfl (fun h => ?_) (fun h => ?_)
    ·
      refine k_seq ?_
      refine k_region ?_
      refine m_ptr rfl rfl ?_
      refine o_fld (off := 1) rfl rfl ?_
      refine o_ld (v := iv x.cl) rfl rfl (hB.at rfl) ?_
      refine o_fld (off := 2) rfl rfl ?_
      refine o_ld (v := .slice x.ua x.us.length x.uc) rfl rfl (hB.at rfl) ?_
      refine o_lens Tryd.underlying77 rfl ?_
      refine o_call rfl rfl (harray_ok kH w7 hb ws lim L x.cl (x.us.length : Int) true hHP hW5 hlim2.2 hu5 hkH hxcl (by omega)) (fun v w8 hv => ?_)
      obtain ⟨rfl, hr⟩ := hv
      rw [show (if true = true then (3 : Int) else 2) = 3 from rfl] at hr ⊢
      have hB8 := hB.kh hr.2.2.2 (by decide)
      obtain ⟨hW8, hu8, hK8, kR, hRP, hkR, hbel2, hback⟩ := hturn _ _ _ hr
      refine m_any rfl rfl ?_
      refine o_extr rfl rfl ?_
      refine o_extr rfl rfl ?_
      refine m_int rfl rfl ?_
      refine m_int rfl rfl ?_
      refine o_nil ?_
      refine k_region ?_
      refine m_ptr rfl rfl ?_
      refine o_fld (off := 1) rfl rfl ?_
      refine o_ld (v := iv x.cl) rfl rfl (hB8.at rfl) ?_
      refine o_fld (off := 2) rfl rfl ?_
      refine o_ld (v := .slice x.ua x.us.length x.uc) rfl rfl (hB8.at rfl) ?_
      refine o_lens Tryd.underlying77 rfl ?_
      refine o_call rfl rfl (rarray_ok kR w8 rb ws lim L x.cl (x.us.length : Int) true hRP hW5 hlim2.2 hlim2.1 hu5 hkR (by omega)) (fun v w9 hv => ?_)
      obtain ⟨rfl, hr⟩ := hv
      rw [show (if true = true then (3 : Int) else 2) = 3 from rfl] at hr ⊢
      refine m_any rfl rfl ?_
      refine o_extr rfl rfl ?_
      refine o_extr rfl rfl ?_
      refine m_int rfl rfl ?_
      refine m_int rfl rfl ?_
      refine o_nil ?_
      refine k_blk ?_
      refine k_goal ⟨((layH ws L lim 3 x.cl (x.us.length : Int) 0).1, (layH ws L lim 3 x.cl (x.us.length : Int) 0).2.1, 0, none, 0, none, 0, []), ⟨rfl, rfl, rfl, rfl, rfl, rfl, rfl, rfl, rfl, rfl, rfl, rfl, rfl, trivial⟩, NJ.plain (hback _ hr) hW8 hu8⟩
    refine k_seq ?_
    refine k_region ?_
    refine v8_eql (b := 6#8) rfl rfl ?_
    refine m_bool rfl rfl ?_
    refine o_nil ?_
    refine k_cond rfl (fun h => ?_) (fun h => ?_)
    ·
      refine k_seq ?_
      refine k_region ?_
      refine m_ptr rfl rfl ?_
      refine o_fld (off := 1) rfl rfl ?_
      refine o_ld (v := iv x.cl) rfl rfl (hB.at rfl) ?_
      refine o_bsl (E := 4) (cs := #[.bool true, .bool false]) rfl (fun _ => by kernel_rfl) (fun g8 w8 hB8 hK8 hb8 hZ8 => ?_)
      have hR8 : Rd w8 (some ⟨g8, 0, none⟩) ([true, false].map Value.bool) := hB8.rd
      have hT8 := hT7.new hK8
      clear hturn hHP hkH hbel
      obtain ⟨kH, hHP, hkH, hbel, hturn⟩ := hT8.turn
      have hB1 := hB.keep hK8 (by simp)
      refine o_call rfl rfl (hobject_ok kH w8 hb ws lim L x.cl (some ⟨g8, 0, none⟩) 2 [true, false] hHP hW5 hlim2.2 hu5 hkH hxcl hR8 (by decide)) (fun v w9 hv => ?_)
      obtain ⟨rfl, hr⟩ := hv
      have hB9 := hB1.kh hr.2.2.2 (by decide)
      obtain ⟨hW9, hu9, hK9, kR, hRP, hkR, hbel2, hback⟩ := hturn _ _ _ hr
      refine m_any rfl rfl ?_
      refine o_extr rfl rfl ?_
      refine o_extr rfl rfl ?_
      refine m_int rfl rfl ?_
      refine m_int rfl rfl ?_
      refine o_nil ?_
      refine k_region ?_
      refine m_ptr rfl rfl ?_
      refine o_fld (off := 1) rfl rfl ?_
      refine o_ld (v := iv x.cl) rfl rfl (hB9.at rfl) ?_
      refine o_bsl (E := 4) (cs := #[.bool true, .bool false]) rfl (fun _ => by kernel_rfl) (fun g10 w10 hB10 hK10 hb10 hZ10 => ?_)
      have hR10 : Rd w10 (some ⟨g10, 0, none⟩) ([true, false].map Value.bool) := hB10.rd
      refine o_call rfl rfl (robject_ok kR w10 rb ws lim L x.cl (some ⟨g10, 0, none⟩) 2 [true, false] (hRP.new hK10) hW5 hlim2.2 hlim2.1 hu5 (fun b hb => hkR b (by have := hK10.size; omega)) hR10 (by decide)) (fun v w11 hv => ?_)
      obtain ⟨rfl, hr⟩ := hv
      refine m_any rfl rfl ?_
      refine o_extr rfl rfl ?_
      refine o_extr rfl rfl ?_
      refine m_int rfl rfl ?_
      refine m_int rfl rfl ?_
      refine o_nil ?_
      refine k_blk ?_
      refine k_goal ⟨((objH ws L lim x.cl [true, false]).1, (objH ws L lim x.cl [true, false]).2.1, 0, none, 0, none, 0, []), ⟨rfl, rfl, rfl, rfl, rfl, rfl, rfl, rfl, rfl, rfl, rfl, rfl, rfl, trivial⟩, NJ.plain (hback _ ⟨hr.1, hr.2.1, hK10.h.tr hr.2.2⟩) hW9 hu9⟩
    refine k_seq ?_
    refine k_region ?_
    refine m_ptr rfl rfl ?_
    refine o_fld (off := 3) rfl rfl ?_
    refine o_ld (v := iv x.a) rfl rfl (hB.at rfl) ?_
    refine o_call rfl rfl (units_ok kH w7 hb ws lim L x.a hHP hW5) (fun v w8 hv => ?_)
    obtain ⟨⟨a8, c8, rfl, hS8, hf8⟩, hK8⟩ := hv
    have hB8 := hB.keep hK8 (by simp)
    obtain ⟨kq, hRPq⟩ := (hT7.new hK8).rp
    refine m_any rfl rfl ?_
    refine o_extr rfl rfl ?_
    refine o_extr rfl rfl ?_
    refine m_sl rfl rfl ?_
    refine m_int rfl rfl ?_
    refine o_nil ?_
    refine k_region ?_
    refine m_ptr rfl rfl ?_
    refine o_fld (off := 3) rfl rfl ?_
    refine o_ld (v := iv x.a) rfl rfl (hB8.at rfl) ?_
    refine o_call rfl rfl (runits_ok kq w8 rb ws lim L x.a hRPq hW5) (fun v w9 hv => ?_)
    obtain ⟨⟨a9, c9, rfl, hS9, hf9⟩, hK9⟩ := hv
    refine m_any rfl rfl ?_
    refine o_extr rfl rfl ?_
    refine o_extr rfl rfl ?_
    refine m_sl rfl rfl ?_
    refine m_int rfl rfl ?_
    refine o_nil ?_
    refine k_blk ?_
    refine k_goal ⟨(0, (unitsN ws L x.a).2, 0, a8, c8, a9, c9, (unitsN ws L x.a).1), ⟨rfl, rfl, rfl, rfl, rfl, rfl, rfl, rfl, rfl, rfl, rfl, rfl, rfl, trivial⟩, ⟨ws, L, (hT7.new hK8).new hK9, hW5, hu5⟩, hS8.rd.new hK9, hS9.rd, units_len hW5 _⟩
  obtain ⟨p, q, v0, a10, c10, a11, c11, us⟩ := s
  obtain ⟨⟨xs, M, hT9, hW9, hu9⟩, hRa, hRb, hul⟩ := hJ
  dsimp only at hRa hRb hul ⊢
  obtain ⟨kH9, hHP9⟩ := hT9.hp
  obtain ⟨kR9, hRP9⟩ := hT9.rp
  obtain ⟨aR, cR, hBR, hSR, hkR1, hkR2⟩ := id hRP9
  have hxl := hW9.len
  have hbase : ∀ w', Keep [] w9.drew w' → Keep [] w9 w' := fun w' h => (Keep.refl [] w9).drew.tr h
  refine k_seq ?_
  refine k_any 26 (fun w w' => Keep [] w w') (fun iA => match iA with
      | 0 => fun v w => v = .int .i64 p
      | 1 => fun v w => v = .int .i64 p
      | 2 => fun v w => v = .bool false
      | 3 => fun v w => v = .bool false
      | 4 => fun v w => v = .int .i64 q
      | 5 => fun v w => v = .int .i64 q
      | 6 => fun v w => v = .bool false
      | 7 => fun v w => v = .bool false
      | 8 => fun v w => v = .bool false
      | 9 => fun v w => v = .int .i64 v0
      | 10 => fun v w => v = .int .i64 v0
      | 11 => fun v w => v = .bool false
      | 12 => fun v w => v = .bool false
      | 13 => fun v w => v = .bool false
      | 14 => fun v w => v = .slice a10 us.length c10
      | 15 => fun v w => v = .slice a11 us.length c11
      | 16 => fun v w => v = .bool true
      | 17 => fun v w => v = .bool false
      | 18 => fun v w => v = .bool false
      | 19 => fun v w => v = .bool false
      | 20 => fun v w => v = .pointer (some ⟨hb, 0, none⟩)
      | 21 => fun v w => ∃ a2 c2, v = .slice a2 xs.length c2 ∧ Rd w a2 (xs.map iv)
      | 22 => fun v w => v = .pointer (some ⟨rb, 0, none⟩)
      | 23 => fun v w => v = .pointer (some ⟨rb, 0, none⟩)
      | 24 => fun v w => v = .pointer (some ⟨rb, 0, none⟩)
      | 25 => fun v w => v = .slice aR xs.length cR
      | _ => fun v w => True) rfl rfl rfl rfl rfl (Keep.refl []) (fun _ _ _ h1 h2 => h1.tr h2) ?_ ?_ ?_
  · intro iA v w w' h hL
    match iA, h with
    | 0, h =>
      exact h
    | 1, h =>
      exact h
    | 2, h =>
      exact h
    | 3, h =>
      exact h
    | 4, h =>
      exact h
    | 5, h =>
      exact h
    | 6, h =>
      exact h
    | 7, h =>
      exact h
    | 8, h =>
      exact h
    | 9, h =>
      exact h
    | 10, h =>
      exact h
    | 11, h =>
      exact h
    | 12, h =>
      exact h
    | 13, h =>
      exact h
    | 14, h =>
      exact h
    | 15, h =>
      exact h
    | 16, h =>
      exact h
    | 17, h =>
      exact h
    | 18, h =>
      exact h
    | 19, h =>
      exact h
    | 20, h =>
      exact h
    | 21, h =>
      obtain ⟨a2, c2, h1, h2⟩ := h
      exact ⟨a2, c2, h1, h2.new hL⟩
    | 22, h =>
      exact h
    | 23, h =>
      exact h
    | 24, h =>
      exact h
    | 25, h =>
      exact h
    | _ + 26, h => trivial
  · intro iA o him hl eA wA hL hA hD
    match iA, him, hl with
    | 0, _, hl =>
      obtain rfl := Option.some.inj hl
      refine o_gen [(11, _)] ⟨hA 11 (free_of rfl), trivial⟩ (fun e2 => ?_)
      refine m_int rfl rfl ?_
      refine o_nil ⟨Keep.refl _ _, rfl⟩
    | 1, _, hl =>
      obtain rfl := Option.some.inj hl
      refine o_gen [(12, _)] ⟨hA 12 (free_of rfl), trivial⟩ (fun e2 => ?_)
      refine m_int rfl rfl ?_
      refine o_nil ⟨Keep.refl _ _, rfl⟩
    | 2, _, hl =>
      obtain rfl := Option.some.inj hl
      refine o_gen [(208, _), (209, _)] ⟨hD 0 (by decide) 208 rfl, hD 1 (by decide) 209 rfl, trivial⟩ (fun e2 => ?_)
      refine b_neq rfl rfl ?_
      refine o_nil ⟨Keep.refl _ _, by simp [rdo, updo, upd]⟩
    | 3, _, hl =>
      obtain rfl := Option.some.inj hl
      refine o_gen [(210, _)] ⟨hD 2 (by decide) 210 rfl, trivial⟩ (fun e2 => ?_)
      refine m_bool rfl rfl ?_
      refine o_nil ⟨Keep.refl _ _, rfl⟩
    | 4, _, hl =>
      obtain rfl := Option.some.inj hl
      refine o_gen [(13, _), (211, _)] ⟨hA 13 (free_of rfl), hD 3 (by decide) 211 rfl, trivial⟩ (fun e2 => ?_)
      refine g_yes rfl rfl ?_
      refine m_int rfl rfl ?_
      refine o_nil ⟨Keep.refl _ _, rfl⟩
    | 5, _, hl =>
      obtain rfl := Option.some.inj hl
      refine o_gen [(14, _), (211, _)] ⟨hA 14 (free_of rfl), hD 3 (by decide) 211 rfl, trivial⟩ (fun e2 => ?_)
      refine g_yes rfl rfl ?_
      refine m_int rfl rfl ?_
      refine o_nil ⟨Keep.refl _ _, rfl⟩
    | 6, _, hl =>
      obtain rfl := Option.some.inj hl
      refine o_gen [(211, _), (212, _), (213, _)] ⟨hD 3 (by decide) 211 rfl, hD 4 (by decide) 212 rfl, hD 5 (by decide) 213 rfl, trivial⟩ (fun e2 => ?_)
      refine g_yes rfl rfl ?_
      refine b_neq rfl rfl ?_
      refine o_nil ⟨Keep.refl _ _, by simp [rdo, updo, upd]⟩
    | 7, _, hl =>
      obtain rfl := Option.some.inj hl
      refine o_gen [(211, _), (214, _)] ⟨hD 3 (by decide) 211 rfl, hD 6 (by decide) 214 rfl, trivial⟩ (fun e2 => ?_)
      refine pick_f rfl rfl ?_
      refine o_nil ⟨Keep.refl _ _, rfl⟩
    | 8, _, hl =>
      obtain rfl := Option.some.inj hl
      refine o_gen [(215, _)] ⟨hD 7 (by decide) 215 rfl, trivial⟩ (fun e2 => ?_)
      refine m_bool rfl rfl ?_
      refine o_nil ⟨Keep.refl _ _, rfl⟩
    | 9, _, hl =>
      obtain rfl := Option.some.inj hl
      refine o_gen [(15, _), (216, _)] ⟨hA 15 (free_of rfl), hD 8 (by decide) 216 rfl, trivial⟩ (fun e2 => ?_)
      refine g_yes rfl rfl ?_
      refine m_int rfl rfl ?_
      refine o_nil ⟨Keep.refl _ _, rfl⟩
    | 10, _, hl =>
      obtain rfl := Option.some.inj hl
      refine o_gen [(16, _), (216, _)] ⟨hA 16 (free_of rfl), hD 8 (by decide) 216 rfl, trivial⟩ (fun e2 => ?_)
      refine g_yes rfl rfl ?_
      refine m_int rfl rfl ?_
      refine o_nil ⟨Keep.refl _ _, rfl⟩
    | 11, _, hl =>
      obtain rfl := Option.some.inj hl
      refine o_gen [(216, _), (217, _), (218, _)] ⟨hD 8 (by decide) 216 rfl, hD 9 (by decide) 217 rfl, hD 10 (by decide) 218 rfl, trivial⟩ (fun e2 => ?_)
      refine g_yes rfl rfl ?_
      refine b_neq rfl rfl ?_
      refine o_nil ⟨Keep.refl _ _, by simp [rdo, updo, upd]⟩
    | 12, _, hl =>
      obtain rfl := Option.some.inj hl
      refine o_gen [(216, _), (219, _)] ⟨hD 8 (by decide) 216 rfl, hD 11 (by decide) 219 rfl, trivial⟩ (fun e2 => ?_)
      refine pick_f rfl rfl ?_
      refine o_nil ⟨Keep.refl _ _, rfl⟩
    | 13, _, hl =>
      obtain rfl := Option.some.inj hl
      refine o_gen [(220, _)] ⟨hD 12 (by decide) 220 rfl, trivial⟩ (fun e2 => ?_)
      refine m_bool rfl rfl ?_
      refine o_nil ⟨Keep.refl _ _, rfl⟩
    | 14, _, hl =>
      obtain rfl := Option.some.inj hl
      refine o_gen [(17, _), (221, _)] ⟨hA 17 (free_of rfl), hD 13 (by decide) 221 rfl, trivial⟩ (fun e2 => ?_)
      refine g_yes rfl rfl ?_
      refine m_sl rfl rfl ?_
      refine o_nil ⟨Keep.refl _ _, rfl⟩
    | 15, _, hl =>
      obtain rfl := Option.some.inj hl
      refine o_gen [(18, _), (221, _)] ⟨hA 18 (free_of rfl), hD 13 (by decide) 221 rfl, trivial⟩ (fun e2 => ?_)
      refine g_yes rfl rfl ?_
      refine m_sl rfl rfl ?_
      refine o_nil ⟨Keep.refl _ _, rfl⟩
    | 16, _, hl =>
      obtain rfl := Option.some.inj hl
      refine o_gen [(221, _), (222, _), (223, _)] ⟨hD 13 (by decide) 221 rfl, hD 14 (by decide) 222 rfl, hD 15 (by decide) 223 rfl, trivial⟩ (fun e2 => ?_)
      refine g_yes rfl rfl ?_
      refine o_call rfl rfl (sameu_ok wA a10 a11 c10 c11 us us (hRa.new (hbase _ hL)) (hRb.new (hbase _ hL)) (by omega) (by omega)) (fun u w14 hu => ?_)
      obtain ⟨rfl, hK14⟩ := hu
      refine o_nil ⟨hK14, by simp [rdo, updo, upd]⟩
    | 17, _, hl =>
      obtain rfl := Option.some.inj hl
      refine o_gen [(221, _), (224, _)] ⟨hD 13 (by decide) 221 rfl, hD 16 (by decide) 224 rfl, trivial⟩ (fun e2 => ?_)
      refine g_yes rfl rfl ?_
      refine u_notb rfl ?_
      refine o_nil ⟨Keep.refl _ _, by simp [rdo, updo, upd]⟩
    | 18, _, hl =>
      obtain rfl := Option.some.inj hl
      refine o_gen [(221, _), (225, _)] ⟨hD 13 (by decide) 221 rfl, hD 17 (by decide) 225 rfl, trivial⟩ (fun e2 => ?_)
      refine pick_f rfl rfl ?_
      refine o_nil ⟨Keep.refl _ _, rfl⟩
    | 19, _, hl =>
      obtain rfl := Option.some.inj hl
      refine o_gen [(226, _)] ⟨hD 18 (by decide) 226 rfl, trivial⟩ (fun e2 => ?_)
      refine m_bool rfl rfl ?_
      refine o_nil ⟨Keep.refl _ _, rfl⟩
    | 20, _, hl =>
      obtain rfl := Option.some.inj hl
      refine o_gen [(5, _), (227, _)] ⟨hA 5 (free_of rfl), hD 19 (by decide) 227 rfl, trivial⟩ (fun e2 => ?_)
      refine g_yes rfl rfl ?_
      refine m_ptr rfl rfl ?_
      refine o_nil ⟨Keep.refl _ _, rfl⟩
    | 21, _, hl =>
      obtain rfl := Option.some.inj hl
      refine o_gen [(227, _), (228, _)] ⟨hD 19 (by decide) 227 rfl, hD 20 (by decide) 228 rfl, trivial⟩ (fun e2 => ?_)
      refine g_yes rfl rfl ?_
      refine o_call rfl rfl (words_ok kH9 wA hb xs lim M (hHP9.new (hbase _ hL)) hxl) (fun u w14 hu => ?_)
      obtain ⟨⟨a14, c14, rfl, hR14⟩, hK14⟩ := hu
      refine o_nil ⟨hK14, a14, c14, by simp [rdo, updo, upd], hR14⟩
    | 22, _, hl =>
      obtain rfl := Option.some.inj hl
      refine o_gen [(7, _), (227, _)] ⟨hA 7 (free_of rfl), hD 19 (by decide) 227 rfl, trivial⟩ (fun e2 => ?_)
      refine g_yes rfl rfl ?_
      refine m_ptr rfl rfl ?_
      refine o_nil ⟨Keep.refl _ _, rfl⟩
    | 23, _, hl =>
      obtain rfl := Option.some.inj hl
      refine o_gen [(227, _), (230, _)] ⟨hD 19 (by decide) 227 rfl, hD 22 (by decide) 230 rfl, trivial⟩ (fun e2 => ?_)
      refine g_yes rfl rfl ?_
      refine o_nilc rfl ?_
      refine o_nil ⟨Keep.refl _ _, rfl⟩
    | 24, _, hl =>
      obtain rfl := Option.some.inj hl
      refine o_gen [(227, _), (231, _)] ⟨hD 19 (by decide) 227 rfl, hD 23 (by decide) 231 rfl, trivial⟩ (fun e2 => ?_)
      refine g_yes rfl rfl ?_
      refine o_fld0 rfl rfl ?_
      refine o_nil ⟨Keep.refl _ _, rfl⟩
    | 25, _, hl =>
      obtain rfl := Option.some.inj hl
      refine o_gen [(227, _), (232, _)] ⟨hD 19 (by decide) 227 rfl, hD 24 (by decide) 232 rfl, trivial⟩ (fun e2 => ?_)
      refine g_yes rfl rfl ?_
      refine o_ld rfl rfl (hBR.kat (hbase _ hL) rfl) ?_
      refine o_nil ⟨Keep.refl _ _, rfl⟩
    | _ + 26, him, _ => exact absurd him (by omega)
  intro eA wA hL hA hV
  obtain ⟨a14, c14, h229, hR14⟩ := hV 21 (by decide) 229 rfl
  refine o_gen [(5, .pointer (some ⟨hb, 0, none⟩)), (7, .pointer (some ⟨rb, 0, none⟩)), (40, .slice (some ⟨b1, o1, none⟩) acts.length c), (41, .int .i64 (acts.length : Int)), (42, .int .i64 (m : Int)), (227, .bool false), (229, .slice a14 xs.length c14), (233, .slice aR xs.length cR)] ⟨hA 5 (free_of rfl), hA 7 (free_of rfl), hA 40 (free_of rfl), hA 41 (free_of rfl), hA 42 (free_of rfl), hV 19 (by decide) 227 rfl, h229, hV 25 (by decide) 233 rfl, trivial⟩ (fun e => ?_)
  have hLA := hbase _ hL
  refine o_false (t := 227) (p := False) rfl id ?_
  refine g_yes rfl rfl ?_
  refine o_call rfl rfl (samew_ok wA a14 aR c14 cR xs xs hR14 (hSR.new hLA).rd (by omega) (by omega)) (fun u w15 hu => ?_)
  obtain ⟨rfl, hK15⟩ := hu
  refine g_yes rfl rfl ?_
  refine u_not rfl ?_
  refine pick_f rfl rfl ?_
  refine o_nil ?_
  refine k_no rfl ((fun h => h rfl)) ?_
  refine k_skip ?_
  refine k_blk ?_
  refine k_region ?_
  refine n_add rfl rfl (by omega) ?_
  refine m_int rfl rfl ?_
  refine o_nil ?_
  refine k_goal ⟨m + 1, ⟨rfl, rfl, rfl, rfl, rfl, trivial⟩, ⟨by omega, xs, M, (hT9.new hLA).new hK15, hW9, hu9⟩, by omega⟩
end Go.Proofs.YtchbidckckmobaaDoor

/- NativePlays: its acts as an argument. No condition beyond what each lemma names. -/
namespace Go.Proofs.YtchbidckckmobaaDoor
open Go.RowKit E
set_option linter.unusedVariables false
set_option linter.unusedSimpArgs false
set_option maxRecDepth 100000
attribute [local irreducible] ow qw kw kq cw opW Ret
theorem nact_of {H : Type} {enc : TypeId × Value → H} {W : World} {cs : List Value} (h : Tr enc Tryd.prog W 90 cs) (hl : cs.length = 8) : ∃ x : NAct, nactC x = cs ∧ NActOk W x := by
  have ht := h.any
  obtain ⟨x0, h0, r0⟩ := fld_int (P := Tryd.prog) (i := 0) ht Tryd.underlying90 rfl (by kernel_rfl) Tryd.underlying5
  obtain ⟨x1, h1, r1⟩ := fld_int (P := Tryd.prog) (i := 1) ht Tryd.underlying90 rfl (by kernel_rfl) Tryd.underlying3
  obtain ⟨x3, h3, r3⟩ := fld_int (P := Tryd.prog) (i := 3) ht Tryd.underlying90 rfl (by kernel_rfl) Tryd.underlying3
  obtain ⟨x4, h4, r4⟩ := fld_int (P := Tryd.prog) (i := 4) ht Tryd.underlying90 rfl (by kernel_rfl) Tryd.underlying3
  obtain ⟨x5, h5, r5⟩ := fld_int (P := Tryd.prog) (i := 5) ht Tryd.underlying90 rfl (by kernel_rfl) Tryd.underlying2
  obtain ⟨x6, h6, r6⟩ := fld_int (P := Tryd.prog) (i := 6) ht Tryd.underlying90 rfl (by kernel_rfl) Tryd.underlying2
  obtain ⟨x7, h7, r7⟩ := fld_int (P := Tryd.prog) (i := 7) ht Tryd.underlying90 rfl (by kernel_rfl) Tryd.underlying2
  obtain ⟨a, len, cap, zs, g1, g2, g4⟩ := (h.fld (P := Tryd.prog) (i := 2) Tryd.underlying90 rfl (by kernel_rfl)).row (k := .u16) (e := 47) Tryd.underlying77 Tryd.underlying47 (by kernel_rfl)
  obtain ⟨us, g5, g6, g7, g8⟩ := row_u16 g2
  rw [show Tryd.prog.bytesOf 47 = 2 from by kernel_rfl] at g4
  replace g1 := take1 g1
  simp only [IntKind.min, IntKind.max, IntKind.signed, IntKind.bits] at r0 r1 r5 r6 r7
  have hb : ∃ b : BitVec 8, x0 = (b.toNat : Int) := ⟨BitVec.ofInt 8 x0, by revert r0; simp [BitVec.toNat_ofInt] <;> omega⟩
  obtain ⟨b, rfl⟩ := hb
  refine ⟨⟨b, x1, a, cap, us, x3, x4, x5, x6, x7⟩, ?_, ⟨g8, by dsimp only; omega, by revert r1; simp, by revert r5; simp, by revert r6; simp, by revert r7; simp⟩⟩
  match cs, hl with
  | [c0, c1, c2, c3, c4, c5, c6, c7], _ =>
    cases h0; cases h1; cases g1; cases h3; cases h4; cases h5; cases h6; cases h7
    show [_, _, Value.slice a us.length cap, _, _, _, _, _] = _
    rw [g5]
    rfl
theorem nacts_of {H : Type} {enc : TypeId × Value → H} {W : World} : ∀ {css : List (List Value)}, (∀ cs ∈ css, cs.length = 8) → (∀ cs ∈ css, Tr enc Tryd.prog W 90 cs) → ∃ l : List NAct, l.length = css.length ∧ l.map nactC = css ∧ ∀ x ∈ l, NActOk W x
  | [], _, _ => ⟨[], rfl, rfl, by simp⟩
  | cs :: css, h1, h2 => by
    obtain ⟨x, hx, hb⟩ := nact_of (h2 cs (by simp)) (h1 cs (by simp))
    obtain ⟨l, hl, hr, hB⟩ := nacts_of (css := css) (fun c hc => h1 c (by simp [hc])) (fun c hc => h2 c (by simp [hc]))
    exact ⟨x :: l, by simp [hl], by simp [hx, hr], fun y hy => (List.mem_cons.1 hy).elim (fun e => e ▸ hb) (hB y)⟩
end Go.Proofs.YtchbidckckmobaaDoor

/- What a heap's collection leaves is a heap, plain. No condition beyond what each lemma names. -/
namespace Go.Proofs.YtchbidckckmobaaDoor
open Go.RowKit E
set_option linter.unusedVariables false
set_option linter.unusedSimpArgs false
set_option maxRecDepth 100000
attribute [local irreducible] ow qw kw kq cw opW Ret
theorem getD_rng {ws : List Int} (h : ∀ x ∈ ws, -9223372036854775808 ≤ x ∧ x ≤ 9223372036854775807) (j : Nat) : -9223372036854775808 ≤ ws.getD j 0 ∧ ws.getD j 0 ≤ 9223372036854775807 := by
  by_cases hj : j < ws.length
  · rw [getD_get ws j hj]; exact h _ (List.getElem_mem hj)
  · rw [List.getD_eq_getElem?_getD, List.getElem?_eq_none (by omega)]; decide
theorem out_rng {ws LV : List Int} (h : ∀ x ∈ ws, -9223372036854775808 ≤ x ∧ x ≤ 9223372036854775807) (hl : (outW ws LV).length ≤ 65537) : ∀ x ∈ outW ws LV, -9223372036854775808 ≤ x ∧ x ≤ 9223372036854775807 := by
  intro x hx
  unfold outW at hx
  rcases List.mem_cons.1 hx with rfl | hx
  · decide
  · obtain ⟨y, hy, hx⟩ := List.mem_flatMap.1 hx
    unfold newB midB at hx
    obtain ⟨k, _, rfl⟩ := List.mem_map.1 hx
    rw [out_len] at hl
    have h1 := adr_rng ws LV 1 (ws.getD (y.toNat + k) 0)
    have h2 := getD_rng h (y.toNat + k)
    split
    · omega
    · exact h2
theorem WFH.out {ws L L0 rts LV : List Int} (hW : WFH ws L) (h : SL ws L0 rts LV) : WFH (outW ws LV) (LV.map (adr ws LV 1)) :=
  ⟨h.len0, (blocks_ch h.blocks).2.2.1, out_rng hW.rng (Nat.le_trans h.le hW.len), Nat.le_trans h.le hW.len⟩
end Go.Proofs.YtchbidckckmobaaDoor

/- The acts of the heap's laws; few. No condition beyond what each lemma names. -/
namespace Go.Proofs.YtchbidckckmobaaDoor
open Go.RowKit E
set_option linter.unusedVariables false
set_option linter.unusedSimpArgs false
set_option maxRecDepth 100000
attribute [local irreducible] ow qw kw kq cw opW Ret
structure HAct where
  kd : BitVec 8
  cl : Int
  fa : Option Addr
  fc : Nat
  fs : List Bool
  p : Int
  i : Int
  v : Int
  ra : Option Addr
  rc : Nat
  rs : List Int
/-- an act's cells -/
def hactC (x : HAct) : List Value := [.int .u8 (x.kd.toNat : Int), iv x.cl, .slice x.fa x.fs.length x.fc, iv x.p, iv x.i, iv x.v, .slice x.ra x.rs.length x.rc]
theorem hact_one (x : HAct) : ∀ u ∈ hactC x, u.oneCell' = true := by
  intro u hu
  simp only [hactC, List.mem_cons, List.not_mem_nil, or_false] at hu
  rcases hu with rfl | rfl | rfl | rfl | rfl | rfl | rfl <;> rfl
structure HActOk (w : World) (x : HAct) : Prop where
  fd : Rd w x.fa (x.fs.map Value.bool)
  fl : x.fs.length ≤ 140737488355328
  rd : Rd w x.ra (x.rs.map iv)
  rl : x.rs.length ≤ 140737488355328
  cl : -9223372036854775808 ≤ x.cl ∧ x.cl ≤ 9223372036854775807
  i : -9223372036854775808 ≤ x.i ∧ x.i ≤ 9223372036854775807
  v : -9223372036854775808 ≤ x.v ∧ x.v ≤ 9223372036854775807
theorem HActOk.new {w w' : World} {x : HAct} (h : HActOk w x) (hK : Keep [] w w') : HActOk w' x := ⟨h.fd.new hK, h.fl, h.rd.new hK, h.rl, h.cl, h.i, h.v⟩
theorem hact_at {w : World} {a : Option Addr} {acts : List HAct} (hR : Rd w a (acts.map hactC).flatten) {m : Nat} (hm : m < acts.length) : ∃ b o, a = some ⟨b, o, none⟩ ∧ ∀ j v, (hactC acts[m])[j]? = some v → w.cell? ⟨b, o + m * 7 + j, none⟩ = some v := by
  have hg : ∀ j v, (hactC acts[m])[j]? = some v → (acts.map hactC).flatten[m * 7 + j]? = some v := fun j v hv =>
    flatten_get (sz := 7) (acts.map hactC) (fun cs hcs => by obtain ⟨x, _, rfl⟩ := List.mem_map.1 hcs; rfl) m j (hactC acts[m]) v (by rw [List.getElem?_map, List.getElem?_eq_getElem hm]; rfl) hv
  obtain ⟨b, o, ha, _⟩ := hR _ _ (hg 0 _ rfl)
  refine ⟨b, o, ha, fun j v hv => ?_⟩
  obtain ⟨b', o', ha', hc⟩ := hR _ _ (hg j v hv)
  rw [ha] at ha'
  cases ha'
  rw [Nat.add_assoc]
  exact hc
theorem inf65 : infB Tryd.prog 65 7 88 (.agg #[.int .u8 0, .int .i64 0, .slice none 0 0, .int .i64 0, .int .i64 0, .int .i64 0, .slice none 0 0]) := ⟨_, rfl, rfl, rfl, rfl⟩
theorem bools_of {H : Type} {enc : TypeId × Value → H} {W : World} : ∀ {css : List (List Value)}, (∀ cs ∈ css, cs.length = 1) → (∀ cs ∈ css, Tr enc Tryd.prog W 4 cs) → ∃ bs : List Bool, bs.length = css.length ∧ css.flatten = bs.map Value.bool
  | [], _, _ => ⟨[], rfl, rfl⟩
  | cs :: css, h1, h2 => by
    obtain ⟨m, y, hy⟩ := (h2 cs (by simp)).any
    obtain ⟨b, hb, _⟩ := DataW.trod_bool Tryd.underlying4 hy
    obtain ⟨bs, hl, hf⟩ := bools_of (css := css) (fun c hc => h1 c (by simp [hc])) (fun c hc => h2 c (by simp [hc]))
    exact ⟨b :: bs, by simp [hl], by rw [List.flatten_cons, hb, hf]; rfl⟩
theorem hact_of {H : Type} {enc : TypeId × Value → H} {W : World} {cs : List Value} (h : Tr enc Tryd.prog W 65 cs) (hl : cs.length = 7) : ∃ x : HAct, hactC x = cs ∧ HActOk W x := by
  have ht := h.any
  obtain ⟨x0, h0, r0⟩ := fld_int (P := Tryd.prog) (i := 0) ht Tryd.underlying65 rfl (by kernel_rfl) Tryd.underlying5
  obtain ⟨x1, h1, r1⟩ := fld_int (P := Tryd.prog) (i := 1) ht Tryd.underlying65 rfl (by kernel_rfl) Tryd.underlying3
  obtain ⟨x3, h3, r3⟩ := fld_int (P := Tryd.prog) (i := 3) ht Tryd.underlying65 rfl (by kernel_rfl) Tryd.underlying3
  obtain ⟨x4, h4, r4⟩ := fld_int (P := Tryd.prog) (i := 4) ht Tryd.underlying65 rfl (by kernel_rfl) Tryd.underlying3
  obtain ⟨x5, h5, r5⟩ := fld_int (P := Tryd.prog) (i := 5) ht Tryd.underlying65 rfl (by kernel_rfl) Tryd.underlying2
  obtain ⟨a2, len2, cap2, css2, g1, g2, g3, g4, g5, g6, g7, g8⟩ := (h.fld (P := Tryd.prog) (i := 2) Tryd.underlying65 rfl (by kernel_rfl)).elems (sz := 1) Tryd.underlying63 (by kernel_rfl) (by decide)
  obtain ⟨bs, hbl, hbf⟩ := bools_of g6 g8
  rw [show Tryd.prog.bytesOf 4 = 1 from by kernel_rfl] at g5
  replace g1 := take1 g1
  obtain ⟨a6, len6, cap6, zs6, k1, k2, k4⟩ := (h.fld (P := Tryd.prog) (i := 6) Tryd.underlying65 rfl (by kernel_rfl)).row (k := .i64) (e := 3) Tryd.underlying23 Tryd.underlying3 (by kernel_rfl)
  obtain ⟨rs, k5, k6, k7, k8, k9⟩ := row_i64 k2
  rw [show Tryd.prog.bytesOf 3 = 8 from by kernel_rfl] at k4
  replace k1 := take1 k1
  simp only [IntKind.min, IntKind.max, IntKind.signed, IntKind.bits] at r0 r1 r4 r5
  have hb : ∃ b : BitVec 8, x0 = (b.toNat : Int) := ⟨BitVec.ofInt 8 x0, by revert r0; simp [BitVec.toNat_ofInt] <;> omega⟩
  obtain ⟨b, rfl⟩ := hb
  rw [hbf] at g7
  refine ⟨⟨b, x1, a2, cap2, bs, x3, x4, x5, a6, cap6, rs⟩, ?_, ⟨g7, by dsimp only; omega, k8, by dsimp only; omega, by revert r1; simp, by revert r4; simp, by revert r5; simp⟩⟩
  match cs, hl with
  | [c0, c1, c2, c3, c4, c5, c6], _ =>
    cases h0; cases h1; cases g1; cases h3; cases h4; cases h5; cases k1
    show [_, _, Value.slice a2 bs.length cap2, _, _, _, Value.slice a6 rs.length cap6] = _
    rw [hbl, g2, k5]
    rfl
theorem hacts_of {H : Type} {enc : TypeId × Value → H} {W : World} : ∀ {css : List (List Value)}, (∀ cs ∈ css, cs.length = 7) → (∀ cs ∈ css, Tr enc Tryd.prog W 65 cs) → ∃ l : List HAct, l.length = css.length ∧ l.map hactC = css ∧ ∀ x ∈ l, HActOk W x
  | [], _, _ => ⟨[], rfl, rfl, by simp⟩
  | cs :: css, h1, h2 => by
    obtain ⟨x, hx, hb⟩ := hact_of (h2 cs (by simp)) (h1 cs (by simp))
    obtain ⟨l, hl, hr, hB⟩ := hacts_of (css := css) (fun c hc => h1 c (by simp [hc])) (fun c hc => h2 c (by simp [hc]))
    exact ⟨x :: l, by simp [hl], by simp [hx, hr], fun y hy => (List.mem_cons.1 hy).elim (fun e => e ▸ hb) (hB y)⟩
end Go.Proofs.YtchbidckckmobaaDoor

/- law21.few. No condition beyond what each contract names. -/
namespace Go.Proofs.YtchbidckckmobaaDoor
open Go.RowKit E
set_option linter.unusedVariables false
set_option linter.unusedSimpArgs false
set_option maxRecDepth 100000
attribute [local irreducible] ow qw kw kq cw opW Ret
theorem few21_ok (w : World) (a : Option Addr) (c : Nat) (acts : List HAct) (hR : Rd w a (acts.map hactC).flatten) (hl : acts.length ≤ 9223372036854775807) (hA : ∀ x ∈ acts, HActOk w x) :
    Ret Tryd.prog 34 [.slice a acts.length c] w (fun v w' => (∃ b, v = .bool b ∧ (b = true → acts.length ≤ 201 ∧ ∀ x ∈ acts, x.rs.length ≤ 20000)) ∧ Keep [] w w') := by
  refine fn_enter (n := 43) Tryd.func34 rfl rfl (Nat.le_of_ble_eq_true rfl) (fun e => ?_)
  refine k_seq ?_
  refine k_region ?_
  refine m_bool rfl rfl ?_
  refine o_nil ?_
  refine k_seq ?_
  refine k_region ?_
  refine m_int rfl rfl ?_
  refine o_nil ?_
  refine k_seq ?_
  refine k_seq ?_
  refine k_region ?_
  refine m_sl rfl rfl ?_
  refine o_lens Tryd.underlying58 rfl ?_
  refine m_int rfl rfl ?_
  refine o_nil ?_
  refine k_block ?_
  refine k_loop (σ := Nat × Int) (fun s => [(3, .int .i64 s.2), (6, .slice a acts.length c), (7, .int .i64 (acts.length : Int)), (8, .int .i64 (s.1 : Int))]) (fun s w' => s.1 ≤ acts.length ∧ s.1 ≤ 201 ∧ (0 ≤ s.2 ∧ s.2 ≤ 20000) ∧ (∀ x ∈ acts.take s.1, x.rs.length ≤ 20000) ∧ Keep [] w w') (fun s => acts.length - s.1) (0, 0) ⟨rfl, rfl, rfl, rfl, trivial⟩ ⟨Nat.zero_le _, by decide, by decide, by simp, Keep.refl _ _⟩ (fun s e w1 hJ => ?_)
  obtain ⟨m, t⟩ := s
  obtain ⟨hm, hm61, ht, hpre, hK1⟩ := hJ
  dsimp only at hm hm61 ht hpre ⊢
  refine k_seq ?_
  refine k_region ?_
  refine b_lss rfl rfl ?_
  refine o_nil ?_
  refine k_seq ?_
  refine k_cond rfl (fun h => ?_) (fun h => ?_)
  rotate_left
  ·
    refine k_exit rfl ?_
    refine k_seq ?_
    refine k_region ?_
    refine m_bool rfl rfl ?_
    refine o_nil ?_
    refine k_ret (ret_tmps (ts := [2]) (v := .bool _) rfl rfl ?_)
    have hme : m = acts.length := by omega
    subst hme
    rw [List.take_length] at hpre
    exact ⟨⟨true, rfl, fun _ => ⟨hm61, hpre⟩⟩, hK1⟩
  have hml : m < acts.length := by omega
  obtain ⟨x, hx⟩ : ∃ x, acts[m] = x := ⟨_, rfl⟩
  have hxA : HActOk w x := by rw [← hx]; exact hA _ (List.getElem_mem _)
  have hxf := hxA.fl
  have hxr := hxA.rl
  obtain ⟨b1, o1, hae, hcell⟩ := hact_at (hR.new hK1) hml
  rw [hx] at hcell
  subst hae
  refine k_skip ?_
  refine k_seq ?_
  refine k_block ?_
  refine k_seq ?_
  refine k_region ?_
  refine m_int rfl rfl ?_
  refine o_ixs (m := m) (sz := 7) Tryd.underlying58 rfl rfl rfl hml ?_
  refine o_lda (xs := hactC x) rfl rfl rfl hcell ?_
  refine o_alloc inf65 rfl (fun b2 w2 hB2 hK2 hb2 hZ2 => ?_)
  refine m_int rfl rfl ?_
  refine o_sta (xs := hactC x) rfl rfl rfl (hact_one x) hB2 (Nat.le_refl 7) (fun w3 hB3 hK3 hZ3 => ?_)
  have hB3' : Blk w3 b2 (hactC x).toArray 65 := hB3
  have hK13 : Keep [] w1 w3 := hK2.tr1 hK3 (by omega)
  have hpre' : x.rs.length ≤ 20000 → ∀ y ∈ acts.take (m + 1), y.rs.length ≤ 20000 := by
    intro hh y hy
    rw [List.take_succ_eq_append_getElem hml, hx] at hy
    rcases List.mem_append.1 hy with hy | hy
    · exact hpre y hy
    · rw [List.mem_singleton.1 hy]; exact hh
  refine o_nil ?_
  refine k_seq ?_
  refine k_region ?_
  refine m_int rfl rfl ?_
  refine o_fld (off := 2) rfl rfl ?_
  refine o_ld (v := .slice x.fa x.fs.length x.fc) rfl rfl (hB3'.at rfl) ?_
  refine o_lens Tryd.underlying63 rfl ?_
  refine o_fld (off := 6) rfl rfl ?_
  refine o_ld (v := .slice x.ra x.rs.length x.rc) rfl rfl (hB3'.at rfl) ?_
  refine o_lens Tryd.underlying23 rfl ?_
  refine n_add rfl rfl (by omega) ?_
  refine n_add rfl rfl (by omega) ?_
  refine m_int rfl rfl ?_
  refine o_nil ?_
  refine k_seq ?_
  refine k_seq ?_
  refine k_region ?_
  refine o_fld0 rfl rfl ?_
  refine o_ld (v := .int .u8 (x.kd.toNat : Int)) rfl rfl (hB3'.at rfl) ?_
  refine v8_rem (b := 6#8) rfl rfl (by decide) ?_
  refine v8_eql (b := 1#8) rfl rfl ?_
  refine m_bool rfl rfl ?_
  refine o_split (t := 26) rfl (fun h => ?_) (fun h => ?_)
  ·
    refine g_yes rfl rfl ?_
    refine o_fld (off := 4) rfl rfl ?_
    refine g_yes rfl rfl ?_
    refine o_ld (v := iv x.i) rfl rfl (hB3'.at rfl) ?_
    refine g_yes rfl rfl ?_
    refine b_gtr rfl rfl ?_
    refine pick_t rfl rfl ?_
    refine o_nil ?_
    refine k_cond rfl (fun h => ?_) (fun h => ?_)
    ·
      refine k_region ?_
      refine m_int rfl rfl ?_
      refine o_fld (off := 4) rfl rfl ?_
      refine o_ld (v := iv x.i) rfl rfl (hB3'.at rfl) ?_
      refine o_min rfl rfl ?_
      obtain ⟨mn, hmn⟩ : ∃ mn : Int, (if 5000 < x.i then 5000 else x.i) = mn := ⟨_, rfl⟩
      rw [hmn]
      have hmn' : 0 ≤ mn ∧ mn ≤ 5000 := by
        have h' : 0 < x.i := by assumption
        rw [← hmn]; split <;> omega
      refine n_add rfl rfl (by omega) ?_
      refine m_int rfl rfl ?_
      refine o_nil ?_
      refine k_seq ?_
      refine k_region ?_
      refine m_int rfl rfl ?_
      refine b_gtr rfl rfl ?_
      refine m_bool rfl rfl ?_
      refine o_split (t := 38) rfl (fun h => ?_) (fun h => ?_)
      ·
        refine g_no rfl rfl rfl ?_
        refine g_no rfl rfl rfl ?_
        refine pick_t rfl rfl ?_
        refine o_nil ?_
        refine k_condt rfl ?_
        refine k_seq ?_
        refine k_region ?_
        refine m_bool rfl rfl ?_
        refine o_nil ?_
        refine k_ret (ret_tmps (ts := [2]) (v := .bool _) rfl rfl ?_)
        exact ⟨⟨false, rfl, fun hh => by cases hh⟩, hK1.tr hK13⟩
      ·
        refine g_yes rfl rfl ?_
        refine m_int rfl rfl ?_
        refine g_yes rfl rfl ?_
        refine b_gtr rfl rfl ?_
        refine pick_f rfl rfl ?_
        refine o_nil ?_
        refine k_cond rfl (fun h => ?_) (fun h => ?_)
        ·
          refine k_seq ?_
          refine k_region ?_
          refine m_bool rfl rfl ?_
          refine o_nil ?_
          refine k_ret (ret_tmps (ts := [2]) (v := .bool _) rfl rfl ?_)
          exact ⟨⟨false, rfl, fun hh => by cases hh⟩, hK1.tr hK13⟩
        refine k_skip ?_
        refine k_blk ?_
        refine k_region ?_
        refine n_add rfl rfl (by omega) ?_
        refine m_int rfl rfl ?_
        refine o_nil ?_
        refine k_goal ⟨(m + 1, t + ((x.fs.length : Int) + (x.rs.length : Int)) + mn), ⟨rfl, rfl, rfl, rfl, trivial⟩, ⟨by dsimp only; omega, by dsimp only; omega, by dsimp only; omega, hpre' (by omega), hK1.tr hK13⟩, by dsimp only; omega⟩
    refine k_skip ?_
    refine k_seq ?_
    refine k_region ?_
    refine m_int rfl rfl ?_
    refine b_gtr rfl rfl ?_
    refine m_bool rfl rfl ?_
    refine o_split (t := 38) rfl (fun h => ?_) (fun h => ?_)
    ·
      refine g_no rfl rfl rfl ?_
      refine g_no rfl rfl rfl ?_
      refine pick_t rfl rfl ?_
      refine o_nil ?_
      refine k_condt rfl ?_
      refine k_seq ?_
      refine k_region ?_
      refine m_bool rfl rfl ?_
      refine o_nil ?_
      refine k_ret (ret_tmps (ts := [2]) (v := .bool _) rfl rfl ?_)
      exact ⟨⟨false, rfl, fun hh => by cases hh⟩, hK1.tr hK13⟩
    ·
      refine g_yes rfl rfl ?_
      refine m_int rfl rfl ?_
      refine g_yes rfl rfl ?_
      refine b_gtr rfl rfl ?_
      refine pick_f rfl rfl ?_
      refine o_nil ?_
      refine k_cond rfl (fun h => ?_) (fun h => ?_)
      ·
        refine k_seq ?_
        refine k_region ?_
        refine m_bool rfl rfl ?_
        refine o_nil ?_
        refine k_ret (ret_tmps (ts := [2]) (v := .bool _) rfl rfl ?_)
        exact ⟨⟨false, rfl, fun hh => by cases hh⟩, hK1.tr hK13⟩
      refine k_skip ?_
      refine k_blk ?_
      refine k_region ?_
      refine n_add rfl rfl (by omega) ?_
      refine m_int rfl rfl ?_
      refine o_nil ?_
      refine k_goal ⟨(m + 1, t + ((x.fs.length : Int) + (x.rs.length : Int))), ⟨rfl, rfl, rfl, rfl, trivial⟩, ⟨by dsimp only; omega, by dsimp only; omega, by dsimp only; omega, hpre' (by omega), hK1.tr hK13⟩, by dsimp only; omega⟩
  ·
    refine g_no rfl rfl rfl ?_
    refine g_no rfl rfl rfl ?_
    refine g_no rfl rfl rfl ?_
    refine pick_f rfl rfl ?_
    refine o_nil ?_
    refine k_condf rfl ?_
    refine k_skip ?_
    refine k_seq ?_
    refine k_region ?_
    refine m_int rfl rfl ?_
    refine b_gtr rfl rfl ?_
    refine m_bool rfl rfl ?_
    refine o_split (t := 38) rfl (fun h => ?_) (fun h => ?_)
    ·
      refine g_no rfl rfl rfl ?_
      refine g_no rfl rfl rfl ?_
      refine pick_t rfl rfl ?_
      refine o_nil ?_
      refine k_condt rfl ?_
      refine k_seq ?_
      refine k_region ?_
      refine m_bool rfl rfl ?_
      refine o_nil ?_
      refine k_ret (ret_tmps (ts := [2]) (v := .bool _) rfl rfl ?_)
      exact ⟨⟨false, rfl, fun hh => by cases hh⟩, hK1.tr hK13⟩
    ·
      refine g_yes rfl rfl ?_
      refine m_int rfl rfl ?_
      refine g_yes rfl rfl ?_
      refine b_gtr rfl rfl ?_
      refine pick_f rfl rfl ?_
      refine o_nil ?_
      refine k_cond rfl (fun h => ?_) (fun h => ?_)
      ·
        refine k_seq ?_
        refine k_region ?_
        refine m_bool rfl rfl ?_
        refine o_nil ?_
        refine k_ret (ret_tmps (ts := [2]) (v := .bool _) rfl rfl ?_)
        exact ⟨⟨false, rfl, fun hh => by cases hh⟩, hK1.tr hK13⟩
      refine k_skip ?_
      refine k_blk ?_
      refine k_region ?_
      refine n_add rfl rfl (by omega) ?_
      refine m_int rfl rfl ?_
      refine o_nil ?_
      refine k_goal ⟨(m + 1, t + ((x.fs.length : Int) + (x.rs.length : Int))), ⟨rfl, rfl, rfl, rfl, trivial⟩, ⟨by dsimp only; omega, by dsimp only; omega, by dsimp only; omega, hpre' (by omega), hK1.tr hK13⟩, by dsimp only; omega⟩
end Go.Proofs.YtchbidckckmobaaDoor

/- A nil heap. No condition beyond what each contract names. -/
namespace Go.Proofs.YtchbidckckmobaaDoor
open Go.RowKit E
set_option linter.unusedVariables false
set_option linter.unusedSimpArgs false
set_option maxRecDepth 100000
attribute [local irreducible] ow qw kw kq cw opW Ret
theorem nlay_ok (w : World) (kind cl n mask : Int) : Ret Tryd.prog 67 [.pointer none, .int .i64 kind, .int .i64 cl, .int .i64 n, .int .i64 mask] w (fun v w' => v = .tuple #[.int .i64 0, .int .i64 1] ∧ w' = w) := by
  refine fn_enter (n := 67) Tryd.func67 rfl rfl (Nat.le_of_ble_eq_true rfl) (fun e => ?_)
  refine k_seq ?_
  refine k_region ?_
  refine m_int rfl rfl ?_
  refine m_int rfl rfl ?_
  refine o_nil ?_
  refine k_seq ?_
  refine k_seq ?_
  refine k_region ?_
  refine m_ptr rfl rfl ?_
  refine b_eqlp Tryd.underlying41 rfl rfl ?_
  refine m_bool rfl rfl ?_
  refine o_true (t := 17) rfl (rfl) ?_
  refine g_no rfl rfl rfl ?_
  refine g_no rfl rfl rfl ?_
  refine pick_t rfl rfl ?_
  refine o_nil ?_
  refine k_condt rfl ?_
  refine k_seq ?_
  refine k_region ?_
  refine m_int rfl rfl ?_
  refine m_int rfl rfl ?_
  refine o_nil ?_
  refine k_ret (ret_tmps (ts := [10, 11]) (v := .tuple #[.int _ _, .int _ _]) rfl rfl ?_)
  exact ⟨rfl, rfl⟩
theorem narr_ok (w : World) (cl n : Int) : Ret Tryd.prog 29 [.pointer none, .int .i64 cl, .bool true, .int .i64 n] w (fun v w' => v = .tuple #[.int .i64 0, .int .i64 1] ∧ w' = w) := by
  refine fn_enter (n := 23) Tryd.func29 rfl rfl (Nat.le_of_ble_eq_true rfl) (fun e => ?_)
  refine k_seq ?_
  refine k_region ?_
  refine m_int rfl rfl ?_
  refine m_int rfl rfl ?_
  refine o_nil ?_
  refine k_seq ?_
  refine k_seq ?_
  refine k_region ?_
  refine m_bool rfl rfl ?_
  refine o_nil ?_
  refine k_condt rfl ?_
  refine k_seq ?_
  refine k_region ?_
  refine m_ptr rfl rfl ?_
  refine m_int rfl rfl ?_
  refine m_int rfl rfl ?_
  refine o_call rfl rfl (nlay_ok w 3 cl n 0) (fun v w1 hv => ?_)
  obtain ⟨rfl, rfl⟩ := hv
  refine o_extr rfl rfl ?_
  refine o_extr rfl rfl ?_
  refine m_int rfl rfl ?_
  refine m_int rfl rfl ?_
  refine o_nil ?_
  refine k_ret (ret_tmps (ts := [8, 9]) (v := .tuple #[.int _ _, .int _ _]) rfl rfl ?_)
  exact ⟨rfl, rfl⟩
theorem nobj_ok (w : World) (cl : Int) : Ret Tryd.prog 41 [.pointer none, .int .i64 cl, .slice none 0 0] w (fun v w' => v = .tuple #[.int .i64 0, .int .i64 1] ∧ w' = w) := by
  refine fn_enter (n := 37) Tryd.func41 rfl rfl (Nat.le_of_ble_eq_true rfl) (fun e => ?_)
  refine k_seq ?_
  refine k_region ?_
  refine m_int rfl rfl ?_
  refine m_int rfl rfl ?_
  refine o_nil ?_
  refine k_seq ?_
  refine k_seq ?_
  refine k_region ?_
  refine m_sl rfl rfl ?_
  refine o_lens Tryd.underlying63 rfl ?_
  refine b_gtr rfl rfl ?_
  refine o_nil ?_
  refine k_no rfl ((by decide)) ?_
  refine k_skip ?_
  refine k_seq ?_
  refine k_region ?_
  refine m_int rfl rfl ?_
  refine o_nil ?_
  refine k_seq ?_
  refine k_seq ?_
  refine k_region ?_
  refine m_sl rfl rfl ?_
  refine o_lens Tryd.underlying63 rfl ?_
  refine m_int rfl rfl ?_
  refine o_nil ?_
  refine k_block ?_
  refine k_loop (σ := Unit) (fun s => [(0, .pointer none), (1, .int .i64 cl), (2, .slice none 0 0), (8, .int .u64 ((0#64).toNat : Int)), (14, .slice none 0 0), (15, .int .i64 0), (16, .int .i64 0)]) (fun s w' => w' = w) (fun s => 0) () ⟨rfl, rfl, rfl, rfl, rfl, rfl, rfl, trivial⟩ rfl (fun s e w1 hJ => ?_)
  subst hJ
  refine k_seq ?_
  refine k_region ?_
  refine b_lss rfl rfl ?_
  refine o_nil ?_
  refine k_seq ?_
  refine k_no rfl ((by decide)) ?_
  refine k_exit rfl ?_
  refine k_seq ?_
  refine k_region ?_
  refine m_ptr rfl rfl ?_
  refine m_int rfl rfl ?_
  refine m_sl rfl rfl ?_
  refine o_lens Tryd.underlying63 rfl ?_
  refine m_int rfl rfl ?_
  refine cv64_i rfl Tryd.underlying2 rfl ?_
  refine o_call rfl rfl (nlay_ok w1 1 cl 0 _) (fun v w2 hv => ?_)
  obtain ⟨rfl, rfl⟩ := hv
  refine o_extr rfl rfl ?_
  refine o_extr rfl rfl ?_
  refine m_int rfl rfl ?_
  refine m_int rfl rfl ?_
  refine o_nil ?_
  refine k_ret (ret_tmps (ts := [6, 7]) (v := .tuple #[.int _ _, .int _ _]) rfl rfl ?_)
  exact ⟨rfl, rfl⟩
theorem nlook_ok (w : World) (p : Int) : Ret Tryd.prog 31 [.pointer none, .int .i64 p] w (fun v w' => v = .tuple #[.int .i64 0, .int .i64 0, .int .i64 0, .int .i64 1] ∧ w' = w) := by
  refine fn_enter (n := 35) Tryd.func31 rfl rfl (Nat.le_of_ble_eq_true rfl) (fun e => ?_)
  refine k_seq ?_
  refine k_region ?_
  refine m_int rfl rfl ?_
  refine m_int rfl rfl ?_
  refine m_int rfl rfl ?_
  refine m_int rfl rfl ?_
  refine o_nil ?_
  refine k_seq ?_
  refine k_seq ?_
  refine k_region ?_
  refine m_ptr rfl rfl ?_
  refine b_eqlp Tryd.underlying41 rfl rfl ?_
  refine o_nil ?_
  refine k_yes rfl (rfl) ?_
  refine k_seq ?_
  refine k_region ?_
  refine m_int rfl rfl ?_
  refine m_int rfl rfl ?_
  refine m_int rfl rfl ?_
  refine m_int rfl rfl ?_
  refine o_nil ?_
  refine k_ret (ret_tmps (ts := [4, 5, 6, 7]) (v := .tuple #[.int _ _, .int _ _, .int _ _, .int _ _]) rfl rfl ?_)
  exact ⟨rfl, rfl⟩
theorem ncell_ok (w : World) (p i : Int) : Ret Tryd.prog 68 [.pointer none, .int .i64 p, .int .i64 i] w (fun v w' => v = .tuple #[.int .i64 0, .bool false, .int .i64 1] ∧ w' = w) := by
  refine fn_enter (n := 72) Tryd.func68 rfl rfl (Nat.le_of_ble_eq_true rfl) (fun e => ?_)
  refine k_seq ?_
  refine k_region ?_
  refine m_int rfl rfl ?_
  refine m_bool rfl rfl ?_
  refine m_int rfl rfl ?_
  refine o_nil ?_
  refine k_seq ?_
  refine k_seq ?_
  refine k_region ?_
  refine m_ptr rfl rfl ?_
  refine m_int rfl rfl ?_
  refine o_call rfl rfl (nlook_ok w p) (fun v w1 hv => ?_)
  obtain ⟨rfl, rfl⟩ := hv
  refine m_any rfl rfl ?_
  refine o_extr rfl rfl ?_
  refine o_extr rfl rfl ?_
  refine o_extr rfl rfl ?_
  refine o_extr rfl rfl ?_
  refine m_int rfl rfl ?_
  refine m_int rfl rfl ?_
  refine m_int rfl rfl ?_
  refine m_int rfl rfl ?_
  refine o_nil ?_
  refine k_seq ?_
  refine k_region ?_
  refine m_int rfl rfl ?_
  refine b_neq rfl rfl ?_
  refine m_bool rfl rfl ?_
  refine o_true (t := 28) rfl ((by decide)) ?_
  refine g_no rfl rfl rfl ?_
  refine g_no rfl rfl rfl ?_
  refine pick_t rfl rfl ?_
  refine m_bool rfl rfl ?_
  refine g_no rfl rfl rfl ?_
  refine g_no rfl rfl rfl ?_
  refine g_no rfl rfl rfl ?_
  refine pick_t rfl rfl ?_
  refine o_nil ?_
  refine k_condt rfl ?_
  refine k_seq ?_
  refine k_seq ?_
  refine k_region ?_
  refine m_int rfl rfl ?_
  refine b_eql rfl rfl ?_
  refine o_nil ?_
  refine k_no rfl ((by decide)) ?_
  refine k_skip ?_
  refine k_seq ?_
  refine k_region ?_
  refine m_int rfl rfl ?_
  refine m_int rfl rfl ?_
  refine m_bool rfl rfl ?_
  refine m_int rfl rfl ?_
  refine o_nil ?_
  refine k_ret (ret_tmps (ts := [6, 7, 8]) (v := .tuple #[.int _ _, .bool _, .int _ _]) rfl rfl ?_)
  exact ⟨rfl, rfl⟩
theorem nget_ok (w : World) (p i : Int) : Ret Tryd.prog 32 [.pointer none, .int .i64 p, .int .i64 i] w (fun v w' => v = .tuple #[.int .i64 0, .int .i64 1] ∧ w' = w) := by
  refine fn_enter (n := 29) Tryd.func32 rfl rfl (Nat.le_of_ble_eq_true rfl) (fun e => ?_)
  refine k_seq ?_
  refine k_region ?_
  refine m_int rfl rfl ?_
  refine m_int rfl rfl ?_
  refine o_nil ?_
  refine k_seq ?_
  refine k_region ?_
  refine m_ptr rfl rfl ?_
  refine m_int rfl rfl ?_
  refine m_int rfl rfl ?_
  refine o_call rfl rfl (ncell_ok w p i) (fun v w1 hv => ?_)
  obtain ⟨rfl, rfl⟩ := hv
  refine m_any rfl rfl ?_
  refine o_extr rfl rfl ?_
  refine o_extr rfl rfl ?_
  refine o_extr rfl rfl ?_
  refine m_int rfl rfl ?_
  refine m_bool rfl rfl ?_
  refine m_int rfl rfl ?_
  refine o_nil ?_
  refine k_seq ?_
  refine k_seq ?_
  refine k_region ?_
  refine m_int rfl rfl ?_
  refine b_neq rfl rfl ?_
  refine o_nil ?_
  refine k_yes rfl ((by decide)) ?_
  refine k_seq ?_
  refine k_region ?_
  refine m_int rfl rfl ?_
  refine m_int rfl rfl ?_
  refine m_int rfl rfl ?_
  refine o_nil ?_
  refine k_ret (ret_tmps (ts := [6, 7]) (v := .tuple #[.int _ _, .int _ _]) rfl rfl ?_)
  exact ⟨rfl, rfl⟩
theorem nset_ok (w : World) (p i x : Int) : Ret Tryd.prog 30 [.pointer none, .int .i64 p, .int .i64 i, .int .i64 x] w (fun v w' => v = .int .i64 1 ∧ w' = w) := by
  refine fn_enter (n := 44) Tryd.func30 rfl rfl (Nat.le_of_ble_eq_true rfl) (fun e => ?_)
  refine k_seq ?_
  refine k_region ?_
  refine m_int rfl rfl ?_
  refine o_nil ?_
  refine k_seq ?_
  refine k_region ?_
  refine m_ptr rfl rfl ?_
  refine m_int rfl rfl ?_
  refine m_int rfl rfl ?_
  refine o_call rfl rfl (ncell_ok w p i) (fun v w1 hv => ?_)
  obtain ⟨rfl, rfl⟩ := hv
  refine m_any rfl rfl ?_
  refine o_extr rfl rfl ?_
  refine o_extr rfl rfl ?_
  refine o_extr rfl rfl ?_
  refine m_int rfl rfl ?_
  refine m_bool rfl rfl ?_
  refine m_int rfl rfl ?_
  refine o_nil ?_
  refine k_seq ?_
  refine k_seq ?_
  refine k_region ?_
  refine m_int rfl rfl ?_
  refine b_neq rfl rfl ?_
  refine o_nil ?_
  refine k_yes rfl ((by decide)) ?_
  refine k_seq ?_
  refine k_region ?_
  refine m_int rfl rfl ?_
  refine m_int rfl rfl ?_
  refine o_nil ?_
  refine k_ret (ret_tmps (ts := [8]) (v := .int _ _) rfl rfl ?_)
  exact ⟨rfl, rfl⟩
theorem nused_ok (w : World) : Ret Tryd.prog 33 [.pointer none] w (fun v w' => v = .int .i64 0 ∧ w' = w) := by
  refine fn_enter (n := 11) Tryd.func33 rfl rfl (Nat.le_of_ble_eq_true rfl) (fun e => ?_)
  refine k_seq ?_
  refine k_region ?_
  refine m_int rfl rfl ?_
  refine o_nil ?_
  refine k_seq ?_
  refine k_seq ?_
  refine k_region ?_
  refine m_ptr rfl rfl ?_
  refine b_eqlp Tryd.underlying41 rfl rfl ?_
  refine o_nil ?_
  refine k_yes rfl (rfl) ?_
  refine k_seq ?_
  refine k_region ?_
  refine m_int rfl rfl ?_
  refine o_nil ?_
  refine k_ret (ret_tmps (ts := [2]) (v := .int _ _) rfl rfl ?_)
  exact ⟨rfl, rfl⟩
theorem nwords_ok (w : World) : Ret Tryd.prog 40 [.pointer none] w (fun v w' => v = .slice none 0 0 ∧ w' = w) := by
  refine fn_enter (n := 11) Tryd.func40 rfl rfl (Nat.le_of_ble_eq_true rfl) (fun e => ?_)
  refine k_seq ?_
  refine k_region ?_
  refine m_sl rfl rfl ?_
  refine o_nil ?_
  refine k_seq ?_
  refine k_seq ?_
  refine k_region ?_
  refine m_ptr rfl rfl ?_
  refine b_eqlp Tryd.underlying41 rfl rfl ?_
  refine o_nil ?_
  refine k_yes rfl (rfl) ?_
  refine k_seq ?_
  refine k_region ?_
  refine m_sl rfl rfl ?_
  refine o_nil ?_
  refine k_ret (ret_tmps (ts := [2]) (v := .slice _ _ _) rfl rfl ?_)
  exact ⟨rfl, rfl⟩
theorem ncoll_ok (w : World) (a : Option Addr) (m c : Nat) : Ret Tryd.prog 37 [.pointer none, .slice a m c] w (fun v w' => v = .tuple #[.slice none 0 0, .int .i64 1] ∧ w' = w) := by
  refine fn_enter (n := 54) Tryd.func37 rfl rfl (Nat.le_of_ble_eq_true rfl) (fun e => ?_)
  refine k_seq ?_
  refine k_region ?_
  refine m_sl rfl rfl ?_
  refine m_int rfl rfl ?_
  refine o_nil ?_
  refine k_seq ?_
  refine k_seq ?_
  refine k_region ?_
  refine m_ptr rfl rfl ?_
  refine b_eqlp Tryd.underlying41 rfl rfl ?_
  refine o_nil ?_
  refine k_yes rfl (rfl) ?_
  refine k_seq ?_
  refine k_region ?_
  refine m_sl rfl rfl ?_
  refine m_int rfl rfl ?_
  refine o_nil ?_
  refine k_ret (ret_tmps (ts := [4, 5]) (v := .tuple #[.slice _ _ _, .int _ _]) rfl rfl ?_)
  exact ⟨rfl, rfl⟩
theorem hnil_ok (w : World) (cl n x : Int) (hfix : Ret Tryd.prog 27 [] w (fun v w' => v = .bool true ∧ Keep [] w w')) : Ret Tryd.prog 11 [.int .i64 cl, .int .i64 n, .int .i64 x] w (fun v w' => v = .bool true ∧ Keep [] w w') := by
  refine fn_enter (n := 104) Tryd.func11 rfl rfl (Nat.le_of_ble_eq_true rfl) (fun e => ?_)
  refine k_seq ?_
  refine k_region ?_
  refine m_bool rfl rfl ?_
  refine o_nil ?_
  refine k_seq ?_
  refine k_seq ?_
  refine k_region ?_
  refine o_call rfl rfl hfix (fun v w1 hv => ?_)
  obtain ⟨rfl, hK1⟩ := hv
  refine u_notb rfl ?_
  refine o_nil ?_
  refine k_condf rfl ?_
  refine k_skip ?_
  refine k_seq ?_
  refine k_region ?_
  refine m_ptr rfl rfl ?_
  refine o_nil ?_
  refine k_seq ?_
  refine k_region ?_
  refine m_ptr rfl rfl ?_
  refine m_int rfl rfl ?_
  refine o_call rfl rfl (nobj_ok w1 cl) (fun v w2 hv => ?_)
  obtain ⟨rfl, rfl⟩ := hv
  refine m_any rfl rfl ?_
  refine o_extr rfl rfl ?_
  refine o_extr rfl rfl ?_
  refine m_int rfl rfl ?_
  refine m_int rfl rfl ?_
  refine o_nil ?_
  refine k_seq ?_
  refine k_region ?_
  refine m_ptr rfl rfl ?_
  refine m_int rfl rfl ?_
  refine m_int rfl rfl ?_
  refine o_call rfl rfl (narr_ok w2 cl n) (fun v w3 hv => ?_)
  obtain ⟨rfl, rfl⟩ := hv
  refine m_any rfl rfl ?_
  refine o_extr rfl rfl ?_
  refine o_extr rfl rfl ?_
  refine m_int rfl rfl ?_
  refine m_int rfl rfl ?_
  refine o_nil ?_
  refine k_seq ?_
  refine k_region ?_
  refine m_ptr rfl rfl ?_
  refine m_int rfl rfl ?_
  refine o_call rfl rfl (nlook_ok w3 n) (fun v w4 hv => ?_)
  obtain ⟨rfl, rfl⟩ := hv
  refine m_any rfl rfl ?_
  refine o_extr rfl rfl ?_
  refine o_extr rfl rfl ?_
  refine o_extr rfl rfl ?_
  refine o_extr rfl rfl ?_
  refine m_int rfl rfl ?_
  refine m_int rfl rfl ?_
  refine m_int rfl rfl ?_
  refine m_int rfl rfl ?_
  refine o_nil ?_
  refine k_seq ?_
  refine k_region ?_
  refine m_ptr rfl rfl ?_
  refine m_int rfl rfl ?_
  refine m_int rfl rfl ?_
  refine o_call rfl rfl (nget_ok w4 n n) (fun v w5 hv => ?_)
  obtain ⟨rfl, rfl⟩ := hv
  refine m_any rfl rfl ?_
  refine o_extr rfl rfl ?_
  refine o_extr rfl rfl ?_
  refine m_int rfl rfl ?_
  refine m_int rfl rfl ?_
  refine o_nil ?_
  refine k_seq ?_
  refine k_region ?_
  refine m_ptr rfl rfl ?_
  refine m_int rfl rfl ?_
  refine o_bsl (E := 3) (cs := #[iv n]) rfl (fun _ => by kernel_rfl) (fun g6 w6 hB6 hK6 hb6 hZ6 => ?_)
  refine o_call rfl rfl (ncoll_ok w6 _ _ _) (fun v w7 hv => ?_)
  obtain ⟨rfl, rfl⟩ := hv
  refine m_any rfl rfl ?_
  refine o_extr rfl rfl ?_
  refine o_extr rfl rfl ?_
  refine m_sl rfl rfl ?_
  refine m_int rfl rfl ?_
  refine o_nil ?_
  refine k_seq ?_
  refine k_region ?_
  refine o_call rfl rfl (hnew_ok w7 (-1)) (fun v w8 hv => ?_)
  obtain ⟨hK8, hv⟩ := hv
  rw [if_neg (by decide)] at hv
  subst hv
  refine m_any rfl rfl ?_
  refine o_extr rfl rfl ?_
  refine o_extr rfl rfl ?_
  refine m_ptr rfl rfl ?_
  refine m_int rfl rfl ?_
  refine o_nil ?_
  refine k_seq ?_
  refine k_region ?_
  refine m_int rfl rfl ?_
  refine b_eql rfl rfl ?_
  refine m_bool rfl rfl ?_
  refine o_true (t := 65) rfl (rfl) ?_
  refine g_yes rfl rfl ?_
  refine m_int rfl rfl ?_
  refine g_yes rfl rfl ?_
  refine b_eql rfl rfl ?_
  refine pick_t rfl rfl ?_
  refine m_bool rfl rfl ?_
  refine o_true (t := 69) rfl (rfl) ?_
  refine g_yes rfl rfl ?_
  refine m_int rfl rfl ?_
  refine g_yes rfl rfl ?_
  refine b_eql rfl rfl ?_
  refine pick_t rfl rfl ?_
  refine m_bool rfl rfl ?_
  refine o_true (t := 73) rfl (rfl) ?_
  refine g_yes rfl rfl ?_
  refine m_int rfl rfl ?_
  refine g_yes rfl rfl ?_
  refine b_eql rfl rfl ?_
  refine pick_t rfl rfl ?_
  refine m_bool rfl rfl ?_
  refine o_true (t := 77) rfl (rfl) ?_
  refine g_yes rfl rfl ?_
  refine m_int rfl rfl ?_
  refine g_yes rfl rfl ?_
  refine b_eql rfl rfl ?_
  refine pick_t rfl rfl ?_
  refine m_bool rfl rfl ?_
  refine o_true (t := 81) rfl (rfl) ?_
  refine g_yes rfl rfl ?_
  refine m_int rfl rfl ?_
  refine g_yes rfl rfl ?_
  refine b_eql rfl rfl ?_
  refine pick_t rfl rfl ?_
  refine m_bool rfl rfl ?_
  refine o_true (t := 85) rfl (rfl) ?_
  refine g_yes rfl rfl ?_
  refine m_ptr rfl rfl ?_
  refine g_yes rfl rfl ?_
  refine m_int rfl rfl ?_
  refine g_yes rfl rfl ?_
  refine m_int rfl rfl ?_
  refine g_yes rfl rfl ?_
  refine m_int rfl rfl ?_
  refine g_yes rfl rfl ?_
  refine o_call rfl rfl (nset_ok w8 n n x) (fun v w9 hv => ?_)
  obtain ⟨rfl, rfl⟩ := hv
  refine g_yes rfl rfl ?_
  refine b_eql rfl rfl ?_
  refine pick_t rfl rfl ?_
  refine m_bool rfl rfl ?_
  refine o_true (t := 93) rfl (rfl) ?_
  refine g_yes rfl rfl ?_
  refine m_ptr rfl rfl ?_
  refine g_yes rfl rfl ?_
  refine o_call rfl rfl (nused_ok w9) (fun v w10 hv => ?_)
  obtain ⟨rfl, rfl⟩ := hv
  refine g_yes rfl rfl ?_
  refine b_eql rfl rfl ?_
  refine pick_t rfl rfl ?_
  refine m_bool rfl rfl ?_
  refine o_true (t := 98) rfl (rfl) ?_
  refine g_yes rfl rfl ?_
  refine m_ptr rfl rfl ?_
  refine g_yes rfl rfl ?_
  refine o_call rfl rfl (nwords_ok w10) (fun v w11 hv => ?_)
  obtain ⟨rfl, rfl⟩ := hv
  refine g_yes rfl rfl ?_
  refine o_lens Tryd.underlying22 rfl ?_
  refine g_yes rfl rfl ?_
  refine b_eql rfl rfl ?_
  refine pick_t rfl rfl ?_
  refine m_bool rfl rfl ?_
  refine o_nil ?_
  refine k_ret (ret_tmps (ts := [6]) (v := .bool _) rfl rfl ?_)
  exact ⟨rfl, (hK1.tr hK6).tr hK8⟩
end Go.Proofs.YtchbidckckmobaaDoor

/- HeapRoom. No condition beyond what each contract names. -/
namespace Go.Proofs.YtchbidckckmobaaDoor
open Go.RowKit E
set_option linter.unusedVariables false
set_option linter.unusedSimpArgs false
set_option maxRecDepth 100000
attribute [local irreducible] ow qw kw kq cw opW Ret
theorem lay_room (ws L : List Int) (lim u kind : Int) (n : Nat) (hk : kind = 2 ∨ kind = 3) (hn : n ≤ 65535) (hu : (ws.length : Int) = u + 1) : ((layH ws L lim kind 1 n 0).2.1 = 0 ↔ u + 1 + (n : Int) ≤ lim) ∧ ((layH ws L lim kind 1 n 0).2.1 ≠ 0 → (layH ws L lim kind 1 n 0).2.1 = 27) ∧ (u + 1 + (n : Int) ≤ lim → ((layH ws L lim kind 1 n 0).2.2.1.length : Int) = u + 1 + 1 + n) ∧ (¬ u + 1 + (n : Int) ≤ lim → ((layH ws L lim kind 1 n 0).2.2.1.length : Int) = u + 1) := by
  have hok : hOk kind 1 n 0 := by
    unfold hOk
    rcases hk with rfl | rfl <;> simp <;> omega
  have hh := head_yes hok
  unfold layH
  rw [if_neg (by omega)]
  by_cases hf : u + 1 + (n : Int) ≤ lim
  · rw [if_neg (by omega), hh, if_neg (by simp)]
    refine ⟨⟨fun _ => hf, fun _ => rfl⟩, fun h => absurd rfl h, fun _ => ?_, fun h => absurd hf h⟩
    simp only [List.length_append, List.length_cons, List.length_replicate, Int.toNat_natCast]
    push_cast
    omega
  · rw [if_pos (by omega)]
    exact ⟨⟨fun h => absurd (show (27 : Int) = 0 from h) (by decide), fun h => absurd h hf⟩, fun _ => rfl, fun h => absurd h hf, fun _ => hu⟩
theorem hroom_ok (w : World) (lim0 : BitVec 16) (a : Option Addr) (c : Nat) (sz : List (BitVec 8)) (hR : Rd w a (sz.map u8v)) (hl : sz.length ≤ 9223372036854775807) (hfix : Ret Tryd.prog 27 [] w (fun v w' => v = .bool true ∧ Keep [] w w')) : Ret Tryd.prog 8 [.int .u16 (lim0.toNat : Int), .slice a sz.length c] w (fun v w' => v = .bool true ∧ Keep [] w w') := by
  refine fn_enter (n := 77) Tryd.func8 rfl rfl (Nat.le_of_ble_eq_true rfl) (fun e => ?_)
  refine k_seq ?_
  refine k_region ?_
  refine m_bool rfl rfl ?_
  refine o_nil ?_
  refine k_seq ?_
  refine k_seq ?_
  refine k_region ?_
  refine o_call rfl rfl hfix (fun v w1 hv => ?_)
  obtain ⟨rfl, hK1⟩ := hv
  refine u_notb rfl ?_
  refine o_nil ?_
  refine k_condf rfl ?_
  refine k_skip ?_
  refine k_seq ?_
  refine k_region ?_
  refine m_int rfl rfl ?_
  refine cv16_i rfl Tryd.underlying3 rfl ?_
  have hlim := lim0.isLt
  refine o_call rfl rfl (hnew_ok w1 (lim0.toNat : Int)) (fun v w2 hv => ?_)
  obtain ⟨hK2, hv⟩ := hv
  rw [if_pos (by omega)] at hv
  obtain ⟨hb, rfl, hH2⟩ := hv
  refine m_any rfl rfl ?_
  refine o_extr rfl rfl ?_
  refine o_extr rfl rfl ?_
  refine m_ptr rfl rfl ?_
  refine m_int rfl rfl ?_
  refine o_nil ?_
  refine k_seq ?_
  refine k_seq ?_
  refine k_region ?_
  refine m_int rfl rfl ?_
  refine b_neq rfl rfl ?_
  refine m_bool rfl rfl ?_
  refine o_false (t := 23) rfl ((fun h' => h' rfl)) ?_
  refine g_yes rfl rfl ?_
  refine m_ptr rfl rfl ?_
  refine g_yes rfl rfl ?_
  refine b_eqlp Tryd.underlying41 rfl rfl ?_
  refine pick_f rfl rfl ?_
  refine o_nil ?_
  refine k_no rfl ((by intro h; cases h)) ?_
  refine k_skip ?_
  refine k_seq ?_
  refine k_region ?_
  refine m_int rfl rfl ?_
  refine o_nil ?_
  refine k_seq ?_
  refine k_seq ?_
  refine k_region ?_
  refine m_sl rfl rfl ?_
  refine o_lens Tryd.underlying34 rfl ?_
  refine m_int rfl rfl ?_
  refine o_nil ?_
  refine k_block ?_
  refine k_loop (σ := Nat × Int) (fun s => [(0, .int .u16 (lim0.toNat : Int)), (5, .pointer (some ⟨hb, 0, none⟩)), (7, .int .i64 s.2), (27, .slice a sz.length c), (28, .int .i64 (sz.length : Int)), (29, .int .i64 (s.1 : Int))]) (fun s w' => s.1 ≤ sz.length ∧ (∃ ws L, HP (fun b => w1.heap.size ≤ b) w' hb ws (lim0.toNat : Int) L ∧ WFH ws L ∧ (ws.length : Int) = s.2 + 1 ∧ (ws.length : Int) ≤ (lim0.toNat : Int) + 1) ∧ Keep [] w1 w') (fun s => sz.length - s.1) (0, 0) ⟨rfl, rfl, rfl, rfl, rfl, rfl, trivial⟩ ⟨Nat.zero_le _, ⟨[0], [], hH2, WFH.one, rfl, by simp; omega⟩, hK2⟩ (fun s e w3 hJ => ?_)
  obtain ⟨m, u⟩ := s
  obtain ⟨hm, ⟨ws, L, hH3, hW3, hu3, hl3⟩, hK3⟩ := hJ
  dsimp only at hm hu3 ⊢
  have hW3l := hW3.len
  refine k_seq ?_
  refine k_region ?_
  refine b_lss rfl rfl ?_
  refine o_nil ?_
  refine k_seq ?_
  refine k_cond rfl (fun h => ?_) (fun h => ?_)
  rotate_left
  ·
    refine k_exit rfl ?_
    refine k_seq ?_
    refine k_region ?_
    refine m_bool rfl rfl ?_
    refine o_nil ?_
    refine k_ret (ret_tmps (ts := [4]) (v := .bool _) rfl rfl ?_)
    exact ⟨rfl, hK1.tr hK3⟩
  have hml : m < sz.length := by omega
  have hc0 : (sz.map u8v)[m]? = some (u8v sz[m]) := by simp [hml]
  obtain ⟨bs, os, hae, hcell⟩ := (hR.new (hK1.tr hK3)) _ _ hc0
  subst hae
  have hszl := sz[m].isLt
  refine k_skip ?_
  refine k_seq ?_
  refine k_block ?_
  refine k_seq ?_
  refine k_region ?_
  refine m_int rfl rfl ?_
  refine o_ixs1 (m := m) Tryd.underlying34 rfl rfl rfl hml ?_
  refine o_ld (v := u8v sz[m]) rfl rfl hcell ?_
  refine m_int rfl rfl ?_
  refine m_int rfl rfl ?_
  refine o_nil ?_
  refine k_seq ?_
  refine k_seq ?_
  refine k_region ?_
  refine m_int rfl rfl ?_
  refine b_geq rfl rfl ?_
  refine o_nil ?_
  refine k_cond rfl (fun h => ?_) (fun h => ?_)
  ·
    refine k_exit rfl ?_
    refine k_seq ?_
    refine k_region ?_
    refine m_bool rfl rfl ?_
    refine o_nil ?_
    refine k_ret (ret_tmps (ts := [4]) (v := .bool _) rfl rfl ?_)
    exact ⟨rfl, hK1.tr hK3⟩
  refine k_skip ?_
  refine k_seq ?_
  refine k_region ?_
  refine m_ptr rfl rfl ?_
  refine m_int rfl rfl ?_
  refine v8_rem (b := 2#8) rfl rfl (by decide) ?_
  refine v8_eql (b := 1#8) rfl rfl ?_
  refine m_int rfl rfl ?_
  refine cv8_i rfl Tryd.underlying3 rfl ?_
  refine o_call rfl rfl (harray_ok (fun b => w1.heap.size ≤ b) w3 hb ws (lim0.toNat : Int) L 1 (sz[m].toNat : Int) (decide (sz[m] % 2#8 = 1#8)) hH3 hW3 (by omega) hl3 (fun b hb => Nat.le_trans hK3.size hb) (by decide) (by omega)) (fun v w4 hv => ?_)
  obtain ⟨hk0, hkd⟩ : ∃ kd : Int, (if decide (sz[m] % 2#8 = 1#8) = true then (3 : Int) else 2) = kd ∧ (kd = 2 ∨ kd = 3) := ⟨_, rfl, by split <;> simp⟩
  rw [hkd.1] at hv
  obtain ⟨h0, h27, hT, hF⟩ := lay_room ws L (lim0.toNat : Int) u hk0 sz[m].toNat hkd.2 (by omega) hu3
  obtain ⟨er, her⟩ : ∃ er, (layH ws L (lim0.toNat : Int) hk0 1 (sz[m].toNat : Int) 0).2.1 = er := ⟨_, rfl⟩
  obtain ⟨ws', hws'⟩ : ∃ x, (layH ws L (lim0.toNat : Int) hk0 1 (sz[m].toNat : Int) 0).2.2.1 = x := ⟨_, rfl⟩
  rw [her, hws'] at hv
  rw [her] at h0 h27
  rw [hws'] at hT hF
  obtain ⟨rfl, hH4, hW4, hl4, hKH4⟩ := hv
  have hK4 : Keep [] w1 w4 := hKH4.below hK3 (fun b hb => hb)
  have hW4l := hW4.len
  refine m_any rfl rfl ?_
  refine o_extr rfl rfl ?_
  refine o_extr rfl rfl ?_
  refine m_int rfl rfl ?_
  refine m_int rfl rfl ?_
  refine o_nil ?_
  refine k_seq ?_
  refine k_region ?_
  refine m_int rfl rfl ?_
  refine n_add rfl rfl (by omega) ?_
  refine m_int rfl rfl ?_
  refine cv8_i rfl Tryd.underlying3 rfl ?_
  refine n_add rfl rfl (by omega) ?_
  refine m_int rfl rfl ?_
  refine cv16_i rfl Tryd.underlying3 rfl ?_
  refine b_leq rfl rfl ?_
  refine m_bool rfl rfl ?_
  refine o_nil ?_
  refine k_seq ?_
  refine k_seq ?_
  refine k_region ?_
  refine m_int rfl rfl ?_
  refine b_eql rfl rfl ?_
  refine m_bool rfl rfl ?_
  refine b_neqb Tryd.underlying4 rfl rfl ?_
  refine m_bool rfl rfl ?_
  refine o_false (t := 58) rfl ((fun h' => h' (decide_eq_decide.2 h0))) ?_
  refine g_yes rfl rfl ?_
  refine m_bool rfl rfl ?_
  refine g_yes rfl rfl ?_
  refine u_not rfl ?_
  refine g_yes rfl rfl ?_
  refine m_bool rfl rfl ?_
  refine o_split (t := 61) rfl (fun h => ?_) (fun h => ?_)
  ·
    refine g_yes rfl rfl ?_
    refine m_int rfl rfl ?_
    refine g_yes rfl rfl ?_
    refine b_neq rfl rfl ?_
    refine g_yes rfl rfl ?_
    refine pick_t rfl rfl ?_
    refine pick_f rfl rfl ?_
    refine o_nil ?_
    refine k_no rfl ((by have h' := h; omega)) ?_
    refine k_skip ?_
    refine k_seq ?_
    refine k_seq ?_
    refine k_region ?_
    refine m_bool rfl rfl ?_
    refine o_nil ?_
    refine k_cond rfl (fun h => ?_) (fun h => ?_)
    ·
      refine k_region ?_
      refine m_int rfl rfl ?_
      refine m_int rfl rfl ?_
      refine cv8_i rfl Tryd.underlying3 rfl ?_
      refine n_add rfl rfl (by omega) ?_
      refine n_add rfl rfl (by omega) ?_
      refine m_int rfl rfl ?_
      refine o_nil ?_
      refine k_seq ?_
      refine k_region ?_
      refine m_ptr rfl rfl ?_
      refine o_call rfl rfl (used_ok _ w4 hb ws' (lim0.toNat : Int) _ hH4 hW4l) (fun v w5 hv => ?_)
      obtain ⟨rfl, rfl⟩ := hv
      refine m_int rfl rfl ?_
      refine b_neq rfl rfl ?_
      refine o_nil ?_
      refine k_no rfl ((by omega)) ?_
      refine k_skip ?_
      refine k_blk ?_
      refine k_region ?_
      refine n_add rfl rfl (by omega) ?_
      refine m_int rfl rfl ?_
      refine o_nil ?_
      refine k_goal ⟨(m + 1, u + (1 + (sz[m].toNat : Int))), ⟨rfl, rfl, rfl, rfl, rfl, rfl, trivial⟩, ⟨hml, ⟨ws', _, hH4, hW4, by dsimp only; omega, hl4⟩, hK4⟩, by dsimp only; omega⟩
    refine k_skip ?_
    refine k_seq ?_
    refine k_region ?_
    refine m_ptr rfl rfl ?_
    refine o_call rfl rfl (used_ok _ w4 hb ws' (lim0.toNat : Int) _ hH4 hW4l) (fun v w5 hv => ?_)
    obtain ⟨rfl, rfl⟩ := hv
    refine m_int rfl rfl ?_
    refine b_neq rfl rfl ?_
    refine o_nil ?_
    refine k_no rfl ((by omega)) ?_
    refine k_skip ?_
    refine k_blk ?_
    refine k_region ?_
    refine n_add rfl rfl (by omega) ?_
    refine m_int rfl rfl ?_
    refine o_nil ?_
    refine k_goal ⟨(m + 1, u), ⟨rfl, rfl, rfl, rfl, rfl, rfl, trivial⟩, ⟨hml, ⟨ws', _, hH4, hW4, by dsimp only; omega, hl4⟩, hK4⟩, by dsimp only; omega⟩
  ·
    refine g_no rfl rfl rfl ?_
    refine g_no rfl rfl rfl ?_
    refine g_yes rfl rfl ?_
    refine pick_f rfl rfl ?_
    refine pick_f rfl rfl ?_
    refine o_nil ?_
    refine k_condf rfl ?_
    refine k_skip ?_
    refine k_seq ?_
    refine k_seq ?_
    refine k_region ?_
    refine m_bool rfl rfl ?_
    refine o_nil ?_
    refine k_cond rfl (fun h => ?_) (fun h => ?_)
    ·
      refine k_region ?_
      refine m_int rfl rfl ?_
      refine m_int rfl rfl ?_
      refine cv8_i rfl Tryd.underlying3 rfl ?_
      refine n_add rfl rfl (by omega) ?_
      refine n_add rfl rfl (by omega) ?_
      refine m_int rfl rfl ?_
      refine o_nil ?_
      refine k_seq ?_
      refine k_region ?_
      refine m_ptr rfl rfl ?_
      refine o_call rfl rfl (used_ok _ w4 hb ws' (lim0.toNat : Int) _ hH4 hW4l) (fun v w5 hv => ?_)
      obtain ⟨rfl, rfl⟩ := hv
      refine m_int rfl rfl ?_
      refine b_neq rfl rfl ?_
      refine o_nil ?_
      refine k_no rfl ((by omega)) ?_
      refine k_skip ?_
      refine k_blk ?_
      refine k_region ?_
      refine n_add rfl rfl (by omega) ?_
      refine m_int rfl rfl ?_
      refine o_nil ?_
      refine k_goal ⟨(m + 1, u + (1 + (sz[m].toNat : Int))), ⟨rfl, rfl, rfl, rfl, rfl, rfl, trivial⟩, ⟨hml, ⟨ws', _, hH4, hW4, by dsimp only; omega, hl4⟩, hK4⟩, by dsimp only; omega⟩
    refine k_skip ?_
    refine k_seq ?_
    refine k_region ?_
    refine m_ptr rfl rfl ?_
    refine o_call rfl rfl (used_ok _ w4 hb ws' (lim0.toNat : Int) _ hH4 hW4l) (fun v w5 hv => ?_)
    obtain ⟨rfl, rfl⟩ := hv
    refine m_int rfl rfl ?_
    refine b_neq rfl rfl ?_
    refine o_nil ?_
    refine k_no rfl ((by omega)) ?_
    refine k_skip ?_
    refine k_blk ?_
    refine k_region ?_
    refine n_add rfl rfl (by omega) ?_
    refine m_int rfl rfl ?_
    refine o_nil ?_
    refine k_goal ⟨(m + 1, u), ⟨rfl, rfl, rfl, rfl, rfl, rfl, trivial⟩, ⟨hml, ⟨ws', _, hH4, hW4, by dsimp only; omega, hl4⟩, hK4⟩, by dsimp only; omega⟩
end Go.Proofs.YtchbidckckmobaaDoor

/- Both heaps' Collect. No condition beyond what each contract names. -/
namespace Go.Proofs.YtchbidckckmobaaDoor
open Go.RowKit E
set_option linter.unusedVariables false
set_option linter.unusedSimpArgs false
set_option maxRecDepth 100000
attribute [local irreducible] ow qw kw kq cw opW Ret
/-- what a heap's Collect answers and leaves; H is what is said of the heap -/
def HColl (w w' : World) (v : Value) (ws rts L : List Int) (H : List Int → List Int → Prop) : Prop :=
  ∃ er xs rs a2 c2, v = .tuple #[.slice a2 rs.length c2, .int .i64 er] ∧ Rd w' a2 (rs.map iv) ∧ rs.length ≤ 9223372036854775807 ∧ (∀ z, a2 = some z → w.heap.size ≤ z.block) ∧ CollIs ws rts er xs rs ∧ ((er ≠ 0 ∧ H ws L) ∨ (er = 0 ∧ ∃ L', blocksW xs = some L' ∧ H xs L'))
theorem hcoll_ok (k : Nat → Prop) (w : World) (hb : Nat) (ws : List Int) (lim : Int) (L : List Int) (ra : Option Addr) (rc : Nat) (rts : List Int) (h : HP k w hb ws lim L) (hW : WFH ws L) (hu : (ws.length : Int) ≤ lim + 1) (hkw : ∀ b, w.heap.size ≤ b → k b) (hR : Rd w ra (rts.map iv)) (hlr : rts.length ≤ 1000000) (ht : TabTz w) :
    Ret Tryd.prog 37 [.pointer (some ⟨hb, 0, none⟩), .slice ra rts.length rc] w (fun v w' => HColl w w' v ws rts L (HRes k w hb lim w')) := by
  have hHP := h
  obtain ⟨a, c, r, m, hB, hS, hM, hg, hk1, hk2, hk3⟩ := h
  have hlen := hW.len
  have hbl := hB.lt
  refine fn_enter (n := 54) Tryd.func37 rfl rfl (Nat.le_of_ble_eq_true rfl) (fun e => ?_)
  refine k_seq ?_
  refine k_region ?_
  refine m_sl rfl rfl ?_
  refine m_int rfl rfl ?_
  refine o_nil ?_
  refine k_seq ?_
  refine k_seq ?_
  refine k_region ?_
  refine m_ptr rfl rfl ?_
  refine b_eqlp Tryd.underlying41 rfl rfl ?_
  refine o_nil ?_
  refine k_no rfl ((by intro h; cases h)) ?_
  refine k_skip ?_
  refine k_seq ?_
  refine k_region ?_
  refine m_ptr rfl rfl ?_
  refine o_nilc rfl ?_
  refine o_fld0 rfl rfl ?_
  refine o_ld (v := .slice a ws.length c) rfl rfl (hB.at rfl) ?_
  refine m_sl rfl rfl ?_
  refine o_call rfl rfl (scoll_ok w a ra c rc ws rts hS.rd hR hS.le (sl_cap hS) (by omega) hlr ht) (fun v w1 hv => ?_)
  obtain ⟨er, xs, rs, a2, c2, a3, c3, rfl, hS1, ⟨hf1, hf3⟩, hR1, hL1, hK1, hm⟩ := coll_is hv
  refine m_any rfl rfl ?_
  refine o_extr rfl rfl ?_
  refine o_extr rfl rfl ?_
  refine o_extr rfl rfl ?_
  refine m_sl rfl rfl ?_
  refine m_sl rfl rfl ?_
  refine m_int rfl rfl ?_
  refine o_nil ?_
  refine k_seq ?_
  refine k_seq ?_
  refine k_region ?_
  refine m_int rfl rfl ?_
  refine b_neq rfl rfl ?_
  refine o_nil ?_
  refine k_cond rfl (fun h => ?_) (fun h => ?_)
  ·
    refine k_seq ?_
    refine k_region ?_
    refine m_int rfl rfl ?_
    refine m_sl rfl rfl ?_
    refine m_int rfl rfl ?_
    refine o_nil ?_
    refine k_ret (ret_tmps (ts := [4, 5]) (v := .tuple #[.slice _ _ _, .int _ _]) rfl rfl ?_)
    obtain ⟨rfl, rfl⟩ := hm.no h
    exact ⟨er, [], [], none, 0, rfl, Rd.nil _ _, by simp, fun z hz => (by cases hz), hm, .inl ⟨h, hHP.new hK1, hW, hu, hK1.h⟩⟩
  obtain rfl : er = 0 := Decidable.of_not_not h
  obtain ⟨L0, LV, hSL, hxs, hrs⟩ := hm.yes
  have hW' := hW.out hSL
  have hbl' := hSL.blocks
  have hxle := hSL.le
  obtain ⟨L', hL'⟩ : ∃ L', LV.map (adr ws LV 1) = L' := ⟨_, rfl⟩
  rw [hL', ← hxs] at hW' hbl'
  rw [← hxs] at hxle
  refine k_skip ?_
  refine k_seq ?_
  refine k_region ?_
  refine m_ptr rfl rfl ?_
  refine m_ptr rfl rfl ?_
  refine m_sl rfl rfl ?_
  refine o_mkmap (Value.int .i64) (fun r2 w2 hM2 hK2 hb2 hZ2 => ?_)
  have hB2 := (hB.keep hK1 (by simp)).keep hK2 (by simp)
  refine o_nilc rfl ?_
  refine o_fld0 rfl rfl ?_
  refine o_st (v := .slice a2 xs.length c2) rfl rfl rfl rfl hB2 (show 0 < 3 by decide) (fun w3 hB3 hK3 hZ3 => ?_)
  refine o_nilc rfl ?_
  refine o_fld (off := 2) rfl rfl ?_
  refine o_st (v := .map (some r2)) rfl rfl rfl rfl hB3 (show 2 < 3 by decide) (fun w4 hB4 hK4 hZ4 => ?_)
  have hB4' : Blk w4 hb #[.slice a2 xs.length c2, iv lim, .map (some r2)] 108 := hB4
  have hS2 := hS1.new hK2
  have hS3 := hS2.keep hK3 (hS2.off hB2 (by decide))
  have hS4 := hS3.keep hK4 (hS3.off hB3 (by decide))
  have hne : r2 ≠ hb := by have := hK1.size; omega
  have hM3 := hM2.keep hK3 (by simpa using hne)
  have hM4 := hM3.keep hK4 (by simpa using hne)
  have hoff : Off [hb] a3 := fun z hz hmm => by rw [List.mem_singleton] at hmm; have := hf3 z hz; omega
  have hR4 := ((hR1.new hK2).keep hK3 hoff).keep hK4 hoff
  have hKH4 : KeepH k w w4 := (((hK1.h).tr hK2.h).tr (hK3.hb hB2 (.inr (.inl rfl)) hk1)).tr (hK4.hb hB3 (.inr (.inl rfl)) hk1)
  refine o_nil ?_
  refine k_seq ?_
  refine k_region ?_
  refine m_sl rfl rfl ?_
  refine o_call rfl rfl (blocks_ok w4 a2 xs.length c2 xs hS4.rd rfl (by omega)) (fun v w5 hv => ?_)
  obtain ⟨e5, a5, n5, c5, rfl, hbc⟩ := blk_cases hv
  obtain ⟨rfl, L5, hb5, rfl, hS5, hK5, _⟩ := hbc.resolve_left (fun hh => by have := hh.2.1; rw [hbl'] at this; cases this)
  obtain rfl : L5 = L' := Option.some.inj (hb5.symm.trans hbl')
  have hL5 := (blocks_up hbl').2
  have hlt3 : rs.map iv ≠ [] → ∀ z, a3 = some z → z.block < w1.heap.size := by
    intro hn z hz
    obtain ⟨v, hv⟩ : ∃ v, (rs.map iv)[0]? = some v := by
      cases hrs' : rs.map iv with
      | nil => exact absurd hrs' hn
      | cons x l => exact ⟨x, rfl⟩
    obtain ⟨b, o, ha, hc⟩ := hR1 0 v hv
    rw [hz] at ha
    cases ha
    exact World.block_lt_of_cell? _ _ hc
  refine m_any rfl rfl ?_
  refine o_extr rfl rfl ?_
  refine o_extr rfl rfl ?_
  refine m_sl rfl rfl ?_
  refine m_int rfl rfl ?_
  refine o_nil ?_
  refine k_seq ?_
  refine k_seq ?_
  refine k_region ?_
  refine m_sl rfl rfl ?_
  refine o_lens Tryd.underlying23 rfl ?_
  refine m_int rfl rfl ?_
  refine o_nil ?_
  refine k_block ?_
  refine k_loop (σ := Nat × List (Int × Value)) (fun s => [(0, .pointer (some ⟨hb, 0, none⟩)), (7, .slice a3 rs.length c3), (41, .slice a5 L5.length c5), (42, .int .i64 (L5.length : Int)), (43, .int .i64 (s.1 : Int))]) (fun s w' => s.1 ≤ L5.length ∧ Blk w' hb #[.slice a2 xs.length c2, iv lim, .map (some r2)] 108 ∧ Sl w' 2 1 a2 xs.length c2 (xs.map iv) ∧ Mp w' r2 (Value.int .i64) s.2 ∧ (∀ x : Int, getM s.2 x = if x ∈ L5.take s.1 then some (.bool true) else none) ∧ Sl w' 3 1 a5 L5.length c5 (L5.map iv) ∧ Rd w' a3 (rs.map iv) ∧ KeepH k w w') (fun s => L5.length - s.1) (0, []) ⟨rfl, rfl, rfl, rfl, rfl, trivial⟩ ⟨Nat.zero_le _, hB4'.keep hK5 (by simp), hS4.new hK5, hM4.keep hK5 (by simp), fun x => by simp [getM_nil], hS5, hR4.new hK5, hKH4.tr hK5.h⟩ (fun s e w6 hJ => ?_)
  obtain ⟨i, mm⟩ := s
  obtain ⟨hi, hB6, hS6, hM6, hg6, hS56, hR6, hKH6⟩ := hJ
  dsimp only at hi hM6 hg6 ⊢
  refine k_seq ?_
  refine k_region ?_
  refine b_lss rfl rfl ?_
  refine o_nil ?_
  refine k_seq ?_
  refine k_cond rfl (fun h => ?_) (fun h => ?_)
  rotate_left
  ·
    refine k_exit rfl ?_
    refine k_seq ?_
    refine k_region ?_
    refine m_sl rfl rfl ?_
    refine m_sl rfl rfl ?_
    refine m_int rfl rfl ?_
    refine o_nil ?_
    refine k_ret (ret_tmps (ts := [4, 5]) (v := .tuple #[.slice _ _ _, .int _ _]) rfl rfl ?_)
    rw [List.take_of_length_le (by omega)] at hg6
    refine ⟨0, xs, rs, a3, c3, rfl, hR6, hL1, hf3, hm, .inr ⟨rfl, L5, hbl', ⟨a2, c2, r2, mm, hB6, hS6, hM6, hg6, hk1, hkw _ (by have := hK1.size; omega), fun z hz => hkw _ (hf1 z hz)⟩, hW', by omega, hKH6⟩⟩
  have hin : i < L5.length := by omega
  obtain ⟨b5, o5, hae, hcell⟩ := hS56.rd _ _ (iv_at L5 i hin)
  subst hae
  refine k_skip ?_
  refine k_seq ?_
  refine k_block ?_
  refine k_seq ?_
  refine k_region ?_
  refine o_ixs1 (m := i) Tryd.underlying23 rfl rfl rfl hin ?_
  refine o_ld (v := iv L5[i]) rfl rfl hcell ?_
  refine m_int rfl rfl ?_
  refine o_nil ?_
  refine k_region ?_
  refine m_ptr rfl rfl ?_
  refine o_nilc rfl ?_
  refine o_fld (off := 2) rfl rfl ?_
  refine o_ld (v := .map (some r2)) rfl rfl (hB6.at rfl) ?_
  refine m_int rfl rfl ?_
  refine o_mput (κ := Int) (q := L5[i]) (v := .bool true) Tryd.underlying104 (key_int Tryd.underlying2) rfl rfl rfl hM6 (.inl rfl) (fun w7 hM7 hK7 hZ7 => ?_)
  refine o_nil ?_
  refine k_blk ?_
  refine k_region ?_
  refine n_add rfl rfl (by omega) ?_
  refine m_int rfl rfl ?_
  refine o_nil ?_
  refine k_goal ⟨(i + 1, putM mm L5[i] (.bool true)), ⟨rfl, rfl, rfl, rfl, rfl, trivial⟩, ⟨hin, hB6.keep hK7 (fun hmm => by rw [List.mem_singleton] at hmm; exact hne hmm.symm), hS6.keep hK7 (off_ne hS6 hM6), hM7, fun x => ?_, hS56.keep hK7 (off_ne hS56 hM6), hR6.keepN hK7 (fun hn z hz hmm => ?_), hKH6.tr (hK7.hm hM6 (hkw _ (by have := hK1.size; omega)))⟩, by dsimp only; omega⟩
  · dsimp only
    rw [getM_put, take_snoc L5 i hin, hg6]
    by_cases hx : x = L5[i]
    · rw [if_pos hx, if_pos (List.mem_append.2 (.inr (by rw [hx]; exact List.mem_singleton.2 rfl)))]
    · rw [if_neg hx]
      simp only [List.mem_append, List.mem_singleton, hx, or_false]
  · rw [List.mem_singleton] at hmm
    have h1 := hlt3 hn z hz
    omega
theorem rhcoll_ok (k : Nat → Prop) (w : World) (rb : Nat) (ws : List Int) (lim : Int) (L : List Int) (ra : Option Addr) (rc : Nat) (rts : List Int) (h : RP k w rb ws lim) (hW : WFH ws L) (hkw : ∀ b, w.heap.size ≤ b → k b) (hR : Rd w ra (rts.map iv)) (hlr : rts.length ≤ 1000000) :
    Ret Tryd.prog 72 [.pointer (some ⟨rb, 0, none⟩), .slice ra rts.length rc] w (fun v w' => HColl w w' v ws rts L (RRes k w rb lim w')) := by
  have hRP := h
  obtain ⟨a, c, hB, hS, hk1, hk3⟩ := h
  have hlen := hW.len
  have hbl := hB.lt
  refine fn_enter (n := 27) Tryd.func72 rfl rfl (Nat.le_of_ble_eq_true rfl) (fun e => ?_)
  refine k_seq ?_
  refine k_region ?_
  refine m_sl rfl rfl ?_
  refine m_int rfl rfl ?_
  refine o_nil ?_
  refine k_seq ?_
  refine k_region ?_
  refine m_ptr rfl rfl ?_
  refine o_nilc rfl ?_
  refine o_fld0 rfl rfl ?_
  refine o_ld (v := .slice a ws.length c) rfl rfl (hB.at rfl) ?_
  refine m_sl rfl rfl ?_
  refine o_call rfl rfl (rcoll_ok w a ra c rc ws rts hS.rd hR (by omega) hlr (fun x hx => (hW.rng x hx).2)) (fun v w1 hv => ?_)
  obtain ⟨er, xs, rs, a2, c2, a3, c3, rfl, hS1, ⟨hf1, hf3⟩, hR1, hL1, hK1, hm⟩ := coll_is hv
  refine m_any rfl rfl ?_
  refine o_extr rfl rfl ?_
  refine o_extr rfl rfl ?_
  refine o_extr rfl rfl ?_
  refine m_sl rfl rfl ?_
  refine m_sl rfl rfl ?_
  refine m_int rfl rfl ?_
  refine o_nil ?_
  refine k_seq ?_
  refine k_seq ?_
  refine k_region ?_
  refine m_int rfl rfl ?_
  refine b_neq rfl rfl ?_
  refine o_nil ?_
  refine k_cond rfl (fun h => ?_) (fun h => ?_)
  ·
    refine k_seq ?_
    refine k_region ?_
    refine m_int rfl rfl ?_
    refine m_sl rfl rfl ?_
    refine m_int rfl rfl ?_
    refine o_nil ?_
    refine k_ret (ret_tmps (ts := [4, 5]) (v := .tuple #[.slice _ _ _, .int _ _]) rfl rfl ?_)
    obtain ⟨rfl, rfl⟩ := hm.no h
    exact ⟨er, [], [], none, 0, rfl, Rd.nil _ _, by simp, fun z hz => (by cases hz), hm, .inl ⟨h, hRP.new hK1, hW, hK1.h⟩⟩
  obtain rfl : er = 0 := Decidable.of_not_not h
  obtain ⟨L0, LV, hSL, hxs, hrs⟩ := hm.yes
  have hW' := hW.out hSL
  have hbl' := hSL.blocks
  obtain ⟨L', hL'⟩ : ∃ L', LV.map (adr ws LV 1) = L' := ⟨_, rfl⟩
  rw [hL', ← hxs] at hW' hbl'
  have hB1 := hB.keep hK1 (by simp)
  refine k_skip ?_
  refine k_seq ?_
  refine k_region ?_
  refine m_ptr rfl rfl ?_
  refine m_sl rfl rfl ?_
  refine o_nilc rfl ?_
  refine o_fld0 rfl rfl ?_
  refine o_st (v := .slice a2 xs.length c2) rfl rfl rfl rfl hB1 (show 0 < 2 by decide) (fun w3 hB3 hK3 hZ3 => ?_)
  have hB3' : Blk w3 rb #[.slice a2 xs.length c2, iv lim] 68 := hB3
  have hS3 := hS1.keep hK3 (hS1.off hB1 (by decide))
  have hoff : Off [rb] a3 := fun z hz hmm => by rw [List.mem_singleton] at hmm; have := hf3 z hz; omega
  refine o_nil ?_
  refine k_seq ?_
  refine k_region ?_
  refine m_sl rfl rfl ?_
  refine m_sl rfl rfl ?_
  refine m_int rfl rfl ?_
  refine o_nil ?_
  refine k_ret (ret_tmps (ts := [4, 5]) (v := .tuple #[.slice _ _ _, .int _ _]) rfl rfl ?_)
  exact ⟨0, xs, rs, a3, c3, rfl, hR1.keep hK3 hoff, hL1, hf3, hm, .inr ⟨rfl, L', hbl', ⟨a2, c2, hB3', hS3, hk1, fun z hz => hkw _ (hf1 z hz)⟩, hW', (hK1.h).tr (hK3.hb hB1 (.inr (.inr rfl)) hk1)⟩⟩
end Go.Proofs.YtchbidckckmobaaDoor

/- law21.fixed. No condition beyond what each contract names. -/
namespace Go.Proofs.YtchbidckckmobaaDoor
open Go.RowKit E
set_option linter.unusedVariables false
set_option linter.unusedSimpArgs false
set_option maxRecDepth 100000
attribute [local irreducible] ow qw kw kq cw opW Ret
def hw : List Int := [0, 17301517, 4, 3, 262162, 0]
theorem gx1 : objH [0] [] 5 3 [true, false] = (1, 0, [0, 17301517, 0, 0], [1]) := by decide
theorem gx2 : layH [0, 17301517, 0, 0] [1] 5 2 4 1 0 = (4, 0, [0, 17301517, 0, 0, 262162, 0], [1, 4]) := by decide
theorem gx3 : layH [0, 17301517, 0, 0, 262162, 0] [1, 4] 5 2 4 0 0 = (0, 27, [0, 17301517, 0, 0, 262162, 0], [1, 4]) := by decide
theorem gx4 : setH [0, 17301517, 0, 0, 262162, 0] [1, 4] 1 0 4 = (0, [0, 17301517, 4, 0, 262162, 0]) := by decide
theorem gx5 : setH [0, 17301517, 4, 0, 262162, 0] [1, 4] 1 0 3 = (1, [0, 17301517, 4, 0, 262162, 0]) := by decide
theorem gx6 : setH [0, 17301517, 4, 0, 262162, 0] [1, 4] 1 1 3 = (0, hw) := by decide
theorem gx7 : (getH hw [1, 4] 4 1).2 = 1 := by decide
theorem gx8 : (lookH hw [1, 4] 2).2.2.2 = 21 := by decide
theorem hw4 : chain hw 4 = some [4] := by
  rw [chain_yes hw 4 (by decide) (by decide), show 4 + 1 + (openW (hw[4]'(by decide))).2.2.1.toNat = 6 by decide, chain_end hw 6 (by decide)]
  rfl
theorem hw1 : chain hw 1 = some [1, 4] := by
  rw [chain_yes hw 1 (by decide) (by decide), show 1 + 1 + (openW (hw[1]'(by decide))).2.2.1.toNat = 4 by decide, hw4]
  rfl
theorem hw_blocks : blocksW hw = some [1, 4] := by
  rw [blocks_b hw _ (by decide) (by decide) hw1, if_pos (by decide)]
theorem hw_live : IsLive hw [4] [4] := by
  refine ⟨by decide, fun x => ⟨fun h => ?_, fun h => ?_⟩⟩
  · simp only [List.mem_cons, List.not_mem_nil, or_false] at h
    subst h; exact .root (by simp) (by decide)
  · induction h with
    | root h1 h2 => exact h1
    | step h1 h2 h3 ih =>
      simp only [List.mem_cons, List.not_mem_nil, or_false] at ih
      subst ih
      rw [show refsW hw 4 = [] by decide] at h2; simp at h2
theorem hw_ok : rootsOk hw [1, 4] [4] := by intro r hr; simp at hr; subst hr; decide
theorem hw_coll : CollIs hw [4] 0 [0, 262162, 0] [1] := .inr (.inr ⟨rfl, _, _, hw_blocks, hw_ok, hw_live, by decide, by decide⟩)
set_option maxHeartbeats 1000000 in
theorem fixed21_ok (w : World) (ht : TabTz w) : Ret Tryd.prog 27 [] w (fun v w' => v = .bool true ∧ Keep [] w w') := by
  refine fn_enter (n := 122) Tryd.func27 rfl rfl (Nat.le_of_ble_eq_true rfl) (fun e => ?_)
  refine k_seq ?_
  refine k_region ?_
  refine m_bool rfl rfl ?_
  refine o_nil ?_
  refine k_seq ?_
  refine k_region ?_
  refine o_call rfl rfl (hnew_ok w 5) (fun v w1 hv => ?_)
  obtain ⟨hK1, hv⟩ := hv
  rw [if_pos (by decide)] at hv
  obtain ⟨hb, rfl, hH1⟩ := hv
  refine m_any rfl rfl ?_
  refine o_extr rfl rfl ?_
  refine o_extr rfl rfl ?_
  refine m_ptr rfl rfl ?_
  refine m_int rfl rfl ?_
  refine o_nil ?_
  refine k_seq ?_
  refine k_seq ?_
  refine k_region ?_
  refine m_ptr rfl rfl ?_
  refine b_eqlp Tryd.underlying41 rfl rfl ?_
  refine m_bool rfl rfl ?_
  refine o_false (t := 26) rfl ((by intro h; cases h)) ?_
  refine g_yes rfl rfl ?_
  refine m_int rfl rfl ?_
  refine g_yes rfl rfl ?_
  refine b_neq rfl rfl ?_
  refine pick_f rfl rfl ?_
  refine o_nil ?_
  refine k_no rfl ((fun h' => h' rfl)) ?_
  refine k_skip ?_
  refine k_seq ?_
  refine k_region ?_
  refine m_ptr rfl rfl ?_
  refine o_bsl (E := 4) (cs := #[.bool true, .bool false]) rfl (fun _ => by kernel_rfl) (fun g2 w2 hB2 hK2 hb2 hZ2 => ?_)
  have hS2 : Sl w2 4 1 (some ⟨g2, 0, none⟩) 2 2 (([true, false] : List Bool).map Value.bool) := hB2.sl (len := 2) (sz := 1) rfl (by decide)
  have hK02 := hK1.tr hK2
  refine o_call rfl rfl (hobject_ok (fun b => w.heap.size ≤ b) w2 hb [0] 5 [] 3 (some ⟨g2, 0, none⟩) 2 [true, false] (hH1.new hK2) WFH.one (by decide) (by decide) (fun b hb => Nat.le_trans hK02.size hb) (by decide) hS2.rd (by decide)) (fun v w3 hv => ?_)
  rw [gx1] at hv
  obtain ⟨rfl, hH3, hW3, hu3, hKH3⟩ := hv
  dsimp only at hH3 hW3 hu3 ⊢
  have hK03 := hKH3.below hK02 (fun b hb => hb)
  refine m_any rfl rfl ?_
  refine o_extr rfl rfl ?_
  refine o_extr rfl rfl ?_
  refine m_int rfl rfl ?_
  refine m_int rfl rfl ?_
  refine o_nil ?_
  refine k_seq ?_
  refine k_region ?_
  refine m_ptr rfl rfl ?_
  refine o_call rfl rfl (harray_ok (fun b => w.heap.size ≤ b) w3 hb _ 5 _ 4 1 false hH3 hW3 (by decide) hu3 (fun b hb => Nat.le_trans hK03.size hb) (by decide) (by decide)) (fun v w4 hv => ?_)
  rw [if_neg (by decide), gx2] at hv
  obtain ⟨rfl, hH4, hW4, hu4, hKH4⟩ := hv
  dsimp only at hH4 hW4 hu4 ⊢
  have hK04 := hKH4.below hK03 (fun b hb => hb)
  refine m_any rfl rfl ?_
  refine o_extr rfl rfl ?_
  refine o_extr rfl rfl ?_
  refine m_int rfl rfl ?_
  refine m_int rfl rfl ?_
  refine o_nil ?_
  refine k_seq ?_
  refine k_region ?_
  refine m_ptr rfl rfl ?_
  refine o_call rfl rfl (harray_ok (fun b => w.heap.size ≤ b) w4 hb _ 5 _ 4 0 false hH4 hW4 (by decide) hu4 (fun b hb => Nat.le_trans hK04.size hb) (by decide) (by decide)) (fun v w5 hv => ?_)
  rw [if_neg (by decide), gx3] at hv
  obtain ⟨rfl, hH5, hW5, hu5, hKH5⟩ := hv
  dsimp only at hH5 hW5 hu5 ⊢
  have hK05 := hKH5.below hK04 (fun b hb => hb)
  refine m_any rfl rfl ?_
  refine o_extr rfl rfl ?_
  refine o_extr rfl rfl ?_
  refine m_int rfl rfl ?_
  refine m_int rfl rfl ?_
  refine o_nil ?_
  refine k_seq ?_
  refine k_region ?_
  refine m_ptr rfl rfl ?_
  refine o_call rfl rfl (set_ok (fun b => w.heap.size ≤ b) w5 hb _ 5 _ 1 0 4 hH5 hW5 hu5 (by decide)) (fun v w6 hv => ?_)
  rw [gx4] at hv
  obtain ⟨rfl, hH6, hW6, hu6, hKH6⟩ := hv
  dsimp only at hH6 hW6 hu6 ⊢
  have hK06 := hKH6.below hK05 (fun b hb => hb)
  refine m_ptr rfl rfl ?_
  refine o_call rfl rfl (set_ok (fun b => w.heap.size ≤ b) w6 hb _ 5 _ 1 0 3 hH6 hW6 hu6 (by decide)) (fun v w7 hv => ?_)
  rw [gx5] at hv
  obtain ⟨rfl, hH7, hW7, hu7, hKH7⟩ := hv
  dsimp only at hH7 hW7 hu7 ⊢
  have hK07 := hKH7.below hK06 (fun b hb => hb)
  refine m_ptr rfl rfl ?_
  refine o_call rfl rfl (set_ok (fun b => w.heap.size ≤ b) w7 hb _ 5 _ 1 1 3 hH7 hW7 hu7 (by decide)) (fun v w8 hv => ?_)
  rw [gx6] at hv
  obtain ⟨rfl, hH8, hW8, hu8, hKH8⟩ := hv
  dsimp only at hH8 hW8 hu8 ⊢
  have hK08 := hKH8.below hK07 (fun b hb => hb)
  refine m_int rfl rfl ?_
  refine m_int rfl rfl ?_
  refine m_int rfl rfl ?_
  refine o_nil ?_
  refine k_seq ?_
  refine k_region ?_
  refine m_ptr rfl rfl ?_
  refine o_call rfl rfl (get_ok (fun b => w.heap.size ≤ b) w8 hb hw 5 _ 4 1 hH8 hW8) (fun v w9 hv => ?_)
  obtain ⟨rfl, rfl⟩ := hv
  rw [gx7]
  refine m_any rfl rfl ?_
  refine o_extr rfl rfl ?_
  refine o_extr rfl rfl ?_
  refine m_int rfl rfl ?_
  refine m_int rfl rfl ?_
  refine o_nil ?_
  refine k_seq ?_
  refine k_region ?_
  refine m_ptr rfl rfl ?_
  refine o_call rfl rfl (look_ok (fun b => w.heap.size ≤ b) w9 hb hw 5 _ 2 hH8 hW8) (fun v w10 hv => ?_)
  obtain ⟨rfl, rfl⟩ := hv
  rw [gx8]
  refine m_any rfl rfl ?_
  refine o_extr rfl rfl ?_
  refine o_extr rfl rfl ?_
  refine o_extr rfl rfl ?_
  refine o_extr rfl rfl ?_
  refine m_int rfl rfl ?_
  refine m_int rfl rfl ?_
  refine m_int rfl rfl ?_
  refine m_int rfl rfl ?_
  refine o_nil ?_
  refine k_seq ?_
  refine k_region ?_
  refine m_ptr rfl rfl ?_
  refine o_bsl (E := 3) (cs := #[iv 4]) rfl (fun _ => by kernel_rfl) (fun g11 w11 hB11 hK11 hb11 hZ11 => ?_)
  have hS11 : Sl w11 3 1 (some ⟨g11, 0, none⟩) 1 1 (([4] : List Int).map iv) := hB11.sl (len := 1) (sz := 1) rfl (by decide)
  have hK011 := hK08.tr hK11
  refine o_call rfl rfl (hcoll_ok (fun b => w.heap.size ≤ b) w11 hb hw 5 _ (some ⟨g11, 0, none⟩) 1 [4] (hH8.new hK11) hW8 hu8 (fun b hb => Nat.le_trans hK011.size hb) hS11.rd (by decide) (ht.new hK011)) (fun v w12 hv => ?_)
  obtain ⟨er, xs, rs, a12, c12, rfl, hR12, hL12, hf12, hm, hcs⟩ := hv
  obtain ⟨rfl, rfl, rfl⟩ := hm.one hw_coll
  obtain ⟨_, L', hb12, hH12, hW12, hu12, hKH12⟩ := hcs.resolve_left (fun hh => hh.1 rfl)
  have hK012 := hKH12.below hK011 (fun b hb => hb)
  refine m_any rfl rfl ?_
  refine o_extr rfl rfl ?_
  refine o_extr rfl rfl ?_
  refine m_sl rfl rfl ?_
  refine m_int rfl rfl ?_
  refine o_nil ?_
  refine k_seq ?_
  refine k_region ?_
  refine m_int rfl rfl ?_
  refine b_eql rfl rfl ?_
  refine m_bool rfl rfl ?_
  refine o_true (t := 72) rfl (rfl) ?_
  refine g_yes rfl rfl ?_
  refine m_int rfl rfl ?_
  refine g_yes rfl rfl ?_
  refine b_eql rfl rfl ?_
  refine pick_t rfl rfl ?_
  refine m_bool rfl rfl ?_
  refine o_true (t := 76) rfl (rfl) ?_
  refine g_yes rfl rfl ?_
  refine m_int rfl rfl ?_
  refine g_yes rfl rfl ?_
  refine b_eql rfl rfl ?_
  refine pick_t rfl rfl ?_
  refine m_bool rfl rfl ?_
  refine o_true (t := 80) rfl (rfl) ?_
  refine g_yes rfl rfl ?_
  refine m_int rfl rfl ?_
  refine g_yes rfl rfl ?_
  refine b_eql rfl rfl ?_
  refine pick_t rfl rfl ?_
  refine m_bool rfl rfl ?_
  refine o_true (t := 84) rfl (rfl) ?_
  refine g_yes rfl rfl ?_
  refine m_int rfl rfl ?_
  refine g_yes rfl rfl ?_
  refine b_eql rfl rfl ?_
  refine pick_t rfl rfl ?_
  refine m_bool rfl rfl ?_
  refine o_true (t := 88) rfl (rfl) ?_
  refine g_yes rfl rfl ?_
  refine m_int rfl rfl ?_
  refine g_yes rfl rfl ?_
  refine b_eql rfl rfl ?_
  refine pick_t rfl rfl ?_
  refine m_bool rfl rfl ?_
  refine o_true (t := 92) rfl (rfl) ?_
  refine g_yes rfl rfl ?_
  refine m_int rfl rfl ?_
  refine g_yes rfl rfl ?_
  refine b_eql rfl rfl ?_
  refine pick_t rfl rfl ?_
  refine m_bool rfl rfl ?_
  refine o_true (t := 96) rfl (rfl) ?_
  refine g_yes rfl rfl ?_
  refine m_int rfl rfl ?_
  refine g_yes rfl rfl ?_
  refine b_eql rfl rfl ?_
  refine pick_t rfl rfl ?_
  refine m_bool rfl rfl ?_
  refine o_true (t := 100) rfl (rfl) ?_
  refine g_yes rfl rfl ?_
  refine m_int rfl rfl ?_
  refine g_yes rfl rfl ?_
  refine b_eql rfl rfl ?_
  refine pick_t rfl rfl ?_
  refine m_bool rfl rfl ?_
  refine o_true (t := 104) rfl (rfl) ?_
  refine g_yes rfl rfl ?_
  refine m_int rfl rfl ?_
  refine g_yes rfl rfl ?_
  refine b_eql rfl rfl ?_
  refine pick_t rfl rfl ?_
  refine m_bool rfl rfl ?_
  refine o_true (t := 108) rfl (rfl) ?_
  refine g_yes rfl rfl ?_
  refine m_sl rfl rfl ?_
  refine g_yes rfl rfl ?_
  refine o_bsl (E := 3) (cs := #[iv 1]) rfl (fun _ => by kernel_rfl) (fun g13 w13 hB13 hK13 hb13 hZ13 => ?_)
  have hS13 : Sl w13 3 1 (some ⟨g13, 0, none⟩) 1 1 (([1] : List Int).map iv) := hB13.sl (len := 1) (sz := 1) rfl (by decide)
  refine g_yes rfl rfl ?_
  refine o_call rfl rfl (same_ok w13 a12 (some ⟨g13, 0, none⟩) 1 1 c12 1 [1] [1] (hR12.new hK13) hS13.rd rfl rfl (by decide)) (fun v w14 hv => ?_)
  obtain ⟨rfl, hK14⟩ := hv
  refine pick_t rfl rfl ?_
  refine m_bool rfl rfl ?_
  refine o_true (t := 113) rfl (rfl) ?_
  refine g_yes rfl rfl ?_
  refine m_int rfl rfl ?_
  refine g_yes rfl rfl ?_
  refine b_eql rfl rfl ?_
  refine pick_t rfl rfl ?_
  refine m_bool rfl rfl ?_
  refine o_true (t := 117) rfl (rfl) ?_
  refine g_yes rfl rfl ?_
  refine m_ptr rfl rfl ?_
  refine g_yes rfl rfl ?_
  refine o_call rfl rfl (used_ok _ w14 hb [0, 262162, 0] 5 L' ((hH12.new hK13).new hK14) (by decide)) (fun v w15 hv => ?_)
  obtain ⟨rfl, rfl⟩ := hv
  refine g_yes rfl rfl ?_
  refine b_eql rfl rfl ?_
  refine pick_t rfl rfl ?_
  refine m_bool rfl rfl ?_
  refine o_nil ?_
  refine k_ret (ret_tmps (ts := [0]) (v := .bool _) rfl rfl ?_)
  exact ⟨rfl, (hK012.tr hK13).tr hK14⟩
end Go.Proofs.YtchbidckckmobaaDoor

/- law21.play. No condition beyond what each contract names. -/
namespace Go.Proofs.YtchbidckckmobaaDoor
open Go.RowKit E
set_option linter.unusedVariables false
set_option linter.unusedSimpArgs false
set_option maxRecDepth 100000
attribute [local irreducible] ow qw kw kq cw opW Ret
theorem Two.turn2 {w0 w : World} {hb rb : Nat} {ws : List Int} {lim : Int} {L : List Int} (h : Two w0 w hb rb ws lim L) :
    ∃ k : Nat → Prop, HP k w hb ws lim L ∧ (∀ b, w.heap.size ≤ b → k b) ∧ (∀ w', KeepH k w w' → Keep [] w0 w') ∧
      ∀ w' ws' L', HRes k w hb lim w' ws' L' → WFH ws' L' ∧ (ws'.length : Int) ≤ lim + 1 ∧ Keep [] w0 w' ∧
        ∃ k' : Nat → Prop, RP k' w' rb ws lim ∧ (∀ b, w'.heap.size ≤ b → k' b) ∧ (∀ w'', KeepH k' w' w'' → Keep [] w0 w'') ∧ (∀ b, k' b → b < w.heap.size ∨ w'.heap.size ≤ b) ∧ ∀ w'', RRes k' w' rb lim w'' ws' L' → Two w0 w'' hb rb ws' lim L' := by
  obtain ⟨kH, kR, h1, h2, h3, h4, h5, h6⟩ := h
  refine ⟨fun b => kH b ∨ w.heap.size ≤ b, h1.wide (fun b hb => .inl hb), fun b hb => .inr hb, fun w' hk => hk.below h6 (fun b hb => hb.elim (fun hh => (h4 b hh).1) (fun hh => Nat.le_trans h6.size hh)), fun w' ws' L' hr => ?_⟩
  obtain ⟨a1, a2, a3, a4⟩ := hr
  have hk6 : Keep [] w0 w' := a4.below h6 (fun b hb => hb.elim (fun hh => (h4 b hh).1) (fun hh => Nat.le_trans h6.size hh))
  have hR' : RP kR w' rb ws lim := h2.kh a4 (fun b hb hh => hh.elim (fun hh => h3 b hh hb) (fun hh => by have := (h5 b hb).2; omega))
  refine ⟨a2, a3, hk6, fun b => kR b ∨ w'.heap.size ≤ b, hR'.wide (fun b hb => .inl hb), fun b hb => .inr hb, fun w'' hk => hk.below hk6 (fun b hb => hb.elim (fun hh => (h5 b hh).1) (fun hh => Nat.le_trans hk6.size hh)), fun b hb => hb.imp (fun hh => (h5 b hh).2) id, fun w'' hr => ?_⟩
  obtain ⟨b1, b2, b3⟩ := hr
  obtain ⟨k1, c1, c2⟩ := a1.tight
  have hdis : ∀ b, k1 b → ¬ (kR b ∨ w'.heap.size ≤ b) := fun b hb hh => by
    obtain ⟨x1, x2⟩ := c1 b hb
    rcases hh with hh | hh
    · rcases x1 with x1 | x1
      · exact h3 b x1 hh
      · have := (h5 b hh).2; omega
    · omega
  exact Two.mk' (c2.kh b3 hdis) b1 hdis (fun b hb => (c1 b hb).1.elim (fun hh => (h4 b hh).1) (fun hh => Nat.le_trans h6.size hh)) (fun b hb => hb.elim (fun hh => (h5 b hh).1) (fun hh => Nat.le_trans hk6.size hh)) (b3.below hk6 (fun b hb => hb.elim (fun hh => (h5 b hh).1) (fun hh => Nat.le_trans hk6.size hh)))
theorem coll_both {H1 : List Int → List Int → Prop} {ws xs L : List Int} {er : Int} (hcs : (er ≠ 0 ∧ H1 ws L) ∨ (er = 0 ∧ ∃ L', blocksW xs = some L' ∧ H1 xs L')) : ∃ ws' L', H1 ws' L' ∧ ∀ H2 : List Int → List Int → Prop, ((er ≠ 0 ∧ H2 ws L) ∨ (er = 0 ∧ ∃ L', blocksW xs = some L' ∧ H2 xs L')) → H2 ws' L' := by
  rcases hcs with ⟨he, h⟩ | ⟨he, L', hb, h⟩
  · exact ⟨ws, L, h, fun H2 h2 => (h2.resolve_right (fun hh => he hh.1)).2⟩
  · refine ⟨xs, L', h, fun H2 h2 => ?_⟩
    obtain ⟨_, L2, hb2, h3⟩ := h2.resolve_left (fun hh => hh.1 he)
    obtain rfl : L2 = L' := Option.some.inj (hb2.symm.trans hb)
    exact h3
theorem rd_lt {w : World} {a : Option Addr} {xs : List Value} (hR : Rd w a xs) (hn : xs ≠ []) : ∀ z, a = some z → z.block < w.heap.size := by
  intro z hz
  obtain ⟨v, hv⟩ : ∃ v, xs[0]? = some v := by
    cases xs with
    | nil => exact absurd rfl hn
    | cons x l => exact ⟨x, rfl⟩
  obtain ⟨b, o, ha, hc⟩ := hR 0 v hv
  rw [hz] at ha
  cases ha
  exact World.block_lt_of_cell? _ _ hc
open Classical in
/-- the words and blocks behind an act -/
noncomputable def playW (ws L : List Int) (lim : Int) (x : HAct) : List Int × List Int :=
  if x.kd % 6#8 = 0#8 then ((objH ws L lim x.cl x.fs).2.2.1, (objH ws L lim x.cl x.fs).2.2.2)
  else if x.kd % 6#8 = 1#8 then ((layH ws L lim (if decide ((0 : Int) < (x.fs.length : Int)) = true then 3 else 2) x.cl x.i 0).2.2.1, (layH ws L lim (if decide ((0 : Int) < (x.fs.length : Int)) = true then 3 else 2) x.cl x.i 0).2.2.2)
  else if x.kd % 6#8 = 2#8 then ((setH ws L x.p x.i x.v).2, L)
  else if x.kd % 6#8 = 3#8 then (ws, L)
  else if x.kd % 6#8 = 4#8 then (ws, L)
  else if h : ∃ p : List Int × List Int, (∃ rs, CollIs ws x.rs 0 p.1 rs) ∧ blocksW p.1 = some p.2 then Classical.choose h else (ws, L)
theorem playW_0 {ws L : List Int} {lim : Int} {x : HAct} (h : x.kd % 6#8 = 0#8) : playW ws L lim x = ((objH ws L lim x.cl x.fs).2.2.1, (objH ws L lim x.cl x.fs).2.2.2) := if_pos h
theorem playW_1 {ws L : List Int} {lim : Int} {x : HAct} (h : x.kd % 6#8 = 1#8) : playW ws L lim x = ((layH ws L lim (if decide ((0 : Int) < (x.fs.length : Int)) = true then 3 else 2) x.cl x.i 0).2.2.1, (layH ws L lim (if decide ((0 : Int) < (x.fs.length : Int)) = true then 3 else 2) x.cl x.i 0).2.2.2) := by
  unfold playW; rw [if_neg (by rw [h]; decide), if_pos h]
theorem playW_2 {ws L : List Int} {lim : Int} {x : HAct} (h : x.kd % 6#8 = 2#8) : playW ws L lim x = ((setH ws L x.p x.i x.v).2, L) := by
  unfold playW; rw [if_neg (by rw [h]; decide), if_neg (by rw [h]; decide), if_pos h]
theorem playW_3 {ws L : List Int} {lim : Int} {x : HAct} (h : x.kd % 6#8 = 3#8) : playW ws L lim x = (ws, L) := by
  unfold playW; rw [if_neg (by rw [h]; decide), if_neg (by rw [h]; decide), if_neg (by rw [h]; decide), if_pos h]
theorem playW_4 {ws L : List Int} {lim : Int} {x : HAct} (h : x.kd % 6#8 = 4#8) : playW ws L lim x = (ws, L) := by
  unfold playW; rw [if_neg (by rw [h]; decide), if_neg (by rw [h]; decide), if_neg (by rw [h]; decide), if_neg (by rw [h]; decide), if_pos h]
theorem playW_5 {ws L xs rs : List Int} {lim er : Int} {x : HAct} (h0 : ¬ x.kd % 6#8 = 0#8) (h1 : ¬ x.kd % 6#8 = 1#8) (h2 : ¬ x.kd % 6#8 = 2#8) (h3 : ¬ x.kd % 6#8 = 3#8) (h4 : ¬ x.kd % 6#8 = 4#8) (hm : CollIs ws x.rs er xs rs) {H1 : List Int → List Int → Prop} (hcs : (er ≠ 0 ∧ H1 ws L) ∨ (er = 0 ∧ ∃ L', blocksW xs = some L' ∧ H1 xs L')) : H1 (playW ws L lim x).1 (playW ws L lim x).2 := by
  unfold playW
  rw [if_neg h0, if_neg h1, if_neg h2, if_neg h3, if_neg h4]
  rcases hcs with ⟨he, hh⟩ | ⟨rfl, L', hb, hh⟩
  · rw [dif_neg]
    · exact hh
    · rintro ⟨p, ⟨rs', hp⟩, _⟩
      exact he (hm.one hp).1
  · have hex : ∃ p : List Int × List Int, (∃ rs, CollIs ws x.rs 0 p.1 rs) ∧ blocksW p.1 = some p.2 := ⟨(xs, L'), ⟨rs, hm⟩, hb⟩
    rw [dif_pos hex]
    obtain ⟨⟨rs', hp⟩, hpb⟩ := Classical.choose_spec hex
    have e1 := (hp.one hm).2.1
    have e2 : (Classical.choose hex).2 = L' := by
      rw [e1] at hpb
      exact Option.some.inj (hpb.symm.trans hb)
    rw [e1, e2]
    exact hh
def PlayQ (w0 w' : World) (hb rb : Nat) (lim : Int) (p : List Int × List Int) : Prop := Two w0 w' hb rb p.1 lim p.2 ∧ WFH p.1 p.2 ∧ (p.1.length : Int) ≤ lim + 1
set_option maxHeartbeats 1000000 in
theorem play_ok (w0 w : World) (hb rb : Nat) (ws : List Int) (lim : Int) (L : List Int) (x : HAct) (hT : Two w0 w hb rb ws lim L) (hW : WFH ws L) (hu : (ws.length : Int) ≤ lim + 1) (hlim : 0 ≤ lim ∧ lim ≤ 65536) (hx : HActOk w0 x) (hrl : x.rs.length ≤ 20000) (ht : TabTz w0) :
    Ret Tryd.prog 36 [.pointer (some ⟨hb, 0, none⟩), .pointer (some ⟨rb, 0, none⟩), .agg (hactC x).toArray] w (fun v w' => v = .bool true ∧ w.heap.size < w'.heap.size ∧ PlayQ w0 w' hb rb lim (playW ws L lim x)) := by
  have hxfl := hx.fl
  have hxcl := hx.cl
  have hxi := hx.i
  have hxv := hx.v
  refine fn_enter (n := 205) Tryd.func36 rfl rfl (Nat.le_of_ble_eq_true rfl) (fun e => ?_)
  refine k_seq ?_
  refine k_region ?_
  refine o_box rfl rfl (fun b1 w1 hB1 hK1 hb1 hZ1 => ?_)
  have hB : Blk w1 b1 (hactC x).toArray 65 := hB1
  have hT1 := hT.new hK1
  have hK01 := hT1.keep
  obtain ⟨kH, hHP, hkH, hbel, hturn⟩ := hT1.turn2
  refine m_bool rfl rfl ?_
  refine o_nil ?_
  refine k_seq ?_
  refine k_seq ?_
  refine k_region ?_
  refine o_fld0 rfl rfl ?_
  refine o_ld (v := .int .u8 (x.kd.toNat : Int)) rfl rfl (hB.at rfl) ?_
  refine v8_rem (b := 6#8) rfl rfl (by decide) ?_
  refine o_nil ?_
  refine k_block ?_
  refine k_seq ?_
  refine k_region ?_
  refine v8_eql (b := 0#8) rfl rfl ?_
  refine m_bool rfl rfl ?_
  refine o_nil ?_
  refine k_cond rfl (fun h => ?_) (fun h => ?_)
  ·
    refine k_seq ?_
    refine k_region ?_
    refine m_ptr rfl rfl ?_
    refine o_fld (off := 1) rfl rfl ?_
    refine o_ld (v := iv x.cl) rfl rfl (hB.at rfl) ?_
    refine o_fld (off := 2) rfl rfl ?_
    refine o_ld (v := .slice x.fa x.fs.length x.fc) rfl rfl (hB.at rfl) ?_
    refine o_call rfl rfl (hobject_ok kH w1 hb ws lim L x.cl x.fa x.fc x.fs hHP hW hlim.2 hu hkH hxcl (hx.fd.new hK01) (by omega)) (fun v w2 hv => ?_)
    obtain ⟨rfl, hr⟩ := hv
    have hB2 := hB.kh hr.2.2.2 (by decide)
    have hs2 := hr.2.2.2.size
    obtain ⟨hW2, hu2, hK2, kR, hRP, hkR, hbel2, hnew, hback⟩ := hturn _ _ _ hr
    refine m_any rfl rfl ?_
    refine o_extr rfl rfl ?_
    refine o_extr rfl rfl ?_
    refine m_int rfl rfl ?_
    refine m_int rfl rfl ?_
    refine o_nil ?_
    refine k_seq ?_
    refine k_region ?_
    refine m_ptr rfl rfl ?_
    refine o_fld (off := 1) rfl rfl ?_
    refine o_ld (v := iv x.cl) rfl rfl (hB2.at rfl) ?_
    refine o_fld (off := 2) rfl rfl ?_
    refine o_ld (v := .slice x.fa x.fs.length x.fc) rfl rfl (hB2.at rfl) ?_
    refine o_call rfl rfl (robject_ok kR w2 rb ws lim L x.cl x.fa x.fc x.fs hRP hW hlim.2 hlim.1 hu hkR (hx.fd.new hK2) (by omega)) (fun v w3 hv => ?_)
    obtain ⟨rfl, hr⟩ := hv
    refine m_any rfl rfl ?_
    refine o_extr rfl rfl ?_
    refine o_extr rfl rfl ?_
    refine m_int rfl rfl ?_
    refine m_int rfl rfl ?_
    refine o_nil ?_
    refine k_seq ?_
    refine k_region ?_
    refine m_int rfl rfl ?_
    refine m_int rfl rfl ?_
    refine b_eql rfl rfl ?_
    refine m_bool rfl rfl ?_
    refine o_true (t := 57) rfl (rfl) ?_
    refine g_yes rfl rfl ?_
    refine m_int rfl rfl ?_
    refine g_yes rfl rfl ?_
    refine m_int rfl rfl ?_
    refine g_yes rfl rfl ?_
    refine b_eql rfl rfl ?_
    refine pick_t rfl rfl ?_
    refine m_bool rfl rfl ?_
    refine o_nil ?_
    refine k_ret (ret_tmps (ts := [6]) (v := .bool _) rfl rfl ?_)
    exact ⟨congrArg Value.bool (decide_eq_true rfl), by have := hr.2.2.size; omega, by rw [playW_0 (by assumption)]; exact ⟨hback _ hr, hW2, hu2⟩⟩
  refine k_seq ?_
  refine k_region ?_
  refine v8_eql (b := 1#8) rfl rfl ?_
  refine m_bool rfl rfl ?_
  refine o_nil ?_
  refine k_cond rfl (fun h => ?_) (fun h => ?_)
  ·
    refine k_seq ?_
    refine k_region ?_
    refine m_ptr rfl rfl ?_
    refine o_fld (off := 1) rfl rfl ?_
    refine o_ld (v := iv x.cl) rfl rfl (hB.at rfl) ?_
    refine o_fld (off := 2) rfl rfl ?_
    refine o_ld (v := .slice x.fa x.fs.length x.fc) rfl rfl (hB.at rfl) ?_
    refine o_lens Tryd.underlying63 rfl ?_
    refine b_gtr rfl rfl ?_
    refine o_fld (off := 4) rfl rfl ?_
    refine o_ld (v := iv x.i) rfl rfl (hB.at rfl) ?_
    refine o_call rfl rfl (harray_ok kH w1 hb ws lim L x.cl x.i (decide ((0 : Int) < (x.fs.length : Int))) hHP hW hlim.2 hu hkH hxcl hxi) (fun v w2 hv => ?_)
    obtain ⟨rfl, hr⟩ := hv
    have hB2 := hB.kh hr.2.2.2 (by decide)
    have hs2 := hr.2.2.2.size
    obtain ⟨hW2, hu2, hK2, kR, hRP, hkR, hbel2, hnew, hback⟩ := hturn _ _ _ hr
    refine m_any rfl rfl ?_
    refine o_extr rfl rfl ?_
    refine o_extr rfl rfl ?_
    refine m_int rfl rfl ?_
    refine m_int rfl rfl ?_
    refine o_nil ?_
    refine k_seq ?_
    refine k_region ?_
    refine m_ptr rfl rfl ?_
    refine o_fld (off := 1) rfl rfl ?_
    refine o_ld (v := iv x.cl) rfl rfl (hB2.at rfl) ?_
    refine o_fld (off := 2) rfl rfl ?_
    refine o_ld (v := .slice x.fa x.fs.length x.fc) rfl rfl (hB2.at rfl) ?_
    refine o_lens Tryd.underlying63 rfl ?_
    refine b_gtr rfl rfl ?_
    refine o_fld (off := 4) rfl rfl ?_
    refine o_ld (v := iv x.i) rfl rfl (hB2.at rfl) ?_
    refine o_call rfl rfl (rarray_ok kR w2 rb ws lim L x.cl x.i (decide ((0 : Int) < (x.fs.length : Int))) hRP hW hlim.2 hlim.1 hu hkR hxi) (fun v w3 hv => ?_)
    obtain ⟨rfl, hr⟩ := hv
    refine m_any rfl rfl ?_
    refine o_extr rfl rfl ?_
    refine o_extr rfl rfl ?_
    refine m_int rfl rfl ?_
    refine m_int rfl rfl ?_
    refine o_nil ?_
    refine k_seq ?_
    refine k_region ?_
    refine m_int rfl rfl ?_
    refine m_int rfl rfl ?_
    refine b_eql rfl rfl ?_
    refine m_bool rfl rfl ?_
    refine o_true (t := 93) rfl (rfl) ?_
    refine g_yes rfl rfl ?_
    refine m_int rfl rfl ?_
    refine g_yes rfl rfl ?_
    refine m_int rfl rfl ?_
    refine g_yes rfl rfl ?_
    refine b_eql rfl rfl ?_
    refine pick_t rfl rfl ?_
    refine m_bool rfl rfl ?_
    refine o_nil ?_
    refine k_ret (ret_tmps (ts := [6]) (v := .bool _) rfl rfl ?_)
    exact ⟨congrArg Value.bool (decide_eq_true rfl), by have := hr.2.2.size; omega, by rw [playW_1 (by assumption)]; exact ⟨hback _ hr, hW2, hu2⟩⟩
  refine k_seq ?_
  refine k_region ?_
  refine v8_eql (b := 2#8) rfl rfl ?_
  refine m_bool rfl rfl ?_
  refine o_nil ?_
  refine k_cond rfl (fun h => ?_) (fun h => ?_)
  ·
    refine k_seq ?_
    refine k_stage 15 [7] (fun s w' => Blk w' b1 (hactC x).toArray 65 ∧ (s = 0 → Keep [] w1 w') ∧ (s = 1 → HRes kH w1 hb lim w' (setH ws L x.p x.i x.v).2 L)) rfl rfl rfl rfl rfl rfl rfl rfl ⟨hB.keep ((Keep.refl [] w1).drew) (by simp), fun _ => (Keep.refl [] w1).drew, fun h => by omega⟩ ?_
    refine s_step 0 0 rfl rfl rfl (fun s1 w1 h1 h2 hC => m_ptr rfl rfl (o_nil ⟨rfl, hC⟩)) ?_
    refine s_step 0 0 rfl rfl rfl (fun s1 w1 h1 h2 hC => o_fld (off := 3) rfl rfl (o_nil ⟨rfl, hC⟩)) ?_
    refine s_step 0 0 rfl rfl rfl (fun s1 w1 h1 h2 hC => o_ld (v := iv x.p) rfl rfl (hC.1.at rfl) (o_nil ⟨rfl, hC⟩)) ?_
    refine s_step 0 0 rfl rfl rfl (fun s1 w1 h1 h2 hC => o_fld (off := 4) rfl rfl (o_nil ⟨rfl, hC⟩)) ?_
    refine s_step 0 0 rfl rfl rfl (fun s1 w1 h1 h2 hC => o_ld (v := iv x.i) rfl rfl (hC.1.at rfl) (o_nil ⟨rfl, hC⟩)) ?_
    refine s_step 0 0 rfl rfl rfl (fun s1 w1 h1 h2 hC => o_fld (off := 5) rfl rfl (o_nil ⟨rfl, hC⟩)) ?_
    refine s_step 0 0 rfl rfl rfl (fun s1 w1 h1 h2 hC => o_ld (v := iv x.v) rfl rfl (hC.1.at rfl) (o_nil ⟨rfl, hC⟩)) ?_
    refine s_loud rfl (fun w2 hC => o_call rfl rfl (set_ok kH w2 hb ws lim L x.p x.i x.v (hHP.new (hC.2.1 rfl)) hW hu hxv) (fun u w3 hv => by
      obtain ⟨rfl, hr⟩ := hv
      exact o_nil ⟨rfl, hC.1.kh hr.2.2.2 (by decide), fun h => by omega, fun _ => ⟨hr.1, hr.2.1, hr.2.2.1, ((hC.2.1 rfl).h).tr hr.2.2.2⟩⟩)) ?_
    refine s_step 0 1 rfl rfl rfl (fun s1 w1 h1 h2 hC => m_ptr rfl rfl (o_nil ⟨rfl, hC⟩)) ?_
    refine s_step 0 1 rfl rfl rfl (fun s1 w1 h1 h2 hC => o_fld (off := 3) rfl rfl (o_nil ⟨rfl, hC⟩)) ?_
    refine s_step 0 1 rfl rfl rfl (fun s1 w1 h1 h2 hC => o_ld (v := iv x.p) rfl rfl (hC.1.at rfl) (o_nil ⟨rfl, hC⟩)) ?_
    refine s_step 0 1 rfl rfl rfl (fun s1 w1 h1 h2 hC => o_fld (off := 4) rfl rfl (o_nil ⟨rfl, hC⟩)) ?_
    refine s_step 0 1 rfl rfl rfl (fun s1 w1 h1 h2 hC => o_ld (v := iv x.i) rfl rfl (hC.1.at rfl) (o_nil ⟨rfl, hC⟩)) ?_
    refine s_step 0 1 rfl rfl rfl (fun s1 w1 h1 h2 hC => o_fld (off := 5) rfl rfl (o_nil ⟨rfl, hC⟩)) ?_
    refine s_step 0 1 rfl rfl rfl (fun s1 w1 h1 h2 hC => o_ld (v := iv x.v) rfl rfl (hC.1.at rfl) (o_nil ⟨rfl, hC⟩)) ?_
    refine s_nil ?_
    intro w2 hC2
    obtain ⟨hB2, _, hr⟩ := hC2
    have hr := hr rfl
    have hs2 := hr.2.2.2.size
    obtain ⟨hW2, hu2, hK2, kR, hRP, hkR, hbel2, hnew, hback⟩ := hturn _ _ _ hr
    refine o_call rfl rfl (rset_ok kR w2 rb ws lim L x.p x.i x.v hRP hW hxv) (fun v w3 hv => ?_)
    obtain ⟨rfl, hr⟩ := hv
    refine b_eql rfl rfl ?_
    refine m_bool rfl rfl ?_
    refine o_nil ?_
    refine k_ret (ret_tmps (ts := [6]) (v := .bool _) rfl rfl ?_)
    exact ⟨congrArg Value.bool (decide_eq_true rfl), by have := hr.2.2.size; omega, by rw [playW_2 (by assumption)]; exact ⟨hback _ hr, hW2, hu2⟩⟩
  refine k_seq ?_
  refine k_region ?_
  refine v8_eql (b := 3#8) rfl rfl ?_
  refine m_bool rfl rfl ?_
  refine o_nil ?_
  refine k_cond rfl (fun h => ?_) (fun h => ?_)
  ·
    refine k_seq ?_
    refine k_region ?_
    refine m_ptr rfl rfl ?_
    refine o_fld (off := 3) rfl rfl ?_
    refine o_ld (v := iv x.p) rfl rfl (hB.at rfl) ?_
    refine o_fld (off := 4) rfl rfl ?_
    refine o_ld (v := iv x.i) rfl rfl (hB.at rfl) ?_
    refine o_call rfl rfl (get_ok kH w1 hb ws lim L x.p x.i hHP hW) (fun v w2 hv => ?_)
    obtain ⟨rfl, rfl⟩ := hv
    obtain ⟨kq, hRPq⟩ := hT1.rp
    refine m_any rfl rfl ?_
    refine o_extr rfl rfl ?_
    refine o_extr rfl rfl ?_
    refine m_int rfl rfl ?_
    refine m_int rfl rfl ?_
    refine o_nil ?_
    refine k_seq ?_
    refine k_region ?_
    refine m_ptr rfl rfl ?_
    refine o_fld (off := 3) rfl rfl ?_
    refine o_ld (v := iv x.p) rfl rfl (hB.at rfl) ?_
    refine o_fld (off := 4) rfl rfl ?_
    refine o_ld (v := iv x.i) rfl rfl (hB.at rfl) ?_
    refine o_call rfl rfl (rget_ok kq w2 rb ws lim L x.p x.i hRPq hW) (fun v w3 hv => ?_)
    obtain ⟨rfl, rfl⟩ := hv
    refine m_any rfl rfl ?_
    refine o_extr rfl rfl ?_
    refine o_extr rfl rfl ?_
    refine m_int rfl rfl ?_
    refine m_int rfl rfl ?_
    refine o_nil ?_
    refine k_seq ?_
    refine k_region ?_
    refine m_int rfl rfl ?_
    refine m_int rfl rfl ?_
    refine b_eql rfl rfl ?_
    refine m_bool rfl rfl ?_
    refine o_true (t := 140) rfl (rfl) ?_
    refine g_yes rfl rfl ?_
    refine m_int rfl rfl ?_
    refine g_yes rfl rfl ?_
    refine m_int rfl rfl ?_
    refine g_yes rfl rfl ?_
    refine b_eql rfl rfl ?_
    refine pick_t rfl rfl ?_
    refine m_bool rfl rfl ?_
    refine o_nil ?_
    refine k_ret (ret_tmps (ts := [6]) (v := .bool _) rfl rfl ?_)
    exact ⟨congrArg Value.bool (decide_eq_true rfl), by omega, by rw [playW_3 (by assumption)]; exact ⟨hT1, hW, hu⟩⟩
  refine k_seq ?_
  refine k_region ?_
  refine v8_eql (b := 4#8) rfl rfl ?_
  refine m_bool rfl rfl ?_
  refine o_nil ?_
  refine k_cond rfl (fun h => ?_) (fun h => ?_)
  ·
    refine k_seq ?_
    refine k_region ?_
    refine m_ptr rfl rfl ?_
    refine o_fld (off := 3) rfl rfl ?_
    refine o_ld (v := iv x.p) rfl rfl (hB.at rfl) ?_
    refine o_call rfl rfl (look_ok kH w1 hb ws lim L x.p hHP hW) (fun v w2 hv => ?_)
    obtain ⟨rfl, rfl⟩ := hv
    obtain ⟨kq, hRPq⟩ := hT1.rp
    refine m_any rfl rfl ?_
    refine o_extr rfl rfl ?_
    refine o_extr rfl rfl ?_
    refine o_extr rfl rfl ?_
    refine o_extr rfl rfl ?_
    refine m_int rfl rfl ?_
    refine m_int rfl rfl ?_
    refine m_int rfl rfl ?_
    refine m_int rfl rfl ?_
    refine o_nil ?_
    refine k_seq ?_
    refine k_region ?_
    refine m_ptr rfl rfl ?_
    refine o_fld (off := 3) rfl rfl ?_
    refine o_ld (v := iv x.p) rfl rfl (hB.at rfl) ?_
    refine o_call rfl rfl (rlook_ok kq w2 rb ws lim L x.p hRPq hW) (fun v w3 hv => ?_)
    obtain ⟨rfl, rfl⟩ := hv
    refine m_any rfl rfl ?_
    refine o_extr rfl rfl ?_
    refine o_extr rfl rfl ?_
    refine o_extr rfl rfl ?_
    refine o_extr rfl rfl ?_
    refine m_int rfl rfl ?_
    refine m_int rfl rfl ?_
    refine m_int rfl rfl ?_
    refine m_int rfl rfl ?_
    refine o_nil ?_
    refine k_seq ?_
    refine k_region ?_
    refine m_int rfl rfl ?_
    refine m_int rfl rfl ?_
    refine b_eql rfl rfl ?_
    refine m_bool rfl rfl ?_
    refine o_true (t := 168) rfl (rfl) ?_
    refine g_yes rfl rfl ?_
    refine m_int rfl rfl ?_
    refine g_yes rfl rfl ?_
    refine m_int rfl rfl ?_
    refine g_yes rfl rfl ?_
    refine b_eql rfl rfl ?_
    refine pick_t rfl rfl ?_
    refine m_bool rfl rfl ?_
    refine o_true (t := 173) rfl (rfl) ?_
    refine g_yes rfl rfl ?_
    refine m_int rfl rfl ?_
    refine g_yes rfl rfl ?_
    refine m_int rfl rfl ?_
    refine g_yes rfl rfl ?_
    refine b_eql rfl rfl ?_
    refine pick_t rfl rfl ?_
    refine m_bool rfl rfl ?_
    refine o_true (t := 178) rfl (rfl) ?_
    refine g_yes rfl rfl ?_
    refine m_int rfl rfl ?_
    refine g_yes rfl rfl ?_
    refine m_int rfl rfl ?_
    refine g_yes rfl rfl ?_
    refine b_eql rfl rfl ?_
    refine pick_t rfl rfl ?_
    refine m_bool rfl rfl ?_
    refine o_nil ?_
    refine k_ret (ret_tmps (ts := [6]) (v := .bool _) rfl rfl ?_)
    exact ⟨congrArg Value.bool (decide_eq_true rfl), by omega, by rw [playW_4 (by assumption)]; exact ⟨hT1, hW, hu⟩⟩
  refine k_skip ?_
  refine k_blk ?_
  refine k_seq ?_
  refine k_region ?_
  refine m_ptr rfl rfl ?_
  refine o_fld (off := 6) rfl rfl ?_
  refine o_ld (v := .slice x.ra x.rs.length x.rc) rfl rfl (hB.at rfl) ?_
  refine o_call rfl rfl (hcoll_ok kH w1 hb ws lim L x.ra x.rc x.rs hHP hW hu hkH (hx.rd.new hK01) (by omega) (ht.new hK01)) (fun v w2 hv => ?_)
  obtain ⟨er, xs, rs, a2, c2, rfl, hR2, hL2, hf2, hm2, hcs⟩ := hv
  have hr := playW_5 (lim := lim) (by assumption) (by assumption) (by assumption) (by assumption) (by assumption) hm2 hcs
  have hB2 := hB.kh hr.2.2.2 (by decide)
  have hs2 := hr.2.2.2.size
  obtain ⟨hW2, hu2, hK2, kR, hRP, hkR, hbel2, hnew, hback⟩ := hturn _ _ _ hr
  refine m_any rfl rfl ?_
  refine o_extr rfl rfl ?_
  refine o_extr rfl rfl ?_
  refine m_sl rfl rfl ?_
  refine m_int rfl rfl ?_
  refine o_nil ?_
  refine k_seq ?_
  refine k_region ?_
  refine m_ptr rfl rfl ?_
  refine o_fld (off := 6) rfl rfl ?_
  refine o_ld (v := .slice x.ra x.rs.length x.rc) rfl rfl (hB2.at rfl) ?_
  refine o_call rfl rfl (rhcoll_ok kR w2 rb ws lim L x.ra x.rc x.rs hRP hW hkR (hx.rd.new hK2) (by omega)) (fun v w3 hv => ?_)
  obtain ⟨er3, xs3, rs3, a3, c3, rfl, hR3, hL3, hf3, hm3, hcs3⟩ := hv
  obtain ⟨rfl, rfl, rfl⟩ := hm3.one hm2
  have hr3 := playW_5 (lim := lim) (by assumption) (by assumption) (by assumption) (by assumption) (by assumption) hm3 hcs3
  have hR23 : Rd w3 a2 (rs3.map iv) := hR2.kh hr3.2.2 (fun hn z hz hk => by
    have h1 := hf2 z hz
    have h2 := rd_lt hR2 hn z hz
    rcases hnew _ hk with h3 | h3 <;> omega)
  refine m_any rfl rfl ?_
  refine o_extr rfl rfl ?_
  refine o_extr rfl rfl ?_
  refine m_sl rfl rfl ?_
  refine m_int rfl rfl ?_
  refine o_nil ?_
  refine k_seq ?_
  refine k_region ?_
  refine m_sl rfl rfl ?_
  refine m_sl rfl rfl ?_
  refine o_call rfl rfl (same_ok w3 a2 a3 rs3.length rs3.length c2 c3 rs3 rs3 hR23 hR3 rfl rfl hL2) (fun v w4 hv => ?_)
  obtain ⟨rfl, hK4⟩ := hv
  refine m_bool rfl rfl ?_
  refine o_true (t := 200) rfl (rfl) ?_
  refine g_yes rfl rfl ?_
  refine m_int rfl rfl ?_
  refine g_yes rfl rfl ?_
  refine m_int rfl rfl ?_
  refine g_yes rfl rfl ?_
  refine b_eql rfl rfl ?_
  refine pick_t rfl rfl ?_
  refine m_bool rfl rfl ?_
  refine o_nil ?_
  refine k_ret (ret_tmps (ts := [6]) (v := .bool _) rfl rfl ?_)
  exact ⟨congrArg Value.bool (decide_eq_true rfl), by have := hr3.2.2.size; have := hK4.size; omega, (hback _ hr3).new hK4, hW2, hu2⟩
end Go.Proofs.YtchbidckckmobaaDoor

/- HeapPlays. No condition beyond what each contract names. -/
namespace Go.Proofs.YtchbidckckmobaaDoor
open Go.RowKit E
set_option linter.unusedVariables false
set_option linter.unusedSimpArgs false
set_option maxRecDepth 100000
attribute [local irreducible] ow qw kw kq cw opW Ret
/-- behind an act: both heaps again, and something new -/
def HQ (S0 : Nat) (w0 : World) (hb rb : Nat) (lim : Int) (ws L : List Int) (w : World) : Prop := S0 < w.heap.size ∧ PlayQ w0 w hb rb lim (ws, L)
theorem HQ.new {S0 : Nat} {w0 w w' : World} {hb rb : Nat} {lim : Int} {ws L : List Int} (h : HQ S0 w0 hb rb lim ws L w) (hK : Keep [] w w') : HQ S0 w0 hb rb lim ws L w' :=
  ⟨Nat.lt_of_lt_of_le h.1 hK.size, h.2.1.new hK, h.2.2⟩
theorem hle_refl (S0 : Nat) (w0 : World) (hb rb : Nat) (lim : Int) (ws L : List Int) (w : World) : HQ S0 w0 hb rb lim ws L w → HQ S0 w0 hb rb lim ws L w ∧ Keep [] w w := fun h => ⟨h, Keep.refl _ _⟩
set_option maxHeartbeats 1000000 in
theorem hplays_ok (wS : World) (lim : Int) (a : Option Addr) (c : Nat) (acts : List HAct) (hR : Rd wS a (acts.map hactC).flatten) (hl : acts.length ≤ 9223372036854775807) (hA : ∀ x ∈ acts, HActOk wS x) (ht : TabTz wS) :
    Ret Tryd.prog 10 [.int .i64 lim, .slice a acts.length c] wS (fun v w' => v = .bool true ∧ Keep [] wS w') := by
  refine fn_enter (n := 69) Tryd.func10 rfl rfl (Nat.le_of_ble_eq_true rfl) (fun e => ?_)
  refine k_seq ?_
  refine k_region ?_
  refine m_bool rfl rfl ?_
  refine o_nil ?_
  refine k_seq ?_
  refine k_seq ?_
  refine k_region ?_
  refine o_call rfl rfl (fixed21_ok wS ht) (fun v w1 hv => ?_)
  obtain ⟨rfl, hK1⟩ := hv
  refine u_notb rfl ?_
  refine o_nil ?_
  refine k_condf rfl ?_
  refine k_skip ?_
  refine k_seq ?_
  refine k_seq ?_
  refine k_region ?_
  refine m_sl rfl rfl ?_
  refine o_call rfl rfl (few21_ok w1 a c acts (hR.new hK1) hl (fun x hx => (hA x hx).new hK1)) (fun v w2 hv => ?_)
  obtain ⟨⟨bf, rfl, hfew⟩, hK2⟩ := hv
  have hK02 := hK1.tr hK2
  refine u_notb rfl ?_
  refine o_nil ?_
  refine k_condb rfl (fun h => ?_) (fun h => ?_)
  ·
    refine k_seq ?_
    refine k_region ?_
    refine m_bool rfl rfl ?_
    refine o_nil ?_
    refine k_ret (ret_tmps (ts := [4]) (v := .bool _) rfl rfl ?_)
    exact ⟨rfl, hK02⟩
  obtain ⟨hl201, hl2⟩ := hfew (by cases bf <;> simp_all)
  clear hfew
  refine k_skip ?_
  refine k_seq ?_
  refine k_region ?_
  refine m_int rfl rfl ?_
  refine o_call rfl rfl (hnew_ok w2 lim) (fun v w3 hv => ?_)
  obtain ⟨hK3, hv⟩ := hv
  obtain ⟨hp, her, hv', hcase⟩ : ∃ hp her, v = .tuple #[.pointer hp, .int .i64 her] ∧ ((¬ (0 ≤ lim ∧ lim ≤ 65536) ∧ hp = none ∧ her = 1) ∨ ((0 ≤ lim ∧ lim ≤ 65536) ∧ her = 0 ∧ ∃ hb, hp = some ⟨hb, 0, none⟩ ∧ HP (fun b => w2.heap.size ≤ b) w3 hb [0] lim [])) := by
    by_cases hlm : 0 ≤ lim ∧ lim ≤ 65536
    · rw [if_pos hlm] at hv
      obtain ⟨hb, rfl, hh⟩ := hv
      exact ⟨_, _, rfl, .inr ⟨hlm, rfl, hb, rfl, hh⟩⟩
    · rw [if_neg hlm] at hv
      exact ⟨_, _, hv, .inl ⟨hlm, rfl, rfl⟩⟩
  subst hv'
  refine m_any rfl rfl ?_
  refine o_extr rfl rfl ?_
  refine o_extr rfl rfl ?_
  refine m_ptr rfl rfl ?_
  refine m_int rfl rfl ?_
  refine o_nil ?_
  refine k_seq ?_
  refine k_region ?_
  refine m_int rfl rfl ?_
  refine o_call rfl rfl (rnew_ok w3 lim) (fun v w4 hv => ?_)
  obtain ⟨hK4, hv⟩ := hv
  obtain ⟨rp, rer, hv', hcase2⟩ : ∃ rp rer, v = .tuple #[.pointer rp, .int .i64 rer] ∧ ((¬ (0 ≤ lim ∧ lim ≤ 65536) ∧ rp = none ∧ rer = 1) ∨ ((0 ≤ lim ∧ lim ≤ 65536) ∧ rer = 0 ∧ ∃ rb, rp = some ⟨rb, 0, none⟩ ∧ RP (fun b => w3.heap.size ≤ b) w4 rb [0] lim)) := by
    by_cases hlm : 0 ≤ lim ∧ lim ≤ 65536
    · rw [if_pos hlm] at hv
      obtain ⟨rb, rfl, hh⟩ := hv
      exact ⟨_, _, rfl, .inr ⟨hlm, rfl, rb, rfl, hh⟩⟩
    · rw [if_neg hlm] at hv
      exact ⟨_, _, hv, .inl ⟨hlm, rfl, rfl⟩⟩
  subst hv'
  have hK03 := hK02.tr hK3
  have hK04 := hK03.tr hK4
  have heq : her = rer := by
    rcases hcase with ⟨h1, _, h2⟩ | ⟨h1, h2, _⟩ <;> rcases hcase2 with ⟨g1, _, g2⟩ | ⟨g1, g2, _⟩
    · rw [h2, g2]
    · exact absurd g1 h1
    · exact absurd h1 g1
    · rw [h2, g2]
  subst heq
  refine m_any rfl rfl ?_
  refine o_extr rfl rfl ?_
  refine o_extr rfl rfl ?_
  refine m_ptr rfl rfl ?_
  refine m_int rfl rfl ?_
  refine o_nil ?_
  refine k_seq ?_
  refine k_seq ?_
  refine k_region ?_
  refine m_int rfl rfl ?_
  refine m_int rfl rfl ?_
  refine b_neq rfl rfl ?_
  refine m_bool rfl rfl ?_
  refine o_false (t := 29) rfl ((fun h' => h' rfl)) ?_
  refine g_yes rfl rfl ?_
  refine m_int rfl rfl ?_
  refine g_yes rfl rfl ?_
  refine b_neq rfl rfl ?_
  refine pick_f rfl rfl ?_
  refine o_nil ?_
  refine k_cond rfl (fun h => ?_) (fun h => ?_)
  ·
    obtain ⟨_, rfl, rfl⟩ := hcase.resolve_right (fun hh => h hh.2.1)
    refine k_seq ?_
    refine k_region ?_
    refine m_int rfl rfl ?_
    refine m_int rfl rfl ?_
    refine b_eql rfl rfl ?_
    refine m_bool rfl rfl ?_
    refine o_true (t := 36) rfl (rfl) ?_
    refine g_yes rfl rfl ?_
    refine m_ptr rfl rfl ?_
    refine g_yes rfl rfl ?_
    refine b_eqlp Tryd.underlying41 rfl rfl ?_
    refine pick_t rfl rfl ?_
    refine m_bool rfl rfl ?_
    refine o_nil ?_
    refine k_ret (ret_tmps (ts := [4]) (v := .bool _) rfl rfl ?_)
    exact ⟨rfl, hK04⟩
  obtain ⟨hlim, _, hb, rfl, hH3⟩ := hcase.resolve_left (fun hh => h (by rw [hh.2.2]; decide))
  obtain ⟨_, _, rb, rfl, hRP4⟩ := hcase2.resolve_left (fun hh => hh.1 hlim)
  obtain ⟨k3, hk3, hH3'⟩ := hH3.tight
  have hT4 : Two wS w4 hb rb [0] lim [] := Two.mk' (hH3'.new hK4) hRP4 (fun b x y => by have := (hk3 b x).2; omega) (fun b x => Nat.le_trans hK02.size (hk3 b x).1) (fun b x => Nat.le_trans hK03.size x) hK04
  clear hH3 hH3' hRP4 hk3 hcase hcase2
  refine k_skip ?_
  refine k_seq ?_
  refine k_seq ?_
  refine k_region ?_
  refine m_sl rfl rfl ?_
  refine o_lens Tryd.underlying58 rfl ?_
  refine m_int rfl rfl ?_
  refine o_nil ?_
  refine k_block ?_
  refine k_loop (σ := Nat) (fun m => [(5, .pointer (some ⟨hb, 0, none⟩)), (7, .pointer (some ⟨rb, 0, none⟩)), (40, .slice a acts.length c), (41, .int .i64 (acts.length : Int)), (42, .int .i64 (m : Int))]) (fun m w' => m ≤ acts.length ∧ ∃ ws L, Two wS w' hb rb ws lim L ∧ WFH ws L ∧ (ws.length : Int) ≤ lim + 1) (fun m => acts.length - m) 0 ⟨rfl, rfl, rfl, rfl, rfl, trivial⟩ ⟨Nat.zero_le _, [0], [], hT4, WFH.one, by simp; omega⟩ (fun m e w5 hJ => ?_)
  obtain ⟨hm, ws, L, hT5, hW5, hu5⟩ := hJ
  refine k_seq ?_
  refine k_region ?_
  refine b_lss rfl rfl ?_
  refine o_nil ?_
  refine k_seq ?_
  refine k_cond rfl (fun h => ?_) (fun h => ?_)
  rotate_left
  ·
    refine k_exit rfl ?_
    refine k_seq ?_
    refine k_region ?_
    refine m_bool rfl rfl ?_
    refine o_nil ?_
    refine k_ret (ret_tmps (ts := [4]) (v := .bool _) rfl rfl ?_)
    exact ⟨rfl, hT5.keep⟩
  have hml : m < acts.length := by omega
  obtain ⟨x, hx⟩ : ∃ x, acts[m] = x := ⟨_, rfl⟩
  have hxA : HActOk wS x := by rw [← hx]; exact hA _ (List.getElem_mem _)
  have hxr : x.rs.length ≤ 20000 := by rw [← hx]; exact hl2 _ (List.getElem_mem _)
  obtain ⟨b1, o1, hae, hcell⟩ := hact_at (hR.new hT5.keep) hml
  rw [hx] at hcell
  subst hae
  refine k_skip ?_
  refine k_seq ?_
  refine k_block ?_
  refine k_seq ?_
  refine k_region ?_
  refine o_ixs (m := m) (sz := 7) Tryd.underlying58 rfl rfl rfl hml ?_
  refine o_lda (xs := hactC x) rfl rfl rfl hcell ?_
  refine o_alloc inf65 rfl (fun b6 w6 hB6 hK6 hb6 hZ6 => ?_)
  refine o_sta (xs := hactC x) rfl rfl rfl (hact_one x) hB6 (Nat.le_refl 7) (fun w7 hB7 hK7 hZ7 => ?_)
  have hB : Blk w7 b6 (hactC x).toArray 65 := hB7
  have hT7 := hT5.new (hK6.tr1 hK7 (by omega))
  clear hB6 hK6 hB7 hK7 hZ7 hT5
  obtain ⟨S0, hS0⟩ : ∃ S0, S0 = w7.heap.size := ⟨_, rfl⟩
  obtain ⟨ws', L', hp⟩ : ∃ ws' L', playW ws L lim x = (ws', L') := ⟨_, _, rfl⟩
  have hdr : Keep [] w7 w7.drew := (Keep.refl [] w7).drew
  refine o_nil ?_
  refine k_seq ?_
  refine k_anyE 19 (fun w1 w2 => HQ S0 wS hb rb lim ws' L' w1 → HQ S0 wS hb rb lim ws' L' w2 ∧ Keep [] w1 w2) (fun iA => match iA with
      | 0 => fun v w => v = .pointer (some ⟨hb, 0, none⟩)
      | 1 => fun v w => v = .pointer (some ⟨rb, 0, none⟩)
      | 2 => fun v w => v = .agg (hactC x).toArray
      | 3 => fun v w => v = .bool true ∧ HQ S0 wS hb rb lim ws' L' w
      | 4 => fun v w => v = .bool false ∧ HQ S0 wS hb rb lim ws' L' w
      | 5 => fun v w => v = .bool false ∧ HQ S0 wS hb rb lim ws' L' w
      | 6 => fun v w => v = .pointer (some ⟨hb, 0, none⟩)
      | 7 => fun v w => v = .int .i64 ((ws'.length : Int) - 1)
      | 8 => fun v w => v = .pointer (some ⟨rb, 0, none⟩)
      | 9 => fun v w => v = .int .i64 ((ws'.length : Int) - 1)
      | 10 => fun v w => v = .bool false
      | 11 => fun v w => v = .bool false ∧ HQ S0 wS hb rb lim ws' L' w
      | 12 => fun v w => v = .bool false ∧ HQ S0 wS hb rb lim ws' L' w
      | 13 => fun v w => v = .pointer (some ⟨hb, 0, none⟩)
      | 14 => fun v w => ∃ a2 c2, v = .slice a2 ws'.length c2 ∧ HQ S0 wS hb rb lim ws' L' w ∧ Rd w a2 (ws'.map iv)
      | 15 => fun v w => v = .pointer (some ⟨rb, 0, none⟩)
      | 16 => fun v w => v = .pointer (some ⟨rb, 0, none⟩)
      | 17 => fun v w => v = .pointer (some ⟨rb, 0, none⟩)
      | 18 => fun v w => ∃ a2 c2, v = .slice a2 ws'.length c2 ∧ HQ S0 wS hb rb lim ws' L' w ∧ Rd w a2 (ws'.map iv)
      | _ => fun v w => True) (fun D e w' => D 3 = false → w'.heap.size = S0 ∧ Blk w' b6 (hactC x).toArray 65 ∧ Two wS w' hb rb ws lim L) rfl rfl rfl rfl (hle_refl S0 wS hb rb lim ws' L') (fun _ _ _ h1 h2 h => ⟨(h2 (h1 h).1).1, (h1 h).2.tr (h2 (h1 h).1).2⟩) ?_ (fun _ => ⟨hS0.symm, hB.keep hdr (by simp), hT7.new hdr⟩) ?_ ?_
  · intro iA v w w' h hL
    match iA, h with
    | 0, h =>
      exact h
    | 1, h =>
      exact h
    | 2, h =>
      exact h
    | 3, h =>
      exact ⟨h.1, (hL h.2).1⟩
    | 4, h =>
      exact ⟨h.1, (hL h.2).1⟩
    | 5, h =>
      exact ⟨h.1, (hL h.2).1⟩
    | 6, h =>
      exact h
    | 7, h =>
      exact h
    | 8, h =>
      exact h
    | 9, h =>
      exact h
    | 10, h =>
      exact h
    | 11, h =>
      exact ⟨h.1, (hL h.2).1⟩
    | 12, h =>
      exact ⟨h.1, (hL h.2).1⟩
    | 13, h =>
      exact h
    | 14, h =>
      obtain ⟨a2, c2, h1, h2, h3⟩ := h
      exact ⟨a2, c2, h1, (hL h2).1, h3.new (hL h2).2⟩
    | 15, h =>
      exact h
    | 16, h =>
      exact h
    | 17, h =>
      exact h
    | 18, h =>
      obtain ⟨a2, c2, h1, h2, h3⟩ := h
      exact ⟨a2, c2, h1, (hL h2).1, h3.new (hL h2).2⟩
    | _ + 19, h => trivial
  · intro iA o him hl D eA wA hDi hdp hSh hG hL hA hD
    match iA, him, hl with
    | 0, _, hl =>
      obtain rfl := Option.some.inj hl
      refine o_gen [(5, _)] ⟨hA 5 (free_of rfl), trivial⟩ (fun e2 => ?_)
      refine m_ptr rfl rfl ?_
      refine o_nil ⟨(hle_refl S0 wS hb rb lim ws' L') _, rfl, hG⟩
    | 1, _, hl =>
      obtain rfl := Option.some.inj hl
      refine o_gen [(7, _)] ⟨hA 7 (free_of rfl), trivial⟩ (fun e2 => ?_)
      refine m_ptr rfl rfl ?_
      refine o_nil ⟨(hle_refl S0 wS hb rb lim ws' L') _, rfl, hG⟩
    | 2, _, hl =>
      obtain rfl := Option.some.inj hl
      have h3 : D 3 = false := by
       cases h : D 3 with
       | false => rfl
       | true => rw [hSh 3 _ rfl h 2 (by decide)] at hDi; cases hDi
      obtain ⟨hz, hBx, hTT⟩ := hG h3
      refine o_gen [(10, .pointer (some ⟨b6, 0, none⟩))] ⟨hA 10 (free_of rfl), trivial⟩ (fun e2 => ?_)
      refine o_lda (xs := hactC x) rfl rfl rfl (fun j v hv => by rw [hBx.cell, Nat.zero_add]; simpa using hv) ?_
      refine o_nil ⟨(hle_refl S0 wS hb rb lim ws' L') _, rfl, hG⟩
    | 3, _, hl =>
      obtain rfl := Option.some.inj hl
      refine o_gen [(46, _), (47, _), (48, _)] ⟨hD 0 (by decide) 46 rfl, hD 1 (by decide) 47 rfl, hD 2 (by decide) 48 rfl, trivial⟩ (fun e2 => ?_)
      obtain ⟨hz, hBx, hTT⟩ := hG hDi
      refine o_call rfl rfl (play_ok wS wA hb rb ws lim L x hTT hW5 hu5 hlim hxA hxr ht) (fun v w8 hv => ?_)
      obtain ⟨rfl, hsz, hQ⟩ := hv
      rw [hp] at hQ
      refine o_nil ⟨fun hq => ?_, ⟨rfl, ?_, hQ⟩, fun h => by cases h⟩
      · have := hq.1; omega
      · omega
    | 4, _, hl =>
      obtain rfl := Option.some.inj hl
      have hq := hD 3 (by decide) 49 rfl
      refine o_gen [(49, .bool true)] ⟨hq.1, trivial⟩ (fun e2 => ?_)
      refine u_notb rfl ?_
      refine o_nil ⟨fun h => ⟨h, Keep.refl _ _⟩, ⟨rfl, hq.2⟩, hG⟩
    | 5, _, hl =>
      obtain rfl := Option.some.inj hl
      have hq := hD 4 (by decide) 50 rfl
      refine o_gen [(50, .bool false)] ⟨hq.1, trivial⟩ (fun e2 => ?_)
      refine m_bool rfl rfl ?_
      refine o_nil ⟨fun h => ⟨h, Keep.refl _ _⟩, ⟨rfl, hq.2⟩, hG⟩
    | 6, _, hl =>
      obtain rfl := Option.some.inj hl
      have hq := hD 5 (by decide) 51 rfl
      refine o_gen [(5, .pointer (some ⟨hb, 0, none⟩)), (51, .bool false)] ⟨hA 5 (free_of rfl), hq.1, trivial⟩ (fun e2 => ?_)
      refine g_yes rfl rfl ?_
      refine m_ptr rfl rfl ?_
      refine o_nil ⟨(hle_refl S0 wS hb rb lim ws' L') _, rfl, hG⟩
    | 7, _, hl =>
      obtain rfl := Option.some.inj hl
      have hq := hD 5 (by decide) 51 rfl
      refine o_gen [(51, .bool false), (52, .pointer (some ⟨hb, 0, none⟩))] ⟨hq.1, hD 6 (by decide) 52 rfl, trivial⟩ (fun e2 => ?_)
      obtain ⟨kH9, hHP9⟩ := hq.2.2.1.hp
      refine g_yes rfl rfl ?_
      refine o_call rfl rfl (used_ok kH9 wA hb ws' lim L' hHP9 hq.2.2.2.1.len) (fun v w8 hv => ?_)
      obtain ⟨rfl, rfl⟩ := hv
      refine o_nil ⟨(hle_refl S0 wS hb rb lim ws' L') _, rfl, hG⟩
    | 8, _, hl =>
      obtain rfl := Option.some.inj hl
      have hq := hD 5 (by decide) 51 rfl
      refine o_gen [(7, .pointer (some ⟨rb, 0, none⟩)), (51, .bool false)] ⟨hA 7 (free_of rfl), hq.1, trivial⟩ (fun e2 => ?_)
      refine g_yes rfl rfl ?_
      refine m_ptr rfl rfl ?_
      refine o_nil ⟨(hle_refl S0 wS hb rb lim ws' L') _, rfl, hG⟩
    | 9, _, hl =>
      obtain rfl := Option.some.inj hl
      have hq := hD 5 (by decide) 51 rfl
      refine o_gen [(51, .bool false), (54, .pointer (some ⟨rb, 0, none⟩))] ⟨hq.1, hD 8 (by decide) 54 rfl, trivial⟩ (fun e2 => ?_)
      obtain ⟨kR9, hRP9⟩ := hq.2.2.1.rp
      refine g_yes rfl rfl ?_
      refine o_call rfl rfl (rused_ok kR9 wA rb ws' lim hRP9 hq.2.2.2.1.len) (fun v w8 hv => ?_)
      obtain ⟨rfl, rfl⟩ := hv
      refine o_nil ⟨(hle_refl S0 wS hb rb lim ws' L') _, rfl, hG⟩
    | 10, _, hl =>
      obtain rfl := Option.some.inj hl
      have hq := hD 5 (by decide) 51 rfl
      refine o_gen [(51, .bool false), (53, .int .i64 ((ws'.length : Int) - 1)), (55, .int .i64 ((ws'.length : Int) - 1))] ⟨hq.1, hD 7 (by decide) 53 rfl, hD 9 (by decide) 55 rfl, trivial⟩ (fun e2 => ?_)
      refine g_yes rfl rfl ?_
      refine b_neq rfl rfl ?_
      refine o_nil ⟨fun h => ⟨h, Keep.refl _ _⟩, by simp [rdo, updo, upd], hG⟩
    | 11, _, hl =>
      obtain rfl := Option.some.inj hl
      have hq := hD 5 (by decide) 51 rfl
      refine o_gen [(51, .bool false), (56, .bool false)] ⟨hq.1, hD 10 (by decide) 56 rfl, trivial⟩ (fun e2 => ?_)
      refine pick_f rfl rfl ?_
      refine o_nil ⟨fun h => ⟨h, Keep.refl _ _⟩, ⟨rfl, hq.2⟩, hG⟩
    | 12, _, hl =>
      obtain rfl := Option.some.inj hl
      have hq := hD 11 (by decide) 57 rfl
      refine o_gen [(57, .bool false)] ⟨hq.1, trivial⟩ (fun e2 => ?_)
      refine m_bool rfl rfl ?_
      refine o_nil ⟨fun h => ⟨h, Keep.refl _ _⟩, ⟨rfl, hq.2⟩, hG⟩
    | 13, _, hl =>
      obtain rfl := Option.some.inj hl
      have hq := hD 12 (by decide) 58 rfl
      refine o_gen [(5, .pointer (some ⟨hb, 0, none⟩)), (58, .bool false)] ⟨hA 5 (free_of rfl), hq.1, trivial⟩ (fun e2 => ?_)
      refine g_yes rfl rfl ?_
      refine m_ptr rfl rfl ?_
      refine o_nil ⟨(hle_refl S0 wS hb rb lim ws' L') _, rfl, hG⟩
    | 14, _, hl =>
      obtain rfl := Option.some.inj hl
      have hq := hD 12 (by decide) 58 rfl
      refine o_gen [(58, .bool false), (59, .pointer (some ⟨hb, 0, none⟩))] ⟨hq.1, hD 13 (by decide) 59 rfl, trivial⟩ (fun e2 => ?_)
      obtain ⟨kH9, hHP9⟩ := hq.2.2.1.hp
      refine g_yes rfl rfl ?_
      refine o_call rfl rfl (words_ok kH9 wA hb ws' lim L' hHP9 hq.2.2.2.1.len) (fun u w14 hu => ?_)
      obtain ⟨⟨a14, c14, rfl, hR14⟩, hK14⟩ := hu
      refine o_nil ⟨fun h => ⟨h.new hK14, hK14⟩, ⟨a14, c14, by simp [rdo, updo, upd], hq.2.new hK14, hR14⟩, fun h => ?_⟩
      have h1 := (hG h).1
      have h2 := hq.2.1
      omega
    | 15, _, hl =>
      obtain rfl := Option.some.inj hl
      have hq := hD 12 (by decide) 58 rfl
      refine o_gen [(7, .pointer (some ⟨rb, 0, none⟩)), (58, .bool false)] ⟨hA 7 (free_of rfl), hq.1, trivial⟩ (fun e2 => ?_)
      refine g_yes rfl rfl ?_
      refine m_ptr rfl rfl ?_
      refine o_nil ⟨(hle_refl S0 wS hb rb lim ws' L') _, rfl, hG⟩
    | 16, _, hl =>
      obtain rfl := Option.some.inj hl
      have hq := hD 12 (by decide) 58 rfl
      refine o_gen [(58, .bool false), (61, .pointer (some ⟨rb, 0, none⟩))] ⟨hq.1, hD 15 (by decide) 61 rfl, trivial⟩ (fun e2 => ?_)
      refine g_yes rfl rfl ?_
      refine o_nilc rfl ?_
      refine o_nil ⟨(hle_refl S0 wS hb rb lim ws' L') _, rfl, hG⟩
    | 17, _, hl =>
      obtain rfl := Option.some.inj hl
      have hq := hD 12 (by decide) 58 rfl
      refine o_gen [(58, .bool false), (62, .pointer (some ⟨rb, 0, none⟩))] ⟨hq.1, hD 16 (by decide) 62 rfl, trivial⟩ (fun e2 => ?_)
      refine g_yes rfl rfl ?_
      refine o_fld0 rfl rfl ?_
      refine o_nil ⟨(hle_refl S0 wS hb rb lim ws' L') _, rfl, hG⟩
    | 18, _, hl =>
      obtain rfl := Option.some.inj hl
      have hq := hD 12 (by decide) 58 rfl
      refine o_gen [(58, .bool false), (63, .pointer (some ⟨rb, 0, none⟩))] ⟨hq.1, hD 17 (by decide) 63 rfl, trivial⟩ (fun e2 => ?_)
      obtain ⟨kR9, aR, cR, hBR, hSR, hkR1, hkR2⟩ := hq.2.2.1.rp
      refine g_yes rfl rfl ?_
      refine o_ld (v := .slice aR ws'.length cR) rfl rfl (hBR.at rfl) ?_
      refine o_nil ⟨fun h => ⟨h, Keep.refl _ _⟩, ⟨aR, cR, by simp [rdo, updo, upd], hq.2, hSR.rd⟩, hG⟩
    | _ + 19, him, _ => exact absurd him (by omega)
  intro D eA wA hAll hG hL hA hV
  obtain ⟨a14, c14, h60, hq14, hR14⟩ := hV 14 (by decide) 60 rfl
  obtain ⟨aR, cR, h64, hqR, hSR⟩ := hV 18 (by decide) 64 rfl
  refine o_gen [(5, .pointer (some ⟨hb, 0, none⟩)), (7, .pointer (some ⟨rb, 0, none⟩)), (40, .slice (some ⟨b1, o1, none⟩) acts.length c), (41, .int .i64 (acts.length : Int)), (42, .int .i64 (m : Int)), (58, .bool false), (60, .slice a14 ws'.length c14), (64, .slice aR ws'.length cR)] ⟨hA 5 (free_of rfl), hA 7 (free_of rfl), hA 40 (free_of rfl), hA 41 (free_of rfl), hA 42 (free_of rfl), (hV 12 (by decide) 58 rfl).1, h60, h64, trivial⟩ (fun e => ?_)
  have hwl : ws'.length ≤ 65537 := hq14.2.2.1.len
  refine o_false (t := 58) (p := False) rfl id ?_
  refine g_yes rfl rfl ?_
  refine o_call rfl rfl (samw_ok wA a14 aR c14 cR ws' ws' hR14 hSR (by omega) (by omega)) (fun u w15 hu => ?_)
  obtain ⟨rfl, hK15⟩ := hu
  refine g_yes rfl rfl ?_
  refine u_not rfl ?_
  refine pick_f rfl rfl ?_
  refine o_nil ?_
  refine k_no rfl ((fun h => h rfl)) ?_
  refine k_skip ?_
  refine k_blk ?_
  refine k_region ?_
  refine n_add rfl rfl (by omega) ?_
  refine m_int rfl rfl ?_
  refine o_nil ?_
  refine k_goal ⟨m + 1, ⟨rfl, rfl, rfl, rfl, rfl, trivial⟩, ⟨by omega, ws', L', hq14.2.1.new hK15, hq14.2.2.1, hq14.2.2.2⟩, by omega⟩
end Go.Proofs.YtchbidckckmobaaDoor

/- HeapCollects. No condition beyond what each contract names. -/
namespace Go.Proofs.YtchbidckckmobaaDoor
open Go.RowKit E
set_option linter.unusedVariables false
set_option linter.unusedSimpArgs false
set_option maxRecDepth 100000
attribute [local irreducible] ow qw kw kq cw opW Ret
theorem lay_room0 (ws L : List Int) (lim u kind : Int) (n : Nat) (hk : kind = 2 ∨ kind = 3) (hn : n ≤ 65535) (hu : (ws.length : Int) = u + 1) : ((layH ws L lim kind 0 n 0).2.1 = 0 ↔ u + 1 + (n : Int) ≤ lim) ∧ ((layH ws L lim kind 0 n 0).2.1 ≠ 0 → (layH ws L lim kind 0 n 0).2.1 = 27) ∧ (u + 1 + (n : Int) ≤ lim → ((layH ws L lim kind 0 n 0).2.2.1.length : Int) = u + 1 + 1 + n) ∧ (¬ u + 1 + (n : Int) ≤ lim → ((layH ws L lim kind 0 n 0).2.2.1.length : Int) = u + 1) := by
  have hok : hOk kind 0 n 0 := by
    unfold hOk
    rcases hk with rfl | rfl <;> simp <;> omega
  have hh := head_yes hok
  unfold layH
  rw [if_neg (by omega)]
  by_cases hf : u + 1 + (n : Int) ≤ lim
  · rw [if_neg (by omega), hh, if_neg (by simp)]
    refine ⟨⟨fun _ => hf, fun _ => rfl⟩, fun h => absurd rfl h, fun _ => ?_, fun h => absurd hf h⟩
    simp only [List.length_append, List.length_cons, List.length_replicate, Int.toNat_natCast]
    push_cast
    omega
  · rw [if_pos (by omega)]
    exact ⟨⟨fun h => absurd (show (27 : Int) = 0 from h) (by decide), fun h => absurd h hf⟩, fun _ => rfl, fun h => absurd h hf, fun _ => hu⟩
theorem mark_coll {ws rts xs rs LV : List Int} {er er2 : Int} (h : MarkIs ws rts er LV) (h' : CollIs ws rts er2 xs rs) : er = er2 ∧ (er = 0 → ∃ L0, SL ws L0 rts LV ∧ xs = outW ws LV) := by
  rcases h with ⟨rfl, rfl, h⟩ | ⟨rfl, rfl, L, h, hr⟩ | ⟨rfl, hA, L, h, hr⟩ <;> rcases h' with ⟨rfl, rfl, rfl, h'⟩ | ⟨rfl, rfl, rfl, L', h', hr'⟩ | ⟨rfl, L', LV', h', hr', hB, rfl, rfl⟩ <;> rw [h] at h' <;> first | exact ⟨rfl, fun hh => absurd hh (by decide)⟩ | (obtain rfl := hA.one hB; exact ⟨rfl, fun _ => ⟨L, ⟨h, hr, hA⟩, rfl⟩⟩) | (cases h'; done) | (cases h'; exact absurd hr' hr) | (cases h'; exact absurd hr hr')
set_option maxHeartbeats 1000000 in
theorem hcolls_ok (wS : World) (a : Option Addr) (c : Nat) (acts : List HAct) (ra : Option Addr) (rc : Nat) (rts : List Int) (nb : BitVec 8) (hR : Rd wS a (acts.map hactC).flatten) (hl : acts.length ≤ 9223372036854775807) (hA : ∀ x ∈ acts, HActOk wS x) (hR1 : Rd wS ra (rts.map iv)) (ht : TabTz wS) :
    Ret Tryd.prog 9 [.slice a acts.length c, .slice ra rts.length rc, .int .u8 (nb.toNat : Int)] wS (fun v w' => v = .bool true ∧ Keep [] wS w') := by
  have hnb := nb.isLt
  refine fn_enter (n := 147) Tryd.func9 rfl rfl (Nat.le_of_ble_eq_true rfl) (fun e => ?_)
  refine k_seq ?_
  refine k_region ?_
  refine m_bool rfl rfl ?_
  refine o_nil ?_
  refine k_seq ?_
  refine k_seq ?_
  refine k_region ?_
  refine o_call rfl rfl (fixed21_ok wS ht) (fun v w1 hv => ?_)
  obtain ⟨rfl, hK1⟩ := hv
  refine u_notb rfl ?_
  refine o_nil ?_
  refine k_condf rfl ?_
  refine k_skip ?_
  refine k_seq ?_
  refine k_seq ?_
  refine k_region ?_
  refine m_sl rfl rfl ?_
  refine o_call rfl rfl (few21_ok w1 a c acts (hR.new hK1) hl (fun x hx => (hA x hx).new hK1)) (fun v w2 hv => ?_)
  obtain ⟨⟨bf, rfl, hfew⟩, hK2⟩ := hv
  have hK02 := hK1.tr hK2
  refine u_notb rfl ?_
  refine m_bool rfl rfl ?_
  refine o_split (t := 32) (p := bf = false) (by show Value.bool (!bf) = _; cases bf <;> rfl) (fun h => ?_) (fun h => ?_)
  ·
    refine g_no rfl rfl rfl ?_
    refine g_no rfl rfl rfl ?_
    refine g_no rfl rfl rfl ?_
    refine pick_t rfl rfl ?_
    refine o_nil ?_
    refine k_condt rfl ?_
    refine k_seq ?_
    refine k_region ?_
    refine m_bool rfl rfl ?_
    refine o_nil ?_
    refine k_ret (ret_tmps (ts := [6]) (v := .bool _) rfl rfl ?_)
    exact ⟨rfl, hK02⟩
  ·
    obtain ⟨hl201, hl2⟩ := hfew (by cases bf <;> simp_all)
    clear hfew
    refine g_yes rfl rfl ?_
    refine m_sl rfl rfl ?_
    refine g_yes rfl rfl ?_
    refine o_lens Tryd.underlying23 rfl ?_
    refine g_yes rfl rfl ?_
    refine b_gtr rfl rfl ?_
    refine pick_f rfl rfl ?_
    refine o_nil ?_
    refine k_cond rfl (fun h => ?_) (fun h => ?_)
    ·
      refine k_seq ?_
      refine k_region ?_
      refine m_bool rfl rfl ?_
      refine o_nil ?_
      refine k_ret (ret_tmps (ts := [6]) (v := .bool _) rfl rfl ?_)
      exact ⟨rfl, hK02⟩
    refine k_skip ?_
    refine k_seq ?_
    refine k_region ?_
    refine o_call rfl rfl (hnew_ok w2 3000) (fun v w3 hv => ?_)
    obtain ⟨hK3, hv⟩ := hv
    rw [if_pos (by decide)] at hv
    obtain ⟨hb, rfl, hH3⟩ := hv
    refine m_any rfl rfl ?_
    refine o_extr rfl rfl ?_
    refine o_extr rfl rfl ?_
    refine m_ptr rfl rfl ?_
    refine m_int rfl rfl ?_
    refine o_nil ?_
    refine k_seq ?_
    refine k_region ?_
    refine o_call rfl rfl (rnew_ok w3 3000) (fun v w4 hv => ?_)
    obtain ⟨hK4, hv⟩ := hv
    rw [if_pos (by decide)] at hv
    obtain ⟨rb, rfl, hRP4⟩ := hv
    have hK03 := hK02.tr hK3
    have hK04 := hK03.tr hK4
    obtain ⟨k3, hk3, hH3'⟩ := hH3.tight
    have hT4 : Two wS w4 hb rb [0] 3000 [] := Two.mk' (hH3'.new hK4) hRP4 (fun b x y => by have := (hk3 b x).2; omega) (fun b x => Nat.le_trans hK02.size (hk3 b x).1) (fun b x => Nat.le_trans hK03.size x) hK04
    clear hH3 hH3' hRP4 hk3
    refine m_any rfl rfl ?_
    refine o_extr rfl rfl ?_
    refine o_extr rfl rfl ?_
    refine m_ptr rfl rfl ?_
    refine m_int rfl rfl ?_
    refine o_nil ?_
    refine k_seq ?_
    refine k_seq ?_
    refine k_region ?_
    refine m_ptr rfl rfl ?_
    refine b_eqlp Tryd.underlying41 rfl rfl ?_
    refine o_nil ?_
    refine k_no rfl ((by intro h; cases h)) ?_
    refine k_skip ?_
    refine k_seq ?_
    refine k_seq ?_
    refine k_region ?_
    refine m_sl rfl rfl ?_
    refine o_lens Tryd.underlying58 rfl ?_
    refine m_int rfl rfl ?_
    refine o_nil ?_
    refine k_block ?_
    refine k_loop (σ := Nat) (fun m => [(1, .slice ra rts.length rc), (2, .int .u8 (nb.toNat : Int)), (7, .pointer (some ⟨hb, 0, none⟩)), (9, .pointer (some ⟨rb, 0, none⟩)), (47, .slice a acts.length c), (48, .int .i64 (acts.length : Int)), (49, .int .i64 (m : Int))]) (fun m w' => m ≤ acts.length ∧ ∃ ws L, Two wS w' hb rb ws 3000 L ∧ WFH ws L ∧ (ws.length : Int) ≤ 3000 + 1) (fun m => acts.length - m) 0 ⟨rfl, rfl, rfl, rfl, rfl, rfl, rfl, trivial⟩ ⟨Nat.zero_le _, [0], [], hT4, WFH.one, by simp⟩ (fun m e w5 hJ => ?_)
    obtain ⟨hm, ws, L, hT5, hW5, hu5⟩ := hJ
    refine k_seq ?_
    refine k_region ?_
    refine b_lss rfl rfl ?_
    refine o_nil ?_
    refine k_seq ?_
    refine k_cond rfl (fun h => ?_) (fun h => ?_)
    rotate_left
    ·
      have hwl := hW5.len
      obtain ⟨kH, kR, h1, h2, h3, h4, h5, h6⟩ := hT5
      obtain ⟨aR, cR, hBR, hSR, hkR1, hkR2⟩ := id h2
      refine k_exit rfl ?_
      refine k_seq ?_
      refine k_region ?_
      refine m_ptr rfl rfl ?_
      refine o_nilc rfl ?_
      refine o_fld0 rfl rfl ?_
      refine o_ld (v := .slice aR ws.length cR) rfl rfl (hBR.at rfl) ?_
      refine m_sl rfl rfl ?_
      refine o_call rfl rfl (rmark_ok w5 aR ra cR rc ws rts hSR.rd (hR1.new h6) (by omega) (by omega) (fun x hx => (hW5.rng x hx).2)) (fun v w6 hv => ?_)
      obtain ⟨er, LV, a6, c6, rfl, hR6, ⟨hL6, hf6⟩, hK6, hm6⟩ := mark_is2 hv
      have hK06 := h6.tr hK6
      refine m_any rfl rfl ?_
      refine o_extr rfl rfl ?_
      refine o_extr rfl rfl ?_
      refine m_sl rfl rfl ?_
      refine m_int rfl rfl ?_
      refine o_nil ?_
      refine k_seq ?_
      refine k_region ?_
      refine m_ptr rfl rfl ?_
      refine m_sl rfl rfl ?_
      refine o_call rfl rfl (hcoll_ok (fun b => kH b ∨ w6.heap.size ≤ b) w6 hb ws 3000 L ra rc rts ((h1.new hK6).wide (fun b hb => .inl hb)) hW5 hu5 (fun b hb => .inr hb) (hR1.new hK06) (by omega) (ht.new hK06)) (fun v w7 hv => ?_)
      obtain ⟨er2, xs, rs, a7, c7, rfl, hR7, hL7, hf7, hm7, hcs⟩ := hv
      obtain ⟨rfl, hSL⟩ := mark_coll hm6 hm7
      have hKH : KeepH (fun b => kH b ∨ w6.heap.size ≤ b) w6 w7 := by
        rcases hcs with ⟨_, hh⟩ | ⟨_, _, _, hh⟩
        · exact hh.2.2.2
        · exact hh.2.2.2
      have hK07 : Keep [] wS w7 := hKH.below hK06 (fun b hb => hb.elim (fun hh => (h4 b hh).1) (fun hh => Nat.le_trans hK06.size hh))
      refine m_any rfl rfl ?_
      refine o_extr rfl rfl ?_
      refine o_extr rfl rfl ?_
      refine m_sl rfl rfl ?_
      refine m_int rfl rfl ?_
      refine o_nil ?_
      refine k_seq ?_
      refine k_seq ?_
      refine k_region ?_
      refine m_int rfl rfl ?_
      refine m_int rfl rfl ?_
      refine b_neq rfl rfl ?_
      refine m_bool rfl rfl ?_
      refine o_false (t := 77) rfl ((fun h' => h' rfl)) ?_
      refine g_yes rfl rfl ?_
      refine m_int rfl rfl ?_
      refine g_yes rfl rfl ?_
      refine b_neq rfl rfl ?_
      refine pick_f rfl rfl ?_
      refine o_nil ?_
      refine k_cond rfl (fun h => ?_) (fun h => ?_)
      ·
        refine k_seq ?_
        refine k_region ?_
        refine m_int rfl rfl ?_
        refine m_int rfl rfl ?_
        refine b_eql rfl rfl ?_
        refine m_bool rfl rfl ?_
        refine o_nil ?_
        refine k_ret (ret_tmps (ts := [6]) (v := .bool _) rfl rfl ?_)
        exact ⟨congrArg Value.bool (decide_eq_true rfl), hK07⟩
      obtain rfl : er = 0 := Decidable.of_not_not h
      obtain ⟨L0, hSL, hxs⟩ := hSL rfl
      obtain ⟨_, L', hb7, hr⟩ := hcs.resolve_left (fun hh => hh.1 rfl)
      obtain ⟨hH7, hW7, hu7, _⟩ := hr
      have hRP7 : RP kR w7 rb ws 3000 := (h2.new hK6).kh hKH (fun b hb hh => hh.elim (fun hh => h3 b hh hb) (fun hh => by have := (h5 b hb).2; have := hK6.size; omega))
      obtain ⟨aQ, cQ, hBQ, hSQ, hkQ1, hkQ2⟩ := id hRP7
      have hR67 : Rd w7 a6 (LV.map iv) := hR6.kh hKH (fun hn z hz hk => by
        have g1 := hf6 z hz
        have g2 := rd_lt hR6 hn z hz
        rcases hk with hk | hk
        · have := (h4 _ hk).2; omega
        · omega)
      have hxl : xs.length = 1 + sumN ws LV := by rw [hxs, out_len]
      have hw7l := hW7.len
      have htk : ∀ i, sumN ws (LV.take i) ≤ sumN ws LV := fun i => by
        have := sumN_app ws (LV.take i) (LV.drop i)
        rw [List.take_append_drop] at this
        omega
      refine k_skip ?_
      refine k_seq ?_
      refine k_region ?_
      refine m_int rfl rfl ?_
      refine o_nil ?_
      refine k_seq ?_
      refine k_seq ?_
      refine k_region ?_
      refine m_sl rfl rfl ?_
      refine o_lens Tryd.underlying23 rfl ?_
      refine m_int rfl rfl ?_
      refine o_nil ?_
      refine k_block ?_
      refine k_loop (σ := Nat × Int) (fun s => [(2, .int .u8 (nb.toNat : Int)), (7, .pointer (some ⟨hb, 0, none⟩)), (9, .pointer (some ⟨rb, 0, none⟩)), (17, .int .i64 s.2), (84, .slice a6 LV.length c6), (85, .int .i64 (LV.length : Int)), (86, .int .i64 (s.1 : Int))]) (fun s w' => s.1 ≤ LV.length ∧ s.2 = (sumN ws (LV.take s.1) : Int) ∧ w' = w7) (fun s => LV.length - s.1) (0, 0) ⟨rfl, rfl, rfl, rfl, rfl, rfl, rfl, trivial⟩ ⟨Nat.zero_le _, by simp [sumN], rfl⟩ (fun s e w8 hJ => ?_)
      obtain ⟨i, u⟩ := s
      obtain ⟨hi, hu, rfl⟩ := hJ
      dsimp only at hi hu ⊢
      refine k_seq ?_
      refine k_region ?_
      refine b_lss rfl rfl ?_
      refine o_nil ?_
      refine k_seq ?_
      refine k_cond rfl (fun h => ?_) (fun h => ?_)
      rotate_left
      ·
        rw [List.take_of_length_le (by omega)] at hu
        obtain ⟨g0, g27, gT, gF⟩ := lay_room0 xs L' 3000 u 2 nb.toNat (.inl rfl) (by omega) (by omega)
        refine k_exit rfl ?_
        refine k_seq ?_
        refine k_region ?_
        refine m_ptr rfl rfl ?_
        refine m_int rfl rfl ?_
        refine cv8_i rfl Tryd.underlying3 rfl ?_
        refine o_call rfl rfl (harray_ok (fun b => kH b ∨ w6.heap.size ≤ b) w8 hb xs 3000 L' 0 (nb.toNat : Int) false hH7 hW7 (by decide) hu7 (fun b hb => .inr (by have := hKH.size; omega)) (by decide) (by omega)) (fun v w9 hv => ?_)
        rw [if_neg (by decide)] at hv
        obtain ⟨e3, he3⟩ : ∃ e3, (layH xs L' 3000 2 0 (nb.toNat : Int) 0).2.1 = e3 := ⟨_, rfl⟩
        obtain ⟨xs3, hxs3⟩ : ∃ x, (layH xs L' 3000 2 0 (nb.toNat : Int) 0).2.2.1 = x := ⟨_, rfl⟩
        rw [he3, hxs3] at hv
        rw [he3] at g0 g27
        rw [hxs3] at gT gF
        obtain ⟨rfl, hH9, hW9, hu9, hKH9⟩ := hv
        have hw9l := hW9.len
        have hK09 : Keep [] wS w9 := hKH9.below hK07 (fun b hb => hb.elim (fun hh => (h4 b hh).1) (fun hh => Nat.le_trans hK06.size hh))
        refine m_any rfl rfl ?_
        refine o_extr rfl rfl ?_
        refine o_extr rfl rfl ?_
        refine m_int rfl rfl ?_
        refine m_int rfl rfl ?_
        refine o_nil ?_
        refine k_seq ?_
        refine k_region ?_
        refine m_ptr rfl rfl ?_
        refine o_call rfl rfl (used_ok _ w9 hb xs3 3000 _ hH9 hw9l) (fun v w10 hv => ?_)
        obtain ⟨rfl, rfl⟩ := hv
        refine m_int rfl rfl ?_
        refine n_sub rfl rfl (by omega) ?_
        refine b_eql rfl rfl ?_
        refine m_bool rfl rfl ?_
        refine o_split (t := 121) rfl (fun h => ?_) (fun h => ?_)
        ·
          refine g_yes rfl rfl ?_
          refine m_int rfl rfl ?_
          refine g_yes rfl rfl ?_
          refine b_eql rfl rfl ?_
          refine pick_t rfl rfl ?_
          refine m_bool rfl rfl ?_
          refine o_true (t := 125) rfl ((by omega)) ?_
          refine g_yes rfl rfl ?_
          refine m_int rfl rfl ?_
          refine g_yes rfl rfl ?_
          refine n_add rfl rfl (by omega) ?_
          refine g_yes rfl rfl ?_
          refine m_int rfl rfl ?_
          refine g_yes rfl rfl ?_
          refine cv8_i rfl Tryd.underlying3 rfl ?_
          refine g_yes rfl rfl ?_
          refine n_add rfl rfl (by omega) ?_
          refine g_yes rfl rfl ?_
          refine b_gtr rfl rfl ?_
          refine pick_t rfl rfl ?_
          refine m_bool rfl rfl ?_
          refine o_true (t := 133) rfl ((by omega)) ?_
          refine g_no rfl rfl rfl ?_
          refine g_no rfl rfl rfl ?_
          refine g_no rfl rfl rfl ?_
          refine g_no rfl rfl rfl ?_
          refine g_no rfl rfl rfl ?_
          refine g_no rfl rfl rfl ?_
          refine g_no rfl rfl rfl ?_
          refine g_no rfl rfl rfl ?_
          refine g_no rfl rfl rfl ?_
          refine g_un rfl rfl ?_
          refine g_un rfl rfl ?_
          refine g_no rfl rfl rfl ?_
          refine pick_t rfl rfl ?_
          refine m_bool rfl rfl ?_
          refine o_nil ?_
          refine k_ret (ret_tmps (ts := [6]) (v := .bool _) rfl rfl ?_)
          exact ⟨rfl, hK09⟩
        ·
          refine g_no rfl rfl rfl ?_
          refine g_no rfl rfl rfl ?_
          refine pick_f rfl rfl ?_
          refine m_bool rfl rfl ?_
          refine g_no rfl rfl rfl ?_
          refine g_no rfl rfl rfl ?_
          refine g_no rfl rfl rfl ?_
          refine g_no rfl rfl rfl ?_
          refine g_no rfl rfl rfl ?_
          refine g_no rfl rfl rfl ?_
          refine pick_f rfl rfl ?_
          refine m_bool rfl rfl ?_
          refine g_yes rfl rfl ?_
          refine m_ptr rfl rfl ?_
          refine g_yes rfl rfl ?_
          refine o_call rfl rfl (used_ok _ w10 hb xs3 3000 _ hH9 hw9l) (fun v w11 hv => ?_)
          obtain ⟨rfl, rfl⟩ := hv
          refine g_yes rfl rfl ?_
          refine m_int rfl rfl ?_
          refine g_yes rfl rfl ?_
          refine n_sub rfl rfl (by omega) ?_
          refine g_yes rfl rfl ?_
          refine m_int rfl rfl ?_
          refine g_yes rfl rfl ?_
          refine cv8_i rfl Tryd.underlying3 rfl ?_
          refine g_yes rfl rfl ?_
          refine n_add rfl rfl (by omega) ?_
          refine g_yes rfl rfl ?_
          refine b_eql rfl rfl ?_
          refine g_yes rfl rfl ?_
          refine m_bool rfl rfl ?_
          refine o_true (t := 142) rfl ((by omega)) ?_
          refine g_yes rfl rfl ?_
          refine m_int rfl rfl ?_
          refine g_yes rfl rfl ?_
          refine b_eql rfl rfl ?_
          refine g_yes rfl rfl ?_
          refine pick_t rfl rfl ?_
          refine pick_f rfl rfl ?_
          refine m_bool rfl rfl ?_
          refine o_nil ?_
          refine k_ret (ret_tmps (ts := [6]) (v := .bool _) rfl rfl ?_)
          exact ⟨congrArg Value.bool (decide_eq_true (by omega)), hK09⟩
      have hin : i < LV.length := by omega
      obtain ⟨k, hk, hke, hk1, hk0, mm, hmm, hno, hsz, hkm, hm9⟩ := blk_at hSL.hb (hSL.sub _ (List.getElem_mem hin))
      rw [hke] at hsz
      obtain ⟨b6, o6, hae, hc6⟩ := hR67 _ _ (iv_at LV i hin)
      subst hae
      rw [hke] at hc6
      obtain ⟨bq, oq, hae, hcq⟩ := hSQ.rd _ _ (iv_at ws k hk)
      subst hae
      have htki := htk i
      refine k_skip ?_
      refine k_seq ?_
      refine k_block ?_
      refine k_seq ?_
      refine k_region ?_
      refine o_ixs1 (m := i) Tryd.underlying23 rfl rfl rfl hin ?_
      refine o_ld (v := iv (k : Int)) rfl rfl hc6 ?_
      refine m_int rfl rfl ?_
      refine o_nil ?_
      refine k_seq ?_
      refine k_region ?_
      refine m_ptr rfl rfl ?_
      refine o_nilc rfl ?_
      refine o_fld0 rfl rfl ?_
      refine o_ld (v := .slice (some ⟨bq, oq, none⟩) ws.length cQ) rfl rfl (hBQ.at rfl) ?_
      refine m_int rfl rfl ?_
      refine o_ixs1 (m := k) Tryd.underlying22 rfl rfl rfl hk ?_
      refine o_ld (v := iv ws[k]) rfl rfl hcq ?_
      refine o_call rfl rfl (ropen_ok w8 ws[k] (hW5.rng _ (List.getElem_mem hk)).2) (fun v w9 hv => ?_)
      obtain ⟨rfl, rfl⟩ := hv
      rw [hmm]
      refine m_any rfl rfl ?_
      refine o_extr rfl rfl ?_
      refine o_extr rfl rfl ?_
      refine o_extr rfl rfl ?_
      refine o_extr rfl rfl ?_
      refine o_extr rfl rfl ?_
      refine m_int rfl rfl ?_
      refine m_int rfl rfl ?_
      refine m_int rfl rfl ?_
      refine m_int rfl rfl ?_
      refine m_int rfl rfl ?_
      refine o_nil ?_
      refine k_region ?_
      refine m_int rfl rfl ?_
      refine m_int rfl rfl ?_
      refine n_add rfl rfl (by omega) ?_
      refine n_add rfl rfl (by omega) ?_
      refine m_int rfl rfl ?_
      refine o_nil ?_
      refine k_blk ?_
      refine k_region ?_
      refine n_add rfl rfl (by omega) ?_
      refine m_int rfl rfl ?_
      refine o_nil ?_
      refine k_goal ⟨(i + 1, u + (1 + (mm : Int))), ⟨rfl, rfl, rfl, rfl, rfl, rfl, rfl, trivial⟩, ⟨hin, ?_, rfl⟩, by dsimp only; omega⟩
      dsimp only
      rw [take_snoc LV i hin, sumN_app, hke, hu]
      simp only [sumN, hsz]
      push_cast
      omega
    have hml : m < acts.length := by omega
    obtain ⟨x, hx⟩ : ∃ x, acts[m] = x := ⟨_, rfl⟩
    have hxA : HActOk wS x := by rw [← hx]; exact hA _ (List.getElem_mem _)
    have hxr : x.rs.length ≤ 20000 := by rw [← hx]; exact hl2 _ (List.getElem_mem _)
    obtain ⟨b1, o1, hae, hcell⟩ := hact_at (hR.new hT5.keep) hml
    rw [hx] at hcell
    subst hae
    refine k_skip ?_
    refine k_seq ?_
    refine k_block ?_
    refine k_seq ?_
    refine k_region ?_
    refine o_ixs (m := m) (sz := 7) Tryd.underlying58 rfl rfl rfl hml ?_
    refine o_lda (xs := hactC x) rfl rfl rfl hcell ?_
    refine o_alloc inf65 rfl (fun b6 w6 hB6 hK6 hb6 hZ6 => ?_)
    refine o_sta (xs := hactC x) rfl rfl rfl (hact_one x) hB6 (Nat.le_refl 7) (fun w7 hB7 hK7 hZ7 => ?_)
    have hB : Blk w7 b6 (hactC x).toArray 65 := hB7
    have hT7 := hT5.new (hK6.tr1 hK7 (by omega))
    refine o_nil ?_
    refine k_seq ?_
    refine k_region ?_
    refine m_ptr rfl rfl ?_
    refine m_ptr rfl rfl ?_
    refine o_lda (xs := hactC x) rfl rfl rfl (fun j v hv => by rw [hB.cell, Nat.zero_add]; simpa using hv) ?_
    refine o_call rfl rfl (play_ok wS w7 hb rb ws 3000 L x hT7 hW5 hu5 (by decide) hxA hxr ht) (fun v w8 hv => ?_)
    obtain ⟨rfl, hsz, hQ⟩ := hv
    refine u_notb rfl ?_
    refine o_nil ?_
    refine k_condf rfl ?_
    refine k_skip ?_
    refine k_blk ?_
    refine k_region ?_
    refine n_add rfl rfl (by omega) ?_
    refine m_int rfl rfl ?_
    refine o_nil ?_
    refine k_goal ⟨m + 1, ⟨rfl, rfl, rfl, rfl, rfl, rfl, rfl, trivial⟩, ⟨by omega, _, _, hQ.1, hQ.2.1, hQ.2.2⟩, by omega⟩
end Go.Proofs.YtchbidckckmobaaDoor

/- A heap of plain arrays, one behind the other, plain. No condition beyond what each lemma names. -/
namespace Go.Proofs.YtchbidckckmobaaDoor
open Go.RowKit E
set_option linter.unusedVariables false
set_option linter.unusedSimpArgs false
set_option maxRecDepth 100000
attribute [local irreducible] ow qw kw kq cw opW Ret
def wsK : Nat → List (List Int) → List Int
  | _, [] => []
  | i, c :: cs => (headW 2 (i : Int) (c.length : Int) 0).1 :: (c ++ wsK (i + 1) cs)
def plK : Nat → List (List Int) → List Int
  | _, [] => []
  | p, c :: cs => (p : Int) :: plK (p + 1 + c.length) cs
def lnK : List (List Int) → Nat
  | [] => 0
  | c :: cs => 1 + c.length + lnK cs
theorem wsK_len : ∀ (i : Nat) (bs : List (List Int)), (wsK i bs).length = lnK bs
  | _, [] => rfl
  | i, c :: cs => by simp only [wsK, lnK, List.length_cons, List.length_append, wsK_len (i + 1) cs]; omega
theorem wsK_app : ∀ (A B : List (List Int)) (i : Nat), wsK i (A ++ B) = wsK i A ++ wsK (i + A.length) B
  | [], B, i => by simp [wsK]
  | c :: A, B, i => by
    have := wsK_app A B (i + 1)
    simp only [List.cons_append, wsK, this, List.length_cons, List.append_assoc]
    rw [show i + 1 + A.length = i + (A.length + 1) by omega]
theorem plK_app : ∀ (A B : List (List Int)) (p : Nat), plK p (A ++ B) = plK p A ++ plK (p + lnK A) B
  | [], B, p => by simp [plK, lnK]
  | c :: A, B, p => by
    have := plK_app A B (p + 1 + c.length)
    simp only [List.cons_append, plK, this, lnK]
    rw [show p + 1 + c.length + lnK A = p + (1 + c.length + lnK A) by omega]
theorem lnK_app : ∀ (A B : List (List Int)), lnK (A ++ B) = lnK A + lnK B
  | [], B => by simp [lnK]
  | c :: A, B => by simp only [List.cons_append, lnK, lnK_app A B]; omega
theorem plK_len : ∀ (p : Nat) (bs : List (List Int)), (plK p bs).length = bs.length
  | _, [] => rfl
  | p, c :: cs => by simp only [plK, List.length_cons, plK_len _ cs]
theorem plK_same {A B : List (List Int)} {c d : List Int} (h : c.length = d.length) (p : Nat) : plK p (A ++ c :: B) = plK p (A ++ d :: B) := by
  rw [plK_app, plK_app]; simp only [plK, h]
theorem lnK_same {A B : List (List Int)} {c d : List Int} (h : c.length = d.length) : lnK (A ++ c :: B) = lnK (A ++ d :: B) := by
  rw [lnK_app, lnK_app]; simp only [lnK, h]
theorem plK_at (A B : List (List Int)) (c : List Int) (p : Nat) : (plK p (A ++ c :: B))[A.length]? = some ((p + lnK A : Nat) : Int) := by
  rw [plK_app, List.getElem?_append_right (by rw [plK_len]; exact Nat.le_refl _), plK_len, Nat.sub_self]
  rfl
theorem plK_mem (A B : List (List Int)) (c : List Int) (p : Nat) : ((p + lnK A : Nat) : Int) ∈ plK p (A ++ c :: B) := List.mem_of_getElem? (plK_at A B c p)
theorem wsK_split (A B : List (List Int)) (c : List Int) : 0 :: wsK 0 (A ++ c :: B) = (0 :: wsK 0 A ++ [(headW 2 (A.length : Int) (c.length : Int) 0).1]) ++ (c ++ wsK (A.length + 1) B) := by
  rw [wsK_app]
  simp [wsK]
theorem wsK_pre (A : List (List Int)) (x : Int) : (0 :: wsK 0 A ++ [x]).length = 1 + lnK A + 1 := by
  simp [wsK_len]; omega
theorem wsK_head (A B : List (List Int)) (c : List Int) : (0 :: wsK 0 (A ++ c :: B)).getD (1 + lnK A) 0 = (headW 2 (A.length : Int) (c.length : Int) 0).1 := by
  rw [wsK_split, List.getD_eq_getElem?_getD, List.getElem?_append_left (by rw [wsK_pre]; omega), List.getElem?_append_right (by simp [wsK_len]; omega)]
  have : 1 + lnK A - (0 :: wsK 0 A).length = 0 := by simp [wsK_len]; omega
  rw [this]
  rfl
theorem wsK_cell (A B : List (List Int)) (c : List Int) (d : Nat) (hd : d < c.length) : (0 :: wsK 0 (A ++ c :: B)).getD (1 + lnK A + 1 + d) 0 = c[d] := by
  rw [wsK_split, List.getD_eq_getElem?_getD, List.getElem?_append_right (by rw [wsK_pre]; omega), wsK_pre, Nat.add_sub_cancel_left, List.getElem?_append_left hd, List.getElem?_eq_getElem hd]
  rfl
theorem wsK_set (A B : List (List Int)) (c : List Int) (d : Nat) (v : Int) (hd : d < c.length) : (0 :: wsK 0 (A ++ c :: B)).set (1 + lnK A + 1 + d) v = 0 :: wsK 0 (A ++ c.set d v :: B) := by
  rw [wsK_split, wsK_split A B (c.set d v), List.set_append_right _ _ (by rw [wsK_pre]; omega), wsK_pre, Nat.add_sub_cancel_left, List.set_append_left _ _ hd, List.length_set]
theorem hok2 {i n : Nat} (hi : i ≤ 65535) (hn : n ≤ 65536) : hOk 2 (i : Int) (n : Int) 0 := by
  unfold hOk
  simp
  omega
theorem head2 {i n : Nat} (hi : i ≤ 65535) (hn : n ≤ 65536) : (headW 2 (i : Int) (n : Int) 0).2 = 0 := by rw [head_yes (hok2 hi hn)]
theorem lookK (A B : List (List Int)) (c : List Int) (hA : A.length ≤ 65535) (hc : c.length ≤ 65536) : lookH (0 :: wsK 0 (A ++ c :: B)) (plK 1 (A ++ c :: B)) ((1 + lnK A : Nat) : Int) = (2, (A.length : Int), (c.length : Int), 0) := by
  rw [look_in (plK_mem A B c 1), Int.toNat_natCast, wsK_head, head_open _ _ _ _ (head2 hA hc)]
theorem cellK (A B : List (List Int)) (c : List Int) (d : Nat) (hA : A.length ≤ 65535) (hc : c.length ≤ 65536) (hd : d < c.length) : cellH (0 :: wsK 0 (A ++ c :: B)) (plK 1 (A ++ c :: B)) ((1 + lnK A : Nat) : Int) (d : Int) = (((1 + lnK A + 1 + d : Nat) : Int), false, 0) := by
  unfold cellH
  rw [lookK A B c hA hc, if_neg (by simp), if_neg (by simp only; omega), Int.toNat_natCast, wsK_head, head_open _ _ _ _ (head2 hA hc)]
  simp only [refB]
  refine Prod.ext (by simp only; push_cast; omega) (Prod.ext ?_ rfl)
  simp
theorem getK (A B : List (List Int)) (c : List Int) (d : Nat) (hA : A.length ≤ 65535) (hc : c.length ≤ 65536) (hd : d < c.length) : getH (0 :: wsK 0 (A ++ c :: B)) (plK 1 (A ++ c :: B)) ((1 + lnK A : Nat) : Int) (d : Int) = (c[d], 0) := by
  unfold getH
  rw [cellK A B c d hA hc hd, if_neg (by simp), Int.toNat_natCast, wsK_cell A B c d hd]
theorem setK (A B : List (List Int)) (c : List Int) (d : Nat) (v : Int) (hA : A.length ≤ 65535) (hc : c.length ≤ 65536) (hd : d < c.length) : setH (0 :: wsK 0 (A ++ c :: B)) (plK 1 (A ++ c :: B)) ((1 + lnK A : Nat) : Int) (d : Int) v = (0, 0 :: wsK 0 (A ++ c.set d v :: B)) := by
  unfold setH
  rw [cellK A B c d hA hc hd, if_neg (by simp), if_neg (by simp), Int.toNat_natCast, wsK_set A B c d v hd]
theorem layK (bs : List (List Int)) (n : Nat) (hb : bs.length ≤ 65535) (hn : n ≤ 65535) (ht : lnK bs + 1 + n ≤ 65536) : layH (0 :: wsK 0 bs) (plK 1 bs) 65536 2 (bs.length : Int) (n : Int) 0 = (((1 + lnK bs : Nat) : Int), 0, 0 :: wsK 0 (bs ++ [List.replicate n 0]), plK 1 (bs ++ [List.replicate n 0])) := by
  have hlen : (0 :: wsK 0 bs).length = 1 + lnK bs := by simp [wsK_len]; omega
  unfold layH
  rw [if_neg (by omega), if_neg (by rw [hlen]; omega), if_neg (by rw [head2 hb (by omega)]; simp), hlen, wsK_app, plK_app, Int.toNat_natCast]
  simp [wsK, plK]
end Go.Proofs.YtchbidckckmobaaDoor

/- HeapKeeps: the heap, the places and the rows in memory. No condition beyond what each lemma names. -/
namespace Go.Proofs.YtchbidckckmobaaDoor
open Go.RowKit E
set_option linter.unusedVariables false
set_option linter.unusedSimpArgs false
set_option maxRecDepth 100000
attribute [local irreducible] ow qw kw kq cw opW Ret
def rowV (rs : List (Nat × List Int)) : List Value := rs.map fun x => .slice (some ⟨x.1, 0, none⟩) x.2.length x.2.length
theorem HP.keepS {k : Nat → Prop} {S : List Nat} {w w' : World} {hb : Nat} {ws : List Int} {lim : Int} {L : List Int} (h : HP k w hb ws lim L) (hK : Keep S w w') (hS : ∀ b ∈ S, ¬ k b) : HP k w' hb ws lim L := by
  obtain ⟨a, c, r, m, h1, h2, h3, h4, h5, h6, h7⟩ := h
  exact ⟨a, c, r, m, h1.keep hK (fun hm => hS _ hm h5), h2.keep hK (fun z hz hm => hS _ hm (h7 z hz)), h3.keep hK (fun hm => hS _ hm h6), h4, h5, h6, h7⟩
theorem HP.keepT {k : Nat → Prop} {E : TypeId} {sz m c : Nat} {pa : Option Addr} {xs : List Value} {w w' : World} {hb : Nat} {ws : List Int} {lim : Int} {L : List Int} (h : HP k w hb ws lim L) (hP : Sl w E sz pa m c xs) (hE : E ≠ 2 ∧ E ≠ 108) (hK : Keep (blkOf pa) w w') : HP k w' hb ws lim L := by
  obtain ⟨a, c, r, m, h1, h2, h3, h4, h5, h6, h7⟩ := h
  exact ⟨a, c, r, m, h1.keep hK (hP.notin h1 hE.2), h2.keep hK (h2.off2 hP (fun e => hE.1 e.symm)), h3.keep hK (sl_mp hP h3), h4, h5, h6, h7⟩
structure KS (w0 w : World) (hb : Nat) (bs : List (List Int)) (rs : List (Nat × List Int)) (pa : Option Addr) (pc : Nat) (ca : Option Addr) (cc : Nat) : Prop where
  own : ∃ kH : Nat → Prop, HP kH w hb (0 :: wsK 0 bs) 65536 (plK 1 bs) ∧ (∀ b, kH b → w0.heap.size ≤ b ∧ b < w.heap.size) ∧ ∀ x ∈ rs, ¬ kH x.1
  wf : WFH (0 :: wsK 0 bs) (plK 1 bs)
  pl : Sl w 3 1 pa rs.length pc ((plK 1 (rs.map Prod.snd)).map iv)
  ce : Sl w 22 1 ca rs.length cc (rowV rs)
  rows : ∀ x ∈ rs, Sl w 2 1 (some ⟨x.1, 0, none⟩) x.2.length x.2.length (x.2.map iv)
  nd : (rs.map Prod.fst).Nodup
  fr : ∀ x ∈ rs, w0.heap.size ≤ x.1
  pf : ∀ z, pa = some z → w0.heap.size ≤ z.block
  cf : ∀ z, ca = some z → w0.heap.size ≤ z.block
  K : Keep [] w0 w
section
variable {w0 w w' w'' : World} {hb : Nat} {bs bs' : List (List Int)} {rs : List (Nat × List Int)} {pa ca : Option Addr} {pc cc : Nat}
theorem KS.new (h : KS w0 w hb bs rs pa pc ca cc) (hK : Keep [] w w') : KS w0 w' hb bs rs pa pc ca cc := by
  obtain ⟨kH, h1, h2, h3⟩ := h.own
  exact ⟨⟨kH, h1.new hK, fun b hb => ⟨(h2 b hb).1, Nat.lt_of_lt_of_le (h2 b hb).2 hK.size⟩, h3⟩, h.wf, h.pl.new hK, h.ce.new hK, fun x hx => (h.rows x hx).new hK, h.nd, h.fr, h.pf, h.cf, h.K.tr hK⟩
theorem KS.lt (h : KS w0 w hb bs rs pa pc ca cc) : ∀ x ∈ rs, x.1 < w.heap.size := fun x hx => (h.rows x hx).lt _ rfl
theorem KS.turn (h : KS w0 w hb bs rs pa pc ca cc) : ∃ k : Nat → Prop, HP k w hb (0 :: wsK 0 bs) 65536 (plK 1 bs) ∧ (∀ b, w.heap.size ≤ b → k b) ∧ ∀ w' bs', HRes k w hb 65536 w' (0 :: wsK 0 bs') (plK 1 bs') → KS w0 w' hb bs' rs pa pc ca cc := by
  obtain ⟨kH, h1, h2, h3⟩ := h.own
  have hn : ∀ x ∈ rs, ¬ (kH x.1 ∨ w.heap.size ≤ x.1) := fun x hx hh => hh.elim (h3 x hx) (fun hh => by have := h.lt x hx; omega)
  refine ⟨fun b => kH b ∨ w.heap.size ≤ b, h1.wide (fun b hb => .inl hb), fun b hb => .inr hb, fun w' bs' hr => ?_⟩
  obtain ⟨r1, r2, r3, r4⟩ := hr
  obtain ⟨k2, a1, a2⟩ := r1.tight
  refine ⟨⟨k2, a2, fun b hb => ⟨?_, (a1 b hb).2⟩, fun x hx hh => hn x hx (a1 _ hh).1⟩, r2, h.pl.kh r4 (by decide), h.ce.kh r4 (by decide), fun x hx => ?_, h.nd, h.fr, h.pf, h.cf, r4.below h.K (fun b hb => hb.elim (fun hh => (h2 b hh).1) (fun hh => Nat.le_trans h.K.size hh))⟩
  · rcases (a1 b hb).1 with hh | hh
    · exact (h2 b hh).1
    · exact Nat.le_trans h.K.size hh
  · obtain ⟨S, s1, s2⟩ := r4
    exact (h.rows x hx).keep s1 (fun z hz hm => by cases hz; exact hn x hx (s2 _ hm).1)
/-- a cell of a row is set -/
theorem KS.cell {A B : List (Nat × List Int)} {g : Nat} {c c' : List Int} (h : KS w0 w hb bs (A ++ (g, c) :: B) pa pc ca cc) (hl : c'.length = c.length) (hK : Keep [g] w w') (hS : Sl w' 2 1 (some ⟨g, 0, none⟩) c.length c.length (c'.map iv)) : KS w0 w' hb bs (A ++ (g, c') :: B) pa pc ca cc := by
  obtain ⟨kH, h1, h2, h3⟩ := h.own
  have hgm : (g, c) ∈ A ++ (g, c) :: B := by simp
  have hrow := h.rows _ hgm
  obtain ⟨cur, hcur⟩ : ∃ cur, Blk w g cur 2 := by
    rcases hrow.2 with ⟨e, _⟩ | ⟨g', cur, e, hB, _⟩
    · cases e
    · cases e; exact ⟨cur, hB⟩
  have hnd := h.nd
  rw [List.map_append, List.map_cons, List.nodup_append] at hnd
  obtain ⟨_, hn2, hn3⟩ := hnd
  rw [List.nodup_cons] at hn2
  have hne : ∀ x, x ∈ A ∨ x ∈ B → x.1 ≠ g := fun x hx e => by
    rcases hx with hx | hx
    · exact hn3 x.1 (List.mem_map_of_mem hx) g (by simp) e
    · exact hn2.1 (List.mem_map.2 ⟨x, hx, e⟩)
  refine ⟨⟨kH, h1.keepS hK (fun b hb hk => ?_), fun b hb => ⟨(h2 b hb).1, Nat.lt_of_lt_of_le (h2 b hb).2 hK.size⟩, fun x hx => ?_⟩, h.wf, ?_, ?_, fun x hx => ?_, ?_, fun x hx => ?_, h.pf, h.cf, h.K.tr1 hK (h.fr _ hgm)⟩
  · rw [List.mem_singleton] at hb; subst hb; exact h3 _ hgm hk
  · rcases List.mem_append.1 hx with hx | hx
    · exact h3 x (by simp [hx])
    · rcases List.mem_cons.1 hx with rfl | hx
      · exact h3 (g, c) hgm
      · exact h3 x (by simp [hx])
  · have e : plK 1 ((A ++ (g, c') :: B).map Prod.snd) = plK 1 ((A ++ (g, c) :: B).map Prod.snd) := by
      rw [List.map_append, List.map_append, List.map_cons, List.map_cons]; exact plK_same hl 1
    rw [e, show (A ++ (g, c') :: B).length = (A ++ (g, c) :: B).length by simp]
    exact h.pl.keep hK (h.pl.off hcur (by decide))
  · have e : rowV (A ++ (g, c') :: B) = rowV (A ++ (g, c) :: B) := by simp [rowV, hl]
    rw [e, show (A ++ (g, c') :: B).length = (A ++ (g, c) :: B).length by simp]
    exact h.ce.keep hK (h.ce.off hcur (by decide))
  · have key : ∀ x, x ∈ A ∨ x ∈ B → Sl w' 2 1 (some ⟨x.1, 0, none⟩) x.2.length x.2.length (x.2.map iv) := fun x hx =>
      (h.rows x (by rcases hx with hx | hx <;> simp [hx])).keep hK (fun z hz hm => by cases hz; rw [List.mem_singleton] at hm; exact hne x hx hm)
    rcases List.mem_append.1 hx with hx | hx
    · exact key x (.inl hx)
    · rcases List.mem_cons.1 hx with rfl | hx
      · simp only [hl]; exact hS
      · exact key x (.inr hx)
  · have := h.nd
    rw [List.map_append, List.map_cons] at this ⊢
    exact this
  · rcases List.mem_append.1 hx with hx | hx
    · exact h.fr x (by simp [hx])
    · rcases List.mem_cons.1 hx with rfl | hx
      · exact h.fr (g, c) hgm
      · exact h.fr x (by simp [hx])
/-- one more row, one more place -/
theorem KS.grow {g : Nat} {c : List Int} {p2 a2 : Option Addr} {q2 c2 : Nat} (h : KS w0 w hb bs rs pa pc ca cc) (hK : Keep (blkOf pa) w w') (hK' : Keep (blkOf ca) w' w'') (hg : w.heap.size ≤ g)
    (hP : Sl w' 3 1 p2 (rs.length + 1) q2 ((plK 1 (rs.map Prod.snd)).map iv ++ [iv ((1 + lnK (rs.map Prod.snd) : Nat) : Int)])) (hp : ∀ z, p2 = some z → w0.heap.size ≤ z.block)
    (hR : Sl w' 2 1 (some ⟨g, 0, none⟩) c.length c.length (c.map iv)) (hC : Sl w'' 22 1 a2 (rs.length + 1) c2 (rowV rs ++ [.slice (some ⟨g, 0, none⟩) c.length c.length])) (ha : ∀ z, a2 = some z → w0.heap.size ≤ z.block) : KS w0 w'' hb bs (rs ++ [(g, c)]) p2 q2 a2 c2 := by
  obtain ⟨kH, h1, h2, h3⟩ := h.own
  have hce' : Sl w' 22 1 ca rs.length cc (rowV rs) := h.ce.keep hK (h.ce.off2 h.pl (by decide))
  have hsz := hK.size
  have hsz' := hK'.size
  refine ⟨⟨kH, (h1.keepT h.pl (by decide) hK).keepT hce' (by decide) hK', fun b hb => ⟨(h2 b hb).1, by have := (h2 b hb).2; omega⟩, fun x hx hk => ?_⟩, h.wf, ?_, ?_, fun x hx => ?_, ?_, fun x hx => ?_, hp, ha, (h.K.trb hK h.pf).trb hK' h.cf⟩
  · rcases List.mem_append.1 hx with hx | hx
    · exact h3 x hx hk
    · rw [List.mem_singleton.1 hx] at hk
      have h4 := (h2 _ hk).2
      simp only at h4
      omega
  · have e : (plK 1 ((rs ++ [(g, c)]).map Prod.snd)).map iv = (plK 1 (rs.map Prod.snd)).map iv ++ [iv ((1 + lnK (rs.map Prod.snd) : Nat) : Int)] := by
      rw [List.map_append, plK_app, List.map_append]; rfl
    rw [e, List.length_append]
    exact hP.keep hK' (hP.off2 hce' (by decide))
  · have e : rowV (rs ++ [(g, c)]) = rowV rs ++ [.slice (some ⟨g, 0, none⟩) c.length c.length] := by simp [rowV]
    rw [e, List.length_append]
    exact hC
  · rcases List.mem_append.1 hx with hx | hx
    · have h5 := (h.rows x hx).keep hK ((h.rows x hx).off2 h.pl (by decide))
      exact h5.keep hK' (h5.off2 hce' (by decide))
    · rw [List.mem_singleton.1 hx]
      exact hR.keep hK' (hR.off2 hce' (by decide))
  · rw [List.map_append, List.nodup_append]
    refine ⟨h.nd, by simp, fun a ha b hb e => ?_⟩
    simp at hb
    obtain ⟨x, hx, rfl⟩ := List.mem_map.1 ha
    have := h.lt x hx
    omega
  · rcases List.mem_append.1 hx with hx | hx
    · exact h.fr x hx
    · rw [List.mem_singleton.1 hx]
      exact Nat.le_trans h.K.size hg
end
theorem split_nth {α : Type} (l : List α) (j : Nat) (h : j < l.length) : ∃ A B, l = A ++ l[j] :: B ∧ A.length = j :=
  ⟨l.take j, l.drop (j + 1), by rw [← List.drop_eq_getElem_cons h, List.take_append_drop], by simp; omega⟩
end Go.Proofs.YtchbidckckmobaaDoor

/- HeapKeeps. No condition beyond what each contract names. -/
namespace Go.Proofs.YtchbidckckmobaaDoor
open Go.RowKit E
set_option linter.unusedVariables false
set_option linter.unusedSimpArgs false
set_option maxRecDepth 100000
attribute [local irreducible] ow qw kw kq cw opW Ret
def pairC (x : BitVec 16 × BitVec 16) : List Value := [u16v x.1, u16v x.2]
theorem layK2 (bs : List (List Int)) (i n : Nat) (hi : bs.length = i) (hb : i ≤ 65535) (hn : n ≤ 65535) (ht : lnK bs + 1 + n ≤ 65536) : layH (0 :: wsK 0 bs) (plK 1 bs) 65536 2 (i : Int) (n : Int) 0 = (((1 + lnK bs : Nat) : Int), 0, 0 :: wsK 0 (bs ++ [List.replicate n 0]), plK 1 (bs ++ [List.replicate n 0])) := by
  subst hi; exact layK bs n hb hn ht
theorem lnK_le : ∀ (rs : List (Nat × List Int)), (∀ x ∈ rs, x.2.length ≤ 39) → lnK (rs.map Prod.snd) ≤ 40 * rs.length
  | [], _ => by simp [lnK]
  | x :: rs, h => by
    have h1 := h x (by simp)
    have h2 := lnK_le rs (fun y hy => h y (by simp [hy]))
    simp only [List.map_cons, lnK, List.length_cons]
    omega
theorem inf48 : infB Tryd.prog 48 2 4 (.agg #[.int .u16 0, .int .u16 0]) := ⟨_, rfl, rfl, rfl, rfl⟩
theorem pair_one (x : BitVec 16 × BitVec 16) : ∀ u ∈ pairC x, u.oneCell' = true := by
  intro u hu
  simp only [pairC, List.mem_cons, List.not_mem_nil, or_false] at hu
  rcases hu with rfl | rfl <;> rfl
theorem pair_at {w : World} {a : Option Addr} {sts : List (BitVec 16 × BitVec 16)} (hR : Rd w a (sts.map pairC).flatten) {m : Nat} (hm : m < sts.length) : ∃ b o, a = some ⟨b, o, none⟩ ∧ ∀ j v, (pairC sts[m])[j]? = some v → w.cell? ⟨b, o + m * 2 + j, none⟩ = some v := by
  have hg : ∀ j v, (pairC sts[m])[j]? = some v → (sts.map pairC).flatten[m * 2 + j]? = some v := fun j v hv =>
    flatten_get (sz := 2) (sts.map pairC) (fun cs hcs => by obtain ⟨x, _, rfl⟩ := List.mem_map.1 hcs; rfl) m j (pairC sts[m]) v (by rw [List.getElem?_map, List.getElem?_eq_getElem hm]; rfl) hv
  obtain ⟨b, o, ha, _⟩ := hR _ _ (hg 0 _ rfl)
  refine ⟨b, o, ha, fun j v hv => ?_⟩
  obtain ⟨b', o', ha', hc⟩ := hR _ _ (hg j v hv)
  rw [ha] at ha'
  cases ha'
  rw [Nat.add_assoc]
  exact hc
theorem blkOf_some {a : Option Addr} {b : Nat} : b ∈ blkOf a ↔ ∃ z, a = some z ∧ z.block = b := by
  cases a with
  | none => simp [blkOf]
  | some z => simp [blkOf, eq_comm]
theorem i64_rng (x : Int) : -9223372036854775808 ≤ IntKind.i64.wrap x ∧ IntKind.i64.wrap x ≤ 9223372036854775807 := by
  unfold IntKind.wrap
  simp only [IntKind.signed, IntKind.bits, show (2 : Int) ^ 64 = 18446744073709551616 by decide, show (2 : Int) ^ (64 - 1) = 9223372036854775808 by decide, Bool.true_and, decide_eq_true_eq, ge_iff_le]
  by_cases h : 9223372036854775808 ≤ x % 18446744073709551616
  · rw [if_pos h]; omega
  · rw [if_neg h]; omega
theorem rowV_at (A B : List (Nat × List Int)) (g : Nat) (cs : List Int) : (rowV (A ++ (g, cs) :: B))[A.length]? = some (.slice (some ⟨g, 0, none⟩) cs.length cs.length) := by
  unfold rowV
  rw [List.map_append, List.getElem?_append_right (by simp)]
  simp
theorem place_at (A B : List (Nat × List Int)) (g : Nat) (cs : List Int) : ((plK 1 ((A ++ (g, cs) :: B).map Prod.snd)).map iv)[A.length]? = some (iv ((1 + lnK (A.map Prod.snd) : Nat) : Int)) := by
  have h := plK_at (A.map Prod.snd) (B.map Prod.snd) cs 1
  rw [List.length_map] at h
  rw [List.map_append, List.map_cons, List.getElem?_map, h]
  rfl
theorem nth_split {α : Type} (l : List α) (j : Nat) (h : j < l.length) : ∃ A y B, l = A ++ y :: B ∧ A.length = j := by
  obtain ⟨A, B, h1, h2⟩ := split_nth l j h
  exact ⟨A, _, B, h1, h2⟩
set_option maxHeartbeats 2000000 in
theorem hkeeps_ok (wS : World) (a : Option Addr) (c : Nat) (sz : List (BitVec 8)) (sa : Option Addr) (sc : Nat) (sts : List (BitVec 16 × BitVec 16)) (hR : Rd wS a (sz.map u8v)) (hl : sz.length ≤ 9223372036854775807) (hR1 : Rd wS sa (sts.map pairC).flatten) (hl1 : sts.length ≤ 9223372036854775807) (ht : TabTz wS) :
    Ret Tryd.prog 7 [.slice a sz.length c, .slice sa sts.length sc] wS (fun v w' => v = .bool true ∧ Keep [] wS w') := by
  refine fn_enter (n := 186) Tryd.func7 rfl rfl (Nat.le_of_ble_eq_true rfl) (fun e => ?_)
  refine k_seq ?_
  refine k_region ?_
  refine m_bool rfl rfl ?_
  refine o_nil ?_
  refine k_seq ?_
  refine k_seq ?_
  refine k_region ?_
  refine o_call rfl rfl (fixed21_ok wS ht) (fun v w1 hv => ?_)
  obtain ⟨rfl, hK1⟩ := hv
  refine u_notb rfl ?_
  refine o_nil ?_
  refine k_condf rfl ?_
  refine k_skip ?_
  refine k_seq ?_
  refine k_region ?_
  refine o_call rfl rfl (hnew_ok w1 65536) (fun v w2 hv => ?_)
  obtain ⟨hK2, hv⟩ := hv
  rw [if_pos (by decide)] at hv
  obtain ⟨hb, rfl, hH2⟩ := hv
  obtain ⟨k3, hk3, hH3⟩ := hH2.tight
  have hKS0 : KS wS w2 hb [] [] none 0 none 0 := ⟨⟨k3, hH3, fun b hb => ⟨Nat.le_trans hK1.size (hk3 b hb).1, (hk3 b hb).2⟩, by simp⟩, WFH.one, Sl.nil _ _ _, Sl.nil _ _ _, by simp, by simp, by simp, by simp, by simp, hK1.tr hK2⟩
  refine m_any rfl rfl ?_
  refine o_extr rfl rfl ?_
  refine o_extr rfl rfl ?_
  refine m_ptr rfl rfl ?_
  refine m_int rfl rfl ?_
  refine o_nil ?_
  refine k_seq ?_
  refine k_seq ?_
  refine k_region ?_
  refine m_int rfl rfl ?_
  refine b_neq rfl rfl ?_
  refine m_bool rfl rfl ?_
  refine o_false (t := 35) rfl ((fun h' => h' rfl)) ?_
  refine g_yes rfl rfl ?_
  refine m_ptr rfl rfl ?_
  refine g_yes rfl rfl ?_
  refine b_eqlp Tryd.underlying41 rfl rfl ?_
  refine pick_f rfl rfl ?_
  refine o_nil ?_
  refine k_no rfl ((by intro h; cases h)) ?_
  refine k_skip ?_
  refine k_seq ?_
  refine k_region ?_
  refine m_sl rfl rfl ?_
  refine o_nil ?_
  refine k_seq ?_
  refine k_region ?_
  refine m_sl rfl rfl ?_
  refine o_nil ?_
  refine k_seq ?_
  refine k_seq ?_
  refine k_region ?_
  refine m_sl rfl rfl ?_
  refine o_lens Tryd.underlying34 rfl ?_
  refine m_int rfl rfl ?_
  refine o_nil ?_
  refine k_cut (σ := List (Nat × List Int) × Option Addr × Nat × Option Addr × Nat) (fun s => [(1, .slice sa sts.length sc), (5, .pointer (some ⟨hb, 0, none⟩)), (7, .slice s.2.1 s.1.length s.2.2.1), (8, .slice s.2.2.2.1 s.1.length s.2.2.2.2)]) (fun s w' => KS wS w' hb (s.1.map Prod.snd) s.1 s.2.1 s.2.2.1 s.2.2.2.1 s.2.2.2.2 ∧ s.1.length ≤ 40 ∧ ∀ x ∈ s.1, x.2.length ≤ 39) ?_ (fun s e w9 hJ => ?_)
  ·
    refine k_block ?_
    refine k_loop (σ := List (Nat × List Int) × Option Addr × Nat × Option Addr × Nat) (fun s => [(1, .slice sa sts.length sc), (5, .pointer (some ⟨hb, 0, none⟩)), (7, .slice s.2.1 s.1.length s.2.2.1), (8, .slice s.2.2.2.1 s.1.length s.2.2.2.2), (39, .slice a sz.length c), (40, .int .i64 (sz.length : Int)), (41, .int .i64 (s.1.length : Int))]) (fun s w' => KS wS w' hb (s.1.map Prod.snd) s.1 s.2.1 s.2.2.1 s.2.2.2.1 s.2.2.2.2 ∧ s.1.length ≤ 40 ∧ (∀ x ∈ s.1, x.2.length ≤ 39) ∧ s.1.length ≤ sz.length) (fun s => sz.length - s.1.length) ([], none, 0, none, 0) ⟨rfl, rfl, rfl, rfl, rfl, rfl, rfl, trivial⟩ ⟨hKS0, by simp, by simp, by simp⟩ (fun s e w3 hJ => ?_)
    obtain ⟨rs, pa, pq, ca, cq⟩ := s
    obtain ⟨hKS, h40, h39, hsz⟩ := hJ
    dsimp only at hKS h40 h39 hsz ⊢
    refine k_seq ?_
    refine k_region ?_
    refine b_lss rfl rfl ?_
    refine o_nil ?_
    refine k_seq ?_
    refine k_cond rfl (fun h => ?_) (fun h => ?_)
    rotate_left
    ·
      refine k_exit rfl ?_
      refine k_goal ⟨(rs, pa, pq, ca, cq), ⟨rfl, rfl, rfl, rfl, trivial⟩, hKS, h40, h39⟩
    have hin : rs.length < sz.length := by omega
    have hc0 : (sz.map u8v)[rs.length]? = some (u8v sz[rs.length]) := by simp [hin]
    obtain ⟨bz, oz, hae, hcell⟩ := (hR.new hKS.K) _ _ hc0
    subst hae
    refine k_skip ?_
    refine k_seq ?_
    refine k_block ?_
    refine k_seq ?_
    refine k_region ?_
    refine m_int rfl rfl ?_
    refine o_ixs1 (m := rs.length) Tryd.underlying34 rfl rfl rfl hin ?_
    refine o_ld (v := u8v sz[rs.length]) rfl rfl hcell ?_
    refine m_int rfl rfl ?_
    refine m_int rfl rfl ?_
    refine o_nil ?_
    refine k_seq ?_
    refine k_seq ?_
    refine k_region ?_
    refine m_int rfl rfl ?_
    refine b_geq rfl rfl ?_
    refine o_nil ?_
    refine k_cond rfl (fun h => ?_) (fun h => ?_)
    ·
      refine k_exit rfl ?_
      refine k_goal ⟨(rs, pa, pq, ca, cq), ⟨rfl, rfl, rfl, rfl, trivial⟩, hKS, h40, h39⟩
    have h40' : rs.length < 40 := by omega
    obtain ⟨n, hn⟩ : ∃ n, (sz[rs.length] % 40#8).toNat = n := ⟨_, rfl⟩
    have hn40 : n < 40 := by rw [← hn, BitVec.toNat_umod]; exact Nat.mod_lt _ (by decide)
    obtain ⟨k, hHP, hkw, hturn⟩ := hKS.turn
    have hln := lnK_le rs h39
    have hwl := hKS.wf.len
    refine k_skip ?_
    refine k_seq ?_
    refine k_region ?_
    refine m_ptr rfl rfl ?_
    refine m_int rfl rfl ?_
    refine m_int rfl rfl ?_
    refine v8_rem (b := 40#8) rfl rfl (by decide) ?_
    refine cv8_i rfl Tryd.underlying3 rfl ?_
    rw [hn]
    refine o_call rfl rfl (harray_ok k w3 hb _ 65536 _ (rs.length : Int) (n : Int) false hHP hKS.wf (by decide) (by omega) hkw (by omega) (by omega)) (fun v w5 hv => ?_)
    rw [if_neg (by decide), layK2 (rs.map Prod.snd) rs.length n (by simp) (by omega) (by omega) (by omega)] at hv
    obtain ⟨rfl, hr⟩ := hv
    have hKS5 := hturn w5 (rs.map Prod.snd ++ [List.replicate n 0]) hr
    have hge : ∀ g, w5.heap.size ≤ g → g ∉ blkOf pa := fun g hg hm => by obtain ⟨z, hz, hze⟩ := blkOf_some.1 hm; have := hKS5.pl.lt z hz; omega
    dsimp only
    refine m_any rfl rfl ?_
    refine o_extr rfl rfl ?_
    refine o_extr rfl rfl ?_
    refine m_int rfl rfl ?_
    refine m_int rfl rfl ?_
    refine o_nil ?_
    refine k_seq ?_
    refine k_seq ?_
    refine k_region ?_
    refine m_int rfl rfl ?_
    refine b_neq rfl rfl ?_
    refine o_nil ?_
    refine k_no rfl ((fun h' => h' rfl)) ?_
    refine k_skip ?_
    refine k_anyE 10 (Keep (blkOf pa)) (fun iA => match iA with
        | 0 => fun v w => v = .slice pa rs.length pq
        | 1 => fun v w => v = .int .i64 ((1 + lnK (rs.map Prod.snd) : Nat) : Int)
        | 2 => fun v w => ∃ g, v = .slice (some ⟨g, 0, none⟩) 1 1 ∧ Blk w g #[iv ((1 + lnK (rs.map Prod.snd) : Nat) : Int)] 3 ∧ w5.heap.size ≤ g
        | 3 => fun v w => True
        | 4 => fun v w => v = .slice ca rs.length cq
        | 5 => fun v w => v = .int .u8 (sz[rs.length].toNat : Int)
        | 6 => fun v w => v = .int .u8 ((sz[rs.length] % 40#8).toNat : Int)
        | 7 => fun v w => v = .int .i64 (n : Int)
        | 8 => fun v w => ∃ g, v = .slice (some ⟨g, 0, none⟩) n n ∧ Sl w 2 1 (some ⟨g, 0, none⟩) n n ((List.replicate n (0 : Int)).map iv) ∧ w5.heap.size ≤ g
        | 9 => fun v w => ∃ g g9, v = .slice (some ⟨g9, 0, none⟩) 1 1 ∧ Blk w g9 #[.slice (some ⟨g, 0, none⟩) n n] 22 ∧ Sl w 2 1 (some ⟨g, 0, none⟩) n n ((List.replicate n (0 : Int)).map iv) ∧ w5.heap.size ≤ g ∧ w5.heap.size ≤ g9
        | _ => fun v w => True) (fun D e w' => (D 3 = false → Sl w' 3 1 pa rs.length pq ((plK 1 (rs.map Prod.snd)).map iv)) ∧ (D 3 = true → ∃ a2 c2, e 62 = .slice a2 (rs.length + 1) c2 ∧ Sl w' 3 1 a2 (rs.length + 1) c2 ((plK 1 (rs.map Prod.snd)).map iv ++ [iv ((1 + lnK (rs.map Prod.snd) : Nat) : Int)]) ∧ ∀ z, a2 = some z → wS.heap.size ≤ z.block) ∧ w5.heap.size ≤ w'.heap.size) rfl rfl rfl rfl (Keep.refl _) (fun _ _ _ h1 h2 => h1.trans h2 (fun _ h _ => h)) ?_ (⟨fun _ => hKS5.pl.new ((Keep.refl [] w5).drew), (fun h => by cases h), Nat.le_refl _⟩) ?_ ?_
    · intro iA v w w' h hL
      match iA, h with
      | 0, h =>
        exact h
      | 1, h =>
        exact h
      | 2, h =>
        obtain ⟨g, h1, h2, h3⟩ := h
        exact ⟨g, h1, h2.keep hL (hge g h3), h3⟩
      | 3, h =>
        exact h
      | 4, h =>
        exact h
      | 5, h =>
        exact h
      | 6, h =>
        exact h
      | 7, h =>
        exact h
      | 8, h =>
        obtain ⟨g, h1, h2, h3⟩ := h
        exact ⟨g, h1, h2.keep hL (fun z hz => by cases hz; exact hge g h3), h3⟩
      | 9, h =>
        obtain ⟨g, g9, h1, h2, h3, h4, h5⟩ := h
        exact ⟨g, g9, h1, h2.keep hL (hge g9 h5), h3.keep hL (fun z hz => by cases hz; exact hge g h4), h4, h5⟩
      | _ + 10, h => trivial
    · intro iA o him hl D eA wA hDi hdp hSh hG hL hA hD
      match iA, him, hl with
      | 0, _, hl =>
        obtain rfl := Option.some.inj hl
        refine o_gen [(7, _)] ⟨hA 7 (free_of rfl), trivial⟩ (fun e2 => ?_)
        refine m_sl rfl rfl ?_
        refine o_nil ⟨(Keep.refl _) _, rfl, hG⟩
      | 1, _, hl =>
        obtain rfl := Option.some.inj hl
        refine o_gen [(11, _)] ⟨hA 11 (free_of rfl), trivial⟩ (fun e2 => ?_)
        refine m_int rfl rfl ?_
        refine o_nil ⟨(Keep.refl _) _, rfl, hG⟩
      | 2, _, hl =>
        obtain rfl := Option.some.inj hl
        refine o_gen [(60, _)] ⟨hD 1 (by decide) 60 rfl, trivial⟩ (fun e2 => ?_)
        refine o_bsl (E := 3) (cs := #[iv ((1 + lnK (rs.map Prod.snd) : Nat) : Int)]) rfl (fun _ => by kernel_rfl) (fun g w8 hB8 hK8 hb8 hZ8 => ?_)
        refine o_nil ⟨hK8.also, ⟨g, rfl, hB8, by have := hG.2.2; omega⟩, fun h => (hG.1 h).new hK8, fun h => ?_, Nat.le_trans hG.2.2 hK8.size⟩
        obtain ⟨a2, c2, h1, h2, h3⟩ := hG.2.1 h
        exact ⟨a2, c2, h1, h2.new hK8, h3⟩
      | 3, _, hl =>
        obtain rfl := Option.some.inj hl
        obtain ⟨g6, hg1, hg2, hg3⟩ := hD 2 (by decide) 61 rfl
        refine o_gen [(59, .slice pa rs.length pq), (61, .slice (some ⟨g6, 0, none⟩) 1 1)] ⟨hD 0 (by decide) 59 rfl, hg1, trivial⟩ (fun e2 => ?_)
        have hOA := hG.1 hDi
        refine o_app Tryd.underlying23 inf3 rfl (by decide) rfl rfl hOA hg2.rd rfl (by simp [iv, Value.oneCell']) (by simp [maxLen]; omega) (by omega) (fun a8 c8 w8 hS8 hK8 hv8 => ?_)
        refine o_nil ⟨hK8, trivial, (fun h => by cases h), fun _ => ⟨a8, c8, rfl, hS8, own_app (k := fun b => wS.heap.size ≤ b) (w := wA) (w' := w8) (a := pa) (a2 := a8) hKS5.pf (fun b hb => Nat.le_trans hKS5.K.size (Nat.le_trans hG.2.2 hb)) hv8⟩, Nat.le_trans hG.2.2 hK8.size⟩
      | 4, _, hl =>
        obtain rfl := Option.some.inj hl
        refine o_gen [(8, _)] ⟨hA 8 (free_of rfl), trivial⟩ (fun e2 => ?_)
        refine m_sl rfl rfl ?_
        refine o_nil ⟨(Keep.refl _) _, rfl, hG⟩
      | 5, _, hl =>
        obtain rfl := Option.some.inj hl
        refine o_gen [(10, _)] ⟨hA 10 (free_of rfl), trivial⟩ (fun e2 => ?_)
        refine m_int rfl rfl ?_
        refine o_nil ⟨(Keep.refl _) _, rfl, hG⟩
      | 6, _, hl =>
        obtain rfl := Option.some.inj hl
        refine o_gen [(64, _)] ⟨hD 5 (by decide) 64 rfl, trivial⟩ (fun e2 => ?_)
        refine v8_rem (b := 40#8) rfl rfl (by decide) ?_
        refine o_nil ⟨(Keep.refl _) _, rfl, hG⟩
      | 7, _, hl =>
        obtain rfl := Option.some.inj hl
        refine o_gen [(65, _)] ⟨hD 6 (by decide) 65 rfl, trivial⟩ (fun e2 => ?_)
        refine cv8_i rfl Tryd.underlying3 rfl ?_
        rw [hn]
        refine o_nil ⟨(Keep.refl _) _, rfl, hG⟩
      | 8, _, hl =>
        obtain rfl := Option.some.inj hl
        refine o_gen [(66, _)] ⟨hD 7 (by decide) 66 rfl, trivial⟩ (fun e2 => ?_)
        refine o_make (m := n) Tryd.underlying22 inf2 rfl rfl (by simp [maxLen]; omega) (by omega) (fun g w8 hS8 hK8 hb8 hZ8 => ?_)
        rw [made_int] at hS8
        refine o_nil ⟨hK8.also, ⟨g, rfl, hS8, by have := hG.2.2; omega⟩, fun h => (hG.1 h).new hK8, fun h => ?_, Nat.le_trans hG.2.2 hK8.size⟩
        obtain ⟨a2, c2, h1, h2, h3⟩ := hG.2.1 h
        exact ⟨a2, c2, h1, h2.new hK8, h3⟩
      | 9, _, hl =>
        obtain rfl := Option.some.inj hl
        obtain ⟨g7, hg1, hg2, hg3⟩ := hD 8 (by decide) 67 rfl
        refine o_gen [(67, .slice (some ⟨g7, 0, none⟩) n n)] ⟨hg1, trivial⟩ (fun e2 => ?_)
        refine o_bsl (E := 22) (cs := #[.slice (some ⟨g7, 0, none⟩) n n]) rfl (fun _ => by kernel_rfl) (fun g w8 hB8 hK8 hb8 hZ8 => ?_)
        refine o_nil ⟨hK8.also, ⟨g7, g, rfl, hB8, hg2.new hK8, hg3, by have := hG.2.2; omega⟩, fun h => (hG.1 h).new hK8, fun h => ?_, Nat.le_trans hG.2.2 hK8.size⟩
        obtain ⟨a2, c2, h1, h2, h3⟩ := hG.2.1 h
        exact ⟨a2, c2, h1, h2.new hK8, h3⟩
      | _ + 10, him, _ => exact absurd him (by omega)
    intro D eA wA hAll hG hL hA hV
    obtain ⟨a8, c8, e8, hS8, hf8⟩ := hG.2.1 (hAll 3 (by decide) (by decide))
    obtain ⟨g, g9, hg1, hg2, hg3, hg4, hg5⟩ := hV 9 (by decide) 68 rfl
    have hKg : Keep (blkOf pa) w5 wA := (((Keep.refl [] w5).drew).also).trans hL (fun _ h _ => h)
    have hCE : Sl wA 22 1 ca rs.length cq (rowV rs) := hKS5.ce.keep hKg (hKS5.ce.off2 hKS5.pl (by decide))
    refine o_gen [(1, .slice sa sts.length sc), (5, .pointer (some ⟨hb, 0, none⟩)), (39, .slice (some ⟨bz, oz, none⟩) sz.length c), (40, .int .i64 (sz.length : Int)), (41, .int .i64 (rs.length : Int)), (62, .slice a8 (rs.length + 1) c8), (63, .slice ca rs.length cq), (68, .slice (some ⟨g9, 0, none⟩) 1 1)] ⟨hA 1 (free_of rfl), hA 5 (free_of rfl), hA 39 (free_of rfl), hA 40 (free_of rfl), hA 41 (free_of rfl), e8, hV 4 (by decide) 63 rfl, hg1, trivial⟩ (fun e => ?_)
    change ow _ _ _ _ [_, _, _] _ _
    refine o_app Tryd.underlying44 inf22 rfl (by decide) rfl rfl hCE hg2.rd rfl (by simp [Value.oneCell']) (by simp [maxLen]; omega) (by omega) (fun a10 c10 w10 hS10 hK10 hv10 => ?_)
    have hf10 := own_app (k := fun b => wS.heap.size ≤ b) (w := wA) (w' := w10) (a := ca) (a2 := a10) hKS5.cf (fun b hb => Nat.le_trans hKS5.K.size (Nat.le_trans hG.2.2 hb)) hv10
    have hKS10 := hKS5.grow (c := List.replicate n 0) hKg hK10 hg4 hS8 hf8 (by rw [List.length_replicate]; exact hg3) (by rw [List.length_replicate]; exact hS10) hf10
    have hmp : rs.map Prod.snd ++ [List.replicate n (0 : Int)] = (rs ++ [(g, List.replicate n (0 : Int))]).map Prod.snd := by simp
    rw [hmp] at hKS10
    refine m_sl rfl rfl ?_
    refine m_sl rfl rfl ?_
    refine o_nil ?_
    refine k_blk ?_
    refine k_region ?_
    refine n_add rfl rfl (by omega) ?_
    refine m_int rfl rfl ?_
    refine o_nil ?_
    refine k_goal ⟨(rs ++ [(g, List.replicate n 0)], a8, c8, a10, c10), ⟨rfl, rfl, by rw [List.length_append]; rfl, by rw [List.length_append]; rfl, rfl, rfl, by rw [List.length_append]; rfl, trivial⟩, ⟨hKS10, by simp; omega, fun x hx => ?_, by simp; omega⟩, by simp; omega⟩
    rcases List.mem_append.1 hx with hx | hx
    · exact h39 x hx
    · rw [List.mem_singleton.1 hx]; simp; omega
  obtain ⟨rs, pa, pq, ca, cq⟩ := s
  obtain ⟨hKS, h40, h39⟩ := hJ
  dsimp only at hKS h40 h39 ⊢
  refine k_seq ?_
  refine k_seq ?_
  refine k_region ?_
  refine m_sl rfl rfl ?_
  refine o_lens Tryd.underlying40 rfl ?_
  refine m_int rfl rfl ?_
  refine o_nil ?_
  refine k_cut (σ := List (Nat × List Int)) (fun s => [(5, .pointer (some ⟨hb, 0, none⟩)), (7, .slice pa s.length pq), (8, .slice ca s.length cq)]) (fun s w' => KS wS w' hb (s.map Prod.snd) s pa pq ca cq ∧ s.length ≤ 40 ∧ ∀ x ∈ s, x.2.length ≤ 39) ?_ (fun s e w10 hJ => ?_)
  ·
    refine k_block ?_
    refine k_loop (σ := Nat × List (Nat × List Int)) (fun s => [(5, .pointer (some ⟨hb, 0, none⟩)), (7, .slice pa s.2.length pq), (8, .slice ca s.2.length cq), (71, .slice sa sts.length sc), (72, .int .i64 (sts.length : Int)), (73, .int .i64 (s.1 : Int))]) (fun s w' => s.1 ≤ sts.length ∧ KS wS w' hb (s.2.map Prod.snd) s.2 pa pq ca cq ∧ s.2.length ≤ 40 ∧ ∀ x ∈ s.2, x.2.length ≤ 39) (fun s => sts.length - s.1) (0, rs) ⟨rfl, rfl, rfl, rfl, rfl, rfl, trivial⟩ ⟨Nat.zero_le _, hKS, h40, h39⟩ (fun s e w5 hJ => ?_)
    clear hKS h40 h39
    obtain ⟨i, rs⟩ := s
    obtain ⟨hi, hKS, h40, h39⟩ := hJ
    dsimp only at hi hKS h40 h39 ⊢
    refine k_seq ?_
    refine k_region ?_
    refine b_lss rfl rfl ?_
    refine o_nil ?_
    refine k_seq ?_
    refine k_cond rfl (fun h => ?_) (fun h => ?_)
    rotate_left
    ·
      refine k_exit rfl ?_
      refine k_goal ⟨rs, ⟨rfl, rfl, rfl, trivial⟩, hKS, h40, h39⟩
    have hin : i < sts.length := by omega
    obtain ⟨x, hx⟩ : ∃ x, sts[i] = x := ⟨_, rfl⟩
    obtain ⟨b1, o1, hae, hcell⟩ := pair_at (hR1.new hKS.K) hin
    rw [hx] at hcell
    subst hae
    refine k_skip ?_
    refine k_seq ?_
    refine k_block ?_
    refine k_seq ?_
    refine k_region ?_
    refine m_int rfl rfl ?_
    refine o_ixs (m := i) (sz := 2) Tryd.underlying40 rfl rfl rfl hin ?_
    refine o_lda (xs := pairC x) rfl rfl rfl hcell ?_
    refine o_alloc inf48 rfl (fun b6 w6 hB6 hK6 hb6 hZ6 => ?_)
    refine m_int rfl rfl ?_
    refine o_sta (xs := pairC x) rfl rfl rfl (pair_one x) hB6 (Nat.le_refl 2) (fun w7 hB7 hK7 hZ7 => ?_)
    have hB : Blk w7 b6 (pairC x).toArray 48 := hB7
    have hKS7 := hKS.new (hK6.tr1 hK7 (by omega))
    refine o_nil ?_
    refine k_seq ?_
    refine k_seq ?_
    refine k_region ?_
    refine m_int rfl rfl ?_
    refine b_geq rfl rfl ?_
    refine m_bool rfl rfl ?_
    refine o_split (t := 80) rfl (fun h => ?_) (fun h => ?_)
    ·
      refine g_no rfl rfl rfl ?_
      refine g_no rfl rfl rfl ?_
      refine g_no rfl rfl rfl ?_
      refine pick_t rfl rfl ?_
      refine o_nil ?_
      refine k_condt rfl ?_
      refine k_exit rfl ?_
      refine k_goal ⟨rs, ⟨rfl, rfl, rfl, trivial⟩, hKS7, h40, h39⟩
    ·
      refine g_yes rfl rfl ?_
      refine m_sl rfl rfl ?_
      refine g_yes rfl rfl ?_
      refine o_lens Tryd.underlying23 rfl ?_
      refine g_yes rfl rfl ?_
      refine b_eql rfl rfl ?_
      refine pick_f rfl rfl ?_
      refine o_nil ?_
      refine k_cond rfl (fun h => ?_) (fun h => ?_)
      ·
        refine k_exit rfl ?_
        refine k_goal ⟨rs, ⟨rfl, rfl, rfl, trivial⟩, hKS7, h40, h39⟩
      have hpos : 0 < rs.length := by
        have h' : ¬ ((rs.length : Int) = 0) := h
        omega
      obtain ⟨k, hk0⟩ : ∃ k, k = x.1.toNat % rs.length := ⟨_, rfl⟩
      have hk : k < rs.length := by rw [hk0]; exact Nat.mod_lt _ hpos
      refine k_skip ?_
      refine k_seq ?_
      refine k_region ?_
      refine o_ixa1 (m := 0) Tryd.underlying48 rfl rfl rfl (by decide) ?_
      refine o_ld (v := u16v x.1) rfl rfl (hB.at rfl) ?_
      refine cv16_i rfl Tryd.underlying3 rfl ?_
      refine m_sl rfl rfl ?_
      refine o_lens Tryd.underlying23 rfl ?_
      refine b_rem rfl rfl (by omega) ?_
      rw [show ((x.1.toNat : Int)).tmod (rs.length : Int) = (k : Int) by rw [hk0, Int.tmod_eq_emod_of_nonneg (by omega)]; push_cast; rfl]
      obtain ⟨A, y, B, hrs, hAl⟩ := nth_split rs k hk
      obtain ⟨g, cs⟩ := y
      clear hk0
      subst hrs hAl
      have hcs39 : cs.length ≤ 39 := h39 (g, cs) (by simp)
      have hAl40 : A.length ≤ 40 := by simp at h40; omega
      obtain ⟨bc, oc, hae, hcc⟩ := hKS7.ce.rd _ _ (rowV_at A B g cs)
      subst hae
      have hkl : A.length < (A ++ (g, cs) :: B).length := by simp
      refine m_int rfl rfl ?_
      refine o_nil ?_
      refine k_seq ?_
      refine k_seq ?_
      refine k_region ?_
      refine m_sl rfl rfl ?_
      refine m_int rfl rfl ?_
      refine o_ixs1 (m := A.length) Tryd.underlying44 rfl rfl rfl hkl ?_
      refine o_ld (v := .slice (some ⟨g, 0, none⟩) cs.length cs.length) rfl rfl hcc ?_
      refine o_lens Tryd.underlying22 rfl ?_
      refine b_eql rfl rfl ?_
      refine o_nil ?_
      refine k_cond rfl (fun h => ?_) (fun h => ?_)
      ·
        refine k_exit rfl ?_
        refine k_region ?_
        refine n_add rfl rfl (by omega) ?_
        refine m_int rfl rfl ?_
        refine o_nil ?_
        refine k_goal ⟨(i + 1, A ++ (g, cs) :: B), ⟨rfl, rfl, rfl, rfl, rfl, rfl, trivial⟩, ⟨hin, hKS7, h40, h39⟩, by dsimp only; omega⟩
      have hcp : 0 < cs.length := by
        have h' : ¬ ((cs.length : Int) = 0) := h
        omega
      obtain ⟨d, hd0⟩ : ∃ d, d = x.2.toNat % cs.length := ⟨_, rfl⟩
      have hd : d < cs.length := by rw [hd0]; exact Nat.mod_lt _ hcp
      obtain ⟨v, hv⟩ : ∃ v, IntKind.i64.wrap ((i : Int) * 2 ^ min 40 IntKind.i64.bits) = v := ⟨_, rfl⟩
      have hvr : -9223372036854775808 ≤ v ∧ v ≤ 9223372036854775807 := by rw [← hv]; exact i64_rng _
      refine k_skip ?_
      refine k_seq ?_
      refine k_qk 8 rfl rfl rfl rfl rfl ?_
      refine q_step (fun w1 hC => o_ixa1 (m := 1) Tryd.underlying48 rfl rfl rfl (by decide) (o_nil ⟨rfl, hC⟩)) ?_
      refine q_step (fun w1 hC => o_ld (v := u16v x.2) rfl rfl (hB.kat hC rfl) (o_nil ⟨rfl, hC⟩)) ?_
      refine q_step (fun w1 hC => cv16_i rfl Tryd.underlying3 rfl (o_nil ⟨rfl, hC⟩)) ?_
      refine q_step (fun w1 hC => m_sl rfl rfl (o_nil ⟨rfl, hC⟩)) ?_
      refine q_step (fun w1 hC => m_int rfl rfl (o_nil ⟨rfl, hC⟩)) ?_
      refine q_step (fun w1 hC => o_ixs1 (m := A.length) Tryd.underlying44 rfl rfl rfl hkl (o_nil ⟨rfl, hC⟩)) ?_
      refine q_step (fun w1 hC => o_ld (v := .slice (some ⟨g, 0, none⟩) cs.length cs.length) rfl rfl (hKS7.ce.rd.cellK hC (rowV_at A B g cs)) (o_nil ⟨rfl, hC⟩)) ?_
      refine q_step (fun w1 hC => o_lens Tryd.underlying22 rfl (o_nil ⟨rfl, hC⟩)) ?_
      refine q_nil ?_
      intro w8 hC8
      have hKS8 := hKS7.new hC8
      have hcc8 := hKS8.ce.rd.cellK (Keep.refl _ _) (rowV_at A B g cs)
      have hrow8 : Sl w8 2 1 (some ⟨g, 0, none⟩) cs.length cs.length (cs.map iv) := hKS8.rows (g, cs) (by simp)
      obtain ⟨g', cur, hge, hBg, hgs⟩ := hrow8.blk hcp
      cases hge
      refine b_rem rfl rfl (by omega) ?_
      rw [show ((x.2.toNat : Int)).tmod (cs.length : Int) = (d : Int) by rw [hd0, Int.tmod_eq_emod_of_nonneg (by omega)]; push_cast; rfl]
      refine m_int rfl rfl ?_
      refine o_nil ?_
      refine k_seq ?_
      refine k_region ?_
      refine m_sl rfl rfl ?_
      refine m_int rfl rfl ?_
      refine o_ixs1 (m := A.length) Tryd.underlying44 rfl rfl rfl hkl ?_
      refine o_ld (v := .slice (some ⟨g, 0, none⟩) cs.length cs.length) rfl rfl hcc8 ?_
      refine m_int rfl rfl ?_
      refine m_int rfl rfl ?_
      refine b_shln (c := 40) rfl rfl ?_
      rw [hv]
      refine o_ixs1 (m := d) Tryd.underlying22 rfl rfl rfl hd ?_
      refine o_st (v := iv v) rfl rfl rfl rfl hBg (by omega) (fun w9 hB9 hK9 hZ9 => ?_)
      have hS9 := Sl.set hrow8 hd hBg hB9
      rw [← List.map_set] at hS9
      have hKS9 := hKS8.cell (c' := cs.set d v) (by simp) hK9 hS9
      have hbs : (A ++ (g, cs) :: B).map Prod.snd = A.map Prod.snd ++ cs :: B.map Prod.snd := by simp
      have hbs' : (A ++ (g, cs.set d v) :: B).map Prod.snd = A.map Prod.snd ++ cs.set d v :: B.map Prod.snd := by simp
      have hlen : (A ++ (g, cs.set d v) :: B).length = (A ++ (g, cs) :: B).length := by simp
      rw [hbs] at hKS9
      have hpl9 := hKS9.pl
      obtain ⟨bp, op, hae, hcp9⟩ := hpl9.rd _ _ (place_at A B g (cs.set d v))
      subst hae
      obtain ⟨k, hHP, hkw, hturn⟩ := hKS9.turn
      have hwl := hKS9.wf.len
      refine o_nil ?_
      refine k_seq ?_
      refine k_region ?_
      refine m_ptr rfl rfl ?_
      refine m_sl rfl rfl ?_
      refine m_int rfl rfl ?_
      refine o_ixs1 (m := A.length) Tryd.underlying23 rfl rfl rfl hkl ?_
      refine o_ld (v := iv ((1 + lnK (A.map Prod.snd) : Nat) : Int)) rfl rfl hcp9 ?_
      refine m_int rfl rfl ?_
      refine m_int rfl rfl ?_
      refine b_shln (c := 40) rfl rfl ?_
      rw [hv]
      refine o_call rfl rfl (set_ok k w9 hb _ 65536 _ ((1 + lnK (A.map Prod.snd) : Nat) : Int) (d : Int) v hHP hKS9.wf (by omega) hvr) (fun u w10 hu => ?_)
      rw [setK (A.map Prod.snd) (B.map Prod.snd) cs d v (by rw [List.length_map]; omega) (by omega) hd] at hu
      obtain ⟨rfl, hr⟩ := hu
      rw [plK_same (A := A.map Prod.snd) (B := B.map Prod.snd) (c := cs) (d := cs.set d v) (by simp) 1] at hr
      have hKS10 := hturn w10 (A.map Prod.snd ++ cs.set d v :: B.map Prod.snd) hr
      rw [← hbs'] at hKS10
      dsimp only
      refine b_neq rfl rfl ?_
      refine o_nil ?_
      refine k_no rfl ((fun h' => h' rfl)) ?_
      refine k_skip ?_
      refine k_blk ?_
      refine k_region ?_
      refine n_add rfl rfl (by omega) ?_
      refine m_int rfl rfl ?_
      refine o_nil ?_
      refine k_goal ⟨(i + 1, A ++ (g, cs.set d v) :: B), ⟨rfl, by rw [hlen]; rfl, by rw [hlen]; rfl, rfl, rfl, rfl, trivial⟩, ⟨hin, hKS10, by rw [hlen]; exact h40, fun z hz => ?_⟩, by dsimp only; omega⟩
      rcases List.mem_append.1 hz with hz | hz
      · exact h39 z (by simp [hz])
      · rcases List.mem_cons.1 hz with rfl | hz
        · simp; omega
        · exact h39 z (by simp [hz])
  clear hKS h40 h39
  obtain ⟨hKS, h40, h39⟩ := hJ
  obtain ⟨kH, hHP, _, _⟩ := hKS.own
  refine k_seq ?_
  refine k_seq ?_
  refine k_region ?_
  refine m_sl rfl rfl ?_
  refine o_lens Tryd.underlying23 rfl ?_
  refine m_int rfl rfl ?_
  refine o_nil ?_
  refine k_block ?_
  refine k_loop (σ := Nat) (fun j => [(5, .pointer (some ⟨hb, 0, none⟩)), (8, .slice ca s.length cq), (125, .slice pa s.length pq), (126, .int .i64 (s.length : Int)), (127, .int .i64 (j : Int))]) (fun j w' => j ≤ s.length ∧ w' = w10) (fun j => s.length - j) 0 ⟨rfl, rfl, rfl, rfl, rfl, trivial⟩ ⟨Nat.zero_le _, rfl⟩ (fun j e w11 hJ => ?_)
  obtain ⟨hj, rfl⟩ := hJ
  refine k_seq ?_
  refine k_region ?_
  refine b_lss rfl rfl ?_
  refine o_nil ?_
  refine k_seq ?_
  refine k_cond rfl (fun h => ?_) (fun h => ?_)
  rotate_left
  ·
    refine k_exit rfl ?_
    refine k_seq ?_
    refine k_region ?_
    refine m_bool rfl rfl ?_
    refine o_nil ?_
    refine k_ret (ret_tmps (ts := [4]) (v := .bool _) rfl rfl ?_)
    exact ⟨rfl, hKS.K⟩
  have hjl : j < s.length := by omega
  obtain ⟨A, y, B, hrs, hAl⟩ := nth_split s j hjl
  obtain ⟨g, cs⟩ := y
  subst hrs hAl
  have hcs39 : cs.length ≤ 39 := h39 (g, cs) (by simp)
  have hAl40 : A.length ≤ 40 := by simp at h40; omega
  have hbs : (A ++ (g, cs) :: B).map Prod.snd = A.map Prod.snd ++ cs :: B.map Prod.snd := by simp
  have hwf := hKS.wf
  have hrow := hKS.rows (g, cs) (by simp)
  have hHP' := hHP
  rw [hbs] at hHP' hwf
  obtain ⟨bc, oc, hae, hcc⟩ := hKS.ce.rd _ _ (rowV_at A B g cs)
  subst hae
  obtain ⟨bp, op, hae, hcp⟩ := hKS.pl.rd _ _ (place_at A B g cs)
  subst hae
  refine k_skip ?_
  refine k_seq ?_
  refine k_block ?_
  refine k_seq ?_
  refine k_region ?_
  refine m_int rfl rfl ?_
  refine o_ixs1 (m := A.length) Tryd.underlying23 rfl rfl rfl hjl ?_
  refine o_ld (v := iv ((1 + lnK (A.map Prod.snd) : Nat) : Int)) rfl rfl hcp ?_
  refine m_int rfl rfl ?_
  refine m_int rfl rfl ?_
  refine o_nil ?_
  refine k_seq ?_
  refine k_region ?_
  refine m_ptr rfl rfl ?_
  refine m_int rfl rfl ?_
  refine o_call rfl rfl (look_ok kH w11 hb _ 65536 _ ((1 + lnK (A.map Prod.snd) : Nat) : Int) hHP' hwf) (fun u w12 hu => ?_)
  rw [lookK (A.map Prod.snd) (B.map Prod.snd) cs (by rw [List.length_map]; omega) (by omega), List.length_map] at hu
  obtain ⟨rfl, rfl⟩ := hu
  dsimp only
  refine m_any rfl rfl ?_
  refine o_extr rfl rfl ?_
  refine o_extr rfl rfl ?_
  refine o_extr rfl rfl ?_
  refine o_extr rfl rfl ?_
  refine m_int rfl rfl ?_
  refine m_int rfl rfl ?_
  refine m_int rfl rfl ?_
  refine m_int rfl rfl ?_
  refine o_nil ?_
  refine k_seq ?_
  refine k_seq ?_
  refine k_region ?_
  refine m_int rfl rfl ?_
  refine b_neq rfl rfl ?_
  refine m_bool rfl rfl ?_
  refine o_false (t := 142) rfl ((fun h' => h' rfl)) ?_
  refine g_yes rfl rfl ?_
  refine m_int rfl rfl ?_
  refine g_yes rfl rfl ?_
  refine b_neq rfl rfl ?_
  refine pick_f rfl rfl ?_
  refine m_bool rfl rfl ?_
  refine o_false (t := 146) rfl ((fun h' => h' rfl)) ?_
  refine g_yes rfl rfl ?_
  refine m_int rfl rfl ?_
  refine g_yes rfl rfl ?_
  refine m_int rfl rfl ?_
  refine g_yes rfl rfl ?_
  refine b_neq rfl rfl ?_
  refine pick_f rfl rfl ?_
  refine m_bool rfl rfl ?_
  refine o_false (t := 151) rfl ((fun h' => h' rfl)) ?_
  refine g_yes rfl rfl ?_
  refine m_int rfl rfl ?_
  refine g_yes rfl rfl ?_
  refine m_sl rfl rfl ?_
  refine g_yes rfl rfl ?_
  refine m_int rfl rfl ?_
  refine g_yes rfl rfl ?_
  refine o_ixs1 (m := A.length) Tryd.underlying44 rfl rfl rfl hjl ?_
  refine g_yes rfl rfl ?_
  refine o_ld (v := .slice (some ⟨g, 0, none⟩) cs.length cs.length) rfl rfl hcc ?_
  refine g_yes rfl rfl ?_
  refine o_lens Tryd.underlying22 rfl ?_
  refine g_yes rfl rfl ?_
  refine b_neq rfl rfl ?_
  refine pick_f rfl rfl ?_
  refine o_nil ?_
  refine k_no rfl ((fun h' => h' rfl)) ?_
  refine k_skip ?_
  refine k_seq ?_
  refine k_region ?_
  refine m_sl rfl rfl ?_
  refine m_int rfl rfl ?_
  refine o_ixs1 (m := A.length) Tryd.underlying44 rfl rfl rfl hjl ?_
  refine o_ld (v := .slice (some ⟨g, 0, none⟩) cs.length cs.length) rfl rfl hcc ?_
  refine o_lens Tryd.underlying22 rfl ?_
  refine m_int rfl rfl ?_
  refine o_nil ?_
  refine k_block ?_
  refine k_loop (σ := Nat) (fun d => [(5, .pointer (some ⟨hb, 0, none⟩)), (8, .slice (some ⟨bc, oc, none⟩) (A ++ (g, cs) :: B).length cq), (18, .int .i64 ((1 + lnK (A.map Prod.snd) : Nat) : Int)), (125, .slice (some ⟨bp, op, none⟩) (A ++ (g, cs) :: B).length pq), (126, .int .i64 ((A ++ (g, cs) :: B).length : Int)), (127, .int .i64 (A.length : Int)), (163, .slice (some ⟨g, 0, none⟩) cs.length cs.length), (164, .int .i64 (cs.length : Int)), (165, .int .i64 (d : Int))]) (fun d w' => d ≤ cs.length ∧ w' = w12) (fun d => cs.length - d) 0 ⟨rfl, rfl, rfl, rfl, rfl, rfl, rfl, rfl, rfl, trivial⟩ ⟨Nat.zero_le _, rfl⟩ (fun d e w13 hJ => ?_)
  obtain ⟨hd, rfl⟩ := hJ
  refine k_seq ?_
  refine k_region ?_
  refine b_lss rfl rfl ?_
  refine o_nil ?_
  refine k_seq ?_
  refine k_cond rfl (fun h => ?_) (fun h => ?_)
  rotate_left
  ·
    refine k_exit rfl ?_
    refine k_blk ?_
    refine k_region ?_
    refine n_add rfl rfl (by omega) ?_
    refine m_int rfl rfl ?_
    refine o_nil ?_
    refine k_goal ⟨A.length + 1, ⟨rfl, rfl, rfl, rfl, rfl, trivial⟩, ⟨hjl, rfl⟩, by omega⟩
  have hdl : d < cs.length := by omega
  obtain ⟨g2, o2, hge, hcd⟩ := hrow.rd _ _ (iv_at cs d hdl)
  cases hge
  refine k_skip ?_
  refine k_seq ?_
  refine k_block ?_
  refine k_seq ?_
  refine k_region ?_
  refine m_int rfl rfl ?_
  refine o_ixs1 (m := d) Tryd.underlying22 rfl rfl rfl hdl ?_
  refine o_ld (v := iv cs[d]) rfl rfl hcd ?_
  refine m_int rfl rfl ?_
  refine m_int rfl rfl ?_
  refine o_nil ?_
  refine k_seq ?_
  refine k_region ?_
  refine m_ptr rfl rfl ?_
  refine m_int rfl rfl ?_
  refine m_int rfl rfl ?_
  refine o_call rfl rfl (get_ok kH w13 hb _ 65536 _ ((1 + lnK (A.map Prod.snd) : Nat) : Int) (d : Int) hHP' hwf) (fun u w14 hu => ?_)
  rw [getK (A.map Prod.snd) (B.map Prod.snd) cs d (by rw [List.length_map]; omega) (by omega) hdl] at hu
  obtain ⟨rfl, rfl⟩ := hu
  dsimp only
  refine m_any rfl rfl ?_
  refine o_extr rfl rfl ?_
  refine o_extr rfl rfl ?_
  refine m_int rfl rfl ?_
  refine m_int rfl rfl ?_
  refine o_nil ?_
  refine k_seq ?_
  refine k_region ?_
  refine m_int rfl rfl ?_
  refine m_int rfl rfl ?_
  refine b_neq rfl rfl ?_
  refine m_bool rfl rfl ?_
  refine o_false (t := 180) rfl ((fun h' => h' rfl)) ?_
  refine g_yes rfl rfl ?_
  refine m_int rfl rfl ?_
  refine g_yes rfl rfl ?_
  refine b_neq rfl rfl ?_
  refine pick_f rfl rfl ?_
  refine o_nil ?_
  refine k_no rfl ((fun h' => h' rfl)) ?_
  refine k_skip ?_
  refine k_blk ?_
  refine k_region ?_
  refine n_add rfl rfl (by omega) ?_
  refine m_int rfl rfl ?_
  refine o_nil ?_
  refine k_goal ⟨d + 1, ⟨rfl, rfl, rfl, rfl, rfl, rfl, rfl, rfl, rfl, trivial⟩, ⟨hdl, rfl⟩, by omega⟩
end Go.Proofs.YtchbidckckmobaaDoor

/- HeapKeeps: its sets as an argument. No condition beyond what each lemma names. -/
namespace Go.Proofs.YtchbidckckmobaaDoor
open Go.RowKit E
set_option linter.unusedVariables false
set_option linter.unusedSimpArgs false
set_option maxRecDepth 100000
attribute [local irreducible] ow qw kw kq cw opW Ret
theorem pair_of {H : Type} {enc : TypeId × Value → H} {W : World} {cs : List Value} (h : Tr enc Tryd.prog W 48 cs) (hl : cs.length = 2) : ∃ x : BitVec 16 × BitVec 16, pairC x = cs := by
  obtain ⟨m, y, hy⟩ := h.any
  obtain ⟨xs, m', _, _, hlen, hxl, hel⟩ := DataW.trod_array Tryd.underlying48 hy
  have each : ∀ i, i < 2 → ∃ b : BitVec 16, (cs.drop i).take 1 = [u16v b] := by
    intro i hi
    have h1 := hel i hi
    rw [show Tryd.prog.cellsOf 47 = 1 from by kernel_rfl, Nat.mul_one] at h1
    cases hx : xs[i]? with
    | none => have := List.getElem?_eq_none_iff.1 hx; omega
    | some y =>
      rw [hx] at h1
      obtain ⟨a, e0, _, wa⟩ := DataW.trod_int Tryd.underlying47 h1
      simp only [Lit.wf, IntKind.min, IntKind.max, IntKind.signed, IntKind.bits, Bool.and_eq_true, decide_eq_true_eq] at wa
      have hb : ∃ b : BitVec 16, a = (b.toNat : Int) := ⟨BitVec.ofInt 16 a, by revert wa; simp [BitVec.toNat_ofInt] <;> omega⟩
      obtain ⟨b, rfl⟩ := hb
      exact ⟨b, e0⟩
  obtain ⟨b0, e0⟩ := each 0 (by omega)
  obtain ⟨b1, e1⟩ := each 1 (by omega)
  match cs, hl with
  | [c0, c1], _ =>
    simp at e0 e1
    exact ⟨(b0, b1), by rw [e0, e1]; rfl⟩
theorem pairs_of {H : Type} {enc : TypeId × Value → H} {W : World} : ∀ {css : List (List Value)}, (∀ cs ∈ css, cs.length = 2) → (∀ cs ∈ css, Tr enc Tryd.prog W 48 cs) → ∃ l : List (BitVec 16 × BitVec 16), l.length = css.length ∧ l.map pairC = css
  | [], _, _ => ⟨[], rfl, rfl⟩
  | cs :: css, h1, h2 => by
    obtain ⟨x, hx⟩ := pair_of (h2 cs (by simp)) (h1 cs (by simp))
    obtain ⟨l, hl, hr⟩ := pairs_of (css := css) (fun c hc => h1 c (by simp [hc])) (fun c hc => h2 c (by simp [hc]))
    exact ⟨x :: l, by simp [hl], by simp [hx, hr]⟩
end Go.Proofs.YtchbidckckmobaaDoor

/- What the listed table of the count of noughts gives. No condition beyond what each lemma names. -/
namespace Go.Proofs.YtchbidckckmobaaDoor
open Go.RowKit E
set_option linter.unusedVariables false
set_option linter.unusedSimpArgs false
set_option maxRecDepth 100000
attribute [local irreducible] ow qw kw kq cw opW Ret
theorem g64 : Tryd.prog.globalNamed "math/bits.deBruijn64tab" = some 0 := by kernel_rfl
theorem g64t : (Tryd.prog.globals[0]?).map (·.type) = some 121 := by kernel_rfl
def tzInts : List Int := Lib.deBruijn64tab.map fun (x : Nat) => (x : Int)
theorem tabtz_of {W : World} (h : laidMetH Tryd.prog lst1 W) : TabTz W := by
  rw [MakeChecks.laidMetH_plain _ _ _ (by kernel_rfl)] at h
  obtain ⟨ps, ⟨g0, t0, cs0, f0, p0, q0, hg0, ht0, hv0, hd0, _, _⟩, _, _⟩ := h
  obtain rfl := Option.some.inj (g64.symm.trans hg0)
  obtain rfl := Option.some.inj (g64t.symm.trans ht0)
  have hc := Lib.cells_of_tab (zs := tzInts) (k := .u8) Tryd.underlying121 Tryd.underlying5 (by kernel_rfl) (by kernel_rfl) (show DataW.trod _ _ _ _ _ _ _ _ _ = some (Lib.tabData .u8 tzInts, p0) from hd0)
  intro j hj
  rw [World.var?_cell g64 hv0 j, ← Array.getElem?_toList, hc]
  simp [tzInts, hj, List.getD_eq_getElem?_getD]
end Go.Proofs.YtchbidckckmobaaDoor
