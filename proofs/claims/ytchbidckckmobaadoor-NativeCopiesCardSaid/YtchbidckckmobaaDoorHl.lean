/- Copy. No condition beyond what each contract names. -/
import Derived.Test.YtchbidckckmobaaDoorHj
namespace Go.Proofs.YtchbidckckmobaaDoor
open Go.RowKit E
set_option linter.unusedVariables false
set_option linter.unusedSimpArgs false
set_option maxRecDepth 100000
attribute [local irreducible] ow qw kw kq cw opW Ret
/-- one cell's copying -/
def stepC (L : List Int) (p i q k : Int) (ws : List Int) (j : Int) : List Int := (setH ws L q (k + j) (getH ws L p (i + j)).1).2
/-- the cells' order -/
def ordC (D : Prop) [Decidable D] (n : Int) (m : Nat) : Int := if D then n - 1 - m else m
def runC (L : List Int) (p i q k n : Int) (D : Prop) [Decidable D] (ws : List Int) : Nat → List Int
  | 0 => ws
  | m + 1 => stepC L p i q k (runC L p i q k n D ws m) (ordC D n m)
def copyN (ws L : List Int) (p i q k n : Int) : Int × List Int :=
  if (lookH ws L p).2.2.2 ≠ 0 then ((lookH ws L p).2.2.2, ws)
  else if (lookH ws L q).2.2.2 ≠ 0 then ((lookH ws L q).2.2.2, ws)
  else if (lookH ws L p).1 = 1 ∨ (lookH ws L p).1 ≠ (lookH ws L q).1 ∨ (lookH ws L p).2.1 ≠ (lookH ws L q).2.1 then (28, ws)
  else if n < 0 ∨ i < 0 ∨ k < 0 ∨ (lookH ws L p).2.2.1 - n < i ∨ (lookH ws L q).2.2.1 - n < k then (1, ws)
  else (0, runC L p i q k n (p = q ∧ i < k) ws n.toNat)
theorem look_rng {ws L : List Int} (hW : WFH ws L) (p : Int) : 0 ≤ (lookH ws L p).2.2.1 ∧ (lookH ws L p).2.2.1 ≤ 65537 := by
  by_cases h : (lookH ws L p).2.2.2 = 0
  · obtain ⟨q, hq, rfl, h1, h2, h3, h4, h5⟩ := look_n hW h
    rw [h3]
    have := hW.len
    dsimp only
    omega
  · have hp : p ∉ L := fun hp => h ((look_e hW).2 hp)
    rw [look_out hp]
    exact ⟨by decide, by decide⟩
theorem get_rng {ws L : List Int} (hW : WFH ws L) (p i : Int) : -9223372036854775808 ≤ (getH ws L p i).1 ∧ (getH ws L p i).1 ≤ 9223372036854775807 := by
  unfold getH
  split
  · exact ⟨by simp, by simp⟩
  · simp only [List.getD]
    cases h : ws[(cellH ws L p i).1.toNat]? with
    | none => exact ⟨by decide, by decide⟩
    | some x => exact hW.rng x (List.mem_of_getElem? h)
theorem ordC_0 {D : Prop} [Decidable D] (n : Int) : ordC D n 0 = if D then n - 1 else 0 := by unfold ordC; split <;> simp
theorem ordC_end {D : Prop} [Decidable D] (n : Int) (h0 : 0 ≤ n) (m : Nat) : ordC D n m = (if D then -1 else n) ↔ (m : Int) = n := by unfold ordC; split <;> omega
theorem ordC_in {D : Prop} [Decidable D] (n : Int) (m : Nat) (h : (m : Int) < n) : 0 ≤ ordC D n m ∧ ordC D n m < n := by unfold ordC; split <;> omega
theorem ordC_all {D : Prop} [Decidable D] (n : Int) (h0 : 0 ≤ n) (m : Nat) (h : (m : Int) ≤ n) : -1 ≤ ordC D n m ∧ ordC D n m ≤ n := by unfold ordC; split <;> omega
theorem ordC_step {D : Prop} [Decidable D] (n : Int) (m : Nat) : ordC D n m + (if D then -1 else 1) = ordC D n (m + 1) := by unfold ordC; split <;> (try push_cast) <;> omega
theorem copy_ok (kk : Nat) (w : World) (hb : Nat) (ws : List Int) (lim : Int) (L : List Int) (p i q k n : Int) (hHP : HP kk w hb ws lim L) (hW : WFH ws L) (hu : (ws.length : Int) ≤ lim + 1)
    (hi : -9223372036854775808 ≤ i ∧ i ≤ 9223372036854775807) (hk : -9223372036854775808 ≤ k ∧ k ≤ 9223372036854775807) (hn : -9223372036854775808 ≤ n ∧ n ≤ 9223372036854775807) :
    Ret Tryd.prog 51 [.pointer (some ⟨hb, 0, none⟩), .int .i64 p, .int .i64 i, .int .i64 q, .int .i64 k, .int .i64 n] w (fun v w' => v = .int .i64 (copyN ws L p i q k n).1 ∧ HRes kk w hb lim w' (copyN ws L p i q k n).2 L) := by
  have hr1 := look_rng hW p
  have hr2 := look_rng hW q
  have keep0 : HRes kk w hb lim w ws L := ⟨hHP, hW, hu, (Keep.refl [] _).h⟩
  refine fn_enter (n := 119) Tryd.func51 rfl rfl (Nat.le_of_ble_eq_true rfl) (fun e => ?_)
  refine k_seq ?_
  refine k_region ?_
  refine m_int rfl rfl ?_
  refine o_nil ?_
  refine k_seq ?_
  refine k_region ?_
  refine m_ptr rfl rfl ?_
  refine m_int rfl rfl ?_
  refine o_call rfl rfl (look_ok kk w hb ws lim L p hHP hW) (fun v w1 hv => ?_)
  obtain ⟨rfl, rfl⟩ := hv
  refine m_any rfl rfl ?_
  refine o_extr rfl rfl ?_
  refine o_extr rfl rfl ?_
  refine o_extr rfl rfl ?_
  refine o_extr rfl rfl ?_
  refine m_int rfl rfl ?_
  refine m_int rfl rfl ?_
  refine m_int rfl rfl ?_
  refine m_int rfl rfl ?_
  refine o_nil ?_
  refine k_seq ?_
  refine k_seq ?_
  refine k_region ?_
  refine m_int rfl rfl ?_
  refine b_neq rfl rfl ?_
  refine o_nil ?_
  refine k_cond rfl (fun h => ?_) (fun h => ?_)
  ·
    refine k_seq ?_
    refine k_region ?_
    refine m_int rfl rfl ?_
    refine m_int rfl rfl ?_
    refine o_nil ?_
    refine k_ret (ret_tmps (ts := [12]) (v := .int _ _) rfl rfl ?_)
    rw [show copyN ws L p i q k n = ((lookH ws L p).2.2.2, ws) from if_pos h]; exact ⟨rfl, keep0⟩
  have e1 : copyN ws L p i q k n = _ := if_neg h
  refine k_skip ?_
  refine k_seq ?_
  refine k_region ?_
  refine m_ptr rfl rfl ?_
  refine m_int rfl rfl ?_
  refine o_call rfl rfl (look_ok kk w1 hb ws lim L q hHP hW) (fun v w2 hv => ?_)
  obtain ⟨rfl, rfl⟩ := hv
  refine m_any rfl rfl ?_
  refine o_extr rfl rfl ?_
  refine o_extr rfl rfl ?_
  refine o_extr rfl rfl ?_
  refine o_extr rfl rfl ?_
  refine m_int rfl rfl ?_
  refine m_int rfl rfl ?_
  refine m_int rfl rfl ?_
  refine m_int rfl rfl ?_
  refine o_nil ?_
  refine k_seq ?_
  refine k_block ?_
  refine k_seq ?_
  refine k_region ?_
  refine m_int rfl rfl ?_
  refine b_neq rfl rfl ?_
  refine m_bool rfl rfl ?_
  refine o_nil ?_
  refine k_cond rfl (fun h => ?_) (fun h => ?_)
  ·
    refine k_seq ?_
    refine k_region ?_
    refine m_int rfl rfl ?_
    refine m_int rfl rfl ?_
    refine o_nil ?_
    refine k_ret (ret_tmps (ts := [12]) (v := .int _ _) rfl rfl ?_)
    rw [e1, if_pos h]; exact ⟨rfl, keep0⟩
  rw [if_neg h] at e1
  refine k_seq ?_
  refine k_region ?_
  refine m_int rfl rfl ?_
  refine b_eql rfl rfl ?_
  refine m_bool rfl rfl ?_
  refine o_split (t := 51) rfl (fun h => ?_) (fun h => ?_)
  ·
    refine g_no rfl rfl rfl ?_
    refine g_no rfl rfl rfl ?_
    refine g_no rfl rfl rfl ?_
    refine pick_t rfl rfl ?_
    refine m_bool rfl rfl ?_
    refine g_no rfl rfl rfl ?_
    refine g_no rfl rfl rfl ?_
    refine g_no rfl rfl rfl ?_
    refine pick_t rfl rfl ?_
    refine m_bool rfl rfl ?_
    refine o_nil ?_
    refine k_condt rfl ?_
    refine k_seq ?_
    refine k_region ?_
    refine m_int rfl rfl ?_
    refine o_nil ?_
    refine k_ret (ret_tmps (ts := [12]) (v := .int _ _) rfl rfl ?_)
    rw [e1, if_pos (.inl h)]; exact ⟨rfl, keep0⟩
  ·
    refine g_yes rfl rfl ?_
    refine m_int rfl rfl ?_
    refine g_yes rfl rfl ?_
    refine m_int rfl rfl ?_
    refine g_yes rfl rfl ?_
    refine b_neq rfl rfl ?_
    refine pick_f rfl rfl ?_
    refine m_bool rfl rfl ?_
    refine o_split (t := 56) rfl (fun h => ?_) (fun h => ?_)
    ·
      refine g_no rfl rfl rfl ?_
      refine g_no rfl rfl rfl ?_
      refine g_no rfl rfl rfl ?_
      refine pick_t rfl rfl ?_
      refine m_bool rfl rfl ?_
      refine o_nil ?_
      refine k_condt rfl ?_
      refine k_seq ?_
      refine k_region ?_
      refine m_int rfl rfl ?_
      refine o_nil ?_
      refine k_ret (ret_tmps (ts := [12]) (v := .int _ _) rfl rfl ?_)
      rw [e1, if_pos (.inr (.inl h))]; exact ⟨rfl, keep0⟩
    ·
      refine g_yes rfl rfl ?_
      refine m_int rfl rfl ?_
      refine g_yes rfl rfl ?_
      refine m_int rfl rfl ?_
      refine g_yes rfl rfl ?_
      refine b_neq rfl rfl ?_
      refine pick_f rfl rfl ?_
      refine m_bool rfl rfl ?_
      refine o_nil ?_
      refine k_cond rfl (fun h => ?_) (fun h => ?_)
      ·
        refine k_seq ?_
        refine k_region ?_
        refine m_int rfl rfl ?_
        refine o_nil ?_
        refine k_ret (ret_tmps (ts := [12]) (v := .int _ _) rfl rfl ?_)
        rw [e1, if_pos (.inr (.inr h))]; exact ⟨rfl, keep0⟩
      rw [if_neg (by omega)] at e1
      refine k_seq ?_
      refine k_region ?_
      refine m_int rfl rfl ?_
      refine b_lss rfl rfl ?_
      refine m_bool rfl rfl ?_
      refine o_split (t := 64) rfl (fun h => ?_) (fun h => ?_)
      ·
        refine g_no rfl rfl rfl ?_
        refine g_no rfl rfl rfl ?_
        refine pick_t rfl rfl ?_
        refine m_bool rfl rfl ?_
        refine g_no rfl rfl rfl ?_
        refine g_no rfl rfl rfl ?_
        refine pick_t rfl rfl ?_
        refine m_bool rfl rfl ?_
        refine g_no rfl rfl rfl ?_
        refine g_no rfl rfl rfl ?_
        refine g_no rfl rfl rfl ?_
        refine g_no rfl rfl rfl ?_
        refine g_no rfl rfl rfl ?_
        refine pick_t rfl rfl ?_
        refine m_bool rfl rfl ?_
        refine g_no rfl rfl rfl ?_
        refine g_no rfl rfl rfl ?_
        refine g_no rfl rfl rfl ?_
        refine g_no rfl rfl rfl ?_
        refine g_no rfl rfl rfl ?_
        refine pick_t rfl rfl ?_
        refine m_bool rfl rfl ?_
        refine o_nil ?_
        refine k_condt rfl ?_
        refine k_seq ?_
        refine k_region ?_
        refine m_int rfl rfl ?_
        refine o_nil ?_
        refine k_ret (ret_tmps (ts := [12]) (v := .int _ _) rfl rfl ?_)
        rw [e1, if_pos (by omega)]; exact ⟨rfl, keep0⟩
      ·
        refine g_yes rfl rfl ?_
        refine m_int rfl rfl ?_
        refine g_yes rfl rfl ?_
        refine b_lss rfl rfl ?_
        refine pick_f rfl rfl ?_
        refine m_bool rfl rfl ?_
        refine o_split (t := 68) rfl (fun h => ?_) (fun h => ?_)
        ·
          refine g_no rfl rfl rfl ?_
          refine g_no rfl rfl rfl ?_
          refine pick_t rfl rfl ?_
          refine m_bool rfl rfl ?_
          refine g_no rfl rfl rfl ?_
          refine g_no rfl rfl rfl ?_
          refine g_no rfl rfl rfl ?_
          refine g_no rfl rfl rfl ?_
          refine g_no rfl rfl rfl ?_
          refine pick_t rfl rfl ?_
          refine m_bool rfl rfl ?_
          refine g_no rfl rfl rfl ?_
          refine g_no rfl rfl rfl ?_
          refine g_no rfl rfl rfl ?_
          refine g_no rfl rfl rfl ?_
          refine g_no rfl rfl rfl ?_
          refine pick_t rfl rfl ?_
          refine m_bool rfl rfl ?_
          refine o_nil ?_
          refine k_condt rfl ?_
          refine k_seq ?_
          refine k_region ?_
          refine m_int rfl rfl ?_
          refine o_nil ?_
          refine k_ret (ret_tmps (ts := [12]) (v := .int _ _) rfl rfl ?_)
          rw [e1, if_pos (by omega)]; exact ⟨rfl, keep0⟩
        ·
          refine g_yes rfl rfl ?_
          refine m_int rfl rfl ?_
          refine g_yes rfl rfl ?_
          refine b_lss rfl rfl ?_
          refine pick_f rfl rfl ?_
          refine m_bool rfl rfl ?_
          refine o_split (t := 72) rfl (fun h => ?_) (fun h => ?_)
          ·
            refine g_no rfl rfl rfl ?_
            refine g_no rfl rfl rfl ?_
            refine g_no rfl rfl rfl ?_
            refine g_no rfl rfl rfl ?_
            refine g_no rfl rfl rfl ?_
            refine pick_t rfl rfl ?_
            refine m_bool rfl rfl ?_
            refine g_no rfl rfl rfl ?_
            refine g_no rfl rfl rfl ?_
            refine g_no rfl rfl rfl ?_
            refine g_no rfl rfl rfl ?_
            refine g_no rfl rfl rfl ?_
            refine pick_t rfl rfl ?_
            refine m_bool rfl rfl ?_
            refine o_nil ?_
            refine k_condt rfl ?_
            refine k_seq ?_
            refine k_region ?_
            refine m_int rfl rfl ?_
            refine o_nil ?_
            refine k_ret (ret_tmps (ts := [12]) (v := .int _ _) rfl rfl ?_)
            rw [e1, if_pos (by omega)]; exact ⟨rfl, keep0⟩
          ·
            refine g_yes rfl rfl ?_
            refine m_int rfl rfl ?_
            refine g_yes rfl rfl ?_
            refine m_int rfl rfl ?_
            refine g_yes rfl rfl ?_
            refine m_int rfl rfl ?_
            refine g_yes rfl rfl ?_
            refine n_sub rfl rfl (by omega) ?_
            refine g_yes rfl rfl ?_
            refine b_gtr rfl rfl ?_
            refine pick_f rfl rfl ?_
            refine m_bool rfl rfl ?_
            refine o_split (t := 79) rfl (fun h => ?_) (fun h => ?_)
            ·
              refine g_no rfl rfl rfl ?_
              refine g_no rfl rfl rfl ?_
              refine g_no rfl rfl rfl ?_
              refine g_no rfl rfl rfl ?_
              refine g_no rfl rfl rfl ?_
              refine pick_t rfl rfl ?_
              refine m_bool rfl rfl ?_
              refine o_nil ?_
              refine k_condt rfl ?_
              refine k_seq ?_
              refine k_region ?_
              refine m_int rfl rfl ?_
              refine o_nil ?_
              refine k_ret (ret_tmps (ts := [12]) (v := .int _ _) rfl rfl ?_)
              rw [e1, if_pos (by omega)]; exact ⟨rfl, keep0⟩
            ·
              refine g_yes rfl rfl ?_
              refine m_int rfl rfl ?_
              refine g_yes rfl rfl ?_
              refine m_int rfl rfl ?_
              refine g_yes rfl rfl ?_
              refine m_int rfl rfl ?_
              refine g_yes rfl rfl ?_
              refine n_sub rfl rfl (by omega) ?_
              refine g_yes rfl rfl ?_
              refine b_gtr rfl rfl ?_
              refine pick_f rfl rfl ?_
              refine m_bool rfl rfl ?_
              refine o_nil ?_
              refine k_cond rfl (fun h => ?_) (fun h => ?_)
              ·
                refine k_seq ?_
                refine k_region ?_
                refine m_int rfl rfl ?_
                refine o_nil ?_
                refine k_ret (ret_tmps (ts := [12]) (v := .int _ _) rfl rfl ?_)
                rw [e1, if_pos (by omega)]; exact ⟨rfl, keep0⟩
              rw [if_neg (by omega)] at e1
              have hn0 : 0 ≤ n := by omega
              have hoz := ordC_0 (D := p = q ∧ i < k) n
              have hoe := ordC_end (D := p = q ∧ i < k) n hn0
              have hob := ordC_in (D := p = q ∧ i < k) n
              have hos := ordC_step (D := p = q ∧ i < k) n
              refine k_skip ?_
              refine k_blk ?_
              refine k_seq ?_
              refine k_region ?_
              refine m_int rfl rfl ?_
              refine m_int rfl rfl ?_
              refine m_int rfl rfl ?_
              refine m_int rfl rfl ?_
              refine o_nil ?_
              refine k_seq ?_
              refine k_seq ?_
              refine k_region ?_
              refine m_int rfl rfl ?_
              refine m_int rfl rfl ?_
              refine b_eql rfl rfl ?_
              refine m_bool rfl rfl ?_
              refine o_split (t := 90) rfl (fun h => ?_) (fun h => ?_)
              ·
                refine g_yes rfl rfl ?_
                refine m_int rfl rfl ?_
                refine g_yes rfl rfl ?_
                refine m_int rfl rfl ?_
                refine g_yes rfl rfl ?_
                refine b_gtr rfl rfl ?_
                refine pick_t rfl rfl ?_
                refine o_nil ?_
                refine k_cut (σ := Unit) (fun _ => [(0, .pointer (some ⟨hb, 0, none⟩)), (1, .int .i64 p), (2, .int .i64 i), (3, .int .i64 q), (4, .int .i64 k), (20, .int .i64 (if p = q ∧ i < k then -1 else 1)), (21, .int .i64 (ordC (p = q ∧ i < k) n 0)), (22, .int .i64 (if p = q ∧ i < k then -1 else n))]) (fun _ w' => w' = w2) ?_ (fun s e w3 hJ => ?_)
                ·
                  refine k_cond rfl (fun h => ?_) (fun h => ?_)
                  ·
                    refine k_region ?_
                    refine m_int rfl rfl ?_
                    refine n_sub rfl rfl (by omega) ?_
                    refine m_int rfl rfl ?_
                    refine m_int rfl rfl ?_
                    refine m_int rfl rfl ?_
                    refine o_nil ?_
                    refine k_goal ⟨(), ⟨rfl, rfl, rfl, rfl, rfl, congrArg (Value.int .i64) ?_, congrArg (Value.int .i64) ?_, congrArg (Value.int .i64) ?_, trivial⟩, rfl⟩
                    · rw [if_pos (by omega)]
                    · rw [hoz, if_pos (by omega)]
                    · rw [if_pos (by omega)]
                  refine k_skip ?_
                  refine k_goal ⟨(), ⟨rfl, rfl, rfl, rfl, rfl, congrArg (Value.int .i64) ?_, congrArg (Value.int .i64) ?_, congrArg (Value.int .i64) ?_, trivial⟩, rfl⟩
                  · rw [if_neg (by omega)]
                  · rw [hoz, if_neg (by omega)]
                  · rw [if_neg (by omega)]
                replace hJ := hJ.symm
                subst hJ
                refine k_seq ?_
                refine k_block ?_
                refine k_loop (σ := Nat) (fun m => [(0, .pointer (some ⟨hb, 0, none⟩)), (1, .int .i64 p), (2, .int .i64 i), (3, .int .i64 q), (4, .int .i64 k), (20, .int .i64 (if p = q ∧ i < k then -1 else 1)), (21, .int .i64 (ordC (p = q ∧ i < k) n m)), (22, .int .i64 (if p = q ∧ i < k then -1 else n))]) (fun m w' => m ≤ n.toNat ∧ HRes kk w2 hb lim w' (runC L p i q k n (p = q ∧ i < k) ws m) L) (fun m => n.toNat - m) 0 (by first | exact ⟨rfl, rfl, rfl, rfl, rfl, rfl, rfl, rfl, trivial⟩ | exact ⟨rfl, rfl, rfl, rfl, rfl, congrArg (Value.int .i64) (if_neg (by omega)).symm, congrArg (Value.int .i64) (by rw [hoz, if_neg (by omega)]), congrArg (Value.int .i64) (if_neg (by omega)).symm, trivial⟩) ⟨Nat.zero_le _, keep0⟩ (fun m e w4 hJ => ?_)
                obtain ⟨hm, hH4, hW4, hu4, hKH4⟩ := hJ
                have hoe := hoe m
                have hob := hob m
                have hos := hos m
                refine k_seq ?_
                refine k_seq ?_
                refine k_region ?_
                refine m_int rfl rfl ?_
                refine m_int rfl rfl ?_
                refine b_neq rfl rfl ?_
                refine o_nil ?_
                refine k_cond rfl (fun h => ?_) (fun h => ?_)
                rotate_left
                ·
                  have hme : m = n.toNat := by have := hoe.1 (Decidable.of_not_not h); omega
                  rw [hme] at hH4 hW4 hu4
                  refine k_exit rfl ?_
                  refine k_seq ?_
                  refine k_region ?_
                  refine m_int rfl rfl ?_
                  refine o_nil ?_
                  refine k_ret (ret_tmps (ts := [12]) (v := .int _ _) rfl rfl ?_)
                  rw [e1]; exact ⟨rfl, hH4, hW4, hu4, hKH4⟩
                have hml : (m : Int) < n := by have : ¬ (m : Int) = n := fun hh => h (hoe.2 hh); omega
                have hob := hob hml
                obtain ⟨o, ho⟩ : ∃ o, o = ordC (p = q ∧ i < k) n m := ⟨_, rfl⟩
                refine k_skip ?_
                refine k_seq ?_
                refine k_block ?_
                refine k_seq ?_
                refine k_region ?_
                refine m_ptr rfl rfl ?_
                refine m_int rfl rfl ?_
                refine m_int rfl rfl ?_
                refine m_int rfl rfl ?_
                refine n_add rfl rfl (by omega) ?_
                refine o_call rfl rfl (get_ok kk w4 hb _ lim L p _ hH4 hW4) (fun v w5 hv => ?_)
                obtain ⟨rfl, rfl⟩ := hv
                refine m_any rfl rfl ?_
                refine o_extr rfl rfl ?_
                refine o_extr rfl rfl ?_
                refine m_int rfl rfl ?_
                refine m_int rfl rfl ?_
                refine o_nil ?_
                refine k_region ?_
                refine m_ptr rfl rfl ?_
                refine m_int rfl rfl ?_
                refine m_int rfl rfl ?_
                refine m_int rfl rfl ?_
                refine n_add rfl rfl (by omega) ?_
                refine m_int rfl rfl ?_
                refine o_call rfl rfl (set_ok kk w5 hb _ lim L q _ _ hH4 hW4 hu4 (get_rng hW4 _ _)) (fun v w6 hv => ?_)
                obtain ⟨rfl, hH6, hW6, hu6, hKH6⟩ := hv
                refine o_nil ?_
                refine k_blk ?_
                refine k_region ?_
                refine m_int rfl rfl ?_
                refine m_int rfl rfl ?_
                refine n_add rfl rfl (by rw [hos]; have := ordC_all (D := p = q ∧ i < k) n hn0 (m + 1) (by omega); omega) ?_
                rw [hos]
                refine m_int rfl rfl ?_
                refine o_nil ?_
                refine k_goal ⟨m + 1, ⟨rfl, rfl, rfl, rfl, rfl, rfl, rfl, rfl, trivial⟩, ⟨by omega, hH6, hW6, hu6, hKH4.tr hKH6⟩, by omega⟩
              ·
                refine g_no rfl rfl rfl ?_
                refine g_no rfl rfl rfl ?_
                refine g_no rfl rfl rfl ?_
                refine pick_f rfl rfl ?_
                refine o_nil ?_
                refine k_condf rfl ?_
                refine k_skip ?_
                refine k_seq ?_
                refine k_block ?_
                refine k_loop (σ := Nat) (fun m => [(0, .pointer (some ⟨hb, 0, none⟩)), (1, .int .i64 p), (2, .int .i64 i), (3, .int .i64 q), (4, .int .i64 k), (20, .int .i64 (if p = q ∧ i < k then -1 else 1)), (21, .int .i64 (ordC (p = q ∧ i < k) n m)), (22, .int .i64 (if p = q ∧ i < k then -1 else n))]) (fun m w' => m ≤ n.toNat ∧ HRes kk w2 hb lim w' (runC L p i q k n (p = q ∧ i < k) ws m) L) (fun m => n.toNat - m) 0 (by first | exact ⟨rfl, rfl, rfl, rfl, rfl, rfl, rfl, rfl, trivial⟩ | exact ⟨rfl, rfl, rfl, rfl, rfl, congrArg (Value.int .i64) (if_neg (by omega)).symm, congrArg (Value.int .i64) (by rw [hoz, if_neg (by omega)]), congrArg (Value.int .i64) (if_neg (by omega)).symm, trivial⟩) ⟨Nat.zero_le _, keep0⟩ (fun m e w4 hJ => ?_)
                obtain ⟨hm, hH4, hW4, hu4, hKH4⟩ := hJ
                have hoe := hoe m
                have hob := hob m
                have hos := hos m
                refine k_seq ?_
                refine k_seq ?_
                refine k_region ?_
                refine m_int rfl rfl ?_
                refine m_int rfl rfl ?_
                refine b_neq rfl rfl ?_
                refine o_nil ?_
                refine k_cond rfl (fun h => ?_) (fun h => ?_)
                rotate_left
                ·
                  have hme : m = n.toNat := by have := hoe.1 (Decidable.of_not_not h); omega
                  rw [hme] at hH4 hW4 hu4
                  refine k_exit rfl ?_
                  refine k_seq ?_
                  refine k_region ?_
                  refine m_int rfl rfl ?_
                  refine o_nil ?_
                  refine k_ret (ret_tmps (ts := [12]) (v := .int _ _) rfl rfl ?_)
                  rw [e1]; exact ⟨rfl, hH4, hW4, hu4, hKH4⟩
                have hml : (m : Int) < n := by have : ¬ (m : Int) = n := fun hh => h (hoe.2 hh); omega
                have hob := hob hml
                obtain ⟨o, ho⟩ : ∃ o, o = ordC (p = q ∧ i < k) n m := ⟨_, rfl⟩
                refine k_skip ?_
                refine k_seq ?_
                refine k_block ?_
                refine k_seq ?_
                refine k_region ?_
                refine m_ptr rfl rfl ?_
                refine m_int rfl rfl ?_
                refine m_int rfl rfl ?_
                refine m_int rfl rfl ?_
                refine n_add rfl rfl (by omega) ?_
                refine o_call rfl rfl (get_ok kk w4 hb _ lim L p _ hH4 hW4) (fun v w5 hv => ?_)
                obtain ⟨rfl, rfl⟩ := hv
                refine m_any rfl rfl ?_
                refine o_extr rfl rfl ?_
                refine o_extr rfl rfl ?_
                refine m_int rfl rfl ?_
                refine m_int rfl rfl ?_
                refine o_nil ?_
                refine k_region ?_
                refine m_ptr rfl rfl ?_
                refine m_int rfl rfl ?_
                refine m_int rfl rfl ?_
                refine m_int rfl rfl ?_
                refine n_add rfl rfl (by omega) ?_
                refine m_int rfl rfl ?_
                refine o_call rfl rfl (set_ok kk w5 hb _ lim L q _ _ hH4 hW4 hu4 (get_rng hW4 _ _)) (fun v w6 hv => ?_)
                obtain ⟨rfl, hH6, hW6, hu6, hKH6⟩ := hv
                refine o_nil ?_
                refine k_blk ?_
                refine k_region ?_
                refine m_int rfl rfl ?_
                refine m_int rfl rfl ?_
                refine n_add rfl rfl (by rw [hos]; have := ordC_all (D := p = q ∧ i < k) n hn0 (m + 1) (by omega); omega) ?_
                rw [hos]
                refine m_int rfl rfl ?_
                refine o_nil ?_
                refine k_goal ⟨m + 1, ⟨rfl, rfl, rfl, rfl, rfl, rfl, rfl, rfl, trivial⟩, ⟨by omega, hH6, hW6, hu6, hKH4.tr hKH6⟩, by omega⟩
end Go.Proofs.YtchbidckckmobaaDoor
