/- The walk of the law ArenaBlocks. No condition beyond what each contract names. -/
import Derived.Test.YtchbidckckmobaaAh
import Derived.Test.YtchbidckckmobaaAj
namespace Go.Proofs.Ytchbidckckmobaa
open Go.RowKit E
set_option linter.unusedVariables false
set_option linter.unusedSimpArgs false
set_option maxRecDepth 100000
attribute [local irreducible] ow qw kw kq cw opW Ret
def bL (ws : List Int) : List Int := (blocksW ws).getD []
def bE (ws : List Int) : Int := if (blocksW ws).isSome then 0 else 24
theorem BlkRes.cut {w w' : World} {v : Value} {ws : List Int} (h : BlkRes w w' v ws) : ∃ s, v = .tuple #[s, .int .i64 (bE ws)] ∧ SlNew w w' s (bL ws) := by
  unfold BlkRes at h
  unfold bE bL
  cases hb : blocksW ws with
  | none =>
    rw [hb] at h
    obtain ⟨rfl, hk⟩ := h
    exact ⟨_, rfl, SlNew.nil rfl hk⟩
  | some L =>
    rw [hb] at h
    obtain ⟨s, rfl, hs⟩ := h
    exact ⟨s, rfl, hs⟩
theorem sl_max {w : World} {E : TypeId} {sz : Nat} {a : Option Addr} {m c : Nat} {xs : List Value} (h : Sl w E sz a m c xs) : m ≤ 9223372036854775807 := by
  obtain ⟨_, h⟩ := h
  rcases h with ⟨_, rfl, _⟩ | ⟨g, cur, _, _, h1, h2, _⟩
  · omega
  · simp [maxLen] at h2; omega
theorem blaw_ok (w : World) (a : Option Addr) (n c : Nat) (ws : List Int) (p : Int) (hW : Rd w a (ws.map iv)) (hn : ws.length = n) (hx : ∀ x ∈ ws, x ≤ 9223372036854775807) :
    Ret Try.prog 5 [.slice a n c, .int .i64 p] w (fun v w' => v = .bool true ∧ Keep [] w w') := by
  refine fn_enter (n := 58) Try.func5 rfl rfl (Nat.le_of_ble_eq_true rfl) (fun e => ?_)
  refine k_seq ?_
  refine k_region ?_
  refine m_bool rfl rfl ?_
  refine o_nil ?_
  refine k_seq ?_
  refine k_seq ?_
  refine k_region ?_
  refine o_call rfl rfl (fixed_ok w) (fun v w1 hv => ?_)
  obtain ⟨rfl, hK1⟩ := hv
  refine u_notb rfl ?_
  refine o_nil ?_
  refine k_condf rfl ?_
  refine k_skip ?_
  refine k_seq ?_
  refine k_seq ?_
  refine k_region ?_
  refine m_sl rfl rfl ?_
  refine o_lens Try.underlying29 rfl ?_
  refine b_gtr rfl rfl ?_
  refine o_nil ?_
  refine k_cond rfl (fun h => ?_) (fun h => ?_)
  ·
    refine k_seq ?_
    refine k_region ?_
    refine m_bool rfl rfl ?_
    refine o_nil ?_
    refine k_ret (ret_tmps (ts := [4]) (v := .bool _) rfl rfl ?_)
    exact ⟨rfl, hK1⟩
  refine k_skip ?_
  refine k_seq ?_
  refine k_region ?_
  refine m_sl rfl rfl ?_
  refine o_call rfl rfl (blocks_ok w1 a n c ws (hW.new hK1) hn (by omega)) (fun v w2 hv => ?_)
  obtain ⟨s2, rfl, a2, c2, rfl, hS2, hK2, hf2⟩ := hv.cut
  refine m_any rfl rfl ?_
  refine o_extr rfl rfl ?_
  refine o_extr rfl rfl ?_
  refine m_sl rfl rfl ?_
  refine m_int rfl rfl ?_
  refine o_nil ?_
  refine k_seq ?_
  refine k_region ?_
  refine m_sl rfl rfl ?_
  refine o_call rfl rfl (rblocks_ok w2 a n c ws (hW.new (hK1.tr hK2)) hn (by omega) hx) (fun v w3 hv => ?_)
  obtain ⟨s3, rfl, a3, c3, rfl, hS3, hK3, hf3⟩ := hv.cut
  refine m_any rfl rfl ?_
  refine o_extr rfl rfl ?_
  refine o_extr rfl rfl ?_
  refine m_sl rfl rfl ?_
  refine m_int rfl rfl ?_
  refine o_nil ?_
  refine k_seq ?_
  refine k_seq ?_
  refine k_region ?_
  refine m_int rfl rfl ?_
  refine m_int rfl rfl ?_
  refine b_neq rfl rfl ?_
  refine m_bool rfl rfl ?_
  refine o_false (t := 28) rfl (fun h => h rfl) ?_
  refine g_yes rfl rfl ?_
  refine m_sl rfl rfl ?_
  refine g_yes rfl rfl ?_
  refine m_sl rfl rfl ?_
  refine g_yes rfl rfl ?_
  refine o_call rfl rfl (same_ok w3 a2 a3 _ _ c2 c3 _ _ (hS2.rd.new hK3) hS3.rd rfl rfl (sl_max hS2)) (fun v w4 hv => ?_)
  obtain ⟨rfl, hK4⟩ := hv
  refine g_yes rfl rfl ?_
  refine u_not rfl ?_
  refine pick_f rfl rfl ?_
  refine m_bool rfl rfl ?_
  refine o_false (t := 34) rfl (fun h => h rfl) ?_
  refine g_yes rfl rfl ?_
  refine m_sl rfl rfl ?_
  refine g_yes rfl rfl ?_
  refine m_int rfl rfl ?_
  refine g_yes rfl rfl ?_
  refine o_call rfl rfl (refs_ok w4 a n c ws p (hW.new (hK1.tr (hK2.tr (hK3.tr hK4)))) hn (by omega)) (fun v w5 hv => ?_)
  obtain ⟨a5, c5, rfl, hS5, hK5, hf5⟩ := hv
  refine g_yes rfl rfl ?_
  refine m_sl rfl rfl ?_
  refine g_yes rfl rfl ?_
  refine m_int rfl rfl ?_
  refine g_yes rfl rfl ?_
  refine o_call rfl rfl (rrefs_ok w5 a n c ws p (hW.new (hK1.tr (hK2.tr (hK3.tr (hK4.tr hK5))))) hn (by omega) hx) (fun v w6 hv => ?_)
  obtain ⟨a6, c6, rfl, hS6, hK6, hf6⟩ := hv
  refine g_yes rfl rfl ?_
  refine o_call rfl rfl (same_ok w6 a5 a6 _ _ c5 c6 _ _ (hS5.rd.new hK6) hS6.rd rfl rfl (sl_max hS5)) (fun v w7 hv => ?_)
  obtain ⟨rfl, hK7⟩ := hv
  refine g_yes rfl rfl ?_
  refine u_not rfl ?_
  refine pick_f rfl rfl ?_
  refine o_nil ?_
  refine k_no rfl (fun h => h rfl) ?_
  refine k_skip ?_
  refine k_seq ?_
  refine k_seq ?_
  refine k_region ?_
  refine m_sl rfl rfl ?_
  refine o_lens Try.underlying29 rfl ?_
  refine m_int rfl rfl ?_
  refine o_nil ?_
  refine k_block ?_
  have hk7 : Keep [] w w7 := hK1.tr (hK2.tr (hK3.tr (hK4.tr (hK5.tr (hK6.tr hK7)))))
  refine k_loop (σ := Nat) (fun i => [(0, .slice a n c), (45, .int .i64 (n : Int)), (46, .int .i64 (i : Int))]) (fun i w' => i ≤ n ∧ Keep [] w w') (fun i => n - i) 0 ⟨rfl, rfl, rfl, trivial⟩ ⟨by omega, hk7⟩ (fun i e w8 hJ => ?_)
  obtain ⟨hi, hk8⟩ := hJ
  refine k_seq ?_
  refine k_region ?_
  refine b_lss rfl rfl ?_
  refine o_nil ?_
  refine k_seq ?_
  refine k_cond rfl (fun h => ?_) (fun h => ?_)
  rotate_left
  ·
    refine k_exit rfl ?_
    refine k_seq ?_
    refine k_region ?_
    refine m_bool rfl rfl ?_
    refine o_nil ?_
    refine k_ret (ret_tmps (ts := [4]) (v := .bool _) rfl rfl ?_)
    exact ⟨rfl, hk8⟩
  refine k_skip ?_
  refine k_seq ?_
  refine k_block ?_
  refine k_seq ?_
  refine k_region ?_
  refine m_int rfl rfl ?_
  refine m_int rfl rfl ?_
  refine o_nil ?_
  refine k_seq ?_
  refine k_region ?_
  refine m_sl rfl rfl ?_
  refine m_int rfl rfl ?_
  refine o_call rfl rfl (refs_ok w8 a n c ws (i : Int) (hW.new hk8) hn (by omega)) (fun v w9 hv => ?_)
  obtain ⟨a9, c9, rfl, hS9, hK9, hf9⟩ := hv
  refine m_sl rfl rfl ?_
  refine m_int rfl rfl ?_
  refine o_call rfl rfl (rrefs_ok w9 a n c ws (i : Int) (hW.new (hk8.tr hK9)) hn (by omega) hx) (fun v w10 hv => ?_)
  obtain ⟨a10, c10, rfl, hS10, hK10, hf10⟩ := hv
  refine o_call rfl rfl (same_ok w10 a9 a10 _ _ c9 c10 _ _ (hS9.rd.new hK10) hS10.rd rfl rfl (sl_max hS9)) (fun v w11 hv => ?_)
  obtain ⟨rfl, hK11⟩ := hv
  refine u_not rfl ?_
  refine o_nil ?_
  refine k_no rfl (fun h => h rfl) ?_
  refine k_skip ?_
  refine k_blk ?_
  refine k_region ?_
  refine n_add rfl rfl (by omega) ?_
  refine m_int rfl rfl ?_
  refine o_nil ?_
  refine k_goal ⟨i + 1, ⟨rfl, rfl, rfl, trivial⟩, ⟨by omega, hk8.tr (hK9.tr (hK10.tr hK11))⟩, by omega⟩
end Go.Proofs.Ytchbidckckmobaa
