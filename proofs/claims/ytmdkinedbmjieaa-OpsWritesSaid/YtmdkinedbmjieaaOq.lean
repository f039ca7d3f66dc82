/- Ops: few, Same of bytes, the walk of OpsBack. No condition beyond what each contract names. -/
import Derived.Test.YtmdkinedbmjieaaOo
namespace Go.Proofs.Ytmdkinedbmjieaa
open Go.RowKit E
set_option linter.unusedVariables false
set_option linter.unusedSimpArgs false
set_option maxRecDepth 100000
attribute [local irreducible] ow qw kw kq cw opW Ret
theorem bsame_ok (w : World) (a b : Option Addr) (c d : Nat) (xs ys : List (BitVec 8)) (hX : Rd w a (xs.map u8v)) (hY : Rd w b (ys.map u8v)) (hl : xs.length ≤ 9223372036854775807) :
    Ret Try.prog 12 [.slice a xs.length c, .slice b ys.length d] w (fun v w' => v = .bool (decide (xs = ys)) ∧ Keep [] w w') := by
  generalize hn : xs.length = n at *
  generalize hm : ys.length = m at *
  refine fn_enter (n := 26) Try.func12 rfl rfl (Nat.le_of_ble_eq_true rfl) (fun e => ?_)
  refine k_seq ?_
  refine k_region ?_
  refine m_bool rfl rfl ?_
  refine o_nil ?_
  refine k_seq ?_
  refine k_seq ?_
  refine k_region ?_
  refine m_sl rfl rfl ?_
  refine o_lens Try.underlying22 rfl ?_
  refine m_sl rfl rfl ?_
  refine o_lens Try.underlying22 rfl ?_
  refine b_neq rfl rfl ?_
  refine o_nil ?_
  refine k_cond rfl (fun h => ?_) (fun h => ?_)
  ·
    refine k_seq ?_
    refine k_region ?_
    refine m_bool rfl rfl ?_
    refine o_nil ?_
    refine k_ret (ret_tmps (ts := [4]) (v := .bool _) rfl rfl ?_)
    exact ⟨congrArg Value.bool (decide_eq_false (fun he => by subst he; omega)).symm, Keep.refl _ _⟩
  have hnm : n = m := by omega
  subst hnm
  refine k_skip ?_
  refine k_seq ?_
  refine k_seq ?_
  refine k_region ?_
  refine m_int rfl rfl ?_
  refine o_nil ?_
  refine k_block ?_
  refine k_loop (σ := Nat) (fun i => [(0, .slice a n c), (1, .slice b n d), (5, .int .i64 (i : Int))]) (fun i w' => i ≤ n ∧ (∀ j, j < i → xs[j]? = ys[j]?) ∧ Keep [] w w') (fun i => n - i) 0 ⟨rfl, rfl, rfl, trivial⟩ ⟨by omega, by intro j hj; omega, Keep.refl _ _⟩ (fun i e w3 hJ => ?_)
  obtain ⟨hi, hpre, hk3⟩ := hJ
  refine k_seq ?_
  refine k_seq ?_
  refine k_region ?_
  refine m_int rfl rfl ?_
  refine m_sl rfl rfl ?_
  refine o_lens Try.underlying22 rfl ?_
  refine b_lss rfl rfl ?_
  refine o_nil ?_
  refine k_cond rfl (fun h => ?_) (fun h => ?_)
  rotate_left
  ·
    refine k_exit rfl ?_
    refine k_seq ?_
    refine k_region ?_
    refine m_bool rfl rfl ?_
    refine o_nil ?_
    refine k_ret (ret_tmps (ts := [4]) (v := .bool _) rfl rfl ?_)
    refine ⟨congrArg Value.bool (decide_eq_true (List.ext_getElem? (fun j => ?_))).symm, hk3⟩
    by_cases hj : j < n
    · exact hpre j (by omega)
    · rw [List.getElem?_eq_none (by omega), List.getElem?_eq_none (by omega)]
  have hin : i < n := by omega
  have hx := List.getElem?_eq_getElem (l := xs) (i := i) (by omega)
  have hy := List.getElem?_eq_getElem (l := ys) (i := i) (by omega)
  obtain ⟨b1, o1, rfl, _⟩ := hX.at i (by simpa using (by omega : i < xs.length))
  obtain ⟨b2, o2, rfl, _⟩ := hY.at i (by simpa using (by omega : i < ys.length))
  refine k_skip ?_
  refine k_seq ?_
  refine k_block ?_
  refine k_seq ?_
  refine k_qk 8 rfl rfl rfl rfl rfl ?_
  refine q_step (fun w1 hC => m_sl rfl rfl (o_nil ⟨rfl, hC⟩)) ?_
  refine q_step (fun w1 hC => m_int rfl rfl (o_nil ⟨rfl, hC⟩)) ?_
  refine q_step (fun w1 hC => o_ixs1 Try.underlying22 rfl rfl rfl hin (o_nil ⟨rfl, hC⟩)) ?_
  refine q_step (fun w1 hC => o_ld rfl rfl (hX.cellK (hk3.tr hC) (u8_at xs i (by omega))) (o_nil ⟨rfl, hC⟩)) ?_
  refine q_step (fun w1 hC => m_sl rfl rfl (o_nil ⟨rfl, hC⟩)) ?_
  refine q_step (fun w1 hC => m_int rfl rfl (o_nil ⟨rfl, hC⟩)) ?_
  refine q_step (fun w1 hC => o_ixs1 Try.underlying22 rfl rfl rfl hin (o_nil ⟨rfl, hC⟩)) ?_
  refine q_step (fun w1 hC => o_ld rfl rfl (hY.cellK (hk3.tr hC) (u8_at ys i (by omega))) (o_nil ⟨rfl, hC⟩)) ?_
  refine q_nil ?_
  intro w4 hC4
  refine v8_neq rfl rfl ?_
  refine o_nil ?_
  refine k_cond rfl (fun h => ?_) (fun h => ?_)
  ·
    refine k_seq ?_
    refine k_region ?_
    refine m_bool rfl rfl ?_
    refine o_nil ?_
    refine k_ret (ret_tmps (ts := [4]) (v := .bool _) rfl rfl ?_)
    exact ⟨congrArg Value.bool (decide_eq_false (fun he => by subst he; exact h rfl)).symm, hk3.tr hC4⟩
  refine k_skip ?_
  refine k_blk ?_
  refine k_region ?_
  refine m_int rfl rfl ?_
  refine n_add rfl rfl (by omega) ?_
  refine m_int rfl rfl ?_
  refine o_nil ?_
  refine k_goal ⟨i + 1, ⟨rfl, rfl, rfl, trivial⟩, ⟨by omega, ?_, hk3.tr hC4⟩, by omega⟩
  intro j hj
  by_cases hji : j = i
  · subst hji
    rw [hx, hy, Decidable.of_not_not h]
  · exact hpre j (by omega)
/-- a row of instructions as an argument: within reach -/
def InB (x : Ins) : Prop := x.keys.length ≤ 17592186044416 ∧ x.jumps.length ≤ 17592186044416
def tot : List Ins → Nat
  | [] => 0
  | x :: l => x.keys.length + x.jumps.length + tot l
theorem tot_snoc : ∀ (l : List Ins) (x : Ins), tot (l ++ [x]) = tot l + (x.keys.length + x.jumps.length)
  | [], x => by simp [tot]
  | y :: l, x => by simp only [List.cons_append, tot, tot_snoc l x]; omega
theorem tot_mem : ∀ {l : List Ins} {x : Ins}, x ∈ l → x.keys.length + x.jumps.length ≤ tot l
  | y :: l, x, h => by
    simp only [tot]
    rcases List.mem_cons.1 h with rfl | h
    · omega
    · have := tot_mem h; omega
theorem few_ok (w : World) (a : Option Addr) (c : Nat) (vs : List Value) (l : List Ins) (hR : Rd w a vs) (hX : Rows (GR w) vs l) (hl : l.length ≤ 9223372036854775807) (hB : ∀ x ∈ l, InB x) :
    Ret Try.prog 13 [.slice a l.length c] w (fun v w' => ∃ b, v = .bool b ∧ Keep [] w w' ∧ (b = true → tot l ≤ 5000 ∧ l.length ≤ 5001)) := by
  refine fn_enter (n := 29) Try.func13 rfl rfl (Nat.le_of_ble_eq_true rfl) (fun e => ?_)
  refine k_seq ?_
  refine k_region ?_
  refine m_bool rfl rfl ?_
  refine o_nil ?_
  refine k_seq ?_
  refine k_region ?_
  refine m_int rfl rfl ?_
  refine o_nil ?_
  refine k_seq ?_
  refine k_seq ?_
  refine k_region ?_
  refine m_sl rfl rfl ?_
  refine o_lens Try.underlying24 rfl ?_
  refine m_int rfl rfl ?_
  refine o_nil ?_
  refine k_block ?_
  refine k_loop (σ := Nat) (fun i => [(3, .int .i64 (tot (l.take i) : Int)), (6, .slice a l.length c), (7, .int .i64 (l.length : Int)), (8, .int .i64 (i : Int))]) (fun i w' => i ≤ l.length ∧ tot (l.take i) ≤ 5000 ∧ i ≤ 5001 ∧ Keep [] w w') (fun i => l.length - i) 0 ⟨rfl, rfl, rfl, rfl, trivial⟩ ⟨Nat.zero_le _, Nat.zero_le _, by omega, Keep.refl _ _⟩ (fun i e w1 hJ => ?_)
  obtain ⟨hi, ht, hi5, hK1⟩ := hJ
  refine k_seq ?_
  refine k_region ?_
  refine b_lss rfl rfl ?_
  refine o_nil ?_
  refine k_seq ?_
  refine k_cond rfl (fun h => ?_) (fun h => ?_)
  rotate_left
  ·
    refine k_exit rfl ?_
    refine k_seq ?_
    refine k_region ?_
    refine m_bool rfl rfl ?_
    refine o_nil ?_
    refine k_ret (ret_tmps (ts := [2]) (v := .bool _) rfl rfl ?_)
    refine ⟨true, rfl, hK1, fun _ => ?_⟩
    rw [List.take_of_length_le (by omega)] at ht
    exact ⟨ht, by omega⟩
  have hin : i < l.length := by omega
  obtain ⟨x, hx⟩ : ∃ x, l[i]? = some x := ⟨_, List.getElem?_eq_getElem hin⟩
  obtain ⟨hb1, hb2⟩ := hB x (List.mem_of_getElem? hx)
  have hts : tot (l.take (i + 1)) = tot (l.take i) + (x.keys.length + x.jumps.length) := by
   rw [List.take_succ_eq_append_getElem hin, tot_snoc]
   rw [List.getElem?_eq_getElem hin] at hx
   rw [Option.some.inj hx]
  obtain ⟨cs, hcs, hat⟩ := hX.get hx
  have h7 := hcs.len
  obtain ⟨v0, hv0⟩ : ∃ v0, cs[0]? = some v0 := ⟨_, List.getElem?_eq_getElem (by omega)⟩
  obtain ⟨b1, o1, rfl, _⟩ := hR _ _ (hat 0 v0 hv0)
  refine k_skip ?_
  refine k_seq ?_
  refine k_block ?_
  refine k_seq ?_
  refine k_region ?_
  refine m_int rfl rfl ?_
  refine o_ixs (sz := 7) Try.underlying24 rfl rfl rfl hin ?_
  have hld : ∀ j v, cs[j]? = some v → w1.cell? ⟨b1, o1 + i * 7 + j, none⟩ = some v := fun j v hv => by rw [Nat.add_assoc]; exact hR.cellK hK1 (hat j v hv)
  refine o_lda (xs := cs) rfl rfl (by rw [h7]; rfl) hld ?_
  refine o_alloc inf38 rfl (fun b w2 hB2 hK2 hb2 hZ2 => ?_)
  refine m_int rfl rfl ?_
  refine o_sta (xs := cs) rfl rfl (by rw [h7]; rfl) hcs.oneR hB2 (by rw [h7]; exact Nat.le_refl 7) (fun w3 hB3 hK3 hZ3 => ?_)
  have hB3' : Blk w3 b (([] ++ cs) ++ []).toArray 38 := by rw [h7] at hB3; exact hB3
  rw [List.nil_append, List.append_nil] at hB3'
  have hK13 : Keep [] w w3 := (hK1.tr hK2).trans hK3 (by simp; have := hK1.size; omega)
  obtain ⟨kv, jv, hce, ⟨ak, ck, hke, hRk, hlk⟩, ⟨aj, cj, hje, hRj, hlj⟩⟩ := hcs
  subst hke hje hce
  refine o_nil ?_
  refine k_seq ?_
  refine k_region ?_
  refine m_int rfl rfl ?_
  refine o_fld (off := 5) rfl rfl ?_
  refine o_ld (v := .slice ak x.keys.length ck) rfl rfl (hB3'.at rfl) ?_
  refine o_lens Try.underlying36 rfl ?_
  refine o_fld (off := 6) rfl rfl ?_
  refine o_ld (v := .slice aj x.jumps.length cj) rfl rfl (hB3'.at rfl) ?_
  refine o_lens Try.underlying36 rfl ?_
  refine n_add rfl rfl (by omega) ?_
  refine n_add rfl rfl (by omega) ?_
  refine m_int rfl rfl ?_
  refine o_nil ?_
  refine k_seq ?_
  refine k_region ?_
  refine m_int rfl rfl ?_
  refine b_gtr rfl rfl ?_
  refine m_bool rfl rfl ?_
  refine o_split (t := 24) rfl (fun h => ?_) (fun h => ?_)
  ·
    refine g_no rfl rfl rfl ?_
    refine g_no rfl rfl rfl ?_
    refine pick_t rfl rfl ?_
    refine o_nil ?_
    refine k_condt rfl ?_
    refine k_seq ?_
    refine k_region ?_
    refine m_bool rfl rfl ?_
    refine o_nil ?_
    refine k_ret (ret_tmps (ts := [2]) (v := .bool _) rfl rfl ?_)
    exact ⟨false, rfl, hK13, fun h => by cases h⟩
  ·
    have h24 := h
    refine g_yes rfl rfl ?_
    refine m_int rfl rfl ?_
    refine g_yes rfl rfl ?_
    refine b_gtr rfl rfl ?_
    refine pick_f rfl rfl ?_
    refine o_nil ?_
    refine k_cond rfl (fun h => ?_) (fun h => ?_)
    ·
      refine k_seq ?_
      refine k_region ?_
      refine m_bool rfl rfl ?_
      refine o_nil ?_
      refine k_ret (ret_tmps (ts := [2]) (v := .bool _) rfl rfl ?_)
      exact ⟨false, rfl, hK13, fun h => by cases h⟩
    refine k_skip ?_
    refine k_blk ?_
    refine k_region ?_
    refine n_add rfl rfl (by omega) ?_
    refine m_int rfl rfl ?_
    refine o_nil ?_
    refine k_goal ⟨i + 1, ⟨?_, rfl, rfl, rfl, trivial⟩, ⟨by omega, by omega, by omega, hK13⟩, by omega⟩
    refine congrArg (Value.int .i64) ?_
    rw [hts]
    omega
set_option maxHeartbeats 1000000 in
theorem back_ok (w : World) (a a1 : Option Addr) (n c m c1 : Nat) (cs : Bs) (vs : List Value) (l : List Ins) (hn : cs.length = n) (hR : Rd w a (cs.map u8v)) (hc : n ≤ c) (hl : c ≤ 9223372036854775807) (hm : l.length = m) (hV : Rd w a1 vs) (hX : Rows (GR w) vs l) (hml : m ≤ 9223372036854775807) (hB : ∀ x ∈ l, InB x) :
    Ret Try.prog 5 [.slice a n c, .slice a1 m c1] w (fun v w' => v = .bool true ∧ Keep [] w w') := by
  subst hn hm
  refine fn_enter (n := 60) Try.func5 rfl rfl (Nat.le_of_ble_eq_true rfl) (fun e => ?_)
  refine k_seq ?_
  refine k_region ?_
  refine m_bool rfl rfl ?_
  refine o_nil ?_
  refine k_seq ?_
  refine k_seq ?_
  refine k_region ?_
  refine o_call rfl rfl (fixed_ok w) (fun v w1 hv => ?_)
  obtain ⟨rfl, hK1⟩ := hv
  refine u_notb rfl ?_
  refine o_nil ?_
  refine k_condf rfl ?_
  refine k_skip ?_
  refine k_seq ?_
  refine k_seq ?_
  refine k_region ?_
  refine m_sl rfl rfl ?_
  refine o_call rfl rfl (few_ok w1 a1 c1 vs l (hV.new hK1) (hX.mono fun v l hv => hv.new hK1) hml hB) (fun v w2 hv => ?_)
  obtain ⟨fb, rfl, hK2, hfew⟩ := hv
  have hK02 := hK1.tr hK2
  refine u_notb rfl ?_
  refine o_nil ?_
  refine k_condb rfl (fun h => ?_) (fun h => ?_)
  ·
    refine k_seq ?_
    refine k_region ?_
    refine m_bool rfl rfl ?_
    refine o_nil ?_
    refine k_ret (ret_tmps (ts := [4]) (v := .bool _) rfl rfl ?_)
    exact ⟨rfl, hK02⟩
  obtain ⟨htot, hl5⟩ := hfew (by cases fb <;> simp_all)
  refine k_skip ?_
  refine k_seq ?_
  refine k_region ?_
  refine m_sl rfl rfl ?_
  refine o_call rfl rfl (read_ok w2 a c cs (hR.new hK02) hc (by omega)) (fun v w3 hv => ?_)
  obtain ⟨a3, c3, vs3, rfl, hS3, hX3, hf3, hK3⟩ := hv
  have hK03 := hK02.tr hK3
  refine m_any rfl rfl ?_
  refine o_extr rfl rfl ?_
  refine o_extr rfl rfl ?_
  refine m_sl rfl rfl ?_
  refine m_int rfl rfl ?_
  refine o_nil ?_
  refine k_seq ?_
  refine k_seq ?_
  refine k_region ?_
  refine m_int rfl rfl ?_
  refine b_eql rfl rfl ?_
  refine o_nil ?_
  refine k_cut (σ := Unit) (fun s => [(1, .slice a1 l.length c1)]) (fun s w' => Keep [] w w') ?_ (fun s e w5 hJ => ?_)
  ·
    refine k_cond rfl (fun h => ?_) (fun h => ?_)
    ·
      have hwr := wr_yes (wr_rd h)
      refine k_seq ?_
      refine k_region ?_
      refine m_sl rfl rfl ?_
      refine o_call rfl rfl (write_ok w3 a3 c3 vs3 (rdV cs) hS3.rd (hX3.mono fun v l hv => hv.gr) (sl_max hS3) (fun x hx => by have := rdV_keys x hx; omega)) (fun v w4 hv => ?_)
      obtain ⟨a4, c4, rfl, hS4, hf4, hK4⟩ := hv
      rw [hwr.1] at hS4
      rw [hwr.1, hwr.2]
      refine m_any rfl rfl ?_
      refine o_extr rfl rfl ?_
      refine o_extr rfl rfl ?_
      refine m_sl rfl rfl ?_
      refine m_int rfl rfl ?_
      refine o_nil ?_
      refine k_seq ?_
      refine k_region ?_
      refine m_int rfl rfl ?_
      refine b_neq rfl rfl ?_
      refine m_bool rfl rfl ?_
      refine o_false (t := 32) rfl ((by decide)) ?_
      refine g_yes rfl rfl ?_
      refine m_sl rfl rfl ?_
      refine g_yes rfl rfl ?_
      refine m_sl rfl rfl ?_
      refine g_yes rfl rfl ?_
      refine o_call rfl rfl (bsame_ok w4 a4 a c4 c cs cs hS4.rd (hR.new (hK03.tr hK4)) (by omega)) (fun v w5 hv => ?_)
      obtain ⟨rfl, hK5⟩ := hv
      rw [decide_eq_true rfl]
      refine g_yes rfl rfl ?_
      refine u_notb rfl ?_
      refine pick_f rfl rfl ?_
      refine o_nil ?_
      refine k_condf rfl ?_
      refine k_skip ?_
      refine k_goal ⟨(), ⟨rfl, trivial⟩, (hK03.tr hK4).tr hK5⟩
    refine k_skip ?_
    refine k_goal ⟨(), ⟨rfl, trivial⟩, hK03⟩
  refine k_seq ?_
  refine k_region ?_
  refine m_sl rfl rfl ?_
  refine o_call rfl rfl (write_ok w5 a1 c1 vs l (hV.new hJ) (hX.mono fun v l hv => hv.new hJ) hml (fun x hx => by have := tot_mem hx; omega)) (fun v w6 hv => ?_)
  obtain ⟨a6, c6, rfl, hS6, hf6, hK6⟩ := hv
  have hK06 := hJ.tr hK6
  have hwn : wrE l ≠ 0 → wrV l = [] := by
   intro h
   cases hw : wr l with
   | none => exact (wr_no hw).1
   | some b => exact absurd (wr_yes hw).2 h
  have hwy : wrE l = 0 → rdV (wrV l) = l ∧ rdE (wrV l) = 0 := by
   intro h
   cases hw : wr l with
   | none => rw [(wr_no hw).2] at h; cases h
   | some b => rw [(wr_yes hw).1]; exact rd_wr hw
  refine m_any rfl rfl ?_
  refine o_extr rfl rfl ?_
  refine o_extr rfl rfl ?_
  refine m_sl rfl rfl ?_
  refine m_int rfl rfl ?_
  refine o_nil ?_
  refine k_seq ?_
  refine k_seq ?_
  refine k_region ?_
  refine m_int rfl rfl ?_
  refine b_neq rfl rfl ?_
  refine o_nil ?_
  refine k_cond rfl (fun h => ?_) (fun h => ?_)
  ·
    refine k_seq ?_
    refine k_region ?_
    refine m_sl rfl rfl ?_
    refine o_lens Try.underlying22 rfl ?_
    refine b_eql rfl rfl ?_
    refine m_bool rfl rfl ?_
    refine o_nil ?_
    refine k_ret (ret_tmps (ts := [4]) (v := .bool _) rfl rfl ?_)
    exact ⟨congrArg Value.bool (decide_eq_true (by rw [hwn h]; rfl)), hK06⟩
  obtain ⟨hy1, hy2⟩ := hwy (Decidable.of_not_not h)
  refine k_skip ?_
  refine k_seq ?_
  refine k_region ?_
  refine m_sl rfl rfl ?_
  refine o_call rfl rfl (read_ok w6 a6 c6 (wrV l) hS6.rd hS6.le (sl_max hS6)) (fun v w7 hv => ?_)
  obtain ⟨a7, c7, vs7, rfl, hS7, hX7, hf7, hK7⟩ := hv
  rw [hy1] at hS7 hX7
  rw [hy1, hy2]
  refine m_any rfl rfl ?_
  refine o_extr rfl rfl ?_
  refine o_extr rfl rfl ?_
  refine m_sl rfl rfl ?_
  refine m_int rfl rfl ?_
  refine o_nil ?_
  refine k_seq ?_
  refine k_region ?_
  refine m_int rfl rfl ?_
  refine b_eql rfl rfl ?_
  refine m_bool rfl rfl ?_
  refine o_true (t := 55) rfl (rfl) ?_
  refine g_yes rfl rfl ?_
  refine m_sl rfl rfl ?_
  refine g_yes rfl rfl ?_
  refine m_sl rfl rfl ?_
  refine g_yes rfl rfl ?_
  refine o_call rfl rfl (rsame_ok w7 a1 a7 c1 c7 vs vs7 l l (hV.new (hK06.tr hK7)) (hX.mono fun v l hv => hv.new (hK06.tr hK7)) hS7.rd (hX7.mono fun v l hv => hv.gr) hml hml) (fun v w8 hv => ?_)
  obtain ⟨rfl, hK8⟩ := hv
  refine pick_t rfl rfl ?_
  refine m_bool rfl rfl ?_
  refine o_nil ?_
  refine k_ret (ret_tmps (ts := [4]) (v := .bool _) rfl rfl ?_)
  exact ⟨congrArg Value.bool (decide_eq_true rfl), (hK06.tr hK7).tr hK8⟩
/-- an argument's instructions -/
theorem ins_of {H : Type} {enc : TypeId × Value → H} {W : World} {cs : List Value} (h : Tr enc Try.prog W 38 cs) (hl : cs.length = 7) : ∃ x : Ins, insC (GR W) cs x ∧ InB x := by
  have ht := h.any
  obtain ⟨x0, h0, _⟩ := fld_int (P := Try.prog) (i := 0) ht Try.underlying38 rfl (by kernel_rfl) Try.underlying3
  obtain ⟨x1, h1, _⟩ := fld_int (P := Try.prog) (i := 1) ht Try.underlying38 rfl (by kernel_rfl) Try.underlying3
  obtain ⟨x2, h2, _⟩ := fld_int (P := Try.prog) (i := 2) ht Try.underlying38 rfl (by kernel_rfl) Try.underlying3
  obtain ⟨x3, h3, _⟩ := fld_int (P := Try.prog) (i := 3) ht Try.underlying38 rfl (by kernel_rfl) Try.underlying3
  obtain ⟨x4, h4, _⟩ := fld_int (P := Try.prog) (i := 4) ht Try.underlying38 rfl (by kernel_rfl) Try.underlying3
  have grow : ∀ {cs : List Value}, Tr enc Try.prog W 36 cs → ∃ v xs, cs = [v] ∧ GR W v xs ∧ xs.length ≤ 17592186044416 := by
    intro cs h
    obtain ⟨a, len, cap, zs, h1, h2, h4⟩ := h.row (k := .i64) (e := 3) Try.underlying36 Try.underlying3 (by kernel_rfl)
    obtain ⟨xs, h5, h6, h7, h8, _⟩ := row_i64 h2
    rw [show Try.prog.bytesOf 3 = 8 from by kernel_rfl] at h4
    exact ⟨_, xs, h1, ⟨a, cap, by rw [h5], h8, by omega⟩, by omega⟩
  obtain ⟨v5, x5, h5, g5, l5⟩ := grow (h.fld (P := Try.prog) (i := 5) Try.underlying38 rfl (by kernel_rfl))
  obtain ⟨v6, x6, h6, g6, l6⟩ := grow (h.fld (P := Try.prog) (i := 6) Try.underlying38 rfl (by kernel_rfl))
  replace h5 := take1 h5
  replace h6 := take1 h6
  refine ⟨⟨x0, x1, x2, x3, x4, x5, x6⟩, ⟨v5, v6, ?_, g5, g6⟩, l5, l6⟩
  match cs, hl with
  | [c0, c1, c2, c3, c4, c5, c6], _ =>
    cases h0; cases h1; cases h2; cases h3; cases h4; cases h5; cases h6
    rfl
theorem rows_of {H : Type} {enc : TypeId × Value → H} {W : World} : ∀ {css : List (List Value)}, (∀ cs ∈ css, cs.length = 7) → (∀ cs ∈ css, Tr enc Try.prog W 38 cs) → ∃ l : List Ins, l.length = css.length ∧ Rows (GR W) css.flatten l ∧ ∀ x ∈ l, InB x
  | [], _, _ => ⟨[], rfl, .nil, by simp⟩
  | cs :: css, h1, h2 => by
    obtain ⟨x, hx, hb⟩ := ins_of (h2 cs (by simp)) (h1 cs (by simp))
    obtain ⟨l, hl, hr, hB⟩ := rows_of (css := css) (fun c hc => h1 c (by simp [hc])) (fun c hc => h2 c (by simp [hc]))
    exact ⟨x :: l, by simp [hl], .cons hx hr, fun y hy => (List.mem_cons.1 hy).elim (fun e => e ▸ hb) (hB y)⟩
end Go.Proofs.Ytmdkinedbmjieaa
