/- Ops: rows of instructions lie one behind the other; the walk of OpsRows. No condition beyond what each contract names. -/
import Derived.Test.YtmdkinedbmjieaaOm
namespace Go.Proofs.Ytmdkinedbmjieaa
open Go.RowKit E
set_option linter.unusedVariables false
set_option linter.unusedSimpArgs false
set_option maxRecDepth 100000
attribute [local irreducible] ow qw kw kq cw opW Ret
/-- where instructions lie -/
theorem rdFrom_places {cs : Bs} : ∀ (xs : List Ins) (p : Nat), p ≤ cs.length → rdFrom cs p = some xs →
    ∃ f : Nat → Nat, f 0 = p ∧ f xs.length = cs.length ∧ ∀ (i : Nat) (x : Ins), xs[i]? = some x → x.p = (f i : Int) ∧ 1 ≤ x.len ∧ (f (i + 1) : Int) = f i + x.len ∧ rdOne cs (f i) = some x ∧ f i < cs.length
  | [], p, hp, h => by
    refine ⟨fun _ => p, rfl, ?_, fun i x hx => by simp at hx⟩
    refine Decidable.byContradiction fun hne => ?_
    have hlt : p < cs.length := by simp at hne; omega
    cases h1 : rdOne cs p with
    | none => rw [rdFrom_none hlt h1] at h; cases h
    | some x =>
      rw [rdFrom_some hlt h1] at h
      cases h2 : rdFrom cs (p + x.len.toNat) with
      | none => rw [h2] at h; cases h
      | some ys => rw [h2] at h; cases h
  | x :: xs, p, hp, h => by
    have hlt : p < cs.length := by
      refine Decidable.byContradiction fun hh => ?_
      rw [rdFrom_end hh] at h; cases h
    cases h1 : rdOne cs p with
    | none => rw [rdFrom_none hlt h1] at h; cases h
    | some y =>
      rw [rdFrom_some hlt h1] at h
      have hy := rdOne_len h1 hlt
      cases h2 : rdFrom cs (p + y.len.toNat) with
      | none => rw [h2] at h; cases h
      | some ys =>
        rw [h2] at h
        simp only [Option.map_some, Option.some.injEq, List.cons.injEq] at h
        obtain ⟨rfl, rfl⟩ := h
        obtain ⟨f, f0, fn, ff⟩ := rdFrom_places ys (p + y.len.toNat) (by omega) h2
        refine ⟨fun i => match i with | 0 => p | i + 1 => f i, rfl, fn, fun i x hx => ?_⟩
        cases i with
        | zero =>
          simp only [List.getElem?_cons_zero, Option.some.injEq] at hx
          subst hx
          refine ⟨hy.1, hy.2.1, ?_, h1, hlt⟩
          show (f 0 : Int) = (p : Int) + y.len
          rw [f0]; omega
        | succ i => exact ff i x (by simpa using hx)
theorem places_lt {n : Nat} {xs : List Ins} {f : Nat → Nat} (ff : ∀ (i : Nat) (x : Ins), xs[i]? = some x → x.p = (f i : Int) ∧ 1 ≤ x.len ∧ (f (i + 1) : Int) = f i + x.len) : ∀ (j i : Nat), i < j → j ≤ xs.length → f i < f j
  | 0, i, hi, _ => by omega
  | j + 1, i, hi, hj => by
    obtain ⟨x, hx⟩ : ∃ x, xs[j]? = some x := ⟨_, List.getElem?_eq_getElem (by omega)⟩
    have h1 := ff j x hx
    by_cases hij : i = j
    · subst hij; omega
    · have := places_lt (n := n) ff j i (by omega) (by omega); omega
theorem atI_cases (xs : List Ins) (t : Int) : (atI xs t = -1 ∧ ∀ x ∈ xs, x.p ≠ t) ∨ ∃ (k : Nat) (x : Ins), atI xs t = (k : Int) ∧ xs[k]? = some x ∧ x.p = t := by
  unfold atI
  cases h : xs.findIdx? (fun x => decide (x.p = t)) with
  | none =>
    refine .inl ⟨rfl, fun x hx => ?_⟩
    have := List.findIdx?_eq_none_iff.1 h x hx
    simpa using this
  | some k =>
    obtain ⟨hk, h1, _⟩ := List.findIdx?_eq_some_iff_getElem.1 h
    exact .inr ⟨k, _, rfl, List.getElem?_eq_getElem hk, by simpa using h1⟩
theorem atI_place {xs : List Ins} {f : Nat → Nat} (ff : ∀ (i : Nat) (x : Ins), xs[i]? = some x → x.p = (f i : Int) ∧ 1 ≤ x.len ∧ (f (i + 1) : Int) = f i + x.len) (i : Nat) (hi : i < xs.length) : atI xs (f i : Int) = (i : Int) := by
  unfold atI
  have hx := ff i _ (List.getElem?_eq_getElem hi)
  rw [List.findIdx?_eq_some_iff_getElem.2 ⟨hi, decide_eq_true hx.1, fun j hj => by
    have h1 := ff j _ (List.getElem?_eq_getElem (show j < xs.length by omega))
    have h2 := places_lt (n := 0) ff i j hj (by omega)
    simp only [decide_eq_true_eq]
    omega⟩]
theorem rd_out {cs : Bs} (h : rdE cs ≠ 0) : rdV cs = [] := by
  unfold rdE at h
  unfold rdV
  split at h
  next h0 =>
    rw [if_pos h0]
    cases hr : rd cs with
    | none => rfl
    | some y => rw [hr] at h; exact absurd rfl h
  next h0 => rw [if_neg h0]
theorem rd_in {cs : Bs} (h : rdE cs = 0) : cs.length ≤ 4096 ∧ rd cs = some (rdV cs) ∧ rdFrom cs 0 = some (rdV cs) ∧ rdV cs ≠ [] ∧ lands (rdV cs) := by
  unfold rdE at h
  by_cases h0 : cs.length ≤ 4096
  · rw [if_pos h0] at h
    unfold rdV
    rw [if_pos h0]
    cases hr : rd cs with
    | none => rw [hr] at h; exact absurd h (by decide)
    | some y =>
      refine ⟨h0, rfl, ?_⟩
      unfold rd at hr
      cases hf : rdFrom cs 0 with
      | none => rw [hf] at hr; cases hr
      | some xs =>
        rw [hf] at hr
        simp only at hr
        split at hr
        next hc => cases hr; exact ⟨rfl, hc⟩
        next => cases hr
  · rw [if_neg h0] at h; exact absurd h (by decide)
set_option maxHeartbeats 1000000 in
theorem rlaw_ok (w : World) (a : Option Addr) (n c : Nat) (cs : Bs) (place : Int) (hn : cs.length = n) (hR : Rd w a (cs.map u8v)) (hc : n ≤ c) (hl : c ≤ 9223372036854775807) :
    Ret Try.prog 6 [.slice a n c, .int .i64 place] w (fun v w' => v = .bool true ∧ Keep [] w w') := by
  subst hn
  refine fn_enter (n := 102) Try.func6 rfl rfl (Nat.le_of_ble_eq_true rfl) (fun e => ?_)
  refine k_seq ?_
  refine k_region ?_
  refine m_bool rfl rfl ?_
  refine o_nil ?_
  refine k_seq ?_
  refine k_seq ?_
  refine k_region ?_
  refine o_call rfl rfl (fixed_ok w) (fun v w1 hv => ?_)
  obtain ⟨rfl, hK1⟩ := hv
  refine u_notb rfl ?_
  refine o_nil ?_
  refine k_condf rfl ?_
  refine k_skip ?_
  refine k_seq ?_
  refine k_region ?_
  refine m_sl rfl rfl ?_
  refine o_call rfl rfl (read_ok w1 a c cs (hR.new hK1) hc (by omega)) (fun v w2 hv => ?_)
  obtain ⟨a2, c2, vs, rfl, hS2, hX2, hf2, hK2⟩ := hv
  have hK02 := hK1.tr hK2
  have hXs : ∀ w', Keep [] w2 w' → Rows (GR w') vs (rdV cs) := fun w' hk => hX2.mono (fun v l hv => hv.gr.new hk)
  have hlr := sl_max hS2
  refine m_any rfl rfl ?_
  refine o_extr rfl rfl ?_
  refine o_extr rfl rfl ?_
  refine m_sl rfl rfl ?_
  refine m_int rfl rfl ?_
  refine o_nil ?_
  refine k_seq ?_
  refine k_seq ?_
  refine k_region ?_
  refine m_int rfl rfl ?_
  refine b_neq rfl rfl ?_
  refine o_nil ?_
  refine k_cond rfl (fun h => ?_) (fun h => ?_)
  ·
    have hv0 : rdV cs = [] := rd_out h
    refine k_seq ?_
    refine k_region ?_
    refine m_sl rfl rfl ?_
    refine o_lens Try.underlying24 rfl ?_
    refine b_eql rfl rfl ?_
    refine m_bool rfl rfl ?_
    refine o_true (t := 26) rfl ((by rw [hv0]; rfl)) ?_
    refine g_yes rfl rfl ?_
    refine m_sl rfl rfl ?_
    refine g_yes rfl rfl ?_
    refine m_int rfl rfl ?_
    refine g_yes rfl rfl ?_
    refine o_call rfl rfl (at_ok w2 a2 c2 vs (rdV cs) place hS2.rd (hXs _ (Keep.refl _ _)) hlr) (fun v w3 hv => ?_)
    obtain ⟨rfl, hK3⟩ := hv
    refine g_yes rfl rfl ?_
    refine b_eql rfl rfl ?_
    refine pick_t rfl rfl ?_
    refine m_bool rfl rfl ?_
    refine o_nil ?_
    refine k_ret (ret_tmps (ts := [4]) (v := .bool _) rfl rfl ?_)
    refine ⟨congrArg Value.bool (decide_eq_true ?_), hK02.tr hK3⟩
    rw [hv0]; rfl
  have hE0 : rdE cs = 0 := Decidable.of_not_not h
  obtain ⟨h4096, _, hrf, hne, hlnd⟩ := rd_in hE0
  obtain ⟨f, f0, fn, ff0⟩ := rdFrom_places _ 0 (Nat.zero_le _) hrf
  have ff : ∀ (i : Nat) (x : Ins), (rdV cs)[i]? = some x → x.p = (f i : Int) ∧ 1 ≤ x.len ∧ (f (i + 1) : Int) = f i + x.len := fun i x hx => ⟨(ff0 i x hx).1, (ff0 i x hx).2.1, (ff0 i x hx).2.2.1⟩
  have hfle : ∀ i, i ≤ (rdV cs).length → f i ≤ cs.length := fun i hi => by
   by_cases hie : i = (rdV cs).length
   · rw [hie, fn]; exact Nat.le_refl _
   · have := places_lt (n := 0) ff (rdV cs).length i (by omega) (Nat.le_refl _); omega
  have hlen : (rdV cs).length ≤ cs.length := by
   have : ∀ i, i ≤ (rdV cs).length → i ≤ f i := by
    intro i
    induction i with
    | zero => intro _; exact Nat.zero_le _
    | succ i ih =>
     intro hi
     have := places_lt (n := 0) ff (i + 1) i (by omega) hi
     have := ih (by omega)
     omega
   have := this _ (Nat.le_refl _)
   omega
  refine k_skip ?_
  refine k_seq ?_
  refine k_region ?_
  refine m_int rfl rfl ?_
  refine o_nil ?_
  refine k_seq ?_
  refine k_seq ?_
  refine k_region ?_
  refine m_sl rfl rfl ?_
  refine o_lens Try.underlying24 rfl ?_
  refine m_int rfl rfl ?_
  refine o_nil ?_
  refine k_block ?_
  refine k_loop (σ := Nat) (fun i => [(0, .slice a cs.length c), (1, .int .i64 place), (5, .slice a2 (rdV cs).length c2), (7, .int .i64 (f i : Int)), (32, .slice a2 (rdV cs).length c2), (33, .int .i64 ((rdV cs).length : Int)), (34, .int .i64 (i : Int))]) (fun i w' => i ≤ (rdV cs).length ∧ Keep [] w2 w') (fun i => (rdV cs).length - i) 0 ⟨rfl, rfl, rfl, by rw [f0]; rfl, rfl, rfl, rfl, trivial⟩ ⟨Nat.zero_le _, Keep.refl _ _⟩ (fun i e w3 hJ => ?_)
  obtain ⟨hi, hK3⟩ := hJ
  refine k_seq ?_
  refine k_region ?_
  refine b_lss rfl rfl ?_
  refine o_nil ?_
  refine k_seq ?_
  refine k_cond rfl (fun h => ?_) (fun h => ?_)
  rotate_left
  ·
    refine k_exit rfl ?_
    refine k_seq ?_
    refine k_region ?_
    refine m_sl rfl rfl ?_
    refine m_int rfl rfl ?_
    refine o_call rfl rfl (at_ok w3 a2 c2 vs (rdV cs) place (hS2.rd.new hK3) (hXs _ hK3) hlr) (fun v w4 hv => ?_)
    obtain ⟨rfl, hK4⟩ := hv
    refine m_int rfl rfl ?_
    refine o_nil ?_
    refine k_seq ?_
    refine k_region ?_
    refine m_int rfl rfl ?_
    refine m_sl rfl rfl ?_
    refine o_lens Try.underlying22 rfl ?_
    refine b_eql rfl rfl ?_
    refine m_bool rfl rfl ?_
    refine o_true (t := 89) rfl ((show (f i : Int) = (cs.length : Int) by rw [show i = (rdV cs).length by omega, fn])) ?_
    refine g_yes rfl rfl ?_
    refine m_int rfl rfl ?_
    refine g_yes rfl rfl ?_
    refine b_lss rfl rfl ?_
    refine g_yes rfl rfl ?_
    refine m_bool rfl rfl ?_
    refine o_split (t := 92) rfl (fun h => ?_) (fun h => ?_)
    ·
      refine g_no rfl rfl rfl ?_
      refine g_no rfl rfl rfl ?_
      refine g_no rfl rfl rfl ?_
      refine g_no rfl rfl rfl ?_
      refine g_no rfl rfl rfl ?_
      refine g_no rfl rfl rfl ?_
      refine g_no rfl rfl rfl ?_
      refine g_yes rfl rfl ?_
      refine pick_t rfl rfl ?_
      refine pick_t rfl rfl ?_
      refine m_bool rfl rfl ?_
      refine o_nil ?_
      refine k_ret (ret_tmps (ts := [4]) (v := .bool _) rfl rfl ?_)
      exact ⟨rfl, (hK02.tr hK3).tr hK4⟩
    ·
      have hat := (atI_cases (rdV cs) place).resolve_left (fun hh => h (by rw [hh.1]; decide))
      obtain ⟨k, x, hke, hkx, hxp⟩ := hat
      have hkl := (List.getElem?_eq_some_iff.1 hkx).1
      obtain ⟨cx, hcx, hatx⟩ := (hXs _ (hK3.tr hK4)).get hkx
      have h0 : cx[0]? = some (iv x.p) := by obtain ⟨kv, jv, rfl, _⟩ := hcx; rfl
      obtain ⟨b1, o1, rfl, _⟩ := hS2.rd _ _ (hatx 0 _ h0)
      refine g_yes rfl rfl ?_
      refine m_sl rfl rfl ?_
      refine g_yes rfl rfl ?_
      refine m_int rfl rfl ?_
      refine g_yes rfl rfl ?_
      refine o_ixs (sz := 7) (m := k) Try.underlying24 rfl rfl (congrArg (Value.int .i64) hke) hkl ?_
      refine g_yes rfl rfl ?_
      refine o_fld0 rfl rfl ?_
      refine g_yes rfl rfl ?_
      refine o_ld (v := iv x.p) rfl rfl (hS2.rd.cellK (hK3.tr hK4) (hatx 0 _ h0)) ?_
      refine g_yes rfl rfl ?_
      refine m_int rfl rfl ?_
      refine g_yes rfl rfl ?_
      refine b_eql rfl rfl ?_
      refine g_yes rfl rfl ?_
      refine pick_f rfl rfl ?_
      refine pick_t rfl rfl ?_
      refine m_bool rfl rfl ?_
      refine o_nil ?_
      refine k_ret (ret_tmps (ts := [4]) (v := .bool _) rfl rfl ?_)
      exact ⟨congrArg Value.bool (decide_eq_true hxp), (hK02.tr hK3).tr hK4⟩
  have hin : i < (rdV cs).length := by omega
  obtain ⟨x, hx⟩ : ∃ x, (rdV cs)[i]? = some x := ⟨_, List.getElem?_eq_getElem hin⟩
  obtain ⟨hxp, hxl, hxn⟩ := ff i x hx
  have hfl := hfle (i + 1) (by omega)
  obtain ⟨cx, hcx, hatx⟩ := (hXs _ hK3).get hx
  have h7 := hcx.len
  obtain ⟨v0, hv0⟩ : ∃ v0, cx[0]? = some v0 := ⟨_, List.getElem?_eq_getElem (by omega)⟩
  have hRA := hS2.rd
  obtain ⟨b1, o1, hae, _⟩ := hRA _ _ (hatx 0 v0 hv0)
  subst hae
  refine k_skip ?_
  refine k_seq ?_
  refine k_block ?_
  refine k_seq ?_
  refine k_region ?_
  refine m_int rfl rfl ?_
  refine o_ixs (sz := 7) Try.underlying24 rfl rfl rfl hin ?_
  have hld : ∀ j v, cx[j]? = some v → w3.cell? ⟨b1, o1 + i * 7 + j, none⟩ = some v := fun j v hv => by rw [Nat.add_assoc]; exact hRA.cellK hK3 (hatx j v hv)
  refine o_lda (xs := cx) rfl rfl (by rw [h7]; rfl) hld ?_
  refine o_alloc inf38 rfl (fun b w4 hB4 hK4 hb4 hZ4 => ?_)
  refine m_int rfl rfl ?_
  refine o_sta (xs := cx) rfl rfl (by rw [h7]; rfl) hcx.oneR hB4 (by rw [h7]; exact Nat.le_refl 7) (fun w5 hB5 hK5 hZ5 => ?_)
  have hB5' : Blk w5 b (([] ++ cx) ++ []).toArray 38 := by rw [h7] at hB5; exact hB5
  rw [List.nil_append, List.append_nil] at hB5'
  have hK25 : Keep [] w2 w5 := (hK3.tr hK4).trans hK5 (by simp; have := hK3.size; omega)
  have hcxs := hcx
  obtain ⟨kv, jv, hce, hkv, hjv⟩ := hcx
  subst hce
  refine o_nil ?_
  refine k_seq ?_
  refine k_seq ?_
  refine k_region ?_
  refine o_fld0 rfl rfl ?_
  refine o_ld (v := iv x.p) rfl rfl (hB5'.at rfl) ?_
  refine m_int rfl rfl ?_
  refine b_neq rfl rfl ?_
  refine m_bool rfl rfl ?_
  refine o_false (t := 43) rfl ((fun hh => hh hxp)) ?_
  refine g_yes rfl rfl ?_
  refine o_fld (off := 1) rfl rfl ?_
  refine g_yes rfl rfl ?_
  refine o_ld (v := iv x.len) rfl rfl (hB5'.at rfl) ?_
  refine g_yes rfl rfl ?_
  refine b_lss rfl rfl ?_
  refine pick_f rfl rfl ?_
  refine m_bool rfl rfl ?_
  refine o_false (t := 48) rfl ((by show ¬ x.len < 1; omega)) ?_
  refine g_yes rfl rfl ?_
  refine m_sl rfl rfl ?_
  refine g_yes rfl rfl ?_
  refine m_int rfl rfl ?_
  refine g_yes rfl rfl ?_
  refine o_call rfl rfl (at_ok w5 _ c2 vs (rdV cs) (f i : Int) (hRA.new hK25) (hXs _ hK25) hlr) (fun v w6 hv => ?_)
  obtain ⟨rfl, hK6⟩ := hv
  have hB6 := hB5'.keep hK6 (by simp)
  have hK26 := hK25.tr hK6
  refine g_yes rfl rfl ?_
  refine m_int rfl rfl ?_
  refine g_yes rfl rfl ?_
  refine b_neq rfl rfl ?_
  refine pick_f rfl rfl ?_
  refine o_nil ?_
  refine k_no rfl ((fun hh => hh (atI_place ff i hin))) ?_
  refine k_skip ?_
  refine k_seq ?_
  refine k_region ?_
  refine m_int rfl rfl ?_
  refine o_fld (off := 1) rfl rfl ?_
  refine o_ld (v := iv x.len) rfl rfl (hB6.at rfl) ?_
  refine n_add rfl rfl (by omega) ?_
  rw [← hxn]
  refine m_int rfl rfl ?_
  refine o_nil ?_
  refine k_seq ?_
  refine k_region ?_
  refine o_fld (off := 6) rfl rfl ?_
  refine o_ld rfl rfl (hB6.at rfl) ?_
  obtain ⟨aj, cj, hje, hRj, hlj⟩ := hjv
  subst hje
  refine o_lens Try.underlying36 rfl ?_
  refine m_int rfl rfl ?_
  refine o_nil ?_
  refine k_block ?_
  refine k_loop (σ := Nat) (fun k => [(0, .slice a cs.length c), (1, .int .i64 place), (5, .slice (some ⟨b1, o1, none⟩) (rdV cs).length c2), (7, .int .i64 (f (i + 1) : Int)), (32, .slice (some ⟨b1, o1, none⟩) (rdV cs).length c2), (33, .int .i64 ((rdV cs).length : Int)), (34, .int .i64 (i : Int)), (60, .slice aj x.jumps.length cj), (61, .int .i64 (x.jumps.length : Int)), (62, .int .i64 (k : Int))]) (fun k w' => k ≤ x.jumps.length ∧ Keep [] w6 w') (fun k => x.jumps.length - k) 0 ⟨rfl, rfl, rfl, rfl, rfl, rfl, rfl, rfl, rfl, rfl, trivial⟩ ⟨Nat.zero_le _, Keep.refl _ _⟩ (fun k e w7 hJ => ?_)
  obtain ⟨hk, hK7⟩ := hJ
  refine k_seq ?_
  refine k_region ?_
  refine b_lss rfl rfl ?_
  refine o_nil ?_
  refine k_seq ?_
  refine k_cond rfl (fun h => ?_) (fun h => ?_)
  rotate_left
  ·
    refine k_exit rfl ?_
    refine k_blk ?_
    refine k_region ?_
    refine n_add rfl rfl (by omega) ?_
    refine m_int rfl rfl ?_
    refine o_nil ?_
    refine k_goal ⟨i + 1, ⟨rfl, rfl, rfl, rfl, rfl, rfl, rfl, trivial⟩, ⟨by omega, hK26.tr hK7⟩, by omega⟩
  have hkn : k < x.jumps.length := by omega
  have hkx := iv_at x.jumps k hkn
  obtain ⟨bj, oj, hje, _⟩ := hRj _ _ hkx
  subst hje
  have hK37 : Keep [] w3 w7 := ((hK4.trans hK5 (by simp; omega)).tr hK6).tr hK7
  refine k_skip ?_
  refine k_seq ?_
  refine k_block ?_
  refine k_seq ?_
  refine k_region ?_
  refine o_ixs1 Try.underlying36 rfl rfl rfl hkn ?_
  refine o_ld (v := iv (x.jumps[k])) rfl rfl (hRj.cellK hK37 hkx) ?_
  refine m_int rfl rfl ?_
  refine o_nil ?_
  refine k_seq ?_
  refine k_region ?_
  refine m_sl rfl rfl ?_
  refine m_int rfl rfl ?_
  refine o_call rfl rfl (at_ok w7 _ c2 vs (rdV cs) (x.jumps[k]) (hRA.new (hK26.tr hK7)) (hXs _ (hK26.tr hK7)) hlr) (fun v w8 hv => ?_)
  obtain ⟨rfl, hK8⟩ := hv
  have hat := (atI_cases (rdV cs) (x.jumps[k])).resolve_left (fun hh => by
   have := hlnd x (List.mem_of_getElem? hx) (x.jumps[k]) (List.getElem_mem hkn)
   obtain ⟨y, hy, hye⟩ := List.mem_map.1 this
   exact hh.2 y hy hye)
  obtain ⟨q, y, hqe, hqy, hyp⟩ := hat
  have hql := (List.getElem?_eq_some_iff.1 hqy).1
  have hK28 := (hK26.tr hK7).tr hK8
  obtain ⟨cy, hcy, haty⟩ := (hXs _ hK28).get hqy
  have hy0 : cy[0]? = some (iv y.p) := by obtain ⟨kv, jv, rfl, _⟩ := hcy; rfl
  refine m_int rfl rfl ?_
  refine o_nil ?_
  refine k_seq ?_
  refine k_region ?_
  refine m_int rfl rfl ?_
  refine b_lss rfl rfl ?_
  refine m_bool rfl rfl ?_
  refine o_false (t := 71) rfl ((by rw [hqe]; omega)) ?_
  refine g_yes rfl rfl ?_
  refine m_sl rfl rfl ?_
  refine g_yes rfl rfl ?_
  refine m_int rfl rfl ?_
  refine g_yes rfl rfl ?_
  refine o_ixs (sz := 7) (m := q) Try.underlying24 rfl rfl (congrArg (Value.int .i64) hqe) hql ?_
  refine g_yes rfl rfl ?_
  refine o_fld0 rfl rfl ?_
  refine g_yes rfl rfl ?_
  refine o_ld (v := iv y.p) rfl rfl (hRA.cellK hK28 (haty 0 _ hy0)) ?_
  refine g_yes rfl rfl ?_
  refine m_int rfl rfl ?_
  refine g_yes rfl rfl ?_
  refine b_neq rfl rfl ?_
  refine pick_f rfl rfl ?_
  refine o_nil ?_
  refine k_no rfl ((fun hh => hh hyp)) ?_
  refine k_skip ?_
  refine k_blk ?_
  refine k_region ?_
  refine n_add rfl rfl (by omega) ?_
  refine m_int rfl rfl ?_
  refine o_nil ?_
  refine k_goal ⟨k + 1, ⟨rfl, rfl, rfl, rfl, rfl, rfl, rfl, rfl, rfl, rfl, trivial⟩, ⟨by omega, hK7.tr hK8⟩, by omega⟩
end Go.Proofs.Ytmdkinedbmjieaa
