/- Native: Concat, Equal, Digits. No condition beyond what each contract names. -/
import Derived.Test.YtchbidckckmobaaDoorHe
import Derived.Test.YtchbidckckmobaaDoorShelf
namespace Go.Proofs.YtchbidckckmobaaDoor
open Go.RowKit E
set_option linter.unusedVariables false
set_option linter.unusedSimpArgs false
set_option maxRecDepth 100000
attribute [local irreducible] ow qw kw kq cw opW Ret
def concN (ws L : List Int) (lim cl p q : Int) : Int × Int × List Int × List Int :=
  if (unitsN ws L p).2 ≠ 0 then (0, (unitsN ws L p).2, ws, L)
  else if (unitsN ws L q).2 ≠ 0 then (0, (unitsN ws L q).2, ws, L)
  else makeN ws L lim cl ((unitsN ws L p).1 ++ (unitsN ws L q).1)
theorem units_len {ws L : List Int} (hW : WFH ws L) (p : Int) : (unitsN ws L p).1.length ≤ 65537 := by
  unfold unitsN
  by_cases h0 : (lookH ws L p).2.2.2 = 0
  · rw [if_neg (by simpa using h0)]
    split
    · simp
    · obtain ⟨q, hq, hpq, hqL, hq0, hlk, hn0, hnq⟩ := look_n hW h0
      have := hW.len
      simp only [List.length_map, List.length_range, hlk]
      omega
  · rw [if_pos h0]; simp
theorem conc_ok (k : Nat) (w : World) (hb : Nat) (ws : List Int) (lim : Int) (L : List Int) (cl p q : Int) (hHP : HP k w hb ws lim L) (hW : WFH ws L) (hlim : lim ≤ 65536) (hu : (ws.length : Int) ≤ lim + 1) (hkw : k ≤ w.heap.size) (hcl : -9223372036854775808 ≤ cl ∧ cl ≤ 9223372036854775807) :
    Ret Tryd.prog 46 [.pointer (some ⟨hb, 0, none⟩), .int .i64 cl, .int .i64 p, .int .i64 q] w (fun v w' => v = .tuple #[.int .i64 (concN ws L lim cl p q).1, .int .i64 (concN ws L lim cl p q).2.1] ∧ HRes k w hb lim w' (concN ws L lim cl p q).2.2.1 (concN ws L lim cl p q).2.2.2) := by
  have hl1 := units_len hW p
  have hl2 := units_len hW q
  refine fn_enter (n := 39) Tryd.func46 rfl rfl (Nat.le_of_ble_eq_true rfl) (fun e => ?_)
  refine k_seq ?_
  refine k_region ?_
  refine m_int rfl rfl ?_
  refine m_int rfl rfl ?_
  refine o_nil ?_
  refine k_seq ?_
  refine k_region ?_
  refine m_ptr rfl rfl ?_
  refine m_int rfl rfl ?_
  refine o_call rfl rfl (units_ok k w hb ws lim L p hHP hW) (fun v w1 hv => ?_)
  obtain ⟨⟨a1, c1, rfl, hS1, hf1⟩, hK1⟩ := hv
  refine m_any rfl rfl ?_
  refine o_extr rfl rfl ?_
  refine o_extr rfl rfl ?_
  refine m_sl rfl rfl ?_
  refine m_int rfl rfl ?_
  refine o_nil ?_
  refine k_seq ?_
  refine k_seq ?_
  refine k_region ?_
  refine m_int rfl rfl ?_
  refine b_neq rfl rfl ?_
  refine o_nil ?_
  refine k_cond rfl (fun h => ?_) (fun h => ?_)
  ·
    refine k_seq ?_
    refine k_region ?_
    refine m_int rfl rfl ?_
    refine m_int rfl rfl ?_
    refine m_int rfl rfl ?_
    refine o_nil ?_
    refine k_ret (ret_tmps (ts := [8, 9]) (v := .tuple #[.int _ _, .int _ _]) rfl rfl ?_)
    have e : concN ws L lim cl p q = (0, (unitsN ws L p).2, ws, L) := if_pos h
    rw [e]; exact ⟨rfl, hHP.new hK1, hW, hu, hK1.h⟩
  have h1 := Decidable.of_not_not h
  refine k_skip ?_
  refine k_seq ?_
  refine k_region ?_
  refine m_ptr rfl rfl ?_
  refine m_int rfl rfl ?_
  refine o_call rfl rfl (units_ok k w1 hb ws lim L q (hHP.new hK1) hW) (fun v w2 hv => ?_)
  obtain ⟨⟨a2, c2, rfl, hS2, hf2⟩, hK2⟩ := hv
  have hK02 := hK1.tr hK2
  refine m_any rfl rfl ?_
  refine o_extr rfl rfl ?_
  refine o_extr rfl rfl ?_
  refine m_sl rfl rfl ?_
  refine m_int rfl rfl ?_
  refine o_nil ?_
  refine k_seq ?_
  refine k_seq ?_
  refine k_region ?_
  refine m_int rfl rfl ?_
  refine b_neq rfl rfl ?_
  refine o_nil ?_
  refine k_cond rfl (fun h => ?_) (fun h => ?_)
  ·
    refine k_seq ?_
    refine k_region ?_
    refine m_int rfl rfl ?_
    refine m_int rfl rfl ?_
    refine m_int rfl rfl ?_
    refine o_nil ?_
    refine k_ret (ret_tmps (ts := [8, 9]) (v := .tuple #[.int _ _, .int _ _]) rfl rfl ?_)
    have e : concN ws L lim cl p q = (0, (unitsN ws L q).2, ws, L) := by unfold concN; rw [if_neg (by simpa using h1), if_pos h]
    rw [e]; exact ⟨rfl, hHP.new hK02, hW, hu, hK02.h⟩
  have e : concN ws L lim cl p q = makeN ws L lim cl ((unitsN ws L p).1 ++ (unitsN ws L q).1) := by unfold concN; rw [if_neg (by simpa using h1), if_neg h]
  refine k_skip ?_
  refine k_seq ?_
  refine k_region ?_
  refine m_ptr rfl rfl ?_
  refine m_int rfl rfl ?_
  refine m_sl rfl rfl ?_
  refine m_sl rfl rfl ?_
  refine o_app Tryd.underlying77 inf47 rfl (by decide) rfl rfl (hS1.new hK2) hS2.rd (by simp) (u16_one _) (by simp [maxLen]; omega) (by omega) (fun a3 c3 w3 hS3 hK3 hv3 => ?_)
  have hK03 : Keep [] w w3 := hK02.trb hK3 hf1
  rw [← List.map_append] at hS3
  have hll : (unitsN ws L p).1.length + (unitsN ws L q).1.length = ((unitsN ws L p).1 ++ (unitsN ws L q).1).length := by simp
  rw [hll] at hS3 ⊢
  refine o_call rfl rfl (make_ok k w3 hb ws lim L cl a3 c3 _ (hHP.new hK03) hW hlim hu (by have := hK03.size; omega) hcl hS3.rd (by rw [← hll]; omega) (fun w' hk' => (hS3.kh hk' (by decide)).rd)) (fun v w4 hv => ?_)
  obtain ⟨rfl, hH4, hW4, hu4, hK4⟩ := hv
  refine o_extr rfl rfl ?_
  refine o_extr rfl rfl ?_
  refine m_int rfl rfl ?_
  refine m_int rfl rfl ?_
  refine o_nil ?_
  refine k_ret (ret_tmps (ts := [8, 9]) (v := .tuple #[.int _ _, .int _ _]) rfl rfl ?_)
  rw [e]; exact ⟨rfl, hH4, hW4, hu4, hK03.h.tr hK4⟩
def equN (ws L : List Int) (p q : Int) : Bool := decide ((unitsN ws L p).2 = 0 ∧ (unitsN ws L q).2 = 0 ∧ (unitsN ws L p).1 = (unitsN ws L q).1)
theorem equ_ok (k : Nat) (w : World) (hb : Nat) (ws : List Int) (lim : Int) (L : List Int) (p q : Int) (hHP : HP k w hb ws lim L) (hW : WFH ws L) :
    Ret Tryd.prog 47 [.pointer (some ⟨hb, 0, none⟩), .int .i64 p, .int .i64 q] w (fun v w' => v = .bool (equN ws L p q) ∧ Keep [] w w') := by
  have hl1 := units_len hW p
  have hl2 := units_len hW q
  refine fn_enter (n := 52) Tryd.func47 rfl rfl (Nat.le_of_ble_eq_true rfl) (fun e => ?_)
  refine k_seq ?_
  refine k_region ?_
  refine m_bool rfl rfl ?_
  refine o_nil ?_
  refine k_seq ?_
  refine k_region ?_
  refine m_ptr rfl rfl ?_
  refine m_int rfl rfl ?_
  refine o_call rfl rfl (units_ok k w hb ws lim L p hHP hW) (fun v w1 hv => ?_)
  obtain ⟨⟨a1, c1, rfl, hS1, hf1⟩, hK1⟩ := hv
  refine m_any rfl rfl ?_
  refine o_extr rfl rfl ?_
  refine o_extr rfl rfl ?_
  refine m_sl rfl rfl ?_
  refine m_int rfl rfl ?_
  refine o_nil ?_
  refine k_seq ?_
  refine k_region ?_
  refine m_ptr rfl rfl ?_
  refine m_int rfl rfl ?_
  refine o_call rfl rfl (units_ok k w1 hb ws lim L q (hHP.new hK1) hW) (fun v w2 hv => ?_)
  obtain ⟨⟨a2, c2, rfl, hS2, hf2⟩, hK2⟩ := hv
  have hK02 := hK1.tr hK2
  obtain ⟨us, hus⟩ : ∃ us, (unitsN ws L p).1 = us := ⟨_, rfl⟩
  obtain ⟨vs, hvs⟩ : ∃ vs, (unitsN ws L q).1 = vs := ⟨_, rfl⟩
  rw [hus] at hS1 hl1 ⊢
  rw [hvs] at hS2 hl2 ⊢
  have hS1' := hS1.new hK2
  refine m_any rfl rfl ?_
  refine o_extr rfl rfl ?_
  refine o_extr rfl rfl ?_
  refine m_sl rfl rfl ?_
  refine m_int rfl rfl ?_
  refine o_nil ?_
  refine k_seq ?_
  refine k_seq ?_
  refine k_region ?_
  refine m_int rfl rfl ?_
  refine b_neq rfl rfl ?_
  refine m_bool rfl rfl ?_
  refine o_split (t := 26) rfl (fun h => ?_) (fun h => ?_)
  ·
    refine g_no rfl rfl rfl ?_
    refine g_no rfl rfl rfl ?_
    refine pick_t rfl rfl ?_
    refine m_bool rfl rfl ?_
    refine g_no rfl rfl rfl ?_
    refine g_no rfl rfl rfl ?_
    refine g_no rfl rfl rfl ?_
    refine g_no rfl rfl rfl ?_
    refine g_no rfl rfl rfl ?_
    refine pick_t rfl rfl ?_
    refine o_nil ?_
    refine k_condt rfl ?_
    refine k_seq ?_
    refine k_region ?_
    refine m_bool rfl rfl ?_
    refine o_nil ?_
    refine k_ret (ret_tmps (ts := [6]) (v := .bool _) rfl rfl ?_)
    exact ⟨congrArg Value.bool (decide_eq_false (fun hh => h hh.1)).symm, hK02⟩
  ·
    have h26 := Decidable.of_not_not h
    refine g_yes rfl rfl ?_
    refine m_int rfl rfl ?_
    refine g_yes rfl rfl ?_
    refine b_neq rfl rfl ?_
    refine pick_f rfl rfl ?_
    refine m_bool rfl rfl ?_
    refine o_split (t := 30) rfl (fun h => ?_) (fun h => ?_)
    ·
      refine g_no rfl rfl rfl ?_
      refine g_no rfl rfl rfl ?_
      refine g_no rfl rfl rfl ?_
      refine g_no rfl rfl rfl ?_
      refine g_no rfl rfl rfl ?_
      refine pick_t rfl rfl ?_
      refine o_nil ?_
      refine k_condt rfl ?_
      refine k_seq ?_
      refine k_region ?_
      refine m_bool rfl rfl ?_
      refine o_nil ?_
      refine k_ret (ret_tmps (ts := [6]) (v := .bool _) rfl rfl ?_)
      exact ⟨congrArg Value.bool (decide_eq_false (fun hh => h hh.2.1)).symm, hK02⟩
    ·
      have h30 := Decidable.of_not_not h
      refine g_yes rfl rfl ?_
      refine m_sl rfl rfl ?_
      refine g_yes rfl rfl ?_
      refine o_lens Tryd.underlying77 rfl ?_
      refine g_yes rfl rfl ?_
      refine m_sl rfl rfl ?_
      refine g_yes rfl rfl ?_
      refine o_lens Tryd.underlying77 rfl ?_
      refine g_yes rfl rfl ?_
      refine b_neq rfl rfl ?_
      refine pick_f rfl rfl ?_
      refine o_nil ?_
      refine k_cond rfl (fun h => ?_) (fun h => ?_)
      ·
        refine k_seq ?_
        refine k_region ?_
        refine m_bool rfl rfl ?_
        refine o_nil ?_
        refine k_ret (ret_tmps (ts := [6]) (v := .bool _) rfl rfl ?_)
        exact ⟨congrArg Value.bool (decide_eq_false (fun hh => h (by rw [← hus, ← hvs, hh.2.2]))).symm, hK02⟩
      have hlen : us.length = vs.length := by omega
      refine k_skip ?_
      refine k_seq ?_
      refine k_seq ?_
      refine k_region ?_
      refine m_sl rfl rfl ?_
      refine o_lens Tryd.underlying77 rfl ?_
      refine m_int rfl rfl ?_
      refine o_nil ?_
      refine k_block ?_
      refine k_loop (σ := Nat) (fun i => [(7, .slice a1 us.length c1), (9, .slice a2 vs.length c2), (38, .int .i64 (us.length : Int)), (39, .int .i64 (i : Int))]) (fun i w' => i ≤ us.length ∧ (∀ j, j < i → us[j]? = vs[j]?) ∧ Keep [] w2 w') (fun i => us.length - i) 0 ⟨rfl, rfl, rfl, rfl, trivial⟩ ⟨Nat.zero_le _, (fun j hj => by omega), Keep.refl _ _⟩ (fun i e w3 hJ => ?_)
      obtain ⟨hi, hpre, hK3⟩ := hJ
      refine k_seq ?_
      refine k_region ?_
      refine b_lss rfl rfl ?_
      refine o_nil ?_
      refine k_seq ?_
      refine k_cond rfl (fun h => ?_) (fun h => ?_)
      rotate_left
      ·
        refine k_exit rfl ?_
        refine k_seq ?_
        refine k_region ?_
        refine m_bool rfl rfl ?_
        refine o_nil ?_
        refine k_ret (ret_tmps (ts := [6]) (v := .bool _) rfl rfl ?_)
        refine ⟨congrArg Value.bool (decide_eq_true ⟨h26, h30, ?_⟩).symm, hK02.tr hK3⟩
        rw [hus, hvs]
        refine List.ext_getElem? fun j => ?_
        by_cases hj : j < us.length
        · exact hpre j (by omega)
        · rw [List.getElem?_eq_none (by omega), List.getElem?_eq_none (by omega)]
      have hin : i < us.length := by omega
      have hx := u16_at us i hin
      have hy := u16_at vs i (by omega)
      have hRx := hS1'.rd
      have hRy := hS2.rd
      obtain ⟨b1, o1, hae, _⟩ := hRx _ _ hx
      obtain ⟨b2, o2, hbe, _⟩ := hRy _ _ hy
      subst hae hbe
      refine k_skip ?_
      refine k_seq ?_
      refine k_block ?_
      refine k_seq ?_
      refine k_region ?_
      refine m_int rfl rfl ?_
      refine m_int rfl rfl ?_
      refine o_nil ?_
      refine k_seq ?_
      refine k_qk 8 rfl rfl rfl rfl rfl ?_
      refine q_step (fun w1 hC => m_sl rfl rfl (o_nil ⟨rfl, hC⟩)) ?_
      refine q_step (fun w1 hC => m_int rfl rfl (o_nil ⟨rfl, hC⟩)) ?_
      refine q_step (fun w1 hC => o_ixs1 Tryd.underlying77 rfl rfl rfl hin (o_nil ⟨rfl, hC⟩)) ?_
      refine q_step (fun w1 hC => o_ld rfl rfl (hRx.cellK (hK3.tr hC) hx) (o_nil ⟨rfl, hC⟩)) ?_
      refine q_step (fun w1 hC => m_sl rfl rfl (o_nil ⟨rfl, hC⟩)) ?_
      refine q_step (fun w1 hC => m_int rfl rfl (o_nil ⟨rfl, hC⟩)) ?_
      refine q_step (fun w1 hC => o_ixs1 Tryd.underlying77 rfl rfl rfl (by omega) (o_nil ⟨rfl, hC⟩)) ?_
      refine q_step (fun w1 hC => o_ld rfl rfl (hRy.cellK (hK3.tr hC) hy) (o_nil ⟨rfl, hC⟩)) ?_
      refine q_nil ?_
      intro w4 hC4
      refine v16_neq rfl rfl ?_
      refine o_nil ?_
      refine k_cond rfl (fun h => ?_) (fun h => ?_)
      ·
        refine k_seq ?_
        refine k_region ?_
        refine m_bool rfl rfl ?_
        refine o_nil ?_
        refine k_ret (ret_tmps (ts := [6]) (v := .bool _) rfl rfl ?_)
        refine ⟨congrArg Value.bool (decide_eq_false (fun hh => h ?_)).symm, (hK02.tr hK3).tr hC4⟩
        have he := hh.2.2
        rw [hus, hvs] at he
        subst he
        rfl
      refine k_skip ?_
      refine k_blk ?_
      refine k_region ?_
      refine n_add rfl rfl (by omega) ?_
      refine m_int rfl rfl ?_
      refine o_nil ?_
      refine k_goal ⟨i + 1, ⟨rfl, rfl, rfl, rfl, trivial⟩, ⟨by omega, fun j hj => ?_, hK3.tr hC4⟩, by omega⟩
      by_cases hji : j = i
      · rw [hji, List.getElem?_eq_getElem hin, List.getElem?_eq_getElem (by omega)]
        exact congrArg some (Decidable.of_not_not h)
      · exact hpre j (by omega)
/-- the table that the digits read -/
def Tab10 (w : World) : Prop := Lib.TabIs Tryd.prog w "internal/strconv.uint64pow10" .u64 Lib.pow10Tab
theorem Tab10.new {w w' : World} (h : Tab10 w) (hK : Keep [] w w') : Tab10 w' :=
  by
  unfold Tab10 Lib.TabIs World.var? at h ⊢
  generalize Tryd.prog.globalNamed "internal/strconv.uint64pow10" = og at h ⊢
  cases og with
  | none => exact h
  | some g =>
    simp only [Option.bind_some] at h ⊢
    have hlt : g < w.heap.size := by
      rcases Nat.lt_or_ge g w.heap.size with h' | h'
      · exact h'
      · rw [Array.getElem?_eq_none h'] at h; cases h
    rw [hK.below.block g hlt]
    exact h
theorem fmt_ok (w : World) (n : Int) (h0 : -9223372036854775808 ≤ n) (h1 : n ≤ 9223372036854775807) (ht : Tab10 w) :
    Ret Tryd.prog 74 [.int .i64 n, .int .i64 10] w (fun v w' => v = .string ⟨(Lib.itoa n).toArray⟩ ∧ Keep [] w w') := by
  unfold Ret
  refine Calls.mono (f := 74) (args := #[.int .i64 n, .int .i64 10]) (Go.Proofs.Any.strconv_FormatInt_10 Go.Proofs.Tryd.lays173 n h0 h1 w ht) fun e w' he => ?_
  obtain ⟨rfl, k, os, rfl⟩ := he
  refine ⟨rfl, rfl, rfl, rfl, by simp [Sort.grow], fun b hb _ => ?_⟩
  show (w.heap ++ os)[b]? = _
  rw [Array.getElem?_append_left hb]
theorem digits_ok (w : World) (n : Int) (h0 : -9223372036854775808 ≤ n) (h1 : n ≤ 9223372036854775807) (ht : Tab10 w) :
    Ret Tryd.prog 43 [.int .i64 n] w (fun v w' => v = .string ⟨(Lib.itoa n).toArray⟩ ∧ Keep [] w w') := by
  refine fn_enter (n := 5) Tryd.func43 rfl rfl (Nat.le_of_ble_eq_true rfl) (fun e => ?_)
  refine k_seq ?_
  refine k_region ?_
  refine m_str rfl rfl ?_
  refine o_nil ?_
  refine k_seq ?_
  refine k_region ?_
  refine m_int rfl rfl ?_
  refine o_call rfl rfl (fmt_ok w n h0 h1 ht) (fun v w1 hv => ?_)
  obtain ⟨rfl, hK1⟩ := hv
  refine m_str rfl rfl ?_
  refine o_nil ?_
  refine k_ret (ret_tmps (ts := [2]) (v := .string _) rfl rfl ?_)
  exact ⟨rfl, hK1⟩
end Go.Proofs.YtchbidckckmobaaDoor
