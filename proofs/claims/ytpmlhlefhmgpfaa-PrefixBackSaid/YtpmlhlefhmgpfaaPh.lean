/- The walk of the law PrefixFree. No condition beyond what each contract names. -/
import Derived.Test.YtpmlhlefhmgpfaaPf
namespace Go.Proofs.Ytpmlhlefhmgpfaa
open Go.RowKit E
set_option linter.unusedVariables false
set_option linter.unusedSimpArgs false
set_option maxRecDepth 100000
attribute [local irreducible] ow qw kw kq cw opW Ret
theorem wd_at {L : List Nat} {i : Nat} (hi : i < L.length) (h0 : L[i] ≠ 0) : wd L (i : Int) = (fst L L[i] + cnt (L.take i) L[i], L[i]) := by
  unfold wd
  rw [if_neg (by omega), Int.toNat_natCast, wdN_at L i hi h0]
theorem wd_len {L : List Nat} {i : Nat} (hi : i < L.length) : (wd L (i : Int)).2 = L[i] := by
  by_cases h0 : L[i] = 0
  · unfold wd
    rw [if_neg (by omega), Int.toNat_natCast, wdN_none L i hi h0, h0]
  · rw [wd_at hi h0]
theorem free_plain {L : List Nat} {i k : Nat} (hi : i < L.length) (hk : k < L.length) (hik : k ≠ i) (h0 : L[i] ≠ 0) (hm : L[i] ≤ L[k]) : (wd L (k : Int)).1 / 2 ^ (L[k] - L[i]) ≠ (wd L (i : Int)).1 := by
  have hk0 : L[k] ≠ 0 := by omega
  rw [wd_at hi h0, wd_at hk hk0]
  simp only
  by_cases he : L[k] = L[i]
  · rw [he, Nat.sub_self, Nat.pow_zero, Nat.div_one]
    intro h
    have h1 := syms_at L i hi h0
    have h2 := syms_at L k hk hk0
    rw [he] at h2
    rw [show cnt (L.take k) L[i] = cnt (L.take i) L[i] by omega, h1] at h2
    exact hik (Option.some.inj h2).symm
  · have hlt := cnt_lt L i hi h0
    have hup := fst_up L L[i] (L[k] - L[i] - 1)
    rw [show L[k] - L[i] - 1 + 1 = L[k] - L[i] by omega, show L[i] + (L[k] - L[i] - 1) + 1 = L[k] by omega] at hup
    have hp : 0 < 2 ^ (L[k] - L[i]) := Nat.pow_pos (by decide)
    have : fst L L[i] + cnt L L[i] ≤ (fst L L[k] + cnt (L.take k) L[k]) / 2 ^ (L[k] - L[i]) := by
      rw [Nat.le_div_iff_mul_le hp]; omega
    omega
theorem fdiv_nat (v q : Nat) (hq : q ≤ 63) : (v : Int).fdiv (2 ^ min q IntKind.i64.bits) = ((v / 2 ^ q : Nat) : Int) := by
  rw [show min q IntKind.i64.bits = q from Nat.min_eq_left (by simp [IntKind.bits]; omega), Int.fdiv_eq_ediv_of_nonneg _ (Int.le_of_lt (Int.pow_pos (by decide))), Int.natCast_ediv]
  simp
theorem shl_one (q : Nat) (hq : q ≤ 15) : IntKind.i64.wrap (1 * 2 ^ min q IntKind.i64.bits) = ((2 ^ q : Nat) : Int) := by
  rw [show min q IntKind.i64.bits = q from Nat.min_eq_left (by simp [IntKind.bits]; omega), Int.one_mul]
  have h1 : 2 ^ q ≤ 2 ^ 15 := Nat.pow_le_pow_right (by decide) hq
  have h2 : (2 : Int) ^ q = ((2 ^ q : Nat) : Int) := by simp
  rw [h2]
  generalize 2 ^ q = y at *
  rw [IntWalk.i64_in _ (by omega)]
attribute [local irreducible] kr cnt used fst syms wd
theorem free_ok (w : World) (a : Option Addr) (c : Nat) (ls : List Int) (lone : Bool) (hR : Rd w a (ls.map iv)) (hl : ls.length ≤ 17592186044416) :
    Ret Try.prog 8 [.slice a ls.length c, .bool lone] w (fun v w' => v = .bool true ∧ Keep [] w w') := by
  refine fn_enter (n := 102) Try.func8 rfl rfl (Nat.le_of_ble_eq_true rfl) (fun e => ?_)
  refine k_seq ?_
  refine k_region ?_
  refine m_bool rfl rfl ?_
  refine o_nil ?_
  refine k_seq ?_
  refine k_seq ?_
  refine k_region ?_
  refine o_call rfl rfl (fixed5_ok w) (fun v w1 hv => ?_)
  obtain ⟨rfl, hK1⟩ := hv
  refine u_notb rfl ?_
  refine o_nil ?_
  refine k_condf rfl ?_
  refine k_skip ?_
  refine k_seq ?_
  refine k_region ?_
  refine o_bsl (E := 3) (cs := #[]) rfl (fun _ => by kernel_rfl) (fun g w2 hB2 hK2 hb2 hZ2 => ?_)
  have hk2 := hK1.tr hK2
  have hf2 : ∀ p, (some (⟨g, 0, none⟩ : Addr)) = some p → w.heap.size ≤ p.block := by intro p hp; simp at hp; subst hp; simp only; have := hK1.size; omega
  refine m_sl rfl rfl ?_
  refine o_app Try.underlying42 inf3 rfl (by decide) rfl rfl (hB2.sl (len := 0) (sz := 1) rfl (by decide)) (hR.new hk2) (by simp) (iv_one ls) (by simp [maxLen]; omega) (by omega) (fun a3 c3 w3 hS3 hK3 hv3 => ?_)
  have hk3 : Keep [] w w3 := Keep.trb hk2 hK3 hf2
  rw [Nat.zero_add] at hS3 ⊢
  simp only [List.nil_append] at hS3
  refine m_bool rfl rfl ?_
  refine o_call rfl rfl (new_ok5 w3 a3 c3 ls lone hS3.rd (by omega)) (fun v w4 hv => ?_)
  obtain ⟨hK4, p, rfl, hpn, hc⟩ := hv.e
  have hk4 := hk3.tr hK4
  refine m_any rfl rfl ?_
  refine o_extr rfl rfl ?_
  refine o_extr rfl rfl ?_
  refine m_ptr rfl rfl ?_
  refine m_int rfl rfl ?_
  refine o_nil ?_
  refine k_seq ?_
  refine k_seq ?_
  refine k_region ?_
  refine m_int rfl rfl ?_
  refine b_neq rfl rfl ?_
  refine o_nil ?_
  refine k_cond rfl (fun h => ?_) (fun h => ?_)
  ·
    refine k_seq ?_
    refine k_region ?_
    refine m_bool rfl rfl ?_
    refine o_nil ?_
    refine k_ret (ret_tmps (ts := [4]) (v := .bool _) rfl rfl ?_)
    exact ⟨rfl, hk4⟩
  have hy0 : e5 ls lone = 0 := Decidable.not_not.1 h
  obtain ⟨r, rfl, hC4⟩ := hc hy0
  obtain ⟨hok, hFit⟩ := e5_zero hy0
  obtain ⟨hL15, hkL, hlL⟩ := hC4.lens
  have hnl : (nats ls).length = ls.length := by simp [nats]
  have hLat : ∀ i (h : i < ls.length) (h' : i < (nats ls).length), ((nats ls)[i] : Int) = ls[i] := fun i h _ => by rw [nats_at ls i h]; have := hok.2 _ (List.getElem_mem h); omega
  generalize hLe : nats ls = L at *
  refine k_skip ?_
  refine k_seq ?_
  refine k_region ?_
  refine m_int rfl rfl ?_
  refine m_int rfl rfl ?_
  refine o_nil ?_
  refine k_seq ?_
  refine k_seq ?_
  refine k_region ?_
  refine m_sl rfl rfl ?_
  refine o_lens Try.underlying42 rfl ?_
  refine m_int rfl rfl ?_
  refine o_nil ?_
  refine k_block ?_
  refine k_loop (σ := Nat) (fun i => [(0, .slice a ls.length c), (5, .pointer (some ⟨r, 0, none⟩)), (7, .int .i64 (kr (L.take i) 15 : Int)), (8, .int .i64 (used (L.take i) : Int)), (28, .int .i64 (ls.length : Int)), (29, .int .i64 (i : Int))]) (fun i w' => i ≤ ls.length ∧ CodeP w' r L ∧ Keep [] w w') (fun i => ls.length - i) 0 ⟨rfl, rfl, congrArg (Value.int .i64) (by rw [List.take_zero, kr_nil]; rfl), congrArg (Value.int .i64) (by rw [List.take_zero, used_nil]; rfl), rfl, rfl, trivial⟩ ⟨by omega, hC4, hk4⟩ (fun i e w5 hJ => ?_)
  obtain ⟨hi, hC5, hk5⟩ := hJ
  have hus := used_le (L.take i)
  have hul : (L.take i).length ≤ i := by rw [List.length_take]; omega
  have hkrb := kr_used (L.take i) (fun x hx => hL15 x (List.mem_of_mem_take hx))
  have hkrb2 : kr (L.take i) 15 ≤ 4718592 := by
   have : used (L.take i) * 2 ^ 14 ≤ 288 * 2 ^ 14 := Nat.mul_le_mul_right _ (by omega)
   omega
  refine k_seq ?_
  refine k_region ?_
  refine b_lss rfl rfl ?_
  refine o_nil ?_
  refine k_seq ?_
  refine k_cond rfl (fun h => ?_) (fun h => ?_)
  rotate_left
  ·
    obtain rfl : i = ls.length := by omega
    rw [show L.take ls.length = L by rw [← hnl, List.take_length]]
    refine k_exit rfl ?_
    refine k_seq ?_
    refine k_region ?_
    refine m_int rfl rfl ?_
    refine b_lss rfl rfl ?_
    refine m_bool rfl rfl ?_
    refine o_split (t := 98) rfl (fun h => ?_) (fun h => ?_)
    ·
      refine g_no rfl rfl rfl ?_
      refine g_no rfl rfl rfl ?_
      refine pick_t rfl rfl ?_
      refine m_bool rfl rfl ?_
      refine o_nil ?_
      refine k_ret (ret_tmps (ts := [4]) (v := .bool _) rfl rfl ?_)
      exact ⟨rfl, hk5⟩
    ·
      have h98 := h
      refine g_yes rfl rfl ?_
      refine m_int rfl rfl ?_
      refine g_yes rfl rfl ?_
      refine b_eql rfl rfl ?_
      refine pick_f rfl rfl ?_
      refine m_bool rfl rfl ?_
      refine o_nil ?_
      refine k_ret (ret_tmps (ts := [4]) (v := .bool _) rfl rfl ?_)
      refine ⟨congrArg Value.bool (decide_eq_true ?_), hk5⟩
      rcases hFit with hF | ⟨_, hF | ⟨hF, _⟩⟩
      · omega
      · exact absurd (by omega) h98
      · exact absurd (by omega) h98
  have hil : i < ls.length := by omega
  have hiL : i < L.length := by omega
  obtain ⟨b1, o1, rfl, _⟩ := hR.at i (by simpa using hil)
  have hLi := hLat i hil hiL
  have hwl := wd_len hiL
  have hL15i := hL15 _ (List.getElem_mem hiL)
  have hwlt := wd_lt L (i : Int) hL15 hkL
  refine k_skip ?_
  refine k_seq ?_
  refine k_block ?_
  refine k_seq ?_
  refine k_region ?_
  refine m_int rfl rfl ?_
  refine m_int rfl rfl ?_
  refine o_nil ?_
  refine k_seq ?_
  refine k_region ?_
  refine m_ptr rfl rfl ?_
  refine m_int rfl rfl ?_
  refine o_call rfl rfl (word_ok w5 r L (i : Int) hC5) (fun v w6 hv => ?_)
  obtain ⟨rfl, hK6⟩ := hv
  rw [hwl]
  rw [hwl] at hwlt
  have hk6 := hk5.tr hK6
  have hC6 := hC5.new hK6
  generalize hn : L[i] = n at *
  refine m_any rfl rfl ?_
  refine o_extr rfl rfl ?_
  refine o_extr rfl rfl ?_
  refine m_int rfl rfl ?_
  refine m_int rfl rfl ?_
  refine o_nil ?_
  refine k_seq ?_
  refine k_seq ?_
  refine k_region ?_
  refine m_int rfl rfl ?_
  refine m_sl rfl rfl ?_
  refine m_int rfl rfl ?_
  refine o_ixs1 Try.underlying42 rfl rfl rfl hil ?_
  refine o_ld rfl rfl (hR.cellK hk6 (iv_at ls i hil)) ?_
  refine b_neq rfl rfl ?_
  refine m_bool rfl rfl ?_
  refine o_false (t := 44) rfl ((by omega)) ?_
  refine g_yes rfl rfl ?_
  refine m_int rfl rfl ?_
  refine g_yes rfl rfl ?_
  refine b_lss rfl rfl ?_
  refine pick_f rfl rfl ?_
  refine m_bool rfl rfl ?_
  refine o_false (t := 48) rfl ((by omega)) ?_
  refine g_yes rfl rfl ?_
  refine m_int rfl rfl ?_
  refine g_yes rfl rfl ?_
  refine m_int rfl rfl ?_
  refine g_yes rfl rfl ?_
  refine cv64 rfl Try.underlying47 rfl ?_
  rw [ofN n (by omega)]
  refine g_yes rfl rfl ?_
  refine b_shln (c := n) rfl rfl ?_
  rw [shl_one n (by omega)]
  refine g_yes rfl rfl ?_
  refine b_geq rfl rfl ?_
  refine pick_f rfl rfl ?_
  refine o_nil ?_
  refine k_no rfl ((by omega)) ?_
  refine k_skip ?_
  refine k_seq ?_
  refine k_seq ?_
  refine k_region ?_
  refine m_int rfl rfl ?_
  refine b_eql rfl rfl ?_
  refine o_nil ?_
  refine k_cond rfl (fun h => ?_) (fun h => ?_)
  ·
    refine k_exit rfl ?_
    refine k_region ?_
    refine n_add rfl rfl (by omega) ?_
    refine m_int rfl rfl ?_
    refine o_nil ?_
    refine k_goal ⟨i + 1, ⟨rfl, rfl, congrArg (Value.int .i64) ?_, congrArg (Value.int .i64) ?_, rfl, rfl, trivial⟩, ⟨by omega, hC6, hk6⟩, by omega⟩
    · rw [kr_take L i hiL (by rw [hn]; omega), hn, if_neg (by omega)]; rfl
    · rw [used_take L i hiL, hn, if_neg (by omega)]; rfl
  have hn0 : n ≠ 0 := by omega
  have hp15 := p15 n
  refine k_skip ?_
  refine k_seq ?_
  refine k_region ?_
  refine m_int rfl rfl ?_
  refine m_int rfl rfl ?_
  refine n_sub rfl rfl (by omega) ?_
  refine cv64 rfl Try.underlying47 rfl ?_
  refine b_shln rfl rfl ?_
  rw [sh15 n (by omega)]
  generalize hy2 : 2 ^ (15 - n) = y2 at *
  refine n_add rfl rfl (by omega) ?_
  refine m_int rfl rfl ?_
  refine n_add rfl rfl (by omega) ?_
  refine m_int rfl rfl ?_
  refine m_int rfl rfl ?_
  refine o_nil ?_
  refine k_seq ?_
  refine k_region ?_
  refine m_sl rfl rfl ?_
  refine o_lens Try.underlying42 rfl ?_
  refine m_int rfl rfl ?_
  refine o_nil ?_
  refine k_block ?_
  refine k_loop (σ := Nat) (fun k => [(0, .slice (some ⟨b1, o1, none⟩) ls.length c), (5, .pointer (some ⟨r, 0, none⟩)), (7, .int .i64 ((kr (L.take i) 15 : Int) + (y2 : Int))), (8, .int .i64 ((used (L.take i) : Int) + 1)), (9, .int .i64 (i : Int)), (10, .int .i64 ((wd L (i : Int)).1 : Int)), (11, .int .i64 (n : Int)), (28, .int .i64 (ls.length : Int)), (29, .int .i64 (i : Int)), (66, .int .i64 (ls.length : Int)), (67, .int .i64 (k : Int))]) (fun k w' => k ≤ ls.length ∧ CodeP w' r L ∧ Keep [] w w') (fun k => ls.length - k) 0 ⟨rfl, rfl, rfl, rfl, rfl, rfl, rfl, rfl, rfl, rfl, rfl, trivial⟩ ⟨by omega, hC6, hk6⟩ (fun k e w7 hJ => ?_)
  obtain ⟨hk', hC7, hk7⟩ := hJ
  refine k_seq ?_
  refine k_region ?_
  refine b_lss rfl rfl ?_
  refine o_nil ?_
  refine k_seq ?_
  refine k_cond rfl (fun h => ?_) (fun h => ?_)
  rotate_left
  ·
    refine k_exit rfl ?_
    refine k_blk ?_
    refine k_region ?_
    refine n_add rfl rfl (by omega) ?_
    refine m_int rfl rfl ?_
    refine o_nil ?_
    refine k_goal ⟨i + 1, ⟨rfl, rfl, congrArg (Value.int .i64) ?_, congrArg (Value.int .i64) ?_, rfl, rfl, trivial⟩, ⟨by omega, hC7, hk7⟩, by omega⟩
    · rw [kr_take L i hiL (by rw [hn]; omega), hn, if_pos hn0, hy2]; omega
    · rw [used_take L i hiL, hn, if_pos hn0]; omega
  have hkl : k < L.length := by omega
  have hwlk := wd_len hkl
  have hL15k := hL15 _ (List.getElem_mem hkl)
  have hwltk := wd_lt L (k : Int) hL15 hkL
  have hfree := fun hki h1 h2 => free_plain (L := L) (i := i) (k := k) hiL hkl hki h1 h2
  rw [hn] at hfree
  refine k_skip ?_
  refine k_seq ?_
  refine k_block ?_
  refine k_seq ?_
  refine k_region ?_
  refine m_int rfl rfl ?_
  refine m_int rfl rfl ?_
  refine o_nil ?_
  refine k_seq ?_
  refine k_region ?_
  refine m_ptr rfl rfl ?_
  refine m_int rfl rfl ?_
  refine o_call rfl rfl (word_ok w7 r L (k : Int) hC7) (fun v w8 hv => ?_)
  obtain ⟨rfl, hK8⟩ := hv
  rw [hwlk]
  rw [hwlk] at hwltk
  have hk8 := hk7.tr hK8
  have hC8 := hC7.new hK8
  generalize hm : L[k] = m at *
  refine m_any rfl rfl ?_
  refine o_extr rfl rfl ?_
  refine o_extr rfl rfl ?_
  refine m_int rfl rfl ?_
  refine m_int rfl rfl ?_
  refine o_nil ?_
  refine k_seq ?_
  refine k_region ?_
  refine m_int rfl rfl ?_
  refine m_int rfl rfl ?_
  refine b_neq rfl rfl ?_
  refine m_bool rfl rfl ?_
  refine o_split (t := 79) rfl (fun h => ?_) (fun h => ?_)
  ·
    have h79 := h
    refine g_yes rfl rfl ?_
    refine m_int rfl rfl ?_
    refine g_yes rfl rfl ?_
    refine m_int rfl rfl ?_
    refine g_yes rfl rfl ?_
    refine b_geq rfl rfl ?_
    refine pick_t rfl rfl ?_
    refine m_bool rfl rfl ?_
    refine o_split (t := 84) rfl (fun h => ?_) (fun h => ?_)
    ·
      have h84 := h
      refine g_yes rfl rfl ?_
      refine m_int rfl rfl ?_
      refine g_yes rfl rfl ?_
      refine m_int rfl rfl ?_
      refine g_yes rfl rfl ?_
      refine m_int rfl rfl ?_
      refine g_yes rfl rfl ?_
      refine n_sub rfl rfl (by omega) ?_
      rw [show (m : Int) - (n : Int) = ((m - n : Nat) : Int) by omega]
      refine g_yes rfl rfl ?_
      refine cv64 rfl Try.underlying47 rfl ?_
      rw [ofN (m - n) (by omega)]
      refine g_yes rfl rfl ?_
      refine b_shrn (c := m - n) rfl rfl ?_
      rw [fdiv_nat _ (m - n) (by omega)]
      refine g_yes rfl rfl ?_
      refine m_int rfl rfl ?_
      refine g_yes rfl rfl ?_
      refine b_eql rfl rfl ?_
      refine pick_t rfl rfl ?_
      refine o_nil ?_
      refine k_no rfl ((fun e => hfree (fun e2 => h79 (by omega)) hn0 (by omega) (by omega))) ?_
      refine k_skip ?_
      refine k_blk ?_
      refine k_region ?_
      refine n_add rfl rfl (by omega) ?_
      refine m_int rfl rfl ?_
      refine o_nil ?_
      refine k_goal ⟨k + 1, ⟨rfl, rfl, rfl, rfl, rfl, rfl, rfl, rfl, rfl, rfl, rfl, trivial⟩, ⟨by omega, hC8, hk8⟩, by omega⟩
    ·
      refine g_no rfl rfl rfl ?_
      refine g_no rfl rfl rfl ?_
      refine g_no rfl rfl rfl ?_
      refine g_no rfl rfl rfl ?_
      refine g_no rfl rfl rfl ?_
      refine g_no rfl rfl rfl ?_
      refine g_no rfl rfl rfl ?_
      refine g_no rfl rfl rfl ?_
      refine pick_f rfl rfl ?_
      refine o_nil ?_
      refine k_condf rfl ?_
      refine k_skip ?_
      refine k_blk ?_
      refine k_region ?_
      refine n_add rfl rfl (by omega) ?_
      refine m_int rfl rfl ?_
      refine o_nil ?_
      refine k_goal ⟨k + 1, ⟨rfl, rfl, rfl, rfl, rfl, rfl, rfl, rfl, rfl, rfl, rfl, trivial⟩, ⟨by omega, hC8, hk8⟩, by omega⟩
  ·
    refine g_no rfl rfl rfl ?_
    refine g_no rfl rfl rfl ?_
    refine g_no rfl rfl rfl ?_
    refine pick_f rfl rfl ?_
    refine m_bool rfl rfl ?_
    refine g_no rfl rfl rfl ?_
    refine g_no rfl rfl rfl ?_
    refine g_no rfl rfl rfl ?_
    refine g_no rfl rfl rfl ?_
    refine g_no rfl rfl rfl ?_
    refine g_no rfl rfl rfl ?_
    refine g_no rfl rfl rfl ?_
    refine g_no rfl rfl rfl ?_
    refine pick_f rfl rfl ?_
    refine o_nil ?_
    refine k_condf rfl ?_
    refine k_skip ?_
    refine k_blk ?_
    refine k_region ?_
    refine n_add rfl rfl (by omega) ?_
    refine m_int rfl rfl ?_
    refine o_nil ?_
    refine k_goal ⟨k + 1, ⟨rfl, rfl, rfl, rfl, rfl, rfl, rfl, rfl, rfl, rfl, rfl, trivial⟩, ⟨by omega, hC8, hk8⟩, by omega⟩
end Go.Proofs.Ytpmlhlefhmgpfaa
