/- The walk of the law PrefixBack. No condition beyond what each contract names. -/
import Derived.Test.YtpmlhlefhmgpfaaPh
import Derived.Test.YtpmlhlefhmgpfaaBd
namespace Go.Proofs.Ytpmlhlefhmgpfaa
open Go.RowKit E
set_option linter.unusedVariables false
set_option linter.unusedSimpArgs false
set_option maxRecDepth 100000
attribute [local irreducible] ow qw kw kq cw opW Ret
/-- a word's bits, the highest first -/
def hbits (v n : Nat) : Nat → List Bool
  | 0 => []
  | j + 1 => hbits v n j ++ [v.testBit (n - 1 - j)]
theorem hbits_len (v n : Nat) : ∀ j, (hbits v n j).length = j
  | 0 => rfl
  | j + 1 => by unfold hbits; rw [List.length_append, hbits_len v n j]; rfl
theorem hbits_at (v n : Nat) : ∀ j t, t < j → (hbits v n j).getD t false = v.testBit (n - 1 - t)
  | 0, t, h => by omega
  | j + 1, t, h => by
    unfold hbits
    rw [List.getD_eq_getElem?_getD]
    by_cases ht : t < j
    · rw [List.getElem?_append_left (by rw [hbits_len]; exact ht), ← List.getD_eq_getElem?_getD]
      exact hbits_at v n j t ht
    · obtain rfl : t = j := by omega
      rw [List.getElem?_append_right (by rw [hbits_len]; omega), hbits_len, Nat.sub_self]; rfl
def wbits (L : List Nat) (s : Nat) : List Bool := hbits (wd L (s : Int)).1 (wd L (s : Int)).2 (wd L (s : Int)).2
def enc (L : List Nat) (ss : List Nat) : List Bool := ss.flatMap (wbits L)
theorem enc_app (L : List Nat) (ss : List Nat) (s : Nat) : enc L (ss ++ [s]) = enc L ss ++ wbits L s := by simp [enc]
theorem enc_take (L : List Nat) (ss : List Nat) (t : Nat) (h : t < ss.length) : enc L ss = enc L (ss.take t) ++ wbits L ss[t] ++ enc L (ss.drop (t + 1)) := by
  have e : ss = ss.take t ++ ss[t] :: ss.drop (t + 1) := by rw [← List.drop_eq_getElem_cons h, List.take_append_drop]
  have e2 : enc L ss = enc L (ss.take t ++ ss[t] :: ss.drop (t + 1)) := congrArg (enc L) e
  rw [e2]
  unfold enc
  rw [List.flatMap_append, List.flatMap_cons, List.append_assoc]
theorem enc_succ (L : List Nat) (ss : List Nat) (t : Nat) (h : t < ss.length) : enc L (ss.take (t + 1)) = enc L (ss.take t) ++ wbits L ss[t] := by
  rw [List.take_succ_eq_append_getElem h, enc_app]
theorem vb1 (v k : Nat) (hv : v < 65536) : vbits ((v / 2 ^ k : Nat) : Int) 1 = [v.testBit k] := by
  have h1 : v / 2 ^ k ≤ v := Nat.div_le_self _ _
  unfold vbits
  rw [show List.range 1 = [0] from rfl, List.map_cons, List.map_nil, BitVec.ofInt_natCast]
  congr 1
  rw [BitVec.getLsbD_ofNat]
  simp [Nat.testBit_eq_decide_div_mod_eq]
theorem half (v d : Nat) (hd : 1 ≤ d) : v / 2 ^ (d - 1) = 2 * (v / 2 ^ d) + (v.testBit (d - 1)).toNat := by
  have e : v / 2 ^ d = v / 2 ^ (d - 1) / 2 := by
    rw [Nat.div_div_eq_div_mul, ← Nat.pow_succ, show (d - 1).succ = d by omega]
  rw [e, Nat.testBit_eq_decide_div_mod_eq]
  by_cases h : v / 2 ^ (d - 1) % 2 = 1
  · simp [h]; omega
  · simp [h]; omega
/-- a symbol whose bits stand there is read -/
theorem nx_word {L : List Nat} {bs : List (BitVec 8)} {s p v n : Nat} (hs : s < L.length) (h0 : L[s] ≠ 0) (hn : n = L[s]) (hve : v = fst L L[s] + cnt (L.take s) L[s]) (hvn : v < 2 ^ n) (hp : p + n ≤ 8 * bs.length)
    (hb : ∀ t, t < n → bitAt bs (p + t) = v.testBit (n - 1 - t)) : nx L bs (mostL L) 0 0 p = ((s : Int), 0, p + n) := by
  have hm : n ≤ mostL L := by rw [hn]; exact most_le L _ (List.getElem_mem hs)
  have key : ∀ d j, j + d = n → 1 ≤ d → nx L bs (mostL L - j) j (v / 2 ^ d) (p + j) = ((s : Int), 0, p + n) := by
    intro d
    induction d with
    | zero => intro j _ h; omega
    | succ d ih =>
      intro j hj _
      obtain ⟨k', hk'⟩ : ∃ k', mostL L - j = k' + 1 := ⟨mostL L - j - 1, by omega⟩
      have hns : ¬ 8 * bs.length ≤ p + j := by omega
      have hw : 2 * (v / 2 ^ (d + 1)) + (bitAt bs (p + j)).toNat = v / 2 ^ d := by
        rw [hb j (by omega), show n - 1 - j = d + 1 - 1 by omega, ← half v (d + 1) (by omega)]; rfl
      rw [hk']
      by_cases hd : d = 0
      · subst hd
        have hj' : j + 1 = L[s] := by omega
        have hhit : hit L (j + 1) (2 * (v / 2 ^ (0 + 1)) + (bitAt bs (p + j)).toNat) = some s := by
          rw [hw, Nat.pow_zero, Nat.div_one, hve, hj']
          exact hit_at L s hs h0
        rw [nx_hit hns hhit, Nat.add_assoc, hj', hn]
      · have hhit : hit L (j + 1) (2 * (v / 2 ^ (d + 1)) + (bitAt bs (p + j)).toNat) = none := by
          rw [hw, hve]
          have := hit_pre L s (j + 1) (d - 1) hs h0 (by omega)
          rwa [show d - 1 + 1 = d by omega] at this
        rw [nx_on hns hhit, hw, show k' = mostL L - (j + 1) by omega, Nat.add_assoc]
        exact ih (j + 1) (by omega) (by omega)
  have h1 : 1 ≤ n := by omega
  have := key n 0 (by omega) h1
  rwa [Nat.div_eq_of_lt hvn, Nat.sub_zero, Nat.add_zero] at this
theorem enc_read {L : List Nat} {ss : List Nat} {t : Nat} (ht : t < ss.length) (hL : ∀ x ∈ L, x ≤ 15) (hk : kr L 15 ≤ 32768) (hs : ss[t] < L.length) (h0 : L[ss[t]] ≠ 0) :
    nx L (pack (enc L ss)) (mostL L) 0 0 (enc L (ss.take t)).length = ((ss[t] : Int), 0, (enc L (ss.take (t + 1))).length) := by
  have hw := wd_at hs h0
  have hlt := wd_lt L (ss[t] : Int) hL hk
  have hlen := wd_len hs
  have hwb : (wbits L ss[t]).length = L[ss[t]] := by unfold wbits; rw [hbits_len, hlen]
  have he := enc_take L ss t ht
  have htot : (enc L ss).length = (enc L (ss.take t)).length + L[ss[t]] + (enc L (ss.drop (t + 1))).length := by rw [he, List.length_append, List.length_append, hwb]
  rw [enc_succ L ss t ht, List.length_append, hwb]
  refine nx_word hs h0 rfl rfl ?_ ?_ ?_
  · rw [hw] at hlt; exact hlt
  · rw [pack_len]; omega
  · intro u hu
    rw [pack_bit, he, List.getD_eq_getElem?_getD, List.append_assoc, List.getElem?_append_right (by omega), Nat.add_sub_cancel_left, List.getElem?_append_left (by rw [hwb]; exact hu), ← List.getD_eq_getElem?_getD]
    unfold wbits
    rw [hlen, hbits_at _ _ _ _ hu, hw]
theorem enc_nil (L : List Nat) : enc L [] = [] := rfl
theorem wbits_def (L : List Nat) (s : Nat) : wbits L s = hbits (wd L (s : Int)).1 (wd L (s : Int)).2 (wd L (s : Int)).2 := rfl
theorem wd_out {L : List Nat} {s : Nat} (h : L.length ≤ s) : (wd L (s : Int)).2 = 0 := by
  unfold wd
  rw [if_neg (by omega), Int.toNat_natCast, wdN_out L s h]
theorem u16_at (xs : List (BitVec 16)) (i : Nat) (h : i < xs.length) : (xs.map u16v)[i]? = some (.int .u16 ((xs[i]).toNat : Int)) := by
  rw [List.getElem?_map, List.getElem?_eq_getElem h]; rfl
attribute [local irreducible] kr cnt used fst syms wd enc wbits
theorem pback_ok (w : World) (a a2 : Option Addr) (c n2 c2 : Nat) (ls : List Int) (us : List (BitVec 16)) (hR : Rd w a (ls.map iv)) (hl : ls.length ≤ 17592186044416) (hR2 : Rd w a2 (us.map u16v)) (h2 : us.length = n2) (hn2 : n2 ≤ 9223372036854775807) :
    Ret Try.prog 11 [.slice a ls.length c, .slice a2 n2 c2] w (fun v w' => v = .bool true ∧ Keep [] w w') := by
  refine fn_enter (n := 106) Try.func11 rfl rfl (Nat.le_of_ble_eq_true rfl) (fun e => ?_)
  refine k_seq ?_
  refine k_region ?_
  refine m_bool rfl rfl ?_
  refine o_nil ?_
  refine k_seq ?_
  refine k_seq ?_
  refine k_region ?_
  refine o_call rfl rfl (fixed5_ok w) (fun v w1 hv => ?_)
  obtain ⟨rfl, hK1⟩ := hv
  refine u_notb rfl ?_
  refine o_nil ?_
  refine k_condf rfl ?_
  refine k_skip ?_
  refine k_seq ?_
  refine k_region ?_
  refine o_bsl (E := 3) (cs := #[]) rfl (fun _ => by kernel_rfl) (fun g w2 hB2 hK2 hb2 hZ2 => ?_)
  have hk2 := hK1.tr hK2
  have hf2 : ∀ p, (some (⟨g, 0, none⟩ : Addr)) = some p → w.heap.size ≤ p.block := by intro p hp; simp at hp; subst hp; simp only; have := hK1.size; omega
  refine m_sl rfl rfl ?_
  refine o_app Try.underlying42 inf3 rfl (by decide) rfl rfl (hB2.sl (len := 0) (sz := 1) rfl (by decide)) (hR.new hk2) (by simp) (iv_one ls) (by simp [maxLen]; omega) (by omega) (fun a3 c3 w3 hS3 hK3 hv3 => ?_)
  have hk3 : Keep [] w w3 := Keep.trb hk2 hK3 hf2
  rw [Nat.zero_add] at hS3 ⊢
  simp only [List.nil_append] at hS3
  refine o_call rfl rfl (new_ok5 w3 a3 c3 ls true hS3.rd (by omega)) (fun v w4 hv => ?_)
  obtain ⟨hK4, p, rfl, hpn, hc⟩ := hv.e
  have hk4 := hk3.tr hK4
  refine m_any rfl rfl ?_
  refine o_extr rfl rfl ?_
  refine o_extr rfl rfl ?_
  refine m_ptr rfl rfl ?_
  refine m_int rfl rfl ?_
  refine o_nil ?_
  refine k_seq ?_
  refine k_seq ?_
  refine k_region ?_
  refine m_int rfl rfl ?_
  refine b_neq rfl rfl ?_
  refine o_nil ?_
  refine k_cond rfl (fun h => ?_) (fun h => ?_)
  ·
    refine k_seq ?_
    refine k_region ?_
    refine m_bool rfl rfl ?_
    refine o_nil ?_
    refine k_ret (ret_tmps (ts := [4]) (v := .bool _) rfl rfl ?_)
    exact ⟨rfl, hk4⟩
  have hy0 : e5 ls true = 0 := Decidable.not_not.1 h
  obtain ⟨r, rfl, hC4⟩ := hc hy0
  obtain ⟨hL15, hkL, hlL⟩ := hC4.lens
  have hnl : (nats ls).length = ls.length := by simp [nats]
  generalize hLe : nats ls = L at *
  refine k_skip ?_
  refine k_seq ?_
  refine k_region ?_
  refine o_build (v := .agg #[.slice none 0 0, .int .i64 0]) rfl (fun _ => by kernel_rfl) ?_
  refine o_box rfl rfl (fun b w5 hB5 hK5 hb5 hZ5 => ?_)
  have hk5 := hk4.tr hK5
  have hW5 : Wtr w.heap.size w5 b [] := wtr_new hB5 hb5 hk4.size
  refine m_ptr rfl rfl ?_
  refine o_nil ?_
  refine k_seq ?_
  refine k_region ?_
  refine m_sl rfl rfl ?_
  refine o_nil ?_
  refine k_seq ?_
  refine k_seq ?_
  refine k_region ?_
  refine m_int rfl rfl ?_
  refine o_nil ?_
  refine k_block ?_
  refine k_loop (σ := Nat × List Nat × Option Addr × Nat) (fun s => [(0, .slice a ls.length c), (1, .slice a2 n2 c2), (5, .pointer (some ⟨r, 0, none⟩)), (7, .pointer (some ⟨b, 0, none⟩)), (8, .slice s.2.2.1 s.2.1.length s.2.2.2), (9, .int .i64 (s.1 : Int))]) (fun s w' => s.1 ≤ n2 ∧ s.1 ≤ 300 ∧ s.2.1.length ≤ s.1 ∧ (enc L s.2.1).length ≤ 15 * s.1 ∧ (∀ x ∈ s.2.1, ∃ h : x < L.length, L[x] ≠ 0) ∧ Wtr w.heap.size w' b (enc L s.2.1) ∧ Sl w' 3 1 s.2.2.1 s.2.1.length s.2.2.2 (sv s.2.1) ∧ (∀ q, s.2.2.1 = some q → w.heap.size ≤ q.block) ∧ CodeP w' r L ∧ Keep [] w w') (fun s => 300 - s.1) (0, [], none, 0) ⟨rfl, rfl, rfl, rfl, rfl, rfl, trivial⟩ ⟨by simp, by simp, by simp, by simp [enc_nil], by simp, by simp only [enc_nil]; exact hW5, Sl.nil _ _ _, by simp, hC4.new hK5, hk5⟩ (fun s e w6 hJ => ?_)
  obtain ⟨i, ss, a6, c6⟩ := s
  obtain ⟨hi2, hi3, hsl6, hel6, hin6, hW6, hS6, hf6, hC6, hk6⟩ := hJ
  simp only at hi2 hi3 hsl6 hel6 hin6 hW6 hS6 hf6
  change kw _ _ _ _ (ovr [(0, .slice a ls.length c), (1, .slice a2 n2 c2), (5, .pointer (some ⟨r, 0, none⟩)), (7, .pointer (some ⟨b, 0, none⟩)), (8, .slice a6 ss.length c6), (9, .int .i64 (i : Int))] e) w6
  refine k_seq ?_
  refine k_seq ?_
  refine k_cut (σ := Unit) (fun _ => [(0, .slice a ls.length c), (1, .slice a2 n2 c2), (5, .pointer (some ⟨r, 0, none⟩)), (7, .pointer (some ⟨b, 0, none⟩)), (8, .slice a6 ss.length c6), (9, .int .i64 (i : Int)), (39, .bool (decide (i < n2 ∧ i < 300)))]) (fun _ w' => w' = w6) ?_ (fun _ e w7 hJ => ?_)
  ·
    refine k_region ?_
    refine m_int rfl rfl ?_
    refine m_sl rfl rfl ?_
    refine o_lens Try.underlying74 rfl ?_
    refine b_lss rfl rfl ?_
    refine m_bool rfl rfl ?_
    refine o_split (t := 36) rfl (fun h => ?_) (fun h => ?_)
    ·
      refine g_yes rfl rfl ?_
      refine m_int rfl rfl ?_
      refine g_yes rfl rfl ?_
      refine b_lss rfl rfl ?_
      refine pick_t rfl rfl ?_
      refine o_nil ?_
      refine k_goal ⟨(), ⟨rfl, rfl, rfl, rfl, rfl, rfl, congrArg Value.bool (decide_eq_decide.2 ⟨fun hh => ⟨by omega, by omega⟩, fun hh => by omega⟩), trivial⟩, rfl⟩
    ·
      refine g_no rfl rfl rfl ?_
      refine g_no rfl rfl rfl ?_
      refine pick_f rfl rfl ?_
      refine o_nil ?_
      refine k_goal ⟨(), ⟨rfl, rfl, rfl, rfl, rfl, rfl, congrArg Value.bool (decide_eq_false (fun hh => by omega)).symm, trivial⟩, rfl⟩
  subst hJ
  refine k_cond rfl (fun h => ?_) (fun h => ?_)
  rotate_left
  ·
    refine k_exit rfl ?_
    refine k_seq ?_
    refine k_region ?_
    refine m_ptr rfl rfl ?_
    refine o_call rfl rfl (wbytes_ok w.heap.size _ b _ (by omega) hW6) (fun v w8 hv => ?_)
    obtain ⟨⟨a8, c8, rfl, hS8, _⟩, hK8⟩ := hv
    have hpl := pack_len (enc L ss)
    have hW8 := hW6.new hK8
    have hk8 := hk6.tr hK8
    rw [List.length_map] at hS8 ⊢
    refine o_call rfl rfl (new_ok w8 a8 c8 _ hS8.rd (by omega)) (fun v w9 hv => ?_)
    obtain ⟨x, rfl, hR9, hK9, hx9⟩ := hv
    have hk9 := hk8.tr hK9
    have hwx : w.heap.size ≤ x := by have := hk8.size; omega
    refine m_ptr rfl rfl ?_
    refine o_nil ?_
    refine k_seq ?_
    refine k_seq ?_
    refine k_region ?_
    refine m_sl rfl rfl ?_
    refine o_lens Try.underlying42 rfl ?_
    refine m_int rfl rfl ?_
    refine o_nil ?_
    refine k_block ?_
    refine k_loop (σ := Nat) (fun t => [(5, .pointer (some ⟨r, 0, none⟩)), (7, .pointer (some ⟨b, 0, none⟩)), (14, .pointer (some ⟨x, 0, none⟩)), (81, .slice a6 ss.length c6), (82, .int .i64 (ss.length : Int)), (83, .int .i64 (t : Int))]) (fun t w' => t ≤ ss.length ∧ Wtr w.heap.size w' b (enc L ss) ∧ Sl w' 3 1 a6 ss.length c6 (sv ss) ∧ CodeP w' r L ∧ Rdr 79 w' x (pack (enc L ss)) (enc L (ss.take t)).length ∧ Keep [] w w') (fun t => ss.length - t) 0 ⟨rfl, rfl, rfl, rfl, rfl, rfl, trivial⟩ ⟨by omega, hW8.new hK9, (hS6.new hK8).new hK9, (hC6.new hK8).new hK9, by rw [List.take_zero, enc_nil]; exact hR9, hk9⟩ (fun t e w10 hJ => ?_)
    obtain ⟨ht, hW10, hS10, hC10, hR10, hk10⟩ := hJ
    refine k_seq ?_
    refine k_region ?_
    refine b_lss rfl rfl ?_
    refine o_nil ?_
    refine k_seq ?_
    refine k_cond rfl (fun h => ?_) (fun h => ?_)
    rotate_left
    ·
      obtain rfl : t = ss.length := by omega
      rw [List.take_length] at hR10
      refine k_exit rfl ?_
      refine k_seq ?_
      refine k_region ?_
      refine m_ptr rfl rfl ?_
      refine o_call rfl rfl (at_ok w10 x _ _ hR10) (fun v w11 hv => ?_)
      obtain ⟨rfl, rfl⟩ := hv
      refine m_ptr rfl rfl ?_
      refine o_call rfl rfl (wlen_ok _ w11 b _ hW10) (fun v w12 hv => ?_)
      obtain ⟨rfl, rfl⟩ := hv
      refine b_eql rfl rfl ?_
      refine m_bool rfl rfl ?_
      refine o_nil ?_
      refine k_ret (ret_tmps (ts := [4]) (v := .bool _) rfl rfl ?_)
      exact ⟨by simp, hk10⟩
    have htl : t < ss.length := by omega
    obtain ⟨hsL, hs0⟩ := hin6 _ (List.getElem_mem htl)
    have hrd := enc_read htl hL15 hkL hsL hs0
    obtain ⟨b1, o1, rfl, hcell⟩ := hS10.rd t _ (sv_at (List.getElem?_eq_getElem htl))
    refine k_skip ?_
    refine k_seq ?_
    refine k_block ?_
    refine k_seq ?_
    refine k_region ?_
    refine o_ixs1 Try.underlying42 rfl rfl rfl htl ?_
    refine o_ld rfl rfl hcell ?_
    refine m_int rfl rfl ?_
    refine o_nil ?_
    refine k_seq ?_
    refine k_region ?_
    refine m_ptr rfl rfl ?_
    refine m_ptr rfl rfl ?_
    refine o_call rfl rfl (next_ok w10 r x L _ _ hC10 hR10) (fun v w11 hv => ?_)
    unfold NxR at hv
    rw [hrd] at hv
    obtain ⟨rfl, hR11, hK11⟩ := hv
    obtain ⟨csx, hBx⟩ := hR10.blk
    have hkt := hK11.t1 (Ts := [79]) (Nat.zero_le _) hBx (by simp)
    refine m_any rfl rfl ?_
    refine o_extr rfl rfl ?_
    refine o_extr rfl rfl ?_
    refine m_int rfl rfl ?_
    refine m_int rfl rfl ?_
    refine o_nil ?_
    refine k_seq ?_
    refine k_region ?_
    refine m_int rfl rfl ?_
    refine b_neq rfl rfl ?_
    refine m_bool rfl rfl ?_
    refine o_false (t := 95) rfl ((by simp)) ?_
    refine g_yes rfl rfl ?_
    refine m_int rfl rfl ?_
    refine g_yes rfl rfl ?_
    refine m_int rfl rfl ?_
    refine g_yes rfl rfl ?_
    refine b_neq rfl rfl ?_
    refine pick_f rfl rfl ?_
    refine o_nil ?_
    refine k_no rfl ((by simp)) ?_
    refine k_skip ?_
    refine k_blk ?_
    refine k_region ?_
    refine n_add rfl rfl (by omega) ?_
    refine m_int rfl rfl ?_
    refine o_nil ?_
    refine k_goal ⟨t + 1, ⟨rfl, rfl, rfl, rfl, rfl, rfl, trivial⟩, ⟨by omega, hW10.kt hkt (by decide) (by decide), hS10.kt hkt (by decide), hC10.rdr hR10 hK11, hR11, hk10.tr1 hK11 hwx⟩, by omega⟩
  obtain ⟨hin2, hi300⟩ := h
  have hiu : i < us.length := by omega
  obtain ⟨b1, o1, rfl, _⟩ := hR2.at i (by simpa using hiu)
  refine k_skip ?_
  refine k_seq ?_
  refine k_block ?_
  refine k_seq ?_
  refine k_region ?_
  refine m_sl rfl rfl ?_
  refine m_int rfl rfl ?_
  refine o_ixs1 Try.underlying74 rfl rfl rfl (by omega) ?_
  refine o_ld rfl rfl (hR2.cellK hk6 (u16_at us i hiu)) ?_
  refine cv16_i rfl Try.underlying3 rfl ?_
  refine m_int rfl rfl ?_
  refine o_nil ?_
  refine k_seq ?_
  refine k_seq ?_
  refine k_region ?_
  refine m_sl rfl rfl ?_
  refine o_lens Try.underlying42 rfl ?_
  refine b_gtr rfl rfl ?_
  refine o_nil ?_
  refine k_cut (σ := Nat) (fun s => [(0, .slice a ls.length c), (1, .slice (some ⟨b1, o1, none⟩) n2 c2), (5, .pointer (some ⟨r, 0, none⟩)), (7, .pointer (some ⟨b, 0, none⟩)), (8, .slice a6 ss.length c6), (9, .int .i64 (i : Int)), (10, .int .i64 (s : Int))]) (fun s w' => w' = w7) ?_ (fun s e w8 hJ => ?_)
  ·
    refine k_cond rfl (fun h => ?_) (fun h => ?_)
    ·
      refine k_region ?_
      refine m_int rfl rfl ?_
      refine m_sl rfl rfl ?_
      refine o_lens Try.underlying42 rfl ?_
      refine b_rem rfl rfl (by omega) ?_
      rw [tm]
      refine m_int rfl rfl ?_
      refine o_nil ?_
      refine k_goal ⟨_, ⟨rfl, rfl, rfl, rfl, rfl, rfl, rfl, trivial⟩, rfl⟩
    refine k_skip ?_
    refine k_goal ⟨_, ⟨rfl, rfl, rfl, rfl, rfl, rfl, rfl, trivial⟩, rfl⟩
  subst hJ
  refine k_seq ?_
  refine k_region ?_
  refine m_ptr rfl rfl ?_
  refine m_int rfl rfl ?_
  refine o_call rfl rfl (word_ok _ r L (s : Int) hC6) (fun v w9 hv => ?_)
  obtain ⟨rfl, hK9⟩ := hv
  have hk9 := hk6.tr hK9
  have hW9 := hW6.new hK9
  have hS9 := hS6.new hK9
  have hC9 := hC6.new hK9
  have hwle := wd_le L (s : Int) hL15
  have hwl6 := wd_lt16 L (s : Int) hL15 hkL
  refine m_any rfl rfl ?_
  refine o_extr rfl rfl ?_
  refine o_extr rfl rfl ?_
  refine m_int rfl rfl ?_
  refine m_int rfl rfl ?_
  refine o_nil ?_
  refine k_seq ?_
  refine k_seq ?_
  refine k_region ?_
  refine m_int rfl rfl ?_
  refine b_eql rfl rfl ?_
  refine o_nil ?_
  refine k_cond rfl (fun h => ?_) (fun h => ?_)
  ·
    refine k_exit rfl ?_
    refine k_region ?_
    refine m_int rfl rfl ?_
    refine n_add rfl rfl (by omega) ?_
    refine m_int rfl rfl ?_
    refine o_nil ?_
    refine k_goal ⟨(i + 1, ss, a6, c6), ⟨rfl, rfl, rfl, rfl, rfl, rfl, trivial⟩, ⟨by simp only; omega, by simp only; omega, by simp only; omega, by simp only; omega, hin6, hW9, hS9, hf6, hC9, hk9⟩, by simp only; omega⟩
  have hn0 : (wd L (s : Int)).2 ≠ 0 := by omega
  have hsin : ∃ h : s < L.length, L[s] ≠ 0 := by
   by_cases hs : s < L.length
   · exact ⟨hs, by rw [← wd_len hs]; exact hn0⟩
   · exact absurd (wd_out (by omega)) hn0
  have hwb := wbits_def L s
  generalize hve : (wd L (s : Int)).1 = v at *
  generalize hne : (wd L (s : Int)).2 = n at *
  refine k_skip ?_
  refine k_seq ?_
  refine k_region ?_
  refine m_sl rfl rfl ?_
  refine m_int rfl rfl ?_
  refine o_bsl (E := 3) (cs := #[.int .i64 (s : Int)]) rfl (fun _ => by kernel_rfl) (fun g10 w10 hG10 hK10 hb10 hZ10 => ?_)
  refine o_app Try.underlying42 inf3 rfl (by decide) rfl rfl (hS9.new hK10) hG10.rd (by simp) (by simp [Value.oneCell']) (by simp [maxLen]; omega) (by omega) (fun a11 c11 w11 hS11 hK11 hv11 => ?_)
  have hk11 : Keep [] w w11 := Keep.trb (hk9.tr hK10) hK11 hf6
  have hf11 := fresh_app hf6 (hk9.tr hK10).size hv11
  have hkt := hK11.ts (Ts := [3]) (hS9.new hK10) hf6 (by simp)
  have hW11 := (hW9.new hK10).kt hkt (by decide) (by decide)
  have hC11 := (hC9.new hK10).kt hkt (by decide)
  rw [sv_app] at hS11
  refine m_sl rfl rfl ?_
  refine o_nil ?_
  refine k_seq ?_
  refine k_region ?_
  refine m_int rfl rfl ?_
  refine n_sub rfl rfl (by omega) ?_
  refine m_int rfl rfl ?_
  refine o_nil ?_
  refine k_block ?_
  refine k_loop (σ := Nat) (fun j => [(0, .slice a ls.length c), (1, .slice (some ⟨b1, o1, none⟩) n2 c2), (5, .pointer (some ⟨r, 0, none⟩)), (7, .pointer (some ⟨b, 0, none⟩)), (8, .slice a11 (ss.length + 1) c11), (9, .int .i64 (i : Int)), (11, .int .i64 (v : Int)), (13, .int .i64 ((n : Int) - 1 - (j : Int)))]) (fun j w' => j ≤ n ∧ Wtr w.heap.size w' b (enc L ss ++ hbits v n j) ∧ Sl w' 3 1 a11 (ss.length + 1) c11 (sv (ss ++ [s])) ∧ CodeP w' r L ∧ Keep [] w w') (fun j => n - j) 0 ⟨rfl, rfl, rfl, rfl, rfl, rfl, rfl, congrArg (Value.int .i64) (by omega), trivial⟩ ⟨by omega, by rw [hbits, List.append_nil]; exact hW11, hS11, hC11, hk11⟩ (fun j e w12 hJ => ?_)
  obtain ⟨hj, hW12, hS12, hC12, hk12⟩ := hJ
  refine k_seq ?_
  refine k_seq ?_
  refine k_region ?_
  refine m_int rfl rfl ?_
  refine b_geq rfl rfl ?_
  refine o_nil ?_
  refine k_cond rfl (fun h => ?_) (fun h => ?_)
  rotate_left
  ·
    obtain rfl : j = n := by omega
    refine k_exit rfl ?_
    refine k_blk ?_
    refine k_region ?_
    refine m_int rfl rfl ?_
    refine n_add rfl rfl (by omega) ?_
    refine m_int rfl rfl ?_
    refine o_nil ?_
    refine k_goal ⟨(i + 1, ss ++ [s], a11, c11), ⟨rfl, rfl, rfl, rfl, ?_, rfl, trivial⟩, ⟨by simp only; omega, by simp only; omega, by simp only [List.length_append, List.length_singleton]; omega, ?_, ?_, ?_, ?_, hf11, hC12, hk12⟩, by simp only; omega⟩
    · rw [List.length_append, List.length_singleton]; rfl
    · simp only [enc_app, List.length_append, hwb, hbits_len]; omega
    · intro y hy
      rcases List.mem_append.1 hy with hy | hy
      · exact hin6 y hy
      · simp at hy; subst hy; exact hsin
    · simp only [enc_app, hwb]; exact hW12
    · simp only [List.length_append, List.length_singleton]; exact hS12
  have hjn : j < n := by omega
  rw [show (n : Int) - 1 - (j : Int) = ((n - 1 - j : Nat) : Int) by omega]
  refine k_skip ?_
  refine k_seq ?_
  refine k_block ?_
  refine k_region ?_
  refine m_ptr rfl rfl ?_
  refine m_int rfl rfl ?_
  refine m_int rfl rfl ?_
  refine cv64 rfl Try.underlying47 rfl ?_
  rw [ofN (n - 1 - j) (by omega)]
  refine b_shrn (c := n - 1 - j) rfl rfl ?_
  rw [fdiv_nat _ _ (by omega)]
  refine o_call rfl rfl (put_ok w.heap.size w12 b _ ((1 : Nat) : Int) _ (by rw [List.length_append, hbits_len]; omega) hW12) (fun u w13 hu => ?_)
  obtain ⟨rfl, hW13, hk13⟩ := hu
  rw [pt_ok (by omega), vb1 v _ (by omega)] at hW13
  refine o_nil ?_
  refine k_blk ?_
  refine k_region ?_
  refine m_int rfl rfl ?_
  refine n_sub rfl rfl (by omega) ?_
  refine m_int rfl rfl ?_
  refine o_nil ?_
  refine k_goal ⟨j + 1, ⟨rfl, rfl, rfl, rfl, rfl, rfl, rfl, congrArg (Value.int .i64) (by omega), trivial⟩, ⟨by omega, ?_, hS12.kt hk13 (by decide), hC12.kt hk13 (by decide), hk13.below hk12 (Nat.le_refl _)⟩, by omega⟩
  rw [hbits, ← List.append_assoc]; exact hW13
end Go.Proofs.Ytpmlhlefhmgpfaa
