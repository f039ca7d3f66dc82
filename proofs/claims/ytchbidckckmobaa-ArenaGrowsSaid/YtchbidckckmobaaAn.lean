/- The walk of the law ArenaGrows. No condition beyond what each contract names. -/
import Derived.Test.YtchbidckckmobaaEz
import Derived.Test.YtchbidckckmobaaAm
namespace Go.Proofs.Ytchbidckckmobaa
open Go.RowKit E
set_option linter.unusedVariables false
set_option linter.unusedSimpArgs false
set_option maxRecDepth 100000
attribute [local irreducible] ow qw kw kq cw opW Ret
theorem inf2 : infB Try.prog 2 1 8 (.int .i64 0) := by
  refine ⟨_, rfl, rfl, rfl, rfl⟩
theorem bE_some (ws : List Int) (h : bE ws = 0) : blocksW ws = some (bL ws) := by
  unfold bE at h
  unfold bL
  cases hb : blocksW ws with
  | none => rw [hb] at h; simp at h
  | some L => rfl
theorem bE_of {ws L : List Int} (h : blocksW ws = some L) : bE ws = 0 ∧ bL ws = L := by
  unfold bE bL; rw [h]; exact ⟨rfl, rfl⟩
theorem chain_len' (ws : List Int) (d : Nat) : ∀ p, ws.length - p ≤ d → ∀ L, chain ws p = some L → L.length ≤ ws.length - p := by
  induction d with
  | zero =>
    intro p hp L hL
    rw [chain_end ws p (by omega)] at hL
    obtain rfl := Option.some.inj hL
    simp
  | succ d ih =>
    intro p hp L hL
    by_cases h : p < ws.length
    · by_cases hc : (openW (ws[p])).2.2.2.2 = 0 ∧ (openW (ws[p])).2.2.1 ≤ (ws.length : Int) - p - 1
      · rw [chain_yes ws p h hc] at hL
        obtain ⟨M, hM, rfl⟩ := Option.map_eq_some_iff.1 hL
        have := ih _ (by omega) M hM
        rw [List.length_cons]
        omega
      · rw [chain_no ws p h hc] at hL
        simp at hL
    · rw [chain_end ws p h] at hL
      obtain rfl := Option.some.inj hL
      simp
theorem bL_len (ws : List Int) : (bL ws).length ≤ ws.length := by
  unfold bL blocksW
  split
  · simp
  · cases hc : chain ws 1 with
    | none => simp
    | some L =>
      have := chain_len' ws _ 1 (Nat.le_refl _) L hc
      simp only
      split
      · simp; omega
      · simp
theorem shl1 (sz : Nat) (h : sz < 33) : IntKind.i64.wrap (1 * 2 ^ min (BitVec.ofInt 64 (sz : Int)).toNat IntKind.i64.bits) = 2 ^ sz := by
  have hp := ipow32 sz (by omega)
  rw [ofN sz (by omega), show min sz IntKind.i64.bits = sz from Nat.min_eq_left (by simp [IntKind.bits]; omega), Int.one_mul, IntWalk.i64_in _ (by omega)]
theorem grows_ok (w : World) (a : Option Addr) (n c : Nat) (ws : List Int) (k0 c0 n0 : Int) (hk0 : 0 ≤ k0 ∧ k0 ≤ 255) (hc0 : 0 ≤ c0 ∧ c0 ≤ 65535) (hn0 : 0 ≤ n0 ∧ n0 ≤ 255) (hW : Rd w a (ws.map iv)) (hn : ws.length = n) :
    Ret Try.prog 6 [.slice a n c, .int .u8 k0, .int .u16 c0, .int .u8 n0] w (fun v w' => v = .bool true ∧ Keep [] w w') := by
  obtain ⟨kd, rfl⟩ : ∃ d : BitVec 8, k0 = (d.toNat : Int) := ⟨BitVec.ofInt 8 k0, by rw [BitVec.toNat_ofInt]; omega⟩
  obtain ⟨cl, rfl⟩ : ∃ d : BitVec 16, c0 = (d.toNat : Int) := ⟨BitVec.ofInt 16 c0, by rw [BitVec.toNat_ofInt]; omega⟩
  obtain ⟨nn, rfl⟩ : ∃ d : BitVec 8, n0 = (d.toNat : Int) := ⟨BitVec.ofInt 8 n0, by rw [BitVec.toNat_ofInt]; omega⟩
  have hkk : (kd % 3#8).toNat < 3 := by rw [BitVec.toNat_umod]; exact Nat.mod_lt _ (by decide)
  have hsz : (nn % 33#8).toNat < 33 := by rw [BitVec.toNat_umod]; exact Nat.mod_lt _ (by decide)
  refine fn_enter (n := 81) Try.func6 rfl rfl (Nat.le_of_ble_eq_true rfl) (fun e => ?_)
  refine k_seq ?_
  refine k_region ?_
  refine m_bool rfl rfl ?_
  refine o_nil ?_
  refine k_seq ?_
  refine k_seq ?_
  refine k_region ?_
  refine o_call rfl rfl (fixed_ok w) (fun v w1 hv => ?_)
  obtain ⟨rfl, hK1⟩ := hv
  refine u_notb rfl ?_
  refine o_nil ?_
  refine k_condf rfl ?_
  refine k_skip ?_
  refine k_seq ?_
  refine k_seq ?_
  refine k_region ?_
  refine m_sl rfl rfl ?_
  refine o_lens Try.underlying29 rfl ?_
  refine b_gtr rfl rfl ?_
  refine o_nil ?_
  refine k_cond rfl (fun h => ?_) (fun h => ?_)
  ·
    refine k_seq ?_
    refine k_region ?_
    refine m_bool rfl rfl ?_
    refine o_nil ?_
    refine k_ret (ret_tmps (ts := [8]) (v := .bool _) rfl rfl ?_)
    exact ⟨rfl, hK1⟩
  refine k_skip ?_
  refine k_seq ?_
  refine k_region ?_
  refine m_sl rfl rfl ?_
  refine o_call rfl rfl (blocks_ok w1 a n c ws (hW.new hK1) hn (by omega)) (fun v w2 hv => ?_)
  obtain ⟨s2, rfl, a2, c2, rfl, hS2, hK2, hf2⟩ := hv.cut
  refine m_any rfl rfl ?_
  refine o_extr rfl rfl ?_
  refine o_extr rfl rfl ?_
  refine m_sl rfl rfl ?_
  refine m_int rfl rfl ?_
  refine o_nil ?_
  refine k_seq ?_
  refine k_seq ?_
  refine k_region ?_
  refine m_int rfl rfl ?_
  refine b_neq rfl rfl ?_
  refine o_nil ?_
  refine k_cond rfl (fun h => ?_) (fun h => ?_)
  ·
    refine k_seq ?_
    refine k_region ?_
    refine m_bool rfl rfl ?_
    refine o_nil ?_
    refine k_ret (ret_tmps (ts := [8]) (v := .bool _) rfl rfl ?_)
    exact ⟨rfl, hK1.tr hK2⟩
  have hbl := bL_len ws
  have hbw := bE_some ws (Decidable.of_not_not h)
  refine k_skip ?_
  refine k_seq ?_
  refine k_region ?_
  refine m_int rfl rfl ?_
  refine v8_rem (b := 3#8) rfl rfl (by decide) ?_
  refine cv8_i rfl Try.underlying3 rfl ?_
  refine n_add rfl rfl (by omega) ?_
  refine m_int rfl rfl ?_
  refine v8_rem (b := 33#8) rfl rfl (by decide) ?_
  refine cv8_i rfl Try.underlying3 rfl ?_
  generalize (kd % 3#8).toNat = kk at hkk ⊢
  generalize (nn % 33#8).toNat = sz at hsz ⊢
  refine m_int rfl rfl ?_
  refine m_int rfl rfl ?_
  refine o_nil ?_
  refine k_seq ?_
  refine k_region ?_
  refine m_int rfl rfl ?_
  refine o_nil ?_
  refine k_seq ?_
  refine k_seq ?_
  refine k_region ?_
  refine m_int rfl rfl ?_
  refine b_eql rfl rfl ?_
  refine o_nil ?_
  refine k_cut (σ := Int) (fun m => [(0, .slice a n c), (2, .int .u16 (cl.toNat : Int)), (9, .slice a2 (bL ws).length c2), (11, .int .i64 (1 + (kk : Int))), (12, .int .i64 (sz : Int)), (13, .int .i64 m)]) (fun m w' => w' = w2 ∧ hOk (1 + (kk : Int)) (cl.toNat : Int) (sz : Int) m) ?_ (fun m e w3 hJ => ?_)
  ·
    refine k_cond rfl (fun h => ?_) (fun h => ?_)
    ·
      refine k_region ?_
      refine m_int rfl rfl ?_
      refine cv64 rfl Try.underlying37 rfl ?_
      refine b_shln rfl rfl ?_
      rw [shl1 sz hsz]
      have hp := ipow32 sz (by omega)
      refine n_sub rfl rfl (by omega) ?_
      refine m_int rfl rfl ?_
      refine o_nil ?_
      refine k_goal ⟨2 ^ sz - 1, ⟨rfl, rfl, rfl, rfl, rfl, rfl, trivial⟩, rfl, ?_⟩
      have hcl := cl.isLt
      unfold hOk
      rw [Int.toNat_natCast]
      omega
    refine k_skip ?_
    refine k_goal ⟨0, ⟨rfl, rfl, rfl, rfl, rfl, rfl, trivial⟩, rfl, ?_⟩
    have hcl := cl.isLt
    unfold hOk
    omega
  obtain ⟨rfl, hO⟩ := hJ
  have hcl := cl.isLt
  have hmr : -9223372036854775808 ≤ m ∧ m ≤ 9223372036854775807 := by
   have h8 := hO.2.2.2.2.2.2
   have hp := ipow32 sz (by omega)
   by_cases hk1 : 1 + (kk : Int) = 1
   · have := h8.2 hk1
     rw [Int.toNat_natCast] at this
     omega
   · have := h8.1 hk1
     omega
  refine k_seq ?_
  refine k_region ?_
  refine m_int rfl rfl ?_
  refine m_int rfl rfl ?_
  refine cv16_i rfl Try.underlying3 rfl ?_
  refine m_int rfl rfl ?_
  refine m_int rfl rfl ?_
  refine o_call rfl rfl (head_ok w3 _ _ _ _ (by omega) (by omega) hmr) (fun v w4 hv => ?_)
  obtain ⟨rfl, rfl⟩ := hv
  rw [head_yes hO]
  have hoh := open_head _ _ _ _ hO
  generalize 1 + (kk : Int) + 4 * (cl.toNat : Int) + 262144 * (sz : Int) + 16777216 * m = hd at hoh ⊢
  have hk4 := hK1.tr hK2
  refine m_any rfl rfl ?_
  refine o_extr rfl rfl ?_
  refine o_extr rfl rfl ?_
  refine m_int rfl rfl ?_
  refine m_int rfl rfl ?_
  refine o_nil ?_
  refine k_seq ?_
  refine k_region ?_
  refine o_bsl (E := 2) (cs := #[]) rfl (fun _ => by kernel_rfl) (fun g5 w5 hB5 hK5 hb5 hZ5 => ?_)
  refine m_sl rfl rfl ?_
  refine o_app Try.underlying29 inf2 rfl (by decide) rfl rfl (hB5.sl (len := 0) (sz := 1) rfl (by omega)) (hW.new (hk4.tr hK5)) (by simp [hn]) (iv_one ws) (by simp [maxLen]; omega) (by omega) (fun a6 c6 w6 hS6 hK6 hv6 => ?_)
  refine m_int rfl rfl ?_
  refine o_bsl (E := 2) (cs := #[.int .i64 hd]) rfl (fun _ => by kernel_rfl) (fun g7 w7 hB7 hK7 hb7 hZ7 => ?_)
  refine o_app Try.underlying29 inf2 rfl (by decide) rfl rfl (hS6.new hK7) hB7.rd rfl (by intro u hu; simp at hu; subst hu; rfl) (by simp [maxLen]; omega) (by omega) (fun a8 c8 w8 hS8 hK8 hv8 => ?_)
  have hk6 : Keep [] w4 w6 := Keep.trb hK5 hK6 (by intro p hp; simp at hp; subst hp; simp only; omega)
  have hf6 : ∀ q, a6 = some q → w4.heap.size ≤ q.block := fresh_app (by intro p hp; simp at hp; subst hp; simp only; omega) hK5 hv6
  have hk8 : Keep [] w4 w8 := Keep.trb (hk6.tr hK7) hK8 hf6
  have hf8 : ∀ q, a8 = some q → w4.heap.size ≤ q.block := fresh_app hf6 (hk6.tr hK7) hv8
  obtain ⟨b8, o8, rfl, _⟩ := hS8.rd.at 0 (by simp)
  refine m_int rfl rfl ?_
  refine o_ext Try.underlying29 Try.underlying3 inf2 rfl rfl rfl rfl hS8 (by simp [maxLen]; omega) (by omega) (fun a9 c9 w9 hS9 hK9 hv9 => ?_)
  have hk9 : Keep [] w4 w9 := hk8.tr1 hK9 (hf8 _ rfl)
  have hrow : ((([] : List Value) ++ ws.map iv) ++ [.int .i64 hd]) ++ List.replicate sz (.int .i64 0) = (ws ++ hd :: List.replicate sz 0).map iv := by simp [iv]
  have hba := blocks_app ws (List.replicate sz 0) (bL ws) hd (by rw [hoh]) (by rw [hoh]; simp) (fun z hz => (List.mem_replicate.1 hz).2) hbw
  refine o_call rfl rfl (blocks_ok w9 a9 _ c9 (ws ++ hd :: List.replicate sz 0) (hrow ▸ hS9.rd) (by simp; omega) (by omega)) (fun v w10 hv => ?_)
  obtain ⟨s10, rfl, a10, c10, rfl, hS10, hK10, hf10⟩ := hv.cut
  obtain ⟨hbE, hbL⟩ := bE_of hba
  rw [hbE]
  rw [hbL] at hS10 ⊢
  refine m_any rfl rfl ?_
  refine o_extr rfl rfl ?_
  refine o_extr rfl rfl ?_
  refine m_sl rfl rfl ?_
  refine m_int rfl rfl ?_
  refine o_nil ?_
  refine k_seq ?_
  refine k_region ?_
  refine m_int rfl rfl ?_
  refine b_eql rfl rfl ?_
  refine m_bool rfl rfl ?_
  refine o_true (t := 66) rfl (rfl) ?_
  refine g_yes rfl rfl ?_
  refine m_int rfl rfl ?_
  refine g_yes rfl rfl ?_
  refine b_eql rfl rfl ?_
  refine pick_t rfl rfl ?_
  refine m_bool rfl rfl ?_
  refine o_true (t := 70) rfl (rfl) ?_
  refine g_yes rfl rfl ?_
  refine m_sl rfl rfl ?_
  refine g_yes rfl rfl ?_
  refine o_bsl (E := 3) (cs := #[]) rfl (fun _ => by kernel_rfl) (fun g11 w11 hB11 hK11 hb11 hZ11 => ?_)
  have hk11 : Keep [] w4 w11 := hk9.tr (hK10.tr hK11)
  refine g_yes rfl rfl ?_
  refine m_sl rfl rfl ?_
  refine g_yes rfl rfl ?_
  refine o_app Try.underlying30 inf3 rfl (by decide) rfl rfl (hB11.sl (len := 0) (sz := 1) rfl (by omega)) (hS2.rd.new hk11) (by simp) (iv_one _) (by simp [maxLen]; omega) (by omega) (fun a12 c12 w12 hS12 hK12 hv12 => ?_)
  have hk12 : Keep [] w10 w12 := Keep.trb hK11 hK12 (by intro p hp; simp at hp; subst hp; simp only; omega)
  have hf12 : ∀ q, a12 = some q → w10.heap.size ≤ q.block := fresh_app (by intro p hp; simp at hp; subst hp; simp only; omega) hK11 hv12
  refine g_yes rfl rfl ?_
  refine m_sl rfl rfl ?_
  refine g_yes rfl rfl ?_
  refine o_lens Try.underlying29 rfl ?_
  refine g_yes rfl rfl ?_
  refine o_bsl (E := 3) (cs := #[.int .i64 (n : Int)]) rfl (fun _ => by kernel_rfl) (fun g13 w13 hB13 hK13 hb13 hZ13 => ?_)
  refine g_yes rfl rfl ?_
  refine o_app Try.underlying30 inf3 rfl (by decide) rfl rfl (hS12.new hK13) hB13.rd rfl (by intro u hu; simp at hu; subst hu; rfl) (by simp [maxLen]; omega) (by omega) (fun a14 c14 w14 hS14 hK14 hv14 => ?_)
  have hk14 : Keep [] w10 w14 := Keep.trb (hk12.tr hK13) hK14 hf12
  have hrow2 : ((([] : List Value) ++ (bL ws).map iv) ++ [.int .i64 (n : Int)]) = (bL ws ++ [(n : Int)]).map iv := by simp [iv]
  refine g_yes rfl rfl ?_
  refine o_call rfl rfl (same_ok w14 a10 a14 _ _ c10 c14 (bL ws ++ [(ws.length : Int)]) (bL ws ++ [(n : Int)]) (hS10.rd.new hk14) (hrow2 ▸ hS14.rd) rfl (by simp) (sl_max hS10)) (fun v w15 hv => ?_)
  obtain ⟨rfl, hK15⟩ := hv
  refine pick_t rfl rfl ?_
  refine m_bool rfl rfl ?_
  refine o_nil ?_
  refine k_ret (ret_tmps (ts := [8]) (v := .bool _) rfl rfl ?_)
  refine ⟨congrArg Value.bool (decide_eq_true (by rw [hn])), hk4.tr (hk9.tr (hK10.tr (hk14.tr hK15)))⟩
end Go.Proofs.Ytchbidckckmobaa
