/- The walks of prefix.Code's Word and Next. No condition beyond what each contract names. -/
import Derived.Test.YtpmlhlefhmgpfaaPb
namespace Go.Proofs.Ytpmlhlefhmgpfaa
open Go.RowKit E
set_option linter.unusedVariables false
set_option linter.unusedSimpArgs false
set_option maxRecDepth 100000
attribute [local irreducible] ow qw kw kq cw opW Ret
theorem wd_le (L : List Nat) (s : Int) (hL : ∀ x ∈ L, x ≤ 15) : (wd L s).2 ≤ 15 := by
  unfold wd
  split
  · simp
  · unfold wdN
    split
    · simp
    · simp only
      by_cases h : s.toNat < L.length
      · rw [getD_at h]; exact hL _ (List.getElem_mem h)
      · rw [List.getD_eq_getElem?_getD, List.getElem?_eq_none (by omega)]; simp
theorem wd_lt (L : List Nat) (s : Int) (hL : ∀ x ∈ L, x ≤ 15) (hk : kr L 15 ≤ 32768) : (wd L s).1 < 2 ^ (wd L s).2 := by
  unfold wd
  split
  · simp
  · by_cases h : s.toNat < L.length
    · by_cases h0 : L[s.toNat] = 0
      · rw [wdN_none L _ h h0]; simp
      · rw [wdN_at L _ h h0]
        have := fst_lt hk L[s.toNat] (hL _ (List.getElem_mem h))
        have := cnt_lt L _ h h0
        simp only
        omega
    · rw [wdN_out L _ (by omega)]; simp
theorem wd_lt16 (L : List Nat) (s : Int) (hL : ∀ x ∈ L, x ≤ 15) (hk : kr L 15 ≤ 32768) : (wd L s).1 < 65536 := by
  have h1 := wd_lt L s hL hk
  have : 2 ^ (wd L s).2 ≤ 2 ^ 15 := Nat.pow_le_pow_right (by decide) (wd_le L s hL)
  omega
theorem wm_get {L : List Nat} {wm : List (Int × Value)} (h : WM L L.length wm) (s : Int) : (getM wm s).getD (.agg #[.int .u8 0, .int .u16 0]) = kvw (BitVec.ofNat 8 (wd L s).2, BitVec.ofNat 16 (wd L s).1) := by
  rw [h s]
  by_cases hs : s < 0
  · rw [if_neg (by omega)]
    unfold wd
    rw [if_pos hs]; rfl
  · unfold wd
    rw [if_neg hs]
    by_cases hl : s.toNat < L.length
    · by_cases h0 : L[s.toNat] = 0
      · rw [if_neg (fun hh => hh.2.2 (by rw [getD_at hl]; exact h0)), wdN_none L _ hl h0]; rfl
      · rw [if_pos ⟨by omega, by omega, by rw [getD_at hl]; exact h0⟩, wdN_at L _ hl h0]
        unfold wcell
        rw [getD_at hl]; rfl
    · rw [if_neg (by omega), wdN_out L _ (by omega)]; rfl
theorem word_ok (w : World) (r : Nat) (L : List Nat) (s : Int) (h : CodeP w r L) :
    Ret Try.prog 36 [.pointer (some ⟨r, 0, none⟩), .int .i64 s] w (fun v w' => v = .tuple #[.int .i64 ((wd L s).1 : Int), .int .i64 ((wd L s).2 : Int)] ∧ Keep [] w w') := by
  obtain ⟨rs, rw, sm, wm, hB, hM, hN, hS, hW, hL, hk, hl⟩ := h
  refine fn_enter (n := 21) Try.func36 rfl rfl (Nat.le_of_ble_eq_true rfl) (fun e => ?_)
  refine k_seq ?_
  refine k_region ?_
  refine m_int rfl rfl ?_
  refine m_int rfl rfl ?_
  refine o_nil ?_
  refine k_seq ?_
  refine k_seq ?_
  refine k_region ?_
  refine m_ptr rfl rfl ?_
  refine b_eqlp Try.underlying56 rfl rfl ?_
  refine o_nil ?_
  refine k_no rfl ((by simp)) ?_
  refine k_skip ?_
  refine k_seq ?_
  refine k_region ?_
  refine m_ptr rfl rfl ?_
  refine o_nilc rfl ?_
  refine o_fld (off := 1) rfl rfl ?_
  refine o_ld rfl rfl (hB.at rfl) ?_
  refine m_int rfl rfl ?_
  refine o_look (kv := Value.int .i64) (q := s) Try.underlying82 (key_int Try.underlying3) inf87 rfl rfl hN (wm_get hW s) ?_
  refine o_alloc (cs := #[.int .u8 0, .int .u16 0]) inf87 rfl (fun b w2 hB2 hK2 hb2 hZ2 => ?_)
  refine o_sta (xs := [.int .u8 ((BitVec.ofNat 8 (wd L s).2).toNat : Int), .int .u16 ((BitVec.ofNat 16 (wd L s).1).toNat : Int)]) rfl rfl rfl (by intro u hu; simp at hu; rcases hu with rfl | rfl <;> rfl) hB2 (by simp) (fun w3 hB3 hK3 hZ3 => ?_)
  have hk3 : Keep [] w w3 := hK2.tr1 hK3 (by omega)
  have hB3 : Blk w3 b #[.int .u8 ((BitVec.ofNat 8 (wd L s).2).toNat : Int), .int .u16 ((BitVec.ofNat 16 (wd L s).1).toNat : Int)] 87 := hB3
  refine o_nil ?_
  refine k_seq ?_
  refine k_qk 7 rfl rfl rfl rfl rfl ?_
  refine q_step (fun w1 hC => o_fld (off := 1) rfl rfl (o_nil ⟨rfl, hC⟩)) ?_
  refine q_step (fun w1 hC => o_ld rfl rfl (hB3.kat hC rfl) (o_nil ⟨rfl, hC⟩)) ?_
  refine q_step (fun w1 hC => cv16_i rfl Try.underlying3 rfl (o_nil ⟨rfl, hC⟩)) ?_
  refine q_step (fun w1 hC => o_fld0 rfl rfl (o_nil ⟨rfl, hC⟩)) ?_
  refine q_step (fun w1 hC => o_ld rfl rfl (hB3.kat hC rfl) (o_nil ⟨rfl, hC⟩)) ?_
  refine q_step (fun w1 hC => cv8_i rfl Try.underlying3 rfl (o_nil ⟨rfl, hC⟩)) ?_
  refine q_step (fun w1 hC => m_int rfl rfl (o_nil ⟨rfl, hC⟩)) ?_
  refine q_nil ?_
  intro w4 hC4
  refine m_int rfl rfl ?_
  refine o_nil ?_
  refine k_ret (ret_tmps (ts := [4, 5]) (v := .tuple #[.int _ _, .int _ _]) rfl rfl ?_)
  rw [tn16 _ (wd_lt16 L s hL hk), tn8 _ (by have := wd_le L s hL; omega)]
  exact ⟨rfl, hk3.tr hC4⟩
theorem nword (w : World) (s : Int) : Ret Try.prog 36 [.pointer none, .int .i64 s] w (fun v w' => v = .tuple #[.int .i64 0, .int .i64 0] ∧ w' = w) := by
  refine fn_enter (n := 21) Try.func36 rfl rfl (Nat.le_of_ble_eq_true rfl) (fun e => ?_)
  refine k_seq ?_
  refine k_region ?_
  refine m_int rfl rfl ?_
  refine m_int rfl rfl ?_
  refine o_nil ?_
  refine k_seq ?_
  refine k_seq ?_
  refine k_region ?_
  refine m_ptr rfl rfl ?_
  refine b_eqlp Try.underlying56 rfl rfl ?_
  refine o_nil ?_
  refine k_yes rfl (rfl) ?_
  refine k_seq ?_
  refine k_region ?_
  refine m_int rfl rfl ?_
  refine m_int rfl rfl ?_
  refine o_nil ?_
  refine k_ret (ret_tmps (ts := [4, 5]) (v := .tuple #[.int _ _, .int _ _]) rfl rfl ?_)
  exact ⟨rfl, rfl⟩
theorem bit_step (b : Nat) (t : Bool) (h : b < 32768) : (BitVec.ofNat 16 b <<< 1) ||| BitVec.ofInt 16 ((num (fun _ => t) 1 : Nat) : Int) = BitVec.ofNat 16 (2 * b + t.toNat) := by
  apply BitVec.eq_of_toNat_eq
  have e : num (fun _ => t) 1 = t.toNat := by simp [num]
  rw [e, BitVec.toNat_or, BitVec.toNat_shiftLeft, tn16 b (by omega), tn16 _ (by cases t <;> simp <;> omega), BitVec.ofInt_natCast, tn16 _ (by cases t <;> simp)]
  have e2 : b <<< 1 % 2 ^ 16 = b <<< 1 := by rw [Nat.shiftLeft_eq]; omega
  rw [e2, ← Nat.shiftLeft_add_eq_or_of_lt (by cases t <;> simp), Nat.shiftLeft_eq]
  omega
theorem sm_hit {L : List Nat} {sm : List ((BitVec 8 × BitVec 16) × Value)} (h : SM L L.length sm) (n b : Nat) (hn : n < 256) (hb : b < 65536) : getM sm (BitVec.ofNat 8 n, BitVec.ofNat 16 b) = (hit L n b).map (fun s : Nat => Value.int .i64 (s : Int)) := by
  rw [h, tn8 n hn, tn16 b hb, List.take_length]; rfl
theorem hit_get (o : Option Nat) : (o.map (fun s : Nat => Value.int .i64 (s : Int))).getD (.int .i64 0) = .int .i64 ((o.getD 0 : Nat) : Int) := by cases o <;> rfl
theorem num1 (bs : List (BitVec 8)) (p : Nat) : num (fun j => bitAt bs (p + j)) 1 = num (fun _ => bitAt bs p) 1 := num_congr 1 (fun j hj => by have : j = 0 := by omega
                                                                                                                                               subst this; rfl)
/-- the answer of Next in both texts -/
def NxR (T : TypeId) (w : World) (x : Nat) (L : List Nat) (bs : List (BitVec 8)) (p : Nat) (v : Value) (w' : World) : Prop :=
  v = .tuple #[.int .i64 (nx L bs (mostL L) 0 0 p).1, .int .i64 (nx L bs (mostL L) 0 0 p).2.1] ∧ Rdr T w' x bs (nx L bs (mostL L) 0 0 p).2.2 ∧ Keep [x] w w'
theorem NxR.of {T : TypeId} {w w' : World} {x p q : Nat} {L : List Nat} {bs : List (BitVec 8)} {a b : Int} (h : nx L bs (mostL L) 0 0 p = (a, b, q)) (hR : Rdr T w' x bs q) (hK : Keep [x] w w') : NxR T w x L bs p (.tuple #[.int .i64 a, .int .i64 b]) w' := by
  unfold NxR; rw [h]; exact ⟨rfl, hR, hK⟩
theorem next_ok (w : World) (r x : Nat) (L : List Nat) (bs : List (BitVec 8)) (p : Nat) (h : CodeP w r L) (hR : Rdr 79 w x bs p) :
    Ret Try.prog 38 [.pointer (some ⟨r, 0, none⟩), .pointer (some ⟨x, 0, none⟩)] w (fun v w' => NxR 79 w x L bs p v w') := by
  obtain ⟨csx, hBx⟩ := hR.blk
  have hxlt := hBx.lt
  have hcode : ∀ w', Keep [x] w w' → CodeP w' r L := fun w' hk => h.kt (Ts := [79]) (k := 0) (hk.t1 (Nat.zero_le _) hBx (by simp)) (by decide)
  obtain ⟨rs, rw, sm, wm, hB, hM, hN, hS, hW, hL, hk, hl⟩ := id h
  have hm15 := most_15 L hL
  refine fn_enter (n := 54) Try.func38 rfl rfl (Nat.le_of_ble_eq_true rfl) (fun e => ?_)
  refine k_seq ?_
  refine k_region ?_
  refine m_int rfl rfl ?_
  refine m_int rfl rfl ?_
  refine o_nil ?_
  refine k_seq ?_
  refine k_seq ?_
  refine k_region ?_
  refine m_ptr rfl rfl ?_
  refine b_eqlp Try.underlying56 rfl rfl ?_
  refine m_bool rfl rfl ?_
  refine o_false (t := 13) rfl ((by simp)) ?_
  refine g_yes rfl rfl ?_
  refine m_ptr rfl rfl ?_
  refine g_yes rfl rfl ?_
  refine b_eqlp Try.underlying43 rfl rfl ?_
  refine pick_f rfl rfl ?_
  refine o_nil ?_
  refine k_no rfl ((by simp)) ?_
  refine k_skip ?_
  refine k_seq ?_
  refine k_region ?_
  refine o_alloc (cs := #[.int .u8 0, .int .u16 0]) inf87 rfl (fun bw w2 hB2 hK2 hb2 hZ2 => ?_)
  have hB2 : Blk w2 bw (#[.int .u8 ((BitVec.ofNat 8 0).toNat : Int), .int .u16 ((BitVec.ofNat 16 0).toNat : Int)]) 87 := hB2
  refine o_nil ?_
  refine k_seq ?_
  refine k_block ?_
  refine k_loop (σ := Nat × Nat × Nat) (fun s => [(0, .pointer (some ⟨r, 0, none⟩)), (1, .pointer (some ⟨x, 0, none⟩)), (6, .pointer (some ⟨bw, 0, none⟩))]) (fun s w' => s.1 ≤ mostL L ∧ s.2.1 < 2 ^ s.1 ∧ Blk w' bw #[.int .u8 ((BitVec.ofNat 8 s.1).toNat : Int), .int .u16 ((BitVec.ofNat 16 s.2.1).toNat : Int)] 87 ∧ Rdr 79 w' x bs s.2.2 ∧ nx L bs (mostL L) 0 0 p = nx L bs (mostL L - s.1) s.1 s.2.1 s.2.2 ∧ Keep [x] w w') (fun s => mostL L - s.1) (0, 0, p) ⟨rfl, rfl, rfl, trivial⟩ ⟨by simp, by simp, hB2, hR.new hK2, rfl, hK2.also⟩ (fun s e w3 hJ => ?_)
  obtain ⟨n, b, p'⟩ := s
  obtain ⟨hn, hb, hB3, hR3, hnx, hK3⟩ := hJ
  simp only at hn hb hB3 hR3 hnx
  have hbw : bw ∉ [x] := by simp; omega
  have hb15 : b < 32768 := by
   have : 2 ^ n ≤ 2 ^ 15 := Nat.pow_le_pow_right (by decide) (by omega)
   omega
  obtain ⟨rs3, rw3, sm3, wm3, hC3, hM3, _, hS3, _, _, _, _⟩ := hcode w3 hK3
  refine k_seq ?_
  refine k_seq ?_
  refine k_qk 6 rfl rfl rfl rfl rfl ?_
  refine q_step (fun w1 hC => o_fld0 rfl rfl (o_nil ⟨rfl, hC⟩)) ?_
  refine q_step (fun w1 hC => o_ld rfl rfl (hB3.kat hC rfl) (o_nil ⟨rfl, hC⟩)) ?_
  refine q_step (fun w1 hC => m_ptr rfl rfl (o_nil ⟨rfl, hC⟩)) ?_
  refine q_step (fun w1 hC => o_nilc rfl (o_nil ⟨rfl, hC⟩)) ?_
  refine q_step (fun w1 hC => o_fld (off := 2) rfl rfl (o_nil ⟨rfl, hC⟩)) ?_
  refine q_step (fun w1 hC => o_ld rfl rfl (hC3.kat hC rfl) (o_nil ⟨rfl, hC⟩)) ?_
  refine q_nil ?_
  intro w4 hC4
  rw [tn8 n (by omega), tn8 _ (by omega)]
  have hR4 := hR3.new hC4
  have hK4 : Keep [x] w w4 := hK3.trans hC4 (by simp)
  have hB4 := hB3.keep hC4 (by simp)
  refine b_lss rfl rfl ?_
  refine o_nil ?_
  refine k_cond rfl (fun h => ?_) (fun h => ?_)
  rotate_left
  ·
    refine k_exit rfl ?_
    refine k_seq ?_
    refine k_region ?_
    refine m_int rfl rfl ?_
    refine m_int rfl rfl ?_
    refine o_nil ?_
    refine k_ret (ret_tmps (ts := [4, 5]) (v := .tuple #[.int _ _, .int _ _]) rfl rfl ?_)
    refine NxR.of ?_ hR4 hK4
    rw [hnx, show mostL L - n = 0 by omega]; rfl
  have hnm : n < mostL L := by omega
  obtain ⟨k', hk'⟩ : ∃ k', mostL L - n = k' + 1 := ⟨mostL L - n - 1, by omega⟩
  have hn14 : b < 2 ^ 14 := by
   have : 2 ^ n ≤ 2 ^ 14 := Nat.pow_le_pow_right (by decide) (by omega)
   omega
  rw [hk'] at hnx
  refine k_skip ?_
  refine k_block ?_
  refine k_seq ?_
  refine k_region ?_
  refine m_ptr rfl rfl ?_
  refine o_call rfl rfl (take_ok w4 x p' bs ((1 : Nat) : Int) hR4) (fun v w5 hv => ?_)
  obtain ⟨rfl, hR5, hK5⟩ := hv
  have hK45 : Keep [x] w w5 := hK4.trans hK5 (fun _ h _ => h)
  have hB5 := hB4.keep hK5 hbw
  have hpl : p' ≤ 8 * bs.length := by obtain ⟨_, _, _, _, hp, _⟩ := hR4; exact hp
  refine m_any rfl rfl ?_
  refine o_extr rfl rfl ?_
  refine o_extr rfl rfl ?_
  refine m_int rfl rfl ?_
  refine m_int rfl rfl ?_
  refine o_nil ?_
  refine k_seq ?_
  refine k_seq ?_
  refine k_region ?_
  refine m_int rfl rfl ?_
  refine b_neq rfl rfl ?_
  refine o_nil ?_
  refine k_cond rfl (fun hx => ?_) (fun hx => ?_)
  ·
    have hsh : 8 * bs.length ≤ p' := by
     by_cases hc : 8 * bs.length ≤ p'
     · exact hc
     · rw [tk_ok (by omega) (by omega)] at hx; exact absurd rfl hx
    rw [tk_short (by omega) (by omega)] at hR5 ⊢
    refine k_seq ?_
    refine k_region ?_
    refine m_int rfl rfl ?_
    refine m_int rfl rfl ?_
    refine m_int rfl rfl ?_
    refine o_nil ?_
    refine k_ret (ret_tmps (ts := [4, 5]) (v := .tuple #[.int _ _, .int _ _]) rfl rfl ?_)
    exact NxR.of (by rw [hnx, nx_short hsh]) hR5 hK45
  have hns : ¬ 8 * bs.length ≤ p' := by
   intro hc
   rw [tk_short (by omega) (by omega)] at hx
   exact hx (by simp)
  rw [tk_ok (by omega) (by omega), num1] at hR5 ⊢
  refine k_skip ?_
  refine k_seq ?_
  refine k_region ?_
  refine o_fld0 rfl rfl ?_
  refine o_ld rfl rfl (hB5.at rfl) ?_
  refine v8_add (b := 1#8) rfl rfl ?_
  rw [show (BitVec.ofNat 8 n + 1#8) = BitVec.ofNat 8 (n + 1) from (BitVec.ofNat_add n 1).symm]
  refine o_fld0 rfl rfl ?_
  refine o_st (v := .int _ _) rfl rfl rfl rfl hB5 (by simp) (fun w6 hB6 hK6 hZ6 => ?_)
  have hK46 : Keep [x] w w6 := hK45.trans hK6 (by intro y hy hl; simp at hy; omega)
  have hR6 := hR5.keep1 hB5 (by omega) (by decide) hK6
  refine o_nil ?_
  refine k_seq ?_
  refine k_region ?_
  refine o_fld (off := 1) rfl rfl ?_
  refine o_ld rfl rfl (hB6.at rfl) ?_
  refine v16_shln (c := 1) rfl rfl ?_
  refine m_int rfl rfl ?_
  refine cv16 rfl Try.underlying75 rfl ?_
  refine v16_or rfl rfl ?_
  rw [bit_step b _ hb15]
  refine o_fld (off := 1) rfl rfl ?_
  refine o_st (v := .int _ _) rfl rfl rfl rfl hB6 (by simp) (fun w7 hB7 hK7 hZ7 => ?_)
  have hK47 : Keep [x] w w7 := hK46.trans hK7 (by intro y hy hl; simp at hy; omega)
  have hR7 := hR6.keep1 hB6 (by omega) (by decide) hK7
  have hB7 : Blk w7 bw #[.int .u8 ((BitVec.ofNat 8 (n + 1)).toNat : Int), .int .u16 ((BitVec.ofNat 16 (2 * b + (bitAt bs p').toNat)).toNat : Int)] 87 := hB7
  obtain ⟨rs7, rw7, sm7, wm7, hC7, hM7, _, hS7, _, _, _, _⟩ := hcode w7 hK47
  have hb2 : 2 * b + (bitAt bs p').toNat < 2 ^ (n + 1) := by rw [Nat.pow_succ]; cases bitAt bs p' <;> simp <;> omega
  have hb3 : 2 * b + (bitAt bs p').toNat < 65536 := by cases bitAt bs p' <;> simp <;> omega
  have hhit := sm_hit hS7 (n + 1) _ (by omega) hb3
  refine o_nil ?_
  refine k_seq ?_
  refine k_qk 10 rfl rfl rfl rfl rfl ?_
  refine q_step (fun w1 hC => m_ptr rfl rfl (o_nil ⟨rfl, hC⟩)) ?_
  refine q_step (fun w1 hC => o_nilc rfl (o_nil ⟨rfl, hC⟩)) ?_
  refine q_step (fun w1 hC => o_fld0 rfl rfl (o_nil ⟨rfl, hC⟩)) ?_
  refine q_step (fun w1 hC => o_ld rfl rfl (hC7.kat hC rfl) (o_nil ⟨rfl, hC⟩)) ?_
  refine q_step (fun w1 hC => o_lda (xs := [.int .u8 ((BitVec.ofNat 8 (n + 1)).toNat : Int), .int .u16 ((BitVec.ofNat 16 (2 * b + (bitAt bs p').toNat)).toNat : Int)]) rfl rfl rfl (fun j u hj => hB7.kat hC (by rw [Nat.zero_add]; simpa using hj)) (o_nil ⟨rfl, hC⟩)) ?_
  refine q_step (fun w1 hC => o_lookok (kv := kvw) (q := (BitVec.ofNat 8 (n + 1), BitVec.ofNat 16 (2 * b + (bitAt bs p').toNat))) Try.underlying81 key_w inf3 rfl rfl (hM7.keep hC (by simp)) (v := .int .i64 (((hit L (n + 1) (2 * b + (bitAt bs p').toNat)).getD 0 : Nat) : Int)) (b := (hit L (n + 1) (2 * b + (bitAt bs p').toNat)).isSome) (by rw [hhit, hit_get]) (by rw [hhit, Option.isSome_map]) (o_nil ⟨rfl, hC⟩)) ?_
  refine q_step (fun w1 hC => m_any rfl rfl (o_nil ⟨rfl, hC⟩)) ?_
  refine q_step (fun w1 hC => o_extr (vs := [.int .i64 (((hit L (n + 1) (2 * b + (bitAt bs p').toNat)).getD 0 : Nat) : Int), .bool (hit L (n + 1) (2 * b + (bitAt bs p').toNat)).isSome]) rfl rfl (o_nil ⟨rfl, hC⟩)) ?_
  refine q_step (fun w1 hC => o_extr (vs := [.int .i64 (((hit L (n + 1) (2 * b + (bitAt bs p').toNat)).getD 0 : Nat) : Int), .bool (hit L (n + 1) (2 * b + (bitAt bs p').toNat)).isSome]) rfl rfl (o_nil ⟨rfl, hC⟩)) ?_
  refine q_step (fun w1 hC => m_int rfl rfl (o_nil ⟨rfl, hC⟩)) ?_
  refine q_nil ?_
  intro w8 hC8
  have hK48 : Keep [x] w w8 := hK47.trans hC8 (by simp)
  refine m_bool rfl rfl ?_
  refine o_nil ?_
  refine k_seq ?_
  refine k_region ?_
  refine m_bool rfl rfl ?_
  refine o_nil ?_
  refine k_condb rfl (fun hh => ?_) (fun hh => ?_)
  ·
    obtain ⟨s, hs⟩ := Option.isSome_iff_exists.1 hh
    rw [hs]
    refine k_seq ?_
    refine k_region ?_
    refine m_int rfl rfl ?_
    refine m_int rfl rfl ?_
    refine m_int rfl rfl ?_
    refine o_nil ?_
    refine k_ret (ret_tmps (ts := [4, 5]) (v := .tuple #[.int _ _, .int _ _]) rfl rfl ?_)
    exact NxR.of (by rw [hnx, nx_hit hns hs]; rfl) (hR7.new hC8) hK48
  have hs : hit L (n + 1) (2 * b + (bitAt bs p').toNat) = none := by simpa using hh
  refine k_skip ?_
  refine k_blk ?_
  refine k_goal ⟨(n + 1, _, _), ⟨rfl, rfl, rfl, trivial⟩, ⟨by simp only; omega, hb2, hB7.keep hC8 (by simp), hR7.new hC8, ?_, hK48⟩, by simp only; omega⟩
  simp only
  rw [hnx, nx_on hns hs, show mostL L - (n + 1) = k' by omega]
theorem nnext (w : World) (x : Option Addr) : Ret Try.prog 38 [.pointer none, .pointer x] w (fun v w' => v = .tuple #[.int .i64 0, .int .i64 1] ∧ w' = w) := by
  refine fn_enter (n := 54) Try.func38 rfl rfl (Nat.le_of_ble_eq_true rfl) (fun e => ?_)
  refine k_seq ?_
  refine k_region ?_
  refine m_int rfl rfl ?_
  refine m_int rfl rfl ?_
  refine o_nil ?_
  refine k_seq ?_
  refine k_seq ?_
  refine k_region ?_
  refine m_ptr rfl rfl ?_
  refine b_eqlp Try.underlying56 rfl rfl ?_
  refine m_bool rfl rfl ?_
  refine o_true (t := 13) rfl (rfl) ?_
  refine g_no rfl rfl rfl ?_
  refine g_no rfl rfl rfl ?_
  refine pick_t rfl rfl ?_
  refine o_nil ?_
  refine k_condt rfl ?_
  refine k_seq ?_
  refine k_region ?_
  refine m_int rfl rfl ?_
  refine m_int rfl rfl ?_
  refine o_nil ?_
  refine k_ret (ret_tmps (ts := [4, 5]) (v := .tuple #[.int _ _, .int _ _]) rfl rfl ?_)
  exact ⟨rfl, rfl⟩
theorem nnext2 (w : World) (r : Nat) : Ret Try.prog 38 [.pointer (some ⟨r, 0, none⟩), .pointer none] w (fun v w' => v = .tuple #[.int .i64 0, .int .i64 1] ∧ w' = w) := by
  refine fn_enter (n := 54) Try.func38 rfl rfl (Nat.le_of_ble_eq_true rfl) (fun e => ?_)
  refine k_seq ?_
  refine k_region ?_
  refine m_int rfl rfl ?_
  refine m_int rfl rfl ?_
  refine o_nil ?_
  refine k_seq ?_
  refine k_seq ?_
  refine k_region ?_
  refine m_ptr rfl rfl ?_
  refine b_eqlp Try.underlying56 rfl rfl ?_
  refine m_bool rfl rfl ?_
  refine o_false (t := 13) rfl ((by simp)) ?_
  refine g_yes rfl rfl ?_
  refine m_ptr rfl rfl ?_
  refine g_yes rfl rfl ?_
  refine b_eqlp Try.underlying43 rfl rfl ?_
  refine pick_f rfl rfl ?_
  refine o_nil ?_
  refine k_yes rfl (rfl) ?_
  refine k_seq ?_
  refine k_region ?_
  refine m_int rfl rfl ?_
  refine m_int rfl rfl ?_
  refine o_nil ?_
  refine k_ret (ret_tmps (ts := [4, 5]) (v := .tuple #[.int _ _, .int _ _]) rfl rfl ?_)
  exact ⟨rfl, rfl⟩
end Go.Proofs.Ytpmlhlefhmgpfaa
