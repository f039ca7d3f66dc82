/- NativeDigits. No condition beyond what each contract names. -/
import Derived.Test.YtchbidckckmobaaDoorHh
namespace Go.Proofs.YtchbidckckmobaaDoor
open Go.RowKit E
set_option linter.unusedVariables false
set_option linter.unusedSimpArgs false
set_option maxRecDepth 100000
attribute [local irreducible] ow qw kw kq cw opW Ret
def fd (v : Int) (c : UInt8) : Int := v * 10 - ((c.toNat : Int) - 48)
theorem dig_in (u : Nat) : ∀ c ∈ Lib.decDigits u, 48 ≤ c.toNat ∧ c.toNat ≤ 57 := by
  induction u using Nat.strongRecOn with
  | _ u ih =>
    intro c hc
    by_cases h : u < 10
    · rw [digs_lt h, List.mem_singleton] at hc
      subst hc
      simp; omega
    · rw [digs_ge h, List.mem_append, List.mem_singleton] at hc
      rcases hc with hc | rfl
      · exact ih (u / 10) (by omega) c hc
      · simp; omega
theorem dig_fold (u : Nat) : (Lib.decDigits u).foldl fd 0 = -(u : Int) := by
  induction u using Nat.strongRecOn with
  | _ u ih =>
    by_cases h : u < 10
    · rw [digs_lt h]
      simp [fd]; omega
    · rw [digs_ge h, List.foldl_append, ih (u / 10) (by omega)]
      simp [fd]; omega
theorem fold_le (l : List UInt8) (hl : ∀ c ∈ l, 48 ≤ c.toNat ∧ c.toNat ≤ 57) (v : Int) (hv : v ≤ 0) : l.foldl fd v ≤ v := by
  induction l generalizing v with
  | nil => exact Int.le_refl _
  | cons c l ih =>
    have h1 := hl c (by simp)
    have h2 := ih (fun c hc => hl c (by simp [hc])) (fd v c) (by unfold fd; omega)
    rw [List.foldl_cons]
    unfold fd at h2 ⊢
    omega
/-- where the reading of the digits stands -/
def DS (n : Int) (i : Nat) (v : Int) : Prop := v ≤ 0 ∧ i ≤ (Lib.itoa n).length ∧ ((i = 0 ∧ v = 0) ∨ (1 ≤ i ∧ ((Lib.itoa n).drop i).foldl fd v = -(n.natAbs : Int) ∧ ∀ c ∈ (Lib.itoa n).drop i, 48 ≤ c.toNat ∧ c.toNat ≤ 57))
theorem dec_pos (u : Nat) : 1 ≤ (Lib.decDigits u).length := by
  by_cases h : u < 10
  · rw [digs_lt h]; simp
  · rw [digs_ge h]; simp
theorem it_pos (n : Int) : 1 ≤ (Lib.itoa n).length := by
  unfold Lib.itoa
  split
  · simp
  · exact dec_pos _
theorem it_neg {n : Int} (h : n < 0) : Lib.itoa n = 45 :: Lib.decDigits n.natAbs := if_pos h
theorem it_nn {n : Int} (h : ¬ n < 0) : Lib.itoa n = Lib.decDigits n.natAbs := by unfold Lib.itoa; rw [if_neg h, show n.toNat = n.natAbs from by omega]
theorem ds_sign {n : Int} {v : Int} (h : DS n 0 v) (hc : (Lib.itoa n)[0]'(it_pos n) = 45) : DS n 1 v := by
  obtain ⟨h0, h1, h2⟩ := h
  refine ⟨h0, it_pos n, .inr ⟨Nat.le_refl _, ?_⟩⟩
  rcases h2 with ⟨_, rfl⟩ | h2
  · by_cases hn : n < 0
    · rw [it_neg hn, List.drop_succ_cons, List.drop_zero]
      exact ⟨dig_fold _, dig_in _⟩
    · have := dig_in n.natAbs ((Lib.itoa n)[0]'(it_pos n)) (by rw [← it_nn hn]; exact List.getElem_mem _)
      rw [hc] at this
      simp at this
  · omega
theorem ds_digit {n : Int} {i : Nat} {v : Int} (h : DS n i v) (hi : i < (Lib.itoa n).length) (hc : ¬ (i = 0 ∧ (Lib.itoa n)[i] = 45)) :
    (48 ≤ ((Lib.itoa n)[i]).toNat ∧ ((Lib.itoa n)[i]).toNat ≤ 57) ∧ -(n.natAbs : Int) ≤ fd v ((Lib.itoa n)[i]) ∧ DS n (i + 1) (fd v ((Lib.itoa n)[i])) := by
  obtain ⟨h0, h1, h2⟩ := h
  have hh : ((Lib.itoa n).drop i).foldl fd v = -(n.natAbs : Int) ∧ ∀ c ∈ (Lib.itoa n).drop i, 48 ≤ c.toNat ∧ c.toNat ≤ 57 := by
    rcases h2 with ⟨rfl, rfl⟩ | h2
    · have hn : ¬ n < 0 := fun hn => hc ⟨rfl, by simp [it_neg hn]⟩
      rw [List.drop_zero, it_nn hn]
      exact ⟨dig_fold _, dig_in _⟩
    · exact h2.2
  rw [List.drop_eq_getElem_cons hi, List.foldl_cons] at hh
  have hd := hh.2 _ (List.mem_cons_self ..)
  have hr : ∀ c ∈ (Lib.itoa n).drop (i + 1), 48 ≤ c.toNat ∧ c.toNat ≤ 57 := fun c hcc => hh.2 c (List.mem_cons_of_mem _ hcc)
  have hv : fd v ((Lib.itoa n)[i]) ≤ 0 := by unfold fd; omega
  have := fold_le _ hr _ hv
  exact ⟨hd, by omega, hv, by omega, .inr ⟨by omega, hh.1, hr⟩⟩
theorem ds_end {n v : Int} (h : DS n (Lib.itoa n).length v) : v = -(n.natAbs : Int) := by
  obtain ⟨h0, h1, h2⟩ := h
  have := it_pos n
  rcases h2 with h2 | ⟨_, h2, _⟩
  · omega
  · rw [List.drop_length] at h2; exact h2
theorem it_len {n : Int} (h0 : -9223372036854775808 ≤ n) (h1 : n ≤ 9223372036854775807) : (Lib.itoa n).length ≤ 65 := by
  have := dig19 n.natAbs (by omega)
  by_cases h : n < 0
  · rw [it_neg h]; simp; omega
  · rw [it_nn h]; omega
theorem ndigits_ok (w : World) (n : Int) (h0 : -9223372036854775808 ≤ n) (h1 : n ≤ 9223372036854775807) (ht : Tab10 w) :
    Ret Tryd.prog 12 [.int .i64 n] w (fun v w' => v = .bool true ∧ Keep [] w w') := by
  have hpos := it_pos n
  have hlen := it_len h0 h1
  refine fn_enter (n := 53) Tryd.func12 rfl rfl (Nat.le_of_ble_eq_true rfl) (fun e => ?_)
  refine k_seq ?_
  refine k_region ?_
  refine m_bool rfl rfl ?_
  refine o_nil ?_
  refine k_seq ?_
  refine k_seq ?_
  refine k_region ?_
  refine o_call rfl rfl (fixed24_ok w ht) (fun v w1 hv => ?_)
  obtain ⟨rfl, hK1⟩ := hv
  refine u_not (p := True) rfl ?_
  refine o_nil ?_
  refine k_no rfl ((fun h => h trivial)) ?_
  refine k_skip ?_
  refine k_seq ?_
  refine k_region ?_
  refine m_int rfl rfl ?_
  refine o_call rfl rfl (digits_ok w1 n h0 h1 (ht.new hK1)) (fun v w2 hv => ?_)
  obtain ⟨rfl, hK2⟩ := hv
  refine m_str rfl rfl ?_
  refine o_nil ?_
  refine k_seq ?_
  refine k_seq ?_
  refine k_region ?_
  refine m_str rfl rfl ?_
  refine m_int rfl rfl ?_
  refine o_call rfl rfl (rdigits_ok w2 n h0 h1) (fun v w3 hv => ?_)
  obtain ⟨rfl, hK3⟩ := hv
  refine b_neqstr Tryd.underlying9 rfl rfl ?_
  refine o_nil ?_
  refine k_no rfl ((by simp)) ?_
  refine k_skip ?_
  refine k_seq ?_
  refine k_region ?_
  refine m_int rfl rfl ?_
  refine o_nil ?_
  refine k_seq ?_
  refine k_seq ?_
  refine k_region ?_
  refine m_int rfl rfl ?_
  refine o_nil ?_
  refine k_block ?_
  refine k_loop (σ := Int × Nat) (fun s => [(0, .int .i64 n), (3, .string ⟨(Lib.itoa n).toArray⟩), (4, .int .i64 s.1), (5, .int .i64 (s.2 : Int))]) (fun s w' => w' = w3 ∧ DS n s.2 s.1) (fun s => (Lib.itoa n).length - s.2) (0, 0) ⟨rfl, rfl, rfl, rfl, trivial⟩ ⟨rfl, Int.le_refl _, Nat.zero_le _, .inl ⟨rfl, rfl⟩⟩ (fun s e w4 hJ => ?_)
  obtain ⟨v, i⟩ := s
  obtain ⟨rfl, hD⟩ := hJ
  dsimp only at hD ⊢
  refine k_seq ?_
  refine k_seq ?_
  refine k_region ?_
  refine m_int rfl rfl ?_
  refine m_str rfl rfl ?_
  refine o_lenstr Tryd.underlying9 rfl ?_
  refine b_lss rfl rfl ?_
  refine o_nil ?_
  have hsz : ByteArray.size ⟨(Lib.itoa n).toArray⟩ = (Lib.itoa n).length := by simp [ByteArray.size]
  refine k_cond rfl (fun h => ?_) (fun h => ?_)
  rotate_left
  ·
    have hie : i = (Lib.itoa n).length := by have := hD.2.1; omega
    subst hie
    have hv := ds_end hD
    refine k_exit rfl ?_
    refine k_seq ?_
    refine k_region ?_
    refine m_int rfl rfl ?_
    refine b_lss rfl rfl ?_
    refine m_bool rfl rfl ?_
    refine o_split (t := 38) rfl (fun h => ?_) (fun h => ?_)
    ·
      refine g_yes rfl rfl ?_
      refine m_int rfl rfl ?_
      refine g_yes rfl rfl ?_
      refine m_int rfl rfl ?_
      refine g_yes rfl rfl ?_
      refine b_eql rfl rfl ?_
      refine pick_t rfl rfl ?_
      refine m_bool rfl rfl ?_
      refine o_split (t := 43) rfl (fun h => ?_) (fun h => ?_)
      ·
        refine g_no rfl rfl rfl ?_
        refine g_no rfl rfl rfl ?_
        refine g_no rfl rfl rfl ?_
        refine g_un rfl rfl ?_
        refine g_un rfl rfl ?_
        refine g_un rfl rfl ?_
        refine g_un rfl rfl ?_
        refine g_no rfl rfl rfl ?_
        refine pick_t rfl rfl ?_
        refine m_bool rfl rfl ?_
        refine o_nil ?_
        refine k_ret (ret_tmps (ts := [2]) (v := .bool _) rfl rfl ?_)
        refine ⟨congrArg Value.bool ?_, (hK1.tr hK2).tr hK3⟩
        first | rfl | (rw [wrap_in (by simp [IntKind.min, IntKind.max, IntKind.signed, IntKind.bits]; omega)]; exact decide_eq_true (by omega)) | (exfalso; omega)
      ·
        refine g_yes rfl rfl ?_
        refine m_int rfl rfl ?_
        refine g_yes rfl rfl ?_
        refine b_geq rfl rfl ?_
        refine g_yes rfl rfl ?_
        refine m_bool rfl rfl ?_
        refine o_split (t := 46) rfl (fun h => ?_) (fun h => ?_)
        ·
          refine g_yes rfl rfl ?_
          refine m_int rfl rfl ?_
          refine g_yes rfl rfl ?_
          refine m_int rfl rfl ?_
          refine g_yes rfl rfl ?_
          refine u_neg rfl ?_
          refine g_yes rfl rfl ?_
          refine b_eql rfl rfl ?_
          refine g_yes rfl rfl ?_
          refine pick_t rfl rfl ?_
          refine pick_f rfl rfl ?_
          refine m_bool rfl rfl ?_
          refine o_nil ?_
          refine k_ret (ret_tmps (ts := [2]) (v := .bool _) rfl rfl ?_)
          refine ⟨congrArg Value.bool ?_, (hK1.tr hK2).tr hK3⟩
          first | rfl | (rw [wrap_in (by simp [IntKind.min, IntKind.max, IntKind.signed, IntKind.bits]; omega)]; exact decide_eq_true (by omega)) | (exfalso; omega)
        ·
          refine g_no rfl rfl rfl ?_
          refine g_no rfl rfl rfl ?_
          refine g_no rfl rfl rfl ?_
          refine g_no rfl rfl rfl ?_
          refine g_yes rfl rfl ?_
          refine pick_f rfl rfl ?_
          refine pick_f rfl rfl ?_
          refine m_bool rfl rfl ?_
          refine o_nil ?_
          refine k_ret (ret_tmps (ts := [2]) (v := .bool _) rfl rfl ?_)
          exfalso; omega
    ·
      refine g_no rfl rfl rfl ?_
      refine g_no rfl rfl rfl ?_
      refine g_no rfl rfl rfl ?_
      refine pick_f rfl rfl ?_
      refine m_bool rfl rfl ?_
      refine g_yes rfl rfl ?_
      refine m_int rfl rfl ?_
      refine g_yes rfl rfl ?_
      refine b_geq rfl rfl ?_
      refine g_yes rfl rfl ?_
      refine m_bool rfl rfl ?_
      refine o_split (t := 46) rfl (fun h => ?_) (fun h => ?_)
      ·
        refine g_yes rfl rfl ?_
        refine m_int rfl rfl ?_
        refine g_yes rfl rfl ?_
        refine m_int rfl rfl ?_
        refine g_yes rfl rfl ?_
        refine u_neg rfl ?_
        refine g_yes rfl rfl ?_
        refine b_eql rfl rfl ?_
        refine g_yes rfl rfl ?_
        refine pick_t rfl rfl ?_
        refine pick_f rfl rfl ?_
        refine m_bool rfl rfl ?_
        refine o_nil ?_
        refine k_ret (ret_tmps (ts := [2]) (v := .bool _) rfl rfl ?_)
        refine ⟨congrArg Value.bool ?_, (hK1.tr hK2).tr hK3⟩
        first | rfl | (rw [wrap_in (by simp [IntKind.min, IntKind.max, IntKind.signed, IntKind.bits]; omega)]; exact decide_eq_true (by omega)) | (exfalso; omega)
      ·
        refine g_no rfl rfl rfl ?_
        refine g_no rfl rfl rfl ?_
        refine g_no rfl rfl rfl ?_
        refine g_no rfl rfl rfl ?_
        refine g_yes rfl rfl ?_
        refine pick_f rfl rfl ?_
        refine pick_f rfl rfl ?_
        refine m_bool rfl rfl ?_
        refine o_nil ?_
        refine k_ret (ret_tmps (ts := [2]) (v := .bool _) rfl rfl ?_)
        exfalso; omega
  have hi : i < (Lib.itoa n).length := by omega
  refine k_skip ?_
  refine k_seq ?_
  refine k_block ?_
  refine k_seq ?_
  refine k_seq ?_
  refine k_region ?_
  refine m_int rfl rfl ?_
  refine b_eql rfl rfl ?_
  refine m_bool rfl rfl ?_
  refine o_split (t := 22) rfl (fun h => ?_) (fun h => ?_)
  ·
    have h22 : i = 0 := by omega
    refine g_yes rfl rfl ?_
    refine m_str rfl rfl ?_
    refine g_yes rfl rfl ?_
    refine m_int rfl rfl ?_
    refine g_yes rfl rfl ?_
    refine o_ixstr (m := i) Tryd.underlying9 rfl rfl (by rw [hsz]; exact hi) ?_
    refine g_yes rfl rfl ?_
    refine v8_eql (b := 45#8) rfl rfl ?_
    refine pick_t rfl rfl ?_
    refine o_nil ?_
    refine k_cond rfl (fun h => ?_) (fun h => ?_)
    ·
      have hD1 : DS n (i + 1) v := by
        subst h22
        exact ds_sign hD (UInt8.toBitVec_inj.1 h)
      refine k_exit rfl ?_
      refine k_region ?_
      refine m_int rfl rfl ?_
      refine n_add rfl rfl (by omega) ?_
      refine m_int rfl rfl ?_
      refine o_nil ?_
      refine k_goal ⟨(v, i + 1), ⟨rfl, rfl, rfl, rfl, trivial⟩, ⟨rfl, hD1⟩, by dsimp only; omega⟩
    have hnc : ¬ (i = 0 ∧ (Lib.itoa n)[i] = 45) := fun hh => h (congrArg UInt8.toBitVec hh.2)
    refine k_skip ?_
    refine k_region ?_
    obtain ⟨hdc, hdb, hdn⟩ := ds_digit hD hi hnc
    have hv0 := hD.1
    have hlt : i < ByteArray.size ⟨(Lib.itoa n).toArray⟩ := by rw [hsz]; exact hi
    have h33 : ((((⟨(Lib.itoa n).toArray⟩ : ByteArray)[i]'hlt).toBitVec - 48#8).toNat : Int) = (((Lib.itoa n)[i]).toNat : Int) - 48 := by
      have e1 : (((⟨(Lib.itoa n).toArray⟩ : ByteArray)[i]'hlt).toBitVec).toNat = ((Lib.itoa n)[i]).toNat := rfl
      rw [BitVec.toNat_sub, e1]
      simp
      omega
    have hfd : fd v ((Lib.itoa n)[i]) = v * 10 - ((((Lib.itoa n)[i]).toNat : Int) - 48) := rfl
    rw [hfd] at hdb hdn
    refine m_int rfl rfl ?_
    refine n_mul rfl rfl (by omega) ?_
    refine m_str rfl rfl ?_
    refine m_int rfl rfl ?_
    refine o_ixstr (m := i) Tryd.underlying9 rfl rfl hlt ?_
    refine v8_sub (b := 48#8) rfl rfl ?_
    refine cv8_i rfl Tryd.underlying2 rfl ?_
    rw [h33]
    refine n_sub rfl rfl (by omega) ?_
    refine m_int rfl rfl ?_
    refine o_nil ?_
    refine k_blk ?_
    refine k_region ?_
    refine m_int rfl rfl ?_
    refine n_add rfl rfl (by omega) ?_
    refine m_int rfl rfl ?_
    refine o_nil ?_
    refine k_goal ⟨(_, i + 1), ⟨rfl, rfl, rfl, rfl, trivial⟩, ⟨rfl, hdn⟩, by dsimp only; omega⟩
  ·
    have hnc : ¬ (i = 0 ∧ (Lib.itoa n)[i] = 45) := fun hh => h (by omega)
    refine g_no rfl rfl rfl ?_
    refine g_no rfl rfl rfl ?_
    refine g_no rfl rfl rfl ?_
    refine g_no rfl rfl rfl ?_
    refine pick_f rfl rfl ?_
    refine o_nil ?_
    refine k_condf rfl ?_
    refine k_skip ?_
    refine k_region ?_
    obtain ⟨hdc, hdb, hdn⟩ := ds_digit hD hi hnc
    have hv0 := hD.1
    have hlt : i < ByteArray.size ⟨(Lib.itoa n).toArray⟩ := by rw [hsz]; exact hi
    have h33 : ((((⟨(Lib.itoa n).toArray⟩ : ByteArray)[i]'hlt).toBitVec - 48#8).toNat : Int) = (((Lib.itoa n)[i]).toNat : Int) - 48 := by
      have e1 : (((⟨(Lib.itoa n).toArray⟩ : ByteArray)[i]'hlt).toBitVec).toNat = ((Lib.itoa n)[i]).toNat := rfl
      rw [BitVec.toNat_sub, e1]
      simp
      omega
    have hfd : fd v ((Lib.itoa n)[i]) = v * 10 - ((((Lib.itoa n)[i]).toNat : Int) - 48) := rfl
    rw [hfd] at hdb hdn
    refine m_int rfl rfl ?_
    refine n_mul rfl rfl (by omega) ?_
    refine m_str rfl rfl ?_
    refine m_int rfl rfl ?_
    refine o_ixstr (m := i) Tryd.underlying9 rfl rfl hlt ?_
    refine v8_sub (b := 48#8) rfl rfl ?_
    refine cv8_i rfl Tryd.underlying2 rfl ?_
    rw [h33]
    refine n_sub rfl rfl (by omega) ?_
    refine m_int rfl rfl ?_
    refine o_nil ?_
    refine k_blk ?_
    refine k_region ?_
    refine m_int rfl rfl ?_
    refine n_add rfl rfl (by omega) ?_
    refine m_int rfl rfl ?_
    refine o_nil ?_
    refine k_goal ⟨(_, i + 1), ⟨rfl, rfl, rfl, rfl, trivial⟩, ⟨rfl, hdn⟩, by dsimp only; omega⟩
end Go.Proofs.YtchbidckckmobaaDoor
