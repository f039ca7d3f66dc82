/- The document's files: Read. No condition beyond what each contract names. -/
import Derived.Test.YtbfphjhahgpndaaFj
namespace Go.Proofs.Ytbfphjhahgpndaa
open Go.RowKit E
set_option linter.unusedVariables false
set_option linter.unusedSimpArgs false
set_option maxRecDepth 100000
attribute [local irreducible] ow qw kw kq cw opW Ret
open Go.Maps Go.Sort
/-- what the document's Read answers, and leaves -/
def RRdR (lo : Nat) (w : World) (x : Nat) (gs : FS) (n : Nat) (Fl : List Int) (s : ByteArray) (p q : Int) (v : Value) (w' : World) : Prop :=
  ∃ u, v = .tuple #[u, .int .i64 (rdF gs n (fun i => decide (i ∈ Fl)) s p q).2.1] ∧ New w w' 5 u ((rdF gs n (fun i => decide (i ∈ Fl)) s p q).1.map u8v) ∧ Ri lo w' x gs (rdF gs n (fun i => decide (i ∈ Fl)) s p q).2.2.1 Fl ∧ KeepT [44, 3] lo w w'
theorem RRdR.of {lo : Nat} {w w' : World} {x : Nat} {gs : FS} {n n' : Nat} {Fl : List Int} {F' : Int → Bool} {s : ByteArray} {p q y : Int} {u : Value} {xs : List (BitVec 8)} (h : rdF gs n (fun i => decide (i ∈ Fl)) s p q = (xs, y, n', F')) (hu : New w w' 5 u (xs.map u8v)) (hF : Ri lo w' x gs n' Fl) (hk : KeepT [44, 3] lo w w') : RRdR lo w x gs n Fl s p q (.tuple #[u, .int .i64 y]) w' := by
  unfold RRdR; rw [h]; exact ⟨u, rfl, hu, hF, hk⟩
theorem rread_ok (lo : Nat) (w : World) (x : Nat) (gs : FS) (n : Nat) (Fl : List Int) (s : ByteArray) (p q : Int) (h : Ri lo w x gs n Fl) (hn : n < 4611686018427387904) :
    Ret Try.prog 16 [.pointer (some ⟨x, 0, none⟩), .string s, .int .i64 p, .int .i64 q] w (fun v w' => RRdR lo w x gs n Fl s p q v w') := by
  have hR := h
  obtain ⟨a, c, m, af, cf, hP⟩ := h
  have hnil : ∀ y, rdF gs n (fun i => decide (i ∈ Fl)) s p q = ([], y, n, fun i => decide (i ∈ Fl)) → RRdR lo w x gs n Fl s p q (.tuple #[.slice none 0 0, .int .i64 y]) w := fun y hy => RRdR.of hy New.nil hR (Keep.refl [] w).t
  have hmf := sl_max hP.fails
  refine fn_enter (n := 93) Try.func16 rfl rfl (Nat.le_of_ble_eq_true rfl) (fun e => ?_)
  refine k_seq ?_
  refine k_region ?_
  refine m_sl rfl rfl ?_
  refine m_int rfl rfl ?_
  refine o_nil ?_
  refine k_seq ?_
  refine k_seq ?_
  refine k_region ?_
  refine m_int rfl rfl ?_
  refine b_lss rfl rfl ?_
  refine m_bool rfl rfl ?_
  refine o_split (t := 14) rfl (fun h => ?_) (fun h => ?_)
  ·
    have h14 := h
    refine g_no rfl rfl rfl ?_
    refine g_no rfl rfl rfl ?_
    refine pick_t rfl rfl ?_
    refine o_nil ?_
    refine k_condt rfl ?_
    refine k_seq ?_
    refine k_region ?_
    refine m_sl rfl rfl ?_
    refine m_int rfl rfl ?_
    refine o_nil ?_
    refine k_ret (ret_tmps (ts := [8, 9]) (v := .tuple #[.slice _ _ _, .int _ _]) rfl rfl ?_)
    exact hnil 1 (by unfold rdF; rw [if_pos (.inl h14)])
  ·
    have h14 := h
    refine g_yes rfl rfl ?_
    refine m_int rfl rfl ?_
    refine g_yes rfl rfl ?_
    refine b_lss rfl rfl ?_
    refine pick_f rfl rfl ?_
    refine o_nil ?_
    refine k_cond rfl (fun h => ?_) (fun h => ?_)
    ·
      refine k_seq ?_
      refine k_region ?_
      refine m_sl rfl rfl ?_
      refine m_int rfl rfl ?_
      refine o_nil ?_
      refine k_ret (ret_tmps (ts := [8, 9]) (v := .tuple #[.slice _ _ _, .int _ _]) rfl rfl ?_)
      exact hnil 1 (by unfold rdF; rw [if_pos (.inr h)])
    have h17 := h
    refine k_skip ?_
    refine k_seq ?_
    refine k_region ?_
    refine m_ptr rfl rfl ?_
    refine m_str rfl rfl ?_
    refine o_call rfl rfl (rfind_ok lo w x gs n Fl s hR) (fun v w1 hv => ?_)
    obtain ⟨rfl, rfl⟩ := hv
    refine m_int rfl rfl ?_
    refine o_nil ?_
    refine k_seq ?_
    refine k_seq ?_
    refine k_region ?_
    refine m_int rfl rfl ?_
    refine b_lss rfl rfl ?_
    refine o_nil ?_
    refine k_cond rfl (fun h => ?_) (fun h => ?_)
    ·
      refine k_seq ?_
      refine k_region ?_
      refine m_sl rfl rfl ?_
      refine m_int rfl rfl ?_
      refine o_nil ?_
      refine k_ret (ret_tmps (ts := [8, 9]) (v := .tuple #[.slice _ _ _, .int _ _]) rfl rfl ?_)
      exact hnil 21 (by
       unfold rdF
       rcases idx_cases gs s with ⟨k, b, h1, h2, h3⟩ | ⟨h1, h2⟩
       · omega
       · rw [if_neg (by omega), getF_none gs s h2])
    obtain ⟨k, b, hix, hk, hno⟩ : ∃ k b, idxF gs s = ((k : Nat) : Int) ∧ gs[k]? = some (s, b) ∧ ∀ (j : Nat) p, j < k → gs[j]? = some p → p.1 ≠ s := by
     rcases idx_cases gs s with h1 | ⟨h1, h2⟩
     · exact h1
     · omega
    rw [hix]
    have hg1 := getF_of_at gs k s b hk hno
    have hkl : k < gs.length := (List.getElem?_eq_some_iff.1 hk).1
    obtain ⟨g, cur, rfl, hB, hsz⟩ := hP.list.blk (by omega)
    obtain ⟨a1, c1, hm1, hS1, hb1, h65⟩ := hP.ok.at k _ hk
    simp only at hS1 hb1 h65 hm1
    have hc1 := (fcells_at m k _ hm1).2
    have hmx := sl_max hS1
    refine k_skip ?_
    refine k_seq ?_
    refine k_seq ?_
    refine k_region ?_
    refine m_int rfl rfl ?_
    refine m_ptr rfl rfl ?_
    refine o_nilc rfl ?_
    refine o_fld0 rfl rfl ?_
    refine o_ld rfl rfl (hP.blk.at rfl) ?_
    refine m_int rfl rfl ?_
    refine o_ixs (sz := 2) Try.underlying41 rfl rfl rfl hkl ?_
    refine o_fld (off := 1) rfl rfl ?_
    refine o_ld rfl rfl (hP.list.rd.cellK (Keep.refl _ _) hc1) ?_
    refine o_lens Try.underlying22 rfl ?_
    refine b_gtr rfl rfl ?_
    refine m_bool rfl rfl ?_
    refine o_split (t := 34) rfl (fun h => ?_) (fun h => ?_)
    ·
      refine g_no rfl rfl rfl ?_
      refine g_no rfl rfl rfl ?_
      refine g_no rfl rfl rfl ?_
      refine g_no rfl rfl rfl ?_
      refine g_no rfl rfl rfl ?_
      refine g_no rfl rfl rfl ?_
      refine g_no rfl rfl rfl ?_
      refine g_no rfl rfl rfl ?_
      refine g_no rfl rfl rfl ?_
      refine g_no rfl rfl rfl ?_
      refine g_no rfl rfl rfl ?_
      refine g_no rfl rfl rfl ?_
      refine g_no rfl rfl rfl ?_
      refine pick_t rfl rfl ?_
      refine o_nil ?_
      refine k_condt rfl ?_
      refine k_seq ?_
      refine k_region ?_
      refine m_sl rfl rfl ?_
      refine m_int rfl rfl ?_
      refine o_nil ?_
      refine k_ret (ret_tmps (ts := [8, 9]) (v := .tuple #[.slice _ _ _, .int _ _]) rfl rfl ?_)
      exact hnil 2 (by unfold rdF; rw [if_neg (by omega), hg1]; simp only; rw [if_pos (.inl h)])
    ·
      have h34 := h
      refine g_yes rfl rfl ?_
      refine m_int rfl rfl ?_
      refine g_yes rfl rfl ?_
      refine m_ptr rfl rfl ?_
      refine g_yes rfl rfl ?_
      refine o_nilc rfl ?_
      refine g_yes rfl rfl ?_
      refine o_fld0 rfl rfl ?_
      refine g_yes rfl rfl ?_
      refine o_ld rfl rfl (hP.blk.at rfl) ?_
      refine g_yes rfl rfl ?_
      refine m_int rfl rfl ?_
      refine g_yes rfl rfl ?_
      refine o_ixs (sz := 2) Try.underlying41 rfl rfl rfl hkl ?_
      refine g_yes rfl rfl ?_
      refine o_fld (off := 1) rfl rfl ?_
      refine g_yes rfl rfl ?_
      refine o_ld rfl rfl (hP.list.rd.cellK (Keep.refl _ _) hc1) ?_
      refine g_yes rfl rfl ?_
      refine o_lens Try.underlying22 rfl ?_
      refine g_yes rfl rfl ?_
      refine m_int rfl rfl ?_
      refine g_yes rfl rfl ?_
      refine n_sub rfl rfl (by omega) ?_
      refine g_yes rfl rfl ?_
      refine b_gtr rfl rfl ?_
      refine pick_f rfl rfl ?_
      refine o_nil ?_
      refine k_cond rfl (fun h => ?_) (fun h => ?_)
      ·
        refine k_seq ?_
        refine k_region ?_
        refine m_sl rfl rfl ?_
        refine m_int rfl rfl ?_
        refine o_nil ?_
        refine k_ret (ret_tmps (ts := [8, 9]) (v := .tuple #[.slice _ _ _, .int _ _]) rfl rfl ?_)
        exact hnil 2 (by unfold rdF; rw [if_neg (by omega), hg1]; simp only; rw [if_pos (.inr h)])
      have h48 := h
      obtain ⟨p', rfl⟩ : ∃ p' : Nat, p = p' := ⟨p.toNat, by omega⟩
      obtain ⟨q', rfl⟩ : ∃ q' : Nat, q = q' := ⟨q.toNat, by omega⟩
      have hrd : rdF gs n (fun i => decide (i ∈ Fl)) s (p' : Int) (q' : Int) = if ((n : Int) + 1) ∈ Fl then ([], 20, n + 1, fun i => if i = (n : Int) + 1 then false else decide (i ∈ Fl)) else ((b.drop p').take q', 0, n + 1, fun i => decide (i ∈ Fl)) := by
       unfold rdF
       rw [if_neg (by omega), hg1]
       simp only
       rw [if_neg (by omega)]
       by_cases hm : ((n : Int) + 1) ∈ Fl
       · rw [if_pos hm, if_pos (by simpa using hm)]
       · rw [if_neg hm, if_neg (by simpa using hm)]; rfl
      refine k_skip ?_
      refine k_seq ?_
      refine k_region ?_
      refine m_ptr rfl rfl ?_
      refine m_ptr rfl rfl ?_
      refine o_nilc rfl ?_
      refine o_fld (off := 1) rfl rfl ?_
      refine o_ld rfl rfl (hP.blk.at rfl) ?_
      refine n_add rfl rfl (by omega) ?_
      refine o_nilc rfl ?_
      refine o_fld (off := 1) rfl rfl ?_
      refine o_st (v := .int _ _) rfl rfl rfl rfl hP.blk (by simp) (fun w2 hB2 hK2 hZ2 => ?_)
      have hB2 : Blk w2 x #[.slice (some ⟨g, 0, none⟩) gs.length c, .int .i64 ((n + 1 : Nat) : Int), .slice af Fl.length cf] 44 := hB2
      have hk2 : KeepT [44, 3] lo w1 w2 := hK2.t1 hP.low hP.blk (by simp)
      have hF2 := hP.fails.keep hK2 (hP.fails.off hP.blk (by decide))
      have hL2 := hP.list.keep hK2 (hP.list.off hP.blk (by decide))
      have hO2 := (hP.ok.kt hk2 (by decide)).mono hk2.size
      have hS2 := hS1.keep hK2 (hS1.off hP.blk (by decide))
      have hR2 : Ri lo w2 x gs (n + 1) Fl := ⟨_, _, _, _, _, hB2, hL2, hO2, hF2, hP.low, hP.lowa, hP.lowf⟩
      refine o_nil ?_
      refine k_seq ?_
      refine k_seq ?_
      refine k_region ?_
      refine m_int rfl rfl ?_
      refine o_nil ?_
      refine k_block ?_
      refine k_loop (σ := Nat) (fun i => [(0, .pointer (some ⟨x, 0, none⟩)), (2, .int .i64 (p' : Int)), (3, .int .i64 (q' : Int)), (10, .int .i64 (k : Int)), (11, .int .i64 (i : Int))]) (fun i w' => i ≤ Fl.length ∧ (∀ (j : Nat) (y : Int), j < i → Fl[j]? = some y → y ≠ (n : Int) + 1) ∧ Keep [] w2 w') (fun i => Fl.length - i) 0 ⟨rfl, rfl, rfl, rfl, rfl, trivial⟩ ⟨by omega, fun j _ h => by omega, Keep.refl _ _⟩ (fun i e w3 hJ => ?_)
      obtain ⟨hi, hno3, hk3⟩ := hJ
      have hB3 := hB2.keep hk3 (by simp)
      refine k_seq ?_
      refine k_seq ?_
      refine k_region ?_
      refine m_int rfl rfl ?_
      refine m_ptr rfl rfl ?_
      refine o_nilc rfl ?_
      refine o_fld (off := 2) rfl rfl ?_
      refine o_ld rfl rfl (hB3.at rfl) ?_
      refine o_lens Try.underlying42 rfl ?_
      refine b_lss rfl rfl ?_
      refine o_nil ?_
      refine k_cond rfl (fun h => ?_) (fun h => ?_)
      rotate_left
      ·
        obtain rfl : i = Fl.length := by omega
        have hnm : ((n : Int) + 1) ∉ Fl := fun hm => by
         obtain ⟨j, hj, he⟩ := List.getElem_of_mem hm
         exact hno3 j _ hj (List.getElem?_eq_getElem hj) he
        rw [if_neg hnm] at hrd
        refine k_exit rfl ?_
        refine k_seq ?_
        refine k_region ?_
        refine o_bsl (E := 5) (cs := #[]) rfl (fun _ => by kernel_rfl) (fun g4 w4 hB4 hK4 hb4 hZ4 => ?_)
        have hk4 := hk3.tr hK4
        refine m_ptr rfl rfl ?_
        refine o_nilc rfl ?_
        refine o_fld0 rfl rfl ?_
        refine o_ld rfl rfl ((hB3.keep hK4 (by simp)).at rfl) ?_
        refine m_int rfl rfl ?_
        refine o_ixs (sz := 2) Try.underlying41 rfl rfl rfl hkl ?_
        refine o_fld (off := 1) rfl rfl ?_
        refine o_ld rfl rfl (hL2.rd.cellK hk4 hc1) ?_
        refine m_int rfl rfl ?_
        refine m_int rfl rfl ?_
        refine m_int rfl rfl ?_
        refine n_add rfl rfl (by omega) ?_
        rw [show (p' : Int) + (q' : Int) = ((p' + q' : Nat) : Int) by omega]
        refine o_sllh (sz := 1) Try.underlying22 rfl rfl rfl rfl (by omega) (by have := hS1.le; omega) ?_
        refine o_app0 (news := ((b.drop p').take q').map u8v) Try.underlying22 inf5 rfl (by decide) rfl rfl hB4 ?RD (by simp; omega) (u8_one _) (by simp [maxLen]; omega) (by omega) (fun a5 c5 w5 hS5 hK5 hv5 => ?_)
        case RD =>
         have h1 := cutAt_rd (lo := p') (cap := c1) (sz := 1) (hS2.new hk4).rd (by simp; omega) (by have := hS1.le; omega) (by simp; exact hS1.le)
         have h2 := h1.take q'
         rw [Nat.mul_one, ← List.map_drop, ← List.map_take] at h2
         exact h2
        refine m_sl rfl rfl ?_
        refine m_int rfl rfl ?_
        refine o_nil ?_
        refine k_ret (ret_tmps (ts := [8, 9]) (v := .tuple #[.slice _ _ _, .int _ _]) rfl rfl ?_)
        have hk5 : Keep [] w2 w5 := hk4.tr hK5
        have hlen : ((b.drop p').take q').length = q' := by simp; omega
        refine RRdR.of hrd ⟨a5, c5, ?_, ?_, ?_⟩ (hR2.new hk5) (hk2.tr hk5.t)
        · rw [List.length_map, hlen, Nat.add_sub_cancel_left]
        · rw [List.length_map, hlen]; rw [Nat.add_sub_cancel_left] at hS5; exact hS5
        · intro q hq
          have h0 := hk3.size
          have h1 := hk4.size
          have h2 : w2.heap.size = w1.heap.size := hZ2
          rcases hv5 q hq with h | h <;> omega
      have hil : i < Fl.length := by omega
      obtain ⟨bf, of, rfl, _⟩ := hP.fails.rd.at i (by simpa [iv] using hil)
      have hF3 := hF2.new hk3
      refine k_skip ?_
      refine k_seq ?_
      refine k_block ?_
      refine k_seq ?_
      refine k_qk 11 rfl rfl rfl rfl rfl ?_
      refine q_step (fun w1 hC => m_ptr rfl rfl (o_nil ⟨rfl, hC⟩)) ?_
      refine q_step (fun w1 hC => o_nilc rfl (o_nil ⟨rfl, hC⟩)) ?_
      refine q_step (fun w1 hC => o_fld (off := 2) rfl rfl (o_nil ⟨rfl, hC⟩)) ?_
      refine q_step (fun w1 hC => o_ld rfl rfl (hB3.kat hC rfl) (o_nil ⟨rfl, hC⟩)) ?_
      refine q_step (fun w1 hC => m_int rfl rfl (o_nil ⟨rfl, hC⟩)) ?_
      refine q_step (fun w1 hC => o_ixs1 Try.underlying42 rfl rfl rfl hil (o_nil ⟨rfl, hC⟩)) ?_
      refine q_step (fun w1 hC => o_ld rfl rfl (hF3.rd.cellK hC (iv_at Fl i hil)) (o_nil ⟨rfl, hC⟩)) ?_
      refine q_step (fun w1 hC => m_ptr rfl rfl (o_nil ⟨rfl, hC⟩)) ?_
      refine q_step (fun w1 hC => o_nilc rfl (o_nil ⟨rfl, hC⟩)) ?_
      refine q_step (fun w1 hC => o_fld (off := 1) rfl rfl (o_nil ⟨rfl, hC⟩)) ?_
      refine q_step (fun w1 hC => o_ld rfl rfl (hB3.kat hC rfl) (o_nil ⟨rfl, hC⟩)) ?_
      refine q_nil ?_
      intro w4 hC4
      refine b_eql rfl rfl ?_
      refine o_nil ?_
      refine k_cond rfl (fun h => ?_) (fun h => ?_)
      ·
        refine k_seq ?_
        refine k_region ?_
        refine m_sl rfl rfl ?_
        refine m_int rfl rfl ?_
        refine o_nil ?_
        refine k_ret (ret_tmps (ts := [8, 9]) (v := .tuple #[.slice _ _ _, .int _ _]) rfl rfl ?_)
        have hin : ((n : Int) + 1) ∈ Fl := by
         have h1 : Fl[i] = (n : Int) + 1 := by omega
         rw [← h1]; exact List.getElem_mem hil
        rw [if_pos hin] at hrd
        exact RRdR.of hrd New.nil (hR2.new (hk3.tr hC4)) (hk2.tr (hk3.tr hC4).t)
      have hne := h
      refine k_skip ?_
      refine k_blk ?_
      refine k_region ?_
      refine m_int rfl rfl ?_
      refine n_add rfl rfl (by omega) ?_
      refine m_int rfl rfl ?_
      refine o_nil ?_
      refine k_goal ⟨i + 1, ⟨rfl, rfl, rfl, rfl, rfl, trivial⟩, ⟨by omega, ?_, hk3.tr hC4⟩, by omega⟩
      intro j y hj hy
      by_cases hjj : j < i
      · exact hno3 j y hjj hy
      · obtain rfl : j = i := by omega
        rw [List.getElem?_eq_getElem hil] at hy
        cases hy
        omega
end Go.Proofs.Ytbfphjhahgpndaa
