/- More of the files: Read, Fail, Reads, Size, Name, Same. No condition beyond what each contract names. -/
import Derived.Test.YtbfphjhahgpndaaFa
namespace Go.Proofs.Ytbfphjhahgpndaa
open Go.RowKit E
set_option linter.unusedVariables false
set_option linter.unusedSimpArgs false
set_option maxRecDepth 100000
attribute [local irreducible] ow qw kw kq cw opW Ret
theorem same_ok (w : World) (a b : Option Addr) (c d : Nat) (xs ys : List (BitVec 8)) (hX : Rd w a (xs.map u8v)) (hY : Rd w b (ys.map u8v)) (hl : xs.length ≤ 9223372036854775807) :
    Ret Try.prog 12 [.slice a xs.length c, .slice b ys.length d] w (fun v w' => v = .bool (decide (xs = ys)) ∧ Keep [] w w') := by
  generalize hn : xs.length = n at *
  generalize hm : ys.length = m at *
  refine fn_enter (n := 26) Try.func12 rfl rfl (Nat.le_of_ble_eq_true rfl) (fun e => ?_)
  refine k_seq ?_
  refine k_region ?_
  refine m_bool rfl rfl ?_
  refine o_nil ?_
  refine k_seq ?_
  refine k_seq ?_
  refine k_region ?_
  refine m_sl rfl rfl ?_
  refine o_lens Try.underlying22 rfl ?_
  refine m_sl rfl rfl ?_
  refine o_lens Try.underlying22 rfl ?_
  refine b_neq rfl rfl ?_
  refine o_nil ?_
  refine k_cond rfl (fun h => ?_) (fun h => ?_)
  ·
    refine k_seq ?_
    refine k_region ?_
    refine m_bool rfl rfl ?_
    refine o_nil ?_
    refine k_ret (ret_tmps (ts := [4]) (v := .bool _) rfl rfl ?_)
    exact ⟨congrArg Value.bool (decide_eq_false (fun he => by subst he; omega)).symm, Keep.refl _ _⟩
  have hnm : n = m := by omega
  subst hnm
  refine k_skip ?_
  refine k_seq ?_
  refine k_seq ?_
  refine k_region ?_
  refine m_int rfl rfl ?_
  refine o_nil ?_
  refine k_block ?_
  refine k_loop (σ := Nat) (fun i => [(0, .slice a n c), (1, .slice b n d), (5, .int .i64 (i : Int))]) (fun i w' => i ≤ n ∧ (∀ j, j < i → xs[j]? = ys[j]?) ∧ Keep [] w w') (fun i => n - i) 0 ⟨rfl, rfl, rfl, trivial⟩ ⟨by omega, by intro j hj; omega, Keep.refl _ _⟩ (fun i e w3 hJ => ?_)
  obtain ⟨hi, hpre, hk3⟩ := hJ
  refine k_seq ?_
  refine k_seq ?_
  refine k_region ?_
  refine m_int rfl rfl ?_
  refine m_sl rfl rfl ?_
  refine o_lens Try.underlying22 rfl ?_
  refine b_lss rfl rfl ?_
  refine o_nil ?_
  refine k_cond rfl (fun h => ?_) (fun h => ?_)
  rotate_left
  ·
    refine k_exit rfl ?_
    refine k_seq ?_
    refine k_region ?_
    refine m_bool rfl rfl ?_
    refine o_nil ?_
    refine k_ret (ret_tmps (ts := [4]) (v := .bool _) rfl rfl ?_)
    refine ⟨congrArg Value.bool (decide_eq_true (List.ext_getElem? (fun j => ?_))).symm, hk3⟩
    by_cases hj : j < n
    · exact hpre j (by omega)
    · rw [List.getElem?_eq_none (by omega), List.getElem?_eq_none (by omega)]
  have hin : i < n := by omega
  have hx := List.getElem?_eq_getElem (l := xs) (i := i) (by omega)
  have hy := List.getElem?_eq_getElem (l := ys) (i := i) (by omega)
  obtain ⟨b1, o1, rfl, _⟩ := hX.at i (by simpa using (by omega : i < xs.length))
  obtain ⟨b2, o2, rfl, _⟩ := hY.at i (by simpa using (by omega : i < ys.length))
  refine k_skip ?_
  refine k_seq ?_
  refine k_block ?_
  refine k_seq ?_
  refine k_qk 8 rfl rfl rfl rfl rfl ?_
  refine q_step (fun w1 hC => m_sl rfl rfl (o_nil ⟨rfl, hC⟩)) ?_
  refine q_step (fun w1 hC => m_int rfl rfl (o_nil ⟨rfl, hC⟩)) ?_
  refine q_step (fun w1 hC => o_ixs1 Try.underlying22 rfl rfl rfl hin (o_nil ⟨rfl, hC⟩)) ?_
  refine q_step (fun w1 hC => o_ld rfl rfl (hX.cellK (hk3.tr hC) (u8_at xs i (by omega))) (o_nil ⟨rfl, hC⟩)) ?_
  refine q_step (fun w1 hC => m_sl rfl rfl (o_nil ⟨rfl, hC⟩)) ?_
  refine q_step (fun w1 hC => m_int rfl rfl (o_nil ⟨rfl, hC⟩)) ?_
  refine q_step (fun w1 hC => o_ixs1 Try.underlying22 rfl rfl rfl hin (o_nil ⟨rfl, hC⟩)) ?_
  refine q_step (fun w1 hC => o_ld rfl rfl (hY.cellK (hk3.tr hC) (u8_at ys i (by omega))) (o_nil ⟨rfl, hC⟩)) ?_
  refine q_nil ?_
  intro w4 hC4
  refine v8_neq rfl rfl ?_
  refine o_nil ?_
  refine k_cond rfl (fun h => ?_) (fun h => ?_)
  ·
    refine k_seq ?_
    refine k_region ?_
    refine m_bool rfl rfl ?_
    refine o_nil ?_
    refine k_ret (ret_tmps (ts := [4]) (v := .bool _) rfl rfl ?_)
    exact ⟨congrArg Value.bool (decide_eq_false (fun he => by subst he; exact h rfl)).symm, hk3.tr hC4⟩
  refine k_skip ?_
  refine k_blk ?_
  refine k_region ?_
  refine m_int rfl rfl ?_
  refine n_add rfl rfl (by omega) ?_
  refine m_int rfl rfl ?_
  refine o_nil ?_
  refine k_goal ⟨i + 1, ⟨rfl, rfl, rfl, trivial⟩, ⟨by omega, ?_, hk3.tr hC4⟩, by omega⟩
  intro j hj
  by_cases hji : j = i
  · subst hji
    rw [hx, hy, Decidable.of_not_not h]
  · exact hpre j (by omega)
/-- what Read answers: the bytes, the error, how many reads there were, which are to fail -/
def rdF (fs : FS) (n : Nat) (F : Int → Bool) (s : ByteArray) (p q : Int) : List (BitVec 8) × Int × Nat × (Int → Bool) :=
  if p < 0 ∨ q < 0 then ([], 1, n, F) else match getF fs s with
  | none => ([], 21, n, F)
  | some b => if (b.length : Int) < p ∨ (b.length : Int) - p < q then ([], 2, n, F) else
      if F ((n : Int) + 1) then ([], 20, n + 1, fun i => if i = (n : Int) + 1 then false else F i) else ((b.drop p.toNat).take q.toNat, 0, n + 1, F)
def RdR (k lo hi : Nat) (w : World) (r : Nat) (fs : FS) (n : Nat) (F : Int → Bool) (s : ByteArray) (p q : Int) (v : Value) (w' : World) : Prop :=
  ∃ u, v = .tuple #[u, .int .i64 (rdF fs n F s p q).2.1] ∧ New w w' 5 u ((rdF fs n F s p q).1.map u8v) ∧ Fi k lo hi w' r fs (rdF fs n F s p q).2.2.1 (rdF fs n F s p q).2.2.2 ∧ KB k w w'
theorem RdR.of {k lo hi : Nat} {w w' : World} {r : Nat} {fs : FS} {n n' : Nat} {F F' : Int → Bool} {s : ByteArray} {p q y : Int} {u : Value} {xs : List (BitVec 8)} (h : rdF fs n F s p q = (xs, y, n', F')) (hu : New w w' 5 u (xs.map u8v)) (hF : Fi k lo hi w' r fs n' F') (hk : KB k w w') : RdR k lo hi w r fs n F s p q (.tuple #[u, .int .i64 y]) w' := by
  unfold RdR; rw [h]; exact ⟨u, rfl, hu, hF, hk⟩
theorem read_ok (k lo hi : Nat) (w : World) (r : Nat) (fs : FS) (n : Nat) (F : Int → Bool) (s : ByteArray) (p q : Int) (h : Fi k lo hi w r fs n F) (hn : n < 4611686018427387904) :
    Ret Try.prog 11 [.pointer (some ⟨r, 0, none⟩), .string s, .int .i64 p, .int .i64 q] w (fun v w' => RdR k lo hi w r fs n F s p q v w') := by
  have hFi' := h
  obtain ⟨rr, rf, m, fm, hP⟩ := h
  have htop := hP.top
  have hget := hP.ok.get s
  have hnil : ∀ y, rdF fs n F s p q = ([], y, n, F) → RdR k lo hi w r fs n F s p q (.tuple #[.slice none 0 0, .int .i64 y]) w := fun y hy => RdR.of hy New.nil hFi' (Keep.refl [] w).kb
  have hrb := hP.rows.blk hP.blk
  have hrf := hP.fails.blk hP.blk
  refine fn_enter (n := 75) Try.func11 rfl rfl (Nat.le_of_ble_eq_true rfl) (fun e => ?_)
  refine k_seq ?_
  refine k_region ?_
  refine m_sl rfl rfl ?_
  refine m_int rfl rfl ?_
  refine o_nil ?_
  refine k_seq ?_
  refine k_seq ?_
  refine k_region ?_
  refine m_ptr rfl rfl ?_
  refine b_eqlp Try.underlying25 rfl rfl ?_
  refine o_nil ?_
  refine k_no rfl ((by simp)) ?_
  refine k_skip ?_
  refine k_seq ?_
  refine k_seq ?_
  refine k_region ?_
  refine m_int rfl rfl ?_
  refine b_lss rfl rfl ?_
  refine m_bool rfl rfl ?_
  refine o_split (t := 16) rfl (fun h => ?_) (fun h => ?_)
  ·
    refine g_no rfl rfl rfl ?_
    refine g_no rfl rfl rfl ?_
    refine pick_t rfl rfl ?_
    refine o_nil ?_
    refine k_condt rfl ?_
    refine k_seq ?_
    refine k_region ?_
    refine m_sl rfl rfl ?_
    refine m_int rfl rfl ?_
    refine o_nil ?_
    refine k_ret (ret_tmps (ts := [8, 9]) (v := .tuple #[.slice _ _ _, .int _ _]) rfl rfl ?_)
    exact hnil 1 (by unfold rdF; rw [if_pos (.inl h)])
  ·
    have h16 := h
    refine g_yes rfl rfl ?_
    refine m_int rfl rfl ?_
    refine g_yes rfl rfl ?_
    refine b_lss rfl rfl ?_
    refine pick_f rfl rfl ?_
    refine o_nil ?_
    refine k_cond rfl (fun h => ?_) (fun h => ?_)
    ·
      refine k_seq ?_
      refine k_region ?_
      refine m_sl rfl rfl ?_
      refine m_int rfl rfl ?_
      refine o_nil ?_
      refine k_ret (ret_tmps (ts := [8, 9]) (v := .tuple #[.slice _ _ _, .int _ _]) rfl rfl ?_)
      exact hnil 1 (by unfold rdF; rw [if_pos (.inr h)])
    have h19 := h
    refine k_skip ?_
    refine k_seq ?_
    refine k_region ?_
    refine m_ptr rfl rfl ?_
    refine o_nilc rfl ?_
    refine o_fld0 rfl rfl ?_
    refine o_ld rfl rfl (hP.blk.at rfl) ?_
    refine m_str rfl rfl ?_
    refine o_lookok (kv := Value.string) (q := s) Try.underlying55 (key_str Try.underlying9) inf22 rfl rfl hP.rows (v := (getM m s).getD (.slice none 0 0)) (b := (getM m s).isSome) rfl rfl ?_
    refine m_any rfl rfl ?_
    refine o_extr (vs := [(getM m s).getD (.slice none 0 0), .bool (getM m s).isSome]) rfl rfl ?_
    refine o_extr (vs := [(getM m s).getD (.slice none 0 0), .bool (getM m s).isSome]) rfl rfl ?_
    refine m_any rfl rfl ?_
    refine m_bool rfl rfl ?_
    refine o_nil ?_
    refine k_seq ?_
    refine k_seq ?_
    refine k_region ?_
    refine m_bool rfl rfl ?_
    refine u_notb rfl ?_
    refine o_nil ?_
    refine k_cond (p := getF fs s = none) (by rcases hget with ⟨h1, h2⟩ | ⟨bs', a', c', h1, h2, _⟩ <;> rw [h1] <;> show Value.bool (!(getM m s).isSome) = _ <;> rw [h2] <;> simp) (fun h => ?_) (fun h => ?_)
    ·
      refine k_seq ?_
      refine k_region ?_
      refine m_sl rfl rfl ?_
      refine m_int rfl rfl ?_
      refine o_nil ?_
      refine k_ret (ret_tmps (ts := [8, 9]) (v := .tuple #[.slice _ _ _, .int _ _]) rfl rfl ?_)
      exact hnil 21 (by unfold rdF; rw [if_neg (by omega), h])
    obtain ⟨bs, a, c, hg1, hg2, hS, h65⟩ : ∃ bs a c, getF fs s = some bs ∧ getM m s = some (.slice a bs.length c) ∧ Sl w 5 1 a bs.length c (bs.map u8v) ∧ bs.length ≤ 65536 := by
     rcases hget with ⟨h1, _⟩ | h1
     · exact absurd h1 h
     · exact h1
    rw [hg2]
    have hmx := sl_max hS
    refine k_skip ?_
    refine k_seq ?_
    refine k_seq ?_
    refine k_region ?_
    refine m_int rfl rfl ?_
    refine m_sl rfl rfl ?_
    refine o_lens Try.underlying22 rfl ?_
    refine b_gtr rfl rfl ?_
    refine m_bool rfl rfl ?_
    refine o_split (t := 35) rfl (fun h => ?_) (fun h => ?_)
    ·
      refine g_no rfl rfl rfl ?_
      refine g_no rfl rfl rfl ?_
      refine g_no rfl rfl rfl ?_
      refine g_no rfl rfl rfl ?_
      refine g_no rfl rfl rfl ?_
      refine g_no rfl rfl rfl ?_
      refine pick_t rfl rfl ?_
      refine o_nil ?_
      refine k_condt rfl ?_
      refine k_seq ?_
      refine k_region ?_
      refine m_sl rfl rfl ?_
      refine m_int rfl rfl ?_
      refine o_nil ?_
      refine k_ret (ret_tmps (ts := [8, 9]) (v := .tuple #[.slice _ _ _, .int _ _]) rfl rfl ?_)
      exact hnil 2 (by unfold rdF; rw [if_neg (by omega), hg1]; simp only; rw [if_pos (.inl h)])
    ·
      have h35 := h
      refine g_yes rfl rfl ?_
      refine m_int rfl rfl ?_
      refine g_yes rfl rfl ?_
      refine m_sl rfl rfl ?_
      refine g_yes rfl rfl ?_
      refine o_lens Try.underlying22 rfl ?_
      refine g_yes rfl rfl ?_
      refine m_int rfl rfl ?_
      refine g_yes rfl rfl ?_
      refine n_sub rfl rfl (by omega) ?_
      refine g_yes rfl rfl ?_
      refine b_gtr rfl rfl ?_
      refine pick_f rfl rfl ?_
      refine o_nil ?_
      refine k_cond rfl (fun h => ?_) (fun h => ?_)
      ·
        refine k_seq ?_
        refine k_region ?_
        refine m_sl rfl rfl ?_
        refine m_int rfl rfl ?_
        refine o_nil ?_
        refine k_ret (ret_tmps (ts := [8, 9]) (v := .tuple #[.slice _ _ _, .int _ _]) rfl rfl ?_)
        exact hnil 2 (by unfold rdF; rw [if_neg (by omega), hg1]; simp only; rw [if_pos (.inr h)])
      have h42 := h
      obtain ⟨p', rfl⟩ : ∃ p' : Nat, p = p' := ⟨p.toNat, by omega⟩
      obtain ⟨q', rfl⟩ : ∃ q' : Nat, q = q' := ⟨q.toNat, by omega⟩
      have hrd : rdF fs n F s (p' : Int) (q' : Int) = if F ((n : Int) + 1) then ([], 20, n + 1, fun i => if i = (n : Int) + 1 then false else F i) else ((bs.drop p').take q', 0, n + 1, F) := by
       unfold rdF
       rw [if_neg (by omega), hg1]
       simp only
       rw [if_neg (by omega)]
       rfl
      refine k_skip ?_
      refine k_seq ?_
      refine k_region ?_
      refine m_ptr rfl rfl ?_
      refine o_nilc rfl ?_
      refine o_fld (off := 1) rfl rfl ?_
      refine o_ld rfl rfl (hP.blk.at rfl) ?_
      refine n_add rfl rfl (by omega) ?_
      refine o_nilc rfl ?_
      refine o_fld (off := 1) rfl rfl ?_
      refine o_st (v := .int _ _) rfl rfl rfl rfl hP.blk (by simp) (fun w2 hB2 hK2 hZ2 => ?_)
      have hB2 : Blk w2 r #[.map (some rr), .int .i64 ((n + 1 : Nat) : Int), .map (some rf)] 58 := hB2
      have hM2 := hP.rows.keep hK2 (by simpa using fun e => hrb e.symm)
      have hN2 := hP.fails.keep hK2 (by simpa using fun e => hrf e.symm)
      have hO2 := hP.ok.keep hK2 (by intro b hb; simp at hb; subst hb; exact .inr (.inr (fun cs hB => absurd (hB.ty hP.blk) (by decide))))
      have hkb2 : KB k w w2 := ⟨[r], hK2, by intro b hb; simp at hb; subst hb; exact ⟨hP.low.1, fun cs T hB => hB.ty hP.blk⟩⟩
      have hz2 : w2.heap.size = w.heap.size := hZ2
      refine o_nil ?_
      refine k_seq ?_
      refine k_seq ?_
      refine k_qk 8 rfl rfl rfl rfl rfl ?_
      refine q_step (fun w1 hC => m_ptr rfl rfl (o_nil ⟨rfl, hC⟩)) ?_
      refine q_step (fun w1 hC => o_nilc rfl (o_nil ⟨rfl, hC⟩)) ?_
      refine q_step (fun w1 hC => o_fld (off := 2) rfl rfl (o_nil ⟨rfl, hC⟩)) ?_
      refine q_step (fun w1 hC => o_ld rfl rfl (hB2.kat hC rfl) (o_nil ⟨rfl, hC⟩)) ?_
      refine q_step (fun w1 hC => m_ptr rfl rfl (o_nil ⟨rfl, hC⟩)) ?_
      refine q_step (fun w1 hC => o_nilc rfl (o_nil ⟨rfl, hC⟩)) ?_
      refine q_step (fun w1 hC => o_fld (off := 1) rfl rfl (o_nil ⟨rfl, hC⟩)) ?_
      refine q_step (fun w1 hC => o_ld rfl rfl (hB2.kat hC rfl) (o_nil ⟨rfl, hC⟩)) ?_
      refine q_nil ?_
      intro w3 hC3
      refine o_look (kv := Value.int .i64) (q := ((n + 1 : Nat) : Int)) Try.underlying56 (key_int Try.underlying3) inf4 rfl rfl (hN2.keep hC3 (by simp)) (v := .bool (F ((n : Int) + 1))) (by rw [hP.get]; show (if F ((n : Int) + 1) = true then some (Value.bool true) else none).getD _ = _; cases F ((n : Int) + 1) <;> rfl) ?_
      refine o_nil ?_
      refine k_condb rfl (fun h58 => ?_) (fun h58 => ?_)
      ·
        rw [h58, if_pos rfl] at hrd
        have hB3 := hB2.keep hC3 (by simp)
        refine k_seq ?_
        refine k_qk 8 rfl rfl rfl rfl rfl ?_
        refine q_step (fun w1 hC => m_ptr rfl rfl (o_nil ⟨rfl, hC⟩)) ?_
        refine q_step (fun w1 hC => o_nilc rfl (o_nil ⟨rfl, hC⟩)) ?_
        refine q_step (fun w1 hC => o_fld (off := 2) rfl rfl (o_nil ⟨rfl, hC⟩)) ?_
        refine q_step (fun w1 hC => o_ld rfl rfl (hB3.kat hC rfl) (o_nil ⟨rfl, hC⟩)) ?_
        refine q_step (fun w1 hC => m_ptr rfl rfl (o_nil ⟨rfl, hC⟩)) ?_
        refine q_step (fun w1 hC => o_nilc rfl (o_nil ⟨rfl, hC⟩)) ?_
        refine q_step (fun w1 hC => o_fld (off := 1) rfl rfl (o_nil ⟨rfl, hC⟩)) ?_
        refine q_step (fun w1 hC => o_ld rfl rfl (hB3.kat hC rfl) (o_nil ⟨rfl, hC⟩)) ?_
        refine q_nil ?_
        intro w4 hC4
        refine o_mdel (kv := Value.int .i64) (q := ((n + 1 : Nat) : Int)) Try.underlying56 rfl (key_int Try.underlying3) rfl rfl ((hN2.keep hC3 (by simp)).keep hC4 (by simp)) (fun w5 hM5 hK5 hZ5 => ?_)
        refine o_nil ?_
        refine k_seq ?_
        refine k_region ?_
        refine m_sl rfl rfl ?_
        refine m_int rfl rfl ?_
        refine o_nil ?_
        refine k_ret (ret_tmps (ts := [8, 9]) (v := .tuple #[.slice _ _ _, .int _ _]) rfl rfl ?_)
        have hk24 : Keep [] w2 w4 := hC3.tr hC4
        have hnb := E.Mp.nblk (hN2.keep hk24 (by simp))
        have hkb5 : KB k w2 w5 := ⟨[rf], hk24.also.trans hK5 (fun _ h _ => h), by intro b hb; simp at hb; subst hb; exact ⟨hP.low.2.2, fun cs T hB => absurd hB (E.Mp.nblk hN2 cs T)⟩⟩
        refine RdR.of hrd New.nil ⟨rr, rf, m, _, (hB2.keep hk24 (by simp)).keep hK5 (by simpa using hrf), (hM2.keep hk24 (by simp)).keep hK5 (by simpa using hP.ne), hM5, (hO2.keep hk24 (by simp)).keep hK5 (by intro b hb; simp at hb; subst hb; exact .inr (.inr (fun cs => hnb cs 5))), ?_, nodup_del hP.nodup, hP.ne, hP.low, hP.high, by have := hkb5.size; omega⟩ (hkb2.tr hkb5)
        intro i
        rw [getM_del hP.nodup, hP.get]
        by_cases hi : i = ((n + 1 : Nat) : Int)
        · rw [if_pos hi, if_pos (show i = (n : Int) + 1 by omega)]; rfl
        · rw [if_neg hi, if_neg (show ¬ i = (n : Int) + 1 by omega)]
      rw [h58] at hrd
      simp only [Bool.false_eq_true, if_false] at hrd
      have hS3 := (hS.keep hK2 (hS.off hP.blk (by decide))).new hC3
      refine k_skip ?_
      refine k_seq ?_
      refine k_region ?_
      refine o_bsl (E := 5) (cs := #[]) rfl (fun _ => by kernel_rfl) (fun g w4 hB4 hK4 hb4 hZ4 => ?_)
      refine m_sl rfl rfl ?_
      refine m_int rfl rfl ?_
      refine m_int rfl rfl ?_
      refine m_int rfl rfl ?_
      refine n_add rfl rfl (by omega) ?_
      rw [show (p' : Int) + (q' : Int) = ((p' + q' : Nat) : Int) by omega]
      refine o_sllh (sz := 1) Try.underlying22 rfl rfl rfl rfl (by omega) (by have := hS.le; omega) ?_
      refine o_app0 (news := ((bs.drop p').take q').map u8v) Try.underlying22 inf5 rfl (by decide) rfl rfl hB4 ?RD (by simp; omega) (u8_one _) (by simp [maxLen]; omega) (by omega) (fun a5 c5 w5 hS5 hK5 hv5 => ?_)
      case RD =>
       have h1 := cutAt_rd (lo := p') (cap := c) (sz := 1) (hS3.new hK4).rd (by simp; omega) (by have := hS.le; omega) (by simp; exact hS.le)
       have h2 := h1.take q'
       rw [Nat.mul_one, ← List.map_drop, ← List.map_take] at h2
       exact h2
      refine m_sl rfl rfl ?_
      refine m_int rfl rfl ?_
      refine o_nil ?_
      refine k_ret (ret_tmps (ts := [8, 9]) (v := .tuple #[.slice _ _ _, .int _ _]) rfl rfl ?_)
      have hk25 : Keep [] w2 w5 := (hC3.tr hK4).tr hK5
      have hlen : ((bs.drop p').take q').length = q' := by simp; omega
      refine RdR.of hrd ⟨a5, c5, ?_, ?_, ?_⟩ ⟨rr, rf, m, fm, hB2.keep hk25 (by simp), hM2.keep hk25 (by simp), hN2.keep hk25 (by simp), hO2.keep hk25 (by simp), hP.get, hP.nodup, hP.ne, hP.low, hP.high, by have := hk25.size; omega⟩ (hkb2.tr hk25.kb)
      · rw [List.length_map, hlen, Nat.add_sub_cancel_left]
      · rw [List.length_map, hlen]; rw [Nat.add_sub_cancel_left] at hS5; exact hS5
      · intro q hq
        have := hC3.size
        have := hK4.size
        rcases hv5 q hq with h | h <;> omega
end Go.Proofs.Ytbfphjhahgpndaa
