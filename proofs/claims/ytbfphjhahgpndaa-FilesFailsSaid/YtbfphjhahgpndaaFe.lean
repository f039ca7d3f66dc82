/- The walk of the law FilesFails. No condition beyond what each contract names. -/
import Derived.Test.YtbfphjhahgpndaaFd
namespace Go.Proofs.Ytbfphjhahgpndaa
open Go.RowKit E
set_option linter.unusedVariables false
set_option linter.unusedSimpArgs false
set_option maxRecDepth 100000
attribute [local irreducible] ow qw kw kq cw opW Ret
def hasK (l : List (BitVec 8)) (j : Nat) : Bool := l.any (fun k => decide (k.toNat = j))
theorem hasK_told (l : List (BitVec 8)) (j : Nat) (hj : 1 ≤ j) : hasK l j = told l (j : Int) := by
  induction l with
  | nil => rfl
  | cons k l ih =>
    unfold hasK told
    unfold hasK at ih
    rw [List.any_cons, ih]
    congr 1
    apply decide_eq_decide.2
    constructor
    · intro h; exact ⟨by omega, fun e => by rw [e] at h; simp at h; omega⟩
    · intro h; omega
theorem told_low (l : List (BitVec 8)) (i : Int) (hi : i ≤ 0) : told l i = false := by
  induction l with
  | nil => rfl
  | cons k l ih =>
    unfold told
    rw [ih, Bool.or_false]
    apply decide_eq_false
    intro h
    have : k.toNat = 0 := by omega
    exact h.2 (BitVec.eq_of_toNat_eq (by simpa using this))
theorem told_fl (l : List (BitVec 8)) (k : BitVec 8) : flF 0 (told l) (k.toNat : Int) = told (l ++ [k]) := by
  funext i
  rw [told_app]
  unfold flF
  have hk := k.isLt
  by_cases h0 : k = 0#8
  · subst h0
    rw [if_pos (by simp)]
    simp
  · have h1 : k.toNat ≠ 0 := fun e => h0 (BitVec.eq_of_toNat_eq (by simpa using e))
    rw [if_neg (by omega)]
    by_cases hi : i = (k.toNat : Int)
    · rw [if_pos (by omega)]
      simp [hi, h0]
    · rw [if_neg (by omega)]
      simp [hi]
def Fr (l : List (BitVec 8)) (j : Nat) : Int → Bool := fun x => decide ((j : Int) < x) && told l x
theorem Fr_zero (l : List (BitVec 8)) : Fr l 0 = told l := by
  funext x
  unfold Fr
  by_cases h : (0 : Int) < x
  · simp [h]
  · rw [told_low l x (by omega), Bool.and_false]
theorem Fr_at (l : List (BitVec 8)) (j : Nat) : Fr l j ((j : Int) + 1) = told l ((j : Int) + 1) := by
  unfold Fr
  have : (j : Int) < (j : Int) + 1 := by omega
  simp [this]
theorem Fr_fail (l : List (BitVec 8)) (j : Nat) : (fun i => if i = (j : Int) + 1 then false else Fr l j i) = Fr l (j + 1) := by
  funext x
  unfold Fr
  by_cases h : x = (j : Int) + 1
  · rw [if_pos h]
    have : ¬ ((j + 1 : Nat) : Int) < x := by omega
    rw [decide_eq_false this, Bool.false_and]
  · rw [if_neg h]
    have : ((j : Int) < x) = (((j + 1 : Nat) : Int) < x) := by apply propext; omega
    simp only [this]
theorem Fr_good (l : List (BitVec 8)) (j : Nat) (h : told l ((j : Int) + 1) = false) : Fr l j = Fr l (j + 1) := by
  rw [← Fr_fail]
  funext x
  by_cases hx : x = (j : Int) + 1
  · rw [if_pos hx, hx, Fr_at, h]
  · rw [if_neg hx]
theorem told_nil : told [] = fun _ => false := rfl
theorem hasK_nil : hasK [] = fun _ => false := rfl
theorem hasK_app (l : List (BitVec 8)) (k : BitVec 8) (j : Nat) : hasK (l ++ [k]) j = if j = k.toNat then true else hasK l j := by
  unfold hasK
  rw [List.any_append, List.any_cons, List.any_nil, Bool.or_false]
  by_cases h : j = k.toNat
  · rw [if_pos h, h]; simp
  · rw [if_neg h, decide_eq_false (fun e => h e.symm), Bool.or_false]
theorem flE_zero (k : BitVec 8) : ¬ (decide (flE (k.toNat : Int) ≠ 0) ≠ decide (k = 0#8)) := by
  rw [Decidable.not_not]
  apply decide_eq_decide.2
  have hk := k.isLt
  unfold flE
  constructor
  · intro h
    split at h
    · exact BitVec.eq_of_toNat_eq (by show k.toNat = 0; omega)
    · exact absurd rfl h
  · intro h
    subst h
    rw [if_pos (by simp)]
    decide
/-- a block of another type is turned -/
theorem Fi.notin {k lo hi g : Nat} {w w' : World} {r : Nat} {fs : FS} {n : Nat} {F : Int → Bool} {cs : Array Value} {T : TypeId} (h : Fi k lo hi w r fs n F) (hg : Blk w g cs T) (hT : T ≠ 58) (hT5 : T ≠ 5) (hk : Keep [g] w w') : Fi k lo hi w' r fs n F := by
  obtain ⟨rr, rf, m, fm, h⟩ := h
  refine ⟨rr, rf, m, fm, h.blk.keep hk ?_, h.rows.keep hk ?_, h.fails.keep hk ?_, h.ok.keep hk ?_, h.get, h.nodup, h.ne, h.low, h.high, Nat.le_trans h.top hk.size⟩
  · intro hm
    simp at hm
    subst hm
    exact hT (hg.ty h.blk)
  · have := h.rows.blk hg; simpa using fun e => this e.symm
  · have := h.fails.blk hg; simpa using fun e => this e.symm
  · intro b hb; simp at hb; subst hb; exact .inr (.inr (fun cs' hB => hT5 (hg.ty hB)))
def sX : ByteArray := ⟨#[120]⟩
attribute [local irreducible] told hasK arrB Fr flF
theorem fails_ok (w : World) (a : Option Addr) (l c : Nat) (ks : List (BitVec 8)) (n : BitVec 8) (hR : Rd w a (ks.map u8v)) (hl : ks.length = l) (hlb : l ≤ 9223372036854775807) :
    Ret Try.prog 4 [.slice a l c, .int .u8 (n.toNat : Int)] w (fun v w' => v = .bool true ∧ Keep [] w w') := by
  obtain ⟨z35, hz35, hz35'⟩ := z35
  refine fn_enter (n := 77) Try.func4 rfl rfl (Nat.le_of_ble_eq_true rfl) (fun e => ?_)
  refine k_seq ?_
  refine k_region ?_
  refine m_bool rfl rfl ?_
  refine o_nil ?_
  refine k_seq ?_
  refine k_seq ?_
  refine k_region ?_
  refine o_call rfl rfl (fixed_ok w) (fun v w0 hv => ?_)
  obtain ⟨rfl, hK0⟩ := hv
  refine u_notb rfl ?_
  refine o_nil ?_
  refine k_condf rfl ?_
  refine k_skip ?_
  refine k_seq ?_
  refine k_region ?_
  refine o_call rfl rfl (fnew_ok w0) (fun v w1 hv => ?_)
  obtain ⟨r, rfl, hF1, hK1⟩ := hv
  refine m_ptr rfl rfl ?_
  refine o_nil ?_
  refine k_seq ?_
  refine k_region ?_
  refine m_ptr rfl rfl ?_
  refine o_bsl (E := 5) (cs := #[.int .u8 7]) rfl (fun _ => by kernel_rfl) (fun g w2 hB2 hK2 hb2 hZ2 => ?_)
  have hF2 := (hF1 0).new hK2
  refine o_call rfl rfl (put_ok w0.heap.size 0 _ w2 r [] 0 _ sX _ 1 [7#8] hF2 (blk_bs hB2 rfl) (Nat.zero_le _)) (fun v w3 hv => ?_)
  obtain ⟨rfl, hF3, hk3⟩ := hv
  rw [show putE [] sX [7#8].length = 0 by decide] at hF3
  rw [if_pos rfl, show putF [] sX [7#8] = [(sX, [7#8])] from rfl] at hF3
  have hk03 : Keep [] w0 w3 := hk3.keep (hK1.tr hK2) (Nat.le_refl _)
  refine o_nil ?_
  refine k_seq ?_
  refine k_region ?_
  refine o_alloc (cs := arrB (fun _ => false) 300) hz35 hz35' (fun b w4 hB4 hK4 hb4 hZ4 => ?_)
  have hk04 := hk03.tr hK4
  have hF4 := hF3.new hK4
  have hkw4 := hK0.tr hk04
  refine o_nil ?_
  refine k_seq ?_
  refine k_seq ?_
  refine k_region ?_
  refine m_sl rfl rfl ?_
  refine o_lens Try.underlying22 rfl ?_
  refine m_int rfl rfl ?_
  refine o_nil ?_
  refine k_cut (σ := List (BitVec 8)) (fun pre => [(1, .int .u8 (n.toNat : Int)), (5, .pointer (some ⟨r, 0, none⟩)), (6, .pointer (some ⟨b, 0, none⟩))]) (fun pre w' => (∃ hi, Fi w0.heap.size 0 hi w' r [(sX, [7#8])] 0 (told pre)) ∧ Blk w' b (arrB (hasK pre) 300) 35 ∧ Keep [] w w') ?_ (fun pre e w9 hJ => ?_)
  ·
    refine k_block ?_
    refine k_loop (σ := Nat) (fun i => [(1, .int .u8 (n.toNat : Int)), (5, .pointer (some ⟨r, 0, none⟩)), (6, .pointer (some ⟨b, 0, none⟩)), (18, .slice a l c), (19, .int .i64 (l : Int)), (20, .int .i64 (i : Int))]) (fun i w' => i ≤ l ∧ (∃ hi, Fi w0.heap.size 0 hi w' r [(sX, [7#8])] 0 (told (ks.take i))) ∧ Blk w' b (arrB (hasK (ks.take i)) 300) 35 ∧ Keep [] w w') (fun i => l - i) 0 ⟨rfl, rfl, rfl, rfl, rfl, rfl, trivial⟩ ⟨by omega, ⟨_, by rw [List.take_zero, told_nil]; exact hF4⟩, by rw [List.take_zero, hasK_nil]; exact hB4, hkw4⟩ (fun i e w5 hJ => ?_)
    obtain ⟨hi, ⟨h5, hF5⟩, hB5, hk5⟩ := hJ
    refine k_seq ?_
    refine k_region ?_
    refine b_lss rfl rfl ?_
    refine o_nil ?_
    refine k_seq ?_
    refine k_cond rfl (fun h => ?_) (fun h => ?_)
    rotate_left
    ·
      refine k_exit rfl ?_
      refine k_goal ⟨ks.take i, ⟨rfl, rfl, rfl, trivial⟩, ⟨h5, hF5⟩, hB5, hk5⟩
    have hil : i < ks.length := by omega
    obtain ⟨b1, o1, rfl, _⟩ := hR.at i (by simpa using hil)
    refine k_skip ?_
    refine k_seq ?_
    refine k_block ?_
    refine k_seq ?_
    refine k_region ?_
    refine m_int rfl rfl ?_
    refine o_ixs1 Try.underlying22 rfl rfl rfl (by omega) ?_
    refine o_ld rfl rfl (hR.cellK hk5 (u8_at ks i hil)) ?_
    refine m_int rfl rfl ?_
    refine m_int rfl rfl ?_
    refine o_nil ?_
    refine k_seq ?_
    refine k_seq ?_
    refine k_region ?_
    refine m_int rfl rfl ?_
    refine b_geq rfl rfl ?_
    refine o_nil ?_
    refine k_cond rfl (fun h => ?_) (fun h => ?_)
    ·
      refine k_exit rfl ?_
      refine k_goal ⟨ks.take i, ⟨rfl, rfl, rfl, trivial⟩, ⟨h5, hF5⟩, hB5, hk5⟩
    refine k_skip ?_
    refine k_seq ?_
    refine k_seq ?_
    refine k_region ?_
    refine m_ptr rfl rfl ?_
    refine m_int rfl rfl ?_
    refine cv8_i rfl Try.underlying3 rfl ?_
    refine o_call rfl rfl (fail_ok w0.heap.size 0 _ w5 r _ 0 _ ((ks[i]).toNat : Int) hF5 (by omega)) (fun v w6 hv => ?_)
    obtain ⟨rfl, hF6, hk6⟩ := hv
    rw [told_fl] at hF6
    have hB6 := hk6.blk hB5 (by decide)
    have hkw6 := hk6.keep hk5 (by have := hK0.size; omega)
    have hlt := (ks[i]).isLt
    refine b_neq rfl rfl ?_
    refine m_int rfl rfl ?_
    refine v8_eql (b := 0#8) rfl rfl ?_
    refine b_neqb Try.underlying4 rfl rfl ?_
    refine o_nil ?_
    refine k_no rfl ((flE_zero _)) ?_
    refine k_skip ?_
    refine k_region ?_
    refine m_int rfl rfl ?_
    refine o_ixa1 (m := (ks[i]).toNat) Try.underlying35 rfl rfl rfl (by omega) ?_
    refine o_st (v := .bool _) rfl rfl rfl rfl hB6 (by rw [arrB_size]; omega) (fun w7 hB7 hK7 hZ7 => ?_)
    rw [Nat.zero_add, arrB_set _ 300 _ _ (by omega)] at hB7
    refine o_nil ?_
    refine k_blk ?_
    refine k_region ?_
    refine n_add rfl rfl (by omega) ?_
    refine m_int rfl rfl ?_
    refine o_nil ?_
    refine k_goal ⟨i + 1, ⟨rfl, rfl, rfl, rfl, rfl, rfl, trivial⟩, ⟨by omega, ⟨w6.heap.size, ?_⟩, ?_, hkw6.tr1 hK7 (by have := hkw4.size; have := hk04.size; have := hK0.size; have := hk03.size; omega)⟩, by omega⟩
    · rw [List.take_succ_eq_append_getElem hil]
      exact hF6.notin hB6 (by decide) (by decide) hK7
    · rw [List.take_succ_eq_append_getElem hil, arrB_congr 300 (g := fun j => if j = (ks[i]).toNat then true else hasK (ks.take i) j) (fun j _ => hasK_app _ _ _)]
      exact hB7
  obtain ⟨⟨h9, hF9⟩, hB9, hk9⟩ := hJ
  refine k_seq ?_
  refine k_seq ?_
  refine k_region ?_
  refine m_int rfl rfl ?_
  refine o_nil ?_
  refine k_block ?_
  refine k_loop (σ := Nat) (fun j => [(1, .int .u8 (n.toNat : Int)), (5, .pointer (some ⟨r, 0, none⟩)), (6, .pointer (some ⟨b, 0, none⟩)), (9, .int .i64 ((j + 1 : Nat) : Int))]) (fun j w' => j ≤ n.toNat ∧ (∃ hi, Fi w0.heap.size 0 hi w' r [(sX, [7#8])] j (Fr pre j)) ∧ Blk w' b (arrB (hasK pre) 300) 35 ∧ Keep [] w w') (fun j => n.toNat - j) 0 ⟨rfl, rfl, rfl, rfl, trivial⟩ ⟨by omega, ⟨_, by rw [Fr_zero]; exact hF9⟩, hB9, hk9⟩ (fun j e w10 hJ => ?_)
  obtain ⟨hj, ⟨h10, hF10⟩, hB10, hk10⟩ := hJ
  have hnlt := n.isLt
  refine k_seq ?_
  refine k_seq ?_
  refine k_region ?_
  refine m_int rfl rfl ?_
  refine m_int rfl rfl ?_
  refine cv8_i rfl Try.underlying3 rfl ?_
  refine b_leq rfl rfl ?_
  refine o_nil ?_
  refine k_cond rfl (fun h => ?_) (fun h => ?_)
  rotate_left
  ·
    obtain rfl : j = n.toNat := by omega
    refine k_exit rfl ?_
    refine k_seq ?_
    refine k_region ?_
    refine m_ptr rfl rfl ?_
    refine o_call rfl rfl (freads_ok _ _ _ w10 r _ _ _ hF10) (fun v w11 hv => ?_)
    obtain ⟨rfl, rfl⟩ := hv
    refine m_int rfl rfl ?_
    refine cv8_i rfl Try.underlying3 rfl ?_
    refine b_eql rfl rfl ?_
    refine m_bool rfl rfl ?_
    refine o_nil ?_
    refine k_ret (ret_tmps (ts := [4]) (v := .bool _) rfl rfl ?_)
    exact ⟨by simp, hk10⟩
  have hjn : j < n.toNat := by omega
  refine k_skip ?_
  refine k_seq ?_
  refine k_block ?_
  refine k_seq ?_
  refine k_region ?_
  refine m_ptr rfl rfl ?_
  refine o_call rfl rfl (read_ok w0.heap.size 0 _ w10 r _ j _ sX ((0 : Nat) : Int) ((1 : Nat) : Int) hF10 (by omega)) (fun v w11 hv => ?_)
  obtain ⟨u11, y11, xs11, hu11, hN11, hF11, hk11, hyx⟩ : ∃ u y xs, v = .tuple #[u, .int .i64 y] ∧ New w10 w11 5 u (xs.map u8v) ∧ Fi w0.heap.size 0 h10 w11 r [(sX, [7#8])] (j + 1) (Fr pre (j + 1)) ∧ KB w0.heap.size w10 w11 ∧ ((told pre ((j : Int) + 1) = true ∧ y = 20) ∨ (told pre ((j : Int) + 1) = false ∧ y = 0 ∧ xs = [7#8])) := by
   unfold RdR at hv
   cases ht : told pre ((j : Int) + 1) with
   | true =>
     rw [rdF_fail (getF_one _ _) (by decide) (by rw [Fr_at, ht]), Fr_fail] at hv
     obtain ⟨u, h1, h2, h3, h4⟩ := hv
     exact ⟨u, _, _, h1, h2, h3, h4, .inl ⟨rfl, rfl⟩⟩
   | false =>
     rw [rdF_good (getF_one _ _) (by decide) (by rw [Fr_at, ht]), Fr_good pre j ht] at hv
     obtain ⟨u, h1, h2, h3, h4⟩ := hv
     exact ⟨u, _, _, h1, h2, h3, h4, .inr ⟨rfl, rfl, rfl⟩⟩
  subst hu11
  obtain ⟨a11, c11, rfl, hS11, _⟩ := hN11
  have hB11 := hk11.blk hB10 (by decide)
  have hkw11 := hk11.keep hk10 (by have := hK0.size; omega)
  have hht := hasK_told pre (j + 1) (by omega)
  refine m_any rfl rfl ?_
  refine o_extr rfl rfl ?_
  refine o_extr rfl rfl ?_
  refine m_sl rfl rfl ?_
  refine m_int rfl rfl ?_
  refine o_nil ?_
  refine k_seq ?_
  refine k_region ?_
  refine m_int rfl rfl ?_
  refine o_ixa1 (m := j + 1) Try.underlying35 rfl rfl rfl (by omega) ?_
  refine o_ld rfl rfl (hB11.at (by rw [Nat.zero_add]; exact arrB_at _ 300 (j + 1) (by omega))) ?_
  refine m_int rfl rfl ?_
  refine b_eql rfl rfl ?_
  refine b_neqb Try.underlying4 rfl rfl ?_
  refine m_bool rfl rfl ?_
  refine o_false (t := 55) rfl ((by rw [hht]; rcases hyx with ⟨h1, h2⟩ | ⟨h1, h2, _⟩ <;> rw [h2] <;> simp [h1])) ?_
  refine g_yes rfl rfl ?_
  refine m_int rfl rfl ?_
  refine g_yes rfl rfl ?_
  refine o_ixa1 (m := j + 1) Try.underlying35 rfl rfl rfl (by omega) ?_
  refine g_yes rfl rfl ?_
  refine o_ld rfl rfl (hB11.at (by rw [Nat.zero_add]; exact arrB_at _ 300 (j + 1) (by omega))) ?_
  refine g_yes rfl rfl ?_
  refine u_notb rfl ?_
  refine g_yes rfl rfl ?_
  refine m_bool rfl rfl ?_
  refine o_split (t := 60) (p := hasK pre (j + 1) = false) (by show Value.bool (!hasK pre (j + 1)) = _; cases hasK pre (j + 1) <;> simp) (fun h60 => ?_) (fun h60 => ?_)
  ·
    obtain ⟨_, rfl⟩ : y11 = 0 ∧ xs11 = [7#8] := by
     rcases hyx with ⟨h1, _⟩ | ⟨_, h2, h3⟩
     · rw [hht, show ((j + 1 : Nat) : Int) = (j : Int) + 1 by omega, h1] at h60; cases h60
     · exact ⟨h2, h3⟩
    refine g_yes rfl rfl ?_
    refine m_sl rfl rfl ?_
    refine g_yes rfl rfl ?_
    refine o_lens Try.underlying22 rfl ?_
    refine g_yes rfl rfl ?_
    refine b_neq rfl rfl ?_
    refine g_yes rfl rfl ?_
    refine m_bool rfl rfl ?_
    refine o_false (t := 64) rfl ((by simp)) ?_
    refine g_yes rfl rfl ?_
    refine m_sl rfl rfl ?_
    refine g_yes rfl rfl ?_
    obtain ⟨b12, o12, rfl, hcell⟩ := hS11.rd 0 _ rfl
    refine o_ixs1 (m := 0) Try.underlying22 rfl rfl rfl (by simp) ?_
    refine g_yes rfl rfl ?_
    refine o_ld rfl rfl hcell ?_
    refine g_yes rfl rfl ?_
    refine v8_neq (a := 7#8) (b := 7#8) rfl rfl ?_
    refine g_yes rfl rfl ?_
    refine pick_f rfl rfl ?_
    refine g_yes rfl rfl ?_
    refine pick_t rfl rfl ?_
    refine pick_f rfl rfl ?_
    refine o_nil ?_
    refine k_no rfl ((by simp)) ?_
    refine k_skip ?_
    refine k_blk ?_
    refine k_region ?_
    refine m_int rfl rfl ?_
    refine n_add rfl rfl (by omega) ?_
    refine m_int rfl rfl ?_
    refine o_nil ?_
    refine k_goal ⟨j + 1, ⟨rfl, rfl, rfl, congrArg (Value.int .i64) (by omega), trivial⟩, ⟨by omega, ⟨_, hF11⟩, hB11, hkw11⟩, by omega⟩
  ·
    refine g_no rfl rfl rfl ?_
    refine g_no rfl rfl rfl ?_
    refine g_no rfl rfl rfl ?_
    refine g_no rfl rfl rfl ?_
    refine g_un rfl rfl ?_
    refine g_un rfl rfl ?_
    refine g_un rfl rfl ?_
    refine g_un rfl rfl ?_
    refine g_no rfl rfl rfl ?_
    refine g_yes rfl rfl ?_
    refine pick_f rfl rfl ?_
    refine pick_f rfl rfl ?_
    refine o_nil ?_
    refine k_condf rfl ?_
    refine k_skip ?_
    refine k_blk ?_
    refine k_region ?_
    refine m_int rfl rfl ?_
    refine n_add rfl rfl (by omega) ?_
    refine m_int rfl rfl ?_
    refine o_nil ?_
    refine k_goal ⟨j + 1, ⟨rfl, rfl, rfl, congrArg (Value.int .i64) (by omega), trivial⟩, ⟨by omega, ⟨_, hF11⟩, hB11, hkw11⟩, by omega⟩
end Go.Proofs.Ytbfphjhahgpndaa
