/- The calls on files that the document fixes; the laws FilesNil and FilesFails. No condition beyond what each contract names. -/
import Derived.Test.YtbfphjhahgpndaaFc
namespace Go.Proofs.Ytbfphjhahgpndaa
open Go.RowKit E
set_option linter.unusedVariables false
set_option linter.unusedSimpArgs false
set_option maxRecDepth 100000
attribute [local irreducible] ow qw kw kq cw opW Ret
theorem rdF_good {fs : FS} {n : Nat} {F : Int → Bool} {s : ByteArray} {b : List (BitVec 8)} {p q : Nat} (hg : getF fs s = some b) (h : p + q ≤ b.length) (hF : F ((n : Int) + 1) = false) : rdF fs n F s (p : Int) (q : Int) = ((b.drop p).take q, 0, n + 1, F) := by
  unfold rdF
  rw [if_neg (by omega), hg]
  simp only
  rw [if_neg (by omega), hF]
  rfl
theorem rdF_fail {fs : FS} {n : Nat} {F : Int → Bool} {s : ByteArray} {b : List (BitVec 8)} {p q : Nat} (hg : getF fs s = some b) (h : p + q ≤ b.length) (hF : F ((n : Int) + 1) = true) : rdF fs n F s (p : Int) (q : Int) = ([], 20, n + 1, fun i => if i = (n : Int) + 1 then false else F i) := by
  unfold rdF
  rw [if_neg (by omega), hg]
  simp only
  rw [if_neg (by omega), hF]
  rfl
theorem rdF_short {fs : FS} {n : Nat} {F : Int → Bool} {s : ByteArray} {b : List (BitVec 8)} {p q : Nat} (hg : getF fs s = some b) (h : b.length < p + q) : rdF fs n F s (p : Int) (q : Int) = ([], 2, n, F) := by
  unfold rdF
  rw [if_neg (by omega), hg]
  simp only
  rw [if_pos (by omega)]
def sA : ByteArray := ⟨#[97]⟩
theorem getF_one (s : ByteArray) (b : List (BitVec 8)) : getF [(s, b)] s = some b := by simp [getF]
theorem fixed_ok (w : World) : Ret Try.prog 7 [] w (fun v w' => v = .bool true ∧ Keep [] w w') := by
  refine fn_enter (n := 84) Try.func7 rfl rfl (Nat.le_of_ble_eq_true rfl) (fun e => ?_)
  refine k_seq ?_
  refine k_region ?_
  refine m_bool rfl rfl ?_
  refine o_nil ?_
  refine k_seq ?_
  refine k_region ?_
  refine o_call rfl rfl (fnew_ok w) (fun v w1 hv => ?_)
  obtain ⟨r, rfl, hF1, hK1⟩ := hv
  refine m_ptr rfl rfl ?_
  refine o_nil ?_
  refine k_seq ?_
  refine k_region ?_
  refine m_ptr rfl rfl ?_
  refine o_bsl (E := 5) (cs := #[.int .u8 1, .int .u8 2, .int .u8 3]) rfl (fun _ => by kernel_rfl) (fun g w2 hB2 hK2 hb2 hZ2 => ?_)
  have hF2 := (hF1 0).new hK2
  refine o_call rfl rfl (put_ok w.heap.size 0 _ w2 r [] 0 _ sA _ 3 [1#8, 2#8, 3#8] hF2 (blk_bs hB2 rfl) (Nat.zero_le _)) (fun v w3 hv => ?_)
  obtain ⟨rfl, hF3, hk3⟩ := hv
  rw [show putE [] sA [1#8, 2#8, 3#8].length = 0 by decide] at hF3 ⊢
  rw [if_pos rfl, show putF [] sA [1#8, 2#8, 3#8] = [(sA, [1#8, 2#8, 3#8])] from rfl] at hF3
  refine m_int rfl rfl ?_
  refine o_nil ?_
  refine k_seq ?_
  refine k_region ?_
  refine m_ptr rfl rfl ?_
  refine o_call rfl rfl (read_ok w.heap.size 0 _ w3 r _ 0 _ sA ((1 : Nat) : Int) ((2 : Nat) : Int) hF3 (by omega)) (fun v w4 hv => ?_)
  unfold RdR at hv
  rw [rdF_good (getF_one _ _) (by decide) rfl] at hv
  obtain ⟨u, rfl, ⟨a4, c4, rfl, hS4, _⟩, hF4, hk4⟩ := hv
  refine m_any rfl rfl ?_
  refine o_extr rfl rfl ?_
  refine o_extr rfl rfl ?_
  refine m_sl rfl rfl ?_
  refine m_int rfl rfl ?_
  refine o_nil ?_
  refine k_seq ?_
  refine k_region ?_
  refine m_ptr rfl rfl ?_
  refine o_call rfl rfl (read_ok w.heap.size 0 _ w4 r _ _ _ sA ((2 : Nat) : Int) ((2 : Nat) : Int) hF4 (by decide)) (fun v w5 hv => ?_)
  unfold RdR at hv
  rw [rdF_short (getF_one _ _) (by decide)] at hv
  obtain ⟨u, rfl, ⟨a5, c5, rfl, _, _⟩, hF5, hk5⟩ := hv
  refine m_any rfl rfl ?_
  refine o_extr rfl rfl ?_
  refine o_extr rfl rfl ?_
  refine m_sl rfl rfl ?_
  refine m_int rfl rfl ?_
  refine o_nil ?_
  refine k_seq ?_
  refine k_region ?_
  refine m_ptr rfl rfl ?_
  refine o_call rfl rfl (freads_ok _ _ _ w5 r _ _ _ hF5) (fun v w6 hv => ?_)
  obtain ⟨rfl, rfl⟩ := hv
  refine m_int rfl rfl ?_
  refine o_nil ?_
  refine k_seq ?_
  refine k_region ?_
  refine m_ptr rfl rfl ?_
  refine o_call rfl rfl (fail_ok w.heap.size 0 _ w6 r _ _ _ 2 hF5 (by decide)) (fun v w7 hv => ?_)
  obtain ⟨rfl, hF7, hk7⟩ := hv
  refine o_nil ?_
  refine k_seq ?_
  refine k_region ?_
  refine m_ptr rfl rfl ?_
  refine o_call rfl rfl (read_ok w.heap.size 0 _ w7 r _ _ _ sA ((0 : Nat) : Int) ((0 : Nat) : Int) hF7 (by decide)) (fun v w8 hv => ?_)
  unfold RdR at hv
  rw [rdF_good (getF_one _ _) (by decide) (by decide)] at hv
  obtain ⟨u, rfl, ⟨a8, c8, rfl, _, _⟩, hF8, hk8⟩ := hv
  refine m_any rfl rfl ?_
  refine o_extr rfl rfl ?_
  refine o_extr rfl rfl ?_
  refine m_sl rfl rfl ?_
  refine m_int rfl rfl ?_
  refine o_nil ?_
  refine k_seq ?_
  refine k_region ?_
  refine m_ptr rfl rfl ?_
  refine o_call rfl rfl (read_ok w.heap.size 0 _ w8 r _ _ _ sA ((0 : Nat) : Int) ((0 : Nat) : Int) hF8 (by decide)) (fun v w9 hv => ?_)
  unfold RdR at hv
  rw [rdF_fail (getF_one _ _) (by decide) (by decide)] at hv
  obtain ⟨u, rfl, ⟨a9, c9, rfl, _, _⟩, hF9, hk9⟩ := hv
  refine m_any rfl rfl ?_
  refine o_extr rfl rfl ?_
  refine o_extr rfl rfl ?_
  refine m_sl rfl rfl ?_
  refine m_int rfl rfl ?_
  refine o_nil ?_
  refine k_seq ?_
  refine k_region ?_
  refine m_ptr rfl rfl ?_
  refine o_call rfl rfl (read_ok w.heap.size 0 _ w9 r _ _ _ sA ((0 : Nat) : Int) ((0 : Nat) : Int) hF9 (by decide)) (fun v w10 hv => ?_)
  unfold RdR at hv
  rw [rdF_good (getF_one _ _) (by decide) (by decide)] at hv
  obtain ⟨u, rfl, ⟨a10, c10, rfl, _, _⟩, hF10, hk10⟩ := hv
  have hS10 := hk10.sl (hk9.sl (hk8.sl (hk7.sl (hk5.sl hS4 (by decide)) (by decide)) (by decide)) (by decide)) (by decide)
  have hkA : KB w.heap.size w2 w10 := (((((hk3.tr hk4).tr hk5).tr hk7).tr hk8).tr hk9).tr hk10
  obtain ⟨b10, o10, rfl, hcell⟩ := hS10.rd 0 _ rfl
  refine m_any rfl rfl ?_
  refine o_extr rfl rfl ?_
  refine o_extr rfl rfl ?_
  refine m_sl rfl rfl ?_
  refine m_int rfl rfl ?_
  refine o_nil ?_
  refine k_seq ?_
  refine k_region ?_
  refine m_int rfl rfl ?_
  refine b_eql rfl rfl ?_
  refine m_bool rfl rfl ?_
  refine o_true (t := 49) rfl (rfl) ?_
  refine g_yes rfl rfl ?_
  refine m_int rfl rfl ?_
  refine g_yes rfl rfl ?_
  refine b_eql rfl rfl ?_
  refine pick_t rfl rfl ?_
  refine m_bool rfl rfl ?_
  refine o_true (t := 53) rfl (rfl) ?_
  refine g_yes rfl rfl ?_
  refine m_sl rfl rfl ?_
  refine g_yes rfl rfl ?_
  refine o_lens Try.underlying22 rfl ?_
  refine g_yes rfl rfl ?_
  refine b_eql rfl rfl ?_
  refine pick_t rfl rfl ?_
  refine m_bool rfl rfl ?_
  refine o_true (t := 58) rfl (rfl) ?_
  refine g_yes rfl rfl ?_
  refine m_sl rfl rfl ?_
  refine g_yes rfl rfl ?_
  refine o_ixs1 (m := 0) Try.underlying22 rfl rfl rfl (by decide) ?_
  refine g_yes rfl rfl ?_
  refine o_ld rfl rfl hcell ?_
  refine g_yes rfl rfl ?_
  refine v8_eql (a := 2#8) (b := 2#8) rfl rfl ?_
  refine pick_t rfl rfl ?_
  refine m_bool rfl rfl ?_
  refine o_true (t := 64) rfl (rfl) ?_
  refine g_yes rfl rfl ?_
  refine m_int rfl rfl ?_
  refine g_yes rfl rfl ?_
  refine b_eql rfl rfl ?_
  refine pick_t rfl rfl ?_
  refine m_bool rfl rfl ?_
  refine o_true (t := 68) rfl (rfl) ?_
  refine g_yes rfl rfl ?_
  refine m_int rfl rfl ?_
  refine g_yes rfl rfl ?_
  refine b_eql rfl rfl ?_
  refine pick_t rfl rfl ?_
  refine m_bool rfl rfl ?_
  refine o_true (t := 72) rfl (rfl) ?_
  refine g_yes rfl rfl ?_
  refine m_int rfl rfl ?_
  refine g_yes rfl rfl ?_
  refine b_eql rfl rfl ?_
  refine pick_t rfl rfl ?_
  refine m_bool rfl rfl ?_
  refine o_true (t := 76) rfl (rfl) ?_
  refine g_yes rfl rfl ?_
  refine m_int rfl rfl ?_
  refine g_yes rfl rfl ?_
  refine b_eql rfl rfl ?_
  refine pick_t rfl rfl ?_
  refine m_bool rfl rfl ?_
  refine o_true (t := 80) rfl (rfl) ?_
  refine g_yes rfl rfl ?_
  refine m_int rfl rfl ?_
  refine g_yes rfl rfl ?_
  refine b_eql rfl rfl ?_
  refine pick_t rfl rfl ?_
  refine m_bool rfl rfl ?_
  refine o_nil ?_
  refine k_ret (ret_tmps (ts := [0]) (v := .bool _) rfl rfl ?_)
  exact ⟨rfl, hkA.keep (hK1.tr hK2) (Nat.le_refl _)⟩
theorem fnil_ok (w : World) (s : ByteArray) (p q : Int) : Ret Try.prog 6 [.string s, .int .i64 p, .int .i64 q] w (fun v w' => v = .bool true ∧ Keep [] w w') := by
  refine fn_enter (n := 57) Try.func6 rfl rfl (Nat.le_of_ble_eq_true rfl) (fun e => ?_)
  refine k_seq ?_
  refine k_region ?_
  refine m_bool rfl rfl ?_
  refine o_nil ?_
  refine k_seq ?_
  refine k_seq ?_
  refine k_region ?_
  refine o_call rfl rfl (fixed_ok w) (fun v w1 hv => ?_)
  obtain ⟨rfl, hK1⟩ := hv
  refine u_notb rfl ?_
  refine o_nil ?_
  refine k_condf rfl ?_
  refine k_skip ?_
  refine k_seq ?_
  refine k_region ?_
  refine m_ptr rfl rfl ?_
  refine o_nil ?_
  refine k_seq ?_
  refine k_region ?_
  refine m_ptr rfl rfl ?_
  refine m_str rfl rfl ?_
  refine o_call rfl rfl (nsize w1 s) (fun v w2 hv => ?_)
  obtain ⟨rfl, rfl⟩ := hv
  refine m_any rfl rfl ?_
  refine o_extr rfl rfl ?_
  refine o_extr rfl rfl ?_
  refine m_int rfl rfl ?_
  refine m_int rfl rfl ?_
  refine o_nil ?_
  refine k_seq ?_
  refine k_region ?_
  refine m_ptr rfl rfl ?_
  refine m_str rfl rfl ?_
  refine m_int rfl rfl ?_
  refine m_int rfl rfl ?_
  refine o_call rfl rfl (nread w2 s p q) (fun v w3 hv => ?_)
  obtain ⟨rfl, rfl⟩ := hv
  refine m_any rfl rfl ?_
  refine o_extr rfl rfl ?_
  refine o_extr rfl rfl ?_
  refine m_sl rfl rfl ?_
  refine m_int rfl rfl ?_
  refine o_nil ?_
  refine k_seq ?_
  refine k_region ?_
  refine m_ptr rfl rfl ?_
  refine m_str rfl rfl ?_
  refine o_call rfl rfl (nput w3 s none 0 0) (fun v w4 hv => ?_)
  obtain ⟨rfl, rfl⟩ := hv
  refine b_eql rfl rfl ?_
  refine m_bool rfl rfl ?_
  refine o_true (t := 32) rfl (rfl) ?_
  refine g_yes rfl rfl ?_
  refine m_int rfl rfl ?_
  refine g_yes rfl rfl ?_
  refine b_eql rfl rfl ?_
  refine pick_t rfl rfl ?_
  refine m_bool rfl rfl ?_
  refine o_true (t := 36) rfl (rfl) ?_
  refine g_yes rfl rfl ?_
  refine m_int rfl rfl ?_
  refine g_yes rfl rfl ?_
  refine b_eql rfl rfl ?_
  refine pick_t rfl rfl ?_
  refine m_bool rfl rfl ?_
  refine o_true (t := 40) rfl (rfl) ?_
  refine g_yes rfl rfl ?_
  refine m_ptr rfl rfl ?_
  refine g_yes rfl rfl ?_
  refine m_int rfl rfl ?_
  refine g_yes rfl rfl ?_
  refine o_call rfl rfl (nfail w4 q) (fun v w5 hv => ?_)
  obtain ⟨rfl, rfl⟩ := hv
  refine g_yes rfl rfl ?_
  refine b_eql rfl rfl ?_
  refine pick_t rfl rfl ?_
  refine m_bool rfl rfl ?_
  refine o_true (t := 46) rfl (rfl) ?_
  refine g_yes rfl rfl ?_
  refine m_ptr rfl rfl ?_
  refine g_yes rfl rfl ?_
  refine o_call rfl rfl (nreads w5) (fun v w6 hv => ?_)
  obtain ⟨rfl, rfl⟩ := hv
  refine g_yes rfl rfl ?_
  refine b_eql rfl rfl ?_
  refine pick_t rfl rfl ?_
  refine m_bool rfl rfl ?_
  refine o_true (t := 51) rfl (rfl) ?_
  refine g_yes rfl rfl ?_
  refine m_ptr rfl rfl ?_
  refine g_yes rfl rfl ?_
  refine o_call rfl rfl (nnames w6) (fun v w7 hv => ?_)
  obtain ⟨rfl, rfl⟩ := hv
  refine g_yes rfl rfl ?_
  refine o_lens Try.underlying49 rfl ?_
  refine g_yes rfl rfl ?_
  refine b_eql rfl rfl ?_
  refine pick_t rfl rfl ?_
  refine m_bool rfl rfl ?_
  refine o_nil ?_
  refine k_ret (ret_tmps (ts := [6]) (v := .bool _) rfl rfl ?_)
  exact ⟨rfl, hK1⟩
/-- which reads are told to fail -/
def told : List (BitVec 8) → Int → Bool
  | [], _ => false
  | k :: l, i => decide (i = (k.toNat : Int) ∧ k ≠ 0#8) || told l i
theorem told_app (l : List (BitVec 8)) (k : BitVec 8) (i : Int) : told (l ++ [k]) i = (told l i || decide (i = (k.toNat : Int) ∧ k ≠ 0#8)) := by
  induction l with
  | nil => simp [told]
  | cons a l ih => rw [List.cons_append, told, told, ih, Bool.or_assoc]
def arrB (f : Nat → Bool) (n : Nat) : Array Value := ((List.range n).map fun i => Value.bool (f i)).toArray
theorem arrB_at (f : Nat → Bool) (n i : Nat) (h : i < n) : (arrB f n)[i]? = some (.bool (f i)) := by simp [arrB, h]
theorem arrB_size (f : Nat → Bool) (n : Nat) : (arrB f n).size = n := by simp [arrB]
theorem arrB_set (f : Nat → Bool) (n i : Nat) (x : Bool) (h : i < n) : (arrB f n).setIfInBounds i (.bool x) = arrB (fun j => if j = i then x else f j) n := by
  apply Array.ext
  · simp [arrB]
  · intro j h1 h2
    simp [arrB] at h1
    by_cases hj : j = i
    · subst hj; simp [arrB]
    · rw [Array.getElem_setIfInBounds (by simpa [arrB] using h1), if_neg (fun e => hj e.symm)]
      simp [arrB, hj]
theorem arrB_congr {f g : Nat → Bool} (n : Nat) (h : ∀ i, i < n → f i = g i) : arrB f n = arrB g n := by
  unfold arrB
  congr 1
  apply List.map_congr_left
  intro i hi
  rw [h i (List.mem_range.1 hi)]
theorem z35 : ∃ z, infB Try.prog 35 300 300 z ∧ z.cells = arrB (fun _ => false) 300 := ⟨_, ⟨_, rfl, rfl, rfl, rfl⟩, by kernel_rfl⟩
end Go.Proofs.Ytbfphjhahgpndaa
