/- Fail, Reads, Size, Name; files that are nil; the calls that the document fixes. No condition beyond what each contract names. -/
import Derived.Test.YtbfphjhahgpndaaFb
namespace Go.Proofs.Ytbfphjhahgpndaa
open Go.RowKit E
set_option linter.unusedVariables false
set_option linter.unusedSimpArgs false
set_option maxRecDepth 100000
attribute [local irreducible] ow qw kw kq cw opW Ret
def flE (x : Int) : Int := if x < 1 ∨ 65536 < x then 1 else 0
def flF (n : Nat) (F : Int → Bool) (x : Int) : Int → Bool := if x < 1 ∨ 65536 < x then F else fun i => if i = (n : Int) + x then true else F i
theorem fail_ok (k lo hi : Nat) (w : World) (r : Nat) (fs : FS) (n : Nat) (F : Int → Bool) (x : Int) (h : Fi k lo hi w r fs n F) (hn : n < 4611686018427387904) :
    Ret Try.prog 13 [.pointer (some ⟨r, 0, none⟩), .int .i64 x] w (fun v w' => v = .int .i64 (flE x) ∧ Fi k lo w'.heap.size w' r fs n (flF n F x) ∧ KB k w w') := by
  have hFi := h.mono
  clear h
  have hFi' := hFi
  obtain ⟨rr, rf, m, fm, hP⟩ := hFi
  have bad : (x < 1 ∨ 65536 < x) → (Value.int .i64 1 = .int .i64 (flE x) ∧ Fi k lo w.heap.size w r fs n (flF n F x) ∧ KB k w w) := by
    intro hx
    unfold flE flF
    rw [if_pos hx, if_pos hx]
    exact ⟨rfl, hFi', (Keep.refl [] w).kb⟩
  refine fn_enter (n := 25) Try.func13 rfl rfl (Nat.le_of_ble_eq_true rfl) (fun e => ?_)
  refine k_seq ?_
  refine k_region ?_
  refine m_int rfl rfl ?_
  refine o_nil ?_
  refine k_seq ?_
  refine k_seq ?_
  refine k_region ?_
  refine m_ptr rfl rfl ?_
  refine b_eqlp Try.underlying25 rfl rfl ?_
  refine m_bool rfl rfl ?_
  refine o_false (t := 7) rfl ((by simp)) ?_
  refine g_yes rfl rfl ?_
  refine m_int rfl rfl ?_
  refine g_yes rfl rfl ?_
  refine b_lss rfl rfl ?_
  refine pick_f rfl rfl ?_
  refine m_bool rfl rfl ?_
  refine o_split (t := 11) rfl (fun h => ?_) (fun h => ?_)
  ·
    refine g_no rfl rfl rfl ?_
    refine g_no rfl rfl rfl ?_
    refine pick_t rfl rfl ?_
    refine o_nil ?_
    refine k_condt rfl ?_
    refine k_seq ?_
    refine k_region ?_
    refine m_int rfl rfl ?_
    refine o_nil ?_
    refine k_ret (ret_tmps (ts := [4]) (v := .int _ _) rfl rfl ?_)
    exact bad (.inl h)
  ·
    have h11 := h
    refine g_yes rfl rfl ?_
    refine m_int rfl rfl ?_
    refine g_yes rfl rfl ?_
    refine b_gtr rfl rfl ?_
    refine pick_f rfl rfl ?_
    refine o_nil ?_
    refine k_cond rfl (fun h => ?_) (fun h => ?_)
    ·
      refine k_seq ?_
      refine k_region ?_
      refine m_int rfl rfl ?_
      refine o_nil ?_
      refine k_ret (ret_tmps (ts := [4]) (v := .int _ _) rfl rfl ?_)
      exact bad (.inr h)
    have hx : ¬ (x < 1 ∨ 65536 < x) := by omega
    refine k_skip ?_
    refine k_seq ?_
    refine k_qk 10 rfl rfl rfl rfl rfl ?_
    refine q_step (fun w1 hC => m_ptr rfl rfl (o_nil ⟨rfl, hC⟩)) ?_
    refine q_step (fun w1 hC => o_nilc rfl (o_nil ⟨rfl, hC⟩)) ?_
    refine q_step (fun w1 hC => o_fld (off := 2) rfl rfl (o_nil ⟨rfl, hC⟩)) ?_
    refine q_step (fun w1 hC => o_ld rfl rfl (hP.blk.kat hC rfl) (o_nil ⟨rfl, hC⟩)) ?_
    refine q_step (fun w1 hC => m_ptr rfl rfl (o_nil ⟨rfl, hC⟩)) ?_
    refine q_step (fun w1 hC => o_nilc rfl (o_nil ⟨rfl, hC⟩)) ?_
    refine q_step (fun w1 hC => o_fld (off := 1) rfl rfl (o_nil ⟨rfl, hC⟩)) ?_
    refine q_step (fun w1 hC => o_ld rfl rfl (hP.blk.kat hC rfl) (o_nil ⟨rfl, hC⟩)) ?_
    refine q_step (fun w1 hC => m_int rfl rfl (o_nil ⟨rfl, hC⟩)) ?_
    refine q_step (fun w1 hC => n_add rfl rfl (by omega) (o_nil ⟨rfl, hC⟩)) ?_
    refine q_nil ?_
    intro w2 hC2
    refine o_mput (kv := Value.int .i64) (q := (n : Int) + x) Try.underlying56 (key_int Try.underlying3) rfl rfl rfl (hP.fails.keep hC2 (by simp)) (.inl rfl) (fun w3 hM3 hK3 hZ3 => ?_)
    refine o_nil ?_
    refine k_seq ?_
    refine k_region ?_
    refine m_int rfl rfl ?_
    refine o_nil ?_
    refine k_ret (ret_tmps (ts := [4]) (v := .int _ _) rfl rfl ?_)
    have hnb := E.Mp.nblk (hP.fails.keep hC2 (by simp))
    have hrf := hP.fails.blk hP.blk
    unfold flE flF
    rw [if_neg hx, if_neg hx]
    refine ⟨rfl, ⟨rr, rf, m, _, (hP.blk.keep hC2 (by simp)).keep hK3 (by simpa using hrf), (hP.rows.keep hC2 (by simp)).keep hK3 (by simpa using hP.ne), hM3, ((hP.ok.keep hC2 (by simp)).keep hK3 (by intro b hb; simp at hb; subst hb; exact .inr (.inr (fun cs => hnb cs 5)))).mono (by have := hC2.size; omega), ?_, nodup_put hP.nodup, hP.ne, hP.low, ?_, Nat.le_refl _⟩, [rf], hC2.also.trans hK3 (fun _ h _ => h), ?_⟩
    · intro i
      rw [getM_put, hP.get]
      by_cases hi : i = (n : Int) + x
      · rw [if_pos hi, if_pos hi]; rfl
      · rw [if_neg hi, if_neg hi]
    · have := hP.high
      have := hC2.size
      omega
    · intro b hb
      simp at hb
      subst hb
      exact ⟨hP.low.2.2, fun cs T hB => absurd hB (E.Mp.nblk hP.fails cs T)⟩
theorem freads_ok (k lo hi : Nat) (w : World) (r : Nat) (fs : FS) (n : Nat) (F : Int → Bool) (h : Fi k lo hi w r fs n F) :
    Ret Try.prog 14 [.pointer (some ⟨r, 0, none⟩)] w (fun v w' => v = .int .i64 (n : Int) ∧ w' = w) := by
  obtain ⟨rr, rf, m, fm, hP⟩ := h
  refine fn_enter (n := 9) Try.func14 rfl rfl (Nat.le_of_ble_eq_true rfl) (fun e => ?_)
  refine k_seq ?_
  refine k_region ?_
  refine m_int rfl rfl ?_
  refine o_nil ?_
  refine k_seq ?_
  refine k_seq ?_
  refine k_region ?_
  refine m_ptr rfl rfl ?_
  refine b_eqlp Try.underlying25 rfl rfl ?_
  refine o_nil ?_
  refine k_no rfl ((by simp)) ?_
  refine k_skip ?_
  refine k_seq ?_
  refine k_region ?_
  refine m_ptr rfl rfl ?_
  refine o_nilc rfl ?_
  refine o_fld (off := 1) rfl rfl ?_
  refine o_ld rfl rfl (hP.blk.at rfl) ?_
  refine m_int rfl rfl ?_
  refine o_nil ?_
  refine k_ret (ret_tmps (ts := [2]) (v := .int _ _) rfl rfl ?_)
  exact ⟨rfl, rfl⟩
/-- what Size answers -/
def szF (fs : FS) (s : ByteArray) : Int × Int := match getF fs s with
  | none => (0, 21)
  | some b => ((b.length : Int), 0)
theorem fsize_ok (k lo hi : Nat) (w : World) (r : Nat) (fs : FS) (n : Nat) (F : Int → Bool) (s : ByteArray) (h : Fi k lo hi w r fs n F) :
    Ret Try.prog 18 [.pointer (some ⟨r, 0, none⟩), .string s] w (fun v w' => v = .tuple #[.int .i64 (szF fs s).1, .int .i64 (szF fs s).2] ∧ w' = w) := by
  obtain ⟨rr, rf, m, fm, hP⟩ := h
  have hget := hP.ok.get s
  refine fn_enter (n := 23) Try.func18 rfl rfl (Nat.le_of_ble_eq_true rfl) (fun e => ?_)
  refine k_seq ?_
  refine k_region ?_
  refine m_int rfl rfl ?_
  refine m_int rfl rfl ?_
  refine o_nil ?_
  refine k_seq ?_
  refine k_seq ?_
  refine k_region ?_
  refine m_ptr rfl rfl ?_
  refine b_eqlp Try.underlying25 rfl rfl ?_
  refine o_nil ?_
  refine k_no rfl ((by simp)) ?_
  refine k_skip ?_
  refine k_seq ?_
  refine k_region ?_
  refine m_ptr rfl rfl ?_
  refine o_nilc rfl ?_
  refine o_fld0 rfl rfl ?_
  refine o_ld rfl rfl (hP.blk.at rfl) ?_
  refine m_str rfl rfl ?_
  refine o_lookok (kv := Value.string) (q := s) Try.underlying55 (key_str Try.underlying9) inf22 rfl rfl hP.rows (v := (getM m s).getD (.slice none 0 0)) (b := (getM m s).isSome) rfl rfl ?_
  refine m_any rfl rfl ?_
  refine o_extr (vs := [(getM m s).getD (.slice none 0 0), .bool (getM m s).isSome]) rfl rfl ?_
  refine o_extr (vs := [(getM m s).getD (.slice none 0 0), .bool (getM m s).isSome]) rfl rfl ?_
  refine m_any rfl rfl ?_
  refine m_bool rfl rfl ?_
  refine o_nil ?_
  refine k_seq ?_
  refine k_seq ?_
  refine k_region ?_
  refine m_bool rfl rfl ?_
  refine u_notb rfl ?_
  refine o_nil ?_
  refine k_cond (p := getF fs s = none) (by rcases hget with ⟨h1, h2⟩ | ⟨bs', a', c', h1, h2, _⟩ <;> rw [h1] <;> show Value.bool (!(getM m s).isSome) = _ <;> rw [h2] <;> simp) (fun h => ?_) (fun h => ?_)
  ·
    refine k_seq ?_
    refine k_region ?_
    refine m_int rfl rfl ?_
    refine m_int rfl rfl ?_
    refine o_nil ?_
    refine k_ret (ret_tmps (ts := [4, 5]) (v := .tuple #[.int _ _, .int _ _]) rfl rfl ?_)
    exact ⟨by unfold szF; rw [h], rfl⟩
  obtain ⟨bs, a, c, hg1, hg2, hS⟩ : ∃ bs a c, getF fs s = some bs ∧ getM m s = some (.slice a bs.length c) ∧ Sl w 5 1 a bs.length c (bs.map u8v) ∧ bs.length ≤ 65536 := by
   rcases hget with ⟨h1, _⟩ | h1
   · exact absurd h1 h
   · exact h1
  rw [hg2]
  refine k_skip ?_
  refine k_seq ?_
  refine k_region ?_
  refine m_sl rfl rfl ?_
  refine o_lens Try.underlying22 rfl ?_
  refine m_int rfl rfl ?_
  refine m_int rfl rfl ?_
  refine o_nil ?_
  refine k_ret (ret_tmps (ts := [4, 5]) (v := .tuple #[.int _ _, .int _ _]) rfl rfl ?_)
  exact ⟨by unfold szF; rw [hg1], rfl⟩
theorem bit0 (s : ByteArray) (i : Nat) (h : i < s.size) : s[i].toBitVec = 0#8 ↔ s.data.toList[i]'(by simpa using h) = 0 := by
  have e : s.data.toList[i]'(by simpa using h) = s[i] := by simp; rfl
  rw [e]
  constructor
  · intro hh; exact UInt8.toBitVec_inj.1 hh
  · intro hh; rw [hh]; rfl
theorem rname_ok (w : World) (s : ByteArray) (hs : s.size ≤ 9223372036854775807) : Ret Try.prog 10 [.string s] w (fun v w' => v = .bool (decide (nameOk s)) ∧ w' = w) := by
  refine fn_enter (n := 22) Try.func10 rfl rfl (Nat.le_of_ble_eq_true rfl) (fun e => ?_)
  refine k_seq ?_
  refine k_region ?_
  refine m_bool rfl rfl ?_
  refine o_nil ?_
  refine k_seq ?_
  refine k_seq ?_
  refine k_region ?_
  refine m_int rfl rfl ?_
  refine o_nil ?_
  refine k_block ?_
  refine k_loop (σ := Nat) (fun i => [(0, .string s), (3, .int .i64 (i : Int))]) (fun i w' => i ≤ s.size ∧ (∀ j (hj : j < s.data.toList.length), j < i → s.data.toList[j] ≠ 0) ∧ w' = w) (fun i => s.size - i) 0 ⟨rfl, rfl, trivial⟩ ⟨by omega, fun j _ h => by omega, rfl⟩ (fun i e w2 hJ => ?_)
  obtain ⟨hi, hno, rfl⟩ := hJ
  refine k_seq ?_
  refine k_seq ?_
  refine k_region ?_
  refine m_int rfl rfl ?_
  refine m_str rfl rfl ?_
  refine o_lenstr Try.underlying9 rfl ?_
  refine b_lss rfl rfl ?_
  refine o_nil ?_
  refine k_cond rfl (fun h => ?_) (fun h => ?_)
  rotate_left
  ·
    obtain rfl : i = s.size := by omega
    have h0 : (0 : UInt8) ∉ s.data.toList := by
     intro hm
     obtain ⟨j, hj, hz⟩ := List.getElem_of_mem hm
     exact hno j hj (by simpa using hj) hz
    refine k_exit rfl ?_
    refine k_seq ?_
    refine k_region ?_
    refine m_str rfl rfl ?_
    refine o_lenstr Try.underlying9 rfl ?_
    refine b_geq rfl rfl ?_
    refine m_bool rfl rfl ?_
    refine o_split (t := 17) rfl (fun h => ?_) (fun h => ?_)
    ·
      have h17 := h
      refine g_yes rfl rfl ?_
      refine m_str rfl rfl ?_
      refine g_yes rfl rfl ?_
      refine o_lenstr Try.underlying9 rfl ?_
      refine g_yes rfl rfl ?_
      refine b_leq rfl rfl ?_
      refine pick_t rfl rfl ?_
      refine m_bool rfl rfl ?_
      refine o_nil ?_
      refine k_ret (ret_tmps (ts := [2]) (v := .bool _) rfl rfl ?_)
      exact ⟨congrArg Value.bool (decide_eq_decide.2 ⟨fun hh => ⟨by omega, by omega, h0⟩, fun hh => by have := hh.2.1; omega⟩), rfl⟩
    ·
      have h17 := h
      refine g_no rfl rfl rfl ?_
      refine g_no rfl rfl rfl ?_
      refine g_no rfl rfl rfl ?_
      refine pick_f rfl rfl ?_
      refine m_bool rfl rfl ?_
      refine o_nil ?_
      refine k_ret (ret_tmps (ts := [2]) (v := .bool _) rfl rfl ?_)
      exact ⟨congrArg Value.bool (decide_eq_false (fun hh => hh.1 (by omega))).symm, rfl⟩
  have hil : i < s.size := by omega
  refine k_skip ?_
  refine k_seq ?_
  refine k_block ?_
  refine k_seq ?_
  refine k_region ?_
  refine m_str rfl rfl ?_
  refine m_int rfl rfl ?_
  refine o_ixstr Try.underlying9 rfl rfl hil ?_
  refine v8_eql (b := 0#8) rfl rfl ?_
  refine o_nil ?_
  refine k_cond rfl (fun h => ?_) (fun h => ?_)
  ·
    refine k_seq ?_
    refine k_region ?_
    refine m_bool rfl rfl ?_
    refine o_nil ?_
    refine k_ret (ret_tmps (ts := [2]) (v := .bool _) rfl rfl ?_)
    exact ⟨congrArg Value.bool (decide_eq_false (fun hh => hh.2.2 (by rw [← (bit0 s i hil).1 h]; exact List.getElem_mem _))).symm, rfl⟩
  refine k_skip ?_
  refine k_blk ?_
  refine k_region ?_
  refine m_int rfl rfl ?_
  refine n_add rfl rfl (by omega) ?_
  refine m_int rfl rfl ?_
  refine o_nil ?_
  refine k_goal ⟨i + 1, ⟨rfl, rfl, trivial⟩, ⟨by omega, ?_, rfl⟩, by omega⟩
  intro j hj hji
  by_cases hjj : j < i
  · exact hno j hj hjj
  · obtain rfl : j = i := by omega
    exact fun hz => h ((bit0 s j hil).2 hz)
theorem nput (w : World) (s : ByteArray) (a : Option Addr) (l c : Nat) : Ret Try.prog 9 [.pointer none, .string s, .slice a l c] w (fun v w' => v = .int .i64 1 ∧ w' = w) := by
  refine fn_enter (n := 53) Try.func9 rfl rfl (Nat.le_of_ble_eq_true rfl) (fun e => ?_)
  refine k_seq ?_
  refine k_region ?_
  refine m_int rfl rfl ?_
  refine o_nil ?_
  refine k_seq ?_
  refine k_seq ?_
  refine k_region ?_
  refine m_ptr rfl rfl ?_
  refine b_eqlp Try.underlying25 rfl rfl ?_
  refine o_nil ?_
  refine k_yes rfl (rfl) ?_
  refine k_seq ?_
  refine k_region ?_
  refine m_int rfl rfl ?_
  refine o_nil ?_
  refine k_ret (ret_tmps (ts := [6]) (v := .int _ _) rfl rfl ?_)
  exact ⟨rfl, rfl⟩
theorem nread (w : World) (s : ByteArray) (p q : Int) : Ret Try.prog 11 [.pointer none, .string s, .int .i64 p, .int .i64 q] w (fun v w' => v = .tuple #[.slice none 0 0, .int .i64 21] ∧ w' = w) := by
  refine fn_enter (n := 75) Try.func11 rfl rfl (Nat.le_of_ble_eq_true rfl) (fun e => ?_)
  refine k_seq ?_
  refine k_region ?_
  refine m_sl rfl rfl ?_
  refine m_int rfl rfl ?_
  refine o_nil ?_
  refine k_seq ?_
  refine k_seq ?_
  refine k_region ?_
  refine m_ptr rfl rfl ?_
  refine b_eqlp Try.underlying25 rfl rfl ?_
  refine o_nil ?_
  refine k_yes rfl (rfl) ?_
  refine k_seq ?_
  refine k_region ?_
  refine m_sl rfl rfl ?_
  refine m_int rfl rfl ?_
  refine o_nil ?_
  refine k_ret (ret_tmps (ts := [8, 9]) (v := .tuple #[.slice _ _ _, .int _ _]) rfl rfl ?_)
  exact ⟨rfl, rfl⟩
theorem nsize (w : World) (s : ByteArray) : Ret Try.prog 18 [.pointer none, .string s] w (fun v w' => v = .tuple #[.int .i64 0, .int .i64 21] ∧ w' = w) := by
  refine fn_enter (n := 23) Try.func18 rfl rfl (Nat.le_of_ble_eq_true rfl) (fun e => ?_)
  refine k_seq ?_
  refine k_region ?_
  refine m_int rfl rfl ?_
  refine m_int rfl rfl ?_
  refine o_nil ?_
  refine k_seq ?_
  refine k_seq ?_
  refine k_region ?_
  refine m_ptr rfl rfl ?_
  refine b_eqlp Try.underlying25 rfl rfl ?_
  refine o_nil ?_
  refine k_yes rfl (rfl) ?_
  refine k_seq ?_
  refine k_region ?_
  refine m_int rfl rfl ?_
  refine m_int rfl rfl ?_
  refine o_nil ?_
  refine k_ret (ret_tmps (ts := [4, 5]) (v := .tuple #[.int _ _, .int _ _]) rfl rfl ?_)
  exact ⟨rfl, rfl⟩
theorem nfail (w : World) (x : Int) : Ret Try.prog 13 [.pointer none, .int .i64 x] w (fun v w' => v = .int .i64 1 ∧ w' = w) := by
  refine fn_enter (n := 25) Try.func13 rfl rfl (Nat.le_of_ble_eq_true rfl) (fun e => ?_)
  refine k_seq ?_
  refine k_region ?_
  refine m_int rfl rfl ?_
  refine o_nil ?_
  refine k_seq ?_
  refine k_seq ?_
  refine k_region ?_
  refine m_ptr rfl rfl ?_
  refine b_eqlp Try.underlying25 rfl rfl ?_
  refine m_bool rfl rfl ?_
  refine o_true (t := 7) rfl (rfl) ?_
  refine g_no rfl rfl rfl ?_
  refine g_no rfl rfl rfl ?_
  refine pick_t rfl rfl ?_
  refine m_bool rfl rfl ?_
  refine g_no rfl rfl rfl ?_
  refine g_no rfl rfl rfl ?_
  refine pick_t rfl rfl ?_
  refine o_nil ?_
  refine k_condt rfl ?_
  refine k_seq ?_
  refine k_region ?_
  refine m_int rfl rfl ?_
  refine o_nil ?_
  refine k_ret (ret_tmps (ts := [4]) (v := .int _ _) rfl rfl ?_)
  exact ⟨rfl, rfl⟩
theorem nreads (w : World) : Ret Try.prog 14 [.pointer none] w (fun v w' => v = .int .i64 0 ∧ w' = w) := by
  refine fn_enter (n := 9) Try.func14 rfl rfl (Nat.le_of_ble_eq_true rfl) (fun e => ?_)
  refine k_seq ?_
  refine k_region ?_
  refine m_int rfl rfl ?_
  refine o_nil ?_
  refine k_seq ?_
  refine k_seq ?_
  refine k_region ?_
  refine m_ptr rfl rfl ?_
  refine b_eqlp Try.underlying25 rfl rfl ?_
  refine o_nil ?_
  refine k_yes rfl (rfl) ?_
  refine k_seq ?_
  refine k_region ?_
  refine m_int rfl rfl ?_
  refine o_nil ?_
  refine k_ret (ret_tmps (ts := [2]) (v := .int _ _) rfl rfl ?_)
  exact ⟨rfl, rfl⟩
theorem nnames (w : World) : Ret Try.prog 20 [.pointer none] w (fun v w' => v = .slice none 0 0 ∧ w' = w) := by
  refine fn_enter (n := 11) Try.func20 rfl rfl (Nat.le_of_ble_eq_true rfl) (fun e => ?_)
  refine k_seq ?_
  refine k_region ?_
  refine m_sl rfl rfl ?_
  refine o_nil ?_
  refine k_seq ?_
  refine k_seq ?_
  refine k_region ?_
  refine m_ptr rfl rfl ?_
  refine b_eqlp Try.underlying25 rfl rfl ?_
  refine o_nil ?_
  refine k_yes rfl (rfl) ?_
  refine k_seq ?_
  refine k_region ?_
  refine m_sl rfl rfl ?_
  refine o_nil ?_
  refine k_ret (ret_tmps (ts := [2]) (v := .slice _ _ _) rfl rfl ?_)
  exact ⟨rfl, rfl⟩
theorem blk_bs {w : World} {g : Nat} {cs : Array Value} {T : TypeId} {bs : List (BitVec 8)} (h : Blk w g cs T) (e : cs.toList = bs.map u8v) : Rd w (some ⟨g, 0, none⟩) (bs.map u8v) := e ▸ h.rd
end Go.Proofs.Ytbfphjhahgpndaa
