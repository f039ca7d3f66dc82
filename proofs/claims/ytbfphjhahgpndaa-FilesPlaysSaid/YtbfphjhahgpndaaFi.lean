/- The document's files: what lies in memory; Find and Size. No condition beyond what each contract names. -/
import Derived.Test.YtbfphjhahgpndaaFh
namespace Go.Proofs.Ytbfphjhahgpndaa
open Go.RowKit E
set_option linter.unusedVariables false
set_option linter.unusedSimpArgs false
set_option maxRecDepth 100000
attribute [local irreducible] ow qw kw kq cw opW Ret
open Go.Maps Go.Sort
theorem bsL_inj {a b : ByteArray} (h : bsL a = bsL b) : a = b := ByteArray.ext (Array.toList_inj.1 h)
theorem b_gtrstr {P : Program} {n : Nat} {e : Env} {w : World} {l0 l : List Oper} {K : Env → World → Prop} {d : Nat} {T TX TY : TypeId} {pos : String} {af : Array Edge} {x y : Operand} {a b : ByteArray} (hu : P.underlying TX = some .string) (hx : ev n e x = .string a) (hy : ev n e y = .string b) (h : ow P n l0 K l (upd e d (.bool (decide (bsL b < bsL a)))) w) :
    ow P n l0 K (⟨some d, .binOp .gtr TX x y TY, T, pos, af, none⟩ :: l) e w := by
  refine o_run (v := .bool (decide (bsL b < bsL a))) (w' := w) ?_ h
  have hr : (!(Op.bytesLess a.toList b.toList || a.toList == b.toList)) = decide (bsL b < bsL a) := by
    rw [bytesLess_eq, Lib.toList_data, Lib.toList_data]
    unfold bsL
    by_cases h1 : a.data.toList < b.data.toList
    · have h2 : ¬ b.data.toList < a.data.toList := fun h2 => List.lt_irrefl _ (List.lt_trans h1 h2)
      simp [h1, h2]
    · by_cases h3 : a.data.toList = b.data.toList
      · simp [h3]
      · have h2 : b.data.toList < a.data.toList := by
          by_cases h2 : b.data.toList < a.data.toList
          · exact h2
          · exact absurd (List.le_antisymm (List.not_lt.1 h2) (List.not_lt.1 h1)) h3
        have h3' : ¬ a.data = b.data := fun e => h3 (by rw [e])
        simp [h1, h2, h3']
  rw [← hr]
  simp only [execOp, hx, hy, binOp, eqGuard, Sem.run_bind, Result.andThen_ok, Sem.run_pure]
  simp [Op.stringOp, binOp]
def fcells (m : List (ByteArray × Value)) : List Value := m.flatMap fun p => [.string p.1, p.2]
theorem fcells_len : ∀ (m : List (ByteArray × Value)), (fcells m).length = m.length * 2
  | [] => rfl
  | p :: m => by
    show (fcells m).length + 1 + 1 = _
    rw [fcells_len m, List.length_cons]; omega
theorem fcells_app (m m' : List (ByteArray × Value)) : fcells (m ++ m') = fcells m ++ fcells m' := by simp [fcells]
theorem fcells_at : ∀ (m : List (ByteArray × Value)) (i : Nat) (p : ByteArray × Value), m[i]? = some p → (fcells m)[i * 2]? = some (.string p.1) ∧ (fcells m)[i * 2 + 1]? = some p.2
  | [], i, p, h => by simp at h
  | q :: m, 0, p, h => by simp at h; subst h; exact ⟨rfl, rfl⟩
  | q :: m, i + 1, p, h => by
    have := fcells_at m i p (by simpa using h)
    rw [show (i + 1) * 2 = i * 2 + 2 by omega]
    exact this
theorem fcells_set : ∀ (m : List (ByteArray × Value)) (i : Nat) (s : ByteArray) (v u : Value), m[i]? = some (s, u) → (fcells m).set (i * 2 + 1) v = fcells (m.set i (s, v))
  | [], i, s, v, u, h => by simp at h
  | q :: m, 0, s, v, u, h => by simp at h; subst h; rfl
  | q :: m, i + 1, s, v, u, h => by
    have := fcells_set m i s v u (by simpa using h)
    rw [show (i + 1) * 2 + 1 = i * 2 + 1 + 2 by omega]
    show [Value.string q.1, q.2] ++ (fcells m).set (i * 2 + 1) v = _
    rw [this]; rfl
theorem RowsOk.at {lo hi : Nat} {w : World} {m : List (ByteArray × Value)} {gs : FS} (h : RowsOk lo hi w m gs) : ∀ (i : Nat) (p : ByteArray × List (BitVec 8)), gs[i]? = some p → ∃ a c, m[i]? = some (p.1, .slice a p.2.length c) ∧ Sl w 5 1 a p.2.length c (p.2.map u8v) ∧ (∀ q, a = some q → lo ≤ q.block ∧ q.block < hi) ∧ p.2.length ≤ 65536 := by
  induction h with
  | nil => intro i p h; simp at h
  | @cons s a c bs m gs h1 h2 h3 _ ih =>
    intro i p h
    cases i with
    | zero => simp at h; subst h; exact ⟨a, c, rfl, h1, h2, h3⟩
    | succ i => exact ih i p (by simpa using h)
theorem RowsOk.set {lo hi : Nat} {w : World} {m : List (ByteArray × Value)} {gs : FS} (h : RowsOk lo hi w m gs) {s : ByteArray} {a : Option Addr} {c : Nat} {bs : List (BitVec 8)} (h1 : Sl w 5 1 a bs.length c (bs.map u8v)) (h2 : ∀ q, a = some q → lo ≤ q.block ∧ q.block < hi) (h3 : bs.length ≤ 65536) : ∀ i, RowsOk lo hi w (m.set i (s, .slice a bs.length c)) (gs.set i (s, bs)) := by
  induction h with
  | nil => intro i; exact .nil
  | @cons s' a' c' bs' m gs k1 k2 k3 k4 ih =>
    intro i
    cases i with
    | zero => exact .cons h1 h2 h3 k4
    | succ i => exact .cons k1 k2 k3 (ih i)
theorem RowsOk.app {lo hi : Nat} {w : World} {m m' : List (ByteArray × Value)} {gs gs' : FS} (h : RowsOk lo hi w m gs) (h' : RowsOk lo hi w m' gs') : RowsOk lo hi w (m ++ m') (gs ++ gs') := by
  induction h with
  | nil => exact h'
  | cons k1 k2 k3 _ ih => exact .cons k1 k2 k3 ih
theorem RowsOk.take {lo hi : Nat} {w : World} {m : List (ByteArray × Value)} {gs : FS} (h : RowsOk lo hi w m gs) : ∀ i, RowsOk lo hi w (m.take i) (gs.take i) := by
  induction h with
  | nil => intro i; simp; exact .nil
  | cons k1 k2 k3 _ ih =>
    intro i
    cases i with
    | zero => exact .nil
    | succ i => exact .cons k1 k2 k3 (ih i)
theorem RowsOk.kb {lo hi k : Nat} {w w' : World} {m : List (ByteArray × Value)} {gs : FS} (h : RowsOk lo hi w m gs) (hk : KB k w w') : RowsOk lo hi w' m gs := by
  induction h with
  | nil => exact .nil
  | cons k1 k2 k3 _ ih => exact .cons (hk.sl k1 (by decide)) k2 k3 ih
theorem RowsOk.kt {lo hi k : Nat} {Ts : List TypeId} {w w' : World} {m : List (ByteArray × Value)} {gs : FS} (h : RowsOk lo hi w m gs) (hk : KeepT Ts k w w') (hT : 5 ∉ Ts) : RowsOk lo hi w' m gs := by
  induction h with
  | nil => exact .nil
  | cons k1 k2 k3 _ ih => exact .cons (k1.kt hk hT) k2 k3 ih
/-- the document's files in memory -/
structure RPw (lo : Nat) (w : World) (x : Nat) (gs : FS) (n : Nat) (Fl : List Int) (a : Option Addr) (c : Nat) (m : List (ByteArray × Value)) (af : Option Addr) (cf : Nat) : Prop where
  blk : Blk w x #[.slice a gs.length c, .int .i64 (n : Int), .slice af Fl.length cf] 44
  list : Sl w 52 2 a gs.length c (fcells m)
  ok : RowsOk lo w.heap.size w m gs
  fails : Sl w 3 1 af Fl.length cf (Fl.map iv)
  low : lo ≤ x
  lowa : ∀ q, a = some q → lo ≤ q.block
  lowf : ∀ q, af = some q → lo ≤ q.block
def Ri (lo : Nat) (w : World) (x : Nat) (gs : FS) (n : Nat) (Fl : List Int) : Prop := ∃ a c m af cf, RPw lo w x gs n Fl a c m af cf
theorem Ri.kb {lo k x n : Nat} {w w' : World} {gs : FS} {Fl : List Int} (h : Ri lo w x gs n Fl) (hk : KB k w w') : Ri lo w' x gs n Fl := by
  obtain ⟨a, c, m, af, cf, h⟩ := h
  exact ⟨a, c, m, af, cf, hk.blk h.blk (by decide), hk.sl h.list (by decide), (h.ok.kb hk).mono hk.size, hk.sl h.fails (by decide), h.low, h.lowa, h.lowf⟩
theorem Ri.new {lo x n : Nat} {w w' : World} {gs : FS} {Fl : List Int} (h : Ri lo w x gs n Fl) (hk : Keep [] w w') : Ri lo w' x gs n Fl := h.kb (E.Keep.kb (k := 0) hk)
theorem Fi.kt {k lo hi k' : Nat} {Ts : List TypeId} {w w' : World} {r : Nat} {fs : FS} {n : Nat} {F : Int → Bool} (h : Fi k lo hi w r fs n F) (hk : KeepT Ts k' w w') (h5 : 5 ∉ Ts) (h58 : 58 ∉ Ts) : Fi k lo hi w' r fs n F := by
  obtain ⟨rr, rf, m, fm, h⟩ := h
  exact ⟨rr, rf, m, fm, h.blk.kt hk h58, h.rows.kt hk, h.fails.kt hk, h.ok.kt hk h5, h.get, h.nodup, h.ne, h.low, h.high, Nat.le_trans h.top hk.size⟩
def idxF : FS → ByteArray → Int
  | [], _ => -1
  | p :: l, s => if s = p.1 then 0 else if idxF l s < 0 then -1 else idxF l s + 1
theorem idx_at : ∀ (gs : FS) (k : Nat) (s : ByteArray) (b : List (BitVec 8)), gs[k]? = some (s, b) → (∀ j p, j < k → gs[j]? = some p → p.1 ≠ s) → idxF gs s = (k : Int)
  | [], k, s, b, h, _ => by simp at h
  | p :: gs, 0, s, b, h, _ => by simp at h; subst h; simp [idxF]
  | p :: gs, k + 1, s, b, h, hno => by
    have h0 := hno 0 p (by omega) rfl
    have ih := idx_at gs k s b (by simpa using h) (fun j q hj hq => hno (j + 1) q (by omega) (by simpa using hq))
    unfold idxF
    rw [if_neg (fun e => h0 e.symm), ih, if_neg (by omega)]
    omega
theorem idx_none : ∀ (gs : FS) (s : ByteArray), (∀ p ∈ gs, p.1 ≠ s) → idxF gs s = -1
  | [], s, _ => rfl
  | p :: gs, s, h => by
    unfold idxF
    rw [if_neg (fun e => h p (by simp) e.symm), idx_none gs s (fun q hq => h q (by simp [hq])), if_pos (by omega)]
theorem idx_cases (gs : FS) (s : ByteArray) : (∃ k b, idxF gs s = ((k : Nat) : Int) ∧ gs[k]? = some (s, b) ∧ ∀ (j : Nat) p, j < k → gs[j]? = some p → p.1 ≠ s) ∨ (idxF gs s = -1 ∧ ∀ p ∈ gs, p.1 ≠ s) := by
  induction gs with
  | nil => exact .inr ⟨rfl, by simp⟩
  | cons p gs ih =>
    by_cases h : s = p.1
    · refine .inl ⟨0, p.2, ?_, ?_, fun j _ hj => by omega⟩
      · unfold idxF; rw [if_pos h]; rfl
      · rw [h]; rfl
    · rcases ih with ⟨k, b, h1, h2, h3⟩ | ⟨h1, h2⟩
      · refine .inl ⟨k + 1, b, ?_, by simpa using h2, fun j q hj hq => ?_⟩
        · unfold idxF; rw [if_neg h, h1, if_neg (by omega)]; omega
        · cases j with
          | zero => simp at hq; subst hq; exact fun e => h e.symm
          | succ j => exact h3 j q (by omega) (by simpa using hq)
      · refine .inr ⟨by unfold idxF; rw [if_neg h, h1]; rfl, fun q hq => ?_⟩
        rcases List.mem_cons.1 hq with rfl | hq
        · exact fun e => h e.symm
        · exact h2 q hq
theorem rfind_ok (lo : Nat) (w : World) (x : Nat) (gs : FS) (n : Nat) (Fl : List Int) (s : ByteArray) (h : Ri lo w x gs n Fl) :
    Ret Try.prog 22 [.pointer (some ⟨x, 0, none⟩), .string s] w (fun v w' => v = .int .i64 (idxF gs s) ∧ w' = w) := by
  obtain ⟨a, c, m, af, cf, hP⟩ := h
  have hmx := sl_max hP.list
  refine fn_enter (n := 26) Try.func22 rfl rfl (Nat.le_of_ble_eq_true rfl) (fun e => ?_)
  refine k_seq ?_
  refine k_region ?_
  refine m_int rfl rfl ?_
  refine o_nil ?_
  refine k_seq ?_
  refine k_seq ?_
  refine k_region ?_
  refine m_int rfl rfl ?_
  refine o_nil ?_
  refine k_block ?_
  refine k_loop (σ := Nat) (fun i => [(0, .pointer (some ⟨x, 0, none⟩)), (1, .string s), (5, .int .i64 (i : Int))]) (fun i w' => i ≤ gs.length ∧ (∀ (j : Nat) p, j < i → gs[j]? = some p → p.1 ≠ s) ∧ w' = w) (fun i => gs.length - i) 0 ⟨rfl, rfl, rfl, trivial⟩ ⟨by omega, fun j _ h => by omega, rfl⟩ (fun i e w2 hJ => ?_)
  obtain ⟨hi, hno, rfl⟩ := hJ
  refine k_seq ?_
  refine k_seq ?_
  refine k_region ?_
  refine m_int rfl rfl ?_
  refine m_ptr rfl rfl ?_
  refine o_nilc rfl ?_
  refine o_fld0 rfl rfl ?_
  refine o_ld rfl rfl (hP.blk.at rfl) ?_
  refine o_lens Try.underlying41 rfl ?_
  refine b_lss rfl rfl ?_
  refine o_nil ?_
  refine k_cond rfl (fun h => ?_) (fun h => ?_)
  rotate_left
  ·
    obtain rfl : i = gs.length := by omega
    refine k_exit rfl ?_
    refine k_seq ?_
    refine k_region ?_
    refine m_int rfl rfl ?_
    refine o_nil ?_
    refine k_ret (ret_tmps (ts := [4]) (v := .int _ _) rfl rfl ?_)
    refine ⟨congrArg (Value.int .i64) (idx_none gs s (fun p hp => ?_)).symm, rfl⟩
    obtain ⟨j, hj, rfl⟩ := List.getElem_of_mem hp
    exact hno j _ hj (List.getElem?_eq_getElem hj)
  have hil : i < gs.length := by omega
  obtain ⟨g, cur, rfl, hB, hsz⟩ := hP.list.blk (by omega)
  obtain ⟨p, hp⟩ : ∃ p, gs[i]? = some p := ⟨_, List.getElem?_eq_getElem hil⟩
  obtain ⟨a1, c1, hm1, hS1, _, _⟩ := hP.ok.at i p hp
  have hc1 := (fcells_at m i _ hm1).1
  refine k_skip ?_
  refine k_seq ?_
  refine k_block ?_
  refine k_seq ?_
  refine k_region ?_
  refine m_ptr rfl rfl ?_
  refine o_nilc rfl ?_
  refine o_fld0 rfl rfl ?_
  refine o_ld rfl rfl (hP.blk.at rfl) ?_
  refine m_int rfl rfl ?_
  refine o_ixs (sz := 2) Try.underlying41 rfl rfl rfl hil ?_
  refine o_fld0 rfl rfl ?_
  refine o_ld rfl rfl (hP.list.rd.cellK (Keep.refl _ _) hc1) ?_
  refine m_str rfl rfl ?_
  refine b_eqlstr Try.underlying9 rfl rfl ?_
  refine o_nil ?_
  refine k_cond rfl (fun h => ?_) (fun h => ?_)
  ·
    refine k_seq ?_
    refine k_region ?_
    refine m_int rfl rfl ?_
    refine m_int rfl rfl ?_
    refine o_nil ?_
    refine k_ret (ret_tmps (ts := [4]) (v := .int _ _) rfl rfl ?_)
    exact ⟨congrArg (Value.int .i64) (idx_at gs i s p.2 (by rw [hp, ← h]) hno).symm, rfl⟩
  have hne := h
  refine k_skip ?_
  refine k_blk ?_
  refine k_region ?_
  refine m_int rfl rfl ?_
  refine n_add rfl rfl (by omega) ?_
  refine m_int rfl rfl ?_
  refine o_nil ?_
  refine k_goal ⟨i + 1, ⟨rfl, rfl, rfl, trivial⟩, ⟨by omega, ?_, rfl⟩, by omega⟩
  intro j q hj hq
  by_cases hjj : j < i
  · exact hno j q hjj hq
  · obtain rfl : j = i := by omega
    rw [hp] at hq
    cases hq
    exact hne
theorem getF_of_at : ∀ (gs : FS) (k : Nat) (s : ByteArray) (b : List (BitVec 8)), gs[k]? = some (s, b) → (∀ j p, j < k → gs[j]? = some p → p.1 ≠ s) → getF gs s = some b
  | [], k, s, b, h, _ => by simp at h
  | p :: gs, 0, s, b, h, _ => by simp at h; subst h; simp [getF]
  | p :: gs, k + 1, s, b, h, hno => by
    have h0 := hno 0 p (by omega) rfl
    unfold getF
    rw [if_neg (fun e => h0 e.symm)]
    exact getF_of_at gs k s b (by simpa using h) (fun j q hj hq => hno (j + 1) q (by omega) (by simpa using hq))
theorem getF_none : ∀ (gs : FS) (s : ByteArray), (∀ p ∈ gs, p.1 ≠ s) → getF gs s = none
  | [], s, _ => rfl
  | p :: gs, s, h => by
    unfold getF
    rw [if_neg (fun e => h p (by simp) e.symm)]
    exact getF_none gs s (fun q hq => h q (by simp [hq]))
theorem putF_set : ∀ (gs : FS) (k : Nat) (s : ByteArray) (b0 b : List (BitVec 8)), gs[k]? = some (s, b0) → (∀ j p, j < k → gs[j]? = some p → p.1 ≠ s) → putF gs s b = gs.set k (s, b)
  | [], k, s, b0, b, h, _ => by simp at h
  | p :: gs, 0, s, b0, b, h, _ => by simp at h; subst h; simp [putF]
  | p :: gs, k + 1, s, b0, b, h, hno => by
    have h0 := hno 0 p (by omega) rfl
    unfold putF
    rw [if_neg (fun e => h0 e.symm), putF_set gs k s b0 b (by simpa using h) (fun j q hj hq => hno (j + 1) q (by omega) (by simpa using hq))]
    rfl
theorem rsize_ok (lo : Nat) (w : World) (x : Nat) (gs : FS) (n : Nat) (Fl : List Int) (s : ByteArray) (h : Ri lo w x gs n Fl) :
    Ret Try.prog 19 [.pointer (some ⟨x, 0, none⟩), .string s] w (fun v w' => v = .tuple #[.int .i64 (szF gs s).1, .int .i64 (szF gs s).2] ∧ w' = w) := by
  have hR := h
  obtain ⟨a, c, m, af, cf, hP⟩ := h
  refine fn_enter (n := 21) Try.func19 rfl rfl (Nat.le_of_ble_eq_true rfl) (fun e => ?_)
  refine k_seq ?_
  refine k_region ?_
  refine m_int rfl rfl ?_
  refine m_int rfl rfl ?_
  refine o_nil ?_
  refine k_seq ?_
  refine k_region ?_
  refine m_ptr rfl rfl ?_
  refine m_str rfl rfl ?_
  refine o_call rfl rfl (rfind_ok lo w x gs n Fl s hR) (fun v w1 hv => ?_)
  obtain ⟨rfl, rfl⟩ := hv
  refine m_int rfl rfl ?_
  refine o_nil ?_
  refine k_seq ?_
  refine k_seq ?_
  refine k_region ?_
  refine m_int rfl rfl ?_
  refine b_lss rfl rfl ?_
  refine o_nil ?_
  refine k_cond rfl (fun h => ?_) (fun h => ?_)
  ·
    refine k_seq ?_
    refine k_region ?_
    refine m_int rfl rfl ?_
    refine m_int rfl rfl ?_
    refine o_nil ?_
    refine k_ret (ret_tmps (ts := [4, 5]) (v := .tuple #[.int _ _, .int _ _]) rfl rfl ?_)
    refine ⟨?_, rfl⟩
    rcases idx_cases gs s with ⟨k, b, h1, h2, h3⟩ | ⟨h1, h2⟩
    · omega
    · unfold szF; rw [getF_none gs s h2]
  obtain ⟨k, b, hix, hk, hno⟩ : ∃ k b, idxF gs s = ((k : Nat) : Int) ∧ gs[k]? = some (s, b) ∧ ∀ (j : Nat) p, j < k → gs[j]? = some p → p.1 ≠ s := by
   rcases idx_cases gs s with h1 | ⟨h1, h2⟩
   · exact h1
   · omega
  rw [hix]
  have hkl : k < gs.length := (List.getElem?_eq_some_iff.1 hk).1
  obtain ⟨g, cur, rfl, hB, hsz⟩ := hP.list.blk (by omega)
  obtain ⟨a1, c1, hm1, hS1, _, _⟩ := hP.ok.at k _ hk
  have hc1 := (fcells_at m k _ hm1).2
  refine k_skip ?_
  refine k_seq ?_
  refine k_region ?_
  refine m_ptr rfl rfl ?_
  refine o_nilc rfl ?_
  refine o_fld0 rfl rfl ?_
  refine o_ld rfl rfl (hP.blk.at rfl) ?_
  refine m_int rfl rfl ?_
  refine o_ixs (sz := 2) Try.underlying41 rfl rfl rfl hkl ?_
  refine o_fld (off := 1) rfl rfl ?_
  refine o_ld rfl rfl (hP.list.rd.cellK (Keep.refl _ _) hc1) ?_
  refine o_lens Try.underlying22 rfl ?_
  refine m_int rfl rfl ?_
  refine m_int rfl rfl ?_
  refine o_nil ?_
  refine k_ret (ret_tmps (ts := [4, 5]) (v := .tuple #[.int _ _, .int _ _]) rfl rfl ?_)
  refine ⟨?_, rfl⟩
  unfold szF; rw [getF_of_at gs k s b hk hno]
end Go.Proofs.Ytbfphjhahgpndaa
