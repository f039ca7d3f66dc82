/- Files: what lies in memory, and the walks of their functions. No condition beyond what each contract names. -/
import Derived.Test.YtbfphjhahgpndaaEv
namespace Go.Proofs.Ytbfphjhahgpndaa
open Go.RowKit E
set_option linter.unusedVariables false
set_option linter.unusedSimpArgs false
set_option maxRecDepth 100000
attribute [local irreducible] ow qw kw kq cw opW Ret
theorem inf5 : infB Try.prog 5 1 1 (.int .u8 0) := ⟨_, rfl, rfl, rfl, rfl⟩
theorem inf22 : infB Try.prog 22 1 24 (.slice none 0 0) := ⟨_, rfl, rfl, rfl, rfl⟩
theorem inf4 : infB Try.prog 4 1 1 (.bool false) := ⟨_, rfl, rfl, rfl, rfl⟩
theorem index_ge (c : UInt8) : ∀ l : List UInt8, 0 ≤ Lib.indexByte l c ↔ c ∈ l
  | [] => by simp [Lib.indexByte]
  | b :: l => by
    have ih := index_ge c l
    have hg := Lib.indexByte_ge l c
    unfold Lib.indexByte
    by_cases hb : (b == c) = true
    · have : b = c := by simpa using hb
      subst this
      simp
    · have hne : ¬ b = c := by simpa using hb
      rw [if_neg hb]
      by_cases h1 : Lib.indexByte l c = -1
      · have h2 : ¬ c ∈ l := fun hm => by have := ih.2 hm; omega
        simp [h1, h2]
        exact fun e => hne e.symm
      · have h3 : c ∈ l := ih.1 (by omega)
        simp [h1, h3]
        omega
theorem slib_ok (w : World) (s : ByteArray) : Ret Try.prog 25 [.string s, .int .u8 ((0#8).toNat : Int)] w (fun v w' => v = .int .i64 (Lib.indexByte s.data.toList 0) ∧ w' = w) := by
  refine fn_enter (n := 8) Try.func25 rfl rfl (Nat.le_of_ble_eq_true rfl) (fun e => ?_)
  refine k_seq ?_
  refine k_region ?_
  refine m_int rfl rfl ?_
  refine o_nil ?_
  refine k_seq ?_
  refine k_region ?_
  refine m_str rfl rfl ?_
  refine m_int rfl rfl ?_
  refine o_extern Try.func29 (by kernel_rfl) (by kernel_rfl) (by kernel_rfl) (ex := Extern.BytealgIndexByte.indexByte) (by kernel_rfl) rfl (Lib.run_indexByteString s _ w) ?_
  refine m_int rfl rfl ?_
  refine o_nil ?_
  refine k_ret (ret_tmps (ts := [4]) (v := .int _ _) rfl rfl ?_)
  exact ⟨rfl, rfl⟩
theorem ib_ok (w : World) (s : ByteArray) : Ret Try.prog 21 [.string s, .int .u8 ((0#8).toNat : Int)] w (fun v w' => v = .int .i64 (Lib.indexByte s.data.toList 0) ∧ w' = w) := by
  refine fn_enter (n := 8) Try.func21 rfl rfl (Nat.le_of_ble_eq_true rfl) (fun e => ?_)
  refine k_seq ?_
  refine k_region ?_
  refine m_int rfl rfl ?_
  refine o_nil ?_
  refine k_seq ?_
  refine k_region ?_
  refine m_str rfl rfl ?_
  refine m_int rfl rfl ?_
  refine o_call rfl rfl (slib_ok w s) (fun v w2 hv => ?_)
  obtain ⟨rfl, rfl⟩ := hv
  refine m_int rfl rfl ?_
  refine o_nil ?_
  refine k_ret (ret_tmps (ts := [4]) (v := .int _ _) rfl rfl ?_)
  exact ⟨rfl, rfl⟩
/-- a file's name -/
def nameOk (s : ByteArray) : Prop := s.size ≠ 0 ∧ s.size ≤ 64 ∧ (0 : UInt8) ∉ s.data.toList
instance (s : ByteArray) : Decidable (nameOk s) := by unfold nameOk; infer_instance
abbrev FS := List (ByteArray × List (BitVec 8))
def getF : FS → ByteArray → Option (List (BitVec 8))
  | [], _ => none
  | p :: l, s => if s = p.1 then some p.2 else getF l s
def putF : FS → ByteArray → List (BitVec 8) → FS
  | [], s, b => [(s, b)]
  | p :: l, s, b => if s = p.1 then (s, b) :: l else p :: putF l s b
theorem getF_put : ∀ (l : FS) (s t : ByteArray) (b : List (BitVec 8)), getF (putF l s b) t = if t = s then some b else getF l t
  | [], s, t, b => by simp [putF, getF]
  | p :: l, s, t, b => by
    unfold putF
    by_cases h : s = p.1
    · rw [if_pos h]
      unfold getF
      by_cases ht : t = s
      · rw [if_pos ht, if_pos ht]
      · rw [if_neg ht, if_neg ht, if_neg (fun e => ht (e.trans h.symm))]
    · rw [if_neg h]
      unfold getF
      by_cases ht : t = p.1
      · rw [if_pos ht, if_pos ht, if_neg (fun e => h (e.symm.trans ht))]
      · rw [if_neg ht, if_neg ht]
        exact getF_put l s t b
inductive RowsOk (lo hi : Nat) (w : World) : List (ByteArray × Value) → FS → Prop
  | nil : RowsOk lo hi w [] []
  | cons {s : ByteArray} {a : Option Addr} {c : Nat} {bs : List (BitVec 8)} {m : List (ByteArray × Value)} {fs : FS} : Sl w 5 1 a bs.length c (bs.map u8v) → (∀ q, a = some q → lo ≤ q.block ∧ q.block < hi) → bs.length ≤ 65536 → RowsOk lo hi w m fs → RowsOk lo hi w ((s, .slice a bs.length c) :: m) ((s, bs) :: fs)
theorem RowsOk.len {lo hi : Nat} {w : World} {m : List (ByteArray × Value)} {fs : FS} (h : RowsOk lo hi w m fs) : m.length = fs.length := by
  induction h with
  | nil => rfl
  | cons _ _ _ _ ih => simp [ih]
theorem RowsOk.mono {lo hi hi' : Nat} {w : World} {m : List (ByteArray × Value)} {fs : FS} (h : RowsOk lo hi w m fs) (hh : hi ≤ hi') : RowsOk lo hi' w m fs := by
  induction h with
  | nil => exact .nil
  | cons h1 h2 h3 _ ih => exact .cons h1 (fun q hq => ⟨(h2 q hq).1, Nat.lt_of_lt_of_le (h2 q hq).2 hh⟩) h3 ih
theorem RowsOk.keep {lo hi : Nat} {S : List Nat} {w w' : World} {m : List (ByteArray × Value)} {fs : FS} (h : RowsOk lo hi w m fs) (hk : Keep S w w') (hS : ∀ b ∈ S, hi ≤ b ∨ b < lo ∨ ∀ cs, ¬ Blk w b cs 5) : RowsOk lo hi w' m fs := by
  induction h with
  | nil => exact .nil
  | cons h1 h2 h3 _ ih =>
    refine .cons (h1.keep hk ?_) h2 h3 ih
    intro q hq hm
    have hb := h2 q hq
    rcases hS _ hm with h | h | h
    · omega
    · omega
    · rcases h1.2 with ⟨h0, _⟩ | ⟨g, cur, h0, hB, _⟩
      · rw [h0] at hq; cases hq
      · rw [h0] at hq; cases hq
        exact h cur hB
theorem RowsOk.get {lo hi : Nat} {w : World} {m : List (ByteArray × Value)} {fs : FS} (h : RowsOk lo hi w m fs) (s : ByteArray) : (getF fs s = none ∧ getM m s = none) ∨ ∃ bs a c, getF fs s = some bs ∧ getM m s = some (.slice a bs.length c) ∧ Sl w 5 1 a bs.length c (bs.map u8v) ∧ bs.length ≤ 65536 := by
  induction h with
  | nil => exact .inl ⟨rfl, rfl⟩
  | @cons s' a c bs m fs h1 h2 h3 _ ih =>
    rw [getM_cons]
    unfold getF
    by_cases hs : s = s'
    · rw [if_pos hs, if_pos hs]
      exact .inr ⟨bs, a, c, rfl, rfl, h1, h3⟩
    · rw [if_neg hs, if_neg hs]; exact ih
theorem RowsOk.put {lo hi : Nat} {w : World} {m : List (ByteArray × Value)} {fs : FS} {a : Option Addr} {c : Nat} {bs : List (BitVec 8)} (h : RowsOk lo hi w m fs) (s : ByteArray) (hs : Sl w 5 1 a bs.length c (bs.map u8v)) (hb : ∀ q, a = some q → lo ≤ q.block ∧ q.block < hi) (hl : bs.length ≤ 65536) : RowsOk lo hi w (putM m s (.slice a bs.length c)) (putF fs s bs) := by
  induction h with
  | nil => exact .cons hs hb hl .nil
  | @cons s' a' c' bs' m fs h1 h2 h4 h3 ih =>
    unfold putM putF
    by_cases h : s = s'
    · rw [if_pos h, if_pos h]; exact .cons hs hb hl h3
    · rw [if_neg h, if_neg h]; exact .cons h1 h2 h4 ih
/-- files in memory -/
structure FP (k lo hi : Nat) (w : World) (r : Nat) (fs : FS) (n : Nat) (F : Int → Bool) (rr rf : Nat) (m : List (ByteArray × Value)) (fm : List (Int × Value)) : Prop where
  blk : Blk w r #[.map (some rr), .int .i64 (n : Int), .map (some rf)] 58
  rows : Mp w rr Value.string m
  fails : Mp w rf (Value.int .i64) fm
  ok : RowsOk lo hi w m fs
  get : ∀ i : Int, getM fm i = if F i then some (.bool true) else none
  nodup : (fm.map (·.1)).Nodup
  ne : rr ≠ rf
  low : k ≤ r ∧ k ≤ rr ∧ k ≤ rf
  high : r < hi ∧ rr < hi ∧ rf < hi
  top : hi ≤ w.heap.size
def Fi (k lo hi : Nat) (w : World) (r : Nat) (fs : FS) (n : Nat) (F : Int → Bool) : Prop := ∃ rr rf m fm, FP k lo hi w r fs n F rr rf m fm
theorem Fi.new {k lo hi : Nat} {w w' : World} {r : Nat} {fs : FS} {n : Nat} {F : Int → Bool} (h : Fi k lo hi w r fs n F) (hk : Keep [] w w') : Fi k lo hi w' r fs n F := by
  obtain ⟨rr, rf, m, fm, h⟩ := h
  exact ⟨rr, rf, m, fm, h.blk.keep hk (by simp), h.rows.keep hk (by simp), h.fails.keep hk (by simp), h.ok.keep hk (by simp), h.get, h.nodup, h.ne, h.low, h.high, Nat.le_trans h.top hk.size⟩
theorem Fi.high {k lo hi : Nat} {S : List Nat} {w w' : World} {r : Nat} {fs : FS} {n : Nat} {F : Int → Bool} (h : Fi k lo hi w r fs n F) (hk : Keep S w w') (hS : ∀ b ∈ S, hi ≤ b) : Fi k lo hi w' r fs n F := by
  obtain ⟨rr, rf, m, fm, h⟩ := h
  have := h.high
  exact ⟨rr, rf, m, fm, h.blk.keep hk (fun hm => by have := hS _ hm; omega), h.rows.keep hk (fun hm => by have := hS _ hm; omega), h.fails.keep hk (fun hm => by have := hS _ hm; omega), h.ok.keep hk (fun b hb => .inl (hS b hb)), h.get, h.nodup, h.ne, h.low, h.high, Nat.le_trans h.top hk.size⟩
theorem Fi.low5 {k lo hi g : Nat} {w w' : World} {r : Nat} {fs : FS} {n : Nat} {F : Int → Bool} {cs : Array Value} {T : TypeId} (h : Fi k lo hi w r fs n F) (hg : Blk w g cs T) (hT : T ≠ 58) (hk : Keep [g] w w') (hl : g < lo) : Fi k lo hi w' r fs n F := by
  obtain ⟨rr, rf, m, fm, h⟩ := h
  refine ⟨rr, rf, m, fm, h.blk.keep hk ?_, h.rows.keep hk ?_, h.fails.keep hk ?_, h.ok.keep hk ?_, h.get, h.nodup, h.ne, h.low, h.high, Nat.le_trans h.top hk.size⟩
  · intro hm
    simp at hm
    subst hm
    exact hT (hg.ty h.blk)
  · have := h.rows.blk hg; simpa using fun e => this e.symm
  · have := h.fails.blk hg; simpa using fun e => this e.symm
  · intro b hb; simp at hb; subst hb; exact .inr (.inl hl)
theorem Fi.mono {k lo hi : Nat} {w : World} {r : Nat} {fs : FS} {n : Nat} {F : Int → Bool} (h : Fi k lo hi w r fs n F) : Fi k lo w.heap.size w r fs n F := by
  obtain ⟨rr, rf, m, fm, h⟩ := h
  have ht := h.top
  exact ⟨rr, rf, m, fm, h.blk, h.rows, h.fails, h.ok.mono ht, h.get, h.nodup, h.ne, h.low, ⟨Nat.lt_of_lt_of_le h.high.1 ht, Nat.lt_of_lt_of_le h.high.2.1 ht, Nat.lt_of_lt_of_le h.high.2.2 ht⟩, Nat.le_refl _⟩
/-- what was turned lies from k on: maps, and files -/
def KB (k : Nat) (w w' : World) : Prop := ∃ S, Keep S w w' ∧ ∀ b ∈ S, k ≤ b ∧ ∀ cs T, Blk w b cs T → T = 58
theorem E.Keep.kb {k : Nat} {w w' : World} (h : Keep [] w w') : KB k w w' := ⟨[], h, by simp⟩
theorem KB.tr {k : Nat} {w w1 w2 : World} (h : KB k w w1) (h' : KB k w1 w2) : KB k w w2 := by
  obtain ⟨S, h1, h2⟩ := h
  obtain ⟨S', h1', h2'⟩ := h'
  refine ⟨S ++ S'.filter (fun b => decide (b < w.heap.size)), (h1.mono (fun b hb => by simp [hb])).trans h1' (fun b hb hl => by simp [hb, hl]), fun b hb => ?_⟩
  rcases List.mem_append.1 hb with hb | hb
  · exact h2 b hb
  · simp at hb
    refine ⟨(h2' b hb.1).1, fun cs T hB => ?_⟩
    by_cases hS : b ∈ S
    · exact (h2 b hS).2 cs T hB
    · exact (h2' b hb.1).2 cs T (hB.keep h1 hS)
theorem KB.keep {k : Nat} {w0 w w' : World} (h : KB k w w') (h0 : Keep [] w0 w) (hk : w0.heap.size ≤ k) : Keep [] w0 w' := by
  obtain ⟨S, h1, h2⟩ := h
  exact h0.trans h1 (fun b hb hl => by have := (h2 b hb).1; omega)
theorem KB.blk {k : Nat} {w w' : World} {b : Nat} {cs : Array Value} {T : TypeId} (h : KB k w w') (hB : Blk w b cs T) (hT : T ≠ 58) : Blk w' b cs T := by
  obtain ⟨S, h1, h2⟩ := h
  exact hB.keep h1 (fun hm => hT ((h2 b hm).2 cs T hB))
theorem KB.sl {k : Nat} {w w' : World} {E : TypeId} {sz m c : Nat} {a : Option Addr} {xs : List Value} (h : KB k w w') (hs : Sl w E sz a m c xs) (hT : E ≠ 58) : Sl w' E sz a m c xs := by
  refine ⟨hs.1, ?_⟩
  rcases hs.2 with h2 | ⟨g, cur, rfl, hb, h1⟩
  · exact .inl h2
  · exact .inr ⟨g, cur, rfl, h.blk hb hT, h1⟩
theorem KB.size {k : Nat} {w w' : World} (h : KB k w w') : w.heap.size ≤ w'.heap.size := by
  obtain ⟨S, h1, _⟩ := h
  exact h1.size
theorem E.Mp.nblk {κ : Type} {w : World} {r : Nat} {kv : κ → Value} {m : List (κ × Value)} (h : Mp w r kv m) : ∀ cs T, ¬ Blk w r cs T := fun cs T hb => h.blk hb rfl
theorem fnew_ok (w : World) : Ret Try.prog 8 [] w (fun v w' => ∃ r, v = .pointer (some ⟨r, 0, none⟩) ∧ (∀ lo, Fi w.heap.size lo w'.heap.size w' r [] 0 (fun _ => false)) ∧ Keep [] w w') := by
  refine fn_enter (n := 5) Try.func8 rfl rfl (Nat.le_of_ble_eq_true rfl) (fun e => ?_)
  refine k_seq ?_
  refine k_region ?_
  refine m_ptr rfl rfl ?_
  refine o_nil ?_
  refine k_seq ?_
  refine k_region ?_
  refine o_mkmap Value.string (fun rr w1 hM1 hK1 hb1 hZ1 => ?_)
  refine o_mkmap (Value.int .i64) (fun rf w2 hM2 hK2 hb2 hZ2 => ?_)
  refine o_build (v := .agg #[.map (some rr), .int .i64 0, .map (some rf)]) rfl (fun _ => by kernel_rfl) ?_
  refine o_box rfl rfl (fun b w3 hB3 hK3 hb3 hZ3 => ?_)
  refine m_ptr rfl rfl ?_
  refine o_nil ?_
  refine k_ret (ret_tmps (ts := [0]) (v := .pointer _) rfl rfl ?_)
  refine ⟨b, rfl, fun lo => ⟨rr, rf, [], [], hB3, (hM1.keep hK2 (by simp)).keep hK3 (by simp), hM2.keep hK3 (by simp), .nil, fun _ => rfl, by simp, by omega, ⟨by omega, by omega, by omega⟩, ⟨by omega, by omega, by omega⟩, Nat.le_refl _⟩, (hK1.tr hK2).tr hK3⟩
/-- the error of Put -/
def putE (fs : FS) (s : ByteArray) (n : Nat) : Int := if ¬ nameOk s then 13 else if 65536 < n then 8 else if getF fs s = none ∧ 16 ≤ fs.length then 17 else 0
theorem put_ok (k lo hi : Nat) (w : World) (r : Nat) (fs : FS) (n : Nat) (F : Int → Bool) (s : ByteArray) (a : Option Addr) (c : Nat) (bs : List (BitVec 8)) (h : Fi k lo hi w r fs n F) (hR : Rd w a (bs.map u8v)) (hlo : lo ≤ w.heap.size) :
    Ret Try.prog 9 [.pointer (some ⟨r, 0, none⟩), .string s, .slice a bs.length c] w (fun v w' => v = .int .i64 (putE fs s bs.length) ∧ Fi k lo w'.heap.size w' r (if putE fs s bs.length = 0 then putF fs s bs else fs) n F ∧ KB k w w') := by
  have hFi := h.mono
  obtain ⟨rr, rf, m, fm, hP⟩ := hFi
  clear h
  have bad : ¬ nameOk s → putE fs s bs.length = 13 := fun hn => if_pos hn
  have fin : ∀ y, putE fs s bs.length = y → y ≠ 0 → (Value.int .i64 y = .int .i64 (putE fs s bs.length) ∧ Fi k lo w.heap.size w r (if putE fs s bs.length = 0 then putF fs s bs else fs) n F ∧ KB k w w) := by
    intro y hy h0
    rw [hy, if_neg h0]
    exact ⟨rfl, ⟨rr, rf, m, fm, hP⟩, (Keep.refl [] w).kb⟩
  have hget := hP.ok.get s
  have hlen := hP.ok.len
  refine fn_enter (n := 53) Try.func9 rfl rfl (Nat.le_of_ble_eq_true rfl) (fun e => ?_)
  refine k_seq ?_
  refine k_region ?_
  refine m_int rfl rfl ?_
  refine o_nil ?_
  refine k_seq ?_
  refine k_seq ?_
  refine k_region ?_
  refine m_ptr rfl rfl ?_
  refine b_eqlp Try.underlying25 rfl rfl ?_
  refine o_nil ?_
  refine k_no rfl ((by simp)) ?_
  refine k_skip ?_
  refine k_seq ?_
  refine k_seq ?_
  refine k_region ?_
  refine m_str rfl rfl ?_
  refine b_eqlstr Try.underlying9 rfl rfl ?_
  refine m_bool rfl rfl ?_
  refine o_split (t := 13) rfl (fun h => ?_) (fun h => ?_)
  ·
    refine g_no rfl rfl rfl ?_
    refine g_no rfl rfl rfl ?_
    refine g_no rfl rfl rfl ?_
    refine pick_t rfl rfl ?_
    refine m_bool rfl rfl ?_
    refine g_no rfl rfl rfl ?_
    refine g_no rfl rfl rfl ?_
    refine g_no rfl rfl rfl ?_
    refine pick_t rfl rfl ?_
    refine o_nil ?_
    refine k_condt rfl ?_
    refine k_seq ?_
    refine k_region ?_
    refine m_int rfl rfl ?_
    refine o_nil ?_
    refine k_ret (ret_tmps (ts := [6]) (v := .int _ _) rfl rfl ?_)
    exact fin 13 (bad (fun hn => hn.1 (by rw [h]; rfl))) (by decide)
  ·
    have h13 := h
    refine g_yes rfl rfl ?_
    refine m_str rfl rfl ?_
    refine g_yes rfl rfl ?_
    refine o_lenstr Try.underlying9 rfl ?_
    refine g_yes rfl rfl ?_
    refine b_gtr rfl rfl ?_
    refine pick_f rfl rfl ?_
    refine m_bool rfl rfl ?_
    refine o_split (t := 18) rfl (fun h => ?_) (fun h => ?_)
    ·
      refine g_no rfl rfl rfl ?_
      refine g_no rfl rfl rfl ?_
      refine g_no rfl rfl rfl ?_
      refine pick_t rfl rfl ?_
      refine o_nil ?_
      refine k_condt rfl ?_
      refine k_seq ?_
      refine k_region ?_
      refine m_int rfl rfl ?_
      refine o_nil ?_
      refine k_ret (ret_tmps (ts := [6]) (v := .int _ _) rfl rfl ?_)
      exact fin 13 (bad (fun hn => by have := hn.2.1; omega)) (by decide)
    ·
      have h18 := h
      refine g_yes rfl rfl ?_
      refine m_str rfl rfl ?_
      refine g_yes rfl rfl ?_
      refine o_call rfl rfl (ib_ok w s) (fun v w1 hv => ?_)
      obtain ⟨rfl, rfl⟩ := hv
      refine g_yes rfl rfl ?_
      refine b_geq rfl rfl ?_
      refine pick_f rfl rfl ?_
      refine o_nil ?_
      refine k_cond rfl (fun h => ?_) (fun h => ?_)
      ·
        refine k_seq ?_
        refine k_region ?_
        refine m_int rfl rfl ?_
        refine o_nil ?_
        refine k_ret (ret_tmps (ts := [6]) (v := .int _ _) rfl rfl ?_)
        exact fin 13 (bad (fun hn => hn.2.2 ((index_ge 0 _).1 h))) (by decide)
      have hok : nameOk s := ⟨fun e => h13 (ByteArray.ext (Array.eq_empty_of_size_eq_zero e)), by omega, fun hm => h ((index_ge 0 _).2 hm)⟩
      refine k_skip ?_
      refine k_seq ?_
      refine k_seq ?_
      refine k_region ?_
      refine m_sl rfl rfl ?_
      refine o_lens Try.underlying22 rfl ?_
      refine b_gtr rfl rfl ?_
      refine o_nil ?_
      refine k_cond rfl (fun h => ?_) (fun h => ?_)
      ·
        refine k_seq ?_
        refine k_region ?_
        refine m_int rfl rfl ?_
        refine o_nil ?_
        refine k_ret (ret_tmps (ts := [6]) (v := .int _ _) rfl rfl ?_)
        exact fin 8 (by unfold putE; rw [if_neg (fun hn => hn hok), if_pos (by omega)]) (by decide)
      have h65 : bs.length ≤ 65536 := by omega
      refine k_skip ?_
      refine k_seq ?_
      refine k_seq ?_
      refine k_region ?_
      refine m_ptr rfl rfl ?_
      refine o_nilc rfl ?_
      refine o_fld0 rfl rfl ?_
      refine o_ld rfl rfl (by first | exact hP.blk.at rfl | exact hP.blk.kat (hbase _ hL) rfl) ?_ 
      refine m_str rfl rfl ?_
      refine o_lookok (kv := Value.string) (q := s) Try.underlying55 (key_str Try.underlying9) inf22 rfl rfl hP.rows (v := (getM m s).getD (.slice none 0 0)) (b := (getM m s).isSome) rfl rfl ?_
      refine m_any rfl rfl ?_
      refine o_extr (vs := [(getM m s).getD (.slice none 0 0), .bool (getM m s).isSome]) rfl rfl ?_
      refine o_extr (vs := [(getM m s).getD (.slice none 0 0), .bool (getM m s).isSome]) rfl rfl ?_
      refine m_any rfl rfl ?_
      refine m_bool rfl rfl ?_
      refine o_nil ?_
      refine k_seq ?_
      refine k_cut (σ := Unit) (fun _ => [(0, .pointer (some ⟨r, 0, none⟩)), (1, .string s), (2, .slice a bs.length c), (44, .bool (decide (getF fs s = none ∧ 16 ≤ fs.length)))]) (fun _ w' => w' = w1) ?_ (fun _ e w5 hJ => ?_)
      ·
        refine k_region ?_
        refine m_bool rfl rfl ?_
        refine u_notb rfl ?_
        refine m_bool rfl rfl ?_
        refine o_split (t := 37) (p := getF fs s = none) (by rcases hget with ⟨h1, h2⟩ | ⟨bs', a', c', h1, h2, _⟩ <;> rw [h1] <;> show Value.bool (!(getM m s).isSome) = _ <;> rw [h2] <;> simp) (fun h37 => ?_) (fun h37 => ?_)
        ·
          refine g_yes rfl rfl ?_
          refine m_ptr rfl rfl ?_
          refine g_yes rfl rfl ?_
          refine o_nilc rfl ?_
          refine g_yes rfl rfl ?_
          refine o_fld0 rfl rfl ?_
          refine g_yes rfl rfl ?_
          refine o_ld rfl rfl (by first | exact hP.blk.at rfl | exact hP.blk.kat (hbase _ hL) rfl) ?_ 
          refine g_yes rfl rfl ?_
          refine o_lenm Try.underlying55 rfl hP.rows ?_
          refine g_yes rfl rfl ?_
          refine b_geq rfl rfl ?_
          refine pick_t rfl rfl ?_
          refine o_nil ?_
          refine k_goal ⟨(), ⟨rfl, rfl, rfl, congrArg Value.bool (decide_eq_decide.2 ⟨fun hh => ⟨h37, by omega⟩, fun hh => by omega⟩), trivial⟩, rfl⟩
        ·
          refine g_no rfl rfl rfl ?_
          refine g_no rfl rfl rfl ?_
          refine g_no rfl rfl rfl ?_
          refine g_no rfl rfl rfl ?_
          refine g_no rfl rfl rfl ?_
          refine g_no rfl rfl rfl ?_
          refine pick_f rfl rfl ?_
          refine o_nil ?_
          refine k_goal ⟨(), ⟨rfl, rfl, rfl, congrArg Value.bool (decide_eq_false (fun hh => h37 hh.1)).symm, trivial⟩, rfl⟩
      subst hJ
      refine k_cond rfl (fun h => ?_) (fun h => ?_)
      ·
        refine k_seq ?_
        refine k_region ?_
        refine m_int rfl rfl ?_
        refine o_nil ?_
        refine k_ret (ret_tmps (ts := [6]) (v := .int _ _) rfl rfl ?_)
        exact fin 17 (by unfold putE; rw [if_neg (fun hn => hn hok), if_neg (by omega), if_pos h]) (by decide)
      have hzero : putE fs s bs.length = 0 := by unfold putE; rw [if_neg (fun hn => hn hok), if_neg (by omega), if_neg h]
      have hbase : ∀ w', Keep [] w5.drew w' → Keep [] w5 w' := fun w' h => (Keep.refl [] w5).drew.tr h
      refine k_skip ?_
      refine k_seq ?_
      refine k_any 8 (fun w w' => Keep [] w w') (fun iA => match iA with
          | 0 => fun v w => v = .pointer (some ⟨r, 0, none⟩)
          | 1 => fun v w => v = .pointer (some ⟨r, 0, none⟩)
          | 2 => fun v w => v = .pointer (some ⟨r, 0, none⟩)
          | 3 => fun v w => v = .map (some rr)
          | 4 => fun v w => v = .string s
          | 5 => fun v w => ∃ g, v = .slice (some ⟨g, 0, none⟩) 0 0 ∧ Blk w g #[] 5 ∧ w5.heap.size ≤ g
          | 6 => fun v w => v = .slice a bs.length c
          | 7 => fun v w => ∃ a2 c2, v = .slice a2 bs.length c2 ∧ Sl w 5 1 a2 bs.length c2 (bs.map u8v) ∧ ∀ q, a2 = some q → w5.heap.size ≤ q.block
          | _ => fun v w => True) rfl rfl rfl rfl rfl (Keep.refl []) (fun _ _ _ h1 h2 => h1.tr h2) ?_ ?_ ?_
      · intro iA v w w' h hL
        match iA, h with
        | 0, h =>
          exact h
        | 1, h =>
          exact h
        | 2, h =>
          exact h
        | 3, h =>
          exact h
        | 4, h =>
          exact h
        | 5, h =>
          obtain ⟨g, h1, h2, h3⟩ := h
          exact ⟨g, h1, h2.keep hL (by simp), h3⟩
        | 6, h =>
          exact h
        | 7, h =>
          obtain ⟨a2, c2, h1, h2, h3⟩ := h
          exact ⟨a2, c2, h1, h2.new hL, h3⟩
        | _ + 8, h => trivial
      · intro iA o him hl eA wA hL hA hD
        match iA, him, hl with
        | 0, _, hl =>
          obtain rfl := Option.some.inj hl
          refine o_gen [(0, _)] ⟨hA 0 (free_of rfl), trivial⟩ (fun e2 => ?_)
          refine m_ptr rfl rfl ?_
          refine o_nil ⟨Keep.refl _ _, rfl⟩
        | 1, _, hl =>
          obtain rfl := Option.some.inj hl
          refine o_gen [(45, _)] ⟨hD 0 (by decide) 45 rfl, trivial⟩ (fun e2 => ?_)
          refine o_nilc rfl ?_
          refine o_nil ⟨Keep.refl _ _, rfl⟩
        | 2, _, hl =>
          obtain rfl := Option.some.inj hl
          refine o_gen [(46, _)] ⟨hD 1 (by decide) 46 rfl, trivial⟩ (fun e2 => ?_)
          refine o_fld0 rfl rfl ?_
          refine o_nil ⟨Keep.refl _ _, rfl⟩
        | 3, _, hl =>
          obtain rfl := Option.some.inj hl
          refine o_gen [(47, _)] ⟨hD 2 (by decide) 47 rfl, trivial⟩ (fun e2 => ?_)
          refine o_ld rfl rfl (by first | exact hP.blk.at rfl | exact hP.blk.kat (hbase _ hL) rfl) ?_ 
          refine o_nil ⟨Keep.refl _ _, rfl⟩
        | 4, _, hl =>
          obtain rfl := Option.some.inj hl
          refine o_gen [(1, _)] ⟨hA 1 (free_of rfl), trivial⟩ (fun e2 => ?_)
          refine m_str rfl rfl ?_
          refine o_nil ⟨Keep.refl _ _, rfl⟩
        | 5, _, hl =>
          obtain rfl := Option.some.inj hl
          refine o_gen [] trivial (fun e2 => ?_)
          refine o_bsl (E := 5) (cs := #[]) rfl (fun _ => by kernel_rfl) (fun g w6 hB6 hK6 hb6 hZ6 => ?_)
          refine o_nil ⟨hK6, g, rfl, hB6, by have := (hbase _ hL).size; omega⟩
        | 6, _, hl =>
          obtain rfl := Option.some.inj hl
          refine o_gen [(2, _)] ⟨hA 2 (free_of rfl), trivial⟩ (fun e2 => ?_)
          refine m_sl rfl rfl ?_
          refine o_nil ⟨Keep.refl _ _, rfl⟩
        | 7, _, hl =>
          obtain rfl := Option.some.inj hl
          obtain ⟨g, hg, hgB, hgk⟩ := hD 5 (by decide) 50 rfl
          refine o_gen [(50, _), (51, _)] ⟨hg, hD 6 (by decide) 51 rfl, trivial⟩ (fun e2 => ?_)
          refine o_app0 Try.underlying22 inf5 rfl (by decide) rfl rfl hgB (hR.new (hbase _ hL)) (by simp) (u8_one bs) (by simp [maxLen]; omega) (by omega) (fun a2 c2 w6 hS6 hK6 hv6 => ?_)
          refine o_nil ⟨hK6, a2, c2, rfl, hS6, fun q hq => by have := (hbase _ hL).size; rcases hv6 q hq with h | h <;> omega⟩
        | _ + 8, him, _ => exact absurd him (by omega)
      intro eA wA hL hA hV
      obtain ⟨a2, c2, h52, hS6, hf6⟩ := hV 7 (by decide) 52 rfl
      refine o_gen [(48, .map (some rr)), (49, .string s), (52, .slice a2 bs.length c2)] ⟨hV 3 (by decide) 48 rfl, hV 4 (by decide) 49 rfl, h52, trivial⟩ (fun e3 => ?_)
      have hLA := hbase _ hL
      have hlt6 := hS6.lt
      refine o_mput (kv := Value.string) (q := s) Try.underlying55 (key_str Try.underlying9) rfl rfl rfl (hP.rows.keep hLA (by simp)) (.inl rfl) (fun w7 hM7 hK7 hZ7 => ?_)
      refine o_nil ?_
      refine k_seq ?_
      refine k_region ?_
      refine m_int rfl rfl ?_
      refine o_nil ?_
      refine k_ret (ret_tmps (ts := [6]) (v := .int _ _) rfl rfl ?_)
      rw [hzero, if_pos rfl]
      have hnb := E.Mp.nblk (hP.rows.keep hLA (by simp))
      have hS7 : Sl w7 5 1 a2 bs.length c2 (bs.map u8v) := hS6.keep hK7 (fun q hq hm => by
       simp at hm
       rcases hS6.2 with ⟨h0, _⟩ | ⟨g, cur, h0, hB, _⟩
       · rw [h0] at hq; cases hq
       · rw [h0] at hq; cases hq
         simp only at hm
         subst hm
         exact hnb _ _ hB)
      have hrb : r ≠ rr := by have := hP.rows.blk hP.blk; exact this
      refine ⟨rfl, ⟨rr, rf, _, fm, (hP.blk.keep hLA (by simp)).keep hK7 (by simpa using hrb), hM7, (hP.fails.keep hLA (by simp)).keep hK7 (by simpa using fun e => hP.ne e.symm), ?_, hP.get, hP.nodup, hP.ne, hP.low, ?_, Nat.le_refl _⟩, [rr], hLA.also.trans hK7 (fun _ h _ => h), ?_⟩
      · have h1 := ((hP.ok.keep hLA (by simp)).keep hK7 (by intro b hb; simp at hb; subst hb; exact .inr (.inr (fun cs => hnb cs 5)))).mono (show w5.heap.size ≤ w7.heap.size by have := hLA.size; omega)
        exact h1.put s hS7 (fun q hq => ⟨by have := hf6 q hq; omega, by have := hlt6 q hq; omega⟩) h65
      · have := hP.high
        have := hLA.size
        omega
      · intro b hb
        simp at hb
        subst hb
        exact ⟨hP.low.2.1, fun cs T hB => absurd hB (E.Mp.nblk hP.rows cs T)⟩
end Go.Proofs.Ytbfphjhahgpndaa
