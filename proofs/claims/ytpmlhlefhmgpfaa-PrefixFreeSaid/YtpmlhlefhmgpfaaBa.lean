/- The walks of both readers. No condition beyond what each contract names. -/
import Derived.Test.YtpmlhlefhmgpfaaEy
import Derived.Test.YtpmlhlefhmgpfaaBp
namespace Go.Proofs.Ytpmlhlefhmgpfaa
open Go.RowKit E
set_option linter.unusedVariables false
set_option linter.unusedSimpArgs false
set_option maxRecDepth 100000
attribute [local irreducible] ow qw kw kq cw opW Ret
theorem inf5 : infB Try.prog 5 1 1 (.int .u8 0) := ⟨_, rfl, rfl, rfl, rfl⟩
theorem sh3 (p : Nat) : (p : Int).fdiv (2 ^ min 3 IntKind.i64.bits) = ((p / 8 : Nat) : Int) := by
  show (p : Int).fdiv 8 = _
  rw [Int.fdiv_eq_ediv_of_nonneg _ (by decide)]
  omega
theorem and7 (p : Nat) (h : p < 18446744073709551616) : (BitVec.ofInt 64 (p : Int) &&& 7#64).toNat = p % 8 := by
  rw [BitVec.toNat_and, ofN p h]
  exact Nat.and_two_pow_sub_one_eq_mod p 3
theorem mul8 (i : Nat) (h : i < 3) : (8#64 * BitVec.ofInt 64 (i : Int)).toNat = 8 * i := by
  rw [BitVec.toNat_mul, ofN i (by omega)]
  simp
  omega
/-- a reader: its block, its bytes, how many bits were passed -/
def Rdr (T : TypeId) (w : World) (r : Nat) (bs : List (BitVec 8)) (p : Nat) : Prop :=
  ∃ a c, Blk w r #[.slice a bs.length c, .int .i64 (p : Int)] T ∧ Sl w 5 1 a bs.length c (bs.map u8v) ∧ p ≤ 8 * bs.length ∧ bs.length ≤ 140737488355328
theorem Rdr.new {T : TypeId} {w w' : World} {r : Nat} {bs : List (BitVec 8)} {p : Nat} (h : Rdr T w r bs p) (hk : Keep [] w w') : Rdr T w' r bs p := by
  obtain ⟨a, c, hB, hS, hp, hl⟩ := h
  exact ⟨a, c, hB.keep hk (by simp), hS.new hk, hp, hl⟩
/-- a block of another type is turned -/
theorem Rdr.oth {T T' : TypeId} {w w' : World} {r x : Nat} {bs : List (BitVec 8)} {p : Nat} {cs : Array Value} (h : Rdr T w r bs p) (hx : Blk w x cs T') (hT : T ≠ T') (h5 : 5 ≠ T') (hk : Keep [x] w w') : Rdr T w' r bs p := by
  obtain ⟨a, c, hB, hS, hp, hl⟩ := h
  refine ⟨a, c, hB.keep hk (fun hm => ?_), hS.keep hk (hS.off hx h5), hp, hl⟩
  simp at hm
  subst hm
  exact hT (hB.ty hx)
theorem Rdr.keep1 {T T' : TypeId} {w w' : World} {r x : Nat} {bs : List (BitVec 8)} {p : Nat} {cs : Array Value} (h : Rdr T w r bs p) (hx : Blk w x cs T') (hrx : r ≠ x) (h5 : 5 ≠ T') (hk : Keep [x] w w') : Rdr T w' r bs p := by
  obtain ⟨a, c, hB, hS, hp, hl⟩ := h
  exact ⟨a, c, hB.keep hk (by simpa using hrx), hS.keep hk (hS.off hx h5), hp, hl⟩
theorem Rdr.blk {T : TypeId} {w : World} {r : Nat} {bs : List (BitVec 8)} {p : Nat} (h : Rdr T w r bs p) : ∃ cs, Blk w r cs T := by
  obtain ⟨a, c, hB, _⟩ := h
  exact ⟨_, hB⟩
/-- what Take answers: the number, the error, how many bits were passed -/
def tk (bs : List (BitVec 8)) (p : Nat) (n : Int) : Int × Int × Nat :=
  if n < 0 ∨ 16 < n then (0, 1, p) else if 8 * (bs.length : Int) - p < n then (0, 2, p) else (num (fun j => bitAt bs (p + j)) n.toNat, 0, p + n.toNat)
theorem tk_arg {bs : List (BitVec 8)} {p : Nat} {n : Int} (h : n < 0 ∨ 16 < n) : tk bs p n = (0, 1, p) := if_pos h
theorem tk_short {bs : List (BitVec 8)} {p : Nat} {n : Int} (h : ¬ (n < 0 ∨ 16 < n)) (h2 : 8 * (bs.length : Int) - p < n) : tk bs p n = (0, 2, p) := by
  unfold tk; rw [if_neg h, if_pos h2]
theorem tk_ok {bs : List (BitVec 8)} {p m : Nat} (h : m ≤ 16) (h2 : p + m ≤ 8 * bs.length) : tk bs p (m : Int) = (((num (fun j => bitAt bs (p + j)) m : Nat) : Int), 0, p + m) := by
  unfold tk; rw [if_neg (by omega), if_neg (by omega)]; rfl
/-- the answer of Take in both texts -/
def TkR (T : TypeId) (w : World) (r : Nat) (bs : List (BitVec 8)) (p : Nat) (n : Int) (v : Value) (w' : World) : Prop :=
  v = .tuple #[.int .i64 (tk bs p n).1, .int .i64 (tk bs p n).2.1] ∧ Rdr T w' r bs (tk bs p n).2.2 ∧ Keep [r] w w'
theorem TkR.of {T : TypeId} {w w' : World} {r p q : Nat} {bs : List (BitVec 8)} {n x y : Int} (h : tk bs p n = (x, y, q)) (hR : Rdr T w' r bs q) (hK : Keep [r] w w') : TkR T w r bs p n (.tuple #[.int .i64 x, .int .i64 y]) w' := by
  unfold TkR; rw [h]; exact ⟨rfl, hR, hK⟩
theorem new_ok (w : World) (a : Option Addr) (c : Nat) (bs : List (BitVec 8)) (hR : Rd w a (bs.map u8v)) (hl : bs.length ≤ 140737488355328) :
    Ret Try.prog 23 [.slice a bs.length c] w (fun v w' => ∃ r, v = .pointer (some ⟨r, 0, none⟩) ∧ Rdr 79 w' r bs 0 ∧ Keep [] w w' ∧ w.heap.size ≤ r) := by
  refine fn_enter (n := 8) Try.func23 rfl rfl (Nat.le_of_ble_eq_true rfl) (fun e => ?_)
  refine k_seq ?_
  refine k_region ?_
  refine m_ptr rfl rfl ?_
  refine o_nil ?_
  refine k_seq ?_
  refine k_region ?_
  refine o_bsl (E := 5) (cs := #[]) rfl (fun _ => by kernel_rfl) (fun g w1 hB1 hK1 hb1 hZ1 => ?_)
  refine m_sl rfl rfl ?_
  refine o_app Try.underlying25 inf5 rfl (by decide) rfl rfl (hB1.sl (len := 0) (sz := 1) rfl (by decide)) (hR.new hK1) (by simp) (u8_one bs) (by simp [maxLen]; omega) (by omega) (fun a2 c2 w2 hS2 hK2 hv2 => ?_)
  have hk2 : Keep [] w w2 := Keep.trb hK1 hK2 (by intro p hp; simp at hp; subst hp; simp only; omega)
  refine o_build (v := .agg #[.slice a2 (0 + bs.length) c2, .int .i64 0]) rfl (fun _ => by kernel_rfl) ?_
  refine o_box rfl rfl (fun b w3 hB3 hK3 hb3 hZ3 => ?_)
  refine m_ptr rfl rfl ?_
  refine o_nil ?_
  refine k_ret (ret_tmps (ts := [2]) (v := .pointer _) rfl rfl ?_)
  refine ⟨b, rfl, ⟨a2, c2, ?_, ?_, by omega, hl⟩, hk2.tr hK3, by have := hk2.size; omega⟩
  · rw [Nat.zero_add] at hB3; exact hB3
  · have := hS2.new hK3
    simpa using this
theorem take_ok (w : World) (r p : Nat) (bs : List (BitVec 8)) (n : Int) (h : Rdr 79 w r bs p) :
    Ret Try.prog 24 [.pointer (some ⟨r, 0, none⟩), .int .i64 n] w (fun v w' => TkR 79 w r bs p n v w') := by
  have hR := h
  obtain ⟨a, c, hB, hS, hp, hl⟩ := h
  refine fn_enter (n := 88) Try.func24 rfl rfl (Nat.le_of_ble_eq_true rfl) (fun e => ?_)
  refine k_seq ?_
  refine k_region ?_
  refine m_int rfl rfl ?_
  refine m_int rfl rfl ?_
  refine o_nil ?_
  refine k_seq ?_
  refine k_seq ?_
  refine k_region ?_
  refine m_ptr rfl rfl ?_
  refine b_eqlp Try.underlying43 rfl rfl ?_
  refine m_bool rfl rfl ?_
  refine o_false (t := 12) rfl ((by simp)) ?_
  refine g_yes rfl rfl ?_
  refine m_int rfl rfl ?_
  refine g_yes rfl rfl ?_
  refine b_lss rfl rfl ?_
  refine pick_f rfl rfl ?_
  refine m_bool rfl rfl ?_
  refine o_split (t := 16) rfl (fun h => ?_) (fun h => ?_)
  ·
    refine g_no rfl rfl rfl ?_
    refine g_no rfl rfl rfl ?_
    refine pick_t rfl rfl ?_
    refine o_nil ?_
    refine k_condt rfl ?_
    refine k_seq ?_
    refine k_region ?_
    refine m_int rfl rfl ?_
    refine m_int rfl rfl ?_
    refine o_nil ?_
    refine k_ret (ret_tmps (ts := [4, 5]) (v := .tuple #[.int _ _, .int _ _]) rfl rfl ?_)
    exact TkR.of (tk_arg (.inl h)) hR (Keep.refl _ _)
  ·
    refine g_yes rfl rfl ?_
    refine m_int rfl rfl ?_
    refine g_yes rfl rfl ?_
    refine b_gtr rfl rfl ?_
    refine pick_f rfl rfl ?_
    refine o_nil ?_
    refine k_cond rfl (fun h => ?_) (fun h => ?_)
    ·
      refine k_seq ?_
      refine k_region ?_
      refine m_int rfl rfl ?_
      refine m_int rfl rfl ?_
      refine o_nil ?_
      refine k_ret (ret_tmps (ts := [4, 5]) (v := .tuple #[.int _ _, .int _ _]) rfl rfl ?_)
      exact TkR.of (tk_arg (.inr h)) hR (Keep.refl _ _)
    refine k_skip ?_
    refine k_seq ?_
    refine k_seq ?_
    refine k_qk 12 rfl rfl rfl rfl rfl ?_
    refine q_step (fun w1 hC => m_int rfl rfl (o_nil ⟨rfl, hC⟩)) ?_
    refine q_step (fun w1 hC => m_ptr rfl rfl (o_nil ⟨rfl, hC⟩)) ?_
    refine q_step (fun w1 hC => o_nilc rfl (o_nil ⟨rfl, hC⟩)) ?_
    refine q_step (fun w1 hC => o_fld0 rfl rfl (o_nil ⟨rfl, hC⟩)) ?_
    refine q_step (fun w1 hC => o_ld rfl rfl (by first | exact hB.at rfl | exact hB.kat hC rfl) (o_nil ⟨rfl, hC⟩)) ?_
    refine q_step (fun w1 hC => o_lens Try.underlying25 rfl (o_nil ⟨rfl, hC⟩)) ?_
    refine q_step (fun w1 hC => n_mul rfl rfl (by omega) (o_nil ⟨rfl, hC⟩)) ?_
    refine q_step (fun w1 hC => m_ptr rfl rfl (o_nil ⟨rfl, hC⟩)) ?_
    refine q_step (fun w1 hC => o_nilc rfl (o_nil ⟨rfl, hC⟩)) ?_
    refine q_step (fun w1 hC => o_fld (off := 1) rfl rfl (o_nil ⟨rfl, hC⟩)) ?_
    refine q_step (fun w1 hC => o_ld rfl rfl (by first | exact hB.at rfl | exact hB.kat hC rfl) (o_nil ⟨rfl, hC⟩)) ?_
    refine q_step (fun w1 hC => n_sub rfl rfl (by omega) (o_nil ⟨rfl, hC⟩)) ?_
    refine q_nil ?_
    intro w2 hC2
    have hR2 := hR.new hC2
    have hB := hB.keep hC2 (by simp)
    have hB2 := hB
    have hS := hS.new hC2
    refine b_gtr rfl rfl ?_
    refine o_nil ?_
    refine k_cond rfl (fun h => ?_) (fun h => ?_)
    ·
      refine k_seq ?_
      refine k_region ?_
      refine m_int rfl rfl ?_
      refine m_int rfl rfl ?_
      refine o_nil ?_
      refine k_ret (ret_tmps (ts := [4, 5]) (v := .tuple #[.int _ _, .int _ _]) rfl rfl ?_)
      exact TkR.of (tk_short (by omega) h) hR2 hC2.also
    obtain ⟨m, rfl⟩ : ∃ m : Nat, n = m := ⟨n.toNat, by omega⟩
    refine k_skip ?_
    refine k_seq ?_
    refine k_region ?_
    refine m_int rfl rfl ?_
    refine o_nil ?_
    refine k_seq ?_
    refine k_seq ?_
    refine k_region ?_
    refine m_int rfl rfl ?_
    refine o_nil ?_
    refine k_block ?_
    refine k_loop (σ := Nat × BitVec 32) (fun s => [(0, .pointer (some ⟨r, 0, none⟩)), (1, .int .i64 (m : Int)), (6, .int .u32 (s.2.toNat : Int)), (7, .int .i64 (s.1 : Int))]) (fun s w' => s.1 ≤ 3 ∧ (∀ j, s.2.getLsbD j = (decide (j < 8 * s.1) && bitAt bs (8 * (p / 8) + j))) ∧ w' = w2) (fun s => 3 - s.1) (0, 0#32) ⟨rfl, rfl, rfl, rfl, trivial⟩ ⟨by simp, by intro j; simp, rfl⟩ (fun s e w' hJ => ?_)
    obtain ⟨i, acc⟩ := s
    obtain ⟨hi, hacc, rfl⟩ := hJ
    simp only at hi hacc
    refine k_seq ?_
    refine k_seq ?_
    refine k_region ?_
    refine m_int rfl rfl ?_
    refine b_lss rfl rfl ?_
    refine o_nil ?_
    refine k_cond rfl (fun h => ?_) (fun h => ?_)
    rotate_left
    ·
      obtain rfl : i = 3 := by omega
      refine k_exit rfl ?_
      refine k_seq ?_
      refine k_region ?_
      refine m_int rfl rfl ?_
      refine m_ptr rfl rfl ?_
      refine o_nilc rfl ?_
      refine o_fld (off := 1) rfl rfl ?_
      refine o_ld rfl rfl (by first | exact hB.at rfl | exact hB.kat hC rfl) ?_ 
      refine cv64 rfl Try.underlying47 rfl ?_
      refine v64_and (b := 7#64) rfl rfl ?_
      rw [and7 p (by omega)]
      refine v32_shrn rfl rfl ?_
      refine m_int rfl rfl ?_
      refine cv64 rfl Try.underlying47 rfl ?_
      rw [ofN m (by omega)]
      refine v32_shln (a := 1#32) rfl rfl ?_
      refine v32_sub (b := 1#32) rfl rfl ?_
      refine v32_and rfl rfl ?_
      refine m_int rfl rfl ?_
      refine o_nil ?_
      refine k_seq ?_
      refine k_region ?_
      refine m_ptr rfl rfl ?_
      refine o_nilc rfl ?_
      refine o_fld (off := 1) rfl rfl ?_
      refine o_ld rfl rfl (by first | exact hB.at rfl | exact hB.kat hC rfl) ?_ 
      refine m_int rfl rfl ?_
      refine n_add rfl rfl (by omega) ?_
      refine o_nilc rfl ?_
      refine o_fld (off := 1) rfl rfl ?_
      refine o_st (v := .int _ _) rfl rfl rfl rfl hB (by simp) (fun w' hB hK hZ => ?_)
      rename_i w3
      refine o_nil ?_
      refine k_seq ?_
      refine k_region ?_
      refine m_int rfl rfl ?_
      refine cv32_i rfl Try.underlying3 rfl ?_
      rw [take_val bs p m acc (by omega) hacc]
      refine m_int rfl rfl ?_
      refine m_int rfl rfl ?_
      refine o_nil ?_
      refine k_ret (ret_tmps (ts := [4, 5]) (v := .tuple #[.int _ _, .int _ _]) rfl rfl ?_)
      refine TkR.of (tk_ok (by omega) (by omega)) ⟨a, c, hB, hS.keep hK (hS.off hB2 (by decide)), by omega, hl⟩ (hC2.also.trans hK (fun _ h _ => h))
    have hi3 : i < 3 := by omega
    refine k_skip ?_
    refine k_seq ?_
    refine k_block ?_
    refine k_seq ?_
    refine k_region ?_
    refine m_ptr rfl rfl ?_
    refine o_nilc rfl ?_
    refine o_fld (off := 1) rfl rfl ?_
    refine o_ld rfl rfl (by first | exact hB.at rfl | exact hB.kat hC rfl) ?_ 
    refine b_shrn (c := 3) rfl rfl ?_
    rw [sh3 p]
    refine m_int rfl rfl ?_
    refine n_add rfl rfl (by omega) ?_
    refine m_int rfl rfl ?_
    refine o_nil ?_
    refine k_seq ?_
    refine k_region ?_
    refine m_int rfl rfl ?_
    refine m_ptr rfl rfl ?_
    refine o_nilc rfl ?_
    refine o_fld0 rfl rfl ?_
    refine o_ld rfl rfl (by first | exact hB.at rfl | exact hB.kat hC rfl) ?_ 
    refine o_lens Try.underlying25 rfl ?_
    refine b_lss rfl rfl ?_
    refine o_nil ?_
    refine k_cond rfl (fun h => ?_) (fun h => ?_)
    ·
      have hpi : p / 8 + i < bs.length := by omega
      obtain ⟨b1, o1, rfl, _⟩ := hS.rd.at (p / 8 + i) (by simpa using hpi)
      refine k_region ?_
      refine m_int rfl rfl ?_
      refine m_ptr rfl rfl ?_
      refine o_nilc rfl ?_
      refine o_fld0 rfl rfl ?_
      refine o_ld rfl rfl (by first | exact hB.at rfl | exact hB.kat hC rfl) ?_ 
      refine m_int rfl rfl ?_
      refine o_ixs1 (m := p / 8 + i) Try.underlying25 rfl rfl rfl hpi ?_
      refine o_ld rfl rfl (hS.rd.cellK (Keep.refl _ _) (u8_at bs (p / 8 + i) hpi)) ?_
      refine cv8_32 rfl Try.underlying77 rfl ?_
      refine m_int rfl rfl ?_
      refine cv64 rfl Try.underlying47 rfl ?_
      refine v64_mul (a := 8#64) rfl rfl ?_
      rw [mul8 i hi3]
      refine v32_shln rfl rfl ?_
      refine v32_or rfl rfl ?_
      refine m_int rfl rfl ?_
      refine o_nil ?_
      refine k_blk ?_
      refine k_region ?_
      refine m_int rfl rfl ?_
      refine n_add rfl rfl (by omega) ?_
      refine m_int rfl rfl ?_
      refine o_nil ?_
      refine k_goal ⟨(i + 1, _), ⟨rfl, rfl, rfl, rfl, trivial⟩, ⟨by simp only; omega, acc_step bs (p / 8) i acc hi3 hacc hpi, rfl⟩, by simp only; omega⟩
    refine k_skip ?_
    refine k_blk ?_
    refine k_region ?_
    refine m_int rfl rfl ?_
    refine n_add rfl rfl (by omega) ?_
    refine m_int rfl rfl ?_
    refine o_nil ?_
    refine k_goal ⟨(i + 1, acc), ⟨rfl, rfl, rfl, rfl, trivial⟩, ⟨by simp only; omega, acc_out bs (p / 8) i acc hacc (by omega), rfl⟩, by simp only; omega⟩
/-- what Bytes answers, and how many bits were passed -/
def by_ (bs : List (BitVec 8)) (p : Nat) (n : Int) : List (BitVec 8) × Int × Nat :=
  if n < 0 then ([], 1, p) else if (bs.length : Int) - ((p + 7) / 8 : Nat) < n then ([], 2, p) else ((bs.drop ((p + 7) / 8)).take n.toNat, 0, 8 * ((p + 7) / 8 + n.toNat))
theorem by_arg {bs : List (BitVec 8)} {p : Nat} {n : Int} (h : n < 0) : by_ bs p n = ([], 1, p) := if_pos h
theorem by_short {bs : List (BitVec 8)} {p : Nat} {n : Int} (h : ¬ n < 0) (h2 : (bs.length : Int) - ((p + 7) / 8 : Nat) < n) : by_ bs p n = ([], 2, p) := by
  unfold by_; rw [if_neg h, if_pos h2]
theorem by_ok {bs : List (BitVec 8)} {p m : Nat} (h2 : (p + 7) / 8 + m ≤ bs.length) : by_ bs p (m : Int) = ((bs.drop ((p + 7) / 8)).take m, 0, 8 * ((p + 7) / 8 + m)) := by
  unfold by_; rw [if_neg (by omega), if_neg (by omega)]; rfl
/-- the answer of Bytes in both texts -/
def ByR (T : TypeId) (w : World) (r : Nat) (bs : List (BitVec 8)) (p : Nat) (n : Int) (v : Value) (w' : World) : Prop :=
  ∃ u, v = .tuple #[u, .int .i64 (by_ bs p n).2.1] ∧ New w w' 5 u ((by_ bs p n).1.map u8v) ∧ Rdr T w' r bs (by_ bs p n).2.2 ∧ Keep [r] w w'
theorem ByR.of {T : TypeId} {w w' : World} {r p q : Nat} {bs xs : List (BitVec 8)} {n y : Int} {u : Value} (h : by_ bs p n = (xs, y, q)) (hu : New w w' 5 u (xs.map u8v)) (hR : Rdr T w' r bs q) (hK : Keep [r] w w') : ByR T w r bs p n (.tuple #[u, .int .i64 y]) w' := by
  unfold ByR; rw [h]; exact ⟨u, rfl, hu, hR, hK⟩
theorem at_ok (w : World) (r p : Nat) (bs : List (BitVec 8)) (h : Rdr 79 w r bs p) :
    Ret Try.prog 25 [.pointer (some ⟨r, 0, none⟩)] w (fun v w' => v = .int .i64 (p : Int) ∧ w' = w) := by
  obtain ⟨a, c, hB, hS, hp, hl⟩ := h
  refine fn_enter (n := 9) Try.func25 rfl rfl (Nat.le_of_ble_eq_true rfl) (fun e => ?_)
  refine k_seq ?_
  refine k_region ?_
  refine m_int rfl rfl ?_
  refine o_nil ?_
  refine k_seq ?_
  refine k_seq ?_
  refine k_region ?_
  refine m_ptr rfl rfl ?_
  refine b_eqlp Try.underlying43 rfl rfl ?_
  refine o_nil ?_
  refine k_no rfl ((by simp)) ?_
  refine k_skip ?_
  refine k_seq ?_
  refine k_region ?_
  refine m_ptr rfl rfl ?_
  refine o_nilc rfl ?_
  refine o_fld (off := 1) rfl rfl ?_
  refine o_ld rfl rfl (hB.at rfl) ?_ 
  refine m_int rfl rfl ?_
  refine o_nil ?_
  refine k_ret (ret_tmps (ts := [2]) (v := .int _ _) rfl rfl ?_)
  exact ⟨rfl, rfl⟩
theorem left_ok (w : World) (r p : Nat) (bs : List (BitVec 8)) (h : Rdr 79 w r bs p) :
    Ret Try.prog 26 [.pointer (some ⟨r, 0, none⟩)] w (fun v w' => v = .int .i64 (8 * (bs.length : Int) - p) ∧ Keep [] w w') := by
  obtain ⟨a, c, hB, hS, hp, hl⟩ := h
  refine fn_enter (n := 16) Try.func26 rfl rfl (Nat.le_of_ble_eq_true rfl) (fun e => ?_)
  refine k_seq ?_
  refine k_region ?_
  refine m_int rfl rfl ?_
  refine o_nil ?_
  refine k_seq ?_
  refine k_seq ?_
  refine k_region ?_
  refine m_ptr rfl rfl ?_
  refine b_eqlp Try.underlying43 rfl rfl ?_
  refine o_nil ?_
  refine k_no rfl ((by simp)) ?_
  refine k_skip ?_
  refine k_seq ?_
  refine k_qk 10 rfl rfl rfl rfl rfl ?_
  refine q_step (fun w1 hC => m_ptr rfl rfl (o_nil ⟨rfl, hC⟩)) ?_
  refine q_step (fun w1 hC => o_nilc rfl (o_nil ⟨rfl, hC⟩)) ?_
  refine q_step (fun w1 hC => o_fld0 rfl rfl (o_nil ⟨rfl, hC⟩)) ?_
  refine q_step (fun w1 hC => o_ld rfl rfl (hB.kat hC rfl) (o_nil ⟨rfl, hC⟩)) ?_
  refine q_step (fun w1 hC => o_lens Try.underlying25 rfl (o_nil ⟨rfl, hC⟩)) ?_
  refine q_step (fun w1 hC => n_mul rfl rfl (by omega) (o_nil ⟨rfl, hC⟩)) ?_
  refine q_step (fun w1 hC => m_ptr rfl rfl (o_nil ⟨rfl, hC⟩)) ?_
  refine q_step (fun w1 hC => o_nilc rfl (o_nil ⟨rfl, hC⟩)) ?_
  refine q_step (fun w1 hC => o_fld (off := 1) rfl rfl (o_nil ⟨rfl, hC⟩)) ?_
  refine q_step (fun w1 hC => o_ld rfl rfl (hB.kat hC rfl) (o_nil ⟨rfl, hC⟩)) ?_
  refine q_nil ?_
  intro w' hC
  refine n_sub rfl rfl (by omega) ?_
  refine m_int rfl rfl ?_
  refine o_nil ?_
  refine k_ret (ret_tmps (ts := [2]) (v := .int _ _) rfl rfl ?_)
  exact ⟨rfl, hC⟩
theorem rleft_ok (w : World) (r p : Nat) (bs : List (BitVec 8)) (h : Rdr 51 w r bs p) :
    Ret Try.prog 32 [.pointer (some ⟨r, 0, none⟩)] w (fun v w' => v = .int .i64 (8 * (bs.length : Int) - p) ∧ Keep [] w w') := by
  obtain ⟨a, c, hB, hS, hp, hl⟩ := h
  refine fn_enter (n := 14) Try.func32 rfl rfl (Nat.le_of_ble_eq_true rfl) (fun e => ?_)
  refine k_seq ?_
  refine k_region ?_
  refine m_int rfl rfl ?_
  refine o_nil ?_
  refine k_seq ?_
  refine k_qk 10 rfl rfl rfl rfl rfl ?_
  refine q_step (fun w1 hC => m_ptr rfl rfl (o_nil ⟨rfl, hC⟩)) ?_
  refine q_step (fun w1 hC => o_nilc rfl (o_nil ⟨rfl, hC⟩)) ?_
  refine q_step (fun w1 hC => o_fld0 rfl rfl (o_nil ⟨rfl, hC⟩)) ?_
  refine q_step (fun w1 hC => o_ld rfl rfl (hB.kat hC rfl) (o_nil ⟨rfl, hC⟩)) ?_
  refine q_step (fun w1 hC => o_lens Try.underlying25 rfl (o_nil ⟨rfl, hC⟩)) ?_
  refine q_step (fun w1 hC => n_mul rfl rfl (by omega) (o_nil ⟨rfl, hC⟩)) ?_
  refine q_step (fun w1 hC => m_ptr rfl rfl (o_nil ⟨rfl, hC⟩)) ?_
  refine q_step (fun w1 hC => o_nilc rfl (o_nil ⟨rfl, hC⟩)) ?_
  refine q_step (fun w1 hC => o_fld (off := 1) rfl rfl (o_nil ⟨rfl, hC⟩)) ?_
  refine q_step (fun w1 hC => o_ld rfl rfl (hB.kat hC rfl) (o_nil ⟨rfl, hC⟩)) ?_
  refine q_nil ?_
  intro w' hC
  refine n_sub rfl rfl (by omega) ?_
  refine m_int rfl rfl ?_
  refine o_nil ?_
  refine k_ret (ret_tmps (ts := [2]) (v := .int _ _) rfl rfl ?_)
  exact ⟨rfl, hC⟩
theorem tm (q k : Nat) : (q : Int).tmod (k : Int) = ((q % k : Nat) : Int) := by
  rw [Int.tmod_eq_emod_of_nonneg (by omega)]; rfl
theorem td (q k : Nat) : IntKind.i64.wrap ((q : Int).tdiv (k : Int)) = IntKind.i64.wrap ((q / k : Nat) : Int) := by
  rw [Int.tdiv_eq_ediv_of_nonneg (by omega)]; rfl
theorem td8 (q : Nat) (h : q < 9223372036854775807) : IntKind.i64.wrap ((q : Int).tdiv 8) = ((q / 8 : Nat) : Int) := by
  rw [show (8 : Int) = ((8 : Nat) : Int) from rfl, td, IntWalk.i64_in _ (by omega)]
theorem tm8 (q : Nat) : (q : Int).tmod 8 = ((q % 8 : Nat) : Int) := tm q 8
theorem sl3 (p m : Nat) (h : p + m < 1152921504606846975) : IntKind.i64.wrap (((p : Int) + (m : Int)) * 2 ^ min 3 IntKind.i64.bits) = ((8 * (p + m) : Nat) : Int) := by
  show IntKind.i64.wrap (((p : Int) + (m : Int)) * 8) = _
  rw [IntWalk.i64_in _ (by omega)]
  omega
theorem byte_bit (bs : List (BitVec 8)) (q : Nat) (h : q / 8 < bs.length) : Int.tmod (((bs[q / 8]).toNat : Int).fdiv (2 ^ min (q % 8) IntKind.i64.bits)) 2 = ((bitAt bs q).toNat : Int) := by
  have e1 : min (q % 8) IntKind.i64.bits = q % 8 := Nat.min_eq_left (by simp [IntKind.bits]; omega)
  have e2 : (((bs[q / 8]).toNat : Int).fdiv (2 ^ (q % 8))) = (((bs[q / 8]).toNat / 2 ^ (q % 8) : Nat) : Int) := by
    rw [Int.fdiv_eq_ediv_of_nonneg _ (Int.le_of_lt (Int.pow_pos (by decide)))]
    rw [Int.natCast_ediv]
    simp
  rw [e1, e2, show (2 : Int) = ((2 : Nat) : Int) from rfl, tm]
  congr 1
  unfold bitAt
  rw [List.getD_eq_getElem?_getD, List.getElem?_eq_getElem h]
  show _ = ((bs[q / 8]).toNat.testBit (q % 8)).toNat
  rw [Nat.testBit_eq_decide_div_mod_eq]
  have := Nat.mod_two_eq_zero_or_one ((bs[q / 8]).toNat / 2 ^ (q % 8))
  rcases this with h | h <;> rw [h] <;> simp
theorem andn7 (p : Nat) (h : p < 9223372036854775000) : IntKind.i64.wrap (BitVec.ofInt IntKind.i64.bits ((p : Int) + 7) &&& ~~~ BitVec.ofInt IntKind.i64.bits 7).toNat = ((8 * ((p + 7) / 8) : Nat) : Int) := by
  have e1 : (BitVec.ofInt 64 ((p : Int) + 7) &&& ~~~ BitVec.ofInt 64 7).toNat = 8 * ((p + 7) / 8) := by
    have e2 : BitVec.ofInt 64 ((p : Int) + 7) &&& ~~~ BitVec.ofInt 64 7 = (BitVec.ofInt 64 ((p + 7 : Nat) : Int) >>> 3) <<< 3 := by
      apply BitVec.eq_of_getLsbD_eq
      intro j hj
      rw [BitVec.getLsbD_and, BitVec.getLsbD_not, BitVec.getLsbD_shiftLeft, BitVec.getLsbD_ushiftRight]
      have e3 : (BitVec.ofInt 64 7).getLsbD j = decide (j < 3) := by
        have : ∀ j : Fin 64, (BitVec.ofInt 64 7).getLsbD j = decide (j.val < 3) := by decide
        exact this ⟨j, hj⟩
      rw [e3, show ((p + 7 : Nat) : Int) = (p : Int) + 7 by omega]
      by_cases h3 : j < 3
      · simp [h3]
      · rw [show 3 + (j - 3) = j by omega]
        simp [h3, hj]
    rw [e2, BitVec.toNat_shiftLeft, BitVec.toNat_ushiftRight, ofN _ (by omega), Nat.shiftRight_eq_div_pow, Nat.shiftLeft_eq]
    omega
  show IntKind.i64.wrap ((BitVec.ofInt 64 ((p : Int) + 7) &&& ~~~ BitVec.ofInt 64 7).toNat : Int) = _
  rw [e1, IntWalk.i64_in _ (by omega)]
theorem align_ok (w : World) (r p : Nat) (bs : List (BitVec 8)) (h : Rdr 79 w r bs p) :
    Ret Try.prog 28 [.pointer (some ⟨r, 0, none⟩)] w (fun v w' => Rdr 79 w' r bs (8 * ((p + 7) / 8)) ∧ Keep [r] w w') := by
  obtain ⟨a, c, hB, hS, hp, hl⟩ := h
  refine fn_enter (n := 13) Try.func28 rfl rfl (Nat.le_of_ble_eq_true rfl) (fun e => ?_)
  refine k_seq ?_
  refine k_region ?_
  refine m_ptr rfl rfl ?_
  refine b_neqp Try.underlying43 rfl rfl ?_
  refine o_nil ?_
  refine k_yes rfl ((by simp)) ?_
  refine k_region ?_
  refine m_ptr rfl rfl ?_
  refine m_ptr rfl rfl ?_
  refine o_nilc rfl ?_
  refine o_fld (off := 1) rfl rfl ?_
  refine o_ld rfl rfl (hB.at rfl) ?_ 
  refine n_add rfl rfl (by omega) ?_
  refine b_andNot rfl rfl ?_
  rw [andn7 p (by omega)]
  refine o_nilc rfl ?_
  refine o_fld (off := 1) rfl rfl ?_
  refine o_st (v := .int _ _) rfl rfl rfl rfl hB (by simp) (fun w2 hB2 hK hZ => ?_)
  refine o_nil ?_
  refine k_end (end_tmps (ts := []) (v := .tuple #[]) rfl rfl ?_)
  exact ⟨⟨a, c, hB2, hS.keep hK (hS.off hB (by decide)), by omega, hl⟩, hK⟩
theorem ralign_ok (w : World) (r p : Nat) (bs : List (BitVec 8)) (h : Rdr 51 w r bs p) :
    Ret Try.prog 29 [.pointer (some ⟨r, 0, none⟩)] w (fun v w' => Rdr 51 w' r bs (8 * ((p + 7) / 8)) ∧ Keep [r] w w') := by
  have hpl := h
  obtain ⟨_, _, _, _, hp, hl⟩ := hpl
  refine fn_enter (n := 16) Try.func29 rfl rfl (Nat.le_of_ble_eq_true rfl) (fun e => ?_)
  refine k_block ?_
  refine k_loop (σ := Nat) (fun q => [(0, .pointer (some ⟨r, 0, none⟩))]) (fun q w' => p ≤ q ∧ q ≤ 8 * ((p + 7) / 8) ∧ Rdr 51 w' r bs q ∧ Keep [r] w w') (fun q => 8 * ((p + 7) / 8) - q) p ⟨rfl, trivial⟩ ⟨by omega, by omega, h, Keep.refl _ _⟩ (fun q e w2 hJ => ?_)
  obtain ⟨h1, h2, hR, hk⟩ := hJ
  have hR' := hR
  obtain ⟨a, c, hB, hS, _, _⟩ := hR'
  refine k_seq ?_
  refine k_seq ?_
  refine k_region ?_
  refine m_ptr rfl rfl ?_
  refine o_nilc rfl ?_
  refine o_fld (off := 1) rfl rfl ?_
  refine o_ld rfl rfl (hB.at rfl) ?_ 
  refine b_rem rfl rfl (by omega) ?_
  rw [tm8 q]
  refine b_neq rfl rfl ?_
  refine o_nil ?_
  refine k_cond rfl (fun h => ?_) (fun h => ?_)
  rotate_left
  ·
    refine k_exit rfl ?_
    refine k_end (end_tmps (ts := []) (v := .tuple #[]) rfl rfl ?_)
    rw [show 8 * ((p + 7) / 8) = q by omega]
    exact ⟨hR, hk⟩
  refine k_skip ?_
  refine k_block ?_
  refine k_region ?_
  refine m_ptr rfl rfl ?_
  refine m_ptr rfl rfl ?_
  refine o_nilc rfl ?_
  refine o_fld (off := 1) rfl rfl ?_
  refine o_ld rfl rfl (hB.at rfl) ?_ 
  refine n_add rfl rfl (by omega) ?_
  refine o_nilc rfl ?_
  refine o_fld (off := 1) rfl rfl ?_
  refine o_st (v := .int _ _) rfl rfl rfl rfl hB (by simp) (fun w3 hB3 hK hZ => ?_)
  refine o_nil ?_
  refine k_blk ?_
  have hq : ¬ q % 8 = 0 := by omega
  refine k_goal ⟨q + 1, ⟨rfl, trivial⟩, ⟨by omega, by omega, ⟨a, c, hB3, hS.keep hK (hS.off hB (by decide)), by omega, hl⟩, hk.trans hK (fun _ h _ => h)⟩, by omega⟩
theorem rtake_ok (w : World) (r p : Nat) (bs : List (BitVec 8)) (n : Int) (h : Rdr 51 w r bs p) :
    Ret Try.prog 27 [.pointer (some ⟨r, 0, none⟩), .int .i64 n] w (fun v w' => TkR 51 w r bs p n v w') := by
  have hR := h
  obtain ⟨_, _, _, _, hp, hl⟩ := h
  refine fn_enter (n := 59) Try.func27 rfl rfl (Nat.le_of_ble_eq_true rfl) (fun e => ?_)
  refine k_seq ?_
  refine k_region ?_
  refine m_int rfl rfl ?_
  refine m_int rfl rfl ?_
  refine o_nil ?_
  refine k_seq ?_
  refine k_seq ?_
  refine k_region ?_
  refine m_int rfl rfl ?_
  refine b_lss rfl rfl ?_
  refine m_bool rfl rfl ?_
  refine o_split (t := 11) rfl (fun h => ?_) (fun h => ?_)
  ·
    refine g_no rfl rfl rfl ?_
    refine g_no rfl rfl rfl ?_
    refine pick_t rfl rfl ?_
    refine o_nil ?_
    refine k_condt rfl ?_
    refine k_seq ?_
    refine k_region ?_
    refine m_int rfl rfl ?_
    refine m_int rfl rfl ?_
    refine o_nil ?_
    refine k_ret (ret_tmps (ts := [4, 5]) (v := .tuple #[.int _ _, .int _ _]) rfl rfl ?_)
    exact TkR.of (tk_arg (.inl h)) hR (Keep.refl _ _)
  ·
    refine g_yes rfl rfl ?_
    refine m_int rfl rfl ?_
    refine g_yes rfl rfl ?_
    refine b_gtr rfl rfl ?_
    refine pick_f rfl rfl ?_
    refine o_nil ?_
    refine k_cond rfl (fun h => ?_) (fun h => ?_)
    ·
      refine k_seq ?_
      refine k_region ?_
      refine m_int rfl rfl ?_
      refine m_int rfl rfl ?_
      refine o_nil ?_
      refine k_ret (ret_tmps (ts := [4, 5]) (v := .tuple #[.int _ _, .int _ _]) rfl rfl ?_)
      exact TkR.of (tk_arg (.inr h)) hR (Keep.refl _ _)
    refine k_skip ?_
    refine k_seq ?_
    refine k_seq ?_
    refine k_region ?_
    refine m_int rfl rfl ?_
    refine m_ptr rfl rfl ?_
    refine o_call rfl rfl (rleft_ok w r p bs hR) (fun v w2 hv => ?_)
    obtain ⟨rfl, hK2⟩ := hv
    have hR2 := hR.new hK2
    refine b_gtr rfl rfl ?_
    refine o_nil ?_
    refine k_cond rfl (fun h => ?_) (fun h => ?_)
    ·
      refine k_seq ?_
      refine k_region ?_
      refine m_int rfl rfl ?_
      refine m_int rfl rfl ?_
      refine o_nil ?_
      refine k_ret (ret_tmps (ts := [4, 5]) (v := .tuple #[.int _ _, .int _ _]) rfl rfl ?_)
      exact TkR.of (tk_short (by omega) h) hR2 hK2.also
    obtain ⟨m, rfl⟩ : ∃ m : Nat, n = m := ⟨n.toNat, by omega⟩
    refine k_skip ?_
    refine k_seq ?_
    refine k_region ?_
    refine m_int rfl rfl ?_
    refine m_int rfl rfl ?_
    refine o_nil ?_
    refine k_seq ?_
    refine k_seq ?_
    refine k_region ?_
    refine m_int rfl rfl ?_
    refine o_nil ?_
    refine k_block ?_
    refine k_loop (σ := Nat) (fun i => [(0, .pointer (some ⟨r, 0, none⟩)), (1, .int .i64 (m : Int)), (6, .int .i64 ((num (fun j => bitAt bs (p + j)) i : Nat) : Int)), (7, .int .i64 ((2 ^ i : Nat) : Int)), (8, .int .i64 (i : Int))]) (fun i w' => i ≤ m ∧ Rdr 51 w' r bs (p + i) ∧ Keep [r] w w') (fun i => m - i) 0 ⟨rfl, rfl, rfl, rfl, rfl, trivial⟩ ⟨by omega, hR2, hK2.also⟩ (fun i e w3 hJ => ?_)
    obtain ⟨hi, hR3, hk3⟩ := hJ
    refine k_seq ?_
    refine k_seq ?_
    refine k_region ?_
    refine m_int rfl rfl ?_
    refine m_int rfl rfl ?_
    refine b_lss rfl rfl ?_
    refine o_nil ?_
    refine k_cond rfl (fun h => ?_) (fun h => ?_)
    rotate_left
    ·
      refine k_exit rfl ?_
      refine k_seq ?_
      refine k_region ?_
      refine m_int rfl rfl ?_
      refine m_int rfl rfl ?_
      refine m_int rfl rfl ?_
      refine o_nil ?_
      refine k_ret (ret_tmps (ts := [4, 5]) (v := .tuple #[.int _ _, .int _ _]) rfl rfl ?_)
      obtain rfl : i = m := by omega
      exact TkR.of (tk_ok (by omega) (by omega)) hR3 hk3
    have him : i < m := by omega
    have hpi : (p + i) / 8 < bs.length := by omega
    have hp16 : 2 ^ i ≤ 2 ^ 16 := Nat.pow_le_pow_right (by decide) (by omega)
    have hnum := num_lt (fun j => bitAt bs (p + j)) i
    obtain ⟨a, c, hB, hS, _, _⟩ := hR3
    obtain ⟨b1, o1, rfl, _⟩ := hS.rd.at ((p + i) / 8) (by simpa using hpi)
    refine k_skip ?_
    refine k_seq ?_
    refine k_block ?_
    refine k_seq ?_
    refine k_qk 23 rfl rfl rfl rfl rfl ?_
    refine q_step (fun w1 hC => m_int rfl rfl (o_nil ⟨rfl, hC⟩)) ?_
    refine q_step (fun w1 hC => m_int rfl rfl (o_nil ⟨rfl, hC⟩)) ?_
    refine q_step (fun w1 hC => m_ptr rfl rfl (o_nil ⟨rfl, hC⟩)) ?_
    refine q_step (fun w1 hC => o_nilc rfl (o_nil ⟨rfl, hC⟩)) ?_
    refine q_step (fun w1 hC => o_fld0 rfl rfl (o_nil ⟨rfl, hC⟩)) ?_
    refine q_step (fun w1 hC => o_ld rfl rfl (by first | exact hB.at rfl | exact hB.kat hC rfl) (o_nil ⟨rfl, hC⟩)) ?_
    refine q_step (fun w1 hC => m_ptr rfl rfl (o_nil ⟨rfl, hC⟩)) ?_
    refine q_step (fun w1 hC => o_nilc rfl (o_nil ⟨rfl, hC⟩)) ?_
    refine q_step (fun w1 hC => o_fld (off := 1) rfl rfl (o_nil ⟨rfl, hC⟩)) ?_
    refine q_step (fun w1 hC => o_ld rfl rfl (by first | exact hB.at rfl | exact hB.kat hC rfl) (o_nil ⟨rfl, hC⟩)) ?_
    refine q_step (fun w1 hC => b_quo (a := ((p + i : Nat) : Int)) rfl rfl (by omega) (o_nil ⟨rfl, hC⟩)) ?_
    show qw _ _ _ _ _ _ (upd _ 34 (.int .i64 (IntKind.i64.wrap (((p + i : Nat) : Int).tdiv 8))))
    rw [td8 (p + i) (by omega)]
    refine q_step (fun w1 hC => o_ixs1 (m := (p + i) / 8) Try.underlying25 rfl rfl rfl hpi (o_nil ⟨rfl, hC⟩)) ?_
    refine q_step (fun w1 hC => o_ld rfl rfl (hS.rd.cellK hC (u8_at bs ((p + i) / 8) hpi)) (o_nil ⟨rfl, hC⟩)) ?_
    refine q_step (fun w1 hC => cv8_i rfl Try.underlying3 rfl (o_nil ⟨rfl, hC⟩)) ?_
    refine q_step (fun w1 hC => m_ptr rfl rfl (o_nil ⟨rfl, hC⟩)) ?_
    refine q_step (fun w1 hC => o_nilc rfl (o_nil ⟨rfl, hC⟩)) ?_
    refine q_step (fun w1 hC => o_fld (off := 1) rfl rfl (o_nil ⟨rfl, hC⟩)) ?_
    refine q_step (fun w1 hC => o_ld rfl rfl (by first | exact hB.at rfl | exact hB.kat hC rfl) (o_nil ⟨rfl, hC⟩)) ?_
    refine q_step (fun w1 hC => b_rem (a := ((p + i : Nat) : Int)) rfl rfl (by omega) (o_nil ⟨rfl, hC⟩)) ?_
    show qw _ _ _ _ _ _ (upd _ 42 (.int .i64 (((p + i : Nat) : Int).tmod 8)))
    rw [tm8 (p + i)]
    refine q_step (fun w1 hC => cv64 rfl Try.underlying47 rfl (o_nil ⟨rfl, hC⟩)) ?_
    show qw _ _ _ _ _ _ (upd _ 43 (.int .u64 ((BitVec.ofInt 64 (((p + i) % 8 : Nat) : Int)).toNat : Int)))
    rw [ofN _ (by omega)]
    refine q_step (fun w1 hC => b_shrn rfl rfl (o_nil ⟨rfl, hC⟩)) ?_
    refine q_step (fun w1 hC => b_rem rfl rfl (by omega) (o_nil ⟨rfl, hC⟩)) ?_
    show qw _ _ _ _ _ _ (upd _ 45 (.int .i64 (Int.tmod (((bs[(p + i) / 8]).toNat : Int).fdiv (2 ^ min ((p + i) % 8) IntKind.i64.bits)) 2)))
    rw [byte_bit bs (p + i) hpi]
    refine q_step (fun w1 hC => n_mul rfl rfl (by cases bitAt bs (p + i) <;> simp only [Bool.toNat_true, Bool.toNat_false] <;> omega) (o_nil ⟨rfl, hC⟩)) ?_
    refine q_nil ?_
    intro w4 hC4
    have hB := hB.keep hC4 (by simp)
    have hS := hS.new hC4
    refine n_add rfl rfl (by cases bitAt bs (p + i) <;> simp only [Bool.toNat_true, Bool.toNat_false] <;> omega) ?_
    refine m_int rfl rfl ?_
    refine o_nil ?_
    refine k_seq ?_
    refine k_region ?_
    refine m_int rfl rfl ?_
    refine n_mul rfl rfl (by omega) ?_
    refine m_int rfl rfl ?_
    refine o_nil ?_
    refine k_region ?_
    refine m_ptr rfl rfl ?_
    refine m_ptr rfl rfl ?_
    refine o_nilc rfl ?_
    refine o_fld (off := 1) rfl rfl ?_
    refine o_ld rfl rfl (by first | exact hB.at rfl | exact hB.kat hC rfl) ?_ 
    refine n_add rfl rfl (by omega) ?_
    refine o_nilc rfl ?_
    refine o_fld (off := 1) rfl rfl ?_
    refine o_st (v := .int _ _) rfl rfl rfl rfl hB (by simp) (fun w5 hB5 hK5 hZ5 => ?_)
    refine o_nil ?_
    refine k_blk ?_
    refine k_region ?_
    refine m_int rfl rfl ?_
    refine n_add rfl rfl (by omega) ?_
    refine m_int rfl rfl ?_
    refine o_nil ?_
    refine k_goal ⟨i + 1, ⟨rfl, rfl, ?_, ?_, rfl, trivial⟩, ⟨by omega, ⟨_, c, hB5, hS.keep hK5 (hS.off hB (by decide)), by omega, hl⟩, (hk3.trans hC4 (by simp)).trans hK5 (fun _ h _ => h)⟩, by omega⟩
    · show Value.int .i64 _ = Value.int .i64 _
      congr 1
    · show Value.int .i64 _ = Value.int .i64 _
      congr 1
      rw [Nat.pow_succ, Nat.mul_comm]
      rfl
theorem bytes_ok (w : World) (r p : Nat) (bs : List (BitVec 8)) (n : Int) (hn : n ≤ 9223372036854775807) (h : Rdr 79 w r bs p) :
    Ret Try.prog 30 [.pointer (some ⟨r, 0, none⟩), .int .i64 n] w (fun v w' => ByR 79 w r bs p n v w') := by
  have hR := h
  obtain ⟨a, c, hB, hS, hp, hl⟩ := h
  refine fn_enter (n := 46) Try.func30 rfl rfl (Nat.le_of_ble_eq_true rfl) (fun e => ?_)
  refine k_seq ?_
  refine k_region ?_
  refine m_sl rfl rfl ?_
  refine m_int rfl rfl ?_
  refine o_nil ?_
  refine k_seq ?_
  refine k_seq ?_
  refine k_region ?_
  refine m_ptr rfl rfl ?_
  refine b_eqlp Try.underlying43 rfl rfl ?_
  refine m_bool rfl rfl ?_
  refine o_false (t := 9) rfl ((by simp)) ?_
  refine g_yes rfl rfl ?_
  refine m_int rfl rfl ?_
  refine g_yes rfl rfl ?_
  refine b_lss rfl rfl ?_
  refine pick_f rfl rfl ?_
  refine o_nil ?_
  refine k_cond rfl (fun h => ?_) (fun h => ?_)
  ·
    refine k_seq ?_
    refine k_region ?_
    refine m_sl rfl rfl ?_
    refine m_int rfl rfl ?_
    refine o_nil ?_
    refine k_ret (ret_tmps (ts := [4, 5]) (v := .tuple #[.slice _ _ _, .int _ _]) rfl rfl ?_)
    exact ByR.of (by_arg h) New.nil hR (Keep.refl _ _)
  refine k_skip ?_
  refine k_seq ?_
  refine k_region ?_
  refine m_ptr rfl rfl ?_
  refine o_nilc rfl ?_
  refine o_fld (off := 1) rfl rfl ?_
  refine o_ld rfl rfl (hB.at rfl) ?_ 
  refine n_add rfl rfl (by omega) ?_
  refine b_shrn (c := 3) rfl rfl ?_
  rw [show (p : Int) + 7 = ((p + 7 : Nat) : Int) by omega, sh3 (p + 7)]
  refine m_int rfl rfl ?_
  refine o_nil ?_
  refine k_seq ?_
  refine k_seq ?_
  refine k_region ?_
  refine m_int rfl rfl ?_
  refine m_ptr rfl rfl ?_
  refine o_nilc rfl ?_
  refine o_fld0 rfl rfl ?_
  refine o_ld rfl rfl (hB.at rfl) ?_ 
  refine o_lens Try.underlying25 rfl ?_
  refine m_int rfl rfl ?_
  refine n_sub rfl rfl (by omega) ?_
  refine b_gtr rfl rfl ?_
  refine o_nil ?_
  refine k_cond rfl (fun h => ?_) (fun h => ?_)
  ·
    refine k_seq ?_
    refine k_region ?_
    refine m_sl rfl rfl ?_
    refine m_int rfl rfl ?_
    refine o_nil ?_
    refine k_ret (ret_tmps (ts := [4, 5]) (v := .tuple #[.slice _ _ _, .int _ _]) rfl rfl ?_)
    exact ByR.of (by_short (by omega) h) New.nil hR (Keep.refl _ _)
  obtain ⟨m, rfl⟩ : ∃ m : Nat, n = m := ⟨n.toNat, by omega⟩
  have hpm : (p + 7) / 8 + m ≤ bs.length := by omega
  refine k_skip ?_
  refine k_seq ?_
  refine k_region ?_
  refine m_ptr rfl rfl ?_
  refine m_int rfl rfl ?_
  refine m_int rfl rfl ?_
  refine n_add rfl rfl (by omega) ?_
  refine b_shln (c := 3) rfl rfl ?_
  rw [sl3 _ _ (by omega)]
  refine o_nilc rfl ?_
  refine o_fld (off := 1) rfl rfl ?_
  refine o_st (v := .int _ _) rfl rfl rfl rfl hB (by simp) (fun w2 hB2 hK2 hZ2 => ?_)
  have hS2 := hS.keep hK2 (hS.off hB (by decide))
  refine o_nil ?_
  refine k_seq ?_
  refine k_region ?_
  refine o_bsl (E := 5) (cs := #[]) rfl (fun _ => by kernel_rfl) (fun g w3 hB3 hK3 hb3 hZ3 => ?_)
  refine m_ptr rfl rfl ?_
  refine o_nilc rfl ?_
  refine o_fld0 rfl rfl ?_
  refine o_ld rfl rfl (hB2.kat hK3 rfl) ?_
  refine m_int rfl rfl ?_
  refine m_int rfl rfl ?_
  refine m_int rfl rfl ?_
  refine n_add rfl rfl (by omega) ?_
  refine o_sllh (lo := (p + 7) / 8) (hi := (p + 7) / 8 + m) (sz := 1) Try.underlying25 rfl rfl rfl rfl (by omega) (by have := hS.le; omega) ?_
  refine o_app Try.underlying25 inf5 rfl (by decide) rfl rfl (hB3.sl (len := 0) (sz := 1) rfl (by decide)) (news := ((bs.drop ((p + 7) / 8)).take m).map u8v) ?_ ?_ (u8_one _) (by simp [maxLen]; omega) (by omega) (fun a4 c4 w4 hS4 hK4 hv4 => ?_)
  · have := (cutAt_rd (lo := (p + 7) / 8) (cap := c) (sz := 1) (hS2.rd.new hK3) (by simp; omega) (by have := hS.le; omega) (by simp; exact hS.le)).take m
    simpa [List.map_drop, List.map_take] using this
  · simp; omega
  refine m_sl rfl rfl ?_
  refine m_int rfl rfl ?_
  refine o_nil ?_
  refine k_ret (ret_tmps (ts := [4, 5]) (v := .tuple #[.slice _ _ _, .int _ _]) rfl rfl ?_)
  have hk4 : Keep [] w2 w4 := Keep.trb hK3 hK4 (by intro q hq; simp at hq; subst hq; simp only; omega)
  have hlen : ((bs.drop ((p + 7) / 8)).take m).length = m := by simp; omega
  refine ByR.of (by_ok hpm) ⟨a4, c4, ?_, ?_, ?_⟩ ⟨a, c, hB2.keep hk4 (by simp), hS2.new hk4, by omega, hl⟩ (hK2.trans hk4 (by simp))
  · rw [List.length_map, hlen, Nat.add_sub_cancel_left, Nat.zero_add]
  · rw [List.length_map, hlen]
    simpa [Nat.add_sub_cancel_left] using hS4
  · exact fresh_app (by intro q hq; simp at hq; subst hq; simp only; omega) (by have := hK3.size; omega) hv4
theorem rbytes_ok (w : World) (r p : Nat) (bs : List (BitVec 8)) (n : Int) (hn : n ≤ 9223372036854775807) (h : Rdr 51 w r bs p) :
    Ret Try.prog 31 [.pointer (some ⟨r, 0, none⟩), .int .i64 n] w (fun v w' => ByR 51 w r bs p n v w') := by
  have hR := h
  obtain ⟨a, c, hB, hS, hp, hl⟩ := h
  refine fn_enter (n := 42) Try.func31 rfl rfl (Nat.le_of_ble_eq_true rfl) (fun e => ?_)
  refine k_seq ?_
  refine k_region ?_
  refine m_sl rfl rfl ?_
  refine m_int rfl rfl ?_
  refine o_nil ?_
  refine k_seq ?_
  refine k_seq ?_
  refine k_region ?_
  refine m_int rfl rfl ?_
  refine b_lss rfl rfl ?_
  refine o_nil ?_
  refine k_cond rfl (fun h => ?_) (fun h => ?_)
  ·
    refine k_seq ?_
    refine k_region ?_
    refine m_sl rfl rfl ?_
    refine m_int rfl rfl ?_
    refine o_nil ?_
    refine k_ret (ret_tmps (ts := [4, 5]) (v := .tuple #[.slice _ _ _, .int _ _]) rfl rfl ?_)
    exact ByR.of (by_arg h) New.nil hR (Keep.refl _ _)
  refine k_skip ?_
  refine k_seq ?_
  refine k_region ?_
  refine m_ptr rfl rfl ?_
  refine o_nilc rfl ?_
  refine o_fld (off := 1) rfl rfl ?_
  refine o_ld rfl rfl (hB.at rfl) ?_ 
  refine n_add rfl rfl (by omega) ?_
  refine b_quo rfl rfl (by omega) ?_
  rw [show (p : Int) + 7 = ((p + 7 : Nat) : Int) by omega, td8 (p + 7) (by omega)]
  refine m_int rfl rfl ?_
  refine o_nil ?_
  refine k_seq ?_
  refine k_seq ?_
  refine k_region ?_
  refine m_int rfl rfl ?_
  refine m_ptr rfl rfl ?_
  refine o_nilc rfl ?_
  refine o_fld0 rfl rfl ?_
  refine o_ld rfl rfl (hB.at rfl) ?_ 
  refine o_lens Try.underlying25 rfl ?_
  refine m_int rfl rfl ?_
  refine n_sub rfl rfl (by omega) ?_
  refine b_gtr rfl rfl ?_
  refine o_nil ?_
  refine k_cond rfl (fun h => ?_) (fun h => ?_)
  ·
    refine k_seq ?_
    refine k_region ?_
    refine m_sl rfl rfl ?_
    refine m_int rfl rfl ?_
    refine o_nil ?_
    refine k_ret (ret_tmps (ts := [4, 5]) (v := .tuple #[.slice _ _ _, .int _ _]) rfl rfl ?_)
    exact ByR.of (by_short (by omega) h) New.nil hR (Keep.refl _ _)
  obtain ⟨m, rfl⟩ : ∃ m : Nat, n = m := ⟨n.toNat, by omega⟩
  have hpm : (p + 7) / 8 + m ≤ bs.length := by omega
  refine k_skip ?_
  refine k_seq ?_
  refine k_region ?_
  refine m_ptr rfl rfl ?_
  refine m_int rfl rfl ?_
  refine m_int rfl rfl ?_
  refine n_add rfl rfl (by omega) ?_
  refine n_mul rfl rfl (by omega) ?_
  refine o_nilc rfl ?_
  refine o_fld (off := 1) rfl rfl ?_
  refine o_st (v := .int _ _) rfl rfl rfl rfl hB (by simp) (fun w2 hB2 hK2 hZ2 => ?_)
  have hS2 := hS.keep hK2 (hS.off hB (by decide))
  refine o_nil ?_
  refine k_seq ?_
  refine k_region ?_
  refine o_bsl (E := 5) (cs := #[]) rfl (fun _ => by kernel_rfl) (fun g w3 hB3 hK3 hb3 hZ3 => ?_)
  refine m_ptr rfl rfl ?_
  refine o_nilc rfl ?_
  refine o_fld0 rfl rfl ?_
  refine o_ld rfl rfl (hB2.kat hK3 rfl) ?_
  refine m_int rfl rfl ?_
  refine m_int rfl rfl ?_
  refine m_int rfl rfl ?_
  refine n_add rfl rfl (by omega) ?_
  refine o_sllh (lo := (p + 7) / 8) (hi := (p + 7) / 8 + m) (sz := 1) Try.underlying25 rfl rfl rfl rfl (by omega) (by have := hS.le; omega) ?_
  refine o_app Try.underlying25 inf5 rfl (by decide) rfl rfl (hB3.sl (len := 0) (sz := 1) rfl (by decide)) (news := ((bs.drop ((p + 7) / 8)).take m).map u8v) ?_ ?_ (u8_one _) (by simp [maxLen]; omega) (by omega) (fun a4 c4 w4 hS4 hK4 hv4 => ?_)
  · have := (cutAt_rd (lo := (p + 7) / 8) (cap := c) (sz := 1) (hS2.rd.new hK3) (by simp; omega) (by have := hS.le; omega) (by simp; exact hS.le)).take m
    simpa [List.map_drop, List.map_take] using this
  · simp; omega
  refine m_sl rfl rfl ?_
  refine m_int rfl rfl ?_
  refine o_nil ?_
  refine k_ret (ret_tmps (ts := [4, 5]) (v := .tuple #[.slice _ _ _, .int _ _]) rfl rfl ?_)
  have hk4 : Keep [] w2 w4 := Keep.trb hK3 hK4 (by intro q hq; simp at hq; subst hq; simp only; omega)
  have hlen : ((bs.drop ((p + 7) / 8)).take m).length = m := by simp; omega
  refine ByR.of (by_ok hpm) ⟨a4, c4, ?_, ?_, ?_⟩ ⟨a, c, hB2.keep hk4 (by simp), hS2.new hk4, by omega, hl⟩ (hK2.trans hk4 (by simp))
  · rw [List.length_map, hlen, Nat.add_sub_cancel_left, Nat.zero_add]
  · rw [List.length_map, hlen]
    simpa [Nat.add_sub_cancel_left] using hS4
  · exact fresh_app (by intro q hq; simp at hq; subst hq; simp only; omega) (by have := hK3.size; omega) hv4
end Go.Proofs.Ytpmlhlefhmgpfaa
