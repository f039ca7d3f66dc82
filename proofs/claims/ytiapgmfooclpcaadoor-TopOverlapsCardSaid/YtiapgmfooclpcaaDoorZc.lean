/- Texts of this proof laid together: Tf, Tg, ShA, Th, Ti, Tj, Tk, Tl, ShB, Tm, Tn, To, Tq, Tr, Ts, Tu. No condition beyond what each lemma names. -/
import Derived.Test.YtiapgmfooclpcaaDoorZb
import Derived.Shelf.Strings.Split
import Derived.Shelf.Strings.Search2
import Derived.Shelf.Strings.Count
import Derived.Ground.NamesProg
import Derived.Test.YtiapgmfooclpcaaDoorProg
import Derived.Lib.SlBytesRow
import Derived.Shelf.SlSortCmp.WholeK
import Derived.Ground.SlsfProg
/- The document's numbers of bytes, and its End. No condition beyond what each contract names. -/
namespace Go.Proofs.YtiapgmfooclpcaaDoor
open Go.RowKit E
set_option linter.unusedVariables false
set_option linter.unusedSimpArgs false
set_option maxRecDepth 100000
attribute [local irreducible] ow qw kw kq cw opW Ret
def bigN (xs : Bs) : Nat := xs.foldl (fun v b => v * 256 + b.toNat) 0
theorem bigN_app (xs : Bs) (b : BitVec 8) : bigN (xs ++ [b]) = bigN xs * 256 + b.toNat := by simp [bigN]
theorem bigN_acc : ∀ (xs : Bs) (v : Nat), xs.foldl (fun v b => v * 256 + b.toNat) v < (v + 1) * 256 ^ xs.length
  | [], v => by simp
  | b :: xs, v => by
    have ih := bigN_acc xs (v * 256 + b.toNat)
    have hb := b.isLt
    rw [List.foldl_cons, List.length_cons, Nat.pow_succ]
    refine Nat.lt_of_lt_of_le ih ?_
    rw [show (v + 1) * (256 ^ xs.length * 256) = ((v + 1) * 256) * 256 ^ xs.length by rw [Nat.mul_comm (256 ^ xs.length) 256, Nat.mul_assoc]]
    exact Nat.mul_le_mul_right _ (by omega)
theorem bigN_lt (xs : Bs) (n : Nat) (h : xs.length = n) : bigN xs < 256 ^ n := by
  have := bigN_acc xs 0
  rw [h] at this
  simpa [bigN] using this
theorem rdN_foldr (bs : Bs) : ∀ (n p : Nat), p + n ≤ bs.length → rdN bs p n = ((bs.drop p).take n).foldr (fun b v => v * 256 + b.toNat) 0
  | 0, p, _ => by simp [rdN]
  | n + 1, p, h => by
    have hp : p < bs.length := by omega
    rw [List.drop_eq_getElem_cons hp, List.take_succ_cons, List.foldr_cons, ← rdN_foldr bs n (p + 1) (by omega)]
    show (bs.getD p 0#8).toNat + 256 * rdN bs (p + 1) n = _
    rw [getD_lt bs p hp]; omega
theorem bigN_rev (bs : Bs) (n p : Nat) (h : p + n ≤ bs.length) : bigN ((bs.drop p).take n).reverse = rdN bs p n := by
  rw [rdN_foldr bs n p h]
  unfold bigN
  rw [List.foldl_reverse]
theorem turn_ok (w : World) (a : Option Addr) (c : Nat) (xs : Bs) (hR : Rd w a (xs.map u8v)) (hl : xs.length ≤ 1000000) :
    Ret Tryd.prog 65 [.slice a xs.length c] w (fun v w' => ∃ a' c', v = .slice a' xs.length c' ∧ Sl w' 5 1 a' xs.length c' (xs.reverse.map u8v) ∧ Keep [] w w') := by
  refine fn_enter (n := 20) Tryd.func65 rfl rfl (Nat.le_of_ble_eq_true rfl) (fun e => ?_)
  refine k_seq ?_
  refine k_region ?_
  refine m_sl rfl rfl ?_
  refine o_nil ?_
  refine k_seq ?_
  refine k_region ?_
  refine m_sl rfl rfl ?_
  refine o_nil ?_
  refine k_seq ?_
  refine k_seq ?_
  refine k_region ?_
  refine m_sl rfl rfl ?_
  refine o_lens Tryd.underlying25 rfl ?_
  refine n_sub rfl rfl (by omega) ?_
  refine m_int rfl rfl ?_
  refine o_nil ?_
  refine k_block ?_
  refine k_loop (σ := Nat × Option Addr × Nat) (fun z => [(0, .slice a xs.length c), (3, .slice z.2.1 z.1 z.2.2), (4, .int .i64 ((xs.length : Int) - 1 - (z.1 : Int)))]) (fun z w' => z.1 ≤ xs.length ∧ Sl w' 5 1 z.2.1 z.1 z.2.2 ((xs.reverse.take z.1).map u8v) ∧ (∀ q, z.2.1 = some q → w.heap.size ≤ q.block) ∧ Keep [] w w') (fun z => xs.length - z.1) (0, none, 0) ⟨rfl, rfl, congrArg (Value.int .i64) (by simp), trivial⟩ ⟨Nat.zero_le _, Sl.nil _ _ _, by simp, Keep.refl _ _⟩ (fun z e w3 hJ => ?_)
  obtain ⟨j, a3, c3⟩ := z
  obtain ⟨hj, hS3, hf3, hK3⟩ := hJ
  simp only at hj hS3 hf3
  refine k_seq ?_
  refine k_seq ?_
  refine k_region ?_
  refine m_int rfl rfl ?_
  refine b_geq rfl rfl ?_
  refine o_nil ?_
  refine k_cond rfl (fun h => ?_) (fun h => ?_)
  rotate_left
  ·
    obtain rfl : j = xs.length := by omega
    refine k_exit rfl ?_
    refine k_seq ?_
    refine k_region ?_
    refine m_sl rfl rfl ?_
    refine m_sl rfl rfl ?_
    refine o_nil ?_
    refine k_ret (ret_tmps (ts := [2]) (v := .slice _ _ _) rfl rfl ?_)
    rw [List.take_of_length_le (by simp)] at hS3
    exact ⟨a3, c3, rfl, hS3, hK3⟩
  have hjn : j < xs.length := by omega
  obtain ⟨i, hi⟩ : ∃ i, i + j + 1 = xs.length := ⟨xs.length - 1 - j, by omega⟩
  obtain ⟨b1, o1, rfl, _⟩ := hR.at i (by simp; omega)
  refine k_skip ?_
  refine k_seq ?_
  refine k_block ?_
  refine k_region ?_
  refine m_sl rfl rfl ?_
  refine m_sl rfl rfl ?_
  refine m_int rfl rfl ?_
  rw [show (xs.length : Int) - 1 - (j : Int) = (i : Int) by omega]
  refine o_ixs1 (m := i) Tryd.underlying25 rfl rfl rfl (by omega) ?_
  refine o_ld rfl rfl (hR.cellK hK3 (u8_at xs i (by omega))) ?_
  refine o_bsl (E := 5) (cs := #[.int .u8 ((xs[i]).toNat : Int)]) rfl (fun _ => by kernel_rfl) (fun g w4 hB4 hK4 hb4 hZ4 => ?_)
  refine o_app Tryd.underlying25 inf5 rfl (by decide) rfl rfl (hS3.new hK4) hB4.rd rfl (by intro u hu; simp at hu; subst hu; rfl) (by simp [maxLen]; omega) (by omega) (fun a5 c5 w5 hS5 hK5 hv5 => ?_)
  refine m_sl rfl rfl ?_
  refine o_nil ?_
  refine k_blk ?_
  refine k_region ?_
  refine m_int rfl rfl ?_
  refine n_sub rfl rfl (by omega) ?_
  refine m_int rfl rfl ?_
  refine o_nil ?_
  refine k_goal ⟨(j + 1, a5, c5), ⟨rfl, rfl, congrArg (Value.int .i64) (by simp only; omega), trivial⟩, ⟨by show j + 1 ≤ xs.length; omega, ?_, fresh_app hf3 (by have := hK3.size; have := hK4.size; omega) hv5, (hK3.tr hK4).trb hK5 hf3⟩, by show xs.length - (j + 1) < xs.length - j; omega⟩
  have hrv : xs.reverse[j]? = some xs[i] := by
   rw [List.getElem?_reverse (by omega), List.getElem?_eq_getElem (by omega)]
   congr 2
   omega
  show Sl w5 5 1 a5 (j + 1) c5 ((xs.reverse.take (j + 1)).map u8v)
  rw [List.take_add_one, hrv, List.map_append]
  exact hS5
theorem number_ok (w : World) (a : Option Addr) (c : Nat) (xs : Bs) (hR : Rd w a (xs.map u8v)) (hl : xs.length ≤ 7) :
    Ret Tryd.prog 64 [.slice a xs.length c] w (fun v w' => v = .int .i64 (bigN xs : Int) ∧ w' = w) := by
  refine fn_enter (n := 20) Tryd.func64 rfl rfl (Nat.le_of_ble_eq_true rfl) (fun e => ?_)
  refine k_seq ?_
  refine k_region ?_
  refine m_int rfl rfl ?_
  refine o_nil ?_
  refine k_seq ?_
  refine k_region ?_
  refine m_int rfl rfl ?_
  refine o_nil ?_
  refine k_seq ?_
  refine k_seq ?_
  refine k_region ?_
  refine m_int rfl rfl ?_
  refine o_nil ?_
  refine k_block ?_
  refine k_loop (σ := Nat) (fun j => [(0, .slice a xs.length c), (3, .int .i64 (bigN (xs.take j) : Int)), (4, .int .i64 (j : Int))]) (fun j w' => j ≤ xs.length ∧ w' = w) (fun j => xs.length - j) 0 ⟨rfl, rfl, rfl, trivial⟩ ⟨Nat.zero_le _, rfl⟩ (fun j e w3 hJ => ?_)
  obtain ⟨hj, rfl⟩ := hJ
  have hlt := bigN_lt (xs.take j) j (by simp; omega)
  have hpw : (256 : Nat) ^ j ≤ 256 ^ 7 := Nat.pow_le_pow_right (by decide) (by omega)
  refine k_seq ?_
  refine k_seq ?_
  refine k_region ?_
  refine m_int rfl rfl ?_
  refine m_sl rfl rfl ?_
  refine o_lens Tryd.underlying25 rfl ?_
  refine b_lss rfl rfl ?_
  refine o_nil ?_
  refine k_cond rfl (fun h => ?_) (fun h => ?_)
  rotate_left
  ·
    obtain rfl : j = xs.length := by omega
    refine k_exit rfl ?_
    refine k_seq ?_
    refine k_region ?_
    refine m_int rfl rfl ?_
    refine m_int rfl rfl ?_
    refine o_nil ?_
    refine k_ret (ret_tmps (ts := [2]) (v := .int _ _) rfl rfl ?_)
    rw [List.take_length]
    exact ⟨rfl, rfl⟩
  have hjn : j < xs.length := by omega
  obtain ⟨b1, o1, rfl, _⟩ := hR.at j (by simpa using hjn)
  have hpw : (256 : Nat) ^ j ≤ 256 ^ 6 := Nat.pow_le_pow_right (by decide) (by omega)
  have hb := (xs[j]).isLt
  refine k_skip ?_
  refine k_seq ?_
  refine k_block ?_
  refine k_region ?_
  refine m_int rfl rfl ?_
  refine n_mul rfl rfl (by omega) ?_
  refine m_sl rfl rfl ?_
  refine m_int rfl rfl ?_
  refine o_ixs1 Tryd.underlying25 rfl rfl rfl hjn ?_
  refine o_ld rfl rfl (hR.cellK (Keep.refl _ _) (u8_at xs j hjn)) ?_
  refine cv8_i rfl Tryd.underlying2 rfl ?_
  refine n_add rfl rfl (by omega) ?_
  refine m_int rfl rfl ?_
  refine o_nil ?_
  refine k_blk ?_
  refine k_region ?_
  refine m_int rfl rfl ?_
  refine n_add rfl rfl (by omega) ?_
  refine m_int rfl rfl ?_
  refine o_nil ?_
  refine k_goal ⟨j + 1, ⟨rfl, congrArg (Value.int .i64) ?_, rfl, trivial⟩, ⟨by omega, rfl⟩, by omega⟩
  rw [List.take_succ_eq_append_getElem hjn, bigN_app]
  omega
theorem rlittle_ok (w : World) (a : Option Addr) (c p n : Nat) (bs : Bs) (hR : Rd w a (bs.map u8v)) (h1 : 1 ≤ n) (h7 : n ≤ 7) (hl : bs.length ≤ 1000000000000) (hc : bs.length ≤ c) (hp : p + n ≤ bs.length) :
    Ret Tryd.prog 43 [.slice a bs.length c, .int .i64 (p : Int), .int .i64 (n : Int)] w (fun v w' => v = .tuple #[.int .i64 (rdN bs p n : Int), .int .i64 0] ∧ Keep [] w w') := by
  refine fn_enter (n := 38) Tryd.func43 rfl rfl (Nat.le_of_ble_eq_true rfl) (fun e => ?_)
  refine k_seq ?_
  refine k_region ?_
  refine m_int rfl rfl ?_
  refine m_int rfl rfl ?_
  refine o_nil ?_
  refine k_seq ?_
  refine k_seq ?_
  refine k_region ?_
  refine m_int rfl rfl ?_
  refine b_lss rfl rfl ?_
  refine m_bool rfl rfl ?_
  refine o_false (t := 10) rfl ((by omega)) ?_
  refine g_yes rfl rfl ?_
  refine m_int rfl rfl ?_
  refine g_yes rfl rfl ?_
  refine b_gtr rfl rfl ?_
  refine pick_f rfl rfl ?_
  refine m_bool rfl rfl ?_
  refine o_false (t := 14) rfl ((by omega)) ?_
  refine g_yes rfl rfl ?_
  refine m_int rfl rfl ?_
  refine g_yes rfl rfl ?_
  refine b_lss rfl rfl ?_
  refine pick_f rfl rfl ?_
  refine o_nil ?_
  refine k_no rfl ((by omega)) ?_
  refine k_skip ?_
  refine k_seq ?_
  refine k_seq ?_
  refine k_region ?_
  refine m_int rfl rfl ?_
  refine m_sl rfl rfl ?_
  refine o_lens Tryd.underlying25 rfl ?_
  refine b_gtr rfl rfl ?_
  refine m_bool rfl rfl ?_
  refine o_false (t := 22) rfl ((by omega)) ?_
  refine g_yes rfl rfl ?_
  refine m_sl rfl rfl ?_
  refine g_yes rfl rfl ?_
  refine o_lens Tryd.underlying25 rfl ?_
  refine g_yes rfl rfl ?_
  refine m_int rfl rfl ?_
  refine g_yes rfl rfl ?_
  refine n_sub rfl rfl (by omega) ?_
  refine g_yes rfl rfl ?_
  refine m_int rfl rfl ?_
  refine g_yes rfl rfl ?_
  refine b_lss rfl rfl ?_
  refine pick_f rfl rfl ?_
  refine o_nil ?_
  refine k_no rfl ((by omega)) ?_
  refine k_skip ?_
  refine k_seq ?_
  refine k_region ?_
  refine m_sl rfl rfl ?_
  refine m_int rfl rfl ?_
  refine m_int rfl rfl ?_
  refine m_int rfl rfl ?_
  refine n_add rfl rfl (by omega) ?_
  rw [show (p : Int) + (n : Int) = ((p + n : Nat) : Int) by omega]
  refine o_sllh (sz := 1) (lo := p) (hi := p + n) Tryd.underlying25 rfl rfl rfl rfl (by omega) (by omega) ?_
  have hR2 := (cutAt_rd (lo := p) (cap := c) (sz := 1) hR (by simp; omega) (by omega) (by simp; omega)).take n
  rw [Nat.mul_one, ← List.map_drop, ← List.map_take] at hR2
  have hln : ((bs.drop p).take n).length = n := by simp; omega
  rw [Nat.add_sub_cancel_left]
  refine o_call (vs := [.slice (cutAt a p c 1) ((bs.drop p).take n).length (c - p)]) rfl (by rw [hln]; rfl) (turn_ok w _ (c - p) _ hR2 (by omega)) (fun v w3 hv => ?_)
  obtain ⟨a3, c3, rfl, hS3, hK3⟩ := hv
  have hrl : ((bs.drop p).take n).reverse.length = n := by simp; omega
  refine o_call (vs := [.slice a3 ((bs.drop p).take n).reverse.length c3]) rfl (by rw [List.length_reverse]; rfl) (number_ok w3 a3 c3 _ hS3.rd (by omega)) (fun v w4 hv => ?_)
  obtain ⟨rfl, hw4⟩ := hv
  subst hw4
  refine m_int rfl rfl ?_
  refine m_int rfl rfl ?_
  refine o_nil ?_
  refine k_ret (ret_tmps (ts := [6, 7]) (v := .tuple #[.int _ _, .int _ _]) rfl rfl ?_)
  exact ⟨by rw [bigN_rev bs n p hp], hK3⟩
theorem rnum_ok (w : World) (a : Option Addr) (c p n : Nat) (bs : Bs) (hR : Rd w a (bs.map u8v)) (h1 : 1 ≤ n) (h7 : n ≤ 7) (hl : bs.length ≤ 1000000000000) (hc : bs.length ≤ c) (hp : p + n ≤ bs.length) :
    Ret Tryd.prog 26 [.slice a bs.length c, .int .i64 (p : Int), .int .i64 (n : Int)] w (fun v w' => v = .int .i64 (rdN bs p n : Int) ∧ Keep [] w w') := by
  refine fn_enter (n := 17) Tryd.func26 rfl rfl (Nat.le_of_ble_eq_true rfl) (fun e => ?_)
  refine k_seq ?_
  refine k_region ?_
  refine m_int rfl rfl ?_
  refine o_nil ?_
  refine k_seq ?_
  refine k_region ?_
  refine m_sl rfl rfl ?_
  refine m_int rfl rfl ?_
  refine m_int rfl rfl ?_
  refine o_call rfl rfl (rlittle_ok w a c p n bs hR h1 h7 hl hc hp) (fun v w1 hv => ?_)
  obtain ⟨rfl, hK1⟩ := hv
  refine m_any rfl rfl ?_
  refine o_extr (vs := [.int .i64 (rdN bs p n : Int), .int .i64 0]) rfl rfl ?_
  refine o_extr (vs := [.int .i64 (rdN bs p n : Int), .int .i64 0]) rfl rfl ?_
  refine m_int rfl rfl ?_
  refine m_int rfl rfl ?_
  refine o_nil ?_
  refine k_seq ?_
  refine k_region ?_
  refine m_int rfl rfl ?_
  refine m_int rfl rfl ?_
  refine o_nil ?_
  refine k_ret (ret_tmps (ts := [6]) (v := .int _ _) rfl rfl ?_)
  exact ⟨rfl, hK1⟩
theorem rsign_ok (w : World) (a : Option Addr) (c p : Nat) (bs : Bs) (x y : BitVec 8) (hR : Rd w a (bs.map u8v)) (hl : bs.length ≤ 1000000000000) (hp : p + 4 ≤ bs.length) :
    Ret Tryd.prog 25 [.slice a bs.length c, .int .i64 (p : Int), .int .u8 (x.toNat : Int), .int .u8 (y.toNat : Int)] w (fun v w' => v = .bool (decide (q4 bs p = (0x50#8, 0x4b#8, x, y))) ∧ w' = w) := by
  have h0 := getD_lt bs p (by omega)
  have h1 := getD_lt bs (p + 1) (by omega)
  have h2 := getD_lt bs (p + 2) (by omega)
  have h3 := getD_lt bs (p + 3) (by omega)
  have hq : q4 bs p = (bs[p], bs[p + 1], bs[p + 2], bs[p + 3]) := by unfold q4; rw [h0, h1, h2, h3]
  rw [hq]
  obtain ⟨b1, o1, rfl, _⟩ := hR.at p (by simp; omega)
  refine fn_enter (n := 40) Tryd.func25 rfl rfl (Nat.le_of_ble_eq_true rfl) (fun e => ?_)
  refine k_seq ?_
  refine k_region ?_
  refine m_bool rfl rfl ?_
  refine o_nil ?_
  refine k_seq ?_
  refine k_region ?_
  refine m_sl rfl rfl ?_
  refine m_int rfl rfl ?_
  refine o_ixs1 (m := p) Tryd.underlying25 rfl rfl rfl (by omega) ?_
  refine o_ld rfl rfl (hR.cellK (Keep.refl _ _) (u8_at bs p (by omega))) ?_
  refine v8_eql (b := 80#8) rfl rfl ?_
  refine m_bool rfl rfl ?_
  refine o_split (t := 14) rfl (fun h => ?_) (fun h => ?_)
  ·
    have e1 := h
    refine g_yes rfl rfl ?_
    refine m_sl rfl rfl ?_
    refine g_yes rfl rfl ?_
    refine m_int rfl rfl ?_
    refine g_yes rfl rfl ?_
    refine n_add rfl rfl (by omega) ?_
    refine g_yes rfl rfl ?_
    refine o_ixs1 (m := p + 1) Tryd.underlying25 rfl rfl rfl (by omega) ?_
    refine g_yes rfl rfl ?_
    refine o_ld rfl rfl (hR.cellK (Keep.refl _ _) (u8_at bs (p + 1) (by omega))) ?_
    refine g_yes rfl rfl ?_
    refine v8_eql (b := 75#8) rfl rfl ?_
    refine pick_t rfl rfl ?_
    refine m_bool rfl rfl ?_
    refine o_split (t := 22) rfl (fun h => ?_) (fun h => ?_)
    ·
      have e2 := h
      refine g_yes rfl rfl ?_
      refine m_sl rfl rfl ?_
      refine g_yes rfl rfl ?_
      refine m_int rfl rfl ?_
      refine g_yes rfl rfl ?_
      refine n_add rfl rfl (by omega) ?_
      refine g_yes rfl rfl ?_
      refine o_ixs1 (m := p + 2) Tryd.underlying25 rfl rfl rfl (by omega) ?_
      refine g_yes rfl rfl ?_
      refine o_ld rfl rfl (hR.cellK (Keep.refl _ _) (u8_at bs (p + 2) (by omega))) ?_
      refine g_yes rfl rfl ?_
      refine m_int rfl rfl ?_
      refine g_yes rfl rfl ?_
      refine v8_eql rfl rfl ?_
      refine pick_t rfl rfl ?_
      refine m_bool rfl rfl ?_
      refine o_split (t := 31) rfl (fun h => ?_) (fun h => ?_)
      ·
        have e3 := h
        refine g_yes rfl rfl ?_
        refine m_sl rfl rfl ?_
        refine g_yes rfl rfl ?_
        refine m_int rfl rfl ?_
        refine g_yes rfl rfl ?_
        refine n_add rfl rfl (by omega) ?_
        refine g_yes rfl rfl ?_
        refine o_ixs1 (m := p + 3) Tryd.underlying25 rfl rfl rfl (by omega) ?_
        refine g_yes rfl rfl ?_
        refine o_ld rfl rfl (hR.cellK (Keep.refl _ _) (u8_at bs (p + 3) (by omega))) ?_
        refine g_yes rfl rfl ?_
        refine m_int rfl rfl ?_
        refine g_yes rfl rfl ?_
        refine v8_eql rfl rfl ?_
        refine pick_t rfl rfl ?_
        refine m_bool rfl rfl ?_
        refine o_nil ?_
        refine k_ret (ret_tmps (ts := [8]) (v := .bool _) rfl rfl ?_)
        refine ⟨congrArg Value.bool (decide_eq_decide.2 ⟨fun hh => ?_, fun hh => ?_⟩), rfl⟩
        · rw [e1, e2, e3, hh]
        · simp only [Prod.mk.injEq] at hh; exact hh.2.2.2
      ·
        have e3 := h
        refine g_no rfl rfl rfl ?_
        refine g_no rfl rfl rfl ?_
        refine g_no rfl rfl rfl ?_
        refine g_no rfl rfl rfl ?_
        refine g_no rfl rfl rfl ?_
        refine g_no rfl rfl rfl ?_
        refine g_no rfl rfl rfl ?_
        refine pick_f rfl rfl ?_
        refine m_bool rfl rfl ?_
        refine o_nil ?_
        refine k_ret (ret_tmps (ts := [8]) (v := .bool _) rfl rfl ?_)
        exact ⟨congrArg Value.bool (decide_eq_false (fun hh => by simp only [Prod.mk.injEq] at hh; exact e3 hh.2.2.1)).symm, rfl⟩
    ·
      have e2 := h
      refine g_no rfl rfl rfl ?_
      refine g_no rfl rfl rfl ?_
      refine g_no rfl rfl rfl ?_
      refine g_no rfl rfl rfl ?_
      refine g_no rfl rfl rfl ?_
      refine g_no rfl rfl rfl ?_
      refine g_no rfl rfl rfl ?_
      refine pick_f rfl rfl ?_
      refine m_bool rfl rfl ?_
      refine g_no rfl rfl rfl ?_
      refine g_no rfl rfl rfl ?_
      refine g_no rfl rfl rfl ?_
      refine g_no rfl rfl rfl ?_
      refine g_no rfl rfl rfl ?_
      refine g_no rfl rfl rfl ?_
      refine g_no rfl rfl rfl ?_
      refine pick_f rfl rfl ?_
      refine m_bool rfl rfl ?_
      refine o_nil ?_
      refine k_ret (ret_tmps (ts := [8]) (v := .bool _) rfl rfl ?_)
      exact ⟨congrArg Value.bool (decide_eq_false (fun hh => by simp only [Prod.mk.injEq] at hh; exact e2 hh.2.1)).symm, rfl⟩
  ·
    have e1 := h
    refine g_no rfl rfl rfl ?_
    refine g_no rfl rfl rfl ?_
    refine g_no rfl rfl rfl ?_
    refine g_no rfl rfl rfl ?_
    refine g_no rfl rfl rfl ?_
    refine g_no rfl rfl rfl ?_
    refine pick_f rfl rfl ?_
    refine m_bool rfl rfl ?_
    refine g_no rfl rfl rfl ?_
    refine g_no rfl rfl rfl ?_
    refine g_no rfl rfl rfl ?_
    refine g_no rfl rfl rfl ?_
    refine g_no rfl rfl rfl ?_
    refine g_no rfl rfl rfl ?_
    refine g_no rfl rfl rfl ?_
    refine pick_f rfl rfl ?_
    refine m_bool rfl rfl ?_
    refine g_no rfl rfl rfl ?_
    refine g_no rfl rfl rfl ?_
    refine g_no rfl rfl rfl ?_
    refine g_no rfl rfl rfl ?_
    refine g_no rfl rfl rfl ?_
    refine g_no rfl rfl rfl ?_
    refine g_no rfl rfl rfl ?_
    refine pick_f rfl rfl ?_
    refine m_bool rfl rfl ?_
    refine o_nil ?_
    refine k_ret (ret_tmps (ts := [8]) (v := .bool _) rfl rfl ?_)
    exact ⟨congrArg Value.bool (decide_eq_false (fun hh => by simp only [Prod.mk.injEq] at hh; exact e1 hh.1)).symm, rfl⟩
end Go.Proofs.YtiapgmfooclpcaaDoor

/- Where an archive ends: the document's End. No condition beyond what each contract names. -/
namespace Go.Proofs.YtiapgmfooclpcaaDoor
open Go.RowKit E
set_option linter.unusedVariables false
set_option linter.unusedSimpArgs false
set_option maxRecDepth 100000
attribute [local irreducible] ow qw kw kq cw opW Ret
def isE (bs : Bs) (p : Nat) : Prop := p + 22 ≤ bs.length ∧ q4 bs p = mE ∧ rdN bs (p + 20) 2 + p + 22 = bs.length
instance (bs : Bs) (p : Nat) : Decidable (isE bs p) := by unfold isE; infer_instance
def endsN (bs : Bs) (k : Nat) : List Nat := (List.range k).filter fun p => decide (isE bs p)
def endI (bs : Bs) : Int := match endsN bs bs.length with | [p] => (p : Int) | _ => -1
theorem endsN_zero (bs : Bs) : endsN bs 0 = [] := rfl
theorem endsN_succ (bs : Bs) (k : Nat) : endsN bs (k + 1) = endsN bs k ++ (if isE bs k then [k] else []) := by
  unfold endsN
  rw [List.range_succ, List.filter_append]
  congr 1
  by_cases h : isE bs k <;> simp [h]
theorem endsN_pre (bs : Bs) (k : Nat) : ∀ d, ∃ l, endsN bs (k + d) = endsN bs k ++ l
  | 0 => ⟨[], by simp⟩
  | d + 1 => by
    obtain ⟨l, hl⟩ := endsN_pre bs k d
    exact ⟨l ++ (if isE bs (k + d) then [k + d] else []), by rw [← Nat.add_assoc, endsN_succ, hl, List.append_assoc]⟩
theorem endsN_stop (bs : Bs) (k : Nat) (hk : bs.length < k + 22) : ∀ d, endsN bs (k + d) = endsN bs k
  | 0 => rfl
  | d + 1 => by rw [← Nat.add_assoc, endsN_succ, endsN_stop bs k hk d, if_neg (fun h => by have := h.1; omega), List.append_nil]
theorem endsN_last (bs : Bs) (k : Nat) (hk : bs.length < k + 22) (hl : k ≤ bs.length) : endsN bs bs.length = endsN bs k := by
  have := endsN_stop bs k hk (bs.length - k)
  rwa [Nat.add_sub_cancel' hl] at this
theorem endI_two (bs : Bs) (k : Nat) (hk : k ≤ bs.length) (h : 2 ≤ (endsN bs k).length) : endI bs = -1 := by
  obtain ⟨l, hl⟩ := endsN_pre bs k (bs.length - k)
  rw [Nat.add_sub_cancel' hk] at hl
  unfold endI
  rw [hl]
  match hh : endsN bs k, h with
  | a :: b :: r, _ => rfl
theorem rend_ok (w : World) (a : Option Addr) (c : Nat) (bs : Bs) (hR : Rd w a (bs.map u8v)) (hl : bs.length ≤ 1000000000000) (hc : bs.length ≤ c) :
    Ret Tryd.prog 9 [.slice a bs.length c] w (fun v w' => v = .int .i64 (endI bs) ∧ Keep [] w w') := by
  refine fn_enter (n := 31) Tryd.func9 rfl rfl (Nat.le_of_ble_eq_true rfl) (fun e => ?_)
  refine k_seq ?_
  refine k_region ?_
  refine m_int rfl rfl ?_
  refine o_nil ?_
  refine k_seq ?_
  refine k_region ?_
  refine m_int rfl rfl ?_
  refine o_nil ?_
  refine k_seq ?_
  refine k_seq ?_
  refine k_region ?_
  refine m_int rfl rfl ?_
  refine o_nil ?_
  refine k_block ?_
  refine k_loop (σ := Nat × Int) (fun z => [(0, .slice a bs.length c), (3, .int .i64 z.2), (4, .int .i64 (z.1 : Int))]) (fun z w' => z.1 ≤ bs.length ∧ ((z.2 = -1 ∧ endsN bs z.1 = []) ∨ ∃ x : Nat, z.2 = (x : Int) ∧ endsN bs z.1 = [x]) ∧ Keep [] w w') (fun z => bs.length + 1 - z.1) (0, -1) ⟨rfl, rfl, rfl, trivial⟩ ⟨Nat.zero_le _, .inl ⟨rfl, rfl⟩, Keep.refl _ _⟩ (fun z e w3 hJ => ?_)
  obtain ⟨p, at_⟩ := z
  obtain ⟨hp, hat, hK3⟩ := hJ
  simp only at hp hat
  change kw _ _ _ _ (ovr [(0, .slice a bs.length c), (3, .int .i64 at_), (4, .int .i64 (p : Int))] e) w3
  refine k_seq ?_
  refine k_seq ?_
  refine k_region ?_
  refine m_int rfl rfl ?_
  refine n_add rfl rfl (by omega) ?_
  refine m_sl rfl rfl ?_
  refine o_lens Tryd.underlying25 rfl ?_
  refine b_leq rfl rfl ?_
  refine o_nil ?_
  refine k_cond rfl (fun h => ?_) (fun h => ?_)
  rotate_left
  ·
    have hlast := endsN_last bs p (by omega) hp
    refine k_exit rfl ?_
    refine k_seq ?_
    refine k_region ?_
    refine m_int rfl rfl ?_
    refine m_int rfl rfl ?_
    refine o_nil ?_
    refine k_ret (ret_tmps (ts := [2]) (v := .int _ _) rfl rfl ?_)
    refine ⟨congrArg (Value.int .i64) ?_, hK3⟩
    unfold endI
    rw [hlast]
    rcases hat with ⟨h1, h2⟩ | ⟨x, h1, h2⟩
    · rw [h2, h1]
    · rw [h2, h1]
  have hpl : p + 22 ≤ bs.length := by omega
  refine k_skip ?_
  refine k_seq ?_
  refine k_block ?_
  refine k_seq ?_
  refine k_region ?_
  refine m_sl rfl rfl ?_
  refine m_int rfl rfl ?_
  refine o_call (vs := [.slice a bs.length c, .int .i64 (p : Int), .int .u8 ((5#8).toNat : Int), .int .u8 ((6#8).toNat : Int)]) rfl rfl (rsign_ok w3 a c p bs 5#8 6#8 (hR.new hK3) hl (by omega)) (fun v w4 hv => ?_)
  obtain ⟨rfl, hw4⟩ := hv
  subst hw4
  refine m_bool rfl rfl ?_
  refine o_split (t := 15) rfl (fun h => ?_) (fun h => ?_)
  ·
    have h15 : q4 bs p = mE := h
    refine g_yes rfl rfl ?_
    refine m_sl rfl rfl ?_
    refine g_yes rfl rfl ?_
    refine m_int rfl rfl ?_
    refine g_yes rfl rfl ?_
    refine n_add rfl rfl (by omega) ?_
    rw [show (p : Int) + 20 = ((p + 20 : Nat) : Int) by omega]
    refine g_yes rfl rfl ?_
    refine o_call (vs := [.slice a bs.length c, .int .i64 ((p + 20 : Nat) : Int), .int .i64 ((2 : Nat) : Int)]) rfl rfl (rnum_ok w4 a c (p + 20) 2 bs (hR.new hK3) (by decide) (by decide) hl hc (by omega)) (fun v w5 hv => ?_)
    obtain ⟨rfl, hK5⟩ := hv
    refine g_yes rfl rfl ?_
    refine m_sl rfl rfl ?_
    refine g_yes rfl rfl ?_
    refine o_lens Tryd.underlying25 rfl ?_
    refine g_yes rfl rfl ?_
    refine m_int rfl rfl ?_
    refine g_yes rfl rfl ?_
    refine n_sub rfl rfl (by omega) ?_
    refine g_yes rfl rfl ?_
    refine n_sub rfl rfl (by omega) ?_
    refine g_yes rfl rfl ?_
    refine b_eql rfl rfl ?_
    refine pick_t rfl rfl ?_
    refine o_nil ?_
    refine k_cond rfl (fun h => ?_) (fun h => ?_)
    ·
      have hisE : isE bs p := ⟨hpl, h15, by omega⟩
      refine k_seq ?_
      refine k_seq ?_
      refine k_region ?_
      refine m_int rfl rfl ?_
      refine b_geq rfl rfl ?_
      refine o_nil ?_
      refine k_cond rfl (fun h => ?_) (fun h => ?_)
      ·
        refine k_seq ?_
        refine k_region ?_
        refine m_int rfl rfl ?_
        refine o_nil ?_
        refine k_ret (ret_tmps (ts := [2]) (v := .int _ _) rfl rfl ?_)
        refine ⟨congrArg (Value.int .i64) (endI_two bs (p + 1) (by omega) ?_).symm, hK3.tr hK5⟩
        rw [endsN_succ, if_pos hisE]
        rcases hat with ⟨h1, h2⟩ | ⟨x, h1, h2⟩
        · omega
        · rw [h2]; simp
      have hno : endsN bs p = [] := by
       rcases hat with ⟨h1, h2⟩ | ⟨x, h1, h2⟩
       · exact h2
       · omega
      refine k_skip ?_
      refine k_region ?_
      refine m_int rfl rfl ?_
      refine m_int rfl rfl ?_
      refine o_nil ?_
      refine k_blk ?_
      refine k_region ?_
      refine m_int rfl rfl ?_
      refine n_add rfl rfl (by omega) ?_
      refine m_int rfl rfl ?_
      refine o_nil ?_
      refine k_goal ⟨(p + 1, (p : Int)), ⟨rfl, rfl, rfl, trivial⟩, ⟨by show p + 1 ≤ bs.length; omega, .inr ⟨p, rfl, by rw [endsN_succ, if_pos hisE, hno]; rfl⟩, hK3.tr hK5⟩, by show bs.length + 1 - (p + 1) < bs.length + 1 - p; omega⟩
    have hnE : ¬ isE bs p := fun hh => by have := hh.2.2; omega
    refine k_skip ?_
    refine k_blk ?_
    refine k_region ?_
    refine m_int rfl rfl ?_
    refine n_add rfl rfl (by omega) ?_
    refine m_int rfl rfl ?_
    refine o_nil ?_
    refine k_goal ⟨(p + 1, at_), ⟨rfl, rfl, rfl, trivial⟩, ⟨by show p + 1 ≤ bs.length; omega, by rw [endsN_succ, if_neg hnE, List.append_nil]; exact hat, hK3.tr hK5⟩, by show bs.length + 1 - (p + 1) < bs.length + 1 - p; omega⟩
  ·
    have h15 : ¬ q4 bs p = mE := h
    refine g_no rfl rfl rfl ?_
    refine g_no rfl rfl rfl ?_
    refine g_no rfl rfl rfl ?_
    refine g_no rfl rfl rfl ?_
    refine g_no rfl rfl rfl ?_
    refine g_no rfl rfl rfl ?_
    refine g_no rfl rfl rfl ?_
    refine g_no rfl rfl rfl ?_
    refine g_no rfl rfl rfl ?_
    refine g_no rfl rfl rfl ?_
    refine pick_f rfl rfl ?_
    refine o_nil ?_
    refine k_condf rfl ?_
    refine k_skip ?_
    refine k_blk ?_
    refine k_region ?_
    refine m_int rfl rfl ?_
    refine n_add rfl rfl (by omega) ?_
    refine m_int rfl rfl ?_
    refine o_nil ?_
    refine k_goal ⟨(p + 1, at_), ⟨rfl, rfl, rfl, trivial⟩, ⟨by show p + 1 ≤ bs.length; omega, by rw [endsN_succ, if_neg (fun hh => h15 hh.2.1), List.append_nil]; exact hat, hK3⟩, by show bs.length + 1 - (p + 1) < bs.length + 1 - p; omega⟩
end Go.Proofs.YtiapgmfooclpcaaDoor

/-
  DERIVED: THE SHELF's CONTRACTS AT THIS DUMP, IN PLAIN WORDS (tools/lay-plain.mjs out of 'YtiapgmfooclpcaaDoorShelf.lean', which tools/lay-shelf.mjs wrote): THE SAME DECLARATIONS UNDER THE SAME NAMES: 'import', 'namespace', 'open', 'def', 'theorem' AND NOTHING ELSE: no command of the shelf's: FOR A HAND-IN. Each laying: the table of numbers ('.._ren') and one theorem, a field a fact of the dump's own or the kernel's comparison; each contract: ONE APPLICATION.
-/
namespace Go.Proofs
open Go.Shelf
def Tryd.lays221_ren : Go.Shelf.Ren := ⟨fun | 221 => 50 | 268 => 73 | 138 => 74 | 143 => 75 | 195 => 87 | 197 => 88 | 218 => 89 | 219 => 90 | 260 => 96 | 217 => 49 | 225 => 97 | 224 => 98 | 267 => 99 | 266 => 72 | 314 => 100 | n => n, fun | 9 => 9 | 3 => 3 | 31 => 72 | 4 => 4 | 0 => 0 | 105 => 166 | 21 => 21 | 5 => 5 | 46 => 100 | 119 => 177 | 139 => 180 | 138 => 179 | 146 => 181 | 51 => 107 | n => n, fun | 1 => 0 | 3 => 1 | 4 => 2 | n => n⟩
theorem Tryd.lays221 : Go.Proofs.Lays.n221 Tryd.prog Tryd.lays221_ren := {
  mixed := by kernel_rfl
  f138 := Tryd.func74.trans (congrArg some (by kernel_rfl))
  f143 := Tryd.func75.trans (congrArg some (by kernel_rfl))
  f195 := Tryd.func87.trans (congrArg some (by kernel_rfl))
  f197 := Tryd.func88.trans (congrArg some (by kernel_rfl))
  f217 := Tryd.func49.trans (congrArg some (by kernel_rfl))
  f218 := Tryd.func89.trans (congrArg some (by kernel_rfl))
  f219 := Tryd.func90.trans (congrArg some (by kernel_rfl))
  f221 := Tryd.func50.trans (congrArg some (by kernel_rfl))
  f224 := Tryd.func98.trans (congrArg some (by kernel_rfl))
  f225 := Tryd.func97.trans (congrArg some (by kernel_rfl))
  f260 := Tryd.func96.trans (congrArg some (by kernel_rfl))
  f266 := Tryd.func72.trans (congrArg some (by kernel_rfl))
  f267 := Tryd.func99.trans (congrArg some (by kernel_rfl))
  f268 := Tryd.func73.trans (congrArg some (by kernel_rfl))
  f314 := Tryd.func100.trans (congrArg some (by kernel_rfl))
  t0 := Tryd.underlying0
  a0 := Tryd.isAgg0
  z0 := Tryd.sizeOf0
  v0 := Tryd.zeroValue0
  t3 := Tryd.underlying3
  a3 := Tryd.isAgg3
  z3 := Tryd.sizeOf3
  v3 := Tryd.zeroValue3
  t4 := Tryd.underlying4
  a4 := Tryd.isAgg4
  z4 := Tryd.sizeOf4
  v4 := Tryd.zeroValue4
  t5 := Tryd.underlying5
  a5 := Tryd.isAgg5
  z5 := Tryd.sizeOf5
  v5 := Tryd.zeroValue5
  t9 := Tryd.underlying9
  a9 := Tryd.isAgg9
  z9 := Tryd.sizeOf9
  v9 := Tryd.zeroValue9
  t21 := Tryd.underlying21
  a21 := Tryd.isAgg21
  z21 := Tryd.sizeOf21
  v21 := Tryd.zeroValue21
  t31 := Tryd.underlying72
  a31 := Tryd.isAgg72
  z31 := Tryd.sizeOf72
  v31 := Tryd.zeroValue72
  t46 := Tryd.underlying100
  a46 := Tryd.isAgg100
  z46 := Tryd.sizeOf100
  v46 := Tryd.zeroValue100
  t51 := Tryd.underlying107
  a51 := Tryd.isAgg107
  z51 := Tryd.sizeOf107
  v51 := Tryd.zeroValue107
  t105 := Tryd.underlying166
  a105 := Tryd.isAgg166
  z105 := Tryd.sizeOf166
  v105 := Tryd.zeroValue166
  t119 := Tryd.underlying177
  a119 := Tryd.isAgg177
  z119 := Tryd.sizeOf177
  t138 := Tryd.underlying179
  a138 := Tryd.isAgg179
  z138 := Tryd.sizeOf179
  v138 := Tryd.zeroValue179
  t139 := Tryd.underlying180
  a139 := Tryd.isAgg180
  z139 := Tryd.sizeOf180
  v139 := Tryd.zeroValue180
  t146 := Tryd.underlying181
  a146 := Tryd.isAgg181
  z146 := Tryd.sizeOf181
  v146 := Tryd.zeroValue181
  g1 := by kernel_rfl
  g3 := by kernel_rfl
  g4 := by kernel_rfl }
def Tryd.lays219_ren : Go.Shelf.Ren := ⟨fun | 219 => 90 | 217 => 49 | 225 => 97 | 224 => 98 | 267 => 99 | 266 => 72 | 314 => 100 | n => n, fun | 9 => 9 | 3 => 3 | 4 => 4 | 5 => 5 | 46 => 100 | 146 => 181 | 51 => 107 | n => n, fun | 1 => 0 | n => n⟩
theorem Tryd.lays219 : Go.Proofs.Lays.n219 Tryd.prog Tryd.lays219_ren := {
  mixed := by kernel_rfl
  f217 := Tryd.func49.trans (congrArg some (by kernel_rfl))
  f219 := Tryd.func90.trans (congrArg some (by kernel_rfl))
  f224 := Tryd.func98.trans (congrArg some (by kernel_rfl))
  f225 := Tryd.func97.trans (congrArg some (by kernel_rfl))
  f266 := Tryd.func72.trans (congrArg some (by kernel_rfl))
  f267 := Tryd.func99.trans (congrArg some (by kernel_rfl))
  f314 := Tryd.func100.trans (congrArg some (by kernel_rfl))
  t3 := Tryd.underlying3
  a3 := Tryd.isAgg3
  z3 := Tryd.sizeOf3
  v3 := Tryd.zeroValue3
  t4 := Tryd.underlying4
  a4 := Tryd.isAgg4
  z4 := Tryd.sizeOf4
  v4 := Tryd.zeroValue4
  t5 := Tryd.underlying5
  a5 := Tryd.isAgg5
  z5 := Tryd.sizeOf5
  v5 := Tryd.zeroValue5
  t9 := Tryd.underlying9
  a9 := Tryd.isAgg9
  z9 := Tryd.sizeOf9
  v9 := Tryd.zeroValue9
  t46 := Tryd.underlying100
  a46 := Tryd.isAgg100
  z46 := Tryd.sizeOf100
  v46 := Tryd.zeroValue100
  t51 := Tryd.underlying107
  a51 := Tryd.isAgg107
  z51 := Tryd.sizeOf107
  v51 := Tryd.zeroValue107
  t146 := Tryd.underlying181
  a146 := Tryd.isAgg181
  z146 := Tryd.sizeOf181
  v146 := Tryd.zeroValue181
  g1 := by kernel_rfl }
def Tryd.lays138_ren : Go.Shelf.Ren := ⟨fun | 138 => 74 | 195 => 87 | 218 => 89 | 143 => 75 | 219 => 90 | 217 => 49 | 225 => 97 | 224 => 98 | 267 => 99 | 266 => 72 | 314 => 100 | n => n, fun | 9 => 9 | 3 => 3 | 4 => 4 | 5 => 5 | 0 => 0 | 46 => 100 | 146 => 181 | 51 => 107 | n => n, fun | 1 => 0 | n => n⟩
theorem Tryd.lays138 : Go.Proofs.Lays.n138 Tryd.prog Tryd.lays138_ren := {
  mixed := by kernel_rfl
  f138 := Tryd.func74.trans (congrArg some (by kernel_rfl))
  f143 := Tryd.func75.trans (congrArg some (by kernel_rfl))
  f195 := Tryd.func87.trans (congrArg some (by kernel_rfl))
  f217 := Tryd.func49.trans (congrArg some (by kernel_rfl))
  f218 := Tryd.func89.trans (congrArg some (by kernel_rfl))
  f219 := Tryd.func90.trans (congrArg some (by kernel_rfl))
  f224 := Tryd.func98.trans (congrArg some (by kernel_rfl))
  f225 := Tryd.func97.trans (congrArg some (by kernel_rfl))
  f266 := Tryd.func72.trans (congrArg some (by kernel_rfl))
  f267 := Tryd.func99.trans (congrArg some (by kernel_rfl))
  f314 := Tryd.func100.trans (congrArg some (by kernel_rfl))
  t0 := Tryd.underlying0
  a0 := Tryd.isAgg0
  z0 := Tryd.sizeOf0
  v0 := Tryd.zeroValue0
  t3 := Tryd.underlying3
  a3 := Tryd.isAgg3
  z3 := Tryd.sizeOf3
  v3 := Tryd.zeroValue3
  t4 := Tryd.underlying4
  a4 := Tryd.isAgg4
  z4 := Tryd.sizeOf4
  v4 := Tryd.zeroValue4
  t5 := Tryd.underlying5
  a5 := Tryd.isAgg5
  z5 := Tryd.sizeOf5
  v5 := Tryd.zeroValue5
  t9 := Tryd.underlying9
  a9 := Tryd.isAgg9
  z9 := Tryd.sizeOf9
  v9 := Tryd.zeroValue9
  t46 := Tryd.underlying100
  a46 := Tryd.isAgg100
  z46 := Tryd.sizeOf100
  v46 := Tryd.zeroValue100
  t51 := Tryd.underlying107
  a51 := Tryd.isAgg107
  z51 := Tryd.sizeOf107
  v51 := Tryd.zeroValue107
  t146 := Tryd.underlying181
  a146 := Tryd.isAgg181
  z146 := Tryd.sizeOf181
  v146 := Tryd.zeroValue181
  g1 := by kernel_rfl }
end Go.Proofs

/- Names: strings.IndexByte, strings.Split at one byte, archive.Name. No condition beyond what each contract names. -/
namespace Go.Proofs.YtiapgmfooclpcaaDoor
open Go.RowKit E
set_option linter.unusedVariables false
set_option linter.unusedSimpArgs false
set_option maxRecDepth 100000
attribute [local irreducible] ow qw kw kq cw opW Ret
open Go.Shelf
theorem bsl_ok (w : World) (s : ByteArray) (c : BitVec 8) : Ret Tryd.prog 49 [.string s, .int .u8 (c.toNat : Int)] w (fun v w' => v = .int .i64 (Lib.indexByte s.data.toList (c.toNat : Int).toNat.toUInt8) ∧ w' = w) := by
  refine fn_enter (n := 8) Tryd.func49 rfl rfl (Nat.le_of_ble_eq_true rfl) (fun e => ?_)
  refine k_seq ?_
  refine k_region ?_
  refine m_int rfl rfl ?_
  refine o_nil ?_
  refine k_seq ?_
  refine k_region ?_
  refine m_str rfl rfl ?_
  refine m_int rfl rfl ?_
  refine o_extern Tryd.func72 (by kernel_rfl) (by kernel_rfl) (by kernel_rfl) (ex := Extern.BytealgIndexByte.indexByte) (by kernel_rfl) rfl (Lib.run_indexByteString s _ w) ?_
  refine m_int rfl rfl ?_
  refine o_nil ?_
  refine k_ret (ret_tmps (ts := [4]) (v := .int _ _) rfl rfl ?_)
  exact ⟨rfl, rfl⟩
theorem ib_ok (w : World) (s : ByteArray) (c : BitVec 8) : Ret Tryd.prog 29 [.string s, .int .u8 (c.toNat : Int)] w (fun v w' => v = .int .i64 (Lib.indexByte s.data.toList (c.toNat : Int).toNat.toUInt8) ∧ w' = w) := by
  refine fn_enter (n := 8) Tryd.func29 rfl rfl (Nat.le_of_ble_eq_true rfl) (fun e => ?_)
  refine k_seq ?_
  refine k_region ?_
  refine m_int rfl rfl ?_
  refine o_nil ?_
  refine k_seq ?_
  refine k_region ?_
  refine m_str rfl rfl ?_
  refine m_int rfl rfl ?_
  refine o_call rfl rfl (bsl_ok w s c) (fun v w2 hv => ?_)
  obtain ⟨rfl, rfl⟩ := hv
  refine m_int rfl rfl ?_
  refine o_nil ?_
  refine k_ret (ret_tmps (ts := [4]) (v := .int _ _) rfl rfl ?_)
  exact ⟨rfl, rfl⟩
def slash : ByteArray := ⟨#[47]⟩
theorem sindex_ok (w : World) (s : ByteArray) : Ret Tryd.prog 75 [.string s, .string slash] w (fun v w' => v = .int .i64 (Lib.indexB s slash) ∧ w' = w) := by
  have c1 : Ret Tryd.prog 90 [.string s, .string slash] w (fun v w' => v = .int .i64 (Lib.indexB s slash) ∧ w' = w) := by
    unfold Ret
    refine Calls.mono (Any.stringslite_Index_one Tryd.lays219 s 47 w) ?_
    rintro e w' ⟨rfl, rfl⟩
    refine ⟨congrArg (Value.int .i64) ?_, rfl⟩
    exact (Lib.index_one s.data.toList 47).symm
  refine fn_enter (n := 8) Tryd.func75 rfl rfl (Nat.le_of_ble_eq_true rfl) (fun e => ?_)
  refine k_seq ?_
  refine k_region ?_
  refine m_int rfl rfl ?_
  refine o_nil ?_
  refine k_seq ?_
  refine k_region ?_
  refine m_str rfl rfl ?_
  refine m_str rfl rfl ?_
  refine o_call rfl rfl c1 (fun v w2 hv => ?_)
  obtain ⟨rfl, rfl⟩ := hv
  refine m_int rfl rfl ?_
  refine o_nil ?_
  refine k_ret (ret_tmps (ts := [4]) (v := .int _ _) rfl rfl ?_)
  exact ⟨rfl, rfl⟩
theorem scount_ok (w : World) (s : ByteArray) : Calls Tryd.prog 74 #[.string s, .string slash] w fun e w' => e = .returned (.int .i64 (Lib.countB s slash)) ∧ w' = w := by
  refine Calls.mono (Any.strings_Count_one Tryd.lays138 s 47 w) ?_
  rintro e w' ⟨rfl, rfl⟩
  refine ⟨?_, rfl⟩
  show _ = Ending.returned (Value.int .i64 ((Lib.count s.data.toList [47] : Nat) : Int))
  rw [Lib.count_one]
  rfl
def partsOf (s : ByteArray) : List ByteArray := Lib.splitB slash 0 (Lib.countB s slash) s
theorem split_ok (w : World) (s : ByteArray) (hs : s.size < 4294967281) : Ret Tryd.prog 30 [.string s, .string slash] w (fun v w' => ∃ g, v = .slice (some ⟨g, 0, none⟩) (partsOf s).length (partsOf s).length ∧ Blk w' g ((partsOf s).map Value.string).toArray 9 ∧ Keep [] w w') := by
  have hlen := Lib.splitB_all slash (by decide) 0 _ s rfl
  have c0 := Any.strings_genSplit_core Tryd.lays221 (by kernel_rfl) s slash 0 (-1) (Lib.countB s slash + 1) w hs (by decide) (Nat.zero_le _)
    (fun x c hx => by
      have h := sindex_ok (w.alloc (.cells c 9)) x
      unfold Ret at h
      refine Calls.mono h ?_
      rintro e w' hx
      cases e with
      | returned v => obtain ⟨rfl, rfl⟩ := hx; exact ⟨rfl, rfl⟩
      | _ => exact hx.elim)
    (scount_ok w s) (by decide) (by decide) (by
      rw [if_pos (by decide)]
      have : Lib.countB s slash ≤ s.size := Lib.countB_le slash (by decide) s.size s (Nat.le_refl _)
      omega)
  rw [Nat.add_sub_cancel, hlen] at c0
  have e2 : Lib.cellsOf (Lib.splitB slash 0 (Lib.countB s slash) s) (Lib.countB s slash + 1) = ((partsOf s).map Value.string).toArray := by rw [← hlen]; exact Lib.cellsOf_full _
  rw [e2] at c0
  have c1 : Ret Tryd.prog 50 [.string s, .string slash, .int .i64 0, .int .i64 (-1)] w (fun v w' => v = .slice (some ⟨w.heap.size, 0, none⟩) (Lib.countB s slash + 1) (Lib.countB s slash + 1) ∧ w' = w.alloc (.cells ((partsOf s).map Value.string).toArray 9)) := by
    unfold Ret
    refine Calls.mono c0 ?_
    rintro e w' ⟨rfl, rfl⟩
    exact ⟨rfl, rfl⟩
  have hlp : (partsOf s).length = Lib.countB s slash + 1 := hlen
  refine fn_enter (n := 8) Tryd.func30 rfl rfl (Nat.le_of_ble_eq_true rfl) (fun e => ?_)
  refine k_seq ?_
  refine k_region ?_
  refine m_sl rfl rfl ?_
  refine o_nil ?_
  refine k_seq ?_
  refine k_region ?_
  refine m_str rfl rfl ?_
  refine m_str rfl rfl ?_
  refine o_call rfl rfl c1 (fun v w2 hv => ?_)
  obtain ⟨rfl, rfl⟩ := hv
  refine m_sl rfl rfl ?_
  refine o_nil ?_
  refine k_ret (ret_tmps (ts := [4]) (v := .slice _ _ _) rfl rfl ?_)
  exact ⟨w.heap.size, by rw [hlp], heap_alloc_new w _, keep_alloc [] w _⟩
end Go.Proofs.YtiapgmfooclpcaaDoor

/- archive.Name. No condition beyond what its contract names. -/
namespace Go.Proofs.YtiapgmfooclpcaaDoor
open Go.RowKit E
set_option linter.unusedVariables false
set_option linter.unusedSimpArgs false
set_option maxRecDepth 100000
attribute [local irreducible] ow qw kw kq cw opW Ret
def dot1 : ByteArray := ⟨#[46]⟩
def dot2 : ByteArray := ⟨#[46, 46]⟩
def emp : ByteArray := ⟨#[]⟩
def partBad (n i : Nat) (p : ByteArray) : Prop := p = dot1 ∨ p = dot2 ∨ (p = emp ∧ (i = 0 ∨ i + 1 < n))
def nameP (s : ByteArray) : Prop := s ≠ emp ∧ s.size ≤ 64 ∧ ¬ 0 ≤ Lib.indexByte s.data.toList 0 ∧ ¬ 0 ≤ Lib.indexByte s.data.toList 92 ∧ ∀ (i : Nat) p, (partsOf s)[i]? = some p → ¬ partBad (partsOf s).length i p
noncomputable def nameB (s : ByteArray) : Bool := @decide (nameP s) (Classical.propDecidable _)
theorem nameB_true {s : ByteArray} (h : nameP s) : nameB s = true := @decide_eq_true _ (Classical.propDecidable _) h
theorem nameB_false {s : ByteArray} (h : ¬ nameP s) : nameB s = false := @decide_eq_false _ (Classical.propDecidable _) h
theorem nameP_of {s : ByteArray} (h : nameB s = true) : nameP s := @of_decide_eq_true _ (Classical.propDecidable _) h
theorem partsOf_len (s : ByteArray) : (partsOf s).length ≤ s.size + 1 := by
  have hlen : (partsOf s).length = Lib.countB s slash + 1 := Lib.splitB_all slash (by decide) 0 _ s rfl
  have : Lib.countB s slash ≤ s.size := Lib.countB_le slash (by decide) s.size s (Nat.le_refl _)
  omega
theorem name_ok (w : World) (s : ByteArray) (hs : s.size ≤ 9223372036854775807) : Ret Tryd.prog 13 [.string s] w (fun v w' => v = .bool (nameB s) ∧ Keep [] w w') := by
  refine fn_enter (n := 54) Tryd.func13 rfl rfl (Nat.le_of_ble_eq_true rfl) (fun e => ?_)
  refine k_seq ?_
  refine k_region ?_
  refine m_bool rfl rfl ?_
  refine o_nil ?_
  refine k_seq ?_
  refine k_seq ?_
  refine k_region ?_
  refine m_str rfl rfl ?_
  refine b_eqlstr Tryd.underlying9 rfl rfl ?_
  refine m_bool rfl rfl ?_
  refine o_split (t := 8) rfl (fun h => ?_) (fun h => ?_)
  ·
    have h8 : s = emp := h
    refine g_no rfl rfl rfl ?_
    refine g_no rfl rfl rfl ?_
    refine g_no rfl rfl rfl ?_
    refine pick_t rfl rfl ?_
    refine m_bool rfl rfl ?_
    refine g_no rfl rfl rfl ?_
    refine g_no rfl rfl rfl ?_
    refine g_no rfl rfl rfl ?_
    refine pick_t rfl rfl ?_
    refine m_bool rfl rfl ?_
    refine g_no rfl rfl rfl ?_
    refine g_no rfl rfl rfl ?_
    refine g_no rfl rfl rfl ?_
    refine pick_t rfl rfl ?_
    refine o_nil ?_
    refine k_condt rfl ?_
    refine k_seq ?_
    refine k_region ?_
    refine m_bool rfl rfl ?_
    refine o_nil ?_
    refine k_ret (ret_tmps (ts := [2]) (v := .bool _) rfl rfl ?_)
    exact ⟨congrArg Value.bool (nameB_false (fun hh => hh.1 h8)).symm, Keep.refl _ _⟩
  ·
    have h8 : ¬ s = emp := h
    refine g_yes rfl rfl ?_
    refine m_str rfl rfl ?_
    refine g_yes rfl rfl ?_
    refine o_lenstr Tryd.underlying9 rfl ?_
    refine g_yes rfl rfl ?_
    refine b_gtr rfl rfl ?_
    refine pick_f rfl rfl ?_
    refine m_bool rfl rfl ?_
    refine o_split (t := 13) rfl (fun h => ?_) (fun h => ?_)
    ·
      have h13 := h
      refine g_no rfl rfl rfl ?_
      refine g_no rfl rfl rfl ?_
      refine g_no rfl rfl rfl ?_
      refine pick_t rfl rfl ?_
      refine m_bool rfl rfl ?_
      refine g_no rfl rfl rfl ?_
      refine g_no rfl rfl rfl ?_
      refine g_no rfl rfl rfl ?_
      refine pick_t rfl rfl ?_
      refine o_nil ?_
      refine k_condt rfl ?_
      refine k_seq ?_
      refine k_region ?_
      refine m_bool rfl rfl ?_
      refine o_nil ?_
      refine k_ret (ret_tmps (ts := [2]) (v := .bool _) rfl rfl ?_)
      exact ⟨congrArg Value.bool (nameB_false (fun hh => by have := hh.2.1; omega)).symm, Keep.refl _ _⟩
    ·
      have h13 : s.size ≤ 64 := by omega
      refine g_yes rfl rfl ?_
      refine m_str rfl rfl ?_
      refine g_yes rfl rfl ?_
      refine o_call (vs := [.string s, .int .u8 ((0#8).toNat : Int)]) rfl rfl (ib_ok w s 0#8) (fun v w1 hv => ?_)
      obtain ⟨rfl, hw1⟩ := hv
      subst hw1
      refine g_yes rfl rfl ?_
      refine b_geq rfl rfl ?_
      refine pick_f rfl rfl ?_
      refine m_bool rfl rfl ?_
      refine o_split (t := 18) rfl (fun h => ?_) (fun h => ?_)
      ·
        have h18 : 0 ≤ Lib.indexByte s.data.toList 0 := h
        refine g_no rfl rfl rfl ?_
        refine g_no rfl rfl rfl ?_
        refine g_no rfl rfl rfl ?_
        refine pick_t rfl rfl ?_
        refine o_nil ?_
        refine k_condt rfl ?_
        refine k_seq ?_
        refine k_region ?_
        refine m_bool rfl rfl ?_
        refine o_nil ?_
        refine k_ret (ret_tmps (ts := [2]) (v := .bool _) rfl rfl ?_)
        exact ⟨congrArg Value.bool (nameB_false (fun hh => hh.2.2.1 h18)).symm, Keep.refl _ _⟩
      ·
        have h18 : ¬ 0 ≤ Lib.indexByte s.data.toList 0 := h
        refine g_yes rfl rfl ?_
        refine m_str rfl rfl ?_
        refine g_yes rfl rfl ?_
        refine o_call (vs := [.string s, .int .u8 ((92#8).toNat : Int)]) rfl rfl (ib_ok w1 s 92#8) (fun v w2 hv => ?_)
        obtain ⟨rfl, hw2⟩ := hv
        subst hw2
        refine g_yes rfl rfl ?_
        refine b_geq rfl rfl ?_
        refine pick_f rfl rfl ?_
        refine o_nil ?_
        refine k_cond rfl (fun h => ?_) (fun h => ?_)
        ·
          have h22 : 0 ≤ Lib.indexByte s.data.toList 92 := h
          refine k_seq ?_
          refine k_region ?_
          refine m_bool rfl rfl ?_
          refine o_nil ?_
          refine k_ret (ret_tmps (ts := [2]) (v := .bool _) rfl rfl ?_)
          exact ⟨congrArg Value.bool (nameB_false (fun hh => hh.2.2.2.1 h22)).symm, Keep.refl _ _⟩
        have h22 : ¬ 0 ≤ Lib.indexByte s.data.toList 92 := h
        refine k_skip ?_
        refine k_seq ?_
        refine k_region ?_
        refine m_str rfl rfl ?_
        refine o_call rfl rfl (split_ok w2 s (by omega)) (fun v w3 hv => ?_)
        obtain ⟨g, rfl, hB3, hK3⟩ := hv
        have hpl := partsOf_len s
        generalize hP : partsOf s = ps at *
        refine m_sl rfl rfl ?_
        refine o_nil ?_
        refine k_seq ?_
        refine k_seq ?_
        refine k_region ?_
        refine m_sl rfl rfl ?_
        refine o_lens Tryd.underlying72 rfl ?_
        refine m_int rfl rfl ?_
        refine o_nil ?_
        refine k_block ?_
        refine k_loop (σ := Nat) (fun i => [(3, .slice (some ⟨g, 0, none⟩) ps.length ps.length), (25, .slice (some ⟨g, 0, none⟩) ps.length ps.length), (26, .int .i64 (ps.length : Int)), (27, .int .i64 (i : Int))]) (fun i w' => i ≤ ps.length ∧ (∀ (j : Nat) p, j < i → ps[j]? = some p → ¬ partBad ps.length j p) ∧ w' = w3) (fun i => ps.length - i) 0 ⟨rfl, rfl, rfl, rfl, trivial⟩ ⟨Nat.zero_le _, fun j _ h => by omega, rfl⟩ (fun i e w4 hJ => ?_)
        obtain ⟨hi, hno, rfl⟩ := hJ
        refine k_seq ?_
        refine k_region ?_
        refine b_lss rfl rfl ?_
        refine o_nil ?_
        refine k_seq ?_
        refine k_cond rfl (fun h => ?_) (fun h => ?_)
        rotate_left
        ·
          obtain rfl : i = ps.length := by omega
          refine k_exit rfl ?_
          refine k_seq ?_
          refine k_region ?_
          refine m_bool rfl rfl ?_
          refine o_nil ?_
          refine k_ret (ret_tmps (ts := [2]) (v := .bool _) rfl rfl ?_)
          refine ⟨congrArg Value.bool (nameB_true ⟨h8, h13, h18, h22, fun j p hj => ?_⟩).symm, hK3⟩
          rw [hP] at hj ⊢
          exact hno j p (List.getElem?_eq_some_iff.1 hj).1 hj
        have hil : i < ps.length := by omega
        obtain ⟨p, hp⟩ : ∃ p, ps[i]? = some p := ⟨_, List.getElem?_eq_getElem hil⟩
        have hbad : partBad ps.length i p → nameB s = false := fun hb => nameB_false (fun hh => by have h9 := hh.2.2.2.2; rw [hP] at h9; exact h9 i p hp hb)
        refine k_skip ?_
        refine k_seq ?_
        refine k_block ?_
        refine k_seq ?_
        refine k_region ?_
        refine m_int rfl rfl ?_
        refine o_ixs1 Tryd.underlying72 rfl rfl rfl hil ?_
        refine o_ld rfl rfl (hB3.rd.cellK (i := i) (v := .string p) (Keep.refl _ _) (by simp [hp])) ?_
        refine m_int rfl rfl ?_
        refine m_str rfl rfl ?_
        refine o_nil ?_
        refine k_seq ?_
        refine k_region ?_
        refine m_str rfl rfl ?_
        refine b_eqlstr Tryd.underlying9 rfl rfl ?_
        refine m_bool rfl rfl ?_
        refine o_split (t := 34) rfl (fun h => ?_) (fun h => ?_)
        ·
          have h34 : p = dot1 := h
          refine g_no rfl rfl rfl ?_
          refine g_no rfl rfl rfl ?_
          refine pick_t rfl rfl ?_
          refine m_bool rfl rfl ?_
          refine g_no rfl rfl rfl ?_
          refine g_no rfl rfl rfl ?_
          refine g_no rfl rfl rfl ?_
          refine g_un rfl rfl ?_
          refine g_un rfl rfl ?_
          refine g_un rfl rfl ?_
          refine g_un rfl rfl ?_
          refine g_un rfl rfl ?_
          refine g_un rfl rfl ?_
          refine g_un rfl rfl ?_
          refine g_un rfl rfl ?_
          refine g_un rfl rfl ?_
          refine g_no rfl rfl rfl ?_
          refine pick_t rfl rfl ?_
          refine o_nil ?_
          refine k_condt rfl ?_
          refine k_seq ?_
          refine k_region ?_
          refine m_bool rfl rfl ?_
          refine o_nil ?_
          refine k_ret (ret_tmps (ts := [2]) (v := .bool _) rfl rfl ?_)
          exact ⟨congrArg Value.bool (hbad (.inl h34)).symm, hK3⟩
        ·
          have h34 : ¬ p = dot1 := h
          refine g_yes rfl rfl ?_
          refine m_str rfl rfl ?_
          refine g_yes rfl rfl ?_
          refine b_eqlstr Tryd.underlying9 rfl rfl ?_
          refine pick_f rfl rfl ?_
          refine m_bool rfl rfl ?_
          refine o_split (t := 38) rfl (fun h => ?_) (fun h => ?_)
          ·
            have h38 : p = dot2 := h
            refine g_no rfl rfl rfl ?_
            refine g_no rfl rfl rfl ?_
            refine g_no rfl rfl rfl ?_
            refine g_un rfl rfl ?_
            refine g_un rfl rfl ?_
            refine g_un rfl rfl ?_
            refine g_un rfl rfl ?_
            refine g_un rfl rfl ?_
            refine g_un rfl rfl ?_
            refine g_un rfl rfl ?_
            refine g_un rfl rfl ?_
            refine g_un rfl rfl ?_
            refine g_no rfl rfl rfl ?_
            refine pick_t rfl rfl ?_
            refine o_nil ?_
            refine k_condt rfl ?_
            refine k_seq ?_
            refine k_region ?_
            refine m_bool rfl rfl ?_
            refine o_nil ?_
            refine k_ret (ret_tmps (ts := [2]) (v := .bool _) rfl rfl ?_)
            exact ⟨congrArg Value.bool (hbad (.inr (.inl h38))).symm, hK3⟩
          ·
            have h38 : ¬ p = dot2 := h
            refine g_yes rfl rfl ?_
            refine m_str rfl rfl ?_
            refine g_yes rfl rfl ?_
            refine b_eqlstr Tryd.underlying9 rfl rfl ?_
            refine g_yes rfl rfl ?_
            refine m_bool rfl rfl ?_
            refine o_split (t := 41) rfl (fun h => ?_) (fun h => ?_)
            ·
              have h41 : p = emp := h
              refine g_yes rfl rfl ?_
              refine m_int rfl rfl ?_
              refine g_yes rfl rfl ?_
              refine b_eql rfl rfl ?_
              refine g_yes rfl rfl ?_
              refine m_bool rfl rfl ?_
              refine o_split (t := 44) rfl (fun h => ?_) (fun h => ?_)
              ·
                have h44 := h
                refine g_no rfl rfl rfl ?_
                refine g_no rfl rfl rfl ?_
                refine g_no rfl rfl rfl ?_
                refine g_no rfl rfl rfl ?_
                refine g_no rfl rfl rfl ?_
                refine g_yes rfl rfl ?_
                refine pick_t rfl rfl ?_
                refine g_yes rfl rfl ?_
                refine pick_t rfl rfl ?_
                refine pick_f rfl rfl ?_
                refine o_nil ?_
                refine k_condt rfl ?_
                refine k_seq ?_
                refine k_region ?_
                refine m_bool rfl rfl ?_
                refine o_nil ?_
                refine k_ret (ret_tmps (ts := [2]) (v := .bool _) rfl rfl ?_)
                exact ⟨congrArg Value.bool (hbad (.inr (.inr ⟨h41, .inl (by omega)⟩))).symm, hK3⟩
              ·
                have h44 := h
                refine g_yes rfl rfl ?_
                refine m_int rfl rfl ?_
                refine g_yes rfl rfl ?_
                refine m_sl rfl rfl ?_
                refine g_yes rfl rfl ?_
                refine o_lens Tryd.underlying72 rfl ?_
                refine g_yes rfl rfl ?_
                refine n_sub rfl rfl (by omega) ?_
                refine g_yes rfl rfl ?_
                refine b_lss rfl rfl ?_
                refine g_yes rfl rfl ?_
                refine pick_f rfl rfl ?_
                refine g_yes rfl rfl ?_
                refine pick_t rfl rfl ?_
                refine pick_f rfl rfl ?_
                refine o_nil ?_
                refine k_cond rfl (fun h => ?_) (fun h => ?_)
                ·
                  refine k_seq ?_
                  refine k_region ?_
                  refine m_bool rfl rfl ?_
                  refine o_nil ?_
                  refine k_ret (ret_tmps (ts := [2]) (v := .bool _) rfl rfl ?_)
                  exact ⟨congrArg Value.bool (hbad (.inr (.inr ⟨h41, .inr (by omega)⟩))).symm, hK3⟩
                have h52 := h
                refine k_skip ?_
                refine k_blk ?_
                refine k_region ?_
                refine n_add rfl rfl (by omega) ?_
                refine m_int rfl rfl ?_
                refine o_nil ?_
                refine k_goal ⟨i + 1, ⟨rfl, rfl, rfl, rfl, trivial⟩, ⟨by omega, ?_, rfl⟩, by omega⟩
                intro j q hj hq
                by_cases hjj : j < i
                · exact hno j q hjj hq
                · obtain rfl : j = i := by omega
                  rw [hp] at hq
                  cases hq
                  rintro (h | h | ⟨_, h | h⟩)
                  · exact h34 h
                  · exact h38 h
                  · omega
                  · omega
            ·
              have h41 : ¬ p = emp := h
              refine g_no rfl rfl rfl ?_
              refine g_no rfl rfl rfl ?_
              refine g_no rfl rfl rfl ?_
              refine g_un rfl rfl ?_
              refine g_un rfl rfl ?_
              refine g_un rfl rfl ?_
              refine g_un rfl rfl ?_
              refine g_un rfl rfl ?_
              refine g_no rfl rfl rfl ?_
              refine g_yes rfl rfl ?_
              refine pick_f rfl rfl ?_
              refine pick_f rfl rfl ?_
              refine o_nil ?_
              refine k_condf rfl ?_
              refine k_skip ?_
              refine k_blk ?_
              refine k_region ?_
              refine n_add rfl rfl (by omega) ?_
              refine m_int rfl rfl ?_
              refine o_nil ?_
              refine k_goal ⟨i + 1, ⟨rfl, rfl, rfl, rfl, trivial⟩, ⟨by omega, ?_, rfl⟩, by omega⟩
              intro j q hj hq
              by_cases hjj : j < i
              · exact hno j q hjj hq
              · obtain rfl : j = i := by omega
                rw [hp] at hq
                cases hq
                rintro (h | h | ⟨h, _⟩)
                · exact h34 h
                · exact h38 h
                · exact h41 h
end Go.Proofs.YtiapgmfooclpcaaDoor

/- Records of a directory: rules for strings and results; (*book).record. No condition beyond what each contract names. -/
namespace Go.Proofs.YtiapgmfooclpcaaDoor
open Go.RowKit E
set_option linter.unusedVariables false
set_option linter.unusedSimpArgs false
set_option maxRecDepth 100000
attribute [local irreducible] ow qw kw kq cw opW Ret
namespace E
/-- a result that lies in memory, and two in slots -/
theorem ret_cell2 {P : Program} {n : Nat} {e : Env} {w : World} {F : Func} {S : Value → World → Prop} {a t u u' b : Nat} {xs : List Value} {v2 v3 : Value} (hr : F.results = #[.cell a t, .tmp u, .tmp u']) (ha : ev n e (.tmp a) = .pointer (some ⟨b, 0, none⟩)) (ht : isAggB P t = true) (hs : szB P t xs.length = true)
    (hc : ∀ j v, xs[j]? = some v → w.cell? ⟨b, j, none⟩ = some v) (hu : ev n e (.tmp u) = v2) (hu' : ev n e (.tmp u') = v3) (h : S (.tuple #[.agg xs.toArray, v2, v3]) w) : retR P F n S .ret e w := by
  refine ⟨.tuple #[.agg xs.toArray, v2, v3], ?_, h⟩
  have hg : ∀ t, (act n e).tmps.getD t undef = ev n e (.tmp t) := fun t => by rw [← act_eval]; rfl
  have hl := run_loadCellsFrom (P := P) (w := w) (b := b) (o := 0) xs 0 #[] (fun j v hv => by rw [Nat.zero_add, Nat.zero_add]; exact hc j v hv)
  have hlv : (loadVar t ⟨b, 0, none⟩).run P w = .ok (.agg xs.toArray) w := by
    simp [loadVar, run_isAggT ht, E.run_sizeOf hs, loadCells, hl]
  have hm : (F.results.mapM (fun
      | .tmp t => pure ((act n e).tmps.getD t undef)
      | .cell a t => do loadVar t (← asAddr ((act n e).tmps.getD a undef)) : ResultVar → Sem Value)).run P w = .ok #[.agg xs.toArray, v2, v3] w := by
    rw [hr]
    simp only [Array.mapM_eq_foldlM, ← Array.foldlM_toList, List.foldlM_cons, List.foldlM_nil, Sem.run_bind, Sem.run_map, Sem.run_pure, Result.andThen_ok, hg, ha, hu, hu', asAddr, hlv]
    rfl
  have hres : (results F (act n e).tmps).run P w = ((F.results.mapM (fun
      | .tmp t => pure ((act n e).tmps.getD t undef)
      | .cell a t => do loadVar t (← asAddr ((act n e).tmps.getD a undef)) : ResultVar → Sem Value)).run P w).andThen
        (fun vs w' => (pure (if h : vs.size = 1 then vs[0] else .tuple vs) : Sem Value).run P w') := Sem.run_bind P w _ _
  rw [hres, hm, Result.andThen_ok, Sem.run_pure]
  simp
end E
/-- bytes as a string -/
def bsStr (xs : Bs) : ByteArray := ⟨(xs.map fun b => UInt8.ofBitVec b).toArray⟩
theorem bsStr_size (xs : Bs) : (bsStr xs).size = xs.length := by show (xs.map fun b => UInt8.ofBitVec b).toArray.size = _; simp
theorem bsStr_at (xs : Bs) (i : Nat) (h : i < (bsStr xs).size) : ((bsStr xs)[i].toNat : Int) = ((xs[i]'(by rw [bsStr_size] at h; exact h)).toNat : Int) := by
  have h' : i < xs.length := by rw [bsStr_size] at h; exact h
  have h1 : (bsStr xs)[i] = (xs.map fun b => UInt8.ofBitVec b)[i]'(by simpa using h') := rfl
  rw [h1, List.getElem_map]; rfl
theorem bsStr_inj {xs ys : Bs} (h : bsStr xs = bsStr ys) : xs = ys := by
  have h1 : (xs.map fun b => UInt8.ofBitVec b) = (ys.map fun b => UInt8.ofBitVec b) := by
    have := congrArg (fun s : ByteArray => s.data.toList) h
    simpa [bsStr] using this
  exact (List.map_inj_right (fun x y hxy => congrArg UInt8.toBitVec hxy)).1 h1
/-- string(b) of bytes -/
theorem o_cstr {P : Program} {n : Nat} {e : Env} {w : World} {l0 l : List Oper} {K : Env → World → Prop} {d : Nat} {T : TypeId} {pos : String} {af : Array Edge} {x : Operand} {b o E' m : Nat} {xs : Bs} {S D : TypeId} {cap : Nat} (hs : P.underlying S = some (.slice E')) (he : P.underlying E' = some (.int .u8)) (hd : P.underlying D = some .string) (hx : ev n e x = .slice (some ⟨b, o, none⟩) m cap) (hR : Rd w (some ⟨b, o, none⟩) (xs.map u8v)) (hm : xs.length = m)
    (h : ow P n l0 K l (upd e d (.string (bsStr xs))) w) : ow P n l0 K (⟨some d, .convert S D x, T, pos, af, none⟩ :: l) e w := by
  refine o_run (v := .string (bsStr xs)) (w' := w) ?_ h
  have hr := Lib.run_convert_whole (P := P) w S E' D hs he hd b o (bsStr xs) (fun i hi => by
    have hi' : i < xs.length := by rw [bsStr_size] at hi; exact hi
    rw [bsStr_at xs i hi]
    have := hR.cellK (Keep.refl _ _) (u8_at xs i hi')
    exact this) cap
  rw [bsStr_size, hm] at hr
  simp [execOp, hx, hr]
def anI (a c : Int) : Int := IntKind.i64.wrap (BitVec.ofInt IntKind.i64.bits a &&& ~~~ BitVec.ofInt IntKind.i64.bits c).toNat
/-- a record of the directory, with its place -/
structure Rc where
  name : ByteArray
  method : Nat
  packed : Nat
  size : Nat
  sum : Nat
  at_ : Nat
  head : Nat
  place : Nat
def rcC (r : Rc) : List Value := [.string r.name, nv r.method, nv r.packed, nv r.size, nv r.sum, nv r.at_, nv r.head, nv r.place]
def sub (bs : Bs) (p n : Nat) : Bs := (bs.drop p).take n
theorem sub_len (bs : Bs) (p n : Nat) (h : p + n ≤ bs.length) : (sub bs p n).length = n := by unfold sub; simp; omega
def recAt (bs : Bs) (p : Nat) : Rc := ⟨bsStr (sub bs (p + 46) (rdN bs (p + 28) 2)), rdN bs (p + 10) 2, rdN bs (p + 20) 4, rdN bs (p + 24) 4, rdN bs (p + 16) 4, 0, rdN bs (p + 42) 4, p⟩
def recEnd (bs : Bs) (p : Nat) : Nat := p + 46 + rdN bs (p + 28) 2 + rdN bs (p + 30) 2 + rdN bs (p + 32) 2
noncomputable def recE (bs : Bs) (p bd : Nat) (sn : ByteArray → Bool) : Int :=
  if ¬ (p + 46 ≤ bd ∧ kd (q4 bs p) = 2#8) then 11 else if bd < recEnd bs p ∨ rdN bs (p + 34) 2 ≠ 0 then 11 else
  if 20 < rdN bs (p + 6) 2 ∨ anI (rdN bs (p + 8) 2 : Int) 2054 ≠ 0 ∨ anI (rdN bs (p + 10) 2 : Int) 8 ≠ 0 then 12 else if nameB (recAt bs p).name = false then 13 else if sn (recAt bs p).name = true then 14 else 0
def SnM (w : World) (sm : Nat) (sn : ByteArray → Bool) : Prop := ∃ m, Mp w sm Value.string m ∧ ∀ s, getM m s = if sn s then some (.bool true) else none
theorem SnM.keep {S : List Nat} {w w' : World} {sm : Nat} {sn : ByteArray → Bool} (h : SnM w sm sn) (hk : Keep S w w') (hS : sm ∉ S) : SnM w' sm sn := by
  obtain ⟨m, h1, h2⟩ := h
  exact ⟨m, h1.keep hk hS, h2⟩
def snPut (sn : ByteArray → Bool) (s : ByteArray) : ByteArray → Bool := fun t => if t = s then true else sn t
def r0C : List Value := [.string emp, nv 0, nv 0, nv 0, nv 0, nv 0, nv 0, nv 0]
def RecR (bs : Bs) (p bd sm : Nat) (sn : ByteArray → Bool) (w : World) (v : Value) (w' : World) : Prop :=
  ∃ (cs : Array Value) (bh : Int), v = .tuple #[.agg cs, .int .i64 bh, .int .i64 (recE bs p bd sn)] ∧ (recE bs p bd sn = 0 → cs = (rcC (recAt bs p)).toArray ∧ bh = (recEnd bs p : Int) ∧ SnM w' sm (snPut sn (recAt bs p).name) ∧ Keep [sm] w w') ∧ (recE bs p bd sn ≠ 0 → cs = r0C.toArray ∧ Keep [] w w')
theorem inf59 : infB Tryd.prog 59 8 72 (.agg r0C.toArray) := ⟨_, rfl, rfl, rfl, rfl⟩
theorem bld59 : ∀ w, (Instr.build 59 #[]).run Tryd.prog w = .ok (.agg r0C.toArray) w := fun _ => by kernel_rfl
theorem r0_one : ∀ u ∈ r0C, u.oneCell' = true := by intro u hu; simp [r0C] at hu; rcases hu with rfl | rfl <;> rfl
theorem rc_one (r : Rc) : ∀ u ∈ rcC r, u.oneCell' = true := by intro u hu; simp [rcC] at hu; rcases hu with rfl | rfl | rfl | rfl | rfl | rfl | rfl | rfl <;> rfl
theorem sta_all {w : World} {b : Nat} {cs : Array Value} {xs : List Value} {T : TypeId} (h : Blk w b (cs.toList.take 0 ++ xs ++ cs.toList.drop (0 + xs.length)).toArray T) (hs : cs.size = xs.length) : Blk w b xs.toArray T := by
  rw [List.take_zero, List.nil_append, Nat.zero_add, List.drop_of_length_le (by simp [hs]), List.append_nil] at h
  exact h
theorem blk_l {w : World} {b : Nat} {xs : List Value} {T : TypeId} (h : Blk w b xs.toArray T) {i : Nat} {v : Value} (hi : xs[i]? = some v) : w.cell? ⟨b, i, none⟩ = some v := h.at (by simpa using hi)
end Go.Proofs.YtiapgmfooclpcaaDoor

/- (*book).record. No condition beyond what its contract names. -/
namespace Go.Proofs.YtiapgmfooclpcaaDoor
open Go.RowKit E
set_option linter.unusedVariables false
set_option linter.unusedSimpArgs false
set_option maxRecDepth 100000
attribute [local irreducible] ow qw kw kq cw opW Ret
theorem inf4 : infB Tryd.prog 4 1 1 (.bool false) := ⟨_, rfl, rfl, rfl, rfl⟩
theorem rec_err {bs : Bs} {p bd sm : Nat} {sn : ByteArray → Bool} {w w' : World} {y : Int} (h : recE bs p bd sn = y) (hy : y ≠ 0) (hk : Keep [] w w') (bh : Int) : RecR bs p bd sm sn w (.tuple #[.agg r0C.toArray, .int .i64 bh, .int .i64 y]) w' := by
  refine ⟨_, bh, by rw [h], fun hh => ?_, fun _ => ⟨rfl, hk⟩⟩
  rw [h] at hh; exact absurd hh hy
theorem cut_ex (b o p c : Nat) : ∃ o', cutAt (some ⟨b, o, none⟩) p c 1 = some ⟨b, o', none⟩ := by
  by_cases h : c = p
  · exact ⟨o, by unfold cutAt; rw [if_pos h]⟩
  · exact ⟨o + p, cut_some b o p c h⟩
set_option maxHeartbeats 2000000 in
theorem record_ok (H : Nat) (w : World) (kb : Nat) (bs : Bs) (p bd sm : Nat) (sn : ByteArray → Bool) (hBk : BookP H w kb bs) (hb : bd ≤ bs.length) (hSn : SnM w sm sn) (hH : H ≤ w.heap.size) (hp : p ≤ 200000) :
    Ret Tryd.prog 20 [.pointer (some ⟨kb, 0, none⟩), .int .i64 (p : Int), .int .i64 (bd : Int), .map (some sm)] w (RecR bs p bd sm sn w) := by
  have hr8 : ∀ r : List Value, r.length = 8 → ∀ n : Nat, n = 8 → r.length = n := fun r h n hn => by omega
  refine fn_enter (n := 125) Tryd.func20 rfl rfl (Nat.le_of_ble_eq_true rfl) (fun e => ?_)
  refine k_seq ?_
  refine k_region ?_
  refine o_alloc (cs := r0C.toArray) inf59 rfl (fun b8 w1 hA1 hK1 hb1 hZ1 => ?_)
  refine m_int rfl rfl ?_
  refine m_int rfl rfl ?_
  refine o_nil ?_
  refine k_seq ?_
  refine k_region ?_
  refine o_build (v := .agg r0C.toArray) rfl bld59 ?_
  refine o_alloc (cs := r0C.toArray) inf59 rfl (fun b11 w2 hB2 hK2 hb2 hZ2 => ?_)
  refine o_sta (xs := r0C) rfl rfl rfl r0_one hB2 (by decide) (fun w3 hB3 hK3 hZ3 => ?_)
  have hB3 := sta_all hB3 rfl
  have hk2 := hK1.tr hK2
  have hk3 : Keep [] w w3 := hk2.tr1 hK3 (by have := hK1.size; omega)
  have hA3 : Blk w3 b8 r0C.toArray 59 := (hA1.keep hK2 (by simp)).keep hK3 (by simp; omega)
  have h811 : b8 ≠ b11 := by omega
  refine o_nil ?_
  refine k_seq ?_
  refine k_seq ?_
  refine k_region ?_
  refine m_ptr rfl rfl ?_
  refine m_int rfl rfl ?_
  refine m_int rfl rfl ?_
  refine o_call (vs := [.pointer (some ⟨kb, 0, none⟩), .int .u8 ((2#8).toNat : Int), .int .i64 (p : Int), .int .i64 ((46 : Nat) : Int), .int .i64 (bd : Int)]) rfl rfl (is_ok H w3 kb bs 2#8 p 46 bd (hBk.new hk3) (by decide) (by decide) hb (by omega)) (fun v w4 hv => ?_)
  obtain ⟨rfl, hK4⟩ := hv
  have hk4 := hk3.tr hK4
  have hA4 := hA3.keep hK4 (by simp)
  have hB4 := hB3.keep hK4 (by simp)
  have hBk4 := hBk.new hk4
  have hsz4 := hk4.size
  have hb8 : w.heap.size ≤ b8 := by omega
  refine u_notb rfl ?_
  refine o_nil ?_
  refine k_cond (p := ¬ (p + 46 ≤ bd ∧ kd (q4 bs p) = 2#8)) (by show Value.bool (!(decide (p + 46 ≤ bd ∧ kd (q4 bs p) = 2#8))) = _; rw [← decide_not]) (fun h => ?_) (fun h => ?_)
  ·
    refine k_seq ?_
    refine k_region ?_
    refine o_lda (xs := r0C) rfl rfl rfl (fun j v hj => by rw [Nat.zero_add]; exact blk_l hB4 hj) ?_
    refine o_sta (xs := r0C) rfl rfl rfl r0_one hA4 (by decide) (fun w9 hA9 hK9 hZ9 => ?_)
    have hA9 := sta_all hA9 rfl
    refine m_int rfl rfl ?_
    refine m_int rfl rfl ?_
    refine o_nil ?_
    refine k_ret (ret_cell2 (v2 := .int _ _) (v3 := .int _ _) rfl rfl rfl rfl (fun j v hv => blk_l hA9 hv) rfl rfl ?_)
    exact rec_err (y := 11) (if_pos h) (by decide) (hk4.tr1 hK9 hb8) _
  have h20 : p + 46 ≤ bd ∧ kd (q4 bs p) = 2#8 := Decidable.not_not.1 h
  have hp46 : p + 46 ≤ bs.length := by omega
  have h65 : bs.length ≤ 65536 := by obtain ⟨_, _, _, _, _, _, h4, _⟩ := hBk; exact h4
  have n28 := rdN_lt bs 2 (p + 28)
  have n30 := rdN_lt bs 2 (p + 30)
  have n32 := rdN_lt bs 2 (p + 32)
  have hre : recE bs p bd sn = if bd < recEnd bs p ∨ rdN bs (p + 34) 2 ≠ 0 then 11 else if 20 < rdN bs (p + 6) 2 ∨ anI (rdN bs (p + 8) 2 : Int) 2054 ≠ 0 ∨ anI (rdN bs (p + 10) 2 : Int) 8 ≠ 0 then 12 else if nameB (recAt bs p).name = false then 13 else if sn (recAt bs p).name = true then 14 else 0 := by unfold recE; rw [if_neg (fun hh => hh h20)]
  refine k_skip ?_
  refine k_seq ?_
  refine k_region ?_
  refine m_ptr rfl rfl ?_
  refine m_int rfl rfl ?_
  refine n_add rfl rfl (by omega) ?_
  refine o_call (vs := [.pointer (some ⟨kb, 0, none⟩), .int .i64 ((p + 28 : Nat) : Int), .int .i64 ((2 : Nat) : Int)]) rfl rfl (num_ok H w4 kb bs (p + 28) 2 hBk4 (by decide) (by decide)) (fun u w6 hu => ?_)
  rw [if_neg (by omega)] at hu
  obtain ⟨rfl, hw6⟩ := hu
  subst hw6
  refine m_int rfl rfl ?_
  refine o_nil ?_
  refine k_seq ?_
  refine k_region ?_
  refine m_int rfl rfl ?_
  refine n_add rfl rfl (by omega) ?_
  refine m_int rfl rfl ?_
  refine n_add rfl rfl (by omega) ?_
  refine m_ptr rfl rfl ?_
  refine m_int rfl rfl ?_
  refine n_add rfl rfl (by omega) ?_
  refine o_call (vs := [.pointer (some ⟨kb, 0, none⟩), .int .i64 ((p + 30 : Nat) : Int), .int .i64 ((2 : Nat) : Int)]) rfl rfl (num_ok H w6 kb bs (p + 30) 2 hBk4 (by decide) (by decide)) (fun u w6 hu => ?_)
  rw [if_neg (by omega)] at hu
  obtain ⟨rfl, hw6⟩ := hu
  subst hw6
  refine n_add rfl rfl (by omega) ?_
  refine m_ptr rfl rfl ?_
  refine m_int rfl rfl ?_
  refine n_add rfl rfl (by omega) ?_
  refine o_call (vs := [.pointer (some ⟨kb, 0, none⟩), .int .i64 ((p + 32 : Nat) : Int), .int .i64 ((2 : Nat) : Int)]) rfl rfl (num_ok H w6 kb bs (p + 32) 2 hBk4 (by decide) (by decide)) (fun u w6 hu => ?_)
  rw [if_neg (by omega)] at hu
  obtain ⟨rfl, hw6⟩ := hu
  subst hw6
  refine n_add rfl rfl (by omega) ?_
  refine m_int rfl rfl ?_
  refine o_nil ?_
  refine k_seq ?_
  refine k_seq ?_
  refine k_region ?_
  refine m_int rfl rfl ?_
  refine m_int rfl rfl ?_
  refine b_gtr rfl rfl ?_
  refine m_bool rfl rfl ?_
  refine o_split (t := 43) rfl (fun h => ?_) (fun h => ?_)
  ·
    have h43 : bd < recEnd bs p := by unfold recEnd; omega
    refine g_no rfl rfl rfl ?_
    refine g_no rfl rfl rfl ?_
    refine g_no rfl rfl rfl ?_
    refine g_no rfl rfl rfl ?_
    refine g_no rfl rfl rfl ?_
    refine pick_t rfl rfl ?_
    refine o_nil ?_
    refine k_condt rfl ?_
    refine k_seq ?_
    refine k_region ?_
    refine o_lda (xs := r0C) rfl rfl rfl (fun j v hj => by rw [Nat.zero_add]; exact blk_l hB4 hj) ?_
    refine o_sta (xs := r0C) rfl rfl rfl r0_one hA4 (by decide) (fun w9 hA9 hK9 hZ9 => ?_)
    have hA9 := sta_all hA9 rfl
    refine m_int rfl rfl ?_
    refine m_int rfl rfl ?_
    refine o_nil ?_
    refine k_ret (ret_cell2 (v2 := .int _ _) (v3 := .int _ _) rfl rfl rfl rfl (fun j v hv => blk_l hA9 hv) rfl rfl ?_)
    exact rec_err (y := 11) (by rw [hre, if_pos (.inl h43)]) (by decide) (hk4.tr1 hK9 hb8) _
  ·
    have h43 : recEnd bs p ≤ bd := by unfold recEnd; omega
    refine g_yes rfl rfl ?_
    refine m_ptr rfl rfl ?_
    refine g_yes rfl rfl ?_
    refine m_int rfl rfl ?_
    refine g_yes rfl rfl ?_
    refine n_add rfl rfl (by omega) ?_
    refine g_yes rfl rfl ?_
    refine o_call (vs := [.pointer (some ⟨kb, 0, none⟩), .int .i64 ((p + 34 : Nat) : Int), .int .i64 ((2 : Nat) : Int)]) rfl rfl (num_ok H w6 kb bs (p + 34) 2 hBk4 (by decide) (by decide)) (fun u w6 hu => ?_)
    rw [if_neg (by omega)] at hu
    obtain ⟨rfl, hw6⟩ := hu
    subst hw6
    refine g_yes rfl rfl ?_
    refine b_neq rfl rfl ?_
    refine pick_f rfl rfl ?_
    refine o_nil ?_
    refine k_cond rfl (fun h => ?_) (fun h => ?_)
    ·
      refine k_seq ?_
      refine k_region ?_
      refine o_lda (xs := r0C) rfl rfl rfl (fun j v hj => by rw [Nat.zero_add]; exact blk_l hB4 hj) ?_
      refine o_sta (xs := r0C) rfl rfl rfl r0_one hA4 (by decide) (fun w9 hA9 hK9 hZ9 => ?_)
      have hA9 := sta_all hA9 rfl
      refine m_int rfl rfl ?_
      refine m_int rfl rfl ?_
      refine o_nil ?_
      refine k_ret (ret_cell2 (v2 := .int _ _) (v3 := .int _ _) rfl rfl rfl rfl (fun j v hv => blk_l hA9 hv) rfl rfl ?_)
      exact rec_err (y := 11) (by rw [hre, if_pos (.inr (by omega))]) (by decide) (hk4.tr1 hK9 hb8) _
    have h34 : rdN bs (p + 34) 2 = 0 := by omega
    have hre2 : recE bs p bd sn = if 20 < rdN bs (p + 6) 2 ∨ anI (rdN bs (p + 8) 2 : Int) 2054 ≠ 0 ∨ anI (rdN bs (p + 10) 2 : Int) 8 ≠ 0 then 12 else if nameB (recAt bs p).name = false then 13 else if sn (recAt bs p).name = true then 14 else 0 := by rw [hre, if_neg (fun hh => by omega)]
    have hend : recEnd bs p = p + 46 + rdN bs (p + 28) 2 + rdN bs (p + 30) 2 + rdN bs (p + 32) 2 := rfl
    obtain ⟨a, c, rm, hBB, hRR, hcc, _, _, hkH, _, _⟩ := id hBk4
    obtain ⟨b0, o0, rfl, _⟩ := hRR.at 0 (by simp; omega)
    obtain ⟨oc, hoc⟩ := cut_ex b0 o0 (p + 46) c
    have hdr : Keep [] w6 w6.drew := (Keep.refl [] w6).drew
    obtain ⟨wB, hwB⟩ : ∃ wB, wB = w6.heap.size := ⟨_, rfl⟩
    have m10 := rdN_lt bs 2 (p + 10)
    have m20 := rdN_lt bs 4 (p + 20)
    have m24 := rdN_lt bs 4 (p + 24)
    have m16 := rdN_lt bs 4 (p + 16)
    have m42 := rdN_lt bs 4 (p + 42)
    have hnm : ((bs.drop (p + 46)).take (rdN bs (p + 28) 2)).length = rdN bs (p + 28) 2 := by simp; omega
    refine k_skip ?_
    refine k_seq ?_
    refine k_any 36 (fun w w' => Keep [] w w') (fun iA => match iA with
        | 0 => fun v w => v = .pointer (some ⟨kb, 0, none⟩)
        | 1 => fun v w => v = .pointer (some ⟨kb, 0, none⟩)
        | 2 => fun v w => v = .pointer (some ⟨kb, 0, none⟩)
        | 3 => fun v w => v = .slice (some ⟨b0, o0, none⟩) bs.length c
        | 4 => fun v w => v = .int .i64 (p : Int)
        | 5 => fun v w => v = .int .i64 ((p + 46 : Nat) : Int)
        | 6 => fun v w => v = .int .i64 (p : Int)
        | 7 => fun v w => v = .int .i64 ((p + 46 : Nat) : Int)
        | 8 => fun v w => v = .int .i64 (rdN bs (p + 28) 2 : Int)
        | 9 => fun v w => v = .int .i64 ((p + 46 + rdN bs (p + 28) 2 : Nat) : Int)
        | 10 => fun v w => v = .slice (some ⟨b0, oc, none⟩) (rdN bs (p + 28) 2) (c - (p + 46))
        | 11 => fun v w => v = .string (recAt bs p).name
        | 12 => fun v w => v = .pointer (some ⟨kb, 0, none⟩)
        | 13 => fun v w => v = .int .i64 (p : Int)
        | 14 => fun v w => v = .int .i64 ((p + 10 : Nat) : Int)
        | 15 => fun v w => v = .int .i64 (rdN bs (p + 10) 2 : Int)
        | 16 => fun v w => v = .pointer (some ⟨kb, 0, none⟩)
        | 17 => fun v w => v = .int .i64 (p : Int)
        | 18 => fun v w => v = .int .i64 ((p + 20 : Nat) : Int)
        | 19 => fun v w => v = .int .i64 (rdN bs (p + 20) 4 : Int)
        | 20 => fun v w => v = .pointer (some ⟨kb, 0, none⟩)
        | 21 => fun v w => v = .int .i64 (p : Int)
        | 22 => fun v w => v = .int .i64 ((p + 24 : Nat) : Int)
        | 23 => fun v w => v = .int .i64 (rdN bs (p + 24) 4 : Int)
        | 24 => fun v w => v = .pointer (some ⟨kb, 0, none⟩)
        | 25 => fun v w => v = .int .i64 (p : Int)
        | 26 => fun v w => v = .int .i64 ((p + 16 : Nat) : Int)
        | 27 => fun v w => v = .int .i64 (rdN bs (p + 16) 4 : Int)
        | 28 => fun v w => v = .pointer (some ⟨kb, 0, none⟩)
        | 29 => fun v w => v = .int .i64 (p : Int)
        | 30 => fun v w => v = .int .i64 ((p + 42 : Nat) : Int)
        | 31 => fun v w => v = .int .i64 (rdN bs (p + 42) 4 : Int)
        | 32 => fun v w => v = .agg ((rcC (recAt bs p)).take 7).toArray
        | 33 => fun v w => v = .int .i64 (p : Int)
        | 34 => fun v w => v = .agg (rcC (recAt bs p)).toArray
        | 35 => fun v w => ∃ b, v = .pointer (some ⟨b, 0, none⟩) ∧ Blk w b r0C.toArray 59 ∧ wB ≤ b
        | _ => fun v w => True) rfl rfl rfl rfl rfl (Keep.refl []) (fun _ _ _ h1 h2 => h1.tr h2) ?_ ?_ ?_
    · intro iA v w w' h hL
      match iA, h with
      | 0, h =>
        exact h
      | 1, h =>
        exact h
      | 2, h =>
        exact h
      | 3, h =>
        exact h
      | 4, h =>
        exact h
      | 5, h =>
        exact h
      | 6, h =>
        exact h
      | 7, h =>
        exact h
      | 8, h =>
        exact h
      | 9, h =>
        exact h
      | 10, h =>
        exact h
      | 11, h =>
        exact h
      | 12, h =>
        exact h
      | 13, h =>
        exact h
      | 14, h =>
        exact h
      | 15, h =>
        exact h
      | 16, h =>
        exact h
      | 17, h =>
        exact h
      | 18, h =>
        exact h
      | 19, h =>
        exact h
      | 20, h =>
        exact h
      | 21, h =>
        exact h
      | 22, h =>
        exact h
      | 23, h =>
        exact h
      | 24, h =>
        exact h
      | 25, h =>
        exact h
      | 26, h =>
        exact h
      | 27, h =>
        exact h
      | 28, h =>
        exact h
      | 29, h =>
        exact h
      | 30, h =>
        exact h
      | 31, h =>
        exact h
      | 32, h =>
        exact h
      | 33, h =>
        exact h
      | 34, h =>
        exact h
      | 35, h =>
        obtain ⟨b, h1, h2, h3⟩ := h
        exact ⟨b, h1, h2.keep hL (by simp), h3⟩
      | _ + 36, h => trivial
    · intro iA o him hl eA wA hL hA hD
      match iA, him, hl with
      | 0, _, hl =>
        obtain rfl := Option.some.inj hl
        refine o_gen [(0, _)] ⟨hA 0 (free_of rfl), trivial⟩ (fun e2 => ?_)
        refine m_ptr rfl rfl ?_
        refine o_nil ⟨Keep.refl _ _, rfl⟩
      | 1, _, hl =>
        obtain rfl := Option.some.inj hl
        refine o_gen [(51, _)] ⟨hD 0 (by decide) 51 rfl, trivial⟩ (fun e2 => ?_)
        refine o_nilc rfl ?_
        refine o_nil ⟨Keep.refl _ _, rfl⟩
      | 2, _, hl =>
        obtain rfl := Option.some.inj hl
        refine o_gen [(52, _)] ⟨hD 1 (by decide) 52 rfl, trivial⟩ (fun e2 => ?_)
        refine o_fld0 rfl rfl ?_
        refine o_nil ⟨Keep.refl _ _, rfl⟩
      | 3, _, hl =>
        obtain rfl := Option.some.inj hl
        refine o_gen [(53, _)] ⟨hD 2 (by decide) 53 rfl, trivial⟩ (fun e2 => ?_)
        refine o_ld rfl rfl ((hBB.keep (hdr.tr hL) (by simp)).at rfl) ?_
        refine o_nil ⟨Keep.refl _ _, rfl⟩
      | 4, _, hl =>
        obtain rfl := Option.some.inj hl
        refine o_gen [(1, _)] ⟨hA 1 (free_of rfl), trivial⟩ (fun e2 => ?_)
        refine m_int rfl rfl ?_
        refine o_nil ⟨Keep.refl _ _, rfl⟩
      | 5, _, hl =>
        obtain rfl := Option.some.inj hl
        refine o_gen [(55, _)] ⟨hD 4 (by decide) 55 rfl, trivial⟩ (fun e2 => ?_)
        refine n_add rfl rfl (by omega) ?_
        refine o_nil ⟨Keep.refl _ _, rfl⟩
      | 6, _, hl =>
        obtain rfl := Option.some.inj hl
        refine o_gen [(1, _)] ⟨hA 1 (free_of rfl), trivial⟩ (fun e2 => ?_)
        refine m_int rfl rfl ?_
        refine o_nil ⟨Keep.refl _ _, rfl⟩
      | 7, _, hl =>
        obtain rfl := Option.some.inj hl
        refine o_gen [(57, _)] ⟨hD 6 (by decide) 57 rfl, trivial⟩ (fun e2 => ?_)
        refine n_add rfl rfl (by omega) ?_
        refine o_nil ⟨Keep.refl _ _, rfl⟩
      | 8, _, hl =>
        obtain rfl := Option.some.inj hl
        refine o_gen [(12, _)] ⟨hA 12 (free_of rfl), trivial⟩ (fun e2 => ?_)
        refine m_int rfl rfl ?_
        refine o_nil ⟨Keep.refl _ _, rfl⟩
      | 9, _, hl =>
        obtain rfl := Option.some.inj hl
        refine o_gen [(58, _), (59, _)] ⟨hD 7 (by decide) 58 rfl, hD 8 (by decide) 59 rfl, trivial⟩ (fun e2 => ?_)
        refine n_add rfl rfl (by omega) ?_
        refine o_nil ⟨Keep.refl _ _, rfl⟩
      | 10, _, hl =>
        obtain rfl := Option.some.inj hl
        refine o_gen [(54, _), (56, _), (60, _)] ⟨hD 3 (by decide) 54 rfl, hD 5 (by decide) 56 rfl, hD 9 (by decide) 60 rfl, trivial⟩ (fun e2 => ?_)
        refine o_sllh (sz := 1) (lo := p + 46) (hi := p + 46 + rdN bs (p + 28) 2) Tryd.underlying25 rfl rfl rfl rfl (by omega) (by omega) ?_
        rw [hoc, Nat.add_sub_cancel_left]
        refine o_nil ⟨Keep.refl _ _, rfl⟩
      | 11, _, hl =>
        obtain rfl := Option.some.inj hl
        refine o_gen [(61, _)] ⟨hD 10 (by decide) 61 rfl, trivial⟩ (fun e2 => ?_)
        have hR6 := (hRR.new (hdr.tr hL))
        have hR7 := (cutAt_rd (lo := p + 46) (cap := c) (sz := 1) hR6 (by simp; omega) (by omega) (by simp; omega)).take (rdN bs (p + 28) 2)
        rw [hoc, Nat.mul_one, ← List.map_drop, ← List.map_take] at hR7
        refine o_cstr Tryd.underlying25 Tryd.underlying5 Tryd.underlying9 rfl hR7 hnm ?_
        refine o_nil ⟨Keep.refl _ _, rfl⟩
      | 12, _, hl =>
        obtain rfl := Option.some.inj hl
        refine o_gen [(0, _)] ⟨hA 0 (free_of rfl), trivial⟩ (fun e2 => ?_)
        refine m_ptr rfl rfl ?_
        refine o_nil ⟨Keep.refl _ _, rfl⟩
      | 13, _, hl =>
        obtain rfl := Option.some.inj hl
        refine o_gen [(1, _)] ⟨hA 1 (free_of rfl), trivial⟩ (fun e2 => ?_)
        refine m_int rfl rfl ?_
        refine o_nil ⟨Keep.refl _ _, rfl⟩
      | 14, _, hl =>
        obtain rfl := Option.some.inj hl
        refine o_gen [(64, _)] ⟨hD 13 (by decide) 64 rfl, trivial⟩ (fun e2 => ?_)
        refine n_add rfl rfl (by omega) ?_
        refine o_nil ⟨Keep.refl _ _, rfl⟩
      | 15, _, hl =>
        obtain rfl := Option.some.inj hl
        refine o_gen [(63, _), (65, _)] ⟨hD 12 (by decide) 63 rfl, hD 14 (by decide) 65 rfl, trivial⟩ (fun e2 => ?_)
        refine o_call (vs := [.pointer (some ⟨kb, 0, none⟩), .int .i64 ((p + 10 : Nat) : Int), .int .i64 ((2 : Nat) : Int)]) rfl rfl (num_ok H wA kb bs (p + 10) 2 (hBk4.new (hdr.tr hL)) (by decide) (by decide)) (fun u w6 hu => ?_)
        rw [if_neg (by omega)] at hu
        obtain ⟨rfl, hw6⟩ := hu
        subst hw6
        refine o_nil ⟨Keep.refl _ _, rfl⟩
      | 16, _, hl =>
        obtain rfl := Option.some.inj hl
        refine o_gen [(0, _)] ⟨hA 0 (free_of rfl), trivial⟩ (fun e2 => ?_)
        refine m_ptr rfl rfl ?_
        refine o_nil ⟨Keep.refl _ _, rfl⟩
      | 17, _, hl =>
        obtain rfl := Option.some.inj hl
        refine o_gen [(1, _)] ⟨hA 1 (free_of rfl), trivial⟩ (fun e2 => ?_)
        refine m_int rfl rfl ?_
        refine o_nil ⟨Keep.refl _ _, rfl⟩
      | 18, _, hl =>
        obtain rfl := Option.some.inj hl
        refine o_gen [(68, _)] ⟨hD 17 (by decide) 68 rfl, trivial⟩ (fun e2 => ?_)
        refine n_add rfl rfl (by omega) ?_
        refine o_nil ⟨Keep.refl _ _, rfl⟩
      | 19, _, hl =>
        obtain rfl := Option.some.inj hl
        refine o_gen [(67, _), (69, _)] ⟨hD 16 (by decide) 67 rfl, hD 18 (by decide) 69 rfl, trivial⟩ (fun e2 => ?_)
        refine o_call (vs := [.pointer (some ⟨kb, 0, none⟩), .int .i64 ((p + 20 : Nat) : Int), .int .i64 ((4 : Nat) : Int)]) rfl rfl (num_ok H wA kb bs (p + 20) 4 (hBk4.new (hdr.tr hL)) (by decide) (by decide)) (fun u w6 hu => ?_)
        rw [if_neg (by omega)] at hu
        obtain ⟨rfl, hw6⟩ := hu
        subst hw6
        refine o_nil ⟨Keep.refl _ _, rfl⟩
      | 20, _, hl =>
        obtain rfl := Option.some.inj hl
        refine o_gen [(0, _)] ⟨hA 0 (free_of rfl), trivial⟩ (fun e2 => ?_)
        refine m_ptr rfl rfl ?_
        refine o_nil ⟨Keep.refl _ _, rfl⟩
      | 21, _, hl =>
        obtain rfl := Option.some.inj hl
        refine o_gen [(1, _)] ⟨hA 1 (free_of rfl), trivial⟩ (fun e2 => ?_)
        refine m_int rfl rfl ?_
        refine o_nil ⟨Keep.refl _ _, rfl⟩
      | 22, _, hl =>
        obtain rfl := Option.some.inj hl
        refine o_gen [(72, _)] ⟨hD 21 (by decide) 72 rfl, trivial⟩ (fun e2 => ?_)
        refine n_add rfl rfl (by omega) ?_
        refine o_nil ⟨Keep.refl _ _, rfl⟩
      | 23, _, hl =>
        obtain rfl := Option.some.inj hl
        refine o_gen [(71, _), (73, _)] ⟨hD 20 (by decide) 71 rfl, hD 22 (by decide) 73 rfl, trivial⟩ (fun e2 => ?_)
        refine o_call (vs := [.pointer (some ⟨kb, 0, none⟩), .int .i64 ((p + 24 : Nat) : Int), .int .i64 ((4 : Nat) : Int)]) rfl rfl (num_ok H wA kb bs (p + 24) 4 (hBk4.new (hdr.tr hL)) (by decide) (by decide)) (fun u w6 hu => ?_)
        rw [if_neg (by omega)] at hu
        obtain ⟨rfl, hw6⟩ := hu
        subst hw6
        refine o_nil ⟨Keep.refl _ _, rfl⟩
      | 24, _, hl =>
        obtain rfl := Option.some.inj hl
        refine o_gen [(0, _)] ⟨hA 0 (free_of rfl), trivial⟩ (fun e2 => ?_)
        refine m_ptr rfl rfl ?_
        refine o_nil ⟨Keep.refl _ _, rfl⟩
      | 25, _, hl =>
        obtain rfl := Option.some.inj hl
        refine o_gen [(1, _)] ⟨hA 1 (free_of rfl), trivial⟩ (fun e2 => ?_)
        refine m_int rfl rfl ?_
        refine o_nil ⟨Keep.refl _ _, rfl⟩
      | 26, _, hl =>
        obtain rfl := Option.some.inj hl
        refine o_gen [(76, _)] ⟨hD 25 (by decide) 76 rfl, trivial⟩ (fun e2 => ?_)
        refine n_add rfl rfl (by omega) ?_
        refine o_nil ⟨Keep.refl _ _, rfl⟩
      | 27, _, hl =>
        obtain rfl := Option.some.inj hl
        refine o_gen [(75, _), (77, _)] ⟨hD 24 (by decide) 75 rfl, hD 26 (by decide) 77 rfl, trivial⟩ (fun e2 => ?_)
        refine o_call (vs := [.pointer (some ⟨kb, 0, none⟩), .int .i64 ((p + 16 : Nat) : Int), .int .i64 ((4 : Nat) : Int)]) rfl rfl (num_ok H wA kb bs (p + 16) 4 (hBk4.new (hdr.tr hL)) (by decide) (by decide)) (fun u w6 hu => ?_)
        rw [if_neg (by omega)] at hu
        obtain ⟨rfl, hw6⟩ := hu
        subst hw6
        refine o_nil ⟨Keep.refl _ _, rfl⟩
      | 28, _, hl =>
        obtain rfl := Option.some.inj hl
        refine o_gen [(0, _)] ⟨hA 0 (free_of rfl), trivial⟩ (fun e2 => ?_)
        refine m_ptr rfl rfl ?_
        refine o_nil ⟨Keep.refl _ _, rfl⟩
      | 29, _, hl =>
        obtain rfl := Option.some.inj hl
        refine o_gen [(1, _)] ⟨hA 1 (free_of rfl), trivial⟩ (fun e2 => ?_)
        refine m_int rfl rfl ?_
        refine o_nil ⟨Keep.refl _ _, rfl⟩
      | 30, _, hl =>
        obtain rfl := Option.some.inj hl
        refine o_gen [(80, _)] ⟨hD 29 (by decide) 80 rfl, trivial⟩ (fun e2 => ?_)
        refine n_add rfl rfl (by omega) ?_
        refine o_nil ⟨Keep.refl _ _, rfl⟩
      | 31, _, hl =>
        obtain rfl := Option.some.inj hl
        refine o_gen [(79, _), (81, _)] ⟨hD 28 (by decide) 79 rfl, hD 30 (by decide) 81 rfl, trivial⟩ (fun e2 => ?_)
        refine o_call (vs := [.pointer (some ⟨kb, 0, none⟩), .int .i64 ((p + 42 : Nat) : Int), .int .i64 ((4 : Nat) : Int)]) rfl rfl (num_ok H wA kb bs (p + 42) 4 (hBk4.new (hdr.tr hL)) (by decide) (by decide)) (fun u w6 hu => ?_)
        rw [if_neg (by omega)] at hu
        obtain ⟨rfl, hw6⟩ := hu
        subst hw6
        refine o_nil ⟨Keep.refl _ _, rfl⟩
      | 32, _, hl =>
        obtain rfl := Option.some.inj hl
        refine o_gen [(62, _), (66, _), (70, _), (74, _), (78, _), (82, _)] ⟨hD 11 (by decide) 62 rfl, hD 15 (by decide) 66 rfl, hD 19 (by decide) 70 rfl, hD 23 (by decide) 74 rfl, hD 27 (by decide) 78 rfl, hD 31 (by decide) 82 rfl, trivial⟩ (fun e2 => ?_)
        refine o_build (v := .agg ((rcC (recAt bs p)).take 7).toArray) rfl (fun _ => by kernel_rfl) ?_
        refine o_nil ⟨Keep.refl _ _, rfl⟩
      | 33, _, hl =>
        obtain rfl := Option.some.inj hl
        refine o_gen [(1, _)] ⟨hA 1 (free_of rfl), trivial⟩ (fun e2 => ?_)
        refine m_int rfl rfl ?_
        refine o_nil ⟨Keep.refl _ _, rfl⟩
      | 34, _, hl =>
        obtain rfl := Option.some.inj hl
        refine o_gen [(83, _), (84, _)] ⟨hD 32 (by decide) 83 rfl, hD 33 (by decide) 84 rfl, trivial⟩ (fun e2 => ?_)
        refine o_build (v := .agg (rcC (recAt bs p)).toArray) rfl (fun _ => by kernel_rfl) ?_
        refine o_nil ⟨Keep.refl _ _, rfl⟩
      | 35, _, hl =>
        obtain rfl := Option.some.inj hl
        refine o_gen [] trivial (fun e2 => ?_)
        refine o_alloc (cs := r0C.toArray) inf59 rfl (fun b14 w7 hB7 hK7 hb7 hZ7 => ?_)
        refine o_nil ⟨hK7, b14, rfl, hB7, by have := hL.size; have : w6.drew.heap.size = w6.heap.size := rfl; omega⟩
      | _ + 36, him, _ => exact absurd him (by omega)
    intro eA wA hL hA hV
    obtain ⟨b14, h14, hB14, hl14⟩ := hV 35 (by decide) 14 rfl
    have hkA : Keep [] w6 wA := hdr.tr hL
    refine o_gen [(0, .pointer (some ⟨kb, 0, none⟩)), (1, .int .i64 (p : Int)), (3, .map (some sm)), (8, .pointer (some ⟨b8, 0, none⟩)), (11, .pointer (some ⟨b11, 0, none⟩)), (13, .int .i64 (recEnd bs p : Int)), (14, .pointer (some ⟨b14, 0, none⟩)), (85, .agg (rcC (recAt bs p)).toArray)] ⟨hA 0 (free_of rfl), hA 1 (free_of rfl), hA 3 (free_of rfl), hA 8 (free_of rfl), hA 11 (free_of rfl), hA 13 (free_of rfl), h14, hV 34 (by decide) 85 rfl, trivial⟩ (fun e3 => ?_)
    have hA5 := hA4.keep hkA (by simp)
    have hB5 := hB4.keep hkA (by simp)
    have hlt8 := hA4.lt
    have hlt11 := hB4.lt
    refine o_sta (xs := rcC (recAt bs p)) rfl rfl rfl (rc_one _) hB14 (by simp [r0C, rcC]) (fun w7 hB7 hK7 hZ7 => ?_)
    have hB7 := sta_all hB7 rfl
    have hA7 := hA5.keep hK7 (by simp; omega)
    have hC7 := hB5.keep hK7 (by simp; omega)
    have hk7 : Keep [] w w7 := (hk4.tr hkA).tr1 hK7 (by omega)
    have hBk7 := hBk.new hk7
    refine o_nil ?_
    refine k_seq ?_
    refine k_seq ?_
    refine k_region ?_
    refine m_ptr rfl rfl ?_
    refine m_int rfl rfl ?_
    refine n_add rfl rfl (by omega) ?_
    refine o_call (vs := [.pointer (some ⟨kb, 0, none⟩), .int .i64 ((p + 6 : Nat) : Int), .int .i64 ((2 : Nat) : Int)]) rfl rfl (num_ok H w7 kb bs (p + 6) 2 hBk7 (by decide) (by decide)) (fun u w6 hu => ?_)
    rw [if_neg (by omega)] at hu
    obtain ⟨rfl, hw6⟩ := hu
    subst hw6
    refine b_gtr rfl rfl ?_
    refine m_bool rfl rfl ?_
    refine o_split (t := 91) rfl (fun h => ?_) (fun h => ?_)
    ·
      have h91 : 20 < rdN bs (p + 6) 2 := by omega
      refine g_no rfl rfl rfl ?_
      refine g_no rfl rfl rfl ?_
      refine g_no rfl rfl rfl ?_
      refine g_no rfl rfl rfl ?_
      refine g_no rfl rfl rfl ?_
      refine g_no rfl rfl rfl ?_
      refine pick_t rfl rfl ?_
      refine m_bool rfl rfl ?_
      refine g_no rfl rfl rfl ?_
      refine g_no rfl rfl rfl ?_
      refine g_no rfl rfl rfl ?_
      refine g_no rfl rfl rfl ?_
      refine g_no rfl rfl rfl ?_
      refine pick_t rfl rfl ?_
      refine o_nil ?_
      refine k_condt rfl ?_
      refine k_seq ?_
      refine k_region ?_
      refine o_lda (xs := r0C) rfl rfl rfl (fun j v hj => by rw [Nat.zero_add]; exact blk_l hC7 hj) ?_
      refine o_sta (xs := r0C) rfl rfl rfl r0_one hA7 (by decide) (fun w9 hA9 hK9 hZ9 => ?_)
      have hA9 := sta_all hA9 rfl
      refine m_int rfl rfl ?_
      refine m_int rfl rfl ?_
      refine o_nil ?_
      refine k_ret (ret_cell2 (v2 := .int _ _) (v3 := .int _ _) rfl rfl rfl rfl (fun j v hv => blk_l hA9 hv) rfl rfl ?_)
      exact rec_err (y := 12) (by rw [hre2, if_pos (.inl h91)]) (by decide) (hk7.tr1 hK9 hb8) _
    ·
      have h91 : ¬ 20 < rdN bs (p + 6) 2 := by omega
      refine g_yes rfl rfl ?_
      refine m_ptr rfl rfl ?_
      refine g_yes rfl rfl ?_
      refine m_int rfl rfl ?_
      refine g_yes rfl rfl ?_
      refine n_add rfl rfl (by omega) ?_
      refine g_yes rfl rfl ?_
      refine o_call (vs := [.pointer (some ⟨kb, 0, none⟩), .int .i64 ((p + 8 : Nat) : Int), .int .i64 ((2 : Nat) : Int)]) rfl rfl (num_ok H w6 kb bs (p + 8) 2 hBk7 (by decide) (by decide)) (fun u w6 hu => ?_)
      rw [if_neg (by omega)] at hu
      obtain ⟨rfl, hw6⟩ := hu
      subst hw6
      refine g_yes rfl rfl ?_
      refine b_andNot rfl rfl ?_
      refine g_yes rfl rfl ?_
      refine b_neq rfl rfl ?_
      refine pick_f rfl rfl ?_
      refine m_bool rfl rfl ?_
      refine o_split (t := 99) rfl (fun h => ?_) (fun h => ?_)
      ·
        have h99 : anI (rdN bs (p + 8) 2 : Int) 2054 ≠ 0 := h
        refine g_no rfl rfl rfl ?_
        refine g_no rfl rfl rfl ?_
        refine g_no rfl rfl rfl ?_
        refine g_no rfl rfl rfl ?_
        refine g_no rfl rfl rfl ?_
        refine pick_t rfl rfl ?_
        refine o_nil ?_
        refine k_condt rfl ?_
        refine k_seq ?_
        refine k_region ?_
        refine o_lda (xs := r0C) rfl rfl rfl (fun j v hj => by rw [Nat.zero_add]; exact blk_l hC7 hj) ?_
        refine o_sta (xs := r0C) rfl rfl rfl r0_one hA7 (by decide) (fun w9 hA9 hK9 hZ9 => ?_)
        have hA9 := sta_all hA9 rfl
        refine m_int rfl rfl ?_
        refine m_int rfl rfl ?_
        refine o_nil ?_
        refine k_ret (ret_cell2 (v2 := .int _ _) (v3 := .int _ _) rfl rfl rfl rfl (fun j v hv => blk_l hA9 hv) rfl rfl ?_)
        exact rec_err (y := 12) (by rw [hre2, if_pos (.inr (.inl h99))]) (by decide) (hk7.tr1 hK9 hb8) _
      ·
        have h99 : ¬ anI (rdN bs (p + 8) 2 : Int) 2054 ≠ 0 := h
        refine g_yes rfl rfl ?_
        refine o_fld0 rfl rfl ?_
        refine g_yes rfl rfl ?_
        refine o_fld (off := 1) rfl rfl ?_
        refine g_yes rfl rfl ?_
        refine o_ld rfl rfl (blk_l hB7 rfl) ?_
        refine g_yes rfl rfl ?_
        refine b_andNot rfl rfl ?_
        refine g_yes rfl rfl ?_
        refine b_neq rfl rfl ?_
        refine pick_f rfl rfl ?_
        refine o_nil ?_
        refine k_cond rfl (fun h => ?_) (fun h => ?_)
        ·
          refine k_seq ?_
          refine k_region ?_
          refine o_lda (xs := r0C) rfl rfl rfl (fun j v hj => by rw [Nat.zero_add]; exact blk_l hC7 hj) ?_
          refine o_sta (xs := r0C) rfl rfl rfl r0_one hA7 (by decide) (fun w9 hA9 hK9 hZ9 => ?_)
          have hA9 := sta_all hA9 rfl
          refine m_int rfl rfl ?_
          refine m_int rfl rfl ?_
          refine o_nil ?_
          refine k_ret (ret_cell2 (v2 := .int _ _) (v3 := .int _ _) rfl rfl rfl rfl (fun j v hv => blk_l hA9 hv) rfl rfl ?_)
          exact rec_err (y := 12) (by rw [hre2, if_pos (.inr (.inr h))]) (by decide) (hk7.tr1 hK9 hb8) _
        have h103 : ¬ anI (rdN bs (p + 10) 2 : Int) 8 ≠ 0 := h
        have hre3 : recE bs p bd sn = if nameB (recAt bs p).name = false then 13 else if sn (recAt bs p).name = true then 14 else 0 := by
         rw [hre2, if_neg (fun hh => by
          rcases hh with h1 | h1 | h1
          · exact h91 h1
          · exact h99 h1
          · exact h103 h1)]
        have hns : (recAt bs p).name.size ≤ 65536 := by show (bsStr _).size ≤ _; rw [bsStr_size]; exact Nat.le_trans (Nat.le_of_eq hnm) (by omega)
        refine k_skip ?_
        refine k_seq ?_
        refine k_seq ?_
        refine k_region ?_
        refine o_fld0 rfl rfl ?_
        refine o_fld0 rfl rfl ?_
        refine o_ld rfl rfl (blk_l hB7 rfl) ?_
        refine o_call rfl rfl (name_ok w6 (recAt bs p).name (by omega)) (fun u w8 hu => ?_)
        obtain ⟨rfl, hK8⟩ := hu
        have hk8 := hk7.tr hK8
        have hA8 := hA7.keep hK8 (by simp)
        have hB8 := hB7.keep hK8 (by simp)
        have hC8 := hC7.keep hK8 (by simp)
        refine u_notb rfl ?_
        refine o_nil ?_
        refine k_condb rfl (fun h111 => ?_) (fun h111 => ?_)
        ·
          refine k_seq ?_
          refine k_region ?_
          refine o_lda (xs := r0C) rfl rfl rfl (fun j v hj => by rw [Nat.zero_add]; exact blk_l hC8 hj) ?_
          refine o_sta (xs := r0C) rfl rfl rfl r0_one hA8 (by decide) (fun w9 hA9 hK9 hZ9 => ?_)
          have hA9 := sta_all hA9 rfl
          refine m_int rfl rfl ?_
          refine m_int rfl rfl ?_
          refine o_nil ?_
          refine k_ret (ret_cell2 (v2 := .int _ _) (v3 := .int _ _) rfl rfl rfl rfl (fun j v hv => blk_l hA9 hv) rfl rfl ?_)
          exact rec_err (y := 13) (by rw [hre3, if_pos (by simpa using h111)]) (by decide) (hk8.tr1 hK9 hb8) _
        have hnb : ¬ nameB (recAt bs p).name = false := by simpa using h111
        have hre4 : recE bs p bd sn = if sn (recAt bs p).name = true then 14 else 0 := by rw [hre3, if_neg hnb]
        obtain ⟨m, hM, hm⟩ := hSn.keep hk8 (by simp)
        refine k_skip ?_
        refine k_seq ?_
        refine k_seq ?_
        refine k_region ?_
        refine m_map rfl rfl ?_
        refine o_fld0 rfl rfl ?_
        refine o_fld0 rfl rfl ?_
        refine o_ld rfl rfl (blk_l hB8 rfl) ?_
        refine o_look (kv := Value.string) (q := (recAt bs p).name) Tryd.underlying41 (key_str Tryd.underlying9) inf4 rfl rfl hM (v := .bool (sn (recAt bs p).name)) (by rw [hm]; cases sn (recAt bs p).name <;> rfl) ?_
        refine o_nil ?_
        refine k_condb rfl (fun h117 => ?_) (fun h117 => ?_)
        ·
          refine k_seq ?_
          refine k_region ?_
          refine o_lda (xs := r0C) rfl rfl rfl (fun j v hj => by rw [Nat.zero_add]; exact blk_l hC8 hj) ?_
          refine o_sta (xs := r0C) rfl rfl rfl r0_one hA8 (by decide) (fun w9 hA9 hK9 hZ9 => ?_)
          have hA9 := sta_all hA9 rfl
          refine m_int rfl rfl ?_
          refine m_int rfl rfl ?_
          refine o_nil ?_
          refine k_ret (ret_cell2 (v2 := .int _ _) (v3 := .int _ _) rfl rfl rfl rfl (fun j v hv => blk_l hA9 hv) rfl rfl ?_)
          exact rec_err (y := 14) (by rw [hre4, if_pos h117]) (by decide) (hk8.tr1 hK9 hb8) _
        have hre5 : recE bs p bd sn = 0 := by rw [hre4, if_neg (by rw [h117]; decide)]
        refine k_skip ?_
        refine k_seq ?_
        refine k_region ?_
        refine m_map rfl rfl ?_
        refine o_fld0 rfl rfl ?_
        refine o_fld0 rfl rfl ?_
        refine o_ld rfl rfl (blk_l hB8 rfl) ?_
        refine o_mput (kv := Value.string) (q := (recAt bs p).name) Tryd.underlying41 (key_str Tryd.underlying9) rfl rfl rfl hM (.inl rfl) (fun w9 hM9 hK9 hZ9 => ?_)
        have hnb8 : b8 ≠ sm := hM.blk hA8
        have hnb14 : b14 ≠ sm := hM.blk hB8
        have hA9 := hA8.keep hK9 (by simpa using hnb8)
        have hB9 := hB8.keep hK9 (by simpa using hnb14)
        refine o_nil ?_
        refine k_seq ?_
        refine k_region ?_
        refine o_lda (xs := rcC (recAt bs p)) rfl rfl rfl (fun j v hj => by rw [Nat.zero_add]; exact blk_l hB9 hj) ?_
        refine m_int rfl rfl ?_
        refine o_sta (xs := rcC (recAt bs p)) rfl rfl rfl (rc_one _) hA9 (by simp [r0C, rcC]) (fun w10 hA10 hK10 hZ10 => ?_)
        have hA10 := sta_all hA10 rfl
        refine m_int rfl rfl ?_
        refine m_int rfl rfl ?_
        refine o_nil ?_
        refine k_ret (ret_cell2 (v2 := .int _ _) (v3 := .int _ _) rfl rfl rfl rfl (fun j v hv => blk_l hA10 hv) rfl rfl ?_)
        refine ⟨_, _, by rw [hre5], fun _ => ⟨rfl, rfl, ⟨_, hM9.keep hK10 (by simpa using fun e => hnb8 e.symm), fun s => ?_⟩, ?_⟩, fun hh => absurd hre5 hh⟩
        · rw [getM_put, hm]
          unfold snPut
          by_cases hs : s = (recAt bs p).name
          · rw [if_pos hs, if_pos hs]; rfl
          · rw [if_neg hs, if_neg hs]
        · exact (hk8.also.trans hK9 (fun _ h _ => h)).trans hK10 (fun b hb hl => by simp at hb; omega)
end Go.Proofs.YtiapgmfooclpcaaDoor

/- (*book).local. No condition beyond what its contract names. -/
namespace Go.Proofs.YtiapgmfooclpcaaDoor
open Go.RowKit E
set_option linter.unusedVariables false
set_option linter.unusedSimpArgs false
set_option maxRecDepth 100000
attribute [local irreducible] ow qw kw kq cw opW Ret
def atOf (bs : Bs) (r : Rc) : Nat := r.head + 30 + r.name.size + rdN bs (r.head + 28) 2
def locB1 (bs : Bs) (r : Rc) (bd : Nat) : Prop := ¬ (r.head + 30 ≤ bd ∧ kd (q4 bs r.head) = 3#8) ∨ sub bs (r.head + 4) 24 ≠ sub bs (r.place + 6) 24
def locB2 (bs : Bs) (r : Rc) (bd : Nat) : Prop := bd < atOf bs r ∨ (bd : Int) - atOf bs r < r.packed ∨ bsStr (sub bs (r.head + 30) r.name.size) ≠ r.name
/-- what local answers, and leaves of the record -/
def LocR (bs : Bs) (r : Rc) (bd gl off : Nat) (cur : Array Value) (w : World) (v : Value) (w' : World) : Prop :=
  Keep [gl] w w' ∧ ((v = .int .i64 15 ∧ (locB1 bs r bd ∨ locB2 bs r bd)) ∨ (v = .int .i64 0 ∧ ¬ locB1 bs r bd ∧ ¬ locB2 bs r bd ∧ Blk w' gl (cur.setIfInBounds (off + 5) (nv (atOf bs r))) 59))
theorem sub_rd {w w' : World} {b0 o0 c p n : Nat} {bs : Bs} (hR : Rd w (some ⟨b0, o0, none⟩) (bs.map u8v)) (hC : Keep [] w w') (hp : p + n ≤ bs.length) (hc : bs.length ≤ c) : Rd w' (cutAt (some ⟨b0, o0, none⟩) p c 1) ((sub bs p n).map u8v) := by
  have h := (cutAt_rd (lo := p) (cap := c) (sz := 1) (hR.new hC) (by simp; omega) (by omega) (by simp; omega)).take n
  rw [Nat.mul_one, ← List.map_drop, ← List.map_take] at h
  exact h
set_option maxHeartbeats 2000000 in
theorem local_ok (H : Nat) (w : World) (kb : Nat) (bs : Bs) (r : Rc) (bd gl off : Nat) (cur : Array Value) (hBk : BookP H w kb bs) (hb : bd ≤ bs.length) (hB : Blk w gl cur 59) (hcell : ∀ (j : Nat) v, (rcC r)[j]? = some v → cur[off + j]? = some v) (hgl : H ≤ gl) (hpl : r.place + 46 ≤ bs.length) (hhd : r.head ≤ 4294967296) (hpk : r.packed ≤ 4294967296) (hns : r.name.size ≤ 65536) :
    Ret Tryd.prog 21 [.pointer (some ⟨kb, 0, none⟩), .pointer (some ⟨gl, off, none⟩), .int .i64 (bd : Int)] w (LocR bs r bd gl off cur w) := by
  obtain ⟨a, c, rm, hBB, hR, hcc, h65, _, hkH, _, _⟩ := id hBk
  obtain ⟨b0, o0, rfl, _⟩ := hR.at 0 (by simp; omega)
  have hoff : off + 5 < cur.size := by
    have := hcell 5 _ rfl
    exact (Array.getElem?_eq_some_iff.1 this).1
  refine fn_enter (n := 112) Tryd.func21 rfl rfl (Nat.le_of_ble_eq_true rfl) (fun e => ?_)
  refine k_seq ?_
  refine k_region ?_
  refine m_int rfl rfl ?_
  refine o_nil ?_
  refine k_seq ?_
  refine k_region ?_
  refine m_ptr rfl rfl ?_
  refine o_nilc rfl ?_
  refine o_fld0 rfl rfl ?_
  refine o_fld (off := 6) rfl rfl ?_
  refine o_ld (v := nv r.head) rfl rfl (hB.at (hcell 6 _ rfl)) ?_
  refine m_int rfl rfl ?_
  refine o_nil ?_
  refine k_seq ?_
  refine k_seq ?_
  refine k_qk 32 rfl rfl rfl rfl rfl ?_
  refine q_step (fun w1 hC => m_ptr rfl rfl (o_nil ⟨rfl, hC⟩)) ?_
  refine q_step (fun w1 hC => m_int rfl rfl (o_nil ⟨rfl, hC⟩)) ?_
  refine q_step (fun w1 hC => m_int rfl rfl (o_nil ⟨rfl, hC⟩)) ?_
  refine q_step (fun w1 hC => o_call (vs := [.pointer (some ⟨kb, 0, none⟩), .int .u8 ((3#8).toNat : Int), .int .i64 (r.head : Int), .int .i64 ((30 : Nat) : Int), .int .i64 (bd : Int)]) rfl rfl (is_ok H w1 kb bs 3#8 r.head 30 bd (hBk.new hC) (by decide) (by decide) hb (by omega)) (fun v w2 hv => by obtain ⟨rfl, hK⟩ := hv; exact o_nil ⟨rfl, hC.tr hK⟩)) ?_
  refine q_step (fun w1 hC => u_notb rfl (o_nil ⟨rfl, hC⟩)) ?_
  refine q_step (fun w1 hC => m_bool rfl rfl (o_nil ⟨rfl, hC⟩)) ?_
  refine q_split (t := 18) (p := ¬ (r.head + 30 ≤ bd ∧ kd (q4 bs r.head) = 3#8)) (by show Value.bool (!(decide (r.head + 30 ≤ bd ∧ kd (q4 bs r.head) = 3#8))) = _; rw [← decide_not]) (fun h => ?_) (fun h => ?_)
  ·
    refine q_step (v := undef) (fun w1 hC => g_no rfl rfl rfl (o_nil ⟨rfl, hC⟩)) ?_
    refine q_step (v := undef) (fun w1 hC => g_no rfl rfl rfl (o_nil ⟨rfl, hC⟩)) ?_
    refine q_step (v := undef) (fun w1 hC => g_no rfl rfl rfl (o_nil ⟨rfl, hC⟩)) ?_
    refine q_step (v := undef) (fun w1 hC => g_no rfl rfl rfl (o_nil ⟨rfl, hC⟩)) ?_
    refine q_step (v := undef) (fun w1 hC => g_no rfl rfl rfl (o_nil ⟨rfl, hC⟩)) ?_
    refine q_step (v := undef) (fun w1 hC => g_no rfl rfl rfl (o_nil ⟨rfl, hC⟩)) ?_
    refine q_step (v := undef) (fun w1 hC => g_no rfl rfl rfl (o_nil ⟨rfl, hC⟩)) ?_
    refine q_step (v := undef) (fun w1 hC => g_no rfl rfl rfl (o_nil ⟨rfl, hC⟩)) ?_
    refine q_step (v := undef) (fun w1 hC => g_no rfl rfl rfl (o_nil ⟨rfl, hC⟩)) ?_
    refine q_step (v := undef) (fun w1 hC => g_no rfl rfl rfl (o_nil ⟨rfl, hC⟩)) ?_
    refine q_step (v := undef) (fun w1 hC => g_no rfl rfl rfl (o_nil ⟨rfl, hC⟩)) ?_
    refine q_step (v := undef) (fun w1 hC => g_no rfl rfl rfl (o_nil ⟨rfl, hC⟩)) ?_
    refine q_step (v := undef) (fun w1 hC => g_no rfl rfl rfl (o_nil ⟨rfl, hC⟩)) ?_
    refine q_step (v := undef) (fun w1 hC => g_no rfl rfl rfl (o_nil ⟨rfl, hC⟩)) ?_
    refine q_step (v := undef) (fun w1 hC => g_no rfl rfl rfl (o_nil ⟨rfl, hC⟩)) ?_
    refine q_step (v := undef) (fun w1 hC => g_no rfl rfl rfl (o_nil ⟨rfl, hC⟩)) ?_
    refine q_step (v := undef) (fun w1 hC => g_no rfl rfl rfl (o_nil ⟨rfl, hC⟩)) ?_
    refine q_step (v := undef) (fun w1 hC => g_no rfl rfl rfl (o_nil ⟨rfl, hC⟩)) ?_
    refine q_step (v := undef) (fun w1 hC => g_no rfl rfl rfl (o_nil ⟨rfl, hC⟩)) ?_
    refine q_step (v := undef) (fun w1 hC => g_no rfl rfl rfl (o_nil ⟨rfl, hC⟩)) ?_
    refine q_step (v := undef) (fun w1 hC => g_no rfl rfl rfl (o_nil ⟨rfl, hC⟩)) ?_
    refine q_step (v := undef) (fun w1 hC => g_no rfl rfl rfl (o_nil ⟨rfl, hC⟩)) ?_
    refine q_step (v := undef) (fun w1 hC => g_no rfl rfl rfl (o_nil ⟨rfl, hC⟩)) ?_
    refine q_step (v := undef) (fun w1 hC => g_no rfl rfl rfl (o_nil ⟨rfl, hC⟩)) ?_
    refine q_step (v := undef) (fun w1 hC => g_no rfl rfl rfl (o_nil ⟨rfl, hC⟩)) ?_
    refine q_step (v := undef) (fun w1 hC => g_no rfl rfl rfl (o_nil ⟨rfl, hC⟩)) ?_
    refine q_nil ?_
    intro w2 hC2
    refine g_no rfl rfl rfl ?_
    refine pick_t rfl rfl ?_
    refine o_nil ?_
    refine k_condt rfl ?_
    refine k_seq ?_
    refine k_region ?_
    refine m_int rfl rfl ?_
    refine o_nil ?_
    refine k_ret (ret_tmps (ts := [6]) (v := .int _ _) rfl rfl ?_)
    exact ⟨hC2.also, .inl ⟨rfl, .inl (.inl h)⟩⟩
  ·
    have h18 : r.head + 30 ≤ bd ∧ kd (q4 bs r.head) = 3#8 := Decidable.not_not.1 h
    refine q_step (fun w1 hC => g_yes rfl rfl (m_ptr rfl rfl (o_nil ⟨rfl, hC⟩))) ?_
    refine q_step (fun w1 hC => g_yes rfl rfl (o_nilc rfl (o_nil ⟨rfl, hC⟩))) ?_
    refine q_step (fun w1 hC => g_yes rfl rfl (o_fld0 rfl rfl (o_nil ⟨rfl, hC⟩))) ?_
    refine q_step (fun w1 hC => g_yes rfl rfl (o_ld rfl rfl (hBB.kat hC rfl) (o_nil ⟨rfl, hC⟩))) ?_
    refine q_step (fun w1 hC => g_yes rfl rfl (m_int rfl rfl (o_nil ⟨rfl, hC⟩))) ?_
    refine q_step (fun w1 hC => g_yes rfl rfl (n_add rfl rfl (by omega) (o_nil ⟨rfl, hC⟩))) ?_
    refine q_step (fun w1 hC => g_yes rfl rfl (m_int rfl rfl (o_nil ⟨rfl, hC⟩))) ?_
    refine q_step (fun w1 hC => g_yes rfl rfl (n_add rfl rfl (by omega) (o_nil ⟨rfl, hC⟩))) ?_
    refine q_step (fun w1 hC => g_yes rfl rfl (o_sllh (sz := 1) (lo := r.head + 4) (hi := r.head + 28) Tryd.underlying25 rfl rfl rfl rfl (by omega) (by omega) (o_nil ⟨congrArg (fun x => upd _ 27 (Value.slice x _ _)) (cut_some b0 o0 (r.head + 4) c (by omega)), hC⟩))) ?_
    refine q_step (fun w1 hC => g_yes rfl rfl (o_cstr (xs := sub bs (r.head + 4) 24) Tryd.underlying25 Tryd.underlying5 Tryd.underlying9 rfl (by have := sub_rd (p := r.head + 4) (n := 24) hR hC (by omega) hcc; rwa [cut_some b0 o0 (r.head + 4) c (by omega)] at this) (by rw [sub_len _ _ _ (by omega)]; omega) (o_nil ⟨rfl, hC⟩))) ?_
    refine q_step (fun w1 hC => g_yes rfl rfl (m_ptr rfl rfl (o_nil ⟨rfl, hC⟩))) ?_
    refine q_step (fun w1 hC => g_yes rfl rfl (o_nilc rfl (o_nil ⟨rfl, hC⟩))) ?_
    refine q_step (fun w1 hC => g_yes rfl rfl (o_fld0 rfl rfl (o_nil ⟨rfl, hC⟩))) ?_
    refine q_step (fun w1 hC => g_yes rfl rfl (o_ld rfl rfl (hBB.kat hC rfl) (o_nil ⟨rfl, hC⟩))) ?_
    refine q_step (fun w1 hC => g_yes rfl rfl (m_ptr rfl rfl (o_nil ⟨rfl, hC⟩))) ?_
    refine q_step (fun w1 hC => g_yes rfl rfl (o_nilc rfl (o_nil ⟨rfl, hC⟩))) ?_
    refine q_step (fun w1 hC => g_yes rfl rfl (o_fld (off := 7) rfl rfl (o_nil ⟨rfl, hC⟩))) ?_
    refine q_step (fun w1 hC => g_yes rfl rfl (o_ld (v := nv r.place) rfl rfl (hB.kat hC (hcell 7 _ rfl)) (o_nil ⟨rfl, hC⟩))) ?_
    refine q_step (fun w1 hC => g_yes rfl rfl (n_add rfl rfl (by omega) (o_nil ⟨rfl, hC⟩))) ?_
    refine q_step (fun w1 hC => g_yes rfl rfl (m_ptr rfl rfl (o_nil ⟨rfl, hC⟩))) ?_
    refine q_step (fun w1 hC => g_yes rfl rfl (o_nilc rfl (o_nil ⟨rfl, hC⟩))) ?_
    refine q_step (fun w1 hC => g_yes rfl rfl (o_fld (off := 7) rfl rfl (o_nil ⟨rfl, hC⟩))) ?_
    refine q_step (fun w1 hC => g_yes rfl rfl (o_ld (v := nv r.place) rfl rfl (hB.kat hC (hcell 7 _ rfl)) (o_nil ⟨rfl, hC⟩))) ?_
    refine q_step (fun w1 hC => g_yes rfl rfl (n_add rfl rfl (by omega) (o_nil ⟨rfl, hC⟩))) ?_
    refine q_step (fun w1 hC => g_yes rfl rfl (o_sllh (sz := 1) (lo := r.place + 6) (hi := r.place + 30) Tryd.underlying25 rfl rfl rfl rfl (by omega) (by omega) (o_nil ⟨congrArg (fun x => upd _ 43 (Value.slice x _ _)) (cut_some b0 o0 (r.place + 6) c (by omega)), hC⟩))) ?_
    refine q_step (fun w1 hC => g_yes rfl rfl (o_cstr (xs := sub bs (r.place + 6) 24) Tryd.underlying25 Tryd.underlying5 Tryd.underlying9 rfl (by have := sub_rd (p := r.place + 6) (n := 24) hR hC (by omega) hcc; rwa [cut_some b0 o0 (r.place + 6) c (by omega)] at this) (by rw [sub_len _ _ _ (by omega)]; omega) (o_nil ⟨rfl, hC⟩))) ?_
    refine q_nil ?_
    intro w2 hC2
    refine g_yes rfl rfl ?_
    refine b_neqstr Tryd.underlying9 rfl rfl ?_
    refine pick_f rfl rfl ?_
    refine o_nil ?_
    refine k_cond rfl (fun h => ?_) (fun h => ?_)
    ·
      refine k_seq ?_
      refine k_region ?_
      refine m_int rfl rfl ?_
      refine o_nil ?_
      refine k_ret (ret_tmps (ts := [6]) (v := .int _ _) rfl rfl ?_)
      exact ⟨hC2.also, .inl ⟨rfl, .inl (.inr (fun e => h (by rw [e])))⟩⟩
    have h46 : sub bs (r.head + 4) 24 = sub bs (r.place + 6) 24 := bsStr_inj (Decidable.not_not.1 h)
    have hnb1 : ¬ locB1 bs r bd := fun hh => by
     rcases hh with h1 | h1
     · exact h1 h18
     · exact h1 h46
    have n28 := rdN_lt bs 2 (r.head + 28)
    have hB2 := hB.keep hC2 (by simp)
    have hBk2 := hBk.new hC2
    refine k_skip ?_
    refine k_seq ?_
    refine k_qk 15 rfl rfl rfl rfl rfl ?_
    refine q_step (fun w1 hC => m_ptr rfl rfl (o_nil ⟨rfl, hC⟩)) ?_
    refine q_step (fun w1 hC => m_int rfl rfl (o_nil ⟨rfl, hC⟩)) ?_
    refine q_step (fun w1 hC => n_add rfl rfl (by omega) (o_nil ⟨rfl, hC⟩)) ?_
    refine q_step (fun w1 hC => m_ptr rfl rfl (o_nil ⟨rfl, hC⟩)) ?_
    refine q_step (fun w1 hC => o_nilc rfl (o_nil ⟨rfl, hC⟩)) ?_
    refine q_step (fun w1 hC => o_fld0 rfl rfl (o_nil ⟨rfl, hC⟩)) ?_
    refine q_step (fun w1 hC => o_fld0 rfl rfl (o_nil ⟨rfl, hC⟩)) ?_
    refine q_step (fun w1 hC => o_ld (v := .string r.name) rfl rfl (hB2.kat hC (hcell 0 _ rfl)) (o_nil ⟨rfl, hC⟩)) ?_
    refine q_step (fun w1 hC => o_lenstr Tryd.underlying9 rfl (o_nil ⟨rfl, hC⟩)) ?_
    refine q_step (fun w1 hC => n_add rfl rfl (by omega) (o_nil ⟨rfl, hC⟩)) ?_
    refine q_step (fun w1 hC => m_ptr rfl rfl (o_nil ⟨rfl, hC⟩)) ?_
    refine q_step (fun w1 hC => m_int rfl rfl (o_nil ⟨rfl, hC⟩)) ?_
    refine q_step (fun w1 hC => n_add rfl rfl (by omega) (o_nil ⟨rfl, hC⟩)) ?_
    refine q_step (fun w1 hC => o_call (vs := [.pointer (some ⟨kb, 0, none⟩), .int .i64 ((r.head + 28 : Nat) : Int), .int .i64 ((2 : Nat) : Int)]) rfl rfl (num_ok H w1 kb bs (r.head + 28) 2 (hBk2.new hC) (by decide) (by decide)) (fun v w3 hv => by rw [if_neg (by omega)] at hv; obtain ⟨rfl, rfl⟩ := hv; exact o_nil ⟨rfl, hC⟩)) ?_
    refine q_step (fun w1 hC => n_add rfl rfl (by omega) (o_nil ⟨rfl, hC⟩)) ?_
    refine q_nil ?_
    intro w3 hC3
    have hB3 := hB2.keep hC3 (by simp)
    refine o_nilc rfl ?_
    refine o_fld0 rfl rfl ?_
    refine o_fld (off := 5) rfl rfl ?_
    refine o_st (v := nv (atOf bs r)) rfl rfl rfl rfl hB3 (by omega) (fun w4 hB4 hK4 hZ4 => ?_)
    have hC23 := hC2.tr hC3
    have hBk4 : BookP H w4 kb bs := (hBk.new hC23).high hK4 (by intro b hb; simp at hb; omega)
    obtain ⟨a', c', rm', hBB4, hR4, hcc4, _, _, _, _, _⟩ := id hBk4
    have hBBw : Blk w4 kb #[.slice (some ⟨b0, o0, none⟩) bs.length c, .map (some rm)] 53 := (hBB.keep hC23 (by simp)).keep hK4 (by simp; omega)
    have heq := hBBw.inj hBB4
    simp at heq
    obtain ⟨⟨rfl, rfl⟩, rfl⟩ := heq
    have hcell4 : ∀ (j : Nat) v, (rcC r)[j]? = some v → j ≠ 5 → (cur.setIfInBounds (off + 5) (nv (atOf bs r)))[off + j]? = some v := fun j v hj h5 => by
     rw [Array.getElem?_setIfInBounds, if_neg (by omega)]; exact hcell j v hj
    have hcell5 : (cur.setIfInBounds (off + 5) (nv (atOf bs r)))[off + 5]? = some (nv (atOf bs r)) := by
     rw [Array.getElem?_setIfInBounds, if_pos rfl, if_pos hoff]
    have hKK : Keep [gl] w w4 := hC23.also.trans hK4 (fun _ h _ => h)
    refine o_nil ?_
    refine k_seq ?_
    refine k_seq ?_
    refine k_qk 45 rfl rfl rfl rfl rfl ?_
    refine q_step (fun w1 hC => m_ptr rfl rfl (o_nil ⟨rfl, hC⟩)) ?_
    refine q_step (fun w1 hC => o_nilc rfl (o_nil ⟨rfl, hC⟩)) ?_
    refine q_step (fun w1 hC => o_fld0 rfl rfl (o_nil ⟨rfl, hC⟩)) ?_
    refine q_step (fun w1 hC => o_fld (off := 5) rfl rfl (o_nil ⟨rfl, hC⟩)) ?_
    refine q_step (fun w1 hC => o_ld (v := nv (atOf bs r)) rfl rfl (hB4.kat hC hcell5) (o_nil ⟨rfl, hC⟩)) ?_
    refine q_step (fun w1 hC => m_int rfl rfl (o_nil ⟨rfl, hC⟩)) ?_
    refine q_step (fun w1 hC => b_gtr rfl rfl (o_nil ⟨rfl, hC⟩)) ?_
    refine q_step (fun w1 hC => m_bool rfl rfl (o_nil ⟨rfl, hC⟩)) ?_
    refine q_split (t := 72) rfl (fun h => ?_) (fun h => ?_)
    ·
      have h72 : bd < atOf bs r := by omega
      refine q_step (v := undef) (fun w1 hC => g_no rfl rfl rfl (o_nil ⟨rfl, hC⟩)) ?_
      refine q_step (v := undef) (fun w1 hC => g_no rfl rfl rfl (o_nil ⟨rfl, hC⟩)) ?_
      refine q_step (v := undef) (fun w1 hC => g_no rfl rfl rfl (o_nil ⟨rfl, hC⟩)) ?_
      refine q_step (v := undef) (fun w1 hC => g_no rfl rfl rfl (o_nil ⟨rfl, hC⟩)) ?_
      refine q_step (v := undef) (fun w1 hC => g_no rfl rfl rfl (o_nil ⟨rfl, hC⟩)) ?_
      refine q_step (v := undef) (fun w1 hC => g_no rfl rfl rfl (o_nil ⟨rfl, hC⟩)) ?_
      refine q_step (v := undef) (fun w1 hC => g_no rfl rfl rfl (o_nil ⟨rfl, hC⟩)) ?_
      refine q_step (v := undef) (fun w1 hC => g_no rfl rfl rfl (o_nil ⟨rfl, hC⟩)) ?_
      refine q_step (v := undef) (fun w1 hC => g_no rfl rfl rfl (o_nil ⟨rfl, hC⟩)) ?_
      refine q_step (v := undef) (fun w1 hC => g_no rfl rfl rfl (o_nil ⟨rfl, hC⟩)) ?_
      refine q_step (v := undef) (fun w1 hC => g_no rfl rfl rfl (o_nil ⟨rfl, hC⟩)) ?_
      refine q_step (v := undef) (fun w1 hC => g_no rfl rfl rfl (o_nil ⟨rfl, hC⟩)) ?_
      refine q_step (v := undef) (fun w1 hC => g_no rfl rfl rfl (o_nil ⟨rfl, hC⟩)) ?_
      refine q_step (fun w1 hC => pick_t rfl rfl (o_nil ⟨rfl, hC⟩)) ?_
      refine q_step (fun w1 hC => m_bool rfl rfl (o_nil ⟨rfl, hC⟩)) ?_
      refine q_step (v := undef) (fun w1 hC => g_no rfl rfl rfl (o_nil ⟨rfl, hC⟩)) ?_
      refine q_step (v := undef) (fun w1 hC => g_no rfl rfl rfl (o_nil ⟨rfl, hC⟩)) ?_
      refine q_step (v := undef) (fun w1 hC => g_no rfl rfl rfl (o_nil ⟨rfl, hC⟩)) ?_
      refine q_step (v := undef) (fun w1 hC => g_no rfl rfl rfl (o_nil ⟨rfl, hC⟩)) ?_
      refine q_step (v := undef) (fun w1 hC => g_no rfl rfl rfl (o_nil ⟨rfl, hC⟩)) ?_
      refine q_step (v := undef) (fun w1 hC => g_no rfl rfl rfl (o_nil ⟨rfl, hC⟩)) ?_
      refine q_step (v := undef) (fun w1 hC => g_no rfl rfl rfl (o_nil ⟨rfl, hC⟩)) ?_
      refine q_step (v := undef) (fun w1 hC => g_no rfl rfl rfl (o_nil ⟨rfl, hC⟩)) ?_
      refine q_step (v := undef) (fun w1 hC => g_no rfl rfl rfl (o_nil ⟨rfl, hC⟩)) ?_
      refine q_step (v := undef) (fun w1 hC => g_no rfl rfl rfl (o_nil ⟨rfl, hC⟩)) ?_
      refine q_step (v := undef) (fun w1 hC => g_no rfl rfl rfl (o_nil ⟨rfl, hC⟩)) ?_
      refine q_step (v := undef) (fun w1 hC => g_no rfl rfl rfl (o_nil ⟨rfl, hC⟩)) ?_
      refine q_step (v := undef) (fun w1 hC => g_no rfl rfl rfl (o_nil ⟨rfl, hC⟩)) ?_
      refine q_step (v := undef) (fun w1 hC => g_no rfl rfl rfl (o_nil ⟨rfl, hC⟩)) ?_
      refine q_step (v := undef) (fun w1 hC => g_no rfl rfl rfl (o_nil ⟨rfl, hC⟩)) ?_
      refine q_step (v := undef) (fun w1 hC => g_no rfl rfl rfl (o_nil ⟨rfl, hC⟩)) ?_
      refine q_step (v := undef) (fun w1 hC => g_no rfl rfl rfl (o_nil ⟨rfl, hC⟩)) ?_
      refine q_step (v := undef) (fun w1 hC => g_no rfl rfl rfl (o_nil ⟨rfl, hC⟩)) ?_
      refine q_step (v := undef) (fun w1 hC => g_no rfl rfl rfl (o_nil ⟨rfl, hC⟩)) ?_
      refine q_step (v := undef) (fun w1 hC => g_no rfl rfl rfl (o_nil ⟨rfl, hC⟩)) ?_
      refine q_step (v := undef) (fun w1 hC => g_no rfl rfl rfl (o_nil ⟨rfl, hC⟩)) ?_
      refine q_step (v := undef) (fun w1 hC => g_no rfl rfl rfl (o_nil ⟨rfl, hC⟩)) ?_
      refine q_nil ?_
      intro w5 hC5
      refine g_no rfl rfl rfl ?_
      refine pick_t rfl rfl ?_
      refine o_nil ?_
      refine k_condt rfl ?_
      refine k_seq ?_
      refine k_region ?_
      refine m_int rfl rfl ?_
      refine o_nil ?_
      refine k_ret (ret_tmps (ts := [6]) (v := .int _ _) rfl rfl ?_)
      exact ⟨hKK.trans hC5.also (fun _ h _ => h), .inl ⟨rfl, .inr (.inl h72)⟩⟩
    ·
      have h72 : atOf bs r ≤ bd := by omega
      refine q_step (fun w1 hC => g_yes rfl rfl (m_ptr rfl rfl (o_nil ⟨rfl, hC⟩))) ?_
      refine q_step (fun w1 hC => g_yes rfl rfl (o_nilc rfl (o_nil ⟨rfl, hC⟩))) ?_
      refine q_step (fun w1 hC => g_yes rfl rfl (o_fld0 rfl rfl (o_nil ⟨rfl, hC⟩))) ?_
      refine q_step (fun w1 hC => g_yes rfl rfl (o_fld (off := 2) rfl rfl (o_nil ⟨rfl, hC⟩))) ?_
      refine q_step (fun w1 hC => g_yes rfl rfl (o_ld (v := nv r.packed) rfl rfl (hB4.kat hC (hcell4 2 _ rfl (by decide))) (o_nil ⟨rfl, hC⟩))) ?_
      refine q_step (fun w1 hC => g_yes rfl rfl (m_int rfl rfl (o_nil ⟨rfl, hC⟩))) ?_
      refine q_step (fun w1 hC => g_yes rfl rfl (m_ptr rfl rfl (o_nil ⟨rfl, hC⟩))) ?_
      refine q_step (fun w1 hC => g_yes rfl rfl (o_nilc rfl (o_nil ⟨rfl, hC⟩))) ?_
      refine q_step (fun w1 hC => g_yes rfl rfl (o_fld0 rfl rfl (o_nil ⟨rfl, hC⟩))) ?_
      refine q_step (fun w1 hC => g_yes rfl rfl (o_fld (off := 5) rfl rfl (o_nil ⟨rfl, hC⟩))) ?_
      refine q_step (fun w1 hC => g_yes rfl rfl (o_ld (v := nv (atOf bs r)) rfl rfl (hB4.kat hC hcell5) (o_nil ⟨rfl, hC⟩))) ?_
      refine q_step (fun w1 hC => g_yes rfl rfl (n_sub rfl rfl (by omega) (o_nil ⟨rfl, hC⟩))) ?_
      refine q_step (fun w1 hC => g_yes rfl rfl (b_gtr rfl rfl (o_nil ⟨rfl, hC⟩))) ?_
      refine q_step (fun w1 hC => pick_f rfl rfl (o_nil ⟨rfl, hC⟩)) ?_
      refine q_step (fun w1 hC => m_bool rfl rfl (o_nil ⟨rfl, hC⟩)) ?_
      refine q_split (t := 87) rfl (fun h => ?_) (fun h => ?_)
      ·
        have h87 : (bd : Int) - atOf bs r < r.packed := by omega
        refine q_step (v := undef) (fun w1 hC => g_no rfl rfl rfl (o_nil ⟨rfl, hC⟩)) ?_
        refine q_step (v := undef) (fun w1 hC => g_no rfl rfl rfl (o_nil ⟨rfl, hC⟩)) ?_
        refine q_step (v := undef) (fun w1 hC => g_no rfl rfl rfl (o_nil ⟨rfl, hC⟩)) ?_
        refine q_step (v := undef) (fun w1 hC => g_no rfl rfl rfl (o_nil ⟨rfl, hC⟩)) ?_
        refine q_step (v := undef) (fun w1 hC => g_no rfl rfl rfl (o_nil ⟨rfl, hC⟩)) ?_
        refine q_step (v := undef) (fun w1 hC => g_no rfl rfl rfl (o_nil ⟨rfl, hC⟩)) ?_
        refine q_step (v := undef) (fun w1 hC => g_no rfl rfl rfl (o_nil ⟨rfl, hC⟩)) ?_
        refine q_step (v := undef) (fun w1 hC => g_no rfl rfl rfl (o_nil ⟨rfl, hC⟩)) ?_
        refine q_step (v := undef) (fun w1 hC => g_no rfl rfl rfl (o_nil ⟨rfl, hC⟩)) ?_
        refine q_step (v := undef) (fun w1 hC => g_no rfl rfl rfl (o_nil ⟨rfl, hC⟩)) ?_
        refine q_step (v := undef) (fun w1 hC => g_no rfl rfl rfl (o_nil ⟨rfl, hC⟩)) ?_
        refine q_step (v := undef) (fun w1 hC => g_no rfl rfl rfl (o_nil ⟨rfl, hC⟩)) ?_
        refine q_step (v := undef) (fun w1 hC => g_no rfl rfl rfl (o_nil ⟨rfl, hC⟩)) ?_
        refine q_step (v := undef) (fun w1 hC => g_no rfl rfl rfl (o_nil ⟨rfl, hC⟩)) ?_
        refine q_step (v := undef) (fun w1 hC => g_no rfl rfl rfl (o_nil ⟨rfl, hC⟩)) ?_
        refine q_step (v := undef) (fun w1 hC => g_no rfl rfl rfl (o_nil ⟨rfl, hC⟩)) ?_
        refine q_step (v := undef) (fun w1 hC => g_no rfl rfl rfl (o_nil ⟨rfl, hC⟩)) ?_
        refine q_step (v := undef) (fun w1 hC => g_no rfl rfl rfl (o_nil ⟨rfl, hC⟩)) ?_
        refine q_step (v := undef) (fun w1 hC => g_no rfl rfl rfl (o_nil ⟨rfl, hC⟩)) ?_
        refine q_step (v := undef) (fun w1 hC => g_no rfl rfl rfl (o_nil ⟨rfl, hC⟩)) ?_
        refine q_step (v := undef) (fun w1 hC => g_no rfl rfl rfl (o_nil ⟨rfl, hC⟩)) ?_
        refine q_step (v := undef) (fun w1 hC => g_no rfl rfl rfl (o_nil ⟨rfl, hC⟩)) ?_
        refine q_nil ?_
        intro w5 hC5
        refine g_no rfl rfl rfl ?_
        refine pick_t rfl rfl ?_
        refine o_nil ?_
        refine k_condt rfl ?_
        refine k_seq ?_
        refine k_region ?_
        refine m_int rfl rfl ?_
        refine o_nil ?_
        refine k_ret (ret_tmps (ts := [6]) (v := .int _ _) rfl rfl ?_)
        exact ⟨hKK.trans hC5.also (fun _ h _ => h), .inl ⟨rfl, .inr (.inr (.inl h87))⟩⟩
      ·
        have h87 : ¬ (bd : Int) - atOf bs r < r.packed := by omega
        have hat : atOf bs r = r.head + 30 + r.name.size + rdN bs (r.head + 28) 2 := rfl
        obtain ⟨oc, hoc⟩ := cut_ex b0 o0 (r.head + 30) c
        refine q_step (fun w1 hC => g_yes rfl rfl (m_ptr rfl rfl (o_nil ⟨rfl, hC⟩))) ?_
        refine q_step (fun w1 hC => g_yes rfl rfl (o_nilc rfl (o_nil ⟨rfl, hC⟩))) ?_
        refine q_step (fun w1 hC => g_yes rfl rfl (o_fld0 rfl rfl (o_nil ⟨rfl, hC⟩))) ?_
        refine q_step (fun w1 hC => g_yes rfl rfl (o_ld rfl rfl (hBBw.kat hC rfl) (o_nil ⟨rfl, hC⟩))) ?_
        refine q_step (fun w1 hC => g_yes rfl rfl (m_int rfl rfl (o_nil ⟨rfl, hC⟩))) ?_
        refine q_step (fun w1 hC => g_yes rfl rfl (n_add rfl rfl (by omega) (o_nil ⟨rfl, hC⟩))) ?_
        refine q_step (fun w1 hC => g_yes rfl rfl (m_int rfl rfl (o_nil ⟨rfl, hC⟩))) ?_
        refine q_step (fun w1 hC => g_yes rfl rfl (n_add rfl rfl (by omega) (o_nil ⟨rfl, hC⟩))) ?_
        refine q_step (fun w1 hC => g_yes rfl rfl (m_ptr rfl rfl (o_nil ⟨rfl, hC⟩))) ?_
        refine q_step (fun w1 hC => g_yes rfl rfl (o_nilc rfl (o_nil ⟨rfl, hC⟩))) ?_
        refine q_step (fun w1 hC => g_yes rfl rfl (o_fld0 rfl rfl (o_nil ⟨rfl, hC⟩))) ?_
        refine q_step (fun w1 hC => g_yes rfl rfl (o_fld0 rfl rfl (o_nil ⟨rfl, hC⟩))) ?_
        refine q_step (fun w1 hC => g_yes rfl rfl (o_ld (v := .string r.name) rfl rfl (hB4.kat hC (hcell4 0 _ rfl (by decide))) (o_nil ⟨rfl, hC⟩))) ?_
        refine q_step (fun w1 hC => g_yes rfl rfl (o_lenstr Tryd.underlying9 rfl (o_nil ⟨rfl, hC⟩))) ?_
        refine q_step (fun w1 hC => g_yes rfl rfl (n_add rfl rfl (by omega) (o_nil ⟨rfl, hC⟩))) ?_
        refine q_step (fun w1 hC => g_yes rfl rfl (o_sllh (sz := 1) (lo := r.head + 30) (hi := r.head + 30 + r.name.size) Tryd.underlying25 rfl rfl rfl rfl (by omega) (by omega) (o_nil ⟨congrArg (fun x => upd _ 103 (Value.slice x _ _)) hoc, hC⟩))) ?_
        refine q_step (fun w1 hC => g_yes rfl rfl (o_cstr (xs := sub bs (r.head + 30) r.name.size) Tryd.underlying25 Tryd.underlying5 Tryd.underlying9 rfl (by have := sub_rd (p := r.head + 30) (n := r.name.size) hR4 hC (by omega) hcc; rwa [hoc] at this) (by rw [sub_len _ _ _ (by omega)]; omega) (o_nil ⟨rfl, hC⟩))) ?_
        refine q_step (fun w1 hC => g_yes rfl rfl (m_ptr rfl rfl (o_nil ⟨rfl, hC⟩))) ?_
        refine q_step (fun w1 hC => g_yes rfl rfl (o_nilc rfl (o_nil ⟨rfl, hC⟩))) ?_
        refine q_step (fun w1 hC => g_yes rfl rfl (o_fld0 rfl rfl (o_nil ⟨rfl, hC⟩))) ?_
        refine q_step (fun w1 hC => g_yes rfl rfl (o_fld0 rfl rfl (o_nil ⟨rfl, hC⟩))) ?_
        refine q_step (fun w1 hC => g_yes rfl rfl (o_ld (v := .string r.name) rfl rfl (hB4.kat hC (hcell4 0 _ rfl (by decide))) (o_nil ⟨rfl, hC⟩))) ?_
        refine q_nil ?_
        intro w5 hC5
        refine g_yes rfl rfl ?_
        refine b_neqstr Tryd.underlying9 rfl rfl ?_
        refine pick_f rfl rfl ?_
        refine o_nil ?_
        refine k_cond rfl (fun h => ?_) (fun h => ?_)
        ·
          refine k_seq ?_
          refine k_region ?_
          refine m_int rfl rfl ?_
          refine o_nil ?_
          refine k_ret (ret_tmps (ts := [6]) (v := .int _ _) rfl rfl ?_)
          exact ⟨hKK.trans hC5.also (fun _ h _ => h), .inl ⟨rfl, .inr (.inr (.inr h))⟩⟩
        refine k_skip ?_
        refine k_seq ?_
        refine k_region ?_
        refine m_int rfl rfl ?_
        refine o_nil ?_
        refine k_ret (ret_tmps (ts := [6]) (v := .int _ _) rfl rfl ?_)
        refine ⟨hKK.trans hC5.also (fun _ h _ => h), .inr ⟨rfl, hnb1, fun hh => ?_, hB4.keep hC5 (by simp)⟩⟩
        rcases hh with h1 | h1 | h1
        · omega
        · exact h87 h1
        · exact h h1
end Go.Proofs.YtiapgmfooclpcaaDoor

/-
  DERIVED: THE SHELF's CONTRACTS AT THIS DUMP, IN PLAIN WORDS (tools/lay-plain.mjs out of 'YtiapgmfooclpcaaDoorShelf.lean', which tools/lay-shelf.mjs wrote): THE SAME DECLARATIONS UNDER THE SAME NAMES: 'import', 'namespace', 'open', 'def', 'theorem' AND NOTHING ELSE: no command of the shelf's: FOR A HAND-IN. Each laying: the table of numbers ('.._ren') and one theorem, a field a fact of the dump's own or the kernel's comparison; each contract: ONE APPLICATION.
-/
namespace Go.Proofs
open Go.Shelf
def Tryd.sort22_ren : Go.Shelf.Ren := ⟨fun | 6 => 22 | 15 => 41 | 14 => 40 | 28 => 62 | 29 => 63 | 20 => 54 | 21 => 55 | 22 => 56 | 23 => 57 | 24 => 58 | 25 => 59 | 26 => 60 | 27 => 61 | 46 => 76 | 47 => 77 | 48 => 78 | 49 => 79 | 50 => 80 | 57 => 91 | n => n, fun | 22 => 57 | 24 => 59 | 25 => 65 | 3 => 3 | 39 => 100 | 0 => 0 | 53 => 107 | 55 => 122 | 4 => 4 | 46 => 129 | 45 => 128 | 50 => 86 | 5 => 5 | 9 => 9 | 66 => 148 | 70 => 152 | 76 => 168 | 77 => 118 | n => n, fun | n => n⟩
theorem Tryd.sort22 : Go.Proofs.SlLaysF0.n6 Tryd.prog Tryd.sort22_ren := {
  mixed := by kernel_rfl
  f6 := ⟨Tryd.f22.name, by decide, Tryd.func22.trans (congrArg some (by kernel_rfl))⟩
  f14 := ⟨Tryd.f40.name, by decide, Tryd.func40.trans (congrArg some (by kernel_rfl))⟩
  f15 := Tryd.func41.trans (congrArg some (by kernel_rfl))
  f20 := ⟨Tryd.f54.name, by decide, Tryd.func54.trans (congrArg some (by kernel_rfl))⟩
  f21 := ⟨Tryd.f55.name, by decide, Tryd.func55.trans (congrArg some (by kernel_rfl))⟩
  f22 := ⟨Tryd.f56.name, by decide, Tryd.func56.trans (congrArg some (by kernel_rfl))⟩
  f23 := ⟨Tryd.f57.name, by decide, Tryd.func57.trans (congrArg some (by kernel_rfl))⟩
  f24 := ⟨Tryd.f58.name, by decide, Tryd.func58.trans (congrArg some (by kernel_rfl))⟩
  f25 := ⟨Tryd.f59.name, by decide, Tryd.func59.trans (congrArg some (by kernel_rfl))⟩
  f26 := ⟨Tryd.f60.name, by decide, Tryd.func60.trans (congrArg some (by kernel_rfl))⟩
  f27 := ⟨Tryd.f61.name, by decide, Tryd.func61.trans (congrArg some (by kernel_rfl))⟩
  f28 := Tryd.func62.trans (congrArg some (by kernel_rfl))
  f29 := Tryd.func63.trans (congrArg some (by kernel_rfl))
  f46 := ⟨Tryd.f76.name, by decide, Tryd.func76.trans (congrArg some (by kernel_rfl))⟩
  f47 := Tryd.func77.trans (congrArg some (by kernel_rfl))
  f48 := Tryd.func78.trans (congrArg some (by kernel_rfl))
  f49 := ⟨Tryd.f79.name, by decide, Tryd.func79.trans (congrArg some (by kernel_rfl))⟩
  f50 := ⟨Tryd.f80.name, by decide, Tryd.func80.trans (congrArg some (by kernel_rfl))⟩
  f57 := ⟨Tryd.f91.name, by decide, Tryd.func91.trans (congrArg some (by kernel_rfl))⟩
  t0 := Tryd.underlying0
  a0 := Tryd.isAgg0
  z0 := Tryd.sizeOf0
  v0 := Tryd.zeroValue0
  t3 := Tryd.underlying3
  a3 := Tryd.isAgg3
  z3 := Tryd.sizeOf3
  v3 := Tryd.zeroValue3
  t4 := Tryd.underlying4
  a4 := Tryd.isAgg4
  z4 := Tryd.sizeOf4
  v4 := Tryd.zeroValue4
  t5 := Tryd.underlying5
  a5 := Tryd.isAgg5
  z5 := Tryd.sizeOf5
  v5 := Tryd.zeroValue5
  t9 := Tryd.underlying9
  a9 := Tryd.isAgg9
  z9 := Tryd.sizeOf9
  v9 := Tryd.zeroValue9
  t22 := Tryd.underlying57
  a22 := Tryd.isAgg57
  z22 := Tryd.sizeOf57
  v22 := Tryd.zeroValue57
  t25 := Tryd.underlying65
  a25 := Tryd.isAgg65
  z25 := Tryd.sizeOf65
  v25 := Tryd.zeroValue65
  t39 := Tryd.underlying100
  a39 := Tryd.isAgg100
  z39 := Tryd.sizeOf100
  v39 := Tryd.zeroValue100
  t45 := Tryd.underlying128
  a45 := Tryd.isAgg128
  z45 := Tryd.sizeOf128
  v45 := Tryd.zeroValue128
  t46 := Tryd.underlying129
  a46 := Tryd.isAgg129
  z46 := Tryd.sizeOf129
  v46 := Tryd.zeroValue129
  t50 := Tryd.underlying86
  a50 := Tryd.isAgg86
  z50 := Tryd.sizeOf86
  v50 := Tryd.zeroValue86
  t53 := Tryd.underlying107
  a53 := Tryd.isAgg107
  z53 := Tryd.sizeOf107
  v53 := Tryd.zeroValue107
  t55 := Tryd.underlying122
  a55 := Tryd.isAgg122
  z55 := Tryd.sizeOf122
  v55 := Tryd.zeroValue122
  t66 := Tryd.underlying148
  a66 := Tryd.isAgg148
  z66 := Tryd.sizeOf148
  v66 := Tryd.zeroValue148
  t70 := Tryd.underlying152
  a70 := Tryd.isAgg152
  z70 := Tryd.sizeOf152
  v70 := Tryd.zeroValue152
  t76 := Tryd.underlying168
  a76 := Tryd.isAgg168
  z76 := Tryd.sizeOf168
  v76 := Tryd.zeroValue168
  t77 := Tryd.underlying118
  a77 := Tryd.isAgg118
  z77 := Tryd.sizeOf118
  v77 := Tryd.zeroValue118 }
end Go.Proofs

/- slices.SortFunc at records whose heads rise: nothing is turned. No condition beyond what each contract names. -/
namespace Go.Proofs.YtiapgmfooclpcaaDoor
open Go.RowKit E
set_option linter.unusedVariables false
set_option linter.unusedSimpArgs false
set_option maxRecDepth 100000
attribute [local irreducible] ow qw kw kq cw opW Ret
open Go.Shelf Go.Sort
namespace E
theorem o_boxE {P : Program} {n : Nat} {e : Env} {w : World} {l0 l : List Oper} {K : Env → World → Prop} {d : Nat} {T : TypeId} {pos : String} {af : Array Edge} {x : Operand} {t : TypeId} {v : Value} {cs : Array Value} (hx : ev n e x = v) (hc : v.cells = cs)
    (h : ow P n l0 K l (upd e d (.pointer (some ⟨w.heap.size, 0, none⟩))) (w.alloc (.cells cs t))) : ow P n l0 K (⟨some d, .box t x, T, pos, af, none⟩ :: l) e w := by
  subst hc
  refine o_run (v := .pointer (some ⟨w.heap.size, 0, none⟩)) (w' := w.alloc (.cells v.cells t)) ?_ h
  simp [execOp, hx, Instr.box, run_newVar]
end E
instance : Inhabited Rc := ⟨⟨emp, 0, 0, 0, 0, 0, 0, 0⟩⟩
def cmpI (a b : Int) : Int := if a < b then -1 else if b < a then 1 else 0
theorem isnan_ok (w : World) (a : Int) : Ret Tryd.prog 42 [.int .i64 a] w (fun v w' => v = .bool false ∧ w' = w) := by
  refine fn_enter (n := 6) Tryd.func42 rfl rfl (Nat.le_of_ble_eq_true rfl) (fun e => ?_)
  refine k_seq ?_
  refine k_region ?_
  refine m_bool rfl rfl ?_
  refine o_nil ?_
  refine k_seq ?_
  refine k_region ?_
  refine m_int rfl rfl ?_
  refine m_int rfl rfl ?_
  refine b_neq rfl rfl ?_
  refine m_bool rfl rfl ?_
  refine o_nil ?_
  refine k_ret (ret_tmps (ts := [2]) (v := .bool _) rfl rfl ?_)
  exact ⟨congrArg Value.bool (decide_eq_false (fun h => h rfl)), rfl⟩
theorem compare_ok (w : World) (a b : Int) : Ret Tryd.prog 24 [.int .i64 a, .int .i64 b] w (fun v w' => v = .int .i64 (cmpI a b) ∧ w' = w) := by
  refine fn_enter (n := 20) Tryd.func24 rfl rfl (Nat.le_of_ble_eq_true rfl) (fun e => ?_)
  refine k_seq ?_
  refine k_region ?_
  refine m_int rfl rfl ?_
  refine o_nil ?_
  refine k_seq ?_
  refine k_region ?_
  refine m_int rfl rfl ?_
  refine o_call rfl rfl (isnan_ok w a) (fun v w1 hv => ?_)
  obtain ⟨rfl, hw1⟩ := hv
  subst hw1
  refine m_bool rfl rfl ?_
  refine o_nil ?_
  refine k_seq ?_
  refine k_region ?_
  refine m_int rfl rfl ?_
  refine o_call rfl rfl (isnan_ok w1 b) (fun v w2 hv => ?_)
  obtain ⟨rfl, hw2⟩ := hv
  subst hw2
  refine m_bool rfl rfl ?_
  refine o_nil ?_
  refine k_seq ?_
  refine k_seq ?_
  refine k_region ?_
  refine m_bool rfl rfl ?_
  refine o_nil ?_
  refine k_condf rfl ?_
  refine k_skip ?_
  refine k_seq ?_
  refine k_seq ?_
  refine k_region ?_
  refine m_bool rfl rfl ?_
  refine o_nil ?_
  refine k_condf rfl ?_
  refine k_skip ?_
  refine k_seq ?_
  refine k_seq ?_
  refine k_region ?_
  refine m_int rfl rfl ?_
  refine m_int rfl rfl ?_
  refine b_lss rfl rfl ?_
  refine o_nil ?_
  refine k_cond rfl (fun h => ?_) (fun h => ?_)
  ·
    refine k_seq ?_
    refine k_region ?_
    refine m_int rfl rfl ?_
    refine o_nil ?_
    refine k_ret (ret_tmps (ts := [4]) (v := .int _ _) rfl rfl ?_)
    exact ⟨by unfold cmpI; rw [if_pos h], rfl⟩
  have h16 := h
  refine k_skip ?_
  refine k_seq ?_
  refine k_seq ?_
  refine k_region ?_
  refine m_int rfl rfl ?_
  refine m_int rfl rfl ?_
  refine b_gtr rfl rfl ?_
  refine o_nil ?_
  refine k_cond rfl (fun h => ?_) (fun h => ?_)
  ·
    refine k_seq ?_
    refine k_region ?_
    refine m_int rfl rfl ?_
    refine o_nil ?_
    refine k_ret (ret_tmps (ts := [4]) (v := .int _ _) rfl rfl ?_)
    exact ⟨by unfold cmpI; rw [if_neg h16, if_pos h], rfl⟩
  refine k_skip ?_
  refine k_seq ?_
  refine k_region ?_
  refine m_int rfl rfl ?_
  refine o_nil ?_
  refine k_ret (ret_tmps (ts := [4]) (v := .int _ _) rfl rfl ?_)
  exact ⟨by unfold cmpI; rw [if_neg h16, if_neg h], rfl⟩
theorem cmpf_ok (w : World) (x y : Rc) : Ret Tryd.prog 23 [.agg (rcC x).toArray, .agg (rcC y).toArray] w (fun v w' => v = .int .i64 (cmpI (x.head : Int) (y.head : Int)) ∧ w' = (w.alloc (.cells (rcC x).toArray 59)).alloc (.cells (rcC y).toArray 59)) := by
  have hB1 : Blk (w.alloc (.cells (rcC x).toArray 59)) w.heap.size (rcC x).toArray 59 := heap_alloc_new w _
  have hB2 : Blk ((w.alloc (.cells (rcC x).toArray 59)).alloc (.cells (rcC y).toArray 59)) (w.alloc (.cells (rcC x).toArray 59)).heap.size (rcC y).toArray 59 := heap_alloc_new _ _
  have hB12 := hB1.keep (keep_alloc [] _ (.cells (rcC y).toArray 59)) (by simp)
  refine fn_enter (n := 12) Tryd.func23 rfl rfl (Nat.le_of_ble_eq_true rfl) (fun e => ?_)
  refine k_seq ?_
  refine k_region ?_
  refine o_boxE (cs := (rcC x).toArray) rfl rfl ?_
  refine o_boxE (cs := (rcC y).toArray) rfl rfl ?_
  refine m_int rfl rfl ?_
  refine o_nil ?_
  refine k_seq ?_
  refine k_region ?_
  refine o_fld0 rfl rfl ?_
  refine o_fld (off := 6) rfl rfl ?_
  refine o_ld (v := nv x.head) rfl rfl (blk_l hB12 rfl) ?_
  refine o_fld0 rfl rfl ?_
  refine o_fld (off := 6) rfl rfl ?_
  refine o_ld (v := nv y.head) rfl rfl (blk_l hB2 rfl) ?_
  refine o_call rfl rfl (compare_ok _ (x.head : Int) (y.head : Int)) (fun v w1 hv => ?_)
  obtain ⟨rfl, hw1⟩ := hv
  subst hw1
  refine m_int rfl rfl ?_
  refine o_nil ?_
  refine k_ret (ret_tmps (ts := [4]) (v := .int _ _) rfl rfl ?_)
  exact ⟨rfl, rfl⟩
def headF (x y : Rc) : Int := cmpI (x.head : Int) (y.head : Int)
theorem lt_head (x y : Rc) : ltOf headF x y = decide (x.head < y.head) := by
  unfold ltOf headF cmpI
  by_cases h1 : (x.head : Int) < y.head
  · rw [if_pos h1, decide_eq_true (by omega : x.head < y.head)]; rfl
  · rw [if_neg h1]
    by_cases h2 : (y.head : Int) < x.head
    · rw [if_pos h2, decide_eq_false (by omega : ¬ x.head < y.head)]; rfl
    · rw [if_neg h2, decide_eq_false (by omega : ¬ x.head < y.head)]; rfl
theorem swo_head : SWO (ltOf headF) where
  irrefl x := by rw [lt_head]; simp
  trans x y z h1 h2 := by rw [lt_head] at *; simp at *; omega
  ntrans x y z h1 h2 := by rw [lt_head] at *; simp at *; omega
theorem cmp_lays (blk size : Nat) (w : World) : CmpLays Tryd.prog 23 #[] rcC 8 headF blk 0 size w := by
  intro m os dk hd x y
  have h := cmpf_ok (sortWorldK rcC 8 w blk 0 m dk os) x y
  unfold Ret at h
  refine Calls.mono h ?_
  intro e w' hx
  cases e with
  | returned v =>
    obtain ⟨rfl, rfl⟩ := hx
    exact ⟨rfl, 0, _, by rw [alloc_eq_grow, alloc_eq_grow, grow_grow]; rfl⟩
  | _ => exact hx.elim
def rcAll (l : List Rc) : List Value := l.flatMap rcC
theorem rcAll_at : ∀ (l : List Rc) (i j : Nat) (r : Rc) (v : Value), l[i]? = some r → (rcC r)[j]? = some v → (rcAll l)[i * 8 + j]? = some v
  | [], i, j, r, v, h, _ => by simp at h
  | q :: l, 0, j, r, v, h, hj => by
    simp at h; subst h
    show (rcC q ++ rcAll l)[0 * 8 + j]? = some v
    rw [Nat.zero_mul, Nat.zero_add, List.getElem?_append_left (List.getElem?_eq_some_iff.1 hj).1]
    exact hj
  | q :: l, i + 1, j, r, v, h, hj => by
    show (rcC q ++ rcAll l)[(i + 1) * 8 + j]? = some v
    rw [List.getElem?_append_right (by show 8 ≤ _; omega)]
    have := rcAll_at l i j r v (by simpa using h) hj
    rw [← this]
    congr 1
    show (i + 1) * 8 + j - 8 = i * 8 + j
    omega
theorem rcAll_len : ∀ l : List Rc, (rcAll l).length = l.length * 8
  | [] => rfl
  | q :: l => by
    show (rcC q ++ rcAll l).length = _
    rw [List.length_append, rcAll_len l, List.length_cons]
    show 8 + _ = _
    omega
theorem holds_rc {w : World} {b : Nat} {cur : Array Value} {l : List Rc} (hB : Blk w b cur 59) (hc : cur.toList.take (l.length * 8) = rcAll l) : HoldsK rcC 8 w b 0 l.toArray := by
  intro t ht
  have ht' : t < l.length * 8 := by simpa using ht
  refine ⟨?_, by simp [World.frozen?, show w.heap[b]? = _ from hB]⟩
  rw [Nat.zero_add, hB.cell, get_flatK rcC 8 l.toArray t (by simpa using ht')]
  have hi : t / 8 < l.length := by omega
  have h1 := rcAll_at l (t / 8) (t % 8) l[t / 8] ((rcC l[t / 8])[t % 8]!) (List.getElem?_eq_getElem hi) (by
    have : t % 8 < (rcC l[t / 8]).length := by show t % 8 < 8; omega
    rw [List.getElem?_eq_getElem this, getElem!_pos (rcC l[t / 8]) (t % 8) this])
  rw [show t / 8 * 8 + t % 8 = t by omega, ← hc, List.getElem?_take, if_pos ht'] at h1
  have h2 : cur[t]? = cur.toList[t]? := by simp
  rw [h2, h1]
  have h3 : l.toArray[t / 8]! = l[t / 8] := by rw [getElem!_pos l.toArray (t / 8) (by simpa using hi)]; simp
  rw [h3]; rfl
theorem sort_ok (w : World) (b cap : Nat) (cur : Array Value) (l : List Rc) (hB : Blk w b cur 59) (hc : cur.toList.take (l.length * 8) = rcAll l) (hr : l.Pairwise (fun x y => x.head < y.head)) (hl : l.length ≤ 1000000) :
    Ret Tryd.prog 22 [.slice (some ⟨b, 0, none⟩) l.length cap, .func (.func 23) #[] #[]] w (fun v w' => v = .tuple #[] ∧ Keep [] w w') := by
  have hH := holds_rc hB hc
  have eg : ∀ args w, (callFunc 23 args).run Tryd.prog w = .ok (.enter 23 args) w := enters_of Tryd.func23 (by kernel_rfl) rfl
  have hcon := AnyQ.slices_SortFunc Tryd.sort22 8 (fun w => E.run_isAggT (show isAggB Tryd.prog 59 = true from rfl)) (fun w => E.run_sizeOf (show szB Tryd.prog 59 8 = true from rfl)) rcC (fun _ => rfl) (fun x v hv => rc_one x v hv) headF swo_head 23 #[] b 0 cap l.toArray w eg (cmp_lays b _ w) hH hB.lt (by simp; omega)
  change Calls Tryd.prog 22 _ _ _ at hcon
  unfold Ret
  rw [show (l.toArray).size = l.length from by simp] at hcon
  refine Calls.mono hcon ?_
  rintro e w' ⟨rfl, d', n, os, hp, hs, rfl⟩
  have hd : d' = l.toArray := by
    have hsz : d'.size = l.length := by have := hp.1; simpa using this
    have hperm : d'.toList.Perm l := by
      have h2 := hp.2.2
      have e1 : (d'.extract 0 l.length) = d' := by rw [← hsz]; simp
      have e2 : (l.toArray.extract 0 l.length) = l.toArray := by simp
      rw [e1, e2] at h2
      simpa using h2
    have hsrt : d'.toList.Pairwise (fun x y => x.head ≤ y.head) := by
      rw [List.pairwise_iff_getElem]
      intro i j hi hj hij
      have h3 := hs i j (Nat.zero_le _) hij (by simpa [hsz] using hj)
      rw [lt_head] at h3
      have hi' : i < d'.size := by simpa using hi
      have hj' : j < d'.size := by simpa using hj
      rw [getElem!_pos d' j hj', getElem!_pos d' i hi'] at h3
      simp at h3
      simpa using h3
    have hl2 : l.Pairwise (fun x y => x.head ≤ y.head) := hr.imp (fun {a b} h => Nat.le_of_lt h)
    have hinj : ∀ x ∈ l, ∀ y ∈ l, x.head = y.head → x = y := by
      intro x hx y hy he
      obtain ⟨i, hi, rfl⟩ := List.getElem_of_mem hx
      obtain ⟨j, hj, rfl⟩ := List.getElem_of_mem hy
      rw [List.pairwise_iff_getElem] at hr
      rcases Nat.lt_trichotomy i j with h | h | h
      · have := hr i j hi hj h; omega
      · subst h; rfl
      · have := hr j i hj hi h; omega
    have : d'.toList = l := List.Perm.eq_of_pairwise (le := fun x y => x.head ≤ y.head) (fun x y hx hy h1 h2 => hinj x (hperm.mem_iff.1 hx) y hy (Nat.le_antisymm h1 h2)) hsrt hl2 hperm
    rw [← this]
  subst hd
  refine ⟨rfl, ?_⟩
  have hself : sortWorldK rcC 8 w b 0 n l.toArray os = grow (Sort.ahead w n) os := by
    unfold sortWorldK
    rw [putRowK_self]
    exact hH
  rw [hself]
  exact ⟨rfl, rfl, rfl, by rw [size_grow]; exact Nat.le_add_right _ _, fun k hk _ => heap_grow_old (Sort.ahead w n) os hk⟩
end Go.Proofs.YtiapgmfooclpcaaDoor

/- The directory of an archive, in plain terms. No condition beyond what each lemma names. -/
namespace Go.Proofs.YtiapgmfooclpcaaDoor
open Go.RowKit E
set_option linter.unusedVariables false
set_option linter.unusedSimpArgs false
set_option maxRecDepth 100000
attribute [local irreducible] ow qw kw kq cw opW Ret
noncomputable def recsF (bs : Bs) (bd : Nat) : Nat → Nat → (ByteArray → Bool) → Int × List Rc × Nat
  | 0, p, _ => (0, [], p)
  | n + 1, p, sn => if recE bs p bd sn = 0 then ((recsF bs bd n (recEnd bs p) (snPut sn (recAt bs p).name)).1, recAt bs p :: (recsF bs bd n (recEnd bs p) (snPut sn (recAt bs p).name)).2.1, (recsF bs bd n (recEnd bs p) (snPut sn (recAt bs p).name)).2.2) else (recE bs p bd sn, [], 0)
theorem recsF_ok {bs : Bs} {bd n p : Nat} {sn : ByteArray → Bool} (h : recE bs p bd sn = 0) : recsF bs bd (n + 1) p sn = ((recsF bs bd n (recEnd bs p) (snPut sn (recAt bs p).name)).1, recAt bs p :: (recsF bs bd n (recEnd bs p) (snPut sn (recAt bs p).name)).2.1, (recsF bs bd n (recEnd bs p) (snPut sn (recAt bs p).name)).2.2) := by
  show (if recE bs p bd sn = 0 then _ else _) = _
  rw [if_pos h]
theorem recsF_bad {bs : Bs} {bd n p : Nat} {sn : ByteArray → Bool} (h : recE bs p bd sn ≠ 0) : recsF bs bd (n + 1) p sn = (recE bs p bd sn, [], 0) := by
  show (if recE bs p bd sn = 0 then _ else _) = _
  rw [if_neg h]
def noS : ByteArray → Bool := fun _ => false
def setAt (bs : Bs) (r : Rc) : Rc := { r with at_ := atOf bs r }
def dN (bs : Bs) : Nat := rdN bs ((endI bs).toNat + 8) 2
def dF (bs : Bs) : Nat := rdN bs ((endI bs).toNat + 16) 4
noncomputable def dX (bs : Bs) : Int × List Rc × Nat := recsF bs (endI bs).toNat (dN bs) (dF bs) noS
def dBad (bs : Bs) : Prop := rdN bs ((endI bs).toNat + 4) 4 ≠ 0 ∨ rdN bs ((endI bs).toNat + 10) 2 ≠ dN bs ∨ 64 < dN bs ∨ dF bs + rdN bs ((endI bs).toNat + 12) 4 ≠ (endI bs).toNat
instance (bs : Bs) : Decidable (dBad bs) := by unfold dBad; infer_instance
def lBad (bs : Bs) (l : List Rc) (bd : Nat) : Prop := ∃ r ∈ l, locB1 bs r bd ∨ locB2 bs r bd
/-- the error of Directory, ahead of the look for overlaps -/
noncomputable def dirE (bs : Bs) : Int := if 65536 < bs.length then 8 else if endI bs < 0 then 9 else if dBad bs then 10 else if (dX bs).1 ≠ 0 then (dX bs).1 else if (dX bs).2.2 ≠ (endI bs).toNat then 11 else @ite _ (lBad bs (dX bs).2.1 (dF bs)) (Classical.propDecidable _) 15 0
noncomputable def dirL (bs : Bs) : List Rc := (dX bs).2.1.map (setAt bs)
/-- the places of the entries rise, and they do not lie on one another -/
def Good (l : List Rc) : Prop := l ≠ [] ∧ l.Pairwise (fun x y => x.head < y.head) ∧ ∀ i x y, l[i]? = some x → l[i + 1]? = some y → x.at_ + x.packed ≤ y.head
def RcOk (bs : Bs) (r : Rc) : Prop := r.place + 46 ≤ bs.length ∧ r.head ≤ 4294967296 ∧ r.packed ≤ 4294967296 ∧ r.name.size ≤ 65536
theorem recE_zero {bs : Bs} {p bd : Nat} {sn : ByteArray → Bool} (h : recE bs p bd sn = 0) : p + 46 ≤ bd ∧ recEnd bs p ≤ bd := by
  unfold recE at h
  by_cases h1 : ¬ (p + 46 ≤ bd ∧ kd (q4 bs p) = 2#8)
  · rw [if_pos h1] at h; exact absurd h (by decide)
  · rw [if_neg h1] at h
    have h1' := Decidable.not_not.1 h1
    by_cases h2 : bd < recEnd bs p ∨ rdN bs (p + 34) 2 ≠ 0
    · rw [if_pos h2] at h; exact absurd h (by decide)
    · exact ⟨h1'.1, by omega⟩
theorem rcOk_at {bs : Bs} {p bd : Nat} {sn : ByteArray → Bool} (h : recE bs p bd sn = 0) (hb : bd ≤ bs.length) : RcOk bs (recAt bs p) := by
  have h1 := recE_zero h
  have h42 := rdN_lt bs 4 (p + 42)
  have h20 := rdN_lt bs 4 (p + 20)
  have h28 := rdN_lt bs 2 (p + 28)
  refine ⟨by show p + 46 ≤ _; omega, by show rdN bs (p + 42) 4 ≤ _; omega, by show rdN bs (p + 20) 4 ≤ _; omega, ?_⟩
  show (bsStr (sub bs (p + 46) (rdN bs (p + 28) 2))).size ≤ 65536
  rw [bsStr_size]
  unfold sub
  rw [List.length_take]
  omega
theorem kd_one (q : K4) : kd q = 1#8 ↔ q = mE := by
  unfold kd
  by_cases h1 : q = mE
  · rw [if_pos h1]; simp [h1]
  · rw [if_neg h1]
    refine ⟨fun h => ?_, fun h => absurd h h1⟩
    by_cases h2 : q = mC
    · rw [if_pos h2] at h; exact absurd h (by decide)
    · rw [if_neg h2] at h
      by_cases h3 : q = mL
      · rw [if_pos h3] at h; exact absurd h (by decide)
      · rw [if_neg h3] at h; exact absurd h (by decide)
theorem rcAll_app (l l' : List Rc) : rcAll (l ++ l') = rcAll l ++ rcAll l' := by simp [rcAll]
theorem rcAll_set : ∀ (l : List Rc) (i x : Nat) (r : Rc), l[i]? = some r → (rcAll l).set (i * 8 + 5) (nv x) = rcAll (l.set i { r with at_ := x })
  | [], i, x, r, h => by simp at h
  | q :: l, 0, x, r, h => by simp at h; subst h; rfl
  | q :: l, i + 1, x, r, h => by
    have ih := rcAll_set l i x r (by simpa using h)
    show (rcC q ++ rcAll l).set ((i + 1) * 8 + 5) (nv x) = rcC q ++ rcAll (l.set i { r with at_ := x })
    rw [← ih, List.set_append_right _ _ (by show 8 ≤ _; omega)]
    congr 2
    show (i + 1) * 8 + 5 - 8 = _
    omega
theorem mixed_set (bs : Bs) (l : List Rc) (j : Nat) (r : Rc) (h : l[j]? = some r) : ((l.take j).map (setAt bs) ++ l.drop j).set j (setAt bs r) = (l.take (j + 1)).map (setAt bs) ++ l.drop (j + 1) := by
  have hl := (List.getElem?_eq_some_iff.1 h).1
  have hlt : ((l.take j).map (setAt bs)).length = j := by simp; omega
  rw [List.set_append_right _ _ (by omega), hlt, Nat.sub_self, List.drop_eq_getElem_cons hl, List.set_cons_zero, List.take_succ_eq_append_getElem hl, List.map_append, (List.getElem?_eq_some_iff.1 h).2, List.append_assoc]
  rfl
theorem mixed_at (bs : Bs) (l : List Rc) (j : Nat) (r : Rc) (h : l[j]? = some r) : ((l.take j).map (setAt bs) ++ l.drop j)[j]? = some r := by
  have hl := (List.getElem?_eq_some_iff.1 h).1
  have hlt : ((l.take j).map (setAt bs)).length = j := by simp; omega
  rw [List.getElem?_append_right (by omega), hlt, Nat.sub_self, List.getElem?_drop, Nat.add_zero, h]
theorem mixed_len (bs : Bs) (l : List Rc) (j : Nat) : ((l.take j).map (setAt bs) ++ l.drop j).length = l.length := by simp; omega
def outC (l : List Rc) : List Value := l.flatMap fun r => (rcC r).take 7
theorem outC_app (l l' : List Rc) : outC (l ++ l') = outC l ++ outC l' := by simp [outC]
theorem outC_len : ∀ l : List Rc, (outC l).length = l.length * 7
  | [] => rfl
  | q :: l => by
    show ((rcC q).take 7 ++ outC l).length = _
    rw [List.length_append, outC_len l, List.length_cons]
    show 7 + _ = _
    omega
theorem E.Sl.setC {w w' : World} {E : TypeId} {sz g m c k : Nat} {xs : List Value} {cur : Array Value} {v : Value} (h : Sl w E sz (some ⟨g, 0, none⟩) m c xs) (hk : k < m * sz) (hc : Blk w g cur E) (hb : Blk w' g (cur.setIfInBounds k v) E) :
    Sl w' E sz (some ⟨g, 0, none⟩) m c (xs.set k v) := by
  obtain ⟨hl, h⟩ := h
  rcases h with ⟨h, _⟩ | ⟨g', cur', hg, hb', h1, h2, h3, h4⟩
  · simp at h
  · simp at hg
    subst hg
    obtain rfl := hb'.inj hc
    refine ⟨by simpa using hl, .inr ⟨g, _, rfl, hb, h1, h2, by simpa using h3, ?_⟩⟩
    rw [Array.toList_setIfInBounds, ← h4, List.take_set]
theorem endI_cases (bs : Bs) : (endI bs = -1 ∧ (endsN bs bs.length).length ≠ 1) ∨ ∃ p : Nat, endI bs = (p : Int) ∧ endsN bs bs.length = [p] ∧ isE bs p := by
  unfold endI
  match h : endsN bs bs.length with
  | [] => exact .inl ⟨rfl, by simp⟩
  | [p] =>
    refine .inr ⟨p, rfl, rfl, ?_⟩
    have hm : p ∈ endsN bs bs.length := by rw [h]; simp
    unfold endsN at hm
    have := (List.mem_filter.1 hm).2
    simpa using this
  | _ :: _ :: _ => exact .inl ⟨rfl, by simp⟩
end Go.Proofs.YtiapgmfooclpcaaDoor

/- archive.Directory. No condition beyond what its contract names. -/
namespace Go.Proofs.YtiapgmfooclpcaaDoor
open Go.RowKit E
set_option linter.unusedVariables false
set_option linter.unusedSimpArgs false
set_option maxRecDepth 100000
attribute [local irreducible] ow qw kw kq cw opW Ret
open Go.Shelf Go.Sort
theorem bld57 (r : Rc) : ∀ w, (Instr.buildSlice 57 1 #[(0, .agg (rcC r).toArray)]).run Tryd.prog w = .ok (.slice (some ⟨w.heap.size, 0, none⟩) 1 1) (w.alloc (.cells (rcC r).toArray 59)) := fun _ => by kernel_rfl
theorem bld29 (r : Rc) : ∀ w, (Instr.buildSlice 29 1 #[(0, .agg ((rcC r).take 7).toArray)]).run Tryd.prog w = .ok (.slice (some ⟨w.heap.size, 0, none⟩) 1 1) (w.alloc (.cells ((rcC r).take 7).toArray 33)) := fun _ => by kernel_rfl
theorem inf33 : infB Tryd.prog 33 7 64 (.agg (r0C.take 7).toArray) := ⟨_, rfl, rfl, rfl, rfl⟩
theorem E.Sl.cur {w : World} {E : TypeId} {sz g m c i : Nat} {xs : List Value} {cur : Array Value} {v : Value} (h : Sl w E sz (some ⟨g, 0, none⟩) m c xs) (hB : Blk w g cur E) (hi : xs[i]? = some v) : cur[i]? = some v := by
  obtain ⟨hl, h⟩ := h
  rcases h with ⟨h, _⟩ | ⟨g', cur', hg, hb', h1, h2, h3, h4⟩
  · simp at h
  · simp at hg
    subst hg
    obtain rfl := hb'.inj hB
    rw [← h4, List.getElem?_take] at hi
    split at hi
    · simpa using hi
    · cases hi
theorem E.Sl.take_cur {w : World} {E : TypeId} {sz g m c : Nat} {xs : List Value} {cur : Array Value} (h : Sl w E sz (some ⟨g, 0, none⟩) m c xs) (hB : Blk w g cur E) : cur.toList.take (m * sz) = xs := by
  obtain ⟨hl, h⟩ := h
  rcases h with ⟨h, _⟩ | ⟨g', cur', hg, hb', h1, h2, h3, h4⟩
  · simp at h
  · simp at hg
    subst hg
    obtain rfl := hb'.inj hB
    exact h4
/-- what Directory answers -/
def DirR (bs : Bs) (w : World) (v : Value) (w' : World) : Prop :=
  ∃ (a : Option Addr) (m c : Nat), v = .tuple #[.slice a m c, .int .i64 (dirE bs)] ∧ Keep [] w w' ∧ (dirE bs ≠ 0 → a = none ∧ m = 0 ∧ c = 0) ∧ (dirE bs = 0 → m = (dirL bs).length ∧ Sl w' 33 7 a m c (outC (dirL bs)) ∧ ∀ q, a = some q → w.heap.size ≤ q.block)
theorem DirR.bad {bs : Bs} {w w' : World} {y : Int} (h : dirE bs = y) (hy : y ≠ 0) (hk : Keep [] w w') : DirR bs w (.tuple #[.slice none 0 0, .int .i64 y]) w' :=
  ⟨none, 0, 0, by rw [h], hk, fun _ => ⟨rfl, rfl, rfl⟩, fun hh => absurd (h.symm.trans hh) hy⟩
theorem ite_cl {p : Prop} (x y : Int) : (p → @ite _ p (Classical.propDecidable _) x y = x) ∧ (¬ p → @ite _ p (Classical.propDecidable _) x y = y) := ⟨fun h => if_pos h, fun h => if_neg h⟩
set_option maxHeartbeats 4000000 in
theorem dir_ok (w : World) (a : Option Addr) (c : Nat) (bs : Bs) (hR : Rd w a (bs.map u8v)) (hc : bs.length ≤ c) (hl : bs.length ≤ 9223372036854775807) (hgood : dirE bs = 0 → Good (dirL bs)) :
    Ret Tryd.prog 8 [.slice a bs.length c] w (DirR bs w) := by
  refine fn_enter (n := 184) Tryd.func8 rfl rfl (Nat.le_of_ble_eq_true rfl) (fun e => ?_)
  refine k_seq ?_
  refine k_region ?_
  refine m_sl rfl rfl ?_
  refine m_int rfl rfl ?_
  refine o_nil ?_
  refine k_seq ?_
  refine k_seq ?_
  refine k_region ?_
  refine m_sl rfl rfl ?_
  refine o_lens Tryd.underlying25 rfl ?_
  refine b_gtr rfl rfl ?_
  refine o_nil ?_
  refine k_cond rfl (fun h => ?_) (fun h => ?_)
  ·
    refine k_seq ?_
    refine k_region ?_
    refine m_sl rfl rfl ?_
    refine m_int rfl rfl ?_
    refine o_nil ?_
    refine k_ret (ret_tmps (ts := [2, 3]) (v := .tuple #[.slice _ _ _, .int _ _]) rfl rfl ?_)
    exact DirR.bad (by unfold dirE; rw [if_pos (by omega)]) (by decide) (Keep.refl _ _)
  have h65 : bs.length ≤ 65536 := by omega
  have hE1 : dirE bs = if endI bs < 0 then 9 else if dBad bs then 10 else if (dX bs).1 ≠ 0 then (dX bs).1 else if (dX bs).2.2 ≠ (endI bs).toNat then 11 else @ite _ (lBad bs (dX bs).2.1 (dF bs)) (Classical.propDecidable _) 15 0 := by unfold dirE; rw [if_neg (by omega)]
  refine k_skip ?_
  refine k_seq ?_
  refine k_region ?_
  refine m_sl rfl rfl ?_
  refine o_call rfl rfl (kinds_ok w) (fun v w1 hv => ?_)
  obtain ⟨rm, rfl, hrm, hKd1, hK1⟩ := hv
  refine o_build (v := .agg #[.slice a bs.length c, .map (some rm)]) rfl (fun _ => by kernel_rfl) ?_
  refine o_box rfl rfl (fun kb w2 hB2 hK2 hb2 hZ2 => ?_)
  have hk2 : Keep [] w w2 := hK1.tr hK2
  obtain ⟨H, hH⟩ : ∃ H, H = w2.heap.size := ⟨_, rfl⟩
  have hBk2 : BookP H w2 kb bs := ⟨a, c, rm, hB2, hR.new hk2, hc, h65, hKd1.keep hK2 (by simp), by omega, by have := hKd1.choose_spec.1.lt; omega, fun hn q hq => by have := hR.ltn (by simpa using hn) q hq; have := hk2.size; omega⟩
  have hHw : w.heap.size ≤ H := by have := hk2.size; omega
  refine m_ptr rfl rfl ?_
  refine o_nil ?_
  refine k_seq ?_
  refine k_region ?_
  refine m_int rfl rfl ?_
  refine m_int rfl rfl ?_
  refine o_nil ?_
  refine k_seq ?_
  refine k_seq ?_
  refine k_region ?_
  refine m_int rfl rfl ?_
  refine o_nil ?_
  refine k_block ?_
  refine k_loop (σ := Nat × Nat) (fun z => [(0, .slice a bs.length c), (4, .pointer (some ⟨kb, 0, none⟩)), (5, .int .i64 (z.2 : Int)), (6, .int .i64 ((endsN bs z.1).length : Int)), (7, .int .i64 (z.1 : Int))]) (fun z w' => z.1 ≤ bs.length ∧ (∀ x, endsN bs z.1 = [x] → z.2 = x) ∧ (endsN bs z.1).length ≤ z.1 ∧ Keep [] w2 w') (fun z => bs.length + 1 - z.1) (0, 0) ⟨rfl, rfl, rfl, rfl, rfl, trivial⟩ ⟨Nat.zero_le _, fun x h => (by cases h), Nat.le_refl _, Keep.refl _ _⟩ (fun z e w3 hJ => ?_)
  obtain ⟨p, pl⟩ := z
  obtain ⟨hp, hpl, hple, hK3⟩ := hJ
  simp only at hp hpl hple
  change kw _ _ _ _ (ovr [(0, .slice a bs.length c), (4, .pointer (some ⟨kb, 0, none⟩)), (5, .int .i64 (pl : Int)), (6, .int .i64 ((endsN bs p).length : Int)), (7, .int .i64 (p : Int))] e) w3
  refine k_seq ?_
  refine k_seq ?_
  refine k_region ?_
  refine m_int rfl rfl ?_
  refine m_sl rfl rfl ?_
  refine o_lens Tryd.underlying25 rfl ?_
  refine n_sub rfl rfl (by omega) ?_
  refine b_leq rfl rfl ?_
  refine o_nil ?_
  refine k_cond rfl (fun h => ?_) (fun h => ?_)
  rotate_left
  ·
    have hlast := endsN_last bs p (by omega) hp
    have hk3 := hk2.tr hK3
    have hBk3 := hBk2.new hK3
    refine k_exit rfl ?_
    refine k_seq ?_
    refine k_seq ?_
    refine k_region ?_
    refine m_int rfl rfl ?_
    refine b_neq rfl rfl ?_
    refine o_nil ?_
    refine k_cond rfl (fun h => ?_) (fun h => ?_)
    ·
      refine k_seq ?_
      refine k_region ?_
      refine m_sl rfl rfl ?_
      refine m_int rfl rfl ?_
      refine o_nil ?_
      refine k_ret (ret_tmps (ts := [2, 3]) (v := .tuple #[.slice _ _ _, .int _ _]) rfl rfl ?_)
      refine DirR.bad (y := 9) ?_ (by decide) hk3
      rcases endI_cases bs with ⟨h1, h2⟩ | ⟨q, h1, h2, h3⟩
      · rw [hE1, if_pos (by omega)]
      · exfalso
        rw [hlast] at h2
        apply h
        rw [h2]; rfl
    obtain ⟨hq1, hq2, hq3⟩ : endI bs = (pl : Int) ∧ endsN bs p = [pl] ∧ isE bs pl := by
     rcases endI_cases bs with ⟨h1, h2⟩ | ⟨q, h1, h2, h3⟩
     · exfalso
       rw [hlast] at h2
       omega
     · rw [hlast] at h2
       have h4 := hpl q h2
       rw [h4]
       exact ⟨h1, h2, h3⟩
    have hpt : (endI bs).toNat = pl := by rw [hq1]; rfl
    have hn : dN bs = rdN bs (pl + 8) 2 := by unfold dN; rw [hpt]
    have hf : dF bs = rdN bs (pl + 16) 4 := by unfold dF; rw [hpt]
    have hbd : dBad bs ↔ (rdN bs (pl + 4) 4 ≠ 0 ∨ rdN bs (pl + 10) 2 ≠ dN bs ∨ 64 < dN bs ∨ dF bs + rdN bs (pl + 12) 4 ≠ pl) := by unfold dBad; rw [hpt]
    have hE2 : dirE bs = if dBad bs then 10 else if (dX bs).1 ≠ 0 then (dX bs).1 else if (dX bs).2.2 ≠ pl then 11 else @ite _ (lBad bs (dX bs).2.1 (dF bs)) (Classical.propDecidable _) 15 0 := by rw [hE1, if_neg (by omega), hpt]
    have hp22 := hq3.1
    have n8 := rdN_lt bs 2 (pl + 8)
    have n16 := rdN_lt bs 4 (pl + 16)
    have n12 := rdN_lt bs 4 (pl + 12)
    refine k_skip ?_
    refine k_seq ?_
    refine k_region ?_
    refine m_ptr rfl rfl ?_
    refine m_int rfl rfl ?_
    refine n_add rfl rfl (by omega) ?_
    refine o_call (vs := [.pointer (some ⟨kb, 0, none⟩), .int .i64 ((pl + 8 : Nat) : Int), .int .i64 ((2 : Nat) : Int)]) rfl rfl (num_ok H w3 kb bs (pl + 8) 2 hBk3 (by decide) (by decide)) (fun v w4 hv => ?_)
    rw [if_neg (by omega), ← hn] at hv
    obtain ⟨rfl, hw4⟩ := hv
    subst hw4
    refine m_ptr rfl rfl ?_
    refine m_int rfl rfl ?_
    refine n_add rfl rfl (by omega) ?_
    refine o_call (vs := [.pointer (some ⟨kb, 0, none⟩), .int .i64 ((pl + 16 : Nat) : Int), .int .i64 ((4 : Nat) : Int)]) rfl rfl (num_ok H w4 kb bs (pl + 16) 4 hBk3 (by decide) (by decide)) (fun v w5 hv => ?_)
    rw [if_neg (by omega), ← hf] at hv
    obtain ⟨rfl, hw5⟩ := hv
    subst hw5
    refine m_int rfl rfl ?_
    refine m_int rfl rfl ?_
    refine o_nil ?_
    refine k_seq ?_
    refine k_seq ?_
    refine k_region ?_
    refine m_ptr rfl rfl ?_
    refine m_int rfl rfl ?_
    refine n_add rfl rfl (by omega) ?_
    refine o_call (vs := [.pointer (some ⟨kb, 0, none⟩), .int .i64 ((pl + 4 : Nat) : Int), .int .i64 ((4 : Nat) : Int)]) rfl rfl (num_ok H w5 kb bs (pl + 4) 4 hBk3 (by decide) (by decide)) (fun v w6 hv => ?_)
    rw [if_neg (by omega)] at hv
    obtain ⟨rfl, hw6⟩ := hv
    subst hw6
    refine b_neq rfl rfl ?_
    refine m_bool rfl rfl ?_
    refine o_split (t := 78) rfl (fun h => ?_) (fun h => ?_)
    ·
      have h78 : rdN bs (pl + 4) 4 ≠ 0 := by omega
      refine g_no rfl rfl rfl ?_
      refine g_no rfl rfl rfl ?_
      refine g_no rfl rfl rfl ?_
      refine g_no rfl rfl rfl ?_
      refine g_no rfl rfl rfl ?_
      refine g_no rfl rfl rfl ?_
      refine pick_t rfl rfl ?_
      refine m_bool rfl rfl ?_
      refine g_no rfl rfl rfl ?_
      refine g_no rfl rfl rfl ?_
      refine pick_t rfl rfl ?_
      refine m_bool rfl rfl ?_
      refine g_no rfl rfl rfl ?_
      refine g_no rfl rfl rfl ?_
      refine g_no rfl rfl rfl ?_
      refine g_no rfl rfl rfl ?_
      refine g_no rfl rfl rfl ?_
      refine g_no rfl rfl rfl ?_
      refine g_no rfl rfl rfl ?_
      refine g_no rfl rfl rfl ?_
      refine pick_t rfl rfl ?_
      refine o_nil ?_
      refine k_condt rfl ?_
      refine k_seq ?_
      refine k_region ?_
      refine m_sl rfl rfl ?_
      refine m_int rfl rfl ?_
      refine o_nil ?_
      refine k_ret (ret_tmps (ts := [2, 3]) (v := .tuple #[.slice _ _ _, .int _ _]) rfl rfl ?_)
      exact DirR.bad (by rw [hE2, if_pos (hbd.2 (.inl h78))]) (by decide) hk3
    ·
      have h78 : rdN bs (pl + 4) 4 = 0 := by omega
      refine g_yes rfl rfl ?_
      refine m_ptr rfl rfl ?_
      refine g_yes rfl rfl ?_
      refine m_int rfl rfl ?_
      refine g_yes rfl rfl ?_
      refine n_add rfl rfl (by omega) ?_
      refine g_yes rfl rfl ?_
      refine o_call (vs := [.pointer (some ⟨kb, 0, none⟩), .int .i64 ((pl + 10 : Nat) : Int), .int .i64 ((2 : Nat) : Int)]) rfl rfl (num_ok H w6 kb bs (pl + 10) 2 hBk3 (by decide) (by decide)) (fun v w7 hv => ?_)
      rw [if_neg (by omega)] at hv
      obtain ⟨rfl, hw7⟩ := hv
      subst hw7
      refine g_yes rfl rfl ?_
      refine m_int rfl rfl ?_
      refine g_yes rfl rfl ?_
      refine b_neq rfl rfl ?_
      refine pick_f rfl rfl ?_
      refine m_bool rfl rfl ?_
      refine o_split (t := 86) rfl (fun h => ?_) (fun h => ?_)
      ·
        have h86 : rdN bs (pl + 10) 2 ≠ dN bs := by omega
        refine g_no rfl rfl rfl ?_
        refine g_no rfl rfl rfl ?_
        refine pick_t rfl rfl ?_
        refine m_bool rfl rfl ?_
        refine g_no rfl rfl rfl ?_
        refine g_no rfl rfl rfl ?_
        refine g_no rfl rfl rfl ?_
        refine g_no rfl rfl rfl ?_
        refine g_no rfl rfl rfl ?_
        refine g_no rfl rfl rfl ?_
        refine g_no rfl rfl rfl ?_
        refine g_no rfl rfl rfl ?_
        refine pick_t rfl rfl ?_
        refine o_nil ?_
        refine k_condt rfl ?_
        refine k_seq ?_
        refine k_region ?_
        refine m_sl rfl rfl ?_
        refine m_int rfl rfl ?_
        refine o_nil ?_
        refine k_ret (ret_tmps (ts := [2, 3]) (v := .tuple #[.slice _ _ _, .int _ _]) rfl rfl ?_)
        exact DirR.bad (by rw [hE2, if_pos (hbd.2 (.inr (.inl h86)))]) (by decide) hk3
      ·
        have h86 : rdN bs (pl + 10) 2 = dN bs := by omega
        refine g_yes rfl rfl ?_
        refine m_int rfl rfl ?_
        refine g_yes rfl rfl ?_
        refine b_gtr rfl rfl ?_
        refine pick_f rfl rfl ?_
        refine m_bool rfl rfl ?_
        refine o_split (t := 90) rfl (fun h => ?_) (fun h => ?_)
        ·
          have h90 : 64 < dN bs := by omega
          refine g_no rfl rfl rfl ?_
          refine g_no rfl rfl rfl ?_
          refine g_no rfl rfl rfl ?_
          refine g_no rfl rfl rfl ?_
          refine g_no rfl rfl rfl ?_
          refine g_no rfl rfl rfl ?_
          refine g_no rfl rfl rfl ?_
          refine g_no rfl rfl rfl ?_
          refine pick_t rfl rfl ?_
          refine o_nil ?_
          refine k_condt rfl ?_
          refine k_seq ?_
          refine k_region ?_
          refine m_sl rfl rfl ?_
          refine m_int rfl rfl ?_
          refine o_nil ?_
          refine k_ret (ret_tmps (ts := [2, 3]) (v := .tuple #[.slice _ _ _, .int _ _]) rfl rfl ?_)
          exact DirR.bad (by rw [hE2, if_pos (hbd.2 (.inr (.inr (.inl h90))))]) (by decide) hk3
        ·
          have h90 : dN bs ≤ 64 := by omega
          refine g_yes rfl rfl ?_
          refine m_int rfl rfl ?_
          refine g_yes rfl rfl ?_
          refine m_ptr rfl rfl ?_
          refine g_yes rfl rfl ?_
          refine m_int rfl rfl ?_
          refine g_yes rfl rfl ?_
          refine n_add rfl rfl (by omega) ?_
          refine g_yes rfl rfl ?_
          refine o_call (vs := [.pointer (some ⟨kb, 0, none⟩), .int .i64 ((pl + 12 : Nat) : Int), .int .i64 ((4 : Nat) : Int)]) rfl rfl (num_ok H w7 kb bs (pl + 12) 4 hBk3 (by decide) (by decide)) (fun v w8 hv => ?_)
          rw [if_neg (by omega)] at hv
          obtain ⟨rfl, hw8⟩ := hv
          subst hw8
          refine g_yes rfl rfl ?_
          refine n_add rfl rfl (by omega) ?_
          refine g_yes rfl rfl ?_
          refine m_int rfl rfl ?_
          refine g_yes rfl rfl ?_
          refine b_neq rfl rfl ?_
          refine pick_f rfl rfl ?_
          refine o_nil ?_
          refine k_cond rfl (fun h => ?_) (fun h => ?_)
          ·
            refine k_seq ?_
            refine k_region ?_
            refine m_sl rfl rfl ?_
            refine m_int rfl rfl ?_
            refine o_nil ?_
            refine k_ret (ret_tmps (ts := [2, 3]) (v := .tuple #[.slice _ _ _, .int _ _]) rfl rfl ?_)
            exact DirR.bad (by rw [hE2, if_pos (hbd.2 (.inr (.inr (.inr (by omega)))))]) (by decide) hk3
          have h99 : dF bs + rdN bs (pl + 12) 4 = pl := by omega
          have hE3 : dirE bs = if (dX bs).1 ≠ 0 then (dX bs).1 else if (dX bs).2.2 ≠ pl then 11 else @ite _ (lBad bs (dX bs).2.1 (dF bs)) (Classical.propDecidable _) 15 0 := by
           rw [hE2, if_neg (fun hh => by
            rcases hbd.1 hh with h1 | h1 | h1 | h1
            · exact h1 h78
            · exact h1 h86
            · omega
            · exact h1 h99)]
          have hX0 : dX bs = recsF bs pl (dN bs) (dF bs) noS := by unfold dX; rw [hpt]
          have hfp : dF bs ≤ pl := by omega
          refine k_skip ?_
          refine k_seq ?_
          refine k_region ?_
          refine m_sl rfl rfl ?_
          refine o_nil ?_
          refine k_seq ?_
          refine k_region ?_
          refine o_mkmap Value.string (fun sm w9 hM9 hK9 hb9 hZ9 => ?_)
          have hSn9 : SnM w9 sm noS := ⟨[], hM9, fun s => rfl⟩
          have hsm : H ≤ sm := by have := hK3.size; omega
          generalize hn' : dN bs = n at *
          generalize hf' : dF bs = fr at *
          refine m_map rfl rfl ?_
          refine o_nil ?_
          refine k_seq ?_
          refine k_region ?_
          refine m_int rfl rfl ?_
          refine m_int rfl rfl ?_
          refine o_nil ?_
          refine k_seq ?_
          refine k_seq ?_
          refine k_region ?_
          refine m_int rfl rfl ?_
          refine m_int rfl rfl ?_
          refine o_nil ?_
          refine k_block ?_
          refine k_loop (σ := Nat × List Rc × Option Addr × Nat × Nat × (ByteArray → Bool)) (fun z => [(4, .pointer (some ⟨kb, 0, none⟩)), (5, .int .i64 (pl : Int)), (9, .int .i64 (fr : Int)), (10, .slice z.2.2.1 z.2.1.length z.2.2.2.1), (11, .map (some sm)), (12, .int .i64 (z.2.2.2.2.1 : Int)), (102, .int .i64 (n : Int)), (103, .int .i64 (z.1 : Int))]) (fun z w' => z.1 ≤ n ∧ z.2.1.length = z.1 ∧ Sl w' 59 8 z.2.2.1 z.2.1.length z.2.2.2.1 (rcAll z.2.1) ∧ (∀ q, z.2.2.1 = some q → w8.heap.size ≤ q.block) ∧ SnM w' sm z.2.2.2.2.2 ∧ Keep [] w8 w' ∧ z.2.2.2.2.1 ≤ pl ∧ (∀ r ∈ z.2.1, RcOk bs r) ∧ dX bs = ((recsF bs pl (n - z.1) z.2.2.2.2.1 z.2.2.2.2.2).1, z.2.1 ++ (recsF bs pl (n - z.1) z.2.2.2.2.1 z.2.2.2.2.2).2.1, (recsF bs pl (n - z.1) z.2.2.2.2.1 z.2.2.2.2.2).2.2)) (fun z => n - z.1) (0, [], none, 0, fr, noS) ⟨rfl, rfl, rfl, rfl, rfl, rfl, rfl, rfl, trivial⟩ ⟨Nat.zero_le _, rfl, Sl.nil _ _ _, by simp, hSn9, hK9, hfp, by simp, by rw [hX0]; rfl⟩ (fun z e w10 hJ => ?_)
          obtain ⟨i, l, al, cl, p2, sn⟩ := z
          obtain ⟨hi, hli, hS10, hf10, hSn10, hK10, hp2, hrc, hX⟩ := hJ
          change kw _ _ _ _ (ovr [(4, .pointer (some ⟨kb, 0, none⟩)), (5, .int .i64 (pl : Int)), (9, .int .i64 (fr : Int)), (10, .slice al l.length cl), (11, .map (some sm)), (12, .int .i64 (p2 : Int)), (102, .int .i64 (n : Int)), (103, .int .i64 (i : Int))] e) w10
          simp only at hi hli hS10 hf10 hSn10 hp2 hrc hX
          have hk10 := hk3.tr hK10
          have hBk10 := hBk3.new hK10
          have hsz10 := hK10.size
          have hsz3 := hK3.size
          refine k_seq ?_
          refine k_region ?_
          refine b_lss rfl rfl ?_
          refine o_nil ?_
          refine k_seq ?_
          refine k_cond rfl (fun h => ?_) (fun h => ?_)
          rotate_left
          ·
            obtain rfl : i = n := by omega
            rw [Nat.sub_self] at hX
            have hX1 : (dX bs).1 = 0 := by rw [hX]; rfl
            have hX2 : (dX bs).2.1 = l := by rw [hX]; exact List.append_nil l
            have hX3 : (dX bs).2.2 = p2 := by rw [hX]; rfl
            have hE4 : dirE bs = if p2 ≠ pl then 11 else @ite _ (lBad bs l fr) (Classical.propDecidable _) 15 0 := by
             rw [hE3, hX1, hX2, hX3, if_neg (fun hh => hh rfl)]
            have hDL : dirL bs = l.map (setAt bs) := by unfold dirL; rw [hX2]
            refine k_exit rfl ?_
            refine k_seq ?_
            refine k_seq ?_
            refine k_region ?_
            refine m_int rfl rfl ?_
            refine m_int rfl rfl ?_
            refine b_neq rfl rfl ?_
            refine o_nil ?_
            refine k_cond rfl (fun h => ?_) (fun h => ?_)
            ·
              refine k_seq ?_
              refine k_region ?_
              refine m_sl rfl rfl ?_
              refine m_int rfl rfl ?_
              refine o_nil ?_
              refine k_ret (ret_tmps (ts := [2, 3]) (v := .tuple #[.slice _ _ _, .int _ _]) rfl rfl ?_)
              exact DirR.bad (by rw [hE4, if_pos (fun hh => h (by rw [hh]))]) (by decide) hk10
            have hpp : p2 = pl := by omega
            have hE5 : dirE bs = @ite _ (lBad bs l fr) (Classical.propDecidable _) 15 0 := by rw [hE4, if_neg (fun hh => hh hpp)]
            refine k_skip ?_
            refine k_seq ?_
            refine k_seq ?_
            refine k_region ?_
            refine m_sl rfl rfl ?_
            refine o_lens Tryd.underlying57 rfl ?_
            refine m_int rfl rfl ?_
            refine o_nil ?_
            refine k_block ?_
            refine k_loop (σ := Nat) (fun j => [(4, .pointer (some ⟨kb, 0, none⟩)), (9, .int .i64 (fr : Int)), (10, .slice al l.length cl), (127, .int .i64 (l.length : Int)), (128, .int .i64 (j : Int))]) (fun j w' => j ≤ l.length ∧ Sl w' 59 8 al l.length cl (rcAll ((l.take j).map (setAt bs) ++ l.drop j)) ∧ Keep [] w8 w' ∧ ∀ r ∈ l.take j, ¬ (locB1 bs r fr ∨ locB2 bs r fr)) (fun j => l.length - j) 0 ⟨rfl, rfl, rfl, rfl, rfl, trivial⟩ ⟨Nat.zero_le _, hS10, hK10, by simp⟩ (fun j e w11 hJ => ?_)
            obtain ⟨hj, hS11, hK11, hgd⟩ := hJ
            have hk11 := hk3.tr hK11
            refine k_seq ?_
            refine k_region ?_
            refine b_lss rfl rfl ?_
            refine o_nil ?_
            refine k_seq ?_
            refine k_cond rfl (fun h => ?_) (fun h => ?_)
            rotate_left
            ·
              obtain rfl : j = l.length := by omega
              rw [List.take_length, List.drop_length, List.append_nil] at hS11
              rw [List.take_length] at hgd
              have hnb : ¬ lBad bs l fr := fun ⟨r, hr, hb⟩ => hgd r hr hb
              have hE6 : dirE bs = 0 := by rw [hE5]; exact (ite_cl 15 0).2 hnb
              have hG := hgood hE6
              rw [hDL] at hG
              generalize hL : l.map (setAt bs) = L at *
              have hLl : l.length = L.length := by rw [← hL, List.length_map]
              rw [hLl] at hS11 ⊢
              refine k_exit rfl ?_
              refine k_seq ?_
              refine k_region ?_
              refine m_sl rfl rfl ?_
              refine o_nil ?_
              refine k_seq ?_
              refine k_seq ?_
              refine k_region ?_
              refine m_sl rfl rfl ?_
              refine o_lens Tryd.underlying57 rfl ?_
              refine m_int rfl rfl ?_
              refine o_nil ?_
              refine k_block ?_
              refine k_loop (σ := Nat × Option Addr × Nat) (fun z => [(10, .slice al L.length cl), (18, .slice z.2.1 z.1 z.2.2), (141, .slice al L.length cl), (142, .int .i64 (L.length : Int)), (143, .int .i64 (z.1 : Int))]) (fun z w' => z.1 ≤ L.length ∧ Sl w' 33 7 z.2.1 z.1 z.2.2 (outC (L.take z.1)) ∧ (∀ q, z.2.1 = some q → w11.heap.size ≤ q.block) ∧ Keep [] w11 w') (fun z => L.length - z.1) (0, none, 0) ⟨rfl, rfl, rfl, rfl, rfl, trivial⟩ ⟨Nat.zero_le _, Sl.nil _ _ _, by simp, Keep.refl _ _⟩ (fun z e w12 hJ => ?_)
              obtain ⟨k, a2, c2⟩ := z
              obtain ⟨hk, hO12, hf12, hK12⟩ := hJ
              change kw _ _ _ _ (ovr [(10, .slice al L.length cl), (18, .slice a2 k c2), (141, .slice al L.length cl), (142, .int .i64 (L.length : Int)), (143, .int .i64 (k : Int))] e) w12
              simp only at hk hO12 hf12
              have hS12 := hS11.new hK12
              refine k_seq ?_
              refine k_region ?_
              refine b_lss rfl rfl ?_
              refine o_nil ?_
              refine k_seq ?_
              refine k_cond rfl (fun h => ?_) (fun h => ?_)
              rotate_left
              ·
                obtain rfl : k = L.length := by omega
                rw [List.take_length] at hO12
                have hL0 : 0 < L.length := List.length_pos_iff.2 hG.1
                obtain ⟨g12, cur12, rfl, hB12, hsz12⟩ := hS12.blk hL0
                refine k_exit rfl ?_
                refine k_seq ?_
                refine k_region ?_
                refine m_sl rfl rfl ?_
                refine o_call rfl rfl (sort_ok w12 g12 cl cur12 L hB12 (hS12.take_cur hB12) hG.2.1 (by omega)) (fun v w13 hv => ?_)
                obtain ⟨rfl, hK13⟩ := hv
                refine o_nil ?_
                refine k_seq ?_
                refine k_seq ?_
                refine k_region ?_
                refine m_int rfl rfl ?_
                refine o_nil ?_
                refine k_block ?_
                refine k_loop (σ := Nat) (fun i => [(10, .slice (some ⟨g12, 0, none⟩) L.length cl), (18, .slice a2 L.length c2), (21, .int .i64 (i : Int))]) (fun i w' => 1 ≤ i ∧ i ≤ L.length ∧ Keep [] w12 w') (fun i => L.length - i) 1 ⟨rfl, rfl, rfl, trivial⟩ ⟨Nat.le_refl _, hL0, hK13⟩ (fun i e w14 hJ => ?_)
                obtain ⟨hi1, hi2, hK14⟩ := hJ
                refine k_seq ?_
                refine k_seq ?_
                refine k_region ?_
                refine m_int rfl rfl ?_
                refine m_sl rfl rfl ?_
                refine o_lens Tryd.underlying57 rfl ?_
                refine b_lss rfl rfl ?_
                refine o_nil ?_
                refine k_cond rfl (fun h => ?_) (fun h => ?_)
                rotate_left
                ·
                  refine k_exit rfl ?_
                  refine k_seq ?_
                  refine k_region ?_
                  refine m_sl rfl rfl ?_
                  refine m_sl rfl rfl ?_
                  refine m_int rfl rfl ?_
                  refine o_nil ?_
                  refine k_ret (ret_tmps (ts := [2, 3]) (v := .tuple #[.slice _ _ _, .int _ _]) rfl rfl ?_)
                  refine ⟨a2, L.length, c2, by rw [hE6], (hk11.tr hK12).tr hK14, fun hh => absurd hE6 hh, fun _ => ⟨by rw [hDL], ?_, fun q hq => ?_⟩⟩
                  · rw [hDL]; exact hO12.new hK14
                  · have := hf12 q hq
                    have := hk11.size
                    omega
                have hiL : i < L.length := by omega
                obtain ⟨i', rfl⟩ : ∃ i', i = i' + 1 := ⟨i - 1, by omega⟩
                obtain ⟨x, hx⟩ : ∃ x, L[i']? = some x := ⟨_, List.getElem?_eq_getElem (by omega)⟩
                obtain ⟨y, hy⟩ : ∃ y, L[i' + 1]? = some y := ⟨_, List.getElem?_eq_getElem hiL⟩
                have hov := hG.2.2 i' x y hx hy
                have hS14 := hS12.new hK14
                refine k_skip ?_
                refine k_seq ?_
                refine k_block ?_
                refine k_seq ?_
                refine k_qk 21 rfl rfl rfl rfl rfl ?_
                refine q_step (fun w1 hC => m_sl rfl rfl (o_nil ⟨rfl, hC⟩)) ?_
                refine q_step (fun w1 hC => m_int rfl rfl (o_nil ⟨rfl, hC⟩)) ?_
                refine q_step (fun w1 hC => o_ixs (sz := 8) (m := i' + 1) Tryd.underlying57 rfl rfl rfl hiL (o_nil ⟨rfl, hC⟩)) ?_
                refine q_step (fun w1 hC => o_fld0 rfl rfl (o_nil ⟨rfl, hC⟩)) ?_
                refine q_step (fun w1 hC => o_fld (off := 6) rfl rfl (o_nil ⟨rfl, hC⟩)) ?_
                refine q_step (fun w1 hC => o_ld (v := nv y.head) rfl rfl (hS14.rd.cellK hC (rcAll_at L (i' + 1) 6 y _ hy rfl)) (o_nil ⟨rfl, hC⟩)) ?_
                refine q_step (fun w1 hC => m_sl rfl rfl (o_nil ⟨rfl, hC⟩)) ?_
                refine q_step (fun w1 hC => m_int rfl rfl (o_nil ⟨rfl, hC⟩)) ?_
                refine q_step (fun w1 hC => n_sub rfl rfl (by omega) (o_nil ⟨congrArg (fun x => upd _ 169 (Value.int .i64 x)) (show ((i' + 1 : Nat) : Int) - 1 = (i' : Int) by omega), hC⟩)) ?_
                refine q_step (fun w1 hC => o_ixs (sz := 8) (m := i') Tryd.underlying57 rfl rfl rfl (by omega) (o_nil ⟨rfl, hC⟩)) ?_
                refine q_step (fun w1 hC => o_fld0 rfl rfl (o_nil ⟨rfl, hC⟩)) ?_
                refine q_step (fun w1 hC => o_fld (off := 5) rfl rfl (o_nil ⟨rfl, hC⟩)) ?_
                refine q_step (fun w1 hC => o_ld (v := nv x.at_) rfl rfl (hS14.rd.cellK hC (rcAll_at L i' 5 x _ hx rfl)) (o_nil ⟨rfl, hC⟩)) ?_
                refine q_step (fun w1 hC => m_sl rfl rfl (o_nil ⟨rfl, hC⟩)) ?_
                refine q_step (fun w1 hC => m_int rfl rfl (o_nil ⟨rfl, hC⟩)) ?_
                refine q_step (fun w1 hC => n_sub rfl rfl (by omega) (o_nil ⟨congrArg (fun x => upd _ 176 (Value.int .i64 x)) (show ((i' + 1 : Nat) : Int) - 1 = (i' : Int) by omega), hC⟩)) ?_
                refine q_step (fun w1 hC => o_ixs (sz := 8) (m := i') Tryd.underlying57 rfl rfl rfl (by omega) (o_nil ⟨rfl, hC⟩)) ?_
                refine q_step (fun w1 hC => o_fld0 rfl rfl (o_nil ⟨rfl, hC⟩)) ?_
                refine q_step (fun w1 hC => o_fld (off := 2) rfl rfl (o_nil ⟨rfl, hC⟩)) ?_
                refine q_step (fun w1 hC => o_ld (v := nv x.packed) rfl rfl (hS14.rd.cellK hC (rcAll_at L i' 2 x _ hx rfl)) (o_nil ⟨rfl, hC⟩)) ?_
                have hxb : x.at_ + x.packed ≤ 10000000000 := by
                 have hxm : x ∈ L := List.mem_of_getElem? hx
                 rw [← hL] at hxm
                 obtain ⟨r0, hr0, rfl⟩ := List.mem_map.1 hxm
                 have h1 := hrc r0 hr0
                 have h2 := rdN_lt bs 2 (r0.head + 28)
                 obtain ⟨h3, h4, h5, h6⟩ := h1
                 have h7 : (setAt bs r0).at_ = r0.head + 30 + r0.name.size + rdN bs (r0.head + 28) 2 := rfl
                 have h8 : (setAt bs r0).packed = r0.packed := rfl
                 omega
                refine q_step (fun w1 hC => n_add rfl rfl (by omega) (o_nil ⟨rfl, hC⟩)) ?_
                refine q_nil ?_
                intro w15 hC15
                refine b_lss rfl rfl ?_
                refine o_nil ?_
                refine k_no rfl ((by omega)) ?_
                refine k_skip ?_
                refine k_blk ?_
                refine k_region ?_
                refine m_int rfl rfl ?_
                refine n_add rfl rfl (by omega) ?_
                refine m_int rfl rfl ?_
                refine o_nil ?_
                refine k_goal ⟨i' + 1 + 1, ⟨rfl, rfl, rfl, trivial⟩, ⟨by omega, by omega, hK14.tr hC15⟩, by omega⟩
              have hkL : k < L.length := by omega
              obtain ⟨r, hr⟩ : ∃ r, L[k]? = some r := ⟨_, List.getElem?_eq_getElem hkL⟩
              obtain ⟨g12, cur12, rfl, hB12, hsz12⟩ := hS12.blk (by omega)
              refine k_skip ?_
              refine k_seq ?_
              refine k_block ?_
              refine k_seq ?_
              refine k_region ?_
              refine o_ixs (sz := 8) (m := k) Tryd.underlying57 rfl rfl rfl hkL ?_
              refine o_lda (xs := rcC r) rfl rfl rfl (fun j v hj => by rw [Nat.zero_add]; have := hS12.rd.cellK (Keep.refl _ _) (rcAll_at L k j r v hr hj); rwa [Nat.zero_add] at this) ?_
              refine o_alloc (cs := r0C.toArray) inf59 rfl (fun b13 w13 hB13 hK13 hb13 hZ13 => ?_)
              refine o_sta (xs := rcC r) rfl rfl rfl (rc_one r) hB13 (by simp [r0C, rcC]) (fun w14 hB14 hK14 hZ14 => ?_)
              have hB14 := sta_all hB14 rfl
              have hK1214 : Keep [] w12 w14 := hK13.tr1 hK14 (by omega)
              refine o_nil ?_
              refine k_region ?_
              refine m_sl rfl rfl ?_
              refine o_fld0 rfl rfl ?_
              refine o_lda (xs := (rcC r).take 7) rfl rfl rfl (fun j v hj => by rw [Nat.zero_add]; rw [List.getElem?_take] at hj; split at hj; exact blk_l hB14 hj; cases hj) ?_
              refine o_bsl (E := 33) (cs := ((rcC r).take 7).toArray) rfl (bld29 r) (fun g15 w15 hB15 hK15 hb15 hZ15 => ?_)
              have hK1215 := hK1214.tr hK15
              refine o_app Tryd.underlying29 inf33 rfl (by decide) rfl rfl (hO12.new hK1215) hB15.rd rfl (fun u hu => rc_one r u (List.mem_of_mem_take hu)) (by simp [maxLen]; omega) (by omega) (fun a16 c16 w16 hS16 hK16 hv16 => ?_)
              refine m_sl rfl rfl ?_
              refine o_nil ?_
              refine k_blk ?_
              refine k_region ?_
              refine n_add rfl rfl (by omega) ?_
              refine m_int rfl rfl ?_
              refine o_nil ?_
              refine k_goal ⟨(k + 1, a16, c16), ⟨rfl, rfl, rfl, rfl, rfl, trivial⟩, ⟨by show k + 1 ≤ L.length; omega, ?_, fresh_app hf12 (by have := hK12.size; have := hK1215.size; omega) hv16, (hK12.tr hK1215).trb hK16 hf12⟩, by show L.length - (k + 1) < L.length - k; omega⟩
              show Sl w16 33 7 a16 (k + 1) c16 (outC (L.take (k + 1)))
              rw [List.take_add_one, hr, outC_app]
              exact hS16
            have hjl : j < l.length := by omega
            obtain ⟨r, hr⟩ : ∃ r, l[j]? = some r := ⟨_, List.getElem?_eq_getElem hjl⟩
            obtain ⟨gl, cur, rfl, hBl, hszl⟩ := hS11.blk (by omega)
            have hrm := mixed_at bs l j r hr
            obtain ⟨ro1, ro2, ro3, ro4⟩ := hrc r (List.mem_of_getElem? hr)
            have hgl := hf10 _ rfl
            refine k_skip ?_
            refine k_seq ?_
            refine k_block ?_
            refine k_seq ?_
            refine k_region ?_
            refine m_int rfl rfl ?_
            refine m_int rfl rfl ?_
            refine o_nil ?_
            refine k_seq ?_
            refine k_region ?_
            refine m_ptr rfl rfl ?_
            refine m_sl rfl rfl ?_
            refine m_int rfl rfl ?_
            refine o_ixs (sz := 8) (m := j) Tryd.underlying57 rfl rfl rfl hjl ?_
            refine m_int rfl rfl ?_
            refine o_call rfl rfl (local_ok H w11 kb bs r fr gl (0 + j * 8) cur (hBk3.new hK11) (by omega) hBl (fun q v hq => by rw [Nat.zero_add]; exact hS11.cur hBl (rcAll_at _ j q r v hrm hq)) (by simp only at hgl; omega) ro1 ro2 ro3 ro4) (fun v w12 hv => ?_)
            obtain ⟨hK12, hv⟩ := hv
            obtain ⟨y, rfl, hy⟩ : ∃ y, v = .int .i64 y ∧ ((y = 15 ∧ (locB1 bs r fr ∨ locB2 bs r fr)) ∨ (y = 0 ∧ ¬ locB1 bs r fr ∧ ¬ locB2 bs r fr ∧ Blk w12 gl (cur.setIfInBounds (0 + j * 8 + 5) (nv (atOf bs r))) 59)) := by
             rcases hv with ⟨h1, h2⟩ | ⟨h1, h2⟩
             · exact ⟨15, h1, .inl ⟨rfl, h2⟩⟩
             · exact ⟨0, h1, .inr ⟨rfl, h2⟩⟩
            have hK812 : Keep [] w8 w12 := hK11.tr1 hK12 (by simp only at hgl; omega)
            refine m_int rfl rfl ?_
            refine o_nil ?_
            refine k_seq ?_
            refine k_region ?_
            refine m_int rfl rfl ?_
            refine b_neq rfl rfl ?_
            refine o_nil ?_
            refine k_cond rfl (fun h => ?_) (fun h => ?_)
            ·
              refine k_seq ?_
              refine k_region ?_
              refine m_int rfl rfl ?_
              refine m_sl rfl rfl ?_
              refine m_int rfl rfl ?_
              refine o_nil ?_
              refine k_ret (ret_tmps (ts := [2, 3]) (v := .tuple #[.slice _ _ _, .int _ _]) rfl rfl ?_)
              obtain ⟨rfl, hbad⟩ : y = 15 ∧ (locB1 bs r fr ∨ locB2 bs r fr) := by
               rcases hy with h1 | ⟨h1, _⟩
               · exact h1
               · exact absurd h1 h
              exact DirR.bad (by rw [hE5]; exact (ite_cl 15 0).1 ⟨r, List.mem_of_getElem? hr, hbad⟩) (by decide) (hk3.tr hK812)
            obtain ⟨_, hn1, hn2, hB12⟩ : y = 0 ∧ ¬ locB1 bs r fr ∧ ¬ locB2 bs r fr ∧ Blk w12 gl (cur.setIfInBounds (0 + j * 8 + 5) (nv (atOf bs r))) 59 := by
             rcases hy with ⟨h1, _⟩ | h1
             · exact absurd h1 (by omega)
             · exact h1
            refine k_skip ?_
            refine k_blk ?_
            refine k_region ?_
            refine n_add rfl rfl (by omega) ?_
            refine m_int rfl rfl ?_
            refine o_nil ?_
            refine k_goal ⟨j + 1, ⟨rfl, rfl, rfl, rfl, rfl, trivial⟩, ⟨by omega, ?_, hK812, ?_⟩, by omega⟩
            · rw [Nat.zero_add] at hB12
              have h1 := hS11.setC (k := j * 8 + 5) (by omega) hBl hB12
              rw [rcAll_set _ j (atOf bs r) r hrm] at h1
              have h2 := mixed_set bs l j r hr
              rw [show ({ r with at_ := atOf bs r } : Rc) = setAt bs r from rfl, h2] at h1
              exact h1
            · intro r' hr'
              rw [List.take_add_one, hr] at hr'
              rcases List.mem_append.1 hr' with h1 | h1
              · exact hgd r' h1
              · simp at h1; subst h1
                exact fun hh => by rcases hh with h2 | h2; exact hn1 h2; exact hn2 h2
          have hin : i < n := by omega
          obtain ⟨k, hk⟩ : ∃ k, n - i = k + 1 := ⟨n - i - 1, by omega⟩
          have hkk : n - (i + 1) = k := by rw [Nat.sub_add_eq, hk]; rfl
          refine k_skip ?_
          refine k_seq ?_
          refine k_block ?_
          refine k_seq ?_
          refine k_region ?_
          refine m_ptr rfl rfl ?_
          refine m_int rfl rfl ?_
          refine m_int rfl rfl ?_
          refine m_map rfl rfl ?_
          refine o_call rfl rfl (record_ok H w10 kb bs p2 pl sm sn hBk10 (by omega) hSn10 (by omega) (by omega)) (fun v w11 hv => ?_)
          obtain ⟨cs, bh, rfl, hok, hno⟩ := hv
          obtain ⟨xs, rfl, hx8, hx1⟩ : ∃ xs : List Value, cs = xs.toArray ∧ xs.length = 8 ∧ ∀ u ∈ xs, u.oneCell' = true := by
           by_cases h0 : recE bs p2 pl sn = 0
           · exact ⟨_, (hok h0).1, rfl, rc_one _⟩
           · exact ⟨_, (hno h0).1, rfl, r0_one⟩
          have hK11 : Keep [sm] w10 w11 := by
           by_cases h0 : recE bs p2 pl sn = 0
           · exact (hok h0).2.2.2
           · exact (hno h0).2.also
          have hk11 : Keep [] w w11 := hk10.tr1 hK11 (by omega)
          have hK811 : Keep [] w8 w11 := hK10.tr1 hK11 (by omega)
          refine m_any rfl rfl ?_
          refine o_extr (vs := [.agg xs.toArray, .int .i64 bh, .int .i64 (recE bs p2 pl sn)]) rfl rfl ?_
          refine o_extr (vs := [.agg xs.toArray, .int .i64 bh, .int .i64 (recE bs p2 pl sn)]) rfl rfl ?_
          refine o_extr (vs := [.agg xs.toArray, .int .i64 bh, .int .i64 (recE bs p2 pl sn)]) rfl rfl ?_
          refine o_alloc (cs := r0C.toArray) inf59 rfl (fun b12 w12 hB12 hK12 hb12 hZ12 => ?_)
          refine o_sta (xs := xs) rfl rfl (by rw [hx8]; rfl) hx1 hB12 (by rw [hx8]; decide) (fun w13 hB13 hK13 hZ13 => ?_)
          have hB13 := sta_all hB13 (by rw [hx8]; rfl)
          have hk13 : Keep [] w w13 := (hk11.tr hK12).tr1 hK13 (by have := hk11.size; omega)
          have hK813 : Keep [] w8 w13 := (hK811.tr hK12).tr1 hK13 (by have := hK811.size; omega)
          refine m_int rfl rfl ?_
          refine m_int rfl rfl ?_
          refine o_nil ?_
          refine k_seq ?_
          refine k_seq ?_
          refine k_region ?_
          refine m_int rfl rfl ?_
          refine b_neq rfl rfl ?_
          refine o_nil ?_
          refine k_cond rfl (fun h => ?_) (fun h => ?_)
          ·
            refine k_seq ?_
            refine k_region ?_
            refine m_int rfl rfl ?_
            refine m_sl rfl rfl ?_
            refine m_int rfl rfl ?_
            refine o_nil ?_
            refine k_ret (ret_tmps (ts := [2, 3]) (v := .tuple #[.slice _ _ _, .int _ _]) rfl rfl ?_)
            refine DirR.bad ?_ h hk13
            rw [hE3, hX, hk, recsF_bad h]
            simp only
            rw [if_pos h]
          have h0 : recE bs p2 pl sn = 0 := Decidable.not_not.1 h
          obtain ⟨hcs, rfl, hSn11, _⟩ := hok h0
          have hxs : xs = rcC (recAt bs p2) := by simpa using hcs
          subst hxs
          have hze := recE_zero h0
          have hro := rcOk_at h0 (by omega : pl ≤ bs.length)
          rw [hk, recsF_ok h0] at hX
          generalize hrr : recAt bs p2 = r at *
          refine k_skip ?_
          refine k_region ?_
          refine m_sl rfl rfl ?_
          refine o_lda (xs := rcC r) rfl rfl rfl (fun j v hj => by rw [Nat.zero_add]; exact blk_l hB13 hj) ?_
          refine o_bsl (E := 59) (cs := (rcC r).toArray) rfl (bld57 r) (fun g14 w14 hB14 hK14 hb14 hZ14 => ?_)
          have hS14 : Sl w14 59 8 al l.length cl (rcAll l) := by
           have h1 := hS10.keep hK11 (fun q hq hm => by
            simp at hm
            rcases hS10.2 with ⟨h2, _⟩ | ⟨g, cur, h2, hBg, _⟩
            · rw [h2] at hq; cases hq
            · rw [h2] at hq; cases hq
              obtain ⟨m0, hM0, _⟩ := hSn10
              exact hM0.blk hBg hm)
           have h3 := (h1.new hK12).keep hK13 (fun q hq hm => by
            simp at hm
            have := h1.lt q hq
            omega)
           exact h3.new hK14
          have hsml : sm < w11.heap.size := by obtain ⟨m0, hM0, _⟩ := hSn11; exact hM0.lt
          refine o_app Tryd.underlying57 inf59 rfl (by decide) rfl rfl hS14 hB14.rd rfl (rc_one r) (by simp [maxLen]; omega) (by omega) (fun a15 c15 w15 hS15 hK15 hv15 => ?_)
          refine m_int rfl rfl ?_
          refine m_sl rfl rfl ?_
          refine m_int rfl rfl ?_
          refine o_nil ?_
          refine k_blk ?_
          refine k_region ?_
          refine n_add rfl rfl (by omega) ?_
          refine m_int rfl rfl ?_
          refine o_nil ?_
          have hK814 := hK813.tr hK14
          have hlen2 : (l ++ [r]).length = l.length + 1 := by simp
          refine k_goal ⟨(i + 1, l ++ [r], a15, c15, recEnd bs p2, snPut sn r.name), ⟨rfl, rfl, rfl, ?_, rfl, rfl, rfl, rfl, trivial⟩, ⟨by show i + 1 ≤ n; omega, by show (l ++ [r]).length = i + 1; rw [hlen2, hli], ?_, fresh_app hf10 (by have := hK814.size; omega) hv15, ?_, ?_, hze.2, ?_, ?_⟩, by show n - (i + 1) < n - i; omega⟩
          · show Value.slice a15 (l.length + 1) c15 = .slice a15 (l ++ [r]).length c15
            rw [hlen2]
          · show Sl w15 59 8 a15 (l ++ [r]).length c15 (rcAll (l ++ [r]))
            rw [hlen2, rcAll_app, show rcAll [r] = rcC r from rfl]
            exact hS15
          · show SnM w15 sm (snPut sn r.name)
            refine (((hSn11.keep hK12 (by simp)).keep hK13 (by simp; omega)).keep hK14 (by simp)).keep hK15 ?_
            intro hm
            cases al with
            | none => simp [blkOf] at hm
            | some q =>
             simp [blkOf] at hm
             rcases hS14.2 with ⟨h2, _⟩ | ⟨g, cur, h2, hBg, _⟩
             · cases h2
             · cases h2
               obtain ⟨m0, hM0, _⟩ := ((hSn11.keep hK12 (by simp)).keep hK13 (by simp; omega)).keep hK14 (by simp)
               exact hM0.blk hBg hm.symm
          · exact hK814.trb hK15 hf10
          · intro r' hr'
            rcases List.mem_append.1 hr' with h1 | h1
            · exact hrc r' h1
            · simp at h1; subst h1; exact hro
          · simp only
            rw [hX, hkk]
            simp
  have hp22 : p + 22 ≤ bs.length := by omega
  obtain ⟨b1, o1, rfl, _⟩ := hR.at p (by simp; omega)
  refine k_skip ?_
  refine k_seq ?_
  refine k_block ?_
  refine k_seq ?_
  refine k_region ?_
  refine m_sl rfl rfl ?_
  refine m_int rfl rfl ?_
  refine o_ixs1 (m := p) Tryd.underlying25 rfl rfl rfl (by omega) ?_
  refine o_ld rfl rfl (hR.cellK (hk2.tr hK3) (u8_at bs p (by omega))) ?_
  refine v8_eql (b := 80#8) rfl rfl ?_
  refine m_bool rfl rfl ?_
  refine o_split (t := 41) rfl (fun h => ?_) (fun h => ?_)
  ·
    have h41 := h
    refine g_yes rfl rfl ?_
    refine m_ptr rfl rfl ?_
    refine g_yes rfl rfl ?_
    refine m_int rfl rfl ?_
    refine g_yes rfl rfl ?_
    refine m_sl rfl rfl ?_
    refine g_yes rfl rfl ?_
    refine o_lens Tryd.underlying25 rfl ?_
    refine g_yes rfl rfl ?_
    refine o_call (vs := [.pointer (some ⟨kb, 0, none⟩), .int .u8 ((1#8).toNat : Int), .int .i64 (p : Int), .int .i64 ((22 : Nat) : Int), .int .i64 (bs.length : Int)]) rfl rfl (is_ok H w3 kb bs 1#8 p 22 bs.length (hBk2.new hK3) (by decide) (by decide) (Nat.le_refl _) (by omega)) (fun v w4 hv => ?_)
    obtain ⟨rfl, hK4⟩ := hv
    have hK24 := hK3.tr hK4
    refine pick_t rfl rfl ?_
    refine m_bool rfl rfl ?_
    refine o_split (t := 48) rfl (fun h => ?_) (fun h => ?_)
    ·
      have h48 : q4 bs p = mE := (kd_one _).1 h.2
      refine g_yes rfl rfl ?_
      refine m_ptr rfl rfl ?_
      refine g_yes rfl rfl ?_
      refine m_int rfl rfl ?_
      refine g_yes rfl rfl ?_
      refine n_add rfl rfl (by omega) ?_
      refine g_yes rfl rfl ?_
      refine o_call (vs := [.pointer (some ⟨kb, 0, none⟩), .int .i64 ((p + 20 : Nat) : Int), .int .i64 ((2 : Nat) : Int)]) rfl rfl (num_ok H w4 kb bs (p + 20) 2 (hBk2.new hK24) (by decide) (by decide)) (fun v w5 hv => ?_)
      rw [if_neg (by omega)] at hv
      obtain ⟨rfl, hw5⟩ := hv
      subst hw5
      refine g_yes rfl rfl ?_
      refine m_sl rfl rfl ?_
      refine g_yes rfl rfl ?_
      refine o_lens Tryd.underlying25 rfl ?_
      refine g_yes rfl rfl ?_
      refine m_int rfl rfl ?_
      refine g_yes rfl rfl ?_
      refine n_sub rfl rfl (by omega) ?_
      refine g_yes rfl rfl ?_
      refine n_sub rfl rfl (by omega) ?_
      refine g_yes rfl rfl ?_
      refine b_eql rfl rfl ?_
      refine pick_t rfl rfl ?_
      refine o_nil ?_
      refine k_cond rfl (fun h => ?_) (fun h => ?_)
      ·
        have hisE : isE bs p := ⟨hp22, h48, by omega⟩
        refine k_region ?_
        refine m_int rfl rfl ?_
        refine m_int rfl rfl ?_
        refine n_add rfl rfl (by omega) ?_
        refine m_int rfl rfl ?_
        refine m_int rfl rfl ?_
        refine o_nil ?_
        refine k_blk ?_
        refine k_region ?_
        refine m_int rfl rfl ?_
        refine n_add rfl rfl (by omega) ?_
        refine m_int rfl rfl ?_
        refine o_nil ?_
        have hs := endsN_succ bs p
        rw [if_pos hisE] at hs
        refine k_goal ⟨(p + 1, p), ⟨rfl, rfl, rfl, ?_, rfl, trivial⟩, ⟨by show p + 1 ≤ bs.length; omega, fun x hx => ?_, ?_, hK24⟩, by show bs.length + 1 - (p + 1) < bs.length + 1 - p; omega⟩
        · show Value.int .i64 (((endsN bs p).length : Int) + 1) = .int .i64 ((endsN bs (p + 1)).length : Int)
          rw [hs, List.length_append]; rfl
        · simp only at hx
          rw [hs] at hx
          have h1 := congrArg List.getLast? hx
          simpa using h1
        · show (endsN bs (p + 1)).length ≤ p + 1
          rw [hs, List.length_append]; simp; omega
      have hnE : ¬ isE bs p := fun hh => by have := hh.2.2; omega
      refine k_skip ?_
      refine k_blk ?_
      refine k_region ?_
      refine m_int rfl rfl ?_
      refine n_add rfl rfl (by omega) ?_
      refine m_int rfl rfl ?_
      refine o_nil ?_
      have hs := endsN_succ bs p
      rw [if_neg hnE, List.append_nil] at hs
      exact k_goal ⟨(p + 1, pl), ⟨rfl, rfl, rfl, by show Value.int .i64 ((endsN bs p).length : Int) = .int .i64 ((endsN bs (p + 1)).length : Int); rw [hs], rfl, trivial⟩, ⟨by show p + 1 ≤ bs.length; omega, fun x hx => hpl x (by rw [← hs]; exact hx), by show (endsN bs (p + 1)).length ≤ p + 1; rw [hs]; omega, hK24⟩, by show bs.length + 1 - (p + 1) < bs.length + 1 - p; omega⟩
    ·
      have h48 : ¬ q4 bs p = mE := fun hh => h ⟨hp22, (kd_one _).2 hh⟩
      refine g_no rfl rfl rfl ?_
      refine g_no rfl rfl rfl ?_
      refine g_no rfl rfl rfl ?_
      refine g_no rfl rfl rfl ?_
      refine g_no rfl rfl rfl ?_
      refine g_no rfl rfl rfl ?_
      refine g_no rfl rfl rfl ?_
      refine g_no rfl rfl rfl ?_
      refine g_no rfl rfl rfl ?_
      refine g_no rfl rfl rfl ?_
      refine pick_f rfl rfl ?_
      refine o_nil ?_
      refine k_condf rfl ?_
      refine k_skip ?_
      refine k_blk ?_
      refine k_region ?_
      refine m_int rfl rfl ?_
      refine n_add rfl rfl (by omega) ?_
      refine m_int rfl rfl ?_
      refine o_nil ?_
      have hs := endsN_succ bs p
      rw [if_neg (fun hh : isE bs p => h48 hh.2.1), List.append_nil] at hs
      exact k_goal ⟨(p + 1, pl), ⟨rfl, rfl, rfl, by show Value.int .i64 ((endsN bs p).length : Int) = .int .i64 ((endsN bs (p + 1)).length : Int); rw [hs], rfl, trivial⟩, ⟨by show p + 1 ≤ bs.length; omega, fun x hx => hpl x (by rw [← hs]; exact hx), by show (endsN bs (p + 1)).length ≤ p + 1; rw [hs]; omega, hK24⟩, by show bs.length + 1 - (p + 1) < bs.length + 1 - p; omega⟩
  ·
    have h41 := h
    refine g_no rfl rfl rfl ?_
    refine g_no rfl rfl rfl ?_
    refine g_no rfl rfl rfl ?_
    refine g_no rfl rfl rfl ?_
    refine g_no rfl rfl rfl ?_
    refine pick_f rfl rfl ?_
    refine m_bool rfl rfl ?_
    refine g_no rfl rfl rfl ?_
    refine g_no rfl rfl rfl ?_
    refine g_no rfl rfl rfl ?_
    refine g_no rfl rfl rfl ?_
    refine g_no rfl rfl rfl ?_
    refine g_no rfl rfl rfl ?_
    refine g_no rfl rfl rfl ?_
    refine g_no rfl rfl rfl ?_
    refine g_no rfl rfl rfl ?_
    refine g_no rfl rfl rfl ?_
    refine pick_f rfl rfl ?_
    refine o_nil ?_
    refine k_condf rfl ?_
    refine k_skip ?_
    refine k_blk ?_
    refine k_region ?_
    refine m_int rfl rfl ?_
    refine n_add rfl rfl (by omega) ?_
    refine m_int rfl rfl ?_
    refine o_nil ?_
    have hs := endsN_succ bs p
    rw [if_neg (fun hh : isE bs p => h41 (by have h9 := congrArg Prod.fst hh.2.1; have h10 := getD_lt bs p (by omega); simp only [q4, mE] at h9; rw [← h10, h9])), List.append_nil] at hs
    exact k_goal ⟨(p + 1, pl), ⟨rfl, rfl, rfl, by show Value.int .i64 ((endsN bs p).length : Int) = .int .i64 ((endsN bs (p + 1)).length : Int); rw [hs], rfl, trivial⟩, ⟨by show p + 1 ≤ bs.length; omega, fun x hx => hpl x (by rw [← hs]; exact hx), by show (endsN bs (p + 1)).length ≤ p + 1; rw [hs]; omega, hK3⟩, by show bs.length + 1 - (p + 1) < bs.length + 1 - p; omega⟩
end Go.Proofs.YtiapgmfooclpcaaDoor

/- squeeze: put, class, copy. No condition beyond what each contract names. -/
namespace Go.Proofs.YtiapgmfooclpcaaDoor
open Go.RowKit E
set_option linter.unusedVariables false
set_option linter.unusedSimpArgs false
set_option maxRecDepth 100000
attribute [local irreducible] ow qw kw kq cw opW Ret
/-- a word's bits, the highest first -/
def oB (p : Nat × Nat) : List Bool := (List.range p.2).flatMap fun i => vbits ((p.1 / 2 ^ (p.2 - 1 - i) : Nat) : Int) 1
theorem vb1 (v : Int) : (vbits v 1).length = 1 := vbits_len v 1
def oBk (p : Nat × Nat) (j : Nat) : List Bool := (List.range j).flatMap fun i => vbits ((p.1 / 2 ^ (p.2 - 1 - i) : Nat) : Int) 1
theorem oBk_succ (p : Nat × Nat) (j : Nat) : oBk p (j + 1) = oBk p j ++ vbits ((p.1 / 2 ^ (p.2 - 1 - j) : Nat) : Int) 1 := by
  unfold oBk
  rw [List.range_succ, List.flatMap_append, List.flatMap_cons, List.flatMap_nil, List.append_nil]
theorem oBk_len (p : Nat × Nat) : ∀ j, (oBk p j).length = j
  | 0 => rfl
  | j + 1 => by rw [oBk_succ, List.length_append, oBk_len p j, vb1]
theorem oB_len (p : Nat × Nat) : (oB p).length = p.2 := oBk_len p p.2
theorem shr_n (v k : Nat) (hk : k ≤ 63) : (v : Int).fdiv (2 ^ min k IntKind.i64.bits) = ((v / 2 ^ k : Nat) : Int) := by
  rw [Nat.min_eq_left (by simp [IntKind.bits]; omega), Int.fdiv_eq_ediv_of_nonneg _ (Int.pow_nonneg (by decide))]
  rw [show ((2 : Int) ^ k) = ((2 ^ k : Nat) : Int) by simp]
  rfl
theorem oput_ok (x2 x3 : Value) (k : Nat) (w : World) (r rc : Nat) (L : List Nat) (s : Int) (l : List Bool) (hW : Wtr x2 x3 k w r l) (hC : CodeP w rc L) (hl : l.length ≤ 100000000000) :
    Ret Tryd.prog 33 [.pointer (some ⟨r, 0, none⟩), .pointer (some ⟨rc, 0, none⟩), .int .i64 s] w (fun v w' => v = .tuple #[] ∧ Wtr x2 x3 k w' r (l ++ oB (wd L s)) ∧ KeepT [80, 5] k w w') := by
  have h15 : (wd L s).2 ≤ 15 := by obtain ⟨_, _, _, _, _, _, _, _, _, hL, _, _⟩ := hC; exact wd_le L s hL
  refine fn_enter (n := 29) Tryd.func33 rfl rfl (Nat.le_of_ble_eq_true rfl) (fun e => ?_)
  refine k_seq ?_
  refine k_region ?_
  refine m_ptr rfl rfl ?_
  refine m_int rfl rfl ?_
  refine o_call rfl rfl (word_ok w rc L s hC) (fun v w1 hv => ?_)
  obtain ⟨rfl, hK1⟩ := hv
  generalize hp : wd L s = p at *
  refine m_any rfl rfl ?_
  refine o_extr (vs := [.int .i64 (p.1 : Int), .int .i64 (p.2 : Int)]) rfl rfl ?_
  refine o_extr (vs := [.int .i64 (p.1 : Int), .int .i64 (p.2 : Int)]) rfl rfl ?_
  refine m_int rfl rfl ?_
  refine m_int rfl rfl ?_
  refine o_nil ?_
  refine k_seq ?_
  refine k_region ?_
  refine m_int rfl rfl ?_
  refine n_sub rfl rfl (by omega) ?_
  refine m_int rfl rfl ?_
  refine o_nil ?_
  refine k_block ?_
  refine k_loop (σ := Nat) (fun j => [(0, .pointer (some ⟨r, 0, none⟩)), (6, .int .i64 (p.1 : Int)), (8, .int .i64 ((p.2 : Int) - 1 - (j : Int)))]) (fun j w' => j ≤ p.2 ∧ Wtr x2 x3 k w' r (l ++ oBk p j) ∧ KeepT [80, 5] k w w') (fun j => p.2 - j) 0 ⟨rfl, rfl, congrArg (Value.int .i64) (by omega), trivial⟩ ⟨Nat.zero_le _, by rw [show oBk p 0 = [] from rfl, List.append_nil]; exact hW.new hK1, hK1.t⟩ (fun j e w2 hJ => ?_)
  obtain ⟨hj, hW2, hK2⟩ := hJ
  refine k_seq ?_
  refine k_seq ?_
  refine k_region ?_
  refine m_int rfl rfl ?_
  refine b_geq rfl rfl ?_
  refine o_nil ?_
  refine k_cond rfl (fun h => ?_) (fun h => ?_)
  rotate_left
  ·
    obtain rfl : j = p.2 := by omega
    refine k_exit rfl ?_
    refine k_end (end_tmps (ts := []) (v := .tuple #[]) rfl rfl ?_)
    exact ⟨rfl, hW2, hK2⟩
  have hjp : j < p.2 := by omega
  obtain ⟨i, hi⟩ : ∃ i, i = p.2 - 1 - j := ⟨_, rfl⟩
  have hii : (p.2 : Int) - 1 - (j : Int) = (i : Int) := by omega
  refine k_skip ?_
  refine k_seq ?_
  refine k_block ?_
  refine k_region ?_
  refine m_ptr rfl rfl ?_
  refine o_nilc rfl ?_
  refine o_fld0 rfl rfl ?_
  refine m_int rfl rfl ?_
  refine m_int rfl rfl ?_
  rw [hii]
  refine cv64 rfl Tryd.underlying100 rfl ?_
  rw [ofN i (by omega)]
  refine b_shrn rfl rfl ?_
  rw [shr_n p.1 i (by omega)]
  refine o_call (vs := [.pointer (some ⟨r, 0, none⟩), .int .i64 ((1 : Nat) : Int), .int .i64 ((p.1 / 2 ^ i : Nat) : Int)]) rfl rfl (put_ok x2 x3 k w2 r (l ++ oBk p j) ((1 : Nat) : Int) ((p.1 / 2 ^ i : Nat) : Int) (by rw [List.length_append, oBk_len]; omega) hW2) (fun v w3 hv => ?_)
  unfold PtR at hv
  rw [pt_ok (by decide)] at hv
  obtain ⟨rfl, hW3, hK3⟩ := hv
  refine o_nil ?_
  refine k_blk ?_
  refine k_region ?_
  refine m_int rfl rfl ?_
  refine n_sub rfl rfl (by omega) ?_
  refine m_int rfl rfl ?_
  refine o_nil ?_
  refine k_goal ⟨j + 1, ⟨rfl, rfl, congrArg (Value.int .i64) (by omega), trivial⟩, ⟨by omega, ?_, hK2.tr hK3⟩, by omega⟩
  rw [oBk_succ, ← List.append_assoc, ← hi]
  exact hW3
/-- how many further bits the class of a value has -/
def wR (v per : Nat) : Nat → Nat → Nat
  | 0, k => k
  | f + 1, k => if v / 2 ^ k < 2 * per then k else wR v per f (k + 1)
def wideF (v per : Nat) : Nat := wR v per 17 0
def classF (v per : Nat) : Nat × Nat × Nat := if v < 2 * per then (v, 0, 0) else (per * (wideF v per + 1) + v / 2 ^ wideF v per - per, v % 2 ^ wideF v per, wideF v per)
theorem wR_le (v per : Nat) : ∀ f k, wR v per f k ≤ k + f
  | 0, k => by simp [wR]
  | f + 1, k => by
    unfold wR
    split
    · omega
    · have := wR_le v per f (k + 1); omega
theorem mask_n (v k : Nat) (hv : v < 18446744073709551616) (hk : k ≤ 20) : IntKind.i64.wrap ((BitVec.ofInt IntKind.i64.bits (v : Int) &&& BitVec.ofInt IntKind.i64.bits (IntKind.i64.wrap (1 * 2 ^ min k IntKind.i64.bits) - 1)).toNat : Int) = ((v % 2 ^ k : Nat) : Int) := by
  have h2 : 2 ^ k ≤ 2 ^ 20 := Nat.pow_le_pow_right (by decide) hk
  have h1 : 1 ≤ 2 ^ k := Nat.one_le_two_pow
  have e1 : IntKind.i64.wrap (1 * 2 ^ min k IntKind.i64.bits) = ((2 ^ k : Nat) : Int) := by
    rw [Nat.min_eq_left (by simp [IntKind.bits]; omega), Int.one_mul, show ((2 : Int) ^ k) = ((2 ^ k : Nat) : Int) by simp]
    exact IntWalk.i64_in _ (by omega)
  rw [e1, show ((2 ^ k : Nat) : Int) - 1 = ((2 ^ k - 1 : Nat) : Int) by omega]
  show IntKind.i64.wrap ((BitVec.ofInt 64 (v : Int) &&& BitVec.ofInt 64 ((2 ^ k - 1 : Nat) : Int)).toNat : Int) = _
  rw [BitVec.toNat_and, ofN v hv, ofN (2 ^ k - 1) (by omega), Nat.and_two_pow_sub_one_eq_mod]
  have h3 : v % 2 ^ k < 2 ^ k := Nat.mod_lt _ (by omega)
  exact IntWalk.i64_in _ (by omega)
theorem class_ok (w : World) (v per : Nat) (hv : v ≤ 65535) (h2 : 2 ≤ per) (h4 : per ≤ 4) :
    Ret Tryd.prog 52 [.int .i64 (v : Int), .int .i64 (per : Int)] w (fun u w' => u = .tuple #[.int .i64 ((classF v per).1 : Int), .int .i64 ((classF v per).2.1 : Int), .int .i64 ((classF v per).2.2 : Int)] ∧ w' = w) := by
  refine fn_enter (n := 39) Tryd.func52 rfl rfl (Nat.le_of_ble_eq_true rfl) (fun e => ?_)
  refine k_seq ?_
  refine k_region ?_
  refine m_int rfl rfl ?_
  refine m_int rfl rfl ?_
  refine m_int rfl rfl ?_
  refine o_nil ?_
  refine k_seq ?_
  refine k_seq ?_
  refine k_region ?_
  refine m_int rfl rfl ?_
  refine m_int rfl rfl ?_
  refine n_mul rfl rfl (by omega) ?_
  refine b_lss rfl rfl ?_
  refine o_nil ?_
  refine k_cond rfl (fun h => ?_) (fun h => ?_)
  ·
    refine k_seq ?_
    refine k_region ?_
    refine m_int rfl rfl ?_
    refine m_int rfl rfl ?_
    refine m_int rfl rfl ?_
    refine m_int rfl rfl ?_
    refine o_nil ?_
    refine k_ret (ret_tmps (ts := [4, 5, 6]) (v := .tuple #[.int _ _, .int _ _, .int _ _]) rfl rfl ?_)
    have hc : classF v per = (v, 0, 0) := by unfold classF; rw [if_pos (by omega)]
    rw [hc]
    exact ⟨rfl, rfl⟩
  have hc : classF v per = (per * (wideF v per + 1) + v / 2 ^ wideF v per - per, v % 2 ^ wideF v per, wideF v per) := by unfold classF; rw [if_neg (by omega)]
  refine k_skip ?_
  refine k_seq ?_
  refine k_block ?_
  refine k_loop (σ := Nat) (fun k => [(0, .int .i64 (v : Int)), (1, .int .i64 (per : Int)), (6, .int .i64 (k : Int))]) (fun k w' => k ≤ 16 ∧ wideF v per = wR v per (17 - k) k ∧ w' = w) (fun k => 17 - k) 0 ⟨rfl, rfl, rfl, trivial⟩ ⟨by omega, rfl, rfl⟩ (fun k e w2 hJ => ?_)
  obtain ⟨hk, hwd, rfl⟩ := hJ
  have hvk : v / 2 ^ k ≤ v := Nat.div_le_self _ _
  refine k_seq ?_
  refine k_seq ?_
  refine k_region ?_
  refine m_int rfl rfl ?_
  refine m_int rfl rfl ?_
  refine cv64 rfl Tryd.underlying100 rfl ?_
  rw [ofN k (by omega)]
  refine b_shrn rfl rfl ?_
  rw [shr_n v k (by omega)]
  generalize hq : v / 2 ^ k = q at *
  refine m_int rfl rfl ?_
  refine n_mul rfl rfl (by omega) ?_
  refine b_geq rfl rfl ?_
  refine o_nil ?_
  refine k_cond rfl (fun h => ?_) (fun h => ?_)
  rotate_left
  ·
    have hwk : wideF v per = k := by
     rw [hwd, show 17 - k = (16 - k) + 1 by omega]
     show (if v / 2 ^ k < 2 * per then k else _) = k
     rw [if_pos (by rw [hq]; omega)]
    rw [hwk, hq] at hc
    have hpk : per * (k + 1) ≤ 4 * 17 := Nat.mul_le_mul h4 (by omega)
    have hpk2 : per ≤ per * (k + 1) := Nat.le_mul_of_pos_right _ (by omega)
    have hmul : (per : Int) * ((k : Int) + 1) = ((per * (k + 1) : Nat) : Int) := by simp
    refine k_exit rfl ?_
    refine k_seq ?_
    refine k_region ?_
    refine m_int rfl rfl ?_
    refine m_int rfl rfl ?_
    refine n_add rfl rfl (by omega) ?_
    refine n_mul rfl rfl (by rw [hmul]; omega) ?_
    rw [hmul]
    refine m_int rfl rfl ?_
    refine m_int rfl rfl ?_
    refine cv64 rfl Tryd.underlying100 rfl ?_
    rw [ofN k (by omega)]
    refine b_shrn rfl rfl ?_
    rw [shr_n v k (by omega), hq]
    refine n_add rfl rfl (by omega) ?_
    refine m_int rfl rfl ?_
    refine n_sub rfl rfl (by omega) ?_
    refine m_int rfl rfl ?_
    refine m_int rfl rfl ?_
    refine cv64 rfl Tryd.underlying100 rfl ?_
    rw [ofN k (by omega)]
    refine b_shln rfl rfl ?_
    have hm := mask_n v k (by omega) (by omega)
    have hpk3 : IntKind.i64.wrap (1 * 2 ^ min k IntKind.i64.bits) = ((2 ^ k : Nat) : Int) := by
     rw [Nat.min_eq_left (by simp [IntKind.bits]; omega), Int.one_mul, show ((2 : Int) ^ k) = ((2 ^ k : Nat) : Int) by simp]
     have h2k : 2 ^ k ≤ 2 ^ 16 := Nat.pow_le_pow_right (by decide) hk
     exact IntWalk.i64_in _ (by omega)
    have h2k : 2 ^ k ≤ 2 ^ 16 := Nat.pow_le_pow_right (by decide) hk
    refine n_sub rfl rfl (by rw [hpk3]; omega) ?_
    refine b_and rfl rfl ?_
    refine m_int rfl rfl ?_
    refine m_int rfl rfl ?_
    refine m_int rfl rfl ?_
    refine m_int rfl rfl ?_
    refine o_nil ?_
    refine k_ret (ret_tmps (ts := [4, 5, 6]) (v := .tuple #[.int _ _, .int _ _, .int _ _]) rfl rfl ?_)
    rw [hm, hc]
    exact ⟨congrArg (fun x => Value.tuple #[.int .i64 x, _, _]) (by show _ = ((per * (k + 1) + q - per : Nat) : Int); omega), rfl⟩
  refine k_skip ?_
  refine k_block ?_
  refine k_region ?_
  refine m_int rfl rfl ?_
  refine n_add rfl rfl (by omega) ?_
  refine m_int rfl rfl ?_
  refine o_nil ?_
  refine k_blk ?_
  refine k_goal ⟨k + 1, ⟨rfl, rfl, rfl, trivial⟩, ⟨?_, ?_, rfl⟩, by omega⟩
  · have hk16 : k ≠ 16 := fun e => by
     subst e
     have : v / 2 ^ 16 = 0 := Nat.div_eq_of_lt (by omega)
     omega
    omega
  · rw [hwd, show 17 - k = (17 - (k + 1)) + 1 by omega]
    show (if v / 2 ^ k < 2 * per then k else wR v per (17 - (k + 1)) (k + 1)) = _
    rw [if_neg (by rw [hq]; omega)]
end Go.Proofs.YtiapgmfooclpcaaDoor

/- squeeze: copy. No condition beyond what its contract names. -/
namespace Go.Proofs.YtiapgmfooclpcaaDoor
open Go.RowKit E
set_option linter.unusedVariables false
set_option linter.unusedSimpArgs false
set_option maxRecDepth 100000
attribute [local irreducible] ow qw kw kq cw opW Ret
theorem wR_16 (v per : Nat) (hv : v ≤ 65535) (hp : 1 ≤ per) : ∀ f k, k + f = 17 → k ≤ 16 → wR v per f k ≤ 16
  | 0, k, h, hk => by omega
  | f + 1, k, h, hk => by
    show (if v / 2 ^ k < 2 * per then k else wR v per f (k + 1)) ≤ 16
    by_cases hc : v / 2 ^ k < 2 * per
    · rw [if_pos hc]; exact hk
    · rw [if_neg hc]
      have hk16 : k ≠ 16 := fun e => by
        subst e
        have : v / 2 ^ 16 = 0 := Nat.div_eq_of_lt (by omega)
        omega
      exact wR_16 v per hv hp f (k + 1) (by omega) (by omega)
theorem wide_16 (v per : Nat) (hv : v ≤ 65535) (hp : 1 ≤ per) : (classF v per).2.2 ≤ 16 := by
  unfold classF
  split
  · exact Nat.zero_le _
  · exact wR_16 v per hv hp 17 0 rfl (Nat.zero_le _)
def lenB (Lc : List Nat) (n : Nat) : List Bool := if n = 258 then oB (wd Lc 285) else oB (wd Lc (257 + ((classF (n - 3) 4).1 : Int))) ++ vbits ((classF (n - 3) 4).2.1 : Int) (classF (n - 3) 4).2.2
def farB (Ld : List Nat) (far : Nat) : List Bool := oB (wd Ld ((classF (far - 1) 2).1 : Int)) ++ vbits ((classF (far - 1) 2).2.1 : Int) (classF (far - 1) 2).2.2
def copyB (Lc Ld : List Nat) (n far : Nat) : List Bool := lenB Lc n ++ farB Ld far
theorem lenB_len (Lc : List Nat) (n : Nat) (hL : ∀ x ∈ Lc, x ≤ 15) (hn : n ≤ 258) : (lenB Lc n).length ≤ 31 := by
  unfold lenB
  split
  · rw [oB_len]; have := wd_le Lc 285 hL; omega
  · rw [List.length_append, oB_len, vbits_len]
    have h1 := wd_le Lc (257 + ((classF (n - 3) 4).1 : Int)) hL
    have h2 := wide_16 (n - 3) 4 (by omega) (by decide)
    omega
theorem farB_len (Ld : List Nat) (far : Nat) (hL : ∀ x ∈ Ld, x ≤ 15) (hn : far ≤ 65535) : (farB Ld far).length ≤ 31 := by
  unfold farB
  rw [List.length_append, oB_len, vbits_len]
  have h1 := wd_le Ld ((classF (far - 1) 2).1 : Int) hL
  have h2 := wide_16 (far - 1) 2 (by omega) (by decide)
  omega
theorem copy_ok (k : Nat) (w : World) (r rc rd : Nat) (Lc Ld : List Nat) (n far : Nat) (l : List Bool) (hW : Wtr (.pointer (some ⟨rc, 0, none⟩)) (.pointer (some ⟨rd, 0, none⟩)) k w r l) (hC : CodeP w rc Lc) (hD : CodeP w rd Ld) (hl : l.length ≤ 10000000000) (hn : 3 ≤ n) (hn2 : n ≤ 258) (hf : 1 ≤ far) (hf2 : far ≤ 32768) :
    Ret Tryd.prog 34 [.pointer (some ⟨r, 0, none⟩), .int .i64 (n : Int), .int .i64 (far : Int)] w (fun v w' => v = .tuple #[] ∧ Wtr (.pointer (some ⟨rc, 0, none⟩)) (.pointer (some ⟨rd, 0, none⟩)) k w' r (l ++ copyB Lc Ld n far) ∧ KeepT [80, 5] k w w') := by
  have hLc : ∀ x ∈ Lc, x ≤ 15 := by obtain ⟨_, _, _, _, _, _, _, _, _, hL, _, _⟩ := hC; exact hL
  have hLd : ∀ x ∈ Ld, x ≤ 15 := by obtain ⟨_, _, _, _, _, _, _, _, _, hL, _, _⟩ := hD; exact hL
  have hbl := lenB_len Lc n hLc hn2
  have hw1 := wide_16 (n - 3) 4 (by omega) (by decide)
  have hw2 := wide_16 (far - 1) 2 (by omega) (by decide)
  refine fn_enter (n := 61) Tryd.func34 rfl rfl (Nat.le_of_ble_eq_true rfl) (fun e => ?_)
  refine k_seq ?_
  refine k_seq ?_
  refine k_region ?_
  refine m_int rfl rfl ?_
  refine b_eql rfl rfl ?_
  refine o_nil ?_
  refine k_cut (σ := Unit) (fun _ => [(0, .pointer (some ⟨r, 0, none⟩)), (2, .int .i64 (far : Int))]) (fun _ w' => Wtr (.pointer (some ⟨rc, 0, none⟩)) (.pointer (some ⟨rd, 0, none⟩)) k w' r (l ++ lenB Lc n) ∧ KeepT [80, 5] k w w') ?_ (fun _ e w1 hJ => ?_)
  ·
    refine k_cond rfl (fun h => ?_) (fun h => ?_)
    ·
      have hn8 : n = 258 := by omega
      obtain ⟨a, c, hB, _⟩ := id hW
      refine k_region ?_
      refine m_ptr rfl rfl ?_
      refine m_ptr rfl rfl ?_
      refine o_nilc rfl ?_
      refine o_fld (off := 2) rfl rfl ?_
      refine o_ld rfl rfl (hB.at rfl) ?_
      refine o_call rfl rfl (oput_ok _ _ k w r rc Lc 285 l hW hC (by omega)) (fun v w1 hv => ?_)
      obtain ⟨rfl, hW1, hK1⟩ := hv
      refine o_nil ?_
      refine k_goal ⟨(), ⟨rfl, rfl, trivial⟩, by unfold lenB; rw [if_pos hn8]; exact hW1, hK1⟩
    have hn8 : n ≠ 258 := by omega
    refine k_seq ?_
    refine k_region ?_
    refine m_int rfl rfl ?_
    refine n_sub rfl rfl (by omega) ?_
    rw [show (n : Int) - 3 = ((n - 3 : Nat) : Int) by omega]
    refine o_call (vs := [.int .i64 ((n - 3 : Nat) : Int), .int .i64 ((4 : Nat) : Int)]) rfl rfl (class_ok w (n - 3) 4 (by omega) (by decide) (by decide)) (fun v w1 hv => ?_)
    obtain ⟨rfl, hw1'⟩ := hv
    subst hw1'
    have hlb : lenB Lc n = oB (wd Lc (257 + ((classF (n - 3) 4).1 : Int))) ++ vbits ((classF (n - 3) 4).2.1 : Int) (classF (n - 3) 4).2.2 := by unfold lenB; rw [if_neg hn8]
    have hcb : (classF (n - 3) 4).1 ≤ 65535 * 2 := by
     unfold classF
     split
     · omega
     · have h1 := wR_16 (n - 3) 4 (by omega) (by decide) 17 0 rfl (Nat.zero_le _)
       have h2 : wideF (n - 3) 4 ≤ 16 := h1
       have h3 : (n - 3) / 2 ^ wideF (n - 3) 4 ≤ n - 3 := Nat.div_le_self _ _
       show 4 * (wideF (n - 3) 4 + 1) + (n - 3) / 2 ^ wideF (n - 3) 4 - 4 ≤ _
       omega
    generalize hq : classF (n - 3) 4 = q at *
    refine m_any rfl rfl ?_
    refine o_extr (vs := [.int .i64 (q.1 : Int), .int .i64 (q.2.1 : Int), .int .i64 (q.2.2 : Int)]) rfl rfl ?_
    refine o_extr (vs := [.int .i64 (q.1 : Int), .int .i64 (q.2.1 : Int), .int .i64 (q.2.2 : Int)]) rfl rfl ?_
    refine o_extr (vs := [.int .i64 (q.1 : Int), .int .i64 (q.2.1 : Int), .int .i64 (q.2.2 : Int)]) rfl rfl ?_
    obtain ⟨a, c, hB, _⟩ := id hW
    refine m_int rfl rfl ?_
    refine m_int rfl rfl ?_
    refine m_int rfl rfl ?_
    refine o_nil ?_
    refine k_seq ?_
    refine k_region ?_
    refine m_ptr rfl rfl ?_
    refine m_ptr rfl rfl ?_
    refine o_nilc rfl ?_
    refine o_fld (off := 2) rfl rfl ?_
    refine o_ld rfl rfl (hB.at rfl) ?_
    refine m_int rfl rfl ?_
    refine n_add rfl rfl (by omega) ?_
    refine o_call rfl rfl (oput_ok _ _ k w1 r rc Lc (257 + (q.1 : Int)) l hW hC (by omega)) (fun v w2 hv => ?_)
    obtain ⟨rfl, hW2, hK2⟩ := hv
    refine o_nil ?_
    refine k_region ?_
    refine m_ptr rfl rfl ?_
    refine o_nilc rfl ?_
    refine o_fld0 rfl rfl ?_
    refine m_int rfl rfl ?_
    refine m_int rfl rfl ?_
    refine o_call rfl rfl (put_ok _ _ k w2 r _ (q.2.2 : Int) (q.2.1 : Int) (by rw [List.length_append, oB_len]; have := wd_le Lc (257 + (q.1 : Int)) hLc; omega) hW2) (fun v w3 hv => ?_)
    unfold PtR at hv
    rw [pt_ok hw1] at hv
    obtain ⟨rfl, hW3, hK3⟩ := hv
    refine o_nil ?_
    refine k_goal ⟨(), ⟨rfl, rfl, trivial⟩, by rw [hlb, ← List.append_assoc]; exact hW3, hK2.tr hK3⟩
  obtain ⟨hW1, hK1⟩ := hJ
  have hC1 := hC.kt hK1 (by decide)
  have hD1 := hD.kt hK1 (by decide)
  have hl1 : (l ++ lenB Lc n).length ≤ 10000000100 := by rw [List.length_append]; omega
  refine k_seq ?_
  refine k_region ?_
  refine m_int rfl rfl ?_
  refine n_sub rfl rfl (by omega) ?_
  rw [show (far : Int) - 1 = ((far - 1 : Nat) : Int) by omega]
  refine o_call (vs := [.int .i64 ((far - 1 : Nat) : Int), .int .i64 ((2 : Nat) : Int)]) rfl rfl (class_ok w1 (far - 1) 2 (by omega) (by decide) (by decide)) (fun v w2 hv => ?_)
  obtain ⟨rfl, hw2'⟩ := hv
  subst hw2'
  have hfb : farB Ld far = oB (wd Ld ((classF (far - 1) 2).1 : Int)) ++ vbits ((classF (far - 1) 2).2.1 : Int) (classF (far - 1) 2).2.2 := rfl
  generalize hq2 : classF (far - 1) 2 = q2 at *
  refine m_any rfl rfl ?_
  refine o_extr (vs := [.int .i64 (q2.1 : Int), .int .i64 (q2.2.1 : Int), .int .i64 (q2.2.2 : Int)]) rfl rfl ?_
  refine o_extr (vs := [.int .i64 (q2.1 : Int), .int .i64 (q2.2.1 : Int), .int .i64 (q2.2.2 : Int)]) rfl rfl ?_
  refine o_extr (vs := [.int .i64 (q2.1 : Int), .int .i64 (q2.2.1 : Int), .int .i64 (q2.2.2 : Int)]) rfl rfl ?_
  obtain ⟨a1, c1, hB1, _⟩ := id hW1
  refine m_int rfl rfl ?_
  refine m_int rfl rfl ?_
  refine m_int rfl rfl ?_
  refine o_nil ?_
  refine k_seq ?_
  refine k_region ?_
  refine m_ptr rfl rfl ?_
  refine m_ptr rfl rfl ?_
  refine o_nilc rfl ?_
  refine o_fld (off := 3) rfl rfl ?_
  refine o_ld rfl rfl (hB1.at rfl) ?_
  refine m_int rfl rfl ?_
  refine o_call rfl rfl (oput_ok _ _ k w2 r rd Ld (q2.1 : Int) _ hW1 hD1 (by omega)) (fun v w3 hv => ?_)
  obtain ⟨rfl, hW3, hK3⟩ := hv
  refine o_nil ?_
  refine k_region ?_
  refine m_ptr rfl rfl ?_
  refine o_nilc rfl ?_
  refine o_fld0 rfl rfl ?_
  refine m_int rfl rfl ?_
  refine m_int rfl rfl ?_
  refine o_call rfl rfl (put_ok _ _ k w3 r _ (q2.2.2 : Int) (q2.2.1 : Int) (by rw [List.length_append, oB_len]; have := wd_le Ld (q2.1 : Int) hLd; omega) hW3) (fun v w4 hv => ?_)
  unfold PtR at hv
  rw [pt_ok hw2] at hv
  obtain ⟨rfl, hW4, hK4⟩ := hv
  refine o_nil ?_
  refine k_end (end_tmps (ts := []) (v := .tuple #[]) rfl rfl ?_)
  refine ⟨rfl, ?_, (hK1.tr hK3).tr hK4⟩
  unfold copyB
  rw [hfb, ← List.append_assoc, ← List.append_assoc]
  exact hW4
end Go.Proofs.YtiapgmfooclpcaaDoor

/- squeeze: what All answers; blocks that stay. No condition beyond what each contract names. -/
namespace Go.Proofs.YtiapgmfooclpcaaDoor
open Go.RowKit E
set_option linter.unusedVariables false
set_option linter.unusedSimpArgs false
set_option maxRecDepth 100000
attribute [local irreducible] ow qw kw kq cw opW Ret
/-! ### a code below a bound -/
def CodeH (H : Nat) (w : World) (r : Nat) (L : List Nat) : Prop :=
  r < H ∧ ∃ rs rw sm wm, rs < H ∧ rw < H ∧ Blk w r #[.map (some rs), .map (some rw), .int .u8 ((BitVec.ofNat 8 (mostL L)).toNat : Int)] 112 ∧ Mp w rs kvw sm ∧ Mp w rw (Value.int .i64) wm ∧ SM L L.length sm ∧ WM L L.length wm ∧ (∀ x ∈ L, x ≤ 15) ∧ kr L 15 ≤ 32768 ∧ L.length ≤ 288
theorem CodeH.code {H : Nat} {w : World} {r : Nat} {L : List Nat} (h : CodeH H w r L) : CodeP w r L := by
  obtain ⟨_, rs, rw, sm, wm, _, _, h⟩ := h
  exact ⟨rs, rw, sm, wm, h⟩
theorem CodeP.high {w : World} {r : Nat} {L : List Nat} (h : CodeP w r L) : CodeH w.heap.size w r L := by
  obtain ⟨rs, rw, sm, wm, hB, h1, h2, h3⟩ := h
  exact ⟨hB.lt, rs, rw, sm, wm, h1.lt, h2.lt, hB, h1, h2, h3⟩
theorem CodeH.kt {H : Nat} {Ts : List TypeId} {k : Nat} {w w' : World} {r : Nat} {L : List Nat} (h : CodeH H w r L) (hk : KeepT Ts k w w') (hT : 112 ∉ Ts) : CodeH H w' r L := by
  obtain ⟨h0, rs, rw, sm, wm, g1, g2, hB, h1, h2, h3⟩ := h
  exact ⟨h0, rs, rw, sm, wm, g1, g2, hB.kt hk hT, h1.kt hk, h2.kt hk, h3⟩
theorem CodeH.new {H : Nat} {w w' : World} {r : Nat} {L : List Nat} (h : CodeH H w r L) (hk : Keep [] w w') : CodeH H w' r L := h.kt (Ts := []) (k := 0) hk.t (by simp)
theorem CodeH.one {H : Nat} {w w' : World} {r lm : Nat} {L : List Nat} (h : CodeH H w r L) (hk : Keep [lm] w w') (hl : H ≤ lm) : CodeH H w' r L := by
  obtain ⟨h0, rs, rw, sm, wm, g1, g2, hB, h1, h2, h3⟩ := h
  exact ⟨h0, rs, rw, sm, wm, g1, g2, hB.keep hk (by simp; omega), h1.keep hk (by simp; omega), h2.keep hk (by simp; omega), h3⟩
theorem CodeH.mono {H H' : Nat} {w : World} {r : Nat} {L : List Nat} (h : CodeH H w r L) (hh : H ≤ H') : CodeH H' w r L := by
  obtain ⟨h0, rs, rw, sm, wm, g1, g2, h3⟩ := h
  exact ⟨by omega, rs, rw, sm, wm, by omega, by omega, h3⟩
/-- a writer stays where a map is written -/
theorem Wtr.mp {κ : Type} {kv : κ → Value} {m : List (κ × Value)} {x2 x3 : Value} {k lm : Nat} {w w' : World} {r : Nat} {l : List Bool} (h : Wtr x2 x3 k w r l) (hM : Mp w lm kv m) (hk : Keep [lm] w w') : Wtr x2 x3 k w' r l := by
  obtain ⟨a, c, hB, hS, h1, h2⟩ := h
  refine ⟨a, c, hB.keep hk (by simp; exact hM.blk hB), ⟨hS.1, ?_⟩, h1, h2⟩
  rcases hS.2 with h3 | ⟨g, cur, rfl, hb, h3⟩
  · exact .inl h3
  · exact .inr ⟨g, cur, rfl, hb.keep hk (by simp; exact hM.blk hb), h3⟩
/-! ### rows that are filled from the left -/
def tab (f : Nat → Int) (m i : Nat) : List Int := (List.range m).map fun j => if j < i then f j else 0
theorem tab_len (f : Nat → Int) (m i : Nat) : (tab f m i).length = m := by simp [tab]
theorem tab_set (f : Nat → Int) (m i : Nat) : (tab f m i).set i (f i) = tab f m (i + 1) := by
  apply List.ext_getElem?
  intro j
  unfold tab
  rw [List.getElem?_set]
  by_cases hj : i = j
  · subst hj
    rw [if_pos rfl]
    by_cases hm : i < m
    · rw [if_pos (by simpa using hm), List.getElem?_map, List.getElem?_range hm]
      simp
    · rw [if_neg (by simpa using hm), List.getElem?_eq_none (by simp; omega)]
  · rw [if_neg hj, List.getElem?_map, List.getElem?_map]
    by_cases hm : j < m
    · rw [List.getElem?_range hm]
      simp only [Option.map_some]
      by_cases h1 : j < i
      · rw [if_pos h1, if_pos (by omega)]
      · rw [if_neg h1, if_neg (by omega)]
    · rw [List.getElem?_eq_none (by simp; omega)]; rfl
theorem tab_nil (f : Nat → Int) (m : Nat) : tab f m 0 = List.replicate m 0 := by
  apply List.ext_getElem <;> simp [tab]
theorem make3 (m : Nat) : (madeCells (Value.cells (.int .i64 0)) (m * 1)).toList = (List.replicate m (0 : Int)).map iv := by
  show (madeCells #[Value.int .i64 0] (m * 1)).toList = _
  rw [Nat.mul_one, toList_madeCells_one, List.map_replicate]; rfl
/-! ### the fixed codes -/
def fixV (i : Nat) : Int := if 256 ≤ i ∧ i < 280 then 7 else if 144 ≤ i ∧ i < 256 then 9 else 8
def fixI : List Int := tab fixV 288 288
def fivI : List Int := tab (fun _ => 5) 32 32
def fixL : List Nat := nats fixI
def fivL : List Nat := nats fivI
theorem fix_ok : okL fixI ∧ Fit (nats fixI) false := by unfold okL; decide +kernel
theorem five_ok : okL fivI ∧ Fit (nats fivI) false := by unfold okL; decide +kernel
/-! ### what is squeezed -/
abbrev Lst := K3 → Option Nat
def k3at (bs : Bs) (i : Nat) : K3 := (bs.getD i 0#8, bs.getD (i + 1) 0#8, bs.getD (i + 2) 0#8)
def mRun (bs : Bs) (i a : Nat) : Nat → Nat → Nat
  | 0, n => n
  | f + 1, n => if n < 258 ∧ i + n < bs.length ∧ bs.getD (i + n) 0#8 = bs.getD (a + n) 0#8 then mRun bs i a f (n + 1) else n
def hitS (bs : Bs) (ls : Lst) (i : Nat) : Nat × Nat :=
  if i + 3 ≤ bs.length then
    match ls (k3at bs i) with
    | some a => if i - a ≤ 32768 then (mRun bs i a 259 0, i - a) else (0, 0)
    | none => (0, 0)
  else (0, 0)
def isLit (h : Nat × Nat) : Prop := h.1 < 3 ∨ (h.1 = 3 ∧ 4096 < h.2)
instance (h : Nat × Nat) : Decidable (isLit h) := by unfold isLit; infer_instance
def stepN (bs : Bs) (ls : Lst) (i : Nat) : Nat := if isLit (hitS bs ls i) then 1 else (hitS bs ls i).1
def stepB (bs : Bs) (ls : Lst) (i : Nat) : List Bool := if isLit (hitS bs ls i) then oB (wd fixL ((bs.getD i 0#8).toNat : Int)) else copyB fixL fivL (hitS bs ls i).1 (hitS bs ls i).2
def putL (bs : Bs) (ls : Lst) (i : Nat) : Lst := if i + 3 ≤ bs.length then fun q => if q = k3at bs i then some i else ls q else ls
def putsF (bs : Bs) : Nat → Lst → Nat → Lst
  | 0, ls, _ => ls
  | n + 1, ls, i => putsF bs n (putL bs ls i) (i + 1)
def sqF (bs : Bs) : Nat → Lst → Nat → List Bool
  | 0, _, _ => []
  | f + 1, ls, i => if i < bs.length then stepB bs ls i ++ sqF bs f (putsF bs (stepN bs ls i) ls i) (i + stepN bs ls i) else []
def sqBits (bs : Bs) : List Bool := vbits 3 3 ++ sqF bs bs.length (fun _ => none) 0 ++ oB (wd fixL 256)
theorem mRun_rng (bs : Bs) (i a : Nat) : ∀ f n, n ≤ 258 → i + n ≤ bs.length → mRun bs i a f n ≤ 258 ∧ i + mRun bs i a f n ≤ bs.length ∧ n ≤ mRun bs i a f n
  | 0, n, h1, h2 => ⟨h1, h2, Nat.le_refl _⟩
  | f + 1, n, h1, h2 => by
    unfold mRun
    by_cases hc : n < 258 ∧ i + n < bs.length ∧ bs.getD (i + n) 0#8 = bs.getD (a + n) 0#8
    · rw [if_pos hc]
      have := mRun_rng bs i a f (n + 1) (by omega) (by omega)
      omega
    · rw [if_neg hc]; omega
theorem stepB_len (bs : Bs) (ls : Lst) (i : Nat) (hi : i < bs.length) : (stepB bs ls i).length ≤ 62 := by
  unfold stepB
  have hL : ∀ x ∈ fixL, x ≤ 15 := by decide +kernel
  have hL2 : ∀ x ∈ fivL, x ≤ 15 := by decide +kernel
  split
  · rw [oB_len]
    have := wd_le fixL ((bs.getD i 0#8).toNat : Int) hL
    omega
  · unfold copyB
    rw [List.length_append]
    have h1 : (hitS bs ls i).1 ≤ 258 ∧ (hitS bs ls i).2 ≤ 65535 := by
      unfold hitS
      split
      · split
        · split
          · exact ⟨(mRun_rng bs i _ 259 0 (by omega) (by omega)).1, by simp only; omega⟩
          · exact ⟨by simp, by simp⟩
        · exact ⟨by simp, by simp⟩
      · exact ⟨by simp, by simp⟩
    have h2 := lenB_len fixL (hitS bs ls i).1 hL h1.1
    have h3 := farB_len fivL (hitS bs ls i).2 hL2 h1.2
    omega
theorem stepN_rng (bs : Bs) (ls : Lst) (i : Nat) (hi : i < bs.length) : 1 ≤ stepN bs ls i ∧ i + stepN bs ls i ≤ bs.length := by
  unfold stepN
  split
  · omega
  · rename_i hn
    unfold isLit at hn
    refine ⟨by omega, ?_⟩
    unfold hitS
    split
    · split
      · split
        · exact (mRun_rng bs i _ 259 0 (by omega) (by omega)).2.1
        · simp; omega
      · simp; omega
    · simp; omega
def LsB (ls : Lst) (i : Nat) : Prop := ∀ q a, ls q = some a → a < i
theorem LsB.put {bs : Bs} {ls : Lst} {i : Nat} (h : LsB ls i) : LsB (putL bs ls i) (i + 1) := by
  intro q a hq
  unfold putL at hq
  split at hq
  · simp only at hq
    split at hq
    · cases hq; omega
    · have := h q a hq; omega
  · have := h q a hq; omega
def LsM (m : List (K3 × Value)) (ls : Lst) : Prop := ∀ q, getM m q = (ls q).map fun a => nv a
end Go.Proofs.YtiapgmfooclpcaaDoor

/- The walk of squeeze.All. No condition beyond what its contract names. -/
namespace Go.Proofs.YtiapgmfooclpcaaDoor
open Go.RowKit E
set_option linter.unusedVariables false
set_option linter.unusedSimpArgs false
set_option maxRecDepth 100000
attribute [local irreducible] ow qw kw kq cw opW Ret
theorem inf85 : infB Tryd.prog 85 3 3 (.agg #[.int .u8 0, .int .u8 0, .int .u8 0]) := ⟨_, rfl, rfl, rfl, rfl⟩
/-- what stands at the head of a round of the squeezer -/
def SqW (H : Nat) (w w' : World) (r lm rc rd : Nat) (l : List Bool) (ls : Lst) : Prop :=
  Wtr (.pointer (some ⟨rc, 0, none⟩)) (.pointer (some ⟨rd, 0, none⟩)) w.heap.size w' r l ∧ (∃ m, Mp w' lm kv3 m ∧ LsM m ls) ∧ CodeH H w' rc fixL ∧ CodeH H w' rd fivL ∧ Keep [] w w'
theorem SqW.kt {H : Nat} {w w1 w2 : World} {r lm rc rd : Nat} {l l2 : List Bool} {ls : Lst} (h : SqW H w w1 r lm rc rd l ls) (hk : KeepT [80, 5] w.heap.size w1 w2) (hW : Wtr (.pointer (some ⟨rc, 0, none⟩)) (.pointer (some ⟨rd, 0, none⟩)) w.heap.size w2 r l2) : SqW H w w2 r lm rc rd l2 ls := by
  obtain ⟨_, ⟨m, hM, hm⟩, h1, h2, h3⟩ := h
  exact ⟨hW, ⟨m, hM.kt hk, hm⟩, h1.kt hk (by decide), h2.kt hk (by decide), hk.below h3 (Nat.le_refl _)⟩
theorem SqW.new {H : Nat} {w w1 w2 : World} {r lm rc rd : Nat} {l : List Bool} {ls : Lst} (h : SqW H w w1 r lm rc rd l ls) (hk : Keep [] w1 w2) : SqW H w w2 r lm rc rd l ls := h.kt hk.t (h.1.new hk)
theorem SqW.put {H : Nat} {w w1 w2 : World} {r lm rc rd : Nat} {l : List Bool} {ls ls' : Lst} {m m' : List (K3 × Value)} (h : SqW H w w1 r lm rc rd l ls) (hM : Mp w1 lm kv3 m) (hk : Keep [lm] w1 w2) (hM' : Mp w2 lm kv3 m') (hl : LsM m' ls') (hH : H ≤ lm) (hw : w.heap.size ≤ lm) : SqW H w w2 r lm rc rd l ls' := by
  obtain ⟨hW, _, h1, h2, h3⟩ := h
  exact ⟨hW.mp hM hk, ⟨m', hM', hl⟩, h1.one hk hH, h2.one hk hH, h3.tr1 hk hw⟩
theorem LsM.put {m : List (K3 × Value)} {ls : Lst} (h : LsM m ls) (bs : Bs) (i : Nat) (h3 : i + 3 ≤ bs.length) : LsM (putM m (k3at bs i) (nv i)) (putL bs ls i) := by
  intro q
  unfold putL
  rw [if_pos h3, getM_put, h q]
  split <;> rfl
/-- three bytes are read as a key -/
theorem key_cells {w w1 : World} {b0 o0 : Nat} {bs : Bs} (hR : Rd w (some ⟨b0, o0, none⟩) (bs.map u8v)) (hC : Keep [] w w1) (p : Nat) (hp : p + 3 ≤ bs.length) : ∀ j v, [Value.int .u8 ((bs.getD p 0#8).toNat : Int), .int .u8 ((bs.getD (p + 1) 0#8).toNat : Int), .int .u8 ((bs.getD (p + 2) 0#8).toNat : Int)][j]? = some v → w1.cell? ⟨b0, o0 + p + j, none⟩ = some v := by
  intro j v hj
  have hk : ∀ i, i < 3 → w1.cell? ⟨b0, o0 + p + i, none⟩ = some (.int .u8 ((bs.getD (p + i) 0#8).toNat : Int)) := fun i hi => by
    have h9 := hR.cellK hC (u8_at bs (p + i) (by omega))
    rw [getD_lt bs (p + i) (by omega), Nat.add_assoc]
    exact h9
  match j, hj with
  | 0, hj => cases hj; exact hk 0 (by omega)
  | 1, hj => cases hj; exact hk 1 (by omega)
  | 2, hj => cases hj; exact hk 2 (by omega)
  | _ + 3, hj => cases hj
theorem hit_none {bs : Bs} {ls : Lst} {i : Nat} (h : ¬ i + 3 ≤ bs.length) : hitS bs ls i = (0, 0) := by unfold hitS; rw [if_neg h]
theorem hit_no {bs : Bs} {ls : Lst} {i : Nat} (h : i + 3 ≤ bs.length) (hn : ls (k3at bs i) = none) : hitS bs ls i = (0, 0) := by unfold hitS; rw [if_pos h, hn]
theorem hit_far {bs : Bs} {ls : Lst} {i a : Nat} (h : i + 3 ≤ bs.length) (hn : ls (k3at bs i) = some a) (hf : ¬ i - a ≤ 32768) : hitS bs ls i = (0, 0) := by unfold hitS; rw [if_pos h, hn]; simp only; rw [if_neg hf]
theorem hit_some {bs : Bs} {ls : Lst} {i a : Nat} (h : i + 3 ≤ bs.length) (hn : ls (k3at bs i) = some a) (hf : i - a ≤ 32768) : hitS bs ls i = (mRun bs i a 259 0, i - a) := by unfold hitS; rw [if_pos h, hn]; simp only; rw [if_pos hf]
theorem sqF_end (bs : Bs) (f : Nat) (ls : Lst) (i : Nat) (h : ¬ i < bs.length) : sqF bs f ls i = [] := by
  cases f with
  | zero => rfl
  | succ f => unfold sqF; rw [if_neg h]
theorem sqF_step (bs : Bs) (f : Nat) (ls : Lst) (i : Nat) (h : i < bs.length) : sqF bs (f + 1) ls i = stepB bs ls i ++ sqF bs f (putsF bs (stepN bs ls i) ls i) (i + stepN bs ls i) := by
  rw [sqF, if_pos h]
theorem mRun_stop {bs : Bs} {i a n : Nat} (h : ¬ (n < 258 ∧ i + n < bs.length ∧ bs.getD (i + n) 0#8 = bs.getD (a + n) 0#8)) : ∀ f, mRun bs i a f n = n
  | 0 => rfl
  | f + 1 => by rw [mRun, if_neg h]
theorem squ_ok (w : World) (a : Option Addr) (c : Nat) (bs : Bs) (hR : Rd w a (bs.map u8v)) (hc : bs.length ≤ c) (hl : bs.length ≤ 32768) :
    Ret Tryd.prog 14 [.slice a bs.length c] w (fun v w' => ∃ u, v = .tuple #[u, .int .i64 0] ∧ New w w' 5 u ((pack (sqBits bs)).map u8v) ∧ Keep [] w w') := by
  obtain ⟨W0, hW0⟩ : ∃ n, w.heap.size = n := ⟨_, rfl⟩
  refine fn_enter (n := 194) Tryd.func14 rfl rfl (Nat.le_of_ble_eq_true rfl) (fun e => ?_)
  refine k_seq ?_
  refine k_region ?_
  refine m_sl rfl rfl ?_
  refine m_int rfl rfl ?_
  refine o_nil ?_
  refine k_seq ?_
  refine k_seq ?_
  refine k_region ?_
  refine m_sl rfl rfl ?_
  refine o_lens Tryd.underlying25 rfl ?_
  refine b_gtr rfl rfl ?_
  refine o_nil ?_
  refine k_no rfl ((by omega)) ?_
  refine k_skip ?_
  refine k_seq ?_
  refine k_anyF 3 (fun w w' => Keep [] w w') (fun iA => match iA with
      | 0 => fun v w => ∃ g, v = .slice (some ⟨g, 0, none⟩) 288 288 ∧ W0 ≤ g ∧ Sl w 3 1 (some ⟨g, 0, none⟩) 288 288 ((tab fixV 288 0).map iv)
      | 1 => fun v w => ∃ g, v = .slice (some ⟨g, 0, none⟩) 32 32 ∧ W0 ≤ g ∧ Sl w 3 1 (some ⟨g, 0, none⟩) 32 32 ((tab (fun _ => 5) 32 0).map iv)
      | 2 => fun v w => True
      | _ => fun v w => True) [0,1] rfl rfl rfl rfl rfl (Keep.refl []) (fun _ _ _ h1 h2 => h1.tr h2) ?_ ?_ ?_ ?_
  · intro iA v w w' h hL
    match iA, h with
    | 0, h =>
      obtain ⟨g, h1, h2, h3⟩ := h
      exact ⟨g, h1, h2, h3.new hL⟩
    | 1, h =>
      obtain ⟨g, h1, h2, h3⟩ := h
      exact ⟨g, h1, h2, h3.new hL⟩
    | 2, h =>
      exact h
    | _ + 3, h => trivial
  · intro iA hi v w h
    simp only [List.mem_cons, List.not_mem_nil, or_false] at hi
    rcases hi with rfl | rfl
    · obtain ⟨g, rfl, _, h2⟩ := h
      obtain ⟨g', cur, hg', hB, _⟩ := h2.blk (by decide)
      cases hg'; exact hB.lt
    · obtain ⟨g, rfl, _, h2⟩ := h
      obtain ⟨g', cur, hg', hB, _⟩ := h2.blk (by decide)
      cases hg'; exact hB.lt
  · intro iA o him hl eA wA hL hA hD
    match iA, him, hl with
    | 0, _, hl =>
      obtain rfl := Option.some.inj hl
      refine o_gen [] trivial (fun e2 => ?_)
      refine o_make (m := 288) Tryd.underlying74 inf3 rfl rfl (by decide) (by decide) (fun g w2 hS2 hK2 hb2 hZ2 => ?_)
      refine o_nil ⟨hK2, ⟨g, rfl, by have := hL.size; simp at this; omega, by rw [tab_nil, ← make3]; exact hS2⟩, fun _ => by show _ ≤ g; omega⟩
    | 1, _, hl =>
      obtain rfl := Option.some.inj hl
      refine o_gen [] trivial (fun e2 => ?_)
      refine o_make (m := 32) Tryd.underlying74 inf3 rfl rfl (by decide) (by decide) (fun g w2 hS2 hK2 hb2 hZ2 => ?_)
      refine o_nil ⟨hK2, ⟨g, rfl, by have := hL.size; simp at this; omega, by rw [tab_nil, ← make3]; exact hS2⟩, fun _ => by show _ ≤ g; omega⟩
    | 2, _, hl =>
      obtain rfl := Option.some.inj hl
      obtain ⟨g, hg, hg2⟩ := hD 0 (by decide) 19 rfl
      refine o_gen [(19, _)] ⟨hg, trivial⟩ (fun e2 => ?_)
      refine m_sl rfl rfl ?_
      refine o_nil ⟨Keep.refl _ _, trivial, fun h => by simp at h⟩
    | _ + 3, him, _ => exact absurd him (by omega)
  intro eA wA hL hA hV hN hM
  obtain ⟨g8, hg1, hg8, hS8⟩ := hV 0 (by decide) 19 rfl
  obtain ⟨g9, hz1, hg9, hS9⟩ := hV 1 (by decide) 20 rfl
  have hne : g8 ≠ g9 := by
   have := hN 0 1 (by simp) (by simp) (by decide) (by decide) (by decide) 19 20 rfl rfl
   rw [hg1, hz1] at this
   exact this
  have h4 : eA 4 = .slice (some ⟨g8, 0, none⟩) 288 288 := (hM 2 _ _ 4 (by decide) rfl rfl rfl rfl).trans hg1
  have hkA : Keep [] w wA := (Keep.refl [] w).drew.tr hL
  refine o_gen [(0, .slice a bs.length c), (4, .slice (some ⟨g8, 0, none⟩) 288 288), (20, .slice (some ⟨g9, 0, none⟩) 32 32)] ⟨hA 0 (free_of rfl), h4, hz1, trivial⟩ (fun e3 => ?_)
  clear hV hA hM hN
  refine m_sl rfl rfl ?_
  refine o_nil ?_
  refine k_seq ?_
  refine k_seq ?_
  refine k_region ?_
  refine m_sl rfl rfl ?_
  refine o_lens Tryd.underlying74 rfl ?_
  refine m_int rfl rfl ?_
  refine o_nil ?_
  refine k_block ?_
  refine k_loop (σ := Nat) (fun i => [(0, .slice a bs.length c), (4, .slice (some ⟨g8, 0, none⟩) 288 288), (5, .slice (some ⟨g9, 0, none⟩) 32 32), (22, .int .i64 288), (23, .int .i64 (i : Int))]) (fun i w' => i ≤ 288 ∧ Sl w' 3 1 (some ⟨g8, 0, none⟩) 288 288 ((tab fixV 288 i).map iv) ∧ Sl w' 3 1 (some ⟨g9, 0, none⟩) 32 32 ((tab (fun _ => 5) 32 0).map iv) ∧ Keep [] w w') (fun i => 288 - i) 0 ⟨rfl, rfl, rfl, rfl, rfl, trivial⟩ ⟨by omega, hS8, hS9, hkA⟩ (fun i e w3 hJ => ?_)
  clear hS8 hS9 hkA
  obtain ⟨hi, hS8, hS9, hk3⟩ := hJ
  refine k_seq ?_
  refine k_region ?_
  refine b_lss rfl rfl ?_
  refine o_nil ?_
  refine k_seq ?_
  refine k_cond rfl (fun h => ?_) (fun h => ?_)
  rotate_left
  ·
    obtain rfl : i = 288 := by omega
    refine k_exit rfl ?_
    refine k_seq ?_
    refine k_seq ?_
    refine k_region ?_
    refine m_sl rfl rfl ?_
    refine o_lens Tryd.underlying74 rfl ?_
    refine m_int rfl rfl ?_
    refine o_nil ?_
    refine k_block ?_
    refine k_loop (σ := Nat) (fun i => [(0, .slice a bs.length c), (4, .slice (some ⟨g8, 0, none⟩) 288 288), (5, .slice (some ⟨g9, 0, none⟩) 32 32), (49, .int .i64 32), (50, .int .i64 (i : Int))]) (fun i w' => i ≤ 32 ∧ Sl w' 3 1 (some ⟨g8, 0, none⟩) 288 288 (fixI.map iv) ∧ Sl w' 3 1 (some ⟨g9, 0, none⟩) 32 32 ((tab (fun _ => 5) 32 i).map iv) ∧ Keep [] w w') (fun i => 32 - i) 0 ⟨rfl, rfl, rfl, rfl, rfl, trivial⟩ ⟨by omega, hS8, hS9, hk3⟩ (fun i e w4 hJ => ?_)
    clear hS8 hS9 hk3
    obtain ⟨hi, hS8, hS9, hk3⟩ := hJ
    refine k_seq ?_
    refine k_region ?_
    refine b_lss rfl rfl ?_
    refine o_nil ?_
    refine k_seq ?_
    refine k_cond rfl (fun h => ?_) (fun h => ?_)
    rotate_left
    ·
      obtain rfl : i = 32 := by omega
      refine k_exit rfl ?_
      refine k_seq ?_
      refine k_region ?_
      refine o_build (v := .agg #[.slice none 0 0, .int .i64 0, .pointer none, .pointer none]) rfl (fun _ => by kernel_rfl) ?_
      refine o_box rfl rfl (fun r w5 hB5 hK5 hb5 hZ5 => ?_)
      have hlf : fixI.length = 288 := tab_len _ _ _
      have hlv : fivI.length = 32 := tab_len _ _ _
      have hp8 := pnew_ok w5 (some ⟨g8, 0, none⟩) 288 fixI false (hS8.rd.new hK5) (by omega)
      rw [hlf] at hp8
      refine m_ptr rfl rfl ?_
      refine o_nil ?_
      refine k_seq ?_
      refine k_region ?_
      refine m_ptr rfl rfl ?_
      refine m_sl rfl rfl ?_
      refine o_call rfl rfl hp8 (fun v w6 hv => ?_)
      obtain ⟨hK6, hv⟩ := hv
      obtain ⟨rc, rfl, hC6⟩ : ∃ rc, v = .tuple #[.pointer (some ⟨rc, 0, none⟩), .int .i64 0] ∧ CodeP w6 rc fixL := by
       rcases hv with ⟨hn, _⟩ | ⟨_, hn, _⟩ | ⟨_, _, rc, h1, h2⟩
       · exact absurd fix_ok.1 hn
       · exact absurd fix_ok.2 hn
       · exact ⟨rc, h1, h2⟩
      refine m_any rfl rfl ?_
      refine o_extr (vs := [.pointer (some ⟨rc, 0, none⟩), .int .i64 0]) rfl rfl ?_
      refine o_extr (vs := [.pointer (some ⟨rc, 0, none⟩), .int .i64 0]) rfl rfl ?_
      have hB6 := hB5.keep hK6 (by simp)
      refine o_nilc rfl ?_
      refine o_fld (off := 2) rfl rfl ?_
      refine o_st (v := .pointer _) rfl rfl rfl rfl hB6 (show 0 + 2 < 4 by decide) (fun w7 hB7 hK7 hZ7 => ?_)
      have hB7 : Blk w7 r #[.slice none 0 0, .int .i64 0, .pointer (some ⟨rc, 0, none⟩), .pointer none] 80 := hB7
      have hC7 := hC6.kt (hK7.t1 (Ts := [80]) (Nat.le_refl _) hB6 (by simp)) (by decide)
      have hk47 : Keep [] w4 w7 := (hK5.tr hK6).tr1 hK7 (by omega)
      have hp9 := pnew_ok w7 (some ⟨g9, 0, none⟩) 32 fivI false (hS9.rd.new hk47) (by omega)
      rw [hlv] at hp9
      refine o_nil ?_
      refine k_seq ?_
      refine k_region ?_
      refine m_ptr rfl rfl ?_
      refine m_sl rfl rfl ?_
      refine o_call rfl rfl hp9 (fun v w8 hv => ?_)
      obtain ⟨hK8, hv⟩ := hv
      obtain ⟨rd, rfl, hD8⟩ : ∃ rd, v = .tuple #[.pointer (some ⟨rd, 0, none⟩), .int .i64 0] ∧ CodeP w8 rd fivL := by
       rcases hv with ⟨hn, _⟩ | ⟨_, hn, _⟩ | ⟨_, _, rd, h1, h2⟩
       · exact absurd five_ok.1 hn
       · exact absurd five_ok.2 hn
       · exact ⟨rd, h1, h2⟩
      refine m_any rfl rfl ?_
      refine o_extr (vs := [.pointer (some ⟨rd, 0, none⟩), .int .i64 0]) rfl rfl ?_
      refine o_extr (vs := [.pointer (some ⟨rd, 0, none⟩), .int .i64 0]) rfl rfl ?_
      have hB8 := hB7.keep hK8 (by simp)
      refine o_nilc rfl ?_
      refine o_fld (off := 3) rfl rfl ?_
      refine o_st (v := .pointer _) rfl rfl rfl rfl hB8 (show 0 + 3 < 4 by decide) (fun w9 hB9 hK9 hZ9 => ?_)
      have hB9 : Blk w9 r #[.slice none 0 0, .int .i64 0, .pointer (some ⟨rc, 0, none⟩), .pointer (some ⟨rd, 0, none⟩)] 80 := hB9
      have ht9 := hK9.t1 (Ts := [80]) (Nat.le_refl _) hB8 (by simp)
      have hC9 := (hC7.new hK8).kt ht9 (by decide)
      have hD9 := hD8.kt ht9 (by decide)
      have hs4 := hk3.size
      have hk9 : Keep [] w w9 := hk3.tr ((hk47.tr hK8).tr1 hK9 (by omega))
      have hW9 : Wtr (.pointer (some ⟨rc, 0, none⟩)) (.pointer (some ⟨rd, 0, none⟩)) w.heap.size w9 r [] := ⟨none, 0, hB9, Sl.nil _ _ _, by omega, by simp⟩
      refine o_nil ?_
      refine k_seq ?_
      refine k_region ?_
      refine m_ptr rfl rfl ?_
      refine o_nilc rfl ?_
      refine o_fld0 rfl rfl ?_
      refine o_call (vs := [.pointer (some ⟨r, 0, none⟩), .int .i64 ((3 : Nat) : Int), .int .i64 3]) rfl rfl (put_ok _ _ w.heap.size w9 r [] ((3 : Nat) : Int) 3 (by simp) hW9) (fun v w10 hv => ?_)
      unfold PtR at hv
      rw [pt_ok (by decide)] at hv
      obtain ⟨rfl, hW10, hK10⟩ := hv
      have hC10 := hC9.kt hK10 (by decide)
      have hD10 := hD9.kt hK10 (by decide)
      have hk10 := hK10.below hk9 (Nat.le_refl _)
      refine o_nil ?_
      refine k_seq ?_
      refine k_region ?_
      refine o_mkmap kv3 (fun lm w11 hM11 hK11 hb11 hZ11 => ?_)
      have hs10 := hk10.size
      have hQ11 : SqW lm w w11 r lm rc rd (vbits 3 3) (fun _ => none) := ⟨hW10.new hK11, ⟨[], hM11, fun q => rfl⟩, (hC10.high.mono (by omega)).new hK11, (hD10.high.mono (by omega)).new hK11, hk10.tr hK11⟩
      clear hS8 hS9 hk3 hB5 hB6 hB7 hB8 hB9 hC6 hC7 hC9 hC10 hD8 hD9 hD10 hW9 hW10 hM11 hK5 hK6 hK7 hK8 hK9 hK10 hk47 hk9 ht9 hp8 hp9 hv
      refine m_map rfl rfl ?_
      refine o_nil ?_
      refine k_seq ?_
      refine k_seq ?_
      refine k_region ?_
      refine m_int rfl rfl ?_
      refine o_nil ?_
      refine k_block ?_
      refine k_loop (σ := Nat × Lst × List Bool × Nat) (fun s => [(0, .slice a bs.length c), (8, .pointer (some ⟨r, 0, none⟩)), (9, .map (some lm)), (10, .int .i64 (s.1 : Int))]) (fun s w' => s.1 ≤ bs.length ∧ bs.length ≤ s.1 + s.2.2.2 ∧ sqBits bs = s.2.2.1 ++ sqF bs s.2.2.2 s.2.1 s.1 ++ oB (wd fixL 256) ∧ s.2.2.1.length ≤ 3 + 62 * s.1 ∧ LsB s.2.1 s.1 ∧ SqW lm w w' r lm rc rd s.2.2.1 s.2.1) (fun s => bs.length - s.1) (0, fun _ => none, vbits 3 3, bs.length) ⟨rfl, rfl, rfl, rfl, trivial⟩ ⟨by simp, by simp, rfl, by rw [vbits_len]; simp, fun q a h => (by cases h), hQ11⟩ (fun s e w12 hJ => ?_)
      obtain ⟨i, ls, l, f⟩ := s
      obtain ⟨hi, hf, hsq, hll, hLs, hQ⟩ := hJ
      simp only at hi hf hsq hll hLs hQ ⊢
      clear hQ11
      refine k_seq ?_
      refine k_seq ?_
      refine k_region ?_
      refine m_int rfl rfl ?_
      refine m_sl rfl rfl ?_
      refine o_lens Tryd.underlying25 rfl ?_
      refine b_lss rfl rfl ?_
      refine o_nil ?_
      refine k_cond rfl (fun h => ?_) (fun h => ?_)
      rotate_left
      ·
        obtain rfl : i = bs.length := by omega
        rw [sqF_end bs f ls _ (by omega), List.append_nil] at hsq
        obtain ⟨hW, _, hC, _, hk12⟩ := hQ
        obtain ⟨a1, c1, hB, _⟩ := id hW
        refine k_exit rfl ?_
        refine k_seq ?_
        refine k_region ?_
        refine m_ptr rfl rfl ?_
        refine m_ptr rfl rfl ?_
        refine o_nilc rfl ?_
        refine o_fld (off := 2) rfl rfl ?_
        refine o_ld rfl rfl (hB.at rfl) ?_
        refine o_call rfl rfl (oput_ok _ _ _ w12 r rc fixL 256 l hW hC.code (by omega)) (fun v w13 hv => ?_)
        obtain ⟨rfl, hW13, hK13⟩ := hv
        have hk13 := hK13.below hk12 (Nat.le_refl _)
        rw [← hsq] at hW13
        have hsl : (sqBits bs).length ≤ 10000000000000 := by
         rw [hsq, List.length_append, oB_len]
         have := wd_le fixL 256 (by decide +kernel)
         omega
        refine o_nil ?_
        refine k_seq ?_
        refine k_region ?_
        refine m_ptr rfl rfl ?_
        refine o_nilc rfl ?_
        refine o_fld0 rfl rfl ?_
        refine o_call rfl rfl (wbytes_ok _ _ _ w13 r (sqBits bs) hsl hW13) (fun v w14 hv => ?_)
        obtain ⟨⟨a2, c2, rfl, hS14, hn14⟩, hK14⟩ := hv
        have hs13 := hk13.size
        refine m_sl rfl rfl ?_
        refine m_int rfl rfl ?_
        refine o_nil ?_
        refine k_ret (ret_tmps (ts := [2, 3]) (v := .tuple #[.slice _ _ _, .int _ _]) rfl rfl ?_)
        exact ⟨_, rfl, ⟨a2, c2, rfl, hS14, fun q hq => by have := hn14 q hq; omega⟩, hk13.tr hK14⟩
      have hil : i < bs.length := by omega
      refine k_skip ?_
      refine k_block ?_
      refine k_seq ?_
      refine k_region ?_
      refine m_int rfl rfl ?_
      refine m_int rfl rfl ?_
      refine o_nil ?_
      refine k_seq ?_
      refine k_seq ?_
      refine k_region ?_
      refine m_int rfl rfl ?_
      refine n_add rfl rfl (by omega) ?_
      refine m_sl rfl rfl ?_
      refine o_lens Tryd.underlying25 rfl ?_
      refine b_leq rfl rfl ?_
      refine o_nil ?_
      refine k_cut (σ := Unit) (fun _ => [(0, .slice a bs.length c), (8, .pointer (some ⟨r, 0, none⟩)), (9, .map (some lm)), (10, .int .i64 (i : Int)), (11, .int .i64 ((hitS bs ls i).1 : Int)), (12, .int .i64 ((hitS bs ls i).2 : Int))]) (fun _ w' => SqW lm w w' r lm rc rd l ls) ?_ (fun _ e w13 hJ => ?_)
      ·
        refine k_cond rfl (fun h => ?_) (fun h => ?_)
        ·
          have h3 : i + 3 ≤ bs.length := by omega
          have hk12 := hQ.2.2.2.2
          obtain ⟨b0, o0, rfl, _⟩ := hR.at i (by simp; omega)
          refine k_seq ?_
          refine k_region ?_
          refine m_sl rfl rfl ?_
          refine m_int rfl rfl ?_
          refine m_int rfl rfl ?_
          refine n_add rfl rfl (by omega) ?_
          refine o_sllh (sz := 1) (lo := i) (hi := i + 3) Tryd.underlying25 rfl rfl rfl rfl (by omega) (by omega) ?_
          rw [cut_some b0 o0 i c (by omega)]
          refine o_sarr Tryd.underlying85 rfl (by omega) ?_
          refine o_lda (xs := [.int .u8 ((bs.getD i 0#8).toNat : Int), .int .u8 ((bs.getD (i + 1) 0#8).toNat : Int), .int .u8 ((bs.getD (i + 2) 0#8).toNat : Int)]) rfl rfl rfl (key_cells hR hk12 i h3) ?_
          refine o_alloc (cs := #[.int .u8 0, .int .u8 0, .int .u8 0]) inf85 rfl (fun b w13 hB13 hK13 hb13 hZ13 => ?_)
          refine o_sta (xs := [.int .u8 ((bs.getD i 0#8).toNat : Int), .int .u8 ((bs.getD (i + 1) 0#8).toNat : Int), .int .u8 ((bs.getD (i + 2) 0#8).toNat : Int)]) rfl rfl rfl (by intro u hu; simp at hu; rcases hu with rfl | rfl | rfl <;> rfl) hB13 (by simp) (fun w14 hB14 hK14 hZ14 => ?_)
          have hB14 : Blk w14 b #[.int .u8 ((bs.getD i 0#8).toNat : Int), .int .u8 ((bs.getD (i + 1) 0#8).toNat : Int), .int .u8 ((bs.getD (i + 2) 0#8).toNat : Int)] 85 := hB14
          have hk14 : Keep [] w12 w14 := hK13.tr1 hK14 (by omega)
          have hQ14 := hQ.new hk14
          obtain ⟨m, hM14, hm⟩ := hQ14.2.1
          refine o_nil ?_
          refine k_seq ?_
          refine k_region ?_
          refine m_map rfl rfl ?_
          refine o_lda (xs := [.int .u8 ((bs.getD i 0#8).toNat : Int), .int .u8 ((bs.getD (i + 1) 0#8).toNat : Int), .int .u8 ((bs.getD (i + 2) 0#8).toNat : Int)]) rfl rfl rfl (fun j v hj => by
           rw [hB14.cell, Nat.zero_add]
           match j, hj with
           | 0, hj => cases hj; rfl
           | 1, hj => cases hj; rfl
           | 2, hj => cases hj; rfl
           | _ + 3, hj => cases hj) ?_
          obtain ⟨go, hgo⟩ : ∃ go, ls (k3at bs i) = go := ⟨_, rfl⟩
          refine o_lookok (kv := kv3) (q := k3at bs i) (v := .int .i64 ((go.getD 0 : Nat) : Int)) (b := go.isSome) Tryd.underlying84 key_m3 inf3 rfl rfl hM14 (by rw [hm, hgo]; cases go <;> rfl) (by rw [hm, hgo]; cases go <;> rfl) ?_
          refine m_any rfl rfl ?_
          refine o_extr (vs := [.int .i64 ((go.getD 0 : Nat) : Int), .bool go.isSome]) rfl rfl ?_
          refine o_extr (vs := [.int .i64 ((go.getD 0 : Nat) : Int), .bool go.isSome]) rfl rfl ?_
          refine m_int rfl rfl ?_
          refine m_bool rfl rfl ?_
          refine o_nil ?_
          refine k_seq ?_
          refine k_region ?_
          refine m_bool rfl rfl ?_
          refine m_bool rfl rfl ?_
          refine o_split (t := 103) (p := go.isSome = true) (by cases go <;> rfl) (fun h => ?_) (fun h => ?_)
          ·
            obtain ⟨x, rfl⟩ := Option.isSome_iff_exists.1 h
            have hxi : x < i := hLs _ _ hgo
            have hgx : (some x).getD 0 = x := rfl
            refine g_yes rfl rfl ?_
            refine m_int rfl rfl ?_
            refine g_yes rfl rfl ?_
            refine m_int rfl rfl ?_
            refine g_yes rfl rfl ?_
            refine n_sub rfl rfl (by rw [hgx]; omega) ?_
            refine g_yes rfl rfl ?_
            refine b_leq rfl rfl ?_
            refine pick_t rfl rfl ?_
            refine o_nil ?_
            refine k_cond rfl (fun h => ?_) (fun h => ?_)
            ·
              refine k_seq ?_
              refine k_region ?_
              refine m_int rfl rfl ?_
              refine m_int rfl rfl ?_
              refine n_sub rfl rfl (by rw [hgx]; omega) ?_
              refine m_int rfl rfl ?_
              refine o_nil ?_
              refine k_block ?_
              refine k_loop (σ := Nat) (fun n => [(0, .slice (some ⟨b0, o0, none⟩) bs.length c), (8, .pointer (some ⟨r, 0, none⟩)), (9, .map (some lm)), (10, .int .i64 (i : Int)), (11, .int .i64 (n : Int)), (12, .int .i64 ((i - x : Nat) : Int)), (14, .int .i64 (x : Int))]) (fun n w' => n ≤ 258 ∧ i + n ≤ bs.length ∧ mRun bs i x 259 0 = mRun bs i x (259 - n) n ∧ SqW lm w w' r lm rc rd l ls) (fun n => 259 - n) 0 ⟨rfl, rfl, rfl, rfl, rfl, congrArg (Value.int .i64) (by rw [hgx]; omega), rfl, trivial⟩ ⟨by omega, by omega, rfl, hQ14⟩ (fun n e w15 hJ => ?_)
              obtain ⟨hn, hin, hmr, hQ15⟩ := hJ
              have hkN := hQ15.2.2.2.2
              have hfar : i - x ≤ 32768 := by rw [hgx] at *; omega
              clear hQ14 hM14 hm hB14 hk14 hB13 hK13 hK14
              refine k_seq ?_
              refine k_seq ?_
              refine k_qk 23 rfl rfl rfl rfl rfl ?_
              refine q_step (fun w1 hC => m_int rfl rfl (o_nil ⟨rfl, hC⟩)) ?_
              refine q_step (fun w1 hC => b_lss rfl rfl (o_nil ⟨rfl, hC⟩)) ?_
              refine q_step (fun w1 hC => m_bool rfl rfl (o_nil ⟨rfl, hC⟩)) ?_
              refine q_split (t := 114) rfl (fun h => ?_) (fun h => ?_)
              ·
                refine q_step (fun w1 hC => g_yes rfl rfl (m_int rfl rfl (o_nil ⟨rfl, hC⟩))) ?_
                refine q_step (fun w1 hC => g_yes rfl rfl (m_int rfl rfl (o_nil ⟨rfl, hC⟩))) ?_
                refine q_step (fun w1 hC => g_yes rfl rfl (n_add rfl rfl (by omega) (o_nil ⟨rfl, hC⟩))) ?_
                refine q_step (fun w1 hC => g_yes rfl rfl (m_sl rfl rfl (o_nil ⟨rfl, hC⟩))) ?_
                refine q_step (fun w1 hC => g_yes rfl rfl (o_lens Tryd.underlying25 rfl (o_nil ⟨rfl, hC⟩))) ?_
                refine q_step (fun w1 hC => g_yes rfl rfl (b_lss rfl rfl (o_nil ⟨rfl, hC⟩))) ?_
                refine q_step (fun w1 hC => pick_t rfl rfl (o_nil ⟨rfl, hC⟩)) ?_
                refine q_step (fun w1 hC => m_bool rfl rfl (o_nil ⟨rfl, hC⟩)) ?_
                refine q_split (t := 122) rfl (fun h => ?_) (fun h => ?_)
                ·
                  refine q_step (fun w1 hC => g_yes rfl rfl (m_sl rfl rfl (o_nil ⟨rfl, hC⟩))) ?_
                  refine q_step (fun w1 hC => g_yes rfl rfl (m_int rfl rfl (o_nil ⟨rfl, hC⟩))) ?_
                  refine q_step (fun w1 hC => g_yes rfl rfl (m_int rfl rfl (o_nil ⟨rfl, hC⟩))) ?_
                  refine q_step (fun w1 hC => g_yes rfl rfl (n_add rfl rfl (by omega) (o_nil ⟨rfl, hC⟩))) ?_
                  refine q_step (fun w1 hC => g_yes rfl rfl (o_ixs1 (m := i + n) Tryd.underlying25 rfl rfl rfl (by omega) (o_nil ⟨rfl, hC⟩))) ?_
                  refine q_step (fun w1 hC => g_yes rfl rfl (o_ld rfl rfl (hR.cellK (hkN.tr hC) (u8_at bs (i + n) (by omega))) (o_nil ⟨rfl, hC⟩))) ?_
                  refine q_step (fun w1 hC => g_yes rfl rfl (m_sl rfl rfl (o_nil ⟨rfl, hC⟩))) ?_
                  refine q_step (fun w1 hC => g_yes rfl rfl (m_int rfl rfl (o_nil ⟨rfl, hC⟩))) ?_
                  refine q_step (fun w1 hC => g_yes rfl rfl (m_int rfl rfl (o_nil ⟨rfl, hC⟩))) ?_
                  refine q_step (fun w1 hC => g_yes rfl rfl (n_add rfl rfl (by omega) (o_nil ⟨rfl, hC⟩))) ?_
                  refine q_step (fun w1 hC => g_yes rfl rfl (o_ixs1 (m := x + n) Tryd.underlying25 rfl rfl rfl (by omega) (o_nil ⟨rfl, hC⟩))) ?_
                  refine q_step (fun w1 hC => g_yes rfl rfl (o_ld rfl rfl (hR.cellK (hkN.tr hC) (u8_at bs (x + n) (by omega))) (o_nil ⟨rfl, hC⟩))) ?_
                  refine q_nil ?_
                  intro w16 hC16
                  refine g_yes rfl rfl ?_
                  refine v8_eql rfl rfl ?_
                  refine pick_t rfl rfl ?_
                  refine o_nil ?_
                  refine k_cond rfl (fun h => ?_) (fun h => ?_)
                  rotate_left
                  ·
                    refine k_exit rfl ?_
                    rw [hit_some h3 hgo hfar, hmr, mRun_stop (fun hh => by have := hh.2.2; rw [getD_lt bs _ (by omega), getD_lt bs _ (by omega)] at this; exact h this)]
                    exact k_goal ⟨(), ⟨rfl, rfl, rfl, rfl, rfl, rfl, trivial⟩, hQ15.new hC16⟩
                  have hn258 : n < 258 := by omega
                  refine k_skip ?_
                  refine k_block ?_
                  refine k_region ?_
                  refine m_int rfl rfl ?_
                  refine n_add rfl rfl (by omega) ?_
                  refine m_int rfl rfl ?_
                  refine o_nil ?_
                  refine k_blk ?_
                  refine k_goal ⟨n + 1, ⟨rfl, rfl, rfl, rfl, rfl, rfl, rfl, trivial⟩, ⟨by omega, by omega, ?_, hQ15.new hC16⟩, by omega⟩
                  rw [hmr, show 259 - n = (259 - (n + 1)) + 1 by omega, mRun, if_pos ⟨hn258, by omega, by rw [getD_lt bs _ (by omega), getD_lt bs _ (by omega)]; exact h⟩]
                ·
                  refine q_step (v := undef) (fun w1 hC => g_no rfl rfl rfl (o_nil ⟨rfl, hC⟩)) ?_
                  refine q_step (v := undef) (fun w1 hC => g_no rfl rfl rfl (o_nil ⟨rfl, hC⟩)) ?_
                  refine q_step (v := undef) (fun w1 hC => g_no rfl rfl rfl (o_nil ⟨rfl, hC⟩)) ?_
                  refine q_step (v := undef) (fun w1 hC => g_no rfl rfl rfl (o_nil ⟨rfl, hC⟩)) ?_
                  refine q_step (v := undef) (fun w1 hC => g_no rfl rfl rfl (o_nil ⟨rfl, hC⟩)) ?_
                  refine q_step (v := undef) (fun w1 hC => g_no rfl rfl rfl (o_nil ⟨rfl, hC⟩)) ?_
                  refine q_step (v := undef) (fun w1 hC => g_no rfl rfl rfl (o_nil ⟨rfl, hC⟩)) ?_
                  refine q_step (v := undef) (fun w1 hC => g_no rfl rfl rfl (o_nil ⟨rfl, hC⟩)) ?_
                  refine q_step (v := undef) (fun w1 hC => g_no rfl rfl rfl (o_nil ⟨rfl, hC⟩)) ?_
                  refine q_step (v := undef) (fun w1 hC => g_no rfl rfl rfl (o_nil ⟨rfl, hC⟩)) ?_
                  refine q_step (v := undef) (fun w1 hC => g_no rfl rfl rfl (o_nil ⟨rfl, hC⟩)) ?_
                  refine q_step (v := undef) (fun w1 hC => g_no rfl rfl rfl (o_nil ⟨rfl, hC⟩)) ?_
                  refine q_nil ?_
                  intro w16 hC16
                  refine g_no rfl rfl rfl ?_
                  refine pick_f rfl rfl ?_
                  refine o_nil ?_
                  refine k_condf rfl ?_
                  refine k_exit rfl ?_
                  rw [hit_some h3 hgo hfar, hmr, mRun_stop (fun hh => by omega)]
                  exact k_goal ⟨(), ⟨rfl, rfl, rfl, rfl, rfl, rfl, trivial⟩, hQ15.new hC16⟩
              ·
                refine q_step (v := undef) (fun w1 hC => g_no rfl rfl rfl (o_nil ⟨rfl, hC⟩)) ?_
                refine q_step (v := undef) (fun w1 hC => g_no rfl rfl rfl (o_nil ⟨rfl, hC⟩)) ?_
                refine q_step (v := undef) (fun w1 hC => g_no rfl rfl rfl (o_nil ⟨rfl, hC⟩)) ?_
                refine q_step (v := undef) (fun w1 hC => g_no rfl rfl rfl (o_nil ⟨rfl, hC⟩)) ?_
                refine q_step (v := undef) (fun w1 hC => g_no rfl rfl rfl (o_nil ⟨rfl, hC⟩)) ?_
                refine q_step (v := undef) (fun w1 hC => g_no rfl rfl rfl (o_nil ⟨rfl, hC⟩)) ?_
                refine q_step (fun w1 hC => pick_f rfl rfl (o_nil ⟨rfl, hC⟩)) ?_
                refine q_step (fun w1 hC => m_bool rfl rfl (o_nil ⟨rfl, hC⟩)) ?_
                refine q_step (v := undef) (fun w1 hC => g_no rfl rfl rfl (o_nil ⟨rfl, hC⟩)) ?_
                refine q_step (v := undef) (fun w1 hC => g_no rfl rfl rfl (o_nil ⟨rfl, hC⟩)) ?_
                refine q_step (v := undef) (fun w1 hC => g_no rfl rfl rfl (o_nil ⟨rfl, hC⟩)) ?_
                refine q_step (v := undef) (fun w1 hC => g_no rfl rfl rfl (o_nil ⟨rfl, hC⟩)) ?_
                refine q_step (v := undef) (fun w1 hC => g_no rfl rfl rfl (o_nil ⟨rfl, hC⟩)) ?_
                refine q_step (v := undef) (fun w1 hC => g_no rfl rfl rfl (o_nil ⟨rfl, hC⟩)) ?_
                refine q_step (v := undef) (fun w1 hC => g_no rfl rfl rfl (o_nil ⟨rfl, hC⟩)) ?_
                refine q_step (v := undef) (fun w1 hC => g_no rfl rfl rfl (o_nil ⟨rfl, hC⟩)) ?_
                refine q_step (v := undef) (fun w1 hC => g_no rfl rfl rfl (o_nil ⟨rfl, hC⟩)) ?_
                refine q_step (v := undef) (fun w1 hC => g_no rfl rfl rfl (o_nil ⟨rfl, hC⟩)) ?_
                refine q_step (v := undef) (fun w1 hC => g_no rfl rfl rfl (o_nil ⟨rfl, hC⟩)) ?_
                refine q_step (v := undef) (fun w1 hC => g_no rfl rfl rfl (o_nil ⟨rfl, hC⟩)) ?_
                refine q_nil ?_
                intro w16 hC16
                refine g_no rfl rfl rfl ?_
                refine pick_f rfl rfl ?_
                refine o_nil ?_
                refine k_condf rfl ?_
                refine k_exit rfl ?_
                rw [hit_some h3 hgo hfar, hmr, mRun_stop (fun hh => by omega)]
                exact k_goal ⟨(), ⟨rfl, rfl, rfl, rfl, rfl, rfl, trivial⟩, hQ15.new hC16⟩
            refine k_skip ?_
            rw [hit_far h3 hgo (by rw [hgx] at *; omega)]
            exact k_goal ⟨(), ⟨rfl, rfl, rfl, rfl, rfl, rfl, trivial⟩, hQ14⟩
          ·
            have hgn : go = none := by cases go <;> simp at h ⊢
            refine g_no rfl rfl rfl ?_
            refine g_no rfl rfl rfl ?_
            refine g_no rfl rfl rfl ?_
            refine g_no rfl rfl rfl ?_
            refine pick_f rfl rfl ?_
            refine o_nil ?_
            refine k_condf rfl ?_
            refine k_skip ?_
            rw [hit_no h3 (hgo.trans hgn)]
            exact k_goal ⟨(), ⟨rfl, rfl, rfl, rfl, rfl, rfl, trivial⟩, hQ14⟩
        refine k_skip ?_
        rw [hit_none (by omega)]
        exact k_goal ⟨(), ⟨rfl, rfl, rfl, rfl, rfl, rfl, trivial⟩, hQ⟩
      clear hQ
      have hQ := hJ
      clear hJ
      have hNr := stepN_rng bs ls i hil
      have hBl := stepB_len bs ls i hil
      have hsN : stepN bs ls i = if isLit (hitS bs ls i) then 1 else (hitS bs ls i).1 := rfl
      have hsB : stepB bs ls i = if isLit (hitS bs ls i) then oB (wd fixL ((bs.getD i 0#8).toNat : Int)) else copyB fixL fivL (hitS bs ls i).1 (hitS bs ls i).2 := rfl
      have hhr : (hitS bs ls i).1 ≤ 258 ∧ (hitS bs ls i).2 ≤ 32768 ∧ (3 ≤ (hitS bs ls i).1 → 1 ≤ (hitS bs ls i).2) := by
       unfold hitS
       split
       · split
         · rename_i x hx
           have := hLs _ _ hx
           split
           · exact ⟨(mRun_rng bs i _ 259 0 (by omega) (by omega)).1, by simp only; omega, fun _ => by simp only; omega⟩
           · simp
         · simp
       · simp
      have hli : isLit (hitS bs ls i) ↔ ((hitS bs ls i).1 < 3 ∨ ((hitS bs ls i).1 = 3 ∧ 4096 < (hitS bs ls i).2)) := Iff.rfl
      generalize hitS bs ls i = q at *
      refine k_seq ?_
      refine k_seq ?_
      refine k_cut (σ := Unit) (fun _ => [(0, .slice a bs.length c), (8, .pointer (some ⟨r, 0, none⟩)), (9, .map (some lm)), (10, .int .i64 (i : Int)), (11, .int .i64 (q.1 : Int)), (12, .int .i64 (q.2 : Int)), (148, .bool (decide (isLit q)))]) (fun _ w' => w' = w13) ?_ (fun _ e w14 hJ => ?_)
      ·
        refine k_region ?_
        refine m_int rfl rfl ?_
        refine b_lss rfl rfl ?_
        refine m_bool rfl rfl ?_
        refine o_split (t := 141) rfl (fun h => ?_) (fun h => ?_)
        ·
          refine g_no rfl rfl rfl ?_
          refine g_no rfl rfl rfl ?_
          refine g_no rfl rfl rfl ?_
          refine g_un rfl rfl ?_
          refine g_un rfl rfl ?_
          refine g_no rfl rfl rfl ?_
          refine pick_t rfl rfl ?_
          refine o_nil ?_
          refine k_goal ⟨(), ⟨rfl, rfl, rfl, rfl, rfl, rfl, congrArg Value.bool (decide_eq_true (hli.2 (by omega))).symm, trivial⟩, rfl⟩
        ·
          refine g_yes rfl rfl ?_
          refine m_int rfl rfl ?_
          refine g_yes rfl rfl ?_
          refine b_eql rfl rfl ?_
          refine g_yes rfl rfl ?_
          refine m_bool rfl rfl ?_
          refine o_split (t := 144) rfl (fun h => ?_) (fun h => ?_)
          ·
            refine g_yes rfl rfl ?_
            refine m_int rfl rfl ?_
            refine g_yes rfl rfl ?_
            refine b_gtr rfl rfl ?_
            refine g_yes rfl rfl ?_
            refine pick_t rfl rfl ?_
            refine pick_f rfl rfl ?_
            refine o_nil ?_
            refine k_goal ⟨(), ⟨rfl, rfl, rfl, rfl, rfl, rfl, congrArg Value.bool (decide_eq_decide.2 ⟨fun hh => hli.2 (by omega), fun hh => by have := hli.1 hh; omega⟩), trivial⟩, rfl⟩
          ·
            refine g_no rfl rfl rfl ?_
            refine g_no rfl rfl rfl ?_
            refine g_yes rfl rfl ?_
            refine pick_f rfl rfl ?_
            refine pick_f rfl rfl ?_
            refine o_nil ?_
            refine k_goal ⟨(), ⟨rfl, rfl, rfl, rfl, rfl, rfl, congrArg Value.bool (decide_eq_false (fun hh => by have := hli.1 hh; omega)).symm, trivial⟩, rfl⟩
      subst hJ
      obtain ⟨hW, hMx, hC, hD, hk13⟩ := id hQ
      refine k_cut (σ := Unit) (fun _ => [(0, .slice a bs.length c), (8, .pointer (some ⟨r, 0, none⟩)), (9, .map (some lm)), (10, .int .i64 (i : Int)), (11, .int .i64 (stepN bs ls i : Int))]) (fun _ w' => SqW lm w w' r lm rc rd (l ++ stepB bs ls i) ls) ?_ (fun _ e w15 hJ => ?_)
      ·
        refine k_cond rfl (fun h => ?_) (fun h => ?_)
        ·
          rw [if_pos h] at hsN hsB
          obtain ⟨a1, c1, hB, _⟩ := id hW
          obtain ⟨b0, o0, rfl, _⟩ := hR.at i (by simp; omega)
          refine k_seq ?_
          refine k_region ?_
          refine m_int rfl rfl ?_
          refine o_nil ?_
          refine k_qk 10 rfl rfl rfl rfl rfl ?_
          refine q_step (fun w1 hC => m_ptr rfl rfl (o_nil ⟨rfl, hC⟩)) ?_
          refine q_step (fun w1 hC => m_ptr rfl rfl (o_nil ⟨rfl, hC⟩)) ?_
          refine q_step (fun w1 hC => o_nilc rfl (o_nil ⟨rfl, hC⟩)) ?_
          refine q_step (fun w1 hC => o_fld (off := 2) rfl rfl (o_nil ⟨rfl, hC⟩)) ?_
          refine q_step (fun w1 hC => o_ld (v := .pointer (some ⟨rc, 0, none⟩)) rfl rfl (hB.kat hC rfl) (o_nil ⟨rfl, hC⟩)) ?_
          refine q_step (fun w1 hC => m_sl rfl rfl (o_nil ⟨rfl, hC⟩)) ?_
          refine q_step (fun w1 hC => m_int rfl rfl (o_nil ⟨rfl, hC⟩)) ?_
          refine q_step (fun w1 hC => o_ixs1 (m := i) Tryd.underlying25 rfl rfl rfl hil (o_nil ⟨rfl, hC⟩)) ?_
          refine q_step (fun w1 hC => o_ld rfl rfl (hR.cellK (hk13.tr hC) (u8_at bs i hil)) (o_nil ⟨rfl, hC⟩)) ?_
          refine q_step (fun w1 hC => cv8_i rfl Tryd.underlying3 rfl (o_nil ⟨rfl, hC⟩)) ?_
          refine q_nil ?_
          intro w15 hC15
          refine o_call rfl rfl (oput_ok _ _ _ w15 r rc fixL ((bs[i].toNat : Nat) : Int) l (hW.new hC15) (hC.new hC15).code (by omega)) (fun v w16 hv => ?_)
          obtain ⟨rfl, hW16, hK16⟩ := hv
          refine o_nil ?_
          rw [hsN, hsB]
          rw [← getD_lt bs i hil] at hW16
          exact k_goal ⟨(), ⟨rfl, rfl, rfl, rfl, rfl, trivial⟩, (hQ.new hC15).kt hK16 hW16⟩
        rw [if_neg h] at hsN hsB
        have hq3 : 3 ≤ q.1 := by
         by_cases h9 : 3 ≤ q.1
         · exact h9
         · exact absurd (hli.2 (by omega)) h
        refine k_region ?_
        refine m_ptr rfl rfl ?_
        refine m_int rfl rfl ?_
        refine m_int rfl rfl ?_
        refine o_call rfl rfl (copy_ok _ w14 r rc rd fixL fivL q.1 q.2 l hW hC.code hD.code (by omega) hq3 hhr.1 (hhr.2.2 hq3) hhr.2.1) (fun v w16 hv => ?_)
        obtain ⟨rfl, hW16, hK16⟩ := hv
        refine o_nil ?_
        rw [hsN, hsB]
        exact k_goal ⟨(), ⟨rfl, rfl, rfl, rfl, rfl, trivial⟩, hQ.kt hK16 hW16⟩
      clear hQ hW hMx hC hD hk13
      have hQ := hJ
      clear hJ hsN hsB hhr hli
      refine k_block ?_
      refine k_loop (σ := Nat × Nat × Lst) (fun s => [(0, .slice a bs.length c), (8, .pointer (some ⟨r, 0, none⟩)), (9, .map (some lm)), (10, .int .i64 (s.2.1 : Int)), (11, .int .i64 (s.1 : Int))]) (fun s w' => s.1 + s.2.1 = i + stepN bs ls i ∧ putsF bs s.1 s.2.2 s.2.1 = putsF bs (stepN bs ls i) ls i ∧ LsB s.2.2 s.2.1 ∧ SqW lm w w' r lm rc rd (l ++ stepB bs ls i) s.2.2) (fun s => s.1) (stepN bs ls i, i, ls) ⟨rfl, rfl, rfl, rfl, rfl, trivial⟩ ⟨Nat.add_comm _ _, rfl, hLs, hQ⟩ (fun s e w17 hJ => ?_)
      obtain ⟨k, j, ls'⟩ := s
      obtain ⟨hkj, hpf, hLj, hQ7⟩ := hJ
      simp only at hkj hpf hLj hQ7 ⊢
      clear hQ
      refine k_seq ?_
      refine k_seq ?_
      refine k_region ?_
      refine m_int rfl rfl ?_
      refine b_gtr rfl rfl ?_
      refine o_nil ?_
      refine k_cond rfl (fun h => ?_) (fun h => ?_)
      rotate_left
      ·
        obtain rfl : k = 0 := by omega
        obtain ⟨f', rfl⟩ : ∃ f', f = f' + 1 := ⟨f - 1, by omega⟩
        refine k_exit rfl ?_
        refine k_blk ?_
        have hpf' : ls' = putsF bs (stepN bs ls i) ls i := hpf
        rw [sqF_step bs f' ls i hil, ← hpf'] at hsq
        have hjj : j = i + stepN bs ls i := by omega
        refine k_goal ⟨(j, ls', l ++ stepB bs ls i, f'), ⟨rfl, rfl, rfl, rfl, trivial⟩, ⟨by show j ≤ _; omega, by show _ ≤ j + f'; omega, ?_, by show (l ++ stepB bs ls i).length ≤ 3 + 62 * j; rw [List.length_append]; omega, hLj, hQ7⟩, by show bs.length - j < bs.length - i; omega⟩
        show sqBits bs = l ++ stepB bs ls i ++ sqF bs f' ls' j ++ oB (wd fixL 256)
        rw [hsq, hjj]
        simp only [List.append_assoc]
      obtain ⟨k', rfl⟩ : ∃ k', k = k' + 1 := ⟨k - 1, by omega⟩
      have hjl : j < bs.length := by omega
      refine k_skip ?_
      refine k_seq ?_
      refine k_block ?_
      refine k_seq ?_
      refine k_seq ?_
      refine k_region ?_
      refine m_int rfl rfl ?_
      refine n_add rfl rfl (by omega) ?_
      refine m_sl rfl rfl ?_
      refine o_lens Tryd.underlying25 rfl ?_
      refine b_leq rfl rfl ?_
      refine o_nil ?_
      refine k_cut (σ := Unit) (fun _ => [(0, .slice a bs.length c), (8, .pointer (some ⟨r, 0, none⟩)), (9, .map (some lm)), (10, .int .i64 (j : Int)), (11, .int .i64 ((k' + 1 : Nat) : Int))]) (fun _ w' => SqW lm w w' r lm rc rd (l ++ stepB bs ls i) (putL bs ls' j)) ?_ (fun _ e w18 hJ => ?_)
      ·
        refine k_cond rfl (fun h => ?_) (fun h => ?_)
        ·
          have h3 : j + 3 ≤ bs.length := by omega
          obtain ⟨b0, o0, rfl, _⟩ := hR.at j (by simp; omega)
          obtain ⟨m, hM, hm⟩ := hQ7.2.1
          refine k_region ?_
          refine m_map rfl rfl ?_
          refine m_sl rfl rfl ?_
          refine m_int rfl rfl ?_
          refine m_int rfl rfl ?_
          refine n_add rfl rfl (by omega) ?_
          refine o_sllh (sz := 1) (lo := j) (hi := j + 3) Tryd.underlying25 rfl rfl rfl rfl (by omega) (by omega) ?_
          rw [cut_some b0 o0 j c (by omega)]
          refine o_sarr Tryd.underlying85 rfl (by omega) ?_
          refine o_lda (xs := [.int .u8 ((bs.getD j 0#8).toNat : Int), .int .u8 ((bs.getD (j + 1) 0#8).toNat : Int), .int .u8 ((bs.getD (j + 2) 0#8).toNat : Int)]) rfl rfl rfl (key_cells hR hQ7.2.2.2.2 j h3) ?_
          refine m_int rfl rfl ?_
          refine o_mput (kv := kv3) (q := k3at bs j) Tryd.underlying84 key_m3 rfl rfl rfl hM (.inl rfl) (fun w18 hM8 hK8 hZ8 => ?_)
          refine o_nil ?_
          exact k_goal ⟨(), ⟨rfl, rfl, rfl, rfl, rfl, trivial⟩, hQ7.put hM hK8 hM8 (hm.put bs j h3) (Nat.le_refl _) (by omega)⟩
        refine k_skip ?_
        have hp : putL bs ls' j = ls' := by unfold putL; rw [if_neg (by omega)]
        rw [hp]
        exact k_goal ⟨(), ⟨rfl, rfl, rfl, rfl, rfl, trivial⟩, hQ7⟩
      clear hQ7
      have hQ7 := hJ
      refine k_region ?_
      refine m_int rfl rfl ?_
      refine n_add rfl rfl (by omega) ?_
      refine m_int rfl rfl ?_
      refine o_nil ?_
      refine k_blk ?_
      refine k_region ?_
      refine m_int rfl rfl ?_
      refine n_sub rfl rfl (by omega) ?_
      refine m_int rfl rfl ?_
      refine o_nil ?_
      exact k_goal ⟨(k', j + 1, putL bs ls' j), ⟨rfl, rfl, rfl, rfl, congrArg (Value.int .i64) (by omega), trivial⟩, ⟨by show k' + (j + 1) = _; omega, hpf, hLj.put, hQ7⟩, by show k' < k' + 1; omega⟩
    have hin : i < 32 := by omega
    obtain ⟨g', cur, hg', hB3, hsz⟩ := hS9.blk (by decide)
    obtain rfl : g9 = g' := by cases hg'; rfl
    refine k_skip ?_
    refine k_seq ?_
    refine k_block ?_
    refine k_seq ?_
    refine k_region ?_
    refine m_int rfl rfl ?_
    refine m_int rfl rfl ?_
    refine o_nil ?_
    refine k_region ?_
    refine m_sl rfl rfl ?_
    refine m_int rfl rfl ?_
    refine o_ixs1 (m := i) Tryd.underlying74 rfl rfl rfl hin ?_
    refine o_st (v := .int _ _) rfl rfl rfl rfl hB3 (by omega) (fun w5 hB4 hK4 hZ4 => ?_)
    have hS4 := hS9.set hin hB3 hB4
    refine o_nil ?_
    refine k_blk ?_
    refine k_region ?_
    refine n_add rfl rfl (by omega) ?_
    refine m_int rfl rfl ?_
    refine o_nil ?_
    refine k_goal ⟨i + 1, ⟨rfl, rfl, rfl, rfl, rfl, trivial⟩, ⟨by omega, hS8.keep hK4 (by intro q hq; cases hq; simp; exact hne), ?_, hk3.tr1 hK4 (by omega)⟩, by omega⟩
    rw [← tab_set, List.map_set]
    exact hS4
  have hin : i < 288 := by omega
  refine k_skip ?_
  refine k_seq ?_
  refine k_block ?_
  refine k_seq ?_
  refine k_region ?_
  refine m_int rfl rfl ?_
  refine m_int rfl rfl ?_
  refine o_nil ?_
  refine k_seq ?_
  refine k_region ?_
  refine m_sl rfl rfl ?_
  refine m_int rfl rfl ?_
  refine o_ixs1 (m := i) Tryd.underlying74 rfl rfl rfl hin ?_
  obtain ⟨g', cur, hg', hB3, hsz⟩ := hS8.blk (by decide)
  obtain rfl : g8 = g' := by cases hg'; rfl
  refine o_st (v := .int _ _) rfl rfl rfl rfl hB3 (by omega) (fun w4 hB4 hK4 hZ4 => ?_)
  have hS4 := hS8.set hin hB3 hB4
  have hS94 := hS9.keep hK4 (by intro q hq; cases hq; simp; exact fun hh => hne hh.symm)
  have hk4 := hk3.tr1 hK4 (by omega)
  refine o_nil ?_
  refine k_seq ?_
  refine k_seq ?_
  refine k_cut (σ := Unit) (fun _ => [(0, .slice a bs.length c), (4, .slice (some ⟨g8, 0, none⟩) 288 288), (5, .slice (some ⟨g9, 0, none⟩) 32 32), (6, .int .i64 (i : Int)), (22, .int .i64 288), (23, .int .i64 (i : Int)), (34, .bool (decide (144 ≤ i ∧ i < 256)))]) (fun _ w' => w' = w4) ?_ (fun _ e w5 hJ => ?_)
  ·
    refine k_region ?_
    refine m_int rfl rfl ?_
    refine b_geq rfl rfl ?_
    refine m_bool rfl rfl ?_
    refine o_split (t := 31) rfl (fun h => ?_) (fun h => ?_)
    ·
      refine g_yes rfl rfl ?_
      refine m_int rfl rfl ?_
      refine g_yes rfl rfl ?_
      refine b_lss rfl rfl ?_
      refine pick_t rfl rfl ?_
      refine o_nil ?_
      refine k_goal ⟨(), ⟨rfl, rfl, rfl, rfl, rfl, rfl, congrArg Value.bool (decide_eq_decide.2 ⟨fun hh => by omega, fun hh => by omega⟩), trivial⟩, rfl⟩
    ·
      refine g_no rfl rfl rfl ?_
      refine g_no rfl rfl rfl ?_
      refine pick_f rfl rfl ?_
      refine o_nil ?_
      refine k_goal ⟨(), ⟨rfl, rfl, rfl, rfl, rfl, rfl, congrArg Value.bool (decide_eq_false (fun hh => by omega)).symm, trivial⟩, rfl⟩
  subst hJ
  refine k_cut (σ := Unit) (fun _ => [(0, .slice a bs.length c), (4, .slice (some ⟨g8, 0, none⟩) 288 288), (5, .slice (some ⟨g9, 0, none⟩) 32 32), (6, .int .i64 (i : Int)), (22, .int .i64 288), (23, .int .i64 (i : Int))]) (fun _ w' => Sl w' 3 1 (some ⟨g8, 0, none⟩) 288 288 (((tab fixV 288 i).set i (if 144 ≤ i ∧ i < 256 then 9 else 8)).map iv) ∧ Sl w' 3 1 (some ⟨g9, 0, none⟩) 32 32 ((tab (fun _ => 5) 32 0).map iv) ∧ Keep [] w w') ?_ (fun _ e w6 hJ => ?_)
  ·
    refine k_cond rfl (fun h => ?_) (fun h => ?_)
    ·
      obtain ⟨g', cur, hg', hB5, hsz⟩ := hS4.blk (by decide)
      obtain rfl : g8 = g' := by cases hg'; rfl
      refine k_region ?_
      refine m_sl rfl rfl ?_
      refine m_int rfl rfl ?_
      refine o_ixs1 (m := i) Tryd.underlying74 rfl rfl rfl hin ?_
      refine o_st (v := .int _ _) rfl rfl rfl rfl hB5 (by omega) (fun w7 hB7 hK7 hZ7 => ?_)
      have hS7 := hS4.set hin hB5 hB7
      have hS97 := hS94.keep hK7 (by intro q hq; cases hq; simp; exact fun hh => hne hh.symm)
      refine o_nil ?_
      refine k_goal ⟨(), ⟨rfl, rfl, rfl, rfl, rfl, rfl, trivial⟩, ?_, hS97, hk4.tr1 hK7 (by omega)⟩
      rw [if_pos h, List.map_set]
      rw [List.set_set] at hS7
      exact hS7
    refine k_skip ?_
    refine k_goal ⟨(), ⟨rfl, rfl, rfl, rfl, rfl, rfl, trivial⟩, ?_, hS94, hk4⟩
    rw [if_neg h, List.map_set]
    exact hS4
  clear hS4 hS94 hk4 hS8 hS9 hB3 hB4
  obtain ⟨hS4, hS94, hk4⟩ := hJ
  refine k_seq ?_
  refine k_cut (σ := Unit) (fun _ => [(0, .slice a bs.length c), (4, .slice (some ⟨g8, 0, none⟩) 288 288), (5, .slice (some ⟨g9, 0, none⟩) 32 32), (6, .int .i64 (i : Int)), (22, .int .i64 288), (23, .int .i64 (i : Int)), (43, .bool (decide (256 ≤ i ∧ i < 280)))]) (fun _ w' => w' = w6) ?_ (fun _ e w7 hJ => ?_)
  ·
    refine k_region ?_
    refine m_int rfl rfl ?_
    refine b_geq rfl rfl ?_
    refine m_bool rfl rfl ?_
    refine o_split (t := 40) rfl (fun h => ?_) (fun h => ?_)
    ·
      refine g_yes rfl rfl ?_
      refine m_int rfl rfl ?_
      refine g_yes rfl rfl ?_
      refine b_lss rfl rfl ?_
      refine pick_t rfl rfl ?_
      refine o_nil ?_
      refine k_goal ⟨(), ⟨rfl, rfl, rfl, rfl, rfl, rfl, congrArg Value.bool (decide_eq_decide.2 ⟨fun hh => by omega, fun hh => by omega⟩), trivial⟩, rfl⟩
    ·
      refine g_no rfl rfl rfl ?_
      refine g_no rfl rfl rfl ?_
      refine pick_f rfl rfl ?_
      refine o_nil ?_
      refine k_goal ⟨(), ⟨rfl, rfl, rfl, rfl, rfl, rfl, congrArg Value.bool (decide_eq_false (fun hh => by omega)).symm, trivial⟩, rfl⟩
  subst hJ
  refine k_cond rfl (fun h => ?_) (fun h => ?_)
  ·
    obtain ⟨g', cur, hg', hB5, hsz⟩ := hS4.blk (by decide)
    obtain rfl : g8 = g' := by cases hg'; rfl
    refine k_region ?_
    refine m_sl rfl rfl ?_
    refine m_int rfl rfl ?_
    refine o_ixs1 (m := i) Tryd.underlying74 rfl rfl rfl hin ?_
    refine o_st (v := .int _ _) rfl rfl rfl rfl hB5 (by omega) (fun w8 hB8 hK8 hZ8 => ?_)
    have hS8 := hS4.set hin hB5 hB8
    have hS98 := hS94.keep hK8 (by intro q hq; cases hq; simp; exact fun hh => hne hh.symm)
    refine o_nil ?_
    refine k_blk ?_
    refine k_region ?_
    refine n_add rfl rfl (by omega) ?_
    refine m_int rfl rfl ?_
    refine o_nil ?_
    refine k_goal ⟨i + 1, ⟨rfl, rfl, rfl, rfl, rfl, trivial⟩, ⟨by omega, ?_, hS98, hk4.tr1 hK8 (by omega)⟩, by omega⟩
    rw [List.map_set, List.set_set] at hS8
    rw [← tab_set, List.map_set, show fixV i = 7 from if_pos h]
    exact hS8
  refine k_skip ?_
  refine k_blk ?_
  refine k_region ?_
  refine n_add rfl rfl (by omega) ?_
  refine m_int rfl rfl ?_
  refine o_nil ?_
  refine k_goal ⟨i + 1, ⟨rfl, rfl, rfl, rfl, rfl, trivial⟩, ⟨by omega, ?_, hS94, hk4⟩, by omega⟩
  rw [← tab_set, show fixV i = (if 144 ≤ i ∧ i < 256 then 9 else 8) from if_neg h]
  exact hS4
end Go.Proofs.YtiapgmfooclpcaaDoor
