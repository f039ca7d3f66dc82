/- Ops: the reference's numbers and ways. No condition beyond what each contract names. -/
import Derived.Test.YtmdkinedbmjieaaOs
namespace Go.Proofs.Ytmdkinedbmjieaa
open Go.RowKit E
set_option linter.unusedVariables false
set_option linter.unusedSimpArgs false
set_option maxRecDepth 100000
attribute [local irreducible] ow qw kw kq cw opW Ret
theorem inf76 : infB Try.prog 76 3 40 (.agg #[.slice none 0 0, .int .i64 0, .bool false]) := ⟨_, rfl, rfl, rfl, rfl⟩
theorem number_ok (w : World) (a : Option Addr) (c : Nat) (l : Bs) (hR : Rd w a (l.map u8v)) (h7 : l.length ≤ 7) :
    Ret Try.prog 40 [.slice a l.length c] w (fun v w' => v = .int .i64 (bigN l : Int) ∧ w' = w) := by
  refine fn_enter (n := 20) Try.func40 rfl rfl (Nat.le_of_ble_eq_true rfl) (fun e => ?_)
  refine k_seq ?_
  refine k_region ?_
  refine m_int rfl rfl ?_
  refine o_nil ?_
  refine k_seq ?_
  refine k_region ?_
  refine m_int rfl rfl ?_
  refine o_nil ?_
  refine k_seq ?_
  refine k_seq ?_
  refine k_region ?_
  refine m_int rfl rfl ?_
  refine o_nil ?_
  refine k_block ?_
  refine k_loop (σ := Nat) (fun i => [(0, .slice a l.length c), (3, .int .i64 (bigN (l.take i) : Int)), (4, .int .i64 (i : Int))]) (fun i w' => i ≤ l.length ∧ w' = w) (fun i => l.length - i) 0 ⟨rfl, rfl, rfl, trivial⟩ ⟨Nat.zero_le _, rfl⟩ (fun i e w1 hJ => ?_)
  obtain ⟨hi, rfl⟩ := hJ
  refine k_seq ?_
  refine k_seq ?_
  refine k_region ?_
  refine m_int rfl rfl ?_
  refine m_sl rfl rfl ?_
  refine o_lens Try.underlying22 rfl ?_
  refine b_lss rfl rfl ?_
  refine o_nil ?_
  refine k_cond rfl (fun h => ?_) (fun h => ?_)
  rotate_left
  ·
    refine k_exit rfl ?_
    refine k_seq ?_
    refine k_region ?_
    refine m_int rfl rfl ?_
    refine m_int rfl rfl ?_
    refine o_nil ?_
    refine k_ret (ret_tmps (ts := [2]) (v := .int _ _) rfl rfl ?_)
    refine ⟨?_, rfl⟩
    rw [List.take_of_length_le (by omega)]
  have hin : i < l.length := by omega
  obtain ⟨b1, o1, rfl, hcell⟩ := hR.at i (by simpa using hin)
  have hlt : bigN (l.take i) < 256 ^ 6 := by
   refine Nat.lt_of_lt_of_le (bigN_lt _) (Nat.pow_le_pow_right (by decide) ?_)
   rw [List.length_take]; omega
  have hbl := (l[i]).isLt
  refine k_skip ?_
  refine k_seq ?_
  refine k_block ?_
  refine k_region ?_
  refine m_int rfl rfl ?_
  refine n_mul rfl rfl (by omega) ?_
  refine m_sl rfl rfl ?_
  refine m_int rfl rfl ?_
  refine o_ixs1 Try.underlying22 rfl rfl rfl hin ?_
  refine o_ld (v := .int .u8 ((l[i]).toNat : Int)) rfl rfl (by rw [hcell, List.getElem_map]; rfl) ?_
  refine cv8_i rfl Try.underlying2 rfl ?_
  refine n_add rfl rfl (by omega) ?_
  refine m_int rfl rfl ?_
  refine o_nil ?_
  refine k_blk ?_
  refine k_region ?_
  refine m_int rfl rfl ?_
  refine n_add rfl rfl (by omega) ?_
  refine m_int rfl rfl ?_
  refine o_nil ?_
  refine k_goal ⟨i + 1, ⟨rfl, ?_, rfl, trivial⟩, ⟨by omega, rfl⟩, by omega⟩
  refine congrArg (Value.int .i64) ?_
  rw [List.take_succ_eq_append_getElem hin, bigN_snoc]
  simp
theorem bytes_ok (w : World) (b p n c : Nat) (a : Option Addr) (cs : Bs) (hB : Blk w b #[.slice a cs.length c, iv p, .bool false] 76) (hR : Rd w a (cs.map u8v)) (hoff : Off [b] a) (hc : cs.length ≤ c) (hl : cs.length ≤ 9223372036854775807) (hp : p + n ≤ cs.length) (h1 : 1 ≤ n) (h8 : n ≤ 8) :
    Ret Try.prog 41 [.pointer (some ⟨b, 0, none⟩), .int .i64 (n : Int)] w (fun v w' => New w w' 5 v (((cs.drop p).take n).map u8v) ∧ Keep [b] w w' ∧ Blk w' b #[.slice a cs.length c, iv ((p + n : Nat) : Int), .bool false] 76) := by
  refine fn_enter (n := 56) Try.func41 rfl rfl (Nat.le_of_ble_eq_true rfl) (fun e => ?_)
  refine k_seq ?_
  refine k_region ?_
  refine m_sl rfl rfl ?_
  refine o_nil ?_
  refine k_seq ?_
  refine k_seq ?_
  refine k_qk 20 rfl rfl rfl rfl rfl ?_
  refine q_step (fun w1 hC => m_ptr rfl rfl (o_nil ⟨rfl, hC⟩)) ?_
  refine q_step (fun w1 hC => o_nilc rfl (o_nil ⟨rfl, hC⟩)) ?_
  refine q_step (fun w1 hC => o_fld (off := 2) rfl rfl (o_nil ⟨rfl, hC⟩)) ?_
  refine q_step (fun w1 hC => o_ld rfl rfl (by first | exact hB.kat hC rfl | exact hB.at rfl) (o_nil ⟨rfl, hC⟩)) ?_
  refine q_step (fun w1 hC => m_bool rfl rfl (o_nil ⟨rfl, hC⟩)) ?_
  refine q_false (t := 9) (p := False) rfl id ?_
  refine q_step (fun w1 hC => g_yes rfl rfl (m_int rfl rfl (o_nil ⟨rfl, hC⟩))) ?_
  refine q_step (fun w1 hC => g_yes rfl rfl (b_lss rfl rfl (o_nil ⟨rfl, hC⟩))) ?_
  refine q_step (fun w1 hC => pick_f rfl rfl (o_nil ⟨rfl, hC⟩)) ?_
  refine q_step (fun w1 hC => m_bool rfl rfl (o_nil ⟨rfl, hC⟩)) ?_
  refine q_false (t := 13) rfl ((by omega)) ?_
  refine q_step (fun w1 hC => g_yes rfl rfl (m_int rfl rfl (o_nil ⟨rfl, hC⟩))) ?_
  refine q_step (fun w1 hC => g_yes rfl rfl (m_ptr rfl rfl (o_nil ⟨rfl, hC⟩))) ?_
  refine q_step (fun w1 hC => g_yes rfl rfl (o_nilc rfl (o_nil ⟨rfl, hC⟩))) ?_
  refine q_step (fun w1 hC => g_yes rfl rfl (o_fld0 rfl rfl (o_nil ⟨rfl, hC⟩))) ?_
  refine q_step (fun w1 hC => g_yes rfl rfl (o_ld rfl rfl (by first | exact hB.kat hC rfl | exact hB.at rfl) (o_nil ⟨rfl, hC⟩))) ?_
  refine q_step (fun w1 hC => g_yes rfl rfl (o_lens Try.underlying22 rfl (o_nil ⟨rfl, hC⟩))) ?_
  refine q_step (fun w1 hC => g_yes rfl rfl (m_ptr rfl rfl (o_nil ⟨rfl, hC⟩))) ?_
  refine q_step (fun w1 hC => g_yes rfl rfl (o_nilc rfl (o_nil ⟨rfl, hC⟩))) ?_
  refine q_step (fun w1 hC => g_yes rfl rfl (o_fld (off := 1) rfl rfl (o_nil ⟨rfl, hC⟩))) ?_
  refine q_step (fun w1 hC => g_yes rfl rfl (o_ld rfl rfl (by first | exact hB.kat hC rfl | exact hB.at rfl) (o_nil ⟨rfl, hC⟩))) ?_
  refine q_step (fun w1 hC => g_yes rfl rfl (n_sub rfl rfl (by omega) (o_nil ⟨rfl, hC⟩))) ?_
  refine q_nil ?_
  intro w1 hC1
  have hB1 := hB.keep hC1 (by simp)
  refine g_yes rfl rfl ?_
  refine b_gtr rfl rfl ?_
  refine pick_f rfl rfl ?_
  refine o_nil ?_
  refine k_no rfl ((by omega)) ?_
  refine k_skip ?_
  refine k_seq ?_
  refine k_region ?_
  refine m_ptr rfl rfl ?_
  refine m_ptr rfl rfl ?_
  refine o_nilc rfl ?_
  refine o_fld (off := 1) rfl rfl ?_
  refine o_ld (v := iv p) rfl rfl (hB1.at rfl) ?_
  refine m_int rfl rfl ?_
  refine n_add rfl rfl (by omega) ?_
  refine o_nilc rfl ?_
  refine o_fld (off := 1) rfl rfl ?_
  refine o_st (v := iv ((p : Int) + n)) rfl rfl rfl rfl hB1 (show 1 < 3 by decide) (fun w2 hB2 hK2 hZ2 => ?_)
  have hB2' : Blk w2 b #[.slice a cs.length c, iv ((p + n : Nat) : Int), .bool false] 76 := by rw [Int.natCast_add]; exact hB2
  have hK02 : Keep [b] w w2 := hC1.also.trans hK2 (fun _ h _ => h)
  have hR2 := hR.keep hK02 hoff
  have hdr : w2.drew.heap.size = w2.heap.size := rfl
  have hD2 : Keep [] w2 w2.drew := (Keep.refl [] w2).drew
  refine o_nil ?_
  refine k_seq ?_
  refine k_any 16 (fun w w' => Keep [] w w') (fun iA => match iA with
      | 0 => fun v w => ∃ g, v = .slice (some ⟨g, 0, none⟩) 0 0 ∧ Blk w g #[] 5 ∧ w2.heap.size ≤ g
      | 1 => fun v w => v = .pointer (some ⟨b, 0, none⟩)
      | 2 => fun v w => v = .pointer (some ⟨b, 0, none⟩)
      | 3 => fun v w => v = .pointer (some ⟨b, 0, none⟩)
      | 4 => fun v w => v = .slice a cs.length c
      | 5 => fun v w => v = .pointer (some ⟨b, 0, none⟩)
      | 6 => fun v w => v = .pointer (some ⟨b, 0, none⟩)
      | 7 => fun v w => v = .pointer (some ⟨b, 1, none⟩)
      | 8 => fun v w => v = .int .i64 ((p + n : Nat) : Int)
      | 9 => fun v w => v = .int .i64 (n : Int)
      | 10 => fun v w => v = .int .i64 (p : Int)
      | 11 => fun v w => v = .pointer (some ⟨b, 0, none⟩)
      | 12 => fun v w => v = .pointer (some ⟨b, 0, none⟩)
      | 13 => fun v w => v = .pointer (some ⟨b, 1, none⟩)
      | 14 => fun v w => v = .int .i64 ((p + n : Nat) : Int)
      | 15 => fun v w => v = .slice (cutAt a p c 1) (p + n - p) (c - p)
      | _ => fun v w => True) rfl rfl rfl rfl rfl (Keep.refl []) (fun _ _ _ h1 h2 => h1.tr h2) ?_ ?_ ?_
  · intro iA v w w' h hL
    match iA, h with
    | 0, h =>
      obtain ⟨g, h1, h2, h3⟩ := h
      exact ⟨g, h1, h2.keep hL (by simp), h3⟩
    | 1, h =>
      exact h
    | 2, h =>
      exact h
    | 3, h =>
      exact h
    | 4, h =>
      exact h
    | 5, h =>
      exact h
    | 6, h =>
      exact h
    | 7, h =>
      exact h
    | 8, h =>
      exact h
    | 9, h =>
      exact h
    | 10, h =>
      exact h
    | 11, h =>
      exact h
    | 12, h =>
      exact h
    | 13, h =>
      exact h
    | 14, h =>
      exact h
    | 15, h =>
      exact h
    | _ + 16, h => trivial
  · intro iA o him hl eA wA hL hA hD
    match iA, him, hl with
    | 0, _, hl =>
      obtain rfl := Option.some.inj hl
      refine o_gen [] trivial (fun e2 => ?_)
      refine o_bsl (E := 5) (cs := #[]) rfl (fun _ => by kernel_rfl) (fun g w3 hB3 hK3 hb3 hZ3 => ?_)
      refine o_nil ⟨hK3, g, rfl, hB3, by have := hL.size; omega⟩
    | 1, _, hl =>
      obtain rfl := Option.some.inj hl
      refine o_gen [(0, _)] ⟨hA 0 (free_of rfl), trivial⟩ (fun e2 => ?_)
      refine m_ptr rfl rfl ?_
      refine o_nil ⟨Keep.refl _ _, rfl⟩
    | 2, _, hl =>
      obtain rfl := Option.some.inj hl
      refine o_gen [(40, _)] ⟨hD 1 (by decide) 40 rfl, trivial⟩ (fun e2 => ?_)
      refine o_nilc rfl ?_
      refine o_nil ⟨Keep.refl _ _, rfl⟩
    | 3, _, hl =>
      obtain rfl := Option.some.inj hl
      refine o_gen [(41, _)] ⟨hD 2 (by decide) 41 rfl, trivial⟩ (fun e2 => ?_)
      refine o_fld0 rfl rfl ?_
      refine o_nil ⟨Keep.refl _ _, rfl⟩
    | 4, _, hl =>
      obtain rfl := Option.some.inj hl
      refine o_gen [(42, _)] ⟨hD 3 (by decide) 42 rfl, trivial⟩ (fun e2 => ?_)
      refine o_ld rfl rfl ((hB2'.keep (hD2.tr hL) (by simp)).at rfl) ?_
      refine o_nil ⟨Keep.refl _ _, rfl⟩
    | 5, _, hl =>
      obtain rfl := Option.some.inj hl
      refine o_gen [(0, _)] ⟨hA 0 (free_of rfl), trivial⟩ (fun e2 => ?_)
      refine m_ptr rfl rfl ?_
      refine o_nil ⟨Keep.refl _ _, rfl⟩
    | 6, _, hl =>
      obtain rfl := Option.some.inj hl
      refine o_gen [(44, _)] ⟨hD 5 (by decide) 44 rfl, trivial⟩ (fun e2 => ?_)
      refine o_nilc rfl ?_
      refine o_nil ⟨Keep.refl _ _, rfl⟩
    | 7, _, hl =>
      obtain rfl := Option.some.inj hl
      refine o_gen [(45, _)] ⟨hD 6 (by decide) 45 rfl, trivial⟩ (fun e2 => ?_)
      refine o_fld (off := 1) rfl rfl ?_
      refine o_nil ⟨Keep.refl _ _, rfl⟩
    | 8, _, hl =>
      obtain rfl := Option.some.inj hl
      refine o_gen [(46, _)] ⟨hD 7 (by decide) 46 rfl, trivial⟩ (fun e2 => ?_)
      refine o_ld rfl rfl ((hB2'.keep (hD2.tr hL) (by simp)).at rfl) ?_
      refine o_nil ⟨Keep.refl _ _, rfl⟩
    | 9, _, hl =>
      obtain rfl := Option.some.inj hl
      refine o_gen [(1, _)] ⟨hA 1 (free_of rfl), trivial⟩ (fun e2 => ?_)
      refine m_int rfl rfl ?_
      refine o_nil ⟨Keep.refl _ _, rfl⟩
    | 10, _, hl =>
      obtain rfl := Option.some.inj hl
      refine o_gen [(47, _), (48, _)] ⟨hD 8 (by decide) 47 rfl, hD 9 (by decide) 48 rfl, trivial⟩ (fun e2 => ?_)
      refine n_sub rfl rfl (by omega) ?_
      refine o_nil ⟨Keep.refl _ _, show Value.int .i64 (((p + n : Nat) : Int) - (n : Int)) = _ from congrArg (Value.int .i64) (by omega)⟩
    | 11, _, hl =>
      obtain rfl := Option.some.inj hl
      refine o_gen [(0, _)] ⟨hA 0 (free_of rfl), trivial⟩ (fun e2 => ?_)
      refine m_ptr rfl rfl ?_
      refine o_nil ⟨Keep.refl _ _, rfl⟩
    | 12, _, hl =>
      obtain rfl := Option.some.inj hl
      refine o_gen [(50, _)] ⟨hD 11 (by decide) 50 rfl, trivial⟩ (fun e2 => ?_)
      refine o_nilc rfl ?_
      refine o_nil ⟨Keep.refl _ _, rfl⟩
    | 13, _, hl =>
      obtain rfl := Option.some.inj hl
      refine o_gen [(51, _)] ⟨hD 12 (by decide) 51 rfl, trivial⟩ (fun e2 => ?_)
      refine o_fld (off := 1) rfl rfl ?_
      refine o_nil ⟨Keep.refl _ _, rfl⟩
    | 14, _, hl =>
      obtain rfl := Option.some.inj hl
      refine o_gen [(52, _)] ⟨hD 13 (by decide) 52 rfl, trivial⟩ (fun e2 => ?_)
      refine o_ld rfl rfl ((hB2'.keep (hD2.tr hL) (by simp)).at rfl) ?_
      refine o_nil ⟨Keep.refl _ _, rfl⟩
    | 15, _, hl =>
      obtain rfl := Option.some.inj hl
      refine o_gen [(43, _), (49, _), (53, _)] ⟨hD 4 (by decide) 43 rfl, hD 10 (by decide) 49 rfl, hD 14 (by decide) 53 rfl, trivial⟩ (fun e2 => ?_)
      refine o_sllh (sz := 1) (lo := p) (hi := p + n) Try.underlying22 rfl rfl rfl rfl (by omega) (by omega) ?_
      refine o_nil ⟨Keep.refl _ _, rfl⟩
    | _ + 16, him, _ => exact absurd him (by omega)
  intro eA wA hL hA hV
  obtain ⟨g, hg1, hg2, hg3⟩ := hV 0 (by decide) 39 rfl
  refine o_gen [(39, .slice (some ⟨g, 0, none⟩) 0 0), (54, .slice (cutAt a p c 1) (p + n - p) (c - p))] ⟨hg1, hV 15 (by decide) 54 rfl, trivial⟩ (fun e => ?_)
  have hLA : Keep [] w2 wA := hD2.tr hL
  have hR3 : Rd wA (cutAt a p c 1) (((cs.drop p).take n).map u8v) := by
   have := (cutAt_rd (lo := p) (cap := c) (sz := 1) (hR2.new hLA) (by simp; omega) (by omega) (by simp; exact hc)).take n
   rw [Nat.mul_one, ← List.map_drop, ← List.map_take] at this
   exact this
  have hln : ((cs.drop p).take n).length = n := by rw [List.length_take, List.length_drop]; omega
  change ow _ _ _ _ [_, _] _ _
  refine o_app Try.underlying22 inf5 rfl (by decide) rfl rfl (hg2.sl (sz := 1) (len := 0) rfl (by decide)) hR3 (by rw [List.length_map, hln]; omega) (u8_one _) (by simp [maxLen]; omega) (by omega) (fun a2 c2 w4 hS4 hK4 hv4 => ?_)
  have hf4 := fresh_app (k := w2.heap.size) (w := wA) (w' := w4) (a := some ⟨g, 0, none⟩) (a2 := a2) (by intro q hq; cases hq; exact hg3) hLA.size hv4
  have hK24 : Keep [] w2 w4 := hLA.trb hK4 (by intro q hq; cases hq; exact hg3)
  refine m_sl rfl rfl ?_
  refine o_nil ?_
  refine k_ret (ret_tmps (ts := [4]) (v := .slice _ _ _) rfl rfl ?_)
  refine ⟨⟨a2, c2, ?_, ?_, fun q hq => ?_⟩, hK02.trans hK24 (by simp), hB2'.keep hK24 (by simp)⟩
  · rw [List.length_map, hln, show 0 + (p + n - p) = n by omega]
  · rw [List.length_map, hln]
    have := hS4
    rwa [Array.toList_empty, List.nil_append, show 0 + (p + n - p) = n by omega] at this
  · have := hf4 q hq; have := hK02.size; omega
theorem rnum_ok (w : World) (b p n c : Nat) (a : Option Addr) (cs : Bs) (hB : Blk w b #[.slice a cs.length c, iv p, .bool false] 76) (hR : Rd w a (cs.map u8v)) (hoff : Off [b] a) (hc : cs.length ≤ c) (hl : cs.length ≤ 9223372036854775807) (hp : p + n ≤ cs.length) (h1 : 1 ≤ n) (h8 : n ≤ 4) :
    Ret Try.prog 39 [.pointer (some ⟨b, 0, none⟩), .int .i64 (n : Int)] w (fun v w' => v = .int .i64 (numZ cs p n : Int) ∧ Keep [b] w w' ∧ Blk w' b #[.slice a cs.length c, iv ((p + n : Nat) : Int), .bool false] 76) := by
  refine fn_enter (n := 18) Try.func39 rfl rfl (Nat.le_of_ble_eq_true rfl) (fun e => ?_)
  refine k_seq ?_
  refine k_region ?_
  refine m_int rfl rfl ?_
  refine o_nil ?_
  refine k_seq ?_
  refine k_seq ?_
  refine k_region ?_
  refine m_int rfl rfl ?_
  refine b_lss rfl rfl ?_
  refine m_bool rfl rfl ?_
  refine o_false (t := 7) rfl ((by omega)) ?_
  refine g_yes rfl rfl ?_
  refine m_int rfl rfl ?_
  refine g_yes rfl rfl ?_
  refine b_gtr rfl rfl ?_
  refine pick_f rfl rfl ?_
  refine o_nil ?_
  refine k_no rfl ((by omega)) ?_
  refine k_skip ?_
  refine k_seq ?_
  refine k_region ?_
  refine m_ptr rfl rfl ?_
  refine m_int rfl rfl ?_
  refine o_call rfl rfl (bytes_ok w b p n c a cs hB hR hoff hc hl hp h1 (by omega)) (fun v w1 hv => ?_)
  obtain ⟨⟨a2, c2, rfl, hS2, _⟩, hK1, hB1⟩ := hv
  have hln : (((cs.drop p).take n).map u8v).length = ((cs.drop p).take n).length := by simp
  rw [hln]
  refine o_call rfl rfl (number_ok w1 a2 c2 ((cs.drop p).take n) hS2.rd (by rw [List.length_take]; omega)) (fun v w2 hv => ?_)
  obtain ⟨rfl, rfl⟩ := hv
  rw [← numZ_in hp]
  refine m_int rfl rfl ?_
  refine o_nil ?_
  refine k_ret (ret_tmps (ts := [4]) (v := .int _ _) rfl rfl ?_)
  exact ⟨rfl, hK1, hB1⟩
def sgn (n v : Nat) : Int := if 2 * v < 256 ^ n then (v : Int) else (v : Int) - ((256 ^ n : Nat) : Int)
theorem half64 (M : Nat) (h : M ≤ 4294967296) : IntKind.i64.wrap ((M : Int).tdiv 2) = ((M / 2 : Nat) : Int) := by
  rw [show ((M : Int).tdiv 2) = ((M / 2 : Nat) : Int) from rfl]
  exact wrap_in ⟨by simp [IntKind.min, IntKind.signed, IntKind.bits]; omega, by simp [IntKind.max, IntKind.signed, IntKind.bits]; omega⟩
theorem mul64 (M : Nat) (h : M ≤ 256 ^ 3) : -9223372036854775808 ≤ (M : Int) * 256 ∧ (M : Int) * 256 ≤ 9223372036854775807 := by omega
theorem signed_ok (w : World) (b p n c : Nat) (a : Option Addr) (cs : Bs) (hB : Blk w b #[.slice a cs.length c, iv p, .bool false] 76) (hR : Rd w a (cs.map u8v)) (hoff : Off [b] a) (hc : cs.length ≤ c) (hl : cs.length ≤ 9223372036854775807) (hp : p + n ≤ cs.length) (h1 : 1 ≤ n) (h8 : n ≤ 4) :
    Ret Try.prog 34 [.pointer (some ⟨b, 0, none⟩), .int .i64 (n : Int)] w (fun v w' => v = .int .i64 (sgn n (numZ cs p n)) ∧ Keep [b] w w') := by
  have hlt := numZ_lt cs p n
  have h256 : ∀ i, i ≤ 4 → 256 ^ i ≤ 4294967296 := fun i hi => Nat.pow_le_pow_right (n := 256) (by decide) hi
  refine fn_enter (n := 35) Try.func34 rfl rfl (Nat.le_of_ble_eq_true rfl) (fun e => ?_)
  refine k_seq ?_
  refine k_region ?_
  refine m_int rfl rfl ?_
  refine o_nil ?_
  refine k_seq ?_
  refine k_region ?_
  refine m_ptr rfl rfl ?_
  refine m_int rfl rfl ?_
  refine o_call rfl rfl (rnum_ok w b p n c a cs hB hR hoff hc hl hp h1 h8) (fun v w1 hv => ?_)
  obtain ⟨rfl, hK1, hB1⟩ := hv
  refine m_int rfl rfl ?_
  refine o_nil ?_
  refine k_seq ?_
  refine k_seq ?_
  refine k_region ?_
  refine m_ptr rfl rfl ?_
  refine o_nilc rfl ?_
  refine o_fld (off := 2) rfl rfl ?_
  refine o_ld (v := .bool false) rfl rfl (hB1.at rfl) ?_
  refine m_bool rfl rfl ?_
  refine o_false (t := 15) (p := False) rfl id ?_
  refine g_yes rfl rfl ?_
  refine m_int rfl rfl ?_
  refine g_yes rfl rfl ?_
  refine b_eql rfl rfl ?_
  refine pick_f rfl rfl ?_
  refine o_nil ?_
  refine k_no rfl ((by omega)) ?_
  refine k_skip ?_
  refine k_seq ?_
  refine k_region ?_
  refine m_int rfl rfl ?_
  refine o_nil ?_
  refine k_seq ?_
  refine k_seq ?_
  refine k_region ?_
  refine m_int rfl rfl ?_
  refine o_nil ?_
  refine k_block ?_
  refine k_loop (σ := Nat) (fun i => [(1, .int .i64 (n : Int)), (5, .int .i64 (numZ cs p n : Int)), (6, .int .i64 ((256 ^ i : Nat) : Int)), (7, .int .i64 (i : Int))]) (fun i w' => i ≤ n ∧ w' = w1) (fun i => n - i) 0 ⟨rfl, rfl, rfl, rfl, trivial⟩ ⟨Nat.zero_le _, rfl⟩ (fun i e w2 hJ => ?_)
  obtain ⟨hi, rfl⟩ := hJ
  refine k_seq ?_
  refine k_seq ?_
  refine k_region ?_
  refine m_int rfl rfl ?_
  refine m_int rfl rfl ?_
  refine b_lss rfl rfl ?_
  refine o_nil ?_
  refine k_cond rfl (fun h => ?_) (fun h => ?_)
  rotate_left
  ·
    have hie : i = n := by omega
    subst hie
    have hb := h256 i h8
    have hq := half64 (256 ^ i) hb
    have hev : 256 ^ i / 2 * 2 = 256 ^ i := by
     obtain ⟨j, rfl⟩ : ∃ j, i = j + 1 := ⟨i - 1, by omega⟩
     rw [Nat.pow_succ]; omega
    refine k_exit rfl ?_
    refine k_seq ?_
    refine k_seq ?_
    refine k_region ?_
    refine m_int rfl rfl ?_
    refine m_int rfl rfl ?_
    refine b_quo rfl rfl (by omega) ?_
    rw [hq]
    refine b_geq rfl rfl ?_
    refine o_nil ?_
    refine k_cut (σ := Unit) (fun s => [(5, .int .i64 (sgn i (numZ cs p i)))]) (fun s w' => w' = w2) ?_ (fun s e w3 hJ => ?_)
    ·
      refine k_cond rfl (fun h => ?_) (fun h => ?_)
      ·
        refine k_region ?_
        refine m_int rfl rfl ?_
        refine m_int rfl rfl ?_
        refine n_sub rfl rfl (by omega) ?_
        refine m_int rfl rfl ?_
        refine o_nil ?_
        refine k_goal ⟨(), ⟨congrArg (Value.int .i64) ?_, trivial⟩, rfl⟩
        unfold sgn
        rw [if_neg (by omega)]
      refine k_skip ?_
      refine k_goal ⟨(), ⟨congrArg (Value.int .i64) ?_, trivial⟩, rfl⟩
      unfold sgn
      rw [if_pos (by omega)]
    subst hJ
    refine k_seq ?_
    refine k_region ?_
    refine m_int rfl rfl ?_
    refine m_int rfl rfl ?_
    refine o_nil ?_
    refine k_ret (ret_tmps (ts := [4]) (v := .int _ _) rfl rfl ?_)
    exact ⟨rfl, hK1⟩
  refine k_skip ?_
  refine k_seq ?_
  refine k_block ?_
  refine k_region ?_
  refine m_int rfl rfl ?_
  have h3 : 256 ^ i ≤ 256 ^ 3 := Nat.pow_le_pow_right (by decide) (by omega)
  refine n_mul rfl rfl (mul64 _ h3) ?_
  refine m_int rfl rfl ?_
  refine o_nil ?_
  refine k_blk ?_
  refine k_region ?_
  refine m_int rfl rfl ?_
  refine n_add rfl rfl (by omega) ?_
  refine m_int rfl rfl ?_
  refine o_nil ?_
  refine k_goal ⟨i + 1, ⟨rfl, rfl, ?_, rfl, trivial⟩, ⟨by omega, rfl⟩, by omega⟩
  refine congrArg (Value.int .i64) ?_
  rw [Nat.pow_succ, Int.natCast_mul]; rfl
theorem num2_ok (w : World) (a : Option Addr) (c p n : Nat) (cs : Bs) (hR : Rd w a (cs.map u8v)) (hc : cs.length ≤ c) (hl : cs.length ≤ 9223372036854775807) (hp : p ≤ 4611686018427387904) (h1 : 1 ≤ n) (h8 : n ≤ 4) :
    Ret Try.prog 28 [.slice a cs.length c, .int .i64 (p : Int), .int .i64 (n : Int)] w (fun v w' => v = .tuple #[.int .i64 (if p + n ≤ cs.length then sgn n (numZ cs p n) else 0), .bool (decide (p + n ≤ cs.length))] ∧ Keep [] w w') := by
  refine fn_enter (n := 20) Try.func28 rfl rfl (Nat.le_of_ble_eq_true rfl) (fun e => ?_)
  refine k_seq ?_
  refine k_region ?_
  refine m_int rfl rfl ?_
  refine m_bool rfl rfl ?_
  refine o_nil ?_
  refine k_seq ?_
  refine k_seq ?_
  refine k_region ?_
  refine m_int rfl rfl ?_
  refine m_sl rfl rfl ?_
  refine o_lens Try.underlying22 rfl ?_
  refine m_int rfl rfl ?_
  refine n_sub rfl rfl (by omega) ?_
  refine b_gtr rfl rfl ?_
  refine o_nil ?_
  refine k_cond rfl (fun h => ?_) (fun h => ?_)
  ·
    refine k_seq ?_
    refine k_region ?_
    refine m_int rfl rfl ?_
    refine m_bool rfl rfl ?_
    refine o_nil ?_
    refine k_ret (ret_tmps (ts := [6, 7]) (v := .tuple #[.int _ _, .bool _]) rfl rfl ?_)
    exact ⟨by rw [if_neg (by omega), decide_eq_false (by omega)], Keep.refl _ _⟩
  have hin : p + n ≤ cs.length := by omega
  refine k_skip ?_
  refine k_seq ?_
  refine k_region ?_
  refine m_sl rfl rfl ?_
  refine m_int rfl rfl ?_
  refine o_build (v := .agg #[.slice a cs.length c, iv p, .bool false]) rfl (fun _ => by kernel_rfl) ?_
  refine o_alloc inf76 rfl (fun b w1 hB1 hK1 hb1 hZ1 => ?_)
  refine o_sta (xs := [.slice a cs.length c, iv p, .bool false]) rfl rfl rfl (by simp [iv, Value.oneCell']) hB1 (Nat.le_refl 3) (fun w2 hB2 hK2 hZ2 => ?_)
  have hB2' : Blk w2 b #[.slice a cs.length c, iv p, .bool false] 76 := hB2
  have hK02 : Keep [] w w2 := hK1.trans hK2 (by simp; omega)
  have hoff : Off [b] a := fun q hq => by
   have := hR.ltn (by intro h; have := congrArg List.length h; simp at this; rw [this] at hin; simp at hin; omega) q hq
   simp; omega
  refine o_nil ?_
  refine k_seq ?_
  refine k_region ?_
  refine m_int rfl rfl ?_
  refine o_call rfl rfl (signed_ok w2 b p n c a cs hB2' (hR.new hK02) hoff hc hl hin h1 h8) (fun v w3 hv => ?_)
  obtain ⟨rfl, hK3⟩ := hv
  refine m_int rfl rfl ?_
  refine m_bool rfl rfl ?_
  refine o_nil ?_
  refine k_ret (ret_tmps (ts := [6, 7]) (v := .tuple #[.int _ _, .bool _]) rfl rfl ?_)
  exact ⟨by rw [if_pos hin, decide_eq_true hin], hK02.trans hK3 (by simp; omega)⟩
theorem sgn1 (v : Nat) : sgn 1 v = sg 8 v := by unfold sgn sg; simp only [Nat.reducePow, Nat.reduceSub]; split <;> split <;> first | rfl | omega
theorem sgn2 (v : Nat) : sgn 2 v = sg 16 v := by unfold sgn sg; simp only [Nat.reducePow, Nat.reduceSub]; split <;> split <;> first | rfl | omega
theorem sgn4 (v : Nat) : sgn 4 v = sg 32 v := by unfold sgn sg; simp only [Nat.reducePow, Nat.reduceSub]; split <;> split <;> first | rfl | omega
/-- ranges, as the reference lays them -/
def rgC (l : List (Nat × Nat)) : List Int := l.flatMap fun r => [(r.1 : Int), (r.2 : Int)]
theorem rgC_len : ∀ l : List (Nat × Nat), (rgC l).length = 2 * l.length
  | [] => rfl
  | r :: l => by show ((r.1 : Int) :: (r.2 : Int) :: rgC l).length = _; simp [rgC_len l]; omega
theorem rgC_at : ∀ (l : List (Nat × Nat)) (j : Nat) (h : j < l.length), (rgC l)[2 * j]? = some ((l[j]).1 : Int) ∧ (rgC l)[2 * j + 1]? = some ((l[j]).2 : Int)
  | r :: l, 0, _ => ⟨rfl, rfl⟩
  | r :: l, j + 1, h => by
    have := rgC_at l j (by simpa using h)
    rw [show 2 * (j + 1) = 2 * j + 1 + 1 by omega]
    exact this
theorem inR_take {n i : Nat} : ∀ {l : List (Nat × Nat)}, inR n (l.take i) = true → inR n l = true := by
  induction i with
  | zero => intro l h; rw [List.take_zero] at h; cases h
  | succ i ih =>
    intro l h
    cases l with
    | nil => exact h
    | cons r l =>
      rw [List.take_succ_cons] at h
      simp only [inR, Bool.or_eq_true] at h ⊢
      exact h.imp id ih
theorem in_ok (w : World) (a : Option Addr) (c x : Nat) (l : List (Nat × Nat)) (hR : Rd w a ((rgC l).map iv)) (hl : l.length ≤ 1000) :
    Ret Try.prog 33 [.int .i64 (x : Int), .slice a (2 * l.length) c] w (fun v w' => v = .bool (inR x l) ∧ w' = w) := by
  refine fn_enter (n := 28) Try.func33 rfl rfl (Nat.le_of_ble_eq_true rfl) (fun e => ?_)
  refine k_seq ?_
  refine k_region ?_
  refine m_bool rfl rfl ?_
  refine o_nil ?_
  refine k_seq ?_
  refine k_seq ?_
  refine k_region ?_
  refine m_int rfl rfl ?_
  refine o_nil ?_
  refine k_block ?_
  refine k_loop (σ := Nat) (fun i => [(0, .int .i64 (x : Int)), (1, .slice a (2 * l.length) c), (5, .int .i64 ((2 * i : Nat) : Int))]) (fun i w' => i ≤ l.length ∧ inR x (l.take i) = false ∧ w' = w) (fun i => l.length - i) 0 ⟨rfl, rfl, rfl, trivial⟩ ⟨Nat.zero_le _, rfl, rfl⟩ (fun i e w1 hJ => ?_)
  obtain ⟨hi, hno, rfl⟩ := hJ
  refine k_seq ?_
  refine k_seq ?_
  refine k_region ?_
  refine m_int rfl rfl ?_
  refine n_add rfl rfl (by omega) ?_
  refine m_sl rfl rfl ?_
  refine o_lens Try.underlying36 rfl ?_
  refine b_lss rfl rfl ?_
  refine o_nil ?_
  refine k_cond rfl (fun h => ?_) (fun h => ?_)
  rotate_left
  ·
    refine k_exit rfl ?_
    refine k_seq ?_
    refine k_region ?_
    refine m_bool rfl rfl ?_
    refine o_nil ?_
    refine k_ret (ret_tmps (ts := [4]) (v := .bool _) rfl rfl ?_)
    refine ⟨congrArg Value.bool ?_, rfl⟩
    rw [List.take_of_length_le (by omega)] at hno
    exact hno.symm
  have hin : i < l.length := by omega
  obtain ⟨hlo, hhi⟩ := rgC_at l i hin
  have hts : inR x (l.take (i + 1)) = (inR x (l.take i) || (decide ((l[i]).1 ≤ x) && decide (x ≤ (l[i]).2))) := by rw [List.take_succ_eq_append_getElem hin, inR_snoc]
  have clo : ((rgC l).map iv)[2 * i]? = some (iv ((l[i]).1 : Int)) := by rw [List.getElem?_map, hlo]; rfl
  have chi : ((rgC l).map iv)[2 * i + 1]? = some (iv ((l[i]).2 : Int)) := by rw [List.getElem?_map, hhi]; rfl
  obtain ⟨b1, o1, rfl, hcell⟩ := hR _ _ clo
  refine k_skip ?_
  refine k_seq ?_
  refine k_block ?_
  refine k_seq ?_
  refine k_region ?_
  refine m_int rfl rfl ?_
  refine m_sl rfl rfl ?_
  refine m_int rfl rfl ?_
  refine o_ixs1 (m := 2 * i) Try.underlying36 rfl rfl rfl (by omega) ?_
  refine o_ld (v := iv ((l[i]).1 : Int)) rfl rfl hcell ?_
  refine b_geq rfl rfl ?_
  refine m_bool rfl rfl ?_
  refine o_split (t := 19) rfl (fun h => ?_) (fun h => ?_)
  ·
    have h19 := h
    refine g_yes rfl rfl ?_
    refine m_int rfl rfl ?_
    refine g_yes rfl rfl ?_
    refine m_sl rfl rfl ?_
    refine g_yes rfl rfl ?_
    refine m_int rfl rfl ?_
    refine g_yes rfl rfl ?_
    refine n_add rfl rfl (by omega) ?_
    refine g_yes rfl rfl ?_
    refine o_ixs1 (m := 2 * i + 1) Try.underlying36 rfl rfl rfl (by omega) ?_
    refine g_yes rfl rfl ?_
    refine o_ld (v := iv ((l[i]).2 : Int)) rfl rfl (hR.cellK (Keep.refl _ _) chi) ?_
    refine g_yes rfl rfl ?_
    refine b_leq rfl rfl ?_
    refine pick_t rfl rfl ?_
    refine o_nil ?_
    refine k_cond rfl (fun h => ?_) (fun h => ?_)
    ·
      refine k_seq ?_
      refine k_region ?_
      refine m_bool rfl rfl ?_
      refine o_nil ?_
      refine k_ret (ret_tmps (ts := [4]) (v := .bool _) rfl rfl ?_)
      refine ⟨congrArg Value.bool ?_, rfl⟩
      have : inR x (l.take (i + 1)) = true := by rw [hts, hno, decide_eq_true (show (l[i]).1 ≤ x by omega), decide_eq_true (show x ≤ (l[i]).2 by omega)]; rfl
      exact (inR_take this).symm
    refine k_skip ?_
    refine k_blk ?_
    refine k_region ?_
    refine m_int rfl rfl ?_
    refine n_add rfl rfl (by omega) ?_
    refine m_int rfl rfl ?_
    refine o_nil ?_
    refine k_goal ⟨i + 1, ⟨rfl, rfl, congrArg (Value.int .i64) (by omega), trivial⟩, ⟨by omega, ?_, rfl⟩, by omega⟩
    rw [hts, hno, decide_eq_false (show ¬ x ≤ (l[i]).2 by omega)]; simp
  ·
    have h19 := h
    refine g_no rfl rfl rfl ?_
    refine g_no rfl rfl rfl ?_
    refine g_no rfl rfl rfl ?_
    refine g_no rfl rfl rfl ?_
    refine g_no rfl rfl rfl ?_
    refine g_no rfl rfl rfl ?_
    refine g_no rfl rfl rfl ?_
    refine pick_f rfl rfl ?_
    refine o_nil ?_
    refine k_condf rfl ?_
    refine k_skip ?_
    refine k_blk ?_
    refine k_region ?_
    refine m_int rfl rfl ?_
    refine n_add rfl rfl (by omega) ?_
    refine m_int rfl rfl ?_
    refine o_nil ?_
    refine k_goal ⟨i + 1, ⟨rfl, rfl, congrArg (Value.int .i64) (by omega), trivial⟩, ⟨by omega, ?_, rfl⟩, by omega⟩
    rw [hts, hno, decide_eq_false (show ¬ (l[i]).1 ≤ x by omega)]; simp
theorem rway_ok (w : World) (x : Nat) (hx : x < 256) : Ret Try.prog 27 [.int .i64 (x : Int)] w (fun v w' => v = .int .i64 (wayOf x : Int) ∧ Keep [] w w') := by
  refine fn_enter (n := 28) Try.func27 rfl rfl (Nat.le_of_ble_eq_true rfl) (fun e => ?_)
  refine k_seq ?_
  refine k_region ?_
  refine m_int rfl rfl ?_
  refine o_nil ?_
  refine k_seq ?_
  refine k_seq ?_
  refine k_region ?_
  refine m_int rfl rfl ?_
  refine o_bsl (E := 3) (cs := ((rgC rBare).map iv).toArray) rfl (fun _ => by kernel_rfl) (fun g1 w1 hB1 hK1 hb1 hZ1 => ?_)
  refine o_call rfl rfl (in_ok w1 (some ⟨g1, 0, none⟩) 38 x rBare hB1.rd (by decide)) (fun v w1' hv => ?_)
  obtain ⟨rfl, rfl⟩ := hv
  refine o_nil ?_
  refine k_condb rfl (fun h => ?_) (fun h => ?_)
  ·
    refine k_seq ?_
    refine k_region ?_
    refine m_int rfl rfl ?_
    refine o_nil ?_
    refine k_ret (ret_tmps (ts := [2]) (v := .int _ _) rfl rfl ?_)
    exact ⟨by unfold wayOf; rw [if_pos h]; rfl, hK1⟩
  have h1 : ¬ inR x rBare = true := by rw [h]; decide
  refine k_skip ?_
  refine k_seq ?_
  refine k_seq ?_
  refine k_region ?_
  refine m_int rfl rfl ?_
  refine o_bsl (E := 3) (cs := ((rgC rLow).map iv).toArray) rfl (fun _ => by kernel_rfl) (fun g2 w2 hB2 hK2 hb2 hZ2 => ?_)
  refine o_call rfl rfl (in_ok w2 (some ⟨g2, 0, none⟩) 12 x rLow hB2.rd (by decide)) (fun v w2' hv => ?_)
  obtain ⟨rfl, rfl⟩ := hv
  refine o_nil ?_
  refine k_condb rfl (fun h => ?_) (fun h => ?_)
  ·
    refine k_seq ?_
    refine k_region ?_
    refine m_int rfl rfl ?_
    refine o_nil ?_
    refine k_ret (ret_tmps (ts := [2]) (v := .int _ _) rfl rfl ?_)
    exact ⟨by unfold wayOf; rw [if_neg h1, if_pos h]; rfl, hK1.tr hK2⟩
  have h2 : ¬ inR x rLow = true := by rw [h]; decide
  refine k_skip ?_
  refine k_seq ?_
  refine k_seq ?_
  refine k_region ?_
  refine m_int rfl rfl ?_
  refine o_bsl (E := 3) (cs := ((rgC rWide).map iv).toArray) rfl (fun _ => by kernel_rfl) (fun g3 w3 hB3 hK3 hb3 hZ3 => ?_)
  refine o_call rfl rfl (in_ok w3 (some ⟨g3, 0, none⟩) 10 x rWide hB3.rd (by decide)) (fun v w3' hv => ?_)
  obtain ⟨rfl, rfl⟩ := hv
  refine o_nil ?_
  refine k_condb rfl (fun h => ?_) (fun h => ?_)
  ·
    refine k_seq ?_
    refine k_region ?_
    refine m_int rfl rfl ?_
    refine o_nil ?_
    refine k_ret (ret_tmps (ts := [2]) (v := .int _ _) rfl rfl ?_)
    exact ⟨by unfold wayOf; rw [if_neg h1, if_neg h2, if_pos h]; rfl, (hK1.tr hK2).tr hK3⟩
  have h3 : ¬ inR x rWide = true := by rw [h]; decide
  refine k_skip ?_
  refine k_seq ?_
  refine k_seq ?_
  refine k_region ?_
  refine m_int rfl rfl ?_
  refine o_bsl (E := 3) (cs := ((rgC rHop).map iv).toArray) rfl (fun _ => by kernel_rfl) (fun g4 w4 hB4 hK4 hb4 hZ4 => ?_)
  refine o_call rfl rfl (in_ok w4 (some ⟨g4, 0, none⟩) 4 x rHop hB4.rd (by decide)) (fun v w4' hv => ?_)
  obtain ⟨rfl, rfl⟩ := hv
  have hK04 := ((hK1.tr hK2).tr hK3).tr hK4
  refine o_nil ?_
  refine k_condb rfl (fun h => ?_) (fun h => ?_)
  ·
    refine k_seq ?_
    refine k_region ?_
    refine m_int rfl rfl ?_
    refine o_nil ?_
    refine k_ret (ret_tmps (ts := [2]) (v := .int _ _) rfl rfl ?_)
    exact ⟨by unfold wayOf; rw [if_neg h1, if_neg h2, if_neg h3, if_pos h]; rfl, hK04⟩
  have h4 : ¬ inR x rHop = true := by rw [h]; decide
  have hw : wayOf x = if x = 16 then 3 else if x = 17 then 5 else if x = 132 then 6 else if x = 170 then 8 else if x = 171 then 9 else if x = 185 then 10 else 0 := by unfold wayOf; rw [if_neg h1, if_neg h2, if_neg h3, if_neg h4]
  refine k_skip ?_
  refine k_seq ?_
  refine k_seq ?_
  refine k_region ?_
  refine m_int rfl rfl ?_
  refine o_nil ?_
  refine k_block ?_
  refine k_seq ?_
  refine k_region ?_
  refine b_eql rfl rfl ?_
  refine m_bool rfl rfl ?_
  refine o_nil ?_
  refine k_cond rfl (fun h => ?_) (fun h => ?_)
  ·
    refine k_seq ?_
    refine k_region ?_
    refine m_int rfl rfl ?_
    refine o_nil ?_
    refine k_ret (ret_tmps (ts := [2]) (v := .int _ _) rfl rfl ?_)
    exact ⟨by rw [hw, if_pos (by omega)]; rfl, hK04⟩
  have h5 : ¬ x = 16 := by omega
  refine k_seq ?_
  refine k_region ?_
  refine b_eql rfl rfl ?_
  refine m_bool rfl rfl ?_
  refine o_nil ?_
  refine k_cond rfl (fun h => ?_) (fun h => ?_)
  ·
    refine k_seq ?_
    refine k_region ?_
    refine m_int rfl rfl ?_
    refine o_nil ?_
    refine k_ret (ret_tmps (ts := [2]) (v := .int _ _) rfl rfl ?_)
    exact ⟨by rw [hw, if_neg h5, if_pos (by omega)]; rfl, hK04⟩
  have h6 : ¬ x = 17 := by omega
  refine k_seq ?_
  refine k_region ?_
  refine b_eql rfl rfl ?_
  refine m_bool rfl rfl ?_
  refine o_nil ?_
  refine k_cond rfl (fun h => ?_) (fun h => ?_)
  ·
    refine k_seq ?_
    refine k_region ?_
    refine m_int rfl rfl ?_
    refine o_nil ?_
    refine k_ret (ret_tmps (ts := [2]) (v := .int _ _) rfl rfl ?_)
    exact ⟨by rw [hw, if_neg h5, if_neg h6, if_pos (by omega)]; rfl, hK04⟩
  have h7 : ¬ x = 132 := by omega
  refine k_seq ?_
  refine k_region ?_
  refine b_eql rfl rfl ?_
  refine m_bool rfl rfl ?_
  refine o_nil ?_
  refine k_cond rfl (fun h => ?_) (fun h => ?_)
  ·
    refine k_seq ?_
    refine k_region ?_
    refine m_int rfl rfl ?_
    refine o_nil ?_
    refine k_ret (ret_tmps (ts := [2]) (v := .int _ _) rfl rfl ?_)
    exact ⟨by rw [hw, if_neg h5, if_neg h6, if_neg h7, if_pos (by omega)]; rfl, hK04⟩
  have h8 : ¬ x = 170 := by omega
  refine k_seq ?_
  refine k_region ?_
  refine b_eql rfl rfl ?_
  refine m_bool rfl rfl ?_
  refine o_nil ?_
  refine k_cond rfl (fun h => ?_) (fun h => ?_)
  ·
    refine k_seq ?_
    refine k_region ?_
    refine m_int rfl rfl ?_
    refine o_nil ?_
    refine k_ret (ret_tmps (ts := [2]) (v := .int _ _) rfl rfl ?_)
    exact ⟨by rw [hw, if_neg h5, if_neg h6, if_neg h7, if_neg h8, if_pos (by omega)]; rfl, hK04⟩
  have h9 : ¬ x = 171 := by omega
  refine k_seq ?_
  refine k_region ?_
  refine b_eql rfl rfl ?_
  refine m_bool rfl rfl ?_
  refine o_nil ?_
  refine k_cond rfl (fun h => ?_) (fun h => ?_)
  ·
    refine k_seq ?_
    refine k_region ?_
    refine m_int rfl rfl ?_
    refine o_nil ?_
    refine k_ret (ret_tmps (ts := [2]) (v := .int _ _) rfl rfl ?_)
    exact ⟨by rw [hw, if_neg h5, if_neg h6, if_neg h7, if_neg h8, if_neg h9, if_pos (by omega)]; rfl, hK04⟩
  have h10 : ¬ x = 185 := by omega
  refine k_skip ?_
  refine k_blk ?_
  refine k_seq ?_
  refine k_region ?_
  refine m_int rfl rfl ?_
  refine o_nil ?_
  refine k_ret (ret_tmps (ts := [2]) (v := .int _ _) rfl rfl ?_)
  exact ⟨by rw [hw, if_neg h5, if_neg h6, if_neg h7, if_neg h8, if_neg h9, if_neg h10]; rfl, hK04⟩
end Go.Proofs.Ytmdkinedbmjieaa
