/- The walk of the law SumParts. No condition beyond what the contract names. -/
import Derived.Test.YtmilnijpnlhcoaaLb
namespace Go.Proofs.Ytmilnijpnlhcoaa
open Go.RowKit E
set_option linter.unusedVariables false
set_option linter.unusedSimpArgs false
set_option maxRecDepth 100000
attribute [local irreducible] ow qw kw kq cw opW Ret
theorem inf22 : infB Try.prog 22 1 24 (.slice none 0 0) := by
  obtain ⟨i, h1, h2, h3, h4⟩ := info_parts (P := Try.prog) (e := 22) (z := .slice none 0 0) (size := 1) (bytes := 24) (by kernel_rfl)
  exact ⟨i, h1, h3, h4, h2⟩
theorem u16_at (l : List (BitVec 16)) (k : Nat) (h : k < l.length) : (l.map u16v)[k]? = some (.int .u16 ((l[k]).toNat : Int)) := by simp [h, u16v]

/-- a piece of the bytes -/
def pc (a : Option Addr) (c : Nat) (l : List (BitVec 8)) (lo n : Nat) : Part := ⟨cutAt a lo c 1, c - lo, (l.drop lo).take n⟩
theorem pc_rd {w : World} {a : Option Addr} {c : Nat} {l : List (BitVec 8)} (hR : Rd w a (l.map u8v)) (hc : l.length ≤ c) (lo n : Nat) (h : lo ≤ l.length) : Rd w (pc a c l lo n).a ((pc a c l lo n).l.map u8v) := by
  have := cutAt_rd (lo := lo) (cap := c) (sz := 1) hR (by simp; omega) (by omega) (by simp; omega)
  rw [Nat.mul_one, ← List.map_drop] at this
  show Rd w (cutAt a lo c 1) (((l.drop lo).take n).map u8v)
  rw [List.map_take]
  exact this.take n
theorem pc_len (a : Option Addr) (c : Nat) (l : List (BitVec 8)) (lo n : Nat) (h : lo + n ≤ l.length) : (pc a c l lo n).l.length = n := by
  simp [pc]; omega
theorem pc_v (a : Option Addr) (c : Nat) (l : List (BitVec 8)) (lo n : Nat) (h : lo + n ≤ l.length) : pv (pc a c l lo n) = .slice (cutAt a lo c 1) n (c - lo) := by
  unfold pv
  rw [pc_len a c l lo n h]
  rfl

structure PS where
  i : Nat
  fr : Nat
  a8 : Option Addr
  c8 : Nat
  ps : List Part

def PJ (w : World) (tb : Nat) (a : Option Addr) (c : Nat) (l : List (BitVec 8)) (nc : Nat) (s : PS) (w' : World) : Prop :=
  s.i ≤ 50 ∧ s.i ≤ nc ∧ s.fr ≤ l.length ∧ s.ps.length = s.i ∧ Keep [] w w' ∧ Blk w' tb tabCells 42 ∧ Sl w' 22 1 s.a8 s.ps.length s.c8 (s.ps.map pv) ∧
  (∀ p ∈ s.ps, ∃ lo n, p = pc a c l lo n ∧ lo + n ≤ l.length) ∧ s.ps.flatMap (·.l) = l.take s.fr ∧ (∀ q, s.a8 = some q → w.heap.size ≤ q.block ∧ q.block ≠ tb)

theorem off_tb {a : Option Addr} {tb : Nat} (h : ∀ q, a = some q → q.block ≠ tb) : tb ∉ blkOf a := by
  cases a with
  | none => simp [blkOf]
  | some q => have := h q rfl; simp [blkOf]; exact fun e => this e.symm
theorem keep_own {w w1 w2 : World} {a : Option Addr} (h : Keep [] w w1) (h' : Keep (blkOf a) w1 w2) (hq : ∀ q, a = some q → w.heap.size ≤ q.block) : Keep [] w w2 := by
  refine h.trans h' ?_
  intro b hb hlt
  cases a with
  | none => simp [blkOf] at hb
  | some q => have := hq q rfl; simp [blkOf] at hb; omega

attribute [local irreducible] Crc.add sumOf in
theorem sumParts_ok (w : World) (a : Option Addr) (c : Nat) (l : List (BitVec 8)) (b : Option Addr) (c' : Nat) (cu : List (BitVec 16)) (hR : Rd w a (l.map u8v)) (hl : l.length ≤ c ∧ c ≤ 140737488351232) (hR' : Rd w b (cu.map u16v)) (hm : cu.length ≤ 140737488351232) :
    Ret Try.prog 4 [.slice a l.length c, .slice b cu.length c'] w (fun v w' => v = .bool true ∧ Keep [] w w') := by
  refine fn_enter (n := 76) Try.func4 rfl rfl (Nat.le_of_ble_eq_true rfl) (fun e => ?_)
  refine k_seq ?_
  refine k_region ?_
  refine m_bool rfl rfl ?_
  refine o_nil ?_
  refine k_seq ?_
  refine k_seq ?_
  refine k_region ?_
  refine o_call rfl rfl (fixed_ok w) (fun v w1 hv => ?_)
  obtain ⟨rfl, hK1⟩ := hv
  refine u_notb rfl ?_
  refine o_nil ?_
  refine k_condf rfl ?_
  refine k_skip ?_
  refine k_seq ?_
  refine k_region ?_
  refine o_call rfl rfl (new_ok w1) (fun v w2 hv => ?_)
  obtain ⟨tb, rfl, htb, hB, hK2⟩ := hv
  have hk2 := hK1.tr hK2
  have htb' : w.heap.size ≤ tb := by have := hK1.size; omega
  refine m_ptr rfl rfl ?_
  refine m_int rfl rfl ?_
  refine m_int rfl rfl ?_
  refine o_nil ?_
  refine k_seq ?_
  refine k_region ?_
  refine m_sl rfl rfl ?_
  refine o_nil ?_
  refine k_seq ?_
  refine k_seq ?_
  refine k_region ?_
  refine m_int rfl rfl ?_
  refine o_nil ?_
  refine k_block ?_
  refine k_loop (σ := PS) (fun s => [(0, .slice a l.length c), (1, .slice b cu.length c'), (5, .pointer (some ⟨tb, 0, none⟩)), (6, .int .i64 (Crc.add 0 (l.take s.fr))), (7, .int .i64 (s.fr : Int)), (8, .slice s.a8 s.ps.length s.c8), (9, .int .i64 (s.i : Int))]) (fun s w' => PJ w tb a c l cu.length s w') (fun s => 50 - s.i) ⟨0, 0, none, 0, []⟩ ⟨rfl, rfl, rfl, by rw [List.take_zero, add_zero_nil]; rfl, rfl, rfl, rfl, trivial⟩ ⟨by simp, by simp, by simp, rfl, hk2, hB, Sl.nil _ _ _, by simp, by simp, by simp⟩ (fun s e w3 hJ => ?_)
  obtain ⟨i, fr, a8, c8, ps⟩ := s
  obtain ⟨hi50, hic, hfr, hpl, hk3, hB3, hS3, hps, hfl, hq3⟩ := hJ
  simp only at hi50 hic hfr hpl hS3 hps hfl hq3 ⊢
  refine k_seq ?_
  refine k_seq ?_
  refine k_region ?_
  refine m_int rfl rfl ?_
  refine m_sl rfl rfl ?_
  refine o_lens Try.underlying30 rfl ?_
  refine b_lss rfl rfl ?_
  refine m_bool rfl rfl ?_
  refine o_split (t := 18) rfl (fun h => ?_) (fun h => ?_)
  ·
    refine g_yes rfl rfl ?_
    refine m_int rfl rfl ?_
    refine g_yes rfl rfl ?_
    refine b_lss rfl rfl ?_
    refine pick_t rfl rfl ?_
    refine o_nil ?_
    refine k_cond rfl (fun h => ?_) (fun h => ?_)
    rotate_left
    ·
      refine k_exit rfl ?_
      refine k_seq ?_
      refine k_region ?_
      refine m_sl rfl rfl ?_
      refine m_sl rfl rfl ?_
      refine m_int rfl rfl ?_
      refine o_sll (sz := 1) Try.underlying22 rfl rfl rfl (by omega) ?_
      refine o_bsl (E := 22) (cs := #[.slice (cutAt a fr c 1) (l.length - fr) (c - fr)]) rfl (fun _ => by kernel_rfl) (fun g4 w4 hB4 hK4 hb4 hZ4 => ?_)
      refine o_app (m' := 1) Try.underlying31 inf22 rfl (by decide) rfl rfl (hS3.new hK4) hB4.rd rfl (by simp [Value.oneCell']) (by simp [maxLen]; omega) (by omega) (fun a5 c5 w5 hS5 hK5 hv5 => ?_)
      have hk4 := hk3.tr hK4
      have hk5 : Keep [] w w5 := keep_own hk4 hK5 (fun q hq => (hq3 q hq).1)
      have hB5 : Blk w5 tb tabCells 42 := (hB3.keep hK4 (by simp)).keep hK5 (off_tb (fun q hq => (hq3 q hq).2))
      have hpx := pc_len a c l fr (l.length - fr) (by omega)
      have hpe : (pc a c l fr (l.length - fr)).l = l.drop fr := by show (l.drop fr).take _ = _; rw [List.take_of_length_le (by simp)]
      refine m_sl rfl rfl ?_
      refine o_nil ?_
      refine k_seq ?_
      refine k_region ?_
      refine m_ptr rfl rfl ?_
      refine m_int rfl rfl ?_
      refine m_sl rfl rfl ?_
      refine m_int rfl rfl ?_
      refine o_sll (sz := 1) Try.underlying22 rfl rfl rfl (by omega) ?_
      refine o_call (vs := [.pointer (some ⟨tb, 0, none⟩), .int .i64 (Crc.add 0 (l.take fr)), .slice (cutAt a fr c 1) (pc a c l fr (l.length - fr)).l.length (c - fr)]) rfl (by rw [hpx]; rfl) (add_ok w5 tb 42 _ _ _ _ hB5 (pc_rd (hR.new hk5) hl.1 fr (l.length - fr) hfr) (by omega)) (fun v w6 hv => ?_)
      obtain ⟨rfl, rfl⟩ := hv
      rw [hpe, Crc.add_add, List.take_append_drop]
      refine m_sl rfl rfl ?_
      refine o_bsl (E := 22) (cs := #[.slice a l.length c]) rfl (fun _ => by kernel_rfl) (fun g7 w7 hB7 hK7 hb7 hZ7 => ?_)
      have hk7 := hk5.tr hK7
      refine o_call rfl rfl (of_one w7 a a c g7 l hB7 (hR.new hk7) (by omega)) (fun v w8 hv => ?_)
      obtain ⟨rfl, hK8⟩ := hv
      have hk8 := hk7.tr hK8
      refine b_eql rfl rfl ?_
      refine m_bool rfl rfl ?_
      refine o_true (t := 68) rfl (rfl) ?_
      refine g_yes rfl rfl ?_
      refine m_sl rfl rfl ?_
      refine g_yes rfl rfl ?_
      refine o_call (vs := [.slice a5 (ps ++ [pc a c l fr (l.length - fr)]).length c5]) rfl (by rw [List.length_append]; rfl) (of_ok w8 a5 c5 (ps ++ [pc a c l fr (l.length - fr)]) (by rw [List.map_append, List.map_cons, List.map_nil, pc_v a c l fr (l.length - fr) (by omega)]; exact ((hS5.new hK7).new hK8).rd) (by
        intro p hp
        have : ∃ lo n, p = pc a c l lo n ∧ lo + n ≤ l.length := by
          rcases List.mem_append.1 hp with hp | hp
          · exact hps p hp
          · simp at hp
            exact ⟨fr, l.length - fr, hp, by omega⟩
        obtain ⟨lo, n, rfl, hln⟩ := this
        exact ⟨pc_rd (hR.new hk8) hl.1 lo n (by omega), by rw [pc_len a c l lo n hln]; omega⟩) (by simp; omega)) (fun v w9 hv => ?_)
      obtain ⟨rfl, hK9⟩ := hv
      have hk9 := hk8.tr hK9
      rw [sumOf_flat, List.flatMap_append, hfl, List.flatMap_cons, List.flatMap_nil, List.append_nil, hpe, List.take_append_drop]
      refine g_yes rfl rfl ?_
      refine m_sl rfl rfl ?_
      refine g_yes rfl rfl ?_
      refine o_bsl (E := 22) (cs := #[.slice a l.length c]) rfl (fun _ => by kernel_rfl) (fun g10 w10 hB10 hK10 hb10 hZ10 => ?_)
      have hk10 := hk9.tr hK10
      refine g_yes rfl rfl ?_
      refine o_call rfl rfl (of_one w10 a a c g10 l hB10 (hR.new hk10) (by omega)) (fun v w11 hv => ?_)
      obtain ⟨rfl, hK11⟩ := hv
      refine g_yes rfl rfl ?_
      refine b_eql rfl rfl ?_
      refine pick_t rfl rfl ?_
      refine m_bool rfl rfl ?_
      refine o_nil ?_
      refine k_ret (ret_tmps (ts := [4]) (v := .bool _) rfl rfl ?_)
      exact ⟨by simp, hk10.tr hK11⟩
    have hlt : i < cu.length := by omega
    obtain ⟨bb, ob, rfl, hcb⟩ := hR' i _ (u16_at cu i hlt)
    have hcu := cu[i].isLt
    have hD : 0 < l.length - fr + 1 := by omega
    have hx := Nat.mod_lt cu[i].toNat hD
    refine k_skip ?_
    refine k_seq ?_
    refine k_block ?_
    refine k_seq ?_
    refine k_region ?_
    refine m_int rfl rfl ?_
    refine m_sl rfl rfl ?_
    refine m_int rfl rfl ?_
    refine o_ixs1 Try.underlying30 rfl rfl rfl hlt ?_
    refine o_ld rfl rfl (hR'.cellK hk3 (u16_at cu i hlt)) ?_
    refine cv16_i rfl Try.underlying3 rfl ?_
    refine m_sl rfl rfl ?_
    refine o_lens Try.underlying22 rfl ?_
    refine m_int rfl rfl ?_
    refine n_sub rfl rfl (by omega) ?_
    refine n_add rfl rfl (by omega) ?_
    refine b_rem rfl rfl (by omega) ?_
    rw [show ((cu[i].toNat : Int)).tmod ((l.length : Int) - (fr : Int) + 1) = ((cu[i].toNat % (l.length - fr + 1) : Nat) : Int) from by rw [show ((l.length : Int) - (fr : Int) + 1) = ((l.length - fr + 1 : Nat) : Int) from by omega]; exact (Int.ofNat_tmod _ _).symm]
    obtain ⟨x, hxe⟩ : ∃ x, x = cu[i].toNat % (l.length - fr + 1) := ⟨_, rfl⟩
    rw [← hxe] at hx ⊢
    refine n_add rfl rfl (by omega) ?_
    rw [← Int.natCast_add]
    refine m_int rfl rfl ?_
    refine o_nil ?_
    refine k_seq ?_
    refine k_region ?_
    refine m_sl rfl rfl ?_
    refine m_sl rfl rfl ?_
    refine m_int rfl rfl ?_
    refine m_int rfl rfl ?_
    refine o_sllh (sz := 1) Try.underlying22 rfl rfl rfl rfl (by omega) (by omega) ?_
    rw [Nat.add_sub_cancel_left]
    refine o_bsl (E := 22) (cs := #[.slice (cutAt a fr c 1) x (c - fr)]) rfl (fun _ => by kernel_rfl) (fun g4 w4 hB4 hK4 hb4 hZ4 => ?_)
    refine o_app (m' := 1) Try.underlying31 inf22 rfl (by decide) rfl rfl (hS3.new hK4) hB4.rd rfl (by simp [Value.oneCell']) (by simp [maxLen]; omega) (by omega) (fun a5 c5 w5 hS5 hK5 hv5 => ?_)
    have hk4 := hk3.tr hK4
    have hk5 : Keep [] w w5 := keep_own hk4 hK5 (fun q hq => (hq3 q hq).1)
    have hB5 : Blk w5 tb tabCells 42 := (hB3.keep hK4 (by simp)).keep hK5 (off_tb (fun q hq => (hq3 q hq).2))
    have hq5 : ∀ q, a5 = some q → w.heap.size ≤ q.block ∧ q.block ≠ tb := by
     intro q hq
     rcases hv5 with ⟨h1, _⟩ | ⟨g2, h1, h2, _⟩
     · exact hq3 q (by rw [← h1]; exact hq)
     · rw [hq] at h1; cases h1; have := hk4.size; have := (hB3.keep hK4 (by simp)).lt; exact ⟨by show _ ≤ g2; omega, by show g2 ≠ tb; omega⟩
    refine m_sl rfl rfl ?_
    refine o_nil ?_
    refine k_seq ?_
    refine k_region ?_
    refine m_ptr rfl rfl ?_
    refine m_int rfl rfl ?_
    refine m_sl rfl rfl ?_
    refine m_int rfl rfl ?_
    refine m_int rfl rfl ?_
    refine o_sllh (sz := 1) Try.underlying22 rfl rfl rfl rfl (by omega) (by omega) ?_
    rw [Nat.add_sub_cancel_left]
    have hpx := pc_len a c l fr x (by omega)
    refine o_call (vs := [.pointer (some ⟨tb, 0, none⟩), .int .i64 (Crc.add 0 (l.take fr)), .slice (cutAt a fr c 1) (pc a c l fr x).l.length (c - fr)]) rfl (by rw [hpx]; rfl) (add_ok w5 tb 42 _ _ _ _ hB5 (pc_rd (hR.new hk5) hl.1 fr x (by omega)) (by omega)) (fun v w6 hv => ?_)
    obtain ⟨rfl, rfl⟩ := hv
    refine m_int rfl rfl ?_
    refine o_nil ?_
    refine k_region ?_
    refine m_int rfl rfl ?_
    refine m_int rfl rfl ?_
    refine o_nil ?_
    refine k_blk ?_
    refine k_region ?_
    refine m_int rfl rfl ?_
    refine n_add rfl rfl (by omega) ?_
    refine m_int rfl rfl ?_
    refine o_nil ?_
    refine k_goal ⟨⟨i + 1, fr + x, a5, c5, ps ++ [pc a c l fr x]⟩, ⟨rfl, rfl, rfl, ?_, rfl, ?_, rfl, trivial⟩, ⟨by show i + 1 ≤ _; omega, by show i + 1 ≤ _; omega, by show fr + x ≤ _; omega, by simp [hpl], hk5, hB5, ?_, ?_, ?_, hq5⟩, by show 50 - (i + 1) < 50 - i; omega⟩
    · show Value.int .i64 (Crc.add (Crc.add 0 (l.take fr)) (pc a c l fr x).l) = _
      rw [Crc.add_add]
      show _ = Value.int .i64 (Crc.add 0 (l.take (fr + x)))
      congr 2
      show l.take fr ++ (l.drop fr).take x = _
      rw [List.take_add]
    · show Value.slice a5 (ps.length + 1) c5 = Value.slice a5 (ps ++ [pc a c l fr x]).length c5
      rw [List.length_append]
      rfl
    · show Sl _ 22 1 a5 (ps ++ [pc a c l fr x]).length c5 ((ps ++ [pc a c l fr x]).map pv)
      rw [List.length_append, List.map_append, List.map_cons, List.map_nil, pc_v a c l fr x (by omega)]
      exact hS5
    · intro p hp
      rcases List.mem_append.1 hp with hp | hp
      · exact hps p hp
      · simp at hp
        exact ⟨fr, x, hp, by omega⟩
    · show (ps ++ [pc a c l fr x]).flatMap (·.l) = l.take (fr + x)
      rw [List.flatMap_append, hfl, List.take_add]
      simp [pc]
  ·
    refine g_no rfl rfl rfl ?_
    refine g_no rfl rfl rfl ?_
    refine pick_f rfl rfl ?_
    refine o_nil ?_
    refine k_condf rfl ?_
    refine k_exit rfl ?_
    refine k_seq ?_
    refine k_region ?_
    refine m_sl rfl rfl ?_
    refine m_sl rfl rfl ?_
    refine m_int rfl rfl ?_
    refine o_sll (sz := 1) Try.underlying22 rfl rfl rfl (by omega) ?_
    refine o_bsl (E := 22) (cs := #[.slice (cutAt a fr c 1) (l.length - fr) (c - fr)]) rfl (fun _ => by kernel_rfl) (fun g4 w4 hB4 hK4 hb4 hZ4 => ?_)
    refine o_app (m' := 1) Try.underlying31 inf22 rfl (by decide) rfl rfl (hS3.new hK4) hB4.rd rfl (by simp [Value.oneCell']) (by simp [maxLen]; omega) (by omega) (fun a5 c5 w5 hS5 hK5 hv5 => ?_)
    have hk4 := hk3.tr hK4
    have hk5 : Keep [] w w5 := keep_own hk4 hK5 (fun q hq => (hq3 q hq).1)
    have hB5 : Blk w5 tb tabCells 42 := (hB3.keep hK4 (by simp)).keep hK5 (off_tb (fun q hq => (hq3 q hq).2))
    have hpx := pc_len a c l fr (l.length - fr) (by omega)
    have hpe : (pc a c l fr (l.length - fr)).l = l.drop fr := by show (l.drop fr).take _ = _; rw [List.take_of_length_le (by simp)]
    refine m_sl rfl rfl ?_
    refine o_nil ?_
    refine k_seq ?_
    refine k_region ?_
    refine m_ptr rfl rfl ?_
    refine m_int rfl rfl ?_
    refine m_sl rfl rfl ?_
    refine m_int rfl rfl ?_
    refine o_sll (sz := 1) Try.underlying22 rfl rfl rfl (by omega) ?_
    refine o_call (vs := [.pointer (some ⟨tb, 0, none⟩), .int .i64 (Crc.add 0 (l.take fr)), .slice (cutAt a fr c 1) (pc a c l fr (l.length - fr)).l.length (c - fr)]) rfl (by rw [hpx]; rfl) (add_ok w5 tb 42 _ _ _ _ hB5 (pc_rd (hR.new hk5) hl.1 fr (l.length - fr) hfr) (by omega)) (fun v w6 hv => ?_)
    obtain ⟨rfl, rfl⟩ := hv
    rw [hpe, Crc.add_add, List.take_append_drop]
    refine m_sl rfl rfl ?_
    refine o_bsl (E := 22) (cs := #[.slice a l.length c]) rfl (fun _ => by kernel_rfl) (fun g7 w7 hB7 hK7 hb7 hZ7 => ?_)
    have hk7 := hk5.tr hK7
    refine o_call rfl rfl (of_one w7 a a c g7 l hB7 (hR.new hk7) (by omega)) (fun v w8 hv => ?_)
    obtain ⟨rfl, hK8⟩ := hv
    have hk8 := hk7.tr hK8
    refine b_eql rfl rfl ?_
    refine m_bool rfl rfl ?_
    refine o_true (t := 68) rfl (rfl) ?_
    refine g_yes rfl rfl ?_
    refine m_sl rfl rfl ?_
    refine g_yes rfl rfl ?_
    refine o_call (vs := [.slice a5 (ps ++ [pc a c l fr (l.length - fr)]).length c5]) rfl (by rw [List.length_append]; rfl) (of_ok w8 a5 c5 (ps ++ [pc a c l fr (l.length - fr)]) (by rw [List.map_append, List.map_cons, List.map_nil, pc_v a c l fr (l.length - fr) (by omega)]; exact ((hS5.new hK7).new hK8).rd) (by
      intro p hp
      have : ∃ lo n, p = pc a c l lo n ∧ lo + n ≤ l.length := by
        rcases List.mem_append.1 hp with hp | hp
        · exact hps p hp
        · simp at hp
          exact ⟨fr, l.length - fr, hp, by omega⟩
      obtain ⟨lo, n, rfl, hln⟩ := this
      exact ⟨pc_rd (hR.new hk8) hl.1 lo n (by omega), by rw [pc_len a c l lo n hln]; omega⟩) (by simp; omega)) (fun v w9 hv => ?_)
    obtain ⟨rfl, hK9⟩ := hv
    have hk9 := hk8.tr hK9
    rw [sumOf_flat, List.flatMap_append, hfl, List.flatMap_cons, List.flatMap_nil, List.append_nil, hpe, List.take_append_drop]
    refine g_yes rfl rfl ?_
    refine m_sl rfl rfl ?_
    refine g_yes rfl rfl ?_
    refine o_bsl (E := 22) (cs := #[.slice a l.length c]) rfl (fun _ => by kernel_rfl) (fun g10 w10 hB10 hK10 hb10 hZ10 => ?_)
    have hk10 := hk9.tr hK10
    refine g_yes rfl rfl ?_
    refine o_call rfl rfl (of_one w10 a a c g10 l hB10 (hR.new hk10) (by omega)) (fun v w11 hv => ?_)
    obtain ⟨rfl, hK11⟩ := hv
    refine g_yes rfl rfl ?_
    refine b_eql rfl rfl ?_
    refine pick_t rfl rfl ?_
    refine m_bool rfl rfl ?_
    refine o_nil ?_
    refine k_ret (ret_tmps (ts := [4]) (v := .bool _) rfl rfl ?_)
    exact ⟨by simp, hk10.tr hK11⟩
end Go.Proofs.Ytmilnijpnlhcoaa
