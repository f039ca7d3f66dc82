/- The other walks of both writers. No condition beyond what each contract names. -/
import Derived.Test.YtpmlhlefhmgpfaaBb
namespace Go.Proofs.Ytpmlhlefhmgpfaa
open Go.RowKit E
set_option linter.unusedVariables false
set_option linter.unusedSimpArgs false
set_option maxRecDepth 100000
attribute [local irreducible] ow qw kw kq cw opW Ret
theorem inf4 : infB Try.prog 4 1 1 (.bool false) := ⟨_, rfl, rfl, rfl, rfl⟩
/-- filled up to a byte -/
def al (l : List Bool) : List Bool := l ++ List.replicate (8 * ((l.length + 7) / 8) - l.length) false
theorem al_len (l : List Bool) : (al l).length = 8 * ((l.length + 7) / 8) := by simp [al]; omega
theorem al_at (l : List Bool) (j : Nat) : (al l).getD j false = l.getD j false := by
  unfold al
  by_cases h : j < l.length
  · rw [List.getD_eq_getElem?_getD, List.getD_eq_getElem?_getD, List.getElem?_append_left h]
  · rw [List.getD_eq_getElem?_getD, List.getElem?_append_right (by omega), getD_out l j (by omega), List.getElem?_replicate]
    split <;> rfl
theorem al_pack (l : List Bool) : pack (al l) = pack l := by
  refine (pack_eq (al l) (pack l) (by rw [pack_len, al_len]; omega) (fun j => ?_)).symm
  rw [pack_bit, al_at]
theorem al_one (l : List Bool) (h : ¬ l.length % 8 = 0) : al (l ++ [false]) = al l := by
  unfold al
  rw [List.append_assoc]
  congr 1
  have e : 8 * ((l.length + 7) / 8) - l.length = 8 * (((l ++ [false]).length + 7) / 8) - (l ++ [false]).length + 1 := by simp; omega
  rw [e, List.replicate_succ]
  rfl
theorem al_self (l : List Bool) (h : l.length % 8 = 0) : al l = l := by
  unfold al
  rw [show 8 * ((l.length + 7) / 8) - l.length = 0 by omega]
  simp
def flat (bs : List (BitVec 8)) : List Bool := bs.flatMap fun b => vbits (b.toNat : Int) 8
theorem flat_len (bs : List (BitVec 8)) : (flat bs).length = 8 * bs.length := by
  induction bs with
  | nil => rfl
  | cons b bs ih =>
    unfold flat at ih ⊢
    rw [List.flatMap_cons, List.length_append, vbits_len, ih, List.length_cons]; omega
theorem byte_v (b : BitVec 8) (j : Nat) : (BitVec.ofInt 64 (b.toNat : Int)).getLsbD j = b.getLsbD j := by
  show (BitVec.ofInt 64 (b.toNat : Int)).toNat.testBit j = b.toNat.testBit j
  rw [ofN _ (by have := b.isLt; omega)]
theorem flat_at (bs : List (BitVec 8)) : ∀ j, (flat bs).getD j false = bitAt bs j := by
  induction bs with
  | nil => intro j; simp [flat, bitAt]
  | cons b bs ih =>
    intro j
    have e : flat (b :: bs) = vbits (b.toNat : Int) 8 ++ flat bs := by simp [flat]
    rw [e, show b :: bs = [b] ++ bs from rfl, bitAt_app]
    by_cases h : j < 8
    · rw [if_pos (by simpa using h), List.getD_eq_getElem?_getD, List.getElem?_append_left (by rw [vbits_len]; exact h), ← List.getD_eq_getElem?_getD, vbits_at, byte_v]
      unfold bitAt
      rw [show j / 8 = 0 by omega, show j % 8 = j by omega]
      simp [h]
    · rw [if_neg (by simpa using h), List.getD_eq_getElem?_getD, List.getElem?_append_right (by rw [vbits_len]; omega), ← List.getD_eq_getElem?_getD, vbits_len, ih]
      rfl
theorem add_pack (l : List Bool) (bs : List (BitVec 8)) : pack (al l ++ flat bs) = pack l ++ bs := by
  refine (pack_eq _ _ ?_ (fun j => ?_)).symm
  · rw [List.length_append, pack_len, List.length_append, al_len, flat_len]; omega
  · rw [bitAt_app, pack_len, pack_bit]
    by_cases h : j < 8 * ((l.length + 7) / 8)
    · rw [if_pos h, List.getD_eq_getElem?_getD (l := al l ++ flat bs), List.getElem?_append_left (by rw [al_len]; exact h), ← List.getD_eq_getElem?_getD, al_at]
    · rw [if_neg h, List.getD_eq_getElem?_getD (l := al l ++ flat bs), List.getElem?_append_right (by rw [al_len]; omega), ← List.getD_eq_getElem?_getD, flat_at, al_len]
theorem flat_app (bs : List (BitVec 8)) (b : BitVec 8) : flat (bs ++ [b]) = flat bs ++ vbits (b.toNat : Int) 8 := by simp [flat]
theorem walign_ok (k : Nat) (w : World) (r : Nat) (l : List Bool) (hl : l.length ≤ 1000000000000) (h : Wtr k w r l) :
    Ret Try.prog 15 [.pointer (some ⟨r, 0, none⟩)] w (fun v w' => Wtr k w' r (al l) ∧ KeepT [27, 5] k w w' ∧ Keep [r] w w') := by
  obtain ⟨a, c, hB, hS, hkr, hka⟩ := h
  refine fn_enter (n := 13) Try.func15 rfl rfl (Nat.le_of_ble_eq_true rfl) (fun e => ?_)
  refine k_seq ?_
  refine k_region ?_
  refine m_ptr rfl rfl ?_
  refine b_neqp Try.underlying24 rfl rfl ?_
  refine o_nil ?_
  refine k_yes rfl ((by simp)) ?_
  refine k_region ?_
  refine m_ptr rfl rfl ?_
  refine m_ptr rfl rfl ?_
  refine o_nilc rfl ?_
  refine o_fld (off := 1) rfl rfl ?_
  refine o_ld rfl rfl (hB.at rfl) ?_ 
  refine n_add rfl rfl (by omega) ?_
  refine b_andNot rfl rfl ?_
  rw [andn7 l.length (by omega)]
  refine o_nilc rfl ?_
  refine o_fld (off := 1) rfl rfl ?_
  refine o_st (v := .int _ _) rfl rfl rfl rfl hB (by simp) (fun w2 hB2 hK2 hZ => ?_)
  refine o_nil ?_
  refine k_end (end_tmps (ts := []) (v := .tuple #[]) rfl rfl ?_)
  refine ⟨⟨a, c, ?_, ?_, hkr, hka⟩, hK2.t1 hkr hB (by decide), hK2⟩
  · rw [al_pack, al_len]; exact hB2
  · rw [al_pack]; exact hS.keep hK2 (hS.off hB (by decide))
theorem wadd_ok (k : Nat) (w : World) (r : Nat) (l : List Bool) (a' : Option Addr) (c' : Nat) (bs : List (BitVec 8)) (hl : l.length ≤ 1000000000000) (hbl : bs.length ≤ 1000000000000) (h : Wtr k w r l) (hR : Rd w a' (bs.map u8v)) (hoff : bs ≠ [] → Off [r] a') :
    Ret Try.prog 17 [.pointer (some ⟨r, 0, none⟩), .slice a' bs.length c'] w (fun v w' => Wtr k w' r (al l ++ flat bs) ∧ KeepT [27, 5] k w w') := by
  refine fn_enter (n := 27) Try.func17 rfl rfl (Nat.le_of_ble_eq_true rfl) (fun e => ?_)
  refine k_seq ?_
  refine k_seq ?_
  refine k_region ?_
  refine m_ptr rfl rfl ?_
  refine b_eqlp Try.underlying24 rfl rfl ?_
  refine o_nil ?_
  refine k_no rfl ((by simp)) ?_
  refine k_skip ?_
  refine k_seq ?_
  refine k_region ?_
  refine m_ptr rfl rfl ?_
  refine o_call rfl rfl (walign_ok k w r l hl h) (fun v w2 hv => ?_)
  obtain ⟨⟨a, c, hB, hS, hkr, hka⟩, hk2, hK2⟩ := hv
  have hR2 := hR.keepN hK2 (fun hn => hoff (by simpa using hn))
  have hal := al_len l
  refine o_nil ?_
  refine k_seq ?_
  refine k_region ?_
  refine m_ptr rfl rfl ?_
  refine m_ptr rfl rfl ?_
  refine o_nilc rfl ?_
  refine o_fld0 rfl rfl ?_
  refine o_ld rfl rfl (hB.at rfl) ?_ 
  refine m_sl rfl rfl ?_
  refine o_app Try.underlying25 inf5 rfl (by decide) rfl rfl hS hR2 (by simp) (u8_one bs) (by rw [pack_len]; simp [maxLen]; omega) (by rw [pack_len]; omega) (fun a3 c3 w3 hS3 hK3 hv3 => ?_)
  have hB3 := hB.keep hK3 (hS.notin hB (by decide))
  refine o_nilc rfl ?_
  refine o_fld0 rfl rfl ?_
  refine o_st (v := .slice _ _ _) rfl rfl rfl rfl hB3 (by simp) (fun w4 hB4 hK4 hZ4 => ?_)
  have hS4 := hS3.keep hK4 (hS3.off hB3 (by decide))
  refine o_nil ?_
  refine k_region ?_
  refine m_ptr rfl rfl ?_
  refine o_nilc rfl ?_
  refine o_fld (off := 1) rfl rfl ?_
  refine o_ld rfl rfl (hB4.at rfl) ?_
  refine m_sl rfl rfl ?_
  refine o_lens Try.underlying25 rfl ?_
  refine n_mul rfl rfl (by omega) ?_
  refine n_add rfl rfl (by omega) ?_
  refine o_nilc rfl ?_
  refine o_fld (off := 1) rfl rfl ?_
  refine o_st (v := .int _ _) rfl rfl rfl rfl hB4 (by simp) (fun w5 hB5 hK5 hZ5 => ?_)
  refine o_nil ?_
  refine k_end (end_tmps (ts := []) (v := .tuple #[]) rfl rfl ?_)
  refine ⟨⟨a3, c3, ?_, ?_, hkr, ?_⟩, ((hk2.tr (hK3.ts hS hka (by decide))).tr (hK4.t1 hkr hB3 (by decide))).tr (hK5.t1 hkr hB4 (by decide))⟩
  · rw [add_pack, List.length_append, List.length_append, flat_len]
    rw [al_pack] at hB5
    exact hB5
  · rw [add_pack, List.length_append, List.map_append]
    have := hS4.keep hK5 (hS4.off hB4 (by decide))
    rw [al_pack] at this
    exact this
  · exact fresh_app hka (by have := hB.lt; omega) hv3
theorem wlen_ok (k : Nat) (w : World) (r : Nat) (l : List Bool) (h : Wtr k w r l) :
    Ret Try.prog 20 [.pointer (some ⟨r, 0, none⟩)] w (fun v w' => v = .int .i64 (l.length : Int) ∧ w' = w) := by
  obtain ⟨a, c, hB, hS, hkr, hka⟩ := h
  refine fn_enter (n := 9) Try.func20 rfl rfl (Nat.le_of_ble_eq_true rfl) (fun e => ?_)
  refine k_seq ?_
  refine k_region ?_
  refine m_int rfl rfl ?_
  refine o_nil ?_
  refine k_seq ?_
  refine k_seq ?_
  refine k_region ?_
  refine m_ptr rfl rfl ?_
  refine b_eqlp Try.underlying24 rfl rfl ?_
  refine o_nil ?_
  refine k_no rfl ((by simp)) ?_
  refine k_skip ?_
  refine k_seq ?_
  refine k_region ?_
  refine m_ptr rfl rfl ?_
  refine o_nilc rfl ?_
  refine o_fld (off := 1) rfl rfl ?_
  refine o_ld rfl rfl (hB.at rfl) ?_ 
  refine m_int rfl rfl ?_
  refine o_nil ?_
  refine k_ret (ret_tmps (ts := [2]) (v := .int _ _) rfl rfl ?_)
  exact ⟨rfl, rfl⟩
theorem wbytes_ok (k : Nat) (w : World) (r : Nat) (l : List Bool) (hl : l.length ≤ 10000000000000) (h : Wtr k w r l) :
    Ret Try.prog 19 [.pointer (some ⟨r, 0, none⟩)] w (fun v w' => New w w' 5 v ((pack l).map u8v) ∧ Keep [] w w') := by
  obtain ⟨a, c, hB, hS, hkr, hka⟩ := h
  refine fn_enter (n := 11) Try.func19 rfl rfl (Nat.le_of_ble_eq_true rfl) (fun e => ?_)
  refine k_seq ?_
  refine k_region ?_
  refine m_sl rfl rfl ?_
  refine o_nil ?_
  refine k_seq ?_
  refine k_seq ?_
  refine k_region ?_
  refine m_ptr rfl rfl ?_
  refine b_eqlp Try.underlying24 rfl rfl ?_
  refine o_nil ?_
  refine k_no rfl ((by simp)) ?_
  refine k_skip ?_
  refine k_seq ?_
  refine k_region ?_
  refine o_bsl (E := 5) (cs := #[]) rfl (fun _ => by kernel_rfl) (fun g w3 hB3 hK3 hb3 hZ3 => ?_)
  refine m_ptr rfl rfl ?_
  refine o_nilc rfl ?_
  refine o_fld0 rfl rfl ?_
  refine o_ld rfl rfl (hB.kat hK3 rfl) ?_ 
  refine o_app Try.underlying25 inf5 rfl (by decide) rfl rfl (hB3.sl (len := 0) (sz := 1) rfl (by decide)) (hS.rd.new hK3) (by simp) (u8_one _) (by rw [pack_len]; simp [maxLen]; omega) (by rw [pack_len]; omega) (fun a4 c4 w4 hS4 hK4 hv4 => ?_)
  refine m_sl rfl rfl ?_
  refine o_nil ?_
  refine k_ret (ret_tmps (ts := [2]) (v := .slice _ _ _) rfl rfl ?_)
  have hk4 : Keep [] w w4 := Keep.trb hK3 hK4 (by intro q hq; simp at hq; subst hq; simp only; omega)
  refine ⟨⟨a4, c4, ?_, ?_, ?_⟩, hk4⟩
  · rw [List.length_map, Nat.zero_add]
  · rw [List.length_map]
    simpa using hS4
  · exact fresh_app (by intro q hq; simp at hq; subst hq; simp only; omega) (by have := hK3.size; omega) hv4
/-- the document's writer -/
def RW (k : Nat) (w : World) (r : Nat) (l : List Bool) : Prop :=
  ∃ a c, Blk w r #[.slice a l.length c] 31 ∧ Sl w 4 1 a l.length c (l.map Value.bool) ∧ k ≤ r ∧ ∀ q, a = some q → k ≤ q.block
theorem RW.new {k : Nat} {w w' : World} {r : Nat} {l : List Bool} (h : RW k w r l) (hk : Keep [] w w') : RW k w' r l := by
  obtain ⟨a, c, hB, hS, h1, h2⟩ := h
  exact ⟨a, c, hB.keep hk (by simp), hS.new hk, h1, h2⟩
theorem RW.kt {k k' : Nat} {w w' : World} {r : Nat} {l : List Bool} {Ts : List TypeId} (h : RW k w r l) (hk : KeepT Ts k' w w') (h27 : 31 ∉ Ts) (h5 : 4 ∉ Ts) : RW k w' r l := by
  obtain ⟨a, c, hB, hS, h1, h2⟩ := h
  exact ⟨a, c, hB.kt hk h27, hS.kt hk h5, h1, h2⟩
def RPtR (k : Nat) (w : World) (r : Nat) (l : List Bool) (n x : Int) (v : Value) (w' : World) : Prop := v = .int .i64 (pt l n x).1 ∧ RW k w' r (pt l n x).2 ∧ KeepT [31, 4] k w w'
theorem RPtR.of {k : Nat} {w w' : World} {r : Nat} {l l' : List Bool} {n x y : Int} (h : pt l n x = (y, l')) (hW : RW k w' r l') (hk : KeepT [31, 4] k w w') : RPtR k w r l n x (.int .i64 y) w' := by
  unfold RPtR; rw [h]; exact ⟨rfl, hW, hk⟩
theorem rbit (v : Int) (hv : -9223372036854775808 ≤ v ∧ v ≤ 9223372036854775807) (i : Nat) (hi : i < 64) : decide (IntKind.i64.wrap ((BitVec.ofInt IntKind.i64.bits (v.fdiv (2 ^ min i IntKind.i64.bits)) &&& BitVec.ofInt IntKind.i64.bits 1).toNat : Int) = 1) = (BitVec.ofInt 64 v).getLsbD i := by
  rw [show min i IntKind.i64.bits = i from Nat.min_eq_left (by simp [IntKind.bits]; omega)]
  show decide (IntKind.i64.wrap ((BitVec.ofInt 64 (v.fdiv (2 ^ i)) &&& 1#64).toNat : Int) = 1) = _
  rw [and_one, bit_fdiv v hv i hi]
  cases (BitVec.ofInt 64 v).getLsbD i <;> decide
theorem b_one (l : List Bool) : ∀ u ∈ l.map Value.bool, u.oneCell' = true := by
  intro u hu
  obtain ⟨x, _, rfl⟩ := List.mem_map.1 hu
  rfl
theorem rput_ok (k : Nat) (w : World) (r : Nat) (l : List Bool) (n v : Int) (hv : -9223372036854775808 ≤ v ∧ v ≤ 9223372036854775807) (hl : l.length ≤ 10000000000000) (h : RW k w r l) :
    Ret Try.prog 14 [.pointer (some ⟨r, 0, none⟩), .int .i64 n, .int .i64 v] w (fun x w' => RPtR k w r l n v x w') := by
  have hW := h
  refine fn_enter (n := 34) Try.func14 rfl rfl (Nat.le_of_ble_eq_true rfl) (fun e => ?_)
  refine k_seq ?_
  refine k_region ?_
  refine m_int rfl rfl ?_
  refine o_nil ?_
  refine k_seq ?_
  refine k_seq ?_
  refine k_region ?_
  refine m_int rfl rfl ?_
  refine b_lss rfl rfl ?_
  refine m_bool rfl rfl ?_
  refine o_split (t := 10) rfl (fun h => ?_) (fun h => ?_)
  ·
    refine g_no rfl rfl rfl ?_
    refine g_no rfl rfl rfl ?_
    refine pick_t rfl rfl ?_
    refine o_nil ?_
    refine k_condt rfl ?_
    refine k_seq ?_
    refine k_region ?_
    refine m_int rfl rfl ?_
    refine o_nil ?_
    refine k_ret (ret_tmps (ts := [6]) (v := .int _ _) rfl rfl ?_)
    exact RPtR.of (pt_arg (.inl h)) hW (Keep.refl _ _).t
  ·
    refine g_yes rfl rfl ?_
    refine m_int rfl rfl ?_
    refine g_yes rfl rfl ?_
    refine b_gtr rfl rfl ?_
    refine pick_f rfl rfl ?_
    refine o_nil ?_
    refine k_cond rfl (fun h => ?_) (fun h => ?_)
    ·
      refine k_seq ?_
      refine k_region ?_
      refine m_int rfl rfl ?_
      refine o_nil ?_
      refine k_ret (ret_tmps (ts := [6]) (v := .int _ _) rfl rfl ?_)
      exact RPtR.of (pt_arg (.inr h)) hW (Keep.refl _ _).t
    obtain ⟨m, rfl⟩ : ∃ m : Nat, n = m := ⟨n.toNat, by omega⟩
    have hm : m ≤ 16 := by omega
    refine k_skip ?_
    refine k_seq ?_
    refine k_seq ?_
    refine k_region ?_
    refine m_int rfl rfl ?_
    refine o_nil ?_
    refine k_block ?_
    refine k_loop (σ := Nat) (fun i => [(0, .pointer (some ⟨r, 0, none⟩)), (1, .int .i64 (m : Int)), (2, .int .i64 v), (7, .int .i64 (i : Int))]) (fun i w' => i ≤ m ∧ RW k w' r (l ++ vbits v i) ∧ KeepT [31, 4] k w w') (fun i => m - i) 0 ⟨rfl, rfl, rfl, rfl, trivial⟩ ⟨by omega, by simpa [vbits] using hW, (Keep.refl _ _).t⟩ (fun i e w3 hJ => ?_)
    obtain ⟨hi, hR3, hk3⟩ := hJ
    refine k_seq ?_
    refine k_seq ?_
    refine k_region ?_
    refine m_int rfl rfl ?_
    refine m_int rfl rfl ?_
    refine b_lss rfl rfl ?_
    refine o_nil ?_
    refine k_cond rfl (fun h => ?_) (fun h => ?_)
    rotate_left
    ·
      refine k_exit rfl ?_
      refine k_seq ?_
      refine k_region ?_
      refine m_int rfl rfl ?_
      refine o_nil ?_
      refine k_ret (ret_tmps (ts := [6]) (v := .int _ _) rfl rfl ?_)
      obtain rfl : i = m := by omega
      exact RPtR.of (pt_ok hm) hR3 hk3
    have him : i < m := by omega
    have hll : (l ++ vbits v i).length = l.length + i := by rw [List.length_append, vbits_len]
    obtain ⟨a, c, hB, hS, hkr, hka⟩ := hR3
    refine k_skip ?_
    refine k_seq ?_
    refine k_block ?_
    refine k_region ?_
    refine m_ptr rfl rfl ?_
    refine m_ptr rfl rfl ?_
    refine o_nilc rfl ?_
    refine o_fld0 rfl rfl ?_
    refine o_ld rfl rfl (hB.at rfl) ?_ 
    refine m_int rfl rfl ?_
    refine m_int rfl rfl ?_
    refine cv64 rfl Try.underlying47 rfl ?_
    rw [ofN i (by omega)]
    refine b_shrn rfl rfl ?_
    refine b_and rfl rfl ?_
    refine b_eql rfl rfl ?_
    rw [rbit v hv i (by omega)]
    refine o_bsl (E := 4) (cs := #[.bool ((BitVec.ofInt 64 v).getLsbD i)]) rfl (fun _ => by kernel_rfl) (fun g w4 hB4 hK4 hb4 hZ4 => ?_)
    have hBn := hB.keep hK4 (by simp)
    have hSn := hS.new hK4
    refine o_app Try.underlying29 inf4 rfl (by decide) rfl rfl hSn hB4.rd rfl (by intro u hu; simp at hu; subst hu; rfl) (by rw [hll]; simp only [maxLen]; omega) (by omega) (fun a5 c5 w5 hS5 hK5 hv5 => ?_)
    have hBm := hBn.keep hK5 (hSn.notin hBn (by decide))
    refine o_nilc rfl ?_
    refine o_fld0 rfl rfl ?_
    refine o_st (v := .slice _ _ _) rfl rfl rfl rfl hBm (by simp) (fun w6 hB6 hK6 hZ6 => ?_)
    refine o_nil ?_
    refine k_blk ?_
    refine k_region ?_
    refine m_int rfl rfl ?_
    refine n_add rfl rfl (by omega) ?_
    refine m_int rfl rfl ?_
    refine o_nil ?_
    have hfr : ∀ q, a5 = some q → k ≤ q.block := fresh_app hka (by have := hBn.lt; omega) hv5
    refine k_goal ⟨i + 1, ⟨rfl, rfl, rfl, rfl, trivial⟩, ⟨by omega, ⟨a5, c5, ?_, ?_, hkr, hfr⟩, ((hk3.tr hK4.t).tr (hK5.ts hSn hka (by decide))).tr (hK6.t1 hkr hBm (by decide))⟩, by omega⟩
    · rw [vbits_succ, ← List.append_assoc, List.length_append, List.length_singleton]; exact hB6
    · rw [vbits_succ, ← List.append_assoc, List.length_append, List.length_singleton, List.map_append]
      exact hS5.keep hK6 (hS5.off hBm (by decide))
theorem rwalign_ok (k : Nat) (w : World) (r : Nat) (l : List Bool) (hl : l.length ≤ 10000000000000) (h : RW k w r l) :
    Ret Try.prog 16 [.pointer (some ⟨r, 0, none⟩)] w (fun v w' => RW k w' r (al l) ∧ KeepT [31, 4] k w w') := by
  have hW := h
  refine fn_enter (n := 18) Try.func16 rfl rfl (Nat.le_of_ble_eq_true rfl) (fun e => ?_)
  refine k_block ?_
  refine k_loop (σ := List Bool) (fun m => [(0, .pointer (some ⟨r, 0, none⟩))]) (fun m w' => al m = al l ∧ RW k w' r m ∧ KeepT [31, 4] k w w') (fun m => 8 * ((l.length + 7) / 8) - m.length) l ⟨rfl, trivial⟩ ⟨rfl, hW, (Keep.refl _ _).t⟩ (fun m e w3 hJ => ?_)
  obtain ⟨hal, hR3, hk3⟩ := hJ
  have hR3' := hR3
  obtain ⟨a, c, hB, hS, hkr, hka⟩ := hR3
  have hlm := congrArg List.length hal
  rw [al_len, al_len] at hlm
  refine k_seq ?_
  refine k_seq ?_
  refine k_region ?_
  refine m_ptr rfl rfl ?_
  refine o_nilc rfl ?_
  refine o_fld0 rfl rfl ?_
  refine o_ld rfl rfl (hB.at rfl) ?_ 
  refine o_lens Try.underlying29 rfl ?_
  refine b_rem rfl rfl (by omega) ?_
  rw [tm8 m.length]
  refine b_neq rfl rfl ?_
  refine o_nil ?_
  refine k_cond rfl (fun h => ?_) (fun h => ?_)
  rotate_left
  ·
    refine k_exit rfl ?_
    refine k_end (end_tmps (ts := []) (v := .tuple #[]) rfl rfl ?_)
    rw [← hal, al_self m (by omega)]
    exact ⟨hR3', hk3⟩
  refine k_skip ?_
  refine k_block ?_
  refine k_region ?_
  refine m_ptr rfl rfl ?_
  refine m_ptr rfl rfl ?_
  refine o_nilc rfl ?_
  refine o_fld0 rfl rfl ?_
  refine o_ld rfl rfl (hB.at rfl) ?_ 
  refine o_bsl (E := 4) (cs := #[.bool false]) rfl (fun _ => by kernel_rfl) (fun g w4 hB4 hK4 hb4 hZ4 => ?_)
  have hBn := hB.keep hK4 (by simp)
  have hSn := hS.new hK4
  refine o_app Try.underlying29 inf4 rfl (by decide) rfl rfl hSn hB4.rd rfl (by intro u hu; simp at hu; subst hu; rfl) (by simp [maxLen]; omega) (by omega) (fun a5 c5 w5 hS5 hK5 hv5 => ?_)
  have hBm := hBn.keep hK5 (hSn.notin hBn (by decide))
  refine o_nilc rfl ?_
  refine o_fld0 rfl rfl ?_
  refine o_st (v := .slice _ _ _) rfl rfl rfl rfl hBm (by simp) (fun w6 hB6 hK6 hZ6 => ?_)
  refine o_nil ?_
  refine k_blk ?_
  have hfr : ∀ q, a5 = some q → k ≤ q.block := fresh_app hka (by have := hBn.lt; omega) hv5
  refine k_goal ⟨m ++ [false], ⟨rfl, trivial⟩, ⟨by rw [al_one m (by omega), hal], ⟨a5, c5, ?_, ?_, hkr, hfr⟩, ((hk3.tr hK4.t).tr (hK5.ts hSn hka (by decide))).tr (hK6.t1 hkr hBm (by decide))⟩, by rw [List.length_append, List.length_singleton]; omega⟩
  · rw [List.length_append, List.length_singleton]; exact hB6
  · rw [List.length_append, List.length_singleton, List.map_append]
    exact hS5.keep hK6 (hS5.off hBm (by decide))
theorem rwadd_ok (k : Nat) (w : World) (r : Nat) (l : List Bool) (a' : Option Addr) (c' : Nat) (bs : List (BitVec 8)) (hl : l.length ≤ 1000000000000) (hbl : bs.length ≤ 100000000000) (h : RW k w r l) (hR : Rd w a' (bs.map u8v)) (hoff : bs ≠ [] → ∀ p, a' = some p → p.block < k) :
    Ret Try.prog 18 [.pointer (some ⟨r, 0, none⟩), .slice a' bs.length c'] w (fun v w' => RW k w' r (al l ++ flat bs) ∧ KeepT [31, 4] k w w') := by
  refine fn_enter (n := 20) Try.func18 rfl rfl (Nat.le_of_ble_eq_true rfl) (fun e => ?_)
  refine k_seq ?_
  refine k_region ?_
  refine m_ptr rfl rfl ?_
  refine o_call rfl rfl (rwalign_ok k w r l (by omega) h) (fun v w2 hv => ?_)
  obtain ⟨hW2, hk2⟩ := hv
  have hal := al_len l
  refine o_nil ?_
  refine k_seq ?_
  refine k_region ?_
  refine m_int rfl rfl ?_
  refine o_nil ?_
  refine k_block ?_
  refine k_loop (σ := Nat) (fun i => [(0, .pointer (some ⟨r, 0, none⟩)), (1, .slice a' bs.length c'), (4, .int .i64 (i : Int))]) (fun i w' => i ≤ bs.length ∧ RW k w' r (al l ++ flat (bs.take i)) ∧ KeepT [31, 4] k w w') (fun i => bs.length - i) 0 ⟨rfl, rfl, rfl, trivial⟩ ⟨by omega, by simpa [flat] using hW2, hk2⟩ (fun i e w3 hJ => ?_)
  obtain ⟨hi, hW3, hk3⟩ := hJ
  refine k_seq ?_
  refine k_seq ?_
  refine k_region ?_
  refine m_int rfl rfl ?_
  refine m_sl rfl rfl ?_
  refine o_lens Try.underlying25 rfl ?_
  refine b_lss rfl rfl ?_
  refine o_nil ?_
  refine k_cond rfl (fun h => ?_) (fun h => ?_)
  rotate_left
  ·
    refine k_exit rfl ?_
    refine k_end (end_tmps (ts := []) (v := .tuple #[]) rfl rfl ?_)
    rw [show bs = bs.take i by rw [List.take_of_length_le (by omega)]]
    exact ⟨hW3, hk3⟩
  have hib : i < bs.length := by omega
  have hR3 := hR.ktN hk3 (fun hn => hoff (by simpa using hn))
  obtain ⟨b1, o1, rfl, _⟩ := hR3.at i (by simpa using hib)
  refine k_skip ?_
  refine k_seq ?_
  refine k_block ?_
  refine k_region ?_
  refine m_ptr rfl rfl ?_
  refine m_sl rfl rfl ?_
  refine m_int rfl rfl ?_
  refine o_ixs1 Try.underlying25 rfl rfl rfl hib ?_
  refine o_ld rfl rfl (hR3.cellK (Keep.refl _ _) (u8_at bs i hib)) ?_
  refine cv8_i rfl Try.underlying3 rfl ?_
  refine o_call rfl rfl (rput_ok k w3 r _ 8 _ (by have := (bs[i]).isLt; omega) (by rw [List.length_append, flat_len, List.length_take]; omega) hW3) (fun v w4 hv => ?_)
  obtain ⟨_, hW4, hk4⟩ := hv
  refine o_nil ?_
  refine k_blk ?_
  refine k_region ?_
  refine m_int rfl rfl ?_
  refine n_add rfl rfl (by omega) ?_
  refine m_int rfl rfl ?_
  refine o_nil ?_
  refine k_goal ⟨i + 1, ⟨rfl, rfl, rfl, trivial⟩, ⟨by omega, ?_, hk3.tr hk4⟩, by omega⟩
  rw [show (8 : Int) = ((8 : Nat) : Int) from rfl, pt_ok (by decide)] at hW4
  rw [List.take_succ_eq_append_getElem hib, flat_app, ← List.append_assoc]
  exact hW4
theorem or_bit (x : BitVec 8) (s : Nat) (h : x.getLsbD s = false) : x + (1#8 <<< s) = x ||| (1#8 <<< s) := by
  apply BitVec.add_eq_or_of_and_eq_zero
  apply BitVec.eq_of_getLsbD_eq
  intro j hj
  rw [BitVec.getLsbD_and, BitVec.getLsbD_shiftLeft, BitVec.getLsbD_one]
  by_cases hjs : j = s
  · subst hjs; simp [h]
  · by_cases hlt : j < s
    · simp [hlt]
    · have : ¬ j - s = 0 := by omega
      simp [this]
theorem rwbytes_ok (k : Nat) (w : World) (r : Nat) (l : List Bool) (hl : l.length ≤ 10000000000000) (h : RW k w r l) :
    Ret Try.prog 22 [.pointer (some ⟨r, 0, none⟩)] w (fun v w' => New w w' 5 v ((pack l).map u8v) ∧ Keep [] w w') := by
  obtain ⟨a, c, hB, hS, hkr, hka⟩ := h
  refine fn_enter (n := 44) Try.func22 rfl rfl (Nat.le_of_ble_eq_true rfl) (fun e => ?_)
  refine k_seq ?_
  refine k_region ?_
  refine m_sl rfl rfl ?_
  refine o_nil ?_
  refine k_seq ?_
  refine k_region ?_
  refine m_ptr rfl rfl ?_
  refine o_nilc rfl ?_
  refine o_fld0 rfl rfl ?_
  refine o_ld rfl rfl (by first | exact hB.at rfl | exact hB.kat hk3 rfl) ?_ 
  refine o_lens Try.underlying29 rfl ?_
  refine n_add rfl rfl (by omega) ?_
  refine b_quo rfl rfl (by omega) ?_
  rw [show (l.length : Int) + 7 = ((l.length + 7 : Nat) : Int) by omega, td8 (l.length + 7) (by omega)]
  refine o_make (m := (l.length + 7) / 8) Try.underlying25 inf5 rfl rfl (by simp [maxLen]; omega) (by omega) (fun g w2 hS2 hK2 hb2 hZ2 => ?_)
  have hz : (madeCells (Value.cells (.int .u8 0)) ((l.length + 7) / 8 * 1)).toList = (List.replicate ((l.length + 7) / 8) 0#8).map u8v := by
   show (madeCells #[Value.int .u8 0] ((l.length + 7) / 8 * 1)).toList = _
   rw [Nat.mul_one, toList_madeCells_one, List.map_replicate]; rfl
  rw [hz] at hS2
  refine m_sl rfl rfl ?_
  refine o_nil ?_
  refine k_seq ?_
  refine k_seq ?_
  refine k_region ?_
  refine m_int rfl rfl ?_
  refine o_nil ?_
  refine k_block ?_
  refine k_loop (σ := Nat × List (BitVec 8)) (fun s => [(0, .pointer (some ⟨r, 0, none⟩)), (3, .slice (some ⟨g, 0, none⟩) ((l.length + 7) / 8) ((l.length + 7) / 8)), (4, .int .i64 (s.1 : Int))]) (fun s w' => s.1 ≤ l.length ∧ s.2.length = (l.length + 7) / 8 ∧ (∀ j, bitAt s.2 j = (decide (j < s.1) && l.getD j false)) ∧ Sl w' 5 1 (some ⟨g, 0, none⟩) ((l.length + 7) / 8) ((l.length + 7) / 8) (s.2.map u8v) ∧ Keep [] w w') (fun s => l.length - s.1) (0, List.replicate ((l.length + 7) / 8) 0#8) ⟨rfl, rfl, rfl, trivial⟩ ⟨by simp, by simp, ?_, hS2, hK2⟩ (fun s e w3 hJ => ?_)
  · intro j
    simp only [bitAt, List.getD_eq_getElem?_getD, List.getElem?_replicate]
    split <;> simp
  obtain ⟨i, bs⟩ := s
  obtain ⟨hi, hbl, hbit, hS3, hk3⟩ := hJ
  simp only at hi hbl hbit hS3 hk3 ⊢
  refine k_seq ?_
  refine k_seq ?_
  refine k_region ?_
  refine m_int rfl rfl ?_
  refine m_ptr rfl rfl ?_
  refine o_nilc rfl ?_
  refine o_fld0 rfl rfl ?_
  refine o_ld rfl rfl (by first | exact hB.at rfl | exact hB.kat hk3 rfl) ?_ 
  refine o_lens Try.underlying29 rfl ?_
  refine b_lss rfl rfl ?_
  refine o_nil ?_
  refine k_cond rfl (fun h => ?_) (fun h => ?_)
  rotate_left
  ·
    refine k_exit rfl ?_
    refine k_seq ?_
    refine k_region ?_
    refine m_sl rfl rfl ?_
    refine m_sl rfl rfl ?_
    refine o_nil ?_
    refine k_ret (ret_tmps (ts := [2]) (v := .slice _ _ _) rfl rfl ?_)
    obtain rfl : i = l.length := by omega
    have hp : bs = pack l := by
     apply pack_eq _ _ hbl
     intro j
     rw [hbit]
     by_cases hj : j < l.length
     · simp [hj]
     · rw [getD_out l j (by omega)]; simp
    subst hp
    refine ⟨⟨some ⟨g, 0, none⟩, (l.length + 7) / 8, ?_, ?_, ?_⟩, hk3⟩
    · rw [List.length_map, hbl]
    · rw [List.length_map, hbl]; exact hS3
    · intro q hq; simp at hq; subst hq; simp only; omega
  have hil : i < l.length := by omega
  obtain ⟨b1, o1, rfl, _⟩ := hS.rd.at i (by simpa using hil)
  have hlg : l.getD i false = l[i] := by rw [List.getD_eq_getElem?_getD, List.getElem?_eq_getElem hil]; rfl
  refine k_skip ?_
  refine k_seq ?_
  refine k_block ?_
  refine k_seq ?_
  refine k_region ?_
  refine m_ptr rfl rfl ?_
  refine o_nilc rfl ?_
  refine o_fld0 rfl rfl ?_
  refine o_ld rfl rfl (by first | exact hB.at rfl | exact hB.kat hk3 rfl) ?_ 
  refine m_int rfl rfl ?_
  refine o_ixs1 Try.underlying29 rfl rfl rfl hil ?_
  refine o_ld (v := .bool (l[i])) rfl rfl (hS.rd.cellK hk3 (by rw [List.getElem?_map, List.getElem?_eq_getElem hil]; rfl)) ?_
  refine o_nil ?_
  refine k_condb (b := l[i]) rfl (fun h => ?_) (fun h => ?_)
  ·
    have hq : i / 8 < (l.length + 7) / 8 := by omega
    have hqb : i / 8 < bs.length := by omega
    have hb0 : (bs[i / 8]).getLsbD (i % 8) = false := by
     have := hbit i
     unfold bitAt at this
     rw [List.getD_eq_getElem?_getD, List.getElem?_eq_getElem hqb] at this
     simpa using this
    obtain ⟨g', cur, hg', hG, hGs⟩ := hS3.blk (by omega)
    simp at hg'
    subst hg'
    refine k_region ?_
    refine m_sl rfl rfl ?_
    refine m_int rfl rfl ?_
    refine b_quo rfl rfl (by omega) ?_
    rw [td8 i (by omega)]
    refine m_sl rfl rfl ?_
    refine m_int rfl rfl ?_
    refine b_quo rfl rfl (by omega) ?_
    rw [td8 i (by omega)]
    refine o_ixs1 (m := i / 8) Try.underlying25 rfl rfl rfl hq ?_
    refine o_ld rfl rfl (hS3.rd.cellK (Keep.refl _ _) (u8_at bs _ hqb)) ?_
    refine m_int rfl rfl ?_
    refine b_rem rfl rfl (by omega) ?_
    rw [tm8 i]
    refine cv64 rfl Try.underlying47 rfl ?_
    rw [ofN (i % 8) (by omega)]
    refine v8_shln (a := 1#8) rfl rfl ?_
    refine v8_add rfl rfl ?_
    rw [or_bit _ _ hb0]
    refine o_ixs1 (m := i / 8) Try.underlying25 rfl rfl rfl hq ?_
    refine o_st (v := .int _ _) rfl rfl rfl rfl hG (by omega) (fun w4 hB4 hK4 hZ4 => ?_)
    refine o_nil ?_
    refine k_blk ?_
    refine k_region ?_
    refine m_int rfl rfl ?_
    refine n_add rfl rfl (by omega) ?_
    refine m_int rfl rfl ?_
    refine o_nil ?_
    refine k_goal ⟨(i + 1, bs.set (i / 8) (bs[i / 8] ||| 1#8 <<< (i % 8))), ⟨rfl, rfl, rfl, trivial⟩, ⟨by simp only; omega, by simp only [List.length_set]; exact hbl, ?_, by simp only; rw [← u8_set]; exact hS3.set hq hG hB4, hk3.tr1 hK4 (by omega)⟩, by simp only; omega⟩
    intro j
    simp only
    rw [bitAt_set _ _ _ hqb]
    split
    · rename_i hj
      rw [BitVec.getLsbD_or, BitVec.getLsbD_shiftLeft, BitVec.getLsbD_one]
      have e1 : (bs[i / 8]).getLsbD (j % 8) = bitAt bs j := by
        unfold bitAt
        rw [hj, List.getD_eq_getElem?_getD, List.getElem?_eq_getElem hqb]; rfl
      rw [e1, hbit]
      by_cases hji : j = i
      · subst hji
        have : j % 8 < 8 := Nat.mod_lt _ (by decide)
        rw [hlg, h]
        simp [this]
      · have e2 : (j < i + 1) = (j < i) := by apply propext; omega
        have e3 : (decide (j % 8 < 8) && !decide (j % 8 < i % 8) && (decide (0 < 8) && decide (j % 8 - i % 8 = 0))) = false := by
          by_cases hlt : j % 8 < i % 8
          · simp [hlt]
          · have : ¬ j % 8 - i % 8 = 0 := by omega
            simp [this]
        simp only [e2]
        rw [e3]
        simp
    · rename_i hj
      rw [hbit]
      have e2 : (j < i + 1) = (j < i) := by apply propext; omega
      simp only [e2]
  refine k_skip ?_
  refine k_blk ?_
  refine k_region ?_
  refine m_int rfl rfl ?_
  refine n_add rfl rfl (by omega) ?_
  refine m_int rfl rfl ?_
  refine o_nil ?_
  refine k_goal ⟨(i + 1, bs), ⟨rfl, rfl, rfl, trivial⟩, ⟨by simp only; omega, hbl, ?_, hS3, hk3⟩, by simp only; omega⟩
  intro j
  simp only
  rw [hbit]
  by_cases hji : j = i
  · subst hji
    rw [hlg, h]; simp
  · have e2 : (j < i + 1) = (j < i) := by apply propext; omega
    simp only [e2]
theorem same_ok (w : World) (a b : Option Addr) (c d : Nat) (xs ys : List (BitVec 8)) (hX : Rd w a (xs.map u8v)) (hY : Rd w b (ys.map u8v)) (hl : xs.length ≤ 9223372036854775807) :
    Ret Try.prog 21 [.slice a xs.length c, .slice b ys.length d] w (fun v w' => v = .bool (decide (xs = ys)) ∧ Keep [] w w') := by
  generalize hn : xs.length = n at *
  generalize hm : ys.length = m at *
  refine fn_enter (n := 26) Try.func21 rfl rfl (Nat.le_of_ble_eq_true rfl) (fun e => ?_)
  refine k_seq ?_
  refine k_region ?_
  refine m_bool rfl rfl ?_
  refine o_nil ?_
  refine k_seq ?_
  refine k_seq ?_
  refine k_region ?_
  refine m_sl rfl rfl ?_
  refine o_lens Try.underlying25 rfl ?_
  refine m_sl rfl rfl ?_
  refine o_lens Try.underlying25 rfl ?_
  refine b_neq rfl rfl ?_
  refine o_nil ?_
  refine k_cond rfl (fun h => ?_) (fun h => ?_)
  ·
    refine k_seq ?_
    refine k_region ?_
    refine m_bool rfl rfl ?_
    refine o_nil ?_
    refine k_ret (ret_tmps (ts := [4]) (v := .bool _) rfl rfl ?_)
    exact ⟨congrArg Value.bool (decide_eq_false (fun he => by subst he; omega)).symm, Keep.refl _ _⟩
  have hnm : n = m := by omega
  subst hnm
  refine k_skip ?_
  refine k_seq ?_
  refine k_seq ?_
  refine k_region ?_
  refine m_int rfl rfl ?_
  refine o_nil ?_
  refine k_block ?_
  refine k_loop (σ := Nat) (fun i => [(0, .slice a n c), (1, .slice b n d), (5, .int .i64 (i : Int))]) (fun i w' => i ≤ n ∧ (∀ j, j < i → xs[j]? = ys[j]?) ∧ Keep [] w w') (fun i => n - i) 0 ⟨rfl, rfl, rfl, trivial⟩ ⟨by omega, by intro j hj; omega, Keep.refl _ _⟩ (fun i e w3 hJ => ?_)
  obtain ⟨hi, hpre, hk3⟩ := hJ
  refine k_seq ?_
  refine k_seq ?_
  refine k_region ?_
  refine m_int rfl rfl ?_
  refine m_sl rfl rfl ?_
  refine o_lens Try.underlying25 rfl ?_
  refine b_lss rfl rfl ?_
  refine o_nil ?_
  refine k_cond rfl (fun h => ?_) (fun h => ?_)
  rotate_left
  ·
    refine k_exit rfl ?_
    refine k_seq ?_
    refine k_region ?_
    refine m_bool rfl rfl ?_
    refine o_nil ?_
    refine k_ret (ret_tmps (ts := [4]) (v := .bool _) rfl rfl ?_)
    refine ⟨congrArg Value.bool (decide_eq_true (List.ext_getElem? (fun j => ?_))).symm, hk3⟩
    by_cases hj : j < n
    · exact hpre j (by omega)
    · rw [List.getElem?_eq_none (by omega), List.getElem?_eq_none (by omega)]
  have hin : i < n := by omega
  have hx := List.getElem?_eq_getElem (l := xs) (i := i) (by omega)
  have hy := List.getElem?_eq_getElem (l := ys) (i := i) (by omega)
  obtain ⟨b1, o1, rfl, _⟩ := hX.at i (by simpa using (by omega : i < xs.length))
  obtain ⟨b2, o2, rfl, _⟩ := hY.at i (by simpa using (by omega : i < ys.length))
  refine k_skip ?_
  refine k_seq ?_
  refine k_block ?_
  refine k_seq ?_
  refine k_qk 8 rfl rfl rfl rfl rfl ?_
  refine q_step (fun w1 hC => m_sl rfl rfl (o_nil ⟨rfl, hC⟩)) ?_
  refine q_step (fun w1 hC => m_int rfl rfl (o_nil ⟨rfl, hC⟩)) ?_
  refine q_step (fun w1 hC => o_ixs1 Try.underlying25 rfl rfl rfl hin (o_nil ⟨rfl, hC⟩)) ?_
  refine q_step (fun w1 hC => o_ld rfl rfl (hX.cellK (hk3.tr hC) (u8_at xs i (by omega))) (o_nil ⟨rfl, hC⟩)) ?_
  refine q_step (fun w1 hC => m_sl rfl rfl (o_nil ⟨rfl, hC⟩)) ?_
  refine q_step (fun w1 hC => m_int rfl rfl (o_nil ⟨rfl, hC⟩)) ?_
  refine q_step (fun w1 hC => o_ixs1 Try.underlying25 rfl rfl rfl hin (o_nil ⟨rfl, hC⟩)) ?_
  refine q_step (fun w1 hC => o_ld rfl rfl (hY.cellK (hk3.tr hC) (u8_at ys i (by omega))) (o_nil ⟨rfl, hC⟩)) ?_
  refine q_nil ?_
  intro w4 hC4
  refine v8_neq rfl rfl ?_
  refine o_nil ?_
  refine k_cond rfl (fun h => ?_) (fun h => ?_)
  ·
    refine k_seq ?_
    refine k_region ?_
    refine m_bool rfl rfl ?_
    refine o_nil ?_
    refine k_ret (ret_tmps (ts := [4]) (v := .bool _) rfl rfl ?_)
    exact ⟨congrArg Value.bool (decide_eq_false (fun he => by subst he; exact h rfl)).symm, hk3.tr hC4⟩
  refine k_skip ?_
  refine k_blk ?_
  refine k_region ?_
  refine m_int rfl rfl ?_
  refine n_add rfl rfl (by omega) ?_
  refine m_int rfl rfl ?_
  refine o_nil ?_
  refine k_goal ⟨i + 1, ⟨rfl, rfl, rfl, trivial⟩, ⟨by omega, ?_, hk3.tr hC4⟩, by omega⟩
  intro j hj
  by_cases hji : j = i
  · subst hji
    rw [hx, hy, Decidable.of_not_not h]
  · exact hpre j (by omega)
end Go.Proofs.Ytpmlhlefhmgpfaa
