/- Ops: the numbers of bytes, and the reader's small functions. No condition beyond what each contract names. -/
import Derived.Test.YtmdkinedbmjieaaOp
namespace Go.Proofs.Ytmdkinedbmjieaa
open Go.RowKit E
set_option linter.unusedVariables false
set_option linter.unusedSimpArgs false
set_option maxRecDepth 100000
attribute [local irreducible] ow qw kw kq cw opW Ret
theorem inf5 : infB Try.prog 5 1 1 (.int .u8 0) := ⟨_, rfl, rfl, rfl, rfl⟩
theorem fits_ok (w : World) (a : Option Addr) (len c p k : Nat) (hl : len ≤ 9223372036854775807) (hp : p ≤ 4611686018427387904) (h1 : 1 ≤ k) (h8 : k ≤ 8) :
    Ret Try.prog 38 [.slice a len c, .int .i64 (p : Int), .int .i64 (k : Int)] w (fun v w' => w' = w ∧ v = .int .i64 (if p + k ≤ len then 0 else 2)) := by
  refine fn_enter (n := 23) Try.func38 rfl rfl (Nat.le_of_ble_eq_true rfl) (fun e => ?_)
  refine k_seq ?_
  refine k_region ?_
  refine m_int rfl rfl ?_
  refine o_nil ?_
  refine k_seq ?_
  refine k_seq ?_
  refine k_region ?_
  refine m_int rfl rfl ?_
  refine b_lss rfl rfl ?_
  refine m_bool rfl rfl ?_
  refine o_false (t := 9) rfl ((by omega)) ?_
  refine g_yes rfl rfl ?_
  refine m_int rfl rfl ?_
  refine g_yes rfl rfl ?_
  refine b_gtr rfl rfl ?_
  refine pick_f rfl rfl ?_
  refine m_bool rfl rfl ?_
  refine o_false (t := 13) rfl ((by omega)) ?_
  refine g_yes rfl rfl ?_
  refine m_int rfl rfl ?_
  refine g_yes rfl rfl ?_
  refine b_lss rfl rfl ?_
  refine pick_f rfl rfl ?_
  refine o_nil ?_
  refine k_no rfl ((by omega)) ?_
  refine k_skip ?_
  refine k_seq ?_
  refine k_seq ?_
  refine k_region ?_
  refine m_int rfl rfl ?_
  refine m_sl rfl rfl ?_
  refine o_lens Try.underlying22 rfl ?_
  refine m_int rfl rfl ?_
  refine n_sub rfl rfl (by omega) ?_
  refine b_gtr rfl rfl ?_
  refine o_nil ?_
  refine k_cond rfl (fun h => ?_) (fun h => ?_)
  ·
    refine k_seq ?_
    refine k_region ?_
    refine m_int rfl rfl ?_
    refine o_nil ?_
    refine k_ret (ret_tmps (ts := [6]) (v := .int _ _) rfl rfl ?_)
    exact ⟨rfl, by rw [if_neg (by omega)]⟩
  refine k_skip ?_
  refine k_seq ?_
  refine k_region ?_
  refine m_int rfl rfl ?_
  refine o_nil ?_
  refine k_ret (ret_tmps (ts := [6]) (v := .int _ _) rfl rfl ?_)
  exact ⟨rfl, by rw [if_pos (by omega)]⟩
theorem big_ok (w : World) (a : Option Addr) (c p k : Nat) (cs : Bs) (hR : Rd w a (cs.map u8v)) (hc : cs.length ≤ c) (hl : cs.length ≤ 9223372036854775807) (hp : p ≤ 4611686018427387904) (h1 : 1 ≤ k) (h8 : k ≤ 4) :
    Ret Try.prog 31 [.slice a cs.length c, .int .i64 (p : Int), .int .i64 (k : Int)] w (fun v w' => w' = w ∧ v = .tuple #[.int .i64 (numZ cs p k : Int), .int .i64 (if p + k ≤ cs.length then 0 else 2)]) := by
  refine fn_enter (n := 38) Try.func31 rfl rfl (Nat.le_of_ble_eq_true rfl) (fun e => ?_)
  refine k_seq ?_
  refine k_region ?_
  refine m_int rfl rfl ?_
  refine m_int rfl rfl ?_
  refine o_nil ?_
  refine k_seq ?_
  refine k_seq ?_
  refine k_region ?_
  refine m_sl rfl rfl ?_
  refine m_int rfl rfl ?_
  refine m_int rfl rfl ?_
  refine o_call rfl rfl (fits_ok w a cs.length c p k hl hp h1 (by omega)) (fun v w' hv => ?_)
  obtain ⟨rfl, rfl⟩ := hv
  refine m_int rfl rfl ?_
  refine o_nil ?_
  refine k_seq ?_
  refine k_region ?_
  refine m_int rfl rfl ?_
  refine b_neq rfl rfl ?_
  refine o_nil ?_
  refine k_cond rfl (fun h => ?_) (fun h => ?_)
  ·
    refine k_seq ?_
    refine k_region ?_
    refine m_int rfl rfl ?_
    refine m_int rfl rfl ?_
    refine m_int rfl rfl ?_
    refine o_nil ?_
    refine k_ret (ret_tmps (ts := [6, 7]) (v := .tuple #[.int _ _, .int _ _]) rfl rfl ?_)
    exact ⟨rfl, by rw [numZ_out (fun hh => h (if_pos hh))]; rfl⟩
  have hin : p + k ≤ cs.length := by
   refine Decidable.byContradiction fun hh => h ?_
   rw [if_neg hh]; decide
  have hR2 : Rd w' (cutAt a p c 1) (((cs.drop p).take k).map u8v) := by
   have := (cutAt_rd (lo := p) (cap := c) (sz := 1) hR (by simp; omega) (by omega) (by simp; exact hc)).take k
   rw [Nat.mul_one, ← List.map_drop, ← List.map_take] at this
   exact this
  have hsl : ((cs.drop p).take k).length = k := by simp; omega
  refine k_skip ?_
  refine k_seq ?_
  refine k_region ?_
  refine m_int rfl rfl ?_
  refine o_nil ?_
  refine k_seq ?_
  refine k_seq ?_
  refine k_region ?_
  refine m_sl rfl rfl ?_
  refine m_int rfl rfl ?_
  refine m_int rfl rfl ?_
  refine m_int rfl rfl ?_
  refine n_add rfl rfl (by omega) ?_
  refine o_sllh (sz := 1) (lo := p) (hi := p + k) Try.underlying22 rfl rfl rfl rfl (by omega) (by omega) ?_
  refine o_lens Try.underlying22 rfl ?_
  refine m_int rfl rfl ?_
  refine o_nil ?_
  refine k_block ?_
  refine k_loop (σ := Nat) (fun i => [(9, .int .u64 ((BitVec.ofNat 64 (bigN (((cs.drop p).take k).take i))).toNat : Int)), (24, .slice (cutAt a p c 1) (p + k - p) (c - p)), (25, .int .i64 ((p + k - p : Nat) : Int)), (26, .int .i64 (i : Int))]) (fun i w2 => i ≤ k ∧ w2 = w') (fun i => k - i) 0 ⟨rfl, rfl, rfl, rfl, trivial⟩ ⟨by omega, rfl⟩ (fun i e w2 hJ => ?_)
  obtain ⟨hi, rfl⟩ := hJ
  refine k_seq ?_
  refine k_region ?_
  refine b_lss rfl rfl ?_
  refine o_nil ?_
  refine k_seq ?_
  refine k_cond rfl (fun h => ?_) (fun h => ?_)
  rotate_left
  ·
    have hik : i = k := by omega
    refine k_exit rfl ?_
    refine k_seq ?_
    refine k_region ?_
    refine m_int rfl rfl ?_
    refine cv64_i rfl Try.underlying2 rfl ?_
    refine m_int rfl rfl ?_
    refine m_int rfl rfl ?_
    refine o_nil ?_
    refine k_ret (ret_tmps (ts := [6, 7]) (v := .tuple #[.int _ _, .int _ _]) rfl rfl ?_)
    refine ⟨rfl, ?_⟩
    rw [if_pos hin, numZ_in hin]
    refine congrArg (fun x : Int => Value.tuple #[.int .i64 x, .int .i64 0]) ?_
    subst hik
    have hlt : bigN ((cs.drop p).take i) < 256 ^ 4 := by
     refine Nat.lt_of_lt_of_le (bigN_lt _) (Nat.pow_le_pow_right (by decide) (by omega))
    rw [show (((cs.drop p).take i).take i) = (cs.drop p).take i by rw [List.take_take, Nat.min_self]]
    rw [BitVec.toInt_eq_toNat_of_lt (by rw [BitVec.toNat_ofNat]; omega), BitVec.toNat_ofNat, Nat.mod_eq_of_lt (by omega)]
  have hik : i < k := by omega
  obtain ⟨b1, o1, hcut, hcell⟩ := hR2.at i (by simp; omega)
  have hlt : bigN (((cs.drop p).take k).take i) < 256 ^ 3 := by
   refine Nat.lt_of_lt_of_le (bigN_lt _) (Nat.pow_le_pow_right (by decide) ?_)
   simp; omega
  refine k_skip ?_
  refine k_seq ?_
  refine k_block ?_
  refine k_seq ?_
  refine k_region ?_
  refine o_ixs1 Try.underlying22 rfl (show _ = Value.slice (some ⟨b1, o1, none⟩) _ _ by rw [← hcut]; rfl) rfl (by omega) ?_
  refine o_ld (v := .int .u8 ((((cs.drop p).take k)[i]'(by omega)).toNat : Int)) rfl rfl (by rw [hcell, List.getElem_map]; rfl) ?_
  refine m_int rfl rfl ?_
  refine o_nil ?_
  refine k_region ?_
  refine m_int rfl rfl ?_
  refine v64_shln (c := 8) rfl rfl ?_
  refine m_int rfl rfl ?_
  refine cv8_64 rfl Try.underlying80 rfl ?_
  refine v64_or rfl rfl ?_
  refine m_int rfl rfl ?_
  refine o_nil ?_
  refine k_blk ?_
  refine k_region ?_
  refine n_add rfl rfl (by omega) ?_
  refine m_int rfl rfl ?_
  refine o_nil ?_
  refine k_goal ⟨i + 1, ⟨?_, rfl, rfl, rfl, trivial⟩, ⟨by omega, rfl⟩, by omega⟩
  · refine congrArg (fun x : BitVec 64 => Value.int .u64 (x.toNat : Int)) ?_
    rw [step64 _ _ (by omega), List.take_succ_eq_append_getElem (by omega), bigN_snoc]
/-- a reader in memory -/
def Rdr (k : Nat) (w : World) (r m : Nat) (cs : Bs) (fl : Bool) : Prop :=
  ∃ a c, Blk w r #[.slice a cs.length c, .map (some m), .bool fl] 44 ∧ Rd w a (cs.map u8v) ∧ cs.length ≤ c ∧ (cs ≠ [] → ∀ q, a = some q → q.block < k) ∧ k ≤ r ∧ cs.length ≤ 4096
theorem Rdr.keep {k : Nat} {S : List Nat} {w w' : World} {r m : Nat} {cs : Bs} {fl : Bool} (h : Rdr k w r m cs fl) (hk : Keep S w w') (hS : ∀ b ∈ S, k ≤ b ∧ b ≠ r) : Rdr k w' r m cs fl := by
  obtain ⟨a, c, h1, h2, h3, h4, h5⟩ := h
  refine ⟨a, c, h1.keep hk (fun hm => (hS r hm).2 rfl), h2.keepN hk (fun hn => off_lt (h4 (fun h => hn (by rw [h]; rfl))) (fun b hb => (hS b hb).1)), h3, h4, h5⟩
theorem Rdr.set {k : Nat} {w w' : World} {r m : Nat} {cs : Bs} {a : Option Addr} {c : Nat} {fl : Bool} (h2 : Rd w a (cs.map u8v)) (h3 : cs.length ≤ c) (h4 : cs ≠ [] → ∀ q, a = some q → q.block < k) (h5 : k ≤ r ∧ cs.length ≤ 4096) (hk : Keep [r] w w') (hB : Blk w' r #[.slice a cs.length c, .map (some m), .bool fl] 44) : Rdr k w' r m cs fl :=
  ⟨a, c, hB, h2.keepN hk (fun hn => off_lt (h4 (fun h => hn (by rw [h]; rfl))) (fun b hb => by simp at hb; omega)), h3, h4, h5⟩
theorem num_ok (k : Nat) (w : World) (r m p n : Nat) (cs : Bs) (fl : Bool) (h : Rdr k w r m cs fl) (hp : p ≤ 4611686018427387904) (h1 : 1 ≤ n) (h8 : n ≤ 4) :
    Ret Try.prog 24 [.pointer (some ⟨r, 0, none⟩), .int .i64 (p : Int), .int .i64 (n : Int)] w (fun v w' => v = .int .i64 (numZ cs p n : Int) ∧ Rdr k w' r m cs (fl || !decide (p + n ≤ cs.length)) ∧ Keep [r] w w' ∧ w'.heap.size = w.heap.size) := by
  have hRd := h
  obtain ⟨a, c, hB, hR, hc, hb, hk⟩ := h
  refine fn_enter (n := 25) Try.func24 rfl rfl (Nat.le_of_ble_eq_true rfl) (fun e => ?_)
  refine k_seq ?_
  refine k_region ?_
  refine m_int rfl rfl ?_
  refine o_nil ?_
  refine k_seq ?_
  refine k_region ?_
  refine m_ptr rfl rfl ?_
  refine o_nilc rfl ?_
  refine o_fld0 rfl rfl ?_
  refine o_ld rfl rfl (hB.at rfl) ?_ 
  refine m_int rfl rfl ?_
  refine m_int rfl rfl ?_
  refine o_call rfl rfl (big_ok w a c p n cs hR hc (by omega) hp h1 h8) (fun v w' hv => ?_)
  obtain ⟨rfl, rfl⟩ := hv
  refine m_any rfl rfl ?_
  refine o_extr rfl rfl ?_
  refine o_extr rfl rfl ?_
  refine m_int rfl rfl ?_
  refine m_int rfl rfl ?_
  refine o_nil ?_
  refine k_seq ?_
  refine k_seq ?_
  refine k_region ?_
  refine m_int rfl rfl ?_
  refine b_neq rfl rfl ?_
  refine o_nil ?_
  refine k_cut (σ := Unit) (fun s => [(7, .int .i64 (numZ cs p n : Int))]) (fun s w2 => Rdr k w2 r m cs (fl || !decide (p + n ≤ cs.length)) ∧ Keep [r] w' w2 ∧ w2.heap.size = w'.heap.size) ?_ (fun s e w2 hJ => ?_)
  ·
    refine k_cond rfl (fun h => ?_) (fun h => ?_)
    ·
      have hout : ¬ p + n ≤ cs.length := fun hh => h (if_pos hh)
      refine k_region ?_
      refine m_ptr rfl rfl ?_
      refine o_nilc rfl ?_
      refine o_fld (off := 2) rfl rfl ?_
      refine o_st (v := .bool true) rfl rfl rfl rfl hB (show 2 < 3 by decide) (fun w2 hB2 hK2 hZ2 => ?_)
      refine o_nil ?_
      refine k_goal ⟨(), ⟨rfl, trivial⟩, ?_, hK2, hZ2⟩
      rw [decide_eq_false hout, Bool.not_false, Bool.or_true]
      exact Rdr.set hR hc hb hk hK2 hB2
    refine k_skip ?_
    refine k_goal ⟨(), ⟨rfl, trivial⟩, ?_, Keep.refl _ _, rfl⟩
    rw [decide_eq_true (show p + n ≤ cs.length from Decidable.byContradiction fun hh => h (by rw [if_neg hh]; decide)), Bool.not_true, Bool.or_false]
    exact hRd
  refine k_seq ?_
  refine k_region ?_
  refine m_int rfl rfl ?_
  refine m_int rfl rfl ?_
  refine o_nil ?_
  refine k_ret (ret_tmps (ts := [6]) (v := .int _ _) rfl rfl ?_)
  exact ⟨rfl, hJ⟩
theorem far_ok (k : Nat) (w : World) (r m p : Nat) (cs : Bs) (fl : Bool) (h : Rdr k w r m cs fl) (hp : p ≤ 4611686018427387904) :
    Ret Try.prog 32 [.pointer (some ⟨r, 0, none⟩), .int .i64 (p : Int)] w (fun v w' => v = .int .i64 (far cs p) ∧ Rdr k w' r m cs (fl || !decide (p + 4 ≤ cs.length)) ∧ Keep [r] w w' ∧ w'.heap.size = w.heap.size) := by
  have hlt := numZ_lt cs p 4
  have hfb := far_b cs p
  refine fn_enter (n := 11) Try.func32 rfl rfl (Nat.le_of_ble_eq_true rfl) (fun e => ?_)
  refine k_seq ?_
  refine k_region ?_
  refine m_int rfl rfl ?_
  refine o_nil ?_
  refine k_seq ?_
  refine k_region ?_
  refine m_ptr rfl rfl ?_
  refine m_int rfl rfl ?_
  refine o_call rfl rfl (num_ok k w r m p 4 cs fl h hp (by decide) (by decide)) (fun v w' hv => ?_)
  obtain ⟨rfl, hv⟩ := hv
  refine cv32 rfl Try.underlying81 rfl ?_
  refine c_int rfl Try.underlying21 rfl ?_
  rw [show ((BitVec.ofInt 32 (numZ cs p 4 : Int)).toNat : Int) = (numZ cs p 4 : Int) by rw [BitVec.toNat_ofInt]; omega, sg_wrap32 _ (by omega), show sg 32 (numZ cs p 4) = far cs p from rfl]
  refine c_i64 rfl Try.underlying3 rfl (by omega) ?_
  refine m_int rfl rfl ?_
  refine o_nil ?_
  refine k_ret (ret_tmps (ts := [4]) (v := .int _ _) rfl rfl ?_)
  exact ⟨rfl, hv⟩
theorem and3 (p : Nat) (hp : p ≤ 4611686018427387904) : IntKind.i64.wrap ((BitVec.ofInt IntKind.i64.bits (p : Int) &&& BitVec.ofInt IntKind.i64.bits 3).toNat : Int) = ((p % 4 : Nat) : Int) := by
  have h1 : (BitVec.ofInt 64 (p : Int) &&& BitVec.ofInt 64 3).toNat = p % 4 := by
    rw [BitVec.toNat_and, ofN p (by omega), show (BitVec.ofInt 64 3).toNat = 2 ^ 2 - 1 by decide, Nat.and_two_pow_sub_one_eq_mod]
  show IntKind.i64.wrap ((BitVec.ofInt 64 (p : Int) &&& BitVec.ofInt 64 3).toNat : Int) = _
  rw [h1]
  exact wrap_in ⟨by simp [IntKind.min, IntKind.signed, IntKind.bits]; omega, by simp [IntKind.max, IntKind.signed, IntKind.bits]; omega⟩
theorem pad_ok (k : Nat) (w : World) (r m p : Nat) (cs : Bs) (fl : Bool) (h : Rdr k w r m cs fl) (hp : p ≤ 2305843009213693952) :
    Ret Try.prog 26 [.pointer (some ⟨r, 0, none⟩), .int .i64 (p : Int)] w (fun v w' => v = .int .i64 (up4 p : Int) ∧ Rdr k w' r m cs (fl || !zer cs p (up4 p - p)) ∧ Keep [r] w w' ∧ w'.heap.size = w.heap.size) := by
  have hge := up4_ge p
  have hlt := up4_lt p
  have hmod : up4 p % 4 = 0 := by unfold up4; omega
  refine fn_enter (n := 18) Try.func26 rfl rfl (Nat.le_of_ble_eq_true rfl) (fun e => ?_)
  refine k_seq ?_
  refine k_region ?_
  refine m_int rfl rfl ?_
  refine o_nil ?_
  refine k_seq ?_
  refine k_block ?_
  refine k_loop (σ := Nat) (fun i => [(0, .pointer (some ⟨r, 0, none⟩)), (1, .int .i64 ((p + i : Nat) : Int))]) (fun i w' => i ≤ up4 p - p ∧ Rdr k w' r m cs (fl || !zer cs p i) ∧ Keep [r] w w' ∧ w'.heap.size = w.heap.size) (fun i => up4 p - p - i) 0 ⟨rfl, rfl, trivial⟩ ⟨by omega, by simpa [zer] using h, Keep.refl _ _, rfl⟩ (fun i e w' hJ => ?_)
  obtain ⟨hi, hR, hK, hZ⟩ := hJ
  refine k_seq ?_
  refine k_seq ?_
  refine k_region ?_
  refine m_int rfl rfl ?_
  refine b_and rfl rfl ?_
  rw [and3 _ (by omega)]
  refine b_neq rfl rfl ?_
  refine o_nil ?_
  refine k_cond rfl (fun h => ?_) (fun h => ?_)
  rotate_left
  ·
    refine k_exit rfl ?_
    refine k_seq ?_
    refine k_region ?_
    refine m_int rfl rfl ?_
    refine m_int rfl rfl ?_
    refine o_nil ?_
    refine k_ret (ret_tmps (ts := [4]) (v := .int _ _) rfl rfl ?_)
    have hiu : i = up4 p - p := by
     refine Decidable.byContradiction fun hh => ?_
     have h4 : ((p + i) % 4 : Nat) ≠ 0 := by unfold up4 at *; omega
     exact absurd h (by simpa using (by omega : ¬ (((p + i) % 4 : Nat) : Int) = 0))
    subst hiu
    exact ⟨by rw [show p + (up4 p - p) = up4 p by omega], hR, hK, hZ⟩
  have hne : i < up4 p - p := by
   refine Decidable.byContradiction fun hh => h ?_
   have : p + i = up4 p := by omega
   rw [this, hmod]; rfl
  refine k_skip ?_
  refine k_seq ?_
  refine k_block ?_
  refine k_seq ?_
  refine k_region ?_
  refine m_ptr rfl rfl ?_
  refine m_int rfl rfl ?_
  refine o_call rfl rfl (num_ok k w' r m (p + i) 1 cs _ hR (by omega) (by decide) (by decide)) (fun v w2 hv => ?_)
  obtain ⟨rfl, hR2, hK2, hZ2⟩ := hv
  have hzer : (numZ cs (p + i) 1 = 0 ∧ p + i + 1 ≤ cs.length) ↔ cs[p + i]? = some 0#8 := by
   by_cases hin : p + i < cs.length
   · rw [numZ_one hin, List.getElem?_eq_getElem hin]
     exact ⟨fun hh => congrArg some (BitVec.eq_of_toNat_eq hh.1), fun hh => ⟨by rw [Option.some.inj hh]; rfl, by omega⟩⟩
   · rw [List.getElem?_eq_none (by omega)]
     exact ⟨fun hh => by omega, fun hh => by cases hh⟩
  refine b_neq rfl rfl ?_
  refine o_nil ?_
  refine k_cond rfl (fun h => ?_) (fun h => ?_)
  ·
    refine k_region ?_
    refine m_ptr rfl rfl ?_
    refine o_nilc rfl ?_
    refine o_fld (off := 2) rfl rfl ?_
    obtain ⟨a, c, hB, hR3, hc, hb, hk⟩ := hR2
    refine o_st (v := .bool true) rfl rfl rfl rfl hB (show 2 < 3 by decide) (fun w3 hB3 hK3 hZ3 => ?_)
    refine o_nil ?_
    refine k_blk ?_
    refine k_region ?_
    refine m_int rfl rfl ?_
    refine n_add rfl rfl (by omega) ?_
    refine m_int rfl rfl ?_
    refine o_nil ?_
    refine k_goal ⟨i + 1, ⟨rfl, rfl, trivial⟩, ⟨by omega, ?_, (hK.trans hK2 (fun _ h _ => h)).trans hK3 (fun _ h _ => h), by omega⟩, by omega⟩
    have : zer cs p (i + 1) = false := by
     unfold zer
     rw [decide_eq_false (fun hh => h (by rw [(hzer.2 hh).1]; rfl)), Bool.and_false]
    rw [this, Bool.not_false, Bool.or_true]
    exact Rdr.set hR3 hc hb hk hK3 hB3
  refine k_skip ?_
  refine k_blk ?_
  refine k_region ?_
  refine m_int rfl rfl ?_
  refine n_add rfl rfl (by omega) ?_
  refine m_int rfl rfl ?_
  refine o_nil ?_
  refine k_goal ⟨i + 1, ⟨rfl, rfl, trivial⟩, ⟨by omega, ?_, hK.trans hK2 (fun _ h _ => h), by omega⟩, by omega⟩
  have h0 : numZ cs (p + i) 1 = 0 := by omega
  have : (fl || !zer cs p (i + 1)) = (fl || !zer cs p i || !decide (p + i + 1 ≤ cs.length)) := by
   show (fl || !(zer cs p i && _)) = _
   rw [show decide (cs[p + i]? = some 0#8) = decide (p + i + 1 ≤ cs.length) from decide_eq_decide.2 ⟨fun hh => (hzer.2 hh).2, fun hh => hzer.1 ⟨h0, hh⟩⟩]
   cases fl <;> cases zer cs p i <;> simp
  rw [this]
  exact hR2
end Go.Proofs.Ytmdkinedbmjieaa
