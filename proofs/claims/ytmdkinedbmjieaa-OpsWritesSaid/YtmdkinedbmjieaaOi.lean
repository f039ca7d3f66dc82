/- Ops: the walk of writer.one. No condition beyond what its contract names. -/
import Derived.Test.YtmdkinedbmjieaaOh
namespace Go.Proofs.Ytmdkinedbmjieaa
open Go.RowKit E
set_option linter.unusedVariables false
set_option linter.unusedSimpArgs false
set_option maxRecDepth 100000
attribute [local irreducible] ow qw kw kq cw opW Ret
theorem bigB_wrap (n : Nat) (v : Int) : bigB n (IntKind.i64.wrap v) = bigB n v := by
  unfold bigB
  have : BitVec.ofInt 64 (IntKind.i64.wrap v) = BitVec.ofInt 64 v := by
    apply BitVec.eq_of_toInt_eq
    rw [BitVec.toInt_ofInt, BitVec.toInt_ofInt]
    have e : IntKind.i64.wrap v = v % 18446744073709551616 - 18446744073709551616 ∨ IntKind.i64.wrap v = v % 18446744073709551616 := by
      unfold IntKind.wrap
      by_cases h : (IntKind.i64.signed && decide (v % 2 ^ IntKind.i64.bits ≥ 2 ^ (IntKind.i64.bits - 1))) = true
      · rw [if_pos h]; exact .inl rfl
      · rw [if_neg h]; exact .inr rfl
    show (IntKind.i64.wrap v).bmod 18446744073709551616 = v.bmod 18446744073709551616
    rcases e with e | e
    · rw [e]; simp only [Int.bmod]; split <;> split <;> omega
    · rw [e]; simp only [Int.bmod]; split <;> split <;> omega
  rw [this]
def pad4 (b : Bs) : Bs := b ++ List.replicate (up4 b.length - b.length) 0#8
def ents (x : Ins) (w : Nat) : Nat → Bs
  | 0 => []
  | i + 1 => ents x w i ++ ((if w = 9 then bigB 4 (x.keys.getD i 0) else []) ++ bigB 4 (x.jumps.getD (i + 1) 0 - x.p))
def swHead (b : Bs) (x : Ins) (w : Nat) : Bs := pad4 b ++ bigB 4 (x.jumps.getD 0 0 - x.p) ++ (if w = 8 then bigB 4 (x.keys.getD 0 0) ++ bigB 4 (x.keys.getD (x.keys.length - 1) 0) else bigB 4 x.keys.length)
def wrOne (b : Bs) (x : Ins) : Nat → Option Bs
  | 1 => some (b ++ bigB 1 x.op)
  | 2 => some (b ++ bigB 1 x.op ++ bigB 1 x.a)
  | 3 => some (b ++ bigB 1 x.op ++ bigB 1 x.a)
  | 4 => some (b ++ bigB 1 x.op ++ bigB 2 x.a)
  | 5 => some (b ++ bigB 1 x.op ++ bigB 2 x.a)
  | 6 => some (b ++ bigB 1 x.op ++ bigB 1 x.a ++ bigB 1 x.b)
  | 7 => if x.jumps.length = 1 then some (b ++ bigB 1 x.op ++ bigB 2 (x.jumps.getD 0 0 - x.p)) else none
  | 8 => if x.jumps.length = x.keys.length + 1 ∧ x.keys ≠ [] ∧ x.keys.length ≤ 4096 then some (swHead (b ++ bigB 1 x.op) x 8 ++ ents x 8 x.keys.length) else none
  | 9 => if x.jumps.length = x.keys.length + 1 ∧ x.keys.length ≤ 4096 then some (swHead (b ++ bigB 1 x.op) x 9 ++ ents x 9 x.keys.length) else none
  | 10 => some (b ++ bigB 1 x.op ++ bigB 2 x.a ++ bigB 1 x.b ++ bigB 1 0)
  | _ => none
def WrR (H : Nat) (w : World) (wb : Nat) (b : Bs) (x : Ins) (n : Nat) (v : Value) (w' : World) : Prop := v = .bool (wrOne b x n).isSome ∧ (∀ b', wrOne b x n = some b' → Wr H w' wb b') ∧ KeepT [5, 52] H w w'
theorem WrR.yes {H : Nat} {w w' : World} {wb : Nat} {b b' : Bs} {x : Ins} {n : Nat} (h : wrOne b x n = some b') (hW : Wr H w' wb b') (hk : KeepT [5, 52] H w w') : WrR H w wb b x n (.bool true) w' :=
  ⟨by rw [h]; rfl, fun b'' h' => by rw [h] at h'; cases h'; exact hW, hk⟩
theorem WrR.no {H : Nat} {w w' : World} {wb : Nat} {b : Bs} {x : Ins} {n : Nat} (h : wrOne b x n = none) (hk : KeepT [5, 52] H w w') : WrR H w wb b x n (.bool false) w' :=
  ⟨by rw [h]; rfl, fun b'' h' => (by rw [h] at h'; cases h'), hk⟩
set_option maxHeartbeats 1000000 in
theorem wone_ok (w0 w : World) (wb : Nat) (bs : Bs) (cx : List Value) (x : Ins) (f : BitVec 8) (h0 : Keep [] w0 w) (hx : insC (GR w0) cx x) (hW : Wr w0.heap.size w wb bs) (hb : bs.length ≤ 4096) (hkl : x.keys.length ≤ 100000) :
    Ret Try.prog 20 [.pointer (some ⟨wb, 0, none⟩), .agg cx.toArray, .int .u8 (f.toNat : Int)] w (WrR w0.heap.size w wb bs x f.toNat) := by
  obtain ⟨kv, jv, rfl, ⟨ak, ck, rfl, hRk, hlk⟩, ⟨aj, cj, rfl, hRj, hlj⟩⟩ := hx
  obtain ⟨H, hH⟩ : ∃ H, H = w0.heap.size := ⟨_, rfl⟩
  rw [← hH] at hW ⊢
  have hHw : H ≤ w.heap.size := by rw [hH]; exact h0.size
  have k0 : ∀ w', KeepT [5, 52] H w w' → Keep [] w0 w' := fun w' h => h.below h0 (by omega)
  refine fn_enter (n := 160) Try.func20 rfl rfl (Nat.le_of_ble_eq_true rfl) (fun e => ?_)
  refine k_seq ?_
  refine k_region ?_
  refine o_box rfl rfl (fun b4 w1 hB1 hK1 hb1 hZ1 => ?_)
  have hT1 : KeepT [5, 52] H w w1 := hK1.t
  have hW1 : Wr H w1 wb bs := by
   obtain ⟨a, c, h1, h2, h3, h4⟩ := hW
   exact ⟨a, c, h1.keep hK1 (by simp), h2.new hK1, h3, h4⟩
  have hbx : ∀ w', KeepT [5, 52] H w1 w' → Blk w' b4 #[iv x.p, iv x.len, iv x.op, iv x.a, iv x.b, .slice ak x.keys.length ck, .slice aj x.jumps.length cj] 38 := fun w' h => hB1.kt h (by decide)
  refine m_bool rfl rfl ?_
  refine o_nil ?_
  refine k_seq ?_
  refine k_region ?_
  refine m_ptr rfl rfl ?_
  refine o_fld (off := 2) rfl rfl ?_
  refine o_ld (v := iv x.op) rfl rfl (hB1.at rfl) ?_
  refine o_call rfl rfl (put_ok H w1 wb 1 x.op bs hW1 (by omega) (by decide) (by decide) (by omega)) (fun u w2 hv => ?_)
  obtain ⟨rfl, hW2, hT2⟩ := hv
  have hB2 := hbx w2 hT2
  have hT02 := hT1.tr hT2
  have hs2 := hT02.size
  have hl1 : (bs ++ bigB 1 x.op).length = bs.length + 1 := by rw [List.length_append, bigB_len]
  refine o_nil ?_
  refine k_seq ?_
  refine k_seq ?_
  refine k_region ?_
  refine m_int rfl rfl ?_
  refine o_nil ?_
  refine k_block ?_
  refine k_seq ?_
  refine k_region ?_
  refine v8_eql (b := 1#8) rfl rfl ?_
  refine m_bool rfl rfl ?_
  refine o_nil ?_
  refine k_cond rfl (fun h => ?_) (fun h => ?_)
  ·
    refine k_skip ?_
    refine k_blk ?_
    refine k_seq ?_
    refine k_region ?_
    refine m_bool rfl rfl ?_
    refine o_nil ?_
    refine k_ret (ret_tmps (ts := [6]) (v := .bool _) rfl rfl ?_)
    exact WrR.yes (by rw [h]; rfl) hW2 hT02
  have hn1 := h
  refine k_seq ?_
  refine k_seq ?_
  refine k_region ?_
  refine v8_eql (b := 2#8) rfl rfl ?_
  refine m_bool rfl rfl ?_
  refine o_nil ?_
  refine k_cut (σ := Unit) (fun _ => [(0, .pointer (some ⟨wb, 0, none⟩)), (2, .int .u8 (f.toNat : Int)), (4, .pointer (some ⟨b4, 0, none⟩)), (13, .int .u8 (f.toNat : Int)), (16, .bool (decide (f = 2#8 ∨ f = 3#8)))]) (fun _ w' => w' = w2) ?_ (fun _ e w' hJ => ?_)
  ·
    refine k_cond rfl (fun h => ?_) (fun h => ?_)
    ·
      refine k_skip ?_
      refine k_goal ⟨(), ⟨rfl, rfl, rfl, rfl, congrArg Value.bool (decide_eq_decide.2 ⟨.inl, fun _ => h⟩), trivial⟩, rfl⟩
    have hn2 := h
    refine k_region ?_
    refine v8_eql (b := 3#8) rfl rfl ?_
    refine m_bool rfl rfl ?_
    refine o_nil ?_
    refine k_goal ⟨(), ⟨rfl, rfl, rfl, rfl, congrArg Value.bool (decide_eq_decide.2 ⟨.inr, fun hh => hh.resolve_left h⟩), trivial⟩, rfl⟩
  subst hJ
  refine k_cond rfl (fun h => ?_) (fun h => ?_)
  ·
    refine k_region ?_
    refine m_ptr rfl rfl ?_
    refine o_fld (off := 3) rfl rfl ?_
    refine o_ld (v := iv x.a) rfl rfl (hB2.at rfl) ?_
    refine o_call rfl rfl (put_ok H w' wb 1 x.a _ hW2 (by omega) (by decide) (by decide) (by omega)) (fun u w3 hv => ?_)
    obtain ⟨rfl, hW3, hT3⟩ := hv
    refine o_nil ?_
    refine k_blk ?_
    refine k_seq ?_
    refine k_region ?_
    refine m_bool rfl rfl ?_
    refine o_nil ?_
    refine k_ret (ret_tmps (ts := [6]) (v := .bool _) rfl rfl ?_)
    exact WrR.yes (by rcases h with h | h <;> rw [h] <;> rfl) hW3 (hT02.tr hT3)
  have hn2 := h
  refine k_seq ?_
  refine k_seq ?_
  refine k_region ?_
  refine v8_eql (b := 4#8) rfl rfl ?_
  refine m_bool rfl rfl ?_
  refine o_nil ?_
  refine k_cut (σ := Unit) (fun _ => [(0, .pointer (some ⟨wb, 0, none⟩)), (2, .int .u8 (f.toNat : Int)), (4, .pointer (some ⟨b4, 0, none⟩)), (13, .int .u8 (f.toNat : Int)), (23, .bool (decide (f = 4#8 ∨ f = 5#8)))]) (fun _ w'' => w'' = w') ?_ (fun _ e w'' hJ => ?_)
  ·
    refine k_cond rfl (fun h => ?_) (fun h => ?_)
    ·
      refine k_skip ?_
      refine k_goal ⟨(), ⟨rfl, rfl, rfl, rfl, congrArg Value.bool (decide_eq_decide.2 ⟨.inl, fun _ => h⟩), trivial⟩, rfl⟩
    have hn4 := h
    refine k_region ?_
    refine v8_eql (b := 5#8) rfl rfl ?_
    refine m_bool rfl rfl ?_
    refine o_nil ?_
    refine k_goal ⟨(), ⟨rfl, rfl, rfl, rfl, congrArg Value.bool (decide_eq_decide.2 ⟨.inr, fun hh => hh.resolve_left h⟩), trivial⟩, rfl⟩
  subst hJ
  refine k_cond rfl (fun h => ?_) (fun h => ?_)
  ·
    refine k_region ?_
    refine m_ptr rfl rfl ?_
    refine o_fld (off := 3) rfl rfl ?_
    refine o_ld (v := iv x.a) rfl rfl (hB2.at rfl) ?_
    refine o_call rfl rfl (put_ok H _ wb 2 x.a _ hW2 (by omega) (by decide) (by decide) (by omega)) (fun u w3 hv => ?_)
    obtain ⟨rfl, hW3, hT3⟩ := hv
    refine o_nil ?_
    refine k_blk ?_
    refine k_seq ?_
    refine k_region ?_
    refine m_bool rfl rfl ?_
    refine o_nil ?_
    refine k_ret (ret_tmps (ts := [6]) (v := .bool _) rfl rfl ?_)
    exact WrR.yes (by rcases h with h | h <;> rw [h] <;> rfl) hW3 (hT02.tr hT3)
  have hn4 := h
  refine k_seq ?_
  refine k_region ?_
  refine v8_eql (b := 6#8) rfl rfl ?_
  refine m_bool rfl rfl ?_
  refine o_nil ?_
  refine k_cond rfl (fun h => ?_) (fun h => ?_)
  ·
    refine k_seq ?_
    refine k_region ?_
    refine m_ptr rfl rfl ?_
    refine o_fld (off := 3) rfl rfl ?_
    refine o_ld (v := iv x.a) rfl rfl (hB2.at rfl) ?_
    refine o_call rfl rfl (put_ok H _ wb 1 x.a _ hW2 (by omega) (by decide) (by decide) (by omega)) (fun u w3 hv => ?_)
    obtain ⟨rfl, hW3, hT3⟩ := hv
    have hs3 := hT3.size
    refine o_nil ?_
    refine k_region ?_
    refine m_ptr rfl rfl ?_
    refine o_fld (off := 4) rfl rfl ?_
    refine o_ld (v := iv x.b) rfl rfl ((hbx w3 (hT2.tr hT3)).at rfl) ?_
    refine o_call rfl rfl (put_ok H w3 wb 1 x.b _ hW3 (by omega) (by decide) (by decide) (by rw [List.length_append, bigB_len]; omega)) (fun u w4 hv => ?_)
    obtain ⟨rfl, hW4, hT4⟩ := hv
    refine o_nil ?_
    refine k_blk ?_
    refine k_seq ?_
    refine k_region ?_
    refine m_bool rfl rfl ?_
    refine o_nil ?_
    refine k_ret (ret_tmps (ts := [6]) (v := .bool _) rfl rfl ?_)
    exact WrR.yes (by rw [h]; rfl) hW4 ((hT02.tr hT3).tr hT4)
  have hn6 := h
  refine k_seq ?_
  refine k_region ?_
  refine v8_eql (b := 10#8) rfl rfl ?_
  refine m_bool rfl rfl ?_
  refine o_nil ?_
  refine k_cond rfl (fun h => ?_) (fun h => ?_)
  ·
    refine k_seq ?_
    refine k_region ?_
    refine m_ptr rfl rfl ?_
    refine o_fld (off := 3) rfl rfl ?_
    refine o_ld (v := iv x.a) rfl rfl (hB2.at rfl) ?_
    refine o_call rfl rfl (put_ok H _ wb 2 x.a _ hW2 (by omega) (by decide) (by decide) (by omega)) (fun u w3 hv => ?_)
    obtain ⟨rfl, hW3, hT3⟩ := hv
    have hs3 := hT3.size
    refine o_nil ?_
    refine k_seq ?_
    refine k_region ?_
    refine m_ptr rfl rfl ?_
    refine o_fld (off := 4) rfl rfl ?_
    refine o_ld (v := iv x.b) rfl rfl ((hbx w3 (hT2.tr hT3)).at rfl) ?_
    refine o_call rfl rfl (put_ok H w3 wb 1 x.b _ hW3 (by omega) (by decide) (by decide) (by rw [List.length_append, bigB_len]; omega)) (fun u w4 hv => ?_)
    obtain ⟨rfl, hW4, hT4⟩ := hv
    have hs4 := hT4.size
    refine o_nil ?_
    refine k_region ?_
    refine m_ptr rfl rfl ?_
    refine o_call rfl rfl (put_ok H w4 wb 1 0 _ hW4 (by omega) (by decide) (by decide) (by rw [List.length_append, bigB_len, List.length_append, bigB_len]; omega)) (fun u w5 hv => ?_)
    obtain ⟨rfl, hW5, hT5⟩ := hv
    refine o_nil ?_
    refine k_blk ?_
    refine k_seq ?_
    refine k_region ?_
    refine m_bool rfl rfl ?_
    refine o_nil ?_
    refine k_ret (ret_tmps (ts := [6]) (v := .bool _) rfl rfl ?_)
    exact WrR.yes (by rw [h]; rfl) hW5 (((hT02.tr hT3).tr hT4).tr hT5)
  have hn10 := h
  refine k_seq ?_
  refine k_region ?_
  refine v8_eql (b := 7#8) rfl rfl ?_
  refine m_bool rfl rfl ?_
  refine o_nil ?_
  refine k_cond rfl (fun h => ?_) (fun h => ?_)
  ·
    have h52 := h
    refine k_seq ?_
    refine k_seq ?_
    refine k_region ?_
    refine o_fld (off := 6) rfl rfl ?_
    refine o_ld (v := .slice aj x.jumps.length cj) rfl rfl (hB2.at rfl) ?_
    refine o_lens Try.underlying36 rfl ?_
    refine b_neq rfl rfl ?_
    refine o_nil ?_
    refine k_cond rfl (fun h => ?_) (fun h => ?_)
    ·
      refine k_seq ?_
      refine k_region ?_
      refine m_bool rfl rfl ?_
      refine o_nil ?_
      refine k_ret (ret_tmps (ts := [6]) (v := .bool _) rfl rfl ?_)
      exact WrR.no (by rw [h52]; exact if_neg (by omega)) hT02
    have hj1 : x.jumps.length = 1 := by omega
    have hj0 := iv_at x.jumps 0 (by omega)
    obtain ⟨b2, o2, rfl, hc2⟩ := (hRj.new (k0 _ hT02)) _ _ hj0
    refine k_skip ?_
    refine k_qk 8 rfl rfl rfl rfl rfl ?_
    refine q_step (fun w1 hC => m_ptr rfl rfl (o_nil ⟨rfl, hC⟩)) ?_
    refine q_step (fun w1 hC => o_fld (off := 6) rfl rfl (o_nil ⟨rfl, hC⟩)) ?_
    refine q_step (fun w1 hC => o_ld (v := .slice (some ⟨b2, o2, none⟩) x.jumps.length cj) rfl rfl (hB2.kat hC rfl) (o_nil ⟨rfl, hC⟩)) ?_
    refine q_step (fun w1 hC => o_ixs1 (m := 0) Try.underlying36 rfl rfl rfl (by omega) (o_nil ⟨rfl, hC⟩)) ?_
    refine q_step (fun w1 hC => o_ld (v := iv (x.jumps[0]'(by omega))) rfl rfl (hRj.cellK ((k0 _ hT02).tr hC) hj0) (o_nil ⟨rfl, hC⟩)) ?_
    refine q_step (fun w1 hC => o_fld0 rfl rfl (o_nil ⟨rfl, hC⟩)) ?_
    refine q_step (fun w1 hC => o_ld (v := iv x.p) rfl rfl (hB2.kat hC rfl) (o_nil ⟨rfl, hC⟩)) ?_
    refine q_step (fun w1 hC => b_sub rfl rfl (o_nil ⟨rfl, hC⟩)) ?_
    refine q_nil ?_
    intro w3 hC3
    have hW3 : Wr H w3 wb (bs ++ bigB 1 x.op) := by
     obtain ⟨a, c, h1, h2, h3, h4⟩ := hW2
     exact ⟨a, c, h1.keep hC3 (by simp), h2.new hC3, h3, h4⟩
    have hs3 := hC3.size
    refine o_call rfl rfl (put_ok H w3 wb 2 (IntKind.i64.wrap (x.jumps[0]'(by omega) - x.p)) _ hW3 (by omega) (by decide) (by decide) (by omega)) (fun u w4 hv => ?_)
    obtain ⟨rfl, hW4, hT4⟩ := hv
    refine o_nil ?_
    refine k_blk ?_
    refine k_seq ?_
    refine k_region ?_
    refine m_bool rfl rfl ?_
    refine o_nil ?_
    refine k_ret (ret_tmps (ts := [6]) (v := .bool _) rfl rfl ?_)
    rw [bigB_wrap] at hW4
    refine WrR.yes (b' := bs ++ bigB 1 x.op ++ bigB 2 (x.jumps[0]'(by omega) - x.p)) ?_ hW4 ((hT02.tr hC3.t).tr hT4)
    rw [h52]
    refine (if_pos hj1).trans ?_
    rw [List.getD_eq_getElem?_getD, List.getElem?_eq_getElem (by omega)]
    rfl
  have hn7 := h
  refine k_seq ?_
  refine k_seq ?_
  refine k_region ?_
  refine v8_eql (b := 8#8) rfl rfl ?_
  refine m_bool rfl rfl ?_
  refine o_nil ?_
  refine k_cut (σ := Unit) (fun _ => [(0, .pointer (some ⟨wb, 0, none⟩)), (2, .int .u8 (f.toNat : Int)), (4, .pointer (some ⟨b4, 0, none⟩)), (67, .bool (decide (f = 8#8 ∨ f = 9#8)))]) (fun _ w3 => w3 = w'') ?_ (fun _ e w3 hJ => ?_)
  ·
    refine k_cond rfl (fun h => ?_) (fun h => ?_)
    ·
      have hf89 := h
      refine k_skip ?_
      refine k_goal ⟨(), ⟨rfl, rfl, rfl, congrArg Value.bool (decide_eq_decide.2 ⟨.inl, fun _ => h⟩), trivial⟩, rfl⟩
    refine k_region ?_
    refine v8_eql (b := 9#8) rfl rfl ?_
    refine m_bool rfl rfl ?_
    refine o_nil ?_
    refine k_goal ⟨(), ⟨rfl, rfl, rfl, congrArg Value.bool (decide_eq_decide.2 ⟨.inr, fun hh => hh.resolve_left h⟩), trivial⟩, rfl⟩
  subst hJ
  refine k_cond rfl (fun h => ?_) (fun h => ?_)
  rotate_left
  ·
    refine k_seq ?_
    refine k_region ?_
    refine m_bool rfl rfl ?_
    refine o_nil ?_
    refine k_ret (ret_tmps (ts := [6]) (v := .bool _) rfl rfl ?_)
    refine WrR.no ?_ hT02
    have hne : ∀ m : Nat, m < 256 → f ≠ BitVec.ofNat 8 m → f.toNat ≠ m := fun m hm hh e => hh (BitVec.eq_of_toNat_eq (by rw [BitVec.toNat_ofNat]; omega))
    have h1 := hne 1 (by decide) hn1
    have h2 := hne 2 (by decide) (fun e => hn2 (.inl e))
    have h3 := hne 3 (by decide) (fun e => hn2 (.inr e))
    have h4 := hne 4 (by decide) (fun e => hn4 (.inl e))
    have h5 := hne 5 (by decide) (fun e => hn4 (.inr e))
    have h6 := hne 6 (by decide) hn6
    have h7 := hne 7 (by decide) hn7
    have h8 := hne 8 (by decide) (fun e => h (.inl e))
    have h9 := hne 9 (by decide) (fun e => h (.inr e))
    have h10 := hne 10 (by decide) hn10
    unfold wrOne
    split <;> first | rfl | omega
  have hf89 := h
  refine k_seq ?_
  refine k_seq ?_
  refine k_cut (σ := Unit) (fun _ => [(0, .pointer (some ⟨wb, 0, none⟩)), (2, .int .u8 (f.toNat : Int)), (4, .pointer (some ⟨b4, 0, none⟩)), (93, .bool (decide (¬ (x.jumps.length = x.keys.length + 1 ∧ (f = 8#8 → ¬ x.keys.length = 0) ∧ x.keys.length ≤ 4096))))]) (fun _ w4 => w4 = w3) ?_ (fun _ e w4 hJ => ?_)
  ·
    refine k_region ?_
    refine o_fld (off := 6) rfl rfl ?_
    refine o_ld (v := .slice aj x.jumps.length cj) rfl rfl (hB2.at rfl) ?_
    refine o_lens Try.underlying36 rfl ?_
    refine o_fld (off := 5) rfl rfl ?_
    refine o_ld (v := .slice ak x.keys.length ck) rfl rfl (hB2.at rfl) ?_
    refine o_lens Try.underlying36 rfl ?_
    refine n_add rfl rfl (by omega) ?_
    refine b_neq rfl rfl ?_
    refine m_bool rfl rfl ?_
    refine o_split (t := 78) rfl (fun h => ?_) (fun h => ?_)
    ·
      have h78 := h
      refine g_no rfl rfl rfl ?_
      refine g_no rfl rfl rfl ?_
      refine g_no rfl rfl rfl ?_
      refine g_un rfl rfl ?_
      refine g_un rfl rfl ?_
      refine g_un rfl rfl ?_
      refine g_un rfl rfl ?_
      refine g_no rfl rfl rfl ?_
      refine pick_t rfl rfl ?_
      refine m_bool rfl rfl ?_
      refine g_no rfl rfl rfl ?_
      refine g_no rfl rfl rfl ?_
      refine g_no rfl rfl rfl ?_
      refine g_no rfl rfl rfl ?_
      refine pick_t rfl rfl ?_
      refine o_nil ?_
      refine k_goal ⟨(), ⟨rfl, rfl, rfl, congrArg Value.bool (decide_eq_true (show ¬ (x.jumps.length = x.keys.length + 1 ∧ (f = 8#8 → ¬ x.keys.length = 0) ∧ x.keys.length ≤ 4096) from fun hh => by omega)).symm, trivial⟩, rfl⟩
    ·
      have h78 := h
      refine g_yes rfl rfl ?_
      refine m_int rfl rfl ?_
      refine g_yes rfl rfl ?_
      refine v8_eql (b := 8#8) rfl rfl ?_
      refine g_yes rfl rfl ?_
      refine m_bool rfl rfl ?_
      refine o_split (t := 81) rfl (fun h => ?_) (fun h => ?_)
      ·
        have h81 := h
        refine g_yes rfl rfl ?_
        refine o_fld (off := 5) rfl rfl ?_
        refine g_yes rfl rfl ?_
        refine o_ld (v := .slice ak x.keys.length ck) rfl rfl (hB2.at rfl) ?_
        refine g_yes rfl rfl ?_
        refine o_lens Try.underlying36 rfl ?_
        refine g_yes rfl rfl ?_
        refine b_eql rfl rfl ?_
        refine g_yes rfl rfl ?_
        refine pick_t rfl rfl ?_
        refine pick_f rfl rfl ?_
        refine m_bool rfl rfl ?_
        refine o_split (t := 88) rfl (fun h => ?_) (fun h => ?_)
        ·
          have h88 := h
          refine g_no rfl rfl rfl ?_
          refine g_no rfl rfl rfl ?_
          refine g_no rfl rfl rfl ?_
          refine g_no rfl rfl rfl ?_
          refine pick_t rfl rfl ?_
          refine o_nil ?_
          refine k_goal ⟨(), ⟨rfl, rfl, rfl, congrArg Value.bool (decide_eq_true (show ¬ (x.jumps.length = x.keys.length + 1 ∧ (f = 8#8 → ¬ x.keys.length = 0) ∧ x.keys.length ≤ 4096) from fun hh => hh.2.1 h81 (by omega))).symm, trivial⟩, rfl⟩
        ·
          have h88 := h
          refine g_yes rfl rfl ?_
          refine o_fld (off := 5) rfl rfl ?_
          refine g_yes rfl rfl ?_
          refine o_ld (v := .slice ak x.keys.length ck) rfl rfl (hB2.at rfl) ?_
          refine g_yes rfl rfl ?_
          refine o_lens Try.underlying36 rfl ?_
          refine g_yes rfl rfl ?_
          refine b_gtr rfl rfl ?_
          refine pick_f rfl rfl ?_
          refine o_nil ?_
          refine k_goal ⟨(), ⟨rfl, rfl, rfl, congrArg Value.bool (decide_eq_decide.2 ⟨fun h1 hh => by omega, fun hh => by
           refine Int.not_le.1 fun h1 => hh ⟨by omega, fun _ => by omega, by omega⟩⟩), trivial⟩, rfl⟩
      ·
        have h81 := h
        refine g_no rfl rfl rfl ?_
        refine g_no rfl rfl rfl ?_
        refine g_no rfl rfl rfl ?_
        refine g_no rfl rfl rfl ?_
        refine g_yes rfl rfl ?_
        refine pick_f rfl rfl ?_
        refine pick_f rfl rfl ?_
        refine m_bool rfl rfl ?_
        refine g_yes rfl rfl ?_
        refine o_fld (off := 5) rfl rfl ?_
        refine g_yes rfl rfl ?_
        refine o_ld (v := .slice ak x.keys.length ck) rfl rfl (hB2.at rfl) ?_
        refine g_yes rfl rfl ?_
        refine o_lens Try.underlying36 rfl ?_
        refine g_yes rfl rfl ?_
        refine b_gtr rfl rfl ?_
        refine pick_f rfl rfl ?_
        refine o_nil ?_
        refine k_goal ⟨(), ⟨rfl, rfl, rfl, congrArg Value.bool (decide_eq_decide.2 ⟨fun h1 hh => by omega, fun hh => by
         refine Int.not_le.1 fun h1 => hh ⟨by omega, fun h8 => absurd h8 h81, by omega⟩⟩), trivial⟩, rfl⟩
  subst hJ
  refine k_cond rfl (fun h => ?_) (fun h => ?_)
  ·
    refine k_seq ?_
    refine k_region ?_
    refine m_bool rfl rfl ?_
    refine o_nil ?_
    refine k_ret (ret_tmps (ts := [6]) (v := .bool _) rfl rfl ?_)
    refine WrR.no ?_ hT02
    rcases hf89 with h8 | h8
    · rw [h8]; exact if_neg (fun hh => h ⟨hh.1, fun _ h0 => hh.2.1 (List.eq_nil_of_length_eq_zero h0), hh.2.2⟩)
    · rw [h8]; exact if_neg (fun hh => h ⟨hh.1, fun h9 => by rw [h8] at h9; exact absurd h9 (by decide), hh.2⟩)
  have hcd : x.jumps.length = x.keys.length + 1 ∧ (f = 8#8 → ¬ x.keys.length = 0) ∧ x.keys.length ≤ 4096 := Decidable.of_not_not h
  obtain ⟨hjk, hk0, hk4⟩ := hcd
  have hup1 := up4_ge (bs ++ bigB 1 x.op).length
  have hup2 := up4_lt (bs ++ bigB 1 x.op).length
  have hmod : up4 (bs ++ bigB 1 x.op).length % 4 = 0 := by unfold up4; omega
  refine k_skip ?_
  refine k_seq ?_
  refine k_block ?_
  refine k_loop (σ := Nat) (fun i => [(0, .pointer (some ⟨wb, 0, none⟩)), (2, .int .u8 (f.toNat : Int)), (4, .pointer (some ⟨b4, 0, none⟩))]) (fun i w' => i ≤ up4 (bs ++ bigB 1 x.op).length - (bs ++ bigB 1 x.op).length ∧ Wr H w' wb (bs ++ bigB 1 x.op ++ List.replicate i 0#8) ∧ KeepT [5, 52] H w1 w') (fun i => up4 (bs ++ bigB 1 x.op).length - (bs ++ bigB 1 x.op).length - i) 0 ⟨rfl, rfl, rfl, trivial⟩ ⟨Nat.zero_le _, by simpa using hW2, hT2⟩ (fun i e w5 hJ => ?_)
  obtain ⟨hi, hW5, hT5⟩ := hJ
  have hl5 : (bs ++ bigB 1 x.op ++ List.replicate i 0#8).length = bs.length + 1 + i := by rw [List.length_append, hl1, List.length_replicate]
  have hs5 := hT5.size
  refine k_seq ?_
  refine k_seq ?_
  refine k_region ?_
  refine m_ptr rfl rfl ?_
  refine o_nilc rfl ?_
  refine o_fld0 rfl rfl ?_
  refine o_ld rfl rfl (hW5.choose_spec.choose_spec.1.at rfl) ?_
  refine o_lens Try.underlying22 rfl ?_
  refine b_and rfl rfl ?_
  rw [and3 _ (by omega)]
  refine b_neq rfl rfl ?_
  refine o_nil ?_
  refine k_cond rfl (fun h => ?_) (fun h => ?_)
  rotate_left
  ·
    have hie : i = up4 (bs ++ bigB 1 x.op).length - (bs ++ bigB 1 x.op).length := by
     refine Decidable.byContradiction fun hh => ?_
     have h4 : ((bs ++ bigB 1 x.op ++ List.replicate i 0#8).length % 4 : Nat) ≠ 0 := by
      rw [hl5]; rw [hl1] at hi hh hup1 hup2; unfold up4 at *; omega
     exact absurd h (by simpa using (by omega : ¬ (((bs ++ bigB 1 x.op ++ List.replicate i 0#8).length % 4 : Nat) : Int) = 0))
    have hWp : Wr H w5 wb (pad4 (bs ++ bigB 1 x.op)) := by unfold pad4; rw [← hie]; exact hW5
    have hlp : (pad4 (bs ++ bigB 1 x.op)).length ≤ bs.length + 4 := by unfold pad4; rw [← hie, hl5]; omega
    have hB5 := hbx w5 hT5
    have hK05 := k0 w5 (hT1.tr hT5)
    have hj0 := iv_at x.jumps 0 (by omega)
    obtain ⟨b2, o2, rfl, hc2⟩ := (hRj.new hK05) _ _ hj0
    have hgj : ∀ j (hj : j < x.jumps.length), x.jumps.getD j 0 = x.jumps[j] := fun j hj => by rw [List.getD_eq_getElem?_getD, List.getElem?_eq_getElem hj]; rfl
    have hgk : ∀ j (hj : j < x.keys.length), x.keys.getD j 0 = x.keys[j] := fun j hj => by rw [List.getD_eq_getElem?_getD, List.getElem?_eq_getElem hj]; rfl
    refine k_exit rfl ?_
    refine k_seq ?_
    refine k_qk 8 rfl rfl rfl rfl rfl ?_
    refine q_step (fun w1 hC => m_ptr rfl rfl (o_nil ⟨rfl, hC⟩)) ?_
    refine q_step (fun w1 hC => o_fld (off := 6) rfl rfl (o_nil ⟨rfl, hC⟩)) ?_
    refine q_step (fun w1 hC => o_ld (v := .slice (some ⟨b2, o2, none⟩) x.jumps.length cj) rfl rfl (hB5.kat hC rfl) (o_nil ⟨rfl, hC⟩)) ?_
    refine q_step (fun w1 hC => o_ixs1 (m := 0) Try.underlying36 rfl rfl rfl (by omega) (o_nil ⟨rfl, hC⟩)) ?_
    refine q_step (fun w1 hC => o_ld (v := iv (x.jumps[0]'(by omega))) rfl rfl (hRj.cellK (hK05.tr hC) hj0) (o_nil ⟨rfl, hC⟩)) ?_
    refine q_step (fun w1 hC => o_fld0 rfl rfl (o_nil ⟨rfl, hC⟩)) ?_
    refine q_step (fun w1 hC => o_ld (v := iv x.p) rfl rfl (hB5.kat hC rfl) (o_nil ⟨rfl, hC⟩)) ?_
    refine q_step (fun w1 hC => b_sub rfl rfl (o_nil ⟨rfl, hC⟩)) ?_
    refine q_nil ?_
    intro w6 hC6
    have hW6 : Wr H w6 wb (pad4 (bs ++ bigB 1 x.op)) := by
     obtain ⟨a, c, h1, h2, h3, h4⟩ := hWp
     exact ⟨a, c, h1.keep hC6 (by simp), h2.new hC6, h3, h4⟩
    have hs6 := hC6.size
    refine o_call rfl rfl (put_ok H w6 wb 4 (IntKind.i64.wrap (x.jumps[0]'(by omega) - x.p)) _ hW6 (by omega) (by decide) (by decide) (by omega)) (fun u w7 hv => ?_)
    obtain ⟨rfl, hW7, hT7'⟩ := hv
    rw [bigB_wrap, ← hgj 0 (by omega)] at hW7
    have hT7 : KeepT [5, 52] H w1 w7 := (hT5.tr hC6.t).tr hT7'
    have hB7 := hbx w7 hT7
    have hK07 := k0 w7 (hT1.tr hT7)
    have hs7 := hT7.size
    have hl7 : (pad4 (bs ++ bigB 1 x.op) ++ bigB 4 (x.jumps.getD 0 0 - x.p)).length ≤ bs.length + 8 := by rw [List.length_append, bigB_len]; omega
    refine o_nil ?_
    refine k_seq ?_
    refine k_seq ?_
    refine k_region ?_
    refine m_int rfl rfl ?_
    refine v8_eql (b := 8#8) rfl rfl ?_
    refine o_nil ?_
    refine k_cut (σ := Unit) (fun _ => [(0, .pointer (some ⟨wb, 0, none⟩)), (2, .int .u8 (f.toNat : Int)), (4, .pointer (some ⟨b4, 0, none⟩))]) (fun _ w' => Wr H w' wb (swHead (bs ++ bigB 1 x.op) x f.toNat) ∧ KeepT [5, 52] H w1 w') ?_ (fun _ e w10 hJ => ?_)
    ·
      refine k_cond rfl (fun h => ?_) (fun h => ?_)
      ·
        have hkp : 0 < x.keys.length := by have := hk0 h; omega
        have hk0' := iv_at x.keys 0 hkp
        have hkn := iv_at x.keys (x.keys.length - 1) (by omega)
        obtain ⟨b3, o3, hak, hc3⟩ := (hRk.new hK07) _ _ hk0'
        subst hak
        refine k_seq ?_
        refine k_region ?_
        refine m_ptr rfl rfl ?_
        refine o_fld (off := 5) rfl rfl ?_
        refine o_ld (v := .slice (some ⟨b3, o3, none⟩) x.keys.length ck) rfl rfl (hB7.at rfl) ?_
        refine o_ixs1 (m := 0) Try.underlying36 rfl rfl rfl hkp ?_
        refine o_ld (v := iv (x.keys[0])) rfl rfl hc3 ?_
        refine o_call rfl rfl (put_ok H w7 wb 4 (x.keys[0]) _ hW7 (by omega) (by decide) (by decide) (by omega)) (fun u w8 hv => ?_)
        obtain ⟨rfl, hW8, hT8⟩ := hv
        have hB8 := hbx w8 (hT7.tr hT8)
        have hs8 := hT8.size
        refine o_nil ?_
        refine k_region ?_
        refine m_ptr rfl rfl ?_
        refine o_fld (off := 5) rfl rfl ?_
        refine o_ld (v := .slice (some ⟨b3, o3, none⟩) x.keys.length ck) rfl rfl (hB8.at rfl) ?_
        refine o_fld (off := 5) rfl rfl ?_
        refine o_ld (v := .slice (some ⟨b3, o3, none⟩) x.keys.length ck) rfl rfl (hB8.at rfl) ?_
        refine o_lens Try.underlying36 rfl ?_
        refine n_sub rfl rfl (by omega) ?_
        rw [show (x.keys.length : Int) - 1 = ((x.keys.length - 1 : Nat) : Int) by omega]
        refine o_ixs1 Try.underlying36 rfl rfl rfl (by omega) ?_
        refine o_ld (v := iv (x.keys[x.keys.length - 1]'(by omega))) rfl rfl (hRk.cellK (k0 w8 (hT1.tr (hT7.tr hT8))) hkn) ?_
        refine o_call rfl rfl (put_ok H w8 wb 4 (x.keys[x.keys.length - 1]'(by omega)) _ hW8 (by omega) (by decide) (by decide) (by rw [List.length_append, bigB_len]; omega)) (fun u w9 hv => ?_)
        obtain ⟨rfl, hW9, hT9⟩ := hv
        refine o_nil ?_
        refine k_goal ⟨(), ⟨rfl, rfl, rfl, trivial⟩, ?_, (hT7.tr hT8).tr hT9⟩
        rw [← hgk 0 hkp, ← hgk (x.keys.length - 1) (by omega)] at hW9
        rw [h]
        show Wr H w9 wb (_ ++ (if 8 = 8 then _ else _))
        rw [if_pos rfl, ← List.append_assoc]
        exact hW9
      refine k_region ?_
      refine m_ptr rfl rfl ?_
      refine o_fld (off := 5) rfl rfl ?_
      refine o_ld (v := .slice ak x.keys.length ck) rfl rfl (hB7.at rfl) ?_
      refine o_lens Try.underlying36 rfl ?_
      refine o_call rfl rfl (put_ok H w7 wb 4 (x.keys.length : Int) _ hW7 (by omega) (by decide) (by decide) (by omega)) (fun u w8 hv => ?_)
      obtain ⟨rfl, hW8, hT8⟩ := hv
      refine o_nil ?_
      refine k_goal ⟨(), ⟨rfl, rfl, rfl, trivial⟩, ?_, hT7.tr hT8⟩
      rw [hf89.resolve_left h]
      show Wr H w8 wb (_ ++ (if 9 = 8 then _ else _))
      rw [if_neg (by decide)]
      exact hW8
    obtain ⟨hW10, hT10⟩ := hJ
    have hl10 : (swHead (bs ++ bigB 1 x.op) x f.toNat).length ≤ bs.length + 100 := by
     unfold swHead
     split <;> simp only [List.length_append, bigB_len] at hlp ⊢ <;> omega
    have hle : ∀ i, (ents x f.toNat i).length ≤ 8 * i := by
     intro i
     induction i with
     | zero => exact Nat.le_refl 0
     | succ i ih =>
      unfold ents
      split <;> simp only [List.length_append, bigB_len, List.length_nil] <;> omega
    refine k_seq ?_
    refine k_region ?_
    refine o_fld (off := 5) rfl rfl ?_
    refine o_ld (v := .slice ak x.keys.length ck) rfl rfl ((hbx w10 hT10).at rfl) ?_
    refine o_lens Try.underlying36 rfl ?_
    refine m_int rfl rfl ?_
    refine o_nil ?_
    refine k_block ?_
    refine k_loop (σ := Nat) (fun i => [(0, .pointer (some ⟨wb, 0, none⟩)), (2, .int .u8 (f.toNat : Int)), (4, .pointer (some ⟨b4, 0, none⟩)), (136, .slice ak x.keys.length ck), (137, .int .i64 (x.keys.length : Int)), (138, .int .i64 (i : Int))]) (fun i w' => i ≤ x.keys.length ∧ Wr H w' wb (swHead (bs ++ bigB 1 x.op) x f.toNat ++ ents x f.toNat i) ∧ KeepT [5, 52] H w1 w') (fun i => x.keys.length - i) 0 ⟨rfl, rfl, rfl, rfl, rfl, rfl, trivial⟩ ⟨Nat.zero_le _, by unfold ents; rw [List.append_nil]; exact hW10, hT10⟩ (fun i' e w11 hJ => ?_)
    obtain ⟨hi', hW11, hT11⟩ := hJ
    have hs11 := hT11.size
    have hle' := hle i'
    have hl11 : (swHead (bs ++ bigB 1 x.op) x f.toNat ++ ents x f.toNat i').length ≤ bs.length + 100 + 8 * i' := by rw [List.length_append]; omega
    refine k_seq ?_
    refine k_region ?_
    refine b_lss rfl rfl ?_
    refine o_nil ?_
    refine k_seq ?_
    refine k_cond rfl (fun h => ?_) (fun h => ?_)
    rotate_left
    ·
      refine k_exit rfl ?_
      refine k_blk ?_
      refine k_seq ?_
      refine k_region ?_
      refine m_bool rfl rfl ?_
      refine o_nil ?_
      refine k_ret (ret_tmps (ts := [6]) (v := .bool _) rfl rfl ?_)
      have hin : i' = x.keys.length := by omega
      subst hin
      refine WrR.yes ?_ hW11 (hT1.tr hT11)
      rcases hf89 with h8 | h8
      · rw [h8]; exact if_pos ⟨hjk, fun hh => hk0 h8 (by rw [hh]; rfl), hk4⟩
      · rw [h8]; exact if_pos ⟨hjk, hk4⟩
    have hin : i' < x.keys.length := by omega
    have hki := iv_at x.keys i' hin
    have hji := iv_at x.jumps (i' + 1) (by omega)
    have hK11 := k0 w11 (hT1.tr hT11)
    obtain ⟨b3, o3, hak, hc3⟩ := (hRk.new hK11) _ _ hki
    subst hak
    refine k_skip ?_
    refine k_seq ?_
    refine k_block ?_
    refine k_seq ?_
    refine k_region ?_
    refine m_int rfl rfl ?_
    refine o_ixs1 Try.underlying36 rfl rfl rfl hin ?_
    refine o_ld (v := iv (x.keys[i'])) rfl rfl hc3 ?_
    refine m_int rfl rfl ?_
    refine m_int rfl rfl ?_
    refine o_nil ?_
    refine k_seq ?_
    refine k_seq ?_
    refine k_region ?_
    refine m_int rfl rfl ?_
    refine v8_eql (b := 9#8) rfl rfl ?_
    refine o_nil ?_
    refine k_cut (σ := Unit) (fun _ => [(0, .pointer (some ⟨wb, 0, none⟩)), (2, .int .u8 (f.toNat : Int)), (4, .pointer (some ⟨b4, 0, none⟩)), (7, .int .i64 (i' : Int)), (136, .slice (some ⟨b3, o3, none⟩) x.keys.length ck), (137, .int .i64 (x.keys.length : Int)), (138, .int .i64 (i' : Int))]) (fun _ w' => Wr H w' wb (swHead (bs ++ bigB 1 x.op) x f.toNat ++ ents x f.toNat i' ++ (if f.toNat = 9 then bigB 4 (x.keys.getD i' 0) else [])) ∧ KeepT [5, 52] H w1 w') ?_ (fun _ e w13 hJ => ?_)
    ·
      refine k_cond rfl (fun h => ?_) (fun h => ?_)
      ·
        have h144 := h
        refine k_region ?_
        refine m_ptr rfl rfl ?_
        refine m_int rfl rfl ?_
        refine o_call rfl rfl (put_ok H w11 wb 4 (x.keys[i']) _ hW11 (by omega) (by decide) (by decide) (by omega)) (fun u w12 hv => ?_)
        obtain ⟨rfl, hW12, hT12⟩ := hv
        refine o_nil ?_
        refine k_goal ⟨(), ⟨rfl, rfl, rfl, rfl, rfl, rfl, rfl, trivial⟩, ?_, hT11.tr hT12⟩
        rw [if_pos (show f.toNat = 9 by rw [h144]; rfl), hgk i' hin]
        exact hW12
      have h144 := h
      refine k_skip ?_
      refine k_goal ⟨(), ⟨rfl, rfl, rfl, rfl, rfl, rfl, rfl, trivial⟩, ?_, hT11⟩
      rw [if_neg (show ¬ f.toNat = 9 from fun e => h144 (BitVec.eq_of_toNat_eq e)), List.append_nil]
      exact hW11
    obtain ⟨hW13, hT13⟩ := hJ
    have hB13 := hbx w13 hT13
    have hK13 := k0 w13 (hT1.tr hT13)
    have hs13 := hT13.size
    have hl13 : (swHead (bs ++ bigB 1 x.op) x f.toNat ++ ents x f.toNat i' ++ (if f.toNat = 9 then bigB 4 (x.keys.getD i' 0) else [])).length ≤ bs.length + 104 + 8 * i' := by
     rw [List.length_append]
     split <;> simp only [bigB_len, List.length_nil] <;> omega
    refine k_qk 10 rfl rfl rfl rfl rfl ?_
    refine q_step (fun w1 hC => m_ptr rfl rfl (o_nil ⟨rfl, hC⟩)) ?_
    refine q_step (fun w1 hC => o_fld (off := 6) rfl rfl (o_nil ⟨rfl, hC⟩)) ?_
    refine q_step (fun w1 hC => o_ld (v := .slice (some ⟨b2, o2, none⟩) x.jumps.length cj) rfl rfl (hB13.kat hC rfl) (o_nil ⟨rfl, hC⟩)) ?_
    refine q_step (fun w1 hC => m_int rfl rfl (o_nil ⟨rfl, hC⟩)) ?_
    refine q_step (fun w1 hC => n_add rfl rfl (by omega) (o_nil ⟨rfl, hC⟩)) ?_
    refine q_step (fun w1 hC => o_ixs1 (m := i' + 1) Try.underlying36 rfl rfl rfl (by omega) (o_nil ⟨rfl, hC⟩)) ?_
    refine q_step (fun w1 hC => o_ld (v := iv (x.jumps[i' + 1]'(by omega))) rfl rfl (hRj.cellK (hK13.tr hC) hji) (o_nil ⟨rfl, hC⟩)) ?_
    refine q_step (fun w1 hC => o_fld0 rfl rfl (o_nil ⟨rfl, hC⟩)) ?_
    refine q_step (fun w1 hC => o_ld (v := iv x.p) rfl rfl (hB13.kat hC rfl) (o_nil ⟨rfl, hC⟩)) ?_
    refine q_step (fun w1 hC => b_sub rfl rfl (o_nil ⟨rfl, hC⟩)) ?_
    refine q_nil ?_
    intro w14 hC14
    have hW14 : Wr H w14 wb (swHead (bs ++ bigB 1 x.op) x f.toNat ++ ents x f.toNat i' ++ (if f.toNat = 9 then bigB 4 (x.keys.getD i' 0) else [])) := by
     obtain ⟨a, c, h1, h2, h3, h4⟩ := hW13
     exact ⟨a, c, h1.keep hC14 (by simp), h2.new hC14, h3, h4⟩
    have hs14 := hC14.size
    refine o_call rfl rfl (put_ok H w14 wb 4 (IntKind.i64.wrap (x.jumps[i' + 1]'(by omega) - x.p)) _ hW14 (by omega) (by decide) (by decide) (by omega)) (fun u w15 hv => ?_)
    obtain ⟨rfl, hW15, hT15⟩ := hv
    rw [bigB_wrap, ← hgj (i' + 1) (by omega)] at hW15
    refine o_nil ?_
    refine k_blk ?_
    refine k_region ?_
    refine n_add rfl rfl (by omega) ?_
    refine m_int rfl rfl ?_
    refine o_nil ?_
    refine k_goal ⟨i' + 1, ⟨rfl, rfl, rfl, rfl, rfl, rfl, trivial⟩, ⟨by omega, ?_, (hT13.tr hC14.t).tr hT15⟩, by omega⟩
    rw [show ents x f.toNat (i' + 1) = ents x f.toNat i' ++ ((if f.toNat = 9 then bigB 4 (x.keys.getD i' 0) else []) ++ bigB 4 (x.jumps.getD (i' + 1) 0 - x.p)) from rfl, ← List.append_assoc, ← List.append_assoc]
    exact hW15
  refine k_skip ?_
  refine k_block ?_
  refine k_region ?_
  refine m_ptr rfl rfl ?_
  refine o_call rfl rfl (put_ok H w5 wb 1 0 _ hW5 (by omega) (by decide) (by decide) (by omega)) (fun u w6 hv => ?_)
  obtain ⟨rfl, hW6, hT6⟩ := hv
  refine o_nil ?_
  refine k_blk ?_
  refine k_goal ⟨i + 1, ⟨rfl, rfl, rfl, trivial⟩, ⟨?_, ?_, hT5.tr hT6⟩, ?_⟩
  · refine Nat.lt_of_not_le fun hh => h ?_
    rw [hl5, show bs.length + 1 + i = up4 (bs ++ bigB 1 x.op).length by omega, hmod]; rfl
  · rw [List.replicate_succ', ← List.append_assoc]
    exact hW6
  · have : i < up4 (bs ++ bigB 1 x.op).length - (bs ++ bigB 1 x.op).length := by
     refine Nat.lt_of_not_le fun hh => h ?_
     rw [hl5, show bs.length + 1 + i = up4 (bs ++ bigB 1 x.op).length by omega, hmod]; rfl
    omega
end Go.Proofs.Ytmdkinedbmjieaa
