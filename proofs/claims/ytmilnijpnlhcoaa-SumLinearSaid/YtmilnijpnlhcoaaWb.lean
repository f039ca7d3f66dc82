/- The walks of sum.Of, of the reference's step, Add and Of, and of the calls whose answers the document fixes. No condition beyond what each contract names. -/
import Derived.Test.YtmilnijpnlhcoaaWa
namespace Go.Proofs.Ytmilnijpnlhcoaa
open Go.RowKit E
set_option linter.unusedVariables false
set_option linter.unusedSimpArgs false
set_option maxRecDepth 100000
attribute [local irreducible] ow qw kw kq cw opW Ret

/-- a slice of bytes -/
structure Part where
  a : Option Addr
  c : Nat
  l : List (BitVec 8)
def pv (p : Part) : Value := .slice p.a p.l.length p.c
def sumOf (ps : List Part) : Int := ps.foldl (fun s p => Crc.add s p.l) 0
theorem sumOf_take (ps : List Part) (k : Nat) (h : k < ps.length) : sumOf (ps.take (k + 1)) = Crc.add (sumOf (ps.take k)) ps[k].l := by
  unfold sumOf
  rw [List.take_succ_eq_append_getElem h, List.foldl_append]
  rfl
theorem add_zero_nil : Crc.add 0 [] = 0 := by decide
theorem sumOf_flat (ps : List Part) : sumOf ps = Crc.add 0 (ps.flatMap (·.l)) := by
  have : ∀ (ps : List Part) (m : List (BitVec 8)), ps.foldl (fun s p => Crc.add s p.l) (Crc.add 0 m) = Crc.add 0 (m ++ ps.flatMap (·.l)) := by
    intro ps
    induction ps with
    | nil => intro m; simp
    | cons p ps ih => intro m; simp only [List.foldl_cons, Crc.add_add, ih, List.flatMap_cons, List.append_assoc]
  have h := this ps []
  rw [add_zero_nil] at h
  simpa [sumOf] using h

theorem of_ok (w : World) (a : Option Addr) (c : Nat) (ps : List Part) (hR : Rd w a (ps.map pv)) (hP : ∀ p ∈ ps, Rd w p.a (p.l.map u8v) ∧ p.l.length ≤ 9223372036854775807) (hl : ps.length ≤ 9223372036854775807) :
    Ret Try.prog 12 [.slice a ps.length c] w (fun v w' => v = .int .i64 (sumOf ps) ∧ Keep [] w w') := by
  refine fn_enter (n := 20) Try.func12 rfl rfl (Nat.le_of_ble_eq_true rfl) (fun e => ?_)
  refine k_seq ?_
  refine k_region ?_
  refine m_int rfl rfl ?_
  refine o_nil ?_
  refine k_seq ?_
  refine k_region ?_
  refine o_call rfl rfl (new_ok w) (fun v w1 hv => ?_)
  obtain ⟨tb, rfl, htb, hB, hK⟩ := hv
  refine m_ptr rfl rfl ?_
  refine m_int rfl rfl ?_
  refine o_nil ?_
  refine k_seq ?_
  refine k_seq ?_
  refine k_region ?_
  refine m_sl rfl rfl ?_
  refine o_lens Try.underlying31 rfl ?_
  refine m_int rfl rfl ?_
  refine o_nil ?_
  refine k_block ?_
  refine k_loop (σ := Nat) (fun k => [(3, .pointer (some ⟨tb, 0, none⟩)), (4, .int .i64 (sumOf (ps.take k))), (8, .slice a ps.length c), (9, .int .i64 (ps.length : Int)), (10, .int .i64 (k : Int))]) (fun k w' => k ≤ ps.length ∧ w' = w1) (fun k => ps.length - k) 0 ⟨rfl, rfl, rfl, rfl, rfl, trivial⟩ ⟨by omega, rfl⟩ (fun k e w3 hJ => ?_)
  obtain ⟨hk, rfl⟩ := hJ
  refine k_seq ?_
  refine k_region ?_
  refine b_lss rfl rfl ?_
  refine o_nil ?_
  refine k_seq ?_
  refine k_cond rfl (fun h => ?_) (fun h => ?_)
  rotate_left
  ·
    refine k_exit rfl ?_
    refine k_seq ?_
    refine k_region ?_
    refine m_int rfl rfl ?_
    refine m_int rfl rfl ?_
    refine o_nil ?_
    refine k_ret (ret_tmps (ts := [2]) (v := .int _ _) rfl rfl ?_)
    have hk' : k = ps.length := by omega
    subst hk'
    rw [List.take_length]
    exact ⟨rfl, hK⟩
  have hlt : k < ps.length := by omega
  obtain ⟨b, o, rfl, hc⟩ := (hR.new hK) k (pv ps[k]) (by simp [hlt])
  refine k_skip ?_
  refine k_seq ?_
  refine k_block ?_
  refine k_seq ?_
  refine k_region ?_
  refine o_ixs1 Try.underlying31 rfl rfl rfl hlt ?_
  refine o_ld rfl rfl hc ?_
  refine m_sl rfl rfl ?_
  refine o_nil ?_
  refine k_region ?_
  refine m_ptr rfl rfl ?_
  refine m_int rfl rfl ?_
  refine m_sl rfl rfl ?_
  refine o_call rfl rfl (add_ok w3 tb 42 _ _ _ ps[k].l hB ((hP _ (List.getElem_mem hlt)).1.new hK) (hP _ (List.getElem_mem hlt)).2) (fun v w4 hv => ?_)
  obtain ⟨rfl, rfl⟩ := hv
  refine m_int rfl rfl ?_
  refine o_nil ?_
  refine k_blk ?_
  refine k_region ?_
  refine n_add rfl rfl (by omega) ?_
  refine m_int rfl rfl ?_
  refine o_nil ?_
  refine k_goal ⟨k + 1, ⟨rfl, ?_, rfl, rfl, rfl, trivial⟩, ⟨by omega, rfl⟩, by omega⟩
  rw [sumOf_take _ _ hlt]
  rfl

theorem step_ok (w : World) (r : BitVec 32) (c : BitVec 8) : Ret Try.prog 14 [.int .u32 (r.toNat : Int), .int .u8 (c.toNat : Int)] w (fun v w' => v = .int .u32 ((Crc.stp r c).toNat : Int) ∧ w' = w) := by
  refine fn_enter (n := 24) Try.func14 rfl rfl (Nat.le_of_ble_eq_true rfl) (fun e => ?_)
  refine k_seq ?_
  refine k_region ?_
  refine m_int rfl rfl ?_
  refine o_nil ?_
  refine k_seq ?_
  refine k_region ?_
  refine m_int rfl rfl ?_
  refine m_int rfl rfl ?_
  refine cv8_32 rfl Try.underlying39 rfl ?_
  refine v32_xor rfl rfl ?_
  refine m_int rfl rfl ?_
  refine o_nil ?_
  refine k_seq ?_
  refine k_seq ?_
  refine k_region ?_
  refine m_int rfl rfl ?_
  refine o_nil ?_
  refine k_block ?_
  refine k_loop (σ := Nat) (fun j => [(0, .int .u32 ((Crc.bsN j (r ^^^ c.setWidth 32)).toNat : Int)), (5, .int .i64 (j : Int))]) (fun j w' => j ≤ 8 ∧ w' = w) (fun j => 8 - j) 0 ⟨rfl, rfl, trivial⟩ ⟨by omega, rfl⟩ (fun j e w3 hJ => ?_)
  obtain ⟨hj, rfl⟩ := hJ
  refine k_seq ?_
  refine k_seq ?_
  refine k_region ?_
  refine m_int rfl rfl ?_
  refine b_lss rfl rfl ?_
  refine o_nil ?_
  refine k_cond rfl (fun h => ?_) (fun h => ?_)
  rotate_left
  ·
    refine k_exit rfl ?_
    refine k_seq ?_
    refine k_region ?_
    refine m_int rfl rfl ?_
    refine m_int rfl rfl ?_
    refine o_nil ?_
    refine k_ret (ret_tmps (ts := [4]) (v := .int _ _) rfl rfl ?_)
    have : j = 8 := by omega
    subst this
    rw [Crc.stp_eq]
    exact ⟨rfl, rfl⟩
  refine k_skip ?_
  refine k_seq ?_
  refine k_block ?_
  refine k_seq ?_
  refine k_region ?_
  refine m_int rfl rfl ?_
  refine v32_rem (b := 2#32) rfl rfl (by decide) ?_
  refine m_int rfl rfl ?_
  refine o_nil ?_
  refine k_seq ?_
  refine k_region ?_
  refine m_int rfl rfl ?_
  refine v32_quo (b := 2#32) rfl rfl (by decide) ?_
  refine m_int rfl rfl ?_
  refine o_nil ?_
  refine k_seq ?_
  refine k_region ?_
  refine m_int rfl rfl ?_
  refine v32_eql (b := 1#32) rfl rfl ?_
  refine o_nil ?_
  refine k_cond rfl (fun h => ?_) (fun h => ?_)
  ·
    refine k_region ?_
    refine m_int rfl rfl ?_
    refine v32_xor (b := 3988292384#32) rfl rfl ?_
    refine m_int rfl rfl ?_
    refine o_nil ?_
    refine k_blk ?_
    refine k_region ?_
    refine m_int rfl rfl ?_
    refine n_add rfl rfl (by omega) ?_
    refine m_int rfl rfl ?_
    refine o_nil ?_
    refine k_goal ⟨j + 1, ⟨?_, rfl, trivial⟩, ⟨by omega, rfl⟩, by omega⟩
    rw [Crc.bsN, Crc.bs_ref, if_pos h]
    rfl
  refine k_skip ?_
  refine k_blk ?_
  refine k_region ?_
  refine m_int rfl rfl ?_
  refine n_add rfl rfl (by omega) ?_
  refine m_int rfl rfl ?_
  refine o_nil ?_
  refine k_goal ⟨j + 1, ⟨?_, rfl, trivial⟩, ⟨by omega, rfl⟩, by omega⟩
  rw [Crc.bsN, Crc.bs_ref, if_neg h]
  rfl

theorem setw (s : Int) : (BitVec.ofInt 64 s).setWidth 32 = BitVec.ofInt 32 s := by
  apply BitVec.eq_of_toNat_eq
  rw [BitVec.toNat_setWidth, BitVec.toNat_ofInt, BitVec.toNat_ofInt]
  omega

theorem radd_ok (w : World) (s : Int) (a : Option Addr) (c : Nat) (l : List (BitVec 8)) (hR : Rd w a (l.map u8v)) (hl : l.length ≤ 9223372036854775807) :
    Ret Try.prog 11 [.int .i64 s, .slice a l.length c] w (fun v w' => v = .int .i64 (Crc.add s l) ∧ w' = w) := by
  refine fn_enter (n := 26) Try.func11 rfl rfl (Nat.le_of_ble_eq_true rfl) (fun e => ?_)
  refine k_seq ?_
  refine k_region ?_
  refine m_int rfl rfl ?_
  refine o_nil ?_
  refine k_seq ?_
  refine k_region ?_
  refine m_int rfl rfl ?_
  refine cv64 rfl Try.underlying43 rfl ?_
  refine cv64_32 rfl Try.underlying39 rfl ?_
  refine v32_not rfl ?_
  refine m_int rfl rfl ?_
  refine o_nil ?_
  refine k_seq ?_
  refine k_seq ?_
  refine k_region ?_
  refine m_int rfl rfl ?_
  refine o_nil ?_
  refine k_block ?_
  refine k_loop (σ := Nat) (fun k => [(1, .slice a l.length c), (5, .int .u32 ((Crc.fold (~~~ (BitVec.ofInt 32 s)) (l.take k)).toNat : Int)), (6, .int .i64 (k : Int))]) (fun k w' => k ≤ l.length ∧ w' = w) (fun k => l.length - k) 0 ⟨rfl, (by rw [← setw]; rfl), rfl, trivial⟩ ⟨by omega, rfl⟩ (fun k e w3 hJ => ?_)
  obtain ⟨hk, rfl⟩ := hJ
  refine k_seq ?_
  refine k_seq ?_
  refine k_region ?_
  refine m_int rfl rfl ?_
  refine m_sl rfl rfl ?_
  refine o_lens Try.underlying22 rfl ?_
  refine b_lss rfl rfl ?_
  refine o_nil ?_
  refine k_cond rfl (fun h => ?_) (fun h => ?_)
  rotate_left
  ·
    refine k_exit rfl ?_
    refine k_seq ?_
    refine k_region ?_
    refine m_int rfl rfl ?_
    refine v32_not rfl ?_
    refine cv32_i rfl Try.underlying3 rfl ?_
    refine m_int rfl rfl ?_
    refine o_nil ?_
    refine k_ret (ret_tmps (ts := [4]) (v := .int _ _) rfl rfl ?_)
    have hk' : k = l.length := by omega
    subst hk'
    rw [List.take_length]
    exact ⟨rfl, rfl⟩
  have hlt : k < l.length := by omega
  obtain ⟨b, o, rfl, hc⟩ := hR k _ (u8_at l k hlt)
  refine k_skip ?_
  refine k_seq ?_
  refine k_block ?_
  refine k_region ?_
  refine m_int rfl rfl ?_
  refine m_sl rfl rfl ?_
  refine m_int rfl rfl ?_
  refine o_ixs1 Try.underlying22 rfl rfl rfl hlt ?_
  refine o_ld rfl rfl hc ?_
  refine o_call rfl rfl (step_ok w3 _ _) (fun v w4 hv => ?_)
  obtain ⟨rfl, rfl⟩ := hv
  refine m_int rfl rfl ?_
  refine o_nil ?_
  refine k_blk ?_
  refine k_region ?_
  refine m_int rfl rfl ?_
  refine n_add rfl rfl (by omega) ?_
  refine m_int rfl rfl ?_
  refine o_nil ?_
  refine k_goal ⟨k + 1, ⟨rfl, ?_, rfl, trivial⟩, ⟨by omega, rfl⟩, by omega⟩
  rw [Crc.fold_take _ _ _ hlt]
  rfl

theorem rof_ok (w : World) (a : Option Addr) (c : Nat) (l : List (BitVec 8)) (hR : Rd w a (l.map u8v)) (hl : l.length ≤ 9223372036854775807) :
    Ret Try.prog 13 [.slice a l.length c] w (fun v w' => v = .int .i64 (Crc.add 0 l) ∧ w' = w) := by
  refine fn_enter (n := 5) Try.func13 rfl rfl (Nat.le_of_ble_eq_true rfl) (fun e => ?_)
  refine k_seq ?_
  refine k_region ?_
  refine m_int rfl rfl ?_
  refine o_nil ?_
  refine k_seq ?_
  refine k_region ?_
  refine m_sl rfl rfl ?_
  refine o_call rfl rfl (radd_ok w 0 a c l hR hl) (fun v w4 hv => ?_)
  obtain ⟨rfl, rfl⟩ := hv
  refine m_int rfl rfl ?_
  refine o_nil ?_
  refine k_ret (ret_tmps (ts := [2]) (v := .int _ _) rfl rfl ?_)
  exact ⟨rfl, rfl⟩

end Go.Proofs.Ytmilnijpnlhcoaa
