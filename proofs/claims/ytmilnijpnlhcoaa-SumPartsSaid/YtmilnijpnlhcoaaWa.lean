/- The walks of sum.New and (*sum.Table).Add. No condition beyond what each contract names. -/
import Derived.Test.YtmilnijpnlhcoaaFrm
import Derived.Test.YtmilnijpnlhcoaaPl
namespace Go.Proofs.Ytmilnijpnlhcoaa
open Go.RowKit E
set_option linter.unusedVariables false
set_option linter.unusedSimpArgs false
set_option maxRecDepth 100000
attribute [local irreducible] ow qw kw kq cw opW Ret



def partTab (i : Nat) : Array Value := Array.ofFn (n := 256) fun j => if j.val < i then .int .u32 ((Crc.tab (BitVec.ofNat 8 j.val)).toNat : Int) else .int .u32 0
def tabCells : Array Value := Array.ofFn (n := 256) fun j => .int .u32 ((Crc.tab (BitVec.ofNat 8 j.val)).toNat : Int)
theorem partTab_all : partTab 256 = tabCells := by
  unfold partTab tabCells
  congr 1
  funext j
  rw [if_pos j.isLt]
theorem partTab_zero : partTab 0 = Array.replicate 256 (.int .u32 0) := by
  apply Array.ext <;> simp [partTab]
theorem partTab_size (i : Nat) : (partTab i).size = 256 := by simp [partTab]
theorem tab_at (x : BitVec 8) : tabCells[x.toNat]? = some (.int .u32 ((Crc.tab x).toNat : Int)) := by
  have := x.isLt
  simp [tabCells, this]
theorem partTab_set (i : Nat) (hi : i < 256) : (partTab i).setIfInBounds i (.int .u32 ((Crc.bsN 8 (BitVec.ofInt 32 (i : Int))).toNat : Int)) = partTab (i + 1) := by
  have he : Crc.tab (BitVec.ofNat 8 i) = Crc.bsN 8 (BitVec.ofInt 32 (i : Int)) := by
    unfold Crc.tab
    congr 1
    apply BitVec.eq_of_toNat_eq
    simp
    omega
  apply Array.ext
  · simp [partTab]
  · intro j h1 h2
    have hj : j < 256 := by simpa [partTab] using h2
    rw [Array.getElem_setIfInBounds (by simpa [partTab] using hj)]
    simp only [partTab, Array.getElem_ofFn]
    by_cases h : i = j
    · subst h
      rw [if_pos rfl, if_pos (by omega), he]
    · rw [if_neg h]
      by_cases h' : j < i
      · rw [if_pos h', if_pos (by omega)]
      · rw [if_neg h', if_neg (by omega)]

theorem build42 (w : World) : (Instr.build 42 #[]).run Try.prog w = .ok (.agg (Array.replicate 256 (.int .u32 0))) w := by kernel_rfl

theorem new_ok (w : World) : Ret Try.prog 9 [] w (fun v w' => ∃ b, v = .pointer (some ⟨b, 0, none⟩) ∧ w.heap.size ≤ b ∧ Blk w' b tabCells 42 ∧ Keep [] w w') := by
  refine fn_enter (n := 29) Try.func9 rfl rfl (Nat.le_of_ble_eq_true rfl) (fun e => ?_)
  refine k_seq ?_
  refine k_region ?_
  refine m_ptr rfl rfl ?_
  refine o_nil ?_
  refine k_seq ?_
  refine k_region ?_
  refine o_build (vs := []) rfl build42 ?_
  refine o_box rfl rfl (fun b w1 hB hK hb hZ => ?_)
  refine m_ptr rfl rfl ?_
  refine o_nil ?_
  refine k_seq ?_
  refine k_seq ?_
  refine k_region ?_
  refine m_int rfl rfl ?_
  refine o_nil ?_
  refine k_block ?_
  refine k_loop (σ := Nat) (fun i => [(1, .pointer (some ⟨b, 0, none⟩)), (6, .int .i64 (i : Int))]) (fun i w' => i ≤ 256 ∧ Blk w' b (partTab i) 42 ∧ Keep [] w w') (fun i => 256 - i) 0 ⟨rfl, rfl, trivial⟩ ⟨by omega, by rw [partTab_zero]; exact hB, hK⟩ (fun i e w2 hJ => ?_)
  obtain ⟨hi, hB2, hK2⟩ := hJ
  refine k_seq ?_
  refine k_region ?_
  refine b_lss rfl rfl ?_
  refine o_nil ?_
  refine k_seq ?_
  refine k_cond rfl (fun h => ?_) (fun h => ?_)
  rotate_left
  ·
    refine k_exit rfl ?_
    refine k_seq ?_
    refine k_region ?_
    refine m_ptr rfl rfl ?_
    refine m_ptr rfl rfl ?_
    refine o_nil ?_
    refine k_ret (ret_tmps (ts := [0]) (v := .pointer _) rfl rfl ?_)
    have : i = 256 := by omega
    subst this
    rw [partTab_all] at hB2
    exact ⟨b, rfl, by omega, hB2, hK2⟩
  refine k_skip ?_
  refine k_seq ?_
  refine k_block ?_
  refine k_seq ?_
  refine k_region ?_
  refine m_int rfl rfl ?_
  refine m_int rfl rfl ?_
  refine o_nil ?_
  refine k_seq ?_
  refine k_region ?_
  refine m_int rfl rfl ?_
  refine cv32 rfl Try.underlying39 rfl ?_
  refine m_int rfl rfl ?_
  refine o_nil ?_
  refine k_seq ?_
  refine k_seq ?_
  refine k_region ?_
  refine m_int rfl rfl ?_
  refine o_nil ?_
  refine k_block ?_
  refine k_loop (σ := Nat) (fun j => [(1, .pointer (some ⟨b, 0, none⟩)), (2, .int .i64 (i : Int)), (3, .int .u32 ((Crc.bsN j (BitVec.ofInt 32 (i : Int))).toNat : Int)), (6, .int .i64 (i : Int)), (11, .int .i64 (j : Int))]) (fun j w' => j ≤ 8 ∧ w' = w2) (fun j => 8 - j) 0 ⟨rfl, rfl, rfl, rfl, rfl, trivial⟩ ⟨by omega, rfl⟩ (fun j e w3 hJ => ?_)
  obtain ⟨hj, rfl⟩ := hJ
  refine k_seq ?_
  refine k_region ?_
  refine b_lss rfl rfl ?_
  refine o_nil ?_
  refine k_seq ?_
  refine k_cond rfl (fun h => ?_) (fun h => ?_)
  rotate_left
  ·
    refine k_exit rfl ?_
    refine k_region ?_
    refine m_ptr rfl rfl ?_
    refine m_int rfl rfl ?_
    refine m_int rfl rfl ?_
    refine o_nilc rfl ?_
    refine o_fld0 rfl rfl ?_
    refine o_ixa1 Try.underlying40 rfl rfl rfl (by omega) ?_
    have hj8 : j = 8 := by omega
    subst hj8
    refine o_st (v := .int _ _) rfl rfl rfl rfl hB2 (by rw [partTab_size]; omega) (fun w4 hB4 hK4 hZ4 => ?_)
    refine o_nil ?_
    refine k_blk ?_
    refine k_region ?_
    refine n_add rfl rfl (by omega) ?_
    refine m_int rfl rfl ?_
    refine o_nil ?_
    refine k_goal ⟨i + 1, ⟨rfl, rfl, trivial⟩, ⟨by omega, ?_, hK2.trans hK4 (by intro x hx hlt; simp at hx; omega)⟩, by omega⟩
    rw [Nat.zero_add, partTab_set i (by omega)] at hB4
    exact hB4
  refine k_skip ?_
  refine k_seq ?_
  refine k_block ?_
  refine k_region ?_
  refine m_int rfl rfl ?_
  refine v32_shrn (c := 1) rfl rfl ?_
  refine m_int rfl rfl ?_
  refine v32_and (b := 1#32) rfl rfl ?_
  refine v32_neg rfl ?_
  refine v32_and (a := 3988292384#32) rfl rfl ?_
  refine v32_xor rfl rfl ?_
  refine m_int rfl rfl ?_
  refine o_nil ?_
  refine k_blk ?_
  refine k_region ?_
  refine n_add rfl rfl (by omega) ?_
  refine m_int rfl rfl ?_
  refine o_nil ?_
  refine k_goal ⟨j + 1, ⟨rfl, rfl, rfl, rfl, rfl, trivial⟩, ⟨by omega, rfl⟩, by omega⟩

theorem u8_at (l : List (BitVec 8)) (k : Nat) (h : k < l.length) : (l.map u8v)[k]? = some (.int .u8 ((l[k]).toNat : Int)) := by simp [h, u8v]

theorem add_ok (w : World) (tb : Nat) (TT : TypeId) (s : Int) (a : Option Addr) (c : Nat) (l : List (BitVec 8)) (hB : Blk w tb tabCells TT) (hR : Rd w a (l.map u8v)) (hl : l.length ≤ 9223372036854775807) :
    Ret Try.prog 10 [.pointer (some ⟨tb, 0, none⟩), .int .i64 s, .slice a l.length c] w (fun v w' => v = .int .i64 (Crc.add s l) ∧ w' = w) := by
  refine fn_enter (n := 37) Try.func10 rfl rfl (Nat.le_of_ble_eq_true rfl) (fun e => ?_)
  refine k_seq ?_
  refine k_region ?_
  refine m_int rfl rfl ?_
  refine o_nil ?_
  refine k_seq ?_
  refine k_seq ?_
  refine k_region ?_
  refine m_ptr rfl rfl ?_
  refine b_eqlp Try.underlying24 rfl rfl ?_
  refine o_nil ?_
  refine k_no rfl (by simp) ?_
  refine k_skip ?_
  refine k_seq ?_
  refine k_region ?_
  refine m_int rfl rfl ?_
  refine cv32 rfl Try.underlying39 rfl ?_
  refine v32_not rfl ?_
  refine m_int rfl rfl ?_
  refine o_nil ?_
  refine k_seq ?_
  refine k_seq ?_
  refine k_region ?_
  refine m_sl rfl rfl ?_
  refine o_lens Try.underlying22 rfl ?_
  refine m_int rfl rfl ?_
  refine o_nil ?_
  refine k_block ?_
  refine k_loop (σ := Nat) (fun k => [(0, .pointer (some ⟨tb, 0, none⟩)), (7, .int .u32 ((Crc.fold (~~~ (BitVec.ofInt 32 s)) (l.take k)).toNat : Int)), (15, .slice a l.length c), (16, .int .i64 (l.length : Int)), (17, .int .i64 (k : Int))]) (fun k w' => k ≤ l.length ∧ w' = w) (fun k => l.length - k) 0 ⟨rfl, rfl, rfl, rfl, rfl, trivial⟩ ⟨by omega, rfl⟩ (fun k e w3 hJ => ?_)
  obtain ⟨hk, rfl⟩ := hJ
  refine k_seq ?_
  refine k_region ?_
  refine b_lss rfl rfl ?_
  refine o_nil ?_
  refine k_seq ?_
  refine k_cond rfl (fun h => ?_) (fun h => ?_)
  rotate_left
  ·
    refine k_exit rfl ?_
    refine k_seq ?_
    refine k_region ?_
    refine m_int rfl rfl ?_
    refine v32_not rfl ?_
    refine cv32_i rfl Try.underlying3 rfl ?_
    refine m_int rfl rfl ?_
    refine o_nil ?_
    refine k_ret (ret_tmps (ts := [6]) (v := .int _ _) rfl rfl ?_)
    have hk' : k = l.length := by omega
    subst hk'
    rw [List.take_length]
    exact ⟨rfl, rfl⟩
  have hlt : k < l.length := by omega
  obtain ⟨b, o, rfl, hc⟩ := hR k _ (u8_at l k hlt)
  refine k_skip ?_
  refine k_seq ?_
  refine k_block ?_
  refine k_seq ?_
  refine k_region ?_
  refine o_ixs1 Try.underlying22 rfl rfl rfl hlt ?_
  refine o_ld rfl rfl hc ?_
  refine m_int rfl rfl ?_
  refine o_nil ?_
  refine k_region ?_
  refine m_ptr rfl rfl ?_
  refine m_int rfl rfl ?_
  refine cv32_8 rfl Try.underlying5 rfl ?_
  refine m_int rfl rfl ?_
  refine v8_xor rfl rfl ?_
  refine o_nilc rfl ?_
  refine o_fld0 rfl rfl ?_
  refine o_ixa1 Try.underlying40 rfl rfl rfl (by have := (BitVec.setWidth 8 (Crc.fold (~~~ (BitVec.ofInt 32 s)) (l.take k)) ^^^ l[k]).isLt; omega) ?_
  refine o_ld (v := .int .u32 ((Crc.tab (BitVec.setWidth 8 (Crc.fold (~~~ (BitVec.ofInt 32 s)) (l.take k)) ^^^ l[k])).toNat : Int)) rfl rfl (by rw [Nat.zero_add, hB.cell]; exact tab_at _) ?_
  refine m_int rfl rfl ?_
  refine v32_shrn (c := 8) rfl rfl ?_
  refine v32_xor rfl rfl ?_
  refine m_int rfl rfl ?_
  refine o_nil ?_
  refine k_blk ?_
  refine k_region ?_
  refine n_add rfl rfl (by omega) ?_
  refine m_int rfl rfl ?_
  refine o_nil ?_
  refine k_goal ⟨k + 1, ⟨rfl, ?_, rfl, rfl, rfl, trivial⟩, ⟨by omega, rfl⟩, by omega⟩
  rw [Crc.fold_take _ _ _ hlt]
  rfl

end Go.Proofs.Ytmilnijpnlhcoaa
