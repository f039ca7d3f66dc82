/- The walk of the law SumEnds. No condition beyond what the contract names. -/
import Derived.Test.YtmilnijpnlhcoaaLa
namespace Go.Proofs.Ytmilnijpnlhcoaa
open Go.RowKit E
set_option linter.unusedVariables false
set_option linter.unusedSimpArgs false
set_option maxRecDepth 100000
attribute [local irreducible] ow qw kw kq cw opW Ret
theorem sb8 (x : BitVec 32) (k : Nat) (hk : k ≤ 24) : BitVec.ofInt 8 ((x.toNat : Int).fdiv (2 ^ min k 64)) = (x >>> k).setWidth 8 := by
  apply BitVec.eq_of_toNat_eq
  rw [BitVec.toNat_ofInt, BitVec.toNat_setWidth, BitVec.toNat_ushiftRight, Nat.shiftRight_eq_div_pow, Nat.min_eq_left (by omega), Int.fdiv_eq_ediv_of_nonneg _ (Int.le_of_lt (Int.pow_pos (by decide)))]
  have : ((x.toNat : Int) / 2 ^ k) = ((x.toNat / 2 ^ k : Nat) : Int) := by simp
  rw [this]
  omega
theorem sb0 (x : BitVec 32) : BitVec.ofInt 8 (x.toNat : Int) = x.setWidth 8 := by
  apply BitVec.eq_of_toNat_eq
  rw [BitVec.toNat_ofInt, BitVec.toNat_setWidth]
  omega
theorem le_one (x : BitVec 32) (h : x >>> 8 = 0#32) : Crc.le [x.setWidth 8] = x := by
  conv => rhs; rw [Crc.split8 x, h]
  simp [Crc.le]
theorem le_step (x : BitVec 32) (l : List (BitVec 8)) (h : Crc.le l = x >>> 8) : Crc.le (x.setWidth 8 :: l) = x := by
  conv => rhs; rw [Crc.split8 x]
  rw [Crc.le, h]
theorem sh8 (x : BitVec 32) (k : Nat) : (x >>> k) >>> 8 = x >>> (k + 8) := by rw [BitVec.shiftRight_add]
theorem le_four (x : BitVec 32) : Crc.le [x.setWidth 8, (x >>> 8).setWidth 8, (x >>> 16).setWidth 8, (x >>> 24).setWidth 8] = x := by
  refine le_step x _ (le_step (x >>> 8) _ ?_)
  rw [sh8]
  refine le_step (x >>> 16) _ ?_
  rw [sh8]
  refine le_one _ ?_
  rw [sh8]
  apply BitVec.eq_of_toNat_eq
  rw [BitVec.toNat_ushiftRight, Nat.shiftRight_eq_div_pow]
  have := x.isLt
  simp
  omega
theorem ends (l : List (BitVec 8)) : Crc.add (Crc.add 0 l) [BitVec.ofInt 8 (Crc.add 0 l), BitVec.ofInt 8 ((Crc.add 0 l).fdiv (2 ^ min 8 64)), BitVec.ofInt 8 ((Crc.add 0 l).fdiv (2 ^ min 16 64)), BitVec.ofInt 8 ((Crc.add 0 l).fdiv (2 ^ min 24 64))] = 558161692 := by
  obtain ⟨x, hx⟩ : ∃ x : BitVec 32, Crc.add 0 l = (x.toNat : Int) := ⟨_, rfl⟩
  rw [hx, sb0, sb8 x 8 (by omega), sb8 x 16 (by omega), sb8 x 24 (by omega)]
  unfold Crc.add
  rw [Crc.ofInt_toNat, Crc.fold_le _ _ (by simp), le_four]
  have : ~~~ x ^^^ x = BitVec.allOnes 32 := by
    apply BitVec.eq_of_getLsbD_eq
    intro i hi
    rw [BitVec.getLsbD_xor, BitVec.getLsbD_not, BitVec.getLsbD_allOnes]
    cases x.getLsbD i <;> simp [hi]
  rw [this]
  show ((~~~ Crc.bsN 32 (BitVec.allOnes 32)).toNat : Int) = 558161692
  decide +kernel

theorem add_nil (w : World) (s : Int) (a : Option Addr) (n c : Nat) : Ret Try.prog 10 [.pointer none, .int .i64 s, .slice a n c] w (fun v w' => v = .int .i64 0 ∧ w' = w) := by
  refine fn_enter (n := 37) Try.func10 rfl rfl (Nat.le_of_ble_eq_true rfl) (fun e => ?_)
  refine k_seq ?_
  refine k_region ?_
  refine m_int rfl rfl ?_
  refine o_nil ?_
  refine k_seq ?_
  refine k_seq ?_
  refine k_region ?_
  refine m_ptr rfl rfl ?_
  refine b_eqlp Try.underlying24 rfl rfl ?_
  refine o_nil ?_
  refine k_yes rfl (rfl) ?_
  refine k_seq ?_
  refine k_region ?_
  refine m_int rfl rfl ?_
  refine o_nil ?_
  refine k_ret (ret_tmps (ts := [6]) (v := .int _ _) rfl rfl ?_)
  exact ⟨rfl, rfl⟩

theorem sumOf_two (p q : Part) : sumOf [p, q] = Crc.add (Crc.add 0 p.l) q.l := rfl

attribute [local irreducible] Crc.add sumOf in
theorem sumEnds_ok (w : World) (a : Option Addr) (c : Nat) (l : List (BitVec 8)) (hR : Rd w a (l.map u8v)) (hl : l.length ≤ 9223372036854775807) :
    Ret Try.prog 7 [.slice a l.length c] w (fun v w' => v = .bool true ∧ Keep [] w w') := by
  refine fn_enter (n := 41) Try.func7 rfl rfl (Nat.le_of_ble_eq_true rfl) (fun e => ?_)
  refine k_seq ?_
  refine k_region ?_
  refine m_bool rfl rfl ?_
  refine o_nil ?_
  refine k_seq ?_
  refine k_seq ?_
  refine k_region ?_
  refine o_call rfl rfl (fixed_ok w) (fun v w1 hv => ?_)
  obtain ⟨rfl, hK1⟩ := hv
  refine u_notb rfl ?_
  refine o_nil ?_
  refine k_condf rfl ?_
  refine k_skip ?_
  refine k_seq ?_
  refine k_region ?_
  refine m_ptr rfl rfl ?_
  refine o_nil ?_
  refine k_seq ?_
  refine k_region ?_
  refine m_sl rfl rfl ?_
  refine o_bsl (E := 22) (cs := #[.slice a l.length c]) rfl (fun _ => by kernel_rfl) (fun g w2 hB2 hK2 hb2 hZ2 => ?_)
  have hk2 := hK1.tr hK2
  refine o_call rfl rfl (of_one w2 a a c g l hB2 (hR.new hk2) hl) (fun v w3 hv => ?_)
  obtain ⟨rfl, hK3⟩ := hv
  have hk3 := hk2.tr hK3
  have hrg := Crc.add_range 0 l
  refine m_int rfl rfl ?_
  refine o_nil ?_
  refine k_seq ?_
  refine k_region ?_
  refine m_int rfl rfl ?_
  refine b_geq rfl rfl ?_
  refine m_bool rfl rfl ?_
  refine o_true (t := 12) rfl (hrg.1) ?_
  refine g_yes rfl rfl ?_
  refine m_int rfl rfl ?_
  refine g_yes rfl rfl ?_
  refine b_lss rfl rfl ?_
  refine pick_t rfl rfl ?_
  refine m_bool rfl rfl ?_
  refine o_true (t := 16) rfl (hrg.2) ?_
  refine g_yes rfl rfl ?_
  refine m_sl rfl rfl ?_
  refine g_yes rfl rfl ?_
  refine m_int rfl rfl ?_
  refine g_yes rfl rfl ?_
  refine cv8 rfl Try.underlying5 rfl ?_
  refine g_yes rfl rfl ?_
  refine m_int rfl rfl ?_
  refine g_yes rfl rfl ?_
  refine b_shrn (c := 8) rfl rfl ?_
  refine g_yes rfl rfl ?_
  refine cv8 rfl Try.underlying5 rfl ?_
  refine g_yes rfl rfl ?_
  refine m_int rfl rfl ?_
  refine g_yes rfl rfl ?_
  refine b_shrn (c := 16) rfl rfl ?_
  refine g_yes rfl rfl ?_
  refine cv8 rfl Try.underlying5 rfl ?_
  refine g_yes rfl rfl ?_
  refine m_int rfl rfl ?_
  refine g_yes rfl rfl ?_
  refine b_shrn (c := 24) rfl rfl ?_
  refine g_yes rfl rfl ?_
  refine cv8 rfl Try.underlying5 rfl ?_
  refine g_yes rfl rfl ?_
  refine o_bsl (E := 5) (cs := ([BitVec.ofInt 8 (Crc.add 0 l), BitVec.ofInt 8 ((Crc.add 0 l).fdiv (2 ^ min 8 64)), BitVec.ofInt 8 ((Crc.add 0 l).fdiv (2 ^ min 16 64)), BitVec.ofInt 8 ((Crc.add 0 l).fdiv (2 ^ min 24 64))].map u8v).toArray) rfl (fun _ => by kernel_rfl) (fun g4 w4 hB4 hK4 hb4 hZ4 => ?_)
  have hk4 := hk3.tr hK4
  refine g_yes rfl rfl ?_
  refine o_bsl (E := 22) (cs := #[.slice a l.length c, .slice (some ⟨g4, 0, none⟩) 4 4]) rfl (fun _ => by kernel_rfl) (fun g5 w5 hB5 hK5 hb5 hZ5 => ?_)
  have hk5 := hk4.tr hK5
  refine g_yes rfl rfl ?_
  refine o_call rfl rfl (of_ok w5 (some ⟨g5, 0, none⟩) 2 [⟨a, c, l⟩, ⟨some ⟨g4, 0, none⟩, 4, [BitVec.ofInt 8 (Crc.add 0 l), BitVec.ofInt 8 ((Crc.add 0 l).fdiv (2 ^ min 8 64)), BitVec.ofInt 8 ((Crc.add 0 l).fdiv (2 ^ min 16 64)), BitVec.ofInt 8 ((Crc.add 0 l).fdiv (2 ^ min 24 64))]⟩] hB5.rd (by
    intro p hp
    simp at hp
    rcases hp with rfl | rfl
    · exact ⟨hR.new hk5, hl⟩
    · exact ⟨hB4.rd.new hK5, Nat.le_of_ble_eq_true rfl⟩) (Nat.le_of_ble_eq_true rfl)) (fun v w6 hv => ?_)
  obtain ⟨rfl, hK6⟩ := hv
  have hk6 := hk5.tr hK6
  refine g_yes rfl rfl ?_
  refine b_eql rfl rfl ?_
  refine pick_t rfl rfl ?_
  refine m_bool rfl rfl ?_
  refine o_true (t := 34) rfl (by rw [sumOf_two]; exact ends l) ?_
  refine g_yes rfl rfl ?_
  refine m_ptr rfl rfl ?_
  refine g_yes rfl rfl ?_
  refine m_int rfl rfl ?_
  refine g_yes rfl rfl ?_
  refine m_sl rfl rfl ?_
  refine g_yes rfl rfl ?_
  refine o_call rfl rfl (add_nil w6 _ _ _ _) (fun v w7 hv => ?_)
  obtain ⟨rfl, rfl⟩ := hv
  refine g_yes rfl rfl ?_
  refine b_eql rfl rfl ?_
  refine pick_t rfl rfl ?_
  refine m_bool rfl rfl ?_
  refine o_nil ?_
  refine k_ret (ret_tmps (ts := [2]) (v := .bool _) rfl rfl ?_)
  exact ⟨by simp, hk6⟩
end Go.Proofs.Ytmilnijpnlhcoaa
