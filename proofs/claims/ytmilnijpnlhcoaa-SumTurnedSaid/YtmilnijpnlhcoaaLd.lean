/- The walk of the law SumTurned. No condition beyond what the contract names. -/
import Derived.Test.YtmilnijpnlhcoaaLc
namespace Go.Proofs.Ytmilnijpnlhcoaa
open Go.RowKit E
set_option linter.unusedVariables false
set_option linter.unusedSimpArgs false
set_option maxRecDepth 100000
attribute [local irreducible] ow qw kw kq cw opW Ret
/-- bytes of which k neighbouring ones from a place on are other ones -/
def turn (l wv : List (BitVec 8)) (p : Nat) : Nat → List (BitVec 8)
  | 0 => l
  | k + 1 => (turn l wv p k).set (p + k) (wv.getD k 0#8)
theorem turn_len (l wv : List (BitVec 8)) (p k : Nat) : (turn l wv p k).length = l.length := by
  induction k with
  | zero => rfl
  | succ k ih => simp [turn, ih]
theorem turn_eq (l wv : List (BitVec 8)) (p k : Nat) (hk : k ≤ wv.length) (h : p + k ≤ l.length) : turn l wv p k = l.take p ++ (wv.take k ++ l.drop (p + k)) := by
  induction k with
  | zero => simp [turn]
  | succ k ih =>
    rw [turn, ih (by omega) (by omega), List.set_append_right _ _ (by simp; omega), List.set_append_right _ _ (by simp; omega)]
    congr 1
    have h1 : p + k - (l.take p).length - (wv.take k).length = 0 := by simp; omega
    rw [h1, List.take_succ_eq_append_getElem (by omega), List.append_assoc]
    congr 1
    rw [List.drop_eq_getElem_cons (by omega : p + k < l.length), List.set_cons_zero]
    simp [List.getElem?_eq_getElem (by omega : k < wv.length), Nat.add_assoc]
/-- are they the same ones? -/
def sm (l wv : List (BitVec 8)) (p : Nat) : Nat → Bool
  | 0 => true
  | k + 1 => sm l wv p k && decide (wv.getD k 0#8 = l.getD (p + k) 0#8)
theorem sm_iff (l wv : List (BitVec 8)) (p k : Nat) (hk : k ≤ wv.length) (h : p + k ≤ l.length) : sm l wv p k = true ↔ (l.drop p).take k = wv.take k := by
  induction k with
  | zero => simp [sm]
  | succ k ih =>
    rw [sm, Bool.and_eq_true, ih (by omega) (by omega), decide_eq_true_eq]
    have hk1 : k < (l.drop p).length := by simp; omega
    rw [List.take_succ_eq_append_getElem hk1, List.take_succ_eq_append_getElem (by omega : k < wv.length)]
    have e1 : wv.getD k 0#8 = wv[k] := by simp [List.getElem?_eq_getElem (by omega : k < wv.length)]
    have e2 : l.getD (p + k) 0#8 = (l.drop p)[k] := by simp [List.getElem?_eq_getElem (by omega : p + k < l.length)]
    rw [e1, e2]
    constructor
    · rintro ⟨h1, h2⟩; rw [h1, h2]
    · intro h1
      have := List.append_inj h1 (by simp; omega)
      exact ⟨this.1, by simpa using this.2.symm⟩
theorem add_inj {l m : List (BitVec 8)} (h : Crc.add 0 l = Crc.add 0 m) : Crc.fold (~~~ (BitVec.ofInt 32 0)) l = Crc.fold (~~~ (BitVec.ofInt 32 0)) m := by
  unfold Crc.add at h
  have h1 : (~~~ Crc.fold (~~~ (BitVec.ofInt 32 0)) l) = ~~~ Crc.fold (~~~ (BitVec.ofInt 32 0)) m := BitVec.eq_of_toNat_eq (by omega)
  rw [← BitVec.not_not (b := Crc.fold (~~~ (BitVec.ofInt 32 0)) l), h1, BitVec.not_not]
theorem turned (l wv : List (BitVec 8)) (p k : Nat) (hw : wv.length = 4) (hk : k ≤ 4) (h : k = 0 ∨ p + k ≤ l.length) : decide (Crc.add 0 (turn l wv p k) = Crc.add 0 l) = decide (sm l wv p k = true) := by
  rcases h with rfl | h
  · simp [turn, sm]
  · rw [decide_eq_decide, sm_iff l wv p k (by omega) h]
    have hl : l = l.take p ++ ((l.drop p).take k ++ l.drop (p + k)) := by
      rw [← List.drop_drop, List.take_append_drop, List.take_append_drop]
    rw [turn_eq l wv p k (by omega) h]
    constructor
    · intro h1
      have h2 := add_inj h1
      conv at h2 => rhs; rw [hl]
      exact (Crc.fold_window (by simp; omega) (by simp; omega) h2).symm
    · intro h1
      rw [← h1, ← hl]

theorem u8one (l : List (BitVec 8)) : ∀ u ∈ l.map u8v, u.oneCell' = true := by
  intro u hu
  obtain ⟨b, _, rfl⟩ := List.mem_map.1 hu
  rfl

attribute [local irreducible] Crc.add in
theorem sumTurned_ok (w : World) (a : Option Addr) (c : Nat) (l : List (BitVec 8)) (p : BitVec 16) (wv : List (BitVec 8)) (hR : Rd w a (l.map u8v)) (hl : l.length ≤ 140737488351232) (hw : wv.length = 4) :
    Ret Try.prog 6 [.slice a l.length c, .int .u16 (p.toNat : Int), .agg (wv.map u8v).toArray] w (fun v w' => v = .bool true ∧ Keep [] w w') := by
  have hp := p.isLt
  refine fn_enter (n := 60) Try.func6 rfl rfl (Nat.le_of_ble_eq_true rfl) (fun e => ?_)
  refine k_seq ?_
  refine k_region ?_
  refine o_box (v := .agg (wv.map u8v).toArray) rfl rfl (fun bw w1 hB1 hK1 hb1 hZ1 => ?_)
  refine m_bool rfl rfl ?_
  refine o_nil ?_
  refine k_seq ?_
  refine k_seq ?_
  refine k_region ?_
  refine o_call rfl rfl (fixed_ok w1) (fun v w2 hv => ?_)
  obtain ⟨rfl, hK2⟩ := hv
  have hk2 := hK1.tr hK2
  refine u_notb rfl ?_
  refine o_nil ?_
  refine k_condf rfl ?_
  refine k_skip ?_
  refine k_seq ?_
  refine k_region ?_
  refine o_bsl (E := 5) (cs := #[]) rfl (fun _ => by kernel_rfl) (fun g w3 hB3 hK3 hb3 hZ3 => ?_)
  have hk3 := hk2.tr hK3
  refine m_sl rfl rfl ?_
  refine o_app Try.underlying22 inf5 rfl (by decide) rfl rfl (hB3.sl (len := 0) (sz := 1) rfl (by omega)) (hR.new hk3) (by simp) (u8one l) (by simp [maxLen]; omega) (by omega) (fun a2 c2 w4 hS4 hK4 hv4 => ?_)
  rw [Nat.zero_add] at hS4 ⊢
  have hk4 : Keep [] w w4 := hk3.tr1 hK4 (by show _ ≤ g; have := hk2.size; omega)
  have hfr : ∀ q, a2 = some q → w2.heap.size ≤ q.block := by
   intro q hq
   rcases hv4 with ⟨h1, _⟩ | ⟨g2, h1, h2, _⟩
   · rw [hq] at h1; cases h1; show _ ≤ g; omega
   · rw [hq] at h1; cases h1; show _ ≤ g2; omega
  have hlt2 := hS4.lt
  have hBw : Blk w4 bw (wv.map u8v).toArray 35 := hB1.keep ((hK2.tr hK3).tr1 hK4 (by show _ ≤ g; have := hK2.size; omega)) (by simp)
  refine m_sl rfl rfl ?_
  refine o_nil ?_
  refine k_seq ?_
  refine k_region ?_
  refine m_bool rfl rfl ?_
  refine o_nil ?_
  refine k_seq ?_
  refine k_seq ?_
  refine k_region ?_
  refine m_int rfl rfl ?_
  refine o_nil ?_
  refine k_block ?_
  refine k_loop (σ := Nat) (fun k => [(0, .slice a l.length c), (1, .int .u16 (p.toNat : Int)), (5, .pointer (some ⟨bw, 0, none⟩)), (7, .slice a2 l.length c2), (8, .bool (decide (sm l wv p.toNat k = true))), (9, .int .i64 (k : Int))]) (fun k w' => k ≤ 4 ∧ (k = 0 ∨ p.toNat + k ≤ l.length) ∧ Keep [] w w' ∧ Sl w' 5 1 a2 l.length c2 ((turn l wv p.toNat k).map u8v) ∧ Blk w' bw (wv.map u8v).toArray 35) (fun k => 4 - k) 0 ⟨rfl, rfl, rfl, rfl, rfl, rfl, trivial⟩ ⟨by omega, .inl rfl, hk4, hS4, hBw⟩ (fun k e w5 hJ => ?_)
  obtain ⟨hk, hpk, hk5, hS5, hBw5⟩ := hJ
  refine k_seq ?_
  refine k_seq ?_
  refine k_region ?_
  refine m_int rfl rfl ?_
  refine b_lss rfl rfl ?_
  refine m_bool rfl rfl ?_
  refine o_split (t := 17) rfl (fun h => ?_) (fun h => ?_)
  ·
    refine g_yes rfl rfl ?_
    refine m_int rfl rfl ?_
    refine g_yes rfl rfl ?_
    refine cv16_i rfl Try.underlying3 rfl ?_
    refine g_yes rfl rfl ?_
    refine m_int rfl rfl ?_
    refine g_yes rfl rfl ?_
    refine n_add rfl rfl (by omega) ?_
    refine g_yes rfl rfl ?_
    refine m_sl rfl rfl ?_
    refine g_yes rfl rfl ?_
    refine o_lens Try.underlying22 rfl ?_
    refine g_yes rfl rfl ?_
    refine b_lss rfl rfl ?_
    refine pick_t rfl rfl ?_
    refine o_nil ?_
    refine k_cond rfl (fun h => ?_) (fun h => ?_)
    rotate_left
    ·
      refine k_exit rfl ?_
      refine k_seq ?_
      refine k_region ?_
      refine m_sl rfl rfl ?_
      refine o_bsl (E := 22) (cs := #[.slice a2 l.length c2]) rfl (fun _ => by kernel_rfl) (fun g6 w6 hB6 hK6 hb6 hZ6 => ?_)
      refine o_call rfl rfl (of_one w6 a2 a2 c2 g6 (turn l wv p.toNat k) (by rw [turn_len]; exact hB6) (hS5.new hK6).rd (by rw [turn_len]; omega)) (fun v w7 hv => ?_)
      obtain ⟨rfl, hK7⟩ := hv
      have hk7 := (hk5.tr hK6).tr hK7
      refine m_sl rfl rfl ?_
      refine o_bsl (E := 22) (cs := #[.slice a l.length c]) rfl (fun _ => by kernel_rfl) (fun g8 w8 hB8 hK8 hb8 hZ8 => ?_)
      refine o_call rfl rfl (of_one w8 a a c g8 l hB8 (hR.new (hk7.tr hK8)) (by omega)) (fun v w9 hv => ?_)
      obtain ⟨rfl, hK9⟩ := hv
      refine b_eql rfl rfl ?_
      refine m_bool rfl rfl ?_
      refine b_eqlb Try.underlying4 rfl rfl ?_
      refine m_bool rfl rfl ?_
      refine o_nil ?_
      refine k_ret (ret_tmps (ts := [6]) (v := .bool _) rfl rfl ?_)
      exact ⟨congrArg Value.bool (decide_eq_true (turned l wv p.toNat k hw hk hpk)), (hk7.tr hK8).tr hK9⟩
    have hpl : p.toNat + k < l.length := by omega
    have hk4 : k < 4 := by omega
    have hwk : (wv.map u8v)[k]? = some (.int .u8 ((wv.getD k 0#8).toNat : Int)) := by simp [List.getElem?_eq_getElem (by omega : k < wv.length), u8v]
    have hlk : (turn l wv p.toNat k)[p.toNat + k]? = some (l.getD (p.toNat + k) 0#8) := by
     rcases hpk with rfl | hpk
     · rw [turn]
       simp only [Nat.add_zero] at hpl ⊢
       simp [hpl]
     · rw [turn_eq l wv p.toNat k (by omega) hpk, List.getElem?_append_right (by simp; omega), List.getElem?_append_right (by simp; omega)]
       have h1 : p.toNat + k - (l.take p.toNat).length - (wv.take k).length = 0 := by simp; omega
       rw [h1]
       simp [hpl]
    have hck : ((turn l wv p.toNat k).map u8v)[p.toNat + k]? = some (.int .u8 ((l.getD (p.toNat + k) 0#8).toNat : Int)) := by rw [List.getElem?_map, hlk]; rfl
    obtain ⟨g2, rfl⟩ : ∃ g2, a2 = some ⟨g2, 0, none⟩ := by
     rcases hS5.2 with ⟨_, h0, _⟩ | ⟨g2, _, h0, _⟩
     · omega
     · exact ⟨g2, h0⟩
    refine k_skip ?_
    refine k_seq ?_
    refine k_block ?_
    refine k_seq ?_
    refine k_qk 14 rfl rfl rfl rfl rfl ?_
    refine q_step (fun w1 hC => m_bool rfl rfl (o_nil ⟨rfl, hC⟩)) ?_
    refine q_step (fun w1 hC => m_bool rfl rfl (o_nil ⟨rfl, hC⟩)) ?_
    refine q_split (t := 29) rfl (fun h => ?_) (fun h => ?_)
    ·
      refine q_step (fun w1 hC => g_yes rfl rfl (m_int rfl rfl (o_nil ⟨rfl, hC⟩))) ?_
      refine q_step (fun w1 hC => g_yes rfl rfl (o_ixa1 Try.underlying35 rfl rfl rfl hk4 (o_nil ⟨rfl, hC⟩))) ?_
      refine q_step (fun w1 hC => g_yes rfl rfl (o_ld rfl rfl (by rw [Nat.zero_add, (hBw5.keep hC (by simp)).cell]; simpa using hwk) (o_nil ⟨rfl, hC⟩))) ?_
      refine q_step (fun w1 hC => g_yes rfl rfl (m_sl rfl rfl (o_nil ⟨rfl, hC⟩))) ?_
      refine q_step (fun w1 hC => g_yes rfl rfl (m_int rfl rfl (o_nil ⟨rfl, hC⟩))) ?_
      refine q_step (fun w1 hC => g_yes rfl rfl (cv16_i rfl Try.underlying3 rfl (o_nil ⟨rfl, hC⟩))) ?_
      refine q_step (fun w1 hC => g_yes rfl rfl (m_int rfl rfl (o_nil ⟨rfl, hC⟩))) ?_
      refine q_step (fun w1 hC => g_yes rfl rfl (n_add rfl rfl (by omega) (o_nil ⟨rfl, hC⟩))) ?_
      refine q_step (fun w1 hC => g_yes rfl rfl (o_ixs1 (m := p.toNat + k) Try.underlying22 rfl rfl rfl hpl (o_nil ⟨rfl, hC⟩))) ?_
      refine q_step (fun w1 hC => g_yes rfl rfl (o_ld rfl rfl (hS5.rd.cellK hC hck) (o_nil ⟨rfl, hC⟩))) ?_
      refine q_step (fun w1 hC => g_yes rfl rfl (v8_eql rfl rfl (o_nil ⟨rfl, hC⟩))) ?_
      refine q_step (fun w1 hC => pick_t rfl rfl (o_nil ⟨rfl, hC⟩)) ?_
      refine q_nil ?_
      intro w6 hC6
      have hS6 := hS5.new hC6
      have hBw6 := hBw5.keep hC6 (by simp)
      refine m_bool rfl rfl ?_
      refine o_nil ?_
      refine k_region ?_
      refine m_sl rfl rfl ?_
      refine m_int rfl rfl ?_
      refine cv16_i rfl Try.underlying3 rfl ?_
      refine m_int rfl rfl ?_
      refine n_add rfl rfl (by omega) ?_
      refine m_int rfl rfl ?_
      refine o_ixa1 Try.underlying35 rfl rfl rfl hk4 ?_
      refine o_ld rfl rfl (by rw [Nat.zero_add, hBw6.cell]; simpa using hwk) ?_
      refine o_ixs1 (m := p.toNat + k) Try.underlying22 rfl rfl rfl hpl ?_
      obtain ⟨cur, hcB, hcz⟩ : ∃ cur, Blk w6 g2 cur 5 ∧ l.length ≤ cur.size := by
       rcases hS6.2 with ⟨h0, _⟩ | ⟨g3, cur, h0, hb, hle, _, hs, _⟩
       · cases h0
       · cases h0; exact ⟨cur, hb, by omega⟩
      refine o_st (v := .int _ _) rfl rfl rfl rfl hcB (by omega) (fun w7 hB7 hK7 hZ7 => ?_)
      rw [Nat.zero_add] at hB7
      have hS7 := slc_set (v := u8v (wv.getD k 0#8)) hS6 hcB hB7
      rw [← List.map_set] at hS7
      have hk7 : Keep [] w w7 := (hk5.tr hC6).tr1 hK7 (by have := hfr _ rfl; have := hk2.size; simp at *; omega)
      refine o_nil ?_
      refine k_blk ?_
      refine k_region ?_
      refine m_int rfl rfl ?_
      refine n_add rfl rfl (by omega) ?_
      refine m_int rfl rfl ?_
      refine o_nil ?_
      refine k_goal ⟨k + 1, ⟨rfl, rfl, rfl, rfl, ?_, rfl, trivial⟩, ⟨by omega, .inr (by omega), hk7, hS7, hBw6.keep hK7 (by have := hfr _ rfl; have := hB1.lt; have := hK2.size; simp at *; omega)⟩, by omega⟩
      have h : sm l wv p.toNat k = true := by assumption
      show Value.bool (decide (wv.getD k 0#8 = l.getD (p.toNat + k) 0#8)) = _
      rw [sm, h, Bool.true_and]
      congr 1
      rw [decide_eq_decide, decide_eq_true_eq]
    ·
      refine q_step (v := undef) (fun w1 hC => g_no rfl rfl rfl (o_nil ⟨rfl, hC⟩)) ?_
      refine q_step (v := undef) (fun w1 hC => g_no rfl rfl rfl (o_nil ⟨rfl, hC⟩)) ?_
      refine q_step (v := undef) (fun w1 hC => g_no rfl rfl rfl (o_nil ⟨rfl, hC⟩)) ?_
      refine q_step (v := undef) (fun w1 hC => g_no rfl rfl rfl (o_nil ⟨rfl, hC⟩)) ?_
      refine q_step (v := undef) (fun w1 hC => g_no rfl rfl rfl (o_nil ⟨rfl, hC⟩)) ?_
      refine q_step (v := undef) (fun w1 hC => g_no rfl rfl rfl (o_nil ⟨rfl, hC⟩)) ?_
      refine q_step (v := undef) (fun w1 hC => g_no rfl rfl rfl (o_nil ⟨rfl, hC⟩)) ?_
      refine q_step (v := undef) (fun w1 hC => g_no rfl rfl rfl (o_nil ⟨rfl, hC⟩)) ?_
      refine q_step (v := undef) (fun w1 hC => g_no rfl rfl rfl (o_nil ⟨rfl, hC⟩)) ?_
      refine q_step (v := undef) (fun w1 hC => g_no rfl rfl rfl (o_nil ⟨rfl, hC⟩)) ?_
      refine q_step (v := undef) (fun w1 hC => g_no rfl rfl rfl (o_nil ⟨rfl, hC⟩)) ?_
      refine q_step (fun w1 hC => pick_f rfl rfl (o_nil ⟨rfl, hC⟩)) ?_
      refine q_nil ?_
      intro w6 hC6
      have hS6 := hS5.new hC6
      have hBw6 := hBw5.keep hC6 (by simp)
      refine m_bool rfl rfl ?_
      refine o_nil ?_
      refine k_region ?_
      refine m_sl rfl rfl ?_
      refine m_int rfl rfl ?_
      refine cv16_i rfl Try.underlying3 rfl ?_
      refine m_int rfl rfl ?_
      refine n_add rfl rfl (by omega) ?_
      refine m_int rfl rfl ?_
      refine o_ixa1 Try.underlying35 rfl rfl rfl hk4 ?_
      refine o_ld rfl rfl (by rw [Nat.zero_add, hBw6.cell]; simpa using hwk) ?_
      refine o_ixs1 (m := p.toNat + k) Try.underlying22 rfl rfl rfl hpl ?_
      obtain ⟨cur, hcB, hcz⟩ : ∃ cur, Blk w6 g2 cur 5 ∧ l.length ≤ cur.size := by
       rcases hS6.2 with ⟨h0, _⟩ | ⟨g3, cur, h0, hb, hle, _, hs, _⟩
       · cases h0
       · cases h0; exact ⟨cur, hb, by omega⟩
      refine o_st (v := .int _ _) rfl rfl rfl rfl hcB (by omega) (fun w7 hB7 hK7 hZ7 => ?_)
      rw [Nat.zero_add] at hB7
      have hS7 := slc_set (v := u8v (wv.getD k 0#8)) hS6 hcB hB7
      rw [← List.map_set] at hS7
      have hk7 : Keep [] w w7 := (hk5.tr hC6).tr1 hK7 (by have := hfr _ rfl; have := hk2.size; simp at *; omega)
      refine o_nil ?_
      refine k_blk ?_
      refine k_region ?_
      refine m_int rfl rfl ?_
      refine n_add rfl rfl (by omega) ?_
      refine m_int rfl rfl ?_
      refine o_nil ?_
      refine k_goal ⟨k + 1, ⟨rfl, rfl, rfl, rfl, ?_, rfl, trivial⟩, ⟨by omega, .inr (by omega), hk7, hS7, hBw6.keep hK7 (by have := hfr _ rfl; have := hB1.lt; have := hK2.size; simp at *; omega)⟩, by omega⟩
      have h : ¬ sm l wv p.toNat k = true := by assumption
      show Value.bool false = _
      rw [sm]
      simp [h]
  ·
    refine g_no rfl rfl rfl ?_
    refine g_no rfl rfl rfl ?_
    refine g_no rfl rfl rfl ?_
    refine g_no rfl rfl rfl ?_
    refine g_no rfl rfl rfl ?_
    refine g_no rfl rfl rfl ?_
    refine g_no rfl rfl rfl ?_
    refine pick_f rfl rfl ?_
    refine o_nil ?_
    refine k_condf rfl ?_
    refine k_exit rfl ?_
    refine k_seq ?_
    refine k_region ?_
    refine m_sl rfl rfl ?_
    refine o_bsl (E := 22) (cs := #[.slice a2 l.length c2]) rfl (fun _ => by kernel_rfl) (fun g6 w6 hB6 hK6 hb6 hZ6 => ?_)
    refine o_call rfl rfl (of_one w6 a2 a2 c2 g6 (turn l wv p.toNat k) (by rw [turn_len]; exact hB6) (hS5.new hK6).rd (by rw [turn_len]; omega)) (fun v w7 hv => ?_)
    obtain ⟨rfl, hK7⟩ := hv
    have hk7 := (hk5.tr hK6).tr hK7
    refine m_sl rfl rfl ?_
    refine o_bsl (E := 22) (cs := #[.slice a l.length c]) rfl (fun _ => by kernel_rfl) (fun g8 w8 hB8 hK8 hb8 hZ8 => ?_)
    refine o_call rfl rfl (of_one w8 a a c g8 l hB8 (hR.new (hk7.tr hK8)) (by omega)) (fun v w9 hv => ?_)
    obtain ⟨rfl, hK9⟩ := hv
    refine b_eql rfl rfl ?_
    refine m_bool rfl rfl ?_
    refine b_eqlb Try.underlying4 rfl rfl ?_
    refine m_bool rfl rfl ?_
    refine o_nil ?_
    refine k_ret (ret_tmps (ts := [6]) (v := .bool _) rfl rfl ?_)
    exact ⟨congrArg Value.bool (decide_eq_true (turned l wv p.toNat k hw hk hpk)), (hk7.tr hK8).tr hK9⟩
end Go.Proofs.Ytmilnijpnlhcoaa
