/- The walks of both Refs. No condition beyond what each contract names. -/
import Derived.Test.YtchbidckckmobaaDoorAc
namespace Go.Proofs.YtchbidckckmobaaDoor
open Go.RowKit E
set_option linter.unusedVariables false
set_option linter.unusedSimpArgs false
set_option maxRecDepth 100000
attribute [local irreducible] ow qw kw kq cw opW Ret
theorem inf3 : infB Tryd.prog 3 1 8 (.int .i64 0) := by
  refine ⟨_, rfl, rfl, rfl, rfl⟩
/-- a new slice of ints -/
def SlNew (w w' : World) (v : Value) (xs : List Int) : Prop := ∃ a2 c2, v = .slice a2 xs.length c2 ∧ Sl w' 3 1 a2 xs.length c2 (xs.map iv) ∧ Keep [] w w' ∧ ∀ q, a2 = some q → w.heap.size ≤ q.block
theorem SlNew.nil {w w' : World} {xs : List Int} (h : xs = []) (hk : Keep [] w w') : SlNew w w' (.slice none 0 0) xs := by
  subst h
  exact ⟨none, 0, rfl, Sl.nil _ _ _, hk, by simp⟩
/-- the first places of a block's references -/
def refB (kind mask : Int) (i : Nat) : Bool := decide (kind = 3 ∨ (kind = 1 ∧ mask / 2 ^ i % 2 = 1))
def refU (kind mask p : Int) : Nat → List Int
  | 0 => []
  | i + 1 => refU kind mask p i ++ (if refB kind mask i then [p + 1 + (i : Int)] else [])
theorem refU_le (kind mask p : Int) (i : Nat) : (refU kind mask p i).length ≤ i := by
  induction i with
  | zero => simp [refU]
  | succ i ih => unfold refU; rw [List.length_append]; split <;> simp <;> omega
theorem refU_two (kind mask p : Int) (h : kind ≠ 3 ∧ kind ≠ 1) (i : Nat) : refU kind mask p i = [] := by
  induction i with
  | zero => rfl
  | succ i ih =>
    unfold refU
    have : refB kind mask i = false := decide_eq_false (by omega)
    rw [ih, this]; rfl
def refsO (o : Int × Int × Int × Int × Int) (len p : Int) : List Int := if o.2.2.2.2 = 0 ∧ o.2.2.1 ≤ len - p - 1 then refU o.1 o.2.2.2.1 p o.2.2.1.toNat else []
def refsW (ws : List Int) (p : Int) : List Int := if 0 ≤ p ∧ p < ws.length then refsO (openW (ws.getD p.toNat 0)) ws.length p else []
theorem refsW_out (ws : List Int) (p : Int) (h : ¬ (0 ≤ p ∧ p < ws.length)) : refsW ws p = [] := if_neg h
theorem refsW_at (ws : List Int) (k : Nat) (h : k < ws.length) : refsW ws (k : Int) = refsO (openW ws[k]) ws.length (k : Int) := by
  unfold refsW
  rw [if_pos (by omega), Int.toNat_natCast, List.getD_eq_getElem?_getD, List.getElem?_eq_getElem h]; rfl
structure OpenF (o : Int × Int × Int × Int × Int) : Prop where
  k1 : 1 ≤ o.1
  k3 : o.1 ≤ 3
  n0 : 0 ≤ o.2.2.1
  n1 : o.2.2.1 ≤ 65536
  m0 : 0 ≤ o.2.2.2.1
  m1 : o.2.2.2.1 ≤ 4294967296
  z : o.1 ≠ 1 → o.2.2.2.1 = 0
  f : o.1 = 1 → o.2.2.1 ≤ 32
theorem open_f (x : Int) (h : (openW x).2.2.2.2 = 0) : OpenF (openW x) := by
  unfold openW at h ⊢
  split at h
  · rename_i hh
    rw [if_pos hh]
    unfold headW at hh
    split at hh
    · rename_i hk
      obtain ⟨h1, h2, h3, h4, h5, h6, h7, h8⟩ := hk
      have hm : 0 ≤ pm x ∧ pm x < 4294967296 := by
        by_cases hk : pk x = 1
        · have := h8 hk
          have hp := ipow32 (pn x).toNat (by omega)
          omega
        · have := h7 hk; omega
      exact ⟨h1, h2, h5, h6, hm.1, Int.le_of_lt hm.2, h7, fun hk => (h8 hk).1⟩
    · simp at hh
  · simp at h
theorem maskbit (mask : Int) (i : Nat) (hi : i < 64) :
    IntKind.i64.wrap ((BitVec.ofInt IntKind.i64.bits (mask.fdiv (2 ^ min (BitVec.ofInt 64 (i : Int)).toNat IntKind.i64.bits)) &&& BitVec.ofInt IntKind.i64.bits 1).toNat : Int) = mask / 2 ^ i % 2 := by
  rw [ofN i (by omega), show min i IntKind.i64.bits = i from Nat.min_eq_left (by simp [IntKind.bits]; omega), Int.fdiv_eq_ediv_of_nonneg _ (Int.le_of_lt (Int.pow_pos (by decide)))]
  generalize mask / 2 ^ i = y
  have e : (BitVec.ofInt 64 y &&& BitVec.ofInt 64 1).toNat = (y % 2).toNat := by
    rw [BitVec.toNat_and, ofZ, show (BitVec.ofInt 64 1).toNat = 2 ^ 1 - 1 by decide, Nat.and_two_pow_sub_one_eq_mod]; omega
  show IntKind.i64.wrap ((BitVec.ofInt 64 y &&& BitVec.ofInt 64 1).toNat : Int) = _
  rw [e, IntWalk.i64_in _ (by omega)]; omega

theorem refs_ok (w : World) (a : Option Addr) (n c : Nat) (ws : List Int) (p : Int) (hW : Rd w a (ws.map iv)) (hn : ws.length = n) (hl : n ≤ 1000000000000000) :
    Ret Tryd.prog 25 [.slice a n c, .int .i64 p] w (fun v w' => SlNew w w' v (refsW ws p)) := by
  refine fn_enter (n := 68) Tryd.func25 rfl rfl (Nat.le_of_ble_eq_true rfl) (fun e => ?_)
  refine k_seq ?_
  refine k_region ?_
  refine m_sl rfl rfl ?_
  refine o_nil ?_
  refine k_seq ?_
  refine k_seq ?_
  refine k_region ?_
  refine m_int rfl rfl ?_
  refine b_lss rfl rfl ?_
  refine m_bool rfl rfl ?_
  refine o_split (t := 14) rfl (fun h => ?_) (fun h => ?_)
  ·
    refine g_no rfl rfl rfl ?_
    refine g_no rfl rfl rfl ?_
    refine g_no rfl rfl rfl ?_
    refine g_no rfl rfl rfl ?_
    refine pick_t rfl rfl ?_
    refine o_nil ?_
    refine k_condt rfl ?_
    refine k_seq ?_
    refine k_region ?_
    refine m_sl rfl rfl ?_
    refine o_nil ?_
    refine k_ret (ret_tmps (ts := [4]) (v := .slice _ _ _) rfl rfl ?_)
    exact SlNew.nil (refsW_out _ _ (by omega)) (Keep.refl _ _)
  ·
    refine g_yes rfl rfl ?_
    refine m_int rfl rfl ?_
    refine g_yes rfl rfl ?_
    refine m_sl rfl rfl ?_
    refine g_yes rfl rfl ?_
    refine o_lens Tryd.underlying22 rfl ?_
    refine g_yes rfl rfl ?_
    refine b_geq rfl rfl ?_
    refine pick_f rfl rfl ?_
    refine o_nil ?_
    refine k_cond rfl (fun h => ?_) (fun h => ?_)
    ·
      refine k_seq ?_
      refine k_region ?_
      refine m_sl rfl rfl ?_
      refine o_nil ?_
      refine k_ret (ret_tmps (ts := [4]) (v := .slice _ _ _) rfl rfl ?_)
      exact SlNew.nil (refsW_out _ _ (by omega)) (Keep.refl _ _)
    obtain ⟨k, rfl⟩ : ∃ k : Nat, p = k := ⟨p.toNat, by omega⟩
    have hk : k < n := by omega
    have hr := refsW_at ws k (by omega)
    rw [hr]
    clear hr
    obtain ⟨b1, o1, rfl, _⟩ := hW.at k (by simpa using (by omega : k < ws.length))
    refine k_skip ?_
    refine k_seq ?_
    refine k_region ?_
    refine m_sl rfl rfl ?_
    refine m_int rfl rfl ?_
    refine o_ixs1 Tryd.underlying22 rfl rfl rfl hk ?_
    refine o_ld rfl rfl (hW.cellK (Keep.refl _ _) (iv_at ws k (by omega))) ?_
    refine o_call rfl rfl (open_ok w _) (fun v w1 hv => ?_)
    obtain ⟨rfl, rfl⟩ := hv
    have hF := open_f (ws[k]'(by omega))
    generalize openW (ws[k]'(by omega)) = o at hF ⊢
    obtain ⟨kind, cl, N, mask, er⟩ := o
    simp only at hF ⊢
    refine m_any rfl rfl ?_
    refine o_extr rfl rfl ?_
    refine o_extr rfl rfl ?_
    refine o_extr rfl rfl ?_
    refine o_extr rfl rfl ?_
    refine o_extr rfl rfl ?_
    refine m_int rfl rfl ?_
    refine m_int rfl rfl ?_
    refine m_int rfl rfl ?_
    refine m_int rfl rfl ?_
    refine m_int rfl rfl ?_
    refine o_nil ?_
    refine k_seq ?_
    refine k_seq ?_
    refine k_region ?_
    refine m_int rfl rfl ?_
    refine b_neq rfl rfl ?_
    refine m_bool rfl rfl ?_
    refine o_split (t := 33) rfl (fun h => ?_) (fun h => ?_)
    ·
      refine g_no rfl rfl rfl ?_
      refine g_no rfl rfl rfl ?_
      refine g_no rfl rfl rfl ?_
      refine g_no rfl rfl rfl ?_
      refine g_no rfl rfl rfl ?_
      refine g_no rfl rfl rfl ?_
      refine pick_t rfl rfl ?_
      refine m_bool rfl rfl ?_
      refine g_no rfl rfl rfl ?_
      refine g_no rfl rfl rfl ?_
      refine pick_t rfl rfl ?_
      refine o_nil ?_
      refine k_condt rfl ?_
      refine k_seq ?_
      refine k_region ?_
      refine m_sl rfl rfl ?_
      refine o_nil ?_
      refine k_ret (ret_tmps (ts := [4]) (v := .slice _ _ _) rfl rfl ?_)
      exact SlNew.nil (if_neg (fun H => h H.1)) (Keep.refl _ _)
    ·
      have hz : er = 0 := Decidable.of_not_not h
      obtain ⟨hk1, hk3, hn0, hn1, hm0, hm1, hzz, hff⟩ := hF hz
      simp only at hk1 hk3 hn0 hn1 hm0 hm1 hzz hff
      refine g_yes rfl rfl ?_
      refine m_int rfl rfl ?_
      refine g_yes rfl rfl ?_
      refine m_sl rfl rfl ?_
      refine g_yes rfl rfl ?_
      refine o_lens Tryd.underlying22 rfl ?_
      refine g_yes rfl rfl ?_
      refine m_int rfl rfl ?_
      refine g_yes rfl rfl ?_
      refine n_sub rfl rfl (by omega) ?_
      refine g_yes rfl rfl ?_
      refine b_geq rfl rfl ?_
      refine pick_f rfl rfl ?_
      refine m_bool rfl rfl ?_
      refine o_split (t := 41) rfl (fun h => ?_) (fun h => ?_)
      ·
        refine g_no rfl rfl rfl ?_
        refine g_no rfl rfl rfl ?_
        refine pick_t rfl rfl ?_
        refine o_nil ?_
        refine k_condt rfl ?_
        refine k_seq ?_
        refine k_region ?_
        refine m_sl rfl rfl ?_
        refine o_nil ?_
        refine k_ret (ret_tmps (ts := [4]) (v := .slice _ _ _) rfl rfl ?_)
        exact SlNew.nil (if_neg (fun H => by have := H.2; simp only at this; omega)) (Keep.refl _ _)
      ·
        refine g_yes rfl rfl ?_
        refine m_int rfl rfl ?_
        refine g_yes rfl rfl ?_
        refine b_eql rfl rfl ?_
        refine pick_f rfl rfl ?_
        refine o_nil ?_
        refine k_cond rfl (fun h => ?_) (fun h => ?_)
        ·
          refine k_seq ?_
          refine k_region ?_
          refine m_sl rfl rfl ?_
          refine o_nil ?_
          refine k_ret (ret_tmps (ts := [4]) (v := .slice _ _ _) rfl rfl ?_)
          refine SlNew.nil ?_ (Keep.refl _ _)
          unfold refsO
          split
          · exact refU_two _ _ _ (by simp only; omega) _
          · rfl
        refine k_skip ?_
        refine k_seq ?_
        refine k_region ?_
        refine m_sl rfl rfl ?_
        refine o_nil ?_
        refine k_seq ?_
        refine k_seq ?_
        refine k_region ?_
        refine m_int rfl rfl ?_
        refine m_int rfl rfl ?_
        refine o_nil ?_
        refine k_block ?_
        have hro : refsO (kind, cl, N, mask, er) (ws.length : Int) (k : Int) = refU kind mask (k : Int) N.toNat := if_pos ⟨hz, by simp only; omega⟩
        rw [hro]
        clear hro
        refine k_loop (σ := Nat × Option Addr × Nat × Nat) (fun s => [(1, .int .i64 (k : Int)), (5, .int .i64 kind), (8, .int .i64 mask), (10, .slice s.2.1 s.2.2.1 s.2.2.2), (45, .int .i64 N), (46, .int .i64 (s.1 : Int))]) (fun s w' => (s.1 : Int) ≤ N ∧ s.2.2.1 = (refU kind mask (k : Int) s.1).length ∧ Sl w' 3 1 s.2.1 s.2.2.1 s.2.2.2 ((refU kind mask (k : Int) s.1).map iv) ∧ Keep [] w1 w' ∧ ∀ q, s.2.1 = some q → w1.heap.size ≤ q.block) (fun s => N.toNat - s.1) (0, none, 0, 0) ⟨rfl, rfl, rfl, rfl, rfl, rfl, trivial⟩ ⟨by simp only; omega, rfl, Sl.nil _ _ _, Keep.refl _ _, by simp⟩ (fun s e w3 hJ => ?_)
        obtain ⟨i, a2, m, c2⟩ := s
        obtain ⟨hi, hm, hS, hk3', hfr⟩ := hJ
        simp only at hi hm hS hfr ⊢
        have hle := refU_le kind mask (k : Int) i
        refine k_seq ?_
        refine k_region ?_
        refine b_lss rfl rfl ?_
        refine o_nil ?_
        refine k_seq ?_
        refine k_cond rfl (fun h => ?_) (fun h => ?_)
        rotate_left
        ·
          refine k_exit rfl ?_
          refine k_seq ?_
          refine k_region ?_
          refine m_sl rfl rfl ?_
          refine m_sl rfl rfl ?_
          refine o_nil ?_
          refine k_ret (ret_tmps (ts := [4]) (v := .slice _ _ _) rfl rfl ?_)
          have hiN : N.toNat = i := by omega
          rw [hiN]
          subst hm
          exact ⟨a2, c2, rfl, hS, hk3', hfr⟩
        refine k_skip ?_
        refine k_seq ?_
        refine k_block ?_
        refine k_seq ?_
        refine k_region ?_
        refine m_int rfl rfl ?_
        refine m_int rfl rfl ?_
        refine o_nil ?_
        refine k_seq ?_
        refine k_region ?_
        refine m_int rfl rfl ?_
        refine b_eql rfl rfl ?_
        refine m_bool rfl rfl ?_
        refine o_split (t := 51) rfl (fun h => ?_) (fun h => ?_)
        ·
          refine g_no rfl rfl rfl ?_
          refine g_no rfl rfl rfl ?_
          refine g_no rfl rfl rfl ?_
          refine g_no rfl rfl rfl ?_
          refine g_no rfl rfl rfl ?_
          refine g_no rfl rfl rfl ?_
          refine pick_t rfl rfl ?_
          refine o_nil ?_
          refine k_condt rfl ?_
          refine k_region ?_
          refine m_sl rfl rfl ?_
          refine m_int rfl rfl ?_
          refine n_add rfl rfl (by omega) ?_
          refine m_int rfl rfl ?_
          refine n_add rfl rfl (by omega) ?_
          refine o_bsl (E := 3) (cs := #[.int .i64 ((k : Int) + 1 + i)]) rfl (fun _ => by kernel_rfl) (fun g w4 hB4 hK4 hb4 hZ4 => ?_)
          refine o_app Tryd.underlying23 inf3 rfl (by decide) rfl rfl (hS.new hK4) hB4.rd rfl (by intro u hu; simp at hu; subst hu; rfl) (by simp [maxLen]; omega) (by omega) (fun a5 c5 w5 hS5 hK5 hv5 => ?_)
          refine m_sl rfl rfl ?_
          refine o_nil ?_
          refine k_blk ?_
          refine k_region ?_
          refine n_add rfl rfl (by omega) ?_
          refine m_int rfl rfl ?_
          refine o_nil ?_
          have hb : refB kind mask i = true := decide_eq_true (by omega)
          have hs : refU kind mask (k : Int) (i + 1) = refU kind mask (k : Int) i ++ [(k : Int) + 1 + i] := by show _ ++ _ = _; rw [hb]; rfl
          refine k_goal ⟨(i + 1, a5, m + 1, c5), ⟨rfl, rfl, rfl, rfl, rfl, rfl, trivial⟩, ⟨by simp only; omega, ?_, ?_, Keep.trb (hk3'.tr hK4) hK5 hfr, ?_⟩, by simp only; omega⟩
          · rw [hs, List.length_append, ← hm]; rfl
          · rw [hs, List.map_append]; exact hS5
          · intro q hq
            have hsz := (hk3'.tr hK4).size
            rcases hv5 with ⟨h1, _⟩ | ⟨g5, h1, h2, _⟩
            · exact hfr q (h1.symm.trans hq)
            · have : q = ⟨g5, 0, none⟩ := by rw [h1] at hq; simpa using hq.symm
              rw [this]; simp only; omega
        ·
          refine g_yes rfl rfl ?_
          refine m_int rfl rfl ?_
          refine g_yes rfl rfl ?_
          refine m_int rfl rfl ?_
          refine g_yes rfl rfl ?_
          refine cv64 rfl Tryd.underlying49 rfl ?_
          refine g_yes rfl rfl ?_
          refine b_shrn rfl rfl ?_
          refine g_yes rfl rfl ?_
          refine b_and rfl rfl ?_
          rw [maskbit mask i (by omega)]
          refine g_yes rfl rfl ?_
          refine b_eql rfl rfl ?_
          refine pick_f rfl rfl ?_
          refine o_nil ?_
          refine k_cond rfl (fun h => ?_) (fun h => ?_)
          ·
            refine k_region ?_
            refine m_sl rfl rfl ?_
            refine m_int rfl rfl ?_
            refine n_add rfl rfl (by omega) ?_
            refine m_int rfl rfl ?_
            refine n_add rfl rfl (by omega) ?_
            refine o_bsl (E := 3) (cs := #[.int .i64 ((k : Int) + 1 + i)]) rfl (fun _ => by kernel_rfl) (fun g w4 hB4 hK4 hb4 hZ4 => ?_)
            refine o_app Tryd.underlying23 inf3 rfl (by decide) rfl rfl (hS.new hK4) hB4.rd rfl (by intro u hu; simp at hu; subst hu; rfl) (by simp [maxLen]; omega) (by omega) (fun a5 c5 w5 hS5 hK5 hv5 => ?_)
            refine m_sl rfl rfl ?_
            refine o_nil ?_
            refine k_blk ?_
            refine k_region ?_
            refine n_add rfl rfl (by omega) ?_
            refine m_int rfl rfl ?_
            refine o_nil ?_
            have hb : refB kind mask i = true := decide_eq_true (by omega)
            have hs : refU kind mask (k : Int) (i + 1) = refU kind mask (k : Int) i ++ [(k : Int) + 1 + i] := by show _ ++ _ = _; rw [hb]; rfl
            refine k_goal ⟨(i + 1, a5, m + 1, c5), ⟨rfl, rfl, rfl, rfl, rfl, rfl, trivial⟩, ⟨by simp only; omega, ?_, ?_, Keep.trb (hk3'.tr hK4) hK5 hfr, ?_⟩, by simp only; omega⟩
            · rw [hs, List.length_append, ← hm]; rfl
            · rw [hs, List.map_append]; exact hS5
            · intro q hq
              have hsz := (hk3'.tr hK4).size
              rcases hv5 with ⟨h1, _⟩ | ⟨g5, h1, h2, _⟩
              · exact hfr q (h1.symm.trans hq)
              · have : q = ⟨g5, 0, none⟩ := by rw [h1] at hq; simpa using hq.symm
                rw [this]; simp only; omega
          refine k_skip ?_
          refine k_blk ?_
          refine k_region ?_
          refine n_add rfl rfl (by omega) ?_
          refine m_int rfl rfl ?_
          refine o_nil ?_
          have hb : refB kind mask i = false := decide_eq_false (by omega)
          have hs : refU kind mask (k : Int) (i + 1) = refU kind mask (k : Int) i := by show _ ++ _ = _; rw [hb]; simp
          refine k_goal ⟨(i + 1, a2, m, c2), ⟨rfl, rfl, rfl, rfl, rfl, rfl, trivial⟩, ⟨by simp only; omega, ?_, ?_, hk3', hfr⟩, by simp only; omega⟩
          · rw [hs]; exact hm
          · rw [hs]; exact hS
end Go.Proofs.YtchbidckckmobaaDoor
