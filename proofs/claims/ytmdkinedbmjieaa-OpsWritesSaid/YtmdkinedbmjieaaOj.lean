/- Ops: the walk of same. No condition beyond what its contract names. -/
import Derived.Test.YtmdkinedbmjieaaOi
namespace Go.Proofs.Ytmdkinedbmjieaa
open Go.RowKit E
set_option linter.unusedVariables false
set_option linter.unusedSimpArgs false
set_option maxRecDepth 100000
attribute [local irreducible] ow qw kw kq cw opW Ret
def hdEq (x y : Ins) : Prop := x.p = y.p ∧ x.len = y.len ∧ x.op = y.op ∧ x.a = y.a ∧ x.b = y.b ∧ x.keys.length = y.keys.length ∧ x.jumps.length = y.jumps.length
instance (x y : Ins) : Decidable (hdEq x y) := by unfold hdEq; infer_instance
theorem ins_eq {x y : Ins} (h : hdEq x y) (h1 : ∀ j, j < x.keys.length → x.keys[j]? = y.keys[j]?) (h2 : ∀ j, j < x.jumps.length → x.jumps[j]? = y.jumps[j]?) : x = y := by
  obtain ⟨a1, a2, a3, a4, a5, a6, a7⟩ := h
  have hk : x.keys = y.keys := List.ext_getElem? fun j => by
    by_cases hj : j < x.keys.length
    · exact h1 j hj
    · rw [List.getElem?_eq_none (by omega), List.getElem?_eq_none (by omega)]
  have hj : x.jumps = y.jumps := List.ext_getElem? fun j => by
    by_cases hj : j < x.jumps.length
    · exact h2 j hj
    · rw [List.getElem?_eq_none (by omega), List.getElem?_eq_none (by omega)]
  cases x; cases y
  simp_all
theorem same_ok (w : World) (cx cy : List Value) (x y : Ins) (hx : insC (GR w) cx x) (hy : insC (GR w) cy y) :
    Ret Try.prog 21 [.agg cx.toArray, .agg cy.toArray] w (fun v w' => v = .bool (decide (x = y)) ∧ Keep [] w w') := by
  obtain ⟨kx, jx, rfl, ⟨akx, ckx, rfl, hRkx, hlkx⟩, ⟨ajx, cjx, rfl, hRjx, hljx⟩⟩ := hx
  obtain ⟨ky, jy, rfl, ⟨aky, cky, rfl, hRky, hlky⟩, ⟨ajy, cjy, rfl, hRjy, hljy⟩⟩ := hy
  have no : ¬ hdEq x y → decide (x = y) = false := fun h => decide_eq_false fun e => h (by subst e; exact ⟨rfl, rfl, rfl, rfl, rfl, rfl, rfl⟩)
  refine fn_enter (n := 94) Try.func21 rfl rfl (Nat.le_of_ble_eq_true rfl) (fun e => ?_)
  refine k_seq ?_
  refine k_region ?_
  refine o_box rfl rfl (fun b2 w1 hB1 hK1 hb1 hZ1 => ?_)
  refine o_box rfl rfl (fun b3 w2 hBy hK2 hb2 hZ2 => ?_)
  have hBx := hB1.keep hK2 (by simp)
  have hK02 := hK1.tr hK2
  refine m_bool rfl rfl ?_
  refine o_nil ?_
  refine k_seq ?_
  refine k_seq ?_
  refine k_cut (σ := Unit) (fun _ => [(2, .pointer (some ⟨b2, 0, none⟩)), (3, .pointer (some ⟨b3, 0, none⟩)), (57, .bool (decide (¬ hdEq x y)))]) (fun _ w' => w' = w2) ?_ (fun _ e w' hJ => ?_)
  ·
    refine k_region ?_
    refine o_fld0 rfl rfl ?_
    refine o_ld rfl rfl (by first | exact hBx.at rfl | exact hBy.at rfl) ?_ 
    refine o_fld0 rfl rfl ?_
    refine o_ld rfl rfl (by first | exact hBx.at rfl | exact hBy.at rfl) ?_ 
    refine b_neq rfl rfl ?_
    refine m_bool rfl rfl ?_
    refine o_split (t := 12) rfl (fun h => ?_) (fun h => ?_)
    ·
      refine g_no rfl rfl rfl ?_
      refine g_no rfl rfl rfl ?_
      refine g_no rfl rfl rfl ?_
      refine g_no rfl rfl rfl ?_
      refine g_no rfl rfl rfl ?_
      refine pick_t rfl rfl ?_
      refine m_bool rfl rfl ?_
      refine g_no rfl rfl rfl ?_
      refine g_no rfl rfl rfl ?_
      refine g_no rfl rfl rfl ?_
      refine g_no rfl rfl rfl ?_
      refine g_no rfl rfl rfl ?_
      refine pick_t rfl rfl ?_
      refine m_bool rfl rfl ?_
      refine g_no rfl rfl rfl ?_
      refine g_no rfl rfl rfl ?_
      refine g_no rfl rfl rfl ?_
      refine g_no rfl rfl rfl ?_
      refine g_no rfl rfl rfl ?_
      refine pick_t rfl rfl ?_
      refine m_bool rfl rfl ?_
      refine g_no rfl rfl rfl ?_
      refine g_no rfl rfl rfl ?_
      refine g_no rfl rfl rfl ?_
      refine g_no rfl rfl rfl ?_
      refine g_no rfl rfl rfl ?_
      refine pick_t rfl rfl ?_
      refine m_bool rfl rfl ?_
      refine g_no rfl rfl rfl ?_
      refine g_no rfl rfl rfl ?_
      refine g_no rfl rfl rfl ?_
      refine g_no rfl rfl rfl ?_
      refine g_no rfl rfl rfl ?_
      refine g_no rfl rfl rfl ?_
      refine g_no rfl rfl rfl ?_
      refine pick_t rfl rfl ?_
      refine m_bool rfl rfl ?_
      refine g_no rfl rfl rfl ?_
      refine g_no rfl rfl rfl ?_
      refine g_no rfl rfl rfl ?_
      refine g_no rfl rfl rfl ?_
      refine g_no rfl rfl rfl ?_
      refine g_no rfl rfl rfl ?_
      refine g_no rfl rfl rfl ?_
      refine pick_t rfl rfl ?_
      refine o_nil ?_
      refine k_goal ⟨(), ⟨rfl, rfl, congrArg Value.bool (decide_eq_true (show ¬ hdEq x y from fun hh => h hh.1)).symm, trivial⟩, rfl⟩
    ·
      have h12 := h
      refine g_yes rfl rfl ?_
      refine o_fld (off := 1) rfl rfl ?_
      refine g_yes rfl rfl ?_
      refine o_ld rfl rfl (by first | exact hBx.at rfl | exact hBy.at rfl) ?_ 
      refine g_yes rfl rfl ?_
      refine o_fld (off := 1) rfl rfl ?_
      refine g_yes rfl rfl ?_
      refine o_ld rfl rfl (by first | exact hBx.at rfl | exact hBy.at rfl) ?_ 
      refine g_yes rfl rfl ?_
      refine b_neq rfl rfl ?_
      refine pick_f rfl rfl ?_
      refine m_bool rfl rfl ?_
      refine o_split (t := 19) rfl (fun h => ?_) (fun h => ?_)
      ·
        refine g_no rfl rfl rfl ?_
        refine g_no rfl rfl rfl ?_
        refine g_no rfl rfl rfl ?_
        refine g_no rfl rfl rfl ?_
        refine g_no rfl rfl rfl ?_
        refine pick_t rfl rfl ?_
        refine m_bool rfl rfl ?_
        refine g_no rfl rfl rfl ?_
        refine g_no rfl rfl rfl ?_
        refine g_no rfl rfl rfl ?_
        refine g_no rfl rfl rfl ?_
        refine g_no rfl rfl rfl ?_
        refine pick_t rfl rfl ?_
        refine m_bool rfl rfl ?_
        refine g_no rfl rfl rfl ?_
        refine g_no rfl rfl rfl ?_
        refine g_no rfl rfl rfl ?_
        refine g_no rfl rfl rfl ?_
        refine g_no rfl rfl rfl ?_
        refine pick_t rfl rfl ?_
        refine m_bool rfl rfl ?_
        refine g_no rfl rfl rfl ?_
        refine g_no rfl rfl rfl ?_
        refine g_no rfl rfl rfl ?_
        refine g_no rfl rfl rfl ?_
        refine g_no rfl rfl rfl ?_
        refine g_no rfl rfl rfl ?_
        refine g_no rfl rfl rfl ?_
        refine pick_t rfl rfl ?_
        refine m_bool rfl rfl ?_
        refine g_no rfl rfl rfl ?_
        refine g_no rfl rfl rfl ?_
        refine g_no rfl rfl rfl ?_
        refine g_no rfl rfl rfl ?_
        refine g_no rfl rfl rfl ?_
        refine g_no rfl rfl rfl ?_
        refine g_no rfl rfl rfl ?_
        refine pick_t rfl rfl ?_
        refine o_nil ?_
        refine k_goal ⟨(), ⟨rfl, rfl, congrArg Value.bool (decide_eq_true (show ¬ hdEq x y from fun hh => h hh.2.1)).symm, trivial⟩, rfl⟩
      ·
        have h19 := h
        refine g_yes rfl rfl ?_
        refine o_fld (off := 2) rfl rfl ?_
        refine g_yes rfl rfl ?_
        refine o_ld rfl rfl (by first | exact hBx.at rfl | exact hBy.at rfl) ?_ 
        refine g_yes rfl rfl ?_
        refine o_fld (off := 2) rfl rfl ?_
        refine g_yes rfl rfl ?_
        refine o_ld rfl rfl (by first | exact hBx.at rfl | exact hBy.at rfl) ?_ 
        refine g_yes rfl rfl ?_
        refine b_neq rfl rfl ?_
        refine pick_f rfl rfl ?_
        refine m_bool rfl rfl ?_
        refine o_split (t := 26) rfl (fun h => ?_) (fun h => ?_)
        ·
          refine g_no rfl rfl rfl ?_
          refine g_no rfl rfl rfl ?_
          refine g_no rfl rfl rfl ?_
          refine g_no rfl rfl rfl ?_
          refine g_no rfl rfl rfl ?_
          refine pick_t rfl rfl ?_
          refine m_bool rfl rfl ?_
          refine g_no rfl rfl rfl ?_
          refine g_no rfl rfl rfl ?_
          refine g_no rfl rfl rfl ?_
          refine g_no rfl rfl rfl ?_
          refine g_no rfl rfl rfl ?_
          refine pick_t rfl rfl ?_
          refine m_bool rfl rfl ?_
          refine g_no rfl rfl rfl ?_
          refine g_no rfl rfl rfl ?_
          refine g_no rfl rfl rfl ?_
          refine g_no rfl rfl rfl ?_
          refine g_no rfl rfl rfl ?_
          refine g_no rfl rfl rfl ?_
          refine g_no rfl rfl rfl ?_
          refine pick_t rfl rfl ?_
          refine m_bool rfl rfl ?_
          refine g_no rfl rfl rfl ?_
          refine g_no rfl rfl rfl ?_
          refine g_no rfl rfl rfl ?_
          refine g_no rfl rfl rfl ?_
          refine g_no rfl rfl rfl ?_
          refine g_no rfl rfl rfl ?_
          refine g_no rfl rfl rfl ?_
          refine pick_t rfl rfl ?_
          refine o_nil ?_
          refine k_goal ⟨(), ⟨rfl, rfl, congrArg Value.bool (decide_eq_true (show ¬ hdEq x y from fun hh => h hh.2.2.1)).symm, trivial⟩, rfl⟩
        ·
          have h26 := h
          refine g_yes rfl rfl ?_
          refine o_fld (off := 3) rfl rfl ?_
          refine g_yes rfl rfl ?_
          refine o_ld rfl rfl (by first | exact hBx.at rfl | exact hBy.at rfl) ?_ 
          refine g_yes rfl rfl ?_
          refine o_fld (off := 3) rfl rfl ?_
          refine g_yes rfl rfl ?_
          refine o_ld rfl rfl (by first | exact hBx.at rfl | exact hBy.at rfl) ?_ 
          refine g_yes rfl rfl ?_
          refine b_neq rfl rfl ?_
          refine pick_f rfl rfl ?_
          refine m_bool rfl rfl ?_
          refine o_split (t := 33) rfl (fun h => ?_) (fun h => ?_)
          ·
            refine g_no rfl rfl rfl ?_
            refine g_no rfl rfl rfl ?_
            refine g_no rfl rfl rfl ?_
            refine g_no rfl rfl rfl ?_
            refine g_no rfl rfl rfl ?_
            refine pick_t rfl rfl ?_
            refine m_bool rfl rfl ?_
            refine g_no rfl rfl rfl ?_
            refine g_no rfl rfl rfl ?_
            refine g_no rfl rfl rfl ?_
            refine g_no rfl rfl rfl ?_
            refine g_no rfl rfl rfl ?_
            refine g_no rfl rfl rfl ?_
            refine g_no rfl rfl rfl ?_
            refine pick_t rfl rfl ?_
            refine m_bool rfl rfl ?_
            refine g_no rfl rfl rfl ?_
            refine g_no rfl rfl rfl ?_
            refine g_no rfl rfl rfl ?_
            refine g_no rfl rfl rfl ?_
            refine g_no rfl rfl rfl ?_
            refine g_no rfl rfl rfl ?_
            refine g_no rfl rfl rfl ?_
            refine pick_t rfl rfl ?_
            refine o_nil ?_
            refine k_goal ⟨(), ⟨rfl, rfl, congrArg Value.bool (decide_eq_true (show ¬ hdEq x y from fun hh => h hh.2.2.2.1)).symm, trivial⟩, rfl⟩
          ·
            have h33 := h
            refine g_yes rfl rfl ?_
            refine o_fld (off := 4) rfl rfl ?_
            refine g_yes rfl rfl ?_
            refine o_ld rfl rfl (by first | exact hBx.at rfl | exact hBy.at rfl) ?_ 
            refine g_yes rfl rfl ?_
            refine o_fld (off := 4) rfl rfl ?_
            refine g_yes rfl rfl ?_
            refine o_ld rfl rfl (by first | exact hBx.at rfl | exact hBy.at rfl) ?_ 
            refine g_yes rfl rfl ?_
            refine b_neq rfl rfl ?_
            refine pick_f rfl rfl ?_
            refine m_bool rfl rfl ?_
            refine o_split (t := 40) rfl (fun h => ?_) (fun h => ?_)
            ·
              refine g_no rfl rfl rfl ?_
              refine g_no rfl rfl rfl ?_
              refine g_no rfl rfl rfl ?_
              refine g_no rfl rfl rfl ?_
              refine g_no rfl rfl rfl ?_
              refine g_no rfl rfl rfl ?_
              refine g_no rfl rfl rfl ?_
              refine pick_t rfl rfl ?_
              refine m_bool rfl rfl ?_
              refine g_no rfl rfl rfl ?_
              refine g_no rfl rfl rfl ?_
              refine g_no rfl rfl rfl ?_
              refine g_no rfl rfl rfl ?_
              refine g_no rfl rfl rfl ?_
              refine g_no rfl rfl rfl ?_
              refine g_no rfl rfl rfl ?_
              refine pick_t rfl rfl ?_
              refine o_nil ?_
              refine k_goal ⟨(), ⟨rfl, rfl, congrArg Value.bool (decide_eq_true (show ¬ hdEq x y from fun hh => h hh.2.2.2.2.1)).symm, trivial⟩, rfl⟩
            ·
              have h40 := h
              refine g_yes rfl rfl ?_
              refine o_fld (off := 5) rfl rfl ?_
              refine g_yes rfl rfl ?_
              refine o_ld rfl rfl (by first | exact hBx.at rfl | exact hBy.at rfl) ?_ 
              refine g_yes rfl rfl ?_
              refine o_lens Try.underlying36 rfl ?_
              refine g_yes rfl rfl ?_
              refine o_fld (off := 5) rfl rfl ?_
              refine g_yes rfl rfl ?_
              refine o_ld rfl rfl (by first | exact hBx.at rfl | exact hBy.at rfl) ?_ 
              refine g_yes rfl rfl ?_
              refine o_lens Try.underlying36 rfl ?_
              refine g_yes rfl rfl ?_
              refine b_neq rfl rfl ?_
              refine pick_f rfl rfl ?_
              refine m_bool rfl rfl ?_
              refine o_split (t := 49) rfl (fun h => ?_) (fun h => ?_)
              ·
                refine g_no rfl rfl rfl ?_
                refine g_no rfl rfl rfl ?_
                refine g_no rfl rfl rfl ?_
                refine g_no rfl rfl rfl ?_
                refine g_no rfl rfl rfl ?_
                refine g_no rfl rfl rfl ?_
                refine g_no rfl rfl rfl ?_
                refine pick_t rfl rfl ?_
                refine o_nil ?_
                refine k_goal ⟨(), ⟨rfl, rfl, congrArg Value.bool (decide_eq_true (show ¬ hdEq x y from fun hh => h (by rw [hh.2.2.2.2.2.1]))).symm, trivial⟩, rfl⟩
              ·
                have h49 := h
                refine g_yes rfl rfl ?_
                refine o_fld (off := 6) rfl rfl ?_
                refine g_yes rfl rfl ?_
                refine o_ld rfl rfl (by first | exact hBx.at rfl | exact hBy.at rfl) ?_ 
                refine g_yes rfl rfl ?_
                refine o_lens Try.underlying36 rfl ?_
                refine g_yes rfl rfl ?_
                refine o_fld (off := 6) rfl rfl ?_
                refine g_yes rfl rfl ?_
                refine o_ld rfl rfl (by first | exact hBx.at rfl | exact hBy.at rfl) ?_ 
                refine g_yes rfl rfl ?_
                refine o_lens Try.underlying36 rfl ?_
                refine g_yes rfl rfl ?_
                refine b_neq rfl rfl ?_
                refine pick_f rfl rfl ?_
                refine o_nil ?_
                refine k_goal ⟨(), ⟨rfl, rfl, congrArg Value.bool (decide_eq_decide.2 ⟨fun h1 hh => h1 (by rw [hh.2.2.2.2.2.2]), fun hh h1 => hh ⟨Decidable.of_not_not h12, Decidable.of_not_not h19, Decidable.of_not_not h26, Decidable.of_not_not h33, Decidable.of_not_not h40, by omega, by omega⟩⟩), trivial⟩, rfl⟩
  subst hJ
  refine k_cond rfl (fun h => ?_) (fun h => ?_)
  ·
    refine k_seq ?_
    refine k_region ?_
    refine m_bool rfl rfl ?_
    refine o_nil ?_
    refine k_ret (ret_tmps (ts := [4]) (v := .bool _) rfl rfl ?_)
    exact ⟨congrArg Value.bool (no h).symm, hK02⟩
  have hhd : hdEq x y := Decidable.of_not_not h
  have hkl := hhd.2.2.2.2.2.1
  have hjl := hhd.2.2.2.2.2.2
  refine k_skip ?_
  refine k_seq ?_
  refine k_seq ?_
  refine k_region ?_
  refine o_fld (off := 5) rfl rfl ?_
  refine o_ld rfl rfl (by first | exact hBx.at rfl | exact hBy.at rfl) ?_ 
  refine o_lens Try.underlying36 rfl ?_
  refine m_int rfl rfl ?_
  refine o_nil ?_
  refine k_block ?_
  refine k_loop (σ := Nat) (fun i => [(2, .pointer (some ⟨b2, 0, none⟩)), (3, .pointer (some ⟨b3, 0, none⟩)), (60, .int .i64 (x.keys.length : Int)), (61, .int .i64 (i : Int))]) (fun i w4 => i ≤ x.keys.length ∧ (∀ j, j < i → x.keys[j]? = y.keys[j]?) ∧ Keep [] w' w4) (fun i => x.keys.length - i) 0 ⟨rfl, rfl, rfl, rfl, trivial⟩ ⟨Nat.zero_le _, fun j hj => by omega, Keep.refl _ _⟩ (fun i e w4 hJ => ?_)
  obtain ⟨hi, hke, hK4⟩ := hJ
  have hBx4 := hBx.keep hK4 (by simp)
  have hBy4 := hBy.keep hK4 (by simp)
  have hK04 := hK02.tr hK4
  refine k_seq ?_
  refine k_region ?_
  refine b_lss rfl rfl ?_
  refine o_nil ?_
  refine k_seq ?_
  refine k_cond rfl (fun h => ?_) (fun h => ?_)
  rotate_left
  ·
    have hkall : ∀ j, j < x.keys.length → x.keys[j]? = y.keys[j]? := fun j hj => hke j (by omega)
    refine k_exit rfl ?_
    refine k_seq ?_
    refine k_seq ?_
    refine k_region ?_
    refine o_fld (off := 6) rfl rfl ?_
    refine o_ld (v := .slice ajx x.jumps.length cjx) rfl rfl (hBx4.at rfl) ?_
    refine o_lens Try.underlying36 rfl ?_
    refine m_int rfl rfl ?_
    refine o_nil ?_
    refine k_block ?_
    refine k_loop (σ := Nat) (fun i => [(2, .pointer (some ⟨b2, 0, none⟩)), (3, .pointer (some ⟨b3, 0, none⟩)), (78, .int .i64 (x.jumps.length : Int)), (79, .int .i64 (i : Int))]) (fun i w6 => i ≤ x.jumps.length ∧ (∀ j, j < i → x.jumps[j]? = y.jumps[j]?) ∧ Keep [] w4 w6) (fun i => x.jumps.length - i) 0 ⟨rfl, rfl, rfl, rfl, trivial⟩ ⟨Nat.zero_le _, fun j hj => by omega, Keep.refl _ _⟩ (fun k e w6 hJ => ?_)
    obtain ⟨hk, hje, hK6⟩ := hJ
    have hBx6 := hBx4.keep hK6 (by simp)
    have hBy6 := hBy4.keep hK6 (by simp)
    have hK06 := hK04.tr hK6
    refine k_seq ?_
    refine k_region ?_
    refine b_lss rfl rfl ?_
    refine o_nil ?_
    refine k_seq ?_
    refine k_cond rfl (fun h => ?_) (fun h => ?_)
    rotate_left
    ·
      refine k_exit rfl ?_
      refine k_seq ?_
      refine k_region ?_
      refine m_bool rfl rfl ?_
      refine o_nil ?_
      refine k_ret (ret_tmps (ts := [4]) (v := .bool _) rfl rfl ?_)
      exact ⟨congrArg Value.bool (decide_eq_true (ins_eq hhd hkall (fun j hj => hje j (by omega)))).symm, hK06⟩
    have hkn : k < x.jumps.length := by omega
    have hkx := iv_at x.jumps k hkn
    have hky := iv_at y.jumps k (by omega)
    obtain ⟨bx, ox, hax, _⟩ := hRjx _ _ hkx
    obtain ⟨by_, oy, hay, _⟩ := hRjy _ _ hky
    subst hax hay
    refine k_skip ?_
    refine k_seq ?_
    refine k_block ?_
    refine k_seq ?_
    refine k_region ?_
    refine m_int rfl rfl ?_
    refine m_int rfl rfl ?_
    refine o_nil ?_
    refine k_seq ?_
    refine k_qk 10 rfl rfl rfl rfl rfl ?_
    refine q_step (fun w1 hC => o_fld (off := 6) rfl rfl (o_nil ⟨rfl, hC⟩)) ?_
    refine q_step (fun w1 hC => o_ld (v := .slice (some ⟨bx, ox, none⟩) x.jumps.length cjx) rfl rfl (hBx6.kat hC rfl) (o_nil ⟨rfl, hC⟩)) ?_
    refine q_step (fun w1 hC => m_int rfl rfl (o_nil ⟨rfl, hC⟩)) ?_
    refine q_step (fun w1 hC => o_ixs1 Try.underlying36 rfl rfl rfl hkn (o_nil ⟨rfl, hC⟩)) ?_
    refine q_step (fun w1 hC => o_ld (v := iv (x.jumps[k])) rfl rfl (hRjx.cellK (hK06.tr hC) hkx) (o_nil ⟨rfl, hC⟩)) ?_
    refine q_step (fun w1 hC => o_fld (off := 6) rfl rfl (o_nil ⟨rfl, hC⟩)) ?_
    refine q_step (fun w1 hC => o_ld (v := .slice (some ⟨by_, oy, none⟩) y.jumps.length cjy) rfl rfl (hBy6.kat hC rfl) (o_nil ⟨rfl, hC⟩)) ?_
    refine q_step (fun w1 hC => m_int rfl rfl (o_nil ⟨rfl, hC⟩)) ?_
    refine q_step (fun w1 hC => o_ixs1 Try.underlying36 rfl rfl rfl (by omega) (o_nil ⟨rfl, hC⟩)) ?_
    refine q_step (fun w1 hC => o_ld (v := iv (y.jumps[k]'(by omega))) rfl rfl (hRjy.cellK (hK06.tr hC) hky) (o_nil ⟨rfl, hC⟩)) ?_
    refine q_nil ?_
    intro w7 hC7
    refine b_neq rfl rfl ?_
    refine o_nil ?_
    refine k_cond rfl (fun h => ?_) (fun h => ?_)
    ·
      refine k_seq ?_
      refine k_region ?_
      refine m_bool rfl rfl ?_
      refine o_nil ?_
      refine k_ret (ret_tmps (ts := [4]) (v := .bool _) rfl rfl ?_)
      exact ⟨congrArg Value.bool (decide_eq_false fun e => h (by subst e; rfl)).symm, hK06.tr hC7⟩
    refine k_skip ?_
    refine k_blk ?_
    refine k_region ?_
    refine n_add rfl rfl (by omega) ?_
    refine m_int rfl rfl ?_
    refine o_nil ?_
    refine k_goal ⟨k + 1, ⟨rfl, rfl, rfl, rfl, trivial⟩, ⟨by omega, fun j hj => ?_, hK6.tr hC7⟩, by omega⟩
    by_cases hji : j = k
    · rw [hji, List.getElem?_eq_getElem hkn, List.getElem?_eq_getElem (by omega)]
      exact congrArg some (Decidable.of_not_not h)
    · exact hje j (by omega)
  have hin : i < x.keys.length := by omega
  have hkx := iv_at x.keys i hin
  have hky := iv_at y.keys i (by omega)
  obtain ⟨bx, ox, hax, _⟩ := hRkx _ _ hkx
  obtain ⟨by_, oy, hay, _⟩ := hRky _ _ hky
  subst hax hay
  refine k_skip ?_
  refine k_seq ?_
  refine k_block ?_
  refine k_seq ?_
  refine k_region ?_
  refine m_int rfl rfl ?_
  refine m_int rfl rfl ?_
  refine o_nil ?_
  refine k_seq ?_
  refine k_qk 10 rfl rfl rfl rfl rfl ?_
  refine q_step (fun w1 hC => o_fld (off := 5) rfl rfl (o_nil ⟨rfl, hC⟩)) ?_
  refine q_step (fun w1 hC => o_ld (v := .slice (some ⟨bx, ox, none⟩) x.keys.length ckx) rfl rfl (hBx4.kat hC rfl) (o_nil ⟨rfl, hC⟩)) ?_
  refine q_step (fun w1 hC => m_int rfl rfl (o_nil ⟨rfl, hC⟩)) ?_
  refine q_step (fun w1 hC => o_ixs1 Try.underlying36 rfl rfl rfl hin (o_nil ⟨rfl, hC⟩)) ?_
  refine q_step (fun w1 hC => o_ld (v := iv (x.keys[i])) rfl rfl (hRkx.cellK (hK04.tr hC) hkx) (o_nil ⟨rfl, hC⟩)) ?_
  refine q_step (fun w1 hC => o_fld (off := 5) rfl rfl (o_nil ⟨rfl, hC⟩)) ?_
  refine q_step (fun w1 hC => o_ld (v := .slice (some ⟨by_, oy, none⟩) y.keys.length cky) rfl rfl (hBy4.kat hC rfl) (o_nil ⟨rfl, hC⟩)) ?_
  refine q_step (fun w1 hC => m_int rfl rfl (o_nil ⟨rfl, hC⟩)) ?_
  refine q_step (fun w1 hC => o_ixs1 Try.underlying36 rfl rfl rfl (by omega) (o_nil ⟨rfl, hC⟩)) ?_
  refine q_step (fun w1 hC => o_ld (v := iv (y.keys[i]'(by omega))) rfl rfl (hRky.cellK (hK04.tr hC) hky) (o_nil ⟨rfl, hC⟩)) ?_
  refine q_nil ?_
  intro w5 hC5
  refine b_neq rfl rfl ?_
  refine o_nil ?_
  refine k_cond rfl (fun h => ?_) (fun h => ?_)
  ·
    refine k_seq ?_
    refine k_region ?_
    refine m_bool rfl rfl ?_
    refine o_nil ?_
    refine k_ret (ret_tmps (ts := [4]) (v := .bool _) rfl rfl ?_)
    exact ⟨congrArg Value.bool (decide_eq_false fun e => h (by subst e; rfl)).symm, hK04.tr hC5⟩
  refine k_skip ?_
  refine k_blk ?_
  refine k_region ?_
  refine n_add rfl rfl (by omega) ?_
  refine m_int rfl rfl ?_
  refine o_nil ?_
  refine k_goal ⟨i + 1, ⟨rfl, rfl, rfl, rfl, trivial⟩, ⟨by omega, fun j hj => ?_, hK4.tr hC5⟩, by omega⟩
  by_cases hji : j = i
  · rw [hji, List.getElem?_eq_getElem hin, List.getElem?_eq_getElem (by omega)]
    exact congrArg some (Decidable.of_not_not h)
  · exact hke j (by omega)
end Go.Proofs.Ytmdkinedbmjieaa
