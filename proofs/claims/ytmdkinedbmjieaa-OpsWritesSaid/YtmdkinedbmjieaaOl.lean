/- Ops: the walk of the reference's Same. No condition beyond what its contract names. -/
import Derived.Test.YtmdkinedbmjieaaOk
import Derived.Test.YtmdkinedbmjieaaEs
namespace Go.Proofs.Ytmdkinedbmjieaa
open Go.RowKit E
set_option linter.unusedVariables false
set_option linter.unusedSimpArgs false
set_option maxRecDepth 100000
attribute [local irreducible] ow qw kw kq cw opW Ret
/-- while two instructions are fetched: what lies from H on may turn -/
def LeX (H : Nat) (w w' : World) : Prop := ∃ S, Keep S w w' ∧ ∀ b ∈ S, H ≤ b
theorem LeX.refl (H : Nat) (w : World) : LeX H w w := ⟨[], Keep.refl _ _, by simp⟩
theorem LeX.tr {H : Nat} {w w1 w2 : World} (h : LeX H w w1) (h' : LeX H w1 w2) : LeX H w w2 := by
  obtain ⟨S, a1, a2⟩ := h
  obtain ⟨S', b1, b2⟩ := h'
  refine ⟨S ++ S', (a1.mono (by simp +contextual)).trans b1 (by simp +contextual), fun b hb => ?_⟩
  rcases List.mem_append.1 hb with hb | hb
  · exact a2 b hb
  · exact b2 b hb
theorem LeX.new {H : Nat} {w w' : World} (hk : Keep [] w w') : LeX H w w' := ⟨[], hk, by simp⟩
theorem LeX.one {H b : Nat} {w w' : World} (hk : Keep [b] w w') (hb : H ≤ b) : LeX H w w' := ⟨[b], hk, by simpa using hb⟩
theorem LeX.below {H : Nat} {w0 w w' : World} (h : LeX H w w') (h0 : Keep [] w0 w) (hH : w0.heap.size ≤ H) : Keep [] w0 w' := by
  obtain ⟨S, a1, a2⟩ := h
  exact h0.trans a1 (fun b hb hl => by have := a2 b hb; omega)
theorem LeX.size {H : Nat} {w w' : World} (h : LeX H w w') : w.heap.size ≤ w'.heap.size := by obtain ⟨S, a1, _⟩ := h; exact a1.size
/-- what was done, in the slots and in memory -/
def GX (H : Nat) (cx : List Value) (D : Nat → Bool) (e : Env) (w : World) : Prop :=
  (D 8 = true → ∃ b cs, e 6 = .pointer (some ⟨b, 0, none⟩) ∧ H ≤ b ∧ Blk w b cs 38 ∧ cs.size = 7 ∧ (D 10 = true → cs = cx.toArray)) ∧
  (D 9 = true → ∃ b cs, e 7 = .pointer (some ⟨b, 0, none⟩) ∧ H ≤ b ∧ Blk w b cs 38 ∧ cs.size = 7) ∧ (D 8 = true → D 9 = true → e 6 ≠ e 7)
theorem ptr_inj {b b' : Nat} (h : Value.pointer (some ⟨b, 0, none⟩) = .pointer (some ⟨b', 0, none⟩)) : b = b' := by cases h; rfl
set_option maxHeartbeats 1000000 in
theorem rsame_ok (w : World) (a b : Option Addr) (c d : Nat) (vs us : List Value) (xs ys : List Ins) (hA : Rd w a vs) (hX : Rows (GR w) vs xs) (hB : Rd w b us) (hY : Rows (GR w) us ys) (hl : xs.length ≤ 9223372036854775807) (hl' : ys.length ≤ 9223372036854775807) :
    Ret Try.prog 11 [.slice a xs.length c, .slice b ys.length d] w (fun v w' => v = .bool (decide (xs = ys)) ∧ Keep [] w w') := by
  refine fn_enter (n := 116) Try.func11 rfl rfl (Nat.le_of_ble_eq_true rfl) (fun e => ?_)
  refine k_seq ?_
  refine k_region ?_
  refine m_bool rfl rfl ?_
  refine o_nil ?_
  refine k_seq ?_
  refine k_seq ?_
  refine k_region ?_
  refine m_sl rfl rfl ?_
  refine o_lens Try.underlying24 rfl ?_
  refine m_sl rfl rfl ?_
  refine o_lens Try.underlying24 rfl ?_
  refine b_neq rfl rfl ?_
  refine o_nil ?_
  refine k_cond rfl (fun h => ?_) (fun h => ?_)
  ·
    refine k_seq ?_
    refine k_region ?_
    refine m_bool rfl rfl ?_
    refine o_nil ?_
    refine k_ret (ret_tmps (ts := [4]) (v := .bool _) rfl rfl ?_)
    exact ⟨congrArg Value.bool (decide_eq_false fun e => h (by rw [e])).symm, Keep.refl _ _⟩
  have hlen : xs.length = ys.length := by omega
  refine k_skip ?_
  refine k_seq ?_
  refine k_seq ?_
  refine k_region ?_
  refine m_int rfl rfl ?_
  refine o_nil ?_
  refine k_block ?_
  refine k_loop (σ := Nat) (fun i => [(0, .slice a xs.length c), (1, .slice b ys.length d), (5, .int .i64 (i : Int))]) (fun i w' => i ≤ xs.length ∧ (∀ j, j < i → xs[j]? = ys[j]?) ∧ Keep [] w w') (fun i => xs.length - i) 0 ⟨rfl, rfl, rfl, trivial⟩ ⟨Nat.zero_le _, fun j hj => by omega, Keep.refl _ _⟩ (fun i e w1 hJ => ?_)
  obtain ⟨hi, hpre, hK1⟩ := hJ
  refine k_seq ?_
  refine k_seq ?_
  refine k_region ?_
  refine m_int rfl rfl ?_
  refine m_sl rfl rfl ?_
  refine o_lens Try.underlying24 rfl ?_
  refine b_lss rfl rfl ?_
  refine o_nil ?_
  refine k_cond rfl (fun h => ?_) (fun h => ?_)
  rotate_left
  ·
    refine k_exit rfl ?_
    refine k_seq ?_
    refine k_region ?_
    refine m_bool rfl rfl ?_
    refine o_nil ?_
    refine k_ret (ret_tmps (ts := [4]) (v := .bool _) rfl rfl ?_)
    refine ⟨congrArg Value.bool (decide_eq_true (List.ext_getElem? fun j => ?_)).symm, hK1⟩
    by_cases hj : j < xs.length
    · exact hpre j (by omega)
    · rw [List.getElem?_eq_none (by omega), List.getElem?_eq_none (by omega)]
  have hin : i < xs.length := by omega
  obtain ⟨x, hx⟩ : ∃ x, xs[i]? = some x := ⟨_, List.getElem?_eq_getElem hin⟩
  obtain ⟨y, hy⟩ : ∃ y, ys[i]? = some y := ⟨_, List.getElem?_eq_getElem (by omega)⟩
  obtain ⟨cx, hcx, hatx⟩ := hX.get hx
  obtain ⟨cy, hcy, haty⟩ := hY.get hy
  have h7x := hcx.len
  have h7y := hcy.len
  obtain ⟨v0, hv0⟩ : ∃ v0, cx[0]? = some v0 := ⟨_, List.getElem?_eq_getElem (by omega)⟩
  obtain ⟨u0, hu0⟩ : ∃ u0, cy[0]? = some u0 := ⟨_, List.getElem?_eq_getElem (by omega)⟩
  obtain ⟨ba, oa, hax, _⟩ := hA _ _ (hatx 0 v0 hv0)
  obtain ⟨bb, ob, hay, _⟩ := hB _ _ (haty 0 u0 hu0)
  subst hax hay
  have hA0 := hA
  have hB0 := hB
  obtain ⟨H, hH⟩ : ∃ H, H = w1.heap.size := ⟨_, rfl⟩
  have hdr : w1.drew.heap.size = w1.heap.size := rfl
  have hKA : ∀ w', LeX H w1.drew w' → Keep [] w w' := fun w' h => h.below hK1.drew (by rw [hH]; exact hK1.size)
  refine k_skip ?_
  refine k_seq ?_
  refine k_block ?_
  refine k_seq ?_
  refine k_anyE 11 (LeX H) (fun iA => match iA with
      | 0 => fun v w => v = .slice (some ⟨ba, oa, none⟩) xs.length c
      | 1 => fun v w => v = .int .i64 (i : Int)
      | 2 => fun v w => v = .pointer (some ⟨ba, oa + i * 7, none⟩)
      | 3 => fun v w => v = .agg cx.toArray
      | 4 => fun v w => v = .slice (some ⟨bb, ob, none⟩) ys.length d
      | 5 => fun v w => v = .int .i64 (i : Int)
      | 6 => fun v w => v = .pointer (some ⟨bb, ob + i * 7, none⟩)
      | 7 => fun v w => v = .agg cy.toArray
      | 8 => fun v w => True
      | 9 => fun v w => True
      | 10 => fun v w => True
      | _ => fun v w => True) (GX H cx) rfl rfl rfl rfl (LeX.refl H) (fun _ _ _ h1 h2 => h1.tr h2) ?_ (⟨fun h => (by cases h), fun h => (by cases h), fun h => (by cases h)⟩) ?_ ?_
  · intro iA v w w' h hL
    match iA, h with
    | 0, h =>
      exact h
    | 1, h =>
      exact h
    | 2, h =>
      exact h
    | 3, h =>
      exact h
    | 4, h =>
      exact h
    | 5, h =>
      exact h
    | 6, h =>
      exact h
    | 7, h =>
      exact h
    | 8, h =>
      exact h
    | 9, h =>
      exact h
    | 10, h =>
      exact h
    | _ + 11, h => trivial
  · intro iA o him hl D eA wA hDi hdp hSh hG hL hA hD
    match iA, him, hl with
    | 0, _, hl =>
      obtain rfl := Option.some.inj hl
      refine o_gen [(0, _)] ⟨hA 0 (free_of rfl), trivial⟩ (fun e2 => ?_)
      refine m_sl rfl rfl ?_
      refine o_nil ⟨(LeX.refl H) _, rfl, hG⟩
    | 1, _, hl =>
      obtain rfl := Option.some.inj hl
      refine o_gen [(5, _)] ⟨hA 5 (free_of rfl), trivial⟩ (fun e2 => ?_)
      refine m_int rfl rfl ?_
      refine o_nil ⟨(LeX.refl H) _, rfl, hG⟩
    | 2, _, hl =>
      obtain rfl := Option.some.inj hl
      refine o_gen [(21, _), (22, _)] ⟨hD 0 (by decide) 21 rfl, hD 1 (by decide) 22 rfl, trivial⟩ (fun e2 => ?_)
      refine o_ixs (sz := 7) Try.underlying24 rfl rfl rfl hin ?_
      refine o_nil ⟨(LeX.refl H) _, rfl, hG⟩
    | 3, _, hl =>
      obtain rfl := Option.some.inj hl
      refine o_gen [(23, _)] ⟨hD 2 (by decide) 23 rfl, trivial⟩ (fun e2 => ?_)
      refine o_lda (xs := cx) rfl rfl (by rw [h7x]; rfl) (fun j v hv => by rw [Nat.add_assoc]; exact hA0.cellK (hKA _ hL) (hatx j v hv)) ?_
      refine o_nil ⟨(LeX.refl H) _, rfl, hG⟩
    | 4, _, hl =>
      obtain rfl := Option.some.inj hl
      refine o_gen [(1, _)] ⟨hA 1 (free_of rfl), trivial⟩ (fun e2 => ?_)
      refine m_sl rfl rfl ?_
      refine o_nil ⟨(LeX.refl H) _, rfl, hG⟩
    | 5, _, hl =>
      obtain rfl := Option.some.inj hl
      refine o_gen [(5, _)] ⟨hA 5 (free_of rfl), trivial⟩ (fun e2 => ?_)
      refine m_int rfl rfl ?_
      refine o_nil ⟨(LeX.refl H) _, rfl, hG⟩
    | 6, _, hl =>
      obtain rfl := Option.some.inj hl
      refine o_gen [(25, _), (26, _)] ⟨hD 4 (by decide) 25 rfl, hD 5 (by decide) 26 rfl, trivial⟩ (fun e2 => ?_)
      refine o_ixs (sz := 7) Try.underlying24 rfl rfl rfl (by omega) ?_
      refine o_nil ⟨(LeX.refl H) _, rfl, hG⟩
    | 7, _, hl =>
      obtain rfl := Option.some.inj hl
      refine o_gen [(27, _)] ⟨hD 6 (by decide) 27 rfl, trivial⟩ (fun e2 => ?_)
      refine o_lda (xs := cy) rfl rfl (by rw [h7y]; rfl) (fun j v hv => by rw [Nat.add_assoc]; exact hB0.cellK (hKA _ hL) (haty j v hv)) ?_
      refine o_nil ⟨(LeX.refl H) _, rfl, hG⟩
    | 8, _, hl =>
      obtain rfl := Option.some.inj hl
      refine o_gen [] trivial (fun e2 => ?_)
      refine o_alloc inf38 rfl (fun b6 w2 hB2 hK2 hb2 hZ2 => ?_)
      have hHs : H ≤ wA.heap.size := by have := hL.size; rw [hdr] at this; omega
      refine o_nil ⟨LeX.new hK2, trivial, ?_, ?_, ?_⟩
      · intro _
        exact ⟨b6, _, rfl, by omega, hB2, rfl, fun h10 => by rw [hSh 10 _ rfl h10 8 (by decide)] at hDi; cases hDi⟩
      · intro h9
        obtain ⟨b, cs, e1, e2, e3, e4⟩ := hG.2.1 h9
        exact ⟨b, cs, e1, e2, e3.keep hK2 (by simp), e4⟩
      · intro _ h9 he
        obtain ⟨b, cs, e1, e2, e3, e4⟩ := hG.2.1 h9
        have := e3.lt
        have := ptr_inj (he.trans e1)
        omega
    | 9, _, hl =>
      obtain rfl := Option.some.inj hl
      refine o_gen [] trivial (fun e2 => ?_)
      refine o_alloc inf38 rfl (fun b7 w2 hB2 hK2 hb2 hZ2 => ?_)
      have hHs : H ≤ wA.heap.size := by have := hL.size; rw [hdr] at this; omega
      refine o_nil ⟨LeX.new hK2, trivial, ?_, ?_, ?_⟩
      · intro h8
        obtain ⟨b, cs, e1, e2, e3, e4⟩ := hG.1 h8
        exact ⟨b, cs, e1, e2, e3.keep hK2 (by simp), e4⟩
      · intro _
        exact ⟨b7, _, rfl, by omega, hB2, rfl⟩
      · intro h8 _ he
        obtain ⟨b, cs, e1, e2, e3, e4⟩ := hG.1 h8
        have := e3.lt
        have := ptr_inj (e1.symm.trans he)
        omega
    | 10, _, hl =>
      obtain rfl := Option.some.inj hl
      obtain ⟨b6, c6, g1, g2, g3, g4, _⟩ := hG.1 (hdp 8 (by decide))
      refine o_gen [(6, .pointer (some ⟨b6, 0, none⟩)), (24, _)] ⟨g1, hD 3 (by decide) 24 rfl, trivial⟩ (fun e2 => ?_)
      refine o_sta (xs := cx) rfl rfl (by rw [h7x]; rfl) hcx.oneR g3 (by rw [g4, h7x]; exact Nat.le_refl 7) (fun w3 hB3 hK3 hZ3 => ?_)
      have hB3' : Blk w3 b6 cx.toArray 38 := by
       have h0 : (c6.toList.drop (0 + cx.length)) = [] := List.drop_eq_nil_of_le (by rw [h7x, Array.length_toList, g4]; exact Nat.le_refl 7)
       rw [h0, List.take_zero, List.nil_append, List.append_nil] at hB3
       exact hB3
      refine o_nil ⟨LeX.one hK3 g2, trivial, ?_, ?_, ?_⟩
      · intro _
        exact ⟨b6, _, g1, g2, hB3', by rw [List.size_toArray, h7x], fun _ => rfl⟩
      · intro h9
        obtain ⟨b, cs, e1, e2, e3, e4⟩ := hG.2.1 h9
        refine ⟨b, cs, e1, e2, e3.keep hK3 ?_, e4⟩
        intro hm
        rw [List.mem_singleton] at hm
        exact hG.2.2 (hdp 8 (by decide)) h9 (by rw [g1, e1, hm])
      · intro h8 h9
        exact hG.2.2 h8 h9
    | _ + 11, him, _ => exact absurd him (by omega)
  intro D eA wA hAll hG hL hA hV
  obtain ⟨g6, g7, g67⟩ := hG
  have d8 := hAll 8 (by decide) (by decide)
  have d9 := hAll 9 (by decide) (by decide)
  have d10 := hAll 10 (by decide) (by decide)
  obtain ⟨b6, c6, e6, hH6, hB6, hs6, hc6⟩ := g6 d8
  obtain ⟨b7, c7, e7, hH7, hB7, hs7⟩ := g7 d9
  have hne : b6 ≠ b7 := fun h => g67 d8 d9 (by rw [e6, e7, h])
  rw [hc6 d10] at hB6
  have hKAA := hKA _ hL
  refine o_gen [(0, .slice (some ⟨ba, oa, none⟩) xs.length c), (1, .slice (some ⟨bb, ob, none⟩) ys.length d), (5, .int .i64 (i : Int)), (6, .pointer (some ⟨b6, 0, none⟩)), (7, .pointer (some ⟨b7, 0, none⟩)), (28, .agg cy.toArray)] ⟨hA 0 (free_of rfl), hA 1 (free_of rfl), hA 5 (free_of rfl), e6, e7, hV 7 (by decide) 28 rfl, trivial⟩ (fun e => ?_)
  change ow _ _ _ _ [_] _ _
  refine o_sta (xs := cy) rfl rfl (by rw [h7y]; rfl) hcy.oneR hB7 (by rw [hs7, h7y]; exact Nat.le_refl 7) (fun w2 hB2 hK2 hZ2 => ?_)
  have hBy : Blk w2 b7 cy.toArray 38 := by
   have h0 : (c7.toList.drop (0 + cy.length)) = [] := List.drop_eq_nil_of_le (by rw [h7y, Array.length_toList, hs7]; exact Nat.le_refl 7)
   rw [h0, List.take_zero, List.nil_append, List.append_nil] at hB2
   exact hB2
  have hBx : Blk w2 b6 cx.toArray 38 := hB6.keep hK2 (by simpa using hne)
  have hK02 : Keep [] w w2 := hKAA.trans hK2 (by simp; have := hK1.size; omega)
  obtain ⟨kx, jx, hcxe, ⟨akx, ckx, hkxe, hRkx, hlkx⟩, ⟨ajx, cjx, hjxe, hRjx, hljx⟩⟩ := hcx
  obtain ⟨ky, jy, hcye, ⟨aky, cky, hkye, hRky, hlky⟩, ⟨ajy, cjy, hjye, hRjy, hljy⟩⟩ := hcy
  subst hkxe hjxe hkye hjye hcxe hcye
  have hxy : ∀ (p : Prop), (x = y → p) → ¬ p → xs ≠ ys := fun p hp hn e => hn (hp (by rw [e, hy] at hx; exact (Option.some.inj hx).symm))
  have no : ¬ hdEq x y → decide (xs = ys) = false := fun h => decide_eq_false (hxy _ (fun e => by subst e; exact ⟨rfl, rfl, rfl, rfl, rfl, rfl, rfl⟩) h)
  refine o_nil ?_
  refine k_seq ?_
  refine k_seq ?_
  refine k_cut (σ := Unit) (fun _ => [(0, .slice (some ⟨ba, oa, none⟩) xs.length c), (1, .slice (some ⟨bb, ob, none⟩) ys.length d), (5, .int .i64 (i : Int)), (6, .pointer (some ⟨b6, 0, none⟩)), (7, .pointer (some ⟨b7, 0, none⟩)), (79, .bool (decide (¬ hdEq x y)))]) (fun _ w' => w' = w2) ?_ (fun _ e w' hJ => ?_)
  ·
    refine k_region ?_
    refine o_fld0 rfl rfl ?_
    refine o_ld rfl rfl (by first | exact hBx.at rfl | exact hBy.at rfl) ?_ 
    refine o_fld0 rfl rfl ?_
    refine o_ld rfl rfl (by first | exact hBx.at rfl | exact hBy.at rfl) ?_ 
    refine b_neq rfl rfl ?_
    refine m_bool rfl rfl ?_
    refine o_split (t := 34) rfl (fun h => ?_) (fun h => ?_)
    ·
      refine g_no rfl rfl rfl ?_
      refine g_no rfl rfl rfl ?_
      refine g_no rfl rfl rfl ?_
      refine g_no rfl rfl rfl ?_
      refine g_no rfl rfl rfl ?_
      refine pick_t rfl rfl ?_
      refine m_bool rfl rfl ?_
      refine g_no rfl rfl rfl ?_
      refine g_no rfl rfl rfl ?_
      refine g_no rfl rfl rfl ?_
      refine g_no rfl rfl rfl ?_
      refine g_no rfl rfl rfl ?_
      refine pick_t rfl rfl ?_
      refine m_bool rfl rfl ?_
      refine g_no rfl rfl rfl ?_
      refine g_no rfl rfl rfl ?_
      refine g_no rfl rfl rfl ?_
      refine g_no rfl rfl rfl ?_
      refine g_no rfl rfl rfl ?_
      refine pick_t rfl rfl ?_
      refine m_bool rfl rfl ?_
      refine g_no rfl rfl rfl ?_
      refine g_no rfl rfl rfl ?_
      refine g_no rfl rfl rfl ?_
      refine g_no rfl rfl rfl ?_
      refine g_no rfl rfl rfl ?_
      refine pick_t rfl rfl ?_
      refine m_bool rfl rfl ?_
      refine g_no rfl rfl rfl ?_
      refine g_no rfl rfl rfl ?_
      refine g_no rfl rfl rfl ?_
      refine g_no rfl rfl rfl ?_
      refine g_no rfl rfl rfl ?_
      refine g_no rfl rfl rfl ?_
      refine g_no rfl rfl rfl ?_
      refine pick_t rfl rfl ?_
      refine m_bool rfl rfl ?_
      refine g_no rfl rfl rfl ?_
      refine g_no rfl rfl rfl ?_
      refine g_no rfl rfl rfl ?_
      refine g_no rfl rfl rfl ?_
      refine g_no rfl rfl rfl ?_
      refine g_no rfl rfl rfl ?_
      refine g_no rfl rfl rfl ?_
      refine pick_t rfl rfl ?_
      refine o_nil ?_
      refine k_goal ⟨(), ⟨rfl, rfl, rfl, rfl, rfl, congrArg Value.bool (decide_eq_true (show ¬ hdEq x y from fun hh => h hh.1)).symm, trivial⟩, rfl⟩
    ·
      have h12 := h
      refine g_yes rfl rfl ?_
      refine o_fld (off := 1) rfl rfl ?_
      refine g_yes rfl rfl ?_
      refine o_ld rfl rfl (by first | exact hBx.at rfl | exact hBy.at rfl) ?_ 
      refine g_yes rfl rfl ?_
      refine o_fld (off := 1) rfl rfl ?_
      refine g_yes rfl rfl ?_
      refine o_ld rfl rfl (by first | exact hBx.at rfl | exact hBy.at rfl) ?_ 
      refine g_yes rfl rfl ?_
      refine b_neq rfl rfl ?_
      refine pick_f rfl rfl ?_
      refine m_bool rfl rfl ?_
      refine o_split (t := 41) rfl (fun h => ?_) (fun h => ?_)
      ·
        refine g_no rfl rfl rfl ?_
        refine g_no rfl rfl rfl ?_
        refine g_no rfl rfl rfl ?_
        refine g_no rfl rfl rfl ?_
        refine g_no rfl rfl rfl ?_
        refine pick_t rfl rfl ?_
        refine m_bool rfl rfl ?_
        refine g_no rfl rfl rfl ?_
        refine g_no rfl rfl rfl ?_
        refine g_no rfl rfl rfl ?_
        refine g_no rfl rfl rfl ?_
        refine g_no rfl rfl rfl ?_
        refine pick_t rfl rfl ?_
        refine m_bool rfl rfl ?_
        refine g_no rfl rfl rfl ?_
        refine g_no rfl rfl rfl ?_
        refine g_no rfl rfl rfl ?_
        refine g_no rfl rfl rfl ?_
        refine g_no rfl rfl rfl ?_
        refine pick_t rfl rfl ?_
        refine m_bool rfl rfl ?_
        refine g_no rfl rfl rfl ?_
        refine g_no rfl rfl rfl ?_
        refine g_no rfl rfl rfl ?_
        refine g_no rfl rfl rfl ?_
        refine g_no rfl rfl rfl ?_
        refine g_no rfl rfl rfl ?_
        refine g_no rfl rfl rfl ?_
        refine pick_t rfl rfl ?_
        refine m_bool rfl rfl ?_
        refine g_no rfl rfl rfl ?_
        refine g_no rfl rfl rfl ?_
        refine g_no rfl rfl rfl ?_
        refine g_no rfl rfl rfl ?_
        refine g_no rfl rfl rfl ?_
        refine g_no rfl rfl rfl ?_
        refine g_no rfl rfl rfl ?_
        refine pick_t rfl rfl ?_
        refine o_nil ?_
        refine k_goal ⟨(), ⟨rfl, rfl, rfl, rfl, rfl, congrArg Value.bool (decide_eq_true (show ¬ hdEq x y from fun hh => h hh.2.1)).symm, trivial⟩, rfl⟩
      ·
        have h19 := h
        refine g_yes rfl rfl ?_
        refine o_fld (off := 2) rfl rfl ?_
        refine g_yes rfl rfl ?_
        refine o_ld rfl rfl (by first | exact hBx.at rfl | exact hBy.at rfl) ?_ 
        refine g_yes rfl rfl ?_
        refine o_fld (off := 2) rfl rfl ?_
        refine g_yes rfl rfl ?_
        refine o_ld rfl rfl (by first | exact hBx.at rfl | exact hBy.at rfl) ?_ 
        refine g_yes rfl rfl ?_
        refine b_neq rfl rfl ?_
        refine pick_f rfl rfl ?_
        refine m_bool rfl rfl ?_
        refine o_split (t := 48) rfl (fun h => ?_) (fun h => ?_)
        ·
          refine g_no rfl rfl rfl ?_
          refine g_no rfl rfl rfl ?_
          refine g_no rfl rfl rfl ?_
          refine g_no rfl rfl rfl ?_
          refine g_no rfl rfl rfl ?_
          refine pick_t rfl rfl ?_
          refine m_bool rfl rfl ?_
          refine g_no rfl rfl rfl ?_
          refine g_no rfl rfl rfl ?_
          refine g_no rfl rfl rfl ?_
          refine g_no rfl rfl rfl ?_
          refine g_no rfl rfl rfl ?_
          refine pick_t rfl rfl ?_
          refine m_bool rfl rfl ?_
          refine g_no rfl rfl rfl ?_
          refine g_no rfl rfl rfl ?_
          refine g_no rfl rfl rfl ?_
          refine g_no rfl rfl rfl ?_
          refine g_no rfl rfl rfl ?_
          refine g_no rfl rfl rfl ?_
          refine g_no rfl rfl rfl ?_
          refine pick_t rfl rfl ?_
          refine m_bool rfl rfl ?_
          refine g_no rfl rfl rfl ?_
          refine g_no rfl rfl rfl ?_
          refine g_no rfl rfl rfl ?_
          refine g_no rfl rfl rfl ?_
          refine g_no rfl rfl rfl ?_
          refine g_no rfl rfl rfl ?_
          refine g_no rfl rfl rfl ?_
          refine pick_t rfl rfl ?_
          refine o_nil ?_
          refine k_goal ⟨(), ⟨rfl, rfl, rfl, rfl, rfl, congrArg Value.bool (decide_eq_true (show ¬ hdEq x y from fun hh => h hh.2.2.1)).symm, trivial⟩, rfl⟩
        ·
          have h26 := h
          refine g_yes rfl rfl ?_
          refine o_fld (off := 3) rfl rfl ?_
          refine g_yes rfl rfl ?_
          refine o_ld rfl rfl (by first | exact hBx.at rfl | exact hBy.at rfl) ?_ 
          refine g_yes rfl rfl ?_
          refine o_fld (off := 3) rfl rfl ?_
          refine g_yes rfl rfl ?_
          refine o_ld rfl rfl (by first | exact hBx.at rfl | exact hBy.at rfl) ?_ 
          refine g_yes rfl rfl ?_
          refine b_neq rfl rfl ?_
          refine pick_f rfl rfl ?_
          refine m_bool rfl rfl ?_
          refine o_split (t := 55) rfl (fun h => ?_) (fun h => ?_)
          ·
            refine g_no rfl rfl rfl ?_
            refine g_no rfl rfl rfl ?_
            refine g_no rfl rfl rfl ?_
            refine g_no rfl rfl rfl ?_
            refine g_no rfl rfl rfl ?_
            refine pick_t rfl rfl ?_
            refine m_bool rfl rfl ?_
            refine g_no rfl rfl rfl ?_
            refine g_no rfl rfl rfl ?_
            refine g_no rfl rfl rfl ?_
            refine g_no rfl rfl rfl ?_
            refine g_no rfl rfl rfl ?_
            refine g_no rfl rfl rfl ?_
            refine g_no rfl rfl rfl ?_
            refine pick_t rfl rfl ?_
            refine m_bool rfl rfl ?_
            refine g_no rfl rfl rfl ?_
            refine g_no rfl rfl rfl ?_
            refine g_no rfl rfl rfl ?_
            refine g_no rfl rfl rfl ?_
            refine g_no rfl rfl rfl ?_
            refine g_no rfl rfl rfl ?_
            refine g_no rfl rfl rfl ?_
            refine pick_t rfl rfl ?_
            refine o_nil ?_
            refine k_goal ⟨(), ⟨rfl, rfl, rfl, rfl, rfl, congrArg Value.bool (decide_eq_true (show ¬ hdEq x y from fun hh => h hh.2.2.2.1)).symm, trivial⟩, rfl⟩
          ·
            have h33 := h
            refine g_yes rfl rfl ?_
            refine o_fld (off := 4) rfl rfl ?_
            refine g_yes rfl rfl ?_
            refine o_ld rfl rfl (by first | exact hBx.at rfl | exact hBy.at rfl) ?_ 
            refine g_yes rfl rfl ?_
            refine o_fld (off := 4) rfl rfl ?_
            refine g_yes rfl rfl ?_
            refine o_ld rfl rfl (by first | exact hBx.at rfl | exact hBy.at rfl) ?_ 
            refine g_yes rfl rfl ?_
            refine b_neq rfl rfl ?_
            refine pick_f rfl rfl ?_
            refine m_bool rfl rfl ?_
            refine o_split (t := 62) rfl (fun h => ?_) (fun h => ?_)
            ·
              refine g_no rfl rfl rfl ?_
              refine g_no rfl rfl rfl ?_
              refine g_no rfl rfl rfl ?_
              refine g_no rfl rfl rfl ?_
              refine g_no rfl rfl rfl ?_
              refine g_no rfl rfl rfl ?_
              refine g_no rfl rfl rfl ?_
              refine pick_t rfl rfl ?_
              refine m_bool rfl rfl ?_
              refine g_no rfl rfl rfl ?_
              refine g_no rfl rfl rfl ?_
              refine g_no rfl rfl rfl ?_
              refine g_no rfl rfl rfl ?_
              refine g_no rfl rfl rfl ?_
              refine g_no rfl rfl rfl ?_
              refine g_no rfl rfl rfl ?_
              refine pick_t rfl rfl ?_
              refine o_nil ?_
              refine k_goal ⟨(), ⟨rfl, rfl, rfl, rfl, rfl, congrArg Value.bool (decide_eq_true (show ¬ hdEq x y from fun hh => h hh.2.2.2.2.1)).symm, trivial⟩, rfl⟩
            ·
              have h40 := h
              refine g_yes rfl rfl ?_
              refine o_fld (off := 5) rfl rfl ?_
              refine g_yes rfl rfl ?_
              refine o_ld rfl rfl (by first | exact hBx.at rfl | exact hBy.at rfl) ?_ 
              refine g_yes rfl rfl ?_
              refine o_lens Try.underlying36 rfl ?_
              refine g_yes rfl rfl ?_
              refine o_fld (off := 5) rfl rfl ?_
              refine g_yes rfl rfl ?_
              refine o_ld rfl rfl (by first | exact hBx.at rfl | exact hBy.at rfl) ?_ 
              refine g_yes rfl rfl ?_
              refine o_lens Try.underlying36 rfl ?_
              refine g_yes rfl rfl ?_
              refine b_neq rfl rfl ?_
              refine pick_f rfl rfl ?_
              refine m_bool rfl rfl ?_
              refine o_split (t := 71) rfl (fun h => ?_) (fun h => ?_)
              ·
                refine g_no rfl rfl rfl ?_
                refine g_no rfl rfl rfl ?_
                refine g_no rfl rfl rfl ?_
                refine g_no rfl rfl rfl ?_
                refine g_no rfl rfl rfl ?_
                refine g_no rfl rfl rfl ?_
                refine g_no rfl rfl rfl ?_
                refine pick_t rfl rfl ?_
                refine o_nil ?_
                refine k_goal ⟨(), ⟨rfl, rfl, rfl, rfl, rfl, congrArg Value.bool (decide_eq_true (show ¬ hdEq x y from fun hh => h (by rw [hh.2.2.2.2.2.1]))).symm, trivial⟩, rfl⟩
              ·
                have h49 := h
                refine g_yes rfl rfl ?_
                refine o_fld (off := 6) rfl rfl ?_
                refine g_yes rfl rfl ?_
                refine o_ld rfl rfl (by first | exact hBx.at rfl | exact hBy.at rfl) ?_ 
                refine g_yes rfl rfl ?_
                refine o_lens Try.underlying36 rfl ?_
                refine g_yes rfl rfl ?_
                refine o_fld (off := 6) rfl rfl ?_
                refine g_yes rfl rfl ?_
                refine o_ld rfl rfl (by first | exact hBx.at rfl | exact hBy.at rfl) ?_ 
                refine g_yes rfl rfl ?_
                refine o_lens Try.underlying36 rfl ?_
                refine g_yes rfl rfl ?_
                refine b_neq rfl rfl ?_
                refine pick_f rfl rfl ?_
                refine o_nil ?_
                refine k_goal ⟨(), ⟨rfl, rfl, rfl, rfl, rfl, congrArg Value.bool (decide_eq_decide.2 ⟨fun h1 hh => h1 (by rw [hh.2.2.2.2.2.2]), fun hh h1 => hh ⟨Decidable.of_not_not h12, Decidable.of_not_not h19, Decidable.of_not_not h26, Decidable.of_not_not h33, Decidable.of_not_not h40, by omega, by omega⟩⟩), trivial⟩, rfl⟩
  subst hJ
  refine k_cond rfl (fun h => ?_) (fun h => ?_)
  ·
    have h79 := h
    refine k_seq ?_
    refine k_region ?_
    refine m_bool rfl rfl ?_
    refine o_nil ?_
    refine k_ret (ret_tmps (ts := [4]) (v := .bool _) rfl rfl ?_)
    exact ⟨congrArg Value.bool (no h).symm, hK02⟩
  have hhd : hdEq x y := Decidable.of_not_not h
  have hkl := hhd.2.2.2.2.2.1
  have hjl := hhd.2.2.2.2.2.2
  have hRkx := hRkx.new hK02
  have hRky := hRky.new hK02
  have hRjx := hRjx.new hK02
  have hRjy := hRjy.new hK02
  refine k_skip ?_
  refine k_seq ?_
  refine k_seq ?_
  refine k_region ?_
  refine m_int rfl rfl ?_
  refine o_nil ?_
  refine k_block ?_
  refine k_loop (σ := Nat) (fun k => [(0, .slice (some ⟨ba, oa, none⟩) xs.length c), (1, .slice (some ⟨bb, ob, none⟩) ys.length d), (5, .int .i64 (i : Int)), (6, .pointer (some ⟨b6, 0, none⟩)), (7, .pointer (some ⟨b7, 0, none⟩)), (8, .int .i64 (k : Int))]) (fun k w4 => k ≤ x.keys.length ∧ (∀ j, j < k → x.keys[j]? = y.keys[j]?) ∧ Keep [] w' w4) (fun k => x.keys.length - k) 0 ⟨rfl, rfl, rfl, rfl, rfl, rfl, trivial⟩ ⟨Nat.zero_le _, fun j hj => by omega, Keep.refl _ _⟩ (fun k e w4 hJ => ?_)
  obtain ⟨hk, hke, hK4⟩ := hJ
  have hBx4 := hBx.keep hK4 (by simp)
  have hBy4 := hBy.keep hK4 (by simp)
  have hK04 := hK02.tr hK4
  refine k_seq ?_
  refine k_seq ?_
  refine k_region ?_
  refine m_int rfl rfl ?_
  refine o_fld (off := 5) rfl rfl ?_
  refine o_ld (v := .slice akx x.keys.length ckx) rfl rfl (hBx4.at rfl) ?_
  refine o_lens Try.underlying36 rfl ?_
  refine b_lss rfl rfl ?_
  refine o_nil ?_
  refine k_cond rfl (fun h => ?_) (fun h => ?_)
  rotate_left
  ·
    have hkall : ∀ j, j < x.keys.length → x.keys[j]? = y.keys[j]? := fun j hj => hke j (by omega)
    refine k_exit rfl ?_
    refine k_seq ?_
    refine k_region ?_
    refine m_int rfl rfl ?_
    refine o_nil ?_
    refine k_block ?_
    refine k_loop (σ := Nat) (fun k => [(0, .slice (some ⟨ba, oa, none⟩) xs.length c), (1, .slice (some ⟨bb, ob, none⟩) ys.length d), (5, .int .i64 (i : Int)), (6, .pointer (some ⟨b6, 0, none⟩)), (7, .pointer (some ⟨b7, 0, none⟩)), (9, .int .i64 (k : Int))]) (fun k w6 => k ≤ x.jumps.length ∧ (∀ j, j < k → x.jumps[j]? = y.jumps[j]?) ∧ Keep [] w4 w6) (fun k => x.jumps.length - k) 0 ⟨rfl, rfl, rfl, rfl, rfl, rfl, trivial⟩ ⟨Nat.zero_le _, fun j hj => by omega, Keep.refl _ _⟩ (fun k e w6 hJ => ?_)
    obtain ⟨hk, hje, hK6⟩ := hJ
    have hBx6 := hBx4.keep hK6 (by simp)
    have hBy6 := hBy4.keep hK6 (by simp)
    have hK06 := hK04.tr hK6
    have hK46 := hK4.tr hK6
    refine k_seq ?_
    refine k_seq ?_
    refine k_region ?_
    refine m_int rfl rfl ?_
    refine o_fld (off := 6) rfl rfl ?_
    refine o_ld (v := .slice ajx x.jumps.length cjx) rfl rfl (hBx6.at rfl) ?_
    refine o_lens Try.underlying36 rfl ?_
    refine b_lss rfl rfl ?_
    refine o_nil ?_
    refine k_cond rfl (fun h => ?_) (fun h => ?_)
    rotate_left
    ·
      have hjall : ∀ j, j < x.jumps.length → x.jumps[j]? = y.jumps[j]? := fun j hj => hje j (by omega)
      have hxe : x = y := ins_eq hhd hkall hjall
      refine k_exit rfl ?_
      refine k_blk ?_
      refine k_region ?_
      refine m_int rfl rfl ?_
      refine n_add rfl rfl (by omega) ?_
      refine m_int rfl rfl ?_
      refine o_nil ?_
      refine k_goal ⟨i + 1, ⟨rfl, rfl, rfl, trivial⟩, ⟨by omega, fun j hj => ?_, hK06⟩, by omega⟩
      by_cases hji : j = i
      · rw [hji, hx, hy, hxe]
      · exact hpre j (by omega)
    have hkn : k < x.jumps.length := by omega
    have hkx := iv_at x.jumps k hkn
    have hky := iv_at y.jumps k (by omega)
    obtain ⟨bx, ox, hax, _⟩ := hRjx _ _ hkx
    obtain ⟨by_, oy, hay, _⟩ := hRjy _ _ hky
    subst hax hay
    refine k_skip ?_
    refine k_seq ?_
    refine k_block ?_
    refine k_seq ?_
    refine k_qk 10 rfl rfl rfl rfl rfl ?_
    refine q_step (fun w1 hC => o_fld (off := 6) rfl rfl (o_nil ⟨rfl, hC⟩)) ?_
    refine q_step (fun w1 hC => o_ld (v := .slice (some ⟨bx, ox, none⟩) x.jumps.length cjx) rfl rfl (hBx6.kat hC rfl) (o_nil ⟨rfl, hC⟩)) ?_
    refine q_step (fun w1 hC => m_int rfl rfl (o_nil ⟨rfl, hC⟩)) ?_
    refine q_step (fun w1 hC => o_ixs1 Try.underlying36 rfl rfl rfl hkn (o_nil ⟨rfl, hC⟩)) ?_
    refine q_step (fun w1 hC => o_ld (v := iv (x.jumps[k])) rfl rfl (hRjx.cellK (hK46.tr hC) hkx) (o_nil ⟨rfl, hC⟩)) ?_
    refine q_step (fun w1 hC => o_fld (off := 6) rfl rfl (o_nil ⟨rfl, hC⟩)) ?_
    refine q_step (fun w1 hC => o_ld (v := .slice (some ⟨by_, oy, none⟩) y.jumps.length cjy) rfl rfl (hBy6.kat hC rfl) (o_nil ⟨rfl, hC⟩)) ?_
    refine q_step (fun w1 hC => m_int rfl rfl (o_nil ⟨rfl, hC⟩)) ?_
    refine q_step (fun w1 hC => o_ixs1 Try.underlying36 rfl rfl rfl (by omega) (o_nil ⟨rfl, hC⟩)) ?_
    refine q_step (fun w1 hC => o_ld (v := iv (y.jumps[k]'(by omega))) rfl rfl (hRjy.cellK (hK46.tr hC) hky) (o_nil ⟨rfl, hC⟩)) ?_
    refine q_nil ?_
    intro w7 hC7
    refine b_neq rfl rfl ?_
    refine o_nil ?_
    refine k_cond rfl (fun h => ?_) (fun h => ?_)
    ·
      refine k_seq ?_
      refine k_region ?_
      refine m_bool rfl rfl ?_
      refine o_nil ?_
      refine k_ret (ret_tmps (ts := [4]) (v := .bool _) rfl rfl ?_)
      exact ⟨congrArg Value.bool (decide_eq_false (hxy _ (fun e => by subst e; rfl) h)).symm, hK06.tr hC7⟩
    refine k_skip ?_
    refine k_blk ?_
    refine k_region ?_
    refine m_int rfl rfl ?_
    refine n_add rfl rfl (by omega) ?_
    refine m_int rfl rfl ?_
    refine o_nil ?_
    refine k_goal ⟨k + 1, ⟨rfl, rfl, rfl, rfl, rfl, rfl, trivial⟩, ⟨by omega, fun j hj => ?_, hK6.tr hC7⟩, by omega⟩
    by_cases hji : j = k
    · rw [hji, List.getElem?_eq_getElem hkn, List.getElem?_eq_getElem (by omega)]
      exact congrArg some (Decidable.of_not_not h)
    · exact hje j (by omega)
  have hkn : k < x.keys.length := by omega
  have hkx := iv_at x.keys k hkn
  have hky := iv_at y.keys k (by omega)
  obtain ⟨bx, ox, hax, _⟩ := hRkx _ _ hkx
  obtain ⟨by_, oy, hay, _⟩ := hRky _ _ hky
  subst hax hay
  refine k_skip ?_
  refine k_seq ?_
  refine k_block ?_
  refine k_seq ?_
  refine k_qk 10 rfl rfl rfl rfl rfl ?_
  refine q_step (fun w1 hC => o_fld (off := 5) rfl rfl (o_nil ⟨rfl, hC⟩)) ?_
  refine q_step (fun w1 hC => o_ld (v := .slice (some ⟨bx, ox, none⟩) x.keys.length ckx) rfl rfl (hBx4.kat hC rfl) (o_nil ⟨rfl, hC⟩)) ?_
  refine q_step (fun w1 hC => m_int rfl rfl (o_nil ⟨rfl, hC⟩)) ?_
  refine q_step (fun w1 hC => o_ixs1 Try.underlying36 rfl rfl rfl hkn (o_nil ⟨rfl, hC⟩)) ?_
  refine q_step (fun w1 hC => o_ld (v := iv (x.keys[k])) rfl rfl (hRkx.cellK (hK4.tr hC) hkx) (o_nil ⟨rfl, hC⟩)) ?_
  refine q_step (fun w1 hC => o_fld (off := 5) rfl rfl (o_nil ⟨rfl, hC⟩)) ?_
  refine q_step (fun w1 hC => o_ld (v := .slice (some ⟨by_, oy, none⟩) y.keys.length cky) rfl rfl (hBy4.kat hC rfl) (o_nil ⟨rfl, hC⟩)) ?_
  refine q_step (fun w1 hC => m_int rfl rfl (o_nil ⟨rfl, hC⟩)) ?_
  refine q_step (fun w1 hC => o_ixs1 Try.underlying36 rfl rfl rfl (by omega) (o_nil ⟨rfl, hC⟩)) ?_
  refine q_step (fun w1 hC => o_ld (v := iv (y.keys[k]'(by omega))) rfl rfl (hRky.cellK (hK4.tr hC) hky) (o_nil ⟨rfl, hC⟩)) ?_
  refine q_nil ?_
  intro w5 hC5
  refine b_neq rfl rfl ?_
  refine o_nil ?_
  refine k_cond rfl (fun h => ?_) (fun h => ?_)
  ·
    refine id ?_
    refine k_seq ?_
    refine k_region ?_
    refine m_bool rfl rfl ?_
    refine o_nil ?_
    refine k_ret (ret_tmps (ts := [4]) (v := .bool _) rfl rfl ?_)
    exact ⟨congrArg Value.bool (decide_eq_false (hxy _ (fun e => by subst e; rfl) h)).symm, hK04.tr hC5⟩
  refine k_skip ?_
  refine k_blk ?_
  refine k_region ?_
  refine m_int rfl rfl ?_
  refine n_add rfl rfl (by omega) ?_
  refine m_int rfl rfl ?_
  refine o_nil ?_
  refine k_goal ⟨k + 1, ⟨rfl, rfl, rfl, rfl, rfl, rfl, trivial⟩, ⟨by omega, fun j hj => ?_, hK4.tr hC5⟩, by omega⟩
  by_cases hji : j = k
  · rw [hji, List.getElem?_eq_getElem hkn, List.getElem?_eq_getElem (by omega)]
    exact congrArg some (Decidable.of_not_not h)
  · exact hke j (by omega)
end Go.Proofs.Ytmdkinedbmjieaa
