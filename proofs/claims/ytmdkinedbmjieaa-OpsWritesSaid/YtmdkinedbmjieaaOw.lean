/- Ops: the walk of the reference's one. No condition beyond what its contract names. -/
import Derived.Test.YtmdkinedbmjieaaOv
namespace Go.Proofs.Ytmdkinedbmjieaa
open Go.RowKit E
set_option linter.unusedVariables false
set_option linter.unusedSimpArgs false
set_option maxRecDepth 100000
attribute [local irreducible] ow qw kw kq cw opW Ret
theorem ite_b {P : Prop} [Decidable P] {x : Int} (h : -4294967296 ≤ x ∧ x ≤ 4294967296) : -4294967296 ≤ (if P then x else 0) ∧ (if P then x else 0) ≤ 4294967296 := by split <;> omega
set_option maxHeartbeats 4000000 in
theorem rone_ok (w : World) (a : Option Addr) (c p : Nat) (cs : Bs) (hR : Rd w a (cs.map u8v)) (hc : cs.length ≤ c) (hl : cs.length ≤ 4096) (hp : p < cs.length) :
    Ret Try.prog 19 [.slice a cs.length c, .int .i64 (p : Int)] w (ROne w cs p) := by
  obtain ⟨W, hW⟩ : ∃ W, wayOf (opAt cs p) = W := ⟨_, rfl⟩
  have hW10 : W ≤ 10 := hW ▸ wayOf_le _
  obtain ⟨q, hq⟩ : ∃ q, up4 (p + 1) = q := ⟨_, rfl⟩
  have hqg : p + 1 ≤ q := hq ▸ up4_ge (p + 1)
  have hql : q < p + 1 + 4 := hq ▸ up4_lt (p + 1)
  have hq4 : q % 4 = 0 := by rw [← hq]; unfold up4; omega
  have hNL : ∀ {w' : World} (m k : Nat), Keep [] w w' → k ≤ 4611686018427387904 → 1 ≤ m → m ≤ 4 → Ret Try.prog 28 [.slice a cs.length c, .int .i64 (k : Int), .int .i64 (m : Int)] w' (fun v w2 => v = .tuple #[.int .i64 (if k + m ≤ cs.length then sgn m (numZ cs k m) else 0), .bool (decide (k + m ≤ cs.length))] ∧ Keep [] w' w2) := fun m k hK h1 h2 h3 => num2_ok _ a c k m cs (hR.new hK) hc (by omega) h1 h2 h3
  have hbt : ∀ k, k < cs.length → ∃ b o, a = some ⟨b, o, none⟩ ∧ ∀ w', Keep [] w w' → w'.cell? ⟨b, o + k, none⟩ = some (.int .u8 ((cs.getD k 0#8).toNat : Int)) := by
    intro k hk
    have hx := u8_at cs k hk
    obtain ⟨b, o, rfl, _⟩ := hR _ _ hx
    refine ⟨b, o, rfl, fun w' hK => ?_⟩
    rw [hR.cellK hK hx, List.getD_eq_getElem?_getD, List.getElem?_eq_getElem hk]
    rfl
  have hnz : ∀ k, k < cs.length → numZ cs k 1 = (cs.getD k 0#8).toNat := by
    intro k hk
    rw [numZ_one hk, List.getD_eq_getElem?_getD, List.getElem?_eq_getElem hk]; rfl
  refine fn_enter (n := 315) Try.func19 rfl rfl (Nat.le_of_ble_eq_true rfl) (fun e => ?_)
  refine k_seq ?_
  refine k_region ?_
  refine o_alloc inf38 rfl (fun b4 w1 hB1 hK1 hb1 hZ1 => ?_)
  refine m_bool rfl rfl ?_
  refine o_nil ?_
  refine k_seq ?_
  refine k_region ?_
  refine m_int rfl rfl ?_
  refine m_sl rfl rfl ?_
  refine m_int rfl rfl ?_
  obtain ⟨bp, op_, hae, hcp⟩ := hbt p hp
  refine o_ixs1 Try.underlying22 rfl (show _ = Value.slice (some ⟨bp, op_, none⟩) _ _ by rw [← hae]; rfl) rfl hp ?_
  refine o_ld rfl rfl (hcp _ hK1) ?_
  refine cv8_i rfl Try.underlying3 rfl ?_
  refine o_build (v := .agg (cells (⟨p, 1, opAt cs p, 0, 0, [], []⟩ : Ins) none 0 none 0).toArray) rfl (fun _ => by kernel_rfl) ?_
  refine o_alloc inf38 rfl (fun b6 w2 hB2 hK2 hb2 hZ2 => ?_)
  refine o_sta (xs := cells (⟨p, 1, opAt cs p, 0, 0, [], []⟩ : Ins) none 0 none 0) rfl rfl rfl (cells_one _ _ _ _ _) hB2 (Nat.le_refl 7) (fun w3 hB3 hK3 hZ3 => ?_)
  have hB3' : Blk w3 b6 (cells (⟨p, 1, opAt cs p, 0, 0, [], []⟩ : Ins) none 0 none 0).toArray 38 := hB3
  have hA3 : StA b4 b6 w w3 none 0 [] none 0 [] := ⟨Sl.nil _ _ _, Sl.nil _ _ _, (by intro z hz; cases hz), (by intro z hz; cases hz), (by intro z hz; cases hz), ⟨_, (hB1.keep hK2 (by simp)).keep hK3 (by simp; omega), rfl⟩, by omega, by omega, by have := hK1.size; omega, (hK1.tr hK2).trans hK3 (by simp; omega)⟩
  refine o_nil ?_
  refine k_seq ?_
  refine k_region ?_
  refine o_fld (off := 2) rfl rfl ?_
  refine o_ld (v := iv (opAt cs p : Int)) rfl rfl (hB3'.at rfl) ?_
  refine o_call rfl rfl (rway_ok w3 (opAt cs p) (opAt_lt cs p)) (fun v w5 hv => ?_)
  obtain ⟨rfl, hK5⟩ := hv
  have hB5 := hB3'.keep hK5 (by simp)
  have hA5 := hA3.new hK5
  have hK05 := hA5.keep
  rw [hW]
  refine m_int rfl rfl ?_
  refine o_nil ?_
  refine k_seq ?_
  refine k_region ?_
  refine m_int rfl rfl ?_
  refine m_bool rfl rfl ?_
  refine o_nil ?_
  refine k_seq ?_
  refine k_seq ?_
  refine k_region ?_
  refine m_int rfl rfl ?_
  refine o_nil ?_
  refine k_cut (σ := Bool) (fun ok => [(4, .pointer (some ⟨b4, 0, none⟩)), (6, .pointer (some ⟨b6, 0, none⟩)), (9, .bool ok)]) (fun ok w' => Done w cs p b4 b6 ok w') ?_ (fun ok e w' hJ => ?_)
  ·
    refine k_block ?_
    refine k_seq ?_
    refine k_region ?_
    refine b_eql rfl rfl ?_
    refine m_bool rfl rfl ?_
    refine o_nil ?_
    refine k_cond rfl (fun h => ?_) (fun h => ?_)
    ·
      refine k_seq ?_
      refine k_region ?_
      refine o_lda (xs := cells (⟨p, 1, opAt cs p, 0, 0, [], []⟩ : Ins) none 0 none 0) rfl rfl rfl (ldc hB5) ?_
      obtain ⟨z4, hz4, hs4⟩ := hA5.z4
      refine o_sta (xs := cells (⟨p, 1, opAt cs p, 0, 0, [], []⟩ : Ins) none 0 none 0) rfl rfl rfl (cells_one _ _ _ _ _) hz4 (by rw [hs4]; exact Nat.le_refl 7) (fun wR hBR hKR hZR => ?_)
      refine m_bool rfl rfl ?_
      refine o_nil ?_
      refine k_ret (ret_cell1 (xs := cells (⟨p, 1, opAt cs p, 0, 0, [], []⟩ : Ins) none 0 none 0) rfl rfl rfl rfl (stc rfl hs4 hBR) rfl ?_)
      exact StA.ret (x := (⟨p, 1, opAt cs p, 0, 0, [], []⟩ : Ins)) (ok := false) hA5 rfl rfl hz4 hKR (fun h => by cases h) (fun _ => rdw0 (by omega))
    have h36 := h
    refine k_seq ?_
    refine k_region ?_
    refine b_eql rfl rfl ?_
    refine m_bool rfl rfl ?_
    refine o_nil ?_
    refine k_cond rfl (fun h => ?_) (fun h => ?_)
    ·
      refine k_seq ?_
      refine k_region ?_
      refine o_lda (xs := cells (⟨p, 1, opAt cs p, 0, 0, [], []⟩ : Ins) none 0 none 0) rfl rfl rfl (ldc hB5) ?_
      obtain ⟨z4, hz4, hs4⟩ := hA5.z4
      refine o_sta (xs := cells (⟨p, 1, opAt cs p, 0, 0, [], []⟩ : Ins) none 0 none 0) rfl rfl rfl (cells_one _ _ _ _ _) hz4 (by rw [hs4]; exact Nat.le_refl 7) (fun wR hBR hKR hZR => ?_)
      refine m_bool rfl rfl ?_
      refine o_nil ?_
      refine k_ret (ret_cell1 (xs := cells (⟨p, 1, opAt cs p, 0, 0, [], []⟩ : Ins) none 0 none 0) rfl rfl rfl rfl (stc rfl hs4 hBR) rfl ?_)
      exact StA.ret (x := (⟨p, 1, opAt cs p, 0, 0, [], []⟩ : Ins)) (ok := true) hA5 rfl rfl hz4 hKR (fun _ => rdw1 (by omega)) (fun h => by cases h)
    have h39 := h
    refine k_seq ?_
    refine k_seq ?_
    refine k_region ?_
    refine b_eql rfl rfl ?_
    refine m_bool rfl rfl ?_
    refine o_nil ?_
    refine k_cut (σ := Unit) (fun s => [(0, .slice a cs.length c), (1, .int .i64 (p : Int)), (4, .pointer (some ⟨b4, 0, none⟩)), (6, .pointer (some ⟨b6, 0, none⟩)), (7, .int .i64 (W : Int)), (9, .bool true), (35, .int .i64 (W : Int)), (42, .bool (decide (W = 2 ∨ W = 3)))]) (fun s w' => w' = w5) ?_ (fun s e w' hJ => ?_)
    ·
      refine k_cond rfl (fun h => ?_) (fun h => ?_)
      ·
        refine k_skip ?_
        refine k_goal ⟨(), ⟨rfl, rfl, rfl, rfl, rfl, rfl, rfl, congrArg Value.bool (decide_eq_decide.2 (by omega)), trivial⟩, rfl⟩
      have h42 := h
      refine k_region ?_
      refine b_eql rfl rfl ?_
      refine m_bool rfl rfl ?_
      refine o_nil ?_
      refine k_goal ⟨(), ⟨rfl, rfl, rfl, rfl, rfl, rfl, rfl, congrArg Value.bool (decide_eq_decide.2 (by omega)), trivial⟩, rfl⟩
    subst hJ
    refine k_cond rfl (fun h => ?_) (fun h => ?_)
    ·
      have hw := h
      refine k_seq ?_
      refine k_region ?_
      refine o_fld (off := 1) rfl rfl ?_
      refine o_st (v := iv 2) rfl rfl rfl rfl hB5 (show 1 < 7 by decide) (fun w6 hB6 hK6 hZ6 => ?_)
      have hA6 := hA5.at6 hB5 hK6
      have hB6' : Blk w6 b6 (cells (⟨p, 2, opAt cs p, 0, 0, [], []⟩ : Ins) none 0 none 0).toArray 38 := hB6
      refine o_nil ?_
      refine k_seq ?_
      refine k_region ?_
      refine m_sl rfl rfl ?_
      refine m_int rfl rfl ?_
      refine n_add rfl rfl (by omega) ?_
      refine o_call rfl rfl (hNL 1 (p + 1) hA6.keep (by omega) (by decide) (by decide)) (fun v w7 hv => ?_)
      obtain ⟨rfl, hK7⟩ := hv
      have hB7 := hB6'.keep hK7 (by simp)
      have hA7 := hA6.new hK7
      obtain ⟨av, hav⟩ : ∃ av, (if p + 1 + 1 ≤ cs.length then sgn 1 (numZ cs (p + 1) 1) else 0) = av := ⟨_, rfl⟩
      have hab : -4294967296 ≤ av ∧ av ≤ 4294967296 := by rw [← hav]; exact ite_b (sgn_b (by decide) (numZ_lt _ _ _))
      have hLO := low_ok hW hw hav
      rw [hav]
      refine m_any rfl rfl ?_
      refine o_extr rfl rfl ?_
      refine o_extr rfl rfl ?_
      refine m_int rfl rfl ?_
      refine m_bool rfl rfl ?_
      refine o_nil ?_
      refine k_seq ?_
      refine k_seq ?_
      refine k_cut (σ := Unit) (fun s => [(4, .pointer (some ⟨b4, 0, none⟩)), (6, .pointer (some ⟨b6, 0, none⟩)), (8, .int .i64 av), (9, .bool (decide (p + 1 + 1 ≤ cs.length))), (58, .bool (decide (W = 2 ∧ av < 0)))]) (fun s w' => w' = w7) ?_ (fun s e w' hJ => ?_)
      ·
        refine k_region ?_
        refine m_int rfl rfl ?_
        refine b_eql rfl rfl ?_
        refine m_bool rfl rfl ?_
        refine o_split (t := 55) rfl (fun h => ?_) (fun h => ?_)
        ·
          have h55 := h
          refine g_yes rfl rfl ?_
          refine m_int rfl rfl ?_
          refine g_yes rfl rfl ?_
          refine b_lss rfl rfl ?_
          refine pick_t rfl rfl ?_
          refine o_nil ?_
          refine k_goal ⟨(), ⟨rfl, rfl, rfl, rfl, congrArg Value.bool (decide_eq_decide.2 (by omega)), trivial⟩, rfl⟩
        ·
          have h55 := h
          refine g_no rfl rfl rfl ?_
          refine g_no rfl rfl rfl ?_
          refine pick_f rfl rfl ?_
          refine o_nil ?_
          refine k_goal ⟨(), ⟨rfl, rfl, rfl, rfl, congrArg Value.bool (decide_eq_false (by omega)).symm, trivial⟩, rfl⟩
      subst hJ
      refine k_cut (σ := Unit) (fun s => [(4, .pointer (some ⟨b4, 0, none⟩)), (6, .pointer (some ⟨b6, 0, none⟩)), (8, .int .i64 (if W = 2 ∧ av < 0 then av + 256 else av)), (9, .bool (decide (p + 1 + 1 ≤ cs.length)))]) (fun s w2 => w2 = w') ?_ (fun s e w2 hJ => ?_)
      ·
        refine k_cond rfl (fun h => ?_) (fun h => ?_)
        ·
          refine k_region ?_
          refine m_int rfl rfl ?_
          refine n_add rfl rfl (by omega) ?_
          refine m_int rfl rfl ?_
          refine o_nil ?_
          refine k_goal ⟨(), ⟨rfl, rfl, by rw [if_pos h]; rfl, rfl, trivial⟩, rfl⟩
        refine k_skip ?_
        refine k_goal ⟨(), ⟨rfl, rfl, by rw [if_neg h]; rfl, rfl, trivial⟩, rfl⟩
      subst hJ
      refine k_region ?_
      refine m_int rfl rfl ?_
      refine o_fld (off := 3) rfl rfl ?_
      refine o_st (v := iv (if W = 2 ∧ av < 0 then av + 256 else av)) rfl rfl rfl rfl hB7 (show 3 < 7 by decide) (fun w8 hB8 hK8 hZ8 => ?_)
      refine o_nil ?_
      refine k_blk ?_
      refine k_goal ⟨_, ⟨rfl, rfl, rfl, trivial⟩, ⟨⟨p, 2, opAt cs p, if W = 2 ∧ av < 0 then av + 256 else av, 0, [], []⟩, none, 0, none, 0, hB8, hA7.at6 hB7 hK8, hLO.1, hLO.2⟩⟩
    have h42 := h
    refine k_seq ?_
    refine k_seq ?_
    refine k_region ?_
    refine b_eql rfl rfl ?_
    refine m_bool rfl rfl ?_
    refine o_nil ?_
    refine k_cut (σ := Unit) (fun s => [(0, .slice a cs.length c), (1, .int .i64 (p : Int)), (4, .pointer (some ⟨b4, 0, none⟩)), (6, .pointer (some ⟨b6, 0, none⟩)), (7, .int .i64 (W : Int)), (9, .bool true), (35, .int .i64 (W : Int)), (63, .bool (decide (W = 4 ∨ W = 5 ∨ W = 10 ∨ W = 7)))]) (fun s w2 => w2 = w') ?_ (fun s e w2 hJ => ?_)
    ·
      refine k_cond rfl (fun h => ?_) (fun h => ?_)
      ·
        refine k_skip ?_
        refine k_goal ⟨(), ⟨rfl, rfl, rfl, rfl, rfl, rfl, rfl, congrArg Value.bool (decide_eq_decide.2 (by omega)), trivial⟩, rfl⟩
      have h63a := h
      refine k_seq ?_
      refine k_region ?_
      refine b_eql rfl rfl ?_
      refine m_bool rfl rfl ?_
      refine o_nil ?_
      refine k_cond rfl (fun h => ?_) (fun h => ?_)
      ·
        refine k_skip ?_
        refine k_goal ⟨(), ⟨rfl, rfl, rfl, rfl, rfl, rfl, rfl, congrArg Value.bool (decide_eq_decide.2 (by omega)), trivial⟩, rfl⟩
      have h63b := h
      refine k_seq ?_
      refine k_region ?_
      refine b_eql rfl rfl ?_
      refine m_bool rfl rfl ?_
      refine o_nil ?_
      refine k_cond rfl (fun h => ?_) (fun h => ?_)
      ·
        refine k_skip ?_
        refine k_goal ⟨(), ⟨rfl, rfl, rfl, rfl, rfl, rfl, rfl, congrArg Value.bool (decide_eq_decide.2 (by omega)), trivial⟩, rfl⟩
      have h63c := h
      refine k_region ?_
      refine b_eql rfl rfl ?_
      refine m_bool rfl rfl ?_
      refine o_nil ?_
      refine k_goal ⟨(), ⟨rfl, rfl, rfl, rfl, rfl, rfl, rfl, congrArg Value.bool (decide_eq_decide.2 (by omega)), trivial⟩, rfl⟩
    subst hJ
    refine k_cond rfl (fun h => ?_) (fun h => ?_)
    ·
      have hw := h
      refine k_seq ?_
      refine k_region ?_
      refine o_fld (off := 1) rfl rfl ?_
      refine o_st (v := iv 3) rfl rfl rfl rfl hB5 (show 1 < 7 by decide) (fun w6 hB6 hK6 hZ6 => ?_)
      have hA6 := hA5.at6 hB5 hK6
      have hB6' : Blk w6 b6 (cells (⟨p, 3, opAt cs p, 0, 0, [], []⟩ : Ins) none 0 none 0).toArray 38 := hB6
      refine o_nil ?_
      refine k_seq ?_
      refine k_region ?_
      refine m_sl rfl rfl ?_
      refine m_int rfl rfl ?_
      refine n_add rfl rfl (by omega) ?_
      refine o_call rfl rfl (hNL 2 (p + 1) hA6.keep (by omega) (by decide) (by decide)) (fun v w7 hv => ?_)
      obtain ⟨rfl, hK7⟩ := hv
      have hB7 := hB6'.keep hK7 (by simp)
      have hA7 := hA6.new hK7
      obtain ⟨av, hav⟩ : ∃ av, (if p + 1 + 2 ≤ cs.length then sgn 2 (numZ cs (p + 1) 2) else 0) = av := ⟨_, rfl⟩
      have hab : -4294967296 ≤ av ∧ av ≤ 4294967296 := by rw [← hav]; exact ite_b (sgn_b (by decide) (numZ_lt _ _ _))
      rw [hav]
      refine m_any rfl rfl ?_
      refine o_extr rfl rfl ?_
      refine o_extr rfl rfl ?_
      refine m_int rfl rfl ?_
      refine m_bool rfl rfl ?_
      refine o_nil ?_
      refine k_seq ?_
      refine k_seq ?_
      refine k_region ?_
      refine m_int rfl rfl ?_
      refine b_eql rfl rfl ?_
      refine o_nil ?_
      refine k_cond rfl (fun h => ?_) (fun h => ?_)
      ·
        have h77 : W = 7 := by omega
        refine k_seq ?_
        refine k_region ?_
        refine m_int rfl rfl ?_
        refine m_int rfl rfl ?_
        refine n_add rfl rfl (by omega) ?_
        refine o_bsl (E := 3) (cs := #[iv ((p : Int) + av)]) rfl (fun _ => by kernel_rfl) (fun g8 w8 hB8 hK8 hb8 hZ8 => ?_)
        have hB8' := hB7.keep hK8 (by simp)
        have hA8 := hA7.new hK8
        refine o_fld (off := 6) rfl rfl ?_
        refine o_st (v := .slice (some ⟨g8, 0, none⟩) 1 1) rfl rfl rfl rfl hB8' (show 6 < 7 by decide) (fun w9 hB9 hK9 hZ9 => ?_)
        have hA9 := hA8.at6 hB8' hK9
        have hg6 : b6 < w7.heap.size := hB7.lt
        have hB9g := hB8.keep hK9 (by simp; omega)
        have hB9' : Blk w9 b6 (cells (⟨p, 3, opAt cs p, 0, 0, [], [(p : Int) + av]⟩ : Ins) none 0 (some ⟨g8, 0, none⟩) 1).toArray 38 := hB9
        have hA9' : StA b4 b6 w w9 none 0 [] (some ⟨g8, 0, none⟩) 1 [(p : Int) + av] := { hA9 with sj := hB9g.sl (len := 1) (sz := 1) rfl (by decide), off := (by intro z hz; cases hz), fj := (by intro z hz; cases hz; have := hA7.keep.size; simp; omega) }
        refine o_nil ?_
        refine k_seq ?_
        refine k_region ?_
        refine o_lda (xs := cells (⟨p, 3, opAt cs p, 0, 0, [], [(p : Int) + av]⟩ : Ins) none 0 (some ⟨g8, 0, none⟩) 1) rfl rfl rfl (ldc hB9') ?_
        refine m_bool rfl rfl ?_
        obtain ⟨z4, hz4, hs4⟩ := hA9'.z4
        refine o_sta (xs := cells (⟨p, 3, opAt cs p, 0, 0, [], [(p : Int) + av]⟩ : Ins) none 0 (some ⟨g8, 0, none⟩) 1) rfl rfl rfl (cells_one _ _ _ _ _) hz4 (by rw [hs4]; exact Nat.le_refl 7) (fun wR hBR hKR hZR => ?_)
        refine m_bool rfl rfl ?_
        refine o_nil ?_
        refine k_ret (ret_cell1 (xs := cells (⟨p, 3, opAt cs p, 0, 0, [], [(p : Int) + av]⟩ : Ins) none 0 (some ⟨g8, 0, none⟩) 1) rfl rfl rfl rfl (stc rfl hs4 hBR) rfl ?_)
        exact StA.ret (x := (⟨p, 3, opAt cs p, 0, 0, [], [(p : Int) + av]⟩ : Ins)) (ok := decide (p + 1 + 2 ≤ cs.length)) hA9' rfl rfl hz4 hKR (fun h => by have h3 := of_decide_eq_true h; rw [rdw7 (hW.trans h77), if_pos h3, ← hav, if_pos h3, sgn2]) (fun h => by have h3 := of_decide_eq_false h; rw [rdw7 (hW.trans h77), if_neg h3])
      have h77 : W = 4 ∨ W = 5 ∨ W = 10 := by omega
      refine k_skip ?_
      refine k_seq ?_
      refine k_seq ?_
      refine k_cut (σ := Unit) (fun s => [(0, .slice a cs.length c), (1, .int .i64 (p : Int)), (4, .pointer (some ⟨b4, 0, none⟩)), (6, .pointer (some ⟨b6, 0, none⟩)), (7, .int .i64 (W : Int)), (8, .int .i64 av), (9, .bool (decide (p + 1 + 2 ≤ cs.length))), (90, .bool (decide (W ≠ 5 ∧ av < 0)))]) (fun s w' => w' = w7) ?_ (fun s e w' hJ => ?_)
      ·
        refine k_region ?_
        refine m_int rfl rfl ?_
        refine b_neq rfl rfl ?_
        refine m_bool rfl rfl ?_
        refine o_split (t := 87) rfl (fun h => ?_) (fun h => ?_)
        ·
          have h87 := h
          refine g_yes rfl rfl ?_
          refine m_int rfl rfl ?_
          refine g_yes rfl rfl ?_
          refine b_lss rfl rfl ?_
          refine pick_t rfl rfl ?_
          refine o_nil ?_
          refine k_goal ⟨(), ⟨rfl, rfl, rfl, rfl, rfl, rfl, rfl, congrArg Value.bool (decide_eq_decide.2 (by omega)), trivial⟩, rfl⟩
        ·
          have h87 := h
          refine g_no rfl rfl rfl ?_
          refine g_no rfl rfl rfl ?_
          refine pick_f rfl rfl ?_
          refine o_nil ?_
          refine k_goal ⟨(), ⟨rfl, rfl, rfl, rfl, rfl, rfl, rfl, congrArg Value.bool (decide_eq_false (by omega)).symm, trivial⟩, rfl⟩
      subst hJ
      refine k_cut (σ := Unit) (fun s => [(0, .slice a cs.length c), (1, .int .i64 (p : Int)), (4, .pointer (some ⟨b4, 0, none⟩)), (6, .pointer (some ⟨b6, 0, none⟩)), (7, .int .i64 (W : Int)), (8, .int .i64 (if W ≠ 5 ∧ av < 0 then av + 65536 else av)), (9, .bool (decide (p + 1 + 2 ≤ cs.length)))]) (fun s w2 => w2 = w') ?_ (fun s e w2 hJ => ?_)
      ·
        refine k_cond rfl (fun h => ?_) (fun h => ?_)
        ·
          refine k_region ?_
          refine m_int rfl rfl ?_
          refine n_add rfl rfl (by omega) ?_
          refine m_int rfl rfl ?_
          refine o_nil ?_
          refine k_goal ⟨(), ⟨rfl, rfl, rfl, rfl, rfl, by rw [if_pos h]; rfl, rfl, trivial⟩, rfl⟩
        refine k_skip ?_
        refine k_goal ⟨(), ⟨rfl, rfl, rfl, rfl, rfl, by rw [if_neg h]; rfl, rfl, trivial⟩, rfl⟩
      subst hJ
      refine k_seq ?_
      refine k_region ?_
      refine m_int rfl rfl ?_
      refine o_fld (off := 3) rfl rfl ?_
      refine o_st (v := iv (if W ≠ 5 ∧ av < 0 then av + 65536 else av)) rfl rfl rfl rfl hB7 (show 3 < 7 by decide) (fun w8 hB8 hK8 hZ8 => ?_)
      have hA8 := hA7.at6 hB7 hK8
      have hB8' : Blk w8 b6 (cells (⟨p, 3, opAt cs p, if W ≠ 5 ∧ av < 0 then av + 65536 else av, 0, [], []⟩ : Ins) none 0 none 0).toArray 38 := hB8
      refine o_nil ?_
      refine k_seq ?_
      refine k_region ?_
      refine m_int rfl rfl ?_
      refine b_eql rfl rfl ?_
      refine o_nil ?_
      refine k_cond rfl (fun h => ?_) (fun h => ?_)
      ·
        have h96 : W = 10 := by omega
        refine k_seq ?_
        refine k_region ?_
        refine o_fld (off := 1) rfl rfl ?_
        refine o_st (v := iv 5) rfl rfl rfl rfl hB8' (show 1 < 7 by decide) (fun w9 hB9 hK9 hZ9 => ?_)
        have hA9 := hA8.at6 hB8' hK9
        have hB9' : Blk w9 b6 (cells (⟨p, 5, opAt cs p, if W ≠ 5 ∧ av < 0 then av + 65536 else av, 0, [], []⟩ : Ins) none 0 none 0).toArray 38 := hB9
        refine o_nil ?_
        refine k_seq ?_
        refine k_seq ?_
        refine k_cut (σ := Unit) (fun s => [(0, .slice a cs.length c), (1, .int .i64 (p : Int)), (4, .pointer (some ⟨b4, 0, none⟩)), (6, .pointer (some ⟨b6, 0, none⟩)), (9, .bool (decide (p + 1 + 2 ≤ cs.length))), (110, .bool (decide (¬ (p + 5 ≤ cs.length ∧ numZ cs (p + 4) 1 = 0))))]) (fun s w' => w' = w9) ?_ (fun s e w' hJ => ?_)
        ·
          refine k_region ?_
          refine m_int rfl rfl ?_
          refine m_sl rfl rfl ?_
          refine o_lens Try.underlying22 rfl ?_
          refine n_sub rfl rfl (by omega) ?_
          refine b_gtr rfl rfl ?_
          refine m_bool rfl rfl ?_
          refine o_split (t := 103) rfl (fun h => ?_) (fun h => ?_)
          ·
            refine g_no rfl rfl rfl ?_
            refine g_no rfl rfl rfl ?_
            refine g_no rfl rfl rfl ?_
            refine g_no rfl rfl rfl ?_
            refine g_no rfl rfl rfl ?_
            refine g_no rfl rfl rfl ?_
            refine pick_t rfl rfl ?_
            refine o_nil ?_
            refine k_goal ⟨(), ⟨rfl, rfl, rfl, rfl, rfl, congrArg Value.bool (decide_eq_true (by omega)).symm, trivial⟩, rfl⟩
          ·
            have h103 : p + 5 ≤ cs.length := by omega
            refine g_yes rfl rfl ?_
            refine m_sl rfl rfl ?_
            refine g_yes rfl rfl ?_
            refine m_int rfl rfl ?_
            refine g_yes rfl rfl ?_
            refine n_add rfl rfl (by omega) ?_
            refine g_yes rfl rfl ?_
            obtain ⟨bq, oq, haq, hcq⟩ := hbt (p + 4) (by omega)
            refine o_ixs1 (m := p + 4) Try.underlying22 rfl (show _ = Value.slice (some ⟨bq, oq, none⟩) _ _ by rw [← haq]; rfl) rfl (by omega) ?_
            refine g_yes rfl rfl ?_
            refine o_ld rfl rfl (hcq _ hA9.keep) ?_
            refine g_yes rfl rfl ?_
            refine v8_neq (b := 0#8) rfl rfl ?_
            refine pick_f rfl rfl ?_
            refine o_nil ?_
            refine k_goal ⟨(), ⟨rfl, rfl, rfl, rfl, rfl, congrArg Value.bool (decide_eq_decide.2 ?_), trivial⟩, rfl⟩
            rw [hnz (p + 4) (by omega)]
            exact ⟨fun h1 h2 => h1 (BitVec.eq_of_toNat_eq h2.2), fun h1 h2 => h1 ⟨h103, by rw [h2]; rfl⟩⟩
        subst hJ
        refine k_cond rfl (fun h => ?_) (fun h => ?_)
        ·
          refine k_seq ?_
          refine k_region ?_
          refine o_lda (xs := cells (⟨p, 5, opAt cs p, if W ≠ 5 ∧ av < 0 then av + 65536 else av, 0, [], []⟩ : Ins) none 0 none 0) rfl rfl rfl (ldc hB9') ?_
          obtain ⟨z4, hz4, hs4⟩ := hA9.z4
          refine o_sta (xs := cells (⟨p, 5, opAt cs p, if W ≠ 5 ∧ av < 0 then av + 65536 else av, 0, [], []⟩ : Ins) none 0 none 0) rfl rfl rfl (cells_one _ _ _ _ _) hz4 (by rw [hs4]; exact Nat.le_refl 7) (fun wR hBR hKR hZR => ?_)
          refine m_bool rfl rfl ?_
          refine o_nil ?_
          refine k_ret (ret_cell1 (xs := cells (⟨p, 5, opAt cs p, if W ≠ 5 ∧ av < 0 then av + 65536 else av, 0, [], []⟩ : Ins) none 0 none 0) rfl rfl rfl rfl (stc rfl hs4 hBR) rfl ?_)
          exact StA.ret (x := (⟨p, 5, opAt cs p, if W ≠ 5 ∧ av < 0 then av + 65536 else av, 0, [], []⟩ : Ins)) (ok := false) hA9 rfl rfl hz4 hKR (fun h => by cases h) (fun _ => by rw [rdw10 (hW.trans h96), if_neg h])
        obtain ⟨h5, h0⟩ := Decidable.of_not_not h
        refine k_skip ?_
        refine k_region ?_
        refine m_sl rfl rfl ?_
        refine m_int rfl rfl ?_
        refine n_add rfl rfl (by omega) ?_
        obtain ⟨bq, oq, haq, hcq⟩ := hbt (p + 3) (by omega)
        refine o_ixs1 (m := p + 3) Try.underlying22 rfl (show _ = Value.slice (some ⟨bq, oq, none⟩) _ _ by rw [← haq]; rfl) rfl (by omega) ?_
        refine o_ld rfl rfl (hcq _ hA9.keep) ?_
        refine cv8_i rfl Try.underlying3 rfl ?_
        refine o_fld (off := 4) rfl rfl ?_
        refine o_st (v := iv ((cs.getD (p + 3) 0#8).toNat : Int)) rfl rfl rfl rfl hB9' (show 4 < 7 by decide) (fun w10 hB10 hK10 hZ10 => ?_)
        refine o_nil ?_
        refine k_blk ?_
        have hIF := iface_ok (hW.trans h96) hav h5 h0
        rw [hnz (p + 3) (by omega)] at hIF
        refine k_goal ⟨_, ⟨rfl, rfl, rfl, trivial⟩, ⟨⟨p, 5, opAt cs p, if W ≠ 5 ∧ av < 0 then av + 65536 else av, ((cs.getD (p + 3) 0#8).toNat : Int), [], []⟩, none, 0, none, 0, hB10, hA9.at6 hB9' hK10, fun _ => ?_, fun h => ?_⟩⟩
        · rw [hIF, h96]
        · have := of_decide_eq_false h; omega
      refine k_skip ?_
      refine k_blk ?_
      have hWI := wide_ok hW (by omega) hav
      refine k_goal ⟨_, ⟨rfl, rfl, rfl, trivial⟩, ⟨⟨p, 3, opAt cs p, if W ≠ 5 ∧ av < 0 then av + 65536 else av, 0, [], []⟩, none, 0, none, 0, hB8', hA8, hWI.1, hWI.2⟩⟩
    have h63 := h
    refine k_seq ?_
    refine k_region ?_
    refine b_eql rfl rfl ?_
    refine m_bool rfl rfl ?_
    refine o_nil ?_
    refine k_cond rfl (fun h => ?_) (fun h => ?_)
    ·
      have hw : W = 6 := by omega
      refine k_seq ?_
      refine k_region ?_
      refine o_fld (off := 1) rfl rfl ?_
      refine o_st (v := iv 3) rfl rfl rfl rfl hB5 (show 1 < 7 by decide) (fun w6 hB6 hK6 hZ6 => ?_)
      have hA6 := hA5.at6 hB5 hK6
      have hB6' : Blk w6 b6 (cells (⟨p, 3, opAt cs p, 0, 0, [], []⟩ : Ins) none 0 none 0).toArray 38 := hB6
      refine o_nil ?_
      refine k_seq ?_
      refine k_region ?_
      refine m_sl rfl rfl ?_
      refine m_int rfl rfl ?_
      refine n_add rfl rfl (by omega) ?_
      refine o_call rfl rfl (hNL 1 (p + 2) hA6.keep (by omega) (by decide) (by decide)) (fun v w7 hv => ?_)
      obtain ⟨rfl, hK7⟩ := hv
      have hB7 := hB6'.keep hK7 (by simp)
      have hA7 := hA6.new hK7
      obtain ⟨av, hav⟩ : ∃ av, (if p + 2 + 1 ≤ cs.length then sgn 1 (numZ cs (p + 2) 1) else 0) = av := ⟨_, rfl⟩
      rw [hav]
      refine m_any rfl rfl ?_
      refine o_extr rfl rfl ?_
      refine o_extr rfl rfl ?_
      refine o_fld (off := 4) rfl rfl ?_
      refine o_st (v := iv av) rfl rfl rfl rfl hB7 (show 4 < 7 by decide) (fun w8 hB8 hK8 hZ8 => ?_)
      have hA8 := hA7.at6 hB7 hK8
      have hB8' : Blk w8 b6 (cells (⟨p, 3, opAt cs p, 0, av, [], []⟩ : Ins) none 0 none 0).toArray 38 := hB8
      refine m_bool rfl rfl ?_
      refine o_nil ?_
      refine k_seq ?_
      refine k_region ?_
      refine m_bool rfl rfl ?_
      refine o_nil ?_
      refine k_cond rfl (fun h => ?_) (fun h => ?_)
      ·
        have h130 := h
        refine k_region ?_
        refine m_sl rfl rfl ?_
        refine m_int rfl rfl ?_
        refine n_add rfl rfl (by omega) ?_
        obtain ⟨bq, oq, haq, hcq⟩ := hbt (p + 1) (by omega)
        refine o_ixs1 (m := p + 1) Try.underlying22 rfl (show _ = Value.slice (some ⟨bq, oq, none⟩) _ _ by rw [← haq]; rfl) rfl (by omega) ?_
        refine o_ld rfl rfl (hcq _ hA8.keep) ?_
        refine cv8_i rfl Try.underlying3 rfl ?_
        refine o_fld (off := 3) rfl rfl ?_
        refine o_st (v := iv ((cs.getD (p + 1) 0#8).toNat : Int)) rfl rfl rfl rfl hB8' (show 3 < 7 by decide) (fun w9 hB9 hK9 hZ9 => ?_)
        refine o_nil ?_
        refine k_blk ?_
        refine k_goal ⟨_, ⟨rfl, rfl, rfl, trivial⟩, ⟨⟨p, 3, opAt cs p, ((cs.getD (p + 1) 0#8).toNat : Int), av, [], []⟩, none, 0, none, 0, hB9, hA8.at6 hB8' hK9, fun _ => ?_, fun h => ?_⟩⟩
        · rw [rdw6 (hW.trans hw), if_pos h130, hnz (p + 1) (by omega), ← hav, if_pos h130, sgn1]
        · exact absurd h130 (of_decide_eq_false h)
      refine k_skip ?_
      refine k_blk ?_
      refine k_goal ⟨_, ⟨rfl, rfl, rfl, trivial⟩, ⟨⟨p, 3, opAt cs p, 0, av, [], []⟩, none, 0, none, 0, hB8', hA8, fun h1 => ?_, fun _ => ?_⟩⟩
      · exact absurd (of_decide_eq_true h1) h
      · rw [rdw6 (hW.trans hw), if_neg h]
    have h119 := h
    refine k_seq ?_
    refine k_seq ?_
    refine k_region ?_
    refine b_eql rfl rfl ?_
    refine m_bool rfl rfl ?_
    refine o_nil ?_
    refine k_cut (σ := Unit) (fun s => [(0, .slice a cs.length c), (1, .int .i64 (p : Int)), (4, .pointer (some ⟨b4, 0, none⟩)), (6, .pointer (some ⟨b6, 0, none⟩)), (7, .int .i64 (W : Int)), (9, .bool true), (138, .bool (decide (W = 8 ∨ W = 9)))]) (fun s w3 => w3 = w2) ?_ (fun s e w3 hJ => ?_)
    ·
      refine k_cond rfl (fun h => ?_) (fun h => ?_)
      ·
        refine k_skip ?_
        refine k_goal ⟨(), ⟨rfl, rfl, rfl, rfl, rfl, rfl, congrArg Value.bool (decide_eq_decide.2 (by omega)), trivial⟩, rfl⟩
      have h138 := h
      refine k_region ?_
      refine b_eql rfl rfl ?_
      refine m_bool rfl rfl ?_
      refine o_nil ?_
      refine k_goal ⟨(), ⟨rfl, rfl, rfl, rfl, rfl, rfl, congrArg Value.bool (decide_eq_decide.2 (by omega)), trivial⟩, rfl⟩
    subst hJ
    refine k_cond rfl (fun h => ?_) (fun h => ?_)
    ·
      have hw := h
      have hw' : wayOf (opAt cs p) = 8 ∨ wayOf (opAt cs p) = 9 := by omega
      refine k_seq ?_
      refine k_region ?_
      refine m_int rfl rfl ?_
      refine n_add rfl rfl (by omega) ?_
      refine m_int rfl rfl ?_
      refine o_nil ?_
      refine k_seq ?_
      refine k_block ?_
      refine k_loop (σ := Nat) (fun i => [(0, .slice a cs.length c), (1, .int .i64 (p : Int)), (4, .pointer (some ⟨b4, 0, none⟩)), (6, .pointer (some ⟨b6, 0, none⟩)), (7, .int .i64 (W : Int)), (9, .bool true), (10, .int .i64 ((p + 1 + i : Nat) : Int))]) (fun i w4 => i ≤ q - (p + 1) ∧ zer cs (p + 1) i = true ∧ w4 = w3) (fun i => q - (p + 1) - i) 0 ⟨rfl, rfl, rfl, rfl, rfl, rfl, rfl, trivial⟩ ⟨Nat.zero_le _, rfl, rfl⟩ (fun i e w4 hJ => ?_)
      obtain ⟨hi, hzi, rfl⟩ := hJ
      refine k_seq ?_
      refine k_seq ?_
      refine k_region ?_
      refine m_int rfl rfl ?_
      refine b_rem rfl rfl (by decide) ?_
      rw [show ((p + 1 + i : Nat) : Int).tmod 4 = (((p + 1 + i) % 4 : Nat) : Int) from rfl]
      refine b_neq rfl rfl ?_
      refine o_nil ?_
      refine k_cond rfl (fun h => ?_) (fun h => ?_)
      rotate_left
      ·
        have hie : i = q - (p + 1) := by
         refine Decidable.byContradiction fun hh => h ?_
         unfold up4 at hq
         omega
        subst hie
        have hpq : p + 1 + (q - (p + 1)) = q := by omega
        rw [hpq]
        refine k_exit rfl ?_
        refine k_seq ?_
        refine k_region ?_
        refine m_sl rfl rfl ?_
        refine m_int rfl rfl ?_
        refine o_call rfl rfl (hNL 4 q hA5.keep (by omega) (by decide) (by decide)) (fun v w3 hv => ?_)
        obtain ⟨rfl, hK3a⟩ := hv
        refine m_any rfl rfl ?_
        refine o_extr rfl rfl ?_
        refine o_extr rfl rfl ?_
        refine m_int rfl rfl ?_
        refine m_bool rfl rfl ?_
        refine o_nil ?_
        refine k_seq ?_
        refine k_region ?_
        refine m_sl rfl rfl ?_
        refine m_int rfl rfl ?_
        refine n_add rfl rfl (by omega) ?_
        refine o_call rfl rfl (hNL 4 (q + 4) (hA5.keep.tr hK3a) (by omega) (by decide) (by decide)) (fun v w4 hv => ?_)
        obtain ⟨rfl, hK4a⟩ := hv
        have hB7 := (hB5.keep hK3a (by simp)).keep hK4a (by simp)
        have hA7 := (hA5.new hK3a).new hK4a
        obtain ⟨dv, hdv⟩ : ∃ dv, (if q + 4 ≤ cs.length then sgn 4 (numZ cs q 4) else 0) = dv := ⟨_, rfl⟩
        obtain ⟨nv, hnv⟩ : ∃ nv, (if q + 4 + 4 ≤ cs.length then sgn 4 (numZ cs (q + 4) 4) else 0) = nv := ⟨_, rfl⟩
        have hdb : -4294967296 ≤ dv ∧ dv ≤ 4294967296 := by rw [← hdv]; exact ite_b (sgn_b (by decide) (numZ_lt _ _ _))
        have hnb : -4294967296 ≤ nv ∧ nv ≤ 4294967296 := by rw [← hnv]; exact ite_b (sgn_b (by decide) (numZ_lt _ _ _))
        rw [hdv, hnv]
        refine m_any rfl rfl ?_
        refine o_extr rfl rfl ?_
        refine o_extr rfl rfl ?_
        refine m_int rfl rfl ?_
        refine m_bool rfl rfl ?_
        refine o_nil ?_
        refine k_seq ?_
        refine k_seq ?_
        refine k_cut (σ := Unit) (fun s => [(0, .slice a cs.length c), (1, .int .i64 (p : Int)), (4, .pointer (some ⟨b4, 0, none⟩)), (6, .pointer (some ⟨b6, 0, none⟩)), (7, .int .i64 (W : Int)), (9, .bool true), (10, .int .i64 (q : Int)), (11, .int .i64 dv), (13, .int .i64 nv), (178, .bool (decide (¬ q + 8 ≤ cs.length)))]) (fun s w' => w' = w4) ?_ (fun s e w' hJ => ?_)
        ·
          refine k_region ?_
          refine m_bool rfl rfl ?_
          refine u_not rfl ?_
          refine m_bool rfl rfl ?_
          refine o_split (t := 175) rfl (fun h => ?_) (fun h => ?_)
          ·
            have h175 := h
            refine g_no rfl rfl rfl ?_
            refine g_no rfl rfl rfl ?_
            refine pick_t rfl rfl ?_
            refine o_nil ?_
            refine k_goal ⟨(), ⟨rfl, rfl, rfl, rfl, rfl, rfl, rfl, rfl, rfl, congrArg Value.bool (decide_eq_true (by omega)).symm, trivial⟩, rfl⟩
          ·
            have h175 := h
            refine g_yes rfl rfl ?_
            refine m_bool rfl rfl ?_
            refine g_yes rfl rfl ?_
            refine u_not rfl ?_
            refine pick_f rfl rfl ?_
            refine o_nil ?_
            refine k_goal ⟨(), ⟨rfl, rfl, rfl, rfl, rfl, rfl, rfl, rfl, rfl, congrArg Value.bool (decide_eq_decide.2 (by omega)), trivial⟩, rfl⟩
        subst hJ
        refine k_cond rfl (fun h => ?_) (fun h => ?_)
        ·
          refine k_seq ?_
          refine k_region ?_
          refine o_lda (xs := cells (⟨p, 1, opAt cs p, 0, 0, [], []⟩ : Ins) none 0 none 0) rfl rfl rfl (ldc hB7) ?_
          obtain ⟨z4, hz4, hs4⟩ := hA7.z4
          refine o_sta (xs := cells (⟨p, 1, opAt cs p, 0, 0, [], []⟩ : Ins) none 0 none 0) rfl rfl rfl (cells_one _ _ _ _ _) hz4 (by rw [hs4]; exact Nat.le_refl 7) (fun wR hBR hKR hZR => ?_)
          refine m_bool rfl rfl ?_
          refine o_nil ?_
          refine k_ret (ret_cell1 (xs := cells (⟨p, 1, opAt cs p, 0, 0, [], []⟩ : Ins) none 0 none 0) rfl rfl rfl rfl (stc rfl hs4 hBR) rfl ?_)
          exact StA.ret (x := (⟨p, 1, opAt cs p, 0, 0, [], []⟩ : Ins)) (ok := false) hA7 rfl rfl hz4 hKR (fun h => by cases h) (fun _ => sw_none hq hw' (fun hh => h hh.2))
        have h8 : q + 8 ≤ cs.length := Decidable.of_not_not h
        have hdf : dv = far cs q := by rw [← hdv, if_pos (by omega), sgn4]; rfl
        have hnf : nv = far cs (q + 4) := by rw [← hnv, if_pos (by omega), sgn4]; rfl
        have hfb := far_b cs q
        refine k_skip ?_
        refine k_seq ?_
        refine k_region ?_
        refine m_int rfl rfl ?_
        refine m_int rfl rfl ?_
        refine n_add rfl rfl (by omega) ?_
        refine o_bsl (E := 3) (cs := #[iv ((p : Int) + dv)]) rfl (fun _ => by kernel_rfl) (fun g8 w8 hB8 hK8 hb8 hZ8 => ?_)
        have hB8' := hB7.keep hK8 (by simp)
        have hA8 := hA7.new hK8
        refine o_fld (off := 6) rfl rfl ?_
        refine o_st (v := .slice (some ⟨g8, 0, none⟩) 1 1) rfl rfl rfl rfl hB8' (show 6 < 7 by decide) (fun w9 hB9 hK9 hZ9 => ?_)
        have hA9 := hA8.at6 hB8' hK9
        have hg6 := hB7.lt
        have hB9g := hB8.keep hK9 (by simp; omega)
        have hB9' : Blk w9 b6 (cells (⟨p, 1, opAt cs p, 0, 0, [], [(p : Int) + dv]⟩ : Ins) none 0 (some ⟨g8, 0, none⟩) 1).toArray 38 := hB9
        have hA9' : StA b4 b6 w w9 none 0 [] (some ⟨g8, 0, none⟩) 1 [(p : Int) + dv] := { hA9 with sj := hB9g.sl (len := 1) (sz := 1) rfl (by decide), off := (by intro z hz; cases hz), fj := (by intro z hz; cases hz; have := hA7.keep.size; simp; omega) }
        refine o_nil ?_
        refine k_seq ?_
        refine k_seq ?_
        refine k_region ?_
        refine m_int rfl rfl ?_
        refine b_eql rfl rfl ?_
        refine o_nil ?_
        refine k_cut (σ := Nat) (fun pe => [(1, .int .i64 (p : Int)), (4, .pointer (some ⟨b4, 0, none⟩)), (6, .pointer (some ⟨b6, 0, none⟩)), (9, .bool true), (10, .int .i64 (pe : Int))]) (fun pe w' => pe ≤ cs.length ∧ p ≤ pe ∧ ∃ ks js ak ck aj cj, Blk w' b6 (cells (⟨p, 1, opAt cs p, 0, 0, ks, js⟩ : Ins) ak ck aj cj).toArray 38 ∧ StA b4 b6 w w' ak ck ks aj cj js ∧ rdOne cs p = some ⟨p, ((pe - p : Nat) : Int), opAt cs p, 0, 0, ks, js⟩) ?_ (fun pe e w' hJ => ?_)
        ·
          refine k_cond rfl (fun h => ?_) (fun h => ?_)
          ·
            have h186 : wayOf (opAt cs p) = 8 := by omega
            refine k_seq ?_
            refine k_region ?_
            refine m_sl rfl rfl ?_
            refine m_int rfl rfl ?_
            refine n_add rfl rfl (by omega) ?_
            refine o_call rfl rfl (hNL 4 (q + 8) hA9'.keep (by omega) (by decide) (by decide)) (fun v w10 hv => ?_)
            obtain ⟨rfl, hK10⟩ := hv
            have hB10 := hB9'.keep hK10 (by simp)
            have hA10 := hA9'.new hK10
            obtain ⟨mv, hmv⟩ : ∃ mv, (if q + 8 + 4 ≤ cs.length then sgn 4 (numZ cs (q + 8) 4) else 0) = mv := ⟨_, rfl⟩
            have hmb : -4294967296 ≤ mv ∧ mv ≤ 4294967296 := by rw [← hmv]; exact ite_b (sgn_b (by decide) (numZ_lt _ _ _))
            rw [hmv]
            refine m_any rfl rfl ?_
            refine o_extr rfl rfl ?_
            refine o_extr rfl rfl ?_
            refine m_int rfl rfl ?_
            refine m_bool rfl rfl ?_
            refine o_nil ?_
            refine k_seq ?_
            refine k_seq ?_
            refine k_cut (σ := Unit) (fun s => [(0, .slice a cs.length c), (1, .int .i64 (p : Int)), (4, .pointer (some ⟨b4, 0, none⟩)), (6, .pointer (some ⟨b6, 0, none⟩)), (9, .bool true), (10, .int .i64 (q : Int)), (13, .int .i64 nv), (15, .int .i64 mv), (208, .bool (decide (¬ (q + 12 ≤ cs.length ∧ nv ≤ mv ∧ mv - nv < cs.length))))]) (fun s w' => w' = w10) ?_ (fun s e w' hJ => ?_)
            ·
              refine k_region ?_
              refine m_bool rfl rfl ?_
              refine u_not rfl ?_
              refine m_bool rfl rfl ?_
              refine o_split (t := 196) rfl (fun h => ?_) (fun h => ?_)
              ·
                refine g_no rfl rfl rfl ?_
                refine g_no rfl rfl rfl ?_
                refine g_no rfl rfl rfl ?_
                refine pick_t rfl rfl ?_
                refine m_bool rfl rfl ?_
                refine g_no rfl rfl rfl ?_
                refine g_no rfl rfl rfl ?_
                refine g_no rfl rfl rfl ?_
                refine g_no rfl rfl rfl ?_
                refine g_no rfl rfl rfl ?_
                refine g_no rfl rfl rfl ?_
                refine pick_t rfl rfl ?_
                refine o_nil ?_
                refine k_goal ⟨(), ⟨rfl, rfl, rfl, rfl, rfl, rfl, rfl, rfl, congrArg Value.bool (decide_eq_true (by omega)).symm, trivial⟩, rfl⟩
              ·
                have h196 := Decidable.of_not_not h
                refine g_yes rfl rfl ?_
                refine m_int rfl rfl ?_
                refine g_yes rfl rfl ?_
                refine m_int rfl rfl ?_
                refine g_yes rfl rfl ?_
                refine b_gtr rfl rfl ?_
                refine pick_f rfl rfl ?_
                refine m_bool rfl rfl ?_
                refine o_split (t := 201) rfl (fun h => ?_) (fun h => ?_)
                ·
                  refine g_no rfl rfl rfl ?_
                  refine g_no rfl rfl rfl ?_
                  refine g_no rfl rfl rfl ?_
                  refine g_no rfl rfl rfl ?_
                  refine g_no rfl rfl rfl ?_
                  refine g_no rfl rfl rfl ?_
                  refine pick_t rfl rfl ?_
                  refine o_nil ?_
                  refine k_goal ⟨(), ⟨rfl, rfl, rfl, rfl, rfl, rfl, rfl, rfl, congrArg Value.bool (decide_eq_true (by omega)).symm, trivial⟩, rfl⟩
                ·
                  have h201 := h
                  refine g_yes rfl rfl ?_
                  refine m_int rfl rfl ?_
                  refine g_yes rfl rfl ?_
                  refine m_int rfl rfl ?_
                  refine g_yes rfl rfl ?_
                  refine n_sub rfl rfl (by omega) ?_
                  refine g_yes rfl rfl ?_
                  refine m_sl rfl rfl ?_
                  refine g_yes rfl rfl ?_
                  refine o_lens Try.underlying22 rfl ?_
                  refine g_yes rfl rfl ?_
                  refine b_geq rfl rfl ?_
                  refine pick_f rfl rfl ?_
                  refine o_nil ?_
                  refine k_goal ⟨(), ⟨rfl, rfl, rfl, rfl, rfl, rfl, rfl, rfl, congrArg Value.bool (decide_eq_decide.2 (by omega)), trivial⟩, rfl⟩
            subst hJ
            have hmf : q + 12 ≤ cs.length → mv = far cs (q + 8) := fun hh => by rw [← hmv, if_pos (by omega), sgn4]; rfl
            refine k_cond rfl (fun h => ?_) (fun h => ?_)
            ·
              refine k_seq ?_
              refine k_region ?_
              refine o_lda (xs := cells (⟨p, 1, opAt cs p, 0, 0, [], [(p : Int) + dv]⟩ : Ins) none 0 (some ⟨g8, 0, none⟩) 1) rfl rfl rfl (ldc hB10) ?_
              obtain ⟨z4, hz4, hs4⟩ := hA10.z4
              refine o_sta (xs := cells (⟨p, 1, opAt cs p, 0, 0, [], [(p : Int) + dv]⟩ : Ins) none 0 (some ⟨g8, 0, none⟩) 1) rfl rfl rfl (cells_one _ _ _ _ _) hz4 (by rw [hs4]; exact Nat.le_refl 7) (fun wR hBR hKR hZR => ?_)
              refine m_bool rfl rfl ?_
              refine o_nil ?_
              refine k_ret (ret_cell1 (xs := cells (⟨p, 1, opAt cs p, 0, 0, [], [(p : Int) + dv]⟩ : Ins) none 0 (some ⟨g8, 0, none⟩) 1) rfl rfl rfl rfl (stc rfl hs4 hBR) rfl ?_)
              exact StA.ret (x := (⟨p, 1, opAt cs p, 0, 0, [], [(p : Int) + dv]⟩ : Ins)) (ok := false) hA10 rfl rfl hz4 hKR (fun h => by cases h) (fun _ => by
                rw [rdw8 h186 hq, if_neg]
                rintro ⟨_, e1, e2, e3⟩
                rw [← hnf, ← hmf e1] at e2
                refine h ⟨e1, e2, ?_⟩
                unfold tabN at e3
                rw [← hnf, ← hmf e1] at e3
                omega)
            obtain ⟨h12, hle, hmn⟩ := Decidable.of_not_not h
            have hmf' := hmf h12
            have hN : (tabN cs q : Int) = mv - nv + 1 := by unfold tabN; rw [← hnf, ← hmf']; omega
            refine k_skip ?_
            refine k_seq ?_
            refine k_region ?_
            refine m_int rfl rfl ?_
            refine n_add rfl rfl (by omega) ?_
            refine m_int rfl rfl ?_
            refine o_nil ?_
            refine k_seq ?_
            refine k_region ?_
            refine m_int rfl rfl ?_
            refine m_int rfl rfl ?_
            refine o_nil ?_
            refine k_block ?_
            refine k_loop (σ := Nat) (fun i => [(0, .slice a cs.length c), (1, .int .i64 (p : Int)), (4, .pointer (some ⟨b4, 0, none⟩)), (6, .pointer (some ⟨b6, 0, none⟩)), (9, .bool true), (10, .int .i64 ((q + 12 + 4 * i : Nat) : Int)), (15, .int .i64 mv), (17, .int .i64 (nv + (i : Int)))]) (fun i w2 => i ≤ tabN cs q ∧ q + 12 + 4 * i ≤ cs.length ∧ ∃ ak ck aj cj, Blk w2 b6 (cells (⟨p, 1, opAt cs p, 0, 0, tabKeys cs q i, tabJumps cs p q i⟩ : Ins) ak ck aj cj).toArray 38 ∧ StA b4 b6 w w2 ak ck (tabKeys cs q i) aj cj (tabJumps cs p q i)) (fun i => tabN cs q - i) 0 ⟨rfl, rfl, rfl, rfl, rfl, rfl, rfl, by simp; rfl, trivial⟩ ⟨Nat.zero_le _, by omega, none, 0, (some ⟨g8, 0, none⟩), 1, by rw [show tabJumps cs p q 0 = [(p : Int) + dv] by rw [hdf]; rfl, show tabKeys cs q 0 = [] from rfl]; exact hB10, by rw [show tabJumps cs p q 0 = [(p : Int) + dv] by rw [hdf]; rfl, show tabKeys cs q 0 = [] from rfl]; exact hA10⟩ (fun i e w11 hJ => ?_)
            obtain ⟨hi, hpl, ak, ck, aj, cj, hB11, hA11⟩ := hJ
            refine k_seq ?_
            refine k_seq ?_
            refine k_region ?_
            refine m_int rfl rfl ?_
            refine m_int rfl rfl ?_
            refine b_leq rfl rfl ?_
            refine o_nil ?_
            refine k_cond rfl (fun h => ?_) (fun h => ?_)
            rotate_left
            ·
              refine k_exit rfl ?_
              have hie : i = tabN cs q := by omega
              subst hie
              refine k_goal ⟨q + 12 + 4 * tabN cs q, ⟨rfl, rfl, rfl, rfl, rfl, trivial⟩, ⟨hpl, by omega, _, _, ak, ck, aj, cj, hB11, hA11, ?_⟩⟩
              rw [rdw8 h186 hq, if_pos ⟨hzi, h12, by rw [← hnf, ← hmf']; exact hle, hpl⟩]
            have hin : i < tabN cs q := by omega
            refine k_skip ?_
            refine k_seq ?_
            refine k_block ?_
            refine k_seq ?_
            refine k_region ?_
            refine m_sl rfl rfl ?_
            refine m_int rfl rfl ?_
            refine o_call rfl rfl (hNL 4 (q + 12 + 4 * i) hA11.keep (by omega) (by decide) (by decide)) (fun v w12 hv => ?_)
            obtain ⟨rfl, hK12⟩ := hv
            have hB12 := hB11.keep hK12 (by simp)
            have hA12 := hA11.new hK12
            refine m_any rfl rfl ?_
            refine o_extr rfl rfl ?_
            refine o_extr rfl rfl ?_
            refine m_int rfl rfl ?_
            refine m_bool rfl rfl ?_
            refine o_nil ?_
            refine k_seq ?_
            refine k_seq ?_
            refine k_region ?_
            refine m_bool rfl rfl ?_
            refine u_not rfl ?_
            refine o_nil ?_
            refine k_cond rfl (fun h => ?_) (fun h => ?_)
            ·
              refine k_seq ?_
              refine k_region ?_
              refine o_lda (xs := cells (⟨p, 1, opAt cs p, 0, 0, tabKeys cs q i, tabJumps cs p q i⟩ : Ins) ak ck aj cj) rfl rfl rfl (ldc hB12) ?_
              obtain ⟨z4, hz4, hs4⟩ := hA12.z4
              refine o_sta (xs := cells (⟨p, 1, opAt cs p, 0, 0, tabKeys cs q i, tabJumps cs p q i⟩ : Ins) ak ck aj cj) rfl rfl rfl (cells_one _ _ _ _ _) hz4 (by rw [hs4]; exact Nat.le_refl 7) (fun wR hBR hKR hZR => ?_)
              refine m_bool rfl rfl ?_
              refine o_nil ?_
              refine k_ret (ret_cell1 (xs := cells (⟨p, 1, opAt cs p, 0, 0, tabKeys cs q i, tabJumps cs p q i⟩ : Ins) ak ck aj cj) rfl rfl rfl rfl (stc rfl hs4 hBR) rfl ?_)
              exact StA.ret (x := (⟨p, 1, opAt cs p, 0, 0, tabKeys cs q i, tabJumps cs p q i⟩ : Ins)) (ok := false) hA12 rfl rfl hz4 hKR (fun h => by cases h) (fun _ => by rw [rdw8 h186 hq, if_neg (fun hh => h (by have := hh.2.2.2; omega))])
            have hth := Decidable.of_not_not h
            have hto : (if q + 12 + 4 * i + 4 ≤ cs.length then sgn 4 (numZ cs (q + 12 + 4 * i) 4) else 0) = far cs (q + 12 + 4 * i) := by rw [if_pos hth, sgn4]; rfl
            rw [hto]
            have hfb2 := far_b cs (q + 12 + 4 * i)
            obtain ⟨H0, hH0⟩ : ∃ H0, H0 = w12.heap.size := ⟨_, rfl⟩
            have hdr : w12.drew.heap.size = w12.heap.size := rfl
            have hD2 : Keep [] w12 w12.drew := (Keep.refl [] w12).drew
            have hlk : ∀ z, ak = some z → z.block < H0 := fun z hz => hH0 ▸ hA12.sk.lt z hz
            have hlj : ∀ z, aj = some z → z.block < H0 := fun z hz => hH0 ▸ hA12.sj.lt z hz
            have hn6 : b6 ∉ blkOf ak ++ blkOf aj := fun hm => (List.mem_append.1 hm).elim (hA12.sk.notin hB12 (by decide)) (hA12.sj.notin hB12 (by decide))
            have hge : ∀ b, H0 ≤ b → b ∉ blkOf ak ++ blkOf aj := fun b hb hm => (List.mem_append.1 hm).elim (fun h => by obtain ⟨z, hz, hze⟩ := blkOf_some.1 h; have := hlk z hz; omega) (fun h => by obtain ⟨z, hz, hze⟩ := blkOf_some.1 h; have := hlj z hz; omega)
            refine k_skip ?_
            refine k_seq ?_
            refine k_anyE 13 (Keep (blkOf ak ++ blkOf aj)) (fun iA => match iA with
                | 0 => fun v w => v = .pointer (some ⟨b6, 5, none⟩)
                | 1 => fun v w => v = .slice ak (tabKeys cs q i).length ck
                | 2 => fun v w => v = .int .i64 (nv + (i : Int))
                | 3 => fun v w => ∃ g, v = .slice (some ⟨g, 0, none⟩) 1 1 ∧ Blk w g #[iv (nv + (i : Int))] 3 ∧ H0 ≤ g
                | 4 => fun v w => True
                | 5 => fun v w => v = .pointer (some ⟨b6, 6, none⟩)
                | 6 => fun v w => v = .slice aj (tabJumps cs p q i).length cj
                | 7 => fun v w => v = .int .i64 (p : Int)
                | 8 => fun v w => v = .int .i64 (far cs (q + 12 + 4 * i))
                | 9 => fun v w => v = .int .i64 ((p : Int) + far cs (q + 12 + 4 * i))
                | 10 => fun v w => ∃ g, v = .slice (some ⟨g, 0, none⟩) 1 1 ∧ Blk w g #[iv ((p : Int) + far cs (q + 12 + 4 * i))] 3 ∧ H0 ≤ g
                | 11 => fun v w => True
                | 12 => fun v w => v = .pointer (some ⟨b6, 5, none⟩)
                | _ => fun v w => True) (fun D e w' => Two H0 ak ck (tabKeys cs q i) (nv + (i : Int)) aj cj (tabJumps cs p q i) ((p : Int) + far cs (q + 12 + 4 * i)) (D 4) (D 11) (e 231) (e 238) w') rfl rfl rfl rfl (Keep.refl _) (fun _ _ _ h1 h2 => h1.trans h2 (fun _ h _ => h)) ?_ (Two.init (hA12.new hD2).sk (hA12.new hD2).sj) ?_ ?_
            · intro iA v w w' h hL
              match iA, h with
              | 0, h =>
                exact h
              | 1, h =>
                exact h
              | 2, h =>
                exact h
              | 3, h =>
                obtain ⟨g, h1, h2, h3⟩ := h
                exact ⟨g, h1, h2.keep hL (hge g h3), h3⟩
              | 4, h =>
                exact h
              | 5, h =>
                exact h
              | 6, h =>
                exact h
              | 7, h =>
                exact h
              | 8, h =>
                exact h
              | 9, h =>
                exact h
              | 10, h =>
                obtain ⟨g, h1, h2, h3⟩ := h
                exact ⟨g, h1, h2.keep hL (hge g h3), h3⟩
              | 11, h =>
                exact h
              | 12, h =>
                exact h
              | _ + 13, h => trivial
            · intro iA o him hl D eA wA hDi hdp hSh hG hL hA hD
              match iA, him, hl with
              | 0, _, hl =>
                obtain rfl := Option.some.inj hl
                refine o_gen [(6, _)] ⟨hA 6 (free_of rfl), trivial⟩ (fun e2 => ?_)
                refine o_fld (off := 5) rfl rfl ?_
                refine o_nil ⟨(Keep.refl _) _, rfl, hG⟩
              | 1, _, hl =>
                obtain rfl := Option.some.inj hl
                refine o_gen [(227, _)] ⟨hD 0 (by decide) 227 rfl, trivial⟩ (fun e2 => ?_)
                refine o_ld rfl rfl ((((hB12.keep hD2 (by simp)).keep hL hn6)).at rfl) ?_
                refine o_nil ⟨(Keep.refl _) _, rfl, hG⟩
              | 2, _, hl =>
                obtain rfl := Option.some.inj hl
                refine o_gen [(17, _)] ⟨hA 17 (free_of rfl), trivial⟩ (fun e2 => ?_)
                refine m_int rfl rfl ?_
                refine o_nil ⟨(Keep.refl _) _, rfl, hG⟩
              | 3, _, hl =>
                obtain rfl := Option.some.inj hl
                refine o_gen [(229, _)] ⟨hD 2 (by decide) 229 rfl, trivial⟩ (fun e2 => ?_)
                refine o_bsl (E := 3) (cs := #[iv (nv + (i : Int))]) rfl (fun _ => by kernel_rfl) (fun g w13 hB13 hK13 hb13 hZ13 => ?_)
                refine o_nil ⟨hK13.also, ⟨g, rfl, hB13, by have := hL.size; omega⟩, hG.new hK13⟩
              | 4, _, hl =>
                obtain rfl := Option.some.inj hl
                obtain ⟨g, hg1, hg2, hg3⟩ := hD 3 (by decide) 230 rfl
                refine o_gen [(228, _), (230, .slice (some ⟨g, 0, none⟩) 1 1)] ⟨hD 1 (by decide) 228 rfl, hg1, trivial⟩ (fun e2 => ?_)
                rw [hDi] at hG
                refine o_app2 Try.underlying36 inf3 rfl (by decide) rfl rfl (hG.k0 rfl) hg2.rd rfl (by simp [iv, Value.oneCell']) (by rw [tabKeys_len]; simp [maxLen]; omega) (by rw [tabKeys_len]; omega) (fun a2 c2 w13 hS13 hv13 => ?_)
                have hT := Two.appK hA12.off hlk hlj (by have := hL.size; omega) hG hS13 hv13
                refine o_nil ⟨hT.2, trivial, hT.1⟩
              | 5, _, hl =>
                obtain rfl := Option.some.inj hl
                refine o_gen [(6, _)] ⟨hA 6 (free_of rfl), trivial⟩ (fun e2 => ?_)
                refine o_fld (off := 6) rfl rfl ?_
                refine o_nil ⟨(Keep.refl _) _, rfl, hG⟩
              | 6, _, hl =>
                obtain rfl := Option.some.inj hl
                refine o_gen [(232, _)] ⟨hD 5 (by decide) 232 rfl, trivial⟩ (fun e2 => ?_)
                refine o_ld rfl rfl ((((hB12.keep hD2 (by simp)).keep hL hn6)).at rfl) ?_
                refine o_nil ⟨(Keep.refl _) _, rfl, hG⟩
              | 7, _, hl =>
                obtain rfl := Option.some.inj hl
                refine o_gen [(1, _)] ⟨hA 1 (free_of rfl), trivial⟩ (fun e2 => ?_)
                refine m_int rfl rfl ?_
                refine o_nil ⟨(Keep.refl _) _, rfl, hG⟩
              | 8, _, hl =>
                obtain rfl := Option.some.inj hl
                refine o_gen [(18, _)] ⟨hA 18 (free_of rfl), trivial⟩ (fun e2 => ?_)
                refine m_int rfl rfl ?_
                refine o_nil ⟨(Keep.refl _) _, rfl, hG⟩
              | 9, _, hl =>
                obtain rfl := Option.some.inj hl
                refine o_gen [(234, _), (235, _)] ⟨hD 7 (by decide) 234 rfl, hD 8 (by decide) 235 rfl, trivial⟩ (fun e2 => ?_)
                refine n_add rfl rfl (by omega) ?_
                refine o_nil ⟨(Keep.refl _) _, rfl, hG⟩
              | 10, _, hl =>
                obtain rfl := Option.some.inj hl
                refine o_gen [(236, _)] ⟨hD 9 (by decide) 236 rfl, trivial⟩ (fun e2 => ?_)
                refine o_bsl (E := 3) (cs := #[iv ((p : Int) + far cs (q + 12 + 4 * i))]) rfl (fun _ => by kernel_rfl) (fun g w13 hB13 hK13 hb13 hZ13 => ?_)
                refine o_nil ⟨hK13.also, ⟨g, rfl, hB13, by have := hL.size; omega⟩, hG.new hK13⟩
              | 11, _, hl =>
                obtain rfl := Option.some.inj hl
                obtain ⟨g, hg1, hg2, hg3⟩ := hD 10 (by decide) 237 rfl
                refine o_gen [(233, _), (237, .slice (some ⟨g, 0, none⟩) 1 1)] ⟨hD 6 (by decide) 233 rfl, hg1, trivial⟩ (fun e2 => ?_)
                rw [hDi] at hG
                refine o_app2 Try.underlying36 inf3 rfl (by decide) rfl rfl (hG.j0 rfl) hg2.rd rfl (by simp [iv, Value.oneCell']) (by rw [tabJumps_len]; simp [maxLen]; omega) (by rw [tabJumps_len]; omega) (fun a2 c2 w13 hS13 hv13 => ?_)
                have hT := Two.appJ hA12.off hlk hlj (by have := hL.size; omega) hG hS13 hv13
                refine o_nil ⟨hT.2, trivial, hT.1⟩
              | 12, _, hl =>
                obtain rfl := Option.some.inj hl
                refine o_gen [(6, _)] ⟨hA 6 (free_of rfl), trivial⟩ (fun e2 => ?_)
                refine o_fld (off := 5) rfl rfl ?_
                refine o_nil ⟨(Keep.refl _) _, rfl, hG⟩
              | _ + 13, him, _ => exact absurd him (by omega)
            intro D eA wA hAll hG hL hA hV
            have d4 := hAll 4 (by decide) (by decide)
            have d11 := hAll 11 (by decide) (by decide)
            obtain ⟨ak2, ck2, ek, hSk2, hfk2⟩ := hG.k1 d4
            obtain ⟨aj2, cj2, ej, hSj2, hfj2⟩ := hG.j1 d11
            have hof2 := hG.off d4 d11 _ _ _ _ _ _ ek ej
            have hL' : Keep (blkOf ak ++ blkOf aj) w12 wA := hD2.also.trans hL (fun _ h _ => h)
            have hBA := hB12.keep hL' hn6
            have hAA := hA12.two (cs := #[]) hL' hSk2 (by rw [← hH0]; exact hfk2) hSj2 (by rw [← hH0]; exact hfj2) hof2
            refine o_gen [(0, .slice a cs.length c), (1, .int .i64 (p : Int)), (4, .pointer (some ⟨b4, 0, none⟩)), (6, .pointer (some ⟨b6, 0, none⟩)), (9, .bool true), (10, .int .i64 ((q + 12 + 4 * i : Nat) : Int)), (15, .int .i64 mv), (17, .int .i64 (nv + (i : Int))), (231, .slice ak2 ((tabKeys cs q i).length + 1) ck2), (238, .slice aj2 ((tabJumps cs p q i).length + 1) cj2), (239, .pointer (some ⟨b6, 5, none⟩))] ⟨hA 0 (free_of rfl), hA 1 (free_of rfl), hA 4 (free_of rfl), hA 6 (free_of rfl), hA 9 (free_of rfl), hA 10 (free_of rfl), hA 15 (free_of rfl), hA 17 (free_of rfl), ek, ej, hV 12 (by decide) 239 rfl, trivial⟩ (fun e => ?_)
            change ow _ _ _ _ [_, _, _] _ _
            refine o_st (v := .slice ak2 ((tabKeys cs q i).length + 1) ck2) rfl rfl rfl rfl hBA (show 5 < 7 by decide) (fun w14 hB14 hK14 hZ14 => ?_)
            have hA14 := hAA.at6 hBA hK14
            refine o_fld (off := 6) rfl rfl ?_
            refine o_st (v := .slice aj2 ((tabJumps cs p q i).length + 1) cj2) rfl rfl rfl rfl hB14 (show 6 < 7 by decide) (fun w15 hB15 hK15 hZ15 => ?_)
            have hA15 := hA14.at6 hB14 hK15
            have hB15' : Blk w15 b6 (cells (⟨p, 1, opAt cs p, 0, 0, tabKeys cs q i ++ [nv + (i : Int)], tabJumps cs p q i ++ [(p : Int) + far cs (q + 12 + 4 * i)]⟩ : Ins) ak2 ck2 aj2 cj2).toArray 38 := by
             unfold cells
             simp only [List.length_append, List.length_singleton]
             exact hB15
            refine o_nil ?_
            refine k_region ?_
            refine m_int rfl rfl ?_
            refine n_add rfl rfl (by omega) ?_
            refine m_int rfl rfl ?_
            refine o_nil ?_
            refine k_blk ?_
            refine k_region ?_
            refine m_int rfl rfl ?_
            refine n_add rfl rfl (by omega) ?_
            refine m_int rfl rfl ?_
            refine o_nil ?_
            refine k_goal ⟨i + 1, ⟨rfl, rfl, rfl, rfl, rfl, congrArg (Value.int .i64) (by omega), rfl, congrArg (Value.int .i64) (by omega), trivial⟩, ⟨by omega, by omega, ak2, ck2, aj2, cj2, ?_, ?_⟩, by omega⟩
            · rw [tabKeys_succ, tabJumps_succ, ← hnf]; exact hB15'
            · rw [tabKeys_succ, tabJumps_succ, ← hnf]; exact hA15
          have h186 : wayOf (opAt cs p) = 9 := by omega
          refine k_seq ?_
          refine k_seq ?_
          refine k_cut (σ := Unit) (fun s => [(0, .slice a cs.length c), (1, .int .i64 (p : Int)), (4, .pointer (some ⟨b4, 0, none⟩)), (6, .pointer (some ⟨b6, 0, none⟩)), (9, .bool true), (10, .int .i64 (q : Int)), (13, .int .i64 nv), (250, .bool (decide (¬ (0 ≤ nv ∧ nv < cs.length))))]) (fun s w' => w' = w9) ?_ (fun s e w' hJ => ?_)
          ·
            refine k_region ?_
            refine m_int rfl rfl ?_
            refine b_lss rfl rfl ?_
            refine m_bool rfl rfl ?_
            refine o_split (t := 245) rfl (fun h => ?_) (fun h => ?_)
            ·
              refine g_no rfl rfl rfl ?_
              refine g_no rfl rfl rfl ?_
              refine g_no rfl rfl rfl ?_
              refine g_no rfl rfl rfl ?_
              refine pick_t rfl rfl ?_
              refine o_nil ?_
              refine k_goal ⟨(), ⟨rfl, rfl, rfl, rfl, rfl, rfl, rfl, congrArg Value.bool (decide_eq_true (by omega)).symm, trivial⟩, rfl⟩
            ·
              have h245 := h
              refine g_yes rfl rfl ?_
              refine m_int rfl rfl ?_
              refine g_yes rfl rfl ?_
              refine m_sl rfl rfl ?_
              refine g_yes rfl rfl ?_
              refine o_lens Try.underlying22 rfl ?_
              refine g_yes rfl rfl ?_
              refine b_geq rfl rfl ?_
              refine pick_f rfl rfl ?_
              refine o_nil ?_
              refine k_goal ⟨(), ⟨rfl, rfl, rfl, rfl, rfl, rfl, rfl, congrArg Value.bool (decide_eq_decide.2 (by omega)), trivial⟩, rfl⟩
          subst hJ
          refine k_cond rfl (fun h => ?_) (fun h => ?_)
          ·
            refine k_seq ?_
            refine k_region ?_
            refine o_lda (xs := cells (⟨p, 1, opAt cs p, 0, 0, [], [(p : Int) + dv]⟩ : Ins) none 0 (some ⟨g8, 0, none⟩) 1) rfl rfl rfl (ldc hB9') ?_
            obtain ⟨z4, hz4, hs4⟩ := hA9'.z4
            refine o_sta (xs := cells (⟨p, 1, opAt cs p, 0, 0, [], [(p : Int) + dv]⟩ : Ins) none 0 (some ⟨g8, 0, none⟩) 1) rfl rfl rfl (cells_one _ _ _ _ _) hz4 (by rw [hs4]; exact Nat.le_refl 7) (fun wR hBR hKR hZR => ?_)
            refine m_bool rfl rfl ?_
            refine o_nil ?_
            refine k_ret (ret_cell1 (xs := cells (⟨p, 1, opAt cs p, 0, 0, [], [(p : Int) + dv]⟩ : Ins) none 0 (some ⟨g8, 0, none⟩) 1) rfl rfl rfl rfl (stc rfl hs4 hBR) rfl ?_)
            exact StA.ret (x := (⟨p, 1, opAt cs p, 0, 0, [], [(p : Int) + dv]⟩ : Ins)) (ok := false) hA9' rfl rfl hz4 hKR (fun h => by cases h) (fun _ => by
              rw [rdw9 h186 hq, if_neg]
              rintro ⟨_, e1, e2, e3, _⟩
              rw [← hnf] at e2
              refine h ⟨e2, ?_⟩
              unfold lukN at e3
              rw [← hnf] at e3
              omega)
          obtain ⟨hn0, hnl⟩ := Decidable.of_not_not h
          have hN : (lukN cs q : Int) = nv := by unfold lukN; rw [← hnf]; omega
          refine k_skip ?_
          refine k_seq ?_
          refine k_region ?_
          refine m_int rfl rfl ?_
          refine n_add rfl rfl (by omega) ?_
          refine m_int rfl rfl ?_
          refine o_nil ?_
          refine k_seq ?_
          refine k_region ?_
          refine m_int rfl rfl ?_
          refine o_nil ?_
          refine k_block ?_
          refine k_loop (σ := Nat) (fun i => [(0, .slice a cs.length c), (1, .int .i64 (p : Int)), (4, .pointer (some ⟨b4, 0, none⟩)), (6, .pointer (some ⟨b6, 0, none⟩)), (9, .bool true), (10, .int .i64 ((q + 8 + 8 * i : Nat) : Int)), (13, .int .i64 nv), (20, .int .i64 (i : Int))]) (fun i w2 => i ≤ lukN cs q ∧ q + 8 + 8 * i ≤ cs.length ∧ rise cs (q + 8) i ∧ ∃ ak ck aj cj, Blk w2 b6 (cells (⟨p, 1, opAt cs p, 0, 0, lukKeys cs q i, lukJumps cs p q i⟩ : Ins) ak ck aj cj).toArray 38 ∧ StA b4 b6 w w2 ak ck (lukKeys cs q i) aj cj (lukJumps cs p q i)) (fun i => lukN cs q - i) 0 ⟨rfl, rfl, rfl, rfl, rfl, rfl, rfl, rfl, trivial⟩ ⟨Nat.zero_le _, by omega, fun i h1 h2 => by omega, none, 0, (some ⟨g8, 0, none⟩), 1, by rw [show lukJumps cs p q 0 = [(p : Int) + dv] by rw [hdf]; rfl, show lukKeys cs q 0 = [] from rfl]; exact hB9', by rw [show lukJumps cs p q 0 = [(p : Int) + dv] by rw [hdf]; rfl, show lukKeys cs q 0 = [] from rfl]; exact hA9'⟩ (fun i e w11 hJ => ?_)
          obtain ⟨hi, hpl, hri, ak, ck, aj, cj, hB11, hA11⟩ := hJ
          refine k_seq ?_
          refine k_seq ?_
          refine k_region ?_
          refine m_int rfl rfl ?_
          refine m_int rfl rfl ?_
          refine b_lss rfl rfl ?_
          refine o_nil ?_
          refine k_cond rfl (fun h => ?_) (fun h => ?_)
          rotate_left
          ·
            refine k_exit rfl ?_
            have hie : i = lukN cs q := by omega
            subst hie
            refine k_goal ⟨q + 8 + 8 * lukN cs q, ⟨rfl, rfl, rfl, rfl, rfl, trivial⟩, ⟨hpl, by omega, _, _, ak, ck, aj, cj, hB11, hA11, ?_⟩⟩
            rw [rdw9 h186 hq, if_pos ⟨hzi, h8, by rw [← hnf]; exact hn0, hpl, hri⟩]
          have hin : i < lukN cs q := by omega
          refine k_skip ?_
          refine k_seq ?_
          refine k_block ?_
          refine k_seq ?_
          refine k_region ?_
          refine m_sl rfl rfl ?_
          refine m_int rfl rfl ?_
          refine o_call rfl rfl (hNL 4 (q + 8 + 8 * i) hA11.keep (by omega) (by decide) (by decide)) (fun v w11a hv => ?_)
          obtain ⟨rfl, hK11a⟩ := hv
          refine m_any rfl rfl ?_
          refine o_extr rfl rfl ?_
          refine o_extr rfl rfl ?_
          refine m_int rfl rfl ?_
          refine m_bool rfl rfl ?_
          refine o_nil ?_
          refine k_seq ?_
          refine k_region ?_
          refine m_sl rfl rfl ?_
          refine m_int rfl rfl ?_
          refine n_add rfl rfl (by omega) ?_
          refine o_call rfl rfl (hNL 4 (q + 8 + 8 * i + 4) (hA11.keep.tr hK11a) (by omega) (by decide) (by decide)) (fun v w12 hv => ?_)
          obtain ⟨rfl, hK12⟩ := hv
          have hB12 := (hB11.keep hK11a (by simp)).keep hK12 (by simp)
          have hA12 := (hA11.new hK11a).new hK12
          obtain ⟨kv, hkv⟩ : ∃ kv, (if q + 8 + 8 * i + 4 ≤ cs.length then sgn 4 (numZ cs (q + 8 + 8 * i) 4) else 0) = kv := ⟨_, rfl⟩
          obtain ⟨tv, htv⟩ : ∃ tv, (if q + 8 + 8 * i + 4 + 4 ≤ cs.length then sgn 4 (numZ cs (q + 8 + 8 * i + 4) 4) else 0) = tv := ⟨_, rfl⟩
          have hkf : q + 8 + 8 * i + 8 ≤ cs.length → kv = far cs (q + 8 + 8 * i) ∧ tv = far cs (q + 8 + 8 * i + 4) := fun hh => ⟨by rw [← hkv, if_pos (by omega), sgn4]; rfl, by rw [← htv, if_pos (by omega), sgn4]; rfl⟩
          rw [hkv, htv]
          refine m_any rfl rfl ?_
          refine o_extr rfl rfl ?_
          refine o_extr rfl rfl ?_
          refine m_int rfl rfl ?_
          refine m_bool rfl rfl ?_
          refine o_nil ?_
          refine k_seq ?_
          refine k_seq ?_
          refine k_cut (σ := Unit) (fun s => [(0, .slice a cs.length c), (1, .int .i64 (p : Int)), (4, .pointer (some ⟨b4, 0, none⟩)), (6, .pointer (some ⟨b6, 0, none⟩)), (9, .bool true), (10, .int .i64 ((q + 8 + 8 * i : Nat) : Int)), (13, .int .i64 nv), (20, .int .i64 (i : Int)), (21, .int .i64 kv), (23, .int .i64 tv), (291, .bool (decide (¬ (q + 8 + 8 * i + 8 ≤ cs.length ∧ (0 < i → far cs (q + 8 + 8 * (i - 1)) < far cs (q + 8 + 8 * i))))))]) (fun s w' => w' = w12) ?_ (fun s e w' hJ => ?_)
          ·
            refine k_region ?_
            refine m_bool rfl rfl ?_
            refine u_not rfl ?_
            refine m_bool rfl rfl ?_
            refine o_split (t := 274) rfl (fun h => ?_) (fun h => ?_)
            ·
              refine g_no rfl rfl rfl ?_
              refine g_no rfl rfl rfl ?_
              refine pick_t rfl rfl ?_
              refine m_bool rfl rfl ?_
              refine g_no rfl rfl rfl ?_
              refine g_no rfl rfl rfl ?_
              refine g_no rfl rfl rfl ?_
              refine g_un rfl rfl ?_
              refine g_un rfl rfl ?_
              refine g_un rfl rfl ?_
              refine g_un rfl rfl ?_
              refine g_un rfl rfl ?_
              refine g_un rfl rfl ?_
              refine g_un rfl rfl ?_
              refine g_un rfl rfl ?_
              refine g_no rfl rfl rfl ?_
              refine pick_t rfl rfl ?_
              refine o_nil ?_
              refine k_goal ⟨(), ⟨rfl, rfl, rfl, rfl, rfl, rfl, rfl, rfl, rfl, rfl, congrArg Value.bool (decide_eq_true (by omega)).symm, trivial⟩, rfl⟩
            ·
              have h274 := Decidable.of_not_not h
              refine g_yes rfl rfl ?_
              refine m_bool rfl rfl ?_
              refine g_yes rfl rfl ?_
              refine u_not rfl ?_
              refine pick_f rfl rfl ?_
              refine m_bool rfl rfl ?_
              refine o_split (t := 278) rfl (fun h => ?_) (fun h => ?_)
              ·
                refine g_no rfl rfl rfl ?_
                refine g_no rfl rfl rfl ?_
                refine g_no rfl rfl rfl ?_
                refine g_un rfl rfl ?_
                refine g_un rfl rfl ?_
                refine g_un rfl rfl ?_
                refine g_un rfl rfl ?_
                refine g_un rfl rfl ?_
                refine g_un rfl rfl ?_
                refine g_un rfl rfl ?_
                refine g_un rfl rfl ?_
                refine g_no rfl rfl rfl ?_
                refine pick_t rfl rfl ?_
                refine o_nil ?_
                refine k_goal ⟨(), ⟨rfl, rfl, rfl, rfl, rfl, rfl, rfl, rfl, rfl, rfl, congrArg Value.bool (decide_eq_true (by omega)).symm, trivial⟩, rfl⟩
              ·
                have h278 := Decidable.of_not_not h
                refine g_yes rfl rfl ?_
                refine m_int rfl rfl ?_
                refine g_yes rfl rfl ?_
                refine b_gtr rfl rfl ?_
                refine g_yes rfl rfl ?_
                refine m_bool rfl rfl ?_
                refine o_split (t := 281) rfl (fun h => ?_) (fun h => ?_)
                ·
                  have h281 : 0 < i := by omega
                  have hk1 : i - 1 < (lukKeys cs q i).length := by rw [lukKeys_len]; omega
                  have hkx := iv_at (lukKeys cs q i) (i - 1) hk1
                  obtain ⟨bk, ok_, hake, _⟩ := hA12.sk.rd _ _ hkx
                  have hkget : (lukKeys cs q i)[i - 1] = far cs (q + 8 + 8 * (i - 1)) := by simp [lukKeys]
                  refine g_yes rfl rfl ?_
                  refine o_fld (off := 5) rfl rfl ?_
                  refine g_yes rfl rfl ?_
                  refine o_ld (v := .slice ak (lukKeys cs q i).length ck) rfl rfl (hB12.at rfl) ?_
                  refine g_yes rfl rfl ?_
                  refine m_int rfl rfl ?_
                  refine g_yes rfl rfl ?_
                  refine n_sub rfl rfl (by omega) ?_
                  refine g_yes rfl rfl ?_
                  refine o_ixs1 (m := i - 1) Try.underlying36 rfl (show _ = Value.slice (some ⟨bk, ok_, none⟩) _ _ by rw [← hake]; rfl) (congrArg (Value.int .i64) (by omega)) hk1 ?_
                  refine g_yes rfl rfl ?_
                  refine o_ld (v := iv (far cs (q + 8 + 8 * (i - 1)))) rfl rfl (by have hrk := hA12.sk.rd; rw [hake] at hrk; rw [← hkget]; exact hrk.cellK (Keep.refl _ _) hkx) ?_
                  refine g_yes rfl rfl ?_
                  refine m_int rfl rfl ?_
                  refine g_yes rfl rfl ?_
                  refine b_geq rfl rfl ?_
                  refine g_yes rfl rfl ?_
                  refine pick_t rfl rfl ?_
                  refine pick_f rfl rfl ?_
                  refine o_nil ?_
                  refine k_goal ⟨(), ⟨rfl, rfl, rfl, rfl, rfl, rfl, rfl, rfl, rfl, rfl, congrArg Value.bool (decide_eq_decide.2 ?_), trivial⟩, rfl⟩
                  have hkk := (hkf (by omega)).1
                  rw [hkk]
                  omega
                ·
                  have h281 : ¬ 0 < i := by omega
                  refine g_no rfl rfl rfl ?_
                  refine g_no rfl rfl rfl ?_
                  refine g_no rfl rfl rfl ?_
                  refine g_no rfl rfl rfl ?_
                  refine g_no rfl rfl rfl ?_
                  refine g_no rfl rfl rfl ?_
                  refine g_no rfl rfl rfl ?_
                  refine g_no rfl rfl rfl ?_
                  refine g_yes rfl rfl ?_
                  refine pick_f rfl rfl ?_
                  refine pick_f rfl rfl ?_
                  refine o_nil ?_
                  refine k_goal ⟨(), ⟨rfl, rfl, rfl, rfl, rfl, rfl, rfl, rfl, rfl, rfl, congrArg Value.bool (decide_eq_false (by omega)).symm, trivial⟩, rfl⟩
          subst hJ
          refine k_cond rfl (fun h => ?_) (fun h => ?_)
          ·
            refine k_seq ?_
            refine k_region ?_
            refine o_lda (xs := cells (⟨p, 1, opAt cs p, 0, 0, lukKeys cs q i, lukJumps cs p q i⟩ : Ins) ak ck aj cj) rfl rfl rfl (ldc hB12) ?_
            obtain ⟨z4, hz4, hs4⟩ := hA12.z4
            refine o_sta (xs := cells (⟨p, 1, opAt cs p, 0, 0, lukKeys cs q i, lukJumps cs p q i⟩ : Ins) ak ck aj cj) rfl rfl rfl (cells_one _ _ _ _ _) hz4 (by rw [hs4]; exact Nat.le_refl 7) (fun wR hBR hKR hZR => ?_)
            refine m_bool rfl rfl ?_
            refine o_nil ?_
            refine k_ret (ret_cell1 (xs := cells (⟨p, 1, opAt cs p, 0, 0, lukKeys cs q i, lukJumps cs p q i⟩ : Ins) ak ck aj cj) rfl rfl rfl rfl (stc rfl hs4 hBR) rfl ?_)
            exact StA.ret (x := (⟨p, 1, opAt cs p, 0, 0, lukKeys cs q i, lukJumps cs p q i⟩ : Ins)) (ok := false) hA12 rfl rfl hz4 hKR (fun h => by cases h) (fun _ => by
              rw [rdw9 h186 hq, if_neg]
              rintro ⟨_, e1, e2, e3, e4⟩
              exact h ⟨by omega, fun h0 => e4 i h0 hin⟩)
          obtain ⟨hth, hrs⟩ := Decidable.of_not_not h
          obtain ⟨hkk, htt⟩ := hkf hth
          have hfb2 := far_b cs (q + 8 + 8 * i + 4)
          have htb : -4294967296 ≤ tv ∧ tv ≤ 4294967296 := by omega
          obtain ⟨H0, hH0⟩ : ∃ H0, H0 = w'.heap.size := ⟨_, rfl⟩
          have hdr : w'.drew.heap.size = w'.heap.size := rfl
          have hD2 : Keep [] w' w'.drew := (Keep.refl [] w').drew
          have hlk : ∀ z, ak = some z → z.block < H0 := fun z hz => hH0 ▸ hA12.sk.lt z hz
          have hlj : ∀ z, aj = some z → z.block < H0 := fun z hz => hH0 ▸ hA12.sj.lt z hz
          have hn6 : b6 ∉ blkOf ak ++ blkOf aj := fun hm => (List.mem_append.1 hm).elim (hA12.sk.notin hB12 (by decide)) (hA12.sj.notin hB12 (by decide))
          have hge : ∀ b, H0 ≤ b → b ∉ blkOf ak ++ blkOf aj := fun b hb hm => (List.mem_append.1 hm).elim (fun h => by obtain ⟨z, hz, hze⟩ := blkOf_some.1 h; have := hlk z hz; omega) (fun h => by obtain ⟨z, hz, hze⟩ := blkOf_some.1 h; have := hlj z hz; omega)
          refine k_skip ?_
          refine k_seq ?_
          refine k_anyE 13 (Keep (blkOf ak ++ blkOf aj)) (fun iA => match iA with
              | 0 => fun v w => v = .pointer (some ⟨b6, 5, none⟩)
              | 1 => fun v w => v = .slice ak (lukKeys cs q i).length ck
              | 2 => fun v w => v = .int .i64 (kv)
              | 3 => fun v w => ∃ g, v = .slice (some ⟨g, 0, none⟩) 1 1 ∧ Blk w g #[iv (kv)] 3 ∧ H0 ≤ g
              | 4 => fun v w => True
              | 5 => fun v w => v = .pointer (some ⟨b6, 6, none⟩)
              | 6 => fun v w => v = .slice aj (lukJumps cs p q i).length cj
              | 7 => fun v w => v = .int .i64 (p : Int)
              | 8 => fun v w => v = .int .i64 (tv)
              | 9 => fun v w => v = .int .i64 ((p : Int) + tv)
              | 10 => fun v w => ∃ g, v = .slice (some ⟨g, 0, none⟩) 1 1 ∧ Blk w g #[iv ((p : Int) + tv)] 3 ∧ H0 ≤ g
              | 11 => fun v w => True
              | 12 => fun v w => v = .pointer (some ⟨b6, 5, none⟩)
              | _ => fun v w => True) (fun D e w' => Two H0 ak ck (lukKeys cs q i) (kv) aj cj (lukJumps cs p q i) ((p : Int) + tv) (D 4) (D 11) (e 297) (e 304) w') rfl rfl rfl rfl (Keep.refl _) (fun _ _ _ h1 h2 => h1.trans h2 (fun _ h _ => h)) ?_ (Two.init (hA12.new hD2).sk (hA12.new hD2).sj) ?_ ?_
          · intro iA v w w' h hL
            match iA, h with
            | 0, h =>
              exact h
            | 1, h =>
              exact h
            | 2, h =>
              exact h
            | 3, h =>
              obtain ⟨g, h1, h2, h3⟩ := h
              exact ⟨g, h1, h2.keep hL (hge g h3), h3⟩
            | 4, h =>
              exact h
            | 5, h =>
              exact h
            | 6, h =>
              exact h
            | 7, h =>
              exact h
            | 8, h =>
              exact h
            | 9, h =>
              exact h
            | 10, h =>
              obtain ⟨g, h1, h2, h3⟩ := h
              exact ⟨g, h1, h2.keep hL (hge g h3), h3⟩
            | 11, h =>
              exact h
            | 12, h =>
              exact h
            | _ + 13, h => trivial
          · intro iA o him hl D eA wA hDi hdp hSh hG hL hA hD
            match iA, him, hl with
            | 0, _, hl =>
              obtain rfl := Option.some.inj hl
              refine o_gen [(6, _)] ⟨hA 6 (free_of rfl), trivial⟩ (fun e2 => ?_)
              refine o_fld (off := 5) rfl rfl ?_
              refine o_nil ⟨(Keep.refl _) _, rfl, hG⟩
            | 1, _, hl =>
              obtain rfl := Option.some.inj hl
              refine o_gen [(293, _)] ⟨hD 0 (by decide) 293 rfl, trivial⟩ (fun e2 => ?_)
              refine o_ld rfl rfl ((((hB12.keep hD2 (by simp)).keep hL hn6)).at rfl) ?_
              refine o_nil ⟨(Keep.refl _) _, rfl, hG⟩
            | 2, _, hl =>
              obtain rfl := Option.some.inj hl
              refine o_gen [(21, _)] ⟨hA 21 (free_of rfl), trivial⟩ (fun e2 => ?_)
              refine m_int rfl rfl ?_
              refine o_nil ⟨(Keep.refl _) _, rfl, hG⟩
            | 3, _, hl =>
              obtain rfl := Option.some.inj hl
              refine o_gen [(295, _)] ⟨hD 2 (by decide) 295 rfl, trivial⟩ (fun e2 => ?_)
              refine o_bsl (E := 3) (cs := #[iv (kv)]) rfl (fun _ => by kernel_rfl) (fun g w13 hB13 hK13 hb13 hZ13 => ?_)
              refine o_nil ⟨hK13.also, ⟨g, rfl, hB13, by have := hL.size; omega⟩, hG.new hK13⟩
            | 4, _, hl =>
              obtain rfl := Option.some.inj hl
              obtain ⟨g, hg1, hg2, hg3⟩ := hD 3 (by decide) 296 rfl
              refine o_gen [(294, _), (296, .slice (some ⟨g, 0, none⟩) 1 1)] ⟨hD 1 (by decide) 294 rfl, hg1, trivial⟩ (fun e2 => ?_)
              rw [hDi] at hG
              refine o_app2 Try.underlying36 inf3 rfl (by decide) rfl rfl (hG.k0 rfl) hg2.rd rfl (by simp [iv, Value.oneCell']) (by rw [lukKeys_len]; simp [maxLen]; omega) (by rw [lukKeys_len]; omega) (fun a2 c2 w13 hS13 hv13 => ?_)
              have hT := Two.appK hA12.off hlk hlj (by have := hL.size; omega) hG hS13 hv13
              refine o_nil ⟨hT.2, trivial, hT.1⟩
            | 5, _, hl =>
              obtain rfl := Option.some.inj hl
              refine o_gen [(6, _)] ⟨hA 6 (free_of rfl), trivial⟩ (fun e2 => ?_)
              refine o_fld (off := 6) rfl rfl ?_
              refine o_nil ⟨(Keep.refl _) _, rfl, hG⟩
            | 6, _, hl =>
              obtain rfl := Option.some.inj hl
              refine o_gen [(298, _)] ⟨hD 5 (by decide) 298 rfl, trivial⟩ (fun e2 => ?_)
              refine o_ld rfl rfl ((((hB12.keep hD2 (by simp)).keep hL hn6)).at rfl) ?_
              refine o_nil ⟨(Keep.refl _) _, rfl, hG⟩
            | 7, _, hl =>
              obtain rfl := Option.some.inj hl
              refine o_gen [(1, _)] ⟨hA 1 (free_of rfl), trivial⟩ (fun e2 => ?_)
              refine m_int rfl rfl ?_
              refine o_nil ⟨(Keep.refl _) _, rfl, hG⟩
            | 8, _, hl =>
              obtain rfl := Option.some.inj hl
              refine o_gen [(23, _)] ⟨hA 23 (free_of rfl), trivial⟩ (fun e2 => ?_)
              refine m_int rfl rfl ?_
              refine o_nil ⟨(Keep.refl _) _, rfl, hG⟩
            | 9, _, hl =>
              obtain rfl := Option.some.inj hl
              refine o_gen [(300, _), (301, _)] ⟨hD 7 (by decide) 300 rfl, hD 8 (by decide) 301 rfl, trivial⟩ (fun e2 => ?_)
              refine n_add rfl rfl (by omega) ?_
              refine o_nil ⟨(Keep.refl _) _, rfl, hG⟩
            | 10, _, hl =>
              obtain rfl := Option.some.inj hl
              refine o_gen [(302, _)] ⟨hD 9 (by decide) 302 rfl, trivial⟩ (fun e2 => ?_)
              refine o_bsl (E := 3) (cs := #[iv ((p : Int) + tv)]) rfl (fun _ => by kernel_rfl) (fun g w13 hB13 hK13 hb13 hZ13 => ?_)
              refine o_nil ⟨hK13.also, ⟨g, rfl, hB13, by have := hL.size; omega⟩, hG.new hK13⟩
            | 11, _, hl =>
              obtain rfl := Option.some.inj hl
              obtain ⟨g, hg1, hg2, hg3⟩ := hD 10 (by decide) 303 rfl
              refine o_gen [(299, _), (303, .slice (some ⟨g, 0, none⟩) 1 1)] ⟨hD 6 (by decide) 299 rfl, hg1, trivial⟩ (fun e2 => ?_)
              rw [hDi] at hG
              refine o_app2 Try.underlying36 inf3 rfl (by decide) rfl rfl (hG.j0 rfl) hg2.rd rfl (by simp [iv, Value.oneCell']) (by rw [lukJumps_len]; simp [maxLen]; omega) (by rw [lukJumps_len]; omega) (fun a2 c2 w13 hS13 hv13 => ?_)
              have hT := Two.appJ hA12.off hlk hlj (by have := hL.size; omega) hG hS13 hv13
              refine o_nil ⟨hT.2, trivial, hT.1⟩
            | 12, _, hl =>
              obtain rfl := Option.some.inj hl
              refine o_gen [(6, _)] ⟨hA 6 (free_of rfl), trivial⟩ (fun e2 => ?_)
              refine o_fld (off := 5) rfl rfl ?_
              refine o_nil ⟨(Keep.refl _) _, rfl, hG⟩
            | _ + 13, him, _ => exact absurd him (by omega)
          intro D eA wA hAll hG hL hA hV
          have d4 := hAll 4 (by decide) (by decide)
          have d11 := hAll 11 (by decide) (by decide)
          obtain ⟨ak2, ck2, ek, hSk2, hfk2⟩ := hG.k1 d4
          obtain ⟨aj2, cj2, ej, hSj2, hfj2⟩ := hG.j1 d11
          have hof2 := hG.off d4 d11 _ _ _ _ _ _ ek ej
          have hL' : Keep (blkOf ak ++ blkOf aj) w' wA := hD2.also.trans hL (fun _ h _ => h)
          have hBA := hB12.keep hL' hn6
          have hAA := hA12.two (cs := #[]) hL' hSk2 (by rw [← hH0]; exact hfk2) hSj2 (by rw [← hH0]; exact hfj2) hof2
          refine o_gen [(0, .slice a cs.length c), (1, .int .i64 (p : Int)), (4, .pointer (some ⟨b4, 0, none⟩)), (6, .pointer (some ⟨b6, 0, none⟩)), (9, .bool true), (10, .int .i64 ((q + 8 + 8 * i : Nat) : Int)), (13, .int .i64 nv), (20, .int .i64 (i : Int)), (297, .slice ak2 ((lukKeys cs q i).length + 1) ck2), (304, .slice aj2 ((lukJumps cs p q i).length + 1) cj2), (305, .pointer (some ⟨b6, 5, none⟩))] ⟨hA 0 (free_of rfl), hA 1 (free_of rfl), hA 4 (free_of rfl), hA 6 (free_of rfl), hA 9 (free_of rfl), hA 10 (free_of rfl), hA 13 (free_of rfl), hA 20 (free_of rfl), ek, ej, hV 12 (by decide) 305 rfl, trivial⟩ (fun e => ?_)
          change ow _ _ _ _ [_, _, _] _ _
          refine o_st (v := .slice ak2 ((lukKeys cs q i).length + 1) ck2) rfl rfl rfl rfl hBA (show 5 < 7 by decide) (fun w14 hB14 hK14 hZ14 => ?_)
          have hA14 := hAA.at6 hBA hK14
          refine o_fld (off := 6) rfl rfl ?_
          refine o_st (v := .slice aj2 ((lukJumps cs p q i).length + 1) cj2) rfl rfl rfl rfl hB14 (show 6 < 7 by decide) (fun w15 hB15 hK15 hZ15 => ?_)
          have hA15 := hA14.at6 hB14 hK15
          have hB15' : Blk w15 b6 (cells (⟨p, 1, opAt cs p, 0, 0, lukKeys cs q i ++ [kv], lukJumps cs p q i ++ [(p : Int) + tv]⟩ : Ins) ak2 ck2 aj2 cj2).toArray 38 := by
           unfold cells
           simp only [List.length_append, List.length_singleton]
           exact hB15
          refine o_nil ?_
          refine k_region ?_
          refine m_int rfl rfl ?_
          refine n_add rfl rfl (by omega) ?_
          refine m_int rfl rfl ?_
          refine o_nil ?_
          refine k_blk ?_
          refine k_region ?_
          refine m_int rfl rfl ?_
          refine n_add rfl rfl (by omega) ?_
          refine m_int rfl rfl ?_
          refine o_nil ?_
          refine k_goal ⟨i + 1, ⟨rfl, rfl, rfl, rfl, rfl, congrArg (Value.int .i64) (by omega), rfl, congrArg (Value.int .i64) (by omega), trivial⟩, ⟨by omega, by omega, (rise_succ cs (q + 8) i).2 ⟨hri, hrs⟩, ak2, ck2, aj2, cj2, ?_, ?_⟩, by omega⟩
          · rw [lukKeys_succ, lukJumps_succ, ← hkk, ← htt]; exact hB15'
          · rw [lukKeys_succ, lukJumps_succ, ← hkk, ← htt]; exact hA15
        obtain ⟨hpe1, hpe2, ks, js, ak, ck, aj, cj, hBE, hAE, hrdE⟩ := hJ
        refine k_region ?_
        refine m_int rfl rfl ?_
        refine m_int rfl rfl ?_
        refine n_sub rfl rfl (by omega) ?_
        refine o_fld (off := 1) rfl rfl ?_
        refine o_st (v := iv (((pe - p : Nat)) : Int)) rfl (congrArg (Value.int .i64) (by omega)) rfl rfl hBE (show 1 < 7 by decide) (fun w20 hB20 hK20 hZ20 => ?_)
        refine o_nil ?_
        refine k_blk ?_
        refine k_goal ⟨true, ⟨rfl, rfl, rfl, trivial⟩, ⟨⟨p, ((pe - p : Nat) : Int), opAt cs p, 0, 0, ks, js⟩, ak, ck, aj, cj, hB20, hAE.at6 hBE hK20, fun _ => hrdE, fun h => by cases h⟩⟩
      have hlt : i < q - (p + 1) := by
       refine Decidable.byContradiction fun hh => h ?_
       rw [show p + 1 + i = q by omega, hq4]; rfl
      refine k_skip ?_
      refine k_block ?_
      refine k_seq ?_
      refine k_seq ?_
      refine k_region ?_
      refine m_int rfl rfl ?_
      refine m_sl rfl rfl ?_
      refine o_lens Try.underlying22 rfl ?_
      refine b_geq rfl rfl ?_
      refine m_bool rfl rfl ?_
      refine o_split (t := 150) rfl (fun h => ?_) (fun h => ?_)
      ·
        have hz2 : cs[p + 1 + i]? ≠ some 0#8 := by rw [List.getElem?_eq_none (by omega)]; exact fun e => by cases e
        refine g_no rfl rfl rfl ?_
        refine g_no rfl rfl rfl ?_
        refine g_no rfl rfl rfl ?_
        refine g_no rfl rfl rfl ?_
        refine g_no rfl rfl rfl ?_
        refine pick_t rfl rfl ?_
        refine o_nil ?_
        refine k_condt rfl ?_
        refine k_seq ?_
        refine k_region ?_
        refine o_lda (xs := cells (⟨p, 1, opAt cs p, 0, 0, [], []⟩ : Ins) none 0 none 0) rfl rfl rfl (ldc hB5) ?_
        obtain ⟨z4, hz4, hs4⟩ := hA5.z4
        refine o_sta (xs := cells (⟨p, 1, opAt cs p, 0, 0, [], []⟩ : Ins) none 0 none 0) rfl rfl rfl (cells_one _ _ _ _ _) hz4 (by rw [hs4]; exact Nat.le_refl 7) (fun wR hBR hKR hZR => ?_)
        refine m_bool rfl rfl ?_
        refine o_nil ?_
        refine k_ret (ret_cell1 (xs := cells (⟨p, 1, opAt cs p, 0, 0, [], []⟩ : Ins) none 0 none 0) rfl rfl rfl rfl (stc rfl hs4 hBR) rfl ?_)
        exact StA.ret (x := (⟨p, 1, opAt cs p, 0, 0, [], []⟩ : Ins)) (ok := false) hA5 rfl rfl hz4 hKR (fun h => by cases h) (fun _ => sw_none hq hw' (fun hh => by rw [zer_no hlt hz2] at hh; cases hh.1))
      ·
        refine g_yes rfl rfl ?_
        refine m_sl rfl rfl ?_
        refine g_yes rfl rfl ?_
        refine m_int rfl rfl ?_
        refine g_yes rfl rfl ?_
        have hin : p + 1 + i < cs.length := by omega
        obtain ⟨bq, oq, haq, hcq⟩ := hbt (p + 1 + i) hin
        refine o_ixs1 (m := p + 1 + i) Try.underlying22 rfl (show _ = Value.slice (some ⟨bq, oq, none⟩) _ _ by rw [← haq]; rfl) rfl hin ?_
        refine g_yes rfl rfl ?_
        refine o_ld rfl rfl (hcq _ hA5.keep) ?_
        refine g_yes rfl rfl ?_
        refine v8_neq (b := 0#8) rfl rfl ?_
        refine pick_f rfl rfl ?_
        refine o_nil ?_
        refine k_cond rfl (fun h => ?_) (fun h => ?_)
        ·
          have hz2 : cs[p + 1 + i]? ≠ some 0#8 := by rw [List.getElem?_eq_getElem hin]; intro e; rw [List.getD_eq_getElem?_getD, List.getElem?_eq_getElem hin] at h; exact h (Option.some.inj e)
          refine k_seq ?_
          refine k_region ?_
          refine o_lda (xs := cells (⟨p, 1, opAt cs p, 0, 0, [], []⟩ : Ins) none 0 none 0) rfl rfl rfl (ldc hB5) ?_
          obtain ⟨z4, hz4, hs4⟩ := hA5.z4
          refine o_sta (xs := cells (⟨p, 1, opAt cs p, 0, 0, [], []⟩ : Ins) none 0 none 0) rfl rfl rfl (cells_one _ _ _ _ _) hz4 (by rw [hs4]; exact Nat.le_refl 7) (fun wR hBR hKR hZR => ?_)
          refine m_bool rfl rfl ?_
          refine o_nil ?_
          refine k_ret (ret_cell1 (xs := cells (⟨p, 1, opAt cs p, 0, 0, [], []⟩ : Ins) none 0 none 0) rfl rfl rfl rfl (stc rfl hs4 hBR) rfl ?_)
          exact StA.ret (x := (⟨p, 1, opAt cs p, 0, 0, [], []⟩ : Ins)) (ok := false) hA5 rfl rfl hz4 hKR (fun h => by cases h) (fun _ => sw_none hq hw' (fun hh => by rw [zer_no hlt hz2] at hh; cases hh.1))
        refine k_skip ?_
        refine k_region ?_
        refine m_int rfl rfl ?_
        refine n_add rfl rfl (by omega) ?_
        refine m_int rfl rfl ?_
        refine o_nil ?_
        refine k_blk ?_
        refine k_goal ⟨i + 1, ⟨rfl, rfl, rfl, rfl, rfl, rfl, rfl, trivial⟩, ⟨by omega, ?_, rfl⟩, by omega⟩
        unfold zer
        rw [hzi, Bool.true_and]
        refine decide_eq_true ?_
        rw [List.getElem?_eq_getElem hin]
        have h0 := Decidable.of_not_not h
        rw [List.getD_eq_getElem?_getD, List.getElem?_eq_getElem hin] at h0
        exact congrArg some h0
    refine k_skip ?_
    refine k_blk ?_
    exact absurd h (by omega)
  obtain ⟨x, ak, ck, aj, cj, hBE, hAE, hyes, hno⟩ := hJ
  refine k_seq ?_
  refine k_region ?_
  refine o_lda (xs := cells x ak ck aj cj) rfl rfl rfl (ldc hBE) ?_
  refine m_bool rfl rfl ?_
  obtain ⟨z4, hz4, hs4⟩ := hAE.z4
  refine o_sta (xs := cells x ak ck aj cj) rfl rfl rfl (cells_one _ _ _ _ _) hz4 (by rw [hs4]; exact Nat.le_refl 7) (fun wR hBR hKR hZR => ?_)
  refine m_bool rfl rfl ?_
  refine o_nil ?_
  refine k_ret (ret_cell1 (xs := cells x ak ck aj cj) rfl rfl rfl rfl (stc rfl hs4 hBR) rfl ?_)
  exact StA.ret (x := x) (ok := ok) hAE rfl rfl hz4 hKR (hyes) (hno)
end Go.Proofs.Ytmdkinedbmjieaa
