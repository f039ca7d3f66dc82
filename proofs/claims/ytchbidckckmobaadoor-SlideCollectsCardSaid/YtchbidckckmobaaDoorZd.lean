/- Texts of this proof laid together: Jm, Jn, Jo, Jp, Jz. No condition beyond what each lemma names. -/
import Derived.Test.YtchbidckckmobaaDoorZc
/- The walk of the document's Collect. No condition beyond what each contract names. -/
namespace Go.Proofs.YtchbidckckmobaaDoor
open Go.RowKit E
set_option linter.unusedVariables false
set_option linter.unusedSimpArgs false
set_option maxRecDepth 100000
attribute [local irreducible] ow qw kw kq cw opW Ret
theorem made_int (n : Nat) : (madeCells (Value.cells (.int .i64 0)) (n * 1)).toList = (List.replicate n (0 : Int)).map iv := by
  show (madeCells #[Value.int .i64 0] (n * 1)).toList = _
  rw [Nat.mul_one, toList_madeCells_one, List.map_replicate]
  rfl
set_option maxHeartbeats 1000000 in
theorem rcoll_ok (w : World) (a ra : Option Addr) (c rc : Nat) (ws rts : List Int) (hW : Rd w a (ws.map iv)) (hR : Rd w ra (rts.map iv)) (hlw : ws.length ≤ 1000000) (hlr : rts.length ≤ 1000000) (hx : ∀ x ∈ ws, x ≤ 9223372036854775807) :
    Ret Tryd.prog 21 [.slice a ws.length c, .slice ra rts.length rc] w (fun v w' => CollRes w w' v ws rts) := by
  refine fn_enter (n := 157) Tryd.func21 rfl rfl (Nat.le_of_ble_eq_true rfl) (fun e => ?_)
  refine k_seq ?_
  refine k_region ?_
  refine m_sl rfl rfl ?_
  refine m_sl rfl rfl ?_
  refine m_int rfl rfl ?_
  refine o_nil ?_
  refine k_seq ?_
  refine k_region ?_
  refine m_sl rfl rfl ?_
  refine m_sl rfl rfl ?_
  refine o_call rfl rfl (rmark_ok w a ra c rc ws rts hW hR hlw hlr hx) (fun v w1 hv => ?_)
  obtain ⟨er, LV, a7, c7, rfl, hR7, hL9, hK1, hcs⟩ := hv
  refine m_any rfl rfl ?_
  refine o_extr rfl rfl ?_
  refine o_extr rfl rfl ?_
  refine m_sl rfl rfl ?_
  refine m_int rfl rfl ?_
  refine o_nil ?_
  refine k_seq ?_
  refine k_seq ?_
  refine k_region ?_
  refine m_int rfl rfl ?_
  refine b_neq rfl rfl ?_
  refine o_nil ?_
  refine k_cond rfl (fun h => ?_) (fun h => ?_)
  ·
    refine k_seq ?_
    refine k_region ?_
    refine m_int rfl rfl ?_
    refine m_sl rfl rfl ?_
    refine m_sl rfl rfl ?_
    refine m_int rfl rfl ?_
    refine o_nil ?_
    refine k_ret (ret_tmps (ts := [4, 5, 6]) (v := .tuple #[.slice _ _ _, .slice _ _ _, .int _ _]) rfl rfl ?_)
    refine ⟨er, [], [], none, 0, none, 0, rfl, Sl.nil _ _ _, fun z hz => (by cases hz), Rd.nil _ _, by simp, hK1, ?_⟩
    rcases hcs with ⟨h1, _, h2⟩ | ⟨h1, _, h2⟩ | ⟨h1, h2⟩
    · exact .inl ⟨h1, rfl, rfl, h2⟩
    · exact .inr (.inl ⟨h1, rfl, rfl, h2⟩)
    · exact absurd h1 h
  obtain ⟨h0, hlive, L, hbk, hrk⟩ := (hcs.resolve_left (fun hh => by have := hh.1; omega)).resolve_left (fun hh => by have := hh.1; omega)
  subst h0
  clear hcs
  have hLVL : ∀ x ∈ LV, x ∈ L := fun x hx' => reach_L hbk hrk ((hlive.2 x).1 hx')
  have hup := hlive.1
  have hll := live_len hbk hup hLVL
  have hsum : ∀ i, sumN ws (LV.take i) ≤ 65537 * LV.length := fun i => by
    have h1 := sumN_le (ws := ws) (xs := LV.take i) (fun y hy => by obtain ⟨_, _, _, _, _, m', _, _, h7, _, h9⟩ := blk_at hbk (hLVL y (List.mem_of_mem_take hy)); omega)
    have h2 : (LV.take i).length ≤ LV.length := by simp; omega
    omega
  refine k_skip ?_
  refine k_seq ?_
  refine k_region ?_
  refine m_sl rfl rfl ?_
  refine o_lens Tryd.underlying22 rfl ?_
  refine o_make (m := ws.length) Tryd.underlying23 inf3 rfl rfl (by simp [maxLen]; omega) (by omega) (fun g w2 hS2 hK2 hb2 hZ2 => ?_)
  rw [made_int, ← toL_nil ws] at hS2
  refine m_sl rfl rfl ?_
  refine o_nil ?_
  refine k_seq ?_
  refine k_region ?_
  refine m_int rfl rfl ?_
  refine o_nil ?_
  refine k_seq ?_
  refine k_seq ?_
  refine k_region ?_
  refine m_int rfl rfl ?_
  refine o_nil ?_
  refine k_block ?_
  refine k_loop (σ := Nat × Int) (fun s => [(0, .slice a ws.length c), (1, .slice ra rts.length rc), (7, .slice a7 LV.length c7), (9, .slice (some ⟨g, 0, none⟩) ws.length ws.length), (10, .int .i64 s.2), (11, .int .i64 (s.1 : Int))]) (fun s w' => s.1 ≤ LV.length ∧ s.2 = ((1 + sumN ws (LV.take s.1) : Nat) : Int) ∧ Sl w' 3 1 (some ⟨g, 0, none⟩) ws.length ws.length ((toL ws (LV.take s.1) ws.length).map iv) ∧ Keep [] w1 w') (fun s => LV.length - s.1) (0, 1) ⟨rfl, rfl, rfl, rfl, rfl, rfl, trivial⟩ ⟨by simp, by simp [sumN], hS2, hK2⟩ (fun s e w3 hJ => ?_)
  obtain ⟨i, nx⟩ := s
  obtain ⟨hi, hnx, hS3, hk3⟩ := hJ
  simp only at hi hnx hS3 ⊢
  subst hnx
  refine k_seq ?_
  refine k_seq ?_
  refine k_region ?_
  refine m_int rfl rfl ?_
  refine m_sl rfl rfl ?_
  refine o_lens Tryd.underlying23 rfl ?_
  refine b_lss rfl rfl ?_
  refine o_nil ?_
  refine k_cond rfl (fun h => ?_) (fun h => ?_)
  rotate_left
  ·
    have hie : i = LV.length := by omega
    subst hie
    have htl : LV.take LV.length = LV := List.take_length
    rw [htl] at hS3
    refine k_exit rfl ?_
    refine k_seq ?_
    refine k_region ?_
    refine o_bsl (E := 2) (cs := #[iv 0]) rfl (fun _ => by kernel_rfl) (fun g6 w6 hB6 hK6 hb6 hZ6 => ?_)
    have hSO6 : Sl w6 2 1 (some ⟨g6, 0, none⟩) 1 1 ((0 :: (LV.take 0).flatMap (newB ws LV)).map iv) := hB6.sl (len := 1) (sz := 1) rfl (by decide)
    refine m_sl rfl rfl ?_
    refine o_nil ?_
    refine k_seq ?_
    refine k_seq ?_
    refine k_region ?_
    refine m_int rfl rfl ?_
    refine o_nil ?_
    refine k_block ?_
    refine k_loop (σ := Nat × Nat × Option Addr × Nat) (fun s => [(0, .slice a ws.length c), (1, .slice ra rts.length rc), (7, .slice a7 LV.length c7), (9, .slice (some ⟨g, 0, none⟩) ws.length ws.length), (17, .slice s.2.2.1 s.2.1 s.2.2.2), (18, .int .i64 (s.1 : Int))]) (fun s w' => s.1 ≤ LV.length ∧ s.2.1 = 1 + sumN ws (LV.take s.1) ∧ Sl w' 2 1 s.2.2.1 s.2.1 s.2.2.2 ((0 :: (LV.take s.1).flatMap (newB ws LV)).map iv) ∧ (∀ z, s.2.2.1 = some z → w1.heap.size ≤ z.block) ∧ Sl w' 3 1 (some ⟨g, 0, none⟩) ws.length ws.length ((toL ws LV ws.length).map iv) ∧ Keep [] w1 w') (fun s => LV.length - s.1) (0, 1, some ⟨g6, 0, none⟩, 1) ⟨rfl, rfl, rfl, rfl, rfl, rfl, trivial⟩ ⟨by simp, by simp [sumN], hSO6, fun z hz => by cases hz; show _ ≤ g6; have := hk3.size; omega, hS3.new hK6, hk3.tr hK6⟩ (fun s e w7 hJ => ?_)
    clear hSO6 hS3
    obtain ⟨i, M, oa, oc⟩ := s
    obtain ⟨hi, hM, hSO, hfo, hST, hk7⟩ := hJ
    simp only at hi hM hSO hfo ⊢
    have hto : ∀ q, q < ws.length → ∀ w', Rd w' (some ⟨g, 0, none⟩) ((toL ws LV ws.length).map iv) → w'.cell? ⟨g, 0 + q, none⟩ = some (iv (adr ws LV 1 (q : Int))) := fun q hq w' hr => hr.cellK (Keep.refl _ _) (toL_at ws LV ws.length q hq)
    have hsi := hsum i
    refine k_seq ?_
    refine k_seq ?_
    refine k_region ?_
    refine m_int rfl rfl ?_
    refine m_sl rfl rfl ?_
    refine o_lens Tryd.underlying23 rfl ?_
    refine b_lss rfl rfl ?_
    refine o_nil ?_
    refine k_cond rfl (fun h => ?_) (fun h => ?_)
    rotate_left
    ·
      have hie : i = LV.length := by omega
      subst hie
      rw [htl] at hM hSO
      have hout : 0 :: LV.flatMap (newB ws LV) = outW ws LV := rfl
      rw [hout] at hSO
      have hMo : M = (outW ws LV).length := by have := hSO.1; simpa using this.symm
      clear hM
      subst hMo
      refine k_exit rfl ?_
      refine k_seq ?_
      refine k_region ?_
      refine m_sl rfl rfl ?_
      refine o_nil ?_
      refine k_seq ?_
      refine k_seq ?_
      refine k_region ?_
      refine m_int rfl rfl ?_
      refine o_nil ?_
      refine k_block ?_
      refine k_loop (σ := Nat × Option Addr × Nat) (fun s => [(1, .slice ra rts.length rc), (9, .slice (some ⟨g, 0, none⟩) ws.length ws.length), (17, .slice oa (outW ws LV).length oc), (28, .slice s.2.1 s.1 s.2.2), (29, .int .i64 (s.1 : Int))]) (fun s w' => s.1 ≤ rts.length ∧ Sl w' 3 1 s.2.1 s.1 s.2.2 (((rts.take s.1).map (adr ws LV 1)).map iv) ∧ (∀ z, s.2.1 = some z → w7.heap.size ≤ z.block) ∧ Keep [] w7 w') (fun s => rts.length - s.1) (0, none, 0) ⟨rfl, rfl, rfl, rfl, rfl, trivial⟩ ⟨Nat.zero_le _, Sl.nil _ _ _, by simp, Keep.refl _ _⟩ (fun s e w8 hJ => ?_)
      obtain ⟨i, ma, mc⟩ := s
      obtain ⟨hi, hSM, hfm, hk8⟩ := hJ
      simp only at hi hSM hfm ⊢
      refine k_seq ?_
      refine k_seq ?_
      refine k_region ?_
      refine m_int rfl rfl ?_
      refine m_sl rfl rfl ?_
      refine o_lens Tryd.underlying23 rfl ?_
      refine b_lss rfl rfl ?_
      refine o_nil ?_
      refine k_cond rfl (fun h => ?_) (fun h => ?_)
      rotate_left
      ·
        refine k_exit rfl ?_
        refine k_seq ?_
        refine k_region ?_
        refine m_sl rfl rfl ?_
        refine m_sl rfl rfl ?_
        refine m_sl rfl rfl ?_
        refine m_sl rfl rfl ?_
        refine m_int rfl rfl ?_
        refine o_nil ?_
        refine k_ret (ret_tmps (ts := [4, 5, 6]) (v := .tuple #[.slice _ _ _, .slice _ _ _, .int _ _]) rfl rfl ?_)
        have hie : i = rts.length := by omega
        subst hie
        rw [List.take_length] at hSM
        exact ⟨0, outW ws LV, rts.map (adr ws LV 1), oa, oc, ma, mc, by simp, hSO.new hk8, fun z hz => Nat.le_trans hK1.size (hfo z hz), hSM.rd, by rw [List.length_map]; omega, hK1.tr (hk7.tr hk8), .inr (.inr ⟨rfl, L, LV, hbk, hrk, hlive, rfl, rfl⟩)⟩
      have hin : i < rts.length := by omega
      have hRr := hR.new (hK1.tr (hk7.tr hk8))
      obtain ⟨br, orr, hae, hcr⟩ := hRr _ _ (iv_at rts i hin)
      subst hae
      have hrok := hrk _ (List.getElem_mem hin)
      obtain ⟨q, hq⟩ : ∃ q : Nat, rts[i] = q := ⟨rts[i].toNat, by omega⟩
      have hqn : q < ws.length := by omega
      rw [hq] at hcr
      refine k_skip ?_
      refine k_seq ?_
      refine k_block ?_
      refine k_region ?_
      refine m_sl rfl rfl ?_
      refine m_sl rfl rfl ?_
      refine m_sl rfl rfl ?_
      refine m_int rfl rfl ?_
      refine o_ixs1 (m := i) Tryd.underlying23 rfl rfl rfl hin ?_
      refine o_ld (v := iv (q : Int)) rfl rfl hcr ?_
      refine o_ixs1 (m := q) Tryd.underlying23 rfl rfl rfl hqn ?_
      refine o_ld (v := iv (adr ws LV 1 (q : Int))) rfl rfl (hto q hqn w8 (hST.new hk8).rd) ?_
      refine o_bsl (E := 3) (cs := #[iv (adr ws LV 1 (q : Int))]) rfl (fun _ => by kernel_rfl) (fun g9 w9 hB9 hK9 hb9 hZ9 => ?_)
      refine o_app Tryd.underlying23 inf3 rfl (by decide) rfl rfl (hSM.new hK9) hB9.rd rfl (by simp [iv, Value.oneCell']) (by simp [maxLen]; omega) (by omega) (fun a10 c10 w10 hS10 hK10 hv10 => ?_)
      have hf10 := own_app (k := fun b => w7.heap.size ≤ b) (w := w9) (w' := w10) (a := ma) (a2 := a10) hfm (fun b hb => Nat.le_trans (hk8.tr hK9).size hb) hv10
      refine m_sl rfl rfl ?_
      refine o_nil ?_
      refine k_blk ?_
      refine k_region ?_
      refine m_int rfl rfl ?_
      refine n_add rfl rfl (by omega) ?_
      refine m_int rfl rfl ?_
      refine o_nil ?_
      refine k_goal ⟨(i + 1, a10, c10), ⟨rfl, rfl, rfl, rfl, rfl, trivial⟩, ⟨hin, ?_, hf10, (hk8.tr hK9).trb hK10 hfm⟩, by simp only; omega⟩
      simp only
      rw [take_snoc rts i hin, List.map_append, List.map_append, hq]
      exact hS10
    have hin : i < LV.length := by omega
    obtain ⟨k, hk, hke, hk1, hk0, m, hm, hno, hsz, hkm, hm9⟩ := blk_at hbk (hLVL _ (List.getElem_mem hin))
    obtain ⟨b7, o7, hae, hc7⟩ := hR7.new hk7 _ _ (iv_at LV i hin)
    subst hae
    rw [hke] at hc7 hsz
    obtain ⟨ba, oo, hae, _⟩ := hW _ _ (iv_at ws k hk)
    subst hae
    refine k_skip ?_
    refine k_seq ?_
    refine k_block ?_
    refine k_seq ?_
    refine k_region ?_
    refine m_sl rfl rfl ?_
    refine m_sl rfl rfl ?_
    refine m_int rfl rfl ?_
    refine o_ixs1 (m := i) Tryd.underlying23 rfl rfl rfl hin ?_
    refine o_ld (v := iv (k : Int)) rfl rfl hc7 ?_
    refine o_ixs1 (m := k) Tryd.underlying22 rfl rfl rfl hk ?_
    refine o_ld (v := iv ws[k]) rfl rfl (hW.cellK (hK1.tr hk7) (iv_at ws k hk)) ?_
    refine o_call rfl rfl (ropen_ok w7 ws[k] (hx _ (List.getElem_mem hk))) (fun v w4 hv => ?_)
    obtain ⟨rfl, rfl⟩ := hv
    rw [hm]
    refine m_any rfl rfl ?_
    refine o_extr rfl rfl ?_
    refine o_extr rfl rfl ?_
    refine o_extr rfl rfl ?_
    refine o_extr rfl rfl ?_
    refine o_extr rfl rfl ?_
    refine m_int rfl rfl ?_
    refine m_int rfl rfl ?_
    refine m_int rfl rfl ?_
    refine m_int rfl rfl ?_
    refine m_int rfl rfl ?_
    refine o_nil ?_
    refine k_seq ?_
    refine k_region ?_
    refine m_sl rfl rfl ?_
    refine m_sl rfl rfl ?_
    refine m_int rfl rfl ?_
    refine o_ixs1 (m := i) Tryd.underlying23 rfl rfl rfl hin ?_
    refine o_ld (v := iv (k : Int)) rfl rfl hc7 ?_
    refine o_call rfl rfl (rrefs_ok w4 (some ⟨ba, oo, none⟩) ws.length c ws (k : Int) (hW.new (hK1.tr hk7)) rfl (by omega) hx) (fun v w8 hv => ?_)
    obtain ⟨a14, c14, rfl, hS14, hK14, hf14⟩ := hv
    have hrl := refs_len ws (k : Int)
    have hnl := newB_len ws LV (k : Int)
    rw [hsz] at hnl
    refine m_sl rfl rfl ?_
    refine o_nil ?_
    refine k_seq ?_
    refine k_region ?_
    refine m_int rfl rfl ?_
    refine o_nil ?_
    refine k_block ?_
    refine k_loop (σ := Nat × Option Addr × Nat) (fun s => [(0, .slice (some ⟨ba, oo, none⟩) ws.length c), (1, .slice ra rts.length rc), (7, .slice (some ⟨b7, o7, none⟩) LV.length c7), (9, .slice (some ⟨g, 0, none⟩) ws.length ws.length), (17, .slice s.2.1 (M + s.1) s.2.2), (18, .int .i64 (i : Int)), (21, .int .i64 (m : Int)), (24, .slice a14 (refsW ws (k : Int)).length c14), (25, .int .i64 (s.1 : Int))]) (fun s w' => s.1 ≤ 1 + m ∧ Sl w' 2 1 s.2.1 (M + s.1) s.2.2 ((0 :: (LV.take i).flatMap (newB ws LV) ++ (newB ws LV (k : Int)).take s.1).map iv) ∧ (∀ z, s.2.1 = some z → w1.heap.size ≤ z.block) ∧ Sl w' 3 1 (some ⟨g, 0, none⟩) ws.length ws.length ((toL ws LV ws.length).map iv) ∧ Sl w' 3 1 a14 (refsW ws (k : Int)).length c14 ((refsW ws (k : Int)).map iv) ∧ Keep [] w1 w') (fun s => 1 + m - s.1) (0, oa, oc) ⟨rfl, rfl, rfl, rfl, rfl, rfl, rfl, rfl, rfl, trivial⟩ ⟨Nat.zero_le _, by simpa using hSO.new hK14, hfo, hST.new hK14, hS14, hk7.tr hK14⟩ (fun s e w9 hJ => ?_)
    clear hSO hST hS14
    obtain ⟨j, oa, oc⟩ := s
    obtain ⟨hj, hSO, hfo, hST, hS14, hk9⟩ := hJ
    simp only at hj hSO hfo ⊢
    refine k_seq ?_
    refine k_seq ?_
    refine k_region ?_
    refine m_int rfl rfl ?_
    refine m_int rfl rfl ?_
    refine b_leq rfl rfl ?_
    refine o_nil ?_
    refine k_cond rfl (fun h => ?_) (fun h => ?_)
    rotate_left
    ·
      refine k_exit rfl ?_
      refine k_blk ?_
      refine k_region ?_
      refine m_int rfl rfl ?_
      refine n_add rfl rfl (by omega) ?_
      refine m_int rfl rfl ?_
      refine o_nil ?_
      have hje : j = 1 + m := by omega
      subst hje
      rw [List.take_of_length_le (show (newB ws LV (k : Int)).length ≤ 1 + m by omega)] at hSO
      refine k_goal ⟨(i + 1, M + (1 + m), oa, oc), ⟨rfl, rfl, rfl, rfl, rfl, rfl, trivial⟩, ⟨hin, ?_, ?_, hfo, hST, hk9⟩, by simp only; omega⟩
      · simp only
        rw [take_snoc LV i hin, sumN_app, hke]
        simp only [sumN, hsz]
        omega
      · simp only
        rw [take_snoc LV i hin, hke, List.flatMap_append]
        simpa using hSO
    have hjm : j ≤ m := by omega
    have hkj : k + j < ws.length := by omega
    have hc79 := hR7.cellK hk9 (iv_at LV i hin)
    rw [hke] at hc79
    refine k_skip ?_
    refine k_seq ?_
    refine k_block ?_
    refine k_seq ?_
    refine k_region ?_
    refine m_sl rfl rfl ?_
    refine m_sl rfl rfl ?_
    refine m_int rfl rfl ?_
    refine o_ixs1 (m := i) Tryd.underlying23 rfl rfl rfl hin ?_
    refine o_ld (v := iv (k : Int)) rfl rfl hc79 ?_
    refine m_int rfl rfl ?_
    refine n_add rfl rfl (by omega) ?_
    refine o_ixs1 (m := k + j) Tryd.underlying22 rfl rfl (congrArg (Value.int .i64) (by push_cast; omega)) hkj ?_
    refine o_ld (v := iv ws[k + j]) rfl rfl (hW.cellK (hK1.tr hk9) (iv_at ws (k + j) hkj)) ?_
    refine m_int rfl rfl ?_
    refine o_nil ?_
    refine k_seq ?_
    refine k_seq ?_
    refine k_region ?_
    refine m_int rfl rfl ?_
    refine o_nil ?_
    refine k_block ?_
    refine k_loop (σ := Nat × Int) (fun s => [(0, .slice (some ⟨ba, oo, none⟩) ws.length c), (1, .slice ra rts.length rc), (7, .slice (some ⟨b7, o7, none⟩) LV.length c7), (9, .slice (some ⟨g, 0, none⟩) ws.length ws.length), (17, .slice oa (M + j) oc), (18, .int .i64 (i : Int)), (21, .int .i64 (m : Int)), (24, .slice a14 (refsW ws (k : Int)).length c14), (25, .int .i64 (j : Int)), (26, .int .i64 s.2), (27, .int .i64 (s.1 : Int))]) (fun s w' => s.1 ≤ (refsW ws (k : Int)).length ∧ s.2 = (if (k : Int) + (j : Int) ∈ (refsW ws (k : Int)).take s.1 then adr ws LV 1 ws[k + j] else ws[k + j]) ∧ Keep [] w9 w') (fun s => (refsW ws (k : Int)).length - s.1) (0, ws[k + j]) ⟨rfl, rfl, rfl, rfl, rfl, rfl, rfl, rfl, rfl, rfl, rfl, trivial⟩ ⟨Nat.zero_le _, by simp, Keep.refl _ _⟩ (fun s e w10 hJ => ?_)
    obtain ⟨t, x⟩ := s
    obtain ⟨ht, hxv, hk10⟩ := hJ
    simp only at ht hxv ⊢
    refine k_seq ?_
    refine k_seq ?_
    refine k_region ?_
    refine m_int rfl rfl ?_
    refine m_sl rfl rfl ?_
    refine o_lens Tryd.underlying23 rfl ?_
    refine b_lss rfl rfl ?_
    refine o_nil ?_
    refine k_cond rfl (fun h => ?_) (fun h => ?_)
    rotate_left
    ·
      refine k_exit rfl ?_
      refine k_region ?_
      refine m_sl rfl rfl ?_
      refine m_int rfl rfl ?_
      refine o_bsl (E := 2) (cs := #[iv x]) rfl (fun _ => by kernel_rfl) (fun g11 w11 hB11 hK11 hb11 hZ11 => ?_)
      refine o_app Tryd.underlying22 inf2 rfl (by decide) rfl rfl (hSO.new (hk10.tr hK11)) hB11.rd rfl (by simp [iv, Value.oneCell']) (by simp [maxLen]; omega) (by omega) (fun a12 c12 w12 hS12 hK12 hv12 => ?_)
      have hf12 := own_app (k := fun b => w1.heap.size ≤ b) (w := w11) (w' := w12) (a := oa) (a2 := a12) hfo (fun b hb => Nat.le_trans (hk9.tr (hk10.tr hK11)).size hb) hv12
      have hS11 := hSO.new (hk10.tr hK11)
      refine m_sl rfl rfl ?_
      refine o_nil ?_
      refine k_blk ?_
      refine k_region ?_
      refine m_int rfl rfl ?_
      refine n_add rfl rfl (by omega) ?_
      refine m_int rfl rfl ?_
      refine o_nil ?_
      have hte : t = (refsW ws (k : Int)).length := by omega
      subst hte
      rw [List.take_length, ← newB_at ws LV k j (by omega) hkj] at hxv
      refine k_goal ⟨(j + 1, a12, c12), ⟨rfl, rfl, rfl, rfl, rfl, rfl, rfl, rfl, rfl, trivial⟩, ⟨by simp only; omega, ?_, hf12, (hST.new (hk10.tr hK11)).keep hK12 ((hST.new (hk10.tr hK11)).off2 hS11 (by decide)), (hS14.new (hk10.tr hK11)).keep hK12 ((hS14.new (hk10.tr hK11)).off2 hS11 (by decide)), (hk9.tr (hk10.tr hK11)).trb hK12 hfo⟩, by simp only; omega⟩
      have h12 : Sl w12 2 1 a12 (M + (j + 1)) c12 _ := hS12
      simp only
      rw [take_snoc (newB ws LV (k : Int)) j (by omega), ← hxv, ← List.append_assoc, List.map_append]
      exact h12
    have htl : t < (refsW ws (k : Int)).length := by omega
    obtain ⟨cc, hcc⟩ : ∃ cc, (refsW ws (k : Int))[t] = cc := ⟨_, rfl⟩
    have hcm : cc ∈ refsW ws (k : Int) := by rw [← hcc]; exact List.getElem_mem _
    obtain ⟨y, hy, hy1, hy2⟩ := refs_in hk hm hcm
    have hcn : cc ∉ (refsW ws (k : Int)).take t := by rw [← hcc]; exact up_split (refs_up ws _) htl
    have hx14 := iv_at (refsW ws (k : Int)) t htl
    rw [hcc] at hx14
    obtain ⟨b14, o14, hae, _⟩ := hS14.rd _ _ hx14
    subst hae
    refine k_skip ?_
    refine k_seq ?_
    refine k_block ?_
    refine k_seq ?_
    refine k_qk 10 rfl rfl rfl rfl rfl ?_
    refine q_step (fun w1 hC => m_sl rfl rfl (o_nil ⟨rfl, hC⟩)) ?_
    refine q_step (fun w1 hC => m_int rfl rfl (o_nil ⟨rfl, hC⟩)) ?_
    refine q_step (fun w1 hC => o_ixs1 (m := t) Tryd.underlying23 rfl rfl rfl htl (o_nil ⟨rfl, hC⟩)) ?_
    refine q_step (fun w1 hC => o_ld (v := iv cc) rfl rfl (hS14.rd.cellK (hk10.tr hC) hx14) (o_nil ⟨rfl, hC⟩)) ?_
    refine q_step (fun w1 hC => m_sl rfl rfl (o_nil ⟨rfl, hC⟩)) ?_
    refine q_step (fun w1 hC => m_int rfl rfl (o_nil ⟨rfl, hC⟩)) ?_
    refine q_step (fun w1 hC => o_ixs1 (m := i) Tryd.underlying23 rfl rfl rfl hin (o_nil ⟨rfl, hC⟩)) ?_
    refine q_step (fun w1 hC => o_ld (v := iv (k : Int)) rfl rfl (by rw [← hke]; exact hR7.cellK (hk9.tr (hk10.tr hC)) (iv_at LV i hin)) (o_nil ⟨rfl, hC⟩)) ?_
    refine q_step (fun w1 hC => m_int rfl rfl (o_nil ⟨rfl, hC⟩)) ?_
    refine q_step (fun w1 hC => n_add rfl rfl (by omega) (o_nil ⟨rfl, hC⟩)) ?_
    refine q_nil ?_
    intro w11 hC11
    refine b_eql rfl rfl ?_
    refine o_nil ?_
    refine k_cond rfl (fun h => ?_) (fun h => ?_)
    ·
      have hcj : cc = (k : Int) + (j : Int) := h
      rw [if_neg (by rw [← hcj]; exact hcn)] at hxv
      subst hxv
      obtain ⟨h0, hz, hch, hrf⟩ := blocks_ch hbk
      have hin0 := hrf (k : Int) (by rw [← hke]; exact hLVL _ (List.getElem_mem hin)) cc hcm
      rw [hcj, show ((k : Int) + (j : Int)).toNat = k + j by omega, getD_get ws (k + j) hkj] at hin0
      have hrng := mem_rng h0 (chain_rng ws L hch) hin0
      obtain ⟨q, hq⟩ : ∃ q : Nat, ws[k + j] = q := ⟨ws[k + j].toNat, by omega⟩
      have hqn : q < ws.length := by omega
      refine k_region ?_
      refine m_sl rfl rfl ?_
      refine m_int rfl rfl ?_
      refine o_ixs1 (m := q) Tryd.underlying23 rfl rfl (congrArg (Value.int .i64) hq) hqn ?_
      refine o_ld (v := iv (adr ws LV 1 (q : Int))) rfl rfl (hto q hqn w11 (hST.new (hk10.tr hC11)).rd) ?_
      refine m_int rfl rfl ?_
      refine o_nil ?_
      refine k_blk ?_
      refine k_region ?_
      refine m_int rfl rfl ?_
      refine n_add rfl rfl (by omega) ?_
      refine m_int rfl rfl ?_
      refine o_nil ?_
      refine k_goal ⟨(t + 1, adr ws LV 1 (q : Int)), ⟨rfl, rfl, rfl, rfl, rfl, rfl, rfl, rfl, rfl, rfl, rfl, trivial⟩, ⟨htl, ?_, hk10.tr hC11⟩, by simp only; omega⟩
      simp only
      rw [if_pos (by rw [take_snoc _ t htl, hcc, hcj]; simp), hq]
    refine k_skip ?_
    refine k_blk ?_
    refine k_region ?_
    refine m_int rfl rfl ?_
    refine n_add rfl rfl (by omega) ?_
    refine m_int rfl rfl ?_
    refine o_nil ?_
    refine k_goal ⟨(t + 1, x), ⟨rfl, rfl, rfl, rfl, rfl, rfl, rfl, rfl, rfl, rfl, rfl, trivial⟩, ⟨htl, ?_, hk10.tr hC11⟩, by simp only; omega⟩
    simp only
    have hcj : ¬ cc = (k : Int) + (j : Int) := h
    have hiff : (k : Int) + (j : Int) ∈ (refsW ws (k : Int)).take (t + 1) ↔ (k : Int) + (j : Int) ∈ (refsW ws (k : Int)).take t := by
      rw [take_snoc _ t htl, hcc]; simp; intro hh; exact absurd hh.symm hcj
    rw [hxv]
    simp only [hiff]
  have hin : i < LV.length := by omega
  obtain ⟨k, hk, hke, hk1, hk0, m, hm, hno, hsz, hkm, hm9⟩ := blk_at hbk (hLVL _ (List.getElem_mem hin))
  obtain ⟨b7, o7, hae, hc7⟩ := hR7.new hk3 _ _ (iv_at LV i hin)
  subst hae
  rw [hke] at hc7 hsz
  obtain ⟨ba, oo, hae, _⟩ := hW _ _ (iv_at ws k hk)
  subst hae
  have hsi := hsum i
  have hnot := up_split hup hin
  rw [hke] at hnot
  obtain ⟨go, cur, hoe, hBg, hgs⟩ := hS3.blk (by omega)
  cases hoe
  refine k_skip ?_
  refine k_seq ?_
  refine k_block ?_
  refine k_seq ?_
  refine k_region ?_
  refine m_sl rfl rfl ?_
  refine m_sl rfl rfl ?_
  refine m_int rfl rfl ?_
  refine o_ixs1 (m := i) Tryd.underlying23 rfl rfl rfl hin ?_
  refine o_ld (v := iv (k : Int)) rfl rfl hc7 ?_
  refine o_ixs1 (m := k) Tryd.underlying22 rfl rfl rfl hk ?_
  refine o_ld (v := iv ws[k]) rfl rfl (hW.cellK (hK1.tr hk3) (iv_at ws k hk)) ?_
  refine o_call rfl rfl (ropen_ok w3 ws[k] (hx _ (List.getElem_mem hk))) (fun v w4 hv => ?_)
  obtain ⟨rfl, rfl⟩ := hv
  rw [hm]
  refine m_any rfl rfl ?_
  refine o_extr rfl rfl ?_
  refine o_extr rfl rfl ?_
  refine o_extr rfl rfl ?_
  refine o_extr rfl rfl ?_
  refine o_extr rfl rfl ?_
  refine m_int rfl rfl ?_
  refine m_int rfl rfl ?_
  refine m_int rfl rfl ?_
  refine m_int rfl rfl ?_
  refine m_int rfl rfl ?_
  refine o_nil ?_
  refine k_seq ?_
  refine k_region ?_
  refine m_sl rfl rfl ?_
  refine m_sl rfl rfl ?_
  refine m_int rfl rfl ?_
  refine o_ixs1 (m := i) Tryd.underlying23 rfl rfl rfl hin ?_
  refine o_ld (v := iv (k : Int)) rfl rfl hc7 ?_
  refine m_int rfl rfl ?_
  refine o_ixs1 (m := k) Tryd.underlying23 rfl rfl rfl hk ?_
  refine o_st (v := iv ((1 + sumN ws (LV.take i) : Nat) : Int)) rfl rfl rfl rfl hBg (by omega) (fun w5 hB5 hK5 hZ5 => ?_)
  have hS5 := Sl.set hS3 hk hBg hB5
  rw [← List.map_set, toL_set ws (LV.take i) ws.length k hnot, ← hke, ← take_snoc LV i hin] at hS5
  refine o_nil ?_
  refine k_region ?_
  refine m_int rfl rfl ?_
  refine n_add rfl rfl (by omega) ?_
  refine m_int rfl rfl ?_
  refine n_add rfl rfl (by omega) ?_
  refine m_int rfl rfl ?_
  refine o_nil ?_
  refine k_blk ?_
  refine k_region ?_
  refine m_int rfl rfl ?_
  refine n_add rfl rfl (by omega) ?_
  refine m_int rfl rfl ?_
  refine o_nil ?_
  refine k_goal ⟨(i + 1, ((1 + sumN ws (LV.take i) : Nat) : Int) + 1 + (m : Int)), ⟨rfl, rfl, rfl, rfl, rfl, rfl, trivial⟩, ⟨hin, ?_, hS5, hk3.tr1 hK5 (by omega)⟩, by simp only; omega⟩
  simp only
  rw [take_snoc LV i hin, sumN_app, hke]
  simp only [sumN, hsz]
  push_cast
  omega
end Go.Proofs.YtchbidckckmobaaDoor

/- law20.head; what law20.fixed asks, plain. No condition beyond what each names. -/
namespace Go.Proofs.YtchbidckckmobaaDoor
open Go.RowKit E
set_option linter.unusedVariables false
set_option linter.unusedSimpArgs false
set_option maxRecDepth 100000
attribute [local irreducible] ow qw kw kq cw opW Ret
theorem h20_ok (w : World) (kind cl n : Int) : Ret Tryd.prog 61 [.int .i64 kind, .int .i64 cl, .int .i64 n] w (fun v w' => v = .int .i64 (headW kind cl n 0).1 ∧ w' = w) := by
  refine fn_enter (n := 17) Tryd.func61 rfl rfl (Nat.le_of_ble_eq_true rfl) (fun e => ?_)
  refine k_seq ?_
  refine k_region ?_
  refine m_int rfl rfl ?_
  refine o_nil ?_
  refine k_seq ?_
  refine k_region ?_
  refine m_int rfl rfl ?_
  refine m_int rfl rfl ?_
  refine m_int rfl rfl ?_
  refine o_call rfl rfl (rhead_ok w kind cl n 0 (by omega)) (fun v w1 hv => ?_)
  obtain ⟨rfl, rfl⟩ := hv
  refine m_any rfl rfl ?_
  refine o_extr rfl rfl ?_
  refine o_extr rfl rfl ?_
  refine m_int rfl rfl ?_
  refine m_int rfl rfl ?_
  refine o_nil ?_
  refine k_seq ?_
  refine k_region ?_
  refine m_int rfl rfl ?_
  refine m_int rfl rfl ?_
  refine o_nil ?_
  refine k_ret (ret_tmps (ts := [6]) (v := .int _ _) rfl rfl ?_)
  exact ⟨rfl, rfl⟩
theorem samw_ok (w : World) (a1 a2 : Option Addr) (c1 c2 : Nat) (us vs : List Int) (hR1 : Rd w a1 (us.map iv)) (hR2 : Rd w a2 (vs.map iv)) (hu : us.length ≤ 9223372036854775807) (hv : vs.length ≤ 9223372036854775807) :
    Ret Tryd.prog 22 [.slice a1 us.length c1, .slice a2 vs.length c2] w (fun v w' => v = .bool (decide (us = vs)) ∧ Keep [] w w') := by
  refine fn_enter (n := 26) Tryd.func22 rfl rfl (Nat.le_of_ble_eq_true rfl) (fun e => ?_)
  refine k_seq ?_
  refine k_region ?_
  refine m_bool rfl rfl ?_
  refine o_nil ?_
  refine k_seq ?_
  refine k_seq ?_
  refine k_region ?_
  refine m_sl rfl rfl ?_
  refine o_lens Tryd.underlying22 rfl ?_
  refine m_sl rfl rfl ?_
  refine o_lens Tryd.underlying22 rfl ?_
  refine b_neq rfl rfl ?_
  refine o_nil ?_
  refine k_cond rfl (fun h => ?_) (fun h => ?_)
  ·
    refine k_seq ?_
    refine k_region ?_
    refine m_bool rfl rfl ?_
    refine o_nil ?_
    refine k_ret (ret_tmps (ts := [4]) (v := .bool _) rfl rfl ?_)
    exact ⟨congrArg Value.bool (decide_eq_false (fun hh => h (by rw [hh]))).symm, Keep.refl _ _⟩
  have hlen : us.length = vs.length := by omega
  refine k_skip ?_
  refine k_seq ?_
  refine k_seq ?_
  refine k_region ?_
  refine m_int rfl rfl ?_
  refine o_nil ?_
  refine k_block ?_
  refine k_loop (σ := Nat) (fun i => [(0, .slice a1 us.length c1), (1, .slice a2 vs.length c2), (5, .int .i64 (i : Int))]) (fun i w' => i ≤ us.length ∧ (∀ j, j < i → us[j]? = vs[j]?) ∧ Keep [] w w') (fun i => us.length - i) 0 ⟨rfl, rfl, rfl, trivial⟩ ⟨Nat.zero_le _, (fun j hj => by omega), Keep.refl _ _⟩ (fun i e w3 hJ => ?_)
  obtain ⟨hi, hpre, hK3⟩ := hJ
  refine k_seq ?_
  refine k_seq ?_
  refine k_region ?_
  refine m_int rfl rfl ?_
  refine m_sl rfl rfl ?_
  refine o_lens Tryd.underlying22 rfl ?_
  refine b_lss rfl rfl ?_
  refine o_nil ?_
  refine k_cond rfl (fun h => ?_) (fun h => ?_)
  rotate_left
  ·
    refine k_exit rfl ?_
    refine k_seq ?_
    refine k_region ?_
    refine m_bool rfl rfl ?_
    refine o_nil ?_
    refine k_ret (ret_tmps (ts := [4]) (v := .bool _) rfl rfl ?_)
    refine ⟨congrArg Value.bool (decide_eq_true ?_).symm, hK3⟩
    refine List.ext_getElem? fun j => ?_
    by_cases hj : j < us.length
    · exact hpre j (by omega)
    · rw [List.getElem?_eq_none (by omega), List.getElem?_eq_none (by omega)]
  have hin : i < us.length := by omega
  have hx := iv_at us i hin
  have hy := iv_at vs i (by omega)
  obtain ⟨b1, o1, hae, _⟩ := hR1 _ _ hx
  obtain ⟨b2, o2, hbe, _⟩ := hR2 _ _ hy
  subst hae hbe
  refine k_skip ?_
  refine k_seq ?_
  refine k_block ?_
  refine k_seq ?_
  refine k_qk 8 rfl rfl rfl rfl rfl ?_
  refine q_step (fun w1 hC => m_sl rfl rfl (o_nil ⟨rfl, hC⟩)) ?_
  refine q_step (fun w1 hC => m_int rfl rfl (o_nil ⟨rfl, hC⟩)) ?_
  refine q_step (fun w1 hC => o_ixs1 Tryd.underlying22 rfl rfl rfl hin (o_nil ⟨rfl, hC⟩)) ?_
  refine q_step (fun w1 hC => o_ld rfl rfl (hR1.cellK (hK3.tr hC) hx) (o_nil ⟨rfl, hC⟩)) ?_
  refine q_step (fun w1 hC => m_sl rfl rfl (o_nil ⟨rfl, hC⟩)) ?_
  refine q_step (fun w1 hC => m_int rfl rfl (o_nil ⟨rfl, hC⟩)) ?_
  refine q_step (fun w1 hC => o_ixs1 Tryd.underlying22 rfl rfl rfl (by omega) (o_nil ⟨rfl, hC⟩)) ?_
  refine q_step (fun w1 hC => o_ld rfl rfl (hR2.cellK (hK3.tr hC) hy) (o_nil ⟨rfl, hC⟩)) ?_
  refine q_nil ?_
  intro w4 hC4
  refine b_neq rfl rfl ?_
  refine o_nil ?_
  refine k_cond rfl (fun h => ?_) (fun h => ?_)
  ·
    refine k_seq ?_
    refine k_region ?_
    refine m_bool rfl rfl ?_
    refine o_nil ?_
    refine k_ret (ret_tmps (ts := [4]) (v := .bool _) rfl rfl ?_)
    refine ⟨congrArg Value.bool (decide_eq_false (fun hh => h ?_)).symm, hK3.tr hC4⟩
    subst hh
    rfl
  refine k_skip ?_
  refine k_blk ?_
  refine k_region ?_
  refine m_int rfl rfl ?_
  refine n_add rfl rfl (by omega) ?_
  refine m_int rfl rfl ?_
  refine o_nil ?_
  refine k_goal ⟨i + 1, ⟨rfl, rfl, rfl, trivial⟩, ⟨by omega, fun j hj => ?_, hK3.tr hC4⟩, by omega⟩
  by_cases hji : j = i
  · rw [hji, List.getElem?_eq_getElem hin, List.getElem?_eq_getElem (by omega)]
    exact congrArg some (Decidable.of_not_not h)
  · exact hpre j (by omega)
def MarkIs (ws rts : List Int) (er : Int) (LV : List Int) : Prop := (er = 24 ∧ LV = [] ∧ blocksW ws = none) ∨ (er = 1 ∧ LV = [] ∧ ∃ L, blocksW ws = some L ∧ ¬ rootsOk ws L rts) ∨ (er = 0 ∧ IsLive ws rts LV ∧ ∃ L, blocksW ws = some L ∧ rootsOk ws L rts)
def CollIs (ws rts : List Int) (er : Int) (xs rs : List Int) : Prop := (er = 24 ∧ xs = [] ∧ rs = [] ∧ blocksW ws = none) ∨ (er = 1 ∧ xs = [] ∧ rs = [] ∧ ∃ L, blocksW ws = some L ∧ ¬ rootsOk ws L rts) ∨
      (er = 0 ∧ ∃ L LV, blocksW ws = some L ∧ rootsOk ws L rts ∧ IsLive ws rts LV ∧ xs = outW ws LV ∧ rs = rts.map (adr ws LV 1))
theorem MarkIs.one {ws rts : List Int} {er er' : Int} {A B : List Int} (h : MarkIs ws rts er A) (h' : MarkIs ws rts er' B) : er = er' ∧ A = B := by
  rcases h with ⟨rfl, rfl, h⟩ | ⟨rfl, rfl, L, h, hr⟩ | ⟨rfl, hA, L, h, hr⟩ <;> rcases h' with ⟨rfl, rfl, h'⟩ | ⟨rfl, rfl, L', h', hr'⟩ | ⟨rfl, hB, L', h', hr'⟩ <;> rw [h] at h' <;> first | exact ⟨rfl, rfl⟩ | exact ⟨rfl, hA.one hB⟩ | (cases h'; done) | (cases h'; exact absurd hr' hr) | (cases h'; exact absurd hr hr')
theorem CollIs.one {ws rts : List Int} {er er' : Int} {A B C D : List Int} (h : CollIs ws rts er A C) (h' : CollIs ws rts er' B D) : er = er' ∧ A = B ∧ C = D := by
  rcases h with ⟨rfl, rfl, rfl, h⟩ | ⟨rfl, rfl, rfl, L, h, hr⟩ | ⟨rfl, L, LV, h, hr, hA, rfl, rfl⟩ <;> rcases h' with ⟨rfl, rfl, rfl, h'⟩ | ⟨rfl, rfl, rfl, L', h', hr'⟩ | ⟨rfl, L', LV', h', hr', hB, rfl, rfl⟩ <;> rw [h] at h' <;> first | exact ⟨rfl, rfl, rfl⟩ | (rw [hA.one hB]; exact ⟨rfl, rfl, rfl⟩) | (cases h'; done) | (cases h'; exact absurd hr' hr) | (cases h'; exact absurd hr hr')
theorem mark_is {w w' : World} {v : Value} {ws rts : List Int} (h : MarkRes w w' v ws rts) : ∃ er LV a2 c2, v = .tuple #[.slice a2 LV.length c2, .int .i64 er] ∧ Rd w' a2 (LV.map iv) ∧ LV.length ≤ 9223372036854775807 ∧ Keep [] w w' ∧ MarkIs ws rts er LV := h
theorem coll_is {w w' : World} {v : Value} {ws rts : List Int} (h : CollRes w w' v ws rts) : ∃ er xs rs a2 c2 a3 c3, v = .tuple #[.slice a2 xs.length c2, .slice a3 rs.length c3, .int .i64 er] ∧ Sl w' 2 1 a2 xs.length c2 (xs.map iv) ∧ (∀ z, a2 = some z → w.heap.size ≤ z.block) ∧ Rd w' a3 (rs.map iv) ∧ rs.length ≤ 9223372036854775807 ∧ Keep [] w w' ∧ CollIs ws rts er xs rs := h
def sw : List Int := [0, 262174, 5, 262147, 1, 30]
theorem sw5 : chain sw 5 = some [5] := by
  rw [chain_yes sw 5 (by decide) (by decide), show 5 + 1 + (openW (sw[5]'(by decide))).2.2.1.toNat = 6 by decide, chain_end sw 6 (by decide)]
  rfl
theorem sw3 : chain sw 3 = some [3, 5] := by
  rw [chain_yes sw 3 (by decide) (by decide), show 3 + 1 + (openW (sw[3]'(by decide))).2.2.1.toNat = 5 by decide, sw5]
  rfl
theorem sw1 : chain sw 1 = some [1, 3, 5] := by
  rw [chain_yes sw 1 (by decide) (by decide), show 1 + 1 + (openW (sw[1]'(by decide))).2.2.1.toNat = 3 by decide, sw3]
  rfl
theorem sw_blocks : blocksW sw = some [1, 3, 5] := by
  rw [blocks_b sw _ (by decide) (by decide) sw1, if_pos (by decide)]
theorem sw_r3 : refsW sw 3 = [4] := by decide
theorem sw_r1 : refsW sw 1 = [] := by decide
theorem sw_r5 : refsW sw 5 = [] := by decide
theorem sw_live3 : IsLive sw [3] [1, 3] := by
  refine ⟨by decide, fun x => ⟨fun h => ?_, fun h => ?_⟩⟩
  · have h3 : Reach sw [3] 3 := .root (by simp) (by decide)
    simp only [List.mem_cons, List.not_mem_nil, or_false] at h
    rcases h with rfl | rfl
    · exact Reach.step (c := 4) h3 (by rw [sw_r3]; simp) (by decide)
    · exact h3
  · induction h with
    | root h1 h2 => simp at h1; subst h1; decide
    | step h1 h2 h3 ih =>
      simp only [List.mem_cons, List.not_mem_nil, or_false] at ih
      rcases ih with rfl | rfl
      · rw [sw_r1] at h2; simp at h2
      · rw [sw_r3] at h2; simp at h2; subst h2; decide
theorem sw_live5 : IsLive sw [5] [5] := by
  refine ⟨by decide, fun x => ⟨fun h => ?_, fun h => ?_⟩⟩
  · simp only [List.mem_cons, List.not_mem_nil, or_false] at h
    subst h; exact .root (by simp) (by decide)
  · induction h with
    | root h1 h2 => exact h1
    | step h1 h2 h3 ih =>
      simp only [List.mem_cons, List.not_mem_nil, or_false] at ih
      subst ih
      rw [sw_r5] at h2; simp at h2
theorem sw_ok3 : rootsOk sw [1, 3, 5] [3] := by intro r hr; simp at hr; subst hr; decide
theorem sw_ok5 : rootsOk sw [1, 3, 5] [5] := by intro r hr; simp at hr; subst hr; decide
theorem sw_no2 : ¬ rootsOk sw [1, 3, 5] [2] := fun h => absurd ((h 2 (by simp)).2.2 (by decide)) (by decide)
theorem sw_mark : MarkIs sw [3] 0 [1, 3] := .inr (.inr ⟨rfl, sw_live3, _, sw_blocks, sw_ok3⟩)
theorem sw_coll3 : CollIs sw [3] 0 (sw.take 5) [3] := .inr (.inr ⟨rfl, _, _, sw_blocks, sw_ok3, sw_live3, by decide, by decide⟩)
theorem sw_coll5 : CollIs sw [5] 0 [0, 30] [1] := .inr (.inr ⟨rfl, _, _, sw_blocks, sw_ok5, sw_live5, by decide, by decide⟩)
theorem sw_coll2 : CollIs sw [2] 1 [] [] := .inr (.inl ⟨rfl, rfl, rfl, _, sw_blocks, sw_no2⟩)
end Go.Proofs.YtchbidckckmobaaDoor

/- law20.fixed. No condition beyond what each contract names. -/
namespace Go.Proofs.YtchbidckckmobaaDoor
open Go.RowKit E
set_option linter.unusedVariables false
set_option linter.unusedSimpArgs false
set_option maxRecDepth 100000
attribute [local irreducible] ow qw kw kq cw opW Ret
set_option maxHeartbeats 1000000 in
theorem fixed20_ok (w : World) (ht : TabTz w) : Ret Tryd.prog 16 [] w (fun v w' => v = .bool true ∧ Keep [] w w') := by
  refine fn_enter (n := 85) Tryd.func16 rfl rfl (Nat.le_of_ble_eq_true rfl) (fun e => ?_)
  refine k_seq ?_
  refine k_region ?_
  refine m_bool rfl rfl ?_
  refine o_nil ?_
  refine k_seq ?_
  refine k_region ?_
  refine o_call rfl rfl (h20_ok w 2 7 1) (fun v w1 hv => ?_)
  obtain ⟨rfl, rfl⟩ := hv
  refine o_call rfl rfl (h20_ok w1 3 0 1) (fun v w2 hv => ?_)
  obtain ⟨rfl, rfl⟩ := hv
  refine o_call rfl rfl (h20_ok w2 2 7 0) (fun v w3 hv => ?_)
  obtain ⟨rfl, rfl⟩ := hv
  rw [show (headW 2 7 1 0).1 = 262174 by decide, show (headW 3 0 1 0).1 = 262147 by decide, show (headW 2 7 0 0).1 = 30 by decide]
  refine o_bsl (E := 2) (cs := #[iv 0, iv 262174, iv 5, iv 262147, iv 1, iv 30]) rfl (fun _ => by kernel_rfl) (fun g4 w4 hB4 hK4 hb4 hZ4 => ?_)
  have hS4 : Sl w4 2 1 (some ⟨g4, 0, none⟩) 6 6 (sw.map iv) := hB4.sl (len := 6) (sz := 1) rfl (by decide)
  refine m_sl rfl rfl ?_
  refine o_nil ?_
  refine k_seq ?_
  refine k_region ?_
  refine m_sl rfl rfl ?_
  refine o_bsl (E := 3) (cs := #[iv 3]) rfl (fun _ => by kernel_rfl) (fun g5 w5 hB5 hK5 hb5 hZ5 => ?_)
  have hS5 : Sl w5 3 1 (some ⟨g5, 0, none⟩) 1 1 (([3] : List Int).map iv) := hB5.sl (len := 1) (sz := 1) rfl (by decide)
  have hK45 := hK4.tr hK5
  refine o_call rfl rfl (smark_ok w5 (some ⟨g4, 0, none⟩) (some ⟨g5, 0, none⟩) 6 1 sw [3] (hS4.new hK5).rd hS5.rd (by decide) (by decide) (ht.new hK45)) (fun v w6 hv => ?_)
  obtain ⟨er, LV, a6, c6, rfl, hR6, hL6, hK6, hm⟩ := mark_is hv
  obtain ⟨rfl, rfl⟩ := hm.one sw_mark
  have hK46 := hK45.tr hK6
  refine m_any rfl rfl ?_
  refine o_extr rfl rfl ?_
  refine o_extr rfl rfl ?_
  refine m_sl rfl rfl ?_
  refine m_int rfl rfl ?_
  refine o_nil ?_
  refine k_seq ?_
  refine k_region ?_
  refine m_sl rfl rfl ?_
  refine o_bsl (E := 3) (cs := #[iv 3]) rfl (fun _ => by kernel_rfl) (fun g7 w7 hB7 hK7 hb7 hZ7 => ?_)
  have hS7 : Sl w7 3 1 (some ⟨g7, 0, none⟩) 1 1 (([3] : List Int).map iv) := hB7.sl (len := 1) (sz := 1) rfl (by decide)
  have hK57 := (hK5.tr hK6).tr hK7
  refine o_call rfl rfl (scoll_ok w7 (some ⟨g4, 0, none⟩) (some ⟨g7, 0, none⟩) 6 1 sw [3] (hS4.new hK57).rd hS7.rd (by decide) (by decide) (by decide) (by decide) (ht.new (hK46.tr hK7))) (fun v w8 hv => ?_)
  obtain ⟨er, xs, rs, a8, c8, b8, d8, rfl, hS8, _, hR8, _, hK8, hm⟩ := coll_is hv
  obtain ⟨rfl, rfl, rfl⟩ := hm.one sw_coll3
  have hK58 := hK57.tr hK8
  refine m_any rfl rfl ?_
  refine o_extr rfl rfl ?_
  refine o_extr rfl rfl ?_
  refine o_extr rfl rfl ?_
  refine m_sl rfl rfl ?_
  refine m_sl rfl rfl ?_
  refine m_int rfl rfl ?_
  refine o_nil ?_
  refine k_seq ?_
  refine k_region ?_
  refine m_sl rfl rfl ?_
  refine o_bsl (E := 3) (cs := #[iv 5]) rfl (fun _ => by kernel_rfl) (fun g9 w9 hB9 hK9 hb9 hZ9 => ?_)
  have hS9 : Sl w9 3 1 (some ⟨g9, 0, none⟩) 1 1 (([5] : List Int).map iv) := hB9.sl (len := 1) (sz := 1) rfl (by decide)
  have hK59 := hK58.tr hK9
  refine o_call rfl rfl (scoll_ok w9 (some ⟨g4, 0, none⟩) (some ⟨g9, 0, none⟩) 6 1 sw [5] (hS4.new hK59).rd hS9.rd (by decide) (by decide) (by decide) (by decide) (ht.new (hK4.tr hK59))) (fun v w10 hv => ?_)
  obtain ⟨er, xs, rs, a10, c10, b10, d10, rfl, hS10, _, hR10, _, hK10, hm⟩ := coll_is hv
  obtain ⟨rfl, rfl, rfl⟩ := hm.one sw_coll5
  have hK510 := hK59.tr hK10
  refine m_any rfl rfl ?_
  refine o_extr rfl rfl ?_
  refine o_extr rfl rfl ?_
  refine o_extr rfl rfl ?_
  refine m_sl rfl rfl ?_
  refine m_sl rfl rfl ?_
  refine m_int rfl rfl ?_
  refine o_nil ?_
  refine k_seq ?_
  refine k_region ?_
  refine m_sl rfl rfl ?_
  refine o_bsl (E := 3) (cs := #[iv 2]) rfl (fun _ => by kernel_rfl) (fun g11 w11 hB11 hK11 hb11 hZ11 => ?_)
  have hS11 : Sl w11 3 1 (some ⟨g11, 0, none⟩) 1 1 (([2] : List Int).map iv) := hB11.sl (len := 1) (sz := 1) rfl (by decide)
  have hK511 := hK510.tr hK11
  refine o_call rfl rfl (scoll_ok w11 (some ⟨g4, 0, none⟩) (some ⟨g11, 0, none⟩) 6 1 sw [2] (hS4.new hK511).rd hS11.rd (by decide) (by decide) (by decide) (by decide) (ht.new (hK4.tr hK511))) (fun v w12 hv => ?_)
  obtain ⟨er, xs, rs, a12, c12, b12, d12, rfl, hS12, _, hR12, _, hK12, hm⟩ := coll_is hv
  obtain ⟨rfl, rfl, rfl⟩ := hm.one sw_coll2
  have hK512 := hK511.tr hK12
  have hK612 := (((((hK7.tr hK8).tr hK9).tr hK10).tr hK11).tr hK12)
  have hK812 := (((hK9.tr hK10).tr hK11).tr hK12)
  refine m_any rfl rfl ?_
  refine o_extr rfl rfl ?_
  refine o_extr rfl rfl ?_
  refine o_extr rfl rfl ?_
  refine m_sl rfl rfl ?_
  refine m_sl rfl rfl ?_
  refine m_int rfl rfl ?_
  refine o_nil ?_
  refine k_seq ?_
  refine k_region ?_
  refine m_sl rfl rfl ?_
  refine o_bsl (E := 3) (cs := #[iv 1, iv 3]) rfl (fun _ => by kernel_rfl) (fun g13 w13 hB13 hK13 hb13 hZ13 => ?_)
  have hS13 : Sl w13 3 1 (some ⟨g13, 0, none⟩) 2 2 (([1, 3] : List Int).map iv) := hB13.sl (len := 2) (sz := 1) rfl (by decide)
  refine o_call rfl rfl (same_ok w13 a6 (some ⟨g13, 0, none⟩) 2 2 c6 2 [1, 3] [1, 3] (hR6.new (hK612.tr hK13)) hS13.rd rfl rfl (by decide)) (fun v w14 hv => ?_)
  obtain ⟨rfl, hK14⟩ := hv
  refine m_bool rfl rfl ?_
  refine o_true (t := 47) rfl (rfl) ?_
  refine g_yes rfl rfl ?_
  refine m_int rfl rfl ?_
  refine g_yes rfl rfl ?_
  refine b_eql rfl rfl ?_
  refine pick_t rfl rfl ?_
  refine m_bool rfl rfl ?_
  refine o_true (t := 51) rfl (rfl) ?_
  refine g_yes rfl rfl ?_
  refine m_sl rfl rfl ?_
  refine g_yes rfl rfl ?_
  refine m_sl rfl rfl ?_
  refine g_yes rfl rfl ?_
  refine o_slh (hi := 5) (sz := 1) Tryd.underlying22 rfl rfl rfl (by decide) ?_
  refine g_yes rfl rfl ?_
  refine o_call rfl rfl (samw_ok w14 a8 (some ⟨g4, 0, none⟩) c8 6 (sw.take 5) (sw.take 5) (hS8.rd.new ((hK812.tr hK13).tr hK14)) (by rw [List.map_take]; exact (hS4.rd.new ((hK512.tr hK13).tr hK14)).take 5) (by decide) (by decide)) (fun v w15 hv => ?_)
  obtain ⟨rfl, hK15⟩ := hv
  refine pick_t rfl rfl ?_
  refine m_bool rfl rfl ?_
  refine o_true (t := 57) rfl (rfl) ?_
  refine g_yes rfl rfl ?_
  refine m_sl rfl rfl ?_
  refine g_yes rfl rfl ?_
  refine o_bsl (E := 3) (cs := #[iv 3]) rfl (fun _ => by kernel_rfl) (fun g16 w16 hB16 hK16 hb16 hZ16 => ?_)
  have hS16 : Sl w16 3 1 (some ⟨g16, 0, none⟩) 1 1 (([3] : List Int).map iv) := hB16.sl (len := 1) (sz := 1) rfl (by decide)
  have hK1216 := ((hK13.tr hK14).tr hK15).tr hK16
  refine g_yes rfl rfl ?_
  refine o_call rfl rfl (same_ok w16 b8 (some ⟨g16, 0, none⟩) 1 1 d8 1 [3] [3] (hR8.new (hK812.tr hK1216)) hS16.rd rfl rfl (by decide)) (fun v w17 hv => ?_)
  obtain ⟨rfl, hK17⟩ := hv
  refine pick_t rfl rfl ?_
  refine m_bool rfl rfl ?_
  refine o_true (t := 62) rfl (rfl) ?_
  refine g_yes rfl rfl ?_
  refine m_int rfl rfl ?_
  refine g_yes rfl rfl ?_
  refine b_eql rfl rfl ?_
  refine pick_t rfl rfl ?_
  refine m_bool rfl rfl ?_
  refine o_true (t := 66) rfl (rfl) ?_
  refine g_yes rfl rfl ?_
  refine m_sl rfl rfl ?_
  refine g_yes rfl rfl ?_
  refine o_call rfl rfl (h20_ok w17 2 7 0) (fun v w18 hv => ?_)
  obtain ⟨rfl, rfl⟩ := hv
  rw [show (headW 2 7 0 0).1 = 30 by decide]
  refine g_yes rfl rfl ?_
  refine o_bsl (E := 2) (cs := #[iv 0, iv 30]) rfl (fun _ => by kernel_rfl) (fun g19 w19 hB19 hK19 hb19 hZ19 => ?_)
  have hS19 : Sl w19 2 1 (some ⟨g19, 0, none⟩) 2 2 (([0, 30] : List Int).map iv) := hB19.sl (len := 2) (sz := 1) rfl (by decide)
  have hK1019 := ((hK11.tr hK12).tr (hK1216.tr hK17)).tr hK19
  refine g_yes rfl rfl ?_
  refine o_call rfl rfl (samw_ok w19 a10 (some ⟨g19, 0, none⟩) c10 2 [0, 30] [0, 30] (hS10.rd.new hK1019) hS19.rd (by decide) (by decide)) (fun v w20 hv => ?_)
  obtain ⟨rfl, hK20⟩ := hv
  refine pick_t rfl rfl ?_
  refine m_bool rfl rfl ?_
  refine o_true (t := 72) rfl (rfl) ?_
  refine g_yes rfl rfl ?_
  refine m_sl rfl rfl ?_
  refine g_yes rfl rfl ?_
  refine o_bsl (E := 3) (cs := #[iv 1]) rfl (fun _ => by kernel_rfl) (fun g21 w21 hB21 hK21 hb21 hZ21 => ?_)
  have hS21 : Sl w21 3 1 (some ⟨g21, 0, none⟩) 1 1 (([1] : List Int).map iv) := hB21.sl (len := 1) (sz := 1) rfl (by decide)
  refine g_yes rfl rfl ?_
  refine o_call rfl rfl (same_ok w21 b10 (some ⟨g21, 0, none⟩) 1 1 d10 1 [1] [1] (hR10.new ((hK1019.tr hK20).tr hK21)) hS21.rd rfl rfl (by decide)) (fun v w22 hv => ?_)
  obtain ⟨rfl, hK22⟩ := hv
  refine pick_t rfl rfl ?_
  refine m_bool rfl rfl ?_
  refine o_true (t := 77) rfl (rfl) ?_
  refine g_yes rfl rfl ?_
  refine m_int rfl rfl ?_
  refine g_yes rfl rfl ?_
  refine b_eql rfl rfl ?_
  refine pick_t rfl rfl ?_
  refine m_bool rfl rfl ?_
  refine o_true (t := 81) rfl (rfl) ?_
  refine g_yes rfl rfl ?_
  refine m_int rfl rfl ?_
  refine g_yes rfl rfl ?_
  refine b_eql rfl rfl ?_
  refine pick_t rfl rfl ?_
  refine m_bool rfl rfl ?_
  refine o_nil ?_
  refine k_ret (ret_tmps (ts := [0]) (v := .bool _) rfl rfl ?_)
  exact ⟨rfl, (((((hK4.tr hK512).tr hK1216).tr hK17).tr hK19).tr hK20).tr (hK21.tr hK22)⟩
end Go.Proofs.YtchbidckckmobaaDoor

/- SlideMarks and SlideCollects. No condition beyond what each contract names. -/
namespace Go.Proofs.YtchbidckckmobaaDoor
open Go.RowKit E
set_option linter.unusedVariables false
set_option linter.unusedSimpArgs false
set_option maxRecDepth 100000
attribute [local irreducible] ow qw kw kq cw opW Ret
theorem sl_cap {w : World} {E : TypeId} {sz : Nat} {a : Option Addr} {m c : Nat} {xs : List Value} (h : Sl w E sz a m c xs) : c ≤ 9223372036854775807 := by
  rcases h.2 with ⟨_, _, rfl⟩ | ⟨g, cur, _, _, _, h2, _⟩
  · omega
  · simpa [maxLen] using h2
theorem marks_ok (w : World) (a ra : Option Addr) (c rc : Nat) (ws rts : List Int) (hW : Rd w a (ws.map iv)) (hR : Rd w ra (rts.map iv)) (hx : ∀ x ∈ ws, x ≤ 9223372036854775807) (ht : TabTz w) :
    Ret Tryd.prog 3 [.slice a ws.length c, .slice ra rts.length rc] w (fun v w' => v = .bool true ∧ Keep [] w w') := by
  refine fn_enter (n := 39) Tryd.func3 rfl rfl (Nat.le_of_ble_eq_true rfl) (fun e => ?_)
  refine k_seq ?_
  refine k_region ?_
  refine m_bool rfl rfl ?_
  refine o_nil ?_
  refine k_seq ?_
  refine k_seq ?_
  refine k_region ?_
  refine o_call rfl rfl (fixed20_ok w ht) (fun v w1 hv => ?_)
  obtain ⟨rfl, hK1⟩ := hv
  refine u_notb rfl ?_
  refine o_nil ?_
  refine k_condf rfl ?_
  refine k_skip ?_
  refine k_seq ?_
  refine k_seq ?_
  refine k_region ?_
  refine m_sl rfl rfl ?_
  refine o_lens Tryd.underlying22 rfl ?_
  refine b_gtr rfl rfl ?_
  refine m_bool rfl rfl ?_
  refine o_split (t := 14) rfl (fun h => ?_) (fun h => ?_)
  ·
    refine g_no rfl rfl rfl ?_
    refine g_no rfl rfl rfl ?_
    refine g_no rfl rfl rfl ?_
    refine pick_t rfl rfl ?_
    refine o_nil ?_
    refine k_condt rfl ?_
    refine k_seq ?_
    refine k_region ?_
    refine m_bool rfl rfl ?_
    refine o_nil ?_
    refine k_ret (ret_tmps (ts := [4]) (v := .bool _) rfl rfl ?_)
    exact ⟨rfl, hK1⟩
  ·
    refine g_yes rfl rfl ?_
    refine m_sl rfl rfl ?_
    refine g_yes rfl rfl ?_
    refine o_lens Tryd.underlying23 rfl ?_
    refine g_yes rfl rfl ?_
    refine b_gtr rfl rfl ?_
    refine pick_f rfl rfl ?_
    refine o_nil ?_
    refine k_cond rfl (fun h => ?_) (fun h => ?_)
    ·
      refine k_seq ?_
      refine k_region ?_
      refine m_bool rfl rfl ?_
      refine o_nil ?_
      refine k_ret (ret_tmps (ts := [4]) (v := .bool _) rfl rfl ?_)
      exact ⟨rfl, hK1⟩
    refine k_skip ?_
    refine k_seq ?_
    refine k_region ?_
    refine m_sl rfl rfl ?_
    refine m_sl rfl rfl ?_
    refine o_call rfl rfl (smark_ok w1 a ra c rc ws rts (hW.new hK1) (hR.new hK1) (by omega) (by omega) (ht.new hK1)) (fun v w2 hv => ?_)
    obtain ⟨er, LV, a2, c2, rfl, hR2, hL2, hK2, hm2⟩ := mark_is hv
    have hK02 := hK1.tr hK2
    refine m_any rfl rfl ?_
    refine o_extr rfl rfl ?_
    refine o_extr rfl rfl ?_
    refine m_sl rfl rfl ?_
    refine m_int rfl rfl ?_
    refine o_nil ?_
    refine k_seq ?_
    refine k_region ?_
    refine m_sl rfl rfl ?_
    refine m_sl rfl rfl ?_
    refine o_call rfl rfl (rmark_ok w2 a ra c rc ws rts (hW.new hK02) (hR.new hK02) (by omega) (by omega) hx) (fun v w3 hv => ?_)
    obtain ⟨er3, LV3, a3, c3, rfl, hR3, hL3, hK3, hm3⟩ := mark_is hv
    obtain ⟨rfl, rfl⟩ := hm2.one hm3
    refine m_any rfl rfl ?_
    refine o_extr rfl rfl ?_
    refine o_extr rfl rfl ?_
    refine m_sl rfl rfl ?_
    refine m_int rfl rfl ?_
    refine o_nil ?_
    refine k_seq ?_
    refine k_region ?_
    refine m_int rfl rfl ?_
    refine m_int rfl rfl ?_
    refine b_eql rfl rfl ?_
    refine m_bool rfl rfl ?_
    refine o_true (t := 34) rfl (rfl) ?_
    refine g_yes rfl rfl ?_
    refine m_sl rfl rfl ?_
    refine g_yes rfl rfl ?_
    refine m_sl rfl rfl ?_
    refine g_yes rfl rfl ?_
    refine o_call rfl rfl (same_ok w3 a2 a3 LV.length LV.length c2 c3 LV LV (hR2.new hK3) hR3 rfl rfl hL2) (fun v w4 hv => ?_)
    obtain ⟨rfl, hK4⟩ := hv
    refine pick_t rfl rfl ?_
    refine m_bool rfl rfl ?_
    refine o_nil ?_
    refine k_ret (ret_tmps (ts := [4]) (v := .bool _) rfl rfl ?_)
    exact ⟨congrArg Value.bool (decide_eq_true rfl), (hK02.tr hK3).tr hK4⟩
theorem colls_ok (w : World) (a ra : Option Addr) (c rc : Nat) (ws rts : List Int) (hW : Rd w a (ws.map iv)) (hR : Rd w ra (rts.map iv)) (hx : ∀ x ∈ ws, x ≤ 9223372036854775807) (ht : TabTz w) :
    Ret Tryd.prog 4 [.slice a ws.length c, .slice ra rts.length rc] w (fun v w' => v = .bool true ∧ Keep [] w w') := by
  refine fn_enter (n := 66) Tryd.func4 rfl rfl (Nat.le_of_ble_eq_true rfl) (fun e => ?_)
  refine k_seq ?_
  refine k_region ?_
  refine m_bool rfl rfl ?_
  refine o_nil ?_
  refine k_seq ?_
  refine k_seq ?_
  refine k_region ?_
  refine o_call rfl rfl (fixed20_ok w ht) (fun v w1 hv => ?_)
  obtain ⟨rfl, hK1⟩ := hv
  refine u_notb rfl ?_
  refine o_nil ?_
  refine k_condf rfl ?_
  refine k_skip ?_
  refine k_seq ?_
  refine k_seq ?_
  refine k_region ?_
  refine m_sl rfl rfl ?_
  refine o_lens Tryd.underlying22 rfl ?_
  refine b_gtr rfl rfl ?_
  refine m_bool rfl rfl ?_
  refine o_split (t := 18) rfl (fun h => ?_) (fun h => ?_)
  ·
    refine g_no rfl rfl rfl ?_
    refine g_no rfl rfl rfl ?_
    refine g_no rfl rfl rfl ?_
    refine pick_t rfl rfl ?_
    refine o_nil ?_
    refine k_condt rfl ?_
    refine k_seq ?_
    refine k_region ?_
    refine m_bool rfl rfl ?_
    refine o_nil ?_
    refine k_ret (ret_tmps (ts := [4]) (v := .bool _) rfl rfl ?_)
    exact ⟨rfl, hK1⟩
  ·
    refine g_yes rfl rfl ?_
    refine m_sl rfl rfl ?_
    refine g_yes rfl rfl ?_
    refine o_lens Tryd.underlying23 rfl ?_
    refine g_yes rfl rfl ?_
    refine b_gtr rfl rfl ?_
    refine pick_f rfl rfl ?_
    refine o_nil ?_
    refine k_cond rfl (fun h => ?_) (fun h => ?_)
    ·
      refine k_seq ?_
      refine k_region ?_
      refine m_bool rfl rfl ?_
      refine o_nil ?_
      refine k_ret (ret_tmps (ts := [4]) (v := .bool _) rfl rfl ?_)
      exact ⟨rfl, hK1⟩
    refine k_skip ?_
    refine k_seq ?_
    refine k_region ?_
    refine o_bsl (E := 2) (cs := #[]) rfl (fun _ => by kernel_rfl) (fun g2 w2 hB2 hK2 hb2 hZ2 => ?_)
    refine m_sl rfl rfl ?_
    refine o_app0 Tryd.underlying22 inf2 rfl (by decide) rfl rfl hB2 (hW.new (hK1.tr hK2)) (by simp) (iv_one _) (by simp [maxLen]; omega) (by omega) (fun a3 c3 w3 hS3 hK3 hf3 => ?_)
    refine o_bsl (E := 3) (cs := #[]) rfl (fun _ => by kernel_rfl) (fun g4 w4 hB4 hK4 hb4 hZ4 => ?_)
    have hK14 := ((hK1.tr hK2).tr hK3).tr hK4
    refine m_sl rfl rfl ?_
    refine o_app0 Tryd.underlying23 inf3 rfl (by decide) rfl rfl hB4 (hR.new hK14) (by simp) (iv_one _) (by simp [maxLen]; omega) (by omega) (fun a5 c5 w5 hS5 hK5 hf5 => ?_)
    have hK15 := hK14.tr hK5
    have hS3' := hS3.new (hK4.tr hK5)
    refine m_sl rfl rfl ?_
    refine m_sl rfl rfl ?_
    refine o_nil ?_
    refine k_seq ?_
    refine k_region ?_
    refine m_sl rfl rfl ?_
    refine m_sl rfl rfl ?_
    refine o_call rfl rfl (scoll_ok w5 a3 a5 c3 c5 ws rts hS3'.rd hS5.rd hS3.le (sl_cap hS3) (by omega) (by omega) (ht.new hK15)) (fun v w6 hv => ?_)
    obtain ⟨er, xs, rs, a6, c6, b6, d6, rfl, hS6, _, hR6, hL6, hK6, hm6⟩ := coll_is hv
    have hK16 := hK15.tr hK6
    refine m_any rfl rfl ?_
    refine o_extr rfl rfl ?_
    refine o_extr rfl rfl ?_
    refine o_extr rfl rfl ?_
    refine m_sl rfl rfl ?_
    refine m_sl rfl rfl ?_
    refine m_int rfl rfl ?_
    refine o_nil ?_
    refine k_seq ?_
    refine k_region ?_
    refine m_sl rfl rfl ?_
    refine m_sl rfl rfl ?_
    refine o_call rfl rfl (rcoll_ok w6 a ra c rc ws rts (hW.new hK16) (hR.new hK16) (by omega) (by omega) hx) (fun v w7 hv => ?_)
    obtain ⟨er7, xs7, rs7, a7, c7, b7, d7, rfl, hS7, _, hR7, hL7, hK7, hm7⟩ := coll_is hv
    obtain ⟨rfl, rfl, rfl⟩ := hm6.one hm7
    have hK17 := hK16.tr hK7
    refine m_any rfl rfl ?_
    refine o_extr rfl rfl ?_
    refine o_extr rfl rfl ?_
    refine o_extr rfl rfl ?_
    refine m_sl rfl rfl ?_
    refine m_sl rfl rfl ?_
    refine m_int rfl rfl ?_
    refine o_nil ?_
    refine k_seq ?_
    refine k_region ?_
    refine m_int rfl rfl ?_
    refine m_int rfl rfl ?_
    refine b_eql rfl rfl ?_
    refine m_bool rfl rfl ?_
    refine o_true (t := 46) rfl (rfl) ?_
    refine g_yes rfl rfl ?_
    refine m_sl rfl rfl ?_
    refine g_yes rfl rfl ?_
    refine m_sl rfl rfl ?_
    refine g_yes rfl rfl ?_
    refine o_call rfl rfl (samw_ok w7 a6 a7 c6 c7 xs xs (hS6.rd.new hK7) hS7.rd (sl_max hS6) (sl_max hS6)) (fun v w8 hv => ?_)
    obtain ⟨rfl, hK8⟩ := hv
    refine pick_t rfl rfl ?_
    refine m_bool rfl rfl ?_
    refine o_true (t := 51) rfl (rfl) ?_
    refine g_yes rfl rfl ?_
    refine m_sl rfl rfl ?_
    refine g_yes rfl rfl ?_
    refine m_sl rfl rfl ?_
    refine g_yes rfl rfl ?_
    refine o_call rfl rfl (same_ok w8 b6 b7 rs.length rs.length d6 d7 rs rs (hR6.new (hK7.tr hK8)) (hR7.new hK8) rfl rfl hL6) (fun v w9 hv => ?_)
    obtain ⟨rfl, hK9⟩ := hv
    have hK19 := (hK17.tr hK8).tr hK9
    have hK59 := ((hK6.tr hK7).tr hK8).tr hK9
    refine pick_t rfl rfl ?_
    refine m_bool rfl rfl ?_
    refine o_true (t := 56) rfl (rfl) ?_
    refine g_yes rfl rfl ?_
    refine m_sl rfl rfl ?_
    refine g_yes rfl rfl ?_
    refine m_sl rfl rfl ?_
    refine g_yes rfl rfl ?_
    refine o_call rfl rfl (samw_ok w9 a3 a c3 c ws ws (hS3'.rd.new hK59) (hW.new hK19) (by omega) (by omega)) (fun v w10 hv => ?_)
    obtain ⟨rfl, hK10⟩ := hv
    refine pick_t rfl rfl ?_
    refine m_bool rfl rfl ?_
    refine o_true (t := 61) rfl (rfl) ?_
    refine g_yes rfl rfl ?_
    refine m_sl rfl rfl ?_
    refine g_yes rfl rfl ?_
    refine m_sl rfl rfl ?_
    refine g_yes rfl rfl ?_
    refine o_call rfl rfl (same_ok w10 a5 ra rts.length rts.length c5 rc rts rts (hS5.rd.new (hK59.tr hK10)) (hR.new (hK19.tr hK10)) rfl rfl (by omega)) (fun v w11 hv => ?_)
    obtain ⟨rfl, hK11⟩ := hv
    refine pick_t rfl rfl ?_
    refine m_bool rfl rfl ?_
    refine o_nil ?_
    refine k_ret (ret_tmps (ts := [4]) (v := .bool _) rfl rfl ?_)
    exact ⟨congrArg Value.bool (decide_eq_true rfl), (hK19.tr hK10).tr hK11⟩
end Go.Proofs.YtchbidckckmobaaDoor

/- What the listed table of the count of noughts gives. No condition beyond what each lemma names. -/
namespace Go.Proofs.YtchbidckckmobaaDoor
open Go.RowKit E
set_option linter.unusedVariables false
set_option linter.unusedSimpArgs false
set_option maxRecDepth 100000
attribute [local irreducible] ow qw kw kq cw opW Ret
theorem g64 : Tryd.prog.globalNamed "math/bits.deBruijn64tab" = some 0 := by kernel_rfl
theorem g64t : (Tryd.prog.globals[0]?).map (·.type) = some 121 := by kernel_rfl
def tzInts : List Int := Lib.deBruijn64tab.map fun (x : Nat) => (x : Int)
theorem tabtz_of {W : World} (h : laidMetH Tryd.prog lst1 W) : TabTz W := by
  rw [MakeChecks.laidMetH_plain _ _ _ (by kernel_rfl)] at h
  obtain ⟨ps, ⟨g0, t0, cs0, f0, p0, q0, hg0, ht0, hv0, hd0, _, _⟩, _, _⟩ := h
  obtain rfl := Option.some.inj (g64.symm.trans hg0)
  obtain rfl := Option.some.inj (g64t.symm.trans ht0)
  have hc := Lib.cells_of_tab (zs := tzInts) (k := .u8) Tryd.underlying121 Tryd.underlying5 (by kernel_rfl) (by kernel_rfl) (show DataW.trod _ _ _ _ _ _ _ _ _ = some (Lib.tabData .u8 tzInts, p0) from hd0)
  intro j hj
  rw [World.var?_cell g64 hv0 j, ← Array.getElem?_toList, hc]
  simp [tzInts, hj, List.getD_eq_getElem?_getD]
end Go.Proofs.YtchbidckckmobaaDoor
