/- Texts of this proof laid together: Jm, Jn, Jo, Jr, Js, Jp, Jt, Ju, Jz. No condition beyond what each lemma names. -/
import Derived.Test.YtchbidckckmobaaDoorZc
/- The walk of the document's Collect. No condition beyond what each contract names. -/
namespace Go.Proofs.YtchbidckckmobaaDoor
open Go.RowKit E
set_option linter.unusedVariables false
set_option linter.unusedSimpArgs false
set_option maxRecDepth 100000
attribute [local irreducible] ow qw kw kq cw opW Ret
theorem made_int (n : Nat) : (madeCells (Value.cells (.int .i64 0)) (n * 1)).toList = (List.replicate n (0 : Int)).map iv := by
  show (madeCells #[Value.int .i64 0] (n * 1)).toList = _
  rw [Nat.mul_one, toList_madeCells_one, List.map_replicate]
  rfl
set_option maxHeartbeats 1000000 in
theorem rcoll_ok (w : World) (a ra : Option Addr) (c rc : Nat) (ws rts : List Int) (hW : Rd w a (ws.map iv)) (hR : Rd w ra (rts.map iv)) (hlw : ws.length ≤ 1000000) (hlr : rts.length ≤ 1000000) (hx : ∀ x ∈ ws, x ≤ 9223372036854775807) :
    Ret Tryd.prog 21 [.slice a ws.length c, .slice ra rts.length rc] w (fun v w' => CollRes w w' v ws rts) := by
  refine fn_enter (n := 157) Tryd.func21 rfl rfl (Nat.le_of_ble_eq_true rfl) (fun e => ?_)
  refine k_seq ?_
  refine k_region ?_
  refine m_sl rfl rfl ?_
  refine m_sl rfl rfl ?_
  refine m_int rfl rfl ?_
  refine o_nil ?_
  refine k_seq ?_
  refine k_region ?_
  refine m_sl rfl rfl ?_
  refine m_sl rfl rfl ?_
  refine o_call rfl rfl (rmark_ok w a ra c rc ws rts hW hR hlw hlr hx) (fun v w1 hv => ?_)
  obtain ⟨er, LV, a7, c7, rfl, hR7, hL9, hK1, hcs⟩ := hv
  refine m_any rfl rfl ?_
  refine o_extr rfl rfl ?_
  refine o_extr rfl rfl ?_
  refine m_sl rfl rfl ?_
  refine m_int rfl rfl ?_
  refine o_nil ?_
  refine k_seq ?_
  refine k_seq ?_
  refine k_region ?_
  refine m_int rfl rfl ?_
  refine b_neq rfl rfl ?_
  refine o_nil ?_
  refine k_cond rfl (fun h => ?_) (fun h => ?_)
  ·
    refine k_seq ?_
    refine k_region ?_
    refine m_int rfl rfl ?_
    refine m_sl rfl rfl ?_
    refine m_sl rfl rfl ?_
    refine m_int rfl rfl ?_
    refine o_nil ?_
    refine k_ret (ret_tmps (ts := [4, 5, 6]) (v := .tuple #[.slice _ _ _, .slice _ _ _, .int _ _]) rfl rfl ?_)
    refine ⟨er, [], [], none, 0, none, 0, rfl, Sl.nil _ _ _, fun z hz => (by cases hz), Rd.nil _ _, by simp, hK1, ?_⟩
    rcases hcs with ⟨h1, _, h2⟩ | ⟨h1, _, h2⟩ | ⟨h1, h2⟩
    · exact .inl ⟨h1, rfl, rfl, h2⟩
    · exact .inr (.inl ⟨h1, rfl, rfl, h2⟩)
    · exact absurd h1 h
  obtain ⟨h0, hlive, L, hbk, hrk⟩ := (hcs.resolve_left (fun hh => by have := hh.1; omega)).resolve_left (fun hh => by have := hh.1; omega)
  subst h0
  clear hcs
  have hLVL : ∀ x ∈ LV, x ∈ L := fun x hx' => reach_L hbk hrk ((hlive.2 x).1 hx')
  have hup := hlive.1
  have hll := live_len hbk hup hLVL
  have hsum : ∀ i, sumN ws (LV.take i) ≤ 65537 * LV.length := fun i => by
    have h1 := sumN_le (ws := ws) (xs := LV.take i) (fun y hy => by obtain ⟨_, _, _, _, _, m', _, _, h7, _, h9⟩ := blk_at hbk (hLVL y (List.mem_of_mem_take hy)); omega)
    have h2 : (LV.take i).length ≤ LV.length := by simp; omega
    omega
  refine k_skip ?_
  refine k_seq ?_
  refine k_region ?_
  refine m_sl rfl rfl ?_
  refine o_lens Tryd.underlying22 rfl ?_
  refine o_make (m := ws.length) Tryd.underlying23 inf3 rfl rfl (by simp [maxLen]; omega) (by omega) (fun g w2 hS2 hK2 hb2 hZ2 => ?_)
  rw [made_int, ← toL_nil ws] at hS2
  refine m_sl rfl rfl ?_
  refine o_nil ?_
  refine k_seq ?_
  refine k_region ?_
  refine m_int rfl rfl ?_
  refine o_nil ?_
  refine k_seq ?_
  refine k_seq ?_
  refine k_region ?_
  refine m_int rfl rfl ?_
  refine o_nil ?_
  refine k_block ?_
  refine k_loop (σ := Nat × Int) (fun s => [(0, .slice a ws.length c), (1, .slice ra rts.length rc), (7, .slice a7 LV.length c7), (9, .slice (some ⟨g, 0, none⟩) ws.length ws.length), (10, .int .i64 s.2), (11, .int .i64 (s.1 : Int))]) (fun s w' => s.1 ≤ LV.length ∧ s.2 = ((1 + sumN ws (LV.take s.1) : Nat) : Int) ∧ Sl w' 3 1 (some ⟨g, 0, none⟩) ws.length ws.length ((toL ws (LV.take s.1) ws.length).map iv) ∧ Keep [] w1 w') (fun s => LV.length - s.1) (0, 1) ⟨rfl, rfl, rfl, rfl, rfl, rfl, trivial⟩ ⟨by simp, by simp [sumN], hS2, hK2⟩ (fun s e w3 hJ => ?_)
  obtain ⟨i, nx⟩ := s
  obtain ⟨hi, hnx, hS3, hk3⟩ := hJ
  simp only at hi hnx hS3 ⊢
  subst hnx
  refine k_seq ?_
  refine k_seq ?_
  refine k_region ?_
  refine m_int rfl rfl ?_
  refine m_sl rfl rfl ?_
  refine o_lens Tryd.underlying23 rfl ?_
  refine b_lss rfl rfl ?_
  refine o_nil ?_
  refine k_cond rfl (fun h => ?_) (fun h => ?_)
  rotate_left
  ·
    have hie : i = LV.length := by omega
    subst hie
    have htl : LV.take LV.length = LV := List.take_length
    rw [htl] at hS3
    refine k_exit rfl ?_
    refine k_seq ?_
    refine k_region ?_
    refine o_bsl (E := 2) (cs := #[iv 0]) rfl (fun _ => by kernel_rfl) (fun g6 w6 hB6 hK6 hb6 hZ6 => ?_)
    have hSO6 : Sl w6 2 1 (some ⟨g6, 0, none⟩) 1 1 ((0 :: (LV.take 0).flatMap (newB ws LV)).map iv) := hB6.sl (len := 1) (sz := 1) rfl (by decide)
    refine m_sl rfl rfl ?_
    refine o_nil ?_
    refine k_seq ?_
    refine k_seq ?_
    refine k_region ?_
    refine m_int rfl rfl ?_
    refine o_nil ?_
    refine k_block ?_
    refine k_loop (σ := Nat × Nat × Option Addr × Nat) (fun s => [(0, .slice a ws.length c), (1, .slice ra rts.length rc), (7, .slice a7 LV.length c7), (9, .slice (some ⟨g, 0, none⟩) ws.length ws.length), (17, .slice s.2.2.1 s.2.1 s.2.2.2), (18, .int .i64 (s.1 : Int))]) (fun s w' => s.1 ≤ LV.length ∧ s.2.1 = 1 + sumN ws (LV.take s.1) ∧ Sl w' 2 1 s.2.2.1 s.2.1 s.2.2.2 ((0 :: (LV.take s.1).flatMap (newB ws LV)).map iv) ∧ (∀ z, s.2.2.1 = some z → w1.heap.size ≤ z.block) ∧ Sl w' 3 1 (some ⟨g, 0, none⟩) ws.length ws.length ((toL ws LV ws.length).map iv) ∧ Keep [] w1 w') (fun s => LV.length - s.1) (0, 1, some ⟨g6, 0, none⟩, 1) ⟨rfl, rfl, rfl, rfl, rfl, rfl, trivial⟩ ⟨by simp, by simp [sumN], hSO6, fun z hz => by cases hz; show _ ≤ g6; have := hk3.size; omega, hS3.new hK6, hk3.tr hK6⟩ (fun s e w7 hJ => ?_)
    clear hSO6 hS3
    obtain ⟨i, M, oa, oc⟩ := s
    obtain ⟨hi, hM, hSO, hfo, hST, hk7⟩ := hJ
    simp only at hi hM hSO hfo ⊢
    have hto : ∀ q, q < ws.length → ∀ w', Rd w' (some ⟨g, 0, none⟩) ((toL ws LV ws.length).map iv) → w'.cell? ⟨g, 0 + q, none⟩ = some (iv (adr ws LV 1 (q : Int))) := fun q hq w' hr => hr.cellK (Keep.refl _ _) (toL_at ws LV ws.length q hq)
    have hsi := hsum i
    refine k_seq ?_
    refine k_seq ?_
    refine k_region ?_
    refine m_int rfl rfl ?_
    refine m_sl rfl rfl ?_
    refine o_lens Tryd.underlying23 rfl ?_
    refine b_lss rfl rfl ?_
    refine o_nil ?_
    refine k_cond rfl (fun h => ?_) (fun h => ?_)
    rotate_left
    ·
      have hie : i = LV.length := by omega
      subst hie
      rw [htl] at hM hSO
      have hout : 0 :: LV.flatMap (newB ws LV) = outW ws LV := rfl
      rw [hout] at hSO
      have hMo : M = (outW ws LV).length := by have := hSO.1; simpa using this.symm
      clear hM
      subst hMo
      refine k_exit rfl ?_
      refine k_seq ?_
      refine k_region ?_
      refine m_sl rfl rfl ?_
      refine o_nil ?_
      refine k_seq ?_
      refine k_seq ?_
      refine k_region ?_
      refine m_int rfl rfl ?_
      refine o_nil ?_
      refine k_block ?_
      refine k_loop (σ := Nat × Option Addr × Nat) (fun s => [(1, .slice ra rts.length rc), (9, .slice (some ⟨g, 0, none⟩) ws.length ws.length), (17, .slice oa (outW ws LV).length oc), (28, .slice s.2.1 s.1 s.2.2), (29, .int .i64 (s.1 : Int))]) (fun s w' => s.1 ≤ rts.length ∧ Sl w' 3 1 s.2.1 s.1 s.2.2 (((rts.take s.1).map (adr ws LV 1)).map iv) ∧ (∀ z, s.2.1 = some z → w7.heap.size ≤ z.block) ∧ Keep [] w7 w') (fun s => rts.length - s.1) (0, none, 0) ⟨rfl, rfl, rfl, rfl, rfl, trivial⟩ ⟨Nat.zero_le _, Sl.nil _ _ _, by simp, Keep.refl _ _⟩ (fun s e w8 hJ => ?_)
      obtain ⟨i, ma, mc⟩ := s
      obtain ⟨hi, hSM, hfm, hk8⟩ := hJ
      simp only at hi hSM hfm ⊢
      refine k_seq ?_
      refine k_seq ?_
      refine k_region ?_
      refine m_int rfl rfl ?_
      refine m_sl rfl rfl ?_
      refine o_lens Tryd.underlying23 rfl ?_
      refine b_lss rfl rfl ?_
      refine o_nil ?_
      refine k_cond rfl (fun h => ?_) (fun h => ?_)
      rotate_left
      ·
        refine k_exit rfl ?_
        refine k_seq ?_
        refine k_region ?_
        refine m_sl rfl rfl ?_
        refine m_sl rfl rfl ?_
        refine m_sl rfl rfl ?_
        refine m_sl rfl rfl ?_
        refine m_int rfl rfl ?_
        refine o_nil ?_
        refine k_ret (ret_tmps (ts := [4, 5, 6]) (v := .tuple #[.slice _ _ _, .slice _ _ _, .int _ _]) rfl rfl ?_)
        have hie : i = rts.length := by omega
        subst hie
        rw [List.take_length] at hSM
        exact ⟨0, outW ws LV, rts.map (adr ws LV 1), oa, oc, ma, mc, by simp, hSO.new hk8, fun z hz => Nat.le_trans hK1.size (hfo z hz), hSM.rd, by rw [List.length_map]; omega, hK1.tr (hk7.tr hk8), .inr (.inr ⟨rfl, L, LV, hbk, hrk, hlive, rfl, rfl⟩)⟩
      have hin : i < rts.length := by omega
      have hRr := hR.new (hK1.tr (hk7.tr hk8))
      obtain ⟨br, orr, hae, hcr⟩ := hRr _ _ (iv_at rts i hin)
      subst hae
      have hrok := hrk _ (List.getElem_mem hin)
      obtain ⟨q, hq⟩ : ∃ q : Nat, rts[i] = q := ⟨rts[i].toNat, by omega⟩
      have hqn : q < ws.length := by omega
      rw [hq] at hcr
      refine k_skip ?_
      refine k_seq ?_
      refine k_block ?_
      refine k_region ?_
      refine m_sl rfl rfl ?_
      refine m_sl rfl rfl ?_
      refine m_sl rfl rfl ?_
      refine m_int rfl rfl ?_
      refine o_ixs1 (m := i) Tryd.underlying23 rfl rfl rfl hin ?_
      refine o_ld (v := iv (q : Int)) rfl rfl hcr ?_
      refine o_ixs1 (m := q) Tryd.underlying23 rfl rfl rfl hqn ?_
      refine o_ld (v := iv (adr ws LV 1 (q : Int))) rfl rfl (hto q hqn w8 (hST.new hk8).rd) ?_
      refine o_bsl (E := 3) (cs := #[iv (adr ws LV 1 (q : Int))]) rfl (fun _ => by kernel_rfl) (fun g9 w9 hB9 hK9 hb9 hZ9 => ?_)
      refine o_app Tryd.underlying23 inf3 rfl (by decide) rfl rfl (hSM.new hK9) hB9.rd rfl (by simp [iv, Value.oneCell']) (by simp [maxLen]; omega) (by omega) (fun a10 c10 w10 hS10 hK10 hv10 => ?_)
      have hf10 := own_app (k := fun b => w7.heap.size ≤ b) (w := w9) (w' := w10) (a := ma) (a2 := a10) hfm (fun b hb => Nat.le_trans (hk8.tr hK9).size hb) hv10
      refine m_sl rfl rfl ?_
      refine o_nil ?_
      refine k_blk ?_
      refine k_region ?_
      refine m_int rfl rfl ?_
      refine n_add rfl rfl (by omega) ?_
      refine m_int rfl rfl ?_
      refine o_nil ?_
      refine k_goal ⟨(i + 1, a10, c10), ⟨rfl, rfl, rfl, rfl, rfl, trivial⟩, ⟨hin, ?_, hf10, (hk8.tr hK9).trb hK10 hfm⟩, by simp only; omega⟩
      simp only
      rw [take_snoc rts i hin, List.map_append, List.map_append, hq]
      exact hS10
    have hin : i < LV.length := by omega
    obtain ⟨k, hk, hke, hk1, hk0, m, hm, hno, hsz, hkm, hm9⟩ := blk_at hbk (hLVL _ (List.getElem_mem hin))
    obtain ⟨b7, o7, hae, hc7⟩ := hR7.new hk7 _ _ (iv_at LV i hin)
    subst hae
    rw [hke] at hc7 hsz
    obtain ⟨ba, oo, hae, _⟩ := hW _ _ (iv_at ws k hk)
    subst hae
    refine k_skip ?_
    refine k_seq ?_
    refine k_block ?_
    refine k_seq ?_
    refine k_region ?_
    refine m_sl rfl rfl ?_
    refine m_sl rfl rfl ?_
    refine m_int rfl rfl ?_
    refine o_ixs1 (m := i) Tryd.underlying23 rfl rfl rfl hin ?_
    refine o_ld (v := iv (k : Int)) rfl rfl hc7 ?_
    refine o_ixs1 (m := k) Tryd.underlying22 rfl rfl rfl hk ?_
    refine o_ld (v := iv ws[k]) rfl rfl (hW.cellK (hK1.tr hk7) (iv_at ws k hk)) ?_
    refine o_call rfl rfl (ropen_ok w7 ws[k] (hx _ (List.getElem_mem hk))) (fun v w4 hv => ?_)
    obtain ⟨rfl, rfl⟩ := hv
    rw [hm]
    refine m_any rfl rfl ?_
    refine o_extr rfl rfl ?_
    refine o_extr rfl rfl ?_
    refine o_extr rfl rfl ?_
    refine o_extr rfl rfl ?_
    refine o_extr rfl rfl ?_
    refine m_int rfl rfl ?_
    refine m_int rfl rfl ?_
    refine m_int rfl rfl ?_
    refine m_int rfl rfl ?_
    refine m_int rfl rfl ?_
    refine o_nil ?_
    refine k_seq ?_
    refine k_region ?_
    refine m_sl rfl rfl ?_
    refine m_sl rfl rfl ?_
    refine m_int rfl rfl ?_
    refine o_ixs1 (m := i) Tryd.underlying23 rfl rfl rfl hin ?_
    refine o_ld (v := iv (k : Int)) rfl rfl hc7 ?_
    refine o_call rfl rfl (rrefs_ok w4 (some ⟨ba, oo, none⟩) ws.length c ws (k : Int) (hW.new (hK1.tr hk7)) rfl (by omega) hx) (fun v w8 hv => ?_)
    obtain ⟨a14, c14, rfl, hS14, hK14, hf14⟩ := hv
    have hrl := refs_len ws (k : Int)
    have hnl := newB_len ws LV (k : Int)
    rw [hsz] at hnl
    refine m_sl rfl rfl ?_
    refine o_nil ?_
    refine k_seq ?_
    refine k_region ?_
    refine m_int rfl rfl ?_
    refine o_nil ?_
    refine k_block ?_
    refine k_loop (σ := Nat × Option Addr × Nat) (fun s => [(0, .slice (some ⟨ba, oo, none⟩) ws.length c), (1, .slice ra rts.length rc), (7, .slice (some ⟨b7, o7, none⟩) LV.length c7), (9, .slice (some ⟨g, 0, none⟩) ws.length ws.length), (17, .slice s.2.1 (M + s.1) s.2.2), (18, .int .i64 (i : Int)), (21, .int .i64 (m : Int)), (24, .slice a14 (refsW ws (k : Int)).length c14), (25, .int .i64 (s.1 : Int))]) (fun s w' => s.1 ≤ 1 + m ∧ Sl w' 2 1 s.2.1 (M + s.1) s.2.2 ((0 :: (LV.take i).flatMap (newB ws LV) ++ (newB ws LV (k : Int)).take s.1).map iv) ∧ (∀ z, s.2.1 = some z → w1.heap.size ≤ z.block) ∧ Sl w' 3 1 (some ⟨g, 0, none⟩) ws.length ws.length ((toL ws LV ws.length).map iv) ∧ Sl w' 3 1 a14 (refsW ws (k : Int)).length c14 ((refsW ws (k : Int)).map iv) ∧ Keep [] w1 w') (fun s => 1 + m - s.1) (0, oa, oc) ⟨rfl, rfl, rfl, rfl, rfl, rfl, rfl, rfl, rfl, trivial⟩ ⟨Nat.zero_le _, by simpa using hSO.new hK14, hfo, hST.new hK14, hS14, hk7.tr hK14⟩ (fun s e w9 hJ => ?_)
    clear hSO hST hS14
    obtain ⟨j, oa, oc⟩ := s
    obtain ⟨hj, hSO, hfo, hST, hS14, hk9⟩ := hJ
    simp only at hj hSO hfo ⊢
    refine k_seq ?_
    refine k_seq ?_
    refine k_region ?_
    refine m_int rfl rfl ?_
    refine m_int rfl rfl ?_
    refine b_leq rfl rfl ?_
    refine o_nil ?_
    refine k_cond rfl (fun h => ?_) (fun h => ?_)
    rotate_left
    ·
      refine k_exit rfl ?_
      refine k_blk ?_
      refine k_region ?_
      refine m_int rfl rfl ?_
      refine n_add rfl rfl (by omega) ?_
      refine m_int rfl rfl ?_
      refine o_nil ?_
      have hje : j = 1 + m := by omega
      subst hje
      rw [List.take_of_length_le (show (newB ws LV (k : Int)).length ≤ 1 + m by omega)] at hSO
      refine k_goal ⟨(i + 1, M + (1 + m), oa, oc), ⟨rfl, rfl, rfl, rfl, rfl, rfl, trivial⟩, ⟨hin, ?_, ?_, hfo, hST, hk9⟩, by simp only; omega⟩
      · simp only
        rw [take_snoc LV i hin, sumN_app, hke]
        simp only [sumN, hsz]
        omega
      · simp only
        rw [take_snoc LV i hin, hke, List.flatMap_append]
        simpa using hSO
    have hjm : j ≤ m := by omega
    have hkj : k + j < ws.length := by omega
    have hc79 := hR7.cellK hk9 (iv_at LV i hin)
    rw [hke] at hc79
    refine k_skip ?_
    refine k_seq ?_
    refine k_block ?_
    refine k_seq ?_
    refine k_region ?_
    refine m_sl rfl rfl ?_
    refine m_sl rfl rfl ?_
    refine m_int rfl rfl ?_
    refine o_ixs1 (m := i) Tryd.underlying23 rfl rfl rfl hin ?_
    refine o_ld (v := iv (k : Int)) rfl rfl hc79 ?_
    refine m_int rfl rfl ?_
    refine n_add rfl rfl (by omega) ?_
    refine o_ixs1 (m := k + j) Tryd.underlying22 rfl rfl (congrArg (Value.int .i64) (by push_cast; omega)) hkj ?_
    refine o_ld (v := iv ws[k + j]) rfl rfl (hW.cellK (hK1.tr hk9) (iv_at ws (k + j) hkj)) ?_
    refine m_int rfl rfl ?_
    refine o_nil ?_
    refine k_seq ?_
    refine k_seq ?_
    refine k_region ?_
    refine m_int rfl rfl ?_
    refine o_nil ?_
    refine k_block ?_
    refine k_loop (σ := Nat × Int) (fun s => [(0, .slice (some ⟨ba, oo, none⟩) ws.length c), (1, .slice ra rts.length rc), (7, .slice (some ⟨b7, o7, none⟩) LV.length c7), (9, .slice (some ⟨g, 0, none⟩) ws.length ws.length), (17, .slice oa (M + j) oc), (18, .int .i64 (i : Int)), (21, .int .i64 (m : Int)), (24, .slice a14 (refsW ws (k : Int)).length c14), (25, .int .i64 (j : Int)), (26, .int .i64 s.2), (27, .int .i64 (s.1 : Int))]) (fun s w' => s.1 ≤ (refsW ws (k : Int)).length ∧ s.2 = (if (k : Int) + (j : Int) ∈ (refsW ws (k : Int)).take s.1 then adr ws LV 1 ws[k + j] else ws[k + j]) ∧ Keep [] w9 w') (fun s => (refsW ws (k : Int)).length - s.1) (0, ws[k + j]) ⟨rfl, rfl, rfl, rfl, rfl, rfl, rfl, rfl, rfl, rfl, rfl, trivial⟩ ⟨Nat.zero_le _, by simp, Keep.refl _ _⟩ (fun s e w10 hJ => ?_)
    obtain ⟨t, x⟩ := s
    obtain ⟨ht, hxv, hk10⟩ := hJ
    simp only at ht hxv ⊢
    refine k_seq ?_
    refine k_seq ?_
    refine k_region ?_
    refine m_int rfl rfl ?_
    refine m_sl rfl rfl ?_
    refine o_lens Tryd.underlying23 rfl ?_
    refine b_lss rfl rfl ?_
    refine o_nil ?_
    refine k_cond rfl (fun h => ?_) (fun h => ?_)
    rotate_left
    ·
      refine k_exit rfl ?_
      refine k_region ?_
      refine m_sl rfl rfl ?_
      refine m_int rfl rfl ?_
      refine o_bsl (E := 2) (cs := #[iv x]) rfl (fun _ => by kernel_rfl) (fun g11 w11 hB11 hK11 hb11 hZ11 => ?_)
      refine o_app Tryd.underlying22 inf2 rfl (by decide) rfl rfl (hSO.new (hk10.tr hK11)) hB11.rd rfl (by simp [iv, Value.oneCell']) (by simp [maxLen]; omega) (by omega) (fun a12 c12 w12 hS12 hK12 hv12 => ?_)
      have hf12 := own_app (k := fun b => w1.heap.size ≤ b) (w := w11) (w' := w12) (a := oa) (a2 := a12) hfo (fun b hb => Nat.le_trans (hk9.tr (hk10.tr hK11)).size hb) hv12
      have hS11 := hSO.new (hk10.tr hK11)
      refine m_sl rfl rfl ?_
      refine o_nil ?_
      refine k_blk ?_
      refine k_region ?_
      refine m_int rfl rfl ?_
      refine n_add rfl rfl (by omega) ?_
      refine m_int rfl rfl ?_
      refine o_nil ?_
      have hte : t = (refsW ws (k : Int)).length := by omega
      subst hte
      rw [List.take_length, ← newB_at ws LV k j (by omega) hkj] at hxv
      refine k_goal ⟨(j + 1, a12, c12), ⟨rfl, rfl, rfl, rfl, rfl, rfl, rfl, rfl, rfl, trivial⟩, ⟨by simp only; omega, ?_, hf12, (hST.new (hk10.tr hK11)).keep hK12 ((hST.new (hk10.tr hK11)).off2 hS11 (by decide)), (hS14.new (hk10.tr hK11)).keep hK12 ((hS14.new (hk10.tr hK11)).off2 hS11 (by decide)), (hk9.tr (hk10.tr hK11)).trb hK12 hfo⟩, by simp only; omega⟩
      have h12 : Sl w12 2 1 a12 (M + (j + 1)) c12 _ := hS12
      simp only
      rw [take_snoc (newB ws LV (k : Int)) j (by omega), ← hxv, ← List.append_assoc, List.map_append]
      exact h12
    have htl : t < (refsW ws (k : Int)).length := by omega
    obtain ⟨cc, hcc⟩ : ∃ cc, (refsW ws (k : Int))[t] = cc := ⟨_, rfl⟩
    have hcm : cc ∈ refsW ws (k : Int) := by rw [← hcc]; exact List.getElem_mem _
    obtain ⟨y, hy, hy1, hy2⟩ := refs_in hk hm hcm
    have hcn : cc ∉ (refsW ws (k : Int)).take t := by rw [← hcc]; exact up_split (refs_up ws _) htl
    have hx14 := iv_at (refsW ws (k : Int)) t htl
    rw [hcc] at hx14
    obtain ⟨b14, o14, hae, _⟩ := hS14.rd _ _ hx14
    subst hae
    refine k_skip ?_
    refine k_seq ?_
    refine k_block ?_
    refine k_seq ?_
    refine k_qk 10 rfl rfl rfl rfl rfl ?_
    refine q_step (fun w1 hC => m_sl rfl rfl (o_nil ⟨rfl, hC⟩)) ?_
    refine q_step (fun w1 hC => m_int rfl rfl (o_nil ⟨rfl, hC⟩)) ?_
    refine q_step (fun w1 hC => o_ixs1 (m := t) Tryd.underlying23 rfl rfl rfl htl (o_nil ⟨rfl, hC⟩)) ?_
    refine q_step (fun w1 hC => o_ld (v := iv cc) rfl rfl (hS14.rd.cellK (hk10.tr hC) hx14) (o_nil ⟨rfl, hC⟩)) ?_
    refine q_step (fun w1 hC => m_sl rfl rfl (o_nil ⟨rfl, hC⟩)) ?_
    refine q_step (fun w1 hC => m_int rfl rfl (o_nil ⟨rfl, hC⟩)) ?_
    refine q_step (fun w1 hC => o_ixs1 (m := i) Tryd.underlying23 rfl rfl rfl hin (o_nil ⟨rfl, hC⟩)) ?_
    refine q_step (fun w1 hC => o_ld (v := iv (k : Int)) rfl rfl (by rw [← hke]; exact hR7.cellK (hk9.tr (hk10.tr hC)) (iv_at LV i hin)) (o_nil ⟨rfl, hC⟩)) ?_
    refine q_step (fun w1 hC => m_int rfl rfl (o_nil ⟨rfl, hC⟩)) ?_
    refine q_step (fun w1 hC => n_add rfl rfl (by omega) (o_nil ⟨rfl, hC⟩)) ?_
    refine q_nil ?_
    intro w11 hC11
    refine b_eql rfl rfl ?_
    refine o_nil ?_
    refine k_cond rfl (fun h => ?_) (fun h => ?_)
    ·
      have hcj : cc = (k : Int) + (j : Int) := h
      rw [if_neg (by rw [← hcj]; exact hcn)] at hxv
      subst hxv
      obtain ⟨h0, hz, hch, hrf⟩ := blocks_ch hbk
      have hin0 := hrf (k : Int) (by rw [← hke]; exact hLVL _ (List.getElem_mem hin)) cc hcm
      rw [hcj, show ((k : Int) + (j : Int)).toNat = k + j by omega, getD_get ws (k + j) hkj] at hin0
      have hrng := mem_rng h0 (chain_rng ws L hch) hin0
      obtain ⟨q, hq⟩ : ∃ q : Nat, ws[k + j] = q := ⟨ws[k + j].toNat, by omega⟩
      have hqn : q < ws.length := by omega
      refine k_region ?_
      refine m_sl rfl rfl ?_
      refine m_int rfl rfl ?_
      refine o_ixs1 (m := q) Tryd.underlying23 rfl rfl (congrArg (Value.int .i64) hq) hqn ?_
      refine o_ld (v := iv (adr ws LV 1 (q : Int))) rfl rfl (hto q hqn w11 (hST.new (hk10.tr hC11)).rd) ?_
      refine m_int rfl rfl ?_
      refine o_nil ?_
      refine k_blk ?_
      refine k_region ?_
      refine m_int rfl rfl ?_
      refine n_add rfl rfl (by omega) ?_
      refine m_int rfl rfl ?_
      refine o_nil ?_
      refine k_goal ⟨(t + 1, adr ws LV 1 (q : Int)), ⟨rfl, rfl, rfl, rfl, rfl, rfl, rfl, rfl, rfl, rfl, rfl, trivial⟩, ⟨htl, ?_, hk10.tr hC11⟩, by simp only; omega⟩
      simp only
      rw [if_pos (by rw [take_snoc _ t htl, hcc, hcj]; simp), hq]
    refine k_skip ?_
    refine k_blk ?_
    refine k_region ?_
    refine m_int rfl rfl ?_
    refine n_add rfl rfl (by omega) ?_
    refine m_int rfl rfl ?_
    refine o_nil ?_
    refine k_goal ⟨(t + 1, x), ⟨rfl, rfl, rfl, rfl, rfl, rfl, rfl, rfl, rfl, rfl, rfl, trivial⟩, ⟨htl, ?_, hk10.tr hC11⟩, by simp only; omega⟩
    simp only
    have hcj : ¬ cc = (k : Int) + (j : Int) := h
    have hiff : (k : Int) + (j : Int) ∈ (refsW ws (k : Int)).take (t + 1) ↔ (k : Int) + (j : Int) ∈ (refsW ws (k : Int)).take t := by
      rw [take_snoc _ t htl, hcc]; simp; intro hh; exact absurd hh.symm hcj
    rw [hxv]
    simp only [hiff]
  have hin : i < LV.length := by omega
  obtain ⟨k, hk, hke, hk1, hk0, m, hm, hno, hsz, hkm, hm9⟩ := blk_at hbk (hLVL _ (List.getElem_mem hin))
  obtain ⟨b7, o7, hae, hc7⟩ := hR7.new hk3 _ _ (iv_at LV i hin)
  subst hae
  rw [hke] at hc7 hsz
  obtain ⟨ba, oo, hae, _⟩ := hW _ _ (iv_at ws k hk)
  subst hae
  have hsi := hsum i
  have hnot := up_split hup hin
  rw [hke] at hnot
  obtain ⟨go, cur, hoe, hBg, hgs⟩ := hS3.blk (by omega)
  cases hoe
  refine k_skip ?_
  refine k_seq ?_
  refine k_block ?_
  refine k_seq ?_
  refine k_region ?_
  refine m_sl rfl rfl ?_
  refine m_sl rfl rfl ?_
  refine m_int rfl rfl ?_
  refine o_ixs1 (m := i) Tryd.underlying23 rfl rfl rfl hin ?_
  refine o_ld (v := iv (k : Int)) rfl rfl hc7 ?_
  refine o_ixs1 (m := k) Tryd.underlying22 rfl rfl rfl hk ?_
  refine o_ld (v := iv ws[k]) rfl rfl (hW.cellK (hK1.tr hk3) (iv_at ws k hk)) ?_
  refine o_call rfl rfl (ropen_ok w3 ws[k] (hx _ (List.getElem_mem hk))) (fun v w4 hv => ?_)
  obtain ⟨rfl, rfl⟩ := hv
  rw [hm]
  refine m_any rfl rfl ?_
  refine o_extr rfl rfl ?_
  refine o_extr rfl rfl ?_
  refine o_extr rfl rfl ?_
  refine o_extr rfl rfl ?_
  refine o_extr rfl rfl ?_
  refine m_int rfl rfl ?_
  refine m_int rfl rfl ?_
  refine m_int rfl rfl ?_
  refine m_int rfl rfl ?_
  refine m_int rfl rfl ?_
  refine o_nil ?_
  refine k_seq ?_
  refine k_region ?_
  refine m_sl rfl rfl ?_
  refine m_sl rfl rfl ?_
  refine m_int rfl rfl ?_
  refine o_ixs1 (m := i) Tryd.underlying23 rfl rfl rfl hin ?_
  refine o_ld (v := iv (k : Int)) rfl rfl hc7 ?_
  refine m_int rfl rfl ?_
  refine o_ixs1 (m := k) Tryd.underlying23 rfl rfl rfl hk ?_
  refine o_st (v := iv ((1 + sumN ws (LV.take i) : Nat) : Int)) rfl rfl rfl rfl hBg (by omega) (fun w5 hB5 hK5 hZ5 => ?_)
  have hS5 := Sl.set hS3 hk hBg hB5
  rw [← List.map_set, toL_set ws (LV.take i) ws.length k hnot, ← hke, ← take_snoc LV i hin] at hS5
  refine o_nil ?_
  refine k_region ?_
  refine m_int rfl rfl ?_
  refine n_add rfl rfl (by omega) ?_
  refine m_int rfl rfl ?_
  refine n_add rfl rfl (by omega) ?_
  refine m_int rfl rfl ?_
  refine o_nil ?_
  refine k_blk ?_
  refine k_region ?_
  refine m_int rfl rfl ?_
  refine n_add rfl rfl (by omega) ?_
  refine m_int rfl rfl ?_
  refine o_nil ?_
  refine k_goal ⟨(i + 1, ((1 + sumN ws (LV.take i) : Nat) : Int) + 1 + (m : Int)), ⟨rfl, rfl, rfl, rfl, rfl, rfl, trivial⟩, ⟨hin, ?_, hS5, hk3.tr1 hK5 (by omega)⟩, by simp only; omega⟩
  simp only
  rw [take_snoc LV i hin, sumN_app, hke]
  simp only [sumN, hsz]
  push_cast
  omega
end Go.Proofs.YtchbidckckmobaaDoor

/- law20.head; what law20.fixed asks, plain. No condition beyond what each names. -/
namespace Go.Proofs.YtchbidckckmobaaDoor
open Go.RowKit E
set_option linter.unusedVariables false
set_option linter.unusedSimpArgs false
set_option maxRecDepth 100000
attribute [local irreducible] ow qw kw kq cw opW Ret
theorem h20_ok (w : World) (kind cl n : Int) : Ret Tryd.prog 61 [.int .i64 kind, .int .i64 cl, .int .i64 n] w (fun v w' => v = .int .i64 (headW kind cl n 0).1 ∧ w' = w) := by
  refine fn_enter (n := 17) Tryd.func61 rfl rfl (Nat.le_of_ble_eq_true rfl) (fun e => ?_)
  refine k_seq ?_
  refine k_region ?_
  refine m_int rfl rfl ?_
  refine o_nil ?_
  refine k_seq ?_
  refine k_region ?_
  refine m_int rfl rfl ?_
  refine m_int rfl rfl ?_
  refine m_int rfl rfl ?_
  refine o_call rfl rfl (rhead_ok w kind cl n 0 (by omega)) (fun v w1 hv => ?_)
  obtain ⟨rfl, rfl⟩ := hv
  refine m_any rfl rfl ?_
  refine o_extr rfl rfl ?_
  refine o_extr rfl rfl ?_
  refine m_int rfl rfl ?_
  refine m_int rfl rfl ?_
  refine o_nil ?_
  refine k_seq ?_
  refine k_region ?_
  refine m_int rfl rfl ?_
  refine m_int rfl rfl ?_
  refine o_nil ?_
  refine k_ret (ret_tmps (ts := [6]) (v := .int _ _) rfl rfl ?_)
  exact ⟨rfl, rfl⟩
theorem samw_ok (w : World) (a1 a2 : Option Addr) (c1 c2 : Nat) (us vs : List Int) (hR1 : Rd w a1 (us.map iv)) (hR2 : Rd w a2 (vs.map iv)) (hu : us.length ≤ 9223372036854775807) (hv : vs.length ≤ 9223372036854775807) :
    Ret Tryd.prog 22 [.slice a1 us.length c1, .slice a2 vs.length c2] w (fun v w' => v = .bool (decide (us = vs)) ∧ Keep [] w w') := by
  refine fn_enter (n := 26) Tryd.func22 rfl rfl (Nat.le_of_ble_eq_true rfl) (fun e => ?_)
  refine k_seq ?_
  refine k_region ?_
  refine m_bool rfl rfl ?_
  refine o_nil ?_
  refine k_seq ?_
  refine k_seq ?_
  refine k_region ?_
  refine m_sl rfl rfl ?_
  refine o_lens Tryd.underlying22 rfl ?_
  refine m_sl rfl rfl ?_
  refine o_lens Tryd.underlying22 rfl ?_
  refine b_neq rfl rfl ?_
  refine o_nil ?_
  refine k_cond rfl (fun h => ?_) (fun h => ?_)
  ·
    refine k_seq ?_
    refine k_region ?_
    refine m_bool rfl rfl ?_
    refine o_nil ?_
    refine k_ret (ret_tmps (ts := [4]) (v := .bool _) rfl rfl ?_)
    exact ⟨congrArg Value.bool (decide_eq_false (fun hh => h (by rw [hh]))).symm, Keep.refl _ _⟩
  have hlen : us.length = vs.length := by omega
  refine k_skip ?_
  refine k_seq ?_
  refine k_seq ?_
  refine k_region ?_
  refine m_int rfl rfl ?_
  refine o_nil ?_
  refine k_block ?_
  refine k_loop (σ := Nat) (fun i => [(0, .slice a1 us.length c1), (1, .slice a2 vs.length c2), (5, .int .i64 (i : Int))]) (fun i w' => i ≤ us.length ∧ (∀ j, j < i → us[j]? = vs[j]?) ∧ Keep [] w w') (fun i => us.length - i) 0 ⟨rfl, rfl, rfl, trivial⟩ ⟨Nat.zero_le _, (fun j hj => by omega), Keep.refl _ _⟩ (fun i e w3 hJ => ?_)
  obtain ⟨hi, hpre, hK3⟩ := hJ
  refine k_seq ?_
  refine k_seq ?_
  refine k_region ?_
  refine m_int rfl rfl ?_
  refine m_sl rfl rfl ?_
  refine o_lens Tryd.underlying22 rfl ?_
  refine b_lss rfl rfl ?_
  refine o_nil ?_
  refine k_cond rfl (fun h => ?_) (fun h => ?_)
  rotate_left
  ·
    refine k_exit rfl ?_
    refine k_seq ?_
    refine k_region ?_
    refine m_bool rfl rfl ?_
    refine o_nil ?_
    refine k_ret (ret_tmps (ts := [4]) (v := .bool _) rfl rfl ?_)
    refine ⟨congrArg Value.bool (decide_eq_true ?_).symm, hK3⟩
    refine List.ext_getElem? fun j => ?_
    by_cases hj : j < us.length
    · exact hpre j (by omega)
    · rw [List.getElem?_eq_none (by omega), List.getElem?_eq_none (by omega)]
  have hin : i < us.length := by omega
  have hx := iv_at us i hin
  have hy := iv_at vs i (by omega)
  obtain ⟨b1, o1, hae, _⟩ := hR1 _ _ hx
  obtain ⟨b2, o2, hbe, _⟩ := hR2 _ _ hy
  subst hae hbe
  refine k_skip ?_
  refine k_seq ?_
  refine k_block ?_
  refine k_seq ?_
  refine k_qk 8 rfl rfl rfl rfl rfl ?_
  refine q_step (fun w1 hC => m_sl rfl rfl (o_nil ⟨rfl, hC⟩)) ?_
  refine q_step (fun w1 hC => m_int rfl rfl (o_nil ⟨rfl, hC⟩)) ?_
  refine q_step (fun w1 hC => o_ixs1 Tryd.underlying22 rfl rfl rfl hin (o_nil ⟨rfl, hC⟩)) ?_
  refine q_step (fun w1 hC => o_ld rfl rfl (hR1.cellK (hK3.tr hC) hx) (o_nil ⟨rfl, hC⟩)) ?_
  refine q_step (fun w1 hC => m_sl rfl rfl (o_nil ⟨rfl, hC⟩)) ?_
  refine q_step (fun w1 hC => m_int rfl rfl (o_nil ⟨rfl, hC⟩)) ?_
  refine q_step (fun w1 hC => o_ixs1 Tryd.underlying22 rfl rfl rfl (by omega) (o_nil ⟨rfl, hC⟩)) ?_
  refine q_step (fun w1 hC => o_ld rfl rfl (hR2.cellK (hK3.tr hC) hy) (o_nil ⟨rfl, hC⟩)) ?_
  refine q_nil ?_
  intro w4 hC4
  refine b_neq rfl rfl ?_
  refine o_nil ?_
  refine k_cond rfl (fun h => ?_) (fun h => ?_)
  ·
    refine k_seq ?_
    refine k_region ?_
    refine m_bool rfl rfl ?_
    refine o_nil ?_
    refine k_ret (ret_tmps (ts := [4]) (v := .bool _) rfl rfl ?_)
    refine ⟨congrArg Value.bool (decide_eq_false (fun hh => h ?_)).symm, hK3.tr hC4⟩
    subst hh
    rfl
  refine k_skip ?_
  refine k_blk ?_
  refine k_region ?_
  refine m_int rfl rfl ?_
  refine n_add rfl rfl (by omega) ?_
  refine m_int rfl rfl ?_
  refine o_nil ?_
  refine k_goal ⟨i + 1, ⟨rfl, rfl, rfl, trivial⟩, ⟨by omega, fun j hj => ?_, hK3.tr hC4⟩, by omega⟩
  by_cases hji : j = i
  · rw [hji, List.getElem?_eq_getElem hin, List.getElem?_eq_getElem (by omega)]
    exact congrArg some (Decidable.of_not_not h)
  · exact hpre j (by omega)
def MarkIs (ws rts : List Int) (er : Int) (LV : List Int) : Prop := (er = 24 ∧ LV = [] ∧ blocksW ws = none) ∨ (er = 1 ∧ LV = [] ∧ ∃ L, blocksW ws = some L ∧ ¬ rootsOk ws L rts) ∨ (er = 0 ∧ IsLive ws rts LV ∧ ∃ L, blocksW ws = some L ∧ rootsOk ws L rts)
def CollIs (ws rts : List Int) (er : Int) (xs rs : List Int) : Prop := (er = 24 ∧ xs = [] ∧ rs = [] ∧ blocksW ws = none) ∨ (er = 1 ∧ xs = [] ∧ rs = [] ∧ ∃ L, blocksW ws = some L ∧ ¬ rootsOk ws L rts) ∨
      (er = 0 ∧ ∃ L LV, blocksW ws = some L ∧ rootsOk ws L rts ∧ IsLive ws rts LV ∧ xs = outW ws LV ∧ rs = rts.map (adr ws LV 1))
theorem MarkIs.one {ws rts : List Int} {er er' : Int} {A B : List Int} (h : MarkIs ws rts er A) (h' : MarkIs ws rts er' B) : er = er' ∧ A = B := by
  rcases h with ⟨rfl, rfl, h⟩ | ⟨rfl, rfl, L, h, hr⟩ | ⟨rfl, hA, L, h, hr⟩ <;> rcases h' with ⟨rfl, rfl, h'⟩ | ⟨rfl, rfl, L', h', hr'⟩ | ⟨rfl, hB, L', h', hr'⟩ <;> rw [h] at h' <;> first | exact ⟨rfl, rfl⟩ | exact ⟨rfl, hA.one hB⟩ | (cases h'; done) | (cases h'; exact absurd hr' hr) | (cases h'; exact absurd hr hr')
theorem CollIs.one {ws rts : List Int} {er er' : Int} {A B C D : List Int} (h : CollIs ws rts er A C) (h' : CollIs ws rts er' B D) : er = er' ∧ A = B ∧ C = D := by
  rcases h with ⟨rfl, rfl, rfl, h⟩ | ⟨rfl, rfl, rfl, L, h, hr⟩ | ⟨rfl, L, LV, h, hr, hA, rfl, rfl⟩ <;> rcases h' with ⟨rfl, rfl, rfl, h'⟩ | ⟨rfl, rfl, rfl, L', h', hr'⟩ | ⟨rfl, L', LV', h', hr', hB, rfl, rfl⟩ <;> rw [h] at h' <;> first | exact ⟨rfl, rfl, rfl⟩ | (rw [hA.one hB]; exact ⟨rfl, rfl, rfl⟩) | (cases h'; done) | (cases h'; exact absurd hr' hr) | (cases h'; exact absurd hr hr')
theorem mark_is {w w' : World} {v : Value} {ws rts : List Int} (h : MarkRes w w' v ws rts) : ∃ er LV a2 c2, v = .tuple #[.slice a2 LV.length c2, .int .i64 er] ∧ Rd w' a2 (LV.map iv) ∧ LV.length ≤ 9223372036854775807 ∧ Keep [] w w' ∧ MarkIs ws rts er LV := h
theorem coll_is {w w' : World} {v : Value} {ws rts : List Int} (h : CollRes w w' v ws rts) : ∃ er xs rs a2 c2 a3 c3, v = .tuple #[.slice a2 xs.length c2, .slice a3 rs.length c3, .int .i64 er] ∧ Sl w' 2 1 a2 xs.length c2 (xs.map iv) ∧ (∀ z, a2 = some z → w.heap.size ≤ z.block) ∧ Rd w' a3 (rs.map iv) ∧ rs.length ≤ 9223372036854775807 ∧ Keep [] w w' ∧ CollIs ws rts er xs rs := h
def sw : List Int := [0, 262174, 5, 262147, 1, 30]
theorem sw5 : chain sw 5 = some [5] := by
  rw [chain_yes sw 5 (by decide) (by decide), show 5 + 1 + (openW (sw[5]'(by decide))).2.2.1.toNat = 6 by decide, chain_end sw 6 (by decide)]
  rfl
theorem sw3 : chain sw 3 = some [3, 5] := by
  rw [chain_yes sw 3 (by decide) (by decide), show 3 + 1 + (openW (sw[3]'(by decide))).2.2.1.toNat = 5 by decide, sw5]
  rfl
theorem sw1 : chain sw 1 = some [1, 3, 5] := by
  rw [chain_yes sw 1 (by decide) (by decide), show 1 + 1 + (openW (sw[1]'(by decide))).2.2.1.toNat = 3 by decide, sw3]
  rfl
theorem sw_blocks : blocksW sw = some [1, 3, 5] := by
  rw [blocks_b sw _ (by decide) (by decide) sw1, if_pos (by decide)]
theorem sw_r3 : refsW sw 3 = [4] := by decide
theorem sw_r1 : refsW sw 1 = [] := by decide
theorem sw_r5 : refsW sw 5 = [] := by decide
theorem sw_live3 : IsLive sw [3] [1, 3] := by
  refine ⟨by decide, fun x => ⟨fun h => ?_, fun h => ?_⟩⟩
  · have h3 : Reach sw [3] 3 := .root (by simp) (by decide)
    simp only [List.mem_cons, List.not_mem_nil, or_false] at h
    rcases h with rfl | rfl
    · exact Reach.step (c := 4) h3 (by rw [sw_r3]; simp) (by decide)
    · exact h3
  · induction h with
    | root h1 h2 => simp at h1; subst h1; decide
    | step h1 h2 h3 ih =>
      simp only [List.mem_cons, List.not_mem_nil, or_false] at ih
      rcases ih with rfl | rfl
      · rw [sw_r1] at h2; simp at h2
      · rw [sw_r3] at h2; simp at h2; subst h2; decide
theorem sw_live5 : IsLive sw [5] [5] := by
  refine ⟨by decide, fun x => ⟨fun h => ?_, fun h => ?_⟩⟩
  · simp only [List.mem_cons, List.not_mem_nil, or_false] at h
    subst h; exact .root (by simp) (by decide)
  · induction h with
    | root h1 h2 => exact h1
    | step h1 h2 h3 ih =>
      simp only [List.mem_cons, List.not_mem_nil, or_false] at ih
      subst ih
      rw [sw_r5] at h2; simp at h2
theorem sw_ok3 : rootsOk sw [1, 3, 5] [3] := by intro r hr; simp at hr; subst hr; decide
theorem sw_ok5 : rootsOk sw [1, 3, 5] [5] := by intro r hr; simp at hr; subst hr; decide
theorem sw_no2 : ¬ rootsOk sw [1, 3, 5] [2] := fun h => absurd ((h 2 (by simp)).2.2 (by decide)) (by decide)
theorem sw_mark : MarkIs sw [3] 0 [1, 3] := .inr (.inr ⟨rfl, sw_live3, _, sw_blocks, sw_ok3⟩)
theorem sw_coll3 : CollIs sw [3] 0 (sw.take 5) [3] := .inr (.inr ⟨rfl, _, _, sw_blocks, sw_ok3, sw_live3, by decide, by decide⟩)
theorem sw_coll5 : CollIs sw [5] 0 [0, 30] [1] := .inr (.inr ⟨rfl, _, _, sw_blocks, sw_ok5, sw_live5, by decide, by decide⟩)
theorem sw_coll2 : CollIs sw [2] 1 [] [] := .inr (.inl ⟨rfl, rfl, rfl, _, sw_blocks, sw_no2⟩)
end Go.Proofs.YtchbidckckmobaaDoor

/- law20.fixed. No condition beyond what each contract names. -/
namespace Go.Proofs.YtchbidckckmobaaDoor
open Go.RowKit E
set_option linter.unusedVariables false
set_option linter.unusedSimpArgs false
set_option maxRecDepth 100000
attribute [local irreducible] ow qw kw kq cw opW Ret
set_option maxHeartbeats 1000000 in
theorem fixed20_ok (w : World) (ht : TabTz w) : Ret Tryd.prog 16 [] w (fun v w' => v = .bool true ∧ Keep [] w w') := by
  refine fn_enter (n := 85) Tryd.func16 rfl rfl (Nat.le_of_ble_eq_true rfl) (fun e => ?_)
  refine k_seq ?_
  refine k_region ?_
  refine m_bool rfl rfl ?_
  refine o_nil ?_
  refine k_seq ?_
  refine k_region ?_
  refine o_call rfl rfl (h20_ok w 2 7 1) (fun v w1 hv => ?_)
  obtain ⟨rfl, rfl⟩ := hv
  refine o_call rfl rfl (h20_ok w1 3 0 1) (fun v w2 hv => ?_)
  obtain ⟨rfl, rfl⟩ := hv
  refine o_call rfl rfl (h20_ok w2 2 7 0) (fun v w3 hv => ?_)
  obtain ⟨rfl, rfl⟩ := hv
  rw [show (headW 2 7 1 0).1 = 262174 by decide, show (headW 3 0 1 0).1 = 262147 by decide, show (headW 2 7 0 0).1 = 30 by decide]
  refine o_bsl (E := 2) (cs := #[iv 0, iv 262174, iv 5, iv 262147, iv 1, iv 30]) rfl (fun _ => by kernel_rfl) (fun g4 w4 hB4 hK4 hb4 hZ4 => ?_)
  have hS4 : Sl w4 2 1 (some ⟨g4, 0, none⟩) 6 6 (sw.map iv) := hB4.sl (len := 6) (sz := 1) rfl (by decide)
  refine m_sl rfl rfl ?_
  refine o_nil ?_
  refine k_seq ?_
  refine k_region ?_
  refine m_sl rfl rfl ?_
  refine o_bsl (E := 3) (cs := #[iv 3]) rfl (fun _ => by kernel_rfl) (fun g5 w5 hB5 hK5 hb5 hZ5 => ?_)
  have hS5 : Sl w5 3 1 (some ⟨g5, 0, none⟩) 1 1 (([3] : List Int).map iv) := hB5.sl (len := 1) (sz := 1) rfl (by decide)
  have hK45 := hK4.tr hK5
  refine o_call rfl rfl (smark_ok w5 (some ⟨g4, 0, none⟩) (some ⟨g5, 0, none⟩) 6 1 sw [3] (hS4.new hK5).rd hS5.rd (by decide) (by decide) (ht.new hK45)) (fun v w6 hv => ?_)
  obtain ⟨er, LV, a6, c6, rfl, hR6, hL6, hK6, hm⟩ := mark_is hv
  obtain ⟨rfl, rfl⟩ := hm.one sw_mark
  have hK46 := hK45.tr hK6
  refine m_any rfl rfl ?_
  refine o_extr rfl rfl ?_
  refine o_extr rfl rfl ?_
  refine m_sl rfl rfl ?_
  refine m_int rfl rfl ?_
  refine o_nil ?_
  refine k_seq ?_
  refine k_region ?_
  refine m_sl rfl rfl ?_
  refine o_bsl (E := 3) (cs := #[iv 3]) rfl (fun _ => by kernel_rfl) (fun g7 w7 hB7 hK7 hb7 hZ7 => ?_)
  have hS7 : Sl w7 3 1 (some ⟨g7, 0, none⟩) 1 1 (([3] : List Int).map iv) := hB7.sl (len := 1) (sz := 1) rfl (by decide)
  have hK57 := (hK5.tr hK6).tr hK7
  refine o_call rfl rfl (scoll_ok w7 (some ⟨g4, 0, none⟩) (some ⟨g7, 0, none⟩) 6 1 sw [3] (hS4.new hK57).rd hS7.rd (by decide) (by decide) (by decide) (by decide) (ht.new (hK46.tr hK7))) (fun v w8 hv => ?_)
  obtain ⟨er, xs, rs, a8, c8, b8, d8, rfl, hS8, _, hR8, _, hK8, hm⟩ := coll_is hv
  obtain ⟨rfl, rfl, rfl⟩ := hm.one sw_coll3
  have hK58 := hK57.tr hK8
  refine m_any rfl rfl ?_
  refine o_extr rfl rfl ?_
  refine o_extr rfl rfl ?_
  refine o_extr rfl rfl ?_
  refine m_sl rfl rfl ?_
  refine m_sl rfl rfl ?_
  refine m_int rfl rfl ?_
  refine o_nil ?_
  refine k_seq ?_
  refine k_region ?_
  refine m_sl rfl rfl ?_
  refine o_bsl (E := 3) (cs := #[iv 5]) rfl (fun _ => by kernel_rfl) (fun g9 w9 hB9 hK9 hb9 hZ9 => ?_)
  have hS9 : Sl w9 3 1 (some ⟨g9, 0, none⟩) 1 1 (([5] : List Int).map iv) := hB9.sl (len := 1) (sz := 1) rfl (by decide)
  have hK59 := hK58.tr hK9
  refine o_call rfl rfl (scoll_ok w9 (some ⟨g4, 0, none⟩) (some ⟨g9, 0, none⟩) 6 1 sw [5] (hS4.new hK59).rd hS9.rd (by decide) (by decide) (by decide) (by decide) (ht.new (hK4.tr hK59))) (fun v w10 hv => ?_)
  obtain ⟨er, xs, rs, a10, c10, b10, d10, rfl, hS10, _, hR10, _, hK10, hm⟩ := coll_is hv
  obtain ⟨rfl, rfl, rfl⟩ := hm.one sw_coll5
  have hK510 := hK59.tr hK10
  refine m_any rfl rfl ?_
  refine o_extr rfl rfl ?_
  refine o_extr rfl rfl ?_
  refine o_extr rfl rfl ?_
  refine m_sl rfl rfl ?_
  refine m_sl rfl rfl ?_
  refine m_int rfl rfl ?_
  refine o_nil ?_
  refine k_seq ?_
  refine k_region ?_
  refine m_sl rfl rfl ?_
  refine o_bsl (E := 3) (cs := #[iv 2]) rfl (fun _ => by kernel_rfl) (fun g11 w11 hB11 hK11 hb11 hZ11 => ?_)
  have hS11 : Sl w11 3 1 (some ⟨g11, 0, none⟩) 1 1 (([2] : List Int).map iv) := hB11.sl (len := 1) (sz := 1) rfl (by decide)
  have hK511 := hK510.tr hK11
  refine o_call rfl rfl (scoll_ok w11 (some ⟨g4, 0, none⟩) (some ⟨g11, 0, none⟩) 6 1 sw [2] (hS4.new hK511).rd hS11.rd (by decide) (by decide) (by decide) (by decide) (ht.new (hK4.tr hK511))) (fun v w12 hv => ?_)
  obtain ⟨er, xs, rs, a12, c12, b12, d12, rfl, hS12, _, hR12, _, hK12, hm⟩ := coll_is hv
  obtain ⟨rfl, rfl, rfl⟩ := hm.one sw_coll2
  have hK512 := hK511.tr hK12
  have hK612 := (((((hK7.tr hK8).tr hK9).tr hK10).tr hK11).tr hK12)
  have hK812 := (((hK9.tr hK10).tr hK11).tr hK12)
  refine m_any rfl rfl ?_
  refine o_extr rfl rfl ?_
  refine o_extr rfl rfl ?_
  refine o_extr rfl rfl ?_
  refine m_sl rfl rfl ?_
  refine m_sl rfl rfl ?_
  refine m_int rfl rfl ?_
  refine o_nil ?_
  refine k_seq ?_
  refine k_region ?_
  refine m_sl rfl rfl ?_
  refine o_bsl (E := 3) (cs := #[iv 1, iv 3]) rfl (fun _ => by kernel_rfl) (fun g13 w13 hB13 hK13 hb13 hZ13 => ?_)
  have hS13 : Sl w13 3 1 (some ⟨g13, 0, none⟩) 2 2 (([1, 3] : List Int).map iv) := hB13.sl (len := 2) (sz := 1) rfl (by decide)
  refine o_call rfl rfl (same_ok w13 a6 (some ⟨g13, 0, none⟩) 2 2 c6 2 [1, 3] [1, 3] (hR6.new (hK612.tr hK13)) hS13.rd rfl rfl (by decide)) (fun v w14 hv => ?_)
  obtain ⟨rfl, hK14⟩ := hv
  refine m_bool rfl rfl ?_
  refine o_true (t := 47) rfl (rfl) ?_
  refine g_yes rfl rfl ?_
  refine m_int rfl rfl ?_
  refine g_yes rfl rfl ?_
  refine b_eql rfl rfl ?_
  refine pick_t rfl rfl ?_
  refine m_bool rfl rfl ?_
  refine o_true (t := 51) rfl (rfl) ?_
  refine g_yes rfl rfl ?_
  refine m_sl rfl rfl ?_
  refine g_yes rfl rfl ?_
  refine m_sl rfl rfl ?_
  refine g_yes rfl rfl ?_
  refine o_slh (hi := 5) (sz := 1) Tryd.underlying22 rfl rfl rfl (by decide) ?_
  refine g_yes rfl rfl ?_
  refine o_call rfl rfl (samw_ok w14 a8 (some ⟨g4, 0, none⟩) c8 6 (sw.take 5) (sw.take 5) (hS8.rd.new ((hK812.tr hK13).tr hK14)) (by rw [List.map_take]; exact (hS4.rd.new ((hK512.tr hK13).tr hK14)).take 5) (by decide) (by decide)) (fun v w15 hv => ?_)
  obtain ⟨rfl, hK15⟩ := hv
  refine pick_t rfl rfl ?_
  refine m_bool rfl rfl ?_
  refine o_true (t := 57) rfl (rfl) ?_
  refine g_yes rfl rfl ?_
  refine m_sl rfl rfl ?_
  refine g_yes rfl rfl ?_
  refine o_bsl (E := 3) (cs := #[iv 3]) rfl (fun _ => by kernel_rfl) (fun g16 w16 hB16 hK16 hb16 hZ16 => ?_)
  have hS16 : Sl w16 3 1 (some ⟨g16, 0, none⟩) 1 1 (([3] : List Int).map iv) := hB16.sl (len := 1) (sz := 1) rfl (by decide)
  have hK1216 := ((hK13.tr hK14).tr hK15).tr hK16
  refine g_yes rfl rfl ?_
  refine o_call rfl rfl (same_ok w16 b8 (some ⟨g16, 0, none⟩) 1 1 d8 1 [3] [3] (hR8.new (hK812.tr hK1216)) hS16.rd rfl rfl (by decide)) (fun v w17 hv => ?_)
  obtain ⟨rfl, hK17⟩ := hv
  refine pick_t rfl rfl ?_
  refine m_bool rfl rfl ?_
  refine o_true (t := 62) rfl (rfl) ?_
  refine g_yes rfl rfl ?_
  refine m_int rfl rfl ?_
  refine g_yes rfl rfl ?_
  refine b_eql rfl rfl ?_
  refine pick_t rfl rfl ?_
  refine m_bool rfl rfl ?_
  refine o_true (t := 66) rfl (rfl) ?_
  refine g_yes rfl rfl ?_
  refine m_sl rfl rfl ?_
  refine g_yes rfl rfl ?_
  refine o_call rfl rfl (h20_ok w17 2 7 0) (fun v w18 hv => ?_)
  obtain ⟨rfl, rfl⟩ := hv
  rw [show (headW 2 7 0 0).1 = 30 by decide]
  refine g_yes rfl rfl ?_
  refine o_bsl (E := 2) (cs := #[iv 0, iv 30]) rfl (fun _ => by kernel_rfl) (fun g19 w19 hB19 hK19 hb19 hZ19 => ?_)
  have hS19 : Sl w19 2 1 (some ⟨g19, 0, none⟩) 2 2 (([0, 30] : List Int).map iv) := hB19.sl (len := 2) (sz := 1) rfl (by decide)
  have hK1019 := ((hK11.tr hK12).tr (hK1216.tr hK17)).tr hK19
  refine g_yes rfl rfl ?_
  refine o_call rfl rfl (samw_ok w19 a10 (some ⟨g19, 0, none⟩) c10 2 [0, 30] [0, 30] (hS10.rd.new hK1019) hS19.rd (by decide) (by decide)) (fun v w20 hv => ?_)
  obtain ⟨rfl, hK20⟩ := hv
  refine pick_t rfl rfl ?_
  refine m_bool rfl rfl ?_
  refine o_true (t := 72) rfl (rfl) ?_
  refine g_yes rfl rfl ?_
  refine m_sl rfl rfl ?_
  refine g_yes rfl rfl ?_
  refine o_bsl (E := 3) (cs := #[iv 1]) rfl (fun _ => by kernel_rfl) (fun g21 w21 hB21 hK21 hb21 hZ21 => ?_)
  have hS21 : Sl w21 3 1 (some ⟨g21, 0, none⟩) 1 1 (([1] : List Int).map iv) := hB21.sl (len := 1) (sz := 1) rfl (by decide)
  refine g_yes rfl rfl ?_
  refine o_call rfl rfl (same_ok w21 b10 (some ⟨g21, 0, none⟩) 1 1 d10 1 [1] [1] (hR10.new ((hK1019.tr hK20).tr hK21)) hS21.rd rfl rfl (by decide)) (fun v w22 hv => ?_)
  obtain ⟨rfl, hK22⟩ := hv
  refine pick_t rfl rfl ?_
  refine m_bool rfl rfl ?_
  refine o_true (t := 77) rfl (rfl) ?_
  refine g_yes rfl rfl ?_
  refine m_int rfl rfl ?_
  refine g_yes rfl rfl ?_
  refine b_eql rfl rfl ?_
  refine pick_t rfl rfl ?_
  refine m_bool rfl rfl ?_
  refine o_true (t := 81) rfl (rfl) ?_
  refine g_yes rfl rfl ?_
  refine m_int rfl rfl ?_
  refine g_yes rfl rfl ?_
  refine b_eql rfl rfl ?_
  refine pick_t rfl rfl ?_
  refine m_bool rfl rfl ?_
  refine o_nil ?_
  refine k_ret (ret_tmps (ts := [0]) (v := .bool _) rfl rfl ?_)
  exact ⟨rfl, (((((hK4.tr hK512).tr hK1216).tr hK17).tr hK19).tr hK20).tr (hK21.tr hK22)⟩
end Go.Proofs.YtchbidckckmobaaDoor

/- What is collected is an arena, all of it reached, plain. No condition beyond what each lemma names. -/
namespace Go.Proofs.YtchbidckckmobaaDoor
open Go.RowKit E
set_option linter.unusedVariables false
set_option linter.unusedSimpArgs false
set_option maxRecDepth 100000
attribute [local irreducible] ow qw kw kq cw opW Ret
theorem refU_map (kind mask p : Int) (i : Nat) : refU kind mask p i = (refU kind mask 0 i).map (p + ·) := by
  induction i with
  | zero => rfl
  | succ i ih =>
    unfold refU
    rw [List.map_append, ← ih]
    congr 1
    split
    · simp only [List.map_cons, List.map_nil]; congr 1; omega
    · rfl
theorem refs_map {ws : List Int} {k m : Nat} (hk : k < ws.length) (h0 : (openW (ws.getD k 0)).2.2.2.2 = 0) (hm : (openW (ws.getD k 0)).2.2.1 = (m : Int)) (hkm : k + 1 + m ≤ ws.length) : refsW ws (k : Int) = (refU (openW (ws.getD k 0)).1 (openW (ws.getD k 0)).2.2.2.1 0 m).map ((k : Int) + ·) := by
  have e := getD_get ws k hk
  rw [refsW_at ws k hk, ← e]
  unfold refsO
  rw [if_pos ⟨h0, by rw [hm]; omega⟩, hm, refU_map]
  rfl
structure NewAt (ws xs LV : List Int) (y : Int) (k p m : Nat) (T : List Int) : Prop where
  yk : y = (k : Int)
  ap : adr ws LV 1 y = (p : Int)
  k1 : 1 ≤ k
  p1 : 1 ≤ p
  kw : k + 1 + m ≤ ws.length
  pw : p + 1 + m ≤ xs.length
  hd : xs.getD p 0 = ws.getD k 0
  er : (openW (ws.getD k 0)).2.2.2.2 = 0
  nn : (openW (ws.getD k 0)).2.2.1 = (m : Int)
  m9 : m ≤ 65536
  rk : refsW ws (k : Int) = T.map ((k : Int) + ·)
  rp : refsW xs (p : Int) = T.map ((p : Int) + ·)
  T1 : ∀ t ∈ T, 1 ≤ t ∧ t ≤ m
  cell : ∀ j : Nat, j ≤ m → xs.getD (p + j) 0 = if (j : Int) ∈ T then adr ws LV 1 (ws.getD (k + j) 0) else ws.getD (k + j) 0
theorem out_len (ws LV : List Int) : (outW ws LV).length = 1 + sumN ws LV := by
  unfold outW; rw [List.length_cons, flat_len ws _ (newB_len ws LV)]; omega
theorem out_at (ws pre post : List Int) (y : Int) (j : Nat) (LV : List Int) (hL : LV = pre ++ y :: post) (hj : j < szN ws y) : (outW ws LV).getD (1 + sumN ws pre + j) 0 = (newB ws LV y).getD j 0 := by
  have e : outW ws LV = (0 :: pre.flatMap (newB ws LV)) ++ (newB ws LV y ++ post.flatMap (newB ws LV)) := by
    show 0 :: LV.flatMap (newB ws LV) = _
    conv => lhs; arg 2; arg 2; rw [hL]
    simp
  have hl : (0 :: pre.flatMap (newB ws LV)).length = 1 + sumN ws pre := by rw [List.length_cons, flat_len ws _ (newB_len ws LV)]; omega
  rw [e, List.getD_eq_getElem?_getD, List.getElem?_append_right (by omega), List.getElem?_append_left (by rw [newB_len]; omega), List.getD_eq_getElem?_getD, hl, Nat.add_sub_cancel_left]
theorem newB_d (ws LV : List Int) (y : Int) (j : Nat) (hj : j < szN ws y) : (newB ws LV y).getD j 0 = if y + (j : Int) ∈ refsW ws y then adr ws LV 1 (ws.getD (y.toNat + j) 0) else ws.getD (y.toNat + j) 0 := by
  rw [List.getD_eq_getElem?_getD, List.getElem?_eq_getElem (by rw [newB_len]; exact hj)]
  simp [newB, midB]
theorem new_at {ws L LV : List Int} (hb : blocksW ws = some L) (hLV : ∀ x ∈ LV, x ∈ L) (hup : LV.Pairwise (· < ·)) {pre post : List Int} {y : Int} (hs : LV = pre ++ y :: post) : ∃ k m : Nat, NewAt ws (outW ws LV) LV y k (1 + sumN ws pre) m (refU (openW (ws.getD k 0)).1 (openW (ws.getD k 0)).2.2.2.1 0 m) ∧ szN ws y = 1 + m := by
  obtain ⟨k, hk, rfl, hk1, h0, m, hm, hno, hsz, hkm, hm9⟩ := blk_at hb (hLV y (by rw [hs]; simp))
  have e := getD_get ws k hk
  rw [← e] at h0 hm
  have hrk := refs_map hk h0 hm hkm
  have hT1 : ∀ t ∈ refU (openW (ws.getD k 0)).1 (openW (ws.getD k 0)).2.2.2.1 0 m, 1 ≤ t ∧ t ≤ m := fun t ht => by have := refU_lt _ _ _ _ t ht; omega
  have hcell : ∀ j : Nat, j ≤ m → (outW ws LV).getD (1 + sumN ws pre + j) 0 = if (j : Int) ∈ refU (openW (ws.getD k 0)).1 (openW (ws.getD k 0)).2.2.2.1 0 m then adr ws LV 1 (ws.getD (k + j) 0) else ws.getD (k + j) 0 := fun j hj => by
    rw [out_at ws pre post (k : Int) j LV hs (by omega), newB_d ws LV (k : Int) j (by omega), hrk, Int.toNat_natCast]
    have : (k : Int) + (j : Int) ∈ (refU (openW (ws.getD k 0)).1 (openW (ws.getD k 0)).2.2.2.1 0 m).map ((k : Int) + ·) ↔ (j : Int) ∈ refU (openW (ws.getD k 0)).1 (openW (ws.getD k 0)).2.2.2.1 0 m := by
      rw [List.mem_map]
      exact ⟨fun ⟨t, ht, he⟩ => by rwa [show t = (j : Int) by omega] at ht, fun ht => ⟨_, ht, rfl⟩⟩
    simp only [this]
  have hhd : (outW ws LV).getD (1 + sumN ws pre) 0 = ws.getD k 0 := by
    have := hcell 0 (Nat.zero_le _)
    rw [Nat.add_zero, Nat.add_zero, if_neg (fun h => by have := hT1 _ h; omega)] at this
    exact this
  have hpw : 1 + sumN ws pre + 1 + m ≤ (outW ws LV).length := by
    rw [out_len, hs, sumN_app]
    simp only [sumN, hsz]
    omega
  refine ⟨k, m, ⟨rfl, ?_, hk1, by omega, hkm, hpw, hhd, h0, hm, hm9, hrk, ?_, hT1, hcell⟩, hsz⟩
  · rw [hs]; exact adr_mid ws pre post _ (up_notin (hs ▸ hup))
  · rw [refs_map (by omega) (by rw [hhd]; exact h0) (by rw [hhd]; exact hm) hpw, hhd]
theorem NewAt.sz {ws xs LV : List Int} {y : Int} {k p m : Nat} {T : List Int} (h : NewAt ws xs LV y k p m T) : szN xs (p : Int) = 1 + m := by
  unfold szN nOf
  rw [Int.toNat_natCast, h.hd, h.nn]
  omega
theorem chain_sum' (ws : List Int) (d : Nat) : ∀ p, ws.length - p ≤ d → p ≤ ws.length → ∀ L, chain ws p = some L → p + sumN ws L = ws.length := by
  induction d with
  | zero =>
    intro p hd hp L h
    rw [chain_end ws p (by omega)] at h
    obtain rfl := Option.some.inj h
    simp [sumN]; omega
  | succ d ih =>
    intro p hd hpl L h
    by_cases hp : p < ws.length
    · by_cases hc : (openW (ws[p])).2.2.2.2 = 0 ∧ (openW (ws[p])).2.2.1 ≤ (ws.length : Int) - p - 1
      · rw [chain_yes ws p hp hc] at h
        obtain ⟨M, hM, rfl⟩ := Option.map_eq_some_iff.1 h
        have hn0 := (open_f _ hc.1).n0
        have := ih _ (by omega) (by omega) M hM
        simp only [sumN]
        have : szN ws (p : Int) = 1 + (openW (ws[p])).2.2.1.toNat := by unfold szN nOf; rw [Int.toNat_natCast, getD_get ws p hp]
        omega
      · rw [chain_no ws p hp hc] at h
        simp at h
    · rw [chain_end ws p hp] at h
      obtain rfl := Option.some.inj h
      simp [sumN]; omega
theorem sumN_filter (ws : List Int) (p : Int → Bool) (L : List Int) : sumN ws (L.filter p) ≤ sumN ws L := by
  induction L with
  | nil => simp
  | cons x L ih =>
    rw [List.filter_cons]
    split <;> simp only [sumN] <;> omega
/-- what is collected is not longer -/
theorem out_le {ws L LV : List Int} (hb : blocksW ws = some L) (hLV : ∀ x ∈ LV, x ∈ L) (hup : LV.Pairwise (· < ·)) : (outW ws LV).length ≤ ws.length := by
  have h1 := chain_sum' ws _ 1 (Nat.le_refl _) (by have := (blocks_ch hb).1; omega) L (blocks_ch hb).2.2.1
  have e : LV = L.filter (fun x => decide (x ∈ LV)) := up_one _ _ hup ((blocks_up hb).1.sublist List.filter_sublist) (fun x => by
    rw [List.mem_filter, decide_eq_true_eq]
    exact ⟨fun h => ⟨hLV x h, h⟩, fun h => h.2⟩)
  have h2 := sumN_filter ws (fun x => decide (x ∈ LV)) L
  rw [← e] at h2
  rw [out_len]
  omega
end Go.Proofs.YtchbidckckmobaaDoor

/- What is collected, collected again, plain. No condition beyond what each lemma names. -/
namespace Go.Proofs.YtchbidckckmobaaDoor
open Go.RowKit E
set_option linter.unusedVariables false
set_option linter.unusedSimpArgs false
set_option maxRecDepth 100000
attribute [local irreducible] ow qw kw kq cw opW Ret
/-- what is fixed: an arena, its roots, what they reach -/
structure SL (ws L rts LV : List Int) : Prop where
  hb : blocksW ws = some L
  hr : rootsOk ws L rts
  hl : IsLive ws rts LV
variable {ws L rts LV : List Int}
theorem SL.sub (h : SL ws L rts LV) : ∀ x ∈ LV, x ∈ L := fun x hx => reach_L h.hb h.hr ((h.hl.2 x).1 hx)
theorem SL.at (h : SL ws L rts LV) {pre post : List Int} {y : Int} (hs : LV = pre ++ y :: post) : ∃ k m : Nat, NewAt ws (outW ws LV) LV y k (1 + sumN ws pre) m (refU (openW (ws.getD k 0)).1 (openW (ws.getD k 0)).2.2.2.1 0 m) ∧ szN ws y = 1 + m := new_at h.hb h.sub h.hl.1 hs
theorem SL.of (h : SL ws L rts LV) {y : Int} (hy : y ∈ LV) : ∃ (k p m : Nat) (T : List Int), NewAt ws (outW ws LV) LV y k p m T ∧ szN ws y = 1 + m := by
  obtain ⟨pre, post, hs⟩ := List.append_of_mem hy
  obtain ⟨k, m, h1, h2⟩ := h.at hs
  exact ⟨k, _, m, _, h1, h2⟩
theorem SL.zero (h : SL ws L rts LV) : adr ws LV 1 0 = 0 := adr_out ws LV 1 0 (fun hm => by obtain ⟨k, e, h1, _⟩ := L_rng h.hb (h.sub 0 hm); omega)
theorem SL.tgt (h : SL ws L rts LV) {y c : Int} (hy : y ∈ LV) (hc : c ∈ refsW ws y) : ws.getD c.toNat 0 = 0 ∨ ws.getD c.toNat 0 ∈ LV := by
  by_cases h0 : ws.getD c.toNat 0 = 0
  · exact .inl h0
  · exact .inr ((h.hl.2 _).2 (.step ((h.hl.2 y).1 hy) hc h0))
theorem SL.root (h : SL ws L rts LV) {r : Int} (hr : r ∈ rts) : r = 0 ∨ r ∈ LV := by
  by_cases h0 : r = 0
  · exact .inl h0
  · exact .inr ((h.hl.2 _).2 (.root hr h0))
theorem SL.mem (h : SL ws L rts LV) {z : Int} (hz : z = 0 ∨ z ∈ LV) : adr ws LV 1 z ∈ 0 :: LV.map (adr ws LV 1) := by
  rcases hz with rfl | hz
  · rw [h.zero]; simp
  · exact List.mem_cons_of_mem _ (List.mem_map.2 ⟨z, hz, rfl⟩)
theorem SL.chn (h : SL ws L rts LV) : ∀ (suf pre : List Int), LV = pre ++ suf → chain (outW ws LV) (1 + sumN ws pre) = some (suf.map (adr ws LV 1))
  | [], pre, hs => by
    rw [List.append_nil] at hs
    rw [chain_end _ _ (by rw [out_len, hs]; omega)]
    rfl
  | y :: post, pre, hs => by
    obtain ⟨k, m, hN, hsz⟩ := h.at hs
    have hp : 1 + sumN ws pre < (outW ws LV).length := by have := hN.pw; omega
    have e := getD_get (outW ws LV) _ hp
    have hx : (outW ws LV)[1 + sumN ws pre] = ws.getD k 0 := by rw [← e]; exact hN.hd
    rw [chain_yes _ _ hp (by rw [hx]; exact ⟨hN.er, by rw [hN.nn]; have := hN.pw; omega⟩), hx, hN.nn, Int.toNat_natCast]
    have hI := h.chn post (pre ++ [y]) (by simp [hs])
    rw [show 1 + sumN ws (pre ++ [y]) = 1 + sumN ws pre + 1 + m by rw [sumN_app]; simp only [sumN, hsz]; omega] at hI
    rw [hI, List.map_cons, hN.ap]
    rfl
theorem SL.rok (h : SL ws L rts LV) {y : Int} (hy : y ∈ LV) : refOk (outW ws LV) (LV.map (adr ws LV 1)) (adr ws LV 1 y) := by
  obtain ⟨k, p, m, T, hN, hsz⟩ := h.of hy
  intro r hr
  rw [hN.ap, hN.rp] at hr
  obtain ⟨t, ht, rfl⟩ := List.mem_map.1 hr
  obtain ⟨h1, h2⟩ := hN.T1 t ht
  obtain ⟨j, rfl⟩ : ∃ j : Nat, t = j := ⟨t.toNat, by omega⟩
  have hc := hN.cell j (by omega)
  rw [if_pos ht] at hc
  rw [show ((p : Int) + (j : Int)).toNat = p + j by omega, hc]
  have hin : (k : Int) + (j : Int) ∈ refsW ws y := by rw [hN.yk, hN.rk]; exact List.mem_map.2 ⟨_, ht, rfl⟩
  have := h.tgt hy hin
  rw [show ((k : Int) + (j : Int)).toNat = k + j by omega] at this
  exact h.mem this
theorem SL.len0 (_h : SL ws L rts LV) : 0 < (outW ws LV).length := by rw [out_len]; omega
theorem SL.blocks (h : SL ws L rts LV) : blocksW (outW ws LV) = some (LV.map (adr ws LV 1)) := by
  rw [blocks_b (outW ws LV) (LV.map (adr ws LV 1)) h.len0 rfl (h.chn LV [] rfl), if_pos]
  intro b hb
  obtain ⟨y, hy, rfl⟩ := List.mem_map.1 hb
  exact h.rok hy
theorem SL.rng (h : SL ws L rts LV) {y : Int} (hy : y ∈ LV) : 1 ≤ adr ws LV 1 y ∧ adr ws LV 1 y < (outW ws LV).length := by
  obtain ⟨k, p, m, T, hN, hsz⟩ := h.of hy
  have h1 := hN.p1
  have h2 := hN.pw
  rw [hN.ap]
  omega
theorem SL.roots (h : SL ws L rts LV) : rootsOk (outW ws LV) (LV.map (adr ws LV 1)) (rts.map (adr ws LV 1)) := by
  intro r hr
  obtain ⟨q, hq, rfl⟩ := List.mem_map.1 hr
  have h0 := h.len0
  rcases h.root hq with rfl | hl
  · rw [h.zero]; exact ⟨by omega, by omega, fun hh => by omega⟩
  · have := h.rng hl
    exact ⟨by omega, by omega, fun _ => List.mem_map.2 ⟨q, hl, rfl⟩⟩
theorem SL.reach (h : SL ws L rts LV) {x : Int} (hx : Reach ws rts x) : Reach (outW ws LV) (rts.map (adr ws LV 1)) (adr ws LV 1 x) := by
  induction hx with
  | root h1 h2 =>
    have := h.rng ((h.root h1).resolve_left h2)
    exact .root (List.mem_map.2 ⟨_, h1, rfl⟩) (by omega)
  | @step a c h1 h2 h3 ih =>
    have ha := (h.hl.2 a).2 h1
    have hz := (h.tgt ha h2).resolve_left h3
    obtain ⟨k, p, m, T, hN, hsz⟩ := h.of ha
    rw [hN.yk, hN.rk] at h2
    obtain ⟨t, ht, rfl⟩ := List.mem_map.1 h2
    obtain ⟨h1', h2'⟩ := hN.T1 t ht
    obtain ⟨j, rfl⟩ : ∃ j : Nat, t = j := ⟨t.toNat, by omega⟩
    have hc := hN.cell j (by omega)
    rw [if_pos ht] at hc
    have e1 : ((k : Int) + (j : Int)).toNat = k + j := by omega
    rw [e1] at hz h3 ⊢
    have e2 : ((p : Int) + (j : Int)).toNat = p + j := by omega
    have hr := h.rng hz
    have hst := Reach.step (c := (p : Int) + (j : Int)) ih (by rw [hN.ap, hN.rp]; exact List.mem_map.2 ⟨_, ht, rfl⟩) (by rw [e2, hc]; omega)
    rw [e2, hc] at hst
    exact hst
theorem SL.live (h : SL ws L rts LV) : IsLive (outW ws LV) (rts.map (adr ws LV 1)) (LV.map (adr ws LV 1)) := by
  refine ⟨(blocks_up h.blocks).1, fun x => ⟨fun hx => ?_, fun hx => reach_L h.blocks h.roots hx⟩⟩
  obtain ⟨y, hy, rfl⟩ := List.mem_map.1 hx
  exact h.reach ((h.hl.2 y).1 hy)
theorem SL.sum (h : SL ws L rts LV) : ∀ l : List Int, (∀ y ∈ l, y ∈ LV) → sumN (outW ws LV) (l.map (adr ws LV 1)) = sumN ws l
  | [], _ => rfl
  | y :: l, hl => by
    obtain ⟨k, p, m, T, hN, hsz⟩ := h.of (hl y (by simp))
    rw [List.map_cons]
    simp only [sumN]
    rw [h.sum l (fun z hz => hl z (by simp [hz])), hN.ap, hN.sz, hsz]
theorem SL.adrE (h : SL ws L rts LV) {z : Int} (hz : z ∈ 0 :: LV.map (adr ws LV 1)) : adr (outW ws LV) (LV.map (adr ws LV 1)) 1 z = z := by
  rcases List.mem_cons.1 hz with rfl | hz
  · refine adr_out _ _ _ _ (fun hm => ?_)
    obtain ⟨y, hy, he⟩ := List.mem_map.1 hm
    have := h.rng hy
    omega
  · obtain ⟨y, hy, rfl⟩ := List.mem_map.1 hz
    obtain ⟨pre, post, hs⟩ := List.append_of_mem hy
    obtain ⟨k, m, hN, hsz⟩ := h.at hs
    have hp := h.live.1
    have e : LV.map (adr ws LV 1) = pre.map (adr ws LV 1) ++ adr ws LV 1 y :: post.map (adr ws LV 1) := by
      conv => lhs; arg 2; rw [hs]
      simp
    have hn := up_notin (e ▸ hp)
    rw [e, adr_mid _ _ _ _ hn, h.sum pre (fun z hz => by rw [hs]; simp [hz]), hN.ap]
theorem SL.out (h : SL ws L rts LV) : outW (outW ws LV) (LV.map (adr ws LV 1)) = outW ws LV := by
  have key : ∀ y ∈ LV, newB (outW ws LV) (LV.map (adr ws LV 1)) (adr ws LV 1 y) = newB ws LV y := by
    intro y hy
    obtain ⟨pre, post, hs⟩ := List.append_of_mem hy
    obtain ⟨k, m, hN, hsz⟩ := h.at hs
    have hsp := hN.sz
    apply List.ext_getElem
    · rw [newB_len, newB_len, hN.ap, hsp, hsz]
    · intro j h1 h2
      have hj : j < szN ws y := by rwa [newB_len] at h2
      have hj' : j < szN (outW ws LV) (adr ws LV 1 y) := by rwa [newB_len] at h1
      have e1 := newB_d (outW ws LV) (LV.map (adr ws LV 1)) (adr ws LV 1 y) j hj'
      have e2 := out_at ws pre post y j LV hs hj
      rw [List.getD_eq_getElem?_getD, List.getElem?_eq_getElem h1, Option.getD_some] at e1
      rw [List.getD_eq_getElem?_getD (l := newB ws LV y), List.getElem?_eq_getElem h2, Option.getD_some] at e2
      rw [e1, ← e2]
      rw [hN.ap, Int.toNat_natCast]
      split
      · rename_i hin
        have hok := h.rok hy
        rw [hN.ap] at hok
        have := hok _ hin
        rw [show ((((1 + sumN ws pre : Nat)) : Int) + (j : Int)).toNat = 1 + sumN ws pre + j by omega] at this
        exact h.adrE this
      · rfl
  show 0 :: (LV.map (adr ws LV 1)).flatMap (newB (outW ws LV) (LV.map (adr ws LV 1))) = 0 :: LV.flatMap (newB ws LV)
  rw [List.flatMap_map]
  congr 1
  have gen : ∀ l : List Int, (∀ y ∈ l, y ∈ LV) → l.flatMap (fun y => newB (outW ws LV) (LV.map (adr ws LV 1)) (adr ws LV 1 y)) = l.flatMap (newB ws LV) := by
    intro l
    induction l with
    | nil => intro _; rfl
    | cons y l ih =>
      intro hl
      rw [List.flatMap_cons, List.flatMap_cons, key y (hl y (by simp)), ih (fun z hz => hl z (by simp [hz]))]
  exact gen LV (fun y hy => hy)
theorem SL.mark (h : SL ws L rts LV) : MarkIs (outW ws LV) (rts.map (adr ws LV 1)) 0 (LV.map (adr ws LV 1)) := .inr (.inr ⟨rfl, h.live, _, h.blocks, h.roots⟩)
theorem SL.coll (h : SL ws L rts LV) : CollIs (outW ws LV) (rts.map (adr ws LV 1)) 0 (outW ws LV) (rts.map (adr ws LV 1)) := by
  refine .inr (.inr ⟨rfl, _, _, h.blocks, h.roots, h.live, h.out.symm, ?_⟩)
  rw [List.map_map]
  refine List.map_congr_left (fun r hr => ?_)
  exact (h.adrE (h.mem (h.root hr))).symm
theorem SL.le (h : SL ws L rts LV) : (outW ws LV).length ≤ ws.length := out_le h.hb h.sub h.hl.1
end Go.Proofs.YtchbidckckmobaaDoor

/- SlideMarks and SlideCollects. No condition beyond what each contract names. -/
namespace Go.Proofs.YtchbidckckmobaaDoor
open Go.RowKit E
set_option linter.unusedVariables false
set_option linter.unusedSimpArgs false
set_option maxRecDepth 100000
attribute [local irreducible] ow qw kw kq cw opW Ret
theorem sl_cap {w : World} {E : TypeId} {sz : Nat} {a : Option Addr} {m c : Nat} {xs : List Value} (h : Sl w E sz a m c xs) : c ≤ 9223372036854775807 := by
  rcases h.2 with ⟨_, _, rfl⟩ | ⟨g, cur, _, _, _, h2, _⟩
  · omega
  · simpa [maxLen] using h2
theorem marks_ok (w : World) (a ra : Option Addr) (c rc : Nat) (ws rts : List Int) (hW : Rd w a (ws.map iv)) (hR : Rd w ra (rts.map iv)) (hx : ∀ x ∈ ws, x ≤ 9223372036854775807) (ht : TabTz w) :
    Ret Tryd.prog 3 [.slice a ws.length c, .slice ra rts.length rc] w (fun v w' => v = .bool true ∧ Keep [] w w') := by
  refine fn_enter (n := 39) Tryd.func3 rfl rfl (Nat.le_of_ble_eq_true rfl) (fun e => ?_)
  refine k_seq ?_
  refine k_region ?_
  refine m_bool rfl rfl ?_
  refine o_nil ?_
  refine k_seq ?_
  refine k_seq ?_
  refine k_region ?_
  refine o_call rfl rfl (fixed20_ok w ht) (fun v w1 hv => ?_)
  obtain ⟨rfl, hK1⟩ := hv
  refine u_notb rfl ?_
  refine o_nil ?_
  refine k_condf rfl ?_
  refine k_skip ?_
  refine k_seq ?_
  refine k_seq ?_
  refine k_region ?_
  refine m_sl rfl rfl ?_
  refine o_lens Tryd.underlying22 rfl ?_
  refine b_gtr rfl rfl ?_
  refine m_bool rfl rfl ?_
  refine o_split (t := 14) rfl (fun h => ?_) (fun h => ?_)
  ·
    refine g_no rfl rfl rfl ?_
    refine g_no rfl rfl rfl ?_
    refine g_no rfl rfl rfl ?_
    refine pick_t rfl rfl ?_
    refine o_nil ?_
    refine k_condt rfl ?_
    refine k_seq ?_
    refine k_region ?_
    refine m_bool rfl rfl ?_
    refine o_nil ?_
    refine k_ret (ret_tmps (ts := [4]) (v := .bool _) rfl rfl ?_)
    exact ⟨rfl, hK1⟩
  ·
    refine g_yes rfl rfl ?_
    refine m_sl rfl rfl ?_
    refine g_yes rfl rfl ?_
    refine o_lens Tryd.underlying23 rfl ?_
    refine g_yes rfl rfl ?_
    refine b_gtr rfl rfl ?_
    refine pick_f rfl rfl ?_
    refine o_nil ?_
    refine k_cond rfl (fun h => ?_) (fun h => ?_)
    ·
      refine k_seq ?_
      refine k_region ?_
      refine m_bool rfl rfl ?_
      refine o_nil ?_
      refine k_ret (ret_tmps (ts := [4]) (v := .bool _) rfl rfl ?_)
      exact ⟨rfl, hK1⟩
    refine k_skip ?_
    refine k_seq ?_
    refine k_region ?_
    refine m_sl rfl rfl ?_
    refine m_sl rfl rfl ?_
    refine o_call rfl rfl (smark_ok w1 a ra c rc ws rts (hW.new hK1) (hR.new hK1) (by omega) (by omega) (ht.new hK1)) (fun v w2 hv => ?_)
    obtain ⟨er, LV, a2, c2, rfl, hR2, hL2, hK2, hm2⟩ := mark_is hv
    have hK02 := hK1.tr hK2
    refine m_any rfl rfl ?_
    refine o_extr rfl rfl ?_
    refine o_extr rfl rfl ?_
    refine m_sl rfl rfl ?_
    refine m_int rfl rfl ?_
    refine o_nil ?_
    refine k_seq ?_
    refine k_region ?_
    refine m_sl rfl rfl ?_
    refine m_sl rfl rfl ?_
    refine o_call rfl rfl (rmark_ok w2 a ra c rc ws rts (hW.new hK02) (hR.new hK02) (by omega) (by omega) hx) (fun v w3 hv => ?_)
    obtain ⟨er3, LV3, a3, c3, rfl, hR3, hL3, hK3, hm3⟩ := mark_is hv
    obtain ⟨rfl, rfl⟩ := hm2.one hm3
    refine m_any rfl rfl ?_
    refine o_extr rfl rfl ?_
    refine o_extr rfl rfl ?_
    refine m_sl rfl rfl ?_
    refine m_int rfl rfl ?_
    refine o_nil ?_
    refine k_seq ?_
    refine k_region ?_
    refine m_int rfl rfl ?_
    refine m_int rfl rfl ?_
    refine b_eql rfl rfl ?_
    refine m_bool rfl rfl ?_
    refine o_true (t := 34) rfl (rfl) ?_
    refine g_yes rfl rfl ?_
    refine m_sl rfl rfl ?_
    refine g_yes rfl rfl ?_
    refine m_sl rfl rfl ?_
    refine g_yes rfl rfl ?_
    refine o_call rfl rfl (same_ok w3 a2 a3 LV.length LV.length c2 c3 LV LV (hR2.new hK3) hR3 rfl rfl hL2) (fun v w4 hv => ?_)
    obtain ⟨rfl, hK4⟩ := hv
    refine pick_t rfl rfl ?_
    refine m_bool rfl rfl ?_
    refine o_nil ?_
    refine k_ret (ret_tmps (ts := [4]) (v := .bool _) rfl rfl ?_)
    exact ⟨congrArg Value.bool (decide_eq_true rfl), (hK02.tr hK3).tr hK4⟩
theorem colls_ok (w : World) (a ra : Option Addr) (c rc : Nat) (ws rts : List Int) (hW : Rd w a (ws.map iv)) (hR : Rd w ra (rts.map iv)) (hx : ∀ x ∈ ws, x ≤ 9223372036854775807) (ht : TabTz w) :
    Ret Tryd.prog 4 [.slice a ws.length c, .slice ra rts.length rc] w (fun v w' => v = .bool true ∧ Keep [] w w') := by
  refine fn_enter (n := 66) Tryd.func4 rfl rfl (Nat.le_of_ble_eq_true rfl) (fun e => ?_)
  refine k_seq ?_
  refine k_region ?_
  refine m_bool rfl rfl ?_
  refine o_nil ?_
  refine k_seq ?_
  refine k_seq ?_
  refine k_region ?_
  refine o_call rfl rfl (fixed20_ok w ht) (fun v w1 hv => ?_)
  obtain ⟨rfl, hK1⟩ := hv
  refine u_notb rfl ?_
  refine o_nil ?_
  refine k_condf rfl ?_
  refine k_skip ?_
  refine k_seq ?_
  refine k_seq ?_
  refine k_region ?_
  refine m_sl rfl rfl ?_
  refine o_lens Tryd.underlying22 rfl ?_
  refine b_gtr rfl rfl ?_
  refine m_bool rfl rfl ?_
  refine o_split (t := 18) rfl (fun h => ?_) (fun h => ?_)
  ·
    refine g_no rfl rfl rfl ?_
    refine g_no rfl rfl rfl ?_
    refine g_no rfl rfl rfl ?_
    refine pick_t rfl rfl ?_
    refine o_nil ?_
    refine k_condt rfl ?_
    refine k_seq ?_
    refine k_region ?_
    refine m_bool rfl rfl ?_
    refine o_nil ?_
    refine k_ret (ret_tmps (ts := [4]) (v := .bool _) rfl rfl ?_)
    exact ⟨rfl, hK1⟩
  ·
    refine g_yes rfl rfl ?_
    refine m_sl rfl rfl ?_
    refine g_yes rfl rfl ?_
    refine o_lens Tryd.underlying23 rfl ?_
    refine g_yes rfl rfl ?_
    refine b_gtr rfl rfl ?_
    refine pick_f rfl rfl ?_
    refine o_nil ?_
    refine k_cond rfl (fun h => ?_) (fun h => ?_)
    ·
      refine k_seq ?_
      refine k_region ?_
      refine m_bool rfl rfl ?_
      refine o_nil ?_
      refine k_ret (ret_tmps (ts := [4]) (v := .bool _) rfl rfl ?_)
      exact ⟨rfl, hK1⟩
    refine k_skip ?_
    refine k_seq ?_
    refine k_region ?_
    refine o_bsl (E := 2) (cs := #[]) rfl (fun _ => by kernel_rfl) (fun g2 w2 hB2 hK2 hb2 hZ2 => ?_)
    refine m_sl rfl rfl ?_
    refine o_app0 Tryd.underlying22 inf2 rfl (by decide) rfl rfl hB2 (hW.new (hK1.tr hK2)) (by simp) (iv_one _) (by simp [maxLen]; omega) (by omega) (fun a3 c3 w3 hS3 hK3 hf3 => ?_)
    refine o_bsl (E := 3) (cs := #[]) rfl (fun _ => by kernel_rfl) (fun g4 w4 hB4 hK4 hb4 hZ4 => ?_)
    have hK14 := ((hK1.tr hK2).tr hK3).tr hK4
    refine m_sl rfl rfl ?_
    refine o_app0 Tryd.underlying23 inf3 rfl (by decide) rfl rfl hB4 (hR.new hK14) (by simp) (iv_one _) (by simp [maxLen]; omega) (by omega) (fun a5 c5 w5 hS5 hK5 hf5 => ?_)
    have hK15 := hK14.tr hK5
    have hS3' := hS3.new (hK4.tr hK5)
    refine m_sl rfl rfl ?_
    refine m_sl rfl rfl ?_
    refine o_nil ?_
    refine k_seq ?_
    refine k_region ?_
    refine m_sl rfl rfl ?_
    refine m_sl rfl rfl ?_
    refine o_call rfl rfl (scoll_ok w5 a3 a5 c3 c5 ws rts hS3'.rd hS5.rd hS3.le (sl_cap hS3) (by omega) (by omega) (ht.new hK15)) (fun v w6 hv => ?_)
    obtain ⟨er, xs, rs, a6, c6, b6, d6, rfl, hS6, _, hR6, hL6, hK6, hm6⟩ := coll_is hv
    have hK16 := hK15.tr hK6
    refine m_any rfl rfl ?_
    refine o_extr rfl rfl ?_
    refine o_extr rfl rfl ?_
    refine o_extr rfl rfl ?_
    refine m_sl rfl rfl ?_
    refine m_sl rfl rfl ?_
    refine m_int rfl rfl ?_
    refine o_nil ?_
    refine k_seq ?_
    refine k_region ?_
    refine m_sl rfl rfl ?_
    refine m_sl rfl rfl ?_
    refine o_call rfl rfl (rcoll_ok w6 a ra c rc ws rts (hW.new hK16) (hR.new hK16) (by omega) (by omega) hx) (fun v w7 hv => ?_)
    obtain ⟨er7, xs7, rs7, a7, c7, b7, d7, rfl, hS7, _, hR7, hL7, hK7, hm7⟩ := coll_is hv
    obtain ⟨rfl, rfl, rfl⟩ := hm6.one hm7
    have hK17 := hK16.tr hK7
    refine m_any rfl rfl ?_
    refine o_extr rfl rfl ?_
    refine o_extr rfl rfl ?_
    refine o_extr rfl rfl ?_
    refine m_sl rfl rfl ?_
    refine m_sl rfl rfl ?_
    refine m_int rfl rfl ?_
    refine o_nil ?_
    refine k_seq ?_
    refine k_region ?_
    refine m_int rfl rfl ?_
    refine m_int rfl rfl ?_
    refine b_eql rfl rfl ?_
    refine m_bool rfl rfl ?_
    refine o_true (t := 46) rfl (rfl) ?_
    refine g_yes rfl rfl ?_
    refine m_sl rfl rfl ?_
    refine g_yes rfl rfl ?_
    refine m_sl rfl rfl ?_
    refine g_yes rfl rfl ?_
    refine o_call rfl rfl (samw_ok w7 a6 a7 c6 c7 xs xs (hS6.rd.new hK7) hS7.rd (sl_max hS6) (sl_max hS6)) (fun v w8 hv => ?_)
    obtain ⟨rfl, hK8⟩ := hv
    refine pick_t rfl rfl ?_
    refine m_bool rfl rfl ?_
    refine o_true (t := 51) rfl (rfl) ?_
    refine g_yes rfl rfl ?_
    refine m_sl rfl rfl ?_
    refine g_yes rfl rfl ?_
    refine m_sl rfl rfl ?_
    refine g_yes rfl rfl ?_
    refine o_call rfl rfl (same_ok w8 b6 b7 rs.length rs.length d6 d7 rs rs (hR6.new (hK7.tr hK8)) (hR7.new hK8) rfl rfl hL6) (fun v w9 hv => ?_)
    obtain ⟨rfl, hK9⟩ := hv
    have hK19 := (hK17.tr hK8).tr hK9
    have hK59 := ((hK6.tr hK7).tr hK8).tr hK9
    refine pick_t rfl rfl ?_
    refine m_bool rfl rfl ?_
    refine o_true (t := 56) rfl (rfl) ?_
    refine g_yes rfl rfl ?_
    refine m_sl rfl rfl ?_
    refine g_yes rfl rfl ?_
    refine m_sl rfl rfl ?_
    refine g_yes rfl rfl ?_
    refine o_call rfl rfl (samw_ok w9 a3 a c3 c ws ws (hS3'.rd.new hK59) (hW.new hK19) (by omega) (by omega)) (fun v w10 hv => ?_)
    obtain ⟨rfl, hK10⟩ := hv
    refine pick_t rfl rfl ?_
    refine m_bool rfl rfl ?_
    refine o_true (t := 61) rfl (rfl) ?_
    refine g_yes rfl rfl ?_
    refine m_sl rfl rfl ?_
    refine g_yes rfl rfl ?_
    refine m_sl rfl rfl ?_
    refine g_yes rfl rfl ?_
    refine o_call rfl rfl (same_ok w10 a5 ra rts.length rts.length c5 rc rts rts (hS5.rd.new (hK59.tr hK10)) (hR.new (hK19.tr hK10)) rfl rfl (by omega)) (fun v w11 hv => ?_)
    obtain ⟨rfl, hK11⟩ := hv
    refine pick_t rfl rfl ?_
    refine m_bool rfl rfl ?_
    refine o_nil ?_
    refine k_ret (ret_tmps (ts := [4]) (v := .bool _) rfl rfl ?_)
    exact ⟨congrArg Value.bool (decide_eq_true rfl), (hK19.tr hK10).tr hK11⟩
end Go.Proofs.YtchbidckckmobaaDoor

/- SlideAgain. No condition beyond what each contract names. -/
namespace Go.Proofs.YtchbidckckmobaaDoor
open Go.RowKit E
set_option linter.unusedVariables false
set_option linter.unusedSimpArgs false
set_option maxRecDepth 100000
attribute [local irreducible] ow qw kw kq cw opW Ret
theorem CollIs.no {ws rts xs rs : List Int} {er : Int} (h : CollIs ws rts er xs rs) (he : er ≠ 0) : xs = [] ∧ rs = [] := by
  rcases h with ⟨_, h1, h2, _⟩ | ⟨_, h1, h2, _⟩ | ⟨h0, _⟩
  · exact ⟨h1, h2⟩
  · exact ⟨h1, h2⟩
  · exact absurd h0 he
theorem CollIs.yes {ws rts xs rs : List Int} (h : CollIs ws rts 0 xs rs) : ∃ L LV, SL ws L rts LV ∧ xs = outW ws LV ∧ rs = rts.map (adr ws LV 1) := by
  rcases h with ⟨h0, _⟩ | ⟨h0, _⟩ | ⟨_, L, LV, h1, h2, h3, h4, h5⟩
  · cases h0
  · cases h0
  · exact ⟨L, LV, ⟨h1, h2, h3⟩, h4, h5⟩
theorem again_ok (w : World) (a ra : Option Addr) (c rc : Nat) (ws rts : List Int) (hW : Rd w a (ws.map iv)) (hR : Rd w ra (rts.map iv)) (hc : ws.length ≤ c) (hc9 : c ≤ 9223372036854775807) (ht : TabTz w) :
    Ret Tryd.prog 5 [.slice a ws.length c, .slice ra rts.length rc] w (fun v w' => v = .bool true ∧ Keep [] w w') := by
  refine fn_enter (n := 92) Tryd.func5 rfl rfl (Nat.le_of_ble_eq_true rfl) (fun e => ?_)
  refine k_seq ?_
  refine k_region ?_
  refine m_bool rfl rfl ?_
  refine o_nil ?_
  refine k_seq ?_
  refine k_seq ?_
  refine k_region ?_
  refine o_call rfl rfl (fixed20_ok w ht) (fun v w1 hv => ?_)
  obtain ⟨rfl, hK1⟩ := hv
  refine u_notb rfl ?_
  refine o_nil ?_
  refine k_condf rfl ?_
  refine k_skip ?_
  refine k_seq ?_
  refine k_seq ?_
  refine k_region ?_
  refine m_sl rfl rfl ?_
  refine o_lens Tryd.underlying22 rfl ?_
  refine b_gtr rfl rfl ?_
  refine m_bool rfl rfl ?_
  refine o_split (t := 20) rfl (fun h => ?_) (fun h => ?_)
  ·
    refine g_no rfl rfl rfl ?_
    refine g_no rfl rfl rfl ?_
    refine g_no rfl rfl rfl ?_
    refine pick_t rfl rfl ?_
    refine o_nil ?_
    refine k_condt rfl ?_
    refine k_seq ?_
    refine k_region ?_
    refine m_bool rfl rfl ?_
    refine o_nil ?_
    refine k_ret (ret_tmps (ts := [4]) (v := .bool _) rfl rfl ?_)
    exact ⟨rfl, hK1⟩
  ·
    refine g_yes rfl rfl ?_
    refine m_sl rfl rfl ?_
    refine g_yes rfl rfl ?_
    refine o_lens Tryd.underlying23 rfl ?_
    refine g_yes rfl rfl ?_
    refine b_gtr rfl rfl ?_
    refine pick_f rfl rfl ?_
    refine o_nil ?_
    refine k_cond rfl (fun h => ?_) (fun h => ?_)
    ·
      refine k_seq ?_
      refine k_region ?_
      refine m_bool rfl rfl ?_
      refine o_nil ?_
      refine k_ret (ret_tmps (ts := [4]) (v := .bool _) rfl rfl ?_)
      exact ⟨rfl, hK1⟩
    refine k_skip ?_
    refine k_seq ?_
    refine k_region ?_
    refine m_sl rfl rfl ?_
    refine m_sl rfl rfl ?_
    refine o_call rfl rfl (scoll_ok w1 a ra c rc ws rts (hW.new hK1) (hR.new hK1) hc hc9 (by omega) (by omega) (ht.new hK1)) (fun v w2 hv => ?_)
    obtain ⟨er, xs, rs, a2, c2, b2, d2, rfl, hS2, _, hR2, hL2, hK2, hm2⟩ := coll_is hv
    have hK02 := hK1.tr hK2
    refine m_any rfl rfl ?_
    refine o_extr rfl rfl ?_
    refine o_extr rfl rfl ?_
    refine o_extr rfl rfl ?_
    refine m_sl rfl rfl ?_
    refine m_sl rfl rfl ?_
    refine m_int rfl rfl ?_
    refine o_nil ?_
    refine k_seq ?_
    refine k_seq ?_
    refine k_region ?_
    refine m_int rfl rfl ?_
    refine b_neq rfl rfl ?_
    refine o_nil ?_
    refine k_cond rfl (fun h => ?_) (fun h => ?_)
    ·
      obtain ⟨rfl, rfl⟩ := hm2.no h
      refine k_seq ?_
      refine k_region ?_
      refine m_sl rfl rfl ?_
      refine o_lens Tryd.underlying22 rfl ?_
      refine b_eql rfl rfl ?_
      refine m_bool rfl rfl ?_
      refine o_true (t := 37) rfl (rfl) ?_
      refine g_yes rfl rfl ?_
      refine m_sl rfl rfl ?_
      refine g_yes rfl rfl ?_
      refine o_lens Tryd.underlying23 rfl ?_
      refine g_yes rfl rfl ?_
      refine b_eql rfl rfl ?_
      refine pick_t rfl rfl ?_
      refine m_bool rfl rfl ?_
      refine o_nil ?_
      refine k_ret (ret_tmps (ts := [4]) (v := .bool _) rfl rfl ?_)
      exact ⟨rfl, hK02⟩
    obtain rfl : er = 0 := Decidable.of_not_not h
    obtain ⟨L, LV, hSL, hxs, hrs⟩ := hm2.yes
    have hle := hSL.le
    rw [← hxs] at hle
    have hrl : rs.length = rts.length := by rw [hrs, List.length_map]
    have hbl := hSL.blocks
    have hmk := hSL.mark
    have hcl := hSL.coll
    rw [← hrs, ← hxs] at hmk hcl
    rw [← hxs] at hbl
    obtain ⟨L', hL'⟩ : ∃ L', LV.map (adr ws LV 1) = L' := ⟨_, rfl⟩
    rw [hL'] at hbl hmk
    refine k_skip ?_
    refine k_seq ?_
    refine k_region ?_
    refine m_sl rfl rfl ?_
    refine o_call rfl rfl (blocks_ok w2 a2 xs.length c2 xs hS2.rd rfl (by omega)) (fun v w3 hv => ?_)
    obtain ⟨e3, a3, n3, c3, rfl, hbc⟩ := blk_cases hv
    obtain ⟨rfl, L3, hb3, rfl, hS3, hK3, _⟩ := hbc.resolve_left (fun hh => by have := hh.2.1; rw [hbl] at this; cases this)
    obtain rfl : L3 = L' := Option.some.inj (hb3.symm.trans hbl)
    refine m_any rfl rfl ?_
    refine o_extr rfl rfl ?_
    refine o_extr rfl rfl ?_
    refine m_sl rfl rfl ?_
    refine m_int rfl rfl ?_
    refine o_nil ?_
    refine k_seq ?_
    refine k_region ?_
    refine m_sl rfl rfl ?_
    refine m_sl rfl rfl ?_
    refine o_call rfl rfl (smark_ok w3 a2 b2 c2 d2 xs rs (hS2.rd.new hK3) (hR2.new hK3) (by omega) (by omega) (ht.new (hK02.tr hK3))) (fun v w4 hv => ?_)
    obtain ⟨e4, LV4, a4, c4, rfl, hR4, hL4, hK4, hm4⟩ := mark_is hv
    obtain ⟨rfl, rfl⟩ := hm4.one hmk
    have hK24 := hK3.tr hK4
    refine m_any rfl rfl ?_
    refine o_extr rfl rfl ?_
    refine o_extr rfl rfl ?_
    refine m_sl rfl rfl ?_
    refine m_int rfl rfl ?_
    refine o_nil ?_
    refine k_seq ?_
    refine k_region ?_
    refine m_sl rfl rfl ?_
    refine m_sl rfl rfl ?_
    refine o_call rfl rfl (scoll_ok w4 a2 b2 c2 d2 xs rs (hS2.rd.new hK24) (hR2.new hK24) hS2.le (sl_cap hS2) (by omega) (by omega) (ht.new (hK02.tr hK24))) (fun v w5 hv => ?_)
    obtain ⟨e5, xs5, rs5, a5, c5, b5, d5, rfl, hS5, _, hR5, hL5, hK5, hm5⟩ := coll_is hv
    obtain ⟨rfl, rfl, rfl⟩ := hm5.one hcl
    have hK25 := hK24.tr hK5
    refine m_any rfl rfl ?_
    refine o_extr rfl rfl ?_
    refine o_extr rfl rfl ?_
    refine o_extr rfl rfl ?_
    refine m_sl rfl rfl ?_
    refine m_sl rfl rfl ?_
    refine m_int rfl rfl ?_
    refine o_nil ?_
    refine k_seq ?_
    refine k_region ?_
    refine m_int rfl rfl ?_
    refine b_eql rfl rfl ?_
    refine m_bool rfl rfl ?_
    refine o_true (t := 62) rfl (rfl) ?_
    refine g_yes rfl rfl ?_
    refine m_int rfl rfl ?_
    refine g_yes rfl rfl ?_
    refine b_eql rfl rfl ?_
    refine pick_t rfl rfl ?_
    refine m_bool rfl rfl ?_
    refine o_true (t := 66) rfl (rfl) ?_
    refine g_yes rfl rfl ?_
    refine m_int rfl rfl ?_
    refine g_yes rfl rfl ?_
    refine b_eql rfl rfl ?_
    refine pick_t rfl rfl ?_
    refine m_bool rfl rfl ?_
    refine o_true (t := 70) rfl (rfl) ?_
    refine g_yes rfl rfl ?_
    refine m_sl rfl rfl ?_
    refine g_yes rfl rfl ?_
    refine o_lens Tryd.underlying22 rfl ?_
    refine g_yes rfl rfl ?_
    refine m_sl rfl rfl ?_
    refine g_yes rfl rfl ?_
    refine o_lens Tryd.underlying22 rfl ?_
    refine g_yes rfl rfl ?_
    refine b_leq rfl rfl ?_
    refine pick_t rfl rfl ?_
    refine m_bool rfl rfl ?_
    refine o_true (t := 77) rfl ((by omega)) ?_
    refine g_yes rfl rfl ?_
    refine m_sl rfl rfl ?_
    refine g_yes rfl rfl ?_
    refine m_sl rfl rfl ?_
    refine g_yes rfl rfl ?_
    refine o_call rfl rfl (same_ok w5 a3 a4 LV4.length LV4.length c3 c4 LV4 LV4 (hS3.rd.new (hK4.tr hK5)) (hR4.new hK5) rfl rfl hL4) (fun v w6 hv => ?_)
    obtain ⟨rfl, hK6⟩ := hv
    refine pick_t rfl rfl ?_
    refine m_bool rfl rfl ?_
    refine o_true (t := 82) rfl (rfl) ?_
    refine g_yes rfl rfl ?_
    refine m_sl rfl rfl ?_
    refine g_yes rfl rfl ?_
    refine m_sl rfl rfl ?_
    refine g_yes rfl rfl ?_
    refine o_call rfl rfl (samw_ok w6 a2 a5 c2 c5 xs5 xs5 (hS2.rd.new (hK25.tr hK6)) (hS5.rd.new hK6) (sl_max hS2) (sl_max hS2)) (fun v w7 hv => ?_)
    obtain ⟨rfl, hK7⟩ := hv
    refine pick_t rfl rfl ?_
    refine m_bool rfl rfl ?_
    refine o_true (t := 87) rfl (rfl) ?_
    refine g_yes rfl rfl ?_
    refine m_sl rfl rfl ?_
    refine g_yes rfl rfl ?_
    refine m_sl rfl rfl ?_
    refine g_yes rfl rfl ?_
    refine o_call rfl rfl (same_ok w7 b2 b5 rs5.length rs5.length d2 d5 rs5 rs5 (hR2.new ((hK25.tr hK6).tr hK7)) (hR5.new (hK6.tr hK7)) rfl rfl hL2) (fun v w8 hv => ?_)
    obtain ⟨rfl, hK8⟩ := hv
    refine pick_t rfl rfl ?_
    refine m_bool rfl rfl ?_
    refine o_nil ?_
    refine k_ret (ret_tmps (ts := [4]) (v := .bool _) rfl rfl ?_)
    exact ⟨congrArg Value.bool (decide_eq_true rfl), ((hK02.tr hK25).tr (hK6.tr hK7)).tr hK8⟩
end Go.Proofs.YtchbidckckmobaaDoor

/- SlideReads. No condition beyond what each contract names. -/
namespace Go.Proofs.YtchbidckckmobaaDoor
open Go.RowKit E
set_option linter.unusedVariables false
set_option linter.unusedSimpArgs false
set_option maxRecDepth 100000
attribute [local irreducible] ow qw kw kq cw opW Ret
theorem q_true {P : Program} {n : Cx} {e : Env} {l0 l : List Oper} {C : World → Prop} {K : Env → Prop} {t : Nat} {p : Prop} [Decidable p] (h : e t = .bool (decide p)) (hp : p) (ht : qw P n l0 C K l (upd e t (.bool true))) : qw P n l0 C K l e := by
  rwa [upd_self (by rw [h]; simp [hp])] at ht
theorem q_false {P : Program} {n : Cx} {e : Env} {l0 l : List Oper} {C : World → Prop} {K : Env → Prop} {t : Nat} {p : Prop} [Decidable p] (h : e t = .bool (decide p)) (hp : ¬ p) (ht : qw P n l0 C K l (upd e t (.bool false))) : qw P n l0 C K l e := by
  rwa [upd_self (by rw [h]; simp [hp])] at ht
theorem in_ok (w : World) (a : Option Addr) (c : Nat) (l : List Int) (x : Int) (hR : Rd w a (l.map iv)) (hl : l.length ≤ 1000000000) :
    Ret Tryd.prog 26 [.slice a l.length c, .int .i64 x] w (fun v w' => v = .bool (decide (x ∈ l)) ∧ w' = w) := by
  refine fn_enter (n := 17) Tryd.func26 rfl rfl (Nat.le_of_ble_eq_true rfl) (fun e => ?_)
  refine k_seq ?_
  refine k_region ?_
  refine m_bool rfl rfl ?_
  refine o_nil ?_
  refine k_seq ?_
  refine k_seq ?_
  refine k_region ?_
  refine m_sl rfl rfl ?_
  refine o_lens Tryd.underlying23 rfl ?_
  refine m_int rfl rfl ?_
  refine o_nil ?_
  refine k_block ?_
  refine k_loop (σ := Nat) (fun s => [(1, .int .i64 x), (7, .slice a l.length c), (8, .int .i64 (l.length : Int)), (9, .int .i64 (s : Int))]) (fun s w' => s ≤ l.length ∧ x ∉ l.take s ∧ w' = w) (fun s => l.length - s) 0 ⟨rfl, rfl, rfl, rfl, trivial⟩ ⟨by omega, by simp, rfl⟩ (fun i e w3 hJ => ?_)
  obtain ⟨hi, hni, rfl⟩ := hJ
  refine k_seq ?_
  refine k_region ?_
  refine b_lss rfl rfl ?_
  refine o_nil ?_
  refine k_seq ?_
  refine k_cond rfl (fun h => ?_) (fun h => ?_)
  rotate_left
  ·
    refine k_exit rfl ?_
    refine k_seq ?_
    refine k_region ?_
    refine m_bool rfl rfl ?_
    refine o_nil ?_
    refine k_ret (ret_tmps (ts := [4]) (v := .bool _) rfl rfl ?_)
    rw [List.take_of_length_le (by omega)] at hni
    exact ⟨congrArg Value.bool (decide_eq_false hni).symm, rfl⟩
  have hin : i < l.length := by omega
  obtain ⟨b, o, hae, hc⟩ := hR _ _ (iv_at l i hin)
  subst hae
  refine k_skip ?_
  refine k_seq ?_
  refine k_block ?_
  refine k_seq ?_
  refine k_region ?_
  refine o_ixs1 (m := i) Tryd.underlying23 rfl rfl rfl hin ?_
  refine o_ld (v := iv l[i]) rfl rfl hc ?_
  refine m_int rfl rfl ?_
  refine o_nil ?_
  refine k_seq ?_
  refine k_region ?_
  refine m_int rfl rfl ?_
  refine m_int rfl rfl ?_
  refine b_eql rfl rfl ?_
  refine o_nil ?_
  refine k_cond rfl (fun h => ?_) (fun h => ?_)
  ·
    refine k_seq ?_
    refine k_region ?_
    refine m_bool rfl rfl ?_
    refine o_nil ?_
    refine k_ret (ret_tmps (ts := [4]) (v := .bool _) rfl rfl ?_)
    exact ⟨congrArg Value.bool (decide_eq_true (by have h' : l[i] = x := h; rw [← h']; exact List.getElem_mem _)).symm, rfl⟩
  refine k_skip ?_
  refine k_blk ?_
  refine k_region ?_
  refine n_add rfl rfl (by omega) ?_
  refine m_int rfl rfl ?_
  refine o_nil ?_
  refine k_goal ⟨i + 1, ⟨rfl, rfl, rfl, rfl, trivial⟩, ⟨hin, ?_, rfl⟩, by omega⟩
  rw [take_snoc l i hin]
  have h' : ¬ l[i] = x := h
  simp only [List.mem_append, List.mem_singleton, not_or]
  exact ⟨hni, fun hh => h' hh.symm⟩
theorem mem_off (z : Int) (T : List Int) (j : Int) : z + j ∈ T.map (z + ·) ↔ j ∈ T := by
  rw [List.mem_map]
  exact ⟨fun ⟨t, ht, he⟩ => by rwa [show t = j by omega] at ht, fun ht => ⟨_, ht, rfl⟩⟩
theorem getD_cell {w w' : World} {ba oo : Nat} {ws : List Int} (hW : Rd w (some ⟨ba, oo, none⟩) (ws.map iv)) (j : Nat) (hj : j < ws.length) (hk : Keep [] w w') : w'.cell? ⟨ba, oo + j, none⟩ = some (iv (ws.getD j 0)) := by
  rw [getD_get ws j hj]
  exact hW.cellK hk (iv_at ws j hj)
theorem off_at {T : List Int} (z : Int) {j : Nat} (hj : j < T.length) : ((T.map (z + ·)).map iv)[j]? = some (iv (z + T[j])) := by
  simp [hj]
set_option maxHeartbeats 2000000 in
theorem reads_ok (w : World) (a ra wa : Option Addr) (c rc wc : Nat) (ws rts : List Int) (way : List (BitVec 8)) (hW : Rd w a (ws.map iv)) (hR : Rd w ra (rts.map iv)) (hY : Rd w wa (way.map u8v)) (hc : ws.length ≤ c) (hc9 : c ≤ 9223372036854775807) (ht : TabTz w) :
    Ret Tryd.prog 6 [.slice a ws.length c, .slice ra rts.length rc, .slice wa way.length wc] w (fun v w' => v = .bool true ∧ Keep [] w w') := by
  refine fn_enter (n := 200) Tryd.func6 rfl rfl (Nat.le_of_ble_eq_true rfl) (fun e => ?_)
  refine k_seq ?_
  refine k_region ?_
  refine m_bool rfl rfl ?_
  refine o_nil ?_
  refine k_seq ?_
  refine k_seq ?_
  refine k_region ?_
  refine o_call rfl rfl (fixed20_ok w ht) (fun v w1 hv => ?_)
  obtain ⟨rfl, hK1⟩ := hv
  refine u_notb rfl ?_
  refine o_nil ?_
  refine k_condf rfl ?_
  refine k_skip ?_
  refine k_seq ?_
  refine k_seq ?_
  refine k_region ?_
  refine m_sl rfl rfl ?_
  refine o_lens Tryd.underlying22 rfl ?_
  refine b_gtr rfl rfl ?_
  refine m_bool rfl rfl ?_
  refine o_split (t := 28) rfl (fun h => ?_) (fun h => ?_)
  ·
    refine g_no rfl rfl rfl ?_
    refine g_no rfl rfl rfl ?_
    refine g_no rfl rfl rfl ?_
    refine pick_t rfl rfl ?_
    refine m_bool rfl rfl ?_
    refine g_no rfl rfl rfl ?_
    refine g_no rfl rfl rfl ?_
    refine g_no rfl rfl rfl ?_
    refine pick_t rfl rfl ?_
    refine o_nil ?_
    refine k_condt rfl ?_
    refine k_seq ?_
    refine k_region ?_
    refine m_bool rfl rfl ?_
    refine o_nil ?_
    refine k_ret (ret_tmps (ts := [6]) (v := .bool _) rfl rfl ?_)
    exact ⟨rfl, hK1⟩
  ·
    refine g_yes rfl rfl ?_
    refine m_sl rfl rfl ?_
    refine g_yes rfl rfl ?_
    refine o_lens Tryd.underlying23 rfl ?_
    refine g_yes rfl rfl ?_
    refine b_gtr rfl rfl ?_
    refine pick_f rfl rfl ?_
    refine m_bool rfl rfl ?_
    refine o_split (t := 33) rfl (fun h => ?_) (fun h => ?_)
    ·
      refine g_no rfl rfl rfl ?_
      refine g_no rfl rfl rfl ?_
      refine g_no rfl rfl rfl ?_
      refine pick_t rfl rfl ?_
      refine o_nil ?_
      refine k_condt rfl ?_
      refine k_seq ?_
      refine k_region ?_
      refine m_bool rfl rfl ?_
      refine o_nil ?_
      refine k_ret (ret_tmps (ts := [6]) (v := .bool _) rfl rfl ?_)
      exact ⟨rfl, hK1⟩
    ·
      refine g_yes rfl rfl ?_
      refine m_sl rfl rfl ?_
      refine g_yes rfl rfl ?_
      refine o_lens Tryd.underlying34 rfl ?_
      refine g_yes rfl rfl ?_
      refine b_gtr rfl rfl ?_
      refine pick_f rfl rfl ?_
      refine o_nil ?_
      refine k_cond rfl (fun h => ?_) (fun h => ?_)
      ·
        refine k_seq ?_
        refine k_region ?_
        refine m_bool rfl rfl ?_
        refine o_nil ?_
        refine k_ret (ret_tmps (ts := [6]) (v := .bool _) rfl rfl ?_)
        exact ⟨rfl, hK1⟩
      refine k_skip ?_
      refine k_seq ?_
      refine k_region ?_
      refine m_sl rfl rfl ?_
      refine m_sl rfl rfl ?_
      refine o_call rfl rfl (scoll_ok w1 a ra c rc ws rts (hW.new hK1) (hR.new hK1) hc hc9 (by omega) (by omega) (ht.new hK1)) (fun v w2 hv => ?_)
      obtain ⟨er, xs, rs, a2, c2, b2, d2, rfl, hS2, _, hR2, hL2, hK2, hm2⟩ := coll_is hv
      have hK02 := hK1.tr hK2
      refine m_any rfl rfl ?_
      refine o_extr rfl rfl ?_
      refine o_extr rfl rfl ?_
      refine o_extr rfl rfl ?_
      refine m_sl rfl rfl ?_
      refine m_sl rfl rfl ?_
      refine m_int rfl rfl ?_
      refine o_nil ?_
      refine k_seq ?_
      refine k_seq ?_
      refine k_region ?_
      refine m_int rfl rfl ?_
      refine b_neq rfl rfl ?_
      refine o_nil ?_
      refine k_cond rfl (fun h => ?_) (fun h => ?_)
      ·
        refine k_seq ?_
        refine k_region ?_
        refine m_bool rfl rfl ?_
        refine o_nil ?_
        refine k_ret (ret_tmps (ts := [6]) (v := .bool _) rfl rfl ?_)
        exact ⟨rfl, hK02⟩
      obtain rfl : er = 0 := Decidable.of_not_not h
      obtain ⟨L, LV, hSL, hxs, hrs⟩ := hm2.yes
      have hle := hSL.le
      rw [← hxs] at hle
      have hrl : rs.length = rts.length := by rw [hrs, List.length_map]
      refine k_skip ?_
      refine k_seq ?_
      refine k_seq ?_
      refine k_region ?_
      refine m_sl rfl rfl ?_
      refine o_lens Tryd.underlying23 rfl ?_
      refine m_sl rfl rfl ?_
      refine o_lens Tryd.underlying23 rfl ?_
      refine b_neq rfl rfl ?_
      refine o_nil ?_
      refine k_no rfl ((by omega)) ?_
      refine k_skip ?_
      refine k_seq ?_
      refine k_seq ?_
      refine k_region ?_
      have hx0 : 0 < xs.length := by rw [hxs]; exact hSL.len0
      obtain ⟨gx, _, hae, _⟩ := hS2.blk hx0
      subst hae
      refine m_sl rfl rfl ?_
      refine o_lens Tryd.underlying23 rfl ?_
      refine m_int rfl rfl ?_
      refine o_nil ?_
      refine k_block ?_
      refine k_loop (σ := Nat) (fun s => [(0, .slice a ws.length c), (1, .slice ra rts.length rc), (2, .slice wa way.length wc), (7, .slice (some ⟨gx, 0, none⟩) xs.length c2), (8, .slice b2 rs.length d2), (53, .int .i64 (rts.length : Int)), (54, .int .i64 (s : Int))]) (fun s w' => s ≤ rts.length ∧ Keep [] w2 w') (fun s => rts.length - s) 0 ⟨rfl, rfl, rfl, rfl, rfl, rfl, rfl, trivial⟩ ⟨by omega, Keep.refl _ _⟩ (fun i e w3 hJ => ?_)
      obtain ⟨hi, hk3⟩ := hJ
      refine k_seq ?_
      refine k_region ?_
      refine b_lss rfl rfl ?_
      refine o_nil ?_
      refine k_seq ?_
      refine k_cond rfl (fun h => ?_) (fun h => ?_)
      rotate_left
      ·
        refine k_exit rfl ?_
        refine k_seq ?_
        refine k_region ?_
        refine m_bool rfl rfl ?_
        refine o_nil ?_
        refine k_ret (ret_tmps (ts := [6]) (v := .bool _) rfl rfl ?_)
        exact ⟨rfl, hK02.tr hk3⟩
      have hin : i < rts.length := by omega
      obtain ⟨br, orr, hae, _⟩ := hR _ _ (iv_at rts i hin)
      subst hae
      obtain ⟨bs, os, hae, _⟩ := hR2 _ _ (iv_at rs i (by omega))
      subst hae
      have hK03 := hK02.tr hk3
      refine k_skip ?_
      refine k_seq ?_
      refine k_block ?_
      refine k_seq ?_
      refine k_region ?_
      refine m_int rfl rfl ?_
      refine m_int rfl rfl ?_
      refine o_nil ?_
      refine k_seq ?_
      refine k_qk 9 rfl rfl rfl rfl rfl ?_
      refine q_step (fun w1 hC => m_sl rfl rfl (o_nil ⟨rfl, hC⟩)) ?_
      refine q_step (fun w1 hC => m_int rfl rfl (o_nil ⟨rfl, hC⟩)) ?_
      refine q_step (fun w1 hC => o_ixs1 (m := i) Tryd.underlying23 rfl rfl rfl hin (o_nil ⟨rfl, hC⟩)) ?_
      refine q_step (fun w1 hC => o_ld (v := iv rts[i]) rfl rfl (hR.cellK (hK03.tr hC) (iv_at rts i hin)) (o_nil ⟨rfl, hC⟩)) ?_
      refine q_step (fun w1 hC => m_sl rfl rfl (o_nil ⟨rfl, hC⟩)) ?_
      refine q_step (fun w1 hC => m_int rfl rfl (o_nil ⟨rfl, hC⟩)) ?_
      refine q_step (fun w1 hC => o_ixs1 (m := i) Tryd.underlying23 rfl rfl rfl (by omega) (o_nil ⟨rfl, hC⟩)) ?_
      refine q_step (fun w1 hC => o_ld (v := iv (rs[i]'(by omega))) rfl rfl (hR2.cellK (hk3.tr hC) (iv_at rs i (by omega))) (o_nil ⟨rfl, hC⟩)) ?_
      refine q_step (fun w1 hC => m_int rfl rfl (o_nil ⟨rfl, hC⟩)) ?_
      refine q_nil ?_
      intro w4 hC4
      have hk4 := hk3.tr hC4
      refine m_int rfl rfl ?_
      refine o_nil ?_
      refine k_seq ?_
      refine k_region ?_
      refine m_int rfl rfl ?_
      refine o_nil ?_
      refine k_block ?_
      refine k_loop (σ := Nat × Int × Int) (fun s => [(0, .slice a ws.length c), (1, .slice (some ⟨br, orr, none⟩) rts.length rc), (2, .slice wa way.length wc), (7, .slice (some ⟨gx, 0, none⟩) xs.length c2), (8, .slice (some ⟨bs, os, none⟩) rs.length d2), (11, .int .i64 s.2.1), (12, .int .i64 s.2.2), (13, .int .i64 (s.1 : Int)), (53, .int .i64 (rts.length : Int)), (54, .int .i64 (i : Int))]) (fun s w' => s.1 ≤ way.length ∧ (s.2.1 = 0 ∨ s.2.1 ∈ LV) ∧ s.2.2 = adr ws LV 1 s.2.1 ∧ Keep [] w2 w') (fun s => way.length + 1 - s.1) (0, rts[i], rs[i]'(by omega)) ⟨rfl, rfl, rfl, rfl, rfl, rfl, rfl, rfl, rfl, rfl, trivial⟩ ⟨Nat.zero_le _, hSL.root (List.getElem_mem hin), by simp [hrs], hk4⟩ (fun s e w5 hJ => ?_)
      obtain ⟨q, x, y⟩ := s
      obtain ⟨hq, hx, hy, hk5⟩ := hJ
      simp only at hq hx hy ⊢
      refine k_seq ?_
      refine k_seq ?_
      refine k_region ?_
      refine m_int rfl rfl ?_
      refine m_sl rfl rfl ?_
      refine o_lens Tryd.underlying34 rfl ?_
      refine b_leq rfl rfl ?_
      refine o_nil ?_
      refine k_cond rfl (fun h => ?_) (fun h => ?_)
      rotate_left
      ·
        refine k_exit rfl ?_
        refine k_blk ?_
        refine k_region ?_
        refine n_add rfl rfl (by omega) ?_
        refine m_int rfl rfl ?_
        refine o_nil ?_
        refine k_goal ⟨i + 1, ⟨rfl, rfl, rfl, rfl, rfl, rfl, rfl, trivial⟩, ⟨hin, hk5⟩, by omega⟩
      refine k_skip ?_
      refine k_seq ?_
      refine k_block ?_
      refine k_seq ?_
      refine k_seq ?_
      refine k_region ?_
      refine m_int rfl rfl ?_
      refine b_eql rfl rfl ?_
      refine m_bool rfl rfl ?_
      refine o_split (t := 73) rfl (fun h => ?_) (fun h => ?_)
      ·
        refine g_no rfl rfl rfl ?_
        refine g_no rfl rfl rfl ?_
        refine pick_t rfl rfl ?_
        refine o_nil ?_
        refine k_condt rfl ?_
        refine k_seq ?_
        refine k_seq ?_
        refine k_region ?_
        refine m_int rfl rfl ?_
        refine m_int rfl rfl ?_
        refine b_neq rfl rfl ?_
        refine o_nil ?_
        refine k_no rfl ((fun h' => h' (by have h0 : x = 0 := h; rw [hy, h0, hSL.zero]))) ?_
        refine k_skip ?_
        refine k_exit rfl ?_
        refine k_blk ?_
        refine k_region ?_
        refine n_add rfl rfl (by omega) ?_
        refine m_int rfl rfl ?_
        refine o_nil ?_
        refine k_goal ⟨i + 1, ⟨rfl, rfl, rfl, rfl, rfl, rfl, rfl, trivial⟩, ⟨hin, hk5⟩, by omega⟩
      ·
        have hxl := hx.resolve_left h
        have hyr := hSL.rng hxl
        rw [← hy] at hyr
        refine g_yes rfl rfl ?_
        refine m_int rfl rfl ?_
        refine g_yes rfl rfl ?_
        refine b_eql rfl rfl ?_
        refine pick_f rfl rfl ?_
        refine o_nil ?_
        refine k_no rfl ((by omega)) ?_
        refine k_skip ?_
        refine k_seq ?_
        refine k_region ?_
        obtain ⟨k, p, m, T, hN, hsz⟩ := hSL.of hxl
        rw [← hxs] at hN
        have hxk := hN.yk
        have hyp := hy.trans hN.ap
        subst hxk hyp
        have hkw := hN.kw
        have hpw := hN.pw
        have hp1 := hN.p1
        have hm9 := hN.m9
        obtain ⟨ba, oo, hae, _⟩ := hW _ _ (iv_at ws k (by omega))
        subst hae
        have hK05 := hK02.tr hk5
        refine m_sl rfl rfl ?_
        refine m_int rfl rfl ?_
        refine o_ixs1 (m := k) Tryd.underlying22 rfl rfl rfl (by omega) ?_
        refine o_ld (v := iv (ws.getD k 0)) rfl rfl (getD_cell hW k (by omega) hK05) ?_
        refine o_call rfl rfl (open_ok w5 (ws.getD k 0)) (fun v w6 hv => ?_)
        obtain ⟨rfl, rfl⟩ := hv
        rw [hN.er, hN.nn]
        refine m_any rfl rfl ?_
        refine o_extr rfl rfl ?_
        refine o_extr rfl rfl ?_
        refine o_extr rfl rfl ?_
        refine o_extr rfl rfl ?_
        refine o_extr rfl rfl ?_
        refine m_int rfl rfl ?_
        refine m_int rfl rfl ?_
        refine m_int rfl rfl ?_
        refine m_int rfl rfl ?_
        refine m_int rfl rfl ?_
        refine o_nil ?_
        refine k_seq ?_
        refine k_seq ?_
        refine k_qk 30 rfl rfl rfl rfl rfl ?_
        refine q_step (fun w1 hC => m_int rfl rfl (o_nil ⟨rfl, hC⟩)) ?_
        refine q_step (fun w1 hC => b_neq rfl rfl (o_nil ⟨rfl, hC⟩)) ?_
        refine q_step (fun w1 hC => m_bool rfl rfl (o_nil ⟨rfl, hC⟩)) ?_
        refine q_false (t := 93) rfl ((fun h' => h' rfl)) ?_
        refine q_step (fun w1 hC => g_yes rfl rfl (m_int rfl rfl (o_nil ⟨rfl, hC⟩))) ?_
        refine q_step (fun w1 hC => g_yes rfl rfl (b_lss rfl rfl (o_nil ⟨rfl, hC⟩))) ?_
        refine q_step (fun w1 hC => pick_f rfl rfl (o_nil ⟨rfl, hC⟩)) ?_
        refine q_step (fun w1 hC => m_bool rfl rfl (o_nil ⟨rfl, hC⟩)) ?_
        refine q_false (t := 97) rfl ((by omega)) ?_
        refine q_step (fun w1 hC => g_yes rfl rfl (m_int rfl rfl (o_nil ⟨rfl, hC⟩))) ?_
        refine q_step (fun w1 hC => g_yes rfl rfl (m_sl rfl rfl (o_nil ⟨rfl, hC⟩))) ?_
        refine q_step (fun w1 hC => g_yes rfl rfl (o_lens Tryd.underlying22 rfl (o_nil ⟨rfl, hC⟩))) ?_
        refine q_step (fun w1 hC => g_yes rfl rfl (b_geq rfl rfl (o_nil ⟨rfl, hC⟩))) ?_
        refine q_step (fun w1 hC => pick_f rfl rfl (o_nil ⟨rfl, hC⟩)) ?_
        refine q_step (fun w1 hC => m_bool rfl rfl (o_nil ⟨rfl, hC⟩)) ?_
        refine q_false (t := 103) rfl ((by omega)) ?_
        refine q_step (fun w1 hC => g_yes rfl rfl (m_sl rfl rfl (o_nil ⟨rfl, hC⟩))) ?_
        refine q_step (fun w1 hC => g_yes rfl rfl (m_int rfl rfl (o_nil ⟨rfl, hC⟩))) ?_
        refine q_step (fun w1 hC => g_yes rfl rfl (o_ixs1 (m := k) Tryd.underlying22 rfl rfl rfl (by omega) (o_nil ⟨rfl, hC⟩))) ?_
        refine q_step (fun w1 hC => g_yes rfl rfl (o_ld (v := iv (ws.getD k 0)) rfl rfl (getD_cell hW k (by omega) (hK05.tr hC)) (o_nil ⟨rfl, hC⟩))) ?_
        refine q_step (fun w1 hC => g_yes rfl rfl (m_sl rfl rfl (o_nil ⟨rfl, hC⟩))) ?_
        refine q_step (fun w1 hC => g_yes rfl rfl (m_int rfl rfl (o_nil ⟨rfl, hC⟩))) ?_
        refine q_step (fun w1 hC => g_yes rfl rfl (o_ixs1 (m := p) Tryd.underlying22 rfl rfl rfl (by omega) (o_nil ⟨rfl, hC⟩))) ?_
        refine q_step (fun w1 hC => g_yes rfl rfl (o_ld (v := iv (xs.getD p 0)) rfl rfl (getD_cell hS2.rd p (by omega) (hk5.tr hC)) (o_nil ⟨rfl, hC⟩))) ?_
        refine q_step (fun w1 hC => g_yes rfl rfl (b_neq rfl rfl (o_nil ⟨rfl, hC⟩))) ?_
        refine q_step (fun w1 hC => pick_f rfl rfl (o_nil ⟨rfl, hC⟩)) ?_
        refine q_step (fun w1 hC => m_bool rfl rfl (o_nil ⟨rfl, hC⟩)) ?_
        refine q_false (t := 114) rfl ((fun h' => h' hN.hd.symm)) ?_
        refine q_step (fun w1 hC => g_yes rfl rfl (m_int rfl rfl (o_nil ⟨rfl, hC⟩))) ?_
        refine q_step (fun w1 hC => g_yes rfl rfl (m_sl rfl rfl (o_nil ⟨rfl, hC⟩))) ?_
        refine q_step (fun w1 hC => g_yes rfl rfl (o_lens Tryd.underlying22 rfl (o_nil ⟨rfl, hC⟩))) ?_
        refine q_step (fun w1 hC => g_yes rfl rfl (m_int rfl rfl (o_nil ⟨rfl, hC⟩))) ?_
        refine q_step (fun w1 hC => g_yes rfl rfl (n_sub rfl rfl (by omega) (o_nil ⟨rfl, hC⟩))) ?_
        refine q_step (fun w1 hC => g_yes rfl rfl (n_sub rfl rfl (by omega) (o_nil ⟨rfl, hC⟩))) ?_
        refine q_nil ?_
        intro w7 hC7
        have hk7 := hk5.tr hC7
        refine g_yes rfl rfl ?_
        refine b_gtr rfl rfl ?_
        refine pick_f rfl rfl ?_
        refine o_nil ?_
        refine k_no rfl ((by omega)) ?_
        refine k_skip ?_
        refine k_seq ?_
        refine k_region ?_
        refine m_sl rfl rfl ?_
        refine m_int rfl rfl ?_
        refine o_call rfl rfl (refs_ok w7 (some ⟨ba, oo, none⟩) ws.length c ws (k : Int) (hW.new (hK02.tr hk7)) rfl (by omega)) (fun v w8 hv => ?_)
        rw [hN.rk] at hv
        obtain ⟨a8, c8, rfl, hS8, hK8, _⟩ := hv
        have hk8 := hk7.tr hK8
        refine m_sl rfl rfl ?_
        refine m_int rfl rfl ?_
        refine o_call rfl rfl (refs_ok w8 (some ⟨gx, 0, none⟩) xs.length c2 xs (p : Int) (hS2.rd.new hk8) rfl (by omega)) (fun v w9 hv => ?_)
        rw [hN.rp] at hv
        obtain ⟨a9, c9, rfl, hS9, hK9, _⟩ := hv
        have hk9 := hk8.tr hK9
        have hTm : T.length ≤ 1000000 := by
          have h1 := congrArg List.length hN.rk
          have h2 := refs_len ws (k : Int)
          rw [List.length_map] at h1
          omega
        refine m_sl rfl rfl ?_
        refine m_sl rfl rfl ?_
        refine o_nil ?_
        refine k_seq ?_
        refine k_seq ?_
        refine k_region ?_
        refine m_int rfl rfl ?_
        refine o_nil ?_
        refine k_block ?_
        refine k_loop (σ := Nat) (fun s => [(0, .slice (some ⟨ba, oo, none⟩) ws.length c), (1, .slice (some ⟨br, orr, none⟩) rts.length rc), (2, .slice wa way.length wc), (7, .slice (some ⟨gx, 0, none⟩) xs.length c2), (8, .slice (some ⟨bs, os, none⟩) rs.length d2), (11, .int .i64 (k : Int)), (12, .int .i64 (p : Int)), (13, .int .i64 (q : Int)), (16, .int .i64 (m : Int)), (19, .slice a8 (T.map ((k : Int) + ·)).length c8), (20, .slice a9 (T.map ((p : Int) + ·)).length c9), (21, .int .i64 (s : Int)), (53, .int .i64 (rts.length : Int)), (54, .int .i64 (i : Int))]) (fun s w' => 1 ≤ s ∧ s ≤ m + 1 ∧ Keep [] w9 w') (fun s => m + 1 - s) 1 ⟨rfl, rfl, rfl, rfl, rfl, rfl, rfl, rfl, rfl, rfl, rfl, rfl, rfl, rfl, trivial⟩ ⟨by omega, by omega, Keep.refl _ _⟩ (fun d e w10 hJ => ?_)
        obtain ⟨hd1, hd2, hk10⟩ := hJ
        have hk210 := hk9.tr hk10
        refine k_seq ?_
        refine k_seq ?_
        refine k_region ?_
        refine m_int rfl rfl ?_
        refine m_int rfl rfl ?_
        refine b_leq rfl rfl ?_
        refine o_nil ?_
        refine k_cond rfl (fun h => ?_) (fun h => ?_)
        rotate_left
        ·
          refine k_exit rfl ?_
          refine k_seq ?_
          refine k_seq ?_
          refine k_region ?_
          refine m_int rfl rfl ?_
          refine m_sl rfl rfl ?_
          refine o_lens Tryd.underlying34 rfl ?_
          refine b_eql rfl rfl ?_
          refine m_bool rfl rfl ?_
          refine o_split (t := 172) rfl (fun h => ?_) (fun h => ?_)
          ·
            refine g_no rfl rfl rfl ?_
            refine g_no rfl rfl rfl ?_
            refine g_no rfl rfl rfl ?_
            refine pick_t rfl rfl ?_
            refine o_nil ?_
            refine k_condt rfl ?_
            refine k_exit rfl ?_
            refine k_blk ?_
            refine k_region ?_
            refine n_add rfl rfl (by omega) ?_
            refine m_int rfl rfl ?_
            refine o_nil ?_
            refine k_goal ⟨i + 1, ⟨rfl, rfl, rfl, rfl, rfl, rfl, rfl, trivial⟩, ⟨hin, hk210⟩, by omega⟩
          ·
            refine g_yes rfl rfl ?_
            refine m_sl rfl rfl ?_
            refine g_yes rfl rfl ?_
            refine o_lens Tryd.underlying23 rfl ?_
            refine g_yes rfl rfl ?_
            refine b_eql rfl rfl ?_
            refine pick_f rfl rfl ?_
            refine o_nil ?_
            refine k_cond rfl (fun h => ?_) (fun h => ?_)
            ·
              refine k_exit rfl ?_
              refine k_blk ?_
              refine k_region ?_
              refine n_add rfl rfl (by omega) ?_
              refine m_int rfl rfl ?_
              refine o_nil ?_
              refine k_goal ⟨i + 1, ⟨rfl, rfl, rfl, rfl, rfl, rfl, rfl, trivial⟩, ⟨hin, hk210⟩, by omega⟩
            have hT0 : 0 < T.length := by
              have h' : ¬ (((T.map ((k : Int) + ·)).length : Int) = 0) := h
              rw [List.length_map] at h'
              omega
            have hql : q < way.length := by
              have h' : ¬ ((q : Int) = (way.length : Int)) := by assumption
              omega
            have hby := way[q].isLt
            have hYc : (way.map u8v)[q]? = some (u8v way[q]) := by simp [hql]
            obtain ⟨by', oy, hae, _⟩ := hY _ _ hYc
            subst hae
            obtain ⟨j, hj⟩ : ∃ j, j = way[q].toNat % T.length := ⟨_, rfl⟩
            have hjT : j < T.length := by rw [hj]; exact Nat.mod_lt _ hT0
            obtain ⟨ht1, ht2⟩ := hN.T1 _ (List.getElem_mem hjT)
            obtain ⟨t, htt⟩ : ∃ t : Nat, T[j] = t := ⟨T[j].toNat, by omega⟩
            rw [htt] at ht1 ht2
            have h8at := off_at (k : Int) hjT
            have h9at := off_at (p : Int) hjT
            rw [htt] at h8at h9at
            obtain ⟨b8, o8, hae, _⟩ := hS8.rd _ _ h8at
            subst hae
            obtain ⟨b9, o9, hae, _⟩ := hS9.rd _ _ h9at
            subst hae
            have hK010 := hK02.tr hk210
            refine k_skip ?_
            refine k_seq ?_
            refine k_region ?_
            refine m_sl rfl rfl ?_
            refine m_int rfl rfl ?_
            refine o_ixs1 (m := q) Tryd.underlying34 rfl rfl rfl hql ?_
            refine o_ld (v := u8v way[q]) rfl rfl (hY.cellK hK010 hYc) ?_
            refine cv8_i rfl Tryd.underlying3 rfl ?_
            refine m_sl rfl rfl ?_
            refine o_lens Tryd.underlying23 rfl ?_
            refine b_rem rfl rfl (by rw [List.length_map]; omega) ?_
            rw [show ((way[q].toNat : Int)).tmod ((T.map ((k : Int) + ·)).length : Int) = (j : Int) by rw [List.length_map, hj, Int.tmod_eq_emod_of_nonneg (by omega)]; push_cast; rfl]
            refine m_int rfl rfl ?_
            refine o_nil ?_
            refine k_qk 15 rfl rfl rfl rfl rfl ?_
            refine q_step (fun w1 hC => m_sl rfl rfl (o_nil ⟨rfl, hC⟩)) ?_
            refine q_step (fun w1 hC => m_sl rfl rfl (o_nil ⟨rfl, hC⟩)) ?_
            refine q_step (fun w1 hC => m_int rfl rfl (o_nil ⟨rfl, hC⟩)) ?_
            refine q_step (fun w1 hC => o_ixs1 (m := j) Tryd.underlying23 rfl rfl rfl (by rw [List.length_map]; exact hjT) (o_nil ⟨rfl, hC⟩)) ?_
            refine q_step (fun w1 hC => o_ld (v := iv ((k : Int) + (t : Int))) rfl rfl (hS8.rd.cellK ((hK9.tr hk10).tr hC) h8at) (o_nil ⟨rfl, hC⟩)) ?_
            refine q_step (fun w1 hC => o_ixs1 (m := k + t) Tryd.underlying22 rfl rfl (congrArg (Value.int .i64) (by push_cast; omega)) (by omega) (o_nil ⟨rfl, hC⟩)) ?_
            refine q_step (fun w1 hC => o_ld (v := iv (ws.getD (k + t) 0)) rfl rfl (getD_cell hW (k + t) (by omega) (hK010.tr hC)) (o_nil ⟨rfl, hC⟩)) ?_
            refine q_step (fun w1 hC => m_sl rfl rfl (o_nil ⟨rfl, hC⟩)) ?_
            refine q_step (fun w1 hC => m_sl rfl rfl (o_nil ⟨rfl, hC⟩)) ?_
            refine q_step (fun w1 hC => m_int rfl rfl (o_nil ⟨rfl, hC⟩)) ?_
            refine q_step (fun w1 hC => o_ixs1 (m := j) Tryd.underlying23 rfl rfl rfl (by rw [List.length_map]; exact hjT) (o_nil ⟨rfl, hC⟩)) ?_
            refine q_step (fun w1 hC => o_ld (v := iv ((p : Int) + (t : Int))) rfl rfl (hS9.rd.cellK (hk10.tr hC) h9at) (o_nil ⟨rfl, hC⟩)) ?_
            refine q_step (fun w1 hC => o_ixs1 (m := p + t) Tryd.underlying22 rfl rfl (congrArg (Value.int .i64) (by push_cast; omega)) (by omega) (o_nil ⟨rfl, hC⟩)) ?_
            refine q_step (fun w1 hC => o_ld (v := iv (xs.getD (p + t) 0)) rfl rfl (getD_cell hS2.rd (p + t) (by omega) (hk210.tr hC)) (o_nil ⟨rfl, hC⟩)) ?_
            refine q_step (fun w1 hC => m_int rfl rfl (o_nil ⟨rfl, hC⟩)) ?_
            refine q_nil ?_
            intro w11 hC11
            have hTt : (t : Int) ∈ T := by rw [← htt]; exact List.getElem_mem hjT
            have hcl := hN.cell t (by omega)
            rw [if_pos hTt] at hcl
            have htg := hSL.tgt hxl (c := (k : Int) + (t : Int)) (by rw [hN.rk]; exact List.mem_map.2 ⟨_, hTt, rfl⟩)
            rw [show ((k : Int) + (t : Int)).toNat = k + t by omega] at htg
            refine m_int rfl rfl ?_
            refine o_nil ?_
            refine k_blk ?_
            refine k_region ?_
            refine m_int rfl rfl ?_
            refine n_add rfl rfl (by omega) ?_
            refine m_int rfl rfl ?_
            refine o_nil ?_
            refine k_goal ⟨(q + 1, ws.getD (k + t) 0, xs.getD (p + t) 0), ⟨rfl, rfl, rfl, rfl, rfl, rfl, rfl, rfl, rfl, rfl, trivial⟩, ⟨hql, htg, hcl, hk210.tr hC11⟩, by simp only; omega⟩
        have hdm : d ≤ m := by omega
        have hK010 := hK02.tr hk210
        have hcl := hN.cell d hdm
        refine k_skip ?_
        refine k_seq ?_
        refine k_block ?_
        refine k_seq ?_
        refine k_qk 31 rfl rfl rfl rfl rfl ?_
        refine q_step (fun w1 hC => m_sl rfl rfl (o_nil ⟨rfl, hC⟩)) ?_
        refine q_step (fun w1 hC => m_int rfl rfl (o_nil ⟨rfl, hC⟩)) ?_
        refine q_step (fun w1 hC => m_int rfl rfl (o_nil ⟨rfl, hC⟩)) ?_
        refine q_step (fun w1 hC => n_add rfl rfl (by omega) (o_nil ⟨rfl, hC⟩)) ?_
        refine q_step (v := .bool (decide ((k : Int) + (d : Int) ∈ T.map ((k : Int) + ·)))) (fun w1 hC => o_call rfl rfl (in_ok w1 a8 c8 (T.map ((k : Int) + ·)) ((k : Int) + (d : Int)) (hS8.rd.new ((hK9.tr hk10).tr hC)) (by rw [List.length_map]; omega)) (fun v w2 hv => by obtain ⟨rfl, rfl⟩ := hv; exact o_nil ⟨rfl, hC⟩)) ?_
        refine q_step (fun w1 hC => u_not rfl (o_nil ⟨rfl, hC⟩)) ?_
        refine q_step (fun w1 hC => m_bool rfl rfl (o_nil ⟨rfl, hC⟩)) ?_
        refine q_split (t := 140) rfl (fun h => ?_) (fun h => ?_)
        ·
          refine q_step (fun w1 hC => g_yes rfl rfl (m_sl rfl rfl (o_nil ⟨rfl, hC⟩))) ?_
          refine q_step (fun w1 hC => g_yes rfl rfl (m_int rfl rfl (o_nil ⟨rfl, hC⟩))) ?_
          refine q_step (fun w1 hC => g_yes rfl rfl (m_int rfl rfl (o_nil ⟨rfl, hC⟩))) ?_
          refine q_step (fun w1 hC => g_yes rfl rfl (n_add rfl rfl (by omega) (o_nil ⟨rfl, hC⟩))) ?_
          refine q_step (fun w1 hC => g_yes rfl rfl (o_ixs1 (m := k + d) Tryd.underlying22 rfl rfl (congrArg (Value.int .i64) (by push_cast; omega)) (by omega) (o_nil ⟨rfl, hC⟩))) ?_
          refine q_step (fun w1 hC => g_yes rfl rfl (o_ld (v := iv (ws.getD (k + d) 0)) rfl rfl (getD_cell hW (k + d) (by omega) (hK010.tr hC)) (o_nil ⟨rfl, hC⟩))) ?_
          refine q_step (fun w1 hC => g_yes rfl rfl (m_sl rfl rfl (o_nil ⟨rfl, hC⟩))) ?_
          refine q_step (fun w1 hC => g_yes rfl rfl (m_int rfl rfl (o_nil ⟨rfl, hC⟩))) ?_
          refine q_step (fun w1 hC => g_yes rfl rfl (m_int rfl rfl (o_nil ⟨rfl, hC⟩))) ?_
          refine q_step (fun w1 hC => g_yes rfl rfl (n_add rfl rfl (by omega) (o_nil ⟨rfl, hC⟩))) ?_
          refine q_step (fun w1 hC => g_yes rfl rfl (o_ixs1 (m := p + d) Tryd.underlying22 rfl rfl (congrArg (Value.int .i64) (by push_cast; omega)) (by omega) (o_nil ⟨rfl, hC⟩))) ?_
          refine q_step (fun w1 hC => g_yes rfl rfl (o_ld (v := iv (xs.getD (p + d) 0)) rfl rfl (getD_cell hS2.rd (p + d) (by omega) (hk210.tr hC)) (o_nil ⟨rfl, hC⟩))) ?_
          refine q_step (fun w1 hC => g_yes rfl rfl (b_neq rfl rfl (o_nil ⟨rfl, hC⟩))) ?_
          refine q_step (fun w1 hC => pick_t rfl rfl (o_nil ⟨rfl, hC⟩)) ?_
          refine q_step (fun w1 hC => m_bool rfl rfl (o_nil ⟨rfl, hC⟩)) ?_
          refine q_false (t := 155) rfl ((fun h' => h' (by rw [hcl, if_neg (fun hh => h ((mem_off _ _ _).2 hh))]))) ?_
          refine q_step (fun w1 hC => g_yes rfl rfl (m_sl rfl rfl (o_nil ⟨rfl, hC⟩))) ?_
          refine q_step (fun w1 hC => g_yes rfl rfl (m_int rfl rfl (o_nil ⟨rfl, hC⟩))) ?_
          refine q_step (fun w1 hC => g_yes rfl rfl (m_int rfl rfl (o_nil ⟨rfl, hC⟩))) ?_
          refine q_step (fun w1 hC => g_yes rfl rfl (n_add rfl rfl (by omega) (o_nil ⟨rfl, hC⟩))) ?_
          refine q_step (v := .bool (decide ((k : Int) + (d : Int) ∈ T.map ((k : Int) + ·)))) (fun w1 hC => g_yes rfl rfl (o_call rfl rfl (in_ok w1 a8 c8 (T.map ((k : Int) + ·)) ((k : Int) + (d : Int)) (hS8.rd.new ((hK9.tr hk10).tr hC)) (by rw [List.length_map]; omega)) (fun v w2 hv => by obtain ⟨rfl, rfl⟩ := hv; exact o_nil ⟨rfl, hC⟩))) ?_
          refine q_step (fun w1 hC => g_yes rfl rfl (m_sl rfl rfl (o_nil ⟨rfl, hC⟩))) ?_
          refine q_step (fun w1 hC => g_yes rfl rfl (m_int rfl rfl (o_nil ⟨rfl, hC⟩))) ?_
          refine q_step (fun w1 hC => g_yes rfl rfl (m_int rfl rfl (o_nil ⟨rfl, hC⟩))) ?_
          refine q_step (fun w1 hC => g_yes rfl rfl (n_add rfl rfl (by omega) (o_nil ⟨rfl, hC⟩))) ?_
          refine q_nil ?_
          intro w11 hC11
          refine g_yes rfl rfl ?_
          refine o_call rfl rfl (in_ok w11 a9 c9 (T.map ((p : Int) + ·)) ((p : Int) + (d : Int)) (hS9.rd.new (hk10.tr hC11)) (by rw [List.length_map]; omega)) (fun v w12 hv => ?_)
          obtain ⟨rfl, rfl⟩ := hv
          refine g_yes rfl rfl ?_
          refine b_neqb Tryd.underlying4 rfl rfl ?_
          refine pick_f rfl rfl ?_
          refine o_nil ?_
          refine k_no rfl ((fun h' => h' (decide_eq_decide.2 ((mem_off _ _ _).trans (mem_off _ _ _).symm)))) ?_
          refine k_skip ?_
          refine k_blk ?_
          refine k_region ?_
          refine m_int rfl rfl ?_
          refine n_add rfl rfl (by omega) ?_
          refine m_int rfl rfl ?_
          refine o_nil ?_
          refine k_goal ⟨d + 1, ⟨rfl, rfl, rfl, rfl, rfl, rfl, rfl, rfl, rfl, rfl, rfl, rfl, rfl, rfl, trivial⟩, ⟨by omega, by omega, hk10.tr hC11⟩, by omega⟩
        ·
          refine q_step (v := undef) (fun w1 hC => g_no rfl rfl rfl (o_nil ⟨rfl, hC⟩)) ?_
          refine q_step (v := undef) (fun w1 hC => g_no rfl rfl rfl (o_nil ⟨rfl, hC⟩)) ?_
          refine q_step (v := undef) (fun w1 hC => g_no rfl rfl rfl (o_nil ⟨rfl, hC⟩)) ?_
          refine q_step (v := undef) (fun w1 hC => g_no rfl rfl rfl (o_nil ⟨rfl, hC⟩)) ?_
          refine q_step (v := undef) (fun w1 hC => g_no rfl rfl rfl (o_nil ⟨rfl, hC⟩)) ?_
          refine q_step (v := undef) (fun w1 hC => g_no rfl rfl rfl (o_nil ⟨rfl, hC⟩)) ?_
          refine q_step (v := undef) (fun w1 hC => g_no rfl rfl rfl (o_nil ⟨rfl, hC⟩)) ?_
          refine q_step (v := undef) (fun w1 hC => g_no rfl rfl rfl (o_nil ⟨rfl, hC⟩)) ?_
          refine q_step (v := undef) (fun w1 hC => g_no rfl rfl rfl (o_nil ⟨rfl, hC⟩)) ?_
          refine q_step (v := undef) (fun w1 hC => g_no rfl rfl rfl (o_nil ⟨rfl, hC⟩)) ?_
          refine q_step (v := undef) (fun w1 hC => g_no rfl rfl rfl (o_nil ⟨rfl, hC⟩)) ?_
          refine q_step (v := undef) (fun w1 hC => g_no rfl rfl rfl (o_nil ⟨rfl, hC⟩)) ?_
          refine q_step (v := undef) (fun w1 hC => g_no rfl rfl rfl (o_nil ⟨rfl, hC⟩)) ?_
          refine q_step (fun w1 hC => pick_f rfl rfl (o_nil ⟨rfl, hC⟩)) ?_
          refine q_step (fun w1 hC => m_bool rfl rfl (o_nil ⟨rfl, hC⟩)) ?_
          refine q_step (fun w1 hC => g_yes rfl rfl (m_sl rfl rfl (o_nil ⟨rfl, hC⟩))) ?_
          refine q_step (fun w1 hC => g_yes rfl rfl (m_int rfl rfl (o_nil ⟨rfl, hC⟩))) ?_
          refine q_step (fun w1 hC => g_yes rfl rfl (m_int rfl rfl (o_nil ⟨rfl, hC⟩))) ?_
          refine q_step (fun w1 hC => g_yes rfl rfl (n_add rfl rfl (by omega) (o_nil ⟨rfl, hC⟩))) ?_
          refine q_step (v := .bool (decide ((k : Int) + (d : Int) ∈ T.map ((k : Int) + ·)))) (fun w1 hC => g_yes rfl rfl (o_call rfl rfl (in_ok w1 a8 c8 (T.map ((k : Int) + ·)) ((k : Int) + (d : Int)) (hS8.rd.new ((hK9.tr hk10).tr hC)) (by rw [List.length_map]; omega)) (fun v w2 hv => by obtain ⟨rfl, rfl⟩ := hv; exact o_nil ⟨rfl, hC⟩))) ?_
          refine q_step (fun w1 hC => g_yes rfl rfl (m_sl rfl rfl (o_nil ⟨rfl, hC⟩))) ?_
          refine q_step (fun w1 hC => g_yes rfl rfl (m_int rfl rfl (o_nil ⟨rfl, hC⟩))) ?_
          refine q_step (fun w1 hC => g_yes rfl rfl (m_int rfl rfl (o_nil ⟨rfl, hC⟩))) ?_
          refine q_step (fun w1 hC => g_yes rfl rfl (n_add rfl rfl (by omega) (o_nil ⟨rfl, hC⟩))) ?_
          refine q_nil ?_
          intro w11 hC11
          refine g_yes rfl rfl ?_
          refine o_call rfl rfl (in_ok w11 a9 c9 (T.map ((p : Int) + ·)) ((p : Int) + (d : Int)) (hS9.rd.new (hk10.tr hC11)) (by rw [List.length_map]; omega)) (fun v w12 hv => ?_)
          obtain ⟨rfl, rfl⟩ := hv
          refine g_yes rfl rfl ?_
          refine b_neqb Tryd.underlying4 rfl rfl ?_
          refine pick_f rfl rfl ?_
          refine o_nil ?_
          refine k_no rfl ((fun h' => h' (decide_eq_decide.2 ((mem_off _ _ _).trans (mem_off _ _ _).symm)))) ?_
          refine k_skip ?_
          refine k_blk ?_
          refine k_region ?_
          refine m_int rfl rfl ?_
          refine n_add rfl rfl (by omega) ?_
          refine m_int rfl rfl ?_
          refine o_nil ?_
          refine k_goal ⟨d + 1, ⟨rfl, rfl, rfl, rfl, rfl, rfl, rfl, rfl, rfl, rfl, rfl, rfl, rfl, rfl, trivial⟩, ⟨by omega, by omega, hk10.tr hC11⟩, by omega⟩
end Go.Proofs.YtchbidckckmobaaDoor

/- What the listed table of the count of noughts gives. No condition beyond what each lemma names. -/
namespace Go.Proofs.YtchbidckckmobaaDoor
open Go.RowKit E
set_option linter.unusedVariables false
set_option linter.unusedSimpArgs false
set_option maxRecDepth 100000
attribute [local irreducible] ow qw kw kq cw opW Ret
theorem g64 : Tryd.prog.globalNamed "math/bits.deBruijn64tab" = some 0 := by kernel_rfl
theorem g64t : (Tryd.prog.globals[0]?).map (·.type) = some 121 := by kernel_rfl
def tzInts : List Int := Lib.deBruijn64tab.map fun (x : Nat) => (x : Int)
theorem tabtz_of {W : World} (h : laidMetH Tryd.prog lst1 W) : TabTz W := by
  rw [MakeChecks.laidMetH_plain _ _ _ (by kernel_rfl)] at h
  obtain ⟨ps, ⟨g0, t0, cs0, f0, p0, q0, hg0, ht0, hv0, hd0, _, _⟩, _, _⟩ := h
  obtain rfl := Option.some.inj (g64.symm.trans hg0)
  obtain rfl := Option.some.inj (g64t.symm.trans ht0)
  have hc := Lib.cells_of_tab (zs := tzInts) (k := .u8) Tryd.underlying121 Tryd.underlying5 (by kernel_rfl) (by kernel_rfl) (show DataW.trod _ _ _ _ _ _ _ _ _ = some (Lib.tabData .u8 tzInts, p0) from hd0)
  intro j hj
  rw [World.var?_cell g64 hv0 j, ← Array.getElem?_toList, hc]
  simp [tzInts, hj, List.getD_eq_getElem?_getD]
end Go.Proofs.YtchbidckckmobaaDoor
