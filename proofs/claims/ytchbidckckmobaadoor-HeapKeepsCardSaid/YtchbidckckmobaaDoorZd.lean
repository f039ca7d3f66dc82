/- Texts of this proof laid together: Jm, Jn, Jo, Jr, Js, Jp, Jt, Ju, Hj, Hl, Hm, Hn, Ia, Ib, Ic, Id, Ie, If, Ig, Ih, Ii, Ij, Ik, Il. No condition beyond what each lemma names. -/
import Derived.Test.YtchbidckckmobaaDoorZc
import Derived.Laws.CopyRow
import Derived.Laws.IdiomCopy
/- The walk of the document's Collect. No condition beyond what each contract names. -/
namespace Go.Proofs.YtchbidckckmobaaDoor
open Go.RowKit E
set_option linter.unusedVariables false
set_option linter.unusedSimpArgs false
set_option maxRecDepth 100000
attribute [local irreducible] ow qw kw kq cw opW Ret
theorem made_int (n : Nat) : (madeCells (Value.cells (.int .i64 0)) (n * 1)).toList = (List.replicate n (0 : Int)).map iv := by
  show (madeCells #[Value.int .i64 0] (n * 1)).toList = _
  rw [Nat.mul_one, toList_madeCells_one, List.map_replicate]
  rfl
set_option maxHeartbeats 1000000 in
theorem rcoll_ok (w : World) (a ra : Option Addr) (c rc : Nat) (ws rts : List Int) (hW : Rd w a (ws.map iv)) (hR : Rd w ra (rts.map iv)) (hlw : ws.length ≤ 1000000) (hlr : rts.length ≤ 1000000) (hx : ∀ x ∈ ws, x ≤ 9223372036854775807) :
    Ret Tryd.prog 21 [.slice a ws.length c, .slice ra rts.length rc] w (fun v w' => CollRes w w' v ws rts) := by
  refine fn_enter (n := 157) Tryd.func21 rfl rfl (Nat.le_of_ble_eq_true rfl) (fun e => ?_)
  refine k_seq ?_
  refine k_region ?_
  refine m_sl rfl rfl ?_
  refine m_sl rfl rfl ?_
  refine m_int rfl rfl ?_
  refine o_nil ?_
  refine k_seq ?_
  refine k_region ?_
  refine m_sl rfl rfl ?_
  refine m_sl rfl rfl ?_
  refine o_call rfl rfl (rmark_ok w a ra c rc ws rts hW hR hlw hlr hx) (fun v w1 hv => ?_)
  obtain ⟨er, LV, a7, c7, rfl, hR7, hL9, hK1, hcs⟩ := hv
  refine m_any rfl rfl ?_
  refine o_extr rfl rfl ?_
  refine o_extr rfl rfl ?_
  refine m_sl rfl rfl ?_
  refine m_int rfl rfl ?_
  refine o_nil ?_
  refine k_seq ?_
  refine k_seq ?_
  refine k_region ?_
  refine m_int rfl rfl ?_
  refine b_neq rfl rfl ?_
  refine o_nil ?_
  refine k_cond rfl (fun h => ?_) (fun h => ?_)
  ·
    refine k_seq ?_
    refine k_region ?_
    refine m_int rfl rfl ?_
    refine m_sl rfl rfl ?_
    refine m_sl rfl rfl ?_
    refine m_int rfl rfl ?_
    refine o_nil ?_
    refine k_ret (ret_tmps (ts := [4, 5, 6]) (v := .tuple #[.slice _ _ _, .slice _ _ _, .int _ _]) rfl rfl ?_)
    refine ⟨er, [], [], none, 0, none, 0, rfl, Sl.nil _ _ _, ⟨fun z hz => (by cases hz), fun z hz => (by cases hz)⟩, Rd.nil _ _, by simp, hK1, ?_⟩
    rcases hcs with ⟨h1, _, h2⟩ | ⟨h1, _, h2⟩ | ⟨h1, h2⟩
    · exact .inl ⟨h1, rfl, rfl, h2⟩
    · exact .inr (.inl ⟨h1, rfl, rfl, h2⟩)
    · exact absurd h1 h
  obtain ⟨h0, hlive, L, hbk, hrk⟩ := (hcs.resolve_left (fun hh => by have := hh.1; omega)).resolve_left (fun hh => by have := hh.1; omega)
  subst h0
  clear hcs
  have hLVL : ∀ x ∈ LV, x ∈ L := fun x hx' => reach_L hbk hrk ((hlive.2 x).1 hx')
  have hup := hlive.1
  have hll := live_len hbk hup hLVL
  have hsum : ∀ i, sumN ws (LV.take i) ≤ 65537 * LV.length := fun i => by
    have h1 := sumN_le (ws := ws) (xs := LV.take i) (fun y hy => by obtain ⟨_, _, _, _, _, m', _, _, h7, _, h9⟩ := blk_at hbk (hLVL y (List.mem_of_mem_take hy)); omega)
    have h2 : (LV.take i).length ≤ LV.length := by simp; omega
    omega
  refine k_skip ?_
  refine k_seq ?_
  refine k_region ?_
  refine m_sl rfl rfl ?_
  refine o_lens Tryd.underlying22 rfl ?_
  refine o_make (m := ws.length) Tryd.underlying23 inf3 rfl rfl (by simp [maxLen]; omega) (by omega) (fun g w2 hS2 hK2 hb2 hZ2 => ?_)
  rw [made_int, ← toL_nil ws] at hS2
  refine m_sl rfl rfl ?_
  refine o_nil ?_
  refine k_seq ?_
  refine k_region ?_
  refine m_int rfl rfl ?_
  refine o_nil ?_
  refine k_seq ?_
  refine k_seq ?_
  refine k_region ?_
  refine m_int rfl rfl ?_
  refine o_nil ?_
  refine k_block ?_
  refine k_loop (σ := Nat × Int) (fun s => [(0, .slice a ws.length c), (1, .slice ra rts.length rc), (7, .slice a7 LV.length c7), (9, .slice (some ⟨g, 0, none⟩) ws.length ws.length), (10, .int .i64 s.2), (11, .int .i64 (s.1 : Int))]) (fun s w' => s.1 ≤ LV.length ∧ s.2 = ((1 + sumN ws (LV.take s.1) : Nat) : Int) ∧ Sl w' 3 1 (some ⟨g, 0, none⟩) ws.length ws.length ((toL ws (LV.take s.1) ws.length).map iv) ∧ Keep [] w1 w') (fun s => LV.length - s.1) (0, 1) ⟨rfl, rfl, rfl, rfl, rfl, rfl, trivial⟩ ⟨by simp, by simp [sumN], hS2, hK2⟩ (fun s e w3 hJ => ?_)
  obtain ⟨i, nx⟩ := s
  obtain ⟨hi, hnx, hS3, hk3⟩ := hJ
  simp only at hi hnx hS3 ⊢
  subst hnx
  refine k_seq ?_
  refine k_seq ?_
  refine k_region ?_
  refine m_int rfl rfl ?_
  refine m_sl rfl rfl ?_
  refine o_lens Tryd.underlying23 rfl ?_
  refine b_lss rfl rfl ?_
  refine o_nil ?_
  refine k_cond rfl (fun h => ?_) (fun h => ?_)
  rotate_left
  ·
    have hie : i = LV.length := by omega
    subst hie
    have htl : LV.take LV.length = LV := List.take_length
    rw [htl] at hS3
    refine k_exit rfl ?_
    refine k_seq ?_
    refine k_region ?_
    refine o_bsl (E := 2) (cs := #[iv 0]) rfl (fun _ => by kernel_rfl) (fun g6 w6 hB6 hK6 hb6 hZ6 => ?_)
    have hSO6 : Sl w6 2 1 (some ⟨g6, 0, none⟩) 1 1 ((0 :: (LV.take 0).flatMap (newB ws LV)).map iv) := hB6.sl (len := 1) (sz := 1) rfl (by decide)
    refine m_sl rfl rfl ?_
    refine o_nil ?_
    refine k_seq ?_
    refine k_seq ?_
    refine k_region ?_
    refine m_int rfl rfl ?_
    refine o_nil ?_
    refine k_block ?_
    refine k_loop (σ := Nat × Nat × Option Addr × Nat) (fun s => [(0, .slice a ws.length c), (1, .slice ra rts.length rc), (7, .slice a7 LV.length c7), (9, .slice (some ⟨g, 0, none⟩) ws.length ws.length), (17, .slice s.2.2.1 s.2.1 s.2.2.2), (18, .int .i64 (s.1 : Int))]) (fun s w' => s.1 ≤ LV.length ∧ s.2.1 = 1 + sumN ws (LV.take s.1) ∧ Sl w' 2 1 s.2.2.1 s.2.1 s.2.2.2 ((0 :: (LV.take s.1).flatMap (newB ws LV)).map iv) ∧ (∀ z, s.2.2.1 = some z → w1.heap.size ≤ z.block) ∧ Sl w' 3 1 (some ⟨g, 0, none⟩) ws.length ws.length ((toL ws LV ws.length).map iv) ∧ Keep [] w1 w') (fun s => LV.length - s.1) (0, 1, some ⟨g6, 0, none⟩, 1) ⟨rfl, rfl, rfl, rfl, rfl, rfl, trivial⟩ ⟨by simp, by simp [sumN], hSO6, fun z hz => by cases hz; show _ ≤ g6; have := hk3.size; omega, hS3.new hK6, hk3.tr hK6⟩ (fun s e w7 hJ => ?_)
    clear hSO6 hS3
    obtain ⟨i, M, oa, oc⟩ := s
    obtain ⟨hi, hM, hSO, hfo, hST, hk7⟩ := hJ
    simp only at hi hM hSO hfo ⊢
    have hto : ∀ q, q < ws.length → ∀ w', Rd w' (some ⟨g, 0, none⟩) ((toL ws LV ws.length).map iv) → w'.cell? ⟨g, 0 + q, none⟩ = some (iv (adr ws LV 1 (q : Int))) := fun q hq w' hr => hr.cellK (Keep.refl _ _) (toL_at ws LV ws.length q hq)
    have hsi := hsum i
    refine k_seq ?_
    refine k_seq ?_
    refine k_region ?_
    refine m_int rfl rfl ?_
    refine m_sl rfl rfl ?_
    refine o_lens Tryd.underlying23 rfl ?_
    refine b_lss rfl rfl ?_
    refine o_nil ?_
    refine k_cond rfl (fun h => ?_) (fun h => ?_)
    rotate_left
    ·
      have hie : i = LV.length := by omega
      subst hie
      rw [htl] at hM hSO
      have hout : 0 :: LV.flatMap (newB ws LV) = outW ws LV := rfl
      rw [hout] at hSO
      have hMo : M = (outW ws LV).length := by have := hSO.1; simpa using this.symm
      clear hM
      subst hMo
      refine k_exit rfl ?_
      refine k_seq ?_
      refine k_region ?_
      refine m_sl rfl rfl ?_
      refine o_nil ?_
      refine k_seq ?_
      refine k_seq ?_
      refine k_region ?_
      refine m_int rfl rfl ?_
      refine o_nil ?_
      refine k_block ?_
      refine k_loop (σ := Nat × Option Addr × Nat) (fun s => [(1, .slice ra rts.length rc), (9, .slice (some ⟨g, 0, none⟩) ws.length ws.length), (17, .slice oa (outW ws LV).length oc), (28, .slice s.2.1 s.1 s.2.2), (29, .int .i64 (s.1 : Int))]) (fun s w' => s.1 ≤ rts.length ∧ Sl w' 3 1 s.2.1 s.1 s.2.2 (((rts.take s.1).map (adr ws LV 1)).map iv) ∧ (∀ z, s.2.1 = some z → w7.heap.size ≤ z.block) ∧ Keep [] w7 w') (fun s => rts.length - s.1) (0, none, 0) ⟨rfl, rfl, rfl, rfl, rfl, trivial⟩ ⟨Nat.zero_le _, Sl.nil _ _ _, by simp, Keep.refl _ _⟩ (fun s e w8 hJ => ?_)
      obtain ⟨i, ma, mc⟩ := s
      obtain ⟨hi, hSM, hfm, hk8⟩ := hJ
      simp only at hi hSM hfm ⊢
      refine k_seq ?_
      refine k_seq ?_
      refine k_region ?_
      refine m_int rfl rfl ?_
      refine m_sl rfl rfl ?_
      refine o_lens Tryd.underlying23 rfl ?_
      refine b_lss rfl rfl ?_
      refine o_nil ?_
      refine k_cond rfl (fun h => ?_) (fun h => ?_)
      rotate_left
      ·
        refine k_exit rfl ?_
        refine k_seq ?_
        refine k_region ?_
        refine m_sl rfl rfl ?_
        refine m_sl rfl rfl ?_
        refine m_sl rfl rfl ?_
        refine m_sl rfl rfl ?_
        refine m_int rfl rfl ?_
        refine o_nil ?_
        refine k_ret (ret_tmps (ts := [4, 5, 6]) (v := .tuple #[.slice _ _ _, .slice _ _ _, .int _ _]) rfl rfl ?_)
        have hie : i = rts.length := by omega
        subst hie
        rw [List.take_length] at hSM
        exact ⟨0, outW ws LV, rts.map (adr ws LV 1), oa, oc, ma, mc, by simp, hSO.new hk8, ⟨fun z hz => Nat.le_trans hK1.size (hfo z hz), fun z hz => Nat.le_trans (hK1.tr hk7).size (hfm z hz)⟩, hSM.rd, by rw [List.length_map]; omega, hK1.tr (hk7.tr hk8), .inr (.inr ⟨rfl, L, LV, hbk, hrk, hlive, rfl, rfl⟩)⟩
      have hin : i < rts.length := by omega
      have hRr := hR.new (hK1.tr (hk7.tr hk8))
      obtain ⟨br, orr, hae, hcr⟩ := hRr _ _ (iv_at rts i hin)
      subst hae
      have hrok := hrk _ (List.getElem_mem hin)
      obtain ⟨q, hq⟩ : ∃ q : Nat, rts[i] = q := ⟨rts[i].toNat, by omega⟩
      have hqn : q < ws.length := by omega
      rw [hq] at hcr
      refine k_skip ?_
      refine k_seq ?_
      refine k_block ?_
      refine k_region ?_
      refine m_sl rfl rfl ?_
      refine m_sl rfl rfl ?_
      refine m_sl rfl rfl ?_
      refine m_int rfl rfl ?_
      refine o_ixs1 (m := i) Tryd.underlying23 rfl rfl rfl hin ?_
      refine o_ld (v := iv (q : Int)) rfl rfl hcr ?_
      refine o_ixs1 (m := q) Tryd.underlying23 rfl rfl rfl hqn ?_
      refine o_ld (v := iv (adr ws LV 1 (q : Int))) rfl rfl (hto q hqn w8 (hST.new hk8).rd) ?_
      refine o_bsl (E := 3) (cs := #[iv (adr ws LV 1 (q : Int))]) rfl (fun _ => by kernel_rfl) (fun g9 w9 hB9 hK9 hb9 hZ9 => ?_)
      refine o_app Tryd.underlying23 inf3 rfl (by decide) rfl rfl (hSM.new hK9) hB9.rd rfl (by simp [iv, Value.oneCell']) (by simp [maxLen]; omega) (by omega) (fun a10 c10 w10 hS10 hK10 hv10 => ?_)
      have hf10 := own_app (k := fun b => w7.heap.size ≤ b) (w := w9) (w' := w10) (a := ma) (a2 := a10) hfm (fun b hb => Nat.le_trans (hk8.tr hK9).size hb) hv10
      refine m_sl rfl rfl ?_
      refine o_nil ?_
      refine k_blk ?_
      refine k_region ?_
      refine m_int rfl rfl ?_
      refine n_add rfl rfl (by omega) ?_
      refine m_int rfl rfl ?_
      refine o_nil ?_
      refine k_goal ⟨(i + 1, a10, c10), ⟨rfl, rfl, rfl, rfl, rfl, trivial⟩, ⟨hin, ?_, hf10, (hk8.tr hK9).trb hK10 hfm⟩, by simp only; omega⟩
      simp only
      rw [take_snoc rts i hin, List.map_append, List.map_append, hq]
      exact hS10
    have hin : i < LV.length := by omega
    obtain ⟨k, hk, hke, hk1, hk0, m, hm, hno, hsz, hkm, hm9⟩ := blk_at hbk (hLVL _ (List.getElem_mem hin))
    obtain ⟨b7, o7, hae, hc7⟩ := hR7.new hk7 _ _ (iv_at LV i hin)
    subst hae
    rw [hke] at hc7 hsz
    obtain ⟨ba, oo, hae, _⟩ := hW _ _ (iv_at ws k hk)
    subst hae
    refine k_skip ?_
    refine k_seq ?_
    refine k_block ?_
    refine k_seq ?_
    refine k_region ?_
    refine m_sl rfl rfl ?_
    refine m_sl rfl rfl ?_
    refine m_int rfl rfl ?_
    refine o_ixs1 (m := i) Tryd.underlying23 rfl rfl rfl hin ?_
    refine o_ld (v := iv (k : Int)) rfl rfl hc7 ?_
    refine o_ixs1 (m := k) Tryd.underlying22 rfl rfl rfl hk ?_
    refine o_ld (v := iv ws[k]) rfl rfl (hW.cellK (hK1.tr hk7) (iv_at ws k hk)) ?_
    refine o_call rfl rfl (ropen_ok w7 ws[k] (hx _ (List.getElem_mem hk))) (fun v w4 hv => ?_)
    obtain ⟨rfl, rfl⟩ := hv
    rw [hm]
    refine m_any rfl rfl ?_
    refine o_extr rfl rfl ?_
    refine o_extr rfl rfl ?_
    refine o_extr rfl rfl ?_
    refine o_extr rfl rfl ?_
    refine o_extr rfl rfl ?_
    refine m_int rfl rfl ?_
    refine m_int rfl rfl ?_
    refine m_int rfl rfl ?_
    refine m_int rfl rfl ?_
    refine m_int rfl rfl ?_
    refine o_nil ?_
    refine k_seq ?_
    refine k_region ?_
    refine m_sl rfl rfl ?_
    refine m_sl rfl rfl ?_
    refine m_int rfl rfl ?_
    refine o_ixs1 (m := i) Tryd.underlying23 rfl rfl rfl hin ?_
    refine o_ld (v := iv (k : Int)) rfl rfl hc7 ?_
    refine o_call rfl rfl (rrefs_ok w4 (some ⟨ba, oo, none⟩) ws.length c ws (k : Int) (hW.new (hK1.tr hk7)) rfl (by omega) hx) (fun v w8 hv => ?_)
    obtain ⟨a14, c14, rfl, hS14, hK14, hf14⟩ := hv
    have hrl := refs_len ws (k : Int)
    have hnl := newB_len ws LV (k : Int)
    rw [hsz] at hnl
    refine m_sl rfl rfl ?_
    refine o_nil ?_
    refine k_seq ?_
    refine k_region ?_
    refine m_int rfl rfl ?_
    refine o_nil ?_
    refine k_block ?_
    refine k_loop (σ := Nat × Option Addr × Nat) (fun s => [(0, .slice (some ⟨ba, oo, none⟩) ws.length c), (1, .slice ra rts.length rc), (7, .slice (some ⟨b7, o7, none⟩) LV.length c7), (9, .slice (some ⟨g, 0, none⟩) ws.length ws.length), (17, .slice s.2.1 (M + s.1) s.2.2), (18, .int .i64 (i : Int)), (21, .int .i64 (m : Int)), (24, .slice a14 (refsW ws (k : Int)).length c14), (25, .int .i64 (s.1 : Int))]) (fun s w' => s.1 ≤ 1 + m ∧ Sl w' 2 1 s.2.1 (M + s.1) s.2.2 ((0 :: (LV.take i).flatMap (newB ws LV) ++ (newB ws LV (k : Int)).take s.1).map iv) ∧ (∀ z, s.2.1 = some z → w1.heap.size ≤ z.block) ∧ Sl w' 3 1 (some ⟨g, 0, none⟩) ws.length ws.length ((toL ws LV ws.length).map iv) ∧ Sl w' 3 1 a14 (refsW ws (k : Int)).length c14 ((refsW ws (k : Int)).map iv) ∧ Keep [] w1 w') (fun s => 1 + m - s.1) (0, oa, oc) ⟨rfl, rfl, rfl, rfl, rfl, rfl, rfl, rfl, rfl, trivial⟩ ⟨Nat.zero_le _, by simpa using hSO.new hK14, hfo, hST.new hK14, hS14, hk7.tr hK14⟩ (fun s e w9 hJ => ?_)
    clear hSO hST hS14
    obtain ⟨j, oa, oc⟩ := s
    obtain ⟨hj, hSO, hfo, hST, hS14, hk9⟩ := hJ
    simp only at hj hSO hfo ⊢
    refine k_seq ?_
    refine k_seq ?_
    refine k_region ?_
    refine m_int rfl rfl ?_
    refine m_int rfl rfl ?_
    refine b_leq rfl rfl ?_
    refine o_nil ?_
    refine k_cond rfl (fun h => ?_) (fun h => ?_)
    rotate_left
    ·
      refine k_exit rfl ?_
      refine k_blk ?_
      refine k_region ?_
      refine m_int rfl rfl ?_
      refine n_add rfl rfl (by omega) ?_
      refine m_int rfl rfl ?_
      refine o_nil ?_
      have hje : j = 1 + m := by omega
      subst hje
      rw [List.take_of_length_le (show (newB ws LV (k : Int)).length ≤ 1 + m by omega)] at hSO
      refine k_goal ⟨(i + 1, M + (1 + m), oa, oc), ⟨rfl, rfl, rfl, rfl, rfl, rfl, trivial⟩, ⟨hin, ?_, ?_, hfo, hST, hk9⟩, by simp only; omega⟩
      · simp only
        rw [take_snoc LV i hin, sumN_app, hke]
        simp only [sumN, hsz]
        omega
      · simp only
        rw [take_snoc LV i hin, hke, List.flatMap_append]
        simpa using hSO
    have hjm : j ≤ m := by omega
    have hkj : k + j < ws.length := by omega
    have hc79 := hR7.cellK hk9 (iv_at LV i hin)
    rw [hke] at hc79
    refine k_skip ?_
    refine k_seq ?_
    refine k_block ?_
    refine k_seq ?_
    refine k_region ?_
    refine m_sl rfl rfl ?_
    refine m_sl rfl rfl ?_
    refine m_int rfl rfl ?_
    refine o_ixs1 (m := i) Tryd.underlying23 rfl rfl rfl hin ?_
    refine o_ld (v := iv (k : Int)) rfl rfl hc79 ?_
    refine m_int rfl rfl ?_
    refine n_add rfl rfl (by omega) ?_
    refine o_ixs1 (m := k + j) Tryd.underlying22 rfl rfl (congrArg (Value.int .i64) (by push_cast; omega)) hkj ?_
    refine o_ld (v := iv ws[k + j]) rfl rfl (hW.cellK (hK1.tr hk9) (iv_at ws (k + j) hkj)) ?_
    refine m_int rfl rfl ?_
    refine o_nil ?_
    refine k_seq ?_
    refine k_seq ?_
    refine k_region ?_
    refine m_int rfl rfl ?_
    refine o_nil ?_
    refine k_block ?_
    refine k_loop (σ := Nat × Int) (fun s => [(0, .slice (some ⟨ba, oo, none⟩) ws.length c), (1, .slice ra rts.length rc), (7, .slice (some ⟨b7, o7, none⟩) LV.length c7), (9, .slice (some ⟨g, 0, none⟩) ws.length ws.length), (17, .slice oa (M + j) oc), (18, .int .i64 (i : Int)), (21, .int .i64 (m : Int)), (24, .slice a14 (refsW ws (k : Int)).length c14), (25, .int .i64 (j : Int)), (26, .int .i64 s.2), (27, .int .i64 (s.1 : Int))]) (fun s w' => s.1 ≤ (refsW ws (k : Int)).length ∧ s.2 = (if (k : Int) + (j : Int) ∈ (refsW ws (k : Int)).take s.1 then adr ws LV 1 ws[k + j] else ws[k + j]) ∧ Keep [] w9 w') (fun s => (refsW ws (k : Int)).length - s.1) (0, ws[k + j]) ⟨rfl, rfl, rfl, rfl, rfl, rfl, rfl, rfl, rfl, rfl, rfl, trivial⟩ ⟨Nat.zero_le _, by simp, Keep.refl _ _⟩ (fun s e w10 hJ => ?_)
    obtain ⟨t, x⟩ := s
    obtain ⟨ht, hxv, hk10⟩ := hJ
    simp only at ht hxv ⊢
    refine k_seq ?_
    refine k_seq ?_
    refine k_region ?_
    refine m_int rfl rfl ?_
    refine m_sl rfl rfl ?_
    refine o_lens Tryd.underlying23 rfl ?_
    refine b_lss rfl rfl ?_
    refine o_nil ?_
    refine k_cond rfl (fun h => ?_) (fun h => ?_)
    rotate_left
    ·
      refine k_exit rfl ?_
      refine k_region ?_
      refine m_sl rfl rfl ?_
      refine m_int rfl rfl ?_
      refine o_bsl (E := 2) (cs := #[iv x]) rfl (fun _ => by kernel_rfl) (fun g11 w11 hB11 hK11 hb11 hZ11 => ?_)
      refine o_app Tryd.underlying22 inf2 rfl (by decide) rfl rfl (hSO.new (hk10.tr hK11)) hB11.rd rfl (by simp [iv, Value.oneCell']) (by simp [maxLen]; omega) (by omega) (fun a12 c12 w12 hS12 hK12 hv12 => ?_)
      have hf12 := own_app (k := fun b => w1.heap.size ≤ b) (w := w11) (w' := w12) (a := oa) (a2 := a12) hfo (fun b hb => Nat.le_trans (hk9.tr (hk10.tr hK11)).size hb) hv12
      have hS11 := hSO.new (hk10.tr hK11)
      refine m_sl rfl rfl ?_
      refine o_nil ?_
      refine k_blk ?_
      refine k_region ?_
      refine m_int rfl rfl ?_
      refine n_add rfl rfl (by omega) ?_
      refine m_int rfl rfl ?_
      refine o_nil ?_
      have hte : t = (refsW ws (k : Int)).length := by omega
      subst hte
      rw [List.take_length, ← newB_at ws LV k j (by omega) hkj] at hxv
      refine k_goal ⟨(j + 1, a12, c12), ⟨rfl, rfl, rfl, rfl, rfl, rfl, rfl, rfl, rfl, trivial⟩, ⟨by simp only; omega, ?_, hf12, (hST.new (hk10.tr hK11)).keep hK12 ((hST.new (hk10.tr hK11)).off2 hS11 (by decide)), (hS14.new (hk10.tr hK11)).keep hK12 ((hS14.new (hk10.tr hK11)).off2 hS11 (by decide)), (hk9.tr (hk10.tr hK11)).trb hK12 hfo⟩, by simp only; omega⟩
      have h12 : Sl w12 2 1 a12 (M + (j + 1)) c12 _ := hS12
      simp only
      rw [take_snoc (newB ws LV (k : Int)) j (by omega), ← hxv, ← List.append_assoc, List.map_append]
      exact h12
    have htl : t < (refsW ws (k : Int)).length := by omega
    obtain ⟨cc, hcc⟩ : ∃ cc, (refsW ws (k : Int))[t] = cc := ⟨_, rfl⟩
    have hcm : cc ∈ refsW ws (k : Int) := by rw [← hcc]; exact List.getElem_mem _
    obtain ⟨y, hy, hy1, hy2⟩ := refs_in hk hm hcm
    have hcn : cc ∉ (refsW ws (k : Int)).take t := by rw [← hcc]; exact up_split (refs_up ws _) htl
    have hx14 := iv_at (refsW ws (k : Int)) t htl
    rw [hcc] at hx14
    obtain ⟨b14, o14, hae, _⟩ := hS14.rd _ _ hx14
    subst hae
    refine k_skip ?_
    refine k_seq ?_
    refine k_block ?_
    refine k_seq ?_
    refine k_qk 10 rfl rfl rfl rfl rfl ?_
    refine q_step (fun w1 hC => m_sl rfl rfl (o_nil ⟨rfl, hC⟩)) ?_
    refine q_step (fun w1 hC => m_int rfl rfl (o_nil ⟨rfl, hC⟩)) ?_
    refine q_step (fun w1 hC => o_ixs1 (m := t) Tryd.underlying23 rfl rfl rfl htl (o_nil ⟨rfl, hC⟩)) ?_
    refine q_step (fun w1 hC => o_ld (v := iv cc) rfl rfl (hS14.rd.cellK (hk10.tr hC) hx14) (o_nil ⟨rfl, hC⟩)) ?_
    refine q_step (fun w1 hC => m_sl rfl rfl (o_nil ⟨rfl, hC⟩)) ?_
    refine q_step (fun w1 hC => m_int rfl rfl (o_nil ⟨rfl, hC⟩)) ?_
    refine q_step (fun w1 hC => o_ixs1 (m := i) Tryd.underlying23 rfl rfl rfl hin (o_nil ⟨rfl, hC⟩)) ?_
    refine q_step (fun w1 hC => o_ld (v := iv (k : Int)) rfl rfl (by rw [← hke]; exact hR7.cellK (hk9.tr (hk10.tr hC)) (iv_at LV i hin)) (o_nil ⟨rfl, hC⟩)) ?_
    refine q_step (fun w1 hC => m_int rfl rfl (o_nil ⟨rfl, hC⟩)) ?_
    refine q_step (fun w1 hC => n_add rfl rfl (by omega) (o_nil ⟨rfl, hC⟩)) ?_
    refine q_nil ?_
    intro w11 hC11
    refine b_eql rfl rfl ?_
    refine o_nil ?_
    refine k_cond rfl (fun h => ?_) (fun h => ?_)
    ·
      have hcj : cc = (k : Int) + (j : Int) := h
      rw [if_neg (by rw [← hcj]; exact hcn)] at hxv
      subst hxv
      obtain ⟨h0, hz, hch, hrf⟩ := blocks_ch hbk
      have hin0 := hrf (k : Int) (by rw [← hke]; exact hLVL _ (List.getElem_mem hin)) cc hcm
      rw [hcj, show ((k : Int) + (j : Int)).toNat = k + j by omega, getD_get ws (k + j) hkj] at hin0
      have hrng := mem_rng h0 (chain_rng ws L hch) hin0
      obtain ⟨q, hq⟩ : ∃ q : Nat, ws[k + j] = q := ⟨ws[k + j].toNat, by omega⟩
      have hqn : q < ws.length := by omega
      refine k_region ?_
      refine m_sl rfl rfl ?_
      refine m_int rfl rfl ?_
      refine o_ixs1 (m := q) Tryd.underlying23 rfl rfl (congrArg (Value.int .i64) hq) hqn ?_
      refine o_ld (v := iv (adr ws LV 1 (q : Int))) rfl rfl (hto q hqn w11 (hST.new (hk10.tr hC11)).rd) ?_
      refine m_int rfl rfl ?_
      refine o_nil ?_
      refine k_blk ?_
      refine k_region ?_
      refine m_int rfl rfl ?_
      refine n_add rfl rfl (by omega) ?_
      refine m_int rfl rfl ?_
      refine o_nil ?_
      refine k_goal ⟨(t + 1, adr ws LV 1 (q : Int)), ⟨rfl, rfl, rfl, rfl, rfl, rfl, rfl, rfl, rfl, rfl, rfl, trivial⟩, ⟨htl, ?_, hk10.tr hC11⟩, by simp only; omega⟩
      simp only
      rw [if_pos (by rw [take_snoc _ t htl, hcc, hcj]; simp), hq]
    refine k_skip ?_
    refine k_blk ?_
    refine k_region ?_
    refine m_int rfl rfl ?_
    refine n_add rfl rfl (by omega) ?_
    refine m_int rfl rfl ?_
    refine o_nil ?_
    refine k_goal ⟨(t + 1, x), ⟨rfl, rfl, rfl, rfl, rfl, rfl, rfl, rfl, rfl, rfl, rfl, trivial⟩, ⟨htl, ?_, hk10.tr hC11⟩, by simp only; omega⟩
    simp only
    have hcj : ¬ cc = (k : Int) + (j : Int) := h
    have hiff : (k : Int) + (j : Int) ∈ (refsW ws (k : Int)).take (t + 1) ↔ (k : Int) + (j : Int) ∈ (refsW ws (k : Int)).take t := by
      rw [take_snoc _ t htl, hcc]; simp; intro hh; exact absurd hh.symm hcj
    rw [hxv]
    simp only [hiff]
  have hin : i < LV.length := by omega
  obtain ⟨k, hk, hke, hk1, hk0, m, hm, hno, hsz, hkm, hm9⟩ := blk_at hbk (hLVL _ (List.getElem_mem hin))
  obtain ⟨b7, o7, hae, hc7⟩ := hR7.new hk3 _ _ (iv_at LV i hin)
  subst hae
  rw [hke] at hc7 hsz
  obtain ⟨ba, oo, hae, _⟩ := hW _ _ (iv_at ws k hk)
  subst hae
  have hsi := hsum i
  have hnot := up_split hup hin
  rw [hke] at hnot
  obtain ⟨go, cur, hoe, hBg, hgs⟩ := hS3.blk (by omega)
  cases hoe
  refine k_skip ?_
  refine k_seq ?_
  refine k_block ?_
  refine k_seq ?_
  refine k_region ?_
  refine m_sl rfl rfl ?_
  refine m_sl rfl rfl ?_
  refine m_int rfl rfl ?_
  refine o_ixs1 (m := i) Tryd.underlying23 rfl rfl rfl hin ?_
  refine o_ld (v := iv (k : Int)) rfl rfl hc7 ?_
  refine o_ixs1 (m := k) Tryd.underlying22 rfl rfl rfl hk ?_
  refine o_ld (v := iv ws[k]) rfl rfl (hW.cellK (hK1.tr hk3) (iv_at ws k hk)) ?_
  refine o_call rfl rfl (ropen_ok w3 ws[k] (hx _ (List.getElem_mem hk))) (fun v w4 hv => ?_)
  obtain ⟨rfl, rfl⟩ := hv
  rw [hm]
  refine m_any rfl rfl ?_
  refine o_extr rfl rfl ?_
  refine o_extr rfl rfl ?_
  refine o_extr rfl rfl ?_
  refine o_extr rfl rfl ?_
  refine o_extr rfl rfl ?_
  refine m_int rfl rfl ?_
  refine m_int rfl rfl ?_
  refine m_int rfl rfl ?_
  refine m_int rfl rfl ?_
  refine m_int rfl rfl ?_
  refine o_nil ?_
  refine k_seq ?_
  refine k_region ?_
  refine m_sl rfl rfl ?_
  refine m_sl rfl rfl ?_
  refine m_int rfl rfl ?_
  refine o_ixs1 (m := i) Tryd.underlying23 rfl rfl rfl hin ?_
  refine o_ld (v := iv (k : Int)) rfl rfl hc7 ?_
  refine m_int rfl rfl ?_
  refine o_ixs1 (m := k) Tryd.underlying23 rfl rfl rfl hk ?_
  refine o_st (v := iv ((1 + sumN ws (LV.take i) : Nat) : Int)) rfl rfl rfl rfl hBg (by omega) (fun w5 hB5 hK5 hZ5 => ?_)
  have hS5 := Sl.set hS3 hk hBg hB5
  rw [← List.map_set, toL_set ws (LV.take i) ws.length k hnot, ← hke, ← take_snoc LV i hin] at hS5
  refine o_nil ?_
  refine k_region ?_
  refine m_int rfl rfl ?_
  refine n_add rfl rfl (by omega) ?_
  refine m_int rfl rfl ?_
  refine n_add rfl rfl (by omega) ?_
  refine m_int rfl rfl ?_
  refine o_nil ?_
  refine k_blk ?_
  refine k_region ?_
  refine m_int rfl rfl ?_
  refine n_add rfl rfl (by omega) ?_
  refine m_int rfl rfl ?_
  refine o_nil ?_
  refine k_goal ⟨(i + 1, ((1 + sumN ws (LV.take i) : Nat) : Int) + 1 + (m : Int)), ⟨rfl, rfl, rfl, rfl, rfl, rfl, trivial⟩, ⟨hin, ?_, hS5, hk3.tr1 hK5 (by omega)⟩, by simp only; omega⟩
  simp only
  rw [take_snoc LV i hin, sumN_app, hke]
  simp only [sumN, hsz]
  push_cast
  omega
end Go.Proofs.YtchbidckckmobaaDoor

/- law20.head; what law20.fixed asks, plain. No condition beyond what each names. -/
namespace Go.Proofs.YtchbidckckmobaaDoor
open Go.RowKit E
set_option linter.unusedVariables false
set_option linter.unusedSimpArgs false
set_option maxRecDepth 100000
attribute [local irreducible] ow qw kw kq cw opW Ret
theorem h20_ok (w : World) (kind cl n : Int) : Ret Tryd.prog 61 [.int .i64 kind, .int .i64 cl, .int .i64 n] w (fun v w' => v = .int .i64 (headW kind cl n 0).1 ∧ w' = w) := by
  refine fn_enter (n := 17) Tryd.func61 rfl rfl (Nat.le_of_ble_eq_true rfl) (fun e => ?_)
  refine k_seq ?_
  refine k_region ?_
  refine m_int rfl rfl ?_
  refine o_nil ?_
  refine k_seq ?_
  refine k_region ?_
  refine m_int rfl rfl ?_
  refine m_int rfl rfl ?_
  refine m_int rfl rfl ?_
  refine o_call rfl rfl (rhead_ok w kind cl n 0 (by omega)) (fun v w1 hv => ?_)
  obtain ⟨rfl, rfl⟩ := hv
  refine m_any rfl rfl ?_
  refine o_extr rfl rfl ?_
  refine o_extr rfl rfl ?_
  refine m_int rfl rfl ?_
  refine m_int rfl rfl ?_
  refine o_nil ?_
  refine k_seq ?_
  refine k_region ?_
  refine m_int rfl rfl ?_
  refine m_int rfl rfl ?_
  refine o_nil ?_
  refine k_ret (ret_tmps (ts := [6]) (v := .int _ _) rfl rfl ?_)
  exact ⟨rfl, rfl⟩
theorem samw_ok (w : World) (a1 a2 : Option Addr) (c1 c2 : Nat) (us vs : List Int) (hR1 : Rd w a1 (us.map iv)) (hR2 : Rd w a2 (vs.map iv)) (hu : us.length ≤ 9223372036854775807) (hv : vs.length ≤ 9223372036854775807) :
    Ret Tryd.prog 22 [.slice a1 us.length c1, .slice a2 vs.length c2] w (fun v w' => v = .bool (decide (us = vs)) ∧ Keep [] w w') := by
  refine fn_enter (n := 26) Tryd.func22 rfl rfl (Nat.le_of_ble_eq_true rfl) (fun e => ?_)
  refine k_seq ?_
  refine k_region ?_
  refine m_bool rfl rfl ?_
  refine o_nil ?_
  refine k_seq ?_
  refine k_seq ?_
  refine k_region ?_
  refine m_sl rfl rfl ?_
  refine o_lens Tryd.underlying22 rfl ?_
  refine m_sl rfl rfl ?_
  refine o_lens Tryd.underlying22 rfl ?_
  refine b_neq rfl rfl ?_
  refine o_nil ?_
  refine k_cond rfl (fun h => ?_) (fun h => ?_)
  ·
    refine k_seq ?_
    refine k_region ?_
    refine m_bool rfl rfl ?_
    refine o_nil ?_
    refine k_ret (ret_tmps (ts := [4]) (v := .bool _) rfl rfl ?_)
    exact ⟨congrArg Value.bool (decide_eq_false (fun hh => h (by rw [hh]))).symm, Keep.refl _ _⟩
  have hlen : us.length = vs.length := by omega
  refine k_skip ?_
  refine k_seq ?_
  refine k_seq ?_
  refine k_region ?_
  refine m_int rfl rfl ?_
  refine o_nil ?_
  refine k_block ?_
  refine k_loop (σ := Nat) (fun i => [(0, .slice a1 us.length c1), (1, .slice a2 vs.length c2), (5, .int .i64 (i : Int))]) (fun i w' => i ≤ us.length ∧ (∀ j, j < i → us[j]? = vs[j]?) ∧ Keep [] w w') (fun i => us.length - i) 0 ⟨rfl, rfl, rfl, trivial⟩ ⟨Nat.zero_le _, (fun j hj => by omega), Keep.refl _ _⟩ (fun i e w3 hJ => ?_)
  obtain ⟨hi, hpre, hK3⟩ := hJ
  refine k_seq ?_
  refine k_seq ?_
  refine k_region ?_
  refine m_int rfl rfl ?_
  refine m_sl rfl rfl ?_
  refine o_lens Tryd.underlying22 rfl ?_
  refine b_lss rfl rfl ?_
  refine o_nil ?_
  refine k_cond rfl (fun h => ?_) (fun h => ?_)
  rotate_left
  ·
    refine k_exit rfl ?_
    refine k_seq ?_
    refine k_region ?_
    refine m_bool rfl rfl ?_
    refine o_nil ?_
    refine k_ret (ret_tmps (ts := [4]) (v := .bool _) rfl rfl ?_)
    refine ⟨congrArg Value.bool (decide_eq_true ?_).symm, hK3⟩
    refine List.ext_getElem? fun j => ?_
    by_cases hj : j < us.length
    · exact hpre j (by omega)
    · rw [List.getElem?_eq_none (by omega), List.getElem?_eq_none (by omega)]
  have hin : i < us.length := by omega
  have hx := iv_at us i hin
  have hy := iv_at vs i (by omega)
  obtain ⟨b1, o1, hae, _⟩ := hR1 _ _ hx
  obtain ⟨b2, o2, hbe, _⟩ := hR2 _ _ hy
  subst hae hbe
  refine k_skip ?_
  refine k_seq ?_
  refine k_block ?_
  refine k_seq ?_
  refine k_qk 8 rfl rfl rfl rfl rfl ?_
  refine q_step (fun w1 hC => m_sl rfl rfl (o_nil ⟨rfl, hC⟩)) ?_
  refine q_step (fun w1 hC => m_int rfl rfl (o_nil ⟨rfl, hC⟩)) ?_
  refine q_step (fun w1 hC => o_ixs1 Tryd.underlying22 rfl rfl rfl hin (o_nil ⟨rfl, hC⟩)) ?_
  refine q_step (fun w1 hC => o_ld rfl rfl (hR1.cellK (hK3.tr hC) hx) (o_nil ⟨rfl, hC⟩)) ?_
  refine q_step (fun w1 hC => m_sl rfl rfl (o_nil ⟨rfl, hC⟩)) ?_
  refine q_step (fun w1 hC => m_int rfl rfl (o_nil ⟨rfl, hC⟩)) ?_
  refine q_step (fun w1 hC => o_ixs1 Tryd.underlying22 rfl rfl rfl (by omega) (o_nil ⟨rfl, hC⟩)) ?_
  refine q_step (fun w1 hC => o_ld rfl rfl (hR2.cellK (hK3.tr hC) hy) (o_nil ⟨rfl, hC⟩)) ?_
  refine q_nil ?_
  intro w4 hC4
  refine b_neq rfl rfl ?_
  refine o_nil ?_
  refine k_cond rfl (fun h => ?_) (fun h => ?_)
  ·
    refine k_seq ?_
    refine k_region ?_
    refine m_bool rfl rfl ?_
    refine o_nil ?_
    refine k_ret (ret_tmps (ts := [4]) (v := .bool _) rfl rfl ?_)
    refine ⟨congrArg Value.bool (decide_eq_false (fun hh => h ?_)).symm, hK3.tr hC4⟩
    subst hh
    rfl
  refine k_skip ?_
  refine k_blk ?_
  refine k_region ?_
  refine m_int rfl rfl ?_
  refine n_add rfl rfl (by omega) ?_
  refine m_int rfl rfl ?_
  refine o_nil ?_
  refine k_goal ⟨i + 1, ⟨rfl, rfl, rfl, trivial⟩, ⟨by omega, fun j hj => ?_, hK3.tr hC4⟩, by omega⟩
  by_cases hji : j = i
  · rw [hji, List.getElem?_eq_getElem hin, List.getElem?_eq_getElem (by omega)]
    exact congrArg some (Decidable.of_not_not h)
  · exact hpre j (by omega)
def MarkIs (ws rts : List Int) (er : Int) (LV : List Int) : Prop := (er = 24 ∧ LV = [] ∧ blocksW ws = none) ∨ (er = 1 ∧ LV = [] ∧ ∃ L, blocksW ws = some L ∧ ¬ rootsOk ws L rts) ∨ (er = 0 ∧ IsLive ws rts LV ∧ ∃ L, blocksW ws = some L ∧ rootsOk ws L rts)
def CollIs (ws rts : List Int) (er : Int) (xs rs : List Int) : Prop := (er = 24 ∧ xs = [] ∧ rs = [] ∧ blocksW ws = none) ∨ (er = 1 ∧ xs = [] ∧ rs = [] ∧ ∃ L, blocksW ws = some L ∧ ¬ rootsOk ws L rts) ∨
      (er = 0 ∧ ∃ L LV, blocksW ws = some L ∧ rootsOk ws L rts ∧ IsLive ws rts LV ∧ xs = outW ws LV ∧ rs = rts.map (adr ws LV 1))
theorem MarkIs.one {ws rts : List Int} {er er' : Int} {A B : List Int} (h : MarkIs ws rts er A) (h' : MarkIs ws rts er' B) : er = er' ∧ A = B := by
  rcases h with ⟨rfl, rfl, h⟩ | ⟨rfl, rfl, L, h, hr⟩ | ⟨rfl, hA, L, h, hr⟩ <;> rcases h' with ⟨rfl, rfl, h'⟩ | ⟨rfl, rfl, L', h', hr'⟩ | ⟨rfl, hB, L', h', hr'⟩ <;> rw [h] at h' <;> first | exact ⟨rfl, rfl⟩ | exact ⟨rfl, hA.one hB⟩ | (cases h'; done) | (cases h'; exact absurd hr' hr) | (cases h'; exact absurd hr hr')
theorem CollIs.one {ws rts : List Int} {er er' : Int} {A B C D : List Int} (h : CollIs ws rts er A C) (h' : CollIs ws rts er' B D) : er = er' ∧ A = B ∧ C = D := by
  rcases h with ⟨rfl, rfl, rfl, h⟩ | ⟨rfl, rfl, rfl, L, h, hr⟩ | ⟨rfl, L, LV, h, hr, hA, rfl, rfl⟩ <;> rcases h' with ⟨rfl, rfl, rfl, h'⟩ | ⟨rfl, rfl, rfl, L', h', hr'⟩ | ⟨rfl, L', LV', h', hr', hB, rfl, rfl⟩ <;> rw [h] at h' <;> first | exact ⟨rfl, rfl, rfl⟩ | (rw [hA.one hB]; exact ⟨rfl, rfl, rfl⟩) | (cases h'; done) | (cases h'; exact absurd hr' hr) | (cases h'; exact absurd hr hr')
theorem mark_is {w w' : World} {v : Value} {ws rts : List Int} (h : MarkRes w w' v ws rts) : ∃ er LV a2 c2, v = .tuple #[.slice a2 LV.length c2, .int .i64 er] ∧ Rd w' a2 (LV.map iv) ∧ LV.length ≤ 9223372036854775807 ∧ Keep [] w w' ∧ MarkIs ws rts er LV := by
  obtain ⟨er, LV, a2, c2, h1, h2, h3, h4, h5⟩ := h
  exact ⟨er, LV, a2, c2, h1, h2, h3.1, h4, h5⟩
theorem mark_is2 {w w' : World} {v : Value} {ws rts : List Int} (h : MarkRes w w' v ws rts) : ∃ er LV a2 c2, v = .tuple #[.slice a2 LV.length c2, .int .i64 er] ∧ Rd w' a2 (LV.map iv) ∧ (LV.length ≤ 9223372036854775807 ∧ ∀ z, a2 = some z → w.heap.size ≤ z.block) ∧ Keep [] w w' ∧ MarkIs ws rts er LV := h
theorem coll_is {w w' : World} {v : Value} {ws rts : List Int} (h : CollRes w w' v ws rts) : ∃ er xs rs a2 c2 a3 c3, v = .tuple #[.slice a2 xs.length c2, .slice a3 rs.length c3, .int .i64 er] ∧ Sl w' 2 1 a2 xs.length c2 (xs.map iv) ∧ ((∀ z, a2 = some z → w.heap.size ≤ z.block) ∧ ∀ z, a3 = some z → w.heap.size ≤ z.block) ∧ Rd w' a3 (rs.map iv) ∧ rs.length ≤ 9223372036854775807 ∧ Keep [] w w' ∧ CollIs ws rts er xs rs := h
def sw : List Int := [0, 262174, 5, 262147, 1, 30]
theorem sw5 : chain sw 5 = some [5] := by
  rw [chain_yes sw 5 (by decide) (by decide), show 5 + 1 + (openW (sw[5]'(by decide))).2.2.1.toNat = 6 by decide, chain_end sw 6 (by decide)]
  rfl
theorem sw3 : chain sw 3 = some [3, 5] := by
  rw [chain_yes sw 3 (by decide) (by decide), show 3 + 1 + (openW (sw[3]'(by decide))).2.2.1.toNat = 5 by decide, sw5]
  rfl
theorem sw1 : chain sw 1 = some [1, 3, 5] := by
  rw [chain_yes sw 1 (by decide) (by decide), show 1 + 1 + (openW (sw[1]'(by decide))).2.2.1.toNat = 3 by decide, sw3]
  rfl
theorem sw_blocks : blocksW sw = some [1, 3, 5] := by
  rw [blocks_b sw _ (by decide) (by decide) sw1, if_pos (by decide)]
theorem sw_r3 : refsW sw 3 = [4] := by decide
theorem sw_r1 : refsW sw 1 = [] := by decide
theorem sw_r5 : refsW sw 5 = [] := by decide
theorem sw_live3 : IsLive sw [3] [1, 3] := by
  refine ⟨by decide, fun x => ⟨fun h => ?_, fun h => ?_⟩⟩
  · have h3 : Reach sw [3] 3 := .root (by simp) (by decide)
    simp only [List.mem_cons, List.not_mem_nil, or_false] at h
    rcases h with rfl | rfl
    · exact Reach.step (c := 4) h3 (by rw [sw_r3]; simp) (by decide)
    · exact h3
  · induction h with
    | root h1 h2 => simp at h1; subst h1; decide
    | step h1 h2 h3 ih =>
      simp only [List.mem_cons, List.not_mem_nil, or_false] at ih
      rcases ih with rfl | rfl
      · rw [sw_r1] at h2; simp at h2
      · rw [sw_r3] at h2; simp at h2; subst h2; decide
theorem sw_live5 : IsLive sw [5] [5] := by
  refine ⟨by decide, fun x => ⟨fun h => ?_, fun h => ?_⟩⟩
  · simp only [List.mem_cons, List.not_mem_nil, or_false] at h
    subst h; exact .root (by simp) (by decide)
  · induction h with
    | root h1 h2 => exact h1
    | step h1 h2 h3 ih =>
      simp only [List.mem_cons, List.not_mem_nil, or_false] at ih
      subst ih
      rw [sw_r5] at h2; simp at h2
theorem sw_ok3 : rootsOk sw [1, 3, 5] [3] := by intro r hr; simp at hr; subst hr; decide
theorem sw_ok5 : rootsOk sw [1, 3, 5] [5] := by intro r hr; simp at hr; subst hr; decide
theorem sw_no2 : ¬ rootsOk sw [1, 3, 5] [2] := fun h => absurd ((h 2 (by simp)).2.2 (by decide)) (by decide)
theorem sw_mark : MarkIs sw [3] 0 [1, 3] := .inr (.inr ⟨rfl, sw_live3, _, sw_blocks, sw_ok3⟩)
theorem sw_coll3 : CollIs sw [3] 0 (sw.take 5) [3] := .inr (.inr ⟨rfl, _, _, sw_blocks, sw_ok3, sw_live3, by decide, by decide⟩)
theorem sw_coll5 : CollIs sw [5] 0 [0, 30] [1] := .inr (.inr ⟨rfl, _, _, sw_blocks, sw_ok5, sw_live5, by decide, by decide⟩)
theorem sw_coll2 : CollIs sw [2] 1 [] [] := .inr (.inl ⟨rfl, rfl, rfl, _, sw_blocks, sw_no2⟩)
end Go.Proofs.YtchbidckckmobaaDoor

/- law20.fixed. No condition beyond what each contract names. -/
namespace Go.Proofs.YtchbidckckmobaaDoor
open Go.RowKit E
set_option linter.unusedVariables false
set_option linter.unusedSimpArgs false
set_option maxRecDepth 100000
attribute [local irreducible] ow qw kw kq cw opW Ret
set_option maxHeartbeats 1000000 in
theorem fixed20_ok (w : World) (ht : TabTz w) : Ret Tryd.prog 16 [] w (fun v w' => v = .bool true ∧ Keep [] w w') := by
  refine fn_enter (n := 85) Tryd.func16 rfl rfl (Nat.le_of_ble_eq_true rfl) (fun e => ?_)
  refine k_seq ?_
  refine k_region ?_
  refine m_bool rfl rfl ?_
  refine o_nil ?_
  refine k_seq ?_
  refine k_region ?_
  refine o_call rfl rfl (h20_ok w 2 7 1) (fun v w1 hv => ?_)
  obtain ⟨rfl, rfl⟩ := hv
  refine o_call rfl rfl (h20_ok w1 3 0 1) (fun v w2 hv => ?_)
  obtain ⟨rfl, rfl⟩ := hv
  refine o_call rfl rfl (h20_ok w2 2 7 0) (fun v w3 hv => ?_)
  obtain ⟨rfl, rfl⟩ := hv
  rw [show (headW 2 7 1 0).1 = 262174 by decide, show (headW 3 0 1 0).1 = 262147 by decide, show (headW 2 7 0 0).1 = 30 by decide]
  refine o_bsl (E := 2) (cs := #[iv 0, iv 262174, iv 5, iv 262147, iv 1, iv 30]) rfl (fun _ => by kernel_rfl) (fun g4 w4 hB4 hK4 hb4 hZ4 => ?_)
  have hS4 : Sl w4 2 1 (some ⟨g4, 0, none⟩) 6 6 (sw.map iv) := hB4.sl (len := 6) (sz := 1) rfl (by decide)
  refine m_sl rfl rfl ?_
  refine o_nil ?_
  refine k_seq ?_
  refine k_region ?_
  refine m_sl rfl rfl ?_
  refine o_bsl (E := 3) (cs := #[iv 3]) rfl (fun _ => by kernel_rfl) (fun g5 w5 hB5 hK5 hb5 hZ5 => ?_)
  have hS5 : Sl w5 3 1 (some ⟨g5, 0, none⟩) 1 1 (([3] : List Int).map iv) := hB5.sl (len := 1) (sz := 1) rfl (by decide)
  have hK45 := hK4.tr hK5
  refine o_call rfl rfl (smark_ok w5 (some ⟨g4, 0, none⟩) (some ⟨g5, 0, none⟩) 6 1 sw [3] (hS4.new hK5).rd hS5.rd (by decide) (by decide) (ht.new hK45)) (fun v w6 hv => ?_)
  obtain ⟨er, LV, a6, c6, rfl, hR6, hL6, hK6, hm⟩ := mark_is hv
  obtain ⟨rfl, rfl⟩ := hm.one sw_mark
  have hK46 := hK45.tr hK6
  refine m_any rfl rfl ?_
  refine o_extr rfl rfl ?_
  refine o_extr rfl rfl ?_
  refine m_sl rfl rfl ?_
  refine m_int rfl rfl ?_
  refine o_nil ?_
  refine k_seq ?_
  refine k_region ?_
  refine m_sl rfl rfl ?_
  refine o_bsl (E := 3) (cs := #[iv 3]) rfl (fun _ => by kernel_rfl) (fun g7 w7 hB7 hK7 hb7 hZ7 => ?_)
  have hS7 : Sl w7 3 1 (some ⟨g7, 0, none⟩) 1 1 (([3] : List Int).map iv) := hB7.sl (len := 1) (sz := 1) rfl (by decide)
  have hK57 := (hK5.tr hK6).tr hK7
  refine o_call rfl rfl (scoll_ok w7 (some ⟨g4, 0, none⟩) (some ⟨g7, 0, none⟩) 6 1 sw [3] (hS4.new hK57).rd hS7.rd (by decide) (by decide) (by decide) (by decide) (ht.new (hK46.tr hK7))) (fun v w8 hv => ?_)
  obtain ⟨er, xs, rs, a8, c8, b8, d8, rfl, hS8, _, hR8, _, hK8, hm⟩ := coll_is hv
  obtain ⟨rfl, rfl, rfl⟩ := hm.one sw_coll3
  have hK58 := hK57.tr hK8
  refine m_any rfl rfl ?_
  refine o_extr rfl rfl ?_
  refine o_extr rfl rfl ?_
  refine o_extr rfl rfl ?_
  refine m_sl rfl rfl ?_
  refine m_sl rfl rfl ?_
  refine m_int rfl rfl ?_
  refine o_nil ?_
  refine k_seq ?_
  refine k_region ?_
  refine m_sl rfl rfl ?_
  refine o_bsl (E := 3) (cs := #[iv 5]) rfl (fun _ => by kernel_rfl) (fun g9 w9 hB9 hK9 hb9 hZ9 => ?_)
  have hS9 : Sl w9 3 1 (some ⟨g9, 0, none⟩) 1 1 (([5] : List Int).map iv) := hB9.sl (len := 1) (sz := 1) rfl (by decide)
  have hK59 := hK58.tr hK9
  refine o_call rfl rfl (scoll_ok w9 (some ⟨g4, 0, none⟩) (some ⟨g9, 0, none⟩) 6 1 sw [5] (hS4.new hK59).rd hS9.rd (by decide) (by decide) (by decide) (by decide) (ht.new (hK4.tr hK59))) (fun v w10 hv => ?_)
  obtain ⟨er, xs, rs, a10, c10, b10, d10, rfl, hS10, _, hR10, _, hK10, hm⟩ := coll_is hv
  obtain ⟨rfl, rfl, rfl⟩ := hm.one sw_coll5
  have hK510 := hK59.tr hK10
  refine m_any rfl rfl ?_
  refine o_extr rfl rfl ?_
  refine o_extr rfl rfl ?_
  refine o_extr rfl rfl ?_
  refine m_sl rfl rfl ?_
  refine m_sl rfl rfl ?_
  refine m_int rfl rfl ?_
  refine o_nil ?_
  refine k_seq ?_
  refine k_region ?_
  refine m_sl rfl rfl ?_
  refine o_bsl (E := 3) (cs := #[iv 2]) rfl (fun _ => by kernel_rfl) (fun g11 w11 hB11 hK11 hb11 hZ11 => ?_)
  have hS11 : Sl w11 3 1 (some ⟨g11, 0, none⟩) 1 1 (([2] : List Int).map iv) := hB11.sl (len := 1) (sz := 1) rfl (by decide)
  have hK511 := hK510.tr hK11
  refine o_call rfl rfl (scoll_ok w11 (some ⟨g4, 0, none⟩) (some ⟨g11, 0, none⟩) 6 1 sw [2] (hS4.new hK511).rd hS11.rd (by decide) (by decide) (by decide) (by decide) (ht.new (hK4.tr hK511))) (fun v w12 hv => ?_)
  obtain ⟨er, xs, rs, a12, c12, b12, d12, rfl, hS12, _, hR12, _, hK12, hm⟩ := coll_is hv
  obtain ⟨rfl, rfl, rfl⟩ := hm.one sw_coll2
  have hK512 := hK511.tr hK12
  have hK612 := (((((hK7.tr hK8).tr hK9).tr hK10).tr hK11).tr hK12)
  have hK812 := (((hK9.tr hK10).tr hK11).tr hK12)
  refine m_any rfl rfl ?_
  refine o_extr rfl rfl ?_
  refine o_extr rfl rfl ?_
  refine o_extr rfl rfl ?_
  refine m_sl rfl rfl ?_
  refine m_sl rfl rfl ?_
  refine m_int rfl rfl ?_
  refine o_nil ?_
  refine k_seq ?_
  refine k_region ?_
  refine m_sl rfl rfl ?_
  refine o_bsl (E := 3) (cs := #[iv 1, iv 3]) rfl (fun _ => by kernel_rfl) (fun g13 w13 hB13 hK13 hb13 hZ13 => ?_)
  have hS13 : Sl w13 3 1 (some ⟨g13, 0, none⟩) 2 2 (([1, 3] : List Int).map iv) := hB13.sl (len := 2) (sz := 1) rfl (by decide)
  refine o_call rfl rfl (same_ok w13 a6 (some ⟨g13, 0, none⟩) 2 2 c6 2 [1, 3] [1, 3] (hR6.new (hK612.tr hK13)) hS13.rd rfl rfl (by decide)) (fun v w14 hv => ?_)
  obtain ⟨rfl, hK14⟩ := hv
  refine m_bool rfl rfl ?_
  refine o_true (t := 47) rfl (rfl) ?_
  refine g_yes rfl rfl ?_
  refine m_int rfl rfl ?_
  refine g_yes rfl rfl ?_
  refine b_eql rfl rfl ?_
  refine pick_t rfl rfl ?_
  refine m_bool rfl rfl ?_
  refine o_true (t := 51) rfl (rfl) ?_
  refine g_yes rfl rfl ?_
  refine m_sl rfl rfl ?_
  refine g_yes rfl rfl ?_
  refine m_sl rfl rfl ?_
  refine g_yes rfl rfl ?_
  refine o_slh (hi := 5) (sz := 1) Tryd.underlying22 rfl rfl rfl (by decide) ?_
  refine g_yes rfl rfl ?_
  refine o_call rfl rfl (samw_ok w14 a8 (some ⟨g4, 0, none⟩) c8 6 (sw.take 5) (sw.take 5) (hS8.rd.new ((hK812.tr hK13).tr hK14)) (by rw [List.map_take]; exact (hS4.rd.new ((hK512.tr hK13).tr hK14)).take 5) (by decide) (by decide)) (fun v w15 hv => ?_)
  obtain ⟨rfl, hK15⟩ := hv
  refine pick_t rfl rfl ?_
  refine m_bool rfl rfl ?_
  refine o_true (t := 57) rfl (rfl) ?_
  refine g_yes rfl rfl ?_
  refine m_sl rfl rfl ?_
  refine g_yes rfl rfl ?_
  refine o_bsl (E := 3) (cs := #[iv 3]) rfl (fun _ => by kernel_rfl) (fun g16 w16 hB16 hK16 hb16 hZ16 => ?_)
  have hS16 : Sl w16 3 1 (some ⟨g16, 0, none⟩) 1 1 (([3] : List Int).map iv) := hB16.sl (len := 1) (sz := 1) rfl (by decide)
  have hK1216 := ((hK13.tr hK14).tr hK15).tr hK16
  refine g_yes rfl rfl ?_
  refine o_call rfl rfl (same_ok w16 b8 (some ⟨g16, 0, none⟩) 1 1 d8 1 [3] [3] (hR8.new (hK812.tr hK1216)) hS16.rd rfl rfl (by decide)) (fun v w17 hv => ?_)
  obtain ⟨rfl, hK17⟩ := hv
  refine pick_t rfl rfl ?_
  refine m_bool rfl rfl ?_
  refine o_true (t := 62) rfl (rfl) ?_
  refine g_yes rfl rfl ?_
  refine m_int rfl rfl ?_
  refine g_yes rfl rfl ?_
  refine b_eql rfl rfl ?_
  refine pick_t rfl rfl ?_
  refine m_bool rfl rfl ?_
  refine o_true (t := 66) rfl (rfl) ?_
  refine g_yes rfl rfl ?_
  refine m_sl rfl rfl ?_
  refine g_yes rfl rfl ?_
  refine o_call rfl rfl (h20_ok w17 2 7 0) (fun v w18 hv => ?_)
  obtain ⟨rfl, rfl⟩ := hv
  rw [show (headW 2 7 0 0).1 = 30 by decide]
  refine g_yes rfl rfl ?_
  refine o_bsl (E := 2) (cs := #[iv 0, iv 30]) rfl (fun _ => by kernel_rfl) (fun g19 w19 hB19 hK19 hb19 hZ19 => ?_)
  have hS19 : Sl w19 2 1 (some ⟨g19, 0, none⟩) 2 2 (([0, 30] : List Int).map iv) := hB19.sl (len := 2) (sz := 1) rfl (by decide)
  have hK1019 := ((hK11.tr hK12).tr (hK1216.tr hK17)).tr hK19
  refine g_yes rfl rfl ?_
  refine o_call rfl rfl (samw_ok w19 a10 (some ⟨g19, 0, none⟩) c10 2 [0, 30] [0, 30] (hS10.rd.new hK1019) hS19.rd (by decide) (by decide)) (fun v w20 hv => ?_)
  obtain ⟨rfl, hK20⟩ := hv
  refine pick_t rfl rfl ?_
  refine m_bool rfl rfl ?_
  refine o_true (t := 72) rfl (rfl) ?_
  refine g_yes rfl rfl ?_
  refine m_sl rfl rfl ?_
  refine g_yes rfl rfl ?_
  refine o_bsl (E := 3) (cs := #[iv 1]) rfl (fun _ => by kernel_rfl) (fun g21 w21 hB21 hK21 hb21 hZ21 => ?_)
  have hS21 : Sl w21 3 1 (some ⟨g21, 0, none⟩) 1 1 (([1] : List Int).map iv) := hB21.sl (len := 1) (sz := 1) rfl (by decide)
  refine g_yes rfl rfl ?_
  refine o_call rfl rfl (same_ok w21 b10 (some ⟨g21, 0, none⟩) 1 1 d10 1 [1] [1] (hR10.new ((hK1019.tr hK20).tr hK21)) hS21.rd rfl rfl (by decide)) (fun v w22 hv => ?_)
  obtain ⟨rfl, hK22⟩ := hv
  refine pick_t rfl rfl ?_
  refine m_bool rfl rfl ?_
  refine o_true (t := 77) rfl (rfl) ?_
  refine g_yes rfl rfl ?_
  refine m_int rfl rfl ?_
  refine g_yes rfl rfl ?_
  refine b_eql rfl rfl ?_
  refine pick_t rfl rfl ?_
  refine m_bool rfl rfl ?_
  refine o_true (t := 81) rfl (rfl) ?_
  refine g_yes rfl rfl ?_
  refine m_int rfl rfl ?_
  refine g_yes rfl rfl ?_
  refine b_eql rfl rfl ?_
  refine pick_t rfl rfl ?_
  refine m_bool rfl rfl ?_
  refine o_nil ?_
  refine k_ret (ret_tmps (ts := [0]) (v := .bool _) rfl rfl ?_)
  exact ⟨rfl, (((((hK4.tr hK512).tr hK1216).tr hK17).tr hK19).tr hK20).tr (hK21.tr hK22)⟩
end Go.Proofs.YtchbidckckmobaaDoor

/- What is collected is an arena, all of it reached, plain. No condition beyond what each lemma names. -/
namespace Go.Proofs.YtchbidckckmobaaDoor
open Go.RowKit E
set_option linter.unusedVariables false
set_option linter.unusedSimpArgs false
set_option maxRecDepth 100000
attribute [local irreducible] ow qw kw kq cw opW Ret
theorem refU_map (kind mask p : Int) (i : Nat) : refU kind mask p i = (refU kind mask 0 i).map (p + ·) := by
  induction i with
  | zero => rfl
  | succ i ih =>
    unfold refU
    rw [List.map_append, ← ih]
    congr 1
    split
    · simp only [List.map_cons, List.map_nil]; congr 1; omega
    · rfl
theorem refs_map {ws : List Int} {k m : Nat} (hk : k < ws.length) (h0 : (openW (ws.getD k 0)).2.2.2.2 = 0) (hm : (openW (ws.getD k 0)).2.2.1 = (m : Int)) (hkm : k + 1 + m ≤ ws.length) : refsW ws (k : Int) = (refU (openW (ws.getD k 0)).1 (openW (ws.getD k 0)).2.2.2.1 0 m).map ((k : Int) + ·) := by
  have e := getD_get ws k hk
  rw [refsW_at ws k hk, ← e]
  unfold refsO
  rw [if_pos ⟨h0, by rw [hm]; omega⟩, hm, refU_map]
  rfl
structure NewAt (ws xs LV : List Int) (y : Int) (k p m : Nat) (T : List Int) : Prop where
  yk : y = (k : Int)
  ap : adr ws LV 1 y = (p : Int)
  k1 : 1 ≤ k
  p1 : 1 ≤ p
  kw : k + 1 + m ≤ ws.length
  pw : p + 1 + m ≤ xs.length
  hd : xs.getD p 0 = ws.getD k 0
  er : (openW (ws.getD k 0)).2.2.2.2 = 0
  nn : (openW (ws.getD k 0)).2.2.1 = (m : Int)
  m9 : m ≤ 65536
  rk : refsW ws (k : Int) = T.map ((k : Int) + ·)
  rp : refsW xs (p : Int) = T.map ((p : Int) + ·)
  T1 : ∀ t ∈ T, 1 ≤ t ∧ t ≤ m
  cell : ∀ j : Nat, j ≤ m → xs.getD (p + j) 0 = if (j : Int) ∈ T then adr ws LV 1 (ws.getD (k + j) 0) else ws.getD (k + j) 0
theorem out_len (ws LV : List Int) : (outW ws LV).length = 1 + sumN ws LV := by
  unfold outW; rw [List.length_cons, flat_len ws _ (newB_len ws LV)]; omega
theorem out_at (ws pre post : List Int) (y : Int) (j : Nat) (LV : List Int) (hL : LV = pre ++ y :: post) (hj : j < szN ws y) : (outW ws LV).getD (1 + sumN ws pre + j) 0 = (newB ws LV y).getD j 0 := by
  have e : outW ws LV = (0 :: pre.flatMap (newB ws LV)) ++ (newB ws LV y ++ post.flatMap (newB ws LV)) := by
    show 0 :: LV.flatMap (newB ws LV) = _
    conv => lhs; arg 2; arg 2; rw [hL]
    simp
  have hl : (0 :: pre.flatMap (newB ws LV)).length = 1 + sumN ws pre := by rw [List.length_cons, flat_len ws _ (newB_len ws LV)]; omega
  rw [e, List.getD_eq_getElem?_getD, List.getElem?_append_right (by omega), List.getElem?_append_left (by rw [newB_len]; omega), List.getD_eq_getElem?_getD, hl, Nat.add_sub_cancel_left]
theorem newB_d (ws LV : List Int) (y : Int) (j : Nat) (hj : j < szN ws y) : (newB ws LV y).getD j 0 = if y + (j : Int) ∈ refsW ws y then adr ws LV 1 (ws.getD (y.toNat + j) 0) else ws.getD (y.toNat + j) 0 := by
  rw [List.getD_eq_getElem?_getD, List.getElem?_eq_getElem (by rw [newB_len]; exact hj)]
  simp [newB, midB]
theorem new_at {ws L LV : List Int} (hb : blocksW ws = some L) (hLV : ∀ x ∈ LV, x ∈ L) (hup : LV.Pairwise (· < ·)) {pre post : List Int} {y : Int} (hs : LV = pre ++ y :: post) : ∃ k m : Nat, NewAt ws (outW ws LV) LV y k (1 + sumN ws pre) m (refU (openW (ws.getD k 0)).1 (openW (ws.getD k 0)).2.2.2.1 0 m) ∧ szN ws y = 1 + m := by
  obtain ⟨k, hk, rfl, hk1, h0, m, hm, hno, hsz, hkm, hm9⟩ := blk_at hb (hLV y (by rw [hs]; simp))
  have e := getD_get ws k hk
  rw [← e] at h0 hm
  have hrk := refs_map hk h0 hm hkm
  have hT1 : ∀ t ∈ refU (openW (ws.getD k 0)).1 (openW (ws.getD k 0)).2.2.2.1 0 m, 1 ≤ t ∧ t ≤ m := fun t ht => by have := refU_lt _ _ _ _ t ht; omega
  have hcell : ∀ j : Nat, j ≤ m → (outW ws LV).getD (1 + sumN ws pre + j) 0 = if (j : Int) ∈ refU (openW (ws.getD k 0)).1 (openW (ws.getD k 0)).2.2.2.1 0 m then adr ws LV 1 (ws.getD (k + j) 0) else ws.getD (k + j) 0 := fun j hj => by
    rw [out_at ws pre post (k : Int) j LV hs (by omega), newB_d ws LV (k : Int) j (by omega), hrk, Int.toNat_natCast]
    have : (k : Int) + (j : Int) ∈ (refU (openW (ws.getD k 0)).1 (openW (ws.getD k 0)).2.2.2.1 0 m).map ((k : Int) + ·) ↔ (j : Int) ∈ refU (openW (ws.getD k 0)).1 (openW (ws.getD k 0)).2.2.2.1 0 m := by
      rw [List.mem_map]
      exact ⟨fun ⟨t, ht, he⟩ => by rwa [show t = (j : Int) by omega] at ht, fun ht => ⟨_, ht, rfl⟩⟩
    simp only [this]
  have hhd : (outW ws LV).getD (1 + sumN ws pre) 0 = ws.getD k 0 := by
    have := hcell 0 (Nat.zero_le _)
    rw [Nat.add_zero, Nat.add_zero, if_neg (fun h => by have := hT1 _ h; omega)] at this
    exact this
  have hpw : 1 + sumN ws pre + 1 + m ≤ (outW ws LV).length := by
    rw [out_len, hs, sumN_app]
    simp only [sumN, hsz]
    omega
  refine ⟨k, m, ⟨rfl, ?_, hk1, by omega, hkm, hpw, hhd, h0, hm, hm9, hrk, ?_, hT1, hcell⟩, hsz⟩
  · rw [hs]; exact adr_mid ws pre post _ (up_notin (hs ▸ hup))
  · rw [refs_map (by omega) (by rw [hhd]; exact h0) (by rw [hhd]; exact hm) hpw, hhd]
theorem NewAt.sz {ws xs LV : List Int} {y : Int} {k p m : Nat} {T : List Int} (h : NewAt ws xs LV y k p m T) : szN xs (p : Int) = 1 + m := by
  unfold szN nOf
  rw [Int.toNat_natCast, h.hd, h.nn]
  omega
theorem chain_sum' (ws : List Int) (d : Nat) : ∀ p, ws.length - p ≤ d → p ≤ ws.length → ∀ L, chain ws p = some L → p + sumN ws L = ws.length := by
  induction d with
  | zero =>
    intro p hd hp L h
    rw [chain_end ws p (by omega)] at h
    obtain rfl := Option.some.inj h
    simp [sumN]; omega
  | succ d ih =>
    intro p hd hpl L h
    by_cases hp : p < ws.length
    · by_cases hc : (openW (ws[p])).2.2.2.2 = 0 ∧ (openW (ws[p])).2.2.1 ≤ (ws.length : Int) - p - 1
      · rw [chain_yes ws p hp hc] at h
        obtain ⟨M, hM, rfl⟩ := Option.map_eq_some_iff.1 h
        have hn0 := (open_f _ hc.1).n0
        have := ih _ (by omega) (by omega) M hM
        simp only [sumN]
        have : szN ws (p : Int) = 1 + (openW (ws[p])).2.2.1.toNat := by unfold szN nOf; rw [Int.toNat_natCast, getD_get ws p hp]
        omega
      · rw [chain_no ws p hp hc] at h
        simp at h
    · rw [chain_end ws p hp] at h
      obtain rfl := Option.some.inj h
      simp [sumN]; omega
theorem sumN_filter (ws : List Int) (p : Int → Bool) (L : List Int) : sumN ws (L.filter p) ≤ sumN ws L := by
  induction L with
  | nil => simp
  | cons x L ih =>
    rw [List.filter_cons]
    split <;> simp only [sumN] <;> omega
/-- what is collected is not longer -/
theorem out_le {ws L LV : List Int} (hb : blocksW ws = some L) (hLV : ∀ x ∈ LV, x ∈ L) (hup : LV.Pairwise (· < ·)) : (outW ws LV).length ≤ ws.length := by
  have h1 := chain_sum' ws _ 1 (Nat.le_refl _) (by have := (blocks_ch hb).1; omega) L (blocks_ch hb).2.2.1
  have e : LV = L.filter (fun x => decide (x ∈ LV)) := up_one _ _ hup ((blocks_up hb).1.sublist List.filter_sublist) (fun x => by
    rw [List.mem_filter, decide_eq_true_eq]
    exact ⟨fun h => ⟨hLV x h, h⟩, fun h => h.2⟩)
  have h2 := sumN_filter ws (fun x => decide (x ∈ LV)) L
  rw [← e] at h2
  rw [out_len]
  omega
end Go.Proofs.YtchbidckckmobaaDoor

/- What is collected, collected again, plain. No condition beyond what each lemma names. -/
namespace Go.Proofs.YtchbidckckmobaaDoor
open Go.RowKit E
set_option linter.unusedVariables false
set_option linter.unusedSimpArgs false
set_option maxRecDepth 100000
attribute [local irreducible] ow qw kw kq cw opW Ret
/-- what is fixed: an arena, its roots, what they reach -/
structure SL (ws L rts LV : List Int) : Prop where
  hb : blocksW ws = some L
  hr : rootsOk ws L rts
  hl : IsLive ws rts LV
variable {ws L rts LV : List Int}
theorem SL.sub (h : SL ws L rts LV) : ∀ x ∈ LV, x ∈ L := fun x hx => reach_L h.hb h.hr ((h.hl.2 x).1 hx)
theorem SL.at (h : SL ws L rts LV) {pre post : List Int} {y : Int} (hs : LV = pre ++ y :: post) : ∃ k m : Nat, NewAt ws (outW ws LV) LV y k (1 + sumN ws pre) m (refU (openW (ws.getD k 0)).1 (openW (ws.getD k 0)).2.2.2.1 0 m) ∧ szN ws y = 1 + m := new_at h.hb h.sub h.hl.1 hs
theorem SL.of (h : SL ws L rts LV) {y : Int} (hy : y ∈ LV) : ∃ (k p m : Nat) (T : List Int), NewAt ws (outW ws LV) LV y k p m T ∧ szN ws y = 1 + m := by
  obtain ⟨pre, post, hs⟩ := List.append_of_mem hy
  obtain ⟨k, m, h1, h2⟩ := h.at hs
  exact ⟨k, _, m, _, h1, h2⟩
theorem SL.zero (h : SL ws L rts LV) : adr ws LV 1 0 = 0 := adr_out ws LV 1 0 (fun hm => by obtain ⟨k, e, h1, _⟩ := L_rng h.hb (h.sub 0 hm); omega)
theorem SL.tgt (h : SL ws L rts LV) {y c : Int} (hy : y ∈ LV) (hc : c ∈ refsW ws y) : ws.getD c.toNat 0 = 0 ∨ ws.getD c.toNat 0 ∈ LV := by
  by_cases h0 : ws.getD c.toNat 0 = 0
  · exact .inl h0
  · exact .inr ((h.hl.2 _).2 (.step ((h.hl.2 y).1 hy) hc h0))
theorem SL.root (h : SL ws L rts LV) {r : Int} (hr : r ∈ rts) : r = 0 ∨ r ∈ LV := by
  by_cases h0 : r = 0
  · exact .inl h0
  · exact .inr ((h.hl.2 _).2 (.root hr h0))
theorem SL.mem (h : SL ws L rts LV) {z : Int} (hz : z = 0 ∨ z ∈ LV) : adr ws LV 1 z ∈ 0 :: LV.map (adr ws LV 1) := by
  rcases hz with rfl | hz
  · rw [h.zero]; simp
  · exact List.mem_cons_of_mem _ (List.mem_map.2 ⟨z, hz, rfl⟩)
theorem SL.chn (h : SL ws L rts LV) : ∀ (suf pre : List Int), LV = pre ++ suf → chain (outW ws LV) (1 + sumN ws pre) = some (suf.map (adr ws LV 1))
  | [], pre, hs => by
    rw [List.append_nil] at hs
    rw [chain_end _ _ (by rw [out_len, hs]; omega)]
    rfl
  | y :: post, pre, hs => by
    obtain ⟨k, m, hN, hsz⟩ := h.at hs
    have hp : 1 + sumN ws pre < (outW ws LV).length := by have := hN.pw; omega
    have e := getD_get (outW ws LV) _ hp
    have hx : (outW ws LV)[1 + sumN ws pre] = ws.getD k 0 := by rw [← e]; exact hN.hd
    rw [chain_yes _ _ hp (by rw [hx]; exact ⟨hN.er, by rw [hN.nn]; have := hN.pw; omega⟩), hx, hN.nn, Int.toNat_natCast]
    have hI := h.chn post (pre ++ [y]) (by simp [hs])
    rw [show 1 + sumN ws (pre ++ [y]) = 1 + sumN ws pre + 1 + m by rw [sumN_app]; simp only [sumN, hsz]; omega] at hI
    rw [hI, List.map_cons, hN.ap]
    rfl
theorem SL.rok (h : SL ws L rts LV) {y : Int} (hy : y ∈ LV) : refOk (outW ws LV) (LV.map (adr ws LV 1)) (adr ws LV 1 y) := by
  obtain ⟨k, p, m, T, hN, hsz⟩ := h.of hy
  intro r hr
  rw [hN.ap, hN.rp] at hr
  obtain ⟨t, ht, rfl⟩ := List.mem_map.1 hr
  obtain ⟨h1, h2⟩ := hN.T1 t ht
  obtain ⟨j, rfl⟩ : ∃ j : Nat, t = j := ⟨t.toNat, by omega⟩
  have hc := hN.cell j (by omega)
  rw [if_pos ht] at hc
  rw [show ((p : Int) + (j : Int)).toNat = p + j by omega, hc]
  have hin : (k : Int) + (j : Int) ∈ refsW ws y := by rw [hN.yk, hN.rk]; exact List.mem_map.2 ⟨_, ht, rfl⟩
  have := h.tgt hy hin
  rw [show ((k : Int) + (j : Int)).toNat = k + j by omega] at this
  exact h.mem this
theorem SL.len0 (_h : SL ws L rts LV) : 0 < (outW ws LV).length := by rw [out_len]; omega
theorem SL.blocks (h : SL ws L rts LV) : blocksW (outW ws LV) = some (LV.map (adr ws LV 1)) := by
  rw [blocks_b (outW ws LV) (LV.map (adr ws LV 1)) h.len0 rfl (h.chn LV [] rfl), if_pos]
  intro b hb
  obtain ⟨y, hy, rfl⟩ := List.mem_map.1 hb
  exact h.rok hy
theorem SL.rng (h : SL ws L rts LV) {y : Int} (hy : y ∈ LV) : 1 ≤ adr ws LV 1 y ∧ adr ws LV 1 y < (outW ws LV).length := by
  obtain ⟨k, p, m, T, hN, hsz⟩ := h.of hy
  have h1 := hN.p1
  have h2 := hN.pw
  rw [hN.ap]
  omega
theorem SL.roots (h : SL ws L rts LV) : rootsOk (outW ws LV) (LV.map (adr ws LV 1)) (rts.map (adr ws LV 1)) := by
  intro r hr
  obtain ⟨q, hq, rfl⟩ := List.mem_map.1 hr
  have h0 := h.len0
  rcases h.root hq with rfl | hl
  · rw [h.zero]; exact ⟨by omega, by omega, fun hh => by omega⟩
  · have := h.rng hl
    exact ⟨by omega, by omega, fun _ => List.mem_map.2 ⟨q, hl, rfl⟩⟩
theorem SL.reach (h : SL ws L rts LV) {x : Int} (hx : Reach ws rts x) : Reach (outW ws LV) (rts.map (adr ws LV 1)) (adr ws LV 1 x) := by
  induction hx with
  | root h1 h2 =>
    have := h.rng ((h.root h1).resolve_left h2)
    exact .root (List.mem_map.2 ⟨_, h1, rfl⟩) (by omega)
  | @step a c h1 h2 h3 ih =>
    have ha := (h.hl.2 a).2 h1
    have hz := (h.tgt ha h2).resolve_left h3
    obtain ⟨k, p, m, T, hN, hsz⟩ := h.of ha
    rw [hN.yk, hN.rk] at h2
    obtain ⟨t, ht, rfl⟩ := List.mem_map.1 h2
    obtain ⟨h1', h2'⟩ := hN.T1 t ht
    obtain ⟨j, rfl⟩ : ∃ j : Nat, t = j := ⟨t.toNat, by omega⟩
    have hc := hN.cell j (by omega)
    rw [if_pos ht] at hc
    have e1 : ((k : Int) + (j : Int)).toNat = k + j := by omega
    rw [e1] at hz h3 ⊢
    have e2 : ((p : Int) + (j : Int)).toNat = p + j := by omega
    have hr := h.rng hz
    have hst := Reach.step (c := (p : Int) + (j : Int)) ih (by rw [hN.ap, hN.rp]; exact List.mem_map.2 ⟨_, ht, rfl⟩) (by rw [e2, hc]; omega)
    rw [e2, hc] at hst
    exact hst
theorem SL.live (h : SL ws L rts LV) : IsLive (outW ws LV) (rts.map (adr ws LV 1)) (LV.map (adr ws LV 1)) := by
  refine ⟨(blocks_up h.blocks).1, fun x => ⟨fun hx => ?_, fun hx => reach_L h.blocks h.roots hx⟩⟩
  obtain ⟨y, hy, rfl⟩ := List.mem_map.1 hx
  exact h.reach ((h.hl.2 y).1 hy)
theorem SL.sum (h : SL ws L rts LV) : ∀ l : List Int, (∀ y ∈ l, y ∈ LV) → sumN (outW ws LV) (l.map (adr ws LV 1)) = sumN ws l
  | [], _ => rfl
  | y :: l, hl => by
    obtain ⟨k, p, m, T, hN, hsz⟩ := h.of (hl y (by simp))
    rw [List.map_cons]
    simp only [sumN]
    rw [h.sum l (fun z hz => hl z (by simp [hz])), hN.ap, hN.sz, hsz]
theorem SL.adrE (h : SL ws L rts LV) {z : Int} (hz : z ∈ 0 :: LV.map (adr ws LV 1)) : adr (outW ws LV) (LV.map (adr ws LV 1)) 1 z = z := by
  rcases List.mem_cons.1 hz with rfl | hz
  · refine adr_out _ _ _ _ (fun hm => ?_)
    obtain ⟨y, hy, he⟩ := List.mem_map.1 hm
    have := h.rng hy
    omega
  · obtain ⟨y, hy, rfl⟩ := List.mem_map.1 hz
    obtain ⟨pre, post, hs⟩ := List.append_of_mem hy
    obtain ⟨k, m, hN, hsz⟩ := h.at hs
    have hp := h.live.1
    have e : LV.map (adr ws LV 1) = pre.map (adr ws LV 1) ++ adr ws LV 1 y :: post.map (adr ws LV 1) := by
      conv => lhs; arg 2; rw [hs]
      simp
    have hn := up_notin (e ▸ hp)
    rw [e, adr_mid _ _ _ _ hn, h.sum pre (fun z hz => by rw [hs]; simp [hz]), hN.ap]
theorem SL.out (h : SL ws L rts LV) : outW (outW ws LV) (LV.map (adr ws LV 1)) = outW ws LV := by
  have key : ∀ y ∈ LV, newB (outW ws LV) (LV.map (adr ws LV 1)) (adr ws LV 1 y) = newB ws LV y := by
    intro y hy
    obtain ⟨pre, post, hs⟩ := List.append_of_mem hy
    obtain ⟨k, m, hN, hsz⟩ := h.at hs
    have hsp := hN.sz
    apply List.ext_getElem
    · rw [newB_len, newB_len, hN.ap, hsp, hsz]
    · intro j h1 h2
      have hj : j < szN ws y := by rwa [newB_len] at h2
      have hj' : j < szN (outW ws LV) (adr ws LV 1 y) := by rwa [newB_len] at h1
      have e1 := newB_d (outW ws LV) (LV.map (adr ws LV 1)) (adr ws LV 1 y) j hj'
      have e2 := out_at ws pre post y j LV hs hj
      rw [List.getD_eq_getElem?_getD, List.getElem?_eq_getElem h1, Option.getD_some] at e1
      rw [List.getD_eq_getElem?_getD (l := newB ws LV y), List.getElem?_eq_getElem h2, Option.getD_some] at e2
      rw [e1, ← e2]
      rw [hN.ap, Int.toNat_natCast]
      split
      · rename_i hin
        have hok := h.rok hy
        rw [hN.ap] at hok
        have := hok _ hin
        rw [show ((((1 + sumN ws pre : Nat)) : Int) + (j : Int)).toNat = 1 + sumN ws pre + j by omega] at this
        exact h.adrE this
      · rfl
  show 0 :: (LV.map (adr ws LV 1)).flatMap (newB (outW ws LV) (LV.map (adr ws LV 1))) = 0 :: LV.flatMap (newB ws LV)
  rw [List.flatMap_map]
  congr 1
  have gen : ∀ l : List Int, (∀ y ∈ l, y ∈ LV) → l.flatMap (fun y => newB (outW ws LV) (LV.map (adr ws LV 1)) (adr ws LV 1 y)) = l.flatMap (newB ws LV) := by
    intro l
    induction l with
    | nil => intro _; rfl
    | cons y l ih =>
      intro hl
      rw [List.flatMap_cons, List.flatMap_cons, key y (hl y (by simp)), ih (fun z hz => hl z (by simp [hz]))]
  exact gen LV (fun y hy => hy)
theorem SL.mark (h : SL ws L rts LV) : MarkIs (outW ws LV) (rts.map (adr ws LV 1)) 0 (LV.map (adr ws LV 1)) := .inr (.inr ⟨rfl, h.live, _, h.blocks, h.roots⟩)
theorem SL.coll (h : SL ws L rts LV) : CollIs (outW ws LV) (rts.map (adr ws LV 1)) 0 (outW ws LV) (rts.map (adr ws LV 1)) := by
  refine .inr (.inr ⟨rfl, _, _, h.blocks, h.roots, h.live, h.out.symm, ?_⟩)
  rw [List.map_map]
  refine List.map_congr_left (fun r hr => ?_)
  exact (h.adrE (h.mem (h.root hr))).symm
theorem SL.le (h : SL ws L rts LV) : (outW ws LV).length ≤ ws.length := out_le h.hb h.sub h.hl.1
end Go.Proofs.YtchbidckckmobaaDoor

/- SlideMarks and SlideCollects. No condition beyond what each contract names. -/
namespace Go.Proofs.YtchbidckckmobaaDoor
open Go.RowKit E
set_option linter.unusedVariables false
set_option linter.unusedSimpArgs false
set_option maxRecDepth 100000
attribute [local irreducible] ow qw kw kq cw opW Ret
theorem sl_cap {w : World} {E : TypeId} {sz : Nat} {a : Option Addr} {m c : Nat} {xs : List Value} (h : Sl w E sz a m c xs) : c ≤ 9223372036854775807 := by
  rcases h.2 with ⟨_, _, rfl⟩ | ⟨g, cur, _, _, _, h2, _⟩
  · omega
  · simpa [maxLen] using h2
theorem marks_ok (w : World) (a ra : Option Addr) (c rc : Nat) (ws rts : List Int) (hW : Rd w a (ws.map iv)) (hR : Rd w ra (rts.map iv)) (hx : ∀ x ∈ ws, x ≤ 9223372036854775807) (ht : TabTz w) :
    Ret Tryd.prog 3 [.slice a ws.length c, .slice ra rts.length rc] w (fun v w' => v = .bool true ∧ Keep [] w w') := by
  refine fn_enter (n := 39) Tryd.func3 rfl rfl (Nat.le_of_ble_eq_true rfl) (fun e => ?_)
  refine k_seq ?_
  refine k_region ?_
  refine m_bool rfl rfl ?_
  refine o_nil ?_
  refine k_seq ?_
  refine k_seq ?_
  refine k_region ?_
  refine o_call rfl rfl (fixed20_ok w ht) (fun v w1 hv => ?_)
  obtain ⟨rfl, hK1⟩ := hv
  refine u_notb rfl ?_
  refine o_nil ?_
  refine k_condf rfl ?_
  refine k_skip ?_
  refine k_seq ?_
  refine k_seq ?_
  refine k_region ?_
  refine m_sl rfl rfl ?_
  refine o_lens Tryd.underlying22 rfl ?_
  refine b_gtr rfl rfl ?_
  refine m_bool rfl rfl ?_
  refine o_split (t := 14) rfl (fun h => ?_) (fun h => ?_)
  ·
    refine g_no rfl rfl rfl ?_
    refine g_no rfl rfl rfl ?_
    refine g_no rfl rfl rfl ?_
    refine pick_t rfl rfl ?_
    refine o_nil ?_
    refine k_condt rfl ?_
    refine k_seq ?_
    refine k_region ?_
    refine m_bool rfl rfl ?_
    refine o_nil ?_
    refine k_ret (ret_tmps (ts := [4]) (v := .bool _) rfl rfl ?_)
    exact ⟨rfl, hK1⟩
  ·
    refine g_yes rfl rfl ?_
    refine m_sl rfl rfl ?_
    refine g_yes rfl rfl ?_
    refine o_lens Tryd.underlying23 rfl ?_
    refine g_yes rfl rfl ?_
    refine b_gtr rfl rfl ?_
    refine pick_f rfl rfl ?_
    refine o_nil ?_
    refine k_cond rfl (fun h => ?_) (fun h => ?_)
    ·
      refine k_seq ?_
      refine k_region ?_
      refine m_bool rfl rfl ?_
      refine o_nil ?_
      refine k_ret (ret_tmps (ts := [4]) (v := .bool _) rfl rfl ?_)
      exact ⟨rfl, hK1⟩
    refine k_skip ?_
    refine k_seq ?_
    refine k_region ?_
    refine m_sl rfl rfl ?_
    refine m_sl rfl rfl ?_
    refine o_call rfl rfl (smark_ok w1 a ra c rc ws rts (hW.new hK1) (hR.new hK1) (by omega) (by omega) (ht.new hK1)) (fun v w2 hv => ?_)
    obtain ⟨er, LV, a2, c2, rfl, hR2, hL2, hK2, hm2⟩ := mark_is hv
    have hK02 := hK1.tr hK2
    refine m_any rfl rfl ?_
    refine o_extr rfl rfl ?_
    refine o_extr rfl rfl ?_
    refine m_sl rfl rfl ?_
    refine m_int rfl rfl ?_
    refine o_nil ?_
    refine k_seq ?_
    refine k_region ?_
    refine m_sl rfl rfl ?_
    refine m_sl rfl rfl ?_
    refine o_call rfl rfl (rmark_ok w2 a ra c rc ws rts (hW.new hK02) (hR.new hK02) (by omega) (by omega) hx) (fun v w3 hv => ?_)
    obtain ⟨er3, LV3, a3, c3, rfl, hR3, hL3, hK3, hm3⟩ := mark_is hv
    obtain ⟨rfl, rfl⟩ := hm2.one hm3
    refine m_any rfl rfl ?_
    refine o_extr rfl rfl ?_
    refine o_extr rfl rfl ?_
    refine m_sl rfl rfl ?_
    refine m_int rfl rfl ?_
    refine o_nil ?_
    refine k_seq ?_
    refine k_region ?_
    refine m_int rfl rfl ?_
    refine m_int rfl rfl ?_
    refine b_eql rfl rfl ?_
    refine m_bool rfl rfl ?_
    refine o_true (t := 34) rfl (rfl) ?_
    refine g_yes rfl rfl ?_
    refine m_sl rfl rfl ?_
    refine g_yes rfl rfl ?_
    refine m_sl rfl rfl ?_
    refine g_yes rfl rfl ?_
    refine o_call rfl rfl (same_ok w3 a2 a3 LV.length LV.length c2 c3 LV LV (hR2.new hK3) hR3 rfl rfl hL2) (fun v w4 hv => ?_)
    obtain ⟨rfl, hK4⟩ := hv
    refine pick_t rfl rfl ?_
    refine m_bool rfl rfl ?_
    refine o_nil ?_
    refine k_ret (ret_tmps (ts := [4]) (v := .bool _) rfl rfl ?_)
    exact ⟨congrArg Value.bool (decide_eq_true rfl), (hK02.tr hK3).tr hK4⟩
theorem colls_ok (w : World) (a ra : Option Addr) (c rc : Nat) (ws rts : List Int) (hW : Rd w a (ws.map iv)) (hR : Rd w ra (rts.map iv)) (hx : ∀ x ∈ ws, x ≤ 9223372036854775807) (ht : TabTz w) :
    Ret Tryd.prog 4 [.slice a ws.length c, .slice ra rts.length rc] w (fun v w' => v = .bool true ∧ Keep [] w w') := by
  refine fn_enter (n := 66) Tryd.func4 rfl rfl (Nat.le_of_ble_eq_true rfl) (fun e => ?_)
  refine k_seq ?_
  refine k_region ?_
  refine m_bool rfl rfl ?_
  refine o_nil ?_
  refine k_seq ?_
  refine k_seq ?_
  refine k_region ?_
  refine o_call rfl rfl (fixed20_ok w ht) (fun v w1 hv => ?_)
  obtain ⟨rfl, hK1⟩ := hv
  refine u_notb rfl ?_
  refine o_nil ?_
  refine k_condf rfl ?_
  refine k_skip ?_
  refine k_seq ?_
  refine k_seq ?_
  refine k_region ?_
  refine m_sl rfl rfl ?_
  refine o_lens Tryd.underlying22 rfl ?_
  refine b_gtr rfl rfl ?_
  refine m_bool rfl rfl ?_
  refine o_split (t := 18) rfl (fun h => ?_) (fun h => ?_)
  ·
    refine g_no rfl rfl rfl ?_
    refine g_no rfl rfl rfl ?_
    refine g_no rfl rfl rfl ?_
    refine pick_t rfl rfl ?_
    refine o_nil ?_
    refine k_condt rfl ?_
    refine k_seq ?_
    refine k_region ?_
    refine m_bool rfl rfl ?_
    refine o_nil ?_
    refine k_ret (ret_tmps (ts := [4]) (v := .bool _) rfl rfl ?_)
    exact ⟨rfl, hK1⟩
  ·
    refine g_yes rfl rfl ?_
    refine m_sl rfl rfl ?_
    refine g_yes rfl rfl ?_
    refine o_lens Tryd.underlying23 rfl ?_
    refine g_yes rfl rfl ?_
    refine b_gtr rfl rfl ?_
    refine pick_f rfl rfl ?_
    refine o_nil ?_
    refine k_cond rfl (fun h => ?_) (fun h => ?_)
    ·
      refine k_seq ?_
      refine k_region ?_
      refine m_bool rfl rfl ?_
      refine o_nil ?_
      refine k_ret (ret_tmps (ts := [4]) (v := .bool _) rfl rfl ?_)
      exact ⟨rfl, hK1⟩
    refine k_skip ?_
    refine k_seq ?_
    refine k_region ?_
    refine o_bsl (E := 2) (cs := #[]) rfl (fun _ => by kernel_rfl) (fun g2 w2 hB2 hK2 hb2 hZ2 => ?_)
    refine m_sl rfl rfl ?_
    refine o_app0 Tryd.underlying22 inf2 rfl (by decide) rfl rfl hB2 (hW.new (hK1.tr hK2)) (by simp) (iv_one _) (by simp [maxLen]; omega) (by omega) (fun a3 c3 w3 hS3 hK3 hf3 => ?_)
    refine o_bsl (E := 3) (cs := #[]) rfl (fun _ => by kernel_rfl) (fun g4 w4 hB4 hK4 hb4 hZ4 => ?_)
    have hK14 := ((hK1.tr hK2).tr hK3).tr hK4
    refine m_sl rfl rfl ?_
    refine o_app0 Tryd.underlying23 inf3 rfl (by decide) rfl rfl hB4 (hR.new hK14) (by simp) (iv_one _) (by simp [maxLen]; omega) (by omega) (fun a5 c5 w5 hS5 hK5 hf5 => ?_)
    have hK15 := hK14.tr hK5
    have hS3' := hS3.new (hK4.tr hK5)
    refine m_sl rfl rfl ?_
    refine m_sl rfl rfl ?_
    refine o_nil ?_
    refine k_seq ?_
    refine k_region ?_
    refine m_sl rfl rfl ?_
    refine m_sl rfl rfl ?_
    refine o_call rfl rfl (scoll_ok w5 a3 a5 c3 c5 ws rts hS3'.rd hS5.rd hS3.le (sl_cap hS3) (by omega) (by omega) (ht.new hK15)) (fun v w6 hv => ?_)
    obtain ⟨er, xs, rs, a6, c6, b6, d6, rfl, hS6, _, hR6, hL6, hK6, hm6⟩ := coll_is hv
    have hK16 := hK15.tr hK6
    refine m_any rfl rfl ?_
    refine o_extr rfl rfl ?_
    refine o_extr rfl rfl ?_
    refine o_extr rfl rfl ?_
    refine m_sl rfl rfl ?_
    refine m_sl rfl rfl ?_
    refine m_int rfl rfl ?_
    refine o_nil ?_
    refine k_seq ?_
    refine k_region ?_
    refine m_sl rfl rfl ?_
    refine m_sl rfl rfl ?_
    refine o_call rfl rfl (rcoll_ok w6 a ra c rc ws rts (hW.new hK16) (hR.new hK16) (by omega) (by omega) hx) (fun v w7 hv => ?_)
    obtain ⟨er7, xs7, rs7, a7, c7, b7, d7, rfl, hS7, _, hR7, hL7, hK7, hm7⟩ := coll_is hv
    obtain ⟨rfl, rfl, rfl⟩ := hm6.one hm7
    have hK17 := hK16.tr hK7
    refine m_any rfl rfl ?_
    refine o_extr rfl rfl ?_
    refine o_extr rfl rfl ?_
    refine o_extr rfl rfl ?_
    refine m_sl rfl rfl ?_
    refine m_sl rfl rfl ?_
    refine m_int rfl rfl ?_
    refine o_nil ?_
    refine k_seq ?_
    refine k_region ?_
    refine m_int rfl rfl ?_
    refine m_int rfl rfl ?_
    refine b_eql rfl rfl ?_
    refine m_bool rfl rfl ?_
    refine o_true (t := 46) rfl (rfl) ?_
    refine g_yes rfl rfl ?_
    refine m_sl rfl rfl ?_
    refine g_yes rfl rfl ?_
    refine m_sl rfl rfl ?_
    refine g_yes rfl rfl ?_
    refine o_call rfl rfl (samw_ok w7 a6 a7 c6 c7 xs xs (hS6.rd.new hK7) hS7.rd (sl_max hS6) (sl_max hS6)) (fun v w8 hv => ?_)
    obtain ⟨rfl, hK8⟩ := hv
    refine pick_t rfl rfl ?_
    refine m_bool rfl rfl ?_
    refine o_true (t := 51) rfl (rfl) ?_
    refine g_yes rfl rfl ?_
    refine m_sl rfl rfl ?_
    refine g_yes rfl rfl ?_
    refine m_sl rfl rfl ?_
    refine g_yes rfl rfl ?_
    refine o_call rfl rfl (same_ok w8 b6 b7 rs.length rs.length d6 d7 rs rs (hR6.new (hK7.tr hK8)) (hR7.new hK8) rfl rfl hL6) (fun v w9 hv => ?_)
    obtain ⟨rfl, hK9⟩ := hv
    have hK19 := (hK17.tr hK8).tr hK9
    have hK59 := ((hK6.tr hK7).tr hK8).tr hK9
    refine pick_t rfl rfl ?_
    refine m_bool rfl rfl ?_
    refine o_true (t := 56) rfl (rfl) ?_
    refine g_yes rfl rfl ?_
    refine m_sl rfl rfl ?_
    refine g_yes rfl rfl ?_
    refine m_sl rfl rfl ?_
    refine g_yes rfl rfl ?_
    refine o_call rfl rfl (samw_ok w9 a3 a c3 c ws ws (hS3'.rd.new hK59) (hW.new hK19) (by omega) (by omega)) (fun v w10 hv => ?_)
    obtain ⟨rfl, hK10⟩ := hv
    refine pick_t rfl rfl ?_
    refine m_bool rfl rfl ?_
    refine o_true (t := 61) rfl (rfl) ?_
    refine g_yes rfl rfl ?_
    refine m_sl rfl rfl ?_
    refine g_yes rfl rfl ?_
    refine m_sl rfl rfl ?_
    refine g_yes rfl rfl ?_
    refine o_call rfl rfl (same_ok w10 a5 ra rts.length rts.length c5 rc rts rts (hS5.rd.new (hK59.tr hK10)) (hR.new (hK19.tr hK10)) rfl rfl (by omega)) (fun v w11 hv => ?_)
    obtain ⟨rfl, hK11⟩ := hv
    refine pick_t rfl rfl ?_
    refine m_bool rfl rfl ?_
    refine o_nil ?_
    refine k_ret (ret_tmps (ts := [4]) (v := .bool _) rfl rfl ?_)
    exact ⟨congrArg Value.bool (decide_eq_true rfl), (hK19.tr hK10).tr hK11⟩
end Go.Proofs.YtchbidckckmobaaDoor

/- SlideAgain. No condition beyond what each contract names. -/
namespace Go.Proofs.YtchbidckckmobaaDoor
open Go.RowKit E
set_option linter.unusedVariables false
set_option linter.unusedSimpArgs false
set_option maxRecDepth 100000
attribute [local irreducible] ow qw kw kq cw opW Ret
theorem CollIs.no {ws rts xs rs : List Int} {er : Int} (h : CollIs ws rts er xs rs) (he : er ≠ 0) : xs = [] ∧ rs = [] := by
  rcases h with ⟨_, h1, h2, _⟩ | ⟨_, h1, h2, _⟩ | ⟨h0, _⟩
  · exact ⟨h1, h2⟩
  · exact ⟨h1, h2⟩
  · exact absurd h0 he
theorem CollIs.yes {ws rts xs rs : List Int} (h : CollIs ws rts 0 xs rs) : ∃ L LV, SL ws L rts LV ∧ xs = outW ws LV ∧ rs = rts.map (adr ws LV 1) := by
  rcases h with ⟨h0, _⟩ | ⟨h0, _⟩ | ⟨_, L, LV, h1, h2, h3, h4, h5⟩
  · cases h0
  · cases h0
  · exact ⟨L, LV, ⟨h1, h2, h3⟩, h4, h5⟩
theorem again_ok (w : World) (a ra : Option Addr) (c rc : Nat) (ws rts : List Int) (hW : Rd w a (ws.map iv)) (hR : Rd w ra (rts.map iv)) (hc : ws.length ≤ c) (hc9 : c ≤ 9223372036854775807) (ht : TabTz w) :
    Ret Tryd.prog 5 [.slice a ws.length c, .slice ra rts.length rc] w (fun v w' => v = .bool true ∧ Keep [] w w') := by
  refine fn_enter (n := 92) Tryd.func5 rfl rfl (Nat.le_of_ble_eq_true rfl) (fun e => ?_)
  refine k_seq ?_
  refine k_region ?_
  refine m_bool rfl rfl ?_
  refine o_nil ?_
  refine k_seq ?_
  refine k_seq ?_
  refine k_region ?_
  refine o_call rfl rfl (fixed20_ok w ht) (fun v w1 hv => ?_)
  obtain ⟨rfl, hK1⟩ := hv
  refine u_notb rfl ?_
  refine o_nil ?_
  refine k_condf rfl ?_
  refine k_skip ?_
  refine k_seq ?_
  refine k_seq ?_
  refine k_region ?_
  refine m_sl rfl rfl ?_
  refine o_lens Tryd.underlying22 rfl ?_
  refine b_gtr rfl rfl ?_
  refine m_bool rfl rfl ?_
  refine o_split (t := 20) rfl (fun h => ?_) (fun h => ?_)
  ·
    refine g_no rfl rfl rfl ?_
    refine g_no rfl rfl rfl ?_
    refine g_no rfl rfl rfl ?_
    refine pick_t rfl rfl ?_
    refine o_nil ?_
    refine k_condt rfl ?_
    refine k_seq ?_
    refine k_region ?_
    refine m_bool rfl rfl ?_
    refine o_nil ?_
    refine k_ret (ret_tmps (ts := [4]) (v := .bool _) rfl rfl ?_)
    exact ⟨rfl, hK1⟩
  ·
    refine g_yes rfl rfl ?_
    refine m_sl rfl rfl ?_
    refine g_yes rfl rfl ?_
    refine o_lens Tryd.underlying23 rfl ?_
    refine g_yes rfl rfl ?_
    refine b_gtr rfl rfl ?_
    refine pick_f rfl rfl ?_
    refine o_nil ?_
    refine k_cond rfl (fun h => ?_) (fun h => ?_)
    ·
      refine k_seq ?_
      refine k_region ?_
      refine m_bool rfl rfl ?_
      refine o_nil ?_
      refine k_ret (ret_tmps (ts := [4]) (v := .bool _) rfl rfl ?_)
      exact ⟨rfl, hK1⟩
    refine k_skip ?_
    refine k_seq ?_
    refine k_region ?_
    refine m_sl rfl rfl ?_
    refine m_sl rfl rfl ?_
    refine o_call rfl rfl (scoll_ok w1 a ra c rc ws rts (hW.new hK1) (hR.new hK1) hc hc9 (by omega) (by omega) (ht.new hK1)) (fun v w2 hv => ?_)
    obtain ⟨er, xs, rs, a2, c2, b2, d2, rfl, hS2, _, hR2, hL2, hK2, hm2⟩ := coll_is hv
    have hK02 := hK1.tr hK2
    refine m_any rfl rfl ?_
    refine o_extr rfl rfl ?_
    refine o_extr rfl rfl ?_
    refine o_extr rfl rfl ?_
    refine m_sl rfl rfl ?_
    refine m_sl rfl rfl ?_
    refine m_int rfl rfl ?_
    refine o_nil ?_
    refine k_seq ?_
    refine k_seq ?_
    refine k_region ?_
    refine m_int rfl rfl ?_
    refine b_neq rfl rfl ?_
    refine o_nil ?_
    refine k_cond rfl (fun h => ?_) (fun h => ?_)
    ·
      obtain ⟨rfl, rfl⟩ := hm2.no h
      refine k_seq ?_
      refine k_region ?_
      refine m_sl rfl rfl ?_
      refine o_lens Tryd.underlying22 rfl ?_
      refine b_eql rfl rfl ?_
      refine m_bool rfl rfl ?_
      refine o_true (t := 37) rfl (rfl) ?_
      refine g_yes rfl rfl ?_
      refine m_sl rfl rfl ?_
      refine g_yes rfl rfl ?_
      refine o_lens Tryd.underlying23 rfl ?_
      refine g_yes rfl rfl ?_
      refine b_eql rfl rfl ?_
      refine pick_t rfl rfl ?_
      refine m_bool rfl rfl ?_
      refine o_nil ?_
      refine k_ret (ret_tmps (ts := [4]) (v := .bool _) rfl rfl ?_)
      exact ⟨rfl, hK02⟩
    obtain rfl : er = 0 := Decidable.of_not_not h
    obtain ⟨L, LV, hSL, hxs, hrs⟩ := hm2.yes
    have hle := hSL.le
    rw [← hxs] at hle
    have hrl : rs.length = rts.length := by rw [hrs, List.length_map]
    have hbl := hSL.blocks
    have hmk := hSL.mark
    have hcl := hSL.coll
    rw [← hrs, ← hxs] at hmk hcl
    rw [← hxs] at hbl
    obtain ⟨L', hL'⟩ : ∃ L', LV.map (adr ws LV 1) = L' := ⟨_, rfl⟩
    rw [hL'] at hbl hmk
    refine k_skip ?_
    refine k_seq ?_
    refine k_region ?_
    refine m_sl rfl rfl ?_
    refine o_call rfl rfl (blocks_ok w2 a2 xs.length c2 xs hS2.rd rfl (by omega)) (fun v w3 hv => ?_)
    obtain ⟨e3, a3, n3, c3, rfl, hbc⟩ := blk_cases hv
    obtain ⟨rfl, L3, hb3, rfl, hS3, hK3, _⟩ := hbc.resolve_left (fun hh => by have := hh.2.1; rw [hbl] at this; cases this)
    obtain rfl : L3 = L' := Option.some.inj (hb3.symm.trans hbl)
    refine m_any rfl rfl ?_
    refine o_extr rfl rfl ?_
    refine o_extr rfl rfl ?_
    refine m_sl rfl rfl ?_
    refine m_int rfl rfl ?_
    refine o_nil ?_
    refine k_seq ?_
    refine k_region ?_
    refine m_sl rfl rfl ?_
    refine m_sl rfl rfl ?_
    refine o_call rfl rfl (smark_ok w3 a2 b2 c2 d2 xs rs (hS2.rd.new hK3) (hR2.new hK3) (by omega) (by omega) (ht.new (hK02.tr hK3))) (fun v w4 hv => ?_)
    obtain ⟨e4, LV4, a4, c4, rfl, hR4, hL4, hK4, hm4⟩ := mark_is hv
    obtain ⟨rfl, rfl⟩ := hm4.one hmk
    have hK24 := hK3.tr hK4
    refine m_any rfl rfl ?_
    refine o_extr rfl rfl ?_
    refine o_extr rfl rfl ?_
    refine m_sl rfl rfl ?_
    refine m_int rfl rfl ?_
    refine o_nil ?_
    refine k_seq ?_
    refine k_region ?_
    refine m_sl rfl rfl ?_
    refine m_sl rfl rfl ?_
    refine o_call rfl rfl (scoll_ok w4 a2 b2 c2 d2 xs rs (hS2.rd.new hK24) (hR2.new hK24) hS2.le (sl_cap hS2) (by omega) (by omega) (ht.new (hK02.tr hK24))) (fun v w5 hv => ?_)
    obtain ⟨e5, xs5, rs5, a5, c5, b5, d5, rfl, hS5, _, hR5, hL5, hK5, hm5⟩ := coll_is hv
    obtain ⟨rfl, rfl, rfl⟩ := hm5.one hcl
    have hK25 := hK24.tr hK5
    refine m_any rfl rfl ?_
    refine o_extr rfl rfl ?_
    refine o_extr rfl rfl ?_
    refine o_extr rfl rfl ?_
    refine m_sl rfl rfl ?_
    refine m_sl rfl rfl ?_
    refine m_int rfl rfl ?_
    refine o_nil ?_
    refine k_seq ?_
    refine k_region ?_
    refine m_int rfl rfl ?_
    refine b_eql rfl rfl ?_
    refine m_bool rfl rfl ?_
    refine o_true (t := 62) rfl (rfl) ?_
    refine g_yes rfl rfl ?_
    refine m_int rfl rfl ?_
    refine g_yes rfl rfl ?_
    refine b_eql rfl rfl ?_
    refine pick_t rfl rfl ?_
    refine m_bool rfl rfl ?_
    refine o_true (t := 66) rfl (rfl) ?_
    refine g_yes rfl rfl ?_
    refine m_int rfl rfl ?_
    refine g_yes rfl rfl ?_
    refine b_eql rfl rfl ?_
    refine pick_t rfl rfl ?_
    refine m_bool rfl rfl ?_
    refine o_true (t := 70) rfl (rfl) ?_
    refine g_yes rfl rfl ?_
    refine m_sl rfl rfl ?_
    refine g_yes rfl rfl ?_
    refine o_lens Tryd.underlying22 rfl ?_
    refine g_yes rfl rfl ?_
    refine m_sl rfl rfl ?_
    refine g_yes rfl rfl ?_
    refine o_lens Tryd.underlying22 rfl ?_
    refine g_yes rfl rfl ?_
    refine b_leq rfl rfl ?_
    refine pick_t rfl rfl ?_
    refine m_bool rfl rfl ?_
    refine o_true (t := 77) rfl ((by omega)) ?_
    refine g_yes rfl rfl ?_
    refine m_sl rfl rfl ?_
    refine g_yes rfl rfl ?_
    refine m_sl rfl rfl ?_
    refine g_yes rfl rfl ?_
    refine o_call rfl rfl (same_ok w5 a3 a4 LV4.length LV4.length c3 c4 LV4 LV4 (hS3.rd.new (hK4.tr hK5)) (hR4.new hK5) rfl rfl hL4) (fun v w6 hv => ?_)
    obtain ⟨rfl, hK6⟩ := hv
    refine pick_t rfl rfl ?_
    refine m_bool rfl rfl ?_
    refine o_true (t := 82) rfl (rfl) ?_
    refine g_yes rfl rfl ?_
    refine m_sl rfl rfl ?_
    refine g_yes rfl rfl ?_
    refine m_sl rfl rfl ?_
    refine g_yes rfl rfl ?_
    refine o_call rfl rfl (samw_ok w6 a2 a5 c2 c5 xs5 xs5 (hS2.rd.new (hK25.tr hK6)) (hS5.rd.new hK6) (sl_max hS2) (sl_max hS2)) (fun v w7 hv => ?_)
    obtain ⟨rfl, hK7⟩ := hv
    refine pick_t rfl rfl ?_
    refine m_bool rfl rfl ?_
    refine o_true (t := 87) rfl (rfl) ?_
    refine g_yes rfl rfl ?_
    refine m_sl rfl rfl ?_
    refine g_yes rfl rfl ?_
    refine m_sl rfl rfl ?_
    refine g_yes rfl rfl ?_
    refine o_call rfl rfl (same_ok w7 b2 b5 rs5.length rs5.length d2 d5 rs5 rs5 (hR2.new ((hK25.tr hK6).tr hK7)) (hR5.new (hK6.tr hK7)) rfl rfl hL2) (fun v w8 hv => ?_)
    obtain ⟨rfl, hK8⟩ := hv
    refine pick_t rfl rfl ?_
    refine m_bool rfl rfl ?_
    refine o_nil ?_
    refine k_ret (ret_tmps (ts := [4]) (v := .bool _) rfl rfl ?_)
    exact ⟨congrArg Value.bool (decide_eq_true rfl), ((hK02.tr hK25).tr (hK6.tr hK7)).tr hK8⟩
end Go.Proofs.YtchbidckckmobaaDoor

/- SlideReads. No condition beyond what each contract names. -/
namespace Go.Proofs.YtchbidckckmobaaDoor
open Go.RowKit E
set_option linter.unusedVariables false
set_option linter.unusedSimpArgs false
set_option maxRecDepth 100000
attribute [local irreducible] ow qw kw kq cw opW Ret
theorem q_true {P : Program} {n : Cx} {e : Env} {l0 l : List Oper} {C : World → Prop} {K : Env → Prop} {t : Nat} {p : Prop} [Decidable p] (h : e t = .bool (decide p)) (hp : p) (ht : qw P n l0 C K l (upd e t (.bool true))) : qw P n l0 C K l e := by
  rwa [upd_self (by rw [h]; simp [hp])] at ht
theorem q_false {P : Program} {n : Cx} {e : Env} {l0 l : List Oper} {C : World → Prop} {K : Env → Prop} {t : Nat} {p : Prop} [Decidable p] (h : e t = .bool (decide p)) (hp : ¬ p) (ht : qw P n l0 C K l (upd e t (.bool false))) : qw P n l0 C K l e := by
  rwa [upd_self (by rw [h]; simp [hp])] at ht
theorem in_ok (w : World) (a : Option Addr) (c : Nat) (l : List Int) (x : Int) (hR : Rd w a (l.map iv)) (hl : l.length ≤ 1000000000) :
    Ret Tryd.prog 26 [.slice a l.length c, .int .i64 x] w (fun v w' => v = .bool (decide (x ∈ l)) ∧ w' = w) := by
  refine fn_enter (n := 17) Tryd.func26 rfl rfl (Nat.le_of_ble_eq_true rfl) (fun e => ?_)
  refine k_seq ?_
  refine k_region ?_
  refine m_bool rfl rfl ?_
  refine o_nil ?_
  refine k_seq ?_
  refine k_seq ?_
  refine k_region ?_
  refine m_sl rfl rfl ?_
  refine o_lens Tryd.underlying23 rfl ?_
  refine m_int rfl rfl ?_
  refine o_nil ?_
  refine k_block ?_
  refine k_loop (σ := Nat) (fun s => [(1, .int .i64 x), (7, .slice a l.length c), (8, .int .i64 (l.length : Int)), (9, .int .i64 (s : Int))]) (fun s w' => s ≤ l.length ∧ x ∉ l.take s ∧ w' = w) (fun s => l.length - s) 0 ⟨rfl, rfl, rfl, rfl, trivial⟩ ⟨by omega, by simp, rfl⟩ (fun i e w3 hJ => ?_)
  obtain ⟨hi, hni, rfl⟩ := hJ
  refine k_seq ?_
  refine k_region ?_
  refine b_lss rfl rfl ?_
  refine o_nil ?_
  refine k_seq ?_
  refine k_cond rfl (fun h => ?_) (fun h => ?_)
  rotate_left
  ·
    refine k_exit rfl ?_
    refine k_seq ?_
    refine k_region ?_
    refine m_bool rfl rfl ?_
    refine o_nil ?_
    refine k_ret (ret_tmps (ts := [4]) (v := .bool _) rfl rfl ?_)
    rw [List.take_of_length_le (by omega)] at hni
    exact ⟨congrArg Value.bool (decide_eq_false hni).symm, rfl⟩
  have hin : i < l.length := by omega
  obtain ⟨b, o, hae, hc⟩ := hR _ _ (iv_at l i hin)
  subst hae
  refine k_skip ?_
  refine k_seq ?_
  refine k_block ?_
  refine k_seq ?_
  refine k_region ?_
  refine o_ixs1 (m := i) Tryd.underlying23 rfl rfl rfl hin ?_
  refine o_ld (v := iv l[i]) rfl rfl hc ?_
  refine m_int rfl rfl ?_
  refine o_nil ?_
  refine k_seq ?_
  refine k_region ?_
  refine m_int rfl rfl ?_
  refine m_int rfl rfl ?_
  refine b_eql rfl rfl ?_
  refine o_nil ?_
  refine k_cond rfl (fun h => ?_) (fun h => ?_)
  ·
    refine k_seq ?_
    refine k_region ?_
    refine m_bool rfl rfl ?_
    refine o_nil ?_
    refine k_ret (ret_tmps (ts := [4]) (v := .bool _) rfl rfl ?_)
    exact ⟨congrArg Value.bool (decide_eq_true (by have h' : l[i] = x := h; rw [← h']; exact List.getElem_mem _)).symm, rfl⟩
  refine k_skip ?_
  refine k_blk ?_
  refine k_region ?_
  refine n_add rfl rfl (by omega) ?_
  refine m_int rfl rfl ?_
  refine o_nil ?_
  refine k_goal ⟨i + 1, ⟨rfl, rfl, rfl, rfl, trivial⟩, ⟨hin, ?_, rfl⟩, by omega⟩
  rw [take_snoc l i hin]
  have h' : ¬ l[i] = x := h
  simp only [List.mem_append, List.mem_singleton, not_or]
  exact ⟨hni, fun hh => h' hh.symm⟩
theorem mem_off (z : Int) (T : List Int) (j : Int) : z + j ∈ T.map (z + ·) ↔ j ∈ T := by
  rw [List.mem_map]
  exact ⟨fun ⟨t, ht, he⟩ => by rwa [show t = j by omega] at ht, fun ht => ⟨_, ht, rfl⟩⟩
theorem getD_cell {w w' : World} {ba oo : Nat} {ws : List Int} (hW : Rd w (some ⟨ba, oo, none⟩) (ws.map iv)) (j : Nat) (hj : j < ws.length) (hk : Keep [] w w') : w'.cell? ⟨ba, oo + j, none⟩ = some (iv (ws.getD j 0)) := by
  rw [getD_get ws j hj]
  exact hW.cellK hk (iv_at ws j hj)
theorem off_at {T : List Int} (z : Int) {j : Nat} (hj : j < T.length) : ((T.map (z + ·)).map iv)[j]? = some (iv (z + T[j])) := by
  simp [hj]
set_option maxHeartbeats 2000000 in
theorem reads_ok (w : World) (a ra wa : Option Addr) (c rc wc : Nat) (ws rts : List Int) (way : List (BitVec 8)) (hW : Rd w a (ws.map iv)) (hR : Rd w ra (rts.map iv)) (hY : Rd w wa (way.map u8v)) (hc : ws.length ≤ c) (hc9 : c ≤ 9223372036854775807) (ht : TabTz w) :
    Ret Tryd.prog 6 [.slice a ws.length c, .slice ra rts.length rc, .slice wa way.length wc] w (fun v w' => v = .bool true ∧ Keep [] w w') := by
  refine fn_enter (n := 200) Tryd.func6 rfl rfl (Nat.le_of_ble_eq_true rfl) (fun e => ?_)
  refine k_seq ?_
  refine k_region ?_
  refine m_bool rfl rfl ?_
  refine o_nil ?_
  refine k_seq ?_
  refine k_seq ?_
  refine k_region ?_
  refine o_call rfl rfl (fixed20_ok w ht) (fun v w1 hv => ?_)
  obtain ⟨rfl, hK1⟩ := hv
  refine u_notb rfl ?_
  refine o_nil ?_
  refine k_condf rfl ?_
  refine k_skip ?_
  refine k_seq ?_
  refine k_seq ?_
  refine k_region ?_
  refine m_sl rfl rfl ?_
  refine o_lens Tryd.underlying22 rfl ?_
  refine b_gtr rfl rfl ?_
  refine m_bool rfl rfl ?_
  refine o_split (t := 28) rfl (fun h => ?_) (fun h => ?_)
  ·
    refine g_no rfl rfl rfl ?_
    refine g_no rfl rfl rfl ?_
    refine g_no rfl rfl rfl ?_
    refine pick_t rfl rfl ?_
    refine m_bool rfl rfl ?_
    refine g_no rfl rfl rfl ?_
    refine g_no rfl rfl rfl ?_
    refine g_no rfl rfl rfl ?_
    refine pick_t rfl rfl ?_
    refine o_nil ?_
    refine k_condt rfl ?_
    refine k_seq ?_
    refine k_region ?_
    refine m_bool rfl rfl ?_
    refine o_nil ?_
    refine k_ret (ret_tmps (ts := [6]) (v := .bool _) rfl rfl ?_)
    exact ⟨rfl, hK1⟩
  ·
    refine g_yes rfl rfl ?_
    refine m_sl rfl rfl ?_
    refine g_yes rfl rfl ?_
    refine o_lens Tryd.underlying23 rfl ?_
    refine g_yes rfl rfl ?_
    refine b_gtr rfl rfl ?_
    refine pick_f rfl rfl ?_
    refine m_bool rfl rfl ?_
    refine o_split (t := 33) rfl (fun h => ?_) (fun h => ?_)
    ·
      refine g_no rfl rfl rfl ?_
      refine g_no rfl rfl rfl ?_
      refine g_no rfl rfl rfl ?_
      refine pick_t rfl rfl ?_
      refine o_nil ?_
      refine k_condt rfl ?_
      refine k_seq ?_
      refine k_region ?_
      refine m_bool rfl rfl ?_
      refine o_nil ?_
      refine k_ret (ret_tmps (ts := [6]) (v := .bool _) rfl rfl ?_)
      exact ⟨rfl, hK1⟩
    ·
      refine g_yes rfl rfl ?_
      refine m_sl rfl rfl ?_
      refine g_yes rfl rfl ?_
      refine o_lens Tryd.underlying34 rfl ?_
      refine g_yes rfl rfl ?_
      refine b_gtr rfl rfl ?_
      refine pick_f rfl rfl ?_
      refine o_nil ?_
      refine k_cond rfl (fun h => ?_) (fun h => ?_)
      ·
        refine k_seq ?_
        refine k_region ?_
        refine m_bool rfl rfl ?_
        refine o_nil ?_
        refine k_ret (ret_tmps (ts := [6]) (v := .bool _) rfl rfl ?_)
        exact ⟨rfl, hK1⟩
      refine k_skip ?_
      refine k_seq ?_
      refine k_region ?_
      refine m_sl rfl rfl ?_
      refine m_sl rfl rfl ?_
      refine o_call rfl rfl (scoll_ok w1 a ra c rc ws rts (hW.new hK1) (hR.new hK1) hc hc9 (by omega) (by omega) (ht.new hK1)) (fun v w2 hv => ?_)
      obtain ⟨er, xs, rs, a2, c2, b2, d2, rfl, hS2, _, hR2, hL2, hK2, hm2⟩ := coll_is hv
      have hK02 := hK1.tr hK2
      refine m_any rfl rfl ?_
      refine o_extr rfl rfl ?_
      refine o_extr rfl rfl ?_
      refine o_extr rfl rfl ?_
      refine m_sl rfl rfl ?_
      refine m_sl rfl rfl ?_
      refine m_int rfl rfl ?_
      refine o_nil ?_
      refine k_seq ?_
      refine k_seq ?_
      refine k_region ?_
      refine m_int rfl rfl ?_
      refine b_neq rfl rfl ?_
      refine o_nil ?_
      refine k_cond rfl (fun h => ?_) (fun h => ?_)
      ·
        refine k_seq ?_
        refine k_region ?_
        refine m_bool rfl rfl ?_
        refine o_nil ?_
        refine k_ret (ret_tmps (ts := [6]) (v := .bool _) rfl rfl ?_)
        exact ⟨rfl, hK02⟩
      obtain rfl : er = 0 := Decidable.of_not_not h
      obtain ⟨L, LV, hSL, hxs, hrs⟩ := hm2.yes
      have hle := hSL.le
      rw [← hxs] at hle
      have hrl : rs.length = rts.length := by rw [hrs, List.length_map]
      refine k_skip ?_
      refine k_seq ?_
      refine k_seq ?_
      refine k_region ?_
      refine m_sl rfl rfl ?_
      refine o_lens Tryd.underlying23 rfl ?_
      refine m_sl rfl rfl ?_
      refine o_lens Tryd.underlying23 rfl ?_
      refine b_neq rfl rfl ?_
      refine o_nil ?_
      refine k_no rfl ((by omega)) ?_
      refine k_skip ?_
      refine k_seq ?_
      refine k_seq ?_
      refine k_region ?_
      have hx0 : 0 < xs.length := by rw [hxs]; exact hSL.len0
      obtain ⟨gx, _, hae, _⟩ := hS2.blk hx0
      subst hae
      refine m_sl rfl rfl ?_
      refine o_lens Tryd.underlying23 rfl ?_
      refine m_int rfl rfl ?_
      refine o_nil ?_
      refine k_block ?_
      refine k_loop (σ := Nat) (fun s => [(0, .slice a ws.length c), (1, .slice ra rts.length rc), (2, .slice wa way.length wc), (7, .slice (some ⟨gx, 0, none⟩) xs.length c2), (8, .slice b2 rs.length d2), (53, .int .i64 (rts.length : Int)), (54, .int .i64 (s : Int))]) (fun s w' => s ≤ rts.length ∧ Keep [] w2 w') (fun s => rts.length - s) 0 ⟨rfl, rfl, rfl, rfl, rfl, rfl, rfl, trivial⟩ ⟨by omega, Keep.refl _ _⟩ (fun i e w3 hJ => ?_)
      obtain ⟨hi, hk3⟩ := hJ
      refine k_seq ?_
      refine k_region ?_
      refine b_lss rfl rfl ?_
      refine o_nil ?_
      refine k_seq ?_
      refine k_cond rfl (fun h => ?_) (fun h => ?_)
      rotate_left
      ·
        refine k_exit rfl ?_
        refine k_seq ?_
        refine k_region ?_
        refine m_bool rfl rfl ?_
        refine o_nil ?_
        refine k_ret (ret_tmps (ts := [6]) (v := .bool _) rfl rfl ?_)
        exact ⟨rfl, hK02.tr hk3⟩
      have hin : i < rts.length := by omega
      obtain ⟨br, orr, hae, _⟩ := hR _ _ (iv_at rts i hin)
      subst hae
      obtain ⟨bs, os, hae, _⟩ := hR2 _ _ (iv_at rs i (by omega))
      subst hae
      have hK03 := hK02.tr hk3
      refine k_skip ?_
      refine k_seq ?_
      refine k_block ?_
      refine k_seq ?_
      refine k_region ?_
      refine m_int rfl rfl ?_
      refine m_int rfl rfl ?_
      refine o_nil ?_
      refine k_seq ?_
      refine k_qk 9 rfl rfl rfl rfl rfl ?_
      refine q_step (fun w1 hC => m_sl rfl rfl (o_nil ⟨rfl, hC⟩)) ?_
      refine q_step (fun w1 hC => m_int rfl rfl (o_nil ⟨rfl, hC⟩)) ?_
      refine q_step (fun w1 hC => o_ixs1 (m := i) Tryd.underlying23 rfl rfl rfl hin (o_nil ⟨rfl, hC⟩)) ?_
      refine q_step (fun w1 hC => o_ld (v := iv rts[i]) rfl rfl (hR.cellK (hK03.tr hC) (iv_at rts i hin)) (o_nil ⟨rfl, hC⟩)) ?_
      refine q_step (fun w1 hC => m_sl rfl rfl (o_nil ⟨rfl, hC⟩)) ?_
      refine q_step (fun w1 hC => m_int rfl rfl (o_nil ⟨rfl, hC⟩)) ?_
      refine q_step (fun w1 hC => o_ixs1 (m := i) Tryd.underlying23 rfl rfl rfl (by omega) (o_nil ⟨rfl, hC⟩)) ?_
      refine q_step (fun w1 hC => o_ld (v := iv (rs[i]'(by omega))) rfl rfl (hR2.cellK (hk3.tr hC) (iv_at rs i (by omega))) (o_nil ⟨rfl, hC⟩)) ?_
      refine q_step (fun w1 hC => m_int rfl rfl (o_nil ⟨rfl, hC⟩)) ?_
      refine q_nil ?_
      intro w4 hC4
      have hk4 := hk3.tr hC4
      refine m_int rfl rfl ?_
      refine o_nil ?_
      refine k_seq ?_
      refine k_region ?_
      refine m_int rfl rfl ?_
      refine o_nil ?_
      refine k_block ?_
      refine k_loop (σ := Nat × Int × Int) (fun s => [(0, .slice a ws.length c), (1, .slice (some ⟨br, orr, none⟩) rts.length rc), (2, .slice wa way.length wc), (7, .slice (some ⟨gx, 0, none⟩) xs.length c2), (8, .slice (some ⟨bs, os, none⟩) rs.length d2), (11, .int .i64 s.2.1), (12, .int .i64 s.2.2), (13, .int .i64 (s.1 : Int)), (53, .int .i64 (rts.length : Int)), (54, .int .i64 (i : Int))]) (fun s w' => s.1 ≤ way.length ∧ (s.2.1 = 0 ∨ s.2.1 ∈ LV) ∧ s.2.2 = adr ws LV 1 s.2.1 ∧ Keep [] w2 w') (fun s => way.length + 1 - s.1) (0, rts[i], rs[i]'(by omega)) ⟨rfl, rfl, rfl, rfl, rfl, rfl, rfl, rfl, rfl, rfl, trivial⟩ ⟨Nat.zero_le _, hSL.root (List.getElem_mem hin), by simp [hrs], hk4⟩ (fun s e w5 hJ => ?_)
      obtain ⟨q, x, y⟩ := s
      obtain ⟨hq, hx, hy, hk5⟩ := hJ
      simp only at hq hx hy ⊢
      refine k_seq ?_
      refine k_seq ?_
      refine k_region ?_
      refine m_int rfl rfl ?_
      refine m_sl rfl rfl ?_
      refine o_lens Tryd.underlying34 rfl ?_
      refine b_leq rfl rfl ?_
      refine o_nil ?_
      refine k_cond rfl (fun h => ?_) (fun h => ?_)
      rotate_left
      ·
        refine k_exit rfl ?_
        refine k_blk ?_
        refine k_region ?_
        refine n_add rfl rfl (by omega) ?_
        refine m_int rfl rfl ?_
        refine o_nil ?_
        refine k_goal ⟨i + 1, ⟨rfl, rfl, rfl, rfl, rfl, rfl, rfl, trivial⟩, ⟨hin, hk5⟩, by omega⟩
      refine k_skip ?_
      refine k_seq ?_
      refine k_block ?_
      refine k_seq ?_
      refine k_seq ?_
      refine k_region ?_
      refine m_int rfl rfl ?_
      refine b_eql rfl rfl ?_
      refine m_bool rfl rfl ?_
      refine o_split (t := 73) rfl (fun h => ?_) (fun h => ?_)
      ·
        refine g_no rfl rfl rfl ?_
        refine g_no rfl rfl rfl ?_
        refine pick_t rfl rfl ?_
        refine o_nil ?_
        refine k_condt rfl ?_
        refine k_seq ?_
        refine k_seq ?_
        refine k_region ?_
        refine m_int rfl rfl ?_
        refine m_int rfl rfl ?_
        refine b_neq rfl rfl ?_
        refine o_nil ?_
        refine k_no rfl ((fun h' => h' (by have h0 : x = 0 := h; rw [hy, h0, hSL.zero]))) ?_
        refine k_skip ?_
        refine k_exit rfl ?_
        refine k_blk ?_
        refine k_region ?_
        refine n_add rfl rfl (by omega) ?_
        refine m_int rfl rfl ?_
        refine o_nil ?_
        refine k_goal ⟨i + 1, ⟨rfl, rfl, rfl, rfl, rfl, rfl, rfl, trivial⟩, ⟨hin, hk5⟩, by omega⟩
      ·
        have hxl := hx.resolve_left h
        have hyr := hSL.rng hxl
        rw [← hy] at hyr
        refine g_yes rfl rfl ?_
        refine m_int rfl rfl ?_
        refine g_yes rfl rfl ?_
        refine b_eql rfl rfl ?_
        refine pick_f rfl rfl ?_
        refine o_nil ?_
        refine k_no rfl ((by omega)) ?_
        refine k_skip ?_
        refine k_seq ?_
        refine k_region ?_
        obtain ⟨k, p, m, T, hN, hsz⟩ := hSL.of hxl
        rw [← hxs] at hN
        have hxk := hN.yk
        have hyp := hy.trans hN.ap
        subst hxk hyp
        have hkw := hN.kw
        have hpw := hN.pw
        have hp1 := hN.p1
        have hm9 := hN.m9
        obtain ⟨ba, oo, hae, _⟩ := hW _ _ (iv_at ws k (by omega))
        subst hae
        have hK05 := hK02.tr hk5
        refine m_sl rfl rfl ?_
        refine m_int rfl rfl ?_
        refine o_ixs1 (m := k) Tryd.underlying22 rfl rfl rfl (by omega) ?_
        refine o_ld (v := iv (ws.getD k 0)) rfl rfl (getD_cell hW k (by omega) hK05) ?_
        refine o_call rfl rfl (open_ok w5 (ws.getD k 0)) (fun v w6 hv => ?_)
        obtain ⟨rfl, rfl⟩ := hv
        rw [hN.er, hN.nn]
        refine m_any rfl rfl ?_
        refine o_extr rfl rfl ?_
        refine o_extr rfl rfl ?_
        refine o_extr rfl rfl ?_
        refine o_extr rfl rfl ?_
        refine o_extr rfl rfl ?_
        refine m_int rfl rfl ?_
        refine m_int rfl rfl ?_
        refine m_int rfl rfl ?_
        refine m_int rfl rfl ?_
        refine m_int rfl rfl ?_
        refine o_nil ?_
        refine k_seq ?_
        refine k_seq ?_
        refine k_qk 30 rfl rfl rfl rfl rfl ?_
        refine q_step (fun w1 hC => m_int rfl rfl (o_nil ⟨rfl, hC⟩)) ?_
        refine q_step (fun w1 hC => b_neq rfl rfl (o_nil ⟨rfl, hC⟩)) ?_
        refine q_step (fun w1 hC => m_bool rfl rfl (o_nil ⟨rfl, hC⟩)) ?_
        refine q_false (t := 93) rfl ((fun h' => h' rfl)) ?_
        refine q_step (fun w1 hC => g_yes rfl rfl (m_int rfl rfl (o_nil ⟨rfl, hC⟩))) ?_
        refine q_step (fun w1 hC => g_yes rfl rfl (b_lss rfl rfl (o_nil ⟨rfl, hC⟩))) ?_
        refine q_step (fun w1 hC => pick_f rfl rfl (o_nil ⟨rfl, hC⟩)) ?_
        refine q_step (fun w1 hC => m_bool rfl rfl (o_nil ⟨rfl, hC⟩)) ?_
        refine q_false (t := 97) rfl ((by omega)) ?_
        refine q_step (fun w1 hC => g_yes rfl rfl (m_int rfl rfl (o_nil ⟨rfl, hC⟩))) ?_
        refine q_step (fun w1 hC => g_yes rfl rfl (m_sl rfl rfl (o_nil ⟨rfl, hC⟩))) ?_
        refine q_step (fun w1 hC => g_yes rfl rfl (o_lens Tryd.underlying22 rfl (o_nil ⟨rfl, hC⟩))) ?_
        refine q_step (fun w1 hC => g_yes rfl rfl (b_geq rfl rfl (o_nil ⟨rfl, hC⟩))) ?_
        refine q_step (fun w1 hC => pick_f rfl rfl (o_nil ⟨rfl, hC⟩)) ?_
        refine q_step (fun w1 hC => m_bool rfl rfl (o_nil ⟨rfl, hC⟩)) ?_
        refine q_false (t := 103) rfl ((by omega)) ?_
        refine q_step (fun w1 hC => g_yes rfl rfl (m_sl rfl rfl (o_nil ⟨rfl, hC⟩))) ?_
        refine q_step (fun w1 hC => g_yes rfl rfl (m_int rfl rfl (o_nil ⟨rfl, hC⟩))) ?_
        refine q_step (fun w1 hC => g_yes rfl rfl (o_ixs1 (m := k) Tryd.underlying22 rfl rfl rfl (by omega) (o_nil ⟨rfl, hC⟩))) ?_
        refine q_step (fun w1 hC => g_yes rfl rfl (o_ld (v := iv (ws.getD k 0)) rfl rfl (getD_cell hW k (by omega) (hK05.tr hC)) (o_nil ⟨rfl, hC⟩))) ?_
        refine q_step (fun w1 hC => g_yes rfl rfl (m_sl rfl rfl (o_nil ⟨rfl, hC⟩))) ?_
        refine q_step (fun w1 hC => g_yes rfl rfl (m_int rfl rfl (o_nil ⟨rfl, hC⟩))) ?_
        refine q_step (fun w1 hC => g_yes rfl rfl (o_ixs1 (m := p) Tryd.underlying22 rfl rfl rfl (by omega) (o_nil ⟨rfl, hC⟩))) ?_
        refine q_step (fun w1 hC => g_yes rfl rfl (o_ld (v := iv (xs.getD p 0)) rfl rfl (getD_cell hS2.rd p (by omega) (hk5.tr hC)) (o_nil ⟨rfl, hC⟩))) ?_
        refine q_step (fun w1 hC => g_yes rfl rfl (b_neq rfl rfl (o_nil ⟨rfl, hC⟩))) ?_
        refine q_step (fun w1 hC => pick_f rfl rfl (o_nil ⟨rfl, hC⟩)) ?_
        refine q_step (fun w1 hC => m_bool rfl rfl (o_nil ⟨rfl, hC⟩)) ?_
        refine q_false (t := 114) rfl ((fun h' => h' hN.hd.symm)) ?_
        refine q_step (fun w1 hC => g_yes rfl rfl (m_int rfl rfl (o_nil ⟨rfl, hC⟩))) ?_
        refine q_step (fun w1 hC => g_yes rfl rfl (m_sl rfl rfl (o_nil ⟨rfl, hC⟩))) ?_
        refine q_step (fun w1 hC => g_yes rfl rfl (o_lens Tryd.underlying22 rfl (o_nil ⟨rfl, hC⟩))) ?_
        refine q_step (fun w1 hC => g_yes rfl rfl (m_int rfl rfl (o_nil ⟨rfl, hC⟩))) ?_
        refine q_step (fun w1 hC => g_yes rfl rfl (n_sub rfl rfl (by omega) (o_nil ⟨rfl, hC⟩))) ?_
        refine q_step (fun w1 hC => g_yes rfl rfl (n_sub rfl rfl (by omega) (o_nil ⟨rfl, hC⟩))) ?_
        refine q_nil ?_
        intro w7 hC7
        have hk7 := hk5.tr hC7
        refine g_yes rfl rfl ?_
        refine b_gtr rfl rfl ?_
        refine pick_f rfl rfl ?_
        refine o_nil ?_
        refine k_no rfl ((by omega)) ?_
        refine k_skip ?_
        refine k_seq ?_
        refine k_region ?_
        refine m_sl rfl rfl ?_
        refine m_int rfl rfl ?_
        refine o_call rfl rfl (refs_ok w7 (some ⟨ba, oo, none⟩) ws.length c ws (k : Int) (hW.new (hK02.tr hk7)) rfl (by omega)) (fun v w8 hv => ?_)
        rw [hN.rk] at hv
        obtain ⟨a8, c8, rfl, hS8, hK8, _⟩ := hv
        have hk8 := hk7.tr hK8
        refine m_sl rfl rfl ?_
        refine m_int rfl rfl ?_
        refine o_call rfl rfl (refs_ok w8 (some ⟨gx, 0, none⟩) xs.length c2 xs (p : Int) (hS2.rd.new hk8) rfl (by omega)) (fun v w9 hv => ?_)
        rw [hN.rp] at hv
        obtain ⟨a9, c9, rfl, hS9, hK9, _⟩ := hv
        have hk9 := hk8.tr hK9
        have hTm : T.length ≤ 1000000 := by
          have h1 := congrArg List.length hN.rk
          have h2 := refs_len ws (k : Int)
          rw [List.length_map] at h1
          omega
        refine m_sl rfl rfl ?_
        refine m_sl rfl rfl ?_
        refine o_nil ?_
        refine k_seq ?_
        refine k_seq ?_
        refine k_region ?_
        refine m_int rfl rfl ?_
        refine o_nil ?_
        refine k_block ?_
        refine k_loop (σ := Nat) (fun s => [(0, .slice (some ⟨ba, oo, none⟩) ws.length c), (1, .slice (some ⟨br, orr, none⟩) rts.length rc), (2, .slice wa way.length wc), (7, .slice (some ⟨gx, 0, none⟩) xs.length c2), (8, .slice (some ⟨bs, os, none⟩) rs.length d2), (11, .int .i64 (k : Int)), (12, .int .i64 (p : Int)), (13, .int .i64 (q : Int)), (16, .int .i64 (m : Int)), (19, .slice a8 (T.map ((k : Int) + ·)).length c8), (20, .slice a9 (T.map ((p : Int) + ·)).length c9), (21, .int .i64 (s : Int)), (53, .int .i64 (rts.length : Int)), (54, .int .i64 (i : Int))]) (fun s w' => 1 ≤ s ∧ s ≤ m + 1 ∧ Keep [] w9 w') (fun s => m + 1 - s) 1 ⟨rfl, rfl, rfl, rfl, rfl, rfl, rfl, rfl, rfl, rfl, rfl, rfl, rfl, rfl, trivial⟩ ⟨by omega, by omega, Keep.refl _ _⟩ (fun d e w10 hJ => ?_)
        obtain ⟨hd1, hd2, hk10⟩ := hJ
        have hk210 := hk9.tr hk10
        refine k_seq ?_
        refine k_seq ?_
        refine k_region ?_
        refine m_int rfl rfl ?_
        refine m_int rfl rfl ?_
        refine b_leq rfl rfl ?_
        refine o_nil ?_
        refine k_cond rfl (fun h => ?_) (fun h => ?_)
        rotate_left
        ·
          refine k_exit rfl ?_
          refine k_seq ?_
          refine k_seq ?_
          refine k_region ?_
          refine m_int rfl rfl ?_
          refine m_sl rfl rfl ?_
          refine o_lens Tryd.underlying34 rfl ?_
          refine b_eql rfl rfl ?_
          refine m_bool rfl rfl ?_
          refine o_split (t := 172) rfl (fun h => ?_) (fun h => ?_)
          ·
            refine g_no rfl rfl rfl ?_
            refine g_no rfl rfl rfl ?_
            refine g_no rfl rfl rfl ?_
            refine pick_t rfl rfl ?_
            refine o_nil ?_
            refine k_condt rfl ?_
            refine k_exit rfl ?_
            refine k_blk ?_
            refine k_region ?_
            refine n_add rfl rfl (by omega) ?_
            refine m_int rfl rfl ?_
            refine o_nil ?_
            refine k_goal ⟨i + 1, ⟨rfl, rfl, rfl, rfl, rfl, rfl, rfl, trivial⟩, ⟨hin, hk210⟩, by omega⟩
          ·
            refine g_yes rfl rfl ?_
            refine m_sl rfl rfl ?_
            refine g_yes rfl rfl ?_
            refine o_lens Tryd.underlying23 rfl ?_
            refine g_yes rfl rfl ?_
            refine b_eql rfl rfl ?_
            refine pick_f rfl rfl ?_
            refine o_nil ?_
            refine k_cond rfl (fun h => ?_) (fun h => ?_)
            ·
              refine k_exit rfl ?_
              refine k_blk ?_
              refine k_region ?_
              refine n_add rfl rfl (by omega) ?_
              refine m_int rfl rfl ?_
              refine o_nil ?_
              refine k_goal ⟨i + 1, ⟨rfl, rfl, rfl, rfl, rfl, rfl, rfl, trivial⟩, ⟨hin, hk210⟩, by omega⟩
            have hT0 : 0 < T.length := by
              have h' : ¬ (((T.map ((k : Int) + ·)).length : Int) = 0) := h
              rw [List.length_map] at h'
              omega
            have hql : q < way.length := by
              have h' : ¬ ((q : Int) = (way.length : Int)) := by assumption
              omega
            have hby := way[q].isLt
            have hYc : (way.map u8v)[q]? = some (u8v way[q]) := by simp [hql]
            obtain ⟨by', oy, hae, _⟩ := hY _ _ hYc
            subst hae
            obtain ⟨j, hj⟩ : ∃ j, j = way[q].toNat % T.length := ⟨_, rfl⟩
            have hjT : j < T.length := by rw [hj]; exact Nat.mod_lt _ hT0
            obtain ⟨ht1, ht2⟩ := hN.T1 _ (List.getElem_mem hjT)
            obtain ⟨t, htt⟩ : ∃ t : Nat, T[j] = t := ⟨T[j].toNat, by omega⟩
            rw [htt] at ht1 ht2
            have h8at := off_at (k : Int) hjT
            have h9at := off_at (p : Int) hjT
            rw [htt] at h8at h9at
            obtain ⟨b8, o8, hae, _⟩ := hS8.rd _ _ h8at
            subst hae
            obtain ⟨b9, o9, hae, _⟩ := hS9.rd _ _ h9at
            subst hae
            have hK010 := hK02.tr hk210
            refine k_skip ?_
            refine k_seq ?_
            refine k_region ?_
            refine m_sl rfl rfl ?_
            refine m_int rfl rfl ?_
            refine o_ixs1 (m := q) Tryd.underlying34 rfl rfl rfl hql ?_
            refine o_ld (v := u8v way[q]) rfl rfl (hY.cellK hK010 hYc) ?_
            refine cv8_i rfl Tryd.underlying3 rfl ?_
            refine m_sl rfl rfl ?_
            refine o_lens Tryd.underlying23 rfl ?_
            refine b_rem rfl rfl (by rw [List.length_map]; omega) ?_
            rw [show ((way[q].toNat : Int)).tmod ((T.map ((k : Int) + ·)).length : Int) = (j : Int) by rw [List.length_map, hj, Int.tmod_eq_emod_of_nonneg (by omega)]; push_cast; rfl]
            refine m_int rfl rfl ?_
            refine o_nil ?_
            refine k_qk 15 rfl rfl rfl rfl rfl ?_
            refine q_step (fun w1 hC => m_sl rfl rfl (o_nil ⟨rfl, hC⟩)) ?_
            refine q_step (fun w1 hC => m_sl rfl rfl (o_nil ⟨rfl, hC⟩)) ?_
            refine q_step (fun w1 hC => m_int rfl rfl (o_nil ⟨rfl, hC⟩)) ?_
            refine q_step (fun w1 hC => o_ixs1 (m := j) Tryd.underlying23 rfl rfl rfl (by rw [List.length_map]; exact hjT) (o_nil ⟨rfl, hC⟩)) ?_
            refine q_step (fun w1 hC => o_ld (v := iv ((k : Int) + (t : Int))) rfl rfl (hS8.rd.cellK ((hK9.tr hk10).tr hC) h8at) (o_nil ⟨rfl, hC⟩)) ?_
            refine q_step (fun w1 hC => o_ixs1 (m := k + t) Tryd.underlying22 rfl rfl (congrArg (Value.int .i64) (by push_cast; omega)) (by omega) (o_nil ⟨rfl, hC⟩)) ?_
            refine q_step (fun w1 hC => o_ld (v := iv (ws.getD (k + t) 0)) rfl rfl (getD_cell hW (k + t) (by omega) (hK010.tr hC)) (o_nil ⟨rfl, hC⟩)) ?_
            refine q_step (fun w1 hC => m_sl rfl rfl (o_nil ⟨rfl, hC⟩)) ?_
            refine q_step (fun w1 hC => m_sl rfl rfl (o_nil ⟨rfl, hC⟩)) ?_
            refine q_step (fun w1 hC => m_int rfl rfl (o_nil ⟨rfl, hC⟩)) ?_
            refine q_step (fun w1 hC => o_ixs1 (m := j) Tryd.underlying23 rfl rfl rfl (by rw [List.length_map]; exact hjT) (o_nil ⟨rfl, hC⟩)) ?_
            refine q_step (fun w1 hC => o_ld (v := iv ((p : Int) + (t : Int))) rfl rfl (hS9.rd.cellK (hk10.tr hC) h9at) (o_nil ⟨rfl, hC⟩)) ?_
            refine q_step (fun w1 hC => o_ixs1 (m := p + t) Tryd.underlying22 rfl rfl (congrArg (Value.int .i64) (by push_cast; omega)) (by omega) (o_nil ⟨rfl, hC⟩)) ?_
            refine q_step (fun w1 hC => o_ld (v := iv (xs.getD (p + t) 0)) rfl rfl (getD_cell hS2.rd (p + t) (by omega) (hk210.tr hC)) (o_nil ⟨rfl, hC⟩)) ?_
            refine q_step (fun w1 hC => m_int rfl rfl (o_nil ⟨rfl, hC⟩)) ?_
            refine q_nil ?_
            intro w11 hC11
            have hTt : (t : Int) ∈ T := by rw [← htt]; exact List.getElem_mem hjT
            have hcl := hN.cell t (by omega)
            rw [if_pos hTt] at hcl
            have htg := hSL.tgt hxl (c := (k : Int) + (t : Int)) (by rw [hN.rk]; exact List.mem_map.2 ⟨_, hTt, rfl⟩)
            rw [show ((k : Int) + (t : Int)).toNat = k + t by omega] at htg
            refine m_int rfl rfl ?_
            refine o_nil ?_
            refine k_blk ?_
            refine k_region ?_
            refine m_int rfl rfl ?_
            refine n_add rfl rfl (by omega) ?_
            refine m_int rfl rfl ?_
            refine o_nil ?_
            refine k_goal ⟨(q + 1, ws.getD (k + t) 0, xs.getD (p + t) 0), ⟨rfl, rfl, rfl, rfl, rfl, rfl, rfl, rfl, rfl, rfl, trivial⟩, ⟨hql, htg, hcl, hk210.tr hC11⟩, by simp only; omega⟩
        have hdm : d ≤ m := by omega
        have hK010 := hK02.tr hk210
        have hcl := hN.cell d hdm
        refine k_skip ?_
        refine k_seq ?_
        refine k_block ?_
        refine k_seq ?_
        refine k_qk 31 rfl rfl rfl rfl rfl ?_
        refine q_step (fun w1 hC => m_sl rfl rfl (o_nil ⟨rfl, hC⟩)) ?_
        refine q_step (fun w1 hC => m_int rfl rfl (o_nil ⟨rfl, hC⟩)) ?_
        refine q_step (fun w1 hC => m_int rfl rfl (o_nil ⟨rfl, hC⟩)) ?_
        refine q_step (fun w1 hC => n_add rfl rfl (by omega) (o_nil ⟨rfl, hC⟩)) ?_
        refine q_step (v := .bool (decide ((k : Int) + (d : Int) ∈ T.map ((k : Int) + ·)))) (fun w1 hC => o_call rfl rfl (in_ok w1 a8 c8 (T.map ((k : Int) + ·)) ((k : Int) + (d : Int)) (hS8.rd.new ((hK9.tr hk10).tr hC)) (by rw [List.length_map]; omega)) (fun v w2 hv => by obtain ⟨rfl, rfl⟩ := hv; exact o_nil ⟨rfl, hC⟩)) ?_
        refine q_step (fun w1 hC => u_not rfl (o_nil ⟨rfl, hC⟩)) ?_
        refine q_step (fun w1 hC => m_bool rfl rfl (o_nil ⟨rfl, hC⟩)) ?_
        refine q_split (t := 140) rfl (fun h => ?_) (fun h => ?_)
        ·
          refine q_step (fun w1 hC => g_yes rfl rfl (m_sl rfl rfl (o_nil ⟨rfl, hC⟩))) ?_
          refine q_step (fun w1 hC => g_yes rfl rfl (m_int rfl rfl (o_nil ⟨rfl, hC⟩))) ?_
          refine q_step (fun w1 hC => g_yes rfl rfl (m_int rfl rfl (o_nil ⟨rfl, hC⟩))) ?_
          refine q_step (fun w1 hC => g_yes rfl rfl (n_add rfl rfl (by omega) (o_nil ⟨rfl, hC⟩))) ?_
          refine q_step (fun w1 hC => g_yes rfl rfl (o_ixs1 (m := k + d) Tryd.underlying22 rfl rfl (congrArg (Value.int .i64) (by push_cast; omega)) (by omega) (o_nil ⟨rfl, hC⟩))) ?_
          refine q_step (fun w1 hC => g_yes rfl rfl (o_ld (v := iv (ws.getD (k + d) 0)) rfl rfl (getD_cell hW (k + d) (by omega) (hK010.tr hC)) (o_nil ⟨rfl, hC⟩))) ?_
          refine q_step (fun w1 hC => g_yes rfl rfl (m_sl rfl rfl (o_nil ⟨rfl, hC⟩))) ?_
          refine q_step (fun w1 hC => g_yes rfl rfl (m_int rfl rfl (o_nil ⟨rfl, hC⟩))) ?_
          refine q_step (fun w1 hC => g_yes rfl rfl (m_int rfl rfl (o_nil ⟨rfl, hC⟩))) ?_
          refine q_step (fun w1 hC => g_yes rfl rfl (n_add rfl rfl (by omega) (o_nil ⟨rfl, hC⟩))) ?_
          refine q_step (fun w1 hC => g_yes rfl rfl (o_ixs1 (m := p + d) Tryd.underlying22 rfl rfl (congrArg (Value.int .i64) (by push_cast; omega)) (by omega) (o_nil ⟨rfl, hC⟩))) ?_
          refine q_step (fun w1 hC => g_yes rfl rfl (o_ld (v := iv (xs.getD (p + d) 0)) rfl rfl (getD_cell hS2.rd (p + d) (by omega) (hk210.tr hC)) (o_nil ⟨rfl, hC⟩))) ?_
          refine q_step (fun w1 hC => g_yes rfl rfl (b_neq rfl rfl (o_nil ⟨rfl, hC⟩))) ?_
          refine q_step (fun w1 hC => pick_t rfl rfl (o_nil ⟨rfl, hC⟩)) ?_
          refine q_step (fun w1 hC => m_bool rfl rfl (o_nil ⟨rfl, hC⟩)) ?_
          refine q_false (t := 155) rfl ((fun h' => h' (by rw [hcl, if_neg (fun hh => h ((mem_off _ _ _).2 hh))]))) ?_
          refine q_step (fun w1 hC => g_yes rfl rfl (m_sl rfl rfl (o_nil ⟨rfl, hC⟩))) ?_
          refine q_step (fun w1 hC => g_yes rfl rfl (m_int rfl rfl (o_nil ⟨rfl, hC⟩))) ?_
          refine q_step (fun w1 hC => g_yes rfl rfl (m_int rfl rfl (o_nil ⟨rfl, hC⟩))) ?_
          refine q_step (fun w1 hC => g_yes rfl rfl (n_add rfl rfl (by omega) (o_nil ⟨rfl, hC⟩))) ?_
          refine q_step (v := .bool (decide ((k : Int) + (d : Int) ∈ T.map ((k : Int) + ·)))) (fun w1 hC => g_yes rfl rfl (o_call rfl rfl (in_ok w1 a8 c8 (T.map ((k : Int) + ·)) ((k : Int) + (d : Int)) (hS8.rd.new ((hK9.tr hk10).tr hC)) (by rw [List.length_map]; omega)) (fun v w2 hv => by obtain ⟨rfl, rfl⟩ := hv; exact o_nil ⟨rfl, hC⟩))) ?_
          refine q_step (fun w1 hC => g_yes rfl rfl (m_sl rfl rfl (o_nil ⟨rfl, hC⟩))) ?_
          refine q_step (fun w1 hC => g_yes rfl rfl (m_int rfl rfl (o_nil ⟨rfl, hC⟩))) ?_
          refine q_step (fun w1 hC => g_yes rfl rfl (m_int rfl rfl (o_nil ⟨rfl, hC⟩))) ?_
          refine q_step (fun w1 hC => g_yes rfl rfl (n_add rfl rfl (by omega) (o_nil ⟨rfl, hC⟩))) ?_
          refine q_nil ?_
          intro w11 hC11
          refine g_yes rfl rfl ?_
          refine o_call rfl rfl (in_ok w11 a9 c9 (T.map ((p : Int) + ·)) ((p : Int) + (d : Int)) (hS9.rd.new (hk10.tr hC11)) (by rw [List.length_map]; omega)) (fun v w12 hv => ?_)
          obtain ⟨rfl, rfl⟩ := hv
          refine g_yes rfl rfl ?_
          refine b_neqb Tryd.underlying4 rfl rfl ?_
          refine pick_f rfl rfl ?_
          refine o_nil ?_
          refine k_no rfl ((fun h' => h' (decide_eq_decide.2 ((mem_off _ _ _).trans (mem_off _ _ _).symm)))) ?_
          refine k_skip ?_
          refine k_blk ?_
          refine k_region ?_
          refine m_int rfl rfl ?_
          refine n_add rfl rfl (by omega) ?_
          refine m_int rfl rfl ?_
          refine o_nil ?_
          refine k_goal ⟨d + 1, ⟨rfl, rfl, rfl, rfl, rfl, rfl, rfl, rfl, rfl, rfl, rfl, rfl, rfl, rfl, trivial⟩, ⟨by omega, by omega, hk10.tr hC11⟩, by omega⟩
        ·
          refine q_step (v := undef) (fun w1 hC => g_no rfl rfl rfl (o_nil ⟨rfl, hC⟩)) ?_
          refine q_step (v := undef) (fun w1 hC => g_no rfl rfl rfl (o_nil ⟨rfl, hC⟩)) ?_
          refine q_step (v := undef) (fun w1 hC => g_no rfl rfl rfl (o_nil ⟨rfl, hC⟩)) ?_
          refine q_step (v := undef) (fun w1 hC => g_no rfl rfl rfl (o_nil ⟨rfl, hC⟩)) ?_
          refine q_step (v := undef) (fun w1 hC => g_no rfl rfl rfl (o_nil ⟨rfl, hC⟩)) ?_
          refine q_step (v := undef) (fun w1 hC => g_no rfl rfl rfl (o_nil ⟨rfl, hC⟩)) ?_
          refine q_step (v := undef) (fun w1 hC => g_no rfl rfl rfl (o_nil ⟨rfl, hC⟩)) ?_
          refine q_step (v := undef) (fun w1 hC => g_no rfl rfl rfl (o_nil ⟨rfl, hC⟩)) ?_
          refine q_step (v := undef) (fun w1 hC => g_no rfl rfl rfl (o_nil ⟨rfl, hC⟩)) ?_
          refine q_step (v := undef) (fun w1 hC => g_no rfl rfl rfl (o_nil ⟨rfl, hC⟩)) ?_
          refine q_step (v := undef) (fun w1 hC => g_no rfl rfl rfl (o_nil ⟨rfl, hC⟩)) ?_
          refine q_step (v := undef) (fun w1 hC => g_no rfl rfl rfl (o_nil ⟨rfl, hC⟩)) ?_
          refine q_step (v := undef) (fun w1 hC => g_no rfl rfl rfl (o_nil ⟨rfl, hC⟩)) ?_
          refine q_step (fun w1 hC => pick_f rfl rfl (o_nil ⟨rfl, hC⟩)) ?_
          refine q_step (fun w1 hC => m_bool rfl rfl (o_nil ⟨rfl, hC⟩)) ?_
          refine q_step (fun w1 hC => g_yes rfl rfl (m_sl rfl rfl (o_nil ⟨rfl, hC⟩))) ?_
          refine q_step (fun w1 hC => g_yes rfl rfl (m_int rfl rfl (o_nil ⟨rfl, hC⟩))) ?_
          refine q_step (fun w1 hC => g_yes rfl rfl (m_int rfl rfl (o_nil ⟨rfl, hC⟩))) ?_
          refine q_step (fun w1 hC => g_yes rfl rfl (n_add rfl rfl (by omega) (o_nil ⟨rfl, hC⟩))) ?_
          refine q_step (v := .bool (decide ((k : Int) + (d : Int) ∈ T.map ((k : Int) + ·)))) (fun w1 hC => g_yes rfl rfl (o_call rfl rfl (in_ok w1 a8 c8 (T.map ((k : Int) + ·)) ((k : Int) + (d : Int)) (hS8.rd.new ((hK9.tr hk10).tr hC)) (by rw [List.length_map]; omega)) (fun v w2 hv => by obtain ⟨rfl, rfl⟩ := hv; exact o_nil ⟨rfl, hC⟩))) ?_
          refine q_step (fun w1 hC => g_yes rfl rfl (m_sl rfl rfl (o_nil ⟨rfl, hC⟩))) ?_
          refine q_step (fun w1 hC => g_yes rfl rfl (m_int rfl rfl (o_nil ⟨rfl, hC⟩))) ?_
          refine q_step (fun w1 hC => g_yes rfl rfl (m_int rfl rfl (o_nil ⟨rfl, hC⟩))) ?_
          refine q_step (fun w1 hC => g_yes rfl rfl (n_add rfl rfl (by omega) (o_nil ⟨rfl, hC⟩))) ?_
          refine q_nil ?_
          intro w11 hC11
          refine g_yes rfl rfl ?_
          refine o_call rfl rfl (in_ok w11 a9 c9 (T.map ((p : Int) + ·)) ((p : Int) + (d : Int)) (hS9.rd.new (hk10.tr hC11)) (by rw [List.length_map]; omega)) (fun v w12 hv => ?_)
          obtain ⟨rfl, rfl⟩ := hv
          refine g_yes rfl rfl ?_
          refine b_neqb Tryd.underlying4 rfl rfl ?_
          refine pick_f rfl rfl ?_
          refine o_nil ?_
          refine k_no rfl ((fun h' => h' (decide_eq_decide.2 ((mem_off _ _ _).trans (mem_off _ _ _).symm)))) ?_
          refine k_skip ?_
          refine k_blk ?_
          refine k_region ?_
          refine m_int rfl rfl ?_
          refine n_add rfl rfl (by omega) ?_
          refine m_int rfl rfl ?_
          refine o_nil ?_
          refine k_goal ⟨d + 1, ⟨rfl, rfl, rfl, rfl, rfl, rfl, rfl, rfl, rfl, rfl, rfl, rfl, rfl, rfl, trivial⟩, ⟨by omega, by omega, hk10.tr hC11⟩, by omega⟩
end Go.Proofs.YtchbidckckmobaaDoor

/- Strings of the heap, plain; SameUnits. No condition beyond what each lemma names. -/
namespace Go.Proofs.YtchbidckckmobaaDoor
open Go.RowKit E
set_option linter.unusedVariables false
set_option linter.unusedSimpArgs false
set_option maxRecDepth 100000
attribute [local irreducible] ow qw kw kq cw opW Ret
/-- at p there lies a string of the units us -/
def StrAt (ws L : List Int) (p : Int) (us : Us) : Prop := ∃ (q : Nat) (c m : Int), p = q ∧ p ∈ L ∧ openW (ws.getD q 0) = (2, c, (us.length : Int), m, 0) ∧ q + 1 + us.length ≤ ws.length ∧ ∀ i (h : i < us.length), ws.getD (q + 1 + i) 0 = ui (us[i])
theorem getD_app {l t : List Int} {i : Nat} (h : i < l.length) : (l ++ t).getD i 0 = l.getD i 0 := by
  simp [List.getD, List.getElem?_append_left h]
theorem StrAt.app {ws L : List Int} {p : Int} {us : Us} (h : StrAt ws L p us) (t M : List Int) : StrAt (ws ++ t) (L ++ M) p us := by
  obtain ⟨q, c, m, rfl, hp, ho, hl, hu⟩ := h
  refine ⟨q, c, m, rfl, List.mem_append_left _ hp, ?_, by simp; omega, fun i hi => ?_⟩
  · rw [getD_app (by omega)]; exact ho
  · rw [getD_app (by omega)]; exact hu i hi
theorem StrAt.look {ws L : List Int} {p : Int} {us : Us} (h : StrAt ws L p us) : ∃ c, lookH ws L p = (2, c, (us.length : Int), 0) := by
  obtain ⟨q, c, m, rfl, hp, ho, hl, hu⟩ := h
  exact ⟨c, by rw [look_in hp, show (q : Int).toNat = q from by omega, ho]⟩
theorem ui_back (u : BitVec 16) : BitVec.ofInt 16 (ui u) = u := by unfold ui; simp
theorem StrAt.units {ws L : List Int} {p : Int} {us : Us} (h : StrAt ws L p us) : unitsN ws L p = (us, 0) := by
  obtain ⟨c, hk⟩ := h.look
  obtain ⟨q, c', m, rfl, hp, ho, hl, hu⟩ := h
  unfold unitsN
  rw [hk, if_neg (by simp), if_neg (by simp)]
  refine Prod.ext ?_ rfl
  show (List.range ((us.length : Int)).toNat).map _ = us
  refine List.ext_getElem (by simp) fun i h1 h2 => ?_
  simp only [List.getElem_map, List.getElem_range, show (q : Int).toNat = q from by omega]
  rw [hu i h2, ui_back]
theorem StrAt.char {ws L : List Int} {p : Int} {us : Us} (h : StrAt ws L p us) (i : Nat) (hi : i < us.length) : charN ws L p (i : Int) = (ui (us[i]), 0) := by
  obtain ⟨c, hk⟩ := h.look
  obtain ⟨q, c', m, rfl, hp, ho, hl, hu⟩ := h
  unfold charN
  rw [hk, if_neg (by simp), if_neg (by simp; omega)]
  rw [show (q : Int).toNat = q from by omega, show (i : Int).toNat = i from by omega, hu i hi, ui_back]
theorem StrAt.charEnd {ws L : List Int} {p : Int} {us : Us} (h : StrAt ws L p us) (i : Int) (hi : i < 0 ∨ (us.length : Int) ≤ i) : charN ws L p i = (0, 1) := by
  obtain ⟨c, hk⟩ := h.look
  unfold charN
  rw [hk, if_neg (by simp), if_pos (by simp; omega)]
/-- Make, where there is room -/
theorem make_fits {ws L : List Int} {lim cl : Int} {us : Us} (hc : 0 ≤ cl ∧ cl ≤ 65535) (hr : (us.length : Int) < lim - ((ws.length : Int) - 1)) (hn : us.length ≤ 65536) :
    ∃ t M, makeN ws L lim cl us = ((ws.length : Int), 0, ws ++ t, L ++ M) ∧ t.length = us.length + 1 ∧ StrAt (ws ++ t) (L ++ M) (ws.length : Int) us := by
  have hok : hOk 2 cl us.length 0 := ⟨by decide, by decide, hc.1, hc.2, by omega, by omega, fun _ => rfl, fun h => by cases h⟩
  have hh := head_yes hok
  have hlay : (layH ws L lim 2 cl us.length 0).2.1 = 0 := by
    unfold layH
    rw [if_neg (by omega), if_neg (by omega), hh, if_neg (by simp)]
  refine ⟨(headW 2 cl us.length 0).1 :: us.map ui, [(ws.length : Int)], ?_, by simp, ⟨ws.length, cl, 0, rfl, by simp, ?_, by simp; omega, fun i hi => ?_⟩⟩
  · unfold makeN
    rw [if_neg (by simp [hlay])]
  · have : (ws ++ (headW 2 cl us.length 0).1 :: us.map ui).getD ws.length 0 = (headW 2 cl us.length 0).1 := by simp [List.getD]
    rw [this, hh]
    exact open_head 2 cl us.length 0 hok
  · simp only [List.getD]
    rw [List.getElem?_append_right (by omega), show ws.length + 1 + i - ws.length = i + 1 from by omega, List.getElem?_cons_succ, List.getElem?_map, List.getElem?_eq_getElem hi]
    rfl
theorem conc_fits {ws L : List Int} {lim cl p q : Int} {us vs : Us} (h1 : StrAt ws L p us) (h2 : StrAt ws L q vs) (hc : 0 ≤ cl ∧ cl ≤ 65535) (hr : ((us ++ vs).length : Int) < lim - ((ws.length : Int) - 1)) (hn : (us ++ vs).length ≤ 65536) :
    ∃ t M, concN ws L lim cl p q = ((ws.length : Int), 0, ws ++ t, L ++ M) ∧ t.length = (us ++ vs).length + 1 ∧ StrAt (ws ++ t) (L ++ M) (ws.length : Int) (us ++ vs) := by
  have := make_fits (ws := ws) (L := L) (lim := lim) (cl := cl) hc hr hn
  unfold concN
  rw [h1.units, h2.units, if_neg (by simp), if_neg (by simp)]
  exact this
theorem equ_str {ws L : List Int} {p q : Int} {us vs : Us} (h1 : StrAt ws L p us) (h2 : StrAt ws L q vs) : equN ws L p q = decide (us = vs) := by
  unfold equN
  rw [h1.units, h2.units]
  simp
theorem sameu_ok (w : World) (a1 a2 : Option Addr) (c1 c2 : Nat) (us vs : Us) (hR1 : Rd w a1 (us.map u16v)) (hR2 : Rd w a2 (vs.map u16v)) (hu : us.length ≤ 9223372036854775807) (hv : vs.length ≤ 9223372036854775807) :
    Ret Tryd.prog 49 [.slice a1 us.length c1, .slice a2 vs.length c2] w (fun v w' => v = .bool (decide (us = vs)) ∧ Keep [] w w') := by
  refine fn_enter (n := 26) Tryd.func49 rfl rfl (Nat.le_of_ble_eq_true rfl) (fun e => ?_)
  refine k_seq ?_
  refine k_region ?_
  refine m_bool rfl rfl ?_
  refine o_nil ?_
  refine k_seq ?_
  refine k_seq ?_
  refine k_region ?_
  refine m_sl rfl rfl ?_
  refine o_lens Tryd.underlying77 rfl ?_
  refine m_sl rfl rfl ?_
  refine o_lens Tryd.underlying77 rfl ?_
  refine b_neq rfl rfl ?_
  refine o_nil ?_
  refine k_cond rfl (fun h => ?_) (fun h => ?_)
  ·
    refine k_seq ?_
    refine k_region ?_
    refine m_bool rfl rfl ?_
    refine o_nil ?_
    refine k_ret (ret_tmps (ts := [4]) (v := .bool _) rfl rfl ?_)
    exact ⟨congrArg Value.bool (decide_eq_false (fun hh => h (by rw [hh]))).symm, Keep.refl _ _⟩
  have hlen : us.length = vs.length := by omega
  refine k_skip ?_
  refine k_seq ?_
  refine k_seq ?_
  refine k_region ?_
  refine m_int rfl rfl ?_
  refine o_nil ?_
  refine k_block ?_
  refine k_loop (σ := Nat) (fun i => [(0, .slice a1 us.length c1), (1, .slice a2 vs.length c2), (5, .int .i64 (i : Int))]) (fun i w' => i ≤ us.length ∧ (∀ j, j < i → us[j]? = vs[j]?) ∧ Keep [] w w') (fun i => us.length - i) 0 ⟨rfl, rfl, rfl, trivial⟩ ⟨Nat.zero_le _, (fun j hj => by omega), Keep.refl _ _⟩ (fun i e w3 hJ => ?_)
  obtain ⟨hi, hpre, hK3⟩ := hJ
  refine k_seq ?_
  refine k_seq ?_
  refine k_region ?_
  refine m_int rfl rfl ?_
  refine m_sl rfl rfl ?_
  refine o_lens Tryd.underlying77 rfl ?_
  refine b_lss rfl rfl ?_
  refine o_nil ?_
  refine k_cond rfl (fun h => ?_) (fun h => ?_)
  rotate_left
  ·
    refine k_exit rfl ?_
    refine k_seq ?_
    refine k_region ?_
    refine m_bool rfl rfl ?_
    refine o_nil ?_
    refine k_ret (ret_tmps (ts := [4]) (v := .bool _) rfl rfl ?_)
    refine ⟨congrArg Value.bool (decide_eq_true ?_).symm, hK3⟩
    refine List.ext_getElem? fun j => ?_
    by_cases hj : j < us.length
    · exact hpre j (by omega)
    · rw [List.getElem?_eq_none (by omega), List.getElem?_eq_none (by omega)]
  have hin : i < us.length := by omega
  have hx := u16_at us i hin
  have hy := u16_at vs i (by omega)
  obtain ⟨b1, o1, hae, _⟩ := hR1 _ _ hx
  obtain ⟨b2, o2, hbe, _⟩ := hR2 _ _ hy
  subst hae hbe
  refine k_skip ?_
  refine k_seq ?_
  refine k_block ?_
  refine k_seq ?_
  refine k_qk 8 rfl rfl rfl rfl rfl ?_
  refine q_step (fun w1 hC => m_sl rfl rfl (o_nil ⟨rfl, hC⟩)) ?_
  refine q_step (fun w1 hC => m_int rfl rfl (o_nil ⟨rfl, hC⟩)) ?_
  refine q_step (fun w1 hC => o_ixs1 Tryd.underlying77 rfl rfl rfl hin (o_nil ⟨rfl, hC⟩)) ?_
  refine q_step (fun w1 hC => o_ld rfl rfl (hR1.cellK (hK3.tr hC) hx) (o_nil ⟨rfl, hC⟩)) ?_
  refine q_step (fun w1 hC => m_sl rfl rfl (o_nil ⟨rfl, hC⟩)) ?_
  refine q_step (fun w1 hC => m_int rfl rfl (o_nil ⟨rfl, hC⟩)) ?_
  refine q_step (fun w1 hC => o_ixs1 Tryd.underlying77 rfl rfl rfl (by omega) (o_nil ⟨rfl, hC⟩)) ?_
  refine q_step (fun w1 hC => o_ld rfl rfl (hR2.cellK (hK3.tr hC) hy) (o_nil ⟨rfl, hC⟩)) ?_
  refine q_nil ?_
  intro w4 hC4
  refine v16_neq rfl rfl ?_
  refine o_nil ?_
  refine k_cond rfl (fun h => ?_) (fun h => ?_)
  ·
    refine k_seq ?_
    refine k_region ?_
    refine m_bool rfl rfl ?_
    refine o_nil ?_
    refine k_ret (ret_tmps (ts := [4]) (v := .bool _) rfl rfl ?_)
    refine ⟨congrArg Value.bool (decide_eq_false (fun hh => h ?_)).symm, hK3.tr hC4⟩
    subst hh
    rfl
  refine k_skip ?_
  refine k_blk ?_
  refine k_region ?_
  refine m_int rfl rfl ?_
  refine n_add rfl rfl (by omega) ?_
  refine m_int rfl rfl ?_
  refine o_nil ?_
  refine k_goal ⟨i + 1, ⟨rfl, rfl, rfl, trivial⟩, ⟨by omega, fun j hj => ?_, hK3.tr hC4⟩, by omega⟩
  by_cases hji : j = i
  · rw [hji, List.getElem?_eq_getElem hin, List.getElem?_eq_getElem (by omega)]
    exact congrArg some (Decidable.of_not_not h)
  · exact hpre j (by omega)
end Go.Proofs.YtchbidckckmobaaDoor

/- Copy. No condition beyond what each contract names. -/
namespace Go.Proofs.YtchbidckckmobaaDoor
open Go.RowKit E
set_option linter.unusedVariables false
set_option linter.unusedSimpArgs false
set_option maxRecDepth 100000
attribute [local irreducible] ow qw kw kq cw opW Ret
/-- one cell's copying -/
def stepC (L : List Int) (p i q k : Int) (ws : List Int) (j : Int) : List Int := (setH ws L q (k + j) (getH ws L p (i + j)).1).2
/-- the cells' order -/
def ordC (D : Prop) [Decidable D] (n : Int) (m : Nat) : Int := if D then n - 1 - m else m
def runC (L : List Int) (p i q k n : Int) (D : Prop) [Decidable D] (ws : List Int) : Nat → List Int
  | 0 => ws
  | m + 1 => stepC L p i q k (runC L p i q k n D ws m) (ordC D n m)
def copyN (ws L : List Int) (p i q k n : Int) : Int × List Int :=
  if (lookH ws L p).2.2.2 ≠ 0 then ((lookH ws L p).2.2.2, ws)
  else if (lookH ws L q).2.2.2 ≠ 0 then ((lookH ws L q).2.2.2, ws)
  else if (lookH ws L p).1 = 1 ∨ (lookH ws L p).1 ≠ (lookH ws L q).1 ∨ (lookH ws L p).2.1 ≠ (lookH ws L q).2.1 then (28, ws)
  else if n < 0 ∨ i < 0 ∨ k < 0 ∨ (lookH ws L p).2.2.1 - n < i ∨ (lookH ws L q).2.2.1 - n < k then (1, ws)
  else (0, runC L p i q k n (p = q ∧ i < k) ws n.toNat)
theorem look_rng {ws L : List Int} (hW : WFH ws L) (p : Int) : 0 ≤ (lookH ws L p).2.2.1 ∧ (lookH ws L p).2.2.1 ≤ 65537 := by
  by_cases h : (lookH ws L p).2.2.2 = 0
  · obtain ⟨q, hq, rfl, h1, h2, h3, h4, h5⟩ := look_n hW h
    rw [h3]
    have := hW.len
    dsimp only
    omega
  · have hp : p ∉ L := fun hp => h ((look_e hW).2 hp)
    rw [look_out hp]
    exact ⟨by decide, by decide⟩
theorem get_rng {ws L : List Int} (hW : WFH ws L) (p i : Int) : -9223372036854775808 ≤ (getH ws L p i).1 ∧ (getH ws L p i).1 ≤ 9223372036854775807 := by
  unfold getH
  split
  · exact ⟨by simp, by simp⟩
  · simp only [List.getD]
    cases h : ws[(cellH ws L p i).1.toNat]? with
    | none => exact ⟨by decide, by decide⟩
    | some x => exact hW.rng x (List.mem_of_getElem? h)
theorem ordC_0 {D : Prop} [Decidable D] (n : Int) : ordC D n 0 = if D then n - 1 else 0 := by unfold ordC; split <;> simp
theorem ordC_end {D : Prop} [Decidable D] (n : Int) (h0 : 0 ≤ n) (m : Nat) : ordC D n m = (if D then -1 else n) ↔ (m : Int) = n := by unfold ordC; split <;> omega
theorem ordC_in {D : Prop} [Decidable D] (n : Int) (m : Nat) (h : (m : Int) < n) : 0 ≤ ordC D n m ∧ ordC D n m < n := by unfold ordC; split <;> omega
theorem ordC_all {D : Prop} [Decidable D] (n : Int) (h0 : 0 ≤ n) (m : Nat) (h : (m : Int) ≤ n) : -1 ≤ ordC D n m ∧ ordC D n m ≤ n := by unfold ordC; split <;> omega
theorem ordC_step {D : Prop} [Decidable D] (n : Int) (m : Nat) : ordC D n m + (if D then -1 else 1) = ordC D n (m + 1) := by unfold ordC; split <;> (try push_cast) <;> omega
theorem copy_ok (kk : Nat → Prop) (w : World) (hb : Nat) (ws : List Int) (lim : Int) (L : List Int) (p i q k n : Int) (hHP : HP kk w hb ws lim L) (hW : WFH ws L) (hu : (ws.length : Int) ≤ lim + 1)
    (hi : -9223372036854775808 ≤ i ∧ i ≤ 9223372036854775807) (hk : -9223372036854775808 ≤ k ∧ k ≤ 9223372036854775807) (hn : -9223372036854775808 ≤ n ∧ n ≤ 9223372036854775807) :
    Ret Tryd.prog 51 [.pointer (some ⟨hb, 0, none⟩), .int .i64 p, .int .i64 i, .int .i64 q, .int .i64 k, .int .i64 n] w (fun v w' => v = .int .i64 (copyN ws L p i q k n).1 ∧ HRes kk w hb lim w' (copyN ws L p i q k n).2 L) := by
  have hr1 := look_rng hW p
  have hr2 := look_rng hW q
  have keep0 : HRes kk w hb lim w ws L := ⟨hHP, hW, hu, (Keep.refl [] _).h⟩
  refine fn_enter (n := 119) Tryd.func51 rfl rfl (Nat.le_of_ble_eq_true rfl) (fun e => ?_)
  refine k_seq ?_
  refine k_region ?_
  refine m_int rfl rfl ?_
  refine o_nil ?_
  refine k_seq ?_
  refine k_region ?_
  refine m_ptr rfl rfl ?_
  refine m_int rfl rfl ?_
  refine o_call rfl rfl (look_ok kk w hb ws lim L p hHP hW) (fun v w1 hv => ?_)
  obtain ⟨rfl, rfl⟩ := hv
  refine m_any rfl rfl ?_
  refine o_extr rfl rfl ?_
  refine o_extr rfl rfl ?_
  refine o_extr rfl rfl ?_
  refine o_extr rfl rfl ?_
  refine m_int rfl rfl ?_
  refine m_int rfl rfl ?_
  refine m_int rfl rfl ?_
  refine m_int rfl rfl ?_
  refine o_nil ?_
  refine k_seq ?_
  refine k_seq ?_
  refine k_region ?_
  refine m_int rfl rfl ?_
  refine b_neq rfl rfl ?_
  refine o_nil ?_
  refine k_cond rfl (fun h => ?_) (fun h => ?_)
  ·
    refine k_seq ?_
    refine k_region ?_
    refine m_int rfl rfl ?_
    refine m_int rfl rfl ?_
    refine o_nil ?_
    refine k_ret (ret_tmps (ts := [12]) (v := .int _ _) rfl rfl ?_)
    rw [show copyN ws L p i q k n = ((lookH ws L p).2.2.2, ws) from if_pos h]; exact ⟨rfl, keep0⟩
  have e1 : copyN ws L p i q k n = _ := if_neg h
  refine k_skip ?_
  refine k_seq ?_
  refine k_region ?_
  refine m_ptr rfl rfl ?_
  refine m_int rfl rfl ?_
  refine o_call rfl rfl (look_ok kk w1 hb ws lim L q hHP hW) (fun v w2 hv => ?_)
  obtain ⟨rfl, rfl⟩ := hv
  refine m_any rfl rfl ?_
  refine o_extr rfl rfl ?_
  refine o_extr rfl rfl ?_
  refine o_extr rfl rfl ?_
  refine o_extr rfl rfl ?_
  refine m_int rfl rfl ?_
  refine m_int rfl rfl ?_
  refine m_int rfl rfl ?_
  refine m_int rfl rfl ?_
  refine o_nil ?_
  refine k_seq ?_
  refine k_block ?_
  refine k_seq ?_
  refine k_region ?_
  refine m_int rfl rfl ?_
  refine b_neq rfl rfl ?_
  refine m_bool rfl rfl ?_
  refine o_nil ?_
  refine k_cond rfl (fun h => ?_) (fun h => ?_)
  ·
    refine k_seq ?_
    refine k_region ?_
    refine m_int rfl rfl ?_
    refine m_int rfl rfl ?_
    refine o_nil ?_
    refine k_ret (ret_tmps (ts := [12]) (v := .int _ _) rfl rfl ?_)
    rw [e1, if_pos h]; exact ⟨rfl, keep0⟩
  rw [if_neg h] at e1
  refine k_seq ?_
  refine k_region ?_
  refine m_int rfl rfl ?_
  refine b_eql rfl rfl ?_
  refine m_bool rfl rfl ?_
  refine o_split (t := 51) rfl (fun h => ?_) (fun h => ?_)
  ·
    refine g_no rfl rfl rfl ?_
    refine g_no rfl rfl rfl ?_
    refine g_no rfl rfl rfl ?_
    refine pick_t rfl rfl ?_
    refine m_bool rfl rfl ?_
    refine g_no rfl rfl rfl ?_
    refine g_no rfl rfl rfl ?_
    refine g_no rfl rfl rfl ?_
    refine pick_t rfl rfl ?_
    refine m_bool rfl rfl ?_
    refine o_nil ?_
    refine k_condt rfl ?_
    refine k_seq ?_
    refine k_region ?_
    refine m_int rfl rfl ?_
    refine o_nil ?_
    refine k_ret (ret_tmps (ts := [12]) (v := .int _ _) rfl rfl ?_)
    rw [e1, if_pos (.inl h)]; exact ⟨rfl, keep0⟩
  ·
    refine g_yes rfl rfl ?_
    refine m_int rfl rfl ?_
    refine g_yes rfl rfl ?_
    refine m_int rfl rfl ?_
    refine g_yes rfl rfl ?_
    refine b_neq rfl rfl ?_
    refine pick_f rfl rfl ?_
    refine m_bool rfl rfl ?_
    refine o_split (t := 56) rfl (fun h => ?_) (fun h => ?_)
    ·
      refine g_no rfl rfl rfl ?_
      refine g_no rfl rfl rfl ?_
      refine g_no rfl rfl rfl ?_
      refine pick_t rfl rfl ?_
      refine m_bool rfl rfl ?_
      refine o_nil ?_
      refine k_condt rfl ?_
      refine k_seq ?_
      refine k_region ?_
      refine m_int rfl rfl ?_
      refine o_nil ?_
      refine k_ret (ret_tmps (ts := [12]) (v := .int _ _) rfl rfl ?_)
      rw [e1, if_pos (.inr (.inl h))]; exact ⟨rfl, keep0⟩
    ·
      refine g_yes rfl rfl ?_
      refine m_int rfl rfl ?_
      refine g_yes rfl rfl ?_
      refine m_int rfl rfl ?_
      refine g_yes rfl rfl ?_
      refine b_neq rfl rfl ?_
      refine pick_f rfl rfl ?_
      refine m_bool rfl rfl ?_
      refine o_nil ?_
      refine k_cond rfl (fun h => ?_) (fun h => ?_)
      ·
        refine k_seq ?_
        refine k_region ?_
        refine m_int rfl rfl ?_
        refine o_nil ?_
        refine k_ret (ret_tmps (ts := [12]) (v := .int _ _) rfl rfl ?_)
        rw [e1, if_pos (.inr (.inr h))]; exact ⟨rfl, keep0⟩
      rw [if_neg (by omega)] at e1
      refine k_seq ?_
      refine k_region ?_
      refine m_int rfl rfl ?_
      refine b_lss rfl rfl ?_
      refine m_bool rfl rfl ?_
      refine o_split (t := 64) rfl (fun h => ?_) (fun h => ?_)
      ·
        refine g_no rfl rfl rfl ?_
        refine g_no rfl rfl rfl ?_
        refine pick_t rfl rfl ?_
        refine m_bool rfl rfl ?_
        refine g_no rfl rfl rfl ?_
        refine g_no rfl rfl rfl ?_
        refine pick_t rfl rfl ?_
        refine m_bool rfl rfl ?_
        refine g_no rfl rfl rfl ?_
        refine g_no rfl rfl rfl ?_
        refine g_no rfl rfl rfl ?_
        refine g_no rfl rfl rfl ?_
        refine g_no rfl rfl rfl ?_
        refine pick_t rfl rfl ?_
        refine m_bool rfl rfl ?_
        refine g_no rfl rfl rfl ?_
        refine g_no rfl rfl rfl ?_
        refine g_no rfl rfl rfl ?_
        refine g_no rfl rfl rfl ?_
        refine g_no rfl rfl rfl ?_
        refine pick_t rfl rfl ?_
        refine m_bool rfl rfl ?_
        refine o_nil ?_
        refine k_condt rfl ?_
        refine k_seq ?_
        refine k_region ?_
        refine m_int rfl rfl ?_
        refine o_nil ?_
        refine k_ret (ret_tmps (ts := [12]) (v := .int _ _) rfl rfl ?_)
        rw [e1, if_pos (by omega)]; exact ⟨rfl, keep0⟩
      ·
        refine g_yes rfl rfl ?_
        refine m_int rfl rfl ?_
        refine g_yes rfl rfl ?_
        refine b_lss rfl rfl ?_
        refine pick_f rfl rfl ?_
        refine m_bool rfl rfl ?_
        refine o_split (t := 68) rfl (fun h => ?_) (fun h => ?_)
        ·
          refine g_no rfl rfl rfl ?_
          refine g_no rfl rfl rfl ?_
          refine pick_t rfl rfl ?_
          refine m_bool rfl rfl ?_
          refine g_no rfl rfl rfl ?_
          refine g_no rfl rfl rfl ?_
          refine g_no rfl rfl rfl ?_
          refine g_no rfl rfl rfl ?_
          refine g_no rfl rfl rfl ?_
          refine pick_t rfl rfl ?_
          refine m_bool rfl rfl ?_
          refine g_no rfl rfl rfl ?_
          refine g_no rfl rfl rfl ?_
          refine g_no rfl rfl rfl ?_
          refine g_no rfl rfl rfl ?_
          refine g_no rfl rfl rfl ?_
          refine pick_t rfl rfl ?_
          refine m_bool rfl rfl ?_
          refine o_nil ?_
          refine k_condt rfl ?_
          refine k_seq ?_
          refine k_region ?_
          refine m_int rfl rfl ?_
          refine o_nil ?_
          refine k_ret (ret_tmps (ts := [12]) (v := .int _ _) rfl rfl ?_)
          rw [e1, if_pos (by omega)]; exact ⟨rfl, keep0⟩
        ·
          refine g_yes rfl rfl ?_
          refine m_int rfl rfl ?_
          refine g_yes rfl rfl ?_
          refine b_lss rfl rfl ?_
          refine pick_f rfl rfl ?_
          refine m_bool rfl rfl ?_
          refine o_split (t := 72) rfl (fun h => ?_) (fun h => ?_)
          ·
            refine g_no rfl rfl rfl ?_
            refine g_no rfl rfl rfl ?_
            refine g_no rfl rfl rfl ?_
            refine g_no rfl rfl rfl ?_
            refine g_no rfl rfl rfl ?_
            refine pick_t rfl rfl ?_
            refine m_bool rfl rfl ?_
            refine g_no rfl rfl rfl ?_
            refine g_no rfl rfl rfl ?_
            refine g_no rfl rfl rfl ?_
            refine g_no rfl rfl rfl ?_
            refine g_no rfl rfl rfl ?_
            refine pick_t rfl rfl ?_
            refine m_bool rfl rfl ?_
            refine o_nil ?_
            refine k_condt rfl ?_
            refine k_seq ?_
            refine k_region ?_
            refine m_int rfl rfl ?_
            refine o_nil ?_
            refine k_ret (ret_tmps (ts := [12]) (v := .int _ _) rfl rfl ?_)
            rw [e1, if_pos (by omega)]; exact ⟨rfl, keep0⟩
          ·
            refine g_yes rfl rfl ?_
            refine m_int rfl rfl ?_
            refine g_yes rfl rfl ?_
            refine m_int rfl rfl ?_
            refine g_yes rfl rfl ?_
            refine m_int rfl rfl ?_
            refine g_yes rfl rfl ?_
            refine n_sub rfl rfl (by omega) ?_
            refine g_yes rfl rfl ?_
            refine b_gtr rfl rfl ?_
            refine pick_f rfl rfl ?_
            refine m_bool rfl rfl ?_
            refine o_split (t := 79) rfl (fun h => ?_) (fun h => ?_)
            ·
              refine g_no rfl rfl rfl ?_
              refine g_no rfl rfl rfl ?_
              refine g_no rfl rfl rfl ?_
              refine g_no rfl rfl rfl ?_
              refine g_no rfl rfl rfl ?_
              refine pick_t rfl rfl ?_
              refine m_bool rfl rfl ?_
              refine o_nil ?_
              refine k_condt rfl ?_
              refine k_seq ?_
              refine k_region ?_
              refine m_int rfl rfl ?_
              refine o_nil ?_
              refine k_ret (ret_tmps (ts := [12]) (v := .int _ _) rfl rfl ?_)
              rw [e1, if_pos (by omega)]; exact ⟨rfl, keep0⟩
            ·
              refine g_yes rfl rfl ?_
              refine m_int rfl rfl ?_
              refine g_yes rfl rfl ?_
              refine m_int rfl rfl ?_
              refine g_yes rfl rfl ?_
              refine m_int rfl rfl ?_
              refine g_yes rfl rfl ?_
              refine n_sub rfl rfl (by omega) ?_
              refine g_yes rfl rfl ?_
              refine b_gtr rfl rfl ?_
              refine pick_f rfl rfl ?_
              refine m_bool rfl rfl ?_
              refine o_nil ?_
              refine k_cond rfl (fun h => ?_) (fun h => ?_)
              ·
                refine k_seq ?_
                refine k_region ?_
                refine m_int rfl rfl ?_
                refine o_nil ?_
                refine k_ret (ret_tmps (ts := [12]) (v := .int _ _) rfl rfl ?_)
                rw [e1, if_pos (by omega)]; exact ⟨rfl, keep0⟩
              rw [if_neg (by omega)] at e1
              have hn0 : 0 ≤ n := by omega
              have hoz := ordC_0 (D := p = q ∧ i < k) n
              have hoe := ordC_end (D := p = q ∧ i < k) n hn0
              have hob := ordC_in (D := p = q ∧ i < k) n
              have hos := ordC_step (D := p = q ∧ i < k) n
              refine k_skip ?_
              refine k_blk ?_
              refine k_seq ?_
              refine k_region ?_
              refine m_int rfl rfl ?_
              refine m_int rfl rfl ?_
              refine m_int rfl rfl ?_
              refine m_int rfl rfl ?_
              refine o_nil ?_
              refine k_seq ?_
              refine k_seq ?_
              refine k_region ?_
              refine m_int rfl rfl ?_
              refine m_int rfl rfl ?_
              refine b_eql rfl rfl ?_
              refine m_bool rfl rfl ?_
              refine o_split (t := 90) rfl (fun h => ?_) (fun h => ?_)
              ·
                refine g_yes rfl rfl ?_
                refine m_int rfl rfl ?_
                refine g_yes rfl rfl ?_
                refine m_int rfl rfl ?_
                refine g_yes rfl rfl ?_
                refine b_gtr rfl rfl ?_
                refine pick_t rfl rfl ?_
                refine o_nil ?_
                refine k_cut (σ := Unit) (fun _ => [(0, .pointer (some ⟨hb, 0, none⟩)), (1, .int .i64 p), (2, .int .i64 i), (3, .int .i64 q), (4, .int .i64 k), (20, .int .i64 (if p = q ∧ i < k then -1 else 1)), (21, .int .i64 (ordC (p = q ∧ i < k) n 0)), (22, .int .i64 (if p = q ∧ i < k then -1 else n))]) (fun _ w' => w' = w2) ?_ (fun s e w3 hJ => ?_)
                ·
                  refine k_cond rfl (fun h => ?_) (fun h => ?_)
                  ·
                    refine k_region ?_
                    refine m_int rfl rfl ?_
                    refine n_sub rfl rfl (by omega) ?_
                    refine m_int rfl rfl ?_
                    refine m_int rfl rfl ?_
                    refine m_int rfl rfl ?_
                    refine o_nil ?_
                    refine k_goal ⟨(), ⟨rfl, rfl, rfl, rfl, rfl, congrArg (Value.int .i64) ?_, congrArg (Value.int .i64) ?_, congrArg (Value.int .i64) ?_, trivial⟩, rfl⟩
                    · rw [if_pos (by omega)]
                    · rw [hoz, if_pos (by omega)]
                    · rw [if_pos (by omega)]
                  refine k_skip ?_
                  refine k_goal ⟨(), ⟨rfl, rfl, rfl, rfl, rfl, congrArg (Value.int .i64) ?_, congrArg (Value.int .i64) ?_, congrArg (Value.int .i64) ?_, trivial⟩, rfl⟩
                  · rw [if_neg (by omega)]
                  · rw [hoz, if_neg (by omega)]
                  · rw [if_neg (by omega)]
                replace hJ := hJ.symm
                subst hJ
                refine k_seq ?_
                refine k_block ?_
                refine k_loop (σ := Nat) (fun m => [(0, .pointer (some ⟨hb, 0, none⟩)), (1, .int .i64 p), (2, .int .i64 i), (3, .int .i64 q), (4, .int .i64 k), (20, .int .i64 (if p = q ∧ i < k then -1 else 1)), (21, .int .i64 (ordC (p = q ∧ i < k) n m)), (22, .int .i64 (if p = q ∧ i < k then -1 else n))]) (fun m w' => m ≤ n.toNat ∧ HRes kk w2 hb lim w' (runC L p i q k n (p = q ∧ i < k) ws m) L) (fun m => n.toNat - m) 0 (by first | exact ⟨rfl, rfl, rfl, rfl, rfl, rfl, rfl, rfl, trivial⟩ | exact ⟨rfl, rfl, rfl, rfl, rfl, congrArg (Value.int .i64) (if_neg (by omega)).symm, congrArg (Value.int .i64) (by rw [hoz, if_neg (by omega)]), congrArg (Value.int .i64) (if_neg (by omega)).symm, trivial⟩) ⟨Nat.zero_le _, keep0⟩ (fun m e w4 hJ => ?_)
                obtain ⟨hm, hH4, hW4, hu4, hKH4⟩ := hJ
                have hoe := hoe m
                have hob := hob m
                have hos := hos m
                refine k_seq ?_
                refine k_seq ?_
                refine k_region ?_
                refine m_int rfl rfl ?_
                refine m_int rfl rfl ?_
                refine b_neq rfl rfl ?_
                refine o_nil ?_
                refine k_cond rfl (fun h => ?_) (fun h => ?_)
                rotate_left
                ·
                  have hme : m = n.toNat := by have := hoe.1 (Decidable.of_not_not h); omega
                  rw [hme] at hH4 hW4 hu4
                  refine k_exit rfl ?_
                  refine k_seq ?_
                  refine k_region ?_
                  refine m_int rfl rfl ?_
                  refine o_nil ?_
                  refine k_ret (ret_tmps (ts := [12]) (v := .int _ _) rfl rfl ?_)
                  rw [e1]; exact ⟨rfl, hH4, hW4, hu4, hKH4⟩
                have hml : (m : Int) < n := by have : ¬ (m : Int) = n := fun hh => h (hoe.2 hh); omega
                have hob := hob hml
                obtain ⟨o, ho⟩ : ∃ o, o = ordC (p = q ∧ i < k) n m := ⟨_, rfl⟩
                refine k_skip ?_
                refine k_seq ?_
                refine k_block ?_
                refine k_seq ?_
                refine k_region ?_
                refine m_ptr rfl rfl ?_
                refine m_int rfl rfl ?_
                refine m_int rfl rfl ?_
                refine m_int rfl rfl ?_
                refine n_add rfl rfl (by omega) ?_
                refine o_call rfl rfl (get_ok kk w4 hb _ lim L p _ hH4 hW4) (fun v w5 hv => ?_)
                obtain ⟨rfl, rfl⟩ := hv
                refine m_any rfl rfl ?_
                refine o_extr rfl rfl ?_
                refine o_extr rfl rfl ?_
                refine m_int rfl rfl ?_
                refine m_int rfl rfl ?_
                refine o_nil ?_
                refine k_region ?_
                refine m_ptr rfl rfl ?_
                refine m_int rfl rfl ?_
                refine m_int rfl rfl ?_
                refine m_int rfl rfl ?_
                refine n_add rfl rfl (by omega) ?_
                refine m_int rfl rfl ?_
                refine o_call rfl rfl (set_ok kk w5 hb _ lim L q _ _ hH4 hW4 hu4 (get_rng hW4 _ _)) (fun v w6 hv => ?_)
                obtain ⟨rfl, hH6, hW6, hu6, hKH6⟩ := hv
                refine o_nil ?_
                refine k_blk ?_
                refine k_region ?_
                refine m_int rfl rfl ?_
                refine m_int rfl rfl ?_
                refine n_add rfl rfl (by rw [hos]; have := ordC_all (D := p = q ∧ i < k) n hn0 (m + 1) (by omega); omega) ?_
                rw [hos]
                refine m_int rfl rfl ?_
                refine o_nil ?_
                refine k_goal ⟨m + 1, ⟨rfl, rfl, rfl, rfl, rfl, rfl, rfl, rfl, trivial⟩, ⟨by omega, hH6, hW6, hu6, hKH4.tr hKH6⟩, by omega⟩
              ·
                refine g_no rfl rfl rfl ?_
                refine g_no rfl rfl rfl ?_
                refine g_no rfl rfl rfl ?_
                refine pick_f rfl rfl ?_
                refine o_nil ?_
                refine k_condf rfl ?_
                refine k_skip ?_
                refine k_seq ?_
                refine k_block ?_
                refine k_loop (σ := Nat) (fun m => [(0, .pointer (some ⟨hb, 0, none⟩)), (1, .int .i64 p), (2, .int .i64 i), (3, .int .i64 q), (4, .int .i64 k), (20, .int .i64 (if p = q ∧ i < k then -1 else 1)), (21, .int .i64 (ordC (p = q ∧ i < k) n m)), (22, .int .i64 (if p = q ∧ i < k then -1 else n))]) (fun m w' => m ≤ n.toNat ∧ HRes kk w2 hb lim w' (runC L p i q k n (p = q ∧ i < k) ws m) L) (fun m => n.toNat - m) 0 (by first | exact ⟨rfl, rfl, rfl, rfl, rfl, rfl, rfl, rfl, trivial⟩ | exact ⟨rfl, rfl, rfl, rfl, rfl, congrArg (Value.int .i64) (if_neg (by omega)).symm, congrArg (Value.int .i64) (by rw [hoz, if_neg (by omega)]), congrArg (Value.int .i64) (if_neg (by omega)).symm, trivial⟩) ⟨Nat.zero_le _, keep0⟩ (fun m e w4 hJ => ?_)
                obtain ⟨hm, hH4, hW4, hu4, hKH4⟩ := hJ
                have hoe := hoe m
                have hob := hob m
                have hos := hos m
                refine k_seq ?_
                refine k_seq ?_
                refine k_region ?_
                refine m_int rfl rfl ?_
                refine m_int rfl rfl ?_
                refine b_neq rfl rfl ?_
                refine o_nil ?_
                refine k_cond rfl (fun h => ?_) (fun h => ?_)
                rotate_left
                ·
                  have hme : m = n.toNat := by have := hoe.1 (Decidable.of_not_not h); omega
                  rw [hme] at hH4 hW4 hu4
                  refine k_exit rfl ?_
                  refine k_seq ?_
                  refine k_region ?_
                  refine m_int rfl rfl ?_
                  refine o_nil ?_
                  refine k_ret (ret_tmps (ts := [12]) (v := .int _ _) rfl rfl ?_)
                  rw [e1]; exact ⟨rfl, hH4, hW4, hu4, hKH4⟩
                have hml : (m : Int) < n := by have : ¬ (m : Int) = n := fun hh => h (hoe.2 hh); omega
                have hob := hob hml
                obtain ⟨o, ho⟩ : ∃ o, o = ordC (p = q ∧ i < k) n m := ⟨_, rfl⟩
                refine k_skip ?_
                refine k_seq ?_
                refine k_block ?_
                refine k_seq ?_
                refine k_region ?_
                refine m_ptr rfl rfl ?_
                refine m_int rfl rfl ?_
                refine m_int rfl rfl ?_
                refine m_int rfl rfl ?_
                refine n_add rfl rfl (by omega) ?_
                refine o_call rfl rfl (get_ok kk w4 hb _ lim L p _ hH4 hW4) (fun v w5 hv => ?_)
                obtain ⟨rfl, rfl⟩ := hv
                refine m_any rfl rfl ?_
                refine o_extr rfl rfl ?_
                refine o_extr rfl rfl ?_
                refine m_int rfl rfl ?_
                refine m_int rfl rfl ?_
                refine o_nil ?_
                refine k_region ?_
                refine m_ptr rfl rfl ?_
                refine m_int rfl rfl ?_
                refine m_int rfl rfl ?_
                refine m_int rfl rfl ?_
                refine n_add rfl rfl (by omega) ?_
                refine m_int rfl rfl ?_
                refine o_call rfl rfl (set_ok kk w5 hb _ lim L q _ _ hH4 hW4 hu4 (get_rng hW4 _ _)) (fun v w6 hv => ?_)
                obtain ⟨rfl, hH6, hW6, hu6, hKH6⟩ := hv
                refine o_nil ?_
                refine k_blk ?_
                refine k_region ?_
                refine m_int rfl rfl ?_
                refine m_int rfl rfl ?_
                refine n_add rfl rfl (by rw [hos]; have := ordC_all (D := p = q ∧ i < k) n hn0 (m + 1) (by omega); omega) ?_
                rw [hos]
                refine m_int rfl rfl ?_
                refine o_nil ?_
                refine k_goal ⟨m + 1, ⟨rfl, rfl, rfl, rfl, rfl, rfl, rfl, rfl, trivial⟩, ⟨by omega, hH6, hW6, hu6, hKH4.tr hKH6⟩, by omega⟩
end Go.Proofs.YtchbidckckmobaaDoor

/- Copies within a string, plain. No condition beyond what each lemma names. -/
namespace Go.Proofs.YtchbidckckmobaaDoor
open Go.RowKit E
set_option linter.unusedVariables false
set_option linter.unusedSimpArgs false
set_option maxRecDepth 100000
attribute [local irreducible] ow qw kw kq cw opW Ret
theorem StrAt.cell {ws L : List Int} {p : Int} {us : Us} (h : StrAt ws L p us) {x : Nat} (hx : x < us.length) : cellH ws L p (x : Int) = (p + 1 + x, false, 0) := by
  obtain ⟨c, hk⟩ := h.look
  obtain ⟨q, c', m, rfl, hp, ho, hl, hu⟩ := h
  unfold cellH
  rw [hk, if_neg (by simp), if_neg (by simp only; omega), show (q : Int).toNat = q from by omega, ho]
  simp [refB]
theorem StrAt.get {ws L : List Int} {p : Int} {us : Us} (h : StrAt ws L p us) {x : Nat} (hx : x < us.length) : getH ws L p (x : Int) = (ui (us[x]), 0) := by
  have hc := h.cell hx
  obtain ⟨q, c', m, rfl, hp, ho, hl, hu⟩ := h
  unfold getH
  rw [hc, if_neg (by simp)]
  simp only
  rw [show ((q : Int) + 1 + (x : Int)).toNat = q + 1 + x from by omega, hu x hx]
theorem getD_set {l : List Int} {a b : Nat} {v : Int} : (l.set a v).getD b 0 = if a = b ∧ a < l.length then v else l.getD b 0 := by
  simp only [List.getD, List.getElem?_set]
  by_cases h : a = b
  · subst h
    by_cases h2 : a < l.length
    · simp [h2]
    · simp [h2]
  · simp [h]
theorem StrAt.set {ws L : List Int} {p : Int} {us : Us} (h : StrAt ws L p us) {x : Nat} (hx : x < us.length) (v : BitVec 16) : (setH ws L p (x : Int) (ui v)).1 = 0 ∧ StrAt (setH ws L p (x : Int) (ui v)).2 L p (us.set x v) := by
  have hc := h.cell hx
  obtain ⟨q, c', m, rfl, hp, ho, hl, hu⟩ := h
  unfold setH
  rw [hc, if_neg (by simp), if_neg (by simp)]
  refine ⟨rfl, q, c', m, rfl, hp, ?_, by simp; omega, fun y hy => ?_⟩
  · simp only
    rw [getD_set, if_neg (by omega), ho]
    simp
  · simp only
    rw [List.length_set] at hy
    rw [getD_set]
    by_cases hxy : x = y
    · subst hxy
      rw [if_pos (by omega)]
      simp
    · rw [if_neg (by omega), hu y hy, List.getElem_set_ne hxy]
theorem StrAt.step {ws L : List Int} {p : Int} {us : Us} (h : StrAt ws L p us) {a b : Nat} (ha : a < us.length) (hb : b < us.length) (i k j : Int) (hia : i + j = a) (hkb : k + j = b) : StrAt (stepC L p i p k ws j) L p (us.set b (us[a])) := by
  unfold stepC
  rw [hia, hkb, h.get ha]
  exact (h.set hb _).2
/-- after m cells -/
theorem run_str {L : List Int} {p : Int} {ws : List Int} {us : Us} (h : StrAt ws L p us) (i k n : Nat) (h1 : i + n ≤ us.length) (h2 : k + n ≤ us.length) (m : Nat) (hm : m ≤ n) :
    ∃ vs : Us, StrAt (runC L p i p k n (p = p ∧ (i : Int) < k) ws m) L p vs ∧ vs.length = us.length ∧ ∀ x, vs[x]? = if (if i < k then k + n - m ≤ x ∧ x < k + n else k ≤ x ∧ x < k + m) then us[i + x - k]? else us[x]? := by
  induction m with
  | zero => exact ⟨us, h, rfl, fun x => by split <;> rw [if_neg (by omega)]⟩
  | succ m ih =>
    obtain ⟨vs, hs, hl, hx⟩ := ih (by omega)
    by_cases hik : i < k
    · have ho : ordC (p = p ∧ (i : Int) < k) n m = ((n - 1 - m : Nat) : Int) := by unfold ordC; rw [if_pos ⟨rfl, by omega⟩]; omega
      have hst := hs.step (a := i + (n - 1 - m)) (b := k + (n - 1 - m)) (by omega) (by omega) i k (n - 1 - m : Nat) (by omega) (by omega)
      refine ⟨_, by show StrAt (stepC L p i p k _ (ordC _ _ m)) L p _; rw [ho]; exact hst, by simp [hl], fun x => ?_⟩
      have hsrc := hx (i + (n - 1 - m))
      simp only [if_pos hik] at hx hsrc ⊢
      rw [if_neg (by omega)] at hsrc
      rw [List.getElem?_set, hx x]
      by_cases hb : k + (n - 1 - m) = x
      · subst hb
        rw [if_pos rfl, if_pos (by omega), if_pos (by omega), ← List.getElem?_eq_getElem, hsrc]
        congr 1
        omega
      · rw [if_neg hb]
        by_cases hin : k + n - m ≤ x ∧ x < k + n
        · rw [if_pos hin, if_pos (by omega)]
        · rw [if_neg hin, if_neg (by omega)]
    · have ho : ordC (p = p ∧ (i : Int) < k) n m = (m : Int) := by unfold ordC; rw [if_neg (by omega)]
      have hst := hs.step (a := i + m) (b := k + m) (by omega) (by omega) i k m (by omega) (by omega)
      refine ⟨_, by show StrAt (stepC L p i p k _ (ordC _ _ m)) L p _; rw [ho]; exact hst, by simp [hl], fun x => ?_⟩
      have hsrc := hx (i + m)
      simp only [if_neg hik] at hx hsrc ⊢
      rw [if_neg (by omega)] at hsrc
      rw [List.getElem?_set, hx x]
      by_cases hb : k + m = x
      · subst hb
        rw [if_pos rfl, if_pos (by omega), if_pos (by omega), ← List.getElem?_eq_getElem, hsrc]
        congr 1
        omega
      · rw [if_neg hb]
        by_cases hin : k ≤ x ∧ x < k + m
        · rw [if_pos hin, if_pos (by omega)]
        · rw [if_neg hin, if_neg (by omega)]
def cpU (us : Us) (i k n : Nat) : Us := us.take k ++ (us.drop i).take n ++ us.drop (k + n)
theorem cpU_at (us : Us) (i k n : Nat) (h1 : i + n ≤ us.length) (h2 : k + n ≤ us.length) (x : Nat) : (cpU us i k n)[x]? = if k ≤ x ∧ x < k + n then us[i + x - k]? else us[x]? := by
  unfold cpU
  have l1 : (us.take k).length = k := by simp; omega
  have l2 : ((us.drop i).take n).length = n := by simp; omega
  by_cases hx : x < k
  · rw [if_neg (by omega), List.getElem?_append_left (by simp; omega), List.getElem?_append_left (by omega), List.getElem?_take_of_lt hx]
  · by_cases hx2 : x < k + n
    · rw [if_pos (by omega), List.getElem?_append_left (by simp; omega), List.getElem?_append_right (by omega), l1, List.getElem?_take_of_lt (by omega), List.getElem?_drop]
      congr 1; omega
    · rw [if_neg (by omega), List.getElem?_append_right (by simp; omega), List.getElem?_drop, List.length_append, l1, l2]
      congr 1; omega
theorem cpU_len (us : Us) (i k n : Nat) (h1 : i + n ≤ us.length) (h2 : k + n ≤ us.length) : (cpU us i k n).length = us.length := by
  unfold cpU; simp; omega
theorem copy_str {L : List Int} {p : Int} {ws : List Int} {us : Us} (h : StrAt ws L p us) (i k n : Nat) :
    if i + n ≤ us.length ∧ k + n ≤ us.length then ∃ ws', copyN ws L p i p k n = (0, ws') ∧ StrAt ws' L p (cpU us i k n) else copyN ws L p i p k n = (1, ws) := by
  obtain ⟨c, hk⟩ := h.look
  have e : copyN ws L p i p k n = if (n : Int) < 0 ∨ (i : Int) < 0 ∨ (k : Int) < 0 ∨ (us.length : Int) - n < i ∨ (us.length : Int) - n < k then (1, ws) else (0, runC L p i p k n (p = p ∧ (i : Int) < k) ws (n : Int).toNat) := by
    unfold copyN
    rw [hk]
    dsimp only
    rw [if_neg (fun hh => hh rfl), if_neg (fun hh => hh rfl), if_neg (by simp)]
  by_cases hf : i + n ≤ us.length ∧ k + n ≤ us.length
  · rw [if_pos hf]
    rw [if_neg (by omega)] at e
    obtain ⟨vs, hs, hl, hx⟩ := run_str h i k n hf.1 hf.2 n (Nat.le_refl _)
    refine ⟨_, e, ?_⟩
    have hv : vs = cpU us i k n := by
      refine List.ext_getElem? fun x => ?_
      rw [hx x, cpU_at us i k n hf.1 hf.2]
      by_cases hin : k ≤ x ∧ x < k + n
      · rw [if_pos hin, if_pos (by split <;> omega)]
      · rw [if_neg hin, if_neg (by split <;> omega)]
    rw [← hv, show ((n : Int)).toNat = n from by omega]
    exact hs
  · rw [if_neg hf, e, if_pos (by omega)]
end Go.Proofs.YtchbidckckmobaaDoor

/- The rule for copy. No condition beyond what each lemma names. -/
namespace Go.Proofs.YtchbidckckmobaaDoor
open Go.RowKit E
set_option linter.unusedVariables false
set_option linter.unusedSimpArgs false
set_option maxRecDepth 100000
attribute [local irreducible] ow qw kw kq cw opW Ret
namespace E
section
variable {P : Program} {n : Cx} {e : Env} {w : World} {l0 l : List Oper} {K : Env → World → Prop} {d : Nat} {T : TypeId} {pos : String} {af : Array Edge} {x y : Operand} {TX TY : TypeId}
theorem o_copy {E : TypeId} {a0 b : Option Addr} {m c dc lo sc sl : Nat} {xs news : List Value} (hu : P.underlying TX = some (.slice E)) (hs : (P.info? E).map (·.size) = some 1)
    (hx : ev n e x = .slice (cutAt a0 lo c 1) (m - lo) dc) (hy : ev n e y = .slice b sl sc) (hsl : sl = news.length) (hS : Sl w E 1 a0 m c xs) (hR : Rd w b news) (hlo : lo + news.length ≤ m) (h1 : ∀ v ∈ news, v.oneCell' = true)
    (h : ∀ w', Sl w' E 1 a0 m c (xs.take lo ++ news ++ xs.drop (lo + news.length)) → Keep (blkOf a0) w w' → ow P n l0 K l (upd e d (.int .i64 (news.length : Int))) w') :
    ow P n l0 K (⟨some d, .call ⟨.builtin .copy, #[x, y], #[TX, TY]⟩, T, pos, af, none⟩ :: l) e w := by
  subst hsl
  by_cases hz : news = []
  · subst hz
    have hr := run_copy_none (P := P) w TX TY T E (cutAt a0 lo c 1) b (m - lo) dc 0 sc hu hs (by simp)
    refine o_run (v := .int .i64 ((0 : Nat) : Int)) (w' := w) ?_ (h w (by simpa using hS) (Keep.refl _ _))
    have hy' : ev n e y = .slice b 0 sc := hy
    simp [execOp, resolve, invoke, builtin, hx, hy', hr, goInt]
  · have hpos : 0 < news.length := by cases news with | nil => exact absurd rfl hz | cons => simp
    obtain ⟨hlen, hS2⟩ := hS
    rcases hS2 with ⟨_, rfl, _⟩ | ⟨g, cur, rfl, hB, hmc, hcm, hcs, hcx⟩
    · omega
    obtain ⟨b', o', rfl, _⟩ := hR 0 _ (List.getElem?_eq_getElem hpos)
    have hcut : cutAt (some ⟨g, 0, none⟩) lo c 1 = some ⟨g, lo, none⟩ := by
      unfold cutAt
      rw [if_neg (by omega)]
      simp [Addr.add]
      omega
    have hr := run_copy_row (P := P) w TX TY T E g lo (m - lo) dc ⟨b', o', none⟩ news.length sc cur E news hu hs hB (Nat.min_eq_left (by omega)).symm (fun j v hv => by
      obtain ⟨b2, o2, he2, hc2⟩ := hR j v hv
      cases he2
      have hadd : (⟨b', o', none⟩ : Addr).add j = ⟨b', o' + j, none⟩ := by unfold Addr.add; split <;> simp_all
      rw [hadd]; exact hc2) (by omega) h1
    refine o_run (v := .int .i64 (news.length : Int)) (w' := _) (by rw [hcut] at hx; simp [execOp, resolve, invoke, builtin, hx, hy, hr, goInt]; rfl) (h _ ⟨?_, .inr ⟨g, _, rfl, setRow_heap w g cur _ E _ hB, hmc, hcm, ?_, ?_⟩⟩ ⟨rfl, rfl, rfl, by simp [World.setRow], fun k _ hk => setRow_other w g k _ (by simpa [blkOf] using hk)⟩)
    · simp [hlen]; omega
    · simp; omega
    · subst hcx
      have hcl : cur.toList.length = c := by simp; omega
      simp only [Nat.mul_one, List.toList_toArray]
      refine List.ext_getElem? fun i => ?_
      simp only [List.getElem?_take, List.getElem?_append, List.getElem?_drop, List.length_append, List.length_take, hcl]
      repeat' split
      all_goals first | rfl | omega | (congr 1; omega) | skip
end
end E
end Go.Proofs.YtchbidckckmobaaDoor

/- The reference's heap: New, Used, block, Look, Get. No condition beyond what each contract names. -/
namespace Go.Proofs.YtchbidckckmobaaDoor
open Go.RowKit E
set_option linter.unusedVariables false
set_option linter.unusedSimpArgs false
set_option maxRecDepth 100000
attribute [local irreducible] ow qw kw kq cw opW Ret
def RP (k : Nat → Prop) (w : World) (rb : Nat) (ws : List Int) (lim : Int) : Prop :=
  ∃ a c, Blk w rb #[.slice a ws.length c, iv lim] 68 ∧ Sl w 2 1 a ws.length c (ws.map iv) ∧ k rb ∧ ∀ z, a = some z → k z.block
theorem RP.new {k : Nat → Prop} {w w' : World} {rb : Nat} {ws : List Int} {lim : Int} (h : RP k w rb ws lim) (hK : Keep [] w w') : RP k w' rb ws lim := by
  obtain ⟨a, c, h1, h2, h3⟩ := h
  exact ⟨a, c, h1.keep hK (by simp), h2.new hK, h3⟩
theorem rnew_ok (w : World) (lim : Int) : Ret Tryd.prog 35 [.int .i64 lim] w (fun v w' => Keep [] w w' ∧ if 0 ≤ lim ∧ lim ≤ 65536 then ∃ rb, v = .tuple #[.pointer (some ⟨rb, 0, none⟩), .int .i64 0] ∧ RP (fun b => w.heap.size ≤ b) w' rb [0] lim else v = .tuple #[.pointer none, .int .i64 1]) := by
  refine fn_enter (n := 14) Tryd.func35 rfl rfl (Nat.le_of_ble_eq_true rfl) (fun e => ?_)
  refine k_seq ?_
  refine k_region ?_
  refine m_ptr rfl rfl ?_
  refine m_int rfl rfl ?_
  refine o_nil ?_
  refine k_seq ?_
  refine k_seq ?_
  refine k_region ?_
  refine m_int rfl rfl ?_
  refine b_lss rfl rfl ?_
  refine m_bool rfl rfl ?_
  refine o_split (t := 6) rfl (fun h => ?_) (fun h => ?_)
  ·
    refine g_no rfl rfl rfl ?_
    refine g_no rfl rfl rfl ?_
    refine pick_t rfl rfl ?_
    refine o_nil ?_
    refine k_condt rfl ?_
    refine k_seq ?_
    refine k_region ?_
    refine m_ptr rfl rfl ?_
    refine m_int rfl rfl ?_
    refine o_nil ?_
    refine k_ret (ret_tmps (ts := [2, 3]) (v := .tuple #[.pointer _, .int _ _]) rfl rfl ?_)
    exact ⟨Keep.refl _ _, by rw [if_neg (by omega)]⟩
  ·
    have h6 := h
    refine g_yes rfl rfl ?_
    refine m_int rfl rfl ?_
    refine g_yes rfl rfl ?_
    refine b_gtr rfl rfl ?_
    refine pick_f rfl rfl ?_
    refine o_nil ?_
    refine k_cond rfl (fun h => ?_) (fun h => ?_)
    ·
      refine k_seq ?_
      refine k_region ?_
      refine m_ptr rfl rfl ?_
      refine m_int rfl rfl ?_
      refine o_nil ?_
      refine k_ret (ret_tmps (ts := [2, 3]) (v := .tuple #[.pointer _, .int _ _]) rfl rfl ?_)
      exact ⟨Keep.refl _ _, by rw [if_neg (by omega)]⟩
    refine k_skip ?_
    refine k_seq ?_
    refine k_region ?_
    refine o_bsl (E := 2) (cs := #[iv 0]) rfl (fun _ => by kernel_rfl) (fun g w1 hB1 hK1 hb1 hZ1 => ?_)
    refine m_int rfl rfl ?_
    refine o_build (v := .agg #[.slice (some ⟨g, 0, none⟩) 1 1, iv lim]) rfl (fun _ => by kernel_rfl) ?_
    refine o_box rfl rfl (fun rb w3 hB3 hK3 hb3 hZ3 => ?_)
    refine m_ptr rfl rfl ?_
    refine m_int rfl rfl ?_
    refine o_nil ?_
    refine k_ret (ret_tmps (ts := [2, 3]) (v := .tuple #[.pointer _, .int _ _]) rfl rfl ?_)
    refine ⟨hK1.tr hK3, ?_⟩
    rw [if_pos (by omega)]
    exact ⟨rb, rfl, some ⟨g, 0, none⟩, 1, hB3, (hB1.keep hK3 (by simp)).sl (len := 1) (sz := 1) rfl (by decide), by show w.heap.size ≤ rb; omega, by intro z hz; cases hz; show w.heap.size ≤ g; omega⟩
theorem rused_ok (k : Nat → Prop) (w : World) (rb : Nat) (ws : List Int) (lim : Int) (h : RP k w rb ws lim) (hl : ws.length ≤ 65537) :
    Ret Tryd.prog 39 [.pointer (some ⟨rb, 0, none⟩)] w (fun v w' => v = .int .i64 ((ws.length : Int) - 1) ∧ w' = w) := by
  obtain ⟨a, c, hB, hS, hk⟩ := h
  refine fn_enter (n := 9) Tryd.func39 rfl rfl (Nat.le_of_ble_eq_true rfl) (fun e => ?_)
  refine k_seq ?_
  refine k_region ?_
  refine m_int rfl rfl ?_
  refine o_nil ?_
  refine k_seq ?_
  refine k_region ?_
  refine m_ptr rfl rfl ?_
  refine o_nilc rfl ?_
  refine o_fld0 rfl rfl ?_
  refine o_ld (v := .slice a ws.length c) rfl rfl (hB.at rfl) ?_
  refine o_lens Tryd.underlying22 rfl ?_
  refine n_sub rfl rfl (by omega) ?_
  refine m_int rfl rfl ?_
  refine o_nil ?_
  refine k_ret (ret_tmps (ts := [2]) (v := .int _ _) rfl rfl ?_)
  exact ⟨rfl, rfl⟩
theorem rblock_ok (k : Nat → Prop) (w : World) (rb : Nat) (ws : List Int) (lim : Int) (L : List Int) (x : Int) (h : RP k w rb ws lim) (hW : WFH ws L) :
    Ret Tryd.prog 80 [.pointer (some ⟨rb, 0, none⟩), .int .i64 x] w (fun v w' => v = .bool (decide (x ∈ L)) ∧ w' = w) := by
  obtain ⟨a, c, hB, hS, hk⟩ := h
  have hlen := hW.len
  have hRS := hS.rd
  refine fn_enter (n := 39) Tryd.func80 rfl rfl (Nat.le_of_ble_eq_true rfl) (fun e => ?_)
  refine k_seq ?_
  refine k_region ?_
  refine m_bool rfl rfl ?_
  refine o_nil ?_
  refine k_seq ?_
  refine k_seq ?_
  refine k_region ?_
  refine m_int rfl rfl ?_
  refine o_nil ?_
  refine k_block ?_
  refine k_loop (σ := Nat) (fun p => [(0, .pointer (some ⟨rb, 0, none⟩)), (1, .int .i64 x), (5, .int .i64 (p : Int))]) (fun p w' => w' = w ∧ ∃ M, chain ws p = some M ∧ (x ∈ L ↔ x ∈ M)) (fun p => ws.length - p) 1 ⟨rfl, rfl, rfl, trivial⟩ ⟨rfl, L, hW.ch, Iff.rfl⟩ (fun p e w1 hJ => ?_)
  obtain ⟨rfl, M, hch, hM⟩ := hJ
  refine k_seq ?_
  refine k_seq ?_
  refine k_region ?_
  refine m_int rfl rfl ?_
  refine m_ptr rfl rfl ?_
  refine o_nilc rfl ?_
  refine o_fld0 rfl rfl ?_
  refine o_ld (v := .slice a ws.length c) rfl rfl (hB.at rfl) ?_
  refine o_lens Tryd.underlying22 rfl ?_
  refine b_lss rfl rfl ?_
  refine o_nil ?_
  refine k_cond rfl (fun h => ?_) (fun h => ?_)
  rotate_left
  ·
    refine k_exit rfl ?_
    refine k_seq ?_
    refine k_region ?_
    refine m_bool rfl rfl ?_
    refine o_nil ?_
    refine k_ret (ret_tmps (ts := [4]) (v := .bool _) rfl rfl ?_)
    rw [chain_end ws p (by omega)] at hch
    cases hch
    exact ⟨congrArg Value.bool (decide_eq_false (by rw [hM]; simp)).symm, rfl⟩
  have hp : p < ws.length := by omega
  obtain ⟨M', rfl, ⟨hz, hn⟩, hch'⟩ := chain_step hch hp
  have hn0 := (open_f _ hz).n0
  have hx := iv_at ws p hp
  obtain ⟨b1, o1, hae, hc1⟩ := hRS _ _ hx
  subst hae
  refine k_skip ?_
  refine k_block ?_
  refine k_seq ?_
  refine k_seq ?_
  refine k_region ?_
  refine m_int rfl rfl ?_
  refine m_int rfl rfl ?_
  refine b_eql rfl rfl ?_
  refine o_nil ?_
  refine k_cond rfl (fun h => ?_) (fun h => ?_)
  ·
    refine k_seq ?_
    refine k_region ?_
    refine m_bool rfl rfl ?_
    refine o_nil ?_
    refine k_ret (ret_tmps (ts := [4]) (v := .bool _) rfl rfl ?_)
    exact ⟨congrArg Value.bool (decide_eq_true (hM.2 (by rw [← h]; simp))).symm, rfl⟩
  refine k_skip ?_
  refine k_seq ?_
  refine k_region ?_
  refine m_ptr rfl rfl ?_
  refine o_nilc rfl ?_
  refine o_fld0 rfl rfl ?_
  refine o_ld (v := .slice (some ⟨b1, o1, none⟩) ws.length c) rfl rfl (hB.at rfl) ?_
  refine m_int rfl rfl ?_
  refine o_ixs1 (m := p) Tryd.underlying22 rfl rfl rfl hp ?_
  refine o_ld (v := iv (ws[p])) rfl rfl hc1 ?_
  refine o_call rfl rfl (ropen_ok w1 (ws[p]) (hW.rng _ (List.getElem_mem _)).2) (fun v w2 hv => ?_)
  obtain ⟨rfl, rfl⟩ := hv
  refine m_any rfl rfl ?_
  refine o_extr rfl rfl ?_
  refine o_extr rfl rfl ?_
  refine o_extr rfl rfl ?_
  refine o_extr rfl rfl ?_
  refine o_extr rfl rfl ?_
  refine m_int rfl rfl ?_
  refine m_int rfl rfl ?_
  refine m_int rfl rfl ?_
  refine m_int rfl rfl ?_
  refine m_int rfl rfl ?_
  refine o_nil ?_
  refine k_region ?_
  refine m_int rfl rfl ?_
  refine n_add rfl rfl (by omega) ?_
  refine m_int rfl rfl ?_
  refine n_add rfl rfl (by omega) ?_
  refine m_int rfl rfl ?_
  refine o_nil ?_
  refine k_blk ?_
  refine k_goal ⟨p + 1 + (openW (ws[p])).2.2.1.toNat, ⟨rfl, rfl, congrArg (Value.int .i64) (by push_cast; omega), trivial⟩, ⟨rfl, M', hch', by rw [hM, List.mem_cons]; exact ⟨fun hh => hh.resolve_left (fun he => h he.symm), .inr⟩⟩, by omega⟩
theorem rlook_ok (k : Nat → Prop) (w : World) (rb : Nat) (ws : List Int) (lim : Int) (L : List Int) (p : Int) (h : RP k w rb ws lim) (hW : WFH ws L) :
    Ret Tryd.prog 71 [.pointer (some ⟨rb, 0, none⟩), .int .i64 p] w (fun v w' => v = .tuple #[.int .i64 (lookH ws L p).1, .int .i64 (lookH ws L p).2.1, .int .i64 (lookH ws L p).2.2.1, .int .i64 (lookH ws L p).2.2.2] ∧ w' = w) := by
  have hRP := h
  obtain ⟨a, c, hB, hS, hk⟩ := h
  refine fn_enter (n := 34) Tryd.func71 rfl rfl (Nat.le_of_ble_eq_true rfl) (fun e => ?_)
  refine k_seq ?_
  refine k_region ?_
  refine m_int rfl rfl ?_
  refine m_int rfl rfl ?_
  refine m_int rfl rfl ?_
  refine m_int rfl rfl ?_
  refine o_nil ?_
  refine k_seq ?_
  refine k_seq ?_
  refine k_region ?_
  refine m_ptr rfl rfl ?_
  refine m_int rfl rfl ?_
  refine o_call rfl rfl (rblock_ok k w rb ws lim L p hRP hW) (fun v w1 hv => ?_)
  obtain ⟨rfl, rfl⟩ := hv
  refine u_not (p := p ∈ L) rfl ?_
  refine o_nil ?_
  refine k_cond rfl (fun h => ?_) (fun h => ?_)
  ·
    refine k_seq ?_
    refine k_region ?_
    refine m_int rfl rfl ?_
    refine m_int rfl rfl ?_
    refine m_int rfl rfl ?_
    refine m_int rfl rfl ?_
    refine o_nil ?_
    refine k_ret (ret_tmps (ts := [4, 5, 6, 7]) (v := .tuple #[.int _ _, .int _ _, .int _ _, .int _ _]) rfl rfl ?_)
    rw [look_out h]; exact ⟨rfl, rfl⟩
  have hp : p ∈ L := Decidable.of_not_not h
  obtain ⟨q, hq, hpq, hq1, hq0, hqn⟩ := hW.at hp
  subst hpq
  have hgd : ws.getD (q : Int).toNat 0 = ws[q] := getD_get ws q hq
  have hx := iv_at ws q hq
  have hRS := hS.rd
  obtain ⟨b1, o1, hae, hc1⟩ := hRS _ _ hx
  subst hae
  refine k_skip ?_
  refine k_seq ?_
  refine k_region ?_
  refine m_ptr rfl rfl ?_
  refine o_nilc rfl ?_
  refine o_fld0 rfl rfl ?_
  refine o_ld (v := .slice (some ⟨b1, o1, none⟩) ws.length c) rfl rfl (hB.at rfl) ?_
  refine m_int rfl rfl ?_
  refine o_ixs1 (m := q) Tryd.underlying22 rfl rfl rfl hq ?_
  refine o_ld (v := iv (ws[q])) rfl rfl hc1 ?_
  refine o_call rfl rfl (ropen_ok w1 (ws[q]) (hW.rng _ (List.getElem_mem _)).2) (fun v w1 hv => ?_)
  obtain ⟨rfl, rfl⟩ := hv
  refine m_any rfl rfl ?_
  refine o_extr rfl rfl ?_
  refine o_extr rfl rfl ?_
  refine o_extr rfl rfl ?_
  refine o_extr rfl rfl ?_
  refine o_extr rfl rfl ?_
  refine m_int rfl rfl ?_
  refine m_int rfl rfl ?_
  refine m_int rfl rfl ?_
  refine m_int rfl rfl ?_
  refine m_int rfl rfl ?_
  refine o_nil ?_
  refine k_seq ?_
  refine k_region ?_
  refine m_int rfl rfl ?_
  refine m_int rfl rfl ?_
  refine m_int rfl rfl ?_
  refine m_int rfl rfl ?_
  refine m_int rfl rfl ?_
  refine m_int rfl rfl ?_
  refine m_int rfl rfl ?_
  refine o_nil ?_
  refine k_ret (ret_tmps (ts := [4, 5, 6, 7]) (v := .tuple #[.int _ _, .int _ _, .int _ _, .int _ _]) rfl rfl ?_)
  rw [look_in hp, hgd, hq0]; exact ⟨rfl, rfl⟩
end Go.Proofs.YtchbidckckmobaaDoor

/- The reference's heap: Get. No condition beyond what each contract names. -/
namespace Go.Proofs.YtchbidckckmobaaDoor
open Go.RowKit E
set_option linter.unusedVariables false
set_option linter.unusedSimpArgs false
set_option maxRecDepth 100000
attribute [local irreducible] ow qw kw kq cw opW Ret
theorem get_err {ws L : List Int} {p i : Int} (h : (lookH ws L p).2.2.2 ≠ 0) : getH ws L p i = (0, (lookH ws L p).2.2.2) := by
  have e : cellH ws L p i = (0, false, (lookH ws L p).2.2.2) := by unfold cellH; rw [if_pos h]
  unfold getH
  rw [e, if_pos h]
theorem get_out {ws L : List Int} {p i : Int} (h : ¬ (lookH ws L p).2.2.2 ≠ 0) (hi : i < 0 ∨ (lookH ws L p).2.2.1 ≤ i) : getH ws L p i = (0, 1) := by
  have e : cellH ws L p i = (0, false, 1) := by unfold cellH; rw [if_neg h, if_pos hi]
  unfold getH
  rw [e, if_pos (by simp)]
theorem get_in {ws L : List Int} {p i : Int} (h : ¬ (lookH ws L p).2.2.2 ≠ 0) (hi : ¬ (i < 0 ∨ (lookH ws L p).2.2.1 ≤ i)) : (cellH ws L p i).2.2 = 0 := by
  unfold cellH; rw [if_neg h, if_neg hi]
theorem rget_ok (k : Nat → Prop) (w : World) (rb : Nat) (ws : List Int) (lim : Int) (L : List Int) (p i : Int) (h : RP k w rb ws lim) (hW : WFH ws L) :
    Ret Tryd.prog 70 [.pointer (some ⟨rb, 0, none⟩), .int .i64 p, .int .i64 i] w (fun v w' => v = .tuple #[.int .i64 (getH ws L p i).1, .int .i64 (getH ws L p i).2] ∧ w' = w) := by
  have hRP := h
  have hlen := hW.len
  obtain ⟨a, c, hB, hS, hk⟩ := h
  refine fn_enter (n := 40) Tryd.func70 rfl rfl (Nat.le_of_ble_eq_true rfl) (fun e => ?_)
  refine k_seq ?_
  refine k_region ?_
  refine m_int rfl rfl ?_
  refine m_int rfl rfl ?_
  refine o_nil ?_
  refine k_seq ?_
  refine k_region ?_
  refine m_ptr rfl rfl ?_
  refine m_int rfl rfl ?_
  refine o_call rfl rfl (rlook_ok k w rb ws lim L p hRP hW) (fun v w1 hv => ?_)
  obtain ⟨rfl, rfl⟩ := hv
  refine m_any rfl rfl ?_
  refine o_extr rfl rfl ?_
  refine o_extr rfl rfl ?_
  refine o_extr rfl rfl ?_
  refine o_extr rfl rfl ?_
  refine m_int rfl rfl ?_
  refine m_int rfl rfl ?_
  refine m_int rfl rfl ?_
  refine m_int rfl rfl ?_
  refine o_nil ?_
  refine k_seq ?_
  refine k_seq ?_
  refine k_region ?_
  refine m_int rfl rfl ?_
  refine b_neq rfl rfl ?_
  refine o_nil ?_
  refine k_cond rfl (fun h => ?_) (fun h => ?_)
  ·
    refine k_seq ?_
    refine k_region ?_
    refine m_int rfl rfl ?_
    refine m_int rfl rfl ?_
    refine m_int rfl rfl ?_
    refine o_nil ?_
    refine k_ret (ret_tmps (ts := [6, 7]) (v := .tuple #[.int _ _, .int _ _]) rfl rfl ?_)
    rw [get_err h]; exact ⟨rfl, rfl⟩
  have h0 := h
  refine k_skip ?_
  refine k_seq ?_
  refine k_seq ?_
  refine k_region ?_
  refine m_int rfl rfl ?_
  refine b_lss rfl rfl ?_
  refine m_bool rfl rfl ?_
  refine o_split (t := 25) rfl (fun h => ?_) (fun h => ?_)
  ·
    refine g_no rfl rfl rfl ?_
    refine g_no rfl rfl rfl ?_
    refine g_no rfl rfl rfl ?_
    refine pick_t rfl rfl ?_
    refine o_nil ?_
    refine k_condt rfl ?_
    refine k_seq ?_
    refine k_region ?_
    refine m_int rfl rfl ?_
    refine m_int rfl rfl ?_
    refine o_nil ?_
    refine k_ret (ret_tmps (ts := [6, 7]) (v := .tuple #[.int _ _, .int _ _]) rfl rfl ?_)
    rw [get_out h0 (.inl h)]; exact ⟨rfl, rfl⟩
  ·
    refine g_yes rfl rfl ?_
    refine m_int rfl rfl ?_
    refine g_yes rfl rfl ?_
    refine m_int rfl rfl ?_
    refine g_yes rfl rfl ?_
    refine b_geq rfl rfl ?_
    refine pick_f rfl rfl ?_
    refine o_nil ?_
    refine k_cond rfl (fun h => ?_) (fun h => ?_)
    ·
      refine k_seq ?_
      refine k_region ?_
      refine m_int rfl rfl ?_
      refine m_int rfl rfl ?_
      refine o_nil ?_
      refine k_ret (ret_tmps (ts := [6, 7]) (v := .tuple #[.int _ _, .int _ _]) rfl rfl ?_)
      rw [get_out h0 (.inr h)]; exact ⟨rfl, rfl⟩
    have hcz := get_in (i := i) h0 (by omega)
    obtain ⟨q, j, hq, rfl, rfl, hqL, hq0, hjn, hin, hcell⟩ := cell_e hW hcz
    have hx := iv_at ws (q + 1 + j) hin
    have hRS := hS.rd
    obtain ⟨b1, o1, hae, hc1⟩ := hRS _ _ hx
    subst hae
    refine k_skip ?_
    refine k_seq ?_
    refine k_region ?_
    refine m_ptr rfl rfl ?_
    refine o_nilc rfl ?_
    refine o_fld0 rfl rfl ?_
    refine o_ld (v := .slice (some ⟨b1, o1, none⟩) ws.length c) rfl rfl (hB.at rfl) ?_
    refine m_int rfl rfl ?_
    refine n_add rfl rfl (by omega) ?_
    refine m_int rfl rfl ?_
    refine n_add rfl rfl (by omega) ?_
    refine o_ixs1 (m := q + 1 + j) Tryd.underlying22 rfl rfl rfl hin ?_
    refine o_ld (v := iv (ws[q + 1 + j])) rfl rfl hc1 ?_
    refine m_int rfl rfl ?_
    refine m_int rfl rfl ?_
    refine o_nil ?_
    refine k_ret (ret_tmps (ts := [6, 7]) (v := .tuple #[.int _ _, .int _ _]) rfl rfl ?_)
    refine ⟨?_, rfl⟩
    unfold getH
    rw [hcell, if_neg (fun hh => hh rfl)]
    show _ = Value.tuple #[.int .i64 (ws.getD (q + 1 + j) 0), .int .i64 0]
    rw [getD_get ws _ hin]
end Go.Proofs.YtchbidckckmobaaDoor

/- The reference's heap: Set. No condition beyond what each contract names. -/
namespace Go.Proofs.YtchbidckckmobaaDoor
open Go.RowKit E
set_option linter.unusedVariables false
set_option linter.unusedSimpArgs false
set_option maxRecDepth 100000
attribute [local irreducible] ow qw kw kq cw opW Ret
def RRes (k : Nat → Prop) (w : World) (rb : Nat) (lim : Int) (w' : World) (ws L : List Int) : Prop := RP k w' rb ws lim ∧ WFH ws L ∧ KeepH k w w'
theorem mem_refU (kind mask p : Int) (n j : Nat) : p + 1 + (j : Int) ∈ refU kind mask p n ↔ j < n ∧ refB kind mask j = true := by
  induction n with
  | zero => simp [refU]
  | succ n ih =>
    unfold refU
    rw [List.mem_append, ih]
    by_cases hb : refB kind mask n = true
    · rw [if_pos hb, List.mem_singleton]
      constructor
      · rintro (⟨h1, h2⟩ | h)
        · exact ⟨by omega, h2⟩
        · have : j = n := by omega
          subst this
          exact ⟨by omega, hb⟩
      · rintro ⟨h1, h2⟩
        by_cases hj : j = n
        · subst hj; exact .inr rfl
        · exact .inl ⟨by omega, h2⟩
    · rw [if_neg hb]
      simp only [List.not_mem_nil, or_false]
      constructor
      · rintro ⟨h1, h2⟩; exact ⟨by omega, h2⟩
      · rintro ⟨h1, h2⟩
        refine ⟨?_, h2⟩
        by_cases hj : j = n
        · subst hj; exact absurd h2 hb
        · omega
theorem get_snd (ws L : List Int) (p i : Int) : (getH ws L p i).2 = (cellH ws L p i).2.2 := by
  unfold getH
  split
  · rfl
  · rename_i h; exact (Decidable.of_not_not h).symm
theorem rset_ok (k : Nat → Prop) (w : World) (rb : Nat) (ws : List Int) (lim : Int) (L : List Int) (p i x : Int) (h : RP k w rb ws lim) (hW : WFH ws L) (hx : -9223372036854775808 ≤ x ∧ x ≤ 9223372036854775807) :
    Ret Tryd.prog 69 [.pointer (some ⟨rb, 0, none⟩), .int .i64 p, .int .i64 i, .int .i64 x] w (fun v w' => v = .int .i64 (setH ws L p i x).1 ∧ RRes k w rb lim w' (setH ws L p i x).2 L) := by
  have hRP := h
  have hlen := hW.len
  obtain ⟨a, c, hB, hS, hk1, hk3⟩ := h
  refine fn_enter (n := 64) Tryd.func69 rfl rfl (Nat.le_of_ble_eq_true rfl) (fun e => ?_)
  refine k_seq ?_
  refine k_region ?_
  refine m_int rfl rfl ?_
  refine o_nil ?_
  refine k_seq ?_
  refine k_seq ?_
  refine k_region ?_
  refine m_ptr rfl rfl ?_
  refine m_int rfl rfl ?_
  refine m_int rfl rfl ?_
  refine o_call rfl rfl (rget_ok k w rb ws lim L p i hRP hW) (fun v w1 hv => ?_)
  obtain ⟨rfl, rfl⟩ := hv
  rw [get_snd]
  refine m_any rfl rfl ?_
  refine o_extr rfl rfl ?_
  refine o_extr rfl rfl ?_
  refine m_int rfl rfl ?_
  refine m_int rfl rfl ?_
  refine o_nil ?_
  refine k_seq ?_
  refine k_region ?_
  refine m_int rfl rfl ?_
  refine b_neq rfl rfl ?_
  refine o_nil ?_
  refine k_cond rfl (fun h => ?_) (fun h => ?_)
  ·
    refine k_seq ?_
    refine k_region ?_
    refine m_int rfl rfl ?_
    refine m_int rfl rfl ?_
    refine o_nil ?_
    refine k_ret (ret_tmps (ts := [8]) (v := .int _ _) rfl rfl ?_)
    have e : setH ws L p i x = ((cellH ws L p i).2.2, ws) := if_pos h
    rw [e]; exact ⟨rfl, hRP, hW, (Keep.refl [] _).h⟩
  have h0 := Decidable.of_not_not h
  obtain ⟨q, j, hq, rfl, rfl, hqL, hq0, hjn, hin, hcell⟩ := cell_e hW h0
  have hn0 := (open_f _ hq0).n0
  have hwat := hW.at hqL
  have hmem : ((q : Int) + 1 + (j : Int) ∈ refsW ws (q : Int)) ↔ refB (openW (ws[q])).1 (openW (ws[q])).2.2.2.1 j = true := by
    obtain ⟨q', hq', e1, _, _, hqn⟩ := hwat
    have : q' = q := by omega
    subst this
    rw [refsW_at ws q' hq]
    unfold refsO
    rw [if_pos ⟨hq0, hqn⟩, mem_refU]
    exact ⟨fun hh => hh.2, fun hh => ⟨by omega, hh⟩⟩
  refine k_skip ?_
  refine k_seq ?_
  refine k_region ?_
  refine m_ptr rfl rfl ?_
  refine o_nilc rfl ?_
  refine o_fld0 rfl rfl ?_
  refine o_ld (v := .slice a ws.length c) rfl rfl (hB.at rfl) ?_
  refine m_int rfl rfl ?_
  refine o_call rfl rfl (rrefs_ok w1 a ws.length c ws (q : Int) hS.rd rfl (by omega) (fun y hy => (hW.rng y hy).2)) (fun v w2 hv => ?_)
  obtain ⟨a2, c2, rfl, hS2, hK2, hf2⟩ := hv
  have hll : (refsW ws (q : Int)).length ≤ 65537 := by
    rw [refsW_at ws q hq]
    unfold refsO
    split
    · rename_i hc; have := refU_le (openW ws[q]).1 (openW ws[q]).2.2.2.1 (q : Int) (openW ws[q]).2.2.1.toNat; omega
    · simp
  obtain ⟨l, hl⟩ : ∃ l, refsW ws (q : Int) = l := ⟨_, rfl⟩
  rw [hl] at hS2 hll hmem ⊢
  have hRP2 := hRP.new hK2
  have hB2 := hB.keep hK2 (by simp)
  have hSa2 := hS.new hK2
  have hRl := hS2.rd
  refine m_sl rfl rfl ?_
  refine o_nil ?_
  refine k_seq ?_
  refine k_seq ?_
  refine k_region ?_
  refine m_int rfl rfl ?_
  refine o_nil ?_
  refine k_block ?_
  refine k_loop (σ := Nat) (fun m => [(0, .pointer (some ⟨rb, 0, none⟩)), (1, .int .i64 (q : Int)), (2, .int .i64 (j : Int)), (3, .int .i64 x), (11, .slice a2 l.length c2), (12, .int .i64 (m : Int))]) (fun m w' => w' = w2 ∧ m ≤ l.length ∧ ∀ m', m' < m → l[m']? = some ((q : Int) + 1 + (j : Int)) → x = 0 ∨ x ∈ L) (fun m => l.length - m) 0 ⟨rfl, rfl, rfl, rfl, rfl, rfl, trivial⟩ ⟨rfl, Nat.zero_le _, fun m' hm => by omega⟩ (fun m e w3 hJ => ?_)
  obtain ⟨rfl, hm, hpre⟩ := hJ
  refine k_seq ?_
  refine k_seq ?_
  refine k_region ?_
  refine m_int rfl rfl ?_
  refine m_sl rfl rfl ?_
  refine o_lens Tryd.underlying23 rfl ?_
  refine b_lss rfl rfl ?_
  refine o_nil ?_
  refine k_cond rfl (fun h => ?_) (fun h => ?_)
  rotate_left
  ·
    have hmf : m = l.length := by omega
    have e : setH ws L (q : Int) (j : Int) x = (0, ws.set (q + 1 + j) x) := by
      unfold setH
      rw [hcell, if_neg (fun hh => hh rfl), if_neg ?_]
      · rfl
      · rintro ⟨h1, h2, h3⟩
        obtain ⟨m', hm', he'⟩ := List.getElem_of_mem (hmem.2 h1)
        rcases hpre m' (by omega) (by rw [List.getElem?_eq_getElem hm', he']) with hh | hh
        · exact h2 hh
        · exact h3 hh
    obtain ⟨g, cur, hae, hBg, hgs⟩ := hSa2.blk (by omega)
    subst hae
    refine k_exit rfl ?_
    refine k_seq ?_
    refine k_region ?_
    refine m_ptr rfl rfl ?_
    refine o_nilc rfl ?_
    refine o_fld0 rfl rfl ?_
    refine o_ld (v := .slice (some ⟨g, 0, none⟩) ws.length c) rfl rfl (hB2.at rfl) ?_
    refine m_int rfl rfl ?_
    refine n_add rfl rfl (by omega) ?_
    refine m_int rfl rfl ?_
    refine n_add rfl rfl (by omega) ?_
    refine m_int rfl rfl ?_
    refine o_ixs1 (m := q + 1 + j) Tryd.underlying22 rfl rfl (congrArg (Value.int .i64) (by push_cast; rfl)) hin ?_
    refine o_st (v := iv x) rfl rfl rfl rfl hBg (by omega) (fun w5 hB5 hK5 hZ5 => ?_)
    have hS5 := Sl.set hSa2 hin hBg hB5
    rw [show (ws.map iv).set (q + 1 + j) (iv x) = (ws.set (q + 1 + j) x).map iv by rw [List.map_set]] at hS5
    have hne : rb ≠ g := fun e => by subst e; exact absurd (hB2.ty hBg) (by decide)
    refine o_nil ?_
    refine k_seq ?_
    refine k_region ?_
    refine m_int rfl rfl ?_
    refine o_nil ?_
    refine k_ret (ret_tmps (ts := [8]) (v := .int _ _) rfl rfl ?_)
    rw [e]
    refine ⟨rfl, ⟨some ⟨g, 0, none⟩, c, ?_, ?_, hk1, hk3⟩, hW.set hqL (by omega) (by rw [getD_get ws q hq]; omega) hx, hK2.h.tr (Keep.hb hK5 hBg (.inl rfl) (hk3 _ rfl))⟩
    · simp only [List.length_set]; exact hB2.keep hK5 (by simpa using hne)
    · simp only [List.length_set]; exact hS5
  have hml : m < l.length := by omega
  have hxl := iv_at l m hml
  obtain ⟨b1, o1, hae, hc1⟩ := hRl _ _ hxl
  subst hae
  refine k_skip ?_
  refine k_seq ?_
  refine k_block ?_
  refine k_seq ?_
  refine k_region ?_
  refine m_sl rfl rfl ?_
  refine m_int rfl rfl ?_
  refine o_ixs1 (m := m) Tryd.underlying23 rfl rfl rfl hml ?_
  refine o_ld (v := iv (l[m])) rfl rfl hc1 ?_
  refine m_int rfl rfl ?_
  refine n_add rfl rfl (by omega) ?_
  refine m_int rfl rfl ?_
  refine n_add rfl rfl (by omega) ?_
  refine b_eql rfl rfl ?_
  refine m_bool rfl rfl ?_
  refine o_split (t := 44) rfl (fun h => ?_) (fun h => ?_)
  ·
    have h44 := h
    refine g_yes rfl rfl ?_
    refine m_int rfl rfl ?_
    refine g_yes rfl rfl ?_
    refine b_neq rfl rfl ?_
    refine pick_t rfl rfl ?_
    refine m_bool rfl rfl ?_
    refine o_split (t := 48) rfl (fun h => ?_) (fun h => ?_)
    ·
      have h48 := h
      refine g_yes rfl rfl ?_
      refine m_ptr rfl rfl ?_
      refine g_yes rfl rfl ?_
      refine m_int rfl rfl ?_
      refine g_yes rfl rfl ?_
      refine o_call rfl rfl (rblock_ok k w3 rb ws lim L x hRP2 hW) (fun v w4 hv => ?_)
      obtain ⟨rfl, rfl⟩ := hv
      refine g_yes rfl rfl ?_
      refine u_not (p := x ∈ L) rfl ?_
      refine pick_t rfl rfl ?_
      refine o_nil ?_
      refine k_cond rfl (fun h => ?_) (fun h => ?_)
      ·
        refine k_seq ?_
        refine k_region ?_
        refine m_int rfl rfl ?_
        refine o_nil ?_
        refine k_ret (ret_tmps (ts := [8]) (v := .int _ _) rfl rfl ?_)
        have hin' : (q : Int) + 1 + (j : Int) ∈ l := by rw [← h44]; exact List.getElem_mem _
        have e : setH ws L (q : Int) (j : Int) x = (1, ws) := by unfold setH; rw [hcell, if_neg (fun hh => hh rfl), if_pos ⟨hmem.1 hin', h48, h⟩]
        rw [e]; exact ⟨rfl, hRP2, hW, hK2.h⟩
      refine k_skip ?_
      refine k_blk ?_
      refine k_region ?_
      refine m_int rfl rfl ?_
      refine n_add rfl rfl (by omega) ?_
      refine m_int rfl rfl ?_
      refine o_nil ?_
      refine k_goal ⟨m + 1, ⟨rfl, rfl, rfl, rfl, rfl, rfl, trivial⟩, ⟨rfl, by omega, fun m' hm' he => ?_⟩, by omega⟩
      by_cases hmm : m' = m
      · exact .inr (Decidable.of_not_not h)
      · exact hpre m' (by omega) he
    ·
      have h48 := h
      refine g_no rfl rfl rfl ?_
      refine g_no rfl rfl rfl ?_
      refine g_no rfl rfl rfl ?_
      refine g_no rfl rfl rfl ?_
      refine pick_f rfl rfl ?_
      refine o_nil ?_
      refine k_condf rfl ?_
      refine k_skip ?_
      refine k_blk ?_
      refine k_region ?_
      refine m_int rfl rfl ?_
      refine n_add rfl rfl (by omega) ?_
      refine m_int rfl rfl ?_
      refine o_nil ?_
      refine k_goal ⟨m + 1, ⟨rfl, rfl, rfl, rfl, rfl, rfl, trivial⟩, ⟨rfl, by omega, fun m' hm' he => ?_⟩, by omega⟩
      by_cases hmm : m' = m
      · exact .inl (Decidable.of_not_not h48)
      · exact hpre m' (by omega) he
  ·
    have h44 := h
    refine g_no rfl rfl rfl ?_
    refine g_no rfl rfl rfl ?_
    refine pick_f rfl rfl ?_
    refine m_bool rfl rfl ?_
    refine g_no rfl rfl rfl ?_
    refine g_no rfl rfl rfl ?_
    refine g_no rfl rfl rfl ?_
    refine g_no rfl rfl rfl ?_
    refine pick_f rfl rfl ?_
    refine o_nil ?_
    refine k_condf rfl ?_
    refine k_skip ?_
    refine k_blk ?_
    refine k_region ?_
    refine m_int rfl rfl ?_
    refine n_add rfl rfl (by omega) ?_
    refine m_int rfl rfl ?_
    refine o_nil ?_
    refine k_goal ⟨m + 1, ⟨rfl, rfl, rfl, rfl, rfl, rfl, trivial⟩, ⟨rfl, by omega, fun m' hm' he => ?_⟩, by omega⟩
    by_cases hmm : m' = m
    · subst hmm
      rw [List.getElem?_eq_getElem hml] at he
      exact absurd (Option.some.inj he) h44
    · exact hpre m' (by omega) he
end Go.Proofs.YtchbidckckmobaaDoor

/- The reference's heap: lay, Array. No condition beyond what each contract names. -/
namespace Go.Proofs.YtchbidckckmobaaDoor
open Go.RowKit E
set_option linter.unusedVariables false
set_option linter.unusedSimpArgs false
set_option maxRecDepth 100000
attribute [local irreducible] ow qw kw kq cw opW Ret
theorem rlay_ok (k : Nat → Prop) (w : World) (rb : Nat) (ws : List Int) (lim : Int) (hd n : Int) (h : RP k w rb ws lim) (hkw : ∀ b, w.heap.size ≤ b → k b) (hn : 0 ≤ n) (hl : (ws.length : Int) + 1 + n ≤ 65537) :
    Ret Tryd.prog 75 [.pointer (some ⟨rb, 0, none⟩), .int .i64 hd, .int .i64 n] w (fun v w' => v = .int .i64 (ws.length : Int) ∧ RP k w' rb (ws ++ hd :: List.replicate n.toNat 0) lim ∧ KeepH k w w') := by
  obtain ⟨a, c, hB, hS, hk1, hk3⟩ := h
  refine fn_enter (n := 39) Tryd.func75 rfl rfl (Nat.le_of_ble_eq_true rfl) (fun e => ?_)
  refine k_seq ?_
  refine k_region ?_
  refine m_int rfl rfl ?_
  refine o_nil ?_
  refine k_seq ?_
  refine k_region ?_
  refine m_ptr rfl rfl ?_
  refine o_nilc rfl ?_
  refine o_fld0 rfl rfl ?_
  refine o_ld (v := .slice a ws.length c) rfl rfl (hB.at rfl) ?_
  refine o_lens Tryd.underlying22 rfl ?_
  refine m_int rfl rfl ?_
  refine o_nil ?_
  refine k_seq ?_
  refine k_region ?_
  refine m_ptr rfl rfl ?_
  refine m_ptr rfl rfl ?_
  refine o_nilc rfl ?_
  refine o_fld0 rfl rfl ?_
  refine o_ld (v := .slice a ws.length c) rfl rfl (hB.at rfl) ?_
  refine m_int rfl rfl ?_
  refine o_bsl (E := 2) (cs := #[iv hd]) rfl (fun _ => by kernel_rfl) (fun g3 w3 hB3 hK3 hb3 hZ3 => ?_)
  refine o_app Tryd.underlying22 inf2 rfl (by decide) rfl rfl (hS.new hK3) hB3.rd rfl (by simp [iv, Value.oneCell']) (by simp [maxLen]; omega) (by omega) (fun a4 c4 w4 hS4 hK4 hv4 => ?_)
  have hf4 := own_app (k := k) (w := w3) (w' := w4) (a := a) (a2 := a4) hk3 (fun b hb => hkw b (by have := hK3.size; omega)) hv4
  have hH4 : KeepH k w w4 := hK3.h.tr (hK4.hs (hS.new hK3) hk3)
  have hB4 : Blk w4 rb #[.slice a ws.length c, iv lim] 68 := (hB.keep hK3 (by simp)).keep hK4 ((hS.new hK3).notin (hB.keep hK3 (by simp)) (by decide))
  refine o_nilc rfl ?_
  refine o_fld0 rfl rfl ?_
  refine o_st (v := .slice a4 (ws.length + 1) c4) rfl rfl rfl rfl hB4 (show 0 < 2 by decide) (fun w5 hB5 hK5 hZ5 => ?_)
  have hB5' : Blk w5 rb #[.slice a4 (ws.length + 1) c4, iv lim] 68 := hB5
  have hS5 : Sl w5 2 1 a4 (ws.length + 1) c4 (ws.map iv ++ [iv hd]) := hS4.keep hK5 (hS4.off hB4 (by decide))
  have hH5 : KeepH k w w5 := hH4.tr (Keep.hb hK5 hB4 (.inr (.inr rfl)) hk1)
  have hRP5 : RP k w5 rb (ws ++ hd :: List.replicate 0 0) lim := ⟨a4, c4, by simpa using hB5', by simpa using hS5, hk1, hf4⟩
  refine o_nil ?_
  refine k_seq ?_
  refine k_seq ?_
  refine k_region ?_
  refine m_int rfl rfl ?_
  refine o_nil ?_
  refine k_block ?_
  refine k_loop (σ := Nat) (fun i => [(0, .pointer (some ⟨rb, 0, none⟩)), (2, .int .i64 n), (7, .int .i64 (ws.length : Int)), (8, .int .i64 (i : Int))]) (fun i w' => (i : Int) ≤ n ∧ RP k w' rb (ws ++ hd :: List.replicate i 0) lim ∧ KeepH k w w') (fun i => n.toNat - i) 0 ⟨rfl, rfl, rfl, rfl, trivial⟩ ⟨by omega, hRP5, hH5⟩ (fun i e w6 hJ => ?_)
  obtain ⟨hi, hRP6, hH6⟩ := hJ
  refine k_seq ?_
  refine k_seq ?_
  refine k_region ?_
  refine m_int rfl rfl ?_
  refine m_int rfl rfl ?_
  refine b_lss rfl rfl ?_
  refine o_nil ?_
  refine k_cond rfl (fun h => ?_) (fun h => ?_)
  rotate_left
  ·
    refine k_exit rfl ?_
    refine k_seq ?_
    refine k_region ?_
    refine m_int rfl rfl ?_
    refine m_int rfl rfl ?_
    refine o_nil ?_
    refine k_ret (ret_tmps (ts := [6]) (v := .int _ _) rfl rfl ?_)
    refine ⟨rfl, ?_, hH6⟩
    have hie : i = n.toNat := by omega
    rw [← hie]
    exact hRP6
  obtain ⟨xs, hxs⟩ : ∃ xs, ws ++ hd :: List.replicate i 0 = xs := ⟨_, rfl⟩
  have hxl : xs.length = ws.length + 1 + i := by rw [← hxs]; simp; omega
  rw [hxs] at hRP6
  obtain ⟨a6, c6, hB6, hS6, _, hk6⟩ := hRP6
  refine k_skip ?_
  refine k_seq ?_
  refine k_block ?_
  refine k_region ?_
  refine m_ptr rfl rfl ?_
  refine m_ptr rfl rfl ?_
  refine o_nilc rfl ?_
  refine o_fld0 rfl rfl ?_
  refine o_ld (v := .slice a6 xs.length c6) rfl rfl (hB6.at rfl) ?_
  refine o_bsl (E := 2) (cs := #[iv 0]) rfl (fun _ => by kernel_rfl) (fun g7 w7 hB7 hK7 hb7 hZ7 => ?_)
  refine o_app Tryd.underlying22 inf2 rfl (by decide) rfl rfl (hS6.new hK7) hB7.rd rfl (by simp [iv, Value.oneCell']) (by simp [maxLen]; omega) (by omega) (fun a8 c8 w8 hS8 hK8 hv8 => ?_)
  have hf8 := own_app (k := k) (w := w7) (w' := w8) (a := a6) (a2 := a8) hk6 (fun b hb => hkw b (by have := hK7.size; have := hH6.size; omega)) hv8
  have hH8 : KeepH k w w8 := (hH6.tr hK7.h).tr (hK8.hs (hS6.new hK7) hk6)
  have hB8 : Blk w8 rb #[.slice a6 xs.length c6, iv lim] 68 := (hB6.keep hK7 (by simp)).keep hK8 ((hS6.new hK7).notin (hB6.keep hK7 (by simp)) (by decide))
  refine o_nilc rfl ?_
  refine o_fld0 rfl rfl ?_
  refine o_st (v := .slice a8 (xs.length + 1) c8) rfl rfl rfl rfl hB8 (show 0 < 2 by decide) (fun w9 hB9 hK9 hZ9 => ?_)
  have hB9' : Blk w9 rb #[.slice a8 (xs.length + 1) c8, iv lim] 68 := hB9
  have hS9 : Sl w9 2 1 a8 (xs.length + 1) c8 (xs.map iv ++ [iv 0]) := hS8.keep hK9 (hS8.off hB8 (by decide))
  have hH9 : KeepH k w w9 := hH8.tr (Keep.hb hK9 hB8 (.inr (.inr rfl)) hk1)
  have hnx : ws ++ hd :: List.replicate (i + 1) 0 = xs ++ [0] := by rw [← hxs, List.replicate_succ']; simp
  refine o_nil ?_
  refine k_blk ?_
  refine k_region ?_
  refine m_int rfl rfl ?_
  refine n_add rfl rfl (by omega) ?_
  refine m_int rfl rfl ?_
  refine o_nil ?_
  refine k_goal ⟨i + 1, ⟨rfl, rfl, rfl, rfl, trivial⟩, ⟨by omega, ?_, hH9⟩, by omega⟩
  rw [hnx]
  exact ⟨a8, c8, by simpa using hB9', by simpa using hS9, hk1, hf8⟩
end Go.Proofs.YtchbidckckmobaaDoor

/- The reference's heap: Array. No condition beyond what each contract names. -/
namespace Go.Proofs.YtchbidckckmobaaDoor
open Go.RowKit E
set_option linter.unusedVariables false
set_option linter.unusedSimpArgs false
set_option maxRecDepth 100000
attribute [local irreducible] ow qw kw kq cw opW Ret
theorem rlay_wf {ws L : List Int} (hW : WFH ws L) {lim kind cl n mask : Int} (hlim : lim ≤ 65536) (he : (layH ws L lim kind cl n mask).2.1 = 0) : WFH (layH ws L lim kind cl n mask).2.2.1 (layH ws L lim kind cl n mask).2.2.2 ∧ ((layH ws L lim kind cl n mask).2.2.1.length : Int) ≤ lim + 1 := by
  rcases lay_cases ws L lim kind cl n mask with ⟨h, _⟩ | ⟨e, h2, h3, h4⟩
  · exact absurd he h
  · have hoh := head_open kind cl n mask h2
    rw [e]
    have hnn : (n.toNat : Int) = n := by omega
    refine ⟨hW.app (by rw [hoh]) (by rw [hoh]; exact hnn.symm) (head_rng kind cl n mask) (by omega), ?_⟩
    simp; omega
theorem rarray_ok (k : Nat → Prop) (w : World) (rb : Nat) (ws : List Int) (lim : Int) (L : List Int) (cl n : Int) (rf : Bool) (h : RP k w rb ws lim) (hW : WFH ws L) (hlim : lim ≤ 65536) (hl0 : 0 ≤ lim) (hu : (ws.length : Int) ≤ lim + 1) (hkw : ∀ b, w.heap.size ≤ b → k b)
    (hn : -9223372036854775808 ≤ n ∧ n ≤ 9223372036854775807) :
    Ret Tryd.prog 58 [.pointer (some ⟨rb, 0, none⟩), .int .i64 cl, .bool rf, .int .i64 n] w (fun v w' => v = .tuple #[.int .i64 (layH ws L lim (if rf then 3 else 2) cl n 0).1, .int .i64 (layH ws L lim (if rf then 3 else 2) cl n 0).2.1] ∧ RRes k w rb lim w' (layH ws L lim (if rf then 3 else 2) cl n 0).2.2.1 (layH ws L lim (if rf then 3 else 2) cl n 0).2.2.2) := by
  have hRP := h
  have hlen := hW.len
  obtain ⟨a, c, hB, hS, hk1, hk3⟩ := h
  obtain ⟨kd, hkd⟩ : ∃ kd : Int, (if rf then 3 else 2) = kd := ⟨_, rfl⟩
  have hkd2 : kd = 2 ∨ kd = 3 := by cases rf <;> simp at hkd <;> omega
  have eA : (n < 0 ∨ ¬ (0 ≤ cl ∧ cl ≤ 65535)) → layH ws L lim kd cl n 0 = (0, 1, ws, L) := fun hh => if_pos hh
  have eB : ¬ (n < 0 ∨ ¬ (0 ≤ cl ∧ cl ≤ 65535)) → lim - ((ws.length : Int) - 1) ≤ n → layH ws L lim kd cl n 0 = (0, 27, ws, L) := fun h1 h2 => by unfold layH; rw [if_neg h1, if_pos h2]
  rw [hkd]
  refine fn_enter (n := 53) Tryd.func58 rfl rfl (Nat.le_of_ble_eq_true rfl) (fun e => ?_)
  refine k_seq ?_
  refine k_region ?_
  refine m_int rfl rfl ?_
  refine m_int rfl rfl ?_
  refine o_nil ?_
  refine k_seq ?_
  refine k_seq ?_
  refine k_region ?_
  refine m_int rfl rfl ?_
  refine b_lss rfl rfl ?_
  refine m_bool rfl rfl ?_
  refine o_split (t := 15) rfl (fun h => ?_) (fun h => ?_)
  ·
    refine g_no rfl rfl rfl ?_
    refine g_no rfl rfl rfl ?_
    refine pick_t rfl rfl ?_
    refine m_bool rfl rfl ?_
    refine g_no rfl rfl rfl ?_
    refine g_no rfl rfl rfl ?_
    refine pick_t rfl rfl ?_
    refine o_nil ?_
    refine k_condt rfl ?_
    refine k_seq ?_
    refine k_region ?_
    refine m_int rfl rfl ?_
    refine m_int rfl rfl ?_
    refine o_nil ?_
    refine k_ret (ret_tmps (ts := [8, 9]) (v := .tuple #[.int _ _, .int _ _]) rfl rfl ?_)
    rw [eA (by omega)]; exact ⟨rfl, hRP, hW, (Keep.refl [] _).h⟩
  ·
    refine g_yes rfl rfl ?_
    refine m_int rfl rfl ?_
    refine g_yes rfl rfl ?_
    refine b_gtr rfl rfl ?_
    refine pick_f rfl rfl ?_
    refine m_bool rfl rfl ?_
    refine o_split (t := 19) rfl (fun h => ?_) (fun h => ?_)
    ·
      refine g_no rfl rfl rfl ?_
      refine g_no rfl rfl rfl ?_
      refine pick_t rfl rfl ?_
      refine o_nil ?_
      refine k_condt rfl ?_
      refine k_seq ?_
      refine k_region ?_
      refine m_int rfl rfl ?_
      refine m_int rfl rfl ?_
      refine o_nil ?_
      refine k_ret (ret_tmps (ts := [8, 9]) (v := .tuple #[.int _ _, .int _ _]) rfl rfl ?_)
      rw [eA (by omega)]; exact ⟨rfl, hRP, hW, (Keep.refl [] _).h⟩
    ·
      refine g_yes rfl rfl ?_
      refine m_int rfl rfl ?_
      refine g_yes rfl rfl ?_
      refine b_lss rfl rfl ?_
      refine pick_f rfl rfl ?_
      refine o_nil ?_
      refine k_cond rfl (fun h => ?_) (fun h => ?_)
      ·
        refine k_seq ?_
        refine k_region ?_
        refine m_int rfl rfl ?_
        refine m_int rfl rfl ?_
        refine o_nil ?_
        refine k_ret (ret_tmps (ts := [8, 9]) (v := .tuple #[.int _ _, .int _ _]) rfl rfl ?_)
        rw [eA (by omega)]; exact ⟨rfl, hRP, hW, (Keep.refl [] _).h⟩
      have hc0 : ¬ (n < 0 ∨ ¬ (0 ≤ cl ∧ cl ≤ 65535)) := by omega
      refine k_skip ?_
      refine k_seq ?_
      refine k_seq ?_
      refine k_qk 16 rfl rfl rfl rfl rfl ?_
      refine q_step (fun w1 hC => m_int rfl rfl (o_nil ⟨rfl, hC⟩)) ?_
      refine q_step (fun w1 hC => m_ptr rfl rfl (o_nil ⟨rfl, hC⟩)) ?_
      refine q_step (fun w1 hC => o_nilc rfl (o_nil ⟨rfl, hC⟩)) ?_
      refine q_step (fun w1 hC => o_fld (off := 1) rfl rfl (o_nil ⟨rfl, hC⟩)) ?_
      refine q_step (fun w1 hC => o_ld (v := iv lim) rfl rfl (hB.kat hC rfl) (o_nil ⟨rfl, hC⟩)) ?_
      refine q_step (fun w1 hC => b_gtr rfl rfl (o_nil ⟨rfl, hC⟩)) ?_
      refine q_step (fun w1 hC => m_bool rfl rfl (o_nil ⟨rfl, hC⟩)) ?_
      refine q_split (t := 29) rfl (fun h => ?_) (fun h => ?_)
      ·
        have h29 := h
        refine q_step (v := undef) (fun w1 hC => g_no rfl rfl rfl (o_nil ⟨rfl, hC⟩)) ?_
        refine q_step (v := undef) (fun w1 hC => g_no rfl rfl rfl (o_nil ⟨rfl, hC⟩)) ?_
        refine q_step (v := undef) (fun w1 hC => g_no rfl rfl rfl (o_nil ⟨rfl, hC⟩)) ?_
        refine q_step (v := undef) (fun w1 hC => g_no rfl rfl rfl (o_nil ⟨rfl, hC⟩)) ?_
        refine q_step (v := undef) (fun w1 hC => g_no rfl rfl rfl (o_nil ⟨rfl, hC⟩)) ?_
        refine q_step (v := undef) (fun w1 hC => g_no rfl rfl rfl (o_nil ⟨rfl, hC⟩)) ?_
        refine q_step (v := undef) (fun w1 hC => g_no rfl rfl rfl (o_nil ⟨rfl, hC⟩)) ?_
        refine q_step (v := undef) (fun w1 hC => g_no rfl rfl rfl (o_nil ⟨rfl, hC⟩)) ?_
        refine q_step (v := undef) (fun w1 hC => g_no rfl rfl rfl (o_nil ⟨rfl, hC⟩)) ?_
        refine q_nil ?_
        intro w1 hC1
        refine g_no rfl rfl rfl ?_
        refine pick_t rfl rfl ?_
        refine o_nil ?_
        refine k_condt rfl ?_
        refine k_seq ?_
        refine k_region ?_
        refine m_int rfl rfl ?_
        refine m_int rfl rfl ?_
        refine o_nil ?_
        refine k_ret (ret_tmps (ts := [8, 9]) (v := .tuple #[.int _ _, .int _ _]) rfl rfl ?_)
        rw [eB hc0 (by omega)]; exact ⟨rfl, hRP.new hC1, hW, hC1.h⟩
      ·
        have h29 := h
        refine q_step (fun w1 hC => g_yes rfl rfl (m_ptr rfl rfl (o_nil ⟨rfl, hC⟩))) ?_
        refine q_step (v := .int .i64 ((ws.length : Int) - 1)) (fun w1 hC => g_yes rfl rfl (o_call rfl rfl (rused_ok k w1 rb ws lim (hRP.new hC) hlen) (fun v w2 hv => by obtain ⟨rfl, rfl⟩ := hv; exact o_nil ⟨rfl, hC⟩))) ?_
        refine q_step (fun w1 hC => g_yes rfl rfl (n_add rfl rfl (by omega) (o_nil ⟨rfl, hC⟩))) ?_
        refine q_step (fun w1 hC => g_yes rfl rfl (m_int rfl rfl (o_nil ⟨rfl, hC⟩))) ?_
        refine q_step (fun w1 hC => g_yes rfl rfl (n_add rfl rfl (by omega) (o_nil ⟨rfl, hC⟩))) ?_
        refine q_step (fun w1 hC => g_yes rfl rfl (m_ptr rfl rfl (o_nil ⟨rfl, hC⟩))) ?_
        refine q_step (fun w1 hC => g_yes rfl rfl (o_nilc rfl (o_nil ⟨rfl, hC⟩))) ?_
        refine q_step (fun w1 hC => g_yes rfl rfl (o_fld (off := 1) rfl rfl (o_nil ⟨rfl, hC⟩))) ?_
        refine q_step (fun w1 hC => g_yes rfl rfl (o_ld (v := iv lim) rfl rfl (hB.kat hC rfl) (o_nil ⟨rfl, hC⟩))) ?_
        refine q_nil ?_
        intro w1 hC1
        refine g_yes rfl rfl ?_
        refine b_gtr rfl rfl ?_
        refine pick_f rfl rfl ?_
        refine o_nil ?_
        refine k_cond rfl (fun h => ?_) (fun h => ?_)
        ·
          refine k_seq ?_
          refine k_region ?_
          refine m_int rfl rfl ?_
          refine m_int rfl rfl ?_
          refine o_nil ?_
          refine k_ret (ret_tmps (ts := [8, 9]) (v := .tuple #[.int _ _, .int _ _]) rfl rfl ?_)
          rw [eB hc0 (by omega)]; exact ⟨rfl, hRP.new hC1, hW, hC1.h⟩
        have hroom : ¬ lim - ((ws.length : Int) - 1) ≤ n := by omega
        have hok : hOk kd cl n 0 := ⟨by omega, by omega, by omega, by omega, by omega, by omega, fun _ => rfl, fun hh => by omega⟩
        have hh := head_yes hok
        have e : layH ws L lim kd cl n 0 = ((ws.length : Int), 0, ws ++ (headW kd cl n 0).1 :: List.replicate n.toNat 0, L ++ [(ws.length : Int)]) := by unfold layH; rw [if_neg hc0, if_neg hroom, if_neg (by rw [hh]; simp)]
        have hwf := rlay_wf (kind := kd) (cl := cl) (n := n) (mask := 0) hW hlim (by rw [e])
        rw [e] at hwf
        refine k_skip ?_
        refine k_seq ?_
        refine k_region ?_
        refine m_int rfl rfl ?_
        refine o_nil ?_
        refine k_seq ?_
        refine k_seq ?_
        refine k_region ?_
        refine m_bool rfl rfl ?_
        refine o_nil ?_
        refine k_cut (σ := Unit) (fun _ => [(0, .pointer (some ⟨rb, 0, none⟩)), (1, .int .i64 cl), (3, .int .i64 n), (10, .int .i64 kd)]) (fun _ w' => w' = w1) ?_ (fun s e w2 hJ => ?_)
        ·
          refine k_cond (p := rf = true) (by show Value.bool rf = _; cases rf <;> rfl) (fun h => ?_) (fun h => ?_)
          ·
            refine k_region ?_
            refine m_int rfl rfl ?_
            refine o_nil ?_
            refine k_goal ⟨(), ⟨rfl, rfl, rfl, congrArg (Value.int .i64) (by rw [← hkd, if_pos h]), trivial⟩, rfl⟩
          refine k_skip ?_
          refine k_goal ⟨(), ⟨rfl, rfl, rfl, congrArg (Value.int .i64) (by rw [← hkd, if_neg h]), trivial⟩, rfl⟩
        replace hJ := hJ.symm
        subst hJ
        refine k_seq ?_
        refine k_region ?_
        refine m_int rfl rfl ?_
        refine m_int rfl rfl ?_
        refine m_int rfl rfl ?_
        refine o_call rfl rfl (rhead_ok w1 kd cl n 0 (by decide)) (fun v w2 hv => ?_)
        obtain ⟨rfl, rfl⟩ := hv
        refine m_any rfl rfl ?_
        refine o_extr rfl rfl ?_
        refine o_extr rfl rfl ?_
        refine m_int rfl rfl ?_
        refine m_int rfl rfl ?_
        refine o_nil ?_
        refine k_seq ?_
        refine k_region ?_
        refine m_ptr rfl rfl ?_
        refine m_int rfl rfl ?_
        refine m_int rfl rfl ?_
        refine o_call rfl rfl (rlay_ok k w2 rb ws lim _ n (hRP.new hC1) (fun b hb => hkw b (by have := hC1.size; omega)) (by omega) (by omega)) (fun v w3 hv => ?_)
        obtain ⟨rfl, hRP3, hK3⟩ := hv
        refine m_int rfl rfl ?_
        refine m_int rfl rfl ?_
        refine o_nil ?_
        refine k_ret (ret_tmps (ts := [8, 9]) (v := .tuple #[.int _ _, .int _ _]) rfl rfl ?_)
        rw [‹layH ws L lim kd cl n 0 = _›]
        exact ⟨rfl, hRP3, hwf.1, hC1.h.tr hK3⟩
end Go.Proofs.YtchbidckckmobaaDoor

/- Objects: the heap's and the reference's. No condition beyond what each contract names. -/
namespace Go.Proofs.YtchbidckckmobaaDoor
open Go.RowKit E
set_option linter.unusedVariables false
set_option linter.unusedSimpArgs false
set_option maxRecDepth 100000
attribute [local irreducible] ow qw kw kq cw opW Ret
def maskP (bs : List Bool) : Nat → Nat
  | 0 => 0
  | m + 1 => maskP bs m + (if bs[m]? = some true then 2 ^ m else 0)
theorem maskP_lt (bs : List Bool) (m : Nat) : maskP bs m < 2 ^ m := by
  induction m with
  | zero => simp [maskP]
  | succ m ih => unfold maskP; rw [Nat.pow_succ]; split <;> omega
theorem maskP_or (bs : List Bool) (i : Nat) (hi : i < 64) (h : bs[i]? = some true) : BitVec.ofNat 64 (maskP bs i) ||| (1#64 <<< i) = BitVec.ofNat 64 (maskP bs (i + 1)) := by
  have h1 := maskP_lt bs i
  have h2 := maskP_lt bs (i + 1)
  have hp : 2 ^ (i + 1) ≤ 2 ^ 64 := Nat.pow_le_pow_right (by decide) (by omega)
  have hp' : (2 : Nat) ^ i < 2 ^ 64 := Nat.pow_lt_pow_right (by decide) hi
  have e : maskP bs (i + 1) = 2 ^ i * 1 + maskP bs i := by show maskP bs i + _ = _; rw [if_pos h]; omega
  have key : maskP bs i ||| 2 ^ i = maskP bs (i + 1) := by rw [e, Nat.two_pow_add_eq_or_of_lt h1, Nat.mul_one, Nat.or_comm]
  have a1 : (BitVec.ofNat 64 (maskP bs i)).toNat = maskP bs i := by rw [BitVec.toNat_ofNat]; exact Nat.mod_eq_of_lt (by omega)
  have a2 : (BitVec.ofNat 64 (maskP bs (i + 1))).toNat = maskP bs (i + 1) := by rw [BitVec.toNat_ofNat]; exact Nat.mod_eq_of_lt (by omega)
  have a3 : (1#64 <<< i).toNat = 2 ^ i := by
    rw [BitVec.toNat_shiftLeft, show (1#64).toNat = 1 from rfl, Nat.shiftLeft_eq, Nat.one_mul]
    exact Nat.mod_eq_of_lt hp'
  apply BitVec.eq_of_toNat_eq
  rw [BitVec.toNat_or, a1, a2, a3, key]
def objH (ws L : List Int) (lim cl : Int) (bs : List Bool) : Int × Int × List Int × List Int :=
  if 32 < bs.length then (0, 1, ws, L) else layH ws L lim 1 cl bs.length (maskP bs bs.length : Nat)
theorem bool_at (bs : List Bool) (i : Nat) (h : i < bs.length) : (bs.map Value.bool)[i]? = some (.bool (bs[i])) := by
  rw [List.getElem?_map, List.getElem?_eq_getElem h]; rfl
theorem hobject_ok (k : Nat → Prop) (w : World) (hb : Nat) (ws : List Int) (lim : Int) (L : List Int) (cl : Int) (a : Option Addr) (c : Nat) (bs : List Bool) (h' : HP k w hb ws lim L) (hW : WFH ws L) (hlim : lim ≤ 65536) (hu : (ws.length : Int) ≤ lim + 1) (hkw : ∀ b, w.heap.size ≤ b → k b)
    (hcl : -9223372036854775808 ≤ cl ∧ cl ≤ 9223372036854775807) (hR : Rd w a (bs.map Value.bool)) (hbl : bs.length ≤ 9223372036854775807) :
    Ret Tryd.prog 41 [.pointer (some ⟨hb, 0, none⟩), .int .i64 cl, .slice a bs.length c] w (fun v w' => v = .tuple #[.int .i64 (objH ws L lim cl bs).1, .int .i64 (objH ws L lim cl bs).2.1] ∧ HRes k w hb lim w' (objH ws L lim cl bs).2.2.1 (objH ws L lim cl bs).2.2.2) := by
  refine fn_enter (n := 37) Tryd.func41 rfl rfl (Nat.le_of_ble_eq_true rfl) (fun e => ?_)
  refine k_seq ?_
  refine k_region ?_
  refine m_int rfl rfl ?_
  refine m_int rfl rfl ?_
  refine o_nil ?_
  refine k_seq ?_
  refine k_seq ?_
  refine k_region ?_
  refine m_sl rfl rfl ?_
  refine o_lens Tryd.underlying63 rfl ?_
  refine b_gtr rfl rfl ?_
  refine o_nil ?_
  refine k_cond rfl (fun h => ?_) (fun h => ?_)
  ·
    refine k_seq ?_
    refine k_region ?_
    refine m_int rfl rfl ?_
    refine m_int rfl rfl ?_
    refine o_nil ?_
    refine k_ret (ret_tmps (ts := [6, 7]) (v := .tuple #[.int _ _, .int _ _]) rfl rfl ?_)
    rw [show objH ws L lim cl bs = (0, 1, ws, L) from if_pos (by omega)]; exact ⟨rfl, h', hW, hu, (Keep.refl [] w).h⟩
  have hb32 : bs.length ≤ 32 := by omega
  have e : objH ws L lim cl bs = layH ws L lim 1 cl bs.length (maskP bs bs.length : Nat) := if_neg (by omega)
  refine k_skip ?_
  refine k_seq ?_
  refine k_region ?_
  refine m_int rfl rfl ?_
  refine o_nil ?_
  refine k_seq ?_
  refine k_seq ?_
  refine k_region ?_
  refine m_sl rfl rfl ?_
  refine o_lens Tryd.underlying63 rfl ?_
  refine m_int rfl rfl ?_
  refine o_nil ?_
  refine k_block ?_
  refine k_loop (σ := Nat) (fun i => [(0, .pointer (some ⟨hb, 0, none⟩)), (1, .int .i64 cl), (2, .slice a bs.length c), (8, .int .u64 ((BitVec.ofNat 64 (maskP bs i)).toNat : Int)), (14, .slice a bs.length c), (15, .int .i64 (bs.length : Int)), (16, .int .i64 (i : Int))]) (fun i w' => i ≤ bs.length ∧ w' = w) (fun i => bs.length - i) 0 ⟨rfl, rfl, rfl, rfl, rfl, rfl, rfl, trivial⟩ ⟨Nat.zero_le _, rfl⟩ (fun i e w1 hJ => ?_)
  obtain ⟨hi, rfl⟩ := hJ
  refine k_seq ?_
  refine k_region ?_
  refine b_lss rfl rfl ?_
  refine o_nil ?_
  refine k_seq ?_
  refine k_cond rfl (fun h => ?_) (fun h => ?_)
  rotate_left
  ·
    have hie : i = bs.length := by omega
    subst hie
    have hml := maskP_lt bs bs.length
    have hmp : 2 ^ bs.length ≤ 2 ^ 32 := Nat.pow_le_pow_right (by decide) hb32
    refine k_exit rfl ?_
    refine k_seq ?_
    refine k_region ?_
    refine m_ptr rfl rfl ?_
    refine m_int rfl rfl ?_
    refine m_sl rfl rfl ?_
    refine o_lens Tryd.underlying63 rfl ?_
    refine m_int rfl rfl ?_
    refine cv64_i rfl Tryd.underlying2 rfl ?_
    have hmi : (BitVec.ofNat 64 (maskP bs bs.length)).toInt = ((maskP bs bs.length : Nat) : Int) := by
      rw [BitVec.toInt_eq_toNat_cond, BitVec.toNat_ofNat, Nat.mod_eq_of_lt (by omega), if_pos (by omega)]
    rw [hmi]
    refine o_call rfl rfl (lay_ok k w1 hb ws lim L 1 cl bs.length (maskP bs bs.length : Nat) h' hW hlim hu hkw hcl (by omega) (by omega)) (fun v w2 hv => ?_)
    obtain ⟨rfl, hv2⟩ := hv
    refine o_extr rfl rfl ?_
    refine o_extr rfl rfl ?_
    refine m_int rfl rfl ?_
    refine m_int rfl rfl ?_
    refine o_nil ?_
    refine k_ret (ret_tmps (ts := [6, 7]) (v := .tuple #[.int _ _, .int _ _]) rfl rfl ?_)
    rw [‹objH ws L lim cl bs = _›]; exact ⟨rfl, hv2⟩
  have hin : i < bs.length := by omega
  have hx := bool_at bs i hin
  obtain ⟨b1, o1, hae, hc1⟩ := hR _ _ hx
  subst hae
  refine k_skip ?_
  refine k_seq ?_
  refine k_block ?_
  refine k_seq ?_
  refine k_region ?_
  refine m_int rfl rfl ?_
  refine o_ixs1 (m := i) Tryd.underlying63 rfl rfl rfl hin ?_
  refine o_ld (v := .bool (bs[i])) rfl rfl hc1 ?_
  refine m_int rfl rfl ?_
  refine m_bool rfl rfl ?_
  refine o_nil ?_
  refine k_seq ?_
  refine k_region ?_
  refine m_bool rfl rfl ?_
  refine o_nil ?_
  refine k_cond (p := bs[i] = true) (by show Value.bool (bs[i]) = _; cases bs[i] <;> rfl) (fun h => ?_) (fun h => ?_)
  ·
    have hbt : bs[i]? = some true := by rw [List.getElem?_eq_getElem hin, h]
    refine k_region ?_
    refine m_int rfl rfl ?_
    refine m_int rfl rfl ?_
    refine cv64 rfl Tryd.underlying49 rfl ?_
    refine v64_shln (a := 1#64) (c := i) (k' := .u64) rfl ?_ ?_
    · show Value.int .u64 ((BitVec.ofInt 64 (i : Int)).toNat : Int) = _
      rw [ofZ]; exact congrArg (Value.int .u64) (by omega)
    refine v64_or rfl rfl ?_
    refine m_int rfl rfl ?_
    refine o_nil ?_
    refine k_blk ?_
    refine k_region ?_
    refine n_add rfl rfl (by omega) ?_
    refine m_int rfl rfl ?_
    refine o_nil ?_
    refine k_goal ⟨i + 1, ⟨rfl, rfl, rfl, congrArg (fun z : BitVec 64 => Value.int .u64 (z.toNat : Int)) (maskP_or bs i (by omega) hbt), rfl, rfl, rfl, trivial⟩, ⟨by omega, rfl⟩, by omega⟩
  have hbf : ¬ bs[i]? = some true := by rw [List.getElem?_eq_getElem hin]; simpa using h
  have hmf : maskP bs (i + 1) = maskP bs i := by show maskP bs i + _ = _; rw [if_neg hbf]; rfl
  refine k_skip ?_
  refine k_blk ?_
  refine k_region ?_
  refine n_add rfl rfl (by omega) ?_
  refine m_int rfl rfl ?_
  refine o_nil ?_
  refine k_goal ⟨i + 1, ⟨rfl, rfl, rfl, by rw [hmf]; rfl, rfl, rfl, rfl, trivial⟩, ⟨by omega, rfl⟩, by omega⟩
end Go.Proofs.YtchbidckckmobaaDoor

/- The reference's Object; Words; SameWords. No condition beyond what each contract names. -/
namespace Go.Proofs.YtchbidckckmobaaDoor
open Go.RowKit E
set_option linter.unusedVariables false
set_option linter.unusedSimpArgs false
set_option maxRecDepth 100000
attribute [local irreducible] ow qw kw kq cw opW Ret
theorem robject_ok (k : Nat → Prop) (w : World) (rb : Nat) (ws : List Int) (lim : Int) (L : List Int) (cl : Int) (a : Option Addr) (c : Nat) (bs : List Bool) (h' : RP k w rb ws lim) (hW : WFH ws L) (hlim : lim ≤ 65536) (hl0 : 0 ≤ lim) (hu : (ws.length : Int) ≤ lim + 1) (hkw : ∀ b, w.heap.size ≤ b → k b)
    (hR : Rd w a (bs.map Value.bool)) (hbl : bs.length ≤ 9223372036854775807) :
    Ret Tryd.prog 59 [.pointer (some ⟨rb, 0, none⟩), .int .i64 cl, .slice a bs.length c] w (fun v w' => v = .tuple #[.int .i64 (objH ws L lim cl bs).1, .int .i64 (objH ws L lim cl bs).2.1] ∧ RRes k w rb lim w' (objH ws L lim cl bs).2.2.1 (objH ws L lim cl bs).2.2.2) := by
  have hRP := h'
  have hlen := hW.len
  obtain ⟨a0, c0, hB, hS, hk1, hk3⟩ := h'
  have eA : (32 < bs.length ∨ ¬ (0 ≤ cl ∧ cl ≤ 65535)) → objH ws L lim cl bs = (0, 1, ws, L) := fun hh => by
    unfold objH
    by_cases h32 : 32 < bs.length
    · rw [if_pos h32]
    · rw [if_neg h32]; exact if_pos (.inr (hh.resolve_left h32))
  refine fn_enter (n := 63) Tryd.func59 rfl rfl (Nat.le_of_ble_eq_true rfl) (fun e => ?_)
  refine k_seq ?_
  refine k_region ?_
  refine m_int rfl rfl ?_
  refine m_int rfl rfl ?_
  refine o_nil ?_
  refine k_seq ?_
  refine k_seq ?_
  refine k_region ?_
  refine m_int rfl rfl ?_
  refine b_lss rfl rfl ?_
  refine m_bool rfl rfl ?_
  refine o_split (t := 15) rfl (fun h => ?_) (fun h => ?_)
  ·
    refine g_no rfl rfl rfl ?_
    refine g_no rfl rfl rfl ?_
    refine pick_t rfl rfl ?_
    refine m_bool rfl rfl ?_
    refine g_no rfl rfl rfl ?_
    refine g_no rfl rfl rfl ?_
    refine g_no rfl rfl rfl ?_
    refine pick_t rfl rfl ?_
    refine o_nil ?_
    refine k_condt rfl ?_
    refine k_seq ?_
    refine k_region ?_
    refine m_int rfl rfl ?_
    refine m_int rfl rfl ?_
    refine o_nil ?_
    refine k_ret (ret_tmps (ts := [6, 7]) (v := .tuple #[.int _ _, .int _ _]) rfl rfl ?_)
    rw [eA (by omega)]; exact ⟨rfl, hRP, hW, (Keep.refl [] _).h⟩
  ·
    refine g_yes rfl rfl ?_
    refine m_int rfl rfl ?_
    refine g_yes rfl rfl ?_
    refine b_gtr rfl rfl ?_
    refine pick_f rfl rfl ?_
    refine m_bool rfl rfl ?_
    refine o_split (t := 19) rfl (fun h => ?_) (fun h => ?_)
    ·
      refine g_no rfl rfl rfl ?_
      refine g_no rfl rfl rfl ?_
      refine g_no rfl rfl rfl ?_
      refine pick_t rfl rfl ?_
      refine o_nil ?_
      refine k_condt rfl ?_
      refine k_seq ?_
      refine k_region ?_
      refine m_int rfl rfl ?_
      refine m_int rfl rfl ?_
      refine o_nil ?_
      refine k_ret (ret_tmps (ts := [6, 7]) (v := .tuple #[.int _ _, .int _ _]) rfl rfl ?_)
      rw [eA (by omega)]; exact ⟨rfl, hRP, hW, (Keep.refl [] _).h⟩
    ·
      refine g_yes rfl rfl ?_
      refine m_sl rfl rfl ?_
      refine g_yes rfl rfl ?_
      refine o_lens Tryd.underlying63 rfl ?_
      refine g_yes rfl rfl ?_
      refine b_gtr rfl rfl ?_
      refine pick_f rfl rfl ?_
      refine o_nil ?_
      refine k_cond rfl (fun h => ?_) (fun h => ?_)
      ·
        refine k_seq ?_
        refine k_region ?_
        refine m_int rfl rfl ?_
        refine m_int rfl rfl ?_
        refine o_nil ?_
        refine k_ret (ret_tmps (ts := [6, 7]) (v := .tuple #[.int _ _, .int _ _]) rfl rfl ?_)
        rw [eA (by omega)]; exact ⟨rfl, hRP, hW, (Keep.refl [] _).h⟩
      have hc0 : 0 ≤ cl ∧ cl ≤ 65535 := by omega
      have hb32 : bs.length ≤ 32 := by omega
      have eO : objH ws L lim cl bs = layH ws L lim 1 cl bs.length (maskP bs bs.length : Nat) := if_neg (by omega)
      have hml := maskP_lt bs bs.length
      have hmp : 2 ^ bs.length ≤ 2 ^ 32 := Nat.pow_le_pow_right (by decide) hb32
      refine k_skip ?_
      refine k_seq ?_
      refine k_seq ?_
      refine k_qk 10 rfl rfl rfl rfl rfl ?_
      refine q_step (fun w1 hC => m_ptr rfl rfl (o_nil ⟨rfl, hC⟩)) ?_
      refine q_step (v := .int .i64 ((ws.length : Int) - 1)) (fun w1 hC => o_call rfl rfl (rused_ok k w1 rb ws lim (hRP.new hC) hlen) (fun v w2 hv => by obtain ⟨rfl, rfl⟩ := hv; exact o_nil ⟨rfl, hC⟩)) ?_
      refine q_step (fun w1 hC => n_add rfl rfl (by omega) (o_nil ⟨rfl, hC⟩)) ?_
      refine q_step (fun w1 hC => m_sl rfl rfl (o_nil ⟨rfl, hC⟩)) ?_
      refine q_step (fun w1 hC => o_lens Tryd.underlying63 rfl (o_nil ⟨rfl, hC⟩)) ?_
      refine q_step (fun w1 hC => n_add rfl rfl (by omega) (o_nil ⟨rfl, hC⟩)) ?_
      refine q_step (fun w1 hC => m_ptr rfl rfl (o_nil ⟨rfl, hC⟩)) ?_
      refine q_step (fun w1 hC => o_nilc rfl (o_nil ⟨rfl, hC⟩)) ?_
      refine q_step (fun w1 hC => o_fld (off := 1) rfl rfl (o_nil ⟨rfl, hC⟩)) ?_
      refine q_step (fun w1 hC => o_ld (v := iv lim) rfl rfl (hB.kat hC rfl) (o_nil ⟨rfl, hC⟩)) ?_
      refine q_nil ?_
      intro w1 hC1
      refine b_gtr rfl rfl ?_
      refine o_nil ?_
      refine k_cond rfl (fun h => ?_) (fun h => ?_)
      ·
        refine k_seq ?_
        refine k_region ?_
        refine m_int rfl rfl ?_
        refine m_int rfl rfl ?_
        refine o_nil ?_
        refine k_ret (ret_tmps (ts := [6, 7]) (v := .tuple #[.int _ _, .int _ _]) rfl rfl ?_)
        rw [eO, show layH ws L lim 1 cl bs.length (maskP bs bs.length : Nat) = (0, 27, ws, L) from by unfold layH; rw [if_neg (by omega), if_pos (by omega)]]
        exact ⟨rfl, hRP.new hC1, hW, hC1.h⟩
      have hroom : ¬ lim - ((ws.length : Int) - 1) ≤ bs.length := by omega
      have hok : hOk 1 cl bs.length (maskP bs bs.length : Nat) := ⟨by decide, by decide, hc0.1, hc0.2, by omega, by omega, fun hh => absurd rfl hh, fun _ => ⟨by omega, by omega, by rw [show ((bs.length : Int)).toNat = bs.length from by omega]; exact_mod_cast hml⟩⟩
      have hh := head_yes hok
      have eL : layH ws L lim 1 cl bs.length (maskP bs bs.length : Nat) = ((ws.length : Int), 0, ws ++ (headW 1 cl bs.length (maskP bs bs.length : Nat)).1 :: List.replicate ((bs.length : Int)).toNat 0, L ++ [(ws.length : Int)]) := by unfold layH; rw [if_neg (by omega), if_neg hroom, if_neg (by rw [hh]; simp)]
      have hwf := rlay_wf (kind := 1) (cl := cl) (n := bs.length) (mask := (maskP bs bs.length : Nat)) hW hlim (by rw [eL])
      rw [eL] at hwf
      refine k_skip ?_
      refine k_seq ?_
      refine k_region ?_
      refine m_int rfl rfl ?_
      refine m_int rfl rfl ?_
      refine o_nil ?_
      refine k_seq ?_
      refine k_seq ?_
      refine k_region ?_
      refine m_int rfl rfl ?_
      refine o_nil ?_
      refine k_block ?_
      refine k_loop (σ := Nat) (fun i => [(0, .pointer (some ⟨rb, 0, none⟩)), (1, .int .i64 cl), (2, .slice a bs.length c), (8, .int .i64 ((maskP bs i : Nat) : Int)), (9, .int .i64 ((2 ^ i : Nat) : Int)), (10, .int .i64 (i : Int))]) (fun i w' => i ≤ bs.length ∧ w' = w1) (fun i => bs.length - i) 0 ⟨rfl, rfl, rfl, rfl, rfl, rfl, trivial⟩ ⟨Nat.zero_le _, rfl⟩ (fun i e w2 hJ => ?_)
      obtain ⟨hi, hJ⟩ := hJ
      replace hJ := hJ.symm
      subst hJ
      refine k_seq ?_
      refine k_seq ?_
      refine k_region ?_
      refine m_int rfl rfl ?_
      refine m_sl rfl rfl ?_
      refine o_lens Tryd.underlying63 rfl ?_
      refine b_lss rfl rfl ?_
      refine o_nil ?_
      refine k_cond rfl (fun h => ?_) (fun h => ?_)
      rotate_left
      ·
        have hie : i = bs.length := by omega
        subst hie
        refine k_exit rfl ?_
        refine k_seq ?_
        refine k_region ?_
        refine m_int rfl rfl ?_
        refine m_sl rfl rfl ?_
        refine o_lens Tryd.underlying63 rfl ?_
        refine m_int rfl rfl ?_
        refine o_call rfl rfl (rhead_ok w1 1 cl bs.length (maskP bs bs.length : Nat) (by omega)) (fun v w2 hv => ?_)
        obtain ⟨rfl, rfl⟩ := hv
        refine m_any rfl rfl ?_
        refine o_extr rfl rfl ?_
        refine o_extr rfl rfl ?_
        refine m_int rfl rfl ?_
        refine m_int rfl rfl ?_
        refine o_nil ?_
        refine k_seq ?_
        refine k_region ?_
        refine m_ptr rfl rfl ?_
        refine m_int rfl rfl ?_
        refine m_sl rfl rfl ?_
        refine o_lens Tryd.underlying63 rfl ?_
        refine o_call rfl rfl (rlay_ok k w2 rb ws lim _ bs.length (hRP.new hC1) (fun b hb => hkw b (by have := hC1.size; omega)) (by omega) (by omega)) (fun v w3 hv => ?_)
        obtain ⟨rfl, hRP3, hK3⟩ := hv
        refine m_int rfl rfl ?_
        refine m_int rfl rfl ?_
        refine o_nil ?_
        refine k_ret (ret_tmps (ts := [6, 7]) (v := .tuple #[.int _ _, .int _ _]) rfl rfl ?_)
        rw [eO, eL]
        exact ⟨rfl, hRP3, hwf.1, hC1.h.tr hK3⟩
      have hin : i < bs.length := by omega
      have hx := bool_at bs i hin
      have hR1 := hR.new hC1
      obtain ⟨b1, o1, hae, hc1⟩ := hR1 _ _ hx
      subst hae
      have hmi := maskP_lt bs i
      have hpi : 2 ^ (i + 1) ≤ 2 ^ 32 := Nat.pow_le_pow_right (by decide) (by omega)
      have hpe : 2 ^ (i + 1) = 2 * 2 ^ i := by rw [Nat.pow_succ, Nat.mul_comm]
      refine k_skip ?_
      refine k_seq ?_
      refine k_block ?_
      refine k_seq ?_
      refine k_seq ?_
      refine k_region ?_
      refine m_sl rfl rfl ?_
      refine m_int rfl rfl ?_
      refine o_ixs1 (m := i) Tryd.underlying63 rfl rfl rfl hin ?_
      refine o_ld (v := .bool (bs[i])) rfl rfl hc1 ?_
      refine o_nil ?_
      refine k_cut (σ := Unit) (fun _ => [(0, .pointer (some ⟨rb, 0, none⟩)), (1, .int .i64 cl), (2, .slice (some ⟨b1, o1, none⟩) bs.length c), (8, .int .i64 ((maskP bs (i + 1) : Nat) : Int)), (9, .int .i64 ((2 ^ i : Nat) : Int)), (10, .int .i64 (i : Int))]) (fun _ w' => w' = w1) ?_ (fun s e w3 hJ => ?_)
      ·
        refine k_cond (p := bs[i] = true) (by show Value.bool (bs[i]) = _; cases bs[i] <;> rfl) (fun h => ?_) (fun h => ?_)
        ·
          refine k_region ?_
          refine m_int rfl rfl ?_
          refine m_int rfl rfl ?_
          refine n_add rfl rfl (by omega) ?_
          refine m_int rfl rfl ?_
          refine o_nil ?_
          refine k_goal ⟨(), ⟨rfl, rfl, rfl, congrArg (Value.int .i64) ?_, rfl, rfl, trivial⟩, rfl⟩
          show _ = ((maskP bs i + (if bs[i]? = some true then 2 ^ i else 0) : Nat) : Int)
          rw [if_pos (by rw [List.getElem?_eq_getElem hin, h])]; push_cast; rfl
        refine k_skip ?_
        refine k_goal ⟨(), ⟨rfl, rfl, rfl, congrArg (Value.int .i64) ?_, rfl, rfl, trivial⟩, rfl⟩
        show _ = ((maskP bs i + (if bs[i]? = some true then 2 ^ i else 0) : Nat) : Int)
        rw [if_neg (by rw [List.getElem?_eq_getElem hin]; simpa using h)]; rfl
      replace hJ := hJ.symm
      subst hJ
      refine k_region ?_
      refine m_int rfl rfl ?_
      refine n_mul rfl rfl (by omega) ?_
      refine m_int rfl rfl ?_
      refine o_nil ?_
      refine k_blk ?_
      refine k_region ?_
      refine m_int rfl rfl ?_
      refine n_add rfl rfl (by omega) ?_
      refine m_int rfl rfl ?_
      refine o_nil ?_
      refine k_goal ⟨i + 1, ⟨rfl, rfl, rfl, rfl, congrArg (Value.int .i64) (by rw [hpe]; push_cast; rfl), rfl, trivial⟩, ⟨by omega, rfl⟩, by omega⟩
end Go.Proofs.YtchbidckckmobaaDoor

/- Words; SameWords. No condition beyond what each contract names. -/
namespace Go.Proofs.YtchbidckckmobaaDoor
open Go.RowKit E
set_option linter.unusedVariables false
set_option linter.unusedSimpArgs false
set_option maxRecDepth 100000
attribute [local irreducible] ow qw kw kq cw opW Ret
theorem iv_one (xs : List Int) : ∀ u ∈ xs.map iv, u.oneCell' = true := by
  intro u hu
  obtain ⟨x, _, rfl⟩ := List.mem_map.1 hu
  rfl
theorem words_ok (k : Nat → Prop) (w : World) (hb : Nat) (ws : List Int) (lim : Int) (L : List Int) (h : HP k w hb ws lim L) (hl : ws.length ≤ 65537) :
    Ret Tryd.prog 40 [.pointer (some ⟨hb, 0, none⟩)] w (fun v w' => (∃ a2 c2, v = .slice a2 ws.length c2 ∧ Rd w' a2 (ws.map iv)) ∧ Keep [] w w') := by
  obtain ⟨a, c, r, m, hB, hS, hM, hg, hk⟩ := h
  refine fn_enter (n := 11) Tryd.func40 rfl rfl (Nat.le_of_ble_eq_true rfl) (fun e => ?_)
  refine k_seq ?_
  refine k_region ?_
  refine m_sl rfl rfl ?_
  refine o_nil ?_
  refine k_seq ?_
  refine k_seq ?_
  refine k_region ?_
  refine m_ptr rfl rfl ?_
  refine b_eqlp Tryd.underlying41 rfl rfl ?_
  refine o_nil ?_
  refine k_no rfl ((by intro h; cases h)) ?_
  refine k_skip ?_
  refine k_seq ?_
  refine k_region ?_
  refine o_bsl (E := 2) (cs := #[]) rfl (fun _ => by kernel_rfl) (fun g1 w1 hB1 hK1 hb1 hZ1 => ?_)
  refine m_ptr rfl rfl ?_
  refine o_nilc rfl ?_
  refine o_fld0 rfl rfl ?_
  refine o_ld (v := .slice a ws.length c) rfl rfl ((hB.keep hK1 (by simp)).at rfl) ?_
  refine o_app0 Tryd.underlying22 inf2 rfl (by decide) rfl rfl hB1 (hS.new hK1).rd (by simp) (iv_one _) (by simp [maxLen]; omega) (by omega) (fun a2 c2 w2 hS2 hK2 hf2 => ?_)
  refine m_sl rfl rfl ?_
  refine o_nil ?_
  refine k_ret (ret_tmps (ts := [2]) (v := .slice _ _ _) rfl rfl ?_)
  exact ⟨⟨a2, c2, rfl, hS2.rd⟩, hK1.tr hK2⟩
theorem samew_ok (w : World) (a1 a2 : Option Addr) (c1 c2 : Nat) (us vs : List Int) (hR1 : Rd w a1 (us.map iv)) (hR2 : Rd w a2 (vs.map iv)) (hu : us.length ≤ 9223372036854775807) (hv : vs.length ≤ 9223372036854775807) :
    Ret Tryd.prog 22 [.slice a1 us.length c1, .slice a2 vs.length c2] w (fun v w' => v = .bool (decide (us = vs)) ∧ Keep [] w w') := by
  refine fn_enter (n := 26) Tryd.func22 rfl rfl (Nat.le_of_ble_eq_true rfl) (fun e => ?_)
  refine k_seq ?_
  refine k_region ?_
  refine m_bool rfl rfl ?_
  refine o_nil ?_
  refine k_seq ?_
  refine k_seq ?_
  refine k_region ?_
  refine m_sl rfl rfl ?_
  refine o_lens Tryd.underlying22 rfl ?_
  refine m_sl rfl rfl ?_
  refine o_lens Tryd.underlying22 rfl ?_
  refine b_neq rfl rfl ?_
  refine o_nil ?_
  refine k_cond rfl (fun h => ?_) (fun h => ?_)
  ·
    refine k_seq ?_
    refine k_region ?_
    refine m_bool rfl rfl ?_
    refine o_nil ?_
    refine k_ret (ret_tmps (ts := [4]) (v := .bool _) rfl rfl ?_)
    exact ⟨congrArg Value.bool (decide_eq_false (fun hh => h (by rw [hh]))).symm, Keep.refl _ _⟩
  have hlen : us.length = vs.length := by omega
  refine k_skip ?_
  refine k_seq ?_
  refine k_seq ?_
  refine k_region ?_
  refine m_int rfl rfl ?_
  refine o_nil ?_
  refine k_block ?_
  refine k_loop (σ := Nat) (fun i => [(0, .slice a1 us.length c1), (1, .slice a2 vs.length c2), (5, .int .i64 (i : Int))]) (fun i w' => i ≤ us.length ∧ (∀ j, j < i → us[j]? = vs[j]?) ∧ Keep [] w w') (fun i => us.length - i) 0 ⟨rfl, rfl, rfl, trivial⟩ ⟨Nat.zero_le _, (fun j hj => by omega), Keep.refl _ _⟩ (fun i e w3 hJ => ?_)
  obtain ⟨hi, hpre, hK3⟩ := hJ
  refine k_seq ?_
  refine k_seq ?_
  refine k_region ?_
  refine m_int rfl rfl ?_
  refine m_sl rfl rfl ?_
  refine o_lens Tryd.underlying22 rfl ?_
  refine b_lss rfl rfl ?_
  refine o_nil ?_
  refine k_cond rfl (fun h => ?_) (fun h => ?_)
  rotate_left
  ·
    refine k_exit rfl ?_
    refine k_seq ?_
    refine k_region ?_
    refine m_bool rfl rfl ?_
    refine o_nil ?_
    refine k_ret (ret_tmps (ts := [4]) (v := .bool _) rfl rfl ?_)
    refine ⟨congrArg Value.bool (decide_eq_true ?_).symm, hK3⟩
    refine List.ext_getElem? fun j => ?_
    by_cases hj : j < us.length
    · exact hpre j (by omega)
    · rw [List.getElem?_eq_none (by omega), List.getElem?_eq_none (by omega)]
  have hin : i < us.length := by omega
  have hx := iv_at us i hin
  have hy := iv_at vs i (by omega)
  obtain ⟨b1, o1, hae, _⟩ := hR1 _ _ hx
  obtain ⟨b2, o2, hbe, _⟩ := hR2 _ _ hy
  subst hae hbe
  refine k_skip ?_
  refine k_seq ?_
  refine k_block ?_
  refine k_seq ?_
  refine k_qk 8 rfl rfl rfl rfl rfl ?_
  refine q_step (fun w1 hC => m_sl rfl rfl (o_nil ⟨rfl, hC⟩)) ?_
  refine q_step (fun w1 hC => m_int rfl rfl (o_nil ⟨rfl, hC⟩)) ?_
  refine q_step (fun w1 hC => o_ixs1 Tryd.underlying22 rfl rfl rfl hin (o_nil ⟨rfl, hC⟩)) ?_
  refine q_step (fun w1 hC => o_ld rfl rfl (hR1.cellK (hK3.tr hC) hx) (o_nil ⟨rfl, hC⟩)) ?_
  refine q_step (fun w1 hC => m_sl rfl rfl (o_nil ⟨rfl, hC⟩)) ?_
  refine q_step (fun w1 hC => m_int rfl rfl (o_nil ⟨rfl, hC⟩)) ?_
  refine q_step (fun w1 hC => o_ixs1 Tryd.underlying22 rfl rfl rfl (by omega) (o_nil ⟨rfl, hC⟩)) ?_
  refine q_step (fun w1 hC => o_ld rfl rfl (hR2.cellK (hK3.tr hC) hy) (o_nil ⟨rfl, hC⟩)) ?_
  refine q_nil ?_
  intro w4 hC4
  refine b_neq rfl rfl ?_
  refine o_nil ?_
  refine k_cond rfl (fun h => ?_) (fun h => ?_)
  ·
    refine k_seq ?_
    refine k_region ?_
    refine m_bool rfl rfl ?_
    refine o_nil ?_
    refine k_ret (ret_tmps (ts := [4]) (v := .bool _) rfl rfl ?_)
    refine ⟨congrArg Value.bool (decide_eq_false (fun hh => h ?_)).symm, hK3.tr hC4⟩
    subst hh
    rfl
  refine k_skip ?_
  refine k_blk ?_
  refine k_region ?_
  refine m_int rfl rfl ?_
  refine n_add rfl rfl (by omega) ?_
  refine m_int rfl rfl ?_
  refine o_nil ?_
  refine k_goal ⟨i + 1, ⟨rfl, rfl, rfl, trivial⟩, ⟨by omega, fun j hj => ?_, hK3.tr hC4⟩, by omega⟩
  by_cases hji : j = i
  · rw [hji, List.getElem?_eq_getElem hin, List.getElem?_eq_getElem (by omega)]
    exact congrArg some (Decidable.of_not_not h)
  · exact hpre j (by omega)
end Go.Proofs.YtchbidckckmobaaDoor

/- The reference's strings: Make, Units. No condition beyond what each contract names. -/
namespace Go.Proofs.YtchbidckckmobaaDoor
open Go.RowKit E
set_option linter.unusedVariables false
set_option linter.unusedSimpArgs false
set_option maxRecDepth 100000
attribute [local irreducible] ow qw kw kq cw opW Ret
theorem rmake_ok (k : Nat → Prop) (w : World) (rb : Nat) (ws : List Int) (lim : Int) (L : List Int) (cl : Int) (a : Option Addr) (c : Nat) (us : Us) (h' : RP k w rb ws lim) (hW : WFH ws L) (hlim : lim ≤ 65536) (hl0 : 0 ≤ lim) (hu : (ws.length : Int) ≤ lim + 1) (hkw : ∀ b, w.heap.size ≤ b → k b)
    (hus : us.length ≤ 9223372036854775807) (hab : ∀ w', KeepH k w w' → Rd w' a (us.map u16v)) :
    Ret Tryd.prog 53 [.pointer (some ⟨rb, 0, none⟩), .int .i64 cl, .slice a us.length c] w (fun v w' => v = .tuple #[.int .i64 (makeN ws L lim cl us).1, .int .i64 (makeN ws L lim cl us).2.1] ∧ RRes k w rb lim w' (makeN ws L lim cl us).2.2.1 (makeN ws L lim cl us).2.2.2) := by
  refine fn_enter (n := 38) Tryd.func53 rfl rfl (Nat.le_of_ble_eq_true rfl) (fun e => ?_)
  refine k_seq ?_
  refine k_region ?_
  refine m_int rfl rfl ?_
  refine m_int rfl rfl ?_
  refine o_nil ?_
  refine k_seq ?_
  refine k_region ?_
  refine m_ptr rfl rfl ?_
  refine m_int rfl rfl ?_
  refine m_sl rfl rfl ?_
  refine o_lens Tryd.underlying77 rfl ?_
  refine o_call rfl rfl (rarray_ok k w rb ws lim L cl (us.length : Int) false h' hW hlim hl0 hu hkw (by omega)) (fun v w1 hv => ?_)
  obtain ⟨rfl, hr⟩ := hv
  rw [show (if false = true then (3 : Int) else 2) = 2 from rfl] at hr ⊢
  have hlc := lay_cases ws L lim 2 cl us.length 0
  refine m_any rfl rfl ?_
  refine o_extr rfl rfl ?_
  refine o_extr rfl rfl ?_
  refine m_int rfl rfl ?_
  refine m_int rfl rfl ?_
  refine o_nil ?_
  refine k_seq ?_
  refine k_seq ?_
  refine k_region ?_
  refine m_int rfl rfl ?_
  refine b_neq rfl rfl ?_
  refine o_nil ?_
  refine k_cond rfl (fun h => ?_) (fun h => ?_)
  ·
    refine k_seq ?_
    refine k_region ?_
    refine m_int rfl rfl ?_
    refine m_int rfl rfl ?_
    refine m_int rfl rfl ?_
    refine o_nil ?_
    refine k_ret (ret_tmps (ts := [6, 7]) (v := .tuple #[.int _ _, .int _ _]) rfl rfl ?_)
    have hne : (layH ws L lim 2 cl us.length 0).2.1 ≠ 0 := h
    have hmk : makeN ws L lim cl us = (0, (layH ws L lim 2 cl us.length 0).2.1, ws, L) := if_pos hne
    rcases hlc with ⟨_, _, h3, h4⟩ | ⟨h1, _⟩
    · rw [h3, h4] at hr; rw [hmk]; exact ⟨rfl, hr⟩
    · rw [h1] at hne; exact absurd rfl hne
  have he0 : (layH ws L lim 2 cl us.length 0).2.1 = 0 := Decidable.of_not_not h
  obtain ⟨hlay, hh0, _, hfit⟩ := hlc.resolve_left (fun hh => hh.1 he0)
  have hmk : makeN ws L lim cl us = ((ws.length : Int), 0, ws ++ (headW 2 cl us.length 0).1 :: us.map ui, L ++ [(ws.length : Int)]) := if_neg (by simpa using he0)
  obtain ⟨hd, hhd⟩ : ∃ hd, (headW 2 cl us.length 0).1 = hd := ⟨_, rfl⟩
  have hoh := head_open 2 cl us.length 0 hh0
  rw [hhd] at hmk hlay hoh
  rw [hlay] at hr ⊢
  have hp := hW.pos
  refine k_skip ?_
  refine k_seq ?_
  refine k_seq ?_
  refine k_region ?_
  refine m_int rfl rfl ?_
  refine o_nil ?_
  refine k_block ?_
  refine k_loop (σ := Nat) (fun i => [(0, .pointer (some ⟨rb, 0, none⟩)), (2, .slice a us.length c), (8, .int .i64 (ws.length : Int)), (10, .int .i64 (i : Int))]) (fun i w' => i ≤ us.length ∧ RRes k w rb lim w' (wsU ws hd us i) (L ++ [(ws.length : Int)])) (fun i => us.length - i) 0 ⟨rfl, rfl, rfl, rfl, trivial⟩ ⟨Nat.zero_le _, by simpa [wsU] using hr⟩ (fun i e w2 hJ => ?_)
  obtain ⟨hi, hHP, hWF, hKH⟩ := hJ
  refine k_seq ?_
  refine k_seq ?_
  refine k_region ?_
  refine m_int rfl rfl ?_
  refine m_sl rfl rfl ?_
  refine o_lens Tryd.underlying77 rfl ?_
  refine b_lss rfl rfl ?_
  refine o_nil ?_
  refine k_cond rfl (fun h => ?_) (fun h => ?_)
  rotate_left
  ·
    have hie : i = us.length := by omega
    subst hie
    refine k_exit rfl ?_
    refine k_seq ?_
    refine k_region ?_
    refine m_int rfl rfl ?_
    refine m_int rfl rfl ?_
    refine m_int rfl rfl ?_
    refine o_nil ?_
    refine k_ret (ret_tmps (ts := [6, 7]) (v := .tuple #[.int _ _, .int _ _]) rfl rfl ?_)
    rw [hmk]
    refine ⟨rfl, ?_⟩
    have e : wsU ws hd us us.length = ws ++ hd :: us.map ui := by simp [wsU]
    rw [e] at hHP hWF
    exact ⟨hHP, hWF, hKH⟩
  have hin : i < us.length := by omega
  have hx := u16_at us i hin
  have hRA := hab _ hKH
  obtain ⟨b1, o1, hae, hc1⟩ := hRA _ _ hx
  subst hae
  have hlk : lookH (wsU ws hd us i) (L ++ [(ws.length : Int)]) (ws.length : Int) = (2, cl, (us.length : Int), 0) := by
   rw [look_in (by simp)]
   rw [show ((ws.length : Int)).toNat = ws.length from rfl, wsU_head, hoh]
  have hce : cellH (wsU ws hd us i) (L ++ [(ws.length : Int)]) (ws.length : Int) (i : Int) = ((ws.length : Int) + 1 + (i : Int), false, 0) := by
   unfold cellH
   rw [hlk, if_neg (by simp), if_neg (by simp only; omega), show ((ws.length : Int)).toNat = ws.length from rfl, wsU_head, hoh]
   rfl
  have hse : setH (wsU ws hd us i) (L ++ [(ws.length : Int)]) (ws.length : Int) (i : Int) (ui (us[i])) = (0, wsU ws hd us (i + 1)) := by
   unfold setH
   rw [hce, if_neg (by simp), if_neg (by simp)]
   rw [show ((ws.length : Int) + 1 + (i : Int)).toNat = ws.length + 1 + i by omega, wsU_set ws hd us i hin]
  have hul := (us[i]).isLt
  refine k_skip ?_
  refine k_seq ?_
  refine k_block ?_
  refine k_region ?_
  refine m_ptr rfl rfl ?_
  refine m_int rfl rfl ?_
  refine m_int rfl rfl ?_
  refine m_sl rfl rfl ?_
  refine m_int rfl rfl ?_
  refine o_ixs1 Tryd.underlying77 rfl rfl rfl hin ?_
  refine o_ld (v := .int .u16 ((us[i]).toNat : Int)) rfl rfl hc1 ?_
  refine cv16_i rfl Tryd.underlying2 rfl ?_
  refine o_call rfl rfl (rset_ok k w2 rb (wsU ws hd us i) lim (L ++ [(ws.length : Int)]) (ws.length : Int) (i : Int) (ui (us[i])) hHP hWF (by unfold ui; omega)) (fun v w3 hv => ?_)
  obtain ⟨rfl, hr3⟩ := hv
  rw [hse] at hr3
  obtain ⟨hHP3, hWF3, hKH3⟩ := hr3
  refine o_nil ?_
  refine k_blk ?_
  refine k_region ?_
  refine m_int rfl rfl ?_
  refine n_add rfl rfl (by omega) ?_
  refine m_int rfl rfl ?_
  refine o_nil ?_
  refine k_goal ⟨i + 1, ⟨rfl, rfl, rfl, rfl, trivial⟩, ⟨by omega, hHP3, hWF3, hKH.tr hKH3⟩, by omega⟩
end Go.Proofs.YtchbidckckmobaaDoor

/- The reference's strings: Units, CharAt, Equal. No condition beyond what each contract names. -/
namespace Go.Proofs.YtchbidckckmobaaDoor
open Go.RowKit E
set_option linter.unusedVariables false
set_option linter.unusedSimpArgs false
set_option maxRecDepth 100000
attribute [local irreducible] ow qw kw kq cw opW Ret
theorem tm16 (x : Int) : (-65536 < x.tmod 65536 ∧ x.tmod 65536 < 65536) ∧ BitVec.ofInt 16 ((x.tmod 65536 + 65536).tmod 65536) = BitVec.ofInt 16 x := by
  have h1 : (x.tmod 65536).natAbs = x.natAbs % 65536 := by rw [Int.natAbs_tmod]; rfl
  have h2 := Int.mul_tdiv_add_tmod x 65536
  have h3 : -65536 < x.tmod 65536 ∧ x.tmod 65536 < 65536 := by omega
  refine ⟨h3, ?_⟩
  rw [Int.tmod_eq_emod_of_nonneg (by omega)]
  apply BitVec.eq_of_toNat_eq
  rw [BitVec.toNat_ofInt, BitVec.toNat_ofInt]
  congr 1
  omega
def unR (ws : List Int) (q i : Nat) : Us := (List.range i).map fun j => BitVec.ofInt 16 (ws.getD (q + 1 + j) 0)
theorem unR_succ (ws : List Int) (q i : Nat) : (unR ws q (i + 1)).map u16v = (unR ws q i).map u16v ++ [u16v (BitVec.ofInt 16 (ws.getD (q + 1 + i) 0))] := by
  unfold unR; rw [List.range_succ]; simp
theorem unR_len (ws : List Int) (q i : Nat) : (unR ws q i).length = i := by simp [unR]
theorem runits_ok (k : Nat → Prop) (w : World) (rb : Nat) (ws : List Int) (lim : Int) (L : List Int) (p : Int) (hRP : RP k w rb ws lim) (hW : WFH ws L) :
    Ret Tryd.prog 60 [.pointer (some ⟨rb, 0, none⟩), .int .i64 p] w (fun v w' => (∃ a2 c2, v = .tuple #[.slice a2 (unitsN ws L p).1.length c2, .int .i64 (unitsN ws L p).2] ∧ Sl w' 47 1 a2 (unitsN ws L p).1.length c2 ((unitsN ws L p).1.map u16v) ∧ ∀ z, a2 = some z → w.heap.size ≤ z.block) ∧ Keep [] w w') := by
  refine fn_enter (n := 48) Tryd.func60 rfl rfl (Nat.le_of_ble_eq_true rfl) (fun e => ?_)
  refine k_seq ?_
  refine k_region ?_
  refine m_sl rfl rfl ?_
  refine m_int rfl rfl ?_
  refine o_nil ?_
  refine k_seq ?_
  refine k_region ?_
  refine m_ptr rfl rfl ?_
  refine m_int rfl rfl ?_
  refine o_call rfl rfl (rlook_ok k w rb ws lim L p hRP hW) (fun v w1 hv => ?_)
  obtain ⟨rfl, rfl⟩ := hv
  refine m_any rfl rfl ?_
  refine o_extr rfl rfl ?_
  refine o_extr rfl rfl ?_
  refine o_extr rfl rfl ?_
  refine o_extr rfl rfl ?_
  refine m_int rfl rfl ?_
  refine m_int rfl rfl ?_
  refine m_int rfl rfl ?_
  refine m_int rfl rfl ?_
  refine o_nil ?_
  refine k_seq ?_
  refine k_seq ?_
  refine k_region ?_
  refine m_int rfl rfl ?_
  refine b_neq rfl rfl ?_
  refine o_nil ?_
  refine k_cond rfl (fun h => ?_) (fun h => ?_)
  ·
    refine k_seq ?_
    refine k_region ?_
    refine m_int rfl rfl ?_
    refine m_sl rfl rfl ?_
    refine m_int rfl rfl ?_
    refine o_nil ?_
    refine k_ret (ret_tmps (ts := [4, 5]) (v := .tuple #[.slice _ _ _, .int _ _]) rfl rfl ?_)
    have e : unitsN ws L p = ([], (lookH ws L p).2.2.2) := if_pos h
    rw [e]; exact ⟨⟨none, 0, rfl, Sl.nil _ _ _, by simp⟩, Keep.refl _ _⟩
  have h0 := Decidable.of_not_not h
  refine k_skip ?_
  refine k_seq ?_
  refine k_seq ?_
  refine k_region ?_
  refine m_int rfl rfl ?_
  refine b_neq rfl rfl ?_
  refine o_nil ?_
  refine k_cond rfl (fun h => ?_) (fun h => ?_)
  ·
    refine k_seq ?_
    refine k_region ?_
    refine m_sl rfl rfl ?_
    refine m_int rfl rfl ?_
    refine o_nil ?_
    refine k_ret (ret_tmps (ts := [4, 5]) (v := .tuple #[.slice _ _ _, .int _ _]) rfl rfl ?_)
    have e : unitsN ws L p = ([], 1) := by unfold unitsN; rw [if_neg (by simpa using h0), if_pos h]
    rw [e]; exact ⟨⟨none, 0, rfl, Sl.nil _ _ _, by simp⟩, Keep.refl _ _⟩
  have hk2 := Decidable.of_not_not h
  obtain ⟨q, hq, hpq, hqL, hq0, hlk, hn0, hnq⟩ := look_n hW h0
  subst hpq
  obtain ⟨n, hn⟩ : ∃ n : Nat, (openW (ws[q])).2.2.1 = (n : Int) := ⟨(openW (ws[q])).2.2.1.toNat, by omega⟩
  have hlen := hW.len
  have hlk2 : (lookH ws L q).2.2.1 = (n : Int) := by rw [hlk]; exact hn
  have eU : unitsN ws L (q : Int) = (unR ws q n, 0) := by
   unfold unitsN
   rw [if_neg (by simpa using h0), if_neg (by simpa using hk2), hlk2]
   rfl
  rw [hlk2]
  refine k_skip ?_
  refine k_seq ?_
  refine k_region ?_
  refine m_sl rfl rfl ?_
  refine o_nil ?_
  refine k_seq ?_
  refine k_seq ?_
  refine k_region ?_
  refine m_int rfl rfl ?_
  refine o_nil ?_
  refine k_block ?_
  refine k_loop (σ := Nat × Option Addr × Nat) (fun s => [(0, .pointer (some ⟨rb, 0, none⟩)), (1, .int .i64 (q : Int)), (8, .int .i64 (n : Int)), (10, .slice s.2.1 s.1 s.2.2), (11, .int .i64 (s.1 : Int))]) (fun s w' => s.1 ≤ n ∧ Sl w' 47 1 s.2.1 s.1 s.2.2 ((unR ws q s.1).map u16v) ∧ (∀ z, s.2.1 = some z → w1.heap.size ≤ z.block) ∧ Keep [] w1 w') (fun s => n - s.1) (0, none, 0) ⟨rfl, rfl, rfl, rfl, rfl, trivial⟩ ⟨Nat.zero_le _, Sl.nil _ _ _, by simp, Keep.refl _ _⟩ (fun s e w3 hJ => ?_)
  obtain ⟨i, a3, c3⟩ := s
  obtain ⟨hi, hS3, hf3, hK3⟩ := hJ
  dsimp only at hi hS3 hf3 ⊢
  refine k_seq ?_
  refine k_seq ?_
  refine k_region ?_
  refine m_int rfl rfl ?_
  refine m_int rfl rfl ?_
  refine b_lss rfl rfl ?_
  refine o_nil ?_
  refine k_cond rfl (fun h => ?_) (fun h => ?_)
  rotate_left
  ·
    have hie : i = n := by omega
    subst hie
    refine k_exit rfl ?_
    refine k_seq ?_
    refine k_region ?_
    refine m_sl rfl rfl ?_
    refine m_sl rfl rfl ?_
    refine m_int rfl rfl ?_
    refine o_nil ?_
    refine k_ret (ret_tmps (ts := [4, 5]) (v := .tuple #[.slice _ _ _, .int _ _]) rfl rfl ?_)
    rw [eU, unR_len]
    exact ⟨⟨a3, c3, rfl, hS3, hf3⟩, hK3⟩
  have hin : i < n := by omega
  have hge := get_at hW hq hqL hlk i (by rw [hn]; omega)
  refine k_skip ?_
  refine k_seq ?_
  refine k_block ?_
  refine k_seq ?_
  refine k_region ?_
  refine m_ptr rfl rfl ?_
  refine m_int rfl rfl ?_
  refine m_int rfl rfl ?_
  refine o_call rfl rfl (rget_ok k w3 rb ws lim L (q : Int) (i : Int) (hRP.new hK3) hW) (fun v w4 hv => ?_)
  obtain ⟨rfl, rfl⟩ := hv
  rw [hge]
  obtain ⟨x, hx⟩ : ∃ x, ws.getD (q + 1 + i) 0 = x := ⟨_, rfl⟩
  obtain ⟨htb, hte⟩ := tm16 x
  rw [hx]
  dsimp only
  refine m_any rfl rfl ?_
  refine o_extr rfl rfl ?_
  refine o_extr rfl rfl ?_
  refine m_int rfl rfl ?_
  refine m_int rfl rfl ?_
  refine o_nil ?_
  refine k_region ?_
  refine m_sl rfl rfl ?_
  refine m_int rfl rfl ?_
  refine b_rem rfl rfl (by decide) ?_
  refine n_add rfl rfl (by omega) ?_
  refine b_rem rfl rfl (by decide) ?_
  refine cv16 rfl Tryd.underlying47 rfl ?_
  refine o_bsl (E := 47) (cs := #[u16v (BitVec.ofInt 16 ((x.tmod 65536 + 65536).tmod 65536))]) rfl (fun _ => by kernel_rfl) (fun g5 w5 hB5 hK5 hb5 hZ5 => ?_)
  rw [hte, ← hx] at hB5
  refine o_app Tryd.underlying77 inf47 rfl (by decide) rfl rfl (hS3.new hK5) hB5.rd rfl (by simp [u16v, Value.oneCell']) (by simp [maxLen]; omega) (by omega) (fun a6 c6 w6 hS6 hK6 hv6 => ?_)
  have hS6' : Sl w6 47 1 a6 (i + 1) c6 ((unR ws q (i + 1)).map u16v) := by rw [unR_succ]; exact hS6
  have hK36 : Keep [] w1 w6 := (hK3.tr hK5).trb hK6 hf3
  have hf6 : ∀ z, a6 = some z → w1.heap.size ≤ z.block := own_app (k := fun b => w1.heap.size ≤ b) hf3 (fun b hb => by have := (hK3.tr hK5).size; show w1.heap.size ≤ b; omega) hv6
  refine m_sl rfl rfl ?_
  refine o_nil ?_
  refine k_blk ?_
  refine k_region ?_
  refine m_int rfl rfl ?_
  refine n_add rfl rfl (by omega) ?_
  refine m_int rfl rfl ?_
  refine o_nil ?_
  refine k_goal ⟨(i + 1, a6, c6), ⟨rfl, rfl, rfl, rfl, rfl, trivial⟩, ⟨by dsimp only; omega, hS6', hf6, hK36⟩, by dsimp only; omega⟩
end Go.Proofs.YtchbidckckmobaaDoor

/- The reference's strings: CharAt, Equal, Concat. No condition beyond what each contract names. -/
namespace Go.Proofs.YtchbidckckmobaaDoor
open Go.RowKit E
set_option linter.unusedVariables false
set_option linter.unusedSimpArgs false
set_option maxRecDepth 100000
attribute [local irreducible] ow qw kw kq cw opW Ret
theorem char_err {ws L : List Int} {p i : Int} (h : (unitsN ws L p).2 ≠ 0) : charN ws L p i = (0, (unitsN ws L p).2) := by
  unfold unitsN at h ⊢
  unfold charN
  by_cases h1 : (lookH ws L p).2.2.2 ≠ 0
  · rw [if_pos h1, if_pos h1]
  · rw [if_neg h1] at h ⊢
    rw [if_neg h1]
    by_cases h2 : (lookH ws L p).1 ≠ 2
    · rw [if_pos h2, if_pos (.inl h2)]
    · rw [if_neg h2] at h; exact absurd rfl h
theorem units_in {ws L : List Int} {p : Int} (h : ¬ (unitsN ws L p).2 ≠ 0) : ¬ (lookH ws L p).2.2.2 ≠ 0 ∧ ¬ (lookH ws L p).1 ≠ 2 ∧ unitsN ws L p = ((List.range (lookH ws L p).2.2.1.toNat).map (fun i => BitVec.ofInt 16 (ws.getD (p.toNat + 1 + i) 0)), 0) := by
  unfold unitsN at h ⊢
  by_cases h1 : (lookH ws L p).2.2.2 ≠ 0
  · rw [if_pos h1] at h; exact absurd h1 h
  · rw [if_neg h1] at h ⊢
    by_cases h2 : (lookH ws L p).1 ≠ 2
    · rw [if_pos h2] at h; exact absurd (by decide) h
    · exact ⟨h1, h2, if_neg h2⟩
theorem char_out {ws L : List Int} {p i : Int} (hW : WFH ws L) (h : ¬ (unitsN ws L p).2 ≠ 0) (hi : i < 0 ∨ ((unitsN ws L p).1.length : Int) ≤ i) : charN ws L p i = (0, 1) := by
  obtain ⟨h1, h2, e⟩ := units_in h
  have hr := look_rng hW p
  have hl : ((unitsN ws L p).1.length : Int) = (lookH ws L p).2.2.1 := by rw [e]; simp; omega
  unfold charN
  rw [if_neg h1, if_pos (by omega)]
theorem char_in {ws L : List Int} {p : Int} {i : Nat} (hW : WFH ws L) (h : ¬ (unitsN ws L p).2 ≠ 0) (hi : i < (unitsN ws L p).1.length) : charN ws L p (i : Int) = (ui ((unitsN ws L p).1[i]), 0) := by
  obtain ⟨h1, h2, e⟩ := units_in h
  have hr := look_rng hW p
  have hl : ((unitsN ws L p).1.length : Int) = (lookH ws L p).2.2.1 := by rw [e]; simp; omega
  unfold charN
  rw [if_neg h1, if_neg (by omega)]
  have : (unitsN ws L p).1[i] = BitVec.ofInt 16 (ws.getD (p.toNat + 1 + i) 0) := by simp only [e]; simp
  rw [this, show ((i : Int)).toNat = i from by omega]
theorem rchar_ok (k : Nat → Prop) (w : World) (rb : Nat) (ws : List Int) (lim : Int) (L : List Int) (p i : Int) (hRP : RP k w rb ws lim) (hW : WFH ws L) :
    Ret Tryd.prog 56 [.pointer (some ⟨rb, 0, none⟩), .int .i64 p, .int .i64 i] w (fun v w' => v = .tuple #[.int .i64 (charN ws L p i).1, .int .i64 (charN ws L p i).2] ∧ Keep [] w w') := by
  refine fn_enter (n := 32) Tryd.func56 rfl rfl (Nat.le_of_ble_eq_true rfl) (fun e => ?_)
  refine k_seq ?_
  refine k_region ?_
  refine m_int rfl rfl ?_
  refine m_int rfl rfl ?_
  refine o_nil ?_
  refine k_seq ?_
  refine k_region ?_
  refine m_ptr rfl rfl ?_
  refine m_int rfl rfl ?_
  refine o_call rfl rfl (runits_ok k w rb ws lim L p hRP hW) (fun v w1 hv => ?_)
  obtain ⟨⟨a1, c1, rfl, hS1, hf1⟩, hK1⟩ := hv
  refine m_any rfl rfl ?_
  refine o_extr rfl rfl ?_
  refine o_extr rfl rfl ?_
  refine m_sl rfl rfl ?_
  refine m_int rfl rfl ?_
  refine o_nil ?_
  refine k_seq ?_
  refine k_seq ?_
  refine k_region ?_
  refine m_int rfl rfl ?_
  refine b_neq rfl rfl ?_
  refine o_nil ?_
  refine k_cond rfl (fun h => ?_) (fun h => ?_)
  ·
    refine k_seq ?_
    refine k_region ?_
    refine m_int rfl rfl ?_
    refine m_int rfl rfl ?_
    refine m_int rfl rfl ?_
    refine o_nil ?_
    refine k_ret (ret_tmps (ts := [6, 7]) (v := .tuple #[.int _ _, .int _ _]) rfl rfl ?_)
    rw [char_err h]; exact ⟨rfl, hK1⟩
  have h17 := h
  refine k_skip ?_
  refine k_seq ?_
  refine k_seq ?_
  refine k_region ?_
  refine m_int rfl rfl ?_
  refine b_lss rfl rfl ?_
  refine m_bool rfl rfl ?_
  refine o_split (t := 21) rfl (fun h => ?_) (fun h => ?_)
  ·
    refine g_no rfl rfl rfl ?_
    refine g_no rfl rfl rfl ?_
    refine g_no rfl rfl rfl ?_
    refine g_no rfl rfl rfl ?_
    refine pick_t rfl rfl ?_
    refine o_nil ?_
    refine k_condt rfl ?_
    refine k_seq ?_
    refine k_region ?_
    refine m_int rfl rfl ?_
    refine m_int rfl rfl ?_
    refine o_nil ?_
    refine k_ret (ret_tmps (ts := [6, 7]) (v := .tuple #[.int _ _, .int _ _]) rfl rfl ?_)
    rw [char_out hW h17 (.inl h)]; exact ⟨rfl, hK1⟩
  ·
    refine g_yes rfl rfl ?_
    refine m_int rfl rfl ?_
    refine g_yes rfl rfl ?_
    refine m_sl rfl rfl ?_
    refine g_yes rfl rfl ?_
    refine o_lens Tryd.underlying77 rfl ?_
    refine g_yes rfl rfl ?_
    refine b_geq rfl rfl ?_
    refine pick_f rfl rfl ?_
    refine o_nil ?_
    refine k_cond rfl (fun h => ?_) (fun h => ?_)
    ·
      refine k_seq ?_
      refine k_region ?_
      refine m_int rfl rfl ?_
      refine m_int rfl rfl ?_
      refine o_nil ?_
      refine k_ret (ret_tmps (ts := [6, 7]) (v := .tuple #[.int _ _, .int _ _]) rfl rfl ?_)
      rw [char_out hW h17 (.inr h)]; exact ⟨rfl, hK1⟩
    obtain ⟨j, rfl⟩ : ∃ j : Nat, i = j := ⟨i.toNat, by omega⟩
    have hj : j < (unitsN ws L p).1.length := by omega
    have hx := u16_at (unitsN ws L p).1 j hj
    have hR1 := hS1.rd
    obtain ⟨b1, o1, hae, hc1⟩ := hR1 _ _ hx
    subst hae
    refine k_skip ?_
    refine k_seq ?_
    refine k_region ?_
    refine m_sl rfl rfl ?_
    refine m_int rfl rfl ?_
    refine o_ixs1 (m := j) Tryd.underlying77 rfl rfl rfl hj ?_
    refine o_ld rfl rfl hc1 ?_
    refine cv16_i rfl Tryd.underlying2 rfl ?_
    refine m_int rfl rfl ?_
    refine m_int rfl rfl ?_
    refine o_nil ?_
    refine k_ret (ret_tmps (ts := [6, 7]) (v := .tuple #[.int _ _, .int _ _]) rfl rfl ?_)
    rw [char_in hW h17 hj]; exact ⟨rfl, hK1⟩
theorem rconc_ok (k : Nat → Prop) (w : World) (rb : Nat) (ws : List Int) (lim : Int) (L : List Int) (cl p q : Int) (hRP : RP k w rb ws lim) (hW : WFH ws L) (hlim : lim ≤ 65536) (hl0 : 0 ≤ lim) (hu : (ws.length : Int) ≤ lim + 1) (hkw : ∀ b, w.heap.size ≤ b → k b) :
    Ret Tryd.prog 54 [.pointer (some ⟨rb, 0, none⟩), .int .i64 cl, .int .i64 p, .int .i64 q] w (fun v w' => v = .tuple #[.int .i64 (concN ws L lim cl p q).1, .int .i64 (concN ws L lim cl p q).2.1] ∧ RRes k w rb lim w' (concN ws L lim cl p q).2.2.1 (concN ws L lim cl p q).2.2.2) := by
  have hl1 := units_len hW p
  have hl2 := units_len hW q
  refine fn_enter (n := 41) Tryd.func54 rfl rfl (Nat.le_of_ble_eq_true rfl) (fun e => ?_)
  refine k_seq ?_
  refine k_region ?_
  refine m_int rfl rfl ?_
  refine m_int rfl rfl ?_
  refine o_nil ?_
  refine k_seq ?_
  refine k_region ?_
  refine m_ptr rfl rfl ?_
  refine m_int rfl rfl ?_
  refine o_call rfl rfl (runits_ok k w rb ws lim L p hRP hW) (fun v w1 hv => ?_)
  obtain ⟨⟨a1, c1, rfl, hS1, hf1⟩, hK1⟩ := hv
  refine m_any rfl rfl ?_
  refine o_extr rfl rfl ?_
  refine o_extr rfl rfl ?_
  refine m_sl rfl rfl ?_
  refine m_int rfl rfl ?_
  refine o_nil ?_
  refine k_seq ?_
  refine k_seq ?_
  refine k_region ?_
  refine m_int rfl rfl ?_
  refine b_neq rfl rfl ?_
  refine o_nil ?_
  refine k_cond rfl (fun h => ?_) (fun h => ?_)
  ·
    refine k_seq ?_
    refine k_region ?_
    refine m_int rfl rfl ?_
    refine m_int rfl rfl ?_
    refine m_int rfl rfl ?_
    refine o_nil ?_
    refine k_ret (ret_tmps (ts := [8, 9]) (v := .tuple #[.int _ _, .int _ _]) rfl rfl ?_)
    have e : concN ws L lim cl p q = (0, (unitsN ws L p).2, ws, L) := if_pos h
    rw [e]; exact ⟨rfl, hRP.new hK1, hW, hK1.h⟩
  have h1 := Decidable.of_not_not h
  refine k_skip ?_
  refine k_seq ?_
  refine k_region ?_
  refine m_ptr rfl rfl ?_
  refine m_int rfl rfl ?_
  refine o_call rfl rfl (runits_ok k w1 rb ws lim L q (hRP.new hK1) hW) (fun v w2 hv => ?_)
  obtain ⟨⟨a2, c2, rfl, hS2, hf2⟩, hK2⟩ := hv
  have hK02 := hK1.tr hK2
  refine m_any rfl rfl ?_
  refine o_extr rfl rfl ?_
  refine o_extr rfl rfl ?_
  refine m_sl rfl rfl ?_
  refine m_int rfl rfl ?_
  refine o_nil ?_
  refine k_seq ?_
  refine k_seq ?_
  refine k_region ?_
  refine m_int rfl rfl ?_
  refine b_neq rfl rfl ?_
  refine o_nil ?_
  refine k_cond rfl (fun h => ?_) (fun h => ?_)
  ·
    refine k_seq ?_
    refine k_region ?_
    refine m_int rfl rfl ?_
    refine m_int rfl rfl ?_
    refine m_int rfl rfl ?_
    refine o_nil ?_
    refine k_ret (ret_tmps (ts := [8, 9]) (v := .tuple #[.int _ _, .int _ _]) rfl rfl ?_)
    have e : concN ws L lim cl p q = (0, (unitsN ws L q).2, ws, L) := by unfold concN; rw [if_neg (by simpa using h1), if_pos h]
    rw [e]; exact ⟨rfl, hRP.new hK02, hW, hK02.h⟩
  have e : concN ws L lim cl p q = makeN ws L lim cl ((unitsN ws L p).1 ++ (unitsN ws L q).1) := by unfold concN; rw [if_neg (by simpa using h1), if_neg h]
  refine k_skip ?_
  refine k_seq ?_
  refine k_region ?_
  refine m_ptr rfl rfl ?_
  refine m_int rfl rfl ?_
  refine o_bsl (E := 47) (cs := #[]) rfl (fun _ => by kernel_rfl) (fun g3 w3 hB3 hK3 hb3 hZ3 => ?_)
  refine m_sl rfl rfl ?_
  refine o_app0 Tryd.underlying77 inf47 rfl (by decide) rfl rfl hB3 ((hS1.new hK2).new hK3).rd (by simp) (u16_one _) (by simp [maxLen]; omega) (by omega) (fun a4 c4 w4 hS4 hK4 hf4 => ?_)
  have hK34 := hK3.tr hK4
  refine m_sl rfl rfl ?_
  refine o_app Tryd.underlying77 inf47 rfl (by decide) rfl rfl hS4 (hS2.new hK34).rd (by simp) (u16_one _) (by simp [maxLen]; omega) (by omega) (fun a5 c5 w5 hS5 hK5 hv5 => ?_)
  have hK25 : Keep [] w2 w5 := hK34.trb hK5 (fun z hz => by have := hf4 z hz; have := hK3.size; omega)
  have hK05 := hK02.tr hK25
  rw [← List.map_append] at hS5
  have hll : (unitsN ws L p).1.length + (unitsN ws L q).1.length = ((unitsN ws L p).1 ++ (unitsN ws L q).1).length := by simp
  rw [hll] at hS5 ⊢
  refine o_call rfl rfl (rmake_ok k w5 rb ws lim L cl a5 c5 _ (hRP.new hK05) hW hlim hl0 hu (fun b hb => hkw b (by have := hK05.size; omega)) (by rw [← hll]; omega) (fun w' hk' => (hS5.kh hk' (by decide)).rd)) (fun v w6 hv => ?_)
  obtain ⟨rfl, hH6, hW6, hK6⟩ := hv
  refine o_extr rfl rfl ?_
  refine o_extr rfl rfl ?_
  refine m_int rfl rfl ?_
  refine m_int rfl rfl ?_
  refine o_nil ?_
  refine k_ret (ret_tmps (ts := [8, 9]) (v := .tuple #[.int _ _, .int _ _]) rfl rfl ?_)
  rw [e]; exact ⟨rfl, hH6, hW6, hK05.h.tr hK6⟩
end Go.Proofs.YtchbidckckmobaaDoor

/- The reference's strings: Equal. No condition beyond what each contract names. -/
namespace Go.Proofs.YtchbidckckmobaaDoor
open Go.RowKit E
set_option linter.unusedVariables false
set_option linter.unusedSimpArgs false
set_option maxRecDepth 100000
attribute [local irreducible] ow qw kw kq cw opW Ret
theorem requ_ok (k : Nat → Prop) (w : World) (rb : Nat) (ws : List Int) (lim : Int) (L : List Int) (p q : Int) (hRP : RP k w rb ws lim) (hW : WFH ws L) :
    Ret Tryd.prog 55 [.pointer (some ⟨rb, 0, none⟩), .int .i64 p, .int .i64 q] w (fun v w' => v = .bool (equN ws L p q) ∧ Keep [] w w') := by
  have hl1 := units_len hW p
  have hl2 := units_len hW q
  refine fn_enter (n := 52) Tryd.func55 rfl rfl (Nat.le_of_ble_eq_true rfl) (fun e => ?_)
  refine k_seq ?_
  refine k_region ?_
  refine m_bool rfl rfl ?_
  refine o_nil ?_
  refine k_seq ?_
  refine k_region ?_
  refine m_ptr rfl rfl ?_
  refine m_int rfl rfl ?_
  refine o_call rfl rfl (runits_ok k w rb ws lim L p hRP hW) (fun v w1 hv => ?_)
  obtain ⟨⟨a1, c1, rfl, hS1, hf1⟩, hK1⟩ := hv
  refine m_any rfl rfl ?_
  refine o_extr rfl rfl ?_
  refine o_extr rfl rfl ?_
  refine m_sl rfl rfl ?_
  refine m_int rfl rfl ?_
  refine o_nil ?_
  refine k_seq ?_
  refine k_region ?_
  refine m_ptr rfl rfl ?_
  refine m_int rfl rfl ?_
  refine o_call rfl rfl (runits_ok k w1 rb ws lim L q (hRP.new hK1) hW) (fun v w2 hv => ?_)
  obtain ⟨⟨a2, c2, rfl, hS2, hf2⟩, hK2⟩ := hv
  have hK02 := hK1.tr hK2
  obtain ⟨us, hus⟩ : ∃ us, (unitsN ws L p).1 = us := ⟨_, rfl⟩
  obtain ⟨vs, hvs⟩ : ∃ vs, (unitsN ws L q).1 = vs := ⟨_, rfl⟩
  rw [hus] at hS1 hl1 ⊢
  rw [hvs] at hS2 hl2 ⊢
  have hS1' := hS1.new hK2
  refine m_any rfl rfl ?_
  refine o_extr rfl rfl ?_
  refine o_extr rfl rfl ?_
  refine m_sl rfl rfl ?_
  refine m_int rfl rfl ?_
  refine o_nil ?_
  refine k_seq ?_
  refine k_seq ?_
  refine k_region ?_
  refine m_int rfl rfl ?_
  refine b_neq rfl rfl ?_
  refine m_bool rfl rfl ?_
  refine o_split (t := 26) rfl (fun h => ?_) (fun h => ?_)
  ·
    refine g_no rfl rfl rfl ?_
    refine g_no rfl rfl rfl ?_
    refine pick_t rfl rfl ?_
    refine m_bool rfl rfl ?_
    refine g_no rfl rfl rfl ?_
    refine g_no rfl rfl rfl ?_
    refine g_no rfl rfl rfl ?_
    refine g_no rfl rfl rfl ?_
    refine g_no rfl rfl rfl ?_
    refine pick_t rfl rfl ?_
    refine o_nil ?_
    refine k_condt rfl ?_
    refine k_seq ?_
    refine k_region ?_
    refine m_bool rfl rfl ?_
    refine o_nil ?_
    refine k_ret (ret_tmps (ts := [6]) (v := .bool _) rfl rfl ?_)
    exact ⟨congrArg Value.bool (decide_eq_false (fun hh => h hh.1)).symm, hK02⟩
  ·
    have h26 := Decidable.of_not_not h
    refine g_yes rfl rfl ?_
    refine m_int rfl rfl ?_
    refine g_yes rfl rfl ?_
    refine b_neq rfl rfl ?_
    refine pick_f rfl rfl ?_
    refine m_bool rfl rfl ?_
    refine o_split (t := 30) rfl (fun h => ?_) (fun h => ?_)
    ·
      refine g_no rfl rfl rfl ?_
      refine g_no rfl rfl rfl ?_
      refine g_no rfl rfl rfl ?_
      refine g_no rfl rfl rfl ?_
      refine g_no rfl rfl rfl ?_
      refine pick_t rfl rfl ?_
      refine o_nil ?_
      refine k_condt rfl ?_
      refine k_seq ?_
      refine k_region ?_
      refine m_bool rfl rfl ?_
      refine o_nil ?_
      refine k_ret (ret_tmps (ts := [6]) (v := .bool _) rfl rfl ?_)
      exact ⟨congrArg Value.bool (decide_eq_false (fun hh => h hh.2.1)).symm, hK02⟩
    ·
      have h30 := Decidable.of_not_not h
      refine g_yes rfl rfl ?_
      refine m_sl rfl rfl ?_
      refine g_yes rfl rfl ?_
      refine o_lens Tryd.underlying77 rfl ?_
      refine g_yes rfl rfl ?_
      refine m_sl rfl rfl ?_
      refine g_yes rfl rfl ?_
      refine o_lens Tryd.underlying77 rfl ?_
      refine g_yes rfl rfl ?_
      refine b_neq rfl rfl ?_
      refine pick_f rfl rfl ?_
      refine o_nil ?_
      refine k_cond rfl (fun h => ?_) (fun h => ?_)
      ·
        refine k_seq ?_
        refine k_region ?_
        refine m_bool rfl rfl ?_
        refine o_nil ?_
        refine k_ret (ret_tmps (ts := [6]) (v := .bool _) rfl rfl ?_)
        exact ⟨congrArg Value.bool (decide_eq_false (fun hh => h (by rw [← hus, ← hvs, hh.2.2]))).symm, hK02⟩
      have hlen : us.length = vs.length := by omega
      refine k_skip ?_
      refine k_seq ?_
      refine k_seq ?_
      refine k_region ?_
      refine m_int rfl rfl ?_
      refine o_nil ?_
      refine k_block ?_
      refine k_loop (σ := Nat) (fun i => [(7, .slice a1 us.length c1), (9, .slice a2 vs.length c2), (11, .int .i64 (i : Int))]) (fun i w' => i ≤ us.length ∧ (∀ j, j < i → us[j]? = vs[j]?) ∧ Keep [] w2 w') (fun i => us.length - i) 0 ⟨rfl, rfl, rfl, trivial⟩ ⟨Nat.zero_le _, (fun j hj => by omega), Keep.refl _ _⟩ (fun i e w3 hJ => ?_)
      obtain ⟨hi, hpre, hK3⟩ := hJ
      refine k_seq ?_
      refine k_seq ?_
      refine k_region ?_
      refine m_int rfl rfl ?_
      refine m_sl rfl rfl ?_
      refine o_lens Tryd.underlying77 rfl ?_
      refine b_lss rfl rfl ?_
      refine o_nil ?_
      refine k_cond rfl (fun h => ?_) (fun h => ?_)
      rotate_left
      ·
        refine k_exit rfl ?_
        refine k_seq ?_
        refine k_region ?_
        refine m_bool rfl rfl ?_
        refine o_nil ?_
        refine k_ret (ret_tmps (ts := [6]) (v := .bool _) rfl rfl ?_)
        refine ⟨congrArg Value.bool (decide_eq_true ⟨h26, h30, ?_⟩).symm, hK02.tr hK3⟩
        rw [hus, hvs]
        refine List.ext_getElem? fun j => ?_
        by_cases hj : j < us.length
        · exact hpre j (by omega)
        · rw [List.getElem?_eq_none (by omega), List.getElem?_eq_none (by omega)]
      have hin : i < us.length := by omega
      have hx := u16_at us i hin
      have hy := u16_at vs i (by omega)
      have hRx := hS1'.rd
      have hRy := hS2.rd
      obtain ⟨b1, o1, hae, _⟩ := hRx _ _ hx
      obtain ⟨b2, o2, hbe, _⟩ := hRy _ _ hy
      subst hae hbe
      refine k_skip ?_
      refine k_seq ?_
      refine k_block ?_
      refine k_seq ?_
      refine k_qk 8 rfl rfl rfl rfl rfl ?_
      refine q_step (fun w1 hC => m_sl rfl rfl (o_nil ⟨rfl, hC⟩)) ?_
      refine q_step (fun w1 hC => m_int rfl rfl (o_nil ⟨rfl, hC⟩)) ?_
      refine q_step (fun w1 hC => o_ixs1 Tryd.underlying77 rfl rfl rfl hin (o_nil ⟨rfl, hC⟩)) ?_
      refine q_step (fun w1 hC => o_ld rfl rfl (hRx.cellK (hK3.tr hC) hx) (o_nil ⟨rfl, hC⟩)) ?_
      refine q_step (fun w1 hC => m_sl rfl rfl (o_nil ⟨rfl, hC⟩)) ?_
      refine q_step (fun w1 hC => m_int rfl rfl (o_nil ⟨rfl, hC⟩)) ?_
      refine q_step (fun w1 hC => o_ixs1 Tryd.underlying77 rfl rfl rfl (by omega) (o_nil ⟨rfl, hC⟩)) ?_
      refine q_step (fun w1 hC => o_ld rfl rfl (hRy.cellK (hK3.tr hC) hy) (o_nil ⟨rfl, hC⟩)) ?_
      refine q_nil ?_
      intro w4 hC4
      refine v16_neq rfl rfl ?_
      refine o_nil ?_
      refine k_cond rfl (fun h => ?_) (fun h => ?_)
      ·
        refine k_seq ?_
        refine k_region ?_
        refine m_bool rfl rfl ?_
        refine o_nil ?_
        refine k_ret (ret_tmps (ts := [6]) (v := .bool _) rfl rfl ?_)
        refine ⟨congrArg Value.bool (decide_eq_false (fun hh => h ?_)).symm, (hK02.tr hK3).tr hC4⟩
        have he := hh.2.2
        rw [hus, hvs] at he
        subst he
        rfl
      refine k_skip ?_
      refine k_blk ?_
      refine k_region ?_
      refine m_int rfl rfl ?_
      refine n_add rfl rfl (by omega) ?_
      refine m_int rfl rfl ?_
      refine o_nil ?_
      refine k_goal ⟨i + 1, ⟨rfl, rfl, rfl, trivial⟩, ⟨by omega, fun j hj => ?_, hK3.tr hC4⟩, by omega⟩
      by_cases hji : j = i
      · rw [hji, List.getElem?_eq_getElem hin, List.getElem?_eq_getElem (by omega)]
        exact congrArg some (Decidable.of_not_not h)
      · exact hpre j (by omega)
end Go.Proofs.YtchbidckckmobaaDoor
