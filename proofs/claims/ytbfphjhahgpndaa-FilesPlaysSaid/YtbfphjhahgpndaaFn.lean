/- The walk of the law FilesPlays. No condition beyond what each contract names. -/
import Derived.Test.YtbfphjhahgpndaaFm
import Derived.Test.YtbfphjhahgpndaaEs
namespace Go.Proofs.Ytbfphjhahgpndaa
open Go.RowKit E
set_option linter.unusedVariables false
set_option linter.unusedSimpArgs false
set_option maxRecDepth 100000
attribute [local irreducible] ow qw kw kq cw opW Ret
open Go.Maps Go.Sort
theorem Fi.kb2 {k lo hi : Nat} {w w' : World} {r : Nat} {fs : FS} {n : Nat} {F : Int → Bool} (h : Fi k lo hi w r fs n F) (hk : KeepT [44, 52, 3] k w w') : Fi k lo hi w' r fs n F := h.kt hk (by decide) (by decide)
theorem bsO_bsL (s : ByteArray) : bsO (bsL s) = s := by simp [bsO, bsL]
theorem plays_ok (w : World) (a0 : Option Addr) (n0 c0 : Nat) (css : List (List Value)) (hA : Rd w a0 css.flatten) (h1 : css.length = n0) (h5 : ∀ cs ∈ css, cs.length = 5) (hcs : ∀ cs ∈ css, ActAt w cs) (hn0 : n0 ≤ 9223372036854775807) :
    Ret Try.prog 5 [.slice a0 n0 c0] w (fun v w' => v = .bool true ∧ Keep [] w w') := by
  refine fn_enter (n := 156) Try.func5 rfl rfl (Nat.le_of_ble_eq_true rfl) (fun e => ?_)
  refine k_seq ?_
  refine k_region ?_
  refine m_bool rfl rfl ?_
  refine o_nil ?_
  refine k_seq ?_
  refine k_seq ?_
  refine k_region ?_
  refine o_call rfl rfl (fixed_ok w) (fun v w1 hv => ?_)
  obtain ⟨rfl, hK1⟩ := hv
  refine u_notb rfl ?_
  refine o_nil ?_
  refine k_condf rfl ?_
  refine k_skip ?_
  refine k_seq ?_
  refine k_region ?_
  refine o_call rfl rfl (fnew_ok w1) (fun v w2 hv => ?_)
  obtain ⟨r, rfl, hF2, hK2⟩ := hv
  have hk2 := hK1.tr hK2
  refine o_build (v := .agg #[.slice none 0 0, .int .i64 0, .slice none 0 0]) rfl (fun _ => by kernel_rfl) ?_
  refine o_box rfl rfl (fun x w3 hB3 hK3 hb3 hZ3 => ?_)
  have hk3 := hk2.tr hK3
  obtain ⟨L, hL⟩ : ∃ L, L = w1.heap.size := ⟨_, rfl⟩
  have hLw : w.heap.size ≤ L := by have := hK1.size; omega
  have hL2 : L ≤ w2.heap.size := by have := hK2.size; omega
  have hX3 : Ri L w3 x [] 0 [] := ⟨none, 0, [], none, 0, hB3, Sl.nil _ _ _, .nil, Sl.nil _ _ _, by omega, by simp, by simp⟩
  have hF3 : Fi L L w3.heap.size w3 r [] 0 (fun _ => false) := by rw [hL]; exact ((hF2 _).new hK3).mono
  refine m_ptr rfl rfl ?_
  refine m_ptr rfl rfl ?_
  refine o_nil ?_
  refine k_seq ?_
  refine k_seq ?_
  refine k_region ?_
  refine m_sl rfl rfl ?_
  refine o_lens Try.underlying39 rfl ?_
  refine m_int rfl rfl ?_
  refine o_nil ?_
  refine k_block ?_
  refine k_loop (σ := Nat × FS × FS × Nat × (Int → Bool) × List Int) (fun z => [(3, .pointer (some ⟨r, 0, none⟩)), (4, .pointer (some ⟨x, 0, none⟩)), (22, .slice a0 n0 c0), (23, .int .i64 (n0 : Int)), (24, .int .i64 (z.1 : Int))]) (fun z w' => z.1 ≤ n0 ∧ z.1 ≤ 60 ∧ Fi L L w'.heap.size w' r z.2.1 z.2.2.2.1 z.2.2.2.2.1 ∧ Ri L w' x z.2.2.1 z.2.2.2.1 z.2.2.2.2.2 ∧ Rel z.2.1 z.2.2.1 z.2.2.2.1 z.2.2.2.2.1 z.2.2.2.2.2 z.1 ∧ Keep [] w w') (fun z => n0 - z.1) (0, [], [], 0, fun _ => false, []) ⟨rfl, rfl, rfl, rfl, rfl, trivial⟩ ⟨Nat.zero_le _, Nat.zero_le _, hF3, hX3, Rel.start, hk3⟩ (fun z e w9 hJ => ?_)
  obtain ⟨i, fs, gs, n, F, Fl⟩ := z
  obtain ⟨hi, hi60, hF9, hX9, hrel, hk9⟩ := hJ
  change kw _ _ _ _ (ovr [(3, .pointer (some ⟨r, 0, none⟩)), (4, .pointer (some ⟨x, 0, none⟩)), (22, .slice a0 n0 c0), (23, .int .i64 (n0 : Int)), (24, .int .i64 (i : Int))] e) w9
  simp only at hi hi60 hF9 hX9 hrel
  refine k_seq ?_
  refine k_region ?_
  refine b_lss rfl rfl ?_
  refine o_nil ?_
  refine k_seq ?_
  refine k_cond rfl (fun h => ?_) (fun h => ?_)
  rotate_left
  ·
    refine k_exit rfl ?_
    refine k_seq ?_
    refine k_region ?_
    refine m_bool rfl rfl ?_
    refine o_nil ?_
    refine k_ret (ret_tmps (ts := [2]) (v := .bool _) rfl rfl ?_)
    exact ⟨rfl, hk9⟩
  have hin : i < css.length := by omega
  obtain ⟨k, s, p, q, aD, cD, bs, hA0, hs, hD⟩ := hcs _ (List.getElem_mem hin)
  have hA5 := h5 _ (List.getElem_mem hin)
  have hcell := fun j v (hi : (css[i])[j]? = some v) => flatten_get css h5 i j _ v (List.getElem?_eq_getElem hin) hi
  rw [hA0] at hcell
  obtain ⟨bA, oA, rfl, _⟩ := hA _ _ (hcell 0 _ rfl)
  refine k_skip ?_
  refine k_seq ?_
  refine k_block ?_
  refine k_seq ?_
  refine k_region ?_
  refine m_int rfl rfl ?_
  refine o_ixs (sz := 5) Try.underlying39 rfl rfl rfl (by omega) ?_
  refine o_lda (xs := [.int .u8 (k.toNat : Int), .string s, .slice aD bs.length cD, .int .i64 p, .int .i64 q]) rfl rfl rfl (fun j u hj => by have := hA.cellK hk9 (hcell j u hj); rwa [← Nat.add_assoc] at this) ?_
  refine o_alloc (cs := #[.int .u8 0, .string ⟨#[]⟩, .slice none 0 0, .int .i64 0, .int .i64 0]) ⟨_, rfl, rfl, rfl, rfl⟩ rfl (fun b w10 hB10 hK10 hb10 hZ10 => ?_)
  refine m_int rfl rfl ?_
  refine o_sta (xs := [.int .u8 (k.toNat : Int), .string s, .slice aD bs.length cD, .int .i64 p, .int .i64 q]) rfl rfl rfl (by intro u hu; simp at hu; rcases hu with rfl | rfl | rfl | rfl | rfl <;> rfl) hB10 (by simp) (fun w11 hB11 hK11 hZ11 => ?_)
  have hk911 : Keep [] w9 w11 := hK10.tr1 hK11 (by omega)
  have hk11 := hk9.tr hk911
  have hF11 := (hF9.new hk911).mono
  have hX11 := hX9.new hk911
  have hB11 : Blk w11 b #[.int .u8 (k.toNat : Int), .string s, .slice aD bs.length cD, .int .i64 p, .int .i64 q] 46 := hB11
  have hnk := hrel.nk
  have hfk := hrel.fk
  have hL11 : L ≤ w11.heap.size := by have := hk11.size; have := hF11; obtain ⟨rr, rf, m, fm, hP⟩ := hF11; have := hP.low; have := hP.high; omega
  refine o_nil ?_
  refine k_seq ?_
  refine k_seq ?_
  refine k_region ?_
  refine m_int rfl rfl ?_
  refine b_geq rfl rfl ?_
  refine o_nil ?_
  refine k_cond rfl (fun h => ?_) (fun h => ?_)
  ·
    refine k_exit rfl ?_
    refine k_seq ?_
    refine k_region ?_
    refine m_bool rfl rfl ?_
    refine o_nil ?_
    refine k_ret (ret_tmps (ts := [2]) (v := .bool _) rfl rfl ?_)
    exact ⟨rfl, hk11⟩
  have hi59 : i < 60 := by omega
  refine k_skip ?_
  refine k_seq ?_
  refine k_seq ?_
  refine k_region ?_
  refine o_fld0 rfl rfl ?_
  refine o_ld rfl rfl (by first | exact hB11.at rfl | exact hB11.kat hC rfl) ?_ 
  refine v8_rem (b := 4#8) rfl rfl (by decide) ?_
  refine o_nil ?_
  refine k_cut (σ := FS × FS × Nat × (Int → Bool) × List Int) (fun z => [(3, .pointer (some ⟨r, 0, none⟩)), (4, .pointer (some ⟨x, 0, none⟩)), (22, .slice (some ⟨bA, oA, none⟩) n0 c0), (23, .int .i64 (n0 : Int)), (24, .int .i64 (i : Int))]) (fun z w' => Fi L L w'.heap.size w' r z.1 z.2.2.1 z.2.2.2.1 ∧ Ri L w' x z.2.1 z.2.2.1 z.2.2.2.2 ∧ Rel z.1 z.2.1 z.2.2.1 z.2.2.2.1 z.2.2.2.2 (i + 1) ∧ Keep [] w w') ?_ (fun z e w12 hJ => ?_)
  ·
    refine k_block ?_
    refine k_seq ?_
    refine k_region ?_
    refine v8_eql (b := 0#8) rfl rfl ?_
    refine m_bool rfl rfl ?_
    refine o_nil ?_
    refine k_cond rfl (fun h => ?_) (fun h => ?_)
    ·
      refine k_seq ?_
      refine k_stage 11 [5] (fun st w' => Blk w' b #[.int .u8 (k.toNat : Int), .string s, .slice aD bs.length cD, .int .i64 p, .int .i64 q] 46 ∧ Ri L w' x gs n Fl ∧ (st = 0 → Fi L L w11.heap.size w' r fs n F) ∧ (st = 1 → Fi L L w'.heap.size w' r (if putE fs s bs.length = 0 then putF fs s bs else fs) n F) ∧ Keep [] w w' ∧ L ≤ w'.heap.size) rfl rfl rfl rfl rfl rfl rfl rfl ⟨hB11, hX11.new (Keep.refl [] w11).drew, fun _ => hF11.new (Keep.refl [] w11).drew, fun h => by omega, hk11.drew, hL11⟩ ?_
      refine s_step 0 0 rfl rfl rfl (fun s1 w1 h1 h2 hC => m_ptr rfl rfl (o_nil ⟨rfl, hC⟩)) ?_
      refine s_step 0 0 rfl rfl rfl (fun s1 w1 h1 h2 hC => o_fld (off := 1) rfl rfl (o_nil ⟨rfl, hC⟩)) ?_
      refine s_step 0 0 rfl rfl rfl (fun s1 w1 h1 h2 hC => o_ld rfl rfl (hC.1.at rfl) (o_nil ⟨rfl, hC⟩)) ?_
      refine s_step 0 0 rfl rfl rfl (fun s1 w1 h1 h2 hC => o_fld (off := 2) rfl rfl (o_nil ⟨rfl, hC⟩)) ?_
      refine s_step 0 0 rfl rfl rfl (fun s1 w1 h1 h2 hC => o_ld rfl rfl (hC.1.at rfl) (o_nil ⟨rfl, hC⟩)) ?_
      refine s_loud rfl (fun w1 hC => o_call rfl rfl (put_ok L L _ w1 r fs n F s aD cD bs (hC.2.2.1 rfl) (hD.new hC.2.2.2.2.1) hC.2.2.2.2.2) (fun u w2 hv => by
        obtain ⟨rfl, hW2, hk2⟩ := hv
        exact o_nil ⟨rfl, hk2.blk hC.1 (by decide), hC.2.1.kb hk2, fun h => by omega, fun _ => hW2, hk2.keep hC.2.2.2.2.1 hLw, Nat.le_trans hC.2.2.2.2.2 hk2.size⟩)) ?_
      refine s_step 0 1 rfl rfl rfl (fun s1 w1 h1 h2 hC => m_ptr rfl rfl (o_nil ⟨rfl, hC⟩)) ?_
      refine s_step 0 1 rfl rfl rfl (fun s1 w1 h1 h2 hC => o_fld (off := 1) rfl rfl (o_nil ⟨rfl, hC⟩)) ?_
      refine s_step 0 1 rfl rfl rfl (fun s1 w1 h1 h2 hC => o_ld rfl rfl (hC.1.at rfl) (o_nil ⟨rfl, hC⟩)) ?_
      refine s_step 0 1 rfl rfl rfl (fun s1 w1 h1 h2 hC => o_fld (off := 2) rfl rfl (o_nil ⟨rfl, hC⟩)) ?_
      refine s_step 0 1 rfl rfl rfl (fun s1 w1 h1 h2 hC => o_ld rfl rfl (hC.1.at rfl) (o_nil ⟨rfl, hC⟩)) ?_
      refine s_nil ?_
      intro w12 hC12
      obtain ⟨hB12, hX12, _, hF12, hk12, hL12⟩ := hC12
      have hF12 := hF12 rfl
      refine o_call rfl rfl (rput_ok L w12 x gs n Fl s aD cD bs hX12 (hD.new hk12) hL12 hs) (fun u w13 hu => ?_)
      obtain ⟨rfl, hX13, hk13⟩ := hu
      rw [← hrel.putE] at hX13 ⊢
      refine b_neq rfl rfl ?_
      refine o_nil ?_
      refine k_no rfl ((by simp)) ?_
      refine k_skip ?_
      refine k_blk ?_
      have hrelP : Rel (if putE fs s bs.length = 0 then putF fs s bs else fs) (if putE fs s bs.length = 0 then rputF gs s bs else gs) n F Fl (i + 1) := by
       by_cases hz : putE fs s bs.length = 0
       · rw [if_pos hz, if_pos hz]; exact (hrel.put s bs hz).up (Nat.le_succ i)
       · rw [if_neg hz, if_neg hz]; exact hrel.up (Nat.le_succ i)
      exact k_goal ⟨(_, _, n, F, Fl), ⟨rfl, rfl, rfl, rfl, rfl, trivial⟩, (hF12.kb2 hk13).mono, hX13, hrelP, hk13.below hk12 hLw⟩
    refine k_seq ?_
    refine k_region ?_
    refine v8_eql (b := 1#8) rfl rfl ?_
    refine m_bool rfl rfl ?_
    refine o_nil ?_
    refine k_cond rfl (fun h => ?_) (fun h => ?_)
    ·
      refine k_seq ?_
      refine k_region ?_
      refine m_ptr rfl rfl ?_
      refine o_fld (off := 1) rfl rfl ?_
      refine o_ld rfl rfl (by first | exact hB11.at rfl | exact hB11.kat hC rfl) ?_ 
      refine o_fld (off := 3) rfl rfl ?_
      refine o_ld rfl rfl (by first | exact hB11.at rfl | exact hB11.kat hC rfl) ?_ 
      refine o_fld (off := 4) rfl rfl ?_
      refine o_ld rfl rfl (by first | exact hB11.at rfl | exact hB11.kat hC rfl) ?_ 
      obtain ⟨xs, y, n', F1, F2, hr1, hr2, hrel'⟩ := hrel.read s p q
      refine o_call rfl rfl (read_ok L L _ w11 r fs n F s p q hF11 (by omega)) (fun u w12 hu => ?_)
      unfold RdR at hu
      rw [hr1] at hu
      obtain ⟨u1, rfl, ⟨a12, c12, rfl, hS12, hf12⟩, hF12, hk12⟩ := hu
      simp only at hS12 hF12
      have hX12 := hX11.kb hk12
      have hB12 := hk12.blk hB11 (by decide)
      have hkw12 := hk12.keep hk11 hLw
      refine m_any rfl rfl ?_
      refine o_extr (vs := [.slice a12 (xs.map u8v).length c12, .int .i64 y]) rfl rfl ?_
      refine o_extr (vs := [.slice a12 (xs.map u8v).length c12, .int .i64 y]) rfl rfl ?_
      refine m_sl rfl rfl ?_
      refine m_int rfl rfl ?_
      refine o_nil ?_
      refine k_seq ?_
      refine k_region ?_
      refine m_ptr rfl rfl ?_
      refine o_fld (off := 1) rfl rfl ?_
      refine o_ld rfl rfl (hB12.at rfl) ?_
      refine o_fld (off := 3) rfl rfl ?_
      refine o_ld rfl rfl (hB12.at rfl) ?_
      refine o_fld (off := 4) rfl rfl ?_
      refine o_ld rfl rfl (hB12.at rfl) ?_
      refine o_call rfl rfl (rread_ok L w12 x gs n Fl s p q hX12 (by omega)) (fun u w13 hu => ?_)
      unfold RRdR at hu
      rw [hr2] at hu
      obtain ⟨u1, rfl, ⟨a13, c13, rfl, hS13, hf13⟩, hX13, hk13⟩ := hu
      simp only at hS13 hX13
      have hF13 := hF12.kt hk13 (by decide) (by decide)
      have hS12' := hS12.kt hk13 (by decide)
      have hmx := sl_max hS12
      rw [List.length_map] at hmx hS12' hS13 ⊢
      refine m_any rfl rfl ?_
      refine o_extr (vs := [.slice a13 xs.length c13, .int .i64 y]) rfl rfl ?_
      refine o_extr (vs := [.slice a13 xs.length c13, .int .i64 y]) rfl rfl ?_
      refine m_sl rfl rfl ?_
      refine m_int rfl rfl ?_
      refine o_nil ?_
      refine k_seq ?_
      refine k_region ?_
      refine m_int rfl rfl ?_
      refine m_int rfl rfl ?_
      refine b_neq rfl rfl ?_
      refine m_bool rfl rfl ?_
      refine o_false (t := 76) rfl ((by simp)) ?_
      refine g_yes rfl rfl ?_
      refine m_sl rfl rfl ?_
      refine g_yes rfl rfl ?_
      refine m_sl rfl rfl ?_
      refine g_yes rfl rfl ?_
      refine o_call rfl rfl (same_ok w13 a12 a13 c12 c13 _ _ hS12'.rd hS13.rd hmx) (fun v w14 hv => ?_)
      obtain ⟨rfl, hK14⟩ := hv
      refine g_yes rfl rfl ?_
      refine u_not rfl ?_
      refine pick_f rfl rfl ?_
      refine o_nil ?_
      refine k_no rfl ((by simp)) ?_
      refine k_skip ?_
      refine k_blk ?_
      refine k_goal ⟨(fs, gs, n', F1, Fl), ⟨rfl, rfl, rfl, rfl, rfl, trivial⟩, (hF13.new hK14).mono, hX13.new hK14, hrel', (hk13.below hkw12 hLw).tr hK14⟩
    refine k_seq ?_
    refine k_region ?_
    refine v8_eql (b := 2#8) rfl rfl ?_
    refine m_bool rfl rfl ?_
    refine o_nil ?_
    refine k_cond rfl (fun h => ?_) (fun h => ?_)
    ·
      refine k_seq ?_
      refine k_stage 7 [3] (fun st w' => Blk w' b #[.int .u8 (k.toNat : Int), .string s, .slice aD bs.length cD, .int .i64 p, .int .i64 q] 46 ∧ Ri L w' x gs n Fl ∧ (st = 0 → Fi L L w11.heap.size w' r fs n F) ∧ (st = 1 → Fi L L w'.heap.size w' r fs n (flF n F q)) ∧ Keep [] w w' ∧ L ≤ w'.heap.size) rfl rfl rfl rfl rfl rfl rfl rfl ⟨hB11, hX11.new (Keep.refl [] w11).drew, fun _ => hF11.new (Keep.refl [] w11).drew, fun h => by omega, hk11.drew, hL11⟩ ?_
      refine s_step 0 0 rfl rfl rfl (fun s1 w1 h1 h2 hC => m_ptr rfl rfl (o_nil ⟨rfl, hC⟩)) ?_
      refine s_step 0 0 rfl rfl rfl (fun s1 w1 h1 h2 hC => o_fld (off := 4) rfl rfl (o_nil ⟨rfl, hC⟩)) ?_
      refine s_step 0 0 rfl rfl rfl (fun s1 w1 h1 h2 hC => o_ld rfl rfl (hC.1.at rfl) (o_nil ⟨rfl, hC⟩)) ?_
      refine s_loud rfl (fun w1 hC => o_call rfl rfl (fail_ok L L _ w1 r fs n F q (hC.2.2.1 rfl) (by omega)) (fun u w2 hv => by
        obtain ⟨rfl, hW2, hk2⟩ := hv
        exact o_nil ⟨rfl, hk2.blk hC.1 (by decide), hC.2.1.kb hk2, fun h => by omega, fun _ => hW2, hk2.keep hC.2.2.2.2.1 hLw, Nat.le_trans hC.2.2.2.2.2 hk2.size⟩)) ?_
      refine s_step 0 1 rfl rfl rfl (fun s1 w1 h1 h2 hC => m_ptr rfl rfl (o_nil ⟨rfl, hC⟩)) ?_
      refine s_step 0 1 rfl rfl rfl (fun s1 w1 h1 h2 hC => o_fld (off := 4) rfl rfl (o_nil ⟨rfl, hC⟩)) ?_
      refine s_step 0 1 rfl rfl rfl (fun s1 w1 h1 h2 hC => o_ld rfl rfl (hC.1.at rfl) (o_nil ⟨rfl, hC⟩)) ?_
      refine s_nil ?_
      intro w12 hC12
      obtain ⟨hB12, hX12, _, hF12, hk12, hL12⟩ := hC12
      have hF12 := hF12 rfl
      refine o_call rfl rfl (rfail_ok L w12 x gs n Fl q hX12 (by omega) (by omega) hL12) (fun u w13 hu => ?_)
      obtain ⟨rfl, hX13, hk13⟩ := hu
      refine b_neq rfl rfl ?_
      refine o_nil ?_
      refine k_no rfl ((by simp)) ?_
      refine k_skip ?_
      refine k_blk ?_
      refine k_goal ⟨(fs, gs, n, flF n F q, _), ⟨rfl, rfl, rfl, rfl, rfl, trivial⟩, (hF12.kt hk13 (by decide) (by decide)).mono, hX13, hrel.fail q, hk13.below hk12 hLw⟩
    refine k_seq ?_
    refine k_region ?_
    refine v8_eql (b := 3#8) rfl rfl ?_
    refine m_bool rfl rfl ?_
    refine o_nil ?_
    refine k_cond rfl (fun h => ?_) (fun h => ?_)
    ·
      refine k_seq ?_
      refine k_region ?_
      refine m_ptr rfl rfl ?_
      refine o_fld (off := 1) rfl rfl ?_
      refine o_ld rfl rfl (by first | exact hB11.at rfl | exact hB11.kat hC rfl) ?_ 
      refine o_call rfl rfl (fsize_ok L L _ w11 r fs n F s hF11) (fun u w12 hu => ?_)
      obtain ⟨rfl, hw12⟩ := hu
      subst hw12
      refine m_any rfl rfl ?_
      refine o_extr (vs := [.int .i64 (szF fs s).1, .int .i64 (szF fs s).2]) rfl rfl ?_
      refine o_extr (vs := [.int .i64 (szF fs s).1, .int .i64 (szF fs s).2]) rfl rfl ?_
      refine m_int rfl rfl ?_
      refine m_int rfl rfl ?_
      refine o_nil ?_
      refine k_seq ?_
      refine k_region ?_
      refine m_ptr rfl rfl ?_
      refine o_fld (off := 1) rfl rfl ?_
      refine o_ld rfl rfl (hB11.at rfl) ?_
      refine o_call rfl rfl (rsize_ok L w12 x gs n Fl s hX11) (fun u w13 hu => ?_)
      obtain ⟨rfl, hw13⟩ := hu
      subst hw13
      rw [← hrel.size s]
      refine m_any rfl rfl ?_
      refine o_extr (vs := [.int .i64 (szF fs s).1, .int .i64 (szF fs s).2]) rfl rfl ?_
      refine o_extr (vs := [.int .i64 (szF fs s).1, .int .i64 (szF fs s).2]) rfl rfl ?_
      refine m_int rfl rfl ?_
      refine m_int rfl rfl ?_
      refine o_nil ?_
      refine k_seq ?_
      refine k_region ?_
      refine m_int rfl rfl ?_
      refine m_int rfl rfl ?_
      refine b_neq rfl rfl ?_
      refine m_bool rfl rfl ?_
      refine o_false (t := 112) rfl ((by simp)) ?_
      refine g_yes rfl rfl ?_
      refine m_int rfl rfl ?_
      refine g_yes rfl rfl ?_
      refine m_int rfl rfl ?_
      refine g_yes rfl rfl ?_
      refine b_neq rfl rfl ?_
      refine pick_f rfl rfl ?_
      refine o_nil ?_
      refine k_no rfl ((by simp)) ?_
      refine k_skip ?_
      refine k_blk ?_
      refine k_goal ⟨(fs, gs, n, F, Fl), ⟨rfl, rfl, rfl, rfl, rfl, trivial⟩, hF11, hX11, hrel.up (Nat.le_succ i), hk11⟩
    refine k_skip ?_
    refine k_blk ?_
    refine k_goal ⟨(fs, gs, n, F, Fl), ⟨rfl, rfl, rfl, rfl, rfl, trivial⟩, hF11, hX11, hrel.up (Nat.le_succ i), hk11⟩
  obtain ⟨fs2, gs2, n2, F2, Fl2⟩ := z
  obtain ⟨hF12, hX12, hrel2, hk12⟩ := hJ
  simp only at hF12 hX12 hrel2
  refine k_seq ?_
  refine k_region ?_
  refine m_ptr rfl rfl ?_
  refine o_call rfl rfl (names_ok L L _ w12 r fs2 n2 F2 hF12 hrel2.nd (fun p hp => hrel2.sz _ (List.mem_map_of_mem hp)) hrel2.len) (fun u w13 hu => ?_)
  rw [hrel2.names] at hu
  obtain ⟨⟨a13, c13, rfl, hS13, hf13⟩, hK13⟩ := hu
  have hnl : (List.map (fun l => Value.string (bsO l)) (List.map (fun p => bsL p.1) gs2)).length = gs2.length := by simp
  rw [hnl] at hS13 ⊢
  have hF13 := (hF12.new hK13).mono
  have hX13 := hX12.new hK13
  have hk13 := hk12.tr hK13
  obtain ⟨ag, cg, m, af, cf, hP⟩ := id hX13
  refine m_sl rfl rfl ?_
  refine o_nil ?_
  refine k_seq ?_
  refine k_seq ?_
  refine k_qk 15 rfl rfl rfl rfl rfl ?_
  refine q_step (fun w1 hC => m_ptr rfl rfl (o_nil ⟨rfl, hC⟩)) ?_
  refine q_step (fun w1 hC => o_call rfl rfl (freads_ok L L _ w1 r fs2 n2 F2 (hF13.new hC)) (fun v w' hv => by obtain ⟨rfl, rfl⟩ := hv; exact o_nil ⟨rfl, hC⟩)) ?_
  refine q_step (fun w1 hC => m_ptr rfl rfl (o_nil ⟨rfl, hC⟩)) ?_
  refine q_step (fun w1 hC => o_nilc rfl (o_nil ⟨rfl, hC⟩)) ?_
  refine q_step (fun w1 hC => o_fld (off := 1) rfl rfl (o_nil ⟨rfl, hC⟩)) ?_
  refine q_step (fun w1 hC => o_ld rfl rfl (hP.blk.kat hC rfl) (o_nil ⟨rfl, hC⟩)) ?_
  refine q_step (fun w1 hC => b_neq rfl rfl (o_nil ⟨rfl, hC⟩)) ?_
  refine q_step (fun w1 hC => m_bool rfl rfl (o_nil ⟨rfl, hC⟩)) ?_
  refine q_false (t := 126) rfl ((by simp)) ?_
  refine q_step (fun w1 hC => g_yes rfl rfl (m_sl rfl rfl (o_nil ⟨rfl, hC⟩))) ?_
  refine q_step (fun w1 hC => g_yes rfl rfl (o_lens Try.underlying49 rfl (o_nil ⟨rfl, hC⟩))) ?_
  refine q_step (fun w1 hC => g_yes rfl rfl (m_ptr rfl rfl (o_nil ⟨rfl, hC⟩))) ?_
  refine q_step (fun w1 hC => g_yes rfl rfl (o_nilc rfl (o_nil ⟨rfl, hC⟩))) ?_
  refine q_step (fun w1 hC => g_yes rfl rfl (o_fld0 rfl rfl (o_nil ⟨rfl, hC⟩))) ?_
  refine q_step (fun w1 hC => g_yes rfl rfl (o_ld rfl rfl (hP.blk.kat hC rfl) (o_nil ⟨rfl, hC⟩))) ?_
  refine q_step (fun w1 hC => g_yes rfl rfl (o_lens Try.underlying41 rfl (o_nil ⟨rfl, hC⟩))) ?_
  refine q_nil ?_
  intro w14 hC14
  have hg16 : gs2.length ≤ 16 := by rw [← hrel2.leng]; exact hrel2.len
  refine g_yes rfl rfl ?_
  refine b_neq rfl rfl ?_
  refine pick_f rfl rfl ?_
  refine o_nil ?_
  refine k_no rfl ((by simp [hrel2.leng])) ?_
  refine k_skip ?_
  refine k_seq ?_
  refine k_region ?_
  refine m_sl rfl rfl ?_
  refine o_lens Try.underlying49 rfl ?_
  refine m_int rfl rfl ?_
  refine o_nil ?_
  refine k_block ?_
  refine k_loop (σ := Nat) (fun j => [(3, .pointer (some ⟨r, 0, none⟩)), (4, .pointer (some ⟨x, 0, none⟩)), (15, .slice a13 gs2.length c13), (22, .slice (some ⟨bA, oA, none⟩) n0 c0), (23, .int .i64 (n0 : Int)), (24, .int .i64 (i : Int)), (137, .int .i64 (gs2.length : Int)), (138, .int .i64 (j : Int))]) (fun j w' => j ≤ gs2.length ∧ Keep [] w13 w') (fun j => gs2.length - j) 0 ⟨rfl, rfl, rfl, rfl, rfl, rfl, rfl, rfl, trivial⟩ ⟨Nat.zero_le _, hC14⟩ (fun j e w15 hJ => ?_)
  obtain ⟨hj, hC15⟩ := hJ
  refine k_seq ?_
  refine k_region ?_
  refine b_lss rfl rfl ?_
  refine o_nil ?_
  refine k_seq ?_
  refine k_cond rfl (fun h => ?_) (fun h => ?_)
  rotate_left
  ·
    refine k_exit rfl ?_
    refine k_blk ?_
    refine k_region ?_
    refine n_add rfl rfl (by omega) ?_
    refine m_int rfl rfl ?_
    refine o_nil ?_
    refine k_goal ⟨(i + 1, fs2, gs2, n2, F2, Fl2), ⟨rfl, rfl, rfl, rfl, rfl, trivial⟩, ⟨by show i + 1 ≤ n0; omega, by show i + 1 ≤ 60; omega, (hF13.new hC15).mono, hX13.new hC15, hrel2, hk13.tr hC15⟩, by show n0 - (i + 1) < n0 - i; omega⟩
  have hjl : j < gs2.length := by omega
  obtain ⟨g13, cur13, rfl, hB13, _⟩ := hS13.blk (by omega)
  obtain ⟨gl, cur, rfl, hBl, _⟩ := hP.list.blk (by omega)
  obtain ⟨y, hy⟩ : ∃ y, gs2[j]? = some y := ⟨_, List.getElem?_eq_getElem hjl⟩
  obtain ⟨a1, c1, hm1, hS1, hb1, h651⟩ := hP.ok.at j y hy
  have hc1 := fcells_at m j _ hm1
  have hnm : (List.map (fun l => Value.string (bsO l)) (List.map (fun p => bsL p.1) gs2))[j]? = some (.string y.1) := by
   rw [List.map_map, List.getElem?_map, hy]
   exact congrArg (fun z => some (Value.string z)) (bsO_bsL y.1)
  refine k_skip ?_
  refine k_seq ?_
  refine k_block ?_
  refine k_seq ?_
  refine k_region ?_
  refine m_int rfl rfl ?_
  refine m_int rfl rfl ?_
  refine o_nil ?_
  refine k_seq ?_
  refine k_qk 12 rfl rfl rfl rfl rfl ?_
  refine q_step (fun w1 hC => m_sl rfl rfl (o_nil ⟨rfl, hC⟩)) ?_
  refine q_step (fun w1 hC => m_int rfl rfl (o_nil ⟨rfl, hC⟩)) ?_
  refine q_step (fun w1 hC => o_ixs1 Try.underlying49 rfl rfl rfl hjl (o_nil ⟨rfl, hC⟩)) ?_
  refine q_step (fun w1 hC => o_ld rfl rfl (hS13.rd.cellK (hC15.tr hC) hnm) (o_nil ⟨rfl, hC⟩)) ?_
  refine q_step (fun w1 hC => m_ptr rfl rfl (o_nil ⟨rfl, hC⟩)) ?_
  refine q_step (fun w1 hC => o_nilc rfl (o_nil ⟨rfl, hC⟩)) ?_
  refine q_step (fun w1 hC => o_fld0 rfl rfl (o_nil ⟨rfl, hC⟩)) ?_
  refine q_step (fun w1 hC => o_ld rfl rfl (hP.blk.kat (hC15.tr hC) rfl) (o_nil ⟨rfl, hC⟩)) ?_
  refine q_step (fun w1 hC => m_int rfl rfl (o_nil ⟨rfl, hC⟩)) ?_
  refine q_step (fun w1 hC => o_ixs (sz := 2) Try.underlying41 rfl rfl rfl hjl (o_nil ⟨rfl, hC⟩)) ?_
  refine q_step (fun w1 hC => o_fld0 rfl rfl (o_nil ⟨rfl, hC⟩)) ?_
  refine q_step (fun w1 hC => o_ld rfl rfl (hP.list.rd.cellK (hC15.tr hC) hc1.1) (o_nil ⟨rfl, hC⟩)) ?_
  refine q_nil ?_
  intro w16 hC16
  refine b_neqstr Try.underlying9 rfl rfl ?_
  refine o_nil ?_
  refine k_no rfl ((by simp)) ?_
  refine k_skip ?_
  refine k_blk ?_
  refine k_region ?_
  refine n_add rfl rfl (by omega) ?_
  refine m_int rfl rfl ?_
  refine o_nil ?_
  refine k_goal ⟨j + 1, ⟨rfl, rfl, rfl, rfl, rfl, rfl, rfl, rfl, trivial⟩, ⟨by omega, hC15.tr hC16⟩, by omega⟩
end Go.Proofs.Ytbfphjhahgpndaa
