/- Texts of this proof laid together: Ip, Iq. No condition beyond what each lemma names. -/
import Derived.Test.YtchbidckckmobaaDoorZc
/- NativePlays. No condition beyond what each contract names. -/
namespace Go.Proofs.YtchbidckckmobaaDoor
open Go.RowKit E
set_option linter.unusedVariables false
set_option linter.unusedSimpArgs false
set_option maxRecDepth 100000
attribute [local irreducible] ow qw kw kq cw opW Ret
/-- what a turn leaves: its answers, alike; its units, alike -/
abbrev NS := Int × Int × Int × Option Addr × Nat × Option Addr × Nat × Us
def NJ (w0 w : World) (hb rb : Nat) (lim : Int) (s : NS) : Prop :=
  (∃ ws L, Two w0 w hb rb ws lim L ∧ WFH ws L ∧ (ws.length : Int) ≤ lim + 1) ∧ Rd w s.2.2.2.1 (s.2.2.2.2.2.2.2.map u16v) ∧ Rd w s.2.2.2.2.2.1 (s.2.2.2.2.2.2.2.map u16v) ∧ s.2.2.2.2.2.2.2.length ≤ 65537
theorem NJ.plain {w0 w : World} {hb rb : Nat} {ws L : List Int} {lim p e v : Int} (hT : Two w0 w hb rb ws lim L) (hW : WFH ws L) (hu : (ws.length : Int) ≤ lim + 1) : NJ w0 w hb rb lim (p, e, v, none, 0, none, 0, []) :=
  ⟨⟨ws, L, hT, hW, hu⟩, Rd.nil _ _, Rd.nil _ _, Nat.zero_le _⟩
theorem nplays_ok (w : World) (lim0 : BitVec 16) (a : Option Addr) (c : Nat) (acts : List NAct) (hR : Rd w a (acts.map nactC).flatten) (hl : acts.length ≤ 9223372036854775807) (hA : ∀ x ∈ acts, NActOk w x) (ht : Tab10 w) :
    Ret Tryd.prog 15 [.int .u16 (lim0.toNat : Int), .slice a acts.length c] w (fun v w' => v = .bool true ∧ Keep [] w w') := by
  refine fn_enter (n := 238) Tryd.func15 rfl rfl (Nat.le_of_ble_eq_true rfl) (fun e => ?_)
  refine k_seq ?_
  refine k_region ?_
  refine m_bool rfl rfl ?_
  refine o_nil ?_
  refine k_seq ?_
  refine k_seq ?_
  refine k_region ?_
  refine o_call rfl rfl (fixed24_ok w ht) (fun v w1 hv => ?_)
  obtain ⟨rfl, hK1⟩ := hv
  refine u_not (p := True) rfl ?_
  refine o_nil ?_
  refine k_no rfl ((fun h => h trivial)) ?_
  refine k_skip ?_
  refine k_seq ?_
  refine k_seq ?_
  refine k_region ?_
  refine m_sl rfl rfl ?_
  refine o_call rfl rfl (few24_ok w1 a c acts (hR.new hK1) hl (fun x hx => (hA x hx).len)) (fun v w2 hv => ?_)
  obtain ⟨⟨bf, rfl, hfew⟩, hK2⟩ := hv
  have hK02 := hK1.tr hK2
  refine u_notb rfl ?_
  refine o_nil ?_
  refine k_condb rfl (fun h => ?_) (fun h => ?_)
  ·
    refine k_seq ?_
    refine k_region ?_
    refine m_bool rfl rfl ?_
    refine o_nil ?_
    refine k_ret (ret_tmps (ts := [4]) (v := .bool _) rfl rfl ?_)
    exact ⟨rfl, hK02⟩
  obtain ⟨hl61, hl3⟩ := hfew (by cases bf <;> simp_all)
  clear hfew
  obtain ⟨lim, hlim⟩ : ∃ lim : Int, ((lim0 % 4000#16).toNat : Int) = lim := ⟨_, rfl⟩
  have hlim2 : 0 ≤ lim ∧ lim ≤ 65536 := by have := (lim0 % 4000#16).isLt; omega
  refine k_skip ?_
  refine k_seq ?_
  refine k_region ?_
  refine m_int rfl rfl ?_
  refine v16_rem (b := 4000#16) rfl rfl (by decide) ?_
  refine cv16_i rfl Tryd.underlying3 rfl ?_
  rw [hlim]
  refine o_call rfl rfl (hnew_ok w2 lim) (fun v w3 hv => ?_)
  obtain ⟨hK3, hv⟩ := hv
  rw [if_pos hlim2] at hv
  obtain ⟨hb, rfl, hHP3⟩ := hv
  refine m_any rfl rfl ?_
  refine o_extr rfl rfl ?_
  refine o_extr rfl rfl ?_
  refine m_ptr rfl rfl ?_
  refine m_int rfl rfl ?_
  refine o_nil ?_
  refine k_seq ?_
  refine k_region ?_
  refine m_int rfl rfl ?_
  refine v16_rem (b := 4000#16) rfl rfl (by decide) ?_
  refine cv16_i rfl Tryd.underlying3 rfl ?_
  rw [hlim]
  refine o_call rfl rfl (rnew_ok w3 lim) (fun v w4 hv => ?_)
  obtain ⟨hK4, hv⟩ := hv
  rw [if_pos hlim2] at hv
  obtain ⟨rb, rfl, hRP4⟩ := hv
  have hK03 := hK02.tr hK3
  have hK04 := hK03.tr hK4
  obtain ⟨k3, hk3, hHP3'⟩ := hHP3.tight
  have hT4 : Two w w4 hb rb [0] lim [] := Two.mk' (hHP3'.new hK4) hRP4 (fun b x y => by have := (hk3 b x).2; omega) (fun b x => Nat.le_trans hK02.size (hk3 b x).1) (fun b x => Nat.le_trans hK03.size x) hK04
  clear hHP3 hHP3' hRP4 hk3
  refine m_any rfl rfl ?_
  refine o_extr rfl rfl ?_
  refine o_extr rfl rfl ?_
  refine m_ptr rfl rfl ?_
  refine m_int rfl rfl ?_
  refine o_nil ?_
  refine k_seq ?_
  refine k_seq ?_
  refine k_region ?_
  refine m_ptr rfl rfl ?_
  refine b_eqlp Tryd.underlying41 rfl rfl ?_
  refine o_nil ?_
  refine k_no rfl ((by intro h; cases h)) ?_
  refine k_skip ?_
  refine k_seq ?_
  refine k_seq ?_
  refine k_region ?_
  refine m_sl rfl rfl ?_
  refine o_lens Tryd.underlying87 rfl ?_
  refine m_int rfl rfl ?_
  refine o_nil ?_
  refine k_block ?_
  refine k_loop (σ := Nat) (fun m => [(5, .pointer (some ⟨hb, 0, none⟩)), (7, .pointer (some ⟨rb, 0, none⟩)), (40, .slice a acts.length c), (41, .int .i64 (acts.length : Int)), (42, .int .i64 (m : Int))]) (fun m w' => m ≤ acts.length ∧ ∃ ws L, Two w w' hb rb ws lim L ∧ WFH ws L ∧ (ws.length : Int) ≤ lim + 1) (fun m => acts.length - m) 0 ⟨rfl, rfl, rfl, rfl, rfl, trivial⟩ ⟨Nat.zero_le _, [0], [], hT4, WFH.one, by simp; omega⟩ (fun m e w5 hJ => ?_)
  obtain ⟨hm, ws, L, hT5, hW5, hu5⟩ := hJ
  refine k_seq ?_
  refine k_region ?_
  refine b_lss rfl rfl ?_
  refine o_nil ?_
  refine k_seq ?_
  refine k_cond rfl (fun h => ?_) (fun h => ?_)
  rotate_left
  ·
    refine k_exit rfl ?_
    refine k_seq ?_
    refine k_region ?_
    refine m_bool rfl rfl ?_
    refine o_nil ?_
    refine k_ret (ret_tmps (ts := [4]) (v := .bool _) rfl rfl ?_)
    exact ⟨rfl, hT5.keep⟩
  have hml : m < acts.length := by omega
  obtain ⟨x, hx⟩ : ∃ x, acts[m] = x := ⟨_, rfl⟩
  have hxA : NActOk w x := by rw [← hx]; exact hA _ (List.getElem_mem _)
  have hx3 : x.us.length ≤ 3000 := by rw [← hx]; exact hl3 _ (List.getElem_mem _)
  have hxcl := hxA.cl
  have hxi := hxA.i
  have hxk := hxA.k
  have hxn := hxA.n
  obtain ⟨b1, o1, hae, hcell⟩ := nact_at (hR.new hT5.keep) hml
  rw [hx] at hcell
  subst hae
  refine k_skip ?_
  refine k_seq ?_
  refine k_block ?_
  refine k_seq ?_
  refine k_region ?_
  refine o_ixs (m := m) (sz := 8) Tryd.underlying87 rfl rfl rfl hml ?_
  refine o_lda (xs := nactC x) rfl rfl rfl hcell ?_
  refine o_alloc inf90 rfl (fun b6 w6 hB6 hK6 hb6 hZ6 => ?_)
  refine o_sta (xs := nactC x) rfl rfl rfl (nact_one x) hB6 (Nat.le_refl 8) (fun w7 hB7 hK7 hZ7 => ?_)
  have hB : Blk w7 b6 (nactC x).toArray 90 := hB7
  have hT7 := hT5.new (hK6.tr1 hK7 (by omega))
  have hK07 := hT7.keep
  clear hB6 hK6 hB7 hK7 hZ7 hT5
  obtain ⟨kH, hHP, hkH, hbel, hturn⟩ := hT7.turn
  refine o_nil ?_
  refine k_seq ?_
  refine k_region ?_
  refine m_int rfl rfl ?_
  refine m_int rfl rfl ?_
  refine o_nil ?_
  refine k_seq ?_
  refine k_region ?_
  refine m_int rfl rfl ?_
  refine m_int rfl rfl ?_
  refine o_nil ?_
  refine k_seq ?_
  refine k_region ?_
  refine m_int rfl rfl ?_
  refine m_int rfl rfl ?_
  refine o_nil ?_
  refine k_seq ?_
  refine k_region ?_
  refine m_sl rfl rfl ?_
  refine m_sl rfl rfl ?_
  refine o_nil ?_
  refine k_seq ?_
  refine k_seq ?_
  refine k_region ?_
  refine o_fld0 rfl rfl ?_
  refine o_ld (v := .int .u8 (x.kd.toNat : Int)) rfl rfl (hB.at rfl) ?_
  refine v8_rem (b := 8#8) rfl rfl (by decide) ?_
  refine o_nil ?_
  refine k_cut (σ := NS) (fun s => [(5, .pointer (some ⟨hb, 0, none⟩)), (7, .pointer (some ⟨rb, 0, none⟩)), (11, .int .i64 s.1), (12, .int .i64 s.1), (13, .int .i64 s.2.1), (14, .int .i64 s.2.1), (15, .int .i64 s.2.2.1), (16, .int .i64 s.2.2.1), (17, .slice s.2.2.2.1 s.2.2.2.2.2.2.2.length s.2.2.2.2.1), (18, .slice s.2.2.2.2.2.1 s.2.2.2.2.2.2.2.length s.2.2.2.2.2.2.1), (40, .slice (some ⟨b1, o1, none⟩) acts.length c), (41, .int .i64 (acts.length : Int)), (42, .int .i64 (m : Int))]) (fun s w' => NJ w w' hb rb lim s) ?_ (fun s e w9 hJ => ?_)
  ·
    refine k_block ?_
    refine k_seq ?_
    refine k_region ?_
    refine v8_eql (b := 0#8) rfl rfl ?_
    refine m_bool rfl rfl ?_
    refine o_nil ?_
    refine k_cond rfl (fun h => ?_) (fun h => ?_)
    ·
      refine k_seq ?_
      refine k_region ?_
      refine m_ptr rfl rfl ?_
      refine o_fld (off := 1) rfl rfl ?_
      refine o_ld (v := iv x.cl) rfl rfl (hB.at rfl) ?_
      refine o_fld (off := 2) rfl rfl ?_
      refine o_ld (v := .slice x.ua x.us.length x.uc) rfl rfl (hB.at rfl) ?_
      refine o_call rfl rfl (make_ok kH w7 hb ws lim L x.cl x.ua x.uc x.us hHP hW5 hlim2.2 hu5 hkH hxcl (hxA.rd.new hK07) (by omega) (fun w' hk' => hxA.rd.new (hbel w' hk'))) (fun v w8 hv => ?_)
      obtain ⟨rfl, hr⟩ := hv
      have hB8 := hB.kh hr.2.2.2 (by decide)
      obtain ⟨hW8, hu8, hK8, kR, hRP, hkR, hbel2, hback⟩ := hturn _ _ _ hr
      refine m_any rfl rfl ?_
      refine o_extr rfl rfl ?_
      refine o_extr rfl rfl ?_
      refine m_int rfl rfl ?_
      refine m_int rfl rfl ?_
      refine o_nil ?_
      refine k_region ?_
      refine m_ptr rfl rfl ?_
      refine o_fld (off := 1) rfl rfl ?_
      refine o_ld (v := iv x.cl) rfl rfl (hB8.at rfl) ?_
      refine o_fld (off := 2) rfl rfl ?_
      refine o_ld (v := .slice x.ua x.us.length x.uc) rfl rfl (hB8.at rfl) ?_
      refine o_call rfl rfl (rmake_ok kR w8 rb ws lim L x.cl x.ua x.uc x.us hRP hW5 hlim2.2 hlim2.1 hu5 hkR (by omega) (fun w' hk' => hxA.rd.new (hbel2 w' hk'))) (fun v w9 hv => ?_)
      obtain ⟨rfl, hr⟩ := hv
      refine m_any rfl rfl ?_
      refine o_extr rfl rfl ?_
      refine o_extr rfl rfl ?_
      refine m_int rfl rfl ?_
      refine m_int rfl rfl ?_
      refine o_nil ?_
      refine k_blk ?_
      refine k_goal ⟨((makeN ws L lim x.cl x.us).1, (makeN ws L lim x.cl x.us).2.1, 0, none, 0, none, 0, []), ⟨rfl, rfl, rfl, rfl, rfl, rfl, rfl, rfl, rfl, rfl, rfl, rfl, rfl, trivial⟩, NJ.plain (hback _ hr) hW8 hu8⟩
    refine k_seq ?_
    refine k_region ?_
    refine v8_eql (b := 1#8) rfl rfl ?_
    refine m_bool rfl rfl ?_
    refine o_nil ?_
    refine k_cond rfl (fun h => ?_) (fun h => ?_)
    ·
      refine k_seq ?_
      refine k_region ?_
      refine m_ptr rfl rfl ?_
      refine o_fld (off := 1) rfl rfl ?_
      refine o_ld (v := iv x.cl) rfl rfl (hB.at rfl) ?_
      refine o_fld (off := 3) rfl rfl ?_
      refine o_ld (v := iv x.a) rfl rfl (hB.at rfl) ?_
      refine o_fld (off := 4) rfl rfl ?_
      refine o_ld (v := iv x.b) rfl rfl (hB.at rfl) ?_
      refine o_call rfl rfl (conc_ok kH w7 hb ws lim L x.cl x.a x.b hHP hW5 hlim2.2 hu5 hkH hxcl) (fun v w8 hv => ?_)
      obtain ⟨rfl, hr⟩ := hv
      have hB8 := hB.kh hr.2.2.2 (by decide)
      obtain ⟨hW8, hu8, hK8, kR, hRP, hkR, hbel2, hback⟩ := hturn _ _ _ hr
      refine m_any rfl rfl ?_
      refine o_extr rfl rfl ?_
      refine o_extr rfl rfl ?_
      refine m_int rfl rfl ?_
      refine m_int rfl rfl ?_
      refine o_nil ?_
      refine k_region ?_
      refine m_ptr rfl rfl ?_
      refine o_fld (off := 1) rfl rfl ?_
      refine o_ld (v := iv x.cl) rfl rfl (hB8.at rfl) ?_
      refine o_fld (off := 3) rfl rfl ?_
      refine o_ld (v := iv x.a) rfl rfl (hB8.at rfl) ?_
      refine o_fld (off := 4) rfl rfl ?_
      refine o_ld (v := iv x.b) rfl rfl (hB8.at rfl) ?_
      refine o_call rfl rfl (rconc_ok kR w8 rb ws lim L x.cl x.a x.b hRP hW5 hlim2.2 hlim2.1 hu5 hkR) (fun v w9 hv => ?_)
      obtain ⟨rfl, hr⟩ := hv
      refine m_any rfl rfl ?_
      refine o_extr rfl rfl ?_
      refine o_extr rfl rfl ?_
      refine m_int rfl rfl ?_
      refine m_int rfl rfl ?_
      refine o_nil ?_
      refine k_blk ?_
      refine k_goal ⟨((concN ws L lim x.cl x.a x.b).1, (concN ws L lim x.cl x.a x.b).2.1, 0, none, 0, none, 0, []), ⟨rfl, rfl, rfl, rfl, rfl, rfl, rfl, rfl, rfl, rfl, rfl, rfl, rfl, trivial⟩, NJ.plain (hback _ hr) hW8 hu8⟩
    refine k_seq ?_
    refine k_region ?_
    refine v8_eql (b := 2#8) rfl rfl ?_
    refine m_bool rfl rfl ?_
    refine o_nil ?_
    refine k_cond rfl (fun h => ?_) (fun h => ?_)
    ·
      obtain ⟨kq, hRPq⟩ := hT7.rp
      refine k_seq ?_
      refine k_qk 11 rfl rfl rfl rfl rfl ?_
      refine q_step (fun w1 hC => m_ptr rfl rfl (o_nil ⟨rfl, hC⟩)) ?_
      refine q_step (fun w1 hC => o_fld (off := 3) rfl rfl (o_nil ⟨rfl, hC⟩)) ?_
      refine q_step (fun w1 hC => o_ld (v := iv x.a) rfl rfl (hB.kat hC rfl) (o_nil ⟨rfl, hC⟩)) ?_
      refine q_step (fun w1 hC => o_fld (off := 4) rfl rfl (o_nil ⟨rfl, hC⟩)) ?_
      refine q_step (fun w1 hC => o_ld (v := iv x.b) rfl rfl (hB.kat hC rfl) (o_nil ⟨rfl, hC⟩)) ?_
      refine q_step (v := .bool (equN ws L x.a x.b)) (fun w1 hC => o_call rfl rfl (equ_ok kH w1 hb ws lim L x.a x.b (hHP.new hC) hW5) (fun v w2 hv => by obtain ⟨rfl, hK⟩ := hv; exact o_nil ⟨rfl, hC.tr hK⟩)) ?_
      refine q_step (fun w1 hC => m_ptr rfl rfl (o_nil ⟨rfl, hC⟩)) ?_
      refine q_step (fun w1 hC => o_fld (off := 3) rfl rfl (o_nil ⟨rfl, hC⟩)) ?_
      refine q_step (fun w1 hC => o_ld (v := iv x.a) rfl rfl (hB.kat hC rfl) (o_nil ⟨rfl, hC⟩)) ?_
      refine q_step (fun w1 hC => o_fld (off := 4) rfl rfl (o_nil ⟨rfl, hC⟩)) ?_
      refine q_step (fun w1 hC => o_ld (v := iv x.b) rfl rfl (hB.kat hC rfl) (o_nil ⟨rfl, hC⟩)) ?_
      refine q_nil ?_
      intro w8 hC8
      refine o_call rfl rfl (requ_ok kq w8 rb ws lim L x.a x.b (hRPq.new hC8) hW5) (fun v w9 hv => ?_)
      obtain ⟨rfl, hK9⟩ := hv
      refine b_neqb Tryd.underlying4 rfl rfl ?_
      refine o_nil ?_
      refine k_no rfl ((fun h => h rfl)) ?_
      refine k_skip ?_
      refine k_blk ?_
      refine k_goal ⟨(0, 0, 0, none, 0, none, 0, []), ⟨rfl, rfl, rfl, rfl, rfl, rfl, rfl, rfl, rfl, rfl, rfl, rfl, rfl, trivial⟩, NJ.plain ((hT7.new hC8).new hK9) hW5 hu5⟩
    refine k_seq ?_
    refine k_region ?_
    refine v8_eql (b := 3#8) rfl rfl ?_
    refine m_bool rfl rfl ?_
    refine o_nil ?_
    refine k_cond rfl (fun h => ?_) (fun h => ?_)
    ·
      obtain ⟨kq, hRPq⟩ := hT7.rp
      refine k_seq ?_
      refine k_region ?_
      refine m_ptr rfl rfl ?_
      refine o_fld (off := 3) rfl rfl ?_
      refine o_ld (v := iv x.a) rfl rfl (hB.at rfl) ?_
      refine o_fld (off := 5) rfl rfl ?_
      refine o_ld (v := iv x.i) rfl rfl (hB.at rfl) ?_
      refine o_call rfl rfl (char_ok kH w7 hb ws lim L x.a x.i hHP hW5) (fun v w8 hv => ?_)
      obtain ⟨rfl, rfl⟩ := hv
      refine m_any rfl rfl ?_
      refine o_extr rfl rfl ?_
      refine o_extr rfl rfl ?_
      refine m_int rfl rfl ?_
      refine m_int rfl rfl ?_
      refine o_nil ?_
      refine k_region ?_
      refine m_ptr rfl rfl ?_
      refine o_fld (off := 3) rfl rfl ?_
      refine o_ld (v := iv x.a) rfl rfl (hB.at rfl) ?_
      refine o_fld (off := 5) rfl rfl ?_
      refine o_ld (v := iv x.i) rfl rfl (hB.at rfl) ?_
      refine o_call rfl rfl (rchar_ok kq w8 rb ws lim L x.a x.i hRPq hW5) (fun v w9 hv => ?_)
      obtain ⟨rfl, hK9⟩ := hv
      refine m_any rfl rfl ?_
      refine o_extr rfl rfl ?_
      refine o_extr rfl rfl ?_
      refine m_int rfl rfl ?_
      refine m_int rfl rfl ?_
      refine o_nil ?_
      refine k_blk ?_
      refine k_goal ⟨(0, (charN ws L x.a x.i).2, (charN ws L x.a x.i).1, none, 0, none, 0, []), ⟨rfl, rfl, rfl, rfl, rfl, rfl, rfl, rfl, rfl, rfl, rfl, rfl, rfl, trivial⟩, NJ.plain (hT7.new hK9) hW5 hu5⟩
    refine k_seq ?_
    refine k_region ?_
    refine v8_eql (b := 4#8) rfl rfl ?_
    refine m_bool rfl rfl ?_
    refine o_nil ?_
    refine k_cond rfl (fun h => ?_) (fun h => ?_)
    ·
      refine k_seq ?_
      refine k_region ?_
      refine m_ptr rfl rfl ?_
      refine o_fld (off := 3) rfl rfl ?_
      refine o_ld (v := iv x.a) rfl rfl (hB.at rfl) ?_
      refine o_fld (off := 5) rfl rfl ?_
      refine o_ld (v := iv x.i) rfl rfl (hB.at rfl) ?_
      refine o_fld (off := 4) rfl rfl ?_
      refine o_ld (v := iv x.b) rfl rfl (hB.at rfl) ?_
      refine o_fld (off := 6) rfl rfl ?_
      refine o_ld (v := iv x.k) rfl rfl (hB.at rfl) ?_
      refine o_fld (off := 7) rfl rfl ?_
      refine o_ld (v := iv x.n) rfl rfl (hB.at rfl) ?_
      refine o_call rfl rfl (copy_ok kH w7 hb ws lim L x.a x.i x.b x.k x.n hHP hW5 hu5 hxi hxk hxn) (fun v w8 hv => ?_)
      obtain ⟨rfl, hr⟩ := hv
      have hB8 := hB.kh hr.2.2.2 (by decide)
      obtain ⟨hW8, hu8, hK8, kR, hRP, hkR, hbel2, hback⟩ := hturn _ _ _ hr
      refine m_int rfl rfl ?_
      refine o_nil ?_
      refine k_region ?_
      refine m_ptr rfl rfl ?_
      refine o_fld (off := 3) rfl rfl ?_
      refine o_ld (v := iv x.a) rfl rfl (hB8.at rfl) ?_
      refine o_fld (off := 5) rfl rfl ?_
      refine o_ld (v := iv x.i) rfl rfl (hB8.at rfl) ?_
      refine o_fld (off := 4) rfl rfl ?_
      refine o_ld (v := iv x.b) rfl rfl (hB8.at rfl) ?_
      refine o_fld (off := 6) rfl rfl ?_
      refine o_ld (v := iv x.k) rfl rfl (hB8.at rfl) ?_
      refine o_fld (off := 7) rfl rfl ?_
      refine o_ld (v := iv x.n) rfl rfl (hB8.at rfl) ?_
      refine o_call rfl rfl (rcopy_ok kR w8 rb ws lim L x.a x.i x.b x.k x.n hRP hW5 hxi hxk hxn) (fun v w9 hv => ?_)
      rw [copy_eq hW5] at hv
      obtain ⟨rfl, hr⟩ := hv
      refine m_int rfl rfl ?_
      refine o_nil ?_
      refine k_blk ?_
      refine k_goal ⟨(0, (copyN ws L x.a x.i x.b x.k x.n).1, 0, none, 0, none, 0, []), ⟨rfl, rfl, rfl, rfl, rfl, rfl, rfl, rfl, rfl, rfl, rfl, rfl, rfl, trivial⟩, NJ.plain (hback _ hr) hW8 hu8⟩
    refine k_seq ?_
    refine k_region ?_
    refine v8_eql (b := 5#8) rfl rfl ?_
    refine m_bool rfl rfl ?_
    refine o_nil ?_
    refine k_cond rfl (fun h => ?_) (fun h => ?_)
    ·
      refine k_seq ?_
      refine k_region ?_
      refine m_ptr rfl rfl ?_
      refine o_fld (off := 1) rfl rfl ?_
      refine o_ld (v := iv x.cl) rfl rfl (hB.at rfl) ?_
      refine o_fld (off := 2) rfl rfl ?_
      refine o_ld (v := .slice x.ua x.us.length x.uc) rfl rfl (hB.at rfl) ?_
      refine o_lens Tryd.underlying77 rfl ?_
      refine o_call rfl rfl (harray_ok kH w7 hb ws lim L x.cl (x.us.length : Int) true hHP hW5 hlim2.2 hu5 hkH hxcl (by omega)) (fun v w8 hv => ?_)
      obtain ⟨rfl, hr⟩ := hv
      rw [show (if true = true then (3 : Int) else 2) = 3 from rfl] at hr ⊢
      have hB8 := hB.kh hr.2.2.2 (by decide)
      obtain ⟨hW8, hu8, hK8, kR, hRP, hkR, hbel2, hback⟩ := hturn _ _ _ hr
      refine m_any rfl rfl ?_
      refine o_extr rfl rfl ?_
      refine o_extr rfl rfl ?_
      refine m_int rfl rfl ?_
      refine m_int rfl rfl ?_
      refine o_nil ?_
      refine k_region ?_
      refine m_ptr rfl rfl ?_
      refine o_fld (off := 1) rfl rfl ?_
      refine o_ld (v := iv x.cl) rfl rfl (hB8.at rfl) ?_
      refine o_fld (off := 2) rfl rfl ?_
      refine o_ld (v := .slice x.ua x.us.length x.uc) rfl rfl (hB8.at rfl) ?_
      refine o_lens Tryd.underlying77 rfl ?_
      refine o_call rfl rfl (rarray_ok kR w8 rb ws lim L x.cl (x.us.length : Int) true hRP hW5 hlim2.2 hlim2.1 hu5 hkR (by omega)) (fun v w9 hv => ?_)
      obtain ⟨rfl, hr⟩ := hv
      rw [show (if true = true then (3 : Int) else 2) = 3 from rfl] at hr ⊢
      refine m_any rfl rfl ?_
      refine o_extr rfl rfl ?_
      refine o_extr rfl rfl ?_
      refine m_int rfl rfl ?_
      refine m_int rfl rfl ?_
      refine o_nil ?_
      refine k_blk ?_
      refine k_goal ⟨((layH ws L lim 3 x.cl (x.us.length : Int) 0).1, (layH ws L lim 3 x.cl (x.us.length : Int) 0).2.1, 0, none, 0, none, 0, []), ⟨rfl, rfl, rfl, rfl, rfl, rfl, rfl, rfl, rfl, rfl, rfl, rfl, rfl, trivial⟩, NJ.plain (hback _ hr) hW8 hu8⟩
    refine k_seq ?_
    refine k_region ?_
    refine v8_eql (b := 6#8) rfl rfl ?_
    refine m_bool rfl rfl ?_
    refine o_nil ?_
    refine k_cond rfl (fun h => ?_) (fun h => ?_)
    ·
      refine k_seq ?_
      refine k_region ?_
      refine m_ptr rfl rfl ?_
      refine o_fld (off := 1) rfl rfl ?_
      refine o_ld (v := iv x.cl) rfl rfl (hB.at rfl) ?_
      refine o_bsl (E := 4) (cs := #[.bool true, .bool false]) rfl (fun _ => by kernel_rfl) (fun g8 w8 hB8 hK8 hb8 hZ8 => ?_)
      have hR8 : Rd w8 (some ⟨g8, 0, none⟩) ([true, false].map Value.bool) := hB8.rd
      have hT8 := hT7.new hK8
      clear hturn hHP hkH hbel
      obtain ⟨kH, hHP, hkH, hbel, hturn⟩ := hT8.turn
      have hB1 := hB.keep hK8 (by simp)
      refine o_call rfl rfl (hobject_ok kH w8 hb ws lim L x.cl (some ⟨g8, 0, none⟩) 2 [true, false] hHP hW5 hlim2.2 hu5 hkH hxcl hR8 (by decide)) (fun v w9 hv => ?_)
      obtain ⟨rfl, hr⟩ := hv
      have hB9 := hB1.kh hr.2.2.2 (by decide)
      obtain ⟨hW9, hu9, hK9, kR, hRP, hkR, hbel2, hback⟩ := hturn _ _ _ hr
      refine m_any rfl rfl ?_
      refine o_extr rfl rfl ?_
      refine o_extr rfl rfl ?_
      refine m_int rfl rfl ?_
      refine m_int rfl rfl ?_
      refine o_nil ?_
      refine k_region ?_
      refine m_ptr rfl rfl ?_
      refine o_fld (off := 1) rfl rfl ?_
      refine o_ld (v := iv x.cl) rfl rfl (hB9.at rfl) ?_
      refine o_bsl (E := 4) (cs := #[.bool true, .bool false]) rfl (fun _ => by kernel_rfl) (fun g10 w10 hB10 hK10 hb10 hZ10 => ?_)
      have hR10 : Rd w10 (some ⟨g10, 0, none⟩) ([true, false].map Value.bool) := hB10.rd
      refine o_call rfl rfl (robject_ok kR w10 rb ws lim L x.cl (some ⟨g10, 0, none⟩) 2 [true, false] (hRP.new hK10) hW5 hlim2.2 hlim2.1 hu5 (fun b hb => hkR b (by have := hK10.size; omega)) hR10 (by decide)) (fun v w11 hv => ?_)
      obtain ⟨rfl, hr⟩ := hv
      refine m_any rfl rfl ?_
      refine o_extr rfl rfl ?_
      refine o_extr rfl rfl ?_
      refine m_int rfl rfl ?_
      refine m_int rfl rfl ?_
      refine o_nil ?_
      refine k_blk ?_
      refine k_goal ⟨((objH ws L lim x.cl [true, false]).1, (objH ws L lim x.cl [true, false]).2.1, 0, none, 0, none, 0, []), ⟨rfl, rfl, rfl, rfl, rfl, rfl, rfl, rfl, rfl, rfl, rfl, rfl, rfl, trivial⟩, NJ.plain (hback _ ⟨hr.1, hr.2.1, hK10.h.tr hr.2.2⟩) hW9 hu9⟩
    refine k_seq ?_
    refine k_region ?_
    refine m_ptr rfl rfl ?_
    refine o_fld (off := 3) rfl rfl ?_
    refine o_ld (v := iv x.a) rfl rfl (hB.at rfl) ?_
    refine o_call rfl rfl (units_ok kH w7 hb ws lim L x.a hHP hW5) (fun v w8 hv => ?_)
    obtain ⟨⟨a8, c8, rfl, hS8, hf8⟩, hK8⟩ := hv
    have hB8 := hB.keep hK8 (by simp)
    obtain ⟨kq, hRPq⟩ := (hT7.new hK8).rp
    refine m_any rfl rfl ?_
    refine o_extr rfl rfl ?_
    refine o_extr rfl rfl ?_
    refine m_sl rfl rfl ?_
    refine m_int rfl rfl ?_
    refine o_nil ?_
    refine k_region ?_
    refine m_ptr rfl rfl ?_
    refine o_fld (off := 3) rfl rfl ?_
    refine o_ld (v := iv x.a) rfl rfl (hB8.at rfl) ?_
    refine o_call rfl rfl (runits_ok kq w8 rb ws lim L x.a hRPq hW5) (fun v w9 hv => ?_)
    obtain ⟨⟨a9, c9, rfl, hS9, hf9⟩, hK9⟩ := hv
    refine m_any rfl rfl ?_
    refine o_extr rfl rfl ?_
    refine o_extr rfl rfl ?_
    refine m_sl rfl rfl ?_
    refine m_int rfl rfl ?_
    refine o_nil ?_
    refine k_blk ?_
    refine k_goal ⟨(0, (unitsN ws L x.a).2, 0, a8, c8, a9, c9, (unitsN ws L x.a).1), ⟨rfl, rfl, rfl, rfl, rfl, rfl, rfl, rfl, rfl, rfl, rfl, rfl, rfl, trivial⟩, ⟨ws, L, (hT7.new hK8).new hK9, hW5, hu5⟩, hS8.rd.new hK9, hS9.rd, units_len hW5 _⟩
  obtain ⟨p, q, v0, a10, c10, a11, c11, us⟩ := s
  obtain ⟨⟨xs, M, hT9, hW9, hu9⟩, hRa, hRb, hul⟩ := hJ
  dsimp only at hRa hRb hul ⊢
  obtain ⟨kH9, hHP9⟩ := hT9.hp
  obtain ⟨kR9, hRP9⟩ := hT9.rp
  obtain ⟨aR, cR, hBR, hSR, hkR1, hkR2⟩ := id hRP9
  have hxl := hW9.len
  have hbase : ∀ w', Keep [] w9.drew w' → Keep [] w9 w' := fun w' h => (Keep.refl [] w9).drew.tr h
  refine k_seq ?_
  refine k_any 26 (fun w w' => Keep [] w w') (fun iA => match iA with
      | 0 => fun v w => v = .int .i64 p
      | 1 => fun v w => v = .int .i64 p
      | 2 => fun v w => v = .bool false
      | 3 => fun v w => v = .bool false
      | 4 => fun v w => v = .int .i64 q
      | 5 => fun v w => v = .int .i64 q
      | 6 => fun v w => v = .bool false
      | 7 => fun v w => v = .bool false
      | 8 => fun v w => v = .bool false
      | 9 => fun v w => v = .int .i64 v0
      | 10 => fun v w => v = .int .i64 v0
      | 11 => fun v w => v = .bool false
      | 12 => fun v w => v = .bool false
      | 13 => fun v w => v = .bool false
      | 14 => fun v w => v = .slice a10 us.length c10
      | 15 => fun v w => v = .slice a11 us.length c11
      | 16 => fun v w => v = .bool true
      | 17 => fun v w => v = .bool false
      | 18 => fun v w => v = .bool false
      | 19 => fun v w => v = .bool false
      | 20 => fun v w => v = .pointer (some ⟨hb, 0, none⟩)
      | 21 => fun v w => ∃ a2 c2, v = .slice a2 xs.length c2 ∧ Rd w a2 (xs.map iv)
      | 22 => fun v w => v = .pointer (some ⟨rb, 0, none⟩)
      | 23 => fun v w => v = .pointer (some ⟨rb, 0, none⟩)
      | 24 => fun v w => v = .pointer (some ⟨rb, 0, none⟩)
      | 25 => fun v w => v = .slice aR xs.length cR
      | _ => fun v w => True) rfl rfl rfl rfl rfl (Keep.refl []) (fun _ _ _ h1 h2 => h1.tr h2) ?_ ?_ ?_
  · intro iA v w w' h hL
    match iA, h with
    | 0, h =>
      exact h
    | 1, h =>
      exact h
    | 2, h =>
      exact h
    | 3, h =>
      exact h
    | 4, h =>
      exact h
    | 5, h =>
      exact h
    | 6, h =>
      exact h
    | 7, h =>
      exact h
    | 8, h =>
      exact h
    | 9, h =>
      exact h
    | 10, h =>
      exact h
    | 11, h =>
      exact h
    | 12, h =>
      exact h
    | 13, h =>
      exact h
    | 14, h =>
      exact h
    | 15, h =>
      exact h
    | 16, h =>
      exact h
    | 17, h =>
      exact h
    | 18, h =>
      exact h
    | 19, h =>
      exact h
    | 20, h =>
      exact h
    | 21, h =>
      obtain ⟨a2, c2, h1, h2⟩ := h
      exact ⟨a2, c2, h1, h2.new hL⟩
    | 22, h =>
      exact h
    | 23, h =>
      exact h
    | 24, h =>
      exact h
    | 25, h =>
      exact h
    | _ + 26, h => trivial
  · intro iA o him hl eA wA hL hA hD
    match iA, him, hl with
    | 0, _, hl =>
      obtain rfl := Option.some.inj hl
      refine o_gen [(11, _)] ⟨hA 11 (free_of rfl), trivial⟩ (fun e2 => ?_)
      refine m_int rfl rfl ?_
      refine o_nil ⟨Keep.refl _ _, rfl⟩
    | 1, _, hl =>
      obtain rfl := Option.some.inj hl
      refine o_gen [(12, _)] ⟨hA 12 (free_of rfl), trivial⟩ (fun e2 => ?_)
      refine m_int rfl rfl ?_
      refine o_nil ⟨Keep.refl _ _, rfl⟩
    | 2, _, hl =>
      obtain rfl := Option.some.inj hl
      refine o_gen [(208, _), (209, _)] ⟨hD 0 (by decide) 208 rfl, hD 1 (by decide) 209 rfl, trivial⟩ (fun e2 => ?_)
      refine b_neq rfl rfl ?_
      refine o_nil ⟨Keep.refl _ _, by simp [rdo, updo, upd]⟩
    | 3, _, hl =>
      obtain rfl := Option.some.inj hl
      refine o_gen [(210, _)] ⟨hD 2 (by decide) 210 rfl, trivial⟩ (fun e2 => ?_)
      refine m_bool rfl rfl ?_
      refine o_nil ⟨Keep.refl _ _, rfl⟩
    | 4, _, hl =>
      obtain rfl := Option.some.inj hl
      refine o_gen [(13, _), (211, _)] ⟨hA 13 (free_of rfl), hD 3 (by decide) 211 rfl, trivial⟩ (fun e2 => ?_)
      refine g_yes rfl rfl ?_
      refine m_int rfl rfl ?_
      refine o_nil ⟨Keep.refl _ _, rfl⟩
    | 5, _, hl =>
      obtain rfl := Option.some.inj hl
      refine o_gen [(14, _), (211, _)] ⟨hA 14 (free_of rfl), hD 3 (by decide) 211 rfl, trivial⟩ (fun e2 => ?_)
      refine g_yes rfl rfl ?_
      refine m_int rfl rfl ?_
      refine o_nil ⟨Keep.refl _ _, rfl⟩
    | 6, _, hl =>
      obtain rfl := Option.some.inj hl
      refine o_gen [(211, _), (212, _), (213, _)] ⟨hD 3 (by decide) 211 rfl, hD 4 (by decide) 212 rfl, hD 5 (by decide) 213 rfl, trivial⟩ (fun e2 => ?_)
      refine g_yes rfl rfl ?_
      refine b_neq rfl rfl ?_
      refine o_nil ⟨Keep.refl _ _, by simp [rdo, updo, upd]⟩
    | 7, _, hl =>
      obtain rfl := Option.some.inj hl
      refine o_gen [(211, _), (214, _)] ⟨hD 3 (by decide) 211 rfl, hD 6 (by decide) 214 rfl, trivial⟩ (fun e2 => ?_)
      refine pick_f rfl rfl ?_
      refine o_nil ⟨Keep.refl _ _, rfl⟩
    | 8, _, hl =>
      obtain rfl := Option.some.inj hl
      refine o_gen [(215, _)] ⟨hD 7 (by decide) 215 rfl, trivial⟩ (fun e2 => ?_)
      refine m_bool rfl rfl ?_
      refine o_nil ⟨Keep.refl _ _, rfl⟩
    | 9, _, hl =>
      obtain rfl := Option.some.inj hl
      refine o_gen [(15, _), (216, _)] ⟨hA 15 (free_of rfl), hD 8 (by decide) 216 rfl, trivial⟩ (fun e2 => ?_)
      refine g_yes rfl rfl ?_
      refine m_int rfl rfl ?_
      refine o_nil ⟨Keep.refl _ _, rfl⟩
    | 10, _, hl =>
      obtain rfl := Option.some.inj hl
      refine o_gen [(16, _), (216, _)] ⟨hA 16 (free_of rfl), hD 8 (by decide) 216 rfl, trivial⟩ (fun e2 => ?_)
      refine g_yes rfl rfl ?_
      refine m_int rfl rfl ?_
      refine o_nil ⟨Keep.refl _ _, rfl⟩
    | 11, _, hl =>
      obtain rfl := Option.some.inj hl
      refine o_gen [(216, _), (217, _), (218, _)] ⟨hD 8 (by decide) 216 rfl, hD 9 (by decide) 217 rfl, hD 10 (by decide) 218 rfl, trivial⟩ (fun e2 => ?_)
      refine g_yes rfl rfl ?_
      refine b_neq rfl rfl ?_
      refine o_nil ⟨Keep.refl _ _, by simp [rdo, updo, upd]⟩
    | 12, _, hl =>
      obtain rfl := Option.some.inj hl
      refine o_gen [(216, _), (219, _)] ⟨hD 8 (by decide) 216 rfl, hD 11 (by decide) 219 rfl, trivial⟩ (fun e2 => ?_)
      refine pick_f rfl rfl ?_
      refine o_nil ⟨Keep.refl _ _, rfl⟩
    | 13, _, hl =>
      obtain rfl := Option.some.inj hl
      refine o_gen [(220, _)] ⟨hD 12 (by decide) 220 rfl, trivial⟩ (fun e2 => ?_)
      refine m_bool rfl rfl ?_
      refine o_nil ⟨Keep.refl _ _, rfl⟩
    | 14, _, hl =>
      obtain rfl := Option.some.inj hl
      refine o_gen [(17, _), (221, _)] ⟨hA 17 (free_of rfl), hD 13 (by decide) 221 rfl, trivial⟩ (fun e2 => ?_)
      refine g_yes rfl rfl ?_
      refine m_sl rfl rfl ?_
      refine o_nil ⟨Keep.refl _ _, rfl⟩
    | 15, _, hl =>
      obtain rfl := Option.some.inj hl
      refine o_gen [(18, _), (221, _)] ⟨hA 18 (free_of rfl), hD 13 (by decide) 221 rfl, trivial⟩ (fun e2 => ?_)
      refine g_yes rfl rfl ?_
      refine m_sl rfl rfl ?_
      refine o_nil ⟨Keep.refl _ _, rfl⟩
    | 16, _, hl =>
      obtain rfl := Option.some.inj hl
      refine o_gen [(221, _), (222, _), (223, _)] ⟨hD 13 (by decide) 221 rfl, hD 14 (by decide) 222 rfl, hD 15 (by decide) 223 rfl, trivial⟩ (fun e2 => ?_)
      refine g_yes rfl rfl ?_
      refine o_call rfl rfl (sameu_ok wA a10 a11 c10 c11 us us (hRa.new (hbase _ hL)) (hRb.new (hbase _ hL)) (by omega) (by omega)) (fun u w14 hu => ?_)
      obtain ⟨rfl, hK14⟩ := hu
      refine o_nil ⟨hK14, by simp [rdo, updo, upd]⟩
    | 17, _, hl =>
      obtain rfl := Option.some.inj hl
      refine o_gen [(221, _), (224, _)] ⟨hD 13 (by decide) 221 rfl, hD 16 (by decide) 224 rfl, trivial⟩ (fun e2 => ?_)
      refine g_yes rfl rfl ?_
      refine u_notb rfl ?_
      refine o_nil ⟨Keep.refl _ _, by simp [rdo, updo, upd]⟩
    | 18, _, hl =>
      obtain rfl := Option.some.inj hl
      refine o_gen [(221, _), (225, _)] ⟨hD 13 (by decide) 221 rfl, hD 17 (by decide) 225 rfl, trivial⟩ (fun e2 => ?_)
      refine pick_f rfl rfl ?_
      refine o_nil ⟨Keep.refl _ _, rfl⟩
    | 19, _, hl =>
      obtain rfl := Option.some.inj hl
      refine o_gen [(226, _)] ⟨hD 18 (by decide) 226 rfl, trivial⟩ (fun e2 => ?_)
      refine m_bool rfl rfl ?_
      refine o_nil ⟨Keep.refl _ _, rfl⟩
    | 20, _, hl =>
      obtain rfl := Option.some.inj hl
      refine o_gen [(5, _), (227, _)] ⟨hA 5 (free_of rfl), hD 19 (by decide) 227 rfl, trivial⟩ (fun e2 => ?_)
      refine g_yes rfl rfl ?_
      refine m_ptr rfl rfl ?_
      refine o_nil ⟨Keep.refl _ _, rfl⟩
    | 21, _, hl =>
      obtain rfl := Option.some.inj hl
      refine o_gen [(227, _), (228, _)] ⟨hD 19 (by decide) 227 rfl, hD 20 (by decide) 228 rfl, trivial⟩ (fun e2 => ?_)
      refine g_yes rfl rfl ?_
      refine o_call rfl rfl (words_ok kH9 wA hb xs lim M (hHP9.new (hbase _ hL)) hxl) (fun u w14 hu => ?_)
      obtain ⟨⟨a14, c14, rfl, hR14⟩, hK14⟩ := hu
      refine o_nil ⟨hK14, a14, c14, by simp [rdo, updo, upd], hR14⟩
    | 22, _, hl =>
      obtain rfl := Option.some.inj hl
      refine o_gen [(7, _), (227, _)] ⟨hA 7 (free_of rfl), hD 19 (by decide) 227 rfl, trivial⟩ (fun e2 => ?_)
      refine g_yes rfl rfl ?_
      refine m_ptr rfl rfl ?_
      refine o_nil ⟨Keep.refl _ _, rfl⟩
    | 23, _, hl =>
      obtain rfl := Option.some.inj hl
      refine o_gen [(227, _), (230, _)] ⟨hD 19 (by decide) 227 rfl, hD 22 (by decide) 230 rfl, trivial⟩ (fun e2 => ?_)
      refine g_yes rfl rfl ?_
      refine o_nilc rfl ?_
      refine o_nil ⟨Keep.refl _ _, rfl⟩
    | 24, _, hl =>
      obtain rfl := Option.some.inj hl
      refine o_gen [(227, _), (231, _)] ⟨hD 19 (by decide) 227 rfl, hD 23 (by decide) 231 rfl, trivial⟩ (fun e2 => ?_)
      refine g_yes rfl rfl ?_
      refine o_fld0 rfl rfl ?_
      refine o_nil ⟨Keep.refl _ _, rfl⟩
    | 25, _, hl =>
      obtain rfl := Option.some.inj hl
      refine o_gen [(227, _), (232, _)] ⟨hD 19 (by decide) 227 rfl, hD 24 (by decide) 232 rfl, trivial⟩ (fun e2 => ?_)
      refine g_yes rfl rfl ?_
      refine o_ld rfl rfl (hBR.kat (hbase _ hL) rfl) ?_
      refine o_nil ⟨Keep.refl _ _, rfl⟩
    | _ + 26, him, _ => exact absurd him (by omega)
  intro eA wA hL hA hV
  obtain ⟨a14, c14, h229, hR14⟩ := hV 21 (by decide) 229 rfl
  refine o_gen [(5, .pointer (some ⟨hb, 0, none⟩)), (7, .pointer (some ⟨rb, 0, none⟩)), (40, .slice (some ⟨b1, o1, none⟩) acts.length c), (41, .int .i64 (acts.length : Int)), (42, .int .i64 (m : Int)), (227, .bool false), (229, .slice a14 xs.length c14), (233, .slice aR xs.length cR)] ⟨hA 5 (free_of rfl), hA 7 (free_of rfl), hA 40 (free_of rfl), hA 41 (free_of rfl), hA 42 (free_of rfl), hV 19 (by decide) 227 rfl, h229, hV 25 (by decide) 233 rfl, trivial⟩ (fun e => ?_)
  have hLA := hbase _ hL
  refine o_false (t := 227) (p := False) rfl id ?_
  refine g_yes rfl rfl ?_
  refine o_call rfl rfl (samew_ok wA a14 aR c14 cR xs xs hR14 (hSR.new hLA).rd (by omega) (by omega)) (fun u w15 hu => ?_)
  obtain ⟨rfl, hK15⟩ := hu
  refine g_yes rfl rfl ?_
  refine u_not rfl ?_
  refine pick_f rfl rfl ?_
  refine o_nil ?_
  refine k_no rfl ((fun h => h rfl)) ?_
  refine k_skip ?_
  refine k_blk ?_
  refine k_region ?_
  refine n_add rfl rfl (by omega) ?_
  refine m_int rfl rfl ?_
  refine o_nil ?_
  refine k_goal ⟨m + 1, ⟨rfl, rfl, rfl, rfl, rfl, trivial⟩, ⟨by omega, xs, M, (hT9.new hLA).new hK15, hW9, hu9⟩, by omega⟩
end Go.Proofs.YtchbidckckmobaaDoor

/- NativePlays: its acts as an argument. No condition beyond what each lemma names. -/
namespace Go.Proofs.YtchbidckckmobaaDoor
open Go.RowKit E
set_option linter.unusedVariables false
set_option linter.unusedSimpArgs false
set_option maxRecDepth 100000
attribute [local irreducible] ow qw kw kq cw opW Ret
theorem nact_of {H : Type} {enc : TypeId × Value → H} {W : World} {cs : List Value} (h : Tr enc Tryd.prog W 90 cs) (hl : cs.length = 8) : ∃ x : NAct, nactC x = cs ∧ NActOk W x := by
  have ht := h.any
  obtain ⟨x0, h0, r0⟩ := fld_int (P := Tryd.prog) (i := 0) ht Tryd.underlying90 rfl (by kernel_rfl) Tryd.underlying5
  obtain ⟨x1, h1, r1⟩ := fld_int (P := Tryd.prog) (i := 1) ht Tryd.underlying90 rfl (by kernel_rfl) Tryd.underlying3
  obtain ⟨x3, h3, r3⟩ := fld_int (P := Tryd.prog) (i := 3) ht Tryd.underlying90 rfl (by kernel_rfl) Tryd.underlying3
  obtain ⟨x4, h4, r4⟩ := fld_int (P := Tryd.prog) (i := 4) ht Tryd.underlying90 rfl (by kernel_rfl) Tryd.underlying3
  obtain ⟨x5, h5, r5⟩ := fld_int (P := Tryd.prog) (i := 5) ht Tryd.underlying90 rfl (by kernel_rfl) Tryd.underlying2
  obtain ⟨x6, h6, r6⟩ := fld_int (P := Tryd.prog) (i := 6) ht Tryd.underlying90 rfl (by kernel_rfl) Tryd.underlying2
  obtain ⟨x7, h7, r7⟩ := fld_int (P := Tryd.prog) (i := 7) ht Tryd.underlying90 rfl (by kernel_rfl) Tryd.underlying2
  obtain ⟨a, len, cap, zs, g1, g2, g4⟩ := (h.fld (P := Tryd.prog) (i := 2) Tryd.underlying90 rfl (by kernel_rfl)).row (k := .u16) (e := 47) Tryd.underlying77 Tryd.underlying47 (by kernel_rfl)
  obtain ⟨us, g5, g6, g7, g8⟩ := row_u16 g2
  rw [show Tryd.prog.bytesOf 47 = 2 from by kernel_rfl] at g4
  replace g1 := take1 g1
  simp only [IntKind.min, IntKind.max, IntKind.signed, IntKind.bits] at r0 r1 r5 r6 r7
  have hb : ∃ b : BitVec 8, x0 = (b.toNat : Int) := ⟨BitVec.ofInt 8 x0, by revert r0; simp [BitVec.toNat_ofInt] <;> omega⟩
  obtain ⟨b, rfl⟩ := hb
  refine ⟨⟨b, x1, a, cap, us, x3, x4, x5, x6, x7⟩, ?_, ⟨g8, by dsimp only; omega, by revert r1; simp, by revert r5; simp, by revert r6; simp, by revert r7; simp⟩⟩
  match cs, hl with
  | [c0, c1, c2, c3, c4, c5, c6, c7], _ =>
    cases h0; cases h1; cases g1; cases h3; cases h4; cases h5; cases h6; cases h7
    show [_, _, Value.slice a us.length cap, _, _, _, _, _] = _
    rw [g5]
    rfl
theorem nacts_of {H : Type} {enc : TypeId × Value → H} {W : World} : ∀ {css : List (List Value)}, (∀ cs ∈ css, cs.length = 8) → (∀ cs ∈ css, Tr enc Tryd.prog W 90 cs) → ∃ l : List NAct, l.length = css.length ∧ l.map nactC = css ∧ ∀ x ∈ l, NActOk W x
  | [], _, _ => ⟨[], rfl, rfl, by simp⟩
  | cs :: css, h1, h2 => by
    obtain ⟨x, hx, hb⟩ := nact_of (h2 cs (by simp)) (h1 cs (by simp))
    obtain ⟨l, hl, hr, hB⟩ := nacts_of (css := css) (fun c hc => h1 c (by simp [hc])) (fun c hc => h2 c (by simp [hc]))
    exact ⟨x :: l, by simp [hl], by simp [hx, hr], fun y hy => (List.mem_cons.1 hy).elim (fun e => e ▸ hb) (hB y)⟩
end Go.Proofs.YtchbidckckmobaaDoor
