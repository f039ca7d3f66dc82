/- Ops: the walk of OpsJoins. No condition beyond what its contract names. -/
import Derived.Test.YtmdkinedbmjieaaOr
namespace Go.Proofs.Ytmdkinedbmjieaa
open Go.RowKit E
set_option linter.unusedVariables false
set_option linter.unusedSimpArgs false
set_option maxRecDepth 100000
attribute [local irreducible] ow qw kw kq cw opW Ret
theorem GS.low {base : Nat} {w : World} {v : Value} {xs : List Int} (h : GS base w v xs) : GS 0 w v xs := by
  obtain ⟨a, c, h1, h2, _⟩ := h; exact ⟨a, c, h1, h2, fun _ _ => Nat.zero_le _⟩
theorem GS.new {w w' : World} {v : Value} {xs : List Int} (h : GS 0 w v xs) (hk : Keep [] w w') : GS 0 w' v xs := h.keep hk (by simp)
theorem Rows.one {w : World} {vs : List Value} {xs : List Ins} (h : Rows (GR w) vs xs) : ∀ u ∈ vs, u.oneCell' = true := by
  induction h with
  | nil => intro u hu; cases hu
  | cons h1 _ ih =>
    intro u hu
    rcases List.mem_append.1 hu with hu | hu
    · exact h1.oneR u hu
    · exact ih u hu
/-- the rows stay where a row of instructions is turned -/
theorem Rows.aside {w w' : World} {a : Option Addr} {m c : Nat} {us vs : List Value} {xs : List Ins} (h : Rows (GS 0 w) vs xs) (hs : Sl w 38 7 a m c us) (hk : Keep (blkOf a) w w') : Rows (GS 0 w') vs xs :=
  h.mono fun v l hv => hv.keep hk (fun b hb => .inr fun cs hB => by
    rcases hs.2 with ⟨rfl, _⟩ | ⟨g, cur, rfl, hg, _⟩
    · simp [blkOf] at hb
    · simp [blkOf] at hb
      subst hb
      exact absurd (hB.ty hg) (by decide))
theorem places_len {n : Nat} {xs : List Ins} {f : Nat → Nat} {Q : Nat → Ins → Prop} (ff : ∀ (i : Nat) (x : Ins), xs[i]? = some x → x.p = (f i : Int) ∧ 1 ≤ x.len ∧ (f (i + 1) : Int) = f i + x.len ∧ Q i x) (hn : f xs.length ≤ n) : xs.length ≤ n := by
  have : ∀ i, i ≤ xs.length → i ≤ f i := by
    intro i
    induction i with
    | zero => intro _; exact Nat.zero_le _
    | succ i ih =>
      intro hi
      have := places_lt (n := 0) (fun i x hx => ⟨(ff i x hx).1, (ff i x hx).2.1, (ff i x hx).2.2.1⟩) (i + 1) i (by omega) hi
      have := ih (by omega)
      omega
  have := this _ (Nat.le_refl _)
  omega
theorem jumps_le {cs : Bs} (h : rdE cs = 0) : ∀ x ∈ rdV cs, x.jumps.length ≤ 5000 := by
  obtain ⟨h4, _, hrf, _⟩ := rd_in h
  obtain ⟨f, f0, fn, ff⟩ := rdFrom_places _ 0 (Nat.zero_le _) hrf
  intro x hx
  obtain ⟨i, hi⟩ := List.getElem?_of_mem hx
  obtain ⟨_, _, _, h1, h2⟩ := ff i x hi
  unfold rdOne at h1
  split at h1
  next hok =>
    obtain rfl := Option.some.inj h1
    have hw := wayOf_le (opAt cs (f i))
    generalize wayOf (opAt cs (f i)) = w at hok hw
    match w, hw with
    | 0, _ | 1, _ | 2, _ | 3, _ | 4, _ | 5, _ | 6, _ | 7, _ | 10, _ => simp [oneIs]
    | 8, _ => simp only [oneIs, oneOk, tabJumps_len] at *; omega
    | 9, _ => simp only [oneIs, oneOk, lukJumps_len] at *; omega
    | n + 11, h => omega
  next => cases h1
set_option maxHeartbeats 2000000 in
theorem joins_ok (w : World) (a a1 : Option Addr) (n c m c1 : Nat) (cs bs : Bs) (hn : cs.length = n) (hR : Rd w a (cs.map u8v)) (hc : n ≤ c) (hl : c ≤ 9223372036854775807) (hby : c ≤ 140737488351232) (hm : bs.length = m) (hR1 : Rd w a1 (bs.map u8v)) (hc1 : m ≤ c1) (hl1 : c1 ≤ 9223372036854775807) (hby1 : c1 ≤ 140737488351232) :
    Ret Try.prog 7 [.slice a n c, .slice a1 m c1] w (fun v w' => v = .bool true ∧ Keep [] w w') := by
  subst hn hm
  refine fn_enter (n := 113) Try.func7 rfl rfl (Nat.le_of_ble_eq_true rfl) (fun e => ?_)
  refine k_seq ?_
  refine k_region ?_
  refine m_bool rfl rfl ?_
  refine o_nil ?_
  refine k_seq ?_
  refine k_seq ?_
  refine k_region ?_
  refine o_call rfl rfl (fixed_ok w) (fun v w1 hv => ?_)
  obtain ⟨rfl, hK1⟩ := hv
  refine u_notb rfl ?_
  refine o_nil ?_
  refine k_condf rfl ?_
  refine k_skip ?_
  refine k_seq ?_
  refine k_region ?_
  refine m_sl rfl rfl ?_
  refine o_call rfl rfl (read_ok w1 a c cs (hR.new hK1) hc (by omega)) (fun v w2 hv => ?_)
  obtain ⟨a5, c5, vs5, rfl, hS5, hX5, hf5, hK2⟩ := hv
  refine m_any rfl rfl ?_
  refine o_extr rfl rfl ?_
  refine o_extr rfl rfl ?_
  refine m_sl rfl rfl ?_
  refine m_int rfl rfl ?_
  refine o_nil ?_
  refine k_seq ?_
  refine k_region ?_
  refine m_sl rfl rfl ?_
  refine o_call rfl rfl (read_ok w2 a1 c1 bs (hR1.new (hK1.tr hK2)) hc1 (by omega)) (fun v w3 hv => ?_)
  obtain ⟨a7, c7, vs7, rfl, hS7, hX7, hf7, hK3⟩ := hv
  have hK03 := (hK1.tr hK2).tr hK3
  have hS5' := hS5.new hK3
  have hX5' : Rows (GS 0 w3) vs5 (rdV cs) := hX5.mono fun v l hv => hv.low.new hK3
  have hX7' : Rows (GS 0 w3) vs7 (rdV bs) := hX7.mono fun v l hv => hv.low
  refine m_any rfl rfl ?_
  refine o_extr rfl rfl ?_
  refine o_extr rfl rfl ?_
  refine m_sl rfl rfl ?_
  refine m_int rfl rfl ?_
  refine o_nil ?_
  refine k_seq ?_
  refine k_seq ?_
  refine k_region ?_
  refine m_int rfl rfl ?_
  refine b_neq rfl rfl ?_
  refine m_bool rfl rfl ?_
  refine o_split (t := 33) rfl (fun h => ?_) (fun h => ?_)
  ·
    refine g_no rfl rfl rfl ?_
    refine g_no rfl rfl rfl ?_
    refine pick_t rfl rfl ?_
    refine m_bool rfl rfl ?_
    refine g_no rfl rfl rfl ?_
    refine g_no rfl rfl rfl ?_
    refine g_no rfl rfl rfl ?_
    refine g_no rfl rfl rfl ?_
    refine g_no rfl rfl rfl ?_
    refine g_no rfl rfl rfl ?_
    refine pick_t rfl rfl ?_
    refine o_nil ?_
    refine k_condt rfl ?_
    refine k_seq ?_
    refine k_region ?_
    refine m_bool rfl rfl ?_
    refine o_nil ?_
    refine k_ret (ret_tmps (ts := [4]) (v := .bool _) rfl rfl ?_)
    exact ⟨rfl, hK03⟩
  ·
    have hEa : rdE cs = 0 := Decidable.of_not_not h
    refine g_yes rfl rfl ?_
    refine m_int rfl rfl ?_
    refine g_yes rfl rfl ?_
    refine b_neq rfl rfl ?_
    refine pick_f rfl rfl ?_
    refine m_bool rfl rfl ?_
    refine o_split (t := 37) rfl (fun h => ?_) (fun h => ?_)
    ·
      refine g_no rfl rfl rfl ?_
      refine g_no rfl rfl rfl ?_
      refine g_no rfl rfl rfl ?_
      refine g_no rfl rfl rfl ?_
      refine g_no rfl rfl rfl ?_
      refine g_no rfl rfl rfl ?_
      refine pick_t rfl rfl ?_
      refine o_nil ?_
      refine k_condt rfl ?_
      refine k_seq ?_
      refine k_region ?_
      refine m_bool rfl rfl ?_
      refine o_nil ?_
      refine k_ret (ret_tmps (ts := [4]) (v := .bool _) rfl rfl ?_)
      exact ⟨rfl, hK03⟩
    ·
      have hEb : rdE bs = 0 := Decidable.of_not_not h
      refine g_yes rfl rfl ?_
      refine m_sl rfl rfl ?_
      refine g_yes rfl rfl ?_
      refine o_lens Try.underlying22 rfl ?_
      refine g_yes rfl rfl ?_
      refine m_sl rfl rfl ?_
      refine g_yes rfl rfl ?_
      refine o_lens Try.underlying22 rfl ?_
      refine g_yes rfl rfl ?_
      refine n_add rfl rfl (by omega) ?_
      refine g_yes rfl rfl ?_
      refine b_gtr rfl rfl ?_
      refine pick_f rfl rfl ?_
      refine o_nil ?_
      refine k_cond rfl (fun h => ?_) (fun h => ?_)
      ·
        refine k_seq ?_
        refine k_region ?_
        refine m_bool rfl rfl ?_
        refine o_nil ?_
        refine k_ret (ret_tmps (ts := [4]) (v := .bool _) rfl rfl ?_)
        exact ⟨rfl, hK03⟩
      have h4 : cs.length + bs.length ≤ 4096 := by omega
      obtain ⟨_, _, hra, hna, hla⟩ := rd_in hEa
      obtain ⟨_, _, hrb, hnb, hlb⟩ := rd_in hEb
      obtain ⟨fa, fa0, fan, ffa⟩ := rdFrom_places _ 0 (Nat.zero_le _) hra
      obtain ⟨fb, fb0, fbn, ffb⟩ := rdFrom_places _ 0 (Nat.zero_le _) hrb
      have hlenA : (rdV cs).length ≤ cs.length := places_len ffa (by omega)
      have hlenB : (rdV bs).length ≤ bs.length := places_len ffb (by omega)
      have hpB : ∀ t, t ∈ (rdV bs).map Ins.p → 0 ≤ t ∧ t < 4096 := by
       intro t ht
       obtain ⟨x, hx, rfl⟩ := List.mem_map.1 ht
       obtain ⟨i, hi⟩ := List.getElem?_of_mem hx
       have := ffb i x hi
       omega
      refine k_skip ?_
      refine k_seq ?_
      refine k_seq ?_
      refine k_region ?_
      refine m_sl rfl rfl ?_
      refine o_lens Try.underlying24 rfl ?_
      refine m_int rfl rfl ?_
      refine o_nil ?_
      refine k_block ?_
      refine k_loop (σ := Nat) (fun i => [(0, .slice a cs.length c), (1, .slice a1 bs.length c1), (5, .slice a5 (rdV cs).length c5), (7, .slice a7 (rdV bs).length c7), (45, .slice a7 (rdV bs).length c7), (46, .int .i64 ((rdV bs).length : Int)), (47, .int .i64 (i : Int))]) (fun i w' => i ≤ (rdV bs).length ∧ (∀ j y, j < i → (rdV bs)[j]? = some y → y.op ≠ 170 ∧ y.op ≠ 171) ∧ Keep [] w3 w') (fun i => (rdV bs).length - i) 0 ⟨rfl, rfl, rfl, rfl, rfl, rfl, rfl, trivial⟩ ⟨Nat.zero_le _, fun j y hj => by omega, Keep.refl _ _⟩ (fun i e w4 hJ => ?_)
      obtain ⟨hi, hno, hK4⟩ := hJ
      have hK04 := hK03.tr hK4
      refine k_seq ?_
      refine k_region ?_
      refine b_lss rfl rfl ?_
      refine o_nil ?_
      refine k_seq ?_
      refine k_cond rfl (fun h => ?_) (fun h => ?_)
      rotate_left
      ·
        have hnob : ∀ y ∈ rdV bs, y.op ≠ 170 ∧ y.op ≠ 171 := fun y hy => by
         obtain ⟨j, hj⟩ := List.getElem?_of_mem hy
         exact hno j y (by have := (List.getElem?_eq_some_iff.1 hj).1; omega) hj
        have hjoin := rd_join hEa hEb h4 hnob
        refine k_exit rfl ?_
        refine k_seq ?_
        refine k_region ?_
        refine o_bsl (E := 5) (cs := #[]) rfl (fun _ => by kernel_rfl) (fun g w5 hB5 hK5 hb5 hZ5 => ?_)
        refine m_sl rfl rfl ?_
        refine o_app Try.underlying22 inf5 rfl (by decide) rfl rfl (hB5.sl (sz := 1) (len := 0) rfl (by decide)) (hR.new (hK04.tr hK5)) (by simp) (u8_one cs) (by simp [maxLen]; omega) (by omega) (fun a6 c6 w6 hS6 hK6 hv6 => ?_)
        have hK06 : Keep [] w w6 := (hK04.tr hK5).trb hK6 (by intro p hp; cases hp; have := hK04.size; simp; omega)
        have hf6 := fresh_app (k := w5.heap.size - 1) (w := w5) (w' := w6) (a := some ⟨g, 0, none⟩) (a2 := a6) (by intro p hp; cases hp; simp; omega) (by omega) hv6
        refine m_sl rfl rfl ?_
        refine o_app Try.underlying22 inf5 rfl (by decide) rfl rfl hS6 (hR1.new hK06) (by simp) (u8_one bs) (by simp [maxLen]; omega) (by omega) (fun a8 c8 w8 hS8 hK8 hv8 => ?_)
        have hK58 : Keep [] w4 w8 := (hK5.trb hK6 (by intro p hp; cases hp; simp; omega)).trb hK8 (by intro p hp; have := hf6 p hp; omega)
        have hK08 := hK04.tr hK58
        have hR8 : Rd w8 a8 ((cs ++ bs).map u8v) := by have := hS8.rd; rwa [Array.toList_empty, List.nil_append, ← List.map_append] at this
        have hl8 : (cs ++ bs).length = cs.length + bs.length := List.length_append
        rw [show 0 + cs.length + bs.length = (cs ++ bs).length by omega] at hS8
        rw [show 0 + cs.length + bs.length = (cs ++ bs).length by omega]
        refine o_call rfl rfl (read_ok w8 a8 c8 (cs ++ bs) hR8 hS8.le (by omega)) (fun v w9 hv => ?_)
        obtain ⟨a11, c11, vs11, rfl, hS11, hX11, hf11, hK9⟩ := hv
        rw [hjoin.1] at hS11 hX11
        rw [hjoin.1, hjoin.2]
        have hK39 : Keep [] w3 w9 := (hK4.tr hK58).tr hK9
        have hX11' : Rows (GS 0 w9) vs11 (rdV cs ++ (rdV bs).map (shf cs.length)) := hX11.mono fun v l hv => hv.low
        refine m_any rfl rfl ?_
        refine o_extr rfl rfl ?_
        refine o_extr rfl rfl ?_
        refine m_sl rfl rfl ?_
        refine m_int rfl rfl ?_
        refine o_nil ?_
        refine k_seq ?_
        refine k_region ?_
        refine o_bsl (E := 38) (cs := #[]) rfl (fun _ => by kernel_rfl) (fun g2 w10 hB10 hK10 hb10 hZ10 => ?_)
        refine m_sl rfl rfl ?_
        refine o_app Try.underlying24 inf38 rfl (by decide) rfl rfl (hB10.sl (sz := 7) (len := 0) rfl (by decide)) (hS5'.rd.new (hK39.tr hK10)) (by rw [hX5'.len]) (Rows.one (hX5'.mono fun v l hv => hv.gr)) (by simp [maxLen]; omega) (by omega) (fun a13 c13 w11 hS13 hK11 hv13 => ?_)
        have hK911 : Keep [] w9 w11 := hK10.trb hK11 (by intro p hp; cases hp; simp; omega)
        have hf13 := fresh_app (k := w9.heap.size) (w := w10) (w' := w11) (a := some ⟨g2, 0, none⟩) (a2 := a13) (by intro p hp; cases hp; simp; omega) (by omega) hv13
        have hS13' : Sl w11 38 7 a13 (rdV cs).length c13 vs5 := by have := hS13; rwa [Array.toList_empty, List.nil_append, Nat.zero_add] at this
        rw [show 0 + (rdV cs).length = (rdV cs).length by omega]
        have hX13 : Rows (GS 0 w11) vs5 (rdV cs) := hX5'.mono fun v l hv => hv.new (hK39.tr hK911)
        refine m_sl rfl rfl ?_
        refine o_nil ?_
        refine k_seq ?_
        refine k_seq ?_
        refine k_region ?_
        refine m_sl rfl rfl ?_
        refine o_lens Try.underlying24 rfl ?_
        refine m_int rfl rfl ?_
        refine o_nil ?_
        refine k_block ?_
        refine k_loop (σ := Nat × Option Addr × Nat × List Value) (fun s => [(0, .slice a cs.length c), (11, .slice a11 (rdV cs ++ (rdV bs).map (shf cs.length)).length c11), (12, .int .i64 0), (13, .slice s.2.1 ((rdV cs).length + s.1) s.2.2.1), (72, .slice a7 (rdV bs).length c7), (73, .int .i64 ((rdV bs).length : Int)), (74, .int .i64 (s.1 : Int))]) (fun s w' => s.1 ≤ (rdV bs).length ∧ Sl w' 38 7 s.2.1 ((rdV cs).length + s.1) s.2.2.1 s.2.2.2 ∧ Rows (GS 0 w') s.2.2.2 (rdV cs ++ ((rdV bs).take s.1).map (shf cs.length)) ∧ (∀ z, s.2.1 = some z → w9.heap.size ≤ z.block) ∧ Keep [] w9 w') (fun s => (rdV bs).length - s.1) (0, a13, c13, vs5) ⟨rfl, rfl, rfl, rfl, rfl, rfl, rfl, trivial⟩ ⟨Nat.zero_le _, hS13', by simpa using hX13, hf13, hK911⟩ (fun s e w12 hJ => ?_)
        obtain ⟨i2, a12, c12, vs12⟩ := s
        obtain ⟨hi2, hS12, hX12, hf12, hK12⟩ := hJ
        change kw _ _ _ _ (ovr [(0, .slice a cs.length c), (11, .slice a11 (rdV cs ++ (rdV bs).map (shf cs.length)).length c11), (12, .int .i64 0), (13, .slice a12 ((rdV cs).length + i2) c12), (72, .slice a7 (rdV bs).length c7), (73, .int .i64 ((rdV bs).length : Int)), (74, .int .i64 (i2 : Int))] e) w12
        simp only at hi2 hS12 hX12 hf12 hK12
        have hK012 := (hK03.tr hK39).tr hK12
        refine k_seq ?_
        refine k_region ?_
        refine b_lss rfl rfl ?_
        refine o_nil ?_
        refine k_seq ?_
        refine k_cond rfl (fun h => ?_) (fun h => ?_)
        rotate_left
        ·
          have hie : i2 = (rdV bs).length := by omega
          subst hie
          rw [List.take_length] at hX12
          have hlj : (rdV cs ++ (rdV bs).map (shf cs.length)).length = (rdV cs).length + (rdV bs).length := by simp
          refine k_exit rfl ?_
          refine k_seq ?_
          refine k_region ?_
          refine m_int rfl rfl ?_
          refine b_eql rfl rfl ?_
          refine m_bool rfl rfl ?_
          refine o_true (t := 108) rfl (rfl) ?_
          refine g_yes rfl rfl ?_
          refine m_sl rfl rfl ?_
          refine g_yes rfl rfl ?_
          refine m_sl rfl rfl ?_
          refine g_yes rfl rfl ?_
          refine o_call rfl (show _ = [Value.slice a11 (rdV cs ++ (rdV bs).map (shf cs.length)).length c11, .slice a12 (rdV cs ++ (rdV bs).map (shf cs.length)).length c12] by rw [hlj]; rfl) (rsame_ok w12 a11 a12 c11 c12 vs11 vs12 _ _ (hS11.rd.new hK12) (hX11'.mono fun v l hv => (hv.new hK12).gr) hS12.rd (hX12.mono fun v l hv => hv.gr) (by omega) (by omega)) (fun v w13 hv => ?_)
          obtain ⟨rfl, hK13⟩ := hv
          refine pick_t rfl rfl ?_
          refine m_bool rfl rfl ?_
          refine o_nil ?_
          refine k_ret (ret_tmps (ts := [4]) (v := .bool _) rfl rfl ?_)
          exact ⟨congrArg Value.bool (decide_eq_true rfl), hK012.tr hK13⟩
        have hin : i2 < (rdV bs).length := by omega
        obtain ⟨x, hx⟩ : ∃ x, (rdV bs)[i2]? = some x := ⟨_, List.getElem?_eq_getElem hin⟩
        have hxe : (rdV bs).take (i2 + 1) = (rdV bs).take i2 ++ [x] := by
         rw [List.take_succ_eq_append_getElem hin]
         rw [List.getElem?_eq_getElem hin] at hx
         rw [Option.some.inj hx]
        have hxp := ffb i2 x hx
        have hjl := jumps_le hEb x (List.mem_of_getElem? hx)
        obtain ⟨cx, hcx, hatx⟩ := (hX7'.mono fun v l hv => hv.new (hK39.tr hK12)).get hx
        have h7 := hcx.len
        obtain ⟨v0, hv0⟩ : ∃ v0, cx[0]? = some v0 := ⟨_, List.getElem?_eq_getElem (by omega)⟩
        have hRA := hS7.rd
        obtain ⟨b1, o1, hae, _⟩ := hRA _ _ (hatx 0 v0 hv0)
        subst hae
        refine k_skip ?_
        refine k_seq ?_
        refine k_block ?_
        refine k_seq ?_
        refine k_region ?_
        refine o_ixs (sz := 7) Try.underlying24 rfl rfl rfl hin ?_
        have hld : ∀ j v, cx[j]? = some v → w12.cell? ⟨b1, o1 + i2 * 7 + j, none⟩ = some v := fun j v hv => by rw [Nat.add_assoc]; exact hRA.cellK (hK39.tr hK12) (hatx j v hv)
        refine o_lda (xs := cx) rfl rfl (by rw [h7]; rfl) hld ?_
        refine o_alloc inf38 rfl (fun b w13 hB13 hK13 hb13 hZ13 => ?_)
        refine o_sta (xs := cx) rfl rfl (by rw [h7]; rfl) hcx.one hB13 (by rw [h7]; exact Nat.le_refl 7) (fun w14 hB14 hK14 hZ14 => ?_)
        have hB14' : Blk w14 b (([] ++ cx) ++ []).toArray 38 := by rw [h7] at hB14; exact hB14
        rw [List.nil_append, List.append_nil] at hB14'
        have hK1214 : Keep [] w12 w14 := hK13.trans hK14 (by simp; omega)
        obtain ⟨kv, jv, hce, hkv0, hjv⟩ := hcx
        obtain ⟨ak, ck, hke, hSk, hbk⟩ := hkv0
        subst hke hce
        have hkv : GS 0 w12 (.slice ak x.keys.length ck) x.keys := ⟨ak, ck, rfl, hSk, hbk⟩
        refine o_nil ?_
        refine k_seq ?_
        refine k_region ?_
        refine o_fld0 rfl rfl ?_
        refine o_ld (v := iv x.p) rfl rfl (hB14'.at rfl) ?_
        refine m_sl rfl rfl ?_
        refine o_lens Try.underlying22 rfl ?_
        refine n_add rfl rfl (by omega) ?_
        refine o_fld0 rfl rfl ?_
        refine o_st (v := iv (x.p + cs.length)) rfl rfl rfl rfl hB14' (show 0 < 7 by decide) (fun w15 hB15 hK15 hZ15 => ?_)
        have hB15' : Blk w15 b #[iv (x.p + cs.length), iv x.len, iv x.op, iv x.a, iv x.b, .slice ak x.keys.length ck, jv] 38 := hB15
        have hK1215 : Keep [] w12 w15 := hK1214.trans hK15 (by simp; omega)
        have hkv15 := hkv.new hK1215
        have hjv15 := hjv.new hK1215
        obtain ⟨aj, cj, hje, hSj, _⟩ := hjv15
        refine o_nil ?_
        refine k_seq ?_
        refine k_region ?_
        refine m_sl rfl rfl ?_
        refine o_nil ?_
        refine k_seq ?_
        refine k_seq ?_
        refine k_region ?_
        refine o_fld (off := 6) rfl rfl ?_
        refine o_ld (v := .slice aj x.jumps.length cj) rfl rfl (hB15'.at (by rw [← hje]; rfl)) ?_
        refine o_lens Try.underlying36 rfl ?_
        refine m_int rfl rfl ?_
        refine o_nil ?_
        refine k_block ?_
        refine k_loop (σ := Nat × Option Addr × Nat) (fun s => [(0, .slice a cs.length c), (11, .slice a11 (rdV cs ++ (rdV bs).map (shf cs.length)).length c11), (12, .int .i64 0), (13, .slice a12 ((rdV cs).length + i2) c12), (15, .pointer (some ⟨b, 0, none⟩)), (16, .slice s.2.1 s.1 s.2.2), (72, .slice (some ⟨b1, o1, none⟩) (rdV bs).length c7), (73, .int .i64 ((rdV bs).length : Int)), (74, .int .i64 (i2 : Int)), (85, .slice aj x.jumps.length cj), (86, .int .i64 (x.jumps.length : Int)), (87, .int .i64 (s.1 : Int))]) (fun s w' => s.1 ≤ x.jumps.length ∧ Sl w' 3 1 s.2.1 s.1 s.2.2 (((x.jumps.take s.1).map (· + (cs.length : Int))).map iv) ∧ (∀ z, s.2.1 = some z → w15.heap.size ≤ z.block) ∧ Keep [] w15 w') (fun s => x.jumps.length - s.1) (0, none, 0) ⟨rfl, rfl, rfl, rfl, rfl, rfl, rfl, rfl, rfl, rfl, rfl, rfl, trivial⟩ ⟨Nat.zero_le _, Sl.nil _ _ _, by simp, Keep.refl _ _⟩ (fun s e w16 hJ => ?_)
        obtain ⟨k3, a16, c16⟩ := s
        obtain ⟨hk3, hS16, hf16, hK16⟩ := hJ
        change kw _ _ _ _ (ovr [(0, .slice a cs.length c), (11, .slice a11 (rdV cs ++ (rdV bs).map (shf cs.length)).length c11), (12, .int .i64 0), (13, .slice a12 ((rdV cs).length + i2) c12), (15, .pointer (some ⟨b, 0, none⟩)), (16, .slice a16 k3 c16), (72, .slice (some ⟨b1, o1, none⟩) (rdV bs).length c7), (73, .int .i64 ((rdV bs).length : Int)), (74, .int .i64 (i2 : Int)), (85, .slice aj x.jumps.length cj), (86, .int .i64 (x.jumps.length : Int)), (87, .int .i64 (k3 : Int))] e) w16
        simp only at hk3 hS16 hf16 hK16
        have hB16 := hB15'.keep hK16 (by simp)
        refine k_seq ?_
        refine k_region ?_
        refine b_lss rfl rfl ?_
        refine o_nil ?_
        refine k_seq ?_
        refine k_cond rfl (fun h => ?_) (fun h => ?_)
        rotate_left
        ·
          have hke : k3 = x.jumps.length := by omega
          subst hke
          rw [List.take_length] at hS16
          refine k_exit rfl ?_
          refine k_seq ?_
          refine k_region ?_
          refine m_sl rfl rfl ?_
          refine o_fld (off := 6) rfl rfl ?_
          refine o_st (v := .slice a16 x.jumps.length c16) rfl rfl rfl rfl hB16 (show 6 < 7 by decide) (fun w17 hB17 hK17 hZ17 => ?_)
          have hB17' : Blk w17 b #[iv (x.p + cs.length), iv x.len, iv x.op, iv x.a, iv x.b, .slice ak x.keys.length ck, .slice a16 x.jumps.length c16] 38 := hB17
          have hb12 : w12.heap.size ≤ b := by omega
          have hK1217 : Keep [] w12 w17 := (hK1215.tr hK16).trans hK17 (by simp; omega)
          have hS16' : Sl w17 3 1 a16 x.jumps.length c16 ((x.jumps.map (· + (cs.length : Int))).map iv) := hS16.keep hK17 (hS16.off hB16 (by decide))
          have hkv17 : GS 0 w17 (.slice ak x.keys.length ck) x.keys := hkv.new hK1217
          have hX17 : Rows (GS 0 w17) vs12 (rdV cs ++ ((rdV bs).take i2).map (shf cs.length)) := hX12.mono fun v l hv => hv.new hK1217
          have hS17 := hS12.new hK1217
          have hnew : insC (GS 0 w17) [iv (x.p + cs.length), iv x.len, iv x.op, iv x.a, iv x.b, .slice ak x.keys.length ck, .slice a16 x.jumps.length c16] (shf cs.length x) :=
           ⟨_, _, rfl, hkv17, ⟨a16, c16, by simp [shf], by simpa [shf] using hS16', fun _ _ => Nat.zero_le _⟩⟩
          refine o_nil ?_
          refine k_region ?_
          refine m_sl rfl rfl ?_
          refine o_lda (xs := [iv (x.p + cs.length), iv x.len, iv x.op, iv x.a, iv x.b, .slice ak x.keys.length ck, .slice a16 x.jumps.length c16]) rfl rfl rfl (fun j v hv => by rw [Nat.zero_add]; exact hB17'.at (by simpa using hv)) ?_
          refine o_bsl (E := 38) (cs := #[iv (x.p + cs.length), iv x.len, iv x.op, iv x.a, iv x.b, .slice ak x.keys.length ck, .slice a16 x.jumps.length c16]) rfl (fun _ => by kernel_rfl) (fun g18 w18 hB18 hK18 hb18 hZ18 => ?_)
          refine o_app Try.underlying24 inf38 rfl (by decide) rfl rfl (hS17.new hK18) hB18.rd rfl hnew.one (by simp [maxLen]; omega) (by omega) (fun a19 c19 w19 hS19 hK19 hv19 => ?_)
          have hf19 := fresh_app (k := w9.heap.size) (w := w18) (w' := w19) (a := a12) (a2 := a19) hf12 (by have := hK12.size; have := hK1217.size; omega) hv19
          have hX18 : Rows (GS 0 w18) (vs12 ++ [iv (x.p + cs.length), iv x.len, iv x.op, iv x.a, iv x.b, .slice ak x.keys.length ck, .slice a16 x.jumps.length c16]) (rdV cs ++ ((rdV bs).take (i2 + 1)).map (shf cs.length)) := by
           rw [hxe, List.map_append, ← List.append_assoc]
           exact (hX17.snoc hnew).mono fun v l hv => hv.new hK18
          refine m_sl rfl rfl ?_
          refine o_nil ?_
          refine k_blk ?_
          refine k_region ?_
          refine n_add rfl rfl (by omega) ?_
          refine m_int rfl rfl ?_
          refine o_nil ?_
          refine k_goal ⟨(i2 + 1, a19, c19, _), ⟨rfl, rfl, rfl, rfl, rfl, rfl, rfl, trivial⟩, ⟨by simp only; omega, hS19, hX18.aside (hS17.new hK18) hK19, hf19, ((hK12.tr hK1217).tr hK18).trb hK19 hf12⟩, by simp only; omega⟩
        have hkn : k3 < x.jumps.length := by omega
        have hkx := iv_at x.jumps k3 hkn
        obtain ⟨bj, oj, hje2, _⟩ := hSj.rd _ _ hkx
        subst hje2
        have htb := hpB _ (hlb x (List.mem_of_getElem? hx) (x.jumps[k3]) (List.getElem_mem hkn))
        refine k_skip ?_
        refine k_seq ?_
        refine k_block ?_
        refine k_seq ?_
        refine k_region ?_
        refine o_ixs1 Try.underlying36 rfl rfl rfl hkn ?_
        refine o_ld (v := iv (x.jumps[k3])) rfl rfl (hSj.rd.cellK hK16 hkx) ?_
        refine m_int rfl rfl ?_
        refine o_nil ?_
        refine k_region ?_
        refine m_sl rfl rfl ?_
        refine m_int rfl rfl ?_
        refine m_sl rfl rfl ?_
        refine o_lens Try.underlying22 rfl ?_
        refine n_add rfl rfl (by omega) ?_
        refine o_bsl (E := 3) (cs := #[iv (x.jumps[k3] + cs.length)]) rfl (fun _ => by kernel_rfl) (fun g17 w17 hB17 hK17 hb17 hZ17 => ?_)
        refine o_app Try.underlying36 inf3 rfl (by decide) rfl rfl (hS16.new hK17) hB17.rd rfl (by simp [iv, Value.oneCell']) (by have := sl_max hSj; simp [maxLen]; omega) (by have := jumps_le hEb x (List.mem_of_getElem? hx); omega) (fun a18 c18 w18 hS18 hK18 hv18 => ?_)
        have hf18 := fresh_app (k := w15.heap.size) (w := w17) (w' := w18) (a := a16) (a2 := a18) hf16 (by have := hK16.size; omega) hv18
        refine m_sl rfl rfl ?_
        refine o_nil ?_
        refine k_blk ?_
        refine k_region ?_
        refine n_add rfl rfl (by omega) ?_
        refine m_int rfl rfl ?_
        refine o_nil ?_
        refine k_goal ⟨(k3 + 1, a18, c18), ⟨rfl, rfl, rfl, rfl, rfl, rfl, rfl, rfl, rfl, rfl, rfl, rfl, trivial⟩, ⟨by simp only; omega, ?_, hf18, (hK16.tr hK17).trb hK18 hf16⟩, by simp only; omega⟩
        have : (((x.jumps.take (k3 + 1)).map (· + (cs.length : Int))).map iv) = (((x.jumps.take k3).map (· + (cs.length : Int))).map iv) ++ [iv (x.jumps[k3] + cs.length)] := by
         rw [List.take_succ_eq_append_getElem hkn, List.map_append, List.map_append]; rfl
        simp only
        rw [this]
        exact hS18
      have hin : i < (rdV bs).length := by omega
      obtain ⟨x, hx⟩ : ∃ x, (rdV bs)[i]? = some x := ⟨_, List.getElem?_eq_getElem hin⟩
      obtain ⟨cx, hcx, hatx⟩ := (hX7'.mono fun v l hv => (hv.new hK4).gr).get hx
      have h7 := hcx.len
      obtain ⟨v0, hv0⟩ : ∃ v0, cx[0]? = some v0 := ⟨_, List.getElem?_eq_getElem (by omega)⟩
      have hRA := hS7.rd
      obtain ⟨b1, o1, hae, _⟩ := hRA _ _ (hatx 0 v0 hv0)
      subst hae
      refine k_skip ?_
      refine k_seq ?_
      refine k_block ?_
      refine k_seq ?_
      refine k_region ?_
      refine o_ixs (sz := 7) Try.underlying24 rfl rfl rfl hin ?_
      have hld : ∀ j v, cx[j]? = some v → w4.cell? ⟨b1, o1 + i * 7 + j, none⟩ = some v := fun j v hv => by rw [Nat.add_assoc]; exact hRA.cellK hK4 (hatx j v hv)
      refine o_lda (xs := cx) rfl rfl (by rw [h7]; rfl) hld ?_
      refine o_alloc inf38 rfl (fun b w5 hB5 hK5 hb5 hZ5 => ?_)
      refine o_sta (xs := cx) rfl rfl (by rw [h7]; rfl) hcx.oneR hB5 (by rw [h7]; exact Nat.le_refl 7) (fun w6 hB6 hK6 hZ6 => ?_)
      have hB6' : Blk w6 b (([] ++ cx) ++ []).toArray 38 := by rw [h7] at hB6; exact hB6
      rw [List.nil_append, List.append_nil] at hB6'
      have hK36 : Keep [] w3 w6 := (hK4.tr hK5).trans hK6 (by simp; have := hK4.size; omega)
      have hop2 : cx[2]? = some (iv x.op) := by obtain ⟨kv, jv, rfl, _⟩ := hcx; rfl
      refine o_nil ?_
      refine k_seq ?_
      refine k_region ?_
      refine o_fld (off := 2) rfl rfl ?_
      refine o_ld (v := iv x.op) rfl rfl (hB6'.at (by simpa using hop2)) ?_
      refine b_eql rfl rfl ?_
      refine m_bool rfl rfl ?_
      refine o_split (t := 54) rfl (fun h => ?_) (fun h => ?_)
      ·
        refine g_no rfl rfl rfl ?_
        refine g_no rfl rfl rfl ?_
        refine g_no rfl rfl rfl ?_
        refine pick_t rfl rfl ?_
        refine o_nil ?_
        refine k_condt rfl ?_
        refine k_seq ?_
        refine k_region ?_
        refine m_bool rfl rfl ?_
        refine o_nil ?_
        refine k_ret (ret_tmps (ts := [4]) (v := .bool _) rfl rfl ?_)
        exact ⟨rfl, hK03.tr hK36⟩
      ·
        have h54 := h
        refine g_yes rfl rfl ?_
        refine o_fld (off := 2) rfl rfl ?_
        refine g_yes rfl rfl ?_
        refine o_ld (v := iv x.op) rfl rfl (hB6'.at (by simpa using hop2)) ?_
        refine g_yes rfl rfl ?_
        refine b_eql rfl rfl ?_
        refine pick_f rfl rfl ?_
        refine o_nil ?_
        refine k_cond rfl (fun h => ?_) (fun h => ?_)
        ·
          refine k_seq ?_
          refine k_region ?_
          refine m_bool rfl rfl ?_
          refine o_nil ?_
          refine k_ret (ret_tmps (ts := [4]) (v := .bool _) rfl rfl ?_)
          exact ⟨rfl, hK03.tr hK36⟩
        have h58 := h
        refine k_skip ?_
        refine k_blk ?_
        refine k_region ?_
        refine n_add rfl rfl (by omega) ?_
        refine m_int rfl rfl ?_
        refine o_nil ?_
        refine k_goal ⟨i + 1, ⟨rfl, rfl, rfl, rfl, rfl, rfl, rfl, trivial⟩, ⟨by omega, fun j y hj hy => ?_, hK36⟩, by omega⟩
        by_cases hji : j = i
        · subst hji
          rw [hx] at hy
          rw [← Option.some.inj hy]; exact ⟨h54, h58⟩
        · exact hno j y (by omega) hy
end Go.Proofs.Ytmdkinedbmjieaa
