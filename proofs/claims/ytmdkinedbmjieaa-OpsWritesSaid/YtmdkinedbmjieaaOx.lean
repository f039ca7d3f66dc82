/- Ops: the walk of the reference's Read. No condition beyond what its contract names. -/
import Derived.Test.YtmdkinedbmjieaaOw
namespace Go.Proofs.Ytmdkinedbmjieaa
open Go.RowKit E
set_option linter.unusedVariables false
set_option linter.unusedSimpArgs false
set_option maxRecDepth 100000
attribute [local irreducible] ow qw kw kq cw opW Ret
/-- which places are begun -/
def bl (n : Nat) (xs : List Ins) : List Value := (List.range n).map fun i : Nat => .bool (decide ((i : Int) ∈ xs.map Ins.p))
theorem bl_nil (n : Nat) : (madeCells (Value.cells (.bool false)) (n * 1)).toList = bl n [] := by
  show (madeCells #[Value.bool false] (n * 1)).toList = _
  rw [Nat.mul_one, toList_madeCells_one]
  unfold bl
  apply List.ext_getElem
  · simp
  · intro i h1 h2; simp
theorem bl_set {n p : Nat} {xs : List Ins} {x : Ins} (hx : x.p = (p : Int)) : (bl n xs).set p (.bool true) = bl n (xs ++ [x]) := by
  apply List.ext_getElem
  · simp [bl]
  · intro i h1 h2
    rw [List.getElem_set]
    simp only [bl, List.getElem_map, List.getElem_range, List.map_append, List.mem_append, List.map_cons, List.map_nil, List.mem_singleton, hx]
    by_cases e : p = i
    · subst e; simp
    · rw [if_neg e]
      have : ¬ (i : Int) = (p : Int) := by omega
      simp [this]
theorem bl_at {n i : Nat} {xs : List Ins} (h : i < n) : (bl n xs)[i]? = some (.bool (decide ((i : Int) ∈ xs.map Ins.p))) := by
  simp [bl, h]
theorem bl_len (n : Nat) (xs : List Ins) : (bl n xs).length = n := by simp [bl]
/-- what the reference's Read leaves -/
def RReadR (w : World) (cs : Bs) (v : Value) (w' : World) : Prop := ∃ a2 c2 vs, v = .tuple #[.slice a2 (rdV cs).length c2, .int .i64 (rdE cs)] ∧ Rd w' a2 vs ∧ Rows (GR w') vs (rdV cs) ∧ Keep [] w w'
theorem RReadR.nil {w w' : World} {cs : Bs} {y : Int} (h : rdV cs = [] ∧ rdE cs = y) (hk : Keep [] w w') : RReadR w cs (.tuple #[.slice none 0 0, .int .i64 y]) w' := by
  refine ⟨none, 0, [], ?_, Rd.nil _ _, ?_, hk⟩
  · rw [h.1, h.2]; rfl
  · rw [h.1]; exact .nil
theorem GS.aside {w w' : World} {b : Nat} {cs : Array Value} {T : TypeId} {v : Value} {l : List Int} (hv : GS 0 w v l) (hB : Blk w b cs T) (hT : 3 ≠ T) (hk : Keep [b] w w') : GS 0 w' v l :=
  hv.keep hk (fun b' hb' => .inr fun cs' hB' => by simp at hb'; subst hb'; exact hT (hB'.ty hB))
set_option maxHeartbeats 2000000 in
theorem rread_ok (w : World) (a : Option Addr) (c : Nat) (cs : Bs) (hR : Rd w a (cs.map u8v)) (hc : cs.length ≤ c) (hl : cs.length ≤ 9223372036854775807) :
    Ret Try.prog 10 [.slice a cs.length c] w (RReadR w cs) := by
  refine fn_enter (n := 84) Try.func10 rfl rfl (Nat.le_of_ble_eq_true rfl) (fun e => ?_)
  refine k_seq ?_
  refine k_region ?_
  refine m_sl rfl rfl ?_
  refine m_int rfl rfl ?_
  refine o_nil ?_
  refine k_seq ?_
  refine k_seq ?_
  refine k_region ?_
  refine m_sl rfl rfl ?_
  refine o_lens Try.underlying22 rfl ?_
  refine b_gtr rfl rfl ?_
  refine o_nil ?_
  refine k_cond rfl (fun h => ?_) (fun h => ?_)
  ·
    refine k_seq ?_
    refine k_region ?_
    refine m_sl rfl rfl ?_
    refine m_int rfl rfl ?_
    refine o_nil ?_
    refine k_ret (ret_tmps (ts := [2, 3]) (v := .tuple #[.slice _ _ _, .int _ _]) rfl rfl ?_)
    exact RReadR.nil ⟨by unfold rdV; rw [if_neg (by omega)], by unfold rdE; rw [if_neg (by omega)]⟩ (Keep.refl _ _)
  have hlen : cs.length ≤ 4096 := by omega
  refine k_skip ?_
  refine k_seq ?_
  refine k_seq ?_
  refine k_region ?_
  refine m_sl rfl rfl ?_
  refine o_lens Try.underlying22 rfl ?_
  refine b_eql rfl rfl ?_
  refine o_nil ?_
  refine k_cond rfl (fun h => ?_) (fun h => ?_)
  ·
    refine k_seq ?_
    refine k_region ?_
    refine m_sl rfl rfl ?_
    refine m_int rfl rfl ?_
    refine o_nil ?_
    refine k_ret (ret_tmps (ts := [2, 3]) (v := .tuple #[.slice _ _ _, .int _ _]) rfl rfl ?_)
    have h0 : cs = [] := List.eq_nil_of_length_eq_zero (by omega)
    refine RReadR.nil (rd_none hlen ?_) (Keep.refl _ _)
    unfold rd
    rw [rdFrom_end (by omega)]
    exact if_neg (fun hh => hh.1 rfl)
  have hpos : 0 < cs.length := by omega
  refine k_skip ?_
  refine k_seq ?_
  refine k_region ?_
  refine m_sl rfl rfl ?_
  refine o_nil ?_
  refine k_seq ?_
  refine k_region ?_
  refine m_sl rfl rfl ?_
  refine o_lens Try.underlying22 rfl ?_
  refine o_make Try.underlying47 inf4 rfl rfl (by simp [maxLen]; omega) (by omega) (fun g w1 hS1 hK1 hb1 hZ1 => ?_)
  rw [bl_nil] at hS1
  refine m_sl rfl rfl ?_
  refine o_nil ?_
  refine k_seq ?_
  refine k_seq ?_
  refine k_region ?_
  refine m_int rfl rfl ?_
  refine o_nil ?_
  refine k_block ?_
  refine k_loop (σ := Nat × List Ins × List Value × Option Addr × Nat) (fun s => [(0, .slice a cs.length c), (4, .slice s.2.2.2.1 s.2.1.length s.2.2.2.2), (5, .slice (some ⟨g, 0, none⟩) cs.length cs.length), (6, .int .i64 (s.1 : Int))]) (fun s w' => s.1 ≤ cs.length ∧ s.2.1.length ≤ s.1 ∧ rdFrom cs 0 = (rdFrom cs s.1).map (s.2.1 ++ ·) ∧ Sl w' 38 7 s.2.2.2.1 s.2.1.length s.2.2.2.2 s.2.2.1 ∧ Rows (GS 0 w') s.2.2.1 s.2.1 ∧ (∀ z, s.2.2.2.1 = some z → w.heap.size ≤ z.block) ∧ Sl w' 4 1 (some ⟨g, 0, none⟩) cs.length cs.length (bl cs.length s.2.1) ∧ (∀ t ∈ s.2.1.map Ins.p, 0 ≤ t ∧ t < cs.length) ∧ Keep [] w w') (fun s => cs.length - s.1) (0, [], [], none, 0) ⟨rfl, rfl, rfl, rfl, trivial⟩ ⟨Nat.zero_le _, Nat.le_refl _, by simp, Sl.nil _ _ _, .nil, by simp, hS1, by simp, hK1⟩ (fun s e w2 hJ => ?_)
  obtain ⟨p, xs, vs, a4, c4⟩ := s
  obtain ⟨hpl, hxp, hrf, hS4, hX4, hf4, hSB, hps, hK2⟩ := hJ
  change kw _ _ _ _ (ovr [(0, .slice a cs.length c), (4, .slice a4 xs.length c4), (5, .slice (some ⟨g, 0, none⟩) cs.length cs.length), (6, .int .i64 (p : Int))] e) w2
  simp only at hpl hxp hrf hS4 hX4 hf4 hSB hps hK2
  refine k_seq ?_
  refine k_seq ?_
  refine k_region ?_
  refine m_int rfl rfl ?_
  refine m_sl rfl rfl ?_
  refine o_lens Try.underlying22 rfl ?_
  refine b_lss rfl rfl ?_
  refine o_nil ?_
  refine k_cond rfl (fun h => ?_) (fun h => ?_)
  rotate_left
  ·
    have hxs : rdFrom cs 0 = some xs := by rw [hrf, rdFrom_end (by omega)]; simp
    have hne : xs ≠ [] := by
     intro e
     subst e
     obtain ⟨f, f0, fn, _⟩ := rdFrom_places [] 0 (Nat.zero_le _) hxs
     have : f 0 = cs.length := fn
     omega
    have hXR : Rows (GR w2) vs xs := hX4.mono fun v l hv => hv.gr
    have hlx : xs.length ≤ 4096 := by omega
    have hbad : ∀ x ∈ xs, ∀ t ∈ x.jumps, t ∉ xs.map Ins.p → RReadR w cs (.tuple #[.slice none 0 0, .int .i64 25]) w2 := fun x hx t ht hn => RReadR.nil (rd_none hlen (by
     unfold rd
     rw [hxs]
     exact if_neg (fun hh => hn (hh.2 x hx t ht)))) hK2
    refine k_exit rfl ?_
    refine k_seq ?_
    refine k_seq ?_
    refine k_region ?_
    refine m_int rfl rfl ?_
    refine o_nil ?_
    refine k_block ?_
    refine k_loop (σ := Nat) (fun i => [(0, .slice a cs.length c), (4, .slice a4 xs.length c4), (5, .slice (some ⟨g, 0, none⟩) cs.length cs.length), (9, .int .i64 (i : Int))]) (fun i w' => i ≤ xs.length ∧ (∀ (j : Nat) (x : Ins), j < i → xs[j]? = some x → ∀ t ∈ x.jumps, t ∈ xs.map Ins.p) ∧ w' = w2) (fun i => xs.length - i) 0 ⟨rfl, rfl, rfl, rfl, trivial⟩ ⟨Nat.zero_le _, (fun j x hj => by omega), rfl⟩ (fun i e w3 hJ => ?_)
    obtain ⟨hi, hall, rfl⟩ := hJ
    refine k_seq ?_
    refine k_seq ?_
    refine k_region ?_
    refine m_int rfl rfl ?_
    refine m_sl rfl rfl ?_
    refine o_lens Try.underlying24 rfl ?_
    refine b_lss rfl rfl ?_
    refine o_nil ?_
    refine k_cond rfl (fun h => ?_) (fun h => ?_)
    rotate_left
    ·
      refine k_exit rfl ?_
      refine k_seq ?_
      refine k_region ?_
      refine m_sl rfl rfl ?_
      refine m_sl rfl rfl ?_
      refine m_int rfl rfl ?_
      refine o_nil ?_
      refine k_ret (ret_tmps (ts := [2, 3]) (v := .tuple #[.slice _ _ _, .int _ _]) rfl rfl ?_)
      have hld : lands xs := fun x hx t ht => by
       obtain ⟨j, hj⟩ := List.getElem?_of_mem hx
       exact hall j x (by have := (List.getElem?_eq_some_iff.1 hj).1; omega) hj t ht
      have hrs := rd_some hlen hxs hne hld
      refine ⟨a4, c4, vs, ?_, hS4.rd, ?_, hK2⟩
      · rw [hrs.1, hrs.2]
      · rw [hrs.1]; exact hXR
    have hin : i < xs.length := by omega
    obtain ⟨x, hx⟩ : ∃ x, xs[i]? = some x := ⟨_, List.getElem?_eq_getElem hin⟩
    obtain ⟨cx, hcx, hatx⟩ := hXR.get hx
    obtain ⟨kv, jv, hce, hkv, aj, cj, hje, hRj, hlj⟩ := hcx
    subst hje hce
    have h6 := hatx 6 _ rfl
    have hRA := hS4.rd
    obtain ⟨b1, o1, hae, hc6⟩ := hRA _ _ h6
    subst hae
    have hxm := List.mem_of_getElem? hx
    refine k_skip ?_
    refine k_seq ?_
    refine k_block ?_
    refine k_seq ?_
    refine k_region ?_
    refine m_int rfl rfl ?_
    refine o_nil ?_
    refine k_block ?_
    refine k_loop (σ := Nat) (fun k => [(0, .slice a cs.length c), (4, .slice (some ⟨b1, o1, none⟩) xs.length c4), (5, .slice (some ⟨g, 0, none⟩) cs.length cs.length), (9, .int .i64 (i : Int)), (10, .int .i64 (k : Int))]) (fun k w' => k ≤ x.jumps.length ∧ (∀ j t, j < k → x.jumps[j]? = some t → t ∈ xs.map Ins.p) ∧ w' = w3) (fun k => x.jumps.length - k) 0 ⟨rfl, rfl, rfl, rfl, rfl, trivial⟩ ⟨Nat.zero_le _, (fun j t hj => by omega), rfl⟩ (fun k e w4 hJ => ?_)
    obtain ⟨hk, hjall, rfl⟩ := hJ
    refine k_seq ?_
    refine k_seq ?_
    refine k_region ?_
    refine m_int rfl rfl ?_
    refine m_sl rfl rfl ?_
    refine m_int rfl rfl ?_
    refine o_ixs (sz := 7) Try.underlying24 rfl rfl rfl hin ?_
    refine o_fld (off := 6) rfl rfl ?_
    refine o_ld (v := .slice aj x.jumps.length cj) rfl rfl (by rw [Nat.add_assoc]; exact hc6) ?_
    refine o_lens Try.underlying36 rfl ?_
    refine b_lss rfl rfl ?_
    refine o_nil ?_
    refine k_cond rfl (fun h => ?_) (fun h => ?_)
    rotate_left
    ·
      refine k_exit rfl ?_
      refine k_blk ?_
      refine k_region ?_
      refine m_int rfl rfl ?_
      refine n_add rfl rfl (by omega) ?_
      refine m_int rfl rfl ?_
      refine o_nil ?_
      refine k_goal ⟨i + 1, ⟨rfl, rfl, rfl, rfl, trivial⟩, ⟨by omega, fun j y hj hy t ht => ?_, rfl⟩, by omega⟩
      by_cases hji : j = i
      · subst hji
        rw [hx] at hy
        obtain rfl := Option.some.inj hy
        obtain ⟨m, hm⟩ := List.getElem?_of_mem ht
        exact hjall m t (by have := (List.getElem?_eq_some_iff.1 hm).1; omega) hm
      · exact hall j y (by omega) hy t ht
    have hkn : k < x.jumps.length := by omega
    have hkx := iv_at x.jumps k hkn
    obtain ⟨bj, oj, hje2, hcj⟩ := hRj _ _ hkx
    subst hje2
    have htm : x.jumps[k] ∈ x.jumps := List.getElem_mem hkn
    refine k_skip ?_
    refine k_seq ?_
    refine k_block ?_
    refine k_seq ?_
    refine k_region ?_
    refine m_sl rfl rfl ?_
    refine m_int rfl rfl ?_
    refine o_ixs (sz := 7) Try.underlying24 rfl rfl rfl hin ?_
    refine o_fld (off := 6) rfl rfl ?_
    refine o_ld (v := .slice (some ⟨bj, oj, none⟩) x.jumps.length cj) rfl rfl (by rw [Nat.add_assoc]; exact hc6) ?_
    refine m_int rfl rfl ?_
    refine o_ixs1 Try.underlying36 rfl rfl rfl hkn ?_
    refine o_ld (v := iv (x.jumps[k])) rfl rfl hcj ?_
    refine m_int rfl rfl ?_
    refine o_nil ?_
    refine k_seq ?_
    refine k_region ?_
    refine m_int rfl rfl ?_
    refine b_lss rfl rfl ?_
    refine m_bool rfl rfl ?_
    refine o_split (t := 70) rfl (fun h => ?_) (fun h => ?_)
    ·
      refine g_no rfl rfl rfl ?_
      refine g_no rfl rfl rfl ?_
      refine g_no rfl rfl rfl ?_
      refine g_no rfl rfl rfl ?_
      refine pick_t rfl rfl ?_
      refine m_bool rfl rfl ?_
      refine g_no rfl rfl rfl ?_
      refine g_no rfl rfl rfl ?_
      refine g_no rfl rfl rfl ?_
      refine g_no rfl rfl rfl ?_
      refine g_no rfl rfl rfl ?_
      refine pick_t rfl rfl ?_
      refine o_nil ?_
      refine k_condt rfl ?_
      refine k_seq ?_
      refine k_region ?_
      refine m_sl rfl rfl ?_
      refine m_int rfl rfl ?_
      refine o_nil ?_
      refine k_ret (ret_tmps (ts := [2, 3]) (v := .tuple #[.slice _ _ _, .int _ _]) rfl rfl ?_)
      exact hbad x hxm _ htm (fun hh => by have := hps _ hh; omega)
    ·
      have h70 := h
      refine g_yes rfl rfl ?_
      refine m_int rfl rfl ?_
      refine g_yes rfl rfl ?_
      refine m_sl rfl rfl ?_
      refine g_yes rfl rfl ?_
      refine o_lens Try.underlying22 rfl ?_
      refine g_yes rfl rfl ?_
      refine b_geq rfl rfl ?_
      refine pick_f rfl rfl ?_
      refine m_bool rfl rfl ?_
      refine o_split (t := 76) rfl (fun h => ?_) (fun h => ?_)
      ·
        refine g_no rfl rfl rfl ?_
        refine g_no rfl rfl rfl ?_
        refine g_no rfl rfl rfl ?_
        refine g_no rfl rfl rfl ?_
        refine g_no rfl rfl rfl ?_
        refine pick_t rfl rfl ?_
        refine o_nil ?_
        refine k_condt rfl ?_
        refine k_seq ?_
        refine k_region ?_
        refine m_sl rfl rfl ?_
        refine m_int rfl rfl ?_
        refine o_nil ?_
        refine k_ret (ret_tmps (ts := [2, 3]) (v := .tuple #[.slice _ _ _, .int _ _]) rfl rfl ?_)
        exact hbad x hxm _ htm (fun hh => by have := hps _ hh; omega)
      ·
        have h76 := h
        have htn : ((x.jumps[k]).toNat : Int) = x.jumps[k] := by omega
        have htl : (x.jumps[k]).toNat < cs.length := by omega
        have hbt := bl_at (n := cs.length) (xs := xs) htl
        rw [htn] at hbt
        refine g_yes rfl rfl ?_
        refine m_sl rfl rfl ?_
        refine g_yes rfl rfl ?_
        refine m_int rfl rfl ?_
        refine g_yes rfl rfl ?_
        refine o_ixs1 (m := (x.jumps[k]).toNat) Try.underlying47 rfl rfl (congrArg (Value.int .i64) htn.symm) htl ?_
        refine g_yes rfl rfl ?_
        refine o_ld (v := .bool (decide (x.jumps[k] ∈ xs.map Ins.p))) rfl rfl (hSB.rd.cellK (Keep.refl _ _) hbt) ?_
        refine g_yes rfl rfl ?_
        refine u_not rfl ?_
        refine pick_f rfl rfl ?_
        refine o_nil ?_
        refine k_cond rfl (fun h => ?_) (fun h => ?_)
        ·
          refine k_seq ?_
          refine k_region ?_
          refine m_sl rfl rfl ?_
          refine m_int rfl rfl ?_
          refine o_nil ?_
          refine k_ret (ret_tmps (ts := [2, 3]) (v := .tuple #[.slice _ _ _, .int _ _]) rfl rfl ?_)
          exact hbad x hxm _ htm h
        refine k_skip ?_
        refine k_blk ?_
        refine k_region ?_
        refine m_int rfl rfl ?_
        refine n_add rfl rfl (by omega) ?_
        refine m_int rfl rfl ?_
        refine o_nil ?_
        refine k_goal ⟨k + 1, ⟨rfl, rfl, rfl, rfl, rfl, trivial⟩, ⟨by omega, fun j t hj ht => ?_, rfl⟩, by omega⟩
        by_cases hjk : j = k
        · subst hjk
          rw [List.getElem?_eq_getElem hkn] at ht
          rw [← Option.some.inj ht]; exact Decidable.of_not_not h
        · exact hjall j t (by omega) ht
  have hpin : p < cs.length := by omega
  refine k_skip ?_
  refine k_block ?_
  refine k_seq ?_
  refine k_region ?_
  refine m_sl rfl rfl ?_
  refine m_int rfl rfl ?_
  refine o_call rfl rfl (rone_ok w2 a c p cs (hR.new hK2) hc hlen hpin) (fun v w3 hv => ?_)
  obtain ⟨cx, ok, rfl, h7, hone, hyes, hno, hK3⟩ := hv
  refine m_any rfl rfl ?_
  refine o_extr rfl rfl ?_
  refine o_extr rfl rfl ?_
  refine o_alloc inf38 rfl (fun b w4 hB4 hK4 hb4 hZ4 => ?_)
  refine o_sta (xs := cx) rfl rfl (by rw [h7]; rfl) hone hB4 (by rw [h7]; exact Nat.le_refl 7) (fun w5 hB5 hK5 hZ5 => ?_)
  have hB5' : Blk w5 b (([] ++ cx) ++ []).toArray 38 := by rw [h7] at hB5; exact hB5
  rw [List.nil_append, List.append_nil] at hB5'
  have hK35 : Keep [] w3 w5 := hK4.trans hK5 (by simp; omega)
  have hK25 := hK3.tr hK35
  have hK05 := hK2.tr hK25
  refine m_bool rfl rfl ?_
  refine o_nil ?_
  refine k_seq ?_
  refine k_seq ?_
  refine k_region ?_
  refine m_bool rfl rfl ?_
  refine u_notb rfl ?_
  refine o_nil ?_
  refine k_condb rfl (fun h => ?_) (fun h => ?_)
  ·
    obtain rfl : ok = false := by simpa using h
    refine k_seq ?_
    refine k_region ?_
    refine m_sl rfl rfl ?_
    refine m_int rfl rfl ?_
    refine o_nil ?_
    refine k_ret (ret_tmps (ts := [2, 3]) (v := .tuple #[.slice _ _ _, .int _ _]) rfl rfl ?_)
    refine RReadR.nil (rd_none hlen ?_) hK05
    unfold rd
    rw [hrf, rdFrom_none hpin (hno rfl)]
    rfl
  obtain rfl : ok = true := by simpa using h
  obtain ⟨x, hx1, hcx⟩ := hyes rfl
  have hxl := rdOne_len hx1 hpin
  have hcx5 : insC (GS 0 w5) cx x := hcx.mono fun v l hv => hv.low.new hK35
  have hins := hcx5
  obtain ⟨kv, jv, hce, hkv0, hjv0⟩ := hcx5
  obtain ⟨ak, ck, hke, hSk, hbk⟩ := hkv0
  obtain ⟨aj, cj, hje, hSj, hbj⟩ := hjv0
  subst hke hje hce
  refine k_skip ?_
  refine k_seq ?_
  refine k_region ?_
  refine m_sl rfl rfl ?_
  refine o_lda (xs := [iv x.p, iv x.len, iv x.op, iv x.a, iv x.b, .slice ak x.keys.length ck, .slice aj x.jumps.length cj]) rfl rfl rfl (fun j v hv => by rw [Nat.zero_add]; exact hB5'.at (by simpa using hv)) ?_
  refine o_bsl (E := 38) (cs := #[iv x.p, iv x.len, iv x.op, iv x.a, iv x.b, .slice ak x.keys.length ck, .slice aj x.jumps.length cj]) rfl (fun _ => by kernel_rfl) (fun g6 w6 hB6 hK6 hb6 hZ6 => ?_)
  have hK26 := hK25.tr hK6
  refine o_app Try.underlying24 inf38 rfl (by decide) rfl rfl (hS4.new hK26) hB6.rd rfl hins.one (by simp [maxLen]; omega) (by omega) (fun a7 c7 w7 hS7 hK7 hv7 => ?_)
  have hf7 := fresh_app (k := w.heap.size) (w := w6) (w' := w7) (a := a4) (a2 := a7) hf4 (by have := hK2.size; have := hK26.size; omega) hv7
  have hX6 : Rows (GS 0 w6) (vs ++ [iv x.p, iv x.len, iv x.op, iv x.a, iv x.b, .slice ak x.keys.length ck, .slice aj x.jumps.length cj]) (xs ++ [x]) := (hX4.mono fun v l hv => hv.new hK26).snoc (hins.mono fun v l hv => hv.new hK6)
  have hX7 := hX6.aside (hS4.new hK26) hK7
  have hSB7 : Sl w7 4 1 (some ⟨g, 0, none⟩) cs.length cs.length (bl cs.length xs) := (hSB.new hK26).keep hK7 ((hSB.new hK26).off2 (hS4.new hK26) (by decide))
  have hb7 : Blk w7 b _ 38 := (hB5'.keep hK6 (by simp)).keep hK7 (by
   intro hm
   obtain ⟨z, hz, hze⟩ := blkOf_some.1 hm
   have := (hS4.new hK3).lt z hz
   omega)
  have hK07 : Keep [] w w7 := (hK2.tr hK26).trb hK7 hf4
  obtain ⟨gg, cur, hge, hBg, hgsz⟩ := hSB7.blk (by omega)
  cases hge
  refine m_sl rfl rfl ?_
  refine o_nil ?_
  refine k_seq ?_
  refine k_region ?_
  refine m_sl rfl rfl ?_
  refine m_int rfl rfl ?_
  refine o_ixs1 Try.underlying47 rfl rfl rfl hpin ?_
  refine o_st (v := .bool true) rfl rfl rfl rfl hBg (by omega) (fun w8 hB8 hK8 hZ8 => ?_)
  have hSB8 := Sl.set hSB7 hpin hBg hB8
  rw [bl_set hxl.1] at hSB8
  have hX8 := hX7.mono fun v l hv => GS.aside hv hBg (by decide) hK8
  have hS8 := hS7.keep hK8 (hS7.off hBg (by decide))
  have hg1 : w.heap.size ≤ g := by omega
  have hK08 : Keep [] w w8 := hK07.trans hK8 (by simp; omega)
  refine o_nil ?_
  refine k_region ?_
  refine m_int rfl rfl ?_
  refine o_fld (off := 1) rfl rfl ?_
  refine o_ld (v := iv x.len) rfl rfl ((hb7.keep hK8 (by intro hm; simp at hm; subst hm; exact absurd (hb7.ty hBg) (by decide))).at rfl) ?_
  refine n_add rfl rfl (by omega) ?_
  refine m_int rfl rfl ?_
  refine o_nil ?_
  refine k_blk ?_
  refine k_goal ⟨(p + x.len.toNat, xs ++ [x], _, a7, c7), ⟨rfl, ?_, rfl, ?_, trivial⟩, ⟨?_, ?_, ?_, ?_, hX8, hf7, hSB8, ?_, hK08⟩, ?_⟩
  · show Value.slice a7 (xs.length + 1) c7 = Value.slice a7 (xs ++ [x]).length c7
    rw [List.length_append]; rfl
  · exact congrArg (Value.int .i64) (by simp only; omega)
  · simp only; omega
  · simp only [List.length_append, List.length_singleton]; omega
  · simp only
    rw [hrf, rdFrom_some hpin hx1, Option.map_map]
    congr 1
    funext l
    simp
  · simp only [List.length_append, List.length_singleton]; exact hS8
  · intro t ht
    rw [List.map_append, List.mem_append] at ht
    rcases ht with ht | ht
    · exact hps t ht
    · simp at ht; subst ht; omega
  · simp only; omega
end Go.Proofs.Ytmdkinedbmjieaa
