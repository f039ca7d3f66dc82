/- Ops: the walk of Read. No condition beyond what its contract names. -/
import Derived.Test.YtmdkinedbmjieaaOf
namespace Go.Proofs.Ytmdkinedbmjieaa
open Go.RowKit E
set_option linter.unusedVariables false
set_option linter.unusedSimpArgs false
set_option maxRecDepth 100000
attribute [local irreducible] ow qw kw kq cw opW Ret
theorem rd_some {cs : Bs} {xs : List Ins} (h0 : cs.length ≤ 4096) (h : rdFrom cs 0 = some xs) (hn : xs ≠ []) (hl : lands xs) : rdV cs = xs ∧ rdE cs = 0 := by
  have : rd cs = some xs := by unfold rd; rw [h]; exact if_pos ⟨hn, hl⟩
  unfold rdV rdE
  rw [if_pos h0, if_pos h0, this]
  exact ⟨rfl, rfl⟩
theorem rd_none {cs : Bs} (h0 : cs.length ≤ 4096) (h : rd cs = none) : rdV cs = [] ∧ rdE cs = 25 := by
  unfold rdV rdE
  rw [if_pos h0, if_pos h0, h]
  exact ⟨rfl, rfl⟩
/-- what Read leaves -/
def ReadR (w : World) (cs : Bs) (v : Value) (w' : World) : Prop := ∃ a2 c2 vs, v = .tuple #[.slice a2 (rdV cs).length c2, .int .i64 (rdE cs)] ∧ Sl w' 38 7 a2 (rdV cs).length c2 vs ∧ Rows (GS w.heap.size w') vs (rdV cs) ∧ (∀ z, a2 = some z → w.heap.size ≤ z.block) ∧ Keep [] w w'
theorem ReadR.nil {w w' : World} {cs : Bs} {y : Int} (h : rdV cs = [] ∧ rdE cs = y) (hk : Keep [] w w') : ReadR w cs (.tuple #[.slice none 0 0, .int .i64 y]) w' := by
  refine ⟨none, 0, [], ?_, ?_, ?_, by simp, hk⟩
  · rw [h.1, h.2]; rfl
  · rw [h.1]; exact Sl.nil _ _ _
  · rw [h.1]; exact .nil
set_option maxHeartbeats 1000000 in
theorem read_ok (w : World) (a : Option Addr) (c : Nat) (cs : Bs) (hR : Rd w a (cs.map u8v)) (hc : cs.length ≤ c) (hl : cs.length ≤ 9223372036854775807) :
    Ret Try.prog 9 [.slice a cs.length c] w (ReadR w cs) := by
  refine fn_enter (n := 65) Try.func9 rfl rfl (Nat.le_of_ble_eq_true rfl) (fun e => ?_)
  refine k_seq ?_
  refine k_region ?_
  refine m_sl rfl rfl ?_
  refine m_int rfl rfl ?_
  refine o_nil ?_
  refine k_seq ?_
  refine k_seq ?_
  refine k_region ?_
  refine m_sl rfl rfl ?_
  refine o_lens Try.underlying22 rfl ?_
  refine b_gtr rfl rfl ?_
  refine o_nil ?_
  refine k_cond rfl (fun h => ?_) (fun h => ?_)
  ·
    refine k_seq ?_
    refine k_region ?_
    refine m_sl rfl rfl ?_
    refine m_int rfl rfl ?_
    refine o_nil ?_
    refine k_ret (ret_tmps (ts := [2, 3]) (v := .tuple #[.slice _ _ _, .int _ _]) rfl rfl ?_)
    exact ReadR.nil ⟨by unfold rdV; rw [if_neg (by omega)], by unfold rdE; rw [if_neg (by omega)]⟩ (Keep.refl _ _)
  have hlen : cs.length ≤ 4096 := by omega
  refine k_skip ?_
  refine k_seq ?_
  refine k_region ?_
  refine m_sl rfl rfl ?_
  refine o_call rfl rfl (forms_ok w) (fun v w1 hv => ?_)
  obtain ⟨mm, rfl, hT1, hK1, hmm⟩ := hv
  refine o_build (v := .agg #[.slice a cs.length c, .map (some mm), .bool false]) rfl (fun _ => by kernel_rfl) ?_
  refine o_box rfl rfl (fun r w2 hB2 hK2 hb2 hZ2 => ?_)
  refine m_ptr rfl rfl ?_
  refine o_nil ?_
  refine k_seq ?_
  refine k_region ?_
  refine m_sl rfl rfl ?_
  refine o_nil ?_
  refine k_seq ?_
  refine k_region ?_
  refine o_mkmap (Value.int .i64) (fun mb w3 hM3 hK3 hb3 hZ3 => ?_)
  have hsz1 := hK1.size
  have hmm1 : mm < w1.heap.size := hT1.choose_spec.1.lt
  have hK03 : Keep [] w w3 := (hK1.tr hK2).tr hK3
  have hRd3 : Rdr w.heap.size w3 r mm cs false := ⟨a, c, hB2.keep hK3 (by simp), hR.new hK03, hc, fun hn q hq => hR.ltn (by simpa using hn) q hq, by omega, hlen⟩
  have hS3 : RS w.heap.size mm mb none 0 w3 [] [] [] := ⟨Sl.nil _ _ _, .nil, by simp, hM3, fun i => by simp [getM_nil], (hT1.keep hK2 (by simp)).keep hK3 (by simp)⟩
  refine m_map rfl rfl ?_
  refine o_nil ?_
  refine k_seq ?_
  refine k_seq ?_
  refine k_region ?_
  refine m_int rfl rfl ?_
  refine o_nil ?_
  refine k_block ?_
  refine k_loop (σ := Nat × List Ins × List Value × Option Addr × Nat × List (Int × Value)) (fun s => [(0, .slice a cs.length c), (4, .pointer (some ⟨r, 0, none⟩)), (5, .slice s.2.2.2.1 s.2.1.length s.2.2.2.2.1), (6, .map (some mb)), (7, .int .i64 (s.1 : Int))]) (fun s w' => s.1 ≤ cs.length ∧ s.2.1.length ≤ s.1 ∧ rdFrom cs 0 = (rdFrom cs s.1).map (s.2.1 ++ ·) ∧ RS w.heap.size mm mb s.2.2.2.1 s.2.2.2.2.1 w' s.2.1 s.2.2.1 s.2.2.2.2.2 ∧ Rdr w.heap.size w' r mm cs false ∧ Keep [] w w') (fun s => cs.length - s.1) (0, [], [], none, 0, []) ⟨rfl, rfl, rfl, rfl, rfl, trivial⟩ ⟨Nat.zero_le _, Nat.le_refl _, by simp, hS3, hRd3, hK03⟩ (fun s e w4 hJ => ?_)
  obtain ⟨p, xs, vs, a5, c5, m⟩ := s
  obtain ⟨hpl, hxp, hrf, hS4, hR4, hK04⟩ := hJ
  change kw _ _ _ _ (ovr [(0, .slice a cs.length c), (4, .pointer (some ⟨r, 0, none⟩)), (5, .slice a5 xs.length c5), (6, .map (some mb)), (7, .int .i64 (p : Int))] e) w4
  simp only at hpl hxp hrf hS4 hR4 hK04
  refine k_seq ?_
  refine k_seq ?_
  refine k_region ?_
  refine m_int rfl rfl ?_
  refine m_sl rfl rfl ?_
  refine o_lens Try.underlying22 rfl ?_
  refine b_lss rfl rfl ?_
  refine o_nil ?_
  refine k_cond rfl (fun h => ?_) (fun h => ?_)
  rotate_left
  ·
    have hxs : rdFrom cs 0 = some xs := by rw [hrf, rdFrom_end (by omega)]; simp
    refine k_exit rfl ?_
    refine k_seq ?_
    refine k_seq ?_
    refine k_region ?_
    refine m_sl rfl rfl ?_
    refine o_lens Try.underlying24 rfl ?_
    refine m_int rfl rfl ?_
    refine o_nil ?_
    refine k_block ?_
    refine k_loop (σ := Nat) (fun i => [(5, .slice a5 xs.length c5), (6, .map (some mb)), (42, .slice a5 xs.length c5), (43, .int .i64 (xs.length : Int)), (44, .int .i64 (i : Int))]) (fun i w' => i ≤ xs.length ∧ (∀ j x, j < i → xs[j]? = some x → ∀ t ∈ x.jumps, t ∈ xs.map Ins.p) ∧ Keep [] w4 w') (fun i => xs.length - i) 0 ⟨rfl, rfl, rfl, rfl, rfl, trivial⟩ ⟨Nat.zero_le _, fun j x hj => by omega, Keep.refl _ _⟩ (fun i e w5 hJ => ?_)
    obtain ⟨hi, hok, hK5⟩ := hJ
    have hS5 := hS4.keep hK5 (by simp) (by simp) (by simp)
    refine k_seq ?_
    refine k_region ?_
    refine b_lss rfl rfl ?_
    refine o_nil ?_
    refine k_seq ?_
    refine k_cond rfl (fun h => ?_) (fun h => ?_)
    rotate_left
    ·
      have hlands : lands xs := fun x hx t ht => by
       obtain ⟨j, hj, rfl⟩ := List.getElem_of_mem hx
       exact hok j _ (by omega) (List.getElem?_eq_getElem hj) t ht
      refine k_exit rfl ?_
      refine k_seq ?_
      refine k_seq ?_
      refine k_region ?_
      refine m_sl rfl rfl ?_
      refine o_lens Try.underlying24 rfl ?_
      refine b_eql rfl rfl ?_
      refine o_nil ?_
      refine k_cond rfl (fun h => ?_) (fun h => ?_)
      ·
        refine k_seq ?_
        refine k_region ?_
        refine m_sl rfl rfl ?_
        refine m_int rfl rfl ?_
        refine o_nil ?_
        refine k_ret (ret_tmps (ts := [2, 3]) (v := .tuple #[.slice _ _ _, .int _ _]) rfl rfl ?_)
        exact ReadR.nil (rd_none hlen (by
         unfold rd
         rw [hxs]
         exact if_neg (fun hh => hh.1 (List.eq_nil_of_length_eq_zero (by omega))))) (hK04.tr hK5)
      refine k_skip ?_
      refine k_seq ?_
      refine k_region ?_
      refine m_sl rfl rfl ?_
      refine m_sl rfl rfl ?_
      refine m_int rfl rfl ?_
      refine o_nil ?_
      refine k_ret (ret_tmps (ts := [2, 3]) (v := .tuple #[.slice _ _ _, .int _ _]) rfl rfl ?_)
      have hrs := rd_some hlen hxs (fun hh => h (by rw [hh]; rfl)) hlands
      refine ⟨a5, c5, vs, ?_, ?_, ?_, hS5.fresh, hK04.tr hK5⟩
      · rw [hrs.1, hrs.2]
      · rw [hrs.1]; exact hS5.sl
      · rw [hrs.1]; exact hS5.rows
    have hin : i < xs.length := by omega
    obtain ⟨x, hx⟩ : ∃ x, xs[i]? = some x := ⟨_, List.getElem?_eq_getElem hin⟩
    have hxm : x ∈ xs := List.mem_of_getElem? hx
    obtain ⟨cx, hcx, hat⟩ := hS5.rows.get hx
    have h7 := hcx.len
    obtain ⟨v0, hv0⟩ : ∃ v0, cx[0]? = some v0 := ⟨_, List.getElem?_eq_getElem (by omega)⟩
    have hrd5 := hS5.sl.rd
    obtain ⟨b1, o1, ha5, _⟩ := hrd5 _ _ (hat 0 v0 hv0)
    subst ha5
    refine k_skip ?_
    refine k_seq ?_
    refine k_block ?_
    refine k_seq ?_
    refine k_region ?_
    refine o_ixs (sz := 7) Try.underlying24 rfl rfl rfl hin ?_
    have hld : ∀ j v, cx[j]? = some v → w5.cell? ⟨b1, o1 + i * 7 + j, none⟩ = some v := fun j v hv => by rw [Nat.add_assoc]; exact hrd5.cellK (Keep.refl _ _) (hat j v hv)
    refine o_lda (xs := cx) rfl rfl (by rw [h7]; rfl) hld ?_
    refine o_alloc inf38 rfl (fun b w6 hB6 hK6 hb6 hZ6 => ?_)
    refine o_sta (xs := cx) rfl rfl (by rw [h7]; rfl) hcx.one hB6 (by rw [h7]; exact Nat.le_refl 7) (fun w7 hB7 hK7 hZ7 => ?_)
    have hB7' : Blk w7 b (([] ++ cx) ++ []).toArray 38 := by rw [h7] at hB7; exact hB7
    rw [List.nil_append, List.append_nil] at hB7'
    have hK57 : Keep [] w5 w7 := hK6.trans hK7 (by simp; omega)
    obtain ⟨kv, jv, hcx1, hkv, hjv⟩ := hcx
    obtain ⟨aj, cj, hjv1, hjS, hjf⟩ := hjv
    have hjm := sl_max hjS
    refine o_nil ?_
    refine k_seq ?_
    refine k_region ?_
    refine o_fld (off := 6) rfl rfl ?_
    refine o_ld (v := .slice aj x.jumps.length cj) rfl rfl (hB7'.at (by rw [hcx1, hjv1]; rfl)) ?_
    refine o_lens Try.underlying36 rfl ?_
    refine m_int rfl rfl ?_
    refine o_nil ?_
    refine k_block ?_
    refine k_loop (σ := Nat) (fun j => [(5, .slice (some ⟨b1, o1, none⟩) xs.length c5), (6, .map (some mb)), (42, .slice (some ⟨b1, o1, none⟩) xs.length c5), (43, .int .i64 (xs.length : Int)), (44, .int .i64 (i : Int)), (49, .slice aj x.jumps.length cj), (50, .int .i64 (x.jumps.length : Int)), (51, .int .i64 (j : Int))]) (fun j w' => j ≤ x.jumps.length ∧ (∀ k t, k < j → x.jumps[k]? = some t → t ∈ xs.map Ins.p) ∧ w' = w7) (fun j => x.jumps.length - j) 0 ⟨rfl, rfl, rfl, rfl, rfl, rfl, rfl, rfl, trivial⟩ ⟨Nat.zero_le _, fun k t hk => by omega, rfl⟩ (fun j e w8 hJ => ?_)
    obtain ⟨hj, hjok, rfl⟩ := hJ
    refine k_seq ?_
    refine k_region ?_
    refine b_lss rfl rfl ?_
    refine o_nil ?_
    refine k_seq ?_
    refine k_cond rfl (fun h => ?_) (fun h => ?_)
    rotate_left
    ·
      refine k_exit rfl ?_
      refine k_blk ?_
      refine k_region ?_
      refine n_add rfl rfl (by omega) ?_
      refine m_int rfl rfl ?_
      refine o_nil ?_
      refine k_goal ⟨i + 1, ⟨rfl, rfl, rfl, rfl, rfl, trivial⟩, ⟨by omega, fun k y hk hy => ?_, hK5.tr hK57⟩, by omega⟩
      by_cases hki : k = i
      · subst hki
        rw [hx] at hy
        rw [← Option.some.inj hy]
        intro t ht
        obtain ⟨k', hk', rfl⟩ := List.getElem_of_mem ht
        exact hjok k' _ (by omega) (List.getElem?_eq_getElem hk')
      · exact hok k y (by omega) hy
    have hjl : j < x.jumps.length := by omega
    have hjat := iv_at x.jumps j hjl
    have hrj := (hjS.new hK57).rd
    obtain ⟨b2, o2, haj, hcj⟩ := hrj _ _ hjat
    subst haj
    have hS8 := hS5.keep hK57 (by simp) (by simp) (by simp)
    refine k_skip ?_
    refine k_seq ?_
    refine k_block ?_
    refine k_seq ?_
    refine k_region ?_
    refine o_ixs1 Try.underlying36 rfl rfl rfl hjl ?_
    refine o_ld rfl rfl hcj ?_
    refine m_int rfl rfl ?_
    refine o_nil ?_
    refine k_seq ?_
    refine k_region ?_
    refine m_map rfl rfl ?_
    refine m_int rfl rfl ?_
    refine o_look (kv := Value.int .i64) (q := x.jumps[j]) Try.underlying45 (key_int Try.underlying3) inf4 rfl rfl hS8.mp (v := .bool (decide (x.jumps[j] ∈ xs.map Ins.p))) (by
     rw [hS8.get]
     by_cases hm : x.jumps[j] ∈ xs.map Ins.p
     · rw [if_pos hm, decide_eq_true hm]; rfl
     · rw [if_neg hm, decide_eq_false hm]; rfl) ?_
    refine u_not rfl ?_
    refine o_nil ?_
    refine k_cond rfl (fun h => ?_) (fun h => ?_)
    ·
      refine k_seq ?_
      refine k_region ?_
      refine m_sl rfl rfl ?_
      refine m_int rfl rfl ?_
      refine o_nil ?_
      refine k_ret (ret_tmps (ts := [2, 3]) (v := .tuple #[.slice _ _ _, .int _ _]) rfl rfl ?_)
      exact ReadR.nil (rd_none hlen (by
       unfold rd
       rw [hxs]
       exact if_neg (fun hh => h (hh.2 x hxm _ (List.getElem_mem hjl))))) ((hK04.tr hK5).tr hK57)
    refine k_skip ?_
    refine k_blk ?_
    refine k_region ?_
    refine n_add rfl rfl (by omega) ?_
    refine m_int rfl rfl ?_
    refine o_nil ?_
    refine k_goal ⟨j + 1, ⟨rfl, rfl, rfl, rfl, rfl, rfl, rfl, rfl, trivial⟩, ⟨by omega, fun k t hk ht => ?_, rfl⟩, by omega⟩
    by_cases hkj : k = j
    · subst hkj
      rw [List.getElem?_eq_getElem hjl] at ht
      rw [← Option.some.inj ht]
      exact Decidable.of_not_not h
    · exact hjok k t (by omega) ht
  have hpin : p < cs.length := by omega
  have hrb := hR4.choose_spec.choose_spec.1
  refine k_skip ?_
  refine k_block ?_
  refine k_seq ?_
  refine k_region ?_
  refine m_ptr rfl rfl ?_
  refine m_int rfl rfl ?_
  refine o_call rfl rfl (one_ok w.heap.size w4 r mm p cs hR4 hS4.tab hpin hK04.size) (fun v w5 hv => ?_)
  obtain ⟨fl', cx, x, rfl, hcx, hR5, hK5, htx, hfx⟩ := hv
  have hS5 := hS4.keep hK5 (fun b hb => by simp at hb; subst hb; exact hS4.sl.notin hrb (by decide)) (fun b hb cs' hB' => by simp at hb; subst hb; exact absurd (hB'.ty hrb) (by decide)) (fun b hb => by simp at hb; subst hb; exact ⟨hS4.mp.blk hrb, hS4.tab.choose_spec.1.blk hrb⟩)
  have h7 := hcx.len
  refine o_alloc inf38 rfl (fun b w6 hB6 hK6 hb6 hZ6 => ?_)
  refine o_sta (xs := cx) rfl rfl (by rw [h7]; rfl) hcx.one hB6 (by rw [h7]; exact Nat.le_refl 7) (fun w7 hB7 hK7 hZ7 => ?_)
  have hB7' : Blk w7 b (([] ++ cx) ++ []).toArray 38 := by rw [h7] at hB7; exact hB7
  rw [List.nil_append, List.append_nil] at hB7'
  have hK57 : Keep [] w5 w7 := hK6.trans hK7 (by simp; omega)
  have hK47 : Keep [r] w4 w7 := hK5.trans hK57 (by simp)
  have hK07 : Keep [] w w7 := hK04.trans hK47 (by simp; omega)
  have hR7 := hR5.keep hK57 (by simp)
  have hS7 := hS5.keep hK57 (by simp) (by simp) (by simp)
  have hcx7 : insC (GS w.heap.size w7) cx x := hcx.mono (fun v l hv => by
   obtain ⟨a', c', h1, h2, h3⟩ := hv
   exact ⟨a', c', h1, h2.new hK57, fun z hz => Nat.le_trans hK04.size (h3 z hz)⟩)
  refine o_nil ?_
  refine k_seq ?_
  refine k_seq ?_
  refine k_region ?_
  refine m_ptr rfl rfl ?_
  refine o_nilc rfl ?_
  refine o_fld (off := 2) rfl rfl ?_
  refine o_ld (v := .bool fl') rfl rfl (hR7.choose_spec.choose_spec.1.at rfl) ?_
  refine o_nil ?_
  refine k_condb rfl (fun h => ?_) (fun h => ?_)
  ·
    refine k_seq ?_
    refine k_region ?_
    refine m_sl rfl rfl ?_
    refine m_int rfl rfl ?_
    refine o_nil ?_
    refine k_ret (ret_tmps (ts := [2, 3]) (v := .tuple #[.slice _ _ _, .int _ _]) rfl rfl ?_)
    exact ReadR.nil (rd_none hlen (by
     unfold rd
     rw [hrf, rdFrom_none hpin (htx h)]
     rfl)) hK07
  subst h
  have hx1 := hfx rfl
  have hxl := rdOne_len hx1 hpin
  have hone := hcx7.one
  have hins := hcx7
  obtain ⟨kv, jv, hce, hkv, hjv⟩ := hcx7
  subst hce
  refine k_skip ?_
  refine k_seq ?_
  refine k_region ?_
  refine m_sl rfl rfl ?_
  refine o_lda (xs := [iv x.p, iv x.len, iv x.op, iv x.a, iv x.b, kv, jv]) rfl rfl rfl (fun j v hv => by rw [Nat.zero_add]; exact hB7'.at (by simpa using hv)) ?_
  refine o_bsl (E := 38) (cs := #[iv x.p, iv x.len, iv x.op, iv x.a, iv x.b, kv, jv]) rfl (fun _ => by kernel_rfl) (fun g w8 hB8 hK8 hb8 hZ8 => ?_)
  have hS8 := hS7.keep hK8 (by simp) (by simp) (by simp)
  refine o_app2 Try.underlying24 inf38 rfl (by decide) rfl rfl hS8.sl hB8.rd rfl (by simpa using hone) (by simp [maxLen]; omega) (by omega) (fun a2 c2 w9 hS9 hv9 => ?_)
  have hrb8 := (hR7.keep hK8 (by simp)).choose_spec.choose_spec.1
  have h38 : ∀ b ∈ blkOf a5, ∀ T, T ≠ 38 → ∀ cs', ¬ Blk w8 b cs' T := fun b hb T hT cs' hB' => by
   rcases hS8.sl.2 with ⟨h0, _⟩ | ⟨g5, cur, h0, hB5, _⟩
   · rw [h0] at hb; simp [blkOf] at hb
   · rw [h0] at hb; simp [blkOf] at hb; subst hb; exact hT (hB'.ty hB5)
  have hKS : ∃ S, Keep S w8 w9 ∧ ∀ b ∈ S, b ∈ blkOf a5 := by
   rcases hv9 with ⟨_, _, hK, _⟩ | ⟨_, _, hK, _⟩
   · exact ⟨_, hK, fun _ h => h⟩
   · exact ⟨[], hK, by simp⟩
  obtain ⟨S9, hK9, hSb⟩ := hKS
  have hfb : ∀ b ∈ S9, w.heap.size ≤ b := fun b hb => by
   have := hSb b hb
   cases a5 with
   | none => simp [blkOf] at this
   | some z => simp [blkOf] at this; subst this; exact hS8.fresh z rfl
  have hnb : ∀ b ∈ S9, ∃ cs', Blk w8 b cs' 38 := fun b hb => by
   have h1 := hSb b hb
   rcases hS8.sl.2 with ⟨h0, _⟩ | ⟨g5, cur, h0, hB5, _⟩
   · rw [h0] at h1; simp [blkOf] at h1
   · rw [h0] at h1; simp [blkOf] at h1; subst h1; exact ⟨_, hB5⟩
  have hR9 : Rdr w.heap.size w9 r mm cs false := (hR7.keep hK8 (by simp)).keep hK9 (fun b hb => ⟨hfb b hb, fun e => by obtain ⟨cs', hB'⟩ := hnb b hb; subst e; exact absurd (hB'.ty hrb8) (by decide)⟩)
  have hM9 : Mp w9 mb (Value.int .i64) m := hS8.mp.keep hK9 (fun hm => by obtain ⟨cs', hB'⟩ := hnb _ hm; exact E.Mp.noblk hS8.mp _ _ hB')
  have hT9 : Tab w9 mm := hS8.tab.keep hK9 (fun hm => by obtain ⟨cs', hB'⟩ := hnb _ hm; exact E.Mp.noblk hS8.tab.choose_spec.1 _ _ hB')
  have hrow9 : Rows (GS w.heap.size w9) (vs ++ [iv x.p, iv x.len, iv x.op, iv x.a, iv x.b, kv, jv]) (xs ++ [x]) := by
   have hg : ∀ v l, GS w.heap.size w7 v l → GS w.heap.size w9 v l := fun v l hv => (hv.keep hK8 (by simp)).keep hK9 (fun b hb => .inr fun cs' hB' => by obtain ⟨cs2, hB2'⟩ := hnb b hb; exact absurd (hB'.ty hB2') (by decide))
   exact (hS7.rows.mono hg).snoc (hins.mono hg)
  have hf9 : ∀ z, a2 = some z → w.heap.size ≤ z.block := fun z hz => by
   have := hK07.size
   rcases hv9 with ⟨h1, _⟩ | ⟨g9, h1, _, h2, _⟩
   · exact hS8.fresh z (h1 ▸ hz)
   · rw [h1] at hz; cases hz; simp only; omega
  have hK09 : Keep [] w w9 := (hK07.tr hK8).trans hK9 (fun b hb hlt => by have := hfb b hb; omega)
  have hmbm : mb ≠ mm := by omega
  refine m_sl rfl rfl ?_
  refine o_nil ?_
  refine k_seq ?_
  refine k_region ?_
  refine m_map rfl rfl ?_
  refine m_int rfl rfl ?_
  refine o_mput (kv := Value.int .i64) (q := (p : Int)) Try.underlying45 (key_int Try.underlying3) rfl rfl rfl hM9 (.inl rfl) (fun w10 hM10 hK10 hZ10 => ?_)
  have hnomb := E.Mp.noblk hM9
  have hS10 : Sl w10 38 7 a2 (xs.length + 1) c2 (vs ++ [iv x.p, iv x.len, iv x.op, iv x.a, iv x.b, kv, jv]) := hS9.keep hK10 (fun z hz hm => by
   simp at hm
   rcases hS9.2 with ⟨h0, _⟩ | ⟨g5, cur, h0, hB5, _⟩
   · rw [h0] at hz; cases hz
   · rw [h0] at hz; cases hz; simp only at hm; subst hm; exact hnomb _ _ hB5)
  have hRS10 : RS w.heap.size mm mb a2 c2 w10 (xs ++ [x]) (vs ++ [iv x.p, iv x.len, iv x.op, iv x.a, iv x.b, kv, jv]) (putM m (p : Int) (.bool true)) := ⟨by simpa using hS10, hrow9.mono (fun v l hv => hv.keep hK10 (fun b hb => .inr fun cs' hB' => by simp at hb; subst hb; exact hnomb _ _ hB')), hf9, hM10, fun i => by
   rw [getM_put, hS8.get]
   simp only [List.map_append, List.mem_append, List.map_cons, List.map_nil, List.mem_singleton, hxl.1]
   by_cases hip : i = (p : Int)
   · rw [if_pos hip, if_pos (.inr hip)]
   · rw [if_neg hip]
     simp [hip], hT9.keep hK10 (by simpa using fun e => hmbm e.symm)⟩
  have hR10 := hR9.keep hK10 (by simpa using ⟨by omega, fun e => by have := hR9.choose_spec.choose_spec.1; subst e; exact hnomb _ _ this⟩)
  have hK010 : Keep [] w w10 := hK09.trans hK10 (by simp; omega)
  refine o_nil ?_
  refine k_region ?_
  refine m_int rfl rfl ?_
  refine o_fld (off := 1) rfl rfl ?_
  refine o_ld (v := iv x.len) rfl rfl ((show Blk w10 b _ 38 from ((hB7'.keep hK8 (by simp)).keep hK9 (fun hm => by
   have h1 := hSb b hm
   have h2 := hS7.sl
   cases a5 with
   | none => simp [blkOf] at h1
   | some z => simp [blkOf] at h1; have := hS5.sl.lt z rfl; omega)).keep hK10 (by simp; intro e; subst e; exact hnomb _ _ ((hB7'.keep hK8 (by simp)).keep hK9 (fun hm => by
   have h1 := hSb b hm
   cases a5 with
   | none => simp [blkOf] at h1
   | some z => simp [blkOf] at h1; have := hS5.sl.lt z rfl; omega)))).at rfl) ?_
  refine n_add rfl rfl (by omega) ?_
  refine m_int rfl rfl ?_
  refine o_nil ?_
  refine k_blk ?_
  refine k_goal ⟨(p + x.len.toNat, xs ++ [x], _, a2, c2, _), ⟨rfl, rfl, ?_, rfl, ?_, trivial⟩, ⟨?_, ?_, ?_, hRS10, hR10, hK010⟩, ?_⟩
  · show Value.slice a2 (xs.length + 1) c2 = Value.slice a2 (xs ++ [x]).length c2
    rw [List.length_append]; rfl
  · exact congrArg (Value.int .i64) (by simp only; omega)
  · simp only; omega
  · simp only [List.length_append, List.length_singleton]; omega
  · simp only
    rw [hrf, rdFrom_some hpin hx1, Option.map_map]
    congr 1
    funext l
    simp
  · simp only; omega
end Go.Proofs.Ytmdkinedbmjieaa
