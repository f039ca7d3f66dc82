/- The walks of the reference's prefix codes. No condition beyond what each contract names. -/
import Derived.Test.YtpmlhlefhmgpfaaPc
namespace Go.Proofs.Ytpmlhlefhmgpfaa
open Go.RowKit E
set_option linter.unusedVariables false
set_option linter.unusedSimpArgs false
set_option maxRecDepth 100000
attribute [local irreducible] ow qw kw kq cw opW Ret
/-- a code's cells: of each length its first word, and its symbols -/
def rcells (f ln : Nat → Nat) (sl : Nat → Option Addr × Nat) : List Value := (List.range 16).map (fun n => Value.int .i64 (f n : Int)) ++ (List.range 16).map (fun n => Value.slice (sl n).1 (ln n) (sl n).2)
theorem rc_len (f ln : Nat → Nat) (sl : Nat → Option Addr × Nat) : (rcells f ln sl).length = 32 := by simp [rcells]
theorem rc_first (f ln : Nat → Nat) (sl : Nat → Option Addr × Nat) (n : Nat) (h : n < 16) : (rcells f ln sl)[n]? = some (.int .i64 (f n : Int)) := by
  unfold rcells
  rw [List.getElem?_append_left (by simpa using h)]
  simp [h]
theorem rc_syms (f ln : Nat → Nat) (sl : Nat → Option Addr × Nat) (n : Nat) (h : n < 16) : (rcells f ln sl)[16 + n]? = some (.slice (sl n).1 (ln n) (sl n).2) := by
  unfold rcells
  rw [List.getElem?_append_right (by simp)]
  simp [h]
theorem rc_one (f ln : Nat → Nat) (sl : Nat → Option Addr × Nat) : ∀ u ∈ rcells f ln sl, u.oneCell' = true := by
  intro u hu
  unfold rcells at hu
  rcases List.mem_append.1 hu with h | h
  · obtain ⟨n, _, rfl⟩ := List.mem_map.1 h; rfl
  · obtain ⟨n, _, rfl⟩ := List.mem_map.1 h; rfl
theorem rc_congr {f f' ln ln' : Nat → Nat} {sl sl' : Nat → Option Addr × Nat} (h1 : ∀ n, n < 16 → f n = f' n) (h2 : ∀ n, n < 16 → ln n = ln' n) (h3 : ∀ n, n < 16 → sl n = sl' n) : rcells f ln sl = rcells f' ln' sl' := by
  unfold rcells
  congr 1
  · exact List.map_congr_left fun n hn => by rw [h1 n (List.mem_range.1 hn)]
  · exact List.map_congr_left fun n hn => by rw [h2 n (List.mem_range.1 hn), h3 n (List.mem_range.1 hn)]
theorem rc_set1 (f ln : Nat → Nat) (sl : Nat → Option Addr × Nat) (n x : Nat) (h : n < 16) : (rcells f ln sl).set n (.int .i64 (x : Int)) = rcells (fun j => if j = n then x else f j) ln sl := by
  apply List.ext_getElem?
  intro i
  rw [List.getElem?_set]
  by_cases hi : n = i
  · subst hi
    rw [if_pos rfl, if_pos (by rw [rc_len]; omega), rc_first _ _ _ _ h, if_pos rfl]
  · rw [if_neg hi]
    by_cases h16 : i < 16
    · rw [rc_first _ _ _ _ h16, rc_first _ _ _ _ h16, if_neg (fun e => hi e.symm)]
    · by_cases h32 : i < 32
      · obtain ⟨k, rfl⟩ : ∃ k, i = 16 + k := ⟨i - 16, by omega⟩
        rw [rc_syms _ _ _ _ (by omega), rc_syms _ _ _ _ (by omega)]
      · rw [List.getElem?_eq_none (by rw [rc_len]; omega), List.getElem?_eq_none (by rw [rc_len]; omega)]
theorem rc_set2 (f ln : Nat → Nat) (sl : Nat → Option Addr × Nat) (n : Nat) (a : Option Addr) (l c : Nat) (h : n < 16) : (rcells f ln sl).set (16 + n) (.slice a l c) = rcells f (fun j => if j = n then l else ln j) (fun j => if j = n then (a, c) else sl j) := by
  apply List.ext_getElem?
  intro i
  rw [List.getElem?_set]
  by_cases hi : 16 + n = i
  · subst hi
    rw [if_pos rfl, if_pos (by rw [rc_len]; omega), rc_syms _ _ _ _ h, if_pos rfl, if_pos rfl]
  · rw [if_neg hi]
    by_cases h16 : i < 16
    · rw [rc_first _ _ _ _ h16, rc_first _ _ _ _ h16]
    · by_cases h32 : i < 32
      · obtain ⟨k, rfl⟩ : ∃ k, i = 16 + k := ⟨i - 16, by omega⟩
        have hk : k ≠ n := fun e => hi (by rw [e])
        rw [rc_syms _ _ _ _ (by omega), rc_syms _ _ _ _ (by omega), if_neg hk, if_neg hk]
      · rw [List.getElem?_eq_none (by rw [rc_len]; omega), List.getElem?_eq_none (by rw [rc_len]; omega)]
def sv (xs : List Nat) : List Value := xs.map (fun s : Nat => Value.int .i64 (s : Int))
theorem sv_at {xs : List Nat} {i s : Nat} (h : xs[i]? = some s) : (sv xs)[i]? = some (.int .i64 (s : Int)) := by simp [sv, h]
/-- a code of the reference as a value: its slices can be read -/
def RC (w : World) (L : List Nat) (sl : Nat → Option Addr × Nat) : Prop := ∀ n, n < 16 → Rd w (sl n).1 (sv (syms L n))
theorem RC.new {w w' : World} {L : List Nat} {sl : Nat → Option Addr × Nat} (h : RC w L sl) (hk : Keep [] w w') : RC w' L sl := fun n hn => (h n hn).new hk
theorem RC.oth {w w' : World} {L : List Nat} {sl : Nat → Option Addr × Nat} {x : Nat} (h : RC w L sl) (hk : Keep [x] w w') (hx : ∀ n, n < 16 → syms L n ≠ [] → ∀ q, (sl n).1 = some q → q.block ≠ x) : RC w' L sl := fun n hn => (h n hn).keepN hk (fun hne q hq hm => by
  simp at hm
  exact hx n hn (by rintro e; rw [e] at hne; exact hne rfl) q hq hm)
theorem blk_agg {w : World} {b : Nat} {xs : List Value} {T : TypeId} (h : Blk w b xs.toArray T) {i : Nat} {v : Value} (hi : xs[i]? = some v) : w.cell? ⟨b, i, none⟩ = some v := h.at (by simpa using hi)
theorem longest_ok (w : World) (L : List Nat) (sl : Nat → Option Addr × Nat) (hL : ∀ x ∈ L, x ≤ 15) :
    Ret Try.prog 40 [.agg (rcells (fst L) (cnt L) sl).toArray] w (fun v w' => v = .int .i64 (mostL L : Int) ∧ Keep [] w w') := by
  refine fn_enter (n := 17) Try.func40 rfl rfl (Nat.le_of_ble_eq_true rfl) (fun e => ?_)
  refine k_seq ?_
  refine k_region ?_
  refine o_box rfl rfl (fun b w2 hB2 hK2 hb2 hZ2 => ?_)
  have hm15 := most_15 L hL
  refine m_int rfl rfl ?_
  refine o_nil ?_
  refine k_seq ?_
  refine k_region ?_
  refine m_int rfl rfl ?_
  refine o_nil ?_
  refine k_seq ?_
  refine k_block ?_
  refine k_loop (σ := Nat) (fun n => [(1, .pointer (some ⟨b, 0, none⟩)), (3, .int .i64 (n : Int))]) (fun n w' => n ≤ 15 ∧ mostL L ≤ n ∧ w' = w2) (fun n => n) 15 ⟨rfl, rfl, trivial⟩ ⟨by omega, by omega, rfl⟩ (fun n e w3 hJ => ?_)
  obtain ⟨hn, hmn, rfl⟩ := hJ
  refine k_seq ?_
  refine k_seq ?_
  refine k_region ?_
  refine m_int rfl rfl ?_
  refine b_gtr rfl rfl ?_
  refine m_bool rfl rfl ?_
  refine o_split (t := 6) rfl (fun h => ?_) (fun h => ?_)
  ·
    have hn0 : 0 < n := by omega
    refine g_yes rfl rfl ?_
    refine m_int rfl rfl ?_
    refine g_yes rfl rfl ?_
    refine o_fld (off := 16) rfl rfl ?_
    refine g_yes rfl rfl ?_
    refine o_ixa1 (m := n) Try.underlying60 rfl rfl rfl (by omega) ?_
    refine g_yes rfl rfl ?_
    refine o_ld rfl rfl (blk_agg hB2 (by rw [Nat.zero_add]; exact rc_syms _ _ _ n (by omega))) ?_
    refine g_yes rfl rfl ?_
    refine o_lens Try.underlying42 rfl ?_
    refine g_yes rfl rfl ?_
    refine b_eql rfl rfl ?_
    refine pick_t rfl rfl ?_
    refine o_nil ?_
    refine k_cond rfl (fun h => ?_) (fun h => ?_)
    rotate_left
    ·
      refine k_exit rfl ?_
      refine k_seq ?_
      refine k_region ?_
      refine m_int rfl rfl ?_
      refine m_int rfl rfl ?_
      refine o_nil ?_
      refine k_ret (ret_tmps (ts := [2]) (v := .int _ _) rfl rfl ?_)
      refine ⟨congrArg (Value.int .i64) ?_, hK2⟩
      by_cases hh : mostL L = n
      · rw [hh]
      · have := cnt_above L n (by omega)
        exact absurd (by rw [this]; rfl) h
    refine k_skip ?_
    refine k_block ?_
    refine k_region ?_
    refine m_int rfl rfl ?_
    refine n_sub rfl rfl (by omega) ?_
    refine m_int rfl rfl ?_
    refine o_nil ?_
    refine k_blk ?_
    refine k_goal ⟨n - 1, ⟨rfl, congrArg (Value.int .i64) (by omega), trivial⟩, ⟨by omega, ?_, rfl⟩, by omega⟩
    by_cases hh : mostL L = n
    · have := cnt_most L (by omega)
      rw [hh] at this
      omega
    · omega
  ·
    refine g_no rfl rfl rfl ?_
    refine g_no rfl rfl rfl ?_
    refine g_no rfl rfl rfl ?_
    refine g_no rfl rfl rfl ?_
    refine g_no rfl rfl rfl ?_
    refine g_no rfl rfl rfl ?_
    refine pick_f rfl rfl ?_
    refine o_nil ?_
    refine k_condf rfl ?_
    refine k_exit rfl ?_
    refine k_seq ?_
    refine k_region ?_
    refine m_int rfl rfl ?_
    refine m_int rfl rfl ?_
    refine o_nil ?_
    refine k_ret (ret_tmps (ts := [2]) (v := .int _ _) rfl rfl ?_)
    exact ⟨congrArg (Value.int .i64) (by omega), hK2⟩
theorem rword_ok (w : World) (L : List Nat) (sl : Nat → Option Addr × Nat) (s : Int) (hL : ∀ x ∈ L, x ≤ 15) (hl : L.length ≤ 288) (hk : kr L 15 ≤ 32768) (hR : RC w L sl) :
    Ret Try.prog 37 [.agg (rcells (fst L) (cnt L) sl).toArray, .int .i64 s] w (fun v w' => v = .tuple #[.int .i64 ((wd L s).1 : Int), .int .i64 ((wd L s).2 : Int)] ∧ Keep [] w w') := by
  refine fn_enter (n := 37) Try.func37 rfl rfl (Nat.le_of_ble_eq_true rfl) (fun e => ?_)
  refine k_seq ?_
  refine k_region ?_
  refine o_box rfl rfl (fun b w2 hB2 hK2 hb2 hZ2 => ?_)
  refine m_int rfl rfl ?_
  refine m_int rfl rfl ?_
  refine o_nil ?_
  refine k_seq ?_
  refine k_seq ?_
  refine k_region ?_
  refine m_int rfl rfl ?_
  refine o_nil ?_
  refine k_block ?_
  refine k_loop (σ := Nat) (fun n => [(1, .int .i64 s), (2, .pointer (some ⟨b, 0, none⟩)), (6, .int .i64 (n : Int))]) (fun n w' => 1 ≤ n ∧ n ≤ 16 ∧ (∀ m, 1 ≤ m → m < n → ∀ k t : Nat, (syms L m)[k]? = some t → (t : Int) ≠ s) ∧ w' = w2) (fun n => 16 - n) 1 ⟨rfl, rfl, rfl, trivial⟩ ⟨by omega, by omega, fun m h1 h2 => by omega, rfl⟩ (fun n e w3 hJ => ?_)
  obtain ⟨hn1, hn16, hno, rfl⟩ := hJ
  refine k_seq ?_
  refine k_seq ?_
  refine k_region ?_
  refine m_int rfl rfl ?_
  refine b_leq rfl rfl ?_
  refine o_nil ?_
  refine k_cond rfl (fun h => ?_) (fun h => ?_)
  rotate_left
  ·
    refine k_exit rfl ?_
    refine k_seq ?_
    refine k_region ?_
    refine m_int rfl rfl ?_
    refine m_int rfl rfl ?_
    refine o_nil ?_
    refine k_ret (ret_tmps (ts := [4, 5]) (v := .tuple #[.int _ _, .int _ _]) rfl rfl ?_)
    obtain rfl : n = 16 := by omega
    refine ⟨?_, hK2⟩
    have : wd L s = (0, 0) := by
     unfold wd
     split
     · rfl
     · rename_i hs
       by_cases hsl : s.toNat < L.length
       · by_cases h0 : L[s.toNat] = 0
         · exact wdN_none L _ hsl h0
         · have h15 := hL _ (List.getElem_mem hsl)
           exact absurd (by omega) (hno L[s.toNat] (by omega) (by omega) _ _ (syms_at L _ hsl h0))
       · exact wdN_out L _ (by omega)
    rw [this]; rfl
  have hn15 : n ≤ 15 := by omega
  refine k_skip ?_
  refine k_seq ?_
  refine k_block ?_
  refine k_seq ?_
  refine k_region ?_
  refine m_int rfl rfl ?_
  refine o_nil ?_
  refine k_block ?_
  refine k_loop (σ := Nat) (fun k => [(1, .int .i64 s), (2, .pointer (some ⟨b, 0, none⟩)), (6, .int .i64 (n : Int)), (7, .int .i64 (k : Int))]) (fun k w' => k ≤ cnt L n ∧ (∀ j t : Nat, j < k → (syms L n)[j]? = some t → (t : Int) ≠ s) ∧ w' = w3) (fun k => cnt L n - k) 0 ⟨rfl, rfl, rfl, rfl, trivial⟩ ⟨by omega, fun j t h => by omega, rfl⟩ (fun k e w4 hJ => ?_)
  obtain ⟨hkc, hnk, rfl⟩ := hJ
  have hfl := fst_lt15 hk n hn15
  refine k_seq ?_
  refine k_seq ?_
  refine k_region ?_
  refine m_int rfl rfl ?_
  refine m_int rfl rfl ?_
  refine o_fld (off := 16) rfl rfl ?_
  refine o_ixa1 (m := n) Try.underlying60 rfl rfl rfl (by omega) ?_
  refine o_ld rfl rfl (blk_agg hB2 (by rw [Nat.zero_add]; exact rc_syms _ _ _ n (by omega))) ?_
  refine o_lens Try.underlying42 rfl ?_
  refine b_lss rfl rfl ?_
  refine o_nil ?_
  refine k_cond rfl (fun h => ?_) (fun h => ?_)
  rotate_left
  ·
    refine k_exit rfl ?_
    refine k_blk ?_
    refine k_region ?_
    refine m_int rfl rfl ?_
    refine n_add rfl rfl (by omega) ?_
    refine m_int rfl rfl ?_
    refine o_nil ?_
    refine k_goal ⟨n + 1, ⟨rfl, rfl, rfl, trivial⟩, ⟨by omega, by omega, ?_, rfl⟩, by omega⟩
    intro m h1 h2 j t ht
    by_cases hm : m < n
    · exact hno m h1 hm j t ht
    · obtain rfl : m = n := by omega
      refine hnk j t ?_ ht
      have := (List.getElem?_eq_some_iff.1 ht).1
      have : j < cnt L m := this
      omega
  have hkl : k < (syms L n).length := (show k < cnt L n by omega)
  obtain ⟨t, ht⟩ : ∃ t, (syms L n)[k]? = some t := ⟨_, List.getElem?_eq_getElem hkl⟩
  obtain ⟨htl, hLt, hn0⟩ := syms_mem L n k t ht
  obtain ⟨b1, o1, hsl1, hcell⟩ := (hR n (by omega)).new hK2 k _ (sv_at ht)
  refine k_skip ?_
  refine k_seq ?_
  refine k_block ?_
  refine k_seq ?_
  refine k_region ?_
  refine m_int rfl rfl ?_
  refine o_fld (off := 16) rfl rfl ?_
  refine o_ixa1 (m := n) Try.underlying60 rfl rfl rfl (by omega) ?_
  refine o_ld rfl rfl (blk_agg hB2 (by rw [Nat.zero_add]; exact rc_syms _ _ _ n (by omega))) ?_
  rw [hsl1]
  refine m_int rfl rfl ?_
  refine o_ixs1 (m := k) Try.underlying42 rfl rfl rfl (by omega) ?_
  refine o_ld rfl rfl hcell ?_
  refine m_int rfl rfl ?_
  refine b_eql rfl rfl ?_
  refine o_nil ?_
  refine k_cond rfl (fun h => ?_) (fun h => ?_)
  ·
    refine k_seq ?_
    refine k_region ?_
    refine m_int rfl rfl ?_
    refine o_fld0 rfl rfl ?_
    refine o_ixa1 (m := n) Try.underlying59 rfl rfl rfl (by omega) ?_
    refine o_ld rfl rfl (blk_agg hB2 (by rw [Nat.zero_add]; exact rc_first _ _ _ n (by omega))) ?_
    refine m_int rfl rfl ?_
    refine n_add rfl rfl (by omega) ?_
    refine m_int rfl rfl ?_
    refine m_int rfl rfl ?_
    refine m_int rfl rfl ?_
    refine o_nil ?_
    refine k_ret (ret_tmps (ts := [4, 5]) (v := .tuple #[.int _ _, .int _ _]) rfl rfl ?_)
    refine ⟨?_, hK2⟩
    have hrank : cnt (L.take t) n = k := by
     have h1 := syms_at L t htl (by rw [hLt]; exact hn0)
     rw [hLt] at h1
     have hnd : (syms L n).Nodup := List.Pairwise.sublist List.filter_sublist List.nodup_range
     exact (List.getElem?_inj (List.getElem?_eq_some_iff.1 h1).1 hnd).1 (h1.trans ht.symm)
    have : wd L s = (fst L n + k, n) := by
     unfold wd
     rw [if_neg (by omega), show s.toNat = t by omega, wdN_at L t htl (by rw [hLt]; exact hn0)]
     simp only [hLt]
     rw [hrank]
    rw [this]
    simp only [Int.natCast_add]
  have h29 := h
  refine k_skip ?_
  refine k_blk ?_
  refine k_region ?_
  refine m_int rfl rfl ?_
  refine n_add rfl rfl (by omega) ?_
  refine m_int rfl rfl ?_
  refine o_nil ?_
  refine k_goal ⟨k + 1, ⟨rfl, rfl, rfl, rfl, trivial⟩, ⟨by omega, ?_, rfl⟩, by omega⟩
  intro j u hj hu
  by_cases hjk : j < k
  · exact hnk j u hjk hu
  · obtain rfl : j = k := by omega
    rw [ht] at hu
    obtain rfl := Option.some.inj hu
    exact h29
theorem rnext_ok (w : World) (x : Nat) (L : List Nat) (sl : Nat → Option Addr × Nat) (bs : List (BitVec 8)) (p : Nat) (hL : ∀ x ∈ L, x ≤ 15) (hl : L.length ≤ 288) (hk : kr L 15 ≤ 32768) (hRC : RC w L sl) (hR : Rdr 51 w x bs p)
    (hxs : ∀ n, n < 16 → syms L n ≠ [] → ∀ q, (sl n).1 = some q → q.block ≠ x) :
    Ret Try.prog 39 [.agg (rcells (fst L) (cnt L) sl).toArray, .pointer (some ⟨x, 0, none⟩)] w (fun v w' => NxR 51 w x L bs p v w') := by
  obtain ⟨csx, hBx⟩ := hR.blk
  have hxlt := hBx.lt
  have hm15 := most_15 L hL
  refine fn_enter (n := 62) Try.func39 rfl rfl (Nat.le_of_ble_eq_true rfl) (fun e => ?_)
  refine k_seq ?_
  refine k_region ?_
  refine o_box rfl rfl (fun b w2 hB2 hK2 hb2 hZ2 => ?_)
  have hB2 : Blk w2 b (rcells (fst L) (cnt L) sl).toArray 62 := hB2
  refine m_int rfl rfl ?_
  refine m_int rfl rfl ?_
  refine o_nil ?_
  refine k_seq ?_
  refine k_region ?_
  refine o_lda (xs := rcells (fst L) (cnt L) sl) rfl rfl (by rw [rc_len]; rfl) (fun j u hj => by rw [Nat.zero_add]; exact blk_agg hB2 hj) ?_
  refine o_call rfl rfl (longest_ok w2 L sl hL) (fun v w3 hv => ?_)
  obtain ⟨rfl, hK3⟩ := hv
  have hk3 := hK2.tr hK3
  have hB3 := hB2.keep hK3 (by simp)
  refine m_int rfl rfl ?_
  refine o_nil ?_
  refine k_seq ?_
  refine k_region ?_
  refine m_int rfl rfl ?_
  refine m_int rfl rfl ?_
  refine o_nil ?_
  refine k_seq ?_
  refine k_block ?_
  refine k_loop (σ := Nat × Nat × Nat) (fun s => [(1, .pointer (some ⟨x, 0, none⟩)), (2, .pointer (some ⟨b, 0, none⟩)), (6, .int .i64 (mostL L : Int)), (7, .int .i64 (s.2.1 : Int)), (8, .int .i64 (s.1 : Int))]) (fun s w' => s.1 ≤ mostL L ∧ s.2.1 < 2 ^ s.1 ∧ Blk w' b (rcells (fst L) (cnt L) sl).toArray 62 ∧ Rdr 51 w' x bs s.2.2 ∧ nx L bs (mostL L) 0 0 p = nx L bs (mostL L - s.1) s.1 s.2.1 s.2.2 ∧ Keep [x] w w') (fun s => mostL L - s.1) (0, 0, p) ⟨rfl, rfl, rfl, rfl, rfl, trivial⟩ ⟨by simp, by simp, hB3, hR.new hk3, rfl, hk3.also⟩ (fun s e w4 hJ => ?_)
  obtain ⟨n, b', p'⟩ := s
  obtain ⟨hn, hb, hB4, hR4, hnx, hK4⟩ := hJ
  simp only at hn hb hB4 hR4 hnx
  change kw _ _ _ _ (ovr [(1, .pointer (some ⟨x, 0, none⟩)), (2, .pointer (some ⟨b, 0, none⟩)), (6, .int .i64 (mostL L : Int)), (7, .int .i64 (b' : Int)), (8, .int .i64 (n : Int))] e) w4
  have hb15 : b' < 32768 := by
   have : 2 ^ n ≤ 2 ^ 15 := Nat.pow_le_pow_right (by decide) (by omega)
   omega
  refine k_seq ?_
  refine k_seq ?_
  refine k_region ?_
  refine m_int rfl rfl ?_
  refine m_int rfl rfl ?_
  refine b_lss rfl rfl ?_
  refine o_nil ?_
  refine k_cond rfl (fun h => ?_) (fun h => ?_)
  rotate_left
  ·
    refine k_exit rfl ?_
    refine k_seq ?_
    refine k_region ?_
    refine m_int rfl rfl ?_
    refine m_int rfl rfl ?_
    refine o_nil ?_
    refine k_ret (ret_tmps (ts := [4, 5]) (v := .tuple #[.int _ _, .int _ _]) rfl rfl ?_)
    refine NxR.of ?_ hR4 hK4
    rw [hnx, show mostL L - n = 0 by omega]; rfl
  have hnm : n < mostL L := by omega
  obtain ⟨k', hk'⟩ : ∃ k', mostL L - n = k' + 1 := ⟨mostL L - n - 1, by omega⟩
  rw [hk'] at hnx
  refine k_skip ?_
  refine k_block ?_
  refine k_seq ?_
  refine k_region ?_
  refine m_ptr rfl rfl ?_
  refine o_call rfl rfl (rtake_ok w4 x p' bs ((1 : Nat) : Int) hR4) (fun v w5 hv => ?_)
  obtain ⟨rfl, hR5, hK5⟩ := hv
  have hK45 : Keep [x] w w5 := hK4.trans hK5 (fun _ h _ => h)
  have hB5 := hB4.keep hK5 (by simp; omega)
  have hpl : p' ≤ 8 * bs.length := by obtain ⟨_, _, _, _, hp, _⟩ := hR4; exact hp
  refine m_any rfl rfl ?_
  refine o_extr rfl rfl ?_
  refine o_extr rfl rfl ?_
  refine m_int rfl rfl ?_
  refine m_int rfl rfl ?_
  refine o_nil ?_
  refine k_seq ?_
  refine k_seq ?_
  refine k_region ?_
  refine m_int rfl rfl ?_
  refine b_neq rfl rfl ?_
  refine o_nil ?_
  refine k_cond rfl (fun hx => ?_) (fun hx => ?_)
  ·
    have hsh : 8 * bs.length ≤ p' := by
     by_cases hc : 8 * bs.length ≤ p'
     · exact hc
     · rw [tk_ok (by omega) (by omega)] at hx; exact absurd rfl hx
    rw [tk_short (by omega) (by omega)] at hR5 ⊢
    refine k_seq ?_
    refine k_region ?_
    refine m_int rfl rfl ?_
    refine m_int rfl rfl ?_
    refine m_int rfl rfl ?_
    refine o_nil ?_
    refine k_ret (ret_tmps (ts := [4, 5]) (v := .tuple #[.int _ _, .int _ _]) rfl rfl ?_)
    exact NxR.of (by rw [hnx, nx_short hsh]) hR5 hK45
  have hns : ¬ 8 * bs.length ≤ p' := by
   intro hc
   rw [tk_short (by omega) (by omega)] at hx
   exact hx (by simp)
  rw [tk_ok (by omega) (by omega), num1] at hR5 ⊢
  have hbit : num (fun _ => bitAt bs p') 1 = (bitAt bs p').toNat := by simp [num]
  rw [hbit]
  have hbb : (bitAt bs p').toNat ≤ 1 := by cases bitAt bs p' <;> simp
  refine k_skip ?_
  refine k_seq ?_
  refine k_region ?_
  refine m_int rfl rfl ?_
  refine n_mul rfl rfl (by omega) ?_
  refine m_int rfl rfl ?_
  refine n_add rfl rfl (by omega) ?_
  rw [show (2 * (b' : Int) + ((bitAt bs p').toNat : Int)) = ((2 * b' + (bitAt bs p').toNat : Nat) : Int) by omega]
  generalize hb2e : 2 * b' + (bitAt bs p').toNat = b2 at *
  refine m_int rfl rfl ?_
  refine n_add rfl rfl (by omega) ?_
  rw [show ((n : Int) + 1) = ((n + 1 : Nat) : Int) by omega]
  have hb2 : b2 < 2 ^ (n + 1) := by rw [Nat.pow_succ]; omega
  have hRC5 : RC w5 L sl := hRC.oth hK45 hxs
  refine m_int rfl rfl ?_
  refine m_int rfl rfl ?_
  refine o_nil ?_
  refine k_seq ?_
  refine k_qk 18 rfl rfl rfl rfl rfl ?_
  refine q_step (fun w1 hC => m_int rfl rfl (o_nil ⟨rfl, hC⟩)) ?_
  refine q_step (fun w1 hC => m_int rfl rfl (o_nil ⟨rfl, hC⟩)) ?_
  refine q_step (fun w1 hC => o_fld0 rfl rfl (o_nil ⟨rfl, hC⟩)) ?_
  refine q_step (fun w1 hC => o_ixa1 (m := n + 1) Try.underlying59 rfl rfl rfl (by omega) (o_nil ⟨rfl, hC⟩)) ?_
  refine q_step (fun w1 hC => o_ld rfl rfl (blk_agg (hB5.keep hC (by simp)) (by rw [Nat.zero_add]; exact rc_first _ _ _ (n + 1) (by omega))) (o_nil ⟨rfl, hC⟩)) ?_
  refine q_step (fun w1 hC => b_geq rfl rfl (o_nil ⟨rfl, hC⟩)) ?_
  refine q_step (fun w1 hC => m_bool rfl rfl (o_nil ⟨rfl, hC⟩)) ?_
  refine q_split (t := 36) rfl (fun h => ?_) (fun h => ?_)
  ·
    have hge : fst L (n + 1) ≤ b2 := by omega
    have hfl := fst_lt15 hk (n + 1) (by omega)
    have hix : ((b2 : Int) - (fst L (n + 1) : Int)) = ((b2 - fst L (n + 1) : Nat) : Int) := by omega
    refine q_step (fun w1 hC => g_yes rfl rfl (m_int rfl rfl (o_nil ⟨rfl, hC⟩))) ?_
    refine q_step (fun w1 hC => g_yes rfl rfl (m_int rfl rfl (o_nil ⟨rfl, hC⟩))) ?_
    refine q_step (fun w1 hC => g_yes rfl rfl (o_fld0 rfl rfl (o_nil ⟨rfl, hC⟩))) ?_
    refine q_step (fun w1 hC => g_yes rfl rfl (o_ixa1 (m := n + 1) Try.underlying59 rfl rfl rfl (by omega) (o_nil ⟨rfl, hC⟩))) ?_
    refine q_step (fun w1 hC => g_yes rfl rfl (o_ld rfl rfl (blk_agg (hB5.keep hC (by simp)) (by rw [Nat.zero_add]; exact rc_first _ _ _ (n + 1) (by omega))) (o_nil ⟨rfl, hC⟩))) ?_
    refine q_step (fun w1 hC => g_yes rfl rfl (n_sub rfl rfl (by omega) (o_nil ⟨rfl, hC⟩))) ?_
    rw [hix]
    refine q_step (fun w1 hC => g_yes rfl rfl (m_int rfl rfl (o_nil ⟨rfl, hC⟩))) ?_
    refine q_step (fun w1 hC => g_yes rfl rfl (o_fld (off := 16) rfl rfl (o_nil ⟨rfl, hC⟩))) ?_
    refine q_step (fun w1 hC => g_yes rfl rfl (o_ixa1 (m := n + 1) Try.underlying60 rfl rfl rfl (by omega) (o_nil ⟨rfl, hC⟩))) ?_
    refine q_step (fun w1 hC => g_yes rfl rfl (o_ld rfl rfl (blk_agg (hB5.keep hC (by simp)) (by rw [Nat.zero_add]; exact rc_syms _ _ _ (n + 1) (by omega))) (o_nil ⟨rfl, hC⟩))) ?_
    refine q_step (fun w1 hC => g_yes rfl rfl (o_lens Try.underlying42 rfl (o_nil ⟨rfl, hC⟩))) ?_
    refine q_nil ?_
    intro w6 hC6
    refine g_yes rfl rfl ?_
    refine b_lss rfl rfl ?_
    refine pick_t rfl rfl ?_
    refine o_nil ?_
    refine k_cond rfl (fun h49 => ?_) (fun h49 => ?_)
    ·
      have hkl : b2 - fst L (n + 1) < (syms L (n + 1)).length := (show b2 - fst L (n + 1) < cnt L (n + 1) by omega)
      obtain ⟨t, ht⟩ : ∃ t, (syms L (n + 1))[b2 - fst L (n + 1)]? = some t := ⟨_, List.getElem?_eq_getElem hkl⟩
      have hhit : hit L (n + 1) b2 = some t := by unfold hit; rw [if_pos hge]; exact ht
      have hB6 := hB5.keep hC6 (by simp)
      obtain ⟨b1, o1, hsl1, _⟩ := hRC5 (n + 1) (by omega) _ _ (sv_at ht)
      refine k_seq ?_
      refine k_qk 10 rfl rfl rfl rfl rfl ?_
      refine q_step (fun w1 hC => m_int rfl rfl (o_nil ⟨rfl, hC⟩)) ?_
      refine q_step (fun w1 hC => o_fld (off := 16) rfl rfl (o_nil ⟨rfl, hC⟩)) ?_
      refine q_step (fun w1 hC => o_ixa1 (m := n + 1) Try.underlying60 rfl rfl rfl (by omega) (o_nil ⟨rfl, hC⟩)) ?_
      refine q_step (fun w1 hC => o_ld rfl rfl (blk_agg (hB6.keep hC (by simp)) (by rw [Nat.zero_add]; exact rc_syms _ _ _ (n + 1) (by omega))) (o_nil ⟨rfl, hC⟩)) ?_
      rw [hsl1]
      refine q_step (fun w1 hC => m_int rfl rfl (o_nil ⟨rfl, hC⟩)) ?_
      refine q_step (fun w1 hC => m_int rfl rfl (o_nil ⟨rfl, hC⟩)) ?_
      refine q_step (fun w1 hC => o_fld0 rfl rfl (o_nil ⟨rfl, hC⟩)) ?_
      refine q_step (fun w1 hC => o_ixa1 (m := n + 1) Try.underlying59 rfl rfl rfl (by omega) (o_nil ⟨rfl, hC⟩)) ?_
      refine q_step (fun w1 hC => o_ld rfl rfl (blk_agg (hB6.keep hC (by simp)) (by rw [Nat.zero_add]; exact rc_first _ _ _ (n + 1) (by omega))) (o_nil ⟨rfl, hC⟩)) ?_
      refine q_step (fun w1 hC => n_sub rfl rfl (by omega) (o_nil ⟨rfl, hC⟩)) ?_
      rw [hix]
      refine q_nil ?_
      intro w7 hC7
      obtain ⟨b1', o1', hsl1', hcell⟩ := (hRC5.new (hC6.tr hC7)) (n + 1) (by omega) _ _ (sv_at ht)
      rw [hsl1] at hsl1'
      cases hsl1'
      refine o_ixs1 (m := b2 - fst L (n + 1)) Try.underlying42 rfl rfl rfl (by have : (syms L (n + 1)).length = cnt L (n + 1) := rfl; omega) ?_
      refine o_ld rfl rfl hcell ?_
      refine m_int rfl rfl ?_
      refine m_int rfl rfl ?_
      refine o_nil ?_
      refine k_ret (ret_tmps (ts := [4, 5]) (v := .tuple #[.int _ _, .int _ _]) rfl rfl ?_)
      exact NxR.of (by rw [hnx, nx_hit hns (by rw [hb2e]; exact hhit)]) (hR5.new (hC6.tr hC7)) (hK45.trans (hC6.tr hC7) (by simp))
    refine k_skip ?_
    refine k_blk ?_
    have hno : hit L (n + 1) b2 = none := by
     unfold hit
     rw [if_pos hge, List.getElem?_eq_none]
     have : (syms L (n + 1)).length = cnt L (n + 1) := rfl
     omega
    refine k_goal ⟨(n + 1, b2, p' + 1), ⟨rfl, rfl, rfl, rfl, rfl, trivial⟩, ⟨by simp only; omega, hb2, hB5.keep hC6 (by simp), hR5.new hC6, ?_, hK45.trans hC6 (by simp)⟩, by simp only; omega⟩
    simp only
    rw [hnx, nx_on hns (by rw [hb2e]; exact hno), show mostL L - (n + 1) = k' by omega, hb2e]
  ·
    refine q_step (v := undef) (fun w1 hC => g_no rfl rfl rfl (o_nil ⟨rfl, hC⟩)) ?_
    refine q_step (v := undef) (fun w1 hC => g_no rfl rfl rfl (o_nil ⟨rfl, hC⟩)) ?_
    refine q_step (v := undef) (fun w1 hC => g_no rfl rfl rfl (o_nil ⟨rfl, hC⟩)) ?_
    refine q_step (v := undef) (fun w1 hC => g_no rfl rfl rfl (o_nil ⟨rfl, hC⟩)) ?_
    refine q_step (v := undef) (fun w1 hC => g_no rfl rfl rfl (o_nil ⟨rfl, hC⟩)) ?_
    refine q_step (v := undef) (fun w1 hC => g_no rfl rfl rfl (o_nil ⟨rfl, hC⟩)) ?_
    refine q_step (v := undef) (fun w1 hC => g_no rfl rfl rfl (o_nil ⟨rfl, hC⟩)) ?_
    refine q_step (v := undef) (fun w1 hC => g_no rfl rfl rfl (o_nil ⟨rfl, hC⟩)) ?_
    refine q_step (v := undef) (fun w1 hC => g_no rfl rfl rfl (o_nil ⟨rfl, hC⟩)) ?_
    refine q_step (v := undef) (fun w1 hC => g_no rfl rfl rfl (o_nil ⟨rfl, hC⟩)) ?_
    refine q_step (v := undef) (fun w1 hC => g_no rfl rfl rfl (o_nil ⟨rfl, hC⟩)) ?_
    refine q_nil ?_
    intro w6 hC6
    refine g_no rfl rfl rfl ?_
    refine pick_f rfl rfl ?_
    refine o_nil ?_
    refine k_condf rfl ?_
    refine k_skip ?_
    refine k_blk ?_
    have hno : hit L (n + 1) b2 = none := by
     unfold hit
     rw [if_neg (by omega)]
    refine k_goal ⟨(n + 1, b2, p' + 1), ⟨rfl, rfl, rfl, rfl, rfl, trivial⟩, ⟨by simp only; omega, hb2, hB5.keep hC6 (by simp), hR5.new hC6, ?_, hK45.trans hC6 (by simp)⟩, by simp only; omega⟩
    simp only
    rw [hnx, nx_on hns (by rw [hb2e]; exact hno), show mostL L - (n + 1) = k' by omega, hb2e]
end Go.Proofs.Ytpmlhlefhmgpfaa
