/- The walk of the law FilesParts. No condition beyond what each contract names. -/
import Derived.Test.YtbfphjhahgpndaaFe
namespace Go.Proofs.Ytbfphjhahgpndaa
open Go.RowKit E
set_option linter.unusedVariables false
set_option linter.unusedSimpArgs false
set_option maxRecDepth 100000
attribute [local irreducible] ow qw kw kq cw opW Ret
theorem putE_bad {fs : FS} {s : ByteArray} {n : Nat} (h : putE fs s n ≠ 0) (hl : fs.length < 16) : ¬ nameOk s ∨ 65536 < n := by
  unfold putE at h
  by_cases h1 : nameOk s
  · rw [if_neg (fun hn => hn h1)] at h
    by_cases h2 : 65536 < n
    · exact .inr h2
    · rw [if_neg h2, if_neg (by omega)] at h
      exact absurd rfl h
  · exact .inl h1
theorem empty_bad {s : ByteArray} (h : s = ⟨#[]⟩) : ¬ nameOk s := fun hn => hn.1 (by rw [h]; rfl)
theorem u16_at (xs : List (BitVec 16)) (i : Nat) (h : i < xs.length) : (xs.map u16v)[i]? = some (.int .u16 ((xs[i]).toNat : Int)) := by
  rw [List.getElem?_map, List.getElem?_eq_getElem h]; rfl
theorem tm (q k : Nat) : (q : Int).tmod (k : Int) = ((q % k : Nat) : Int) := by
  rw [Int.tmod_eq_emod_of_nonneg (by omega)]; rfl
theorem u8_set (bs : List (BitVec 8)) (k : Nat) (x : BitVec 8) : (bs.map u8v).set k (.int .u8 (x.toNat : Int)) = (bs.set k x).map u8v := by rw [List.map_set]; rfl
theorem parts_ok (w : World) (s : ByteArray) (a1 a2 a3 : Option Addr) (l1 l2 l3 c1 c2 c3 : Nat) (d1 d2 : List (BitVec 8)) (cs : List (BitVec 16)) (hs : s.size ≤ 9223372036854775807) (hR1 : Rd w a1 (d1.map u8v)) (hR2 : Rd w a2 (d2.map u8v)) (hR3 : Rd w a3 (cs.map u16v)) (h1 : d1.length = l1) (h2 : d2.length = l2) (h3 : cs.length = l3) (hb2 : l2 ≤ 140737488355328) (hb3 : l3 ≤ 9223372036854775807) :
    Ret Try.prog 3 [.string s, .slice a1 l1 c1, .slice a2 l2 c2, .slice a3 l3 c3] w (fun v w' => v = .bool true ∧ Keep [] w w') := by
  subst h1 h2 h3
  refine fn_enter (n := 136) Try.func3 rfl rfl (Nat.le_of_ble_eq_true rfl) (fun e => ?_)
  refine k_seq ?_
  refine k_region ?_
  refine m_bool rfl rfl ?_
  refine o_nil ?_
  refine k_seq ?_
  refine k_seq ?_
  refine k_region ?_
  refine o_call rfl rfl (fixed_ok w) (fun v w0 hv => ?_)
  obtain ⟨rfl, hK0⟩ := hv
  refine u_notb rfl ?_
  refine o_nil ?_
  refine k_condf rfl ?_
  refine k_skip ?_
  refine k_seq ?_
  refine k_region ?_
  refine o_call rfl rfl (fnew_ok w0) (fun v w1 hv => ?_)
  obtain ⟨r, rfl, hF1, hK1⟩ := hv
  have hk1 := hK0.tr hK1
  refine m_ptr rfl rfl ?_
  refine o_nil ?_
  refine k_seq ?_
  refine k_region ?_
  refine o_bsl (E := 5) (cs := #[]) rfl (fun _ => by kernel_rfl) (fun g w2 hB2 hK2 hb2 hZ2 => ?_)
  have hk2 := hk1.tr hK2
  refine m_sl rfl rfl ?_
  refine o_app0 Try.underlying22 inf5 rfl (by decide) rfl rfl hB2 (hR2.new hk2) (by simp) (u8_one d2) (by simp [maxLen]; omega) (by omega) (fun aO cO w3 hS3 hK3 hv3 => ?_)
  have hk3 := hk2.tr hK3
  have hltO := hS3.lt
  have hfO : ∀ q, aO = some q → w.heap.size ≤ q.block := fun q hq => by have := hk1.size; have := hK2.size; rcases hv3 q hq with h | h <;> omega
  have hF3 := ((hF1 w3.heap.size).new hK2).new hK3
  refine m_sl rfl rfl ?_
  refine o_nil ?_
  refine k_seq ?_
  refine k_seq ?_
  refine k_region ?_
  refine m_ptr rfl rfl ?_
  refine m_str rfl rfl ?_
  refine m_sl rfl rfl ?_
  refine o_call rfl rfl (put_ok w0.heap.size w3.heap.size _ w3 r [] 0 _ s a1 c1 d1 hF3 (hR1.new hk3) (Nat.le_refl _)) (fun v w4 hv => ?_)
  obtain ⟨rfl, hF4, hk4⟩ := hv
  have hkw4 := hk4.keep hk3 hK0.size
  have hS4 := hk4.sl hS3 (by decide)
  refine b_neq rfl rfl ?_
  refine m_bool rfl rfl ?_
  refine o_split (t := 29) rfl (fun h => ?_) (fun h => ?_)
  ·
    have hbad : ¬ nameOk s ∨ 65536 < d1.length ∨ 65536 < d2.length := by
     rcases putE_bad h (by decide) with h | h
     · exact .inl h
     · exact .inr (.inl h)
    refine g_no rfl rfl rfl ?_
    refine g_no rfl rfl rfl ?_
    refine g_no rfl rfl rfl ?_
    refine g_no rfl rfl rfl ?_
    refine g_no rfl rfl rfl ?_
    refine pick_t rfl rfl ?_
    refine o_nil ?_
    refine k_condt rfl ?_
    refine k_seq ?_
    refine k_region ?_
    refine m_str rfl rfl ?_
    refine b_eqlstr Try.underlying9 rfl rfl ?_
    refine m_bool rfl rfl ?_
    refine o_split (t := 38) rfl (fun h => ?_) (fun h => ?_)
    ·
      refine g_no rfl rfl rfl ?_
      refine g_no rfl rfl rfl ?_
      refine g_no rfl rfl rfl ?_
      refine pick_t rfl rfl ?_
      refine m_bool rfl rfl ?_
      refine g_no rfl rfl rfl ?_
      refine g_no rfl rfl rfl ?_
      refine g_no rfl rfl rfl ?_
      refine pick_t rfl rfl ?_
      refine m_bool rfl rfl ?_
      refine g_no rfl rfl rfl ?_
      refine g_no rfl rfl rfl ?_
      refine g_no rfl rfl rfl ?_
      refine pick_t rfl rfl ?_
      refine m_bool rfl rfl ?_
      refine g_no rfl rfl rfl ?_
      refine g_no rfl rfl rfl ?_
      refine g_no rfl rfl rfl ?_
      refine pick_t rfl rfl ?_
      refine m_bool rfl rfl ?_
      refine o_nil ?_
      refine k_ret (ret_tmps (ts := [8]) (v := .bool _) rfl rfl ?_)
      exact ⟨rfl, hkw4⟩
    ·
      have h38 := h
      refine g_yes rfl rfl ?_
      refine m_str rfl rfl ?_
      refine g_yes rfl rfl ?_
      refine o_lenstr Try.underlying9 rfl ?_
      refine g_yes rfl rfl ?_
      refine b_gtr rfl rfl ?_
      refine pick_f rfl rfl ?_
      refine m_bool rfl rfl ?_
      refine o_split (t := 43) rfl (fun h => ?_) (fun h => ?_)
      ·
        refine g_no rfl rfl rfl ?_
        refine g_no rfl rfl rfl ?_
        refine g_no rfl rfl rfl ?_
        refine pick_t rfl rfl ?_
        refine m_bool rfl rfl ?_
        refine g_no rfl rfl rfl ?_
        refine g_no rfl rfl rfl ?_
        refine g_no rfl rfl rfl ?_
        refine pick_t rfl rfl ?_
        refine m_bool rfl rfl ?_
        refine g_no rfl rfl rfl ?_
        refine g_no rfl rfl rfl ?_
        refine g_no rfl rfl rfl ?_
        refine pick_t rfl rfl ?_
        refine m_bool rfl rfl ?_
        refine o_nil ?_
        refine k_ret (ret_tmps (ts := [8]) (v := .bool _) rfl rfl ?_)
        exact ⟨rfl, hkw4⟩
      ·
        have h43 := h
        refine g_yes rfl rfl ?_
        refine m_sl rfl rfl ?_
        refine g_yes rfl rfl ?_
        refine o_lens Try.underlying22 rfl ?_
        refine g_yes rfl rfl ?_
        refine b_gtr rfl rfl ?_
        refine pick_f rfl rfl ?_
        refine m_bool rfl rfl ?_
        refine o_split (t := 48) rfl (fun h => ?_) (fun h => ?_)
        ·
          refine g_no rfl rfl rfl ?_
          refine g_no rfl rfl rfl ?_
          refine g_no rfl rfl rfl ?_
          refine pick_t rfl rfl ?_
          refine m_bool rfl rfl ?_
          refine g_no rfl rfl rfl ?_
          refine g_no rfl rfl rfl ?_
          refine g_no rfl rfl rfl ?_
          refine pick_t rfl rfl ?_
          refine m_bool rfl rfl ?_
          refine o_nil ?_
          refine k_ret (ret_tmps (ts := [8]) (v := .bool _) rfl rfl ?_)
          exact ⟨rfl, hkw4⟩
        ·
          have h48 := h
          refine g_yes rfl rfl ?_
          refine m_sl rfl rfl ?_
          refine g_yes rfl rfl ?_
          refine o_lens Try.underlying22 rfl ?_
          refine g_yes rfl rfl ?_
          refine b_gtr rfl rfl ?_
          refine pick_f rfl rfl ?_
          refine m_bool rfl rfl ?_
          refine o_split (t := 53) rfl (fun h => ?_) (fun h => ?_)
          ·
            refine g_no rfl rfl rfl ?_
            refine g_no rfl rfl rfl ?_
            refine g_no rfl rfl rfl ?_
            refine pick_t rfl rfl ?_
            refine m_bool rfl rfl ?_
            refine o_nil ?_
            refine k_ret (ret_tmps (ts := [8]) (v := .bool _) rfl rfl ?_)
            exact ⟨rfl, hkw4⟩
          ·
            have h53 := h
            refine g_yes rfl rfl ?_
            refine m_str rfl rfl ?_
            refine g_yes rfl rfl ?_
            refine o_call rfl rfl (rname_ok w4 s hs) (fun v w5 hv => ?_)
            obtain ⟨rfl, rfl⟩ := hv
            refine g_yes rfl rfl ?_
            refine u_notb rfl ?_
            refine pick_f rfl rfl ?_
            refine m_bool rfl rfl ?_
            refine o_nil ?_
            refine k_ret (ret_tmps (ts := [8]) (v := .bool _) rfl rfl ?_)
            refine ⟨congrArg Value.bool ?_, hkw4⟩
            rw [decide_eq_false]; rfl
            rcases hbad with h | h | h
            · exact h
            · exact absurd (by omega) h48
            · exact absurd (by omega) h53
  ·
    have hz1 : putE [] s d1.length = 0 := Decidable.not_not.1 h
    rw [hz1, if_pos rfl, show putF [] s d1 = [(s, d1)] from rfl] at hF4
    refine g_yes rfl rfl ?_
    refine m_ptr rfl rfl ?_
    refine g_yes rfl rfl ?_
    refine m_str rfl rfl ?_
    refine g_yes rfl rfl ?_
    refine m_sl rfl rfl ?_
    refine g_yes rfl rfl ?_
    refine o_call rfl rfl (put_ok w0.heap.size w3.heap.size _ w4 r [(s, d1)] 0 _ s aO cO d2 hF4 hS4.rd hk4.size) (fun v w5 hv => ?_)
    obtain ⟨rfl, hF5, hk5⟩ := hv
    have hkw5 := hk5.keep hkw4 hK0.size
    have hS5 := hk5.sl hS4 (by decide)
    refine g_yes rfl rfl ?_
    refine b_neq rfl rfl ?_
    refine pick_f rfl rfl ?_
    refine o_nil ?_
    refine k_cond rfl (fun h => ?_) (fun h => ?_)
    ·
      have hbad : ¬ nameOk s ∨ 65536 < d1.length ∨ 65536 < d2.length := by
       rcases putE_bad h (by simp) with h | h
       · exact .inl h
       · exact .inr (.inr h)
      refine k_seq ?_
      refine k_region ?_
      refine m_str rfl rfl ?_
      refine b_eqlstr Try.underlying9 rfl rfl ?_
      refine m_bool rfl rfl ?_
      refine o_split (t := 38) rfl (fun h => ?_) (fun h => ?_)
      ·
        refine g_no rfl rfl rfl ?_
        refine g_no rfl rfl rfl ?_
        refine g_no rfl rfl rfl ?_
        refine pick_t rfl rfl ?_
        refine m_bool rfl rfl ?_
        refine g_no rfl rfl rfl ?_
        refine g_no rfl rfl rfl ?_
        refine g_no rfl rfl rfl ?_
        refine pick_t rfl rfl ?_
        refine m_bool rfl rfl ?_
        refine g_no rfl rfl rfl ?_
        refine g_no rfl rfl rfl ?_
        refine g_no rfl rfl rfl ?_
        refine pick_t rfl rfl ?_
        refine m_bool rfl rfl ?_
        refine g_no rfl rfl rfl ?_
        refine g_no rfl rfl rfl ?_
        refine g_no rfl rfl rfl ?_
        refine pick_t rfl rfl ?_
        refine m_bool rfl rfl ?_
        refine o_nil ?_
        refine k_ret (ret_tmps (ts := [8]) (v := .bool _) rfl rfl ?_)
        exact ⟨rfl, hkw5⟩
      ·
        have h38 := h
        refine g_yes rfl rfl ?_
        refine m_str rfl rfl ?_
        refine g_yes rfl rfl ?_
        refine o_lenstr Try.underlying9 rfl ?_
        refine g_yes rfl rfl ?_
        refine b_gtr rfl rfl ?_
        refine pick_f rfl rfl ?_
        refine m_bool rfl rfl ?_
        refine o_split (t := 43) rfl (fun h => ?_) (fun h => ?_)
        ·
          refine g_no rfl rfl rfl ?_
          refine g_no rfl rfl rfl ?_
          refine g_no rfl rfl rfl ?_
          refine pick_t rfl rfl ?_
          refine m_bool rfl rfl ?_
          refine g_no rfl rfl rfl ?_
          refine g_no rfl rfl rfl ?_
          refine g_no rfl rfl rfl ?_
          refine pick_t rfl rfl ?_
          refine m_bool rfl rfl ?_
          refine g_no rfl rfl rfl ?_
          refine g_no rfl rfl rfl ?_
          refine g_no rfl rfl rfl ?_
          refine pick_t rfl rfl ?_
          refine m_bool rfl rfl ?_
          refine o_nil ?_
          refine k_ret (ret_tmps (ts := [8]) (v := .bool _) rfl rfl ?_)
          exact ⟨rfl, hkw5⟩
        ·
          have h43 := h
          refine g_yes rfl rfl ?_
          refine m_sl rfl rfl ?_
          refine g_yes rfl rfl ?_
          refine o_lens Try.underlying22 rfl ?_
          refine g_yes rfl rfl ?_
          refine b_gtr rfl rfl ?_
          refine pick_f rfl rfl ?_
          refine m_bool rfl rfl ?_
          refine o_split (t := 48) rfl (fun h => ?_) (fun h => ?_)
          ·
            refine g_no rfl rfl rfl ?_
            refine g_no rfl rfl rfl ?_
            refine g_no rfl rfl rfl ?_
            refine pick_t rfl rfl ?_
            refine m_bool rfl rfl ?_
            refine g_no rfl rfl rfl ?_
            refine g_no rfl rfl rfl ?_
            refine g_no rfl rfl rfl ?_
            refine pick_t rfl rfl ?_
            refine m_bool rfl rfl ?_
            refine o_nil ?_
            refine k_ret (ret_tmps (ts := [8]) (v := .bool _) rfl rfl ?_)
            exact ⟨rfl, hkw5⟩
          ·
            have h48 := h
            refine g_yes rfl rfl ?_
            refine m_sl rfl rfl ?_
            refine g_yes rfl rfl ?_
            refine o_lens Try.underlying22 rfl ?_
            refine g_yes rfl rfl ?_
            refine b_gtr rfl rfl ?_
            refine pick_f rfl rfl ?_
            refine m_bool rfl rfl ?_
            refine o_split (t := 53) rfl (fun h => ?_) (fun h => ?_)
            ·
              refine g_no rfl rfl rfl ?_
              refine g_no rfl rfl rfl ?_
              refine g_no rfl rfl rfl ?_
              refine pick_t rfl rfl ?_
              refine m_bool rfl rfl ?_
              refine o_nil ?_
              refine k_ret (ret_tmps (ts := [8]) (v := .bool _) rfl rfl ?_)
              exact ⟨rfl, hkw5⟩
            ·
              have h53 := h
              refine g_yes rfl rfl ?_
              refine m_str rfl rfl ?_
              refine g_yes rfl rfl ?_
              refine o_call rfl rfl (rname_ok w5 s hs) (fun v w6 hv => ?_)
              obtain ⟨rfl, rfl⟩ := hv
              refine g_yes rfl rfl ?_
              refine u_notb rfl ?_
              refine pick_f rfl rfl ?_
              refine m_bool rfl rfl ?_
              refine o_nil ?_
              refine k_ret (ret_tmps (ts := [8]) (v := .bool _) rfl rfl ?_)
              refine ⟨congrArg Value.bool ?_, hkw5⟩
              rw [decide_eq_false]; rfl
              rcases hbad with h | h | h
              · exact h
              · exact absurd (by omega) h48
              · exact absurd (by omega) h53
    have hz2 : putE [(s, d1)] s d2.length = 0 := Decidable.not_not.1 h
    rw [hz2, if_pos rfl, show putF [(s, d1)] s d2 = [(s, d2)] by simp [putF]] at hF5
    have hd65 : d2.length ≤ 65536 := by
     by_cases hh : 65536 < d2.length
     · unfold putE at hz2
       by_cases hn : nameOk s
       · rw [if_neg (fun h => h hn), if_pos hh] at hz2; exact absurd hz2 (by decide)
       · rw [if_pos hn] at hz2; exact absurd hz2 (by decide)
     · omega
    refine k_skip ?_
    refine k_seq ?_
    refine k_seq ?_
    refine k_region ?_
    refine m_sl rfl rfl ?_
    refine o_lens Try.underlying22 rfl ?_
    refine m_int rfl rfl ?_
    refine o_nil ?_
    refine k_block ?_
    refine k_loop (σ := Nat × List (BitVec 8)) (fun t => [(0, .string s), (2, .slice a2 d2.length c2), (3, .slice a3 cs.length c3), (9, .pointer (some ⟨r, 0, none⟩)), (10, .slice aO d2.length cO), (59, .int .i64 (d2.length : Int)), (60, .int .i64 (t.1 : Int))]) (fun t w' => t.1 ≤ d2.length ∧ Sl w' 5 1 aO d2.length cO (t.2.map u8v) ∧ (∃ hi, Fi w0.heap.size w3.heap.size hi w' r [(s, d2)] 0 (fun _ => false)) ∧ Keep [] w w') (fun t => d2.length - t.1) (0, d2) ⟨rfl, rfl, rfl, rfl, rfl, rfl, rfl, trivial⟩ ⟨by simp, hS5, ⟨_, hF5⟩, hkw5⟩ (fun t e w6 hJ => ?_)
    obtain ⟨i, xs⟩ := t
    obtain ⟨hi, hS6, ⟨h6, hF6⟩, hk6⟩ := hJ
    simp only at hi hS6
    have hxl : xs.length = d2.length := by have := hS6.1; simpa using this
    refine k_seq ?_
    refine k_region ?_
    refine b_lss rfl rfl ?_
    refine o_nil ?_
    refine k_seq ?_
    refine k_cond rfl (fun h => ?_) (fun h => ?_)
    rotate_left
    ·
      have hF6 := hF6.mono
      generalize hHe : w6.heap.size = H at *
      have hwH : w.heap.size ≤ H := by have := hk6.size; omega
      refine k_exit rfl ?_
      refine k_seq ?_
      refine k_region ?_
      refine m_sl rfl rfl ?_
      refine o_nil ?_
      refine k_seq ?_
      refine k_seq ?_
      refine k_region ?_
      refine m_int rfl rfl ?_
      refine o_nil ?_
      refine k_block ?_
      refine k_loop (σ := Nat × Nat × Option Addr × Nat) (fun t => [(0, .string s), (2, .slice a2 d2.length c2), (3, .slice a3 cs.length c3), (9, .pointer (some ⟨r, 0, none⟩)), (12, .slice t.2.2.1 t.2.1 t.2.2.2), (13, .int .i64 (t.1 : Int))]) (fun t w' => t.1 ≤ cs.length + 1 ∧ t.1 ≤ 31 ∧ t.2.1 ≤ d2.length ∧ (min cs.length 30 < t.1 → t.2.1 = d2.length) ∧ Sl w' 5 1 t.2.2.1 t.2.1 t.2.2.2 ((d2.take t.2.1).map u8v) ∧ (∀ q, t.2.2.1 = some q → H ≤ q.block) ∧ Fi w0.heap.size w3.heap.size H w' r [(s, d2)] t.1 (fun _ => false) ∧ H ≤ w'.heap.size ∧ Keep [] w w') (fun t => 31 - t.1) (0, 0, none, 0) ⟨rfl, rfl, rfl, rfl, rfl, rfl, trivial⟩ ⟨by simp, by simp, by simp, by simp, by simpa using Sl.nil _ _ _, by simp, hF6, by omega, hk6⟩ (fun t e w7 hJ => ?_)
      obtain ⟨j, q, a7, c7⟩ := t
      obtain ⟨hj1, hj31, hq, hqe, hS7, hf7, hF7, hH7, hk7⟩ := hJ
      simp only at hj1 hj31 hq hqe hS7 hf7 hF7
      change kw _ _ _ _ (ovr [(0, .string s), (2, .slice a2 d2.length c2), (3, .slice a3 cs.length c3), (9, .pointer (some ⟨r, 0, none⟩)), (12, .slice a7 q c7), (13, .int .i64 (j : Int))] e) w7
      refine k_seq ?_
      refine k_seq ?_
      refine k_cut (σ := Unit) (fun _ => [(0, .string s), (2, .slice a2 d2.length c2), (3, .slice a3 cs.length c3), (9, .pointer (some ⟨r, 0, none⟩)), (12, .slice a7 q c7), (13, .int .i64 (j : Int)), (77, .bool (decide (j ≤ cs.length ∧ j ≤ 30)))]) (fun _ w' => w' = w7) ?_ (fun _ e w8 hJ => ?_)
      ·
        refine k_region ?_
        refine m_int rfl rfl ?_
        refine m_sl rfl rfl ?_
        refine o_lens Try.underlying23 rfl ?_
        refine b_leq rfl rfl ?_
        refine m_bool rfl rfl ?_
        refine o_split (t := 74) rfl (fun h => ?_) (fun h => ?_)
        ·
          refine g_yes rfl rfl ?_
          refine m_int rfl rfl ?_
          refine g_yes rfl rfl ?_
          refine b_leq rfl rfl ?_
          refine pick_t rfl rfl ?_
          refine o_nil ?_
          refine k_goal ⟨(), ⟨rfl, rfl, rfl, rfl, rfl, rfl, congrArg Value.bool (decide_eq_decide.2 ⟨fun hh => ⟨by omega, by omega⟩, fun hh => by omega⟩), trivial⟩, rfl⟩
        ·
          refine g_no rfl rfl rfl ?_
          refine g_no rfl rfl rfl ?_
          refine pick_f rfl rfl ?_
          refine o_nil ?_
          refine k_goal ⟨(), ⟨rfl, rfl, rfl, rfl, rfl, rfl, congrArg Value.bool (decide_eq_false (fun hh => by omega)).symm, trivial⟩, rfl⟩
      subst hJ
      refine k_cond rfl (fun h => ?_) (fun h => ?_)
      rotate_left
      ·
        obtain rfl := hqe (by omega)
        rw [List.take_length] at hS7
        refine k_exit rfl ?_
        refine k_seq ?_
        refine k_region ?_
        refine m_sl rfl rfl ?_
        refine m_sl rfl rfl ?_
        refine o_call rfl rfl (same_ok _ a7 a2 c7 c2 d2 d2 hS7.rd (hR2.new hk7) (by omega)) (fun v w9 hv => ?_)
        obtain ⟨rfl, hK9⟩ := hv
        refine m_bool rfl rfl ?_
        refine o_nil ?_
        refine k_ret (ret_tmps (ts := [8]) (v := .bool _) rfl rfl ?_)
        exact ⟨by simp, hk7.tr hK9⟩
      obtain ⟨hjc, hj30⟩ := h
      refine k_skip ?_
      refine k_seq ?_
      refine k_block ?_
      refine k_seq ?_
      refine k_region ?_
      refine m_sl rfl rfl ?_
      refine o_lens Try.underlying22 rfl ?_
      refine m_sl rfl rfl ?_
      refine o_lens Try.underlying22 rfl ?_
      refine n_sub rfl rfl (by omega) ?_
      rw [show (d2.length : Int) - (q : Int) = ((d2.length - q : Nat) : Int) by omega]
      refine m_int rfl rfl ?_
      refine o_nil ?_
      refine k_seq ?_
      refine k_seq ?_
      refine k_cut (σ := Unit) (fun _ => [(0, .string s), (2, .slice a2 d2.length c2), (3, .slice a3 cs.length c3), (9, .pointer (some ⟨r, 0, none⟩)), (12, .slice a7 q c7), (13, .int .i64 (j : Int)), (14, .int .i64 ((d2.length - q : Nat) : Int)), (92, .bool (decide (j < cs.length ∧ j < 30)))]) (fun _ w' => w' = w8) ?_ (fun _ e w9 hJ => ?_)
      ·
        refine k_region ?_
        refine m_int rfl rfl ?_
        refine m_sl rfl rfl ?_
        refine o_lens Try.underlying23 rfl ?_
        refine b_lss rfl rfl ?_
        refine m_bool rfl rfl ?_
        refine o_split (t := 89) rfl (fun h => ?_) (fun h => ?_)
        ·
          refine g_yes rfl rfl ?_
          refine m_int rfl rfl ?_
          refine g_yes rfl rfl ?_
          refine b_lss rfl rfl ?_
          refine pick_t rfl rfl ?_
          refine o_nil ?_
          refine k_goal ⟨(), ⟨rfl, rfl, rfl, rfl, rfl, rfl, rfl, congrArg Value.bool (decide_eq_decide.2 ⟨fun hh => ⟨by omega, by omega⟩, fun hh => by omega⟩), trivial⟩, rfl⟩
        ·
          refine g_no rfl rfl rfl ?_
          refine g_no rfl rfl rfl ?_
          refine pick_f rfl rfl ?_
          refine o_nil ?_
          refine k_goal ⟨(), ⟨rfl, rfl, rfl, rfl, rfl, rfl, rfl, congrArg Value.bool (decide_eq_false (fun hh => by omega)).symm, trivial⟩, rfl⟩
      subst hJ
      refine k_cut (σ := Nat) (fun n => [(0, .string s), (2, .slice a2 d2.length c2), (3, .slice a3 cs.length c3), (9, .pointer (some ⟨r, 0, none⟩)), (12, .slice a7 q c7), (13, .int .i64 (j : Int)), (14, .int .i64 (n : Int))]) (fun n w' => n ≤ d2.length - q ∧ (min cs.length 30 < j + 1 → n = d2.length - q) ∧ w' = w9) ?_ (fun n e w10 hJ => ?_)
      ·
        refine k_cond rfl (fun h => ?_) (fun h => ?_)
        ·
          obtain ⟨hjl, hj3⟩ := h
          obtain ⟨b1, o1, rfl, _⟩ := hR3.at j (by simpa using hjl)
          refine k_region ?_
          refine m_sl rfl rfl ?_
          refine m_int rfl rfl ?_
          refine o_ixs1 Try.underlying23 rfl rfl rfl hjl ?_
          refine o_ld rfl rfl (hR3.cellK hk7 (u16_at cs j hjl)) ?_
          refine cv16_i rfl Try.underlying3 rfl ?_
          refine m_int rfl rfl ?_
          refine n_add rfl rfl (by omega) ?_
          rw [show ((d2.length - q : Nat) : Int) + 1 = ((d2.length - q + 1 : Nat) : Int) by omega]
          refine b_rem rfl rfl (by omega) ?_
          rw [tm]
          refine m_int rfl rfl ?_
          refine o_nil ?_
          refine k_goal ⟨_, ⟨rfl, rfl, rfl, rfl, rfl, rfl, rfl, trivial⟩, ?_, ?_, rfl⟩
          · exact Nat.le_of_lt_succ (Nat.mod_lt _ (by omega))
          · intro hh; omega
        refine k_skip ?_
        refine k_goal ⟨_, ⟨rfl, rfl, rfl, rfl, rfl, rfl, rfl, trivial⟩, ?_, ?_, rfl⟩
        · exact Nat.le_refl _
        · intro _; rfl
      obtain ⟨hn1, hn2, rfl⟩ := hJ
      refine k_seq ?_
      refine k_region ?_
      refine m_ptr rfl rfl ?_
      refine m_str rfl rfl ?_
      refine m_sl rfl rfl ?_
      refine o_lens Try.underlying22 rfl ?_
      refine m_int rfl rfl ?_
      refine o_call rfl rfl (read_ok w0.heap.size w3.heap.size H _ r _ j _ s (q : Int) (n : Int) hF7 (by omega)) (fun v w11 hv => ?_)
      unfold RdR at hv
      rw [rdF_good (getF_one _ _) (by omega) rfl] at hv
      obtain ⟨u, rfl, ⟨a11, c11, rfl, hS11, hf11⟩, hF11, hk11⟩ := hv
      have hlen : ((d2.drop q).take n).length = n := by simp; omega
      rw [List.length_map, hlen] at hS11 ⊢
      have hkw11 := hk11.keep hk7 hK0.size
      have hS11a := hk11.sl hS7 (by decide)
      have hz11 := hk11.size
      refine m_any rfl rfl ?_
      refine o_extr rfl rfl ?_
      refine o_extr rfl rfl ?_
      refine m_sl rfl rfl ?_
      refine m_int rfl rfl ?_
      refine o_nil ?_
      refine k_seq ?_
      refine k_seq ?_
      refine k_region ?_
      refine m_int rfl rfl ?_
      refine b_neq rfl rfl ?_
      refine m_bool rfl rfl ?_
      refine o_false (t := 112) rfl ((by simp)) ?_
      refine g_yes rfl rfl ?_
      refine m_sl rfl rfl ?_
      refine g_yes rfl rfl ?_
      refine o_lens Try.underlying22 rfl ?_
      refine g_yes rfl rfl ?_
      refine m_int rfl rfl ?_
      refine g_yes rfl rfl ?_
      refine b_neq rfl rfl ?_
      refine pick_f rfl rfl ?_
      refine o_nil ?_
      refine k_no rfl ((by simp)) ?_
      refine k_skip ?_
      refine k_seq ?_
      refine k_region ?_
      refine m_sl rfl rfl ?_
      refine m_sl rfl rfl ?_
      refine o_app Try.underlying22 inf5 rfl (by decide) rfl rfl hS11a hS11.rd (by simp; omega) (u8_one _) (by simp [maxLen]; omega) (by omega) (fun a12 c12 w12 hS12 hK12 hv12 => ?_)
      have hkw12 : Keep [] w w12 := Keep.trb hkw11 hK12 (fun p hp => by have := hf7 p hp; omega)
      have hf12 := fresh_app hf7 (by omega) hv12
      have hblk : ∀ b ∈ blkOf a7, H ≤ b := by
       intro b hb
       cases ha : a7 with
       | none => rw [ha] at hb; simp [blkOf] at hb
       | some p => rw [ha] at hb; simp [blkOf] at hb; have := hf7 p ha; omega
      have hF12 := hF11.high hK12 hblk
      have hS12b : Sl w12 5 1 a11 n c11 (((d2.drop q).take n).map u8v) := hS11.keep hK12 (fun p hp hm => by
       have h1 := hf11 p hp
       cases ha : a7 with
       | none => rw [ha] at hm; simp [blkOf] at hm
       | some p7 =>
         rw [ha] at hm
         simp [blkOf] at hm
         have := hS7.lt p7 ha
         omega)
      have hne : ∀ p p', a11 = some p → a12 = some p' → p.block ≠ p'.block := by
       intro p p' hp hp' he
       have h1 := hf11 p hp
       have h2 := hS11.lt p hp
       rcases hv12 with ⟨e1, _⟩ | ⟨g, e1, e2, _⟩
       · rw [e1] at hp'
         have := hS7.lt p' hp'
         omega
       · rw [e1] at hp'
         cases hp'
         simp only at he
         omega
      rw [← List.map_append, ← List.take_add] at hS12
      refine m_sl rfl rfl ?_
      refine o_nil ?_
      refine k_seq ?_
      refine k_region ?_
      refine m_sl rfl rfl ?_
      refine o_lens Try.underlying22 rfl ?_
      refine m_int rfl rfl ?_
      refine o_nil ?_
      refine k_block ?_
      refine k_loop (σ := Nat × List (BitVec 8)) (fun t => [(0, .string s), (2, .slice a2 d2.length c2), (3, .slice a3 cs.length c3), (9, .pointer (some ⟨r, 0, none⟩)), (12, .slice a12 (q + n) c12), (13, .int .i64 (j : Int)), (15, .slice a11 n c11), (122, .int .i64 (n : Int)), (123, .int .i64 (t.1 : Int))]) (fun t w' => t.1 ≤ n ∧ Sl w' 5 1 a11 n c11 (t.2.map u8v) ∧ Sl w' 5 1 a12 (q + n) c12 ((d2.take (q + n)).map u8v) ∧ Fi w0.heap.size w3.heap.size H w' r [(s, d2)] (j + 1) (fun _ => false) ∧ H ≤ w'.heap.size ∧ Keep [] w w') (fun t => n - t.1) (0, (d2.drop q).take n) ⟨rfl, rfl, rfl, rfl, rfl, rfl, rfl, rfl, rfl, trivial⟩ ⟨by simp, hS12b, hS12, hF12, by have := hK12.size; omega, hkw12⟩ (fun t e w13 hJ => ?_)
      obtain ⟨i3, ys⟩ := t
      obtain ⟨hi3, hS13, hA13, hF13, hH13, hk13⟩ := hJ
      simp only at hi3 hS13
      have hyl : ys.length = n := by have := hS13.1; simpa using this
      refine k_seq ?_
      refine k_region ?_
      refine b_lss rfl rfl ?_
      refine o_nil ?_
      refine k_seq ?_
      refine k_cond rfl (fun h => ?_) (fun h => ?_)
      rotate_left
      ·
        refine k_exit rfl ?_
        refine k_blk ?_
        refine k_region ?_
        refine m_int rfl rfl ?_
        refine n_add rfl rfl (by omega) ?_
        refine m_int rfl rfl ?_
        refine o_nil ?_
        refine k_goal ⟨(j + 1, q + n, a12, c12), ⟨rfl, rfl, rfl, rfl, rfl, rfl, trivial⟩, ⟨by simp only; omega, by simp only; omega, by simp only; omega, ?_, hA13, hf12, hF13, hH13, hk13⟩, by simp only; omega⟩
        intro hh
        simp only at hh ⊢
        rw [hn2 hh]
        exact Nat.add_sub_cancel' hq
      have hib : i3 < n := by omega
      obtain ⟨g8, cur8, rfl, hB8, hz8⟩ := hS13.blk (by omega)
      have hg8 := hf11 _ rfl
      simp only at hg8
      refine k_skip ?_
      refine k_seq ?_
      refine k_block ?_
      refine k_seq ?_
      refine k_region ?_
      refine m_int rfl rfl ?_
      refine m_int rfl rfl ?_
      refine o_nil ?_
      refine k_region ?_
      refine m_sl rfl rfl ?_
      refine m_int rfl rfl ?_
      refine o_ixs1 Try.underlying22 rfl rfl rfl hib ?_
      refine o_ld rfl rfl (hS13.rd.cellK (Keep.refl _ _) (u8_at ys i3 (by omega))) ?_
      refine v8_add (b := 1#8) rfl rfl ?_
      refine o_ixs1 Try.underlying22 rfl rfl rfl hib ?_
      refine o_st (v := .int _ _) rfl rfl rfl rfl hB8 (by omega) (fun w14 hB14 hK14 hZ14 => ?_)
      have hS14 := hS13.set hib hB8 hB14
      rw [u8_set] at hS14
      refine o_nil ?_
      refine k_blk ?_
      refine k_region ?_
      refine n_add rfl rfl (by omega) ?_
      refine m_int rfl rfl ?_
      refine o_nil ?_
      refine k_goal ⟨(i3 + 1, _), ⟨rfl, rfl, rfl, rfl, rfl, rfl, rfl, rfl, rfl, trivial⟩, ⟨by simp only; omega, hS14, hA13.keep hK14 (fun p hp hm => hne _ p rfl hp (by simp at hm; exact hm.symm)), hF13.high hK14 (by intro b hb; simp at hb; omega), by have := hK14.size; omega, hk13.tr1 hK14 (by omega)⟩, by simp only; omega⟩
    have hib : i < d2.length := by omega
    obtain ⟨g8, cur8, rfl, hB8, hz8⟩ := hS6.blk (by omega)
    have hg8 := hltO _ rfl
    have hg8' := hfO _ rfl
    simp only at hg8 hg8'
    refine k_skip ?_
    refine k_seq ?_
    refine k_block ?_
    refine k_seq ?_
    refine k_region ?_
    refine m_int rfl rfl ?_
    refine m_int rfl rfl ?_
    refine o_nil ?_
    refine k_region ?_
    refine m_sl rfl rfl ?_
    refine m_int rfl rfl ?_
    refine o_ixs1 Try.underlying22 rfl rfl rfl hib ?_
    refine o_ld rfl rfl (hS6.rd.cellK (Keep.refl _ _) (u8_at xs i (by omega))) ?_
    refine v8_add (b := 1#8) rfl rfl ?_
    refine o_ixs1 Try.underlying22 rfl rfl rfl hib ?_
    refine o_st (v := .int _ _) rfl rfl rfl rfl hB8 (by omega) (fun w7 hB7 hK7 hZ7 => ?_)
    have hS7 := hS6.set hib hB8 hB7
    rw [u8_set] at hS7
    refine o_nil ?_
    refine k_blk ?_
    refine k_region ?_
    refine n_add rfl rfl (by omega) ?_
    refine m_int rfl rfl ?_
    refine o_nil ?_
    refine k_goal ⟨(i + 1, _), ⟨rfl, rfl, rfl, rfl, rfl, rfl, rfl, trivial⟩, ⟨by simp only; omega, hS7, ⟨_, hF6.low5 hB8 (by decide) hK7 hg8⟩, hk6.tr1 hK7 hg8'⟩, by simp only; omega⟩
end Go.Proofs.Ytbfphjhahgpndaa
