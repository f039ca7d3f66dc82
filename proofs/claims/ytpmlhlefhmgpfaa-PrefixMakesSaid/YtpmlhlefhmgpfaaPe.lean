/- The walk of the reference's New of prefix codes. No condition beyond what each contract names. -/
import Derived.Test.YtpmlhlefhmgpfaaPd
namespace Go.Proofs.Ytpmlhlefhmgpfaa
open Go.RowKit E
set_option linter.unusedVariables false
set_option linter.unusedSimpArgs false
set_option maxRecDepth 100000
attribute [local irreducible] ow qw kw kq cw opW Ret
theorem sta_whole {w : World} {b : Nat} {cs : Array Value} {xs : List Value} {T : TypeId} (h : Blk w b (cs.toList.take 0 ++ xs ++ cs.toList.drop (0 + xs.length)).toArray T) (hs : cs.size = xs.length) : Blk w b xs.toArray T := by
  rw [List.take_zero, List.nil_append, Nat.zero_add, List.drop_of_length_le (by simp [hs]), List.append_nil] at h
  exact h
def rzero : List Value := rcells (fun _ => 0) (fun _ => 0) (fun _ => (none, 0))
theorem rzero_len : rzero.length = 32 := rc_len _ _ _
theorem z62 : ∃ z, infB Try.prog 62 32 512 z ∧ z.cells = rzero.toArray := ⟨_, ⟨_, rfl, rfl, rfl, rfl⟩, rfl⟩
theorem bz62 : ∀ w, (Instr.build 62 #[]).run Try.prog w = .ok (.agg rzero.toArray) w := fun _ => by kernel_rfl
theorem rzero_one : ∀ u ∈ rzero, u.oneCell' = true := rc_one _ _ _
theorem rzero_eq : rzero = rcells (fun _ => 0) (fun _ => 0) (fun _ => (none, 0)) := rfl
theorem sh15 (x : Nat) (h : x ≤ 15) : IntKind.i64.wrap (1 * 2 ^ min (BitVec.ofInt 64 ((15 : Int) - (x : Int))).toNat IntKind.i64.bits) = ((2 ^ (15 - x) : Nat) : Int) := by
  have e : (BitVec.ofInt 64 ((15 : Int) - (x : Int))).toNat = 15 - x := by
    rw [show (15 : Int) - (x : Int) = ((15 - x : Nat) : Int) by omega, ofN _ (by omega)]
  rw [e, show min (15 - x) IntKind.i64.bits = 15 - x from Nat.min_eq_left (by simp [IntKind.bits]; omega), Int.one_mul]
  have h1 : 2 ^ (15 - x) ≤ 2 ^ 15 := Nat.pow_le_pow_right (by decide) (by omega)
  have h2 : (2 : Int) ^ (15 - x) = ((2 ^ (15 - x) : Nat) : Int) := by simp
  rw [h2]
  generalize 2 ^ (15 - x) = y at *
  rw [IntWalk.i64_in _ (by omega)]
theorem p15 (x : Nat) : 2 ^ (15 - x) ≤ 32768 := Nat.pow_le_pow_right (n := 2) (by decide) (by omega : 15 - x ≤ 15)
/-- what the reference's New answers -/
def RNewR (w w' : World) (ls : List Int) (lone : Bool) (v : Value) : Prop :=
  Keep [] w w' ∧ ∃ f ln sl y, v = .tuple #[.agg (rcells f ln sl).toArray, .int .i64 y] ∧ ((¬ okL ls ∧ y = 1) ∨ (okL ls ∧ ¬ Fit (nats ls) lone ∧ y = 5) ∨
    (okL ls ∧ Fit (nats ls) lone ∧ y = 0 ∧ f = fst (nats ls) ∧ ln = cnt (nats ls) ∧ RC w' (nats ls) sl ∧ ∀ n, n < 16 → ∀ q, (sl n).1 = some q → w.heap.size ≤ q.block ∧ q.block < w'.heap.size))
theorem sv_app (xs : List Nat) (s : Nat) : sv xs ++ [.int .i64 (s : Int)] = sv (xs ++ [s]) := by simp [sv]
theorem sv_one (xs : List Nat) : ∀ u ∈ sv xs, u.oneCell' = true := by
  intro u hu
  obtain ⟨x, _, rfl⟩ := List.mem_map.1 hu
  rfl
attribute [local irreducible] rzero rcells
theorem used_nil : used [] = 0 := rfl
theorem fst_zero (L : List Nat) : fst L 0 = 0 := rfl
theorem fst_succ (L : List Nat) (q : Nat) : fst L (q + 1) = 2 * (fst L q + cnt L q) := rfl
theorem kr_nil : ∀ n, kr [] n = 0
  | 0 => rfl
  | n + 1 => by unfold kr; rw [kr_nil n, cnt_nil]; simp
attribute [local irreducible] kr cnt used fst syms
set_option maxHeartbeats 1000000 in
theorem rnew_ok (w : World) (a : Option Addr) (c : Nat) (ls : List Int) (lone : Bool) (hR : Rd w a (ls.map iv)) (hl : ls.length ≤ 9223372036854775807) :
    Ret Try.prog 35 [.slice a ls.length c, .bool lone] w (fun v w' => RNewR w w' ls lone v) := by
  obtain ⟨z62, hz62, hz62'⟩ := z62
  refine fn_enter (n := 104) Try.func35 rfl rfl (Nat.le_of_ble_eq_true rfl) (fun e => ?_)
  refine k_seq ?_
  refine k_region ?_
  refine o_alloc (cs := rzero.toArray) hz62 hz62' (fun b4 w1 hA1 hK1 hb1 hZ1 => ?_)
  refine m_int rfl rfl ?_
  refine o_nil ?_
  refine k_seq ?_
  refine k_region ?_
  refine o_alloc (cs := rzero.toArray) hz62 hz62' (fun b6 w2 hB2 hK2 hb2 hZ2 => ?_)
  have hk2 := hK1.tr hK2
  have hA2 := hA1.keep hK2 (by simp)
  have h46 : b4 ≠ b6 := by omega
  refine o_nil ?_
  refine k_seq ?_
  refine k_seq ?_
  refine k_region ?_
  refine m_sl rfl rfl ?_
  refine o_lens Try.underlying42 rfl ?_
  refine b_gtr rfl rfl ?_
  refine o_nil ?_
  refine k_cond rfl (fun h => ?_) (fun h => ?_)
  ·
    refine k_seq ?_
    refine k_region ?_
    refine o_lda (xs := rzero) rfl rfl (by rw [rzero_len]; rfl) (fun j u hj => by rw [Nat.zero_add]; exact blk_agg hB2 hj) ?_
    refine o_sta (xs := rzero) rfl rfl (by rw [rzero_len]; rfl) rzero_one hA2 (by simp) (fun w3 hA3 hK3 hZ3 => ?_)
    have hA3 := sta_whole hA3 (by simp)
    refine m_int rfl rfl ?_
    refine o_nil ?_
    refine k_ret (ret_cell1 (v2 := .int _ _) rfl rfl rfl (by rw [rzero_len]; rfl) (fun j v hv => blk_agg hA3 hv) rfl ?_)
    exact ⟨hk2.tr1 hK3 (by omega), _, _, _, _, by rw [rzero_eq], .inl ⟨fun hh => by have := hh.1; omega, rfl⟩⟩
  have h288 : ls.length ≤ 288 := by omega
  have hnl : (nats ls).length = ls.length := by simp [nats]
  refine k_skip ?_
  refine k_seq ?_
  refine k_region ?_
  refine m_int rfl rfl ?_
  refine o_nil ?_
  refine k_seq ?_
  refine k_region ?_
  refine m_int rfl rfl ?_
  refine m_int rfl rfl ?_
  refine o_nil ?_
  refine k_seq ?_
  refine k_seq ?_
  refine k_region ?_
  refine m_int rfl rfl ?_
  refine o_nil ?_
  refine k_block ?_
  refine k_loop (σ := Nat) (fun i => [(0, .slice a ls.length c), (1, .bool lone), (4, .pointer (some ⟨b4, 0, none⟩)), (6, .pointer (some ⟨b6, 0, none⟩)), (7, .int .i64 (kr ((nats ls).take i) 15 : Int)), (8, .int .i64 (cnt ((nats ls).take i) 1 : Int)), (9, .int .i64 (used ((nats ls).take i) : Int)), (10, .int .i64 (i : Int))]) (fun i w' => i ≤ ls.length ∧ (∀ j (hj : j < ls.length), j < i → 0 ≤ ls[j] ∧ ls[j] ≤ 15) ∧ w' = w2) (fun i => ls.length - i) 0 ⟨rfl, rfl, rfl, rfl, congrArg (Value.int .i64) (by rw [List.take_zero, kr_nil]; rfl), congrArg (Value.int .i64) (by rw [List.take_zero, cnt_nil]; rfl), congrArg (Value.int .i64) (by rw [List.take_zero, used_nil]; rfl), rfl, trivial⟩ ⟨by omega, fun j _ h => by omega, rfl⟩ (fun i e w3 hJ => ?_)
  obtain ⟨hi, hok, rfl⟩ := hJ
  have hus := used_le ((nats ls).take i)
  have hcs := cnt_le ((nats ls).take i) 1
  have hul : ((nats ls).take i).length ≤ i := by rw [List.length_take]; omega
  have hLi : ∀ x ∈ (nats ls).take i, x ≤ 15 := by
   intro x hx
   obtain ⟨j, hj, rfl⟩ := List.getElem_of_mem hx
   rw [List.getElem_take]
   have hj' : j < i ∧ j < ls.length := by rw [List.length_take] at hj; omega
   rw [nats_at ls j hj'.2]
   have := hok j hj'.2 hj'.1
   omega
  have hkrb := kr_used ((nats ls).take i) hLi
  have hkrb2 : kr ((nats ls).take i) 15 ≤ 4718592 := by
   have : used ((nats ls).take i) * 2 ^ 14 ≤ 288 * 2 ^ 14 := Nat.mul_le_mul_right _ (by omega)
   omega
  refine k_seq ?_
  refine k_seq ?_
  refine k_region ?_
  refine m_int rfl rfl ?_
  refine m_sl rfl rfl ?_
  refine o_lens Try.underlying42 rfl ?_
  refine b_lss rfl rfl ?_
  refine o_nil ?_
  refine k_cond rfl (fun h => ?_) (fun h => ?_)
  rotate_left
  ·
    obtain rfl : i = ls.length := by omega
    have hokL : okL ls := ⟨h288, fun x hx => by
     obtain ⟨j, hj, rfl⟩ := List.getElem_of_mem hx
     exact hok j hj hj⟩
    rw [show (nats ls).take ls.length = nats ls by rw [← hnl, List.take_length]] at hLi ⊢
    have hLat : ∀ i (h : i < ls.length) (h' : i < (nats ls).length), (nats ls)[i] = ls[i].toNat := fun i h _ => nats_at ls i h
    generalize hLe : nats ls = L at *
    have hcl : ∀ n, cnt L n ≤ 288 := fun n => by have := cnt_le L n; omega
    refine k_exit rfl ?_
    refine k_seq ?_
    refine k_seq ?_
    refine k_cut (σ := Unit) (fun _ => [(0, .slice a ls.length c), (4, .pointer (some ⟨b4, 0, none⟩)), (6, .pointer (some ⟨b6, 0, none⟩)), (67, .bool (decide (¬ Fit L lone)))]) (fun _ w' => w' = w3) ?_ (fun _ e w5 hJ => ?_)
    ·
      refine k_region ?_
      refine m_int rfl rfl ?_
      refine b_neq rfl rfl ?_
      refine m_bool rfl rfl ?_
      refine o_split (t := 52) rfl (fun h => ?_) (fun h => ?_)
      ·
        have h52 := h
        refine g_yes rfl rfl ?_
        refine m_bool rfl rfl ?_
        refine g_yes rfl rfl ?_
        refine m_bool rfl rfl ?_
        refine o_split (t := 54) (p := lone = true) (by show Value.bool lone = _; simp) (fun h54 => ?_) (fun h54 => ?_)
        ·
          refine g_yes rfl rfl ?_
          refine m_int rfl rfl ?_
          refine g_yes rfl rfl ?_
          refine b_eql rfl rfl ?_
          refine g_yes rfl rfl ?_
          refine m_bool rfl rfl ?_
          refine o_split (t := 57) rfl (fun h => ?_) (fun h => ?_)
          ·
            have h57 := h
            refine g_no rfl rfl rfl ?_
            refine g_no rfl rfl rfl ?_
            refine g_no rfl rfl rfl ?_
            refine g_un rfl rfl ?_
            refine g_un rfl rfl ?_
            refine g_no rfl rfl rfl ?_
            refine g_yes rfl rfl ?_
            refine pick_t rfl rfl ?_
            refine g_yes rfl rfl ?_
            refine pick_t rfl rfl ?_
            refine g_yes rfl rfl ?_
            refine u_notb rfl ?_
            refine pick_t rfl rfl ?_
            refine o_nil ?_
            refine k_goal ⟨(), ⟨rfl, rfl, rfl, congrArg Value.bool ?_, trivial⟩, rfl⟩
            symm
            exact decide_eq_false (fun hh => hh (.inr ⟨h54, .inl (by omega)⟩))
          ·
            have h57 := h
            refine g_yes rfl rfl ?_
            refine m_int rfl rfl ?_
            refine g_yes rfl rfl ?_
            refine b_eql rfl rfl ?_
            refine g_yes rfl rfl ?_
            refine m_bool rfl rfl ?_
            refine o_split (t := 60) rfl (fun h => ?_) (fun h => ?_)
            ·
              have h60 := h
              refine g_yes rfl rfl ?_
              refine m_int rfl rfl ?_
              refine g_yes rfl rfl ?_
              refine b_eql rfl rfl ?_
              refine g_yes rfl rfl ?_
              refine pick_t rfl rfl ?_
              refine g_yes rfl rfl ?_
              refine pick_f rfl rfl ?_
              refine g_yes rfl rfl ?_
              refine pick_t rfl rfl ?_
              refine g_yes rfl rfl ?_
              refine u_notb rfl ?_
              refine pick_t rfl rfl ?_
              refine o_nil ?_
              refine k_goal ⟨(), ⟨rfl, rfl, rfl, congrArg Value.bool ?_, trivial⟩, rfl⟩
              rw [← decide_not]
              refine decide_eq_decide.2 ⟨fun h hF => ?_, fun h hc => h (.inr ⟨h54, .inr ⟨by omega, by omega⟩⟩)⟩
              rcases hF with hF | ⟨_, hF | ⟨_, hF⟩⟩
              · exact h52 (by omega)
              · exact h57 (by omega)
              · exact h (by omega)
            ·
              have h60 := h
              refine g_no rfl rfl rfl ?_
              refine g_no rfl rfl rfl ?_
              refine g_yes rfl rfl ?_
              refine pick_f rfl rfl ?_
              refine g_yes rfl rfl ?_
              refine pick_f rfl rfl ?_
              refine g_yes rfl rfl ?_
              refine pick_t rfl rfl ?_
              refine g_yes rfl rfl ?_
              refine u_notb rfl ?_
              refine pick_t rfl rfl ?_
              refine o_nil ?_
              refine k_goal ⟨(), ⟨rfl, rfl, rfl, congrArg Value.bool ?_, trivial⟩, rfl⟩
              symm
              refine decide_eq_true (fun hF => ?_)
              rcases hF with hF | ⟨_, hF | ⟨hF, _⟩⟩
              · exact h52 (by omega)
              · exact h57 (by omega)
              · exact h60 (by omega)
        ·
          refine g_no rfl rfl rfl ?_
          refine g_no rfl rfl rfl ?_
          refine g_no rfl rfl rfl ?_
          refine g_un rfl rfl ?_
          refine g_un rfl rfl ?_
          refine g_un rfl rfl ?_
          refine g_un rfl rfl ?_
          refine g_un rfl rfl ?_
          refine g_un rfl rfl ?_
          refine g_no rfl rfl rfl ?_
          refine g_yes rfl rfl ?_
          refine pick_f rfl rfl ?_
          refine g_yes rfl rfl ?_
          refine u_notb rfl ?_
          refine pick_t rfl rfl ?_
          refine o_nil ?_
          refine k_goal ⟨(), ⟨rfl, rfl, rfl, congrArg Value.bool ?_, trivial⟩, rfl⟩
          symm
          refine decide_eq_true (fun hF => ?_)
          rcases hF with hF | ⟨hF, _⟩
          · exact h52 (by omega)
          · exact h54 hF
      ·
        have h52 := h
        refine g_no rfl rfl rfl ?_
        refine g_no rfl rfl rfl ?_
        refine g_un rfl rfl ?_
        refine g_un rfl rfl ?_
        refine g_un rfl rfl ?_
        refine g_un rfl rfl ?_
        refine g_un rfl rfl ?_
        refine g_un rfl rfl ?_
        refine g_un rfl rfl ?_
        refine g_un rfl rfl ?_
        refine g_un rfl rfl ?_
        refine g_un rfl rfl ?_
        refine g_no rfl rfl rfl ?_
        refine g_no rfl rfl rfl ?_
        refine pick_f rfl rfl ?_
        refine o_nil ?_
        refine k_goal ⟨(), ⟨rfl, rfl, rfl, congrArg Value.bool ?_, trivial⟩, rfl⟩
        symm
        exact decide_eq_false (fun hh => hh (.inl (by omega)))
    subst hJ
    refine k_cond rfl (fun h => ?_) (fun h => ?_)
    ·
      refine k_seq ?_
      refine k_region ?_
      refine o_build (v := .agg rzero.toArray) rfl bz62 ?_
      refine o_sta (xs := rzero) rfl rfl (by rw [rzero_len]; rfl) rzero_one hA2 (by simp) (fun w4 hA4 hK4 hZ4 => ?_)
      have hA4 := sta_whole hA4 (by simp)
      refine m_int rfl rfl ?_
      refine o_nil ?_
      refine k_ret (ret_cell1 (v2 := .int _ _) rfl rfl rfl (by rw [rzero_len]; rfl) (fun j v hv => blk_agg hA4 hv) rfl ?_)
      exact ⟨hk2.tr1 hK4 (by omega), _, _, _, _, by rw [rzero_eq], .inr (.inl ⟨hokL, by rw [hLe]; exact h, rfl⟩)⟩
    have hFit : Fit L lone := Decidable.not_not.1 h
    have hk15 := hFit.le hLi
    have hfl : ∀ n, n ≤ 15 → fst L n + cnt L n ≤ 32768 := fun n hn => fst_lt15 hk15 n hn
    refine k_skip ?_
    refine k_seq ?_
    refine k_region ?_
    refine m_int rfl rfl ?_
    refine o_nil ?_
    refine k_seq ?_
    refine k_seq ?_
    refine k_region ?_
    refine m_int rfl rfl ?_
    refine o_nil ?_
    refine k_block ?_
    refine k_loop (σ := Nat × (Nat → Option Addr × Nat)) (fun s => [(0, .slice a ls.length c), (4, .pointer (some ⟨b4, 0, none⟩)), (6, .pointer (some ⟨b6, 0, none⟩)), (12, .int .i64 ((fst L (s.1 - 1) + cnt L (s.1 - 1) : Nat) : Int)), (13, .int .i64 (s.1 : Int))]) (fun s w' => 1 ≤ s.1 ∧ s.1 ≤ 16 ∧ Blk w' b6 (rcells (fun j => if j < s.1 then fst L j else 0) (fun j => if j < s.1 then cnt L j else 0) s.2).toArray 62 ∧ Blk w' b4 rzero.toArray 62 ∧ (∀ j, j < s.1 → Rd w' (s.2 j).1 (sv (syms L j))) ∧ (∀ j q, (s.2 j).1 = some q → b6 < q.block ∧ q.block < w'.heap.size) ∧ (∀ j, s.1 ≤ j → s.2 j = (none, 0)) ∧ Keep [] w w') (fun s => 16 - s.1) (1, fun _ => (none, 0)) ⟨rfl, rfl, rfl, congrArg (Value.int .i64) (by show (0 : Int) = ((fst L 0 + cnt L 0 : Nat) : Int); rw [cnt_zero, fst_zero]; rfl), rfl, trivial⟩ ⟨by simp, by simp, ?_, hA2, ?_, by simp, fun _ _ => rfl, hk2⟩ (fun s e w6 hJ => ?_)
    · rw [rc_congr (f' := fun _ => 0) (ln' := fun _ => 0) (sl' := fun _ => (none, 0)) (fun n _ => by split; (have : n = 0 := by omega); subst this; exact fst_zero L; rfl) (fun n _ => by split; (have : n = 0 := by omega); subst this; exact cnt_zero L; rfl) (fun _ _ => rfl)]
      rw [← rzero_eq]; exact hB2
    · intro j hj
      obtain rfl : j = 0 := by omega
      rw [syms_zero]; exact Rd.nil _ _
    obtain ⟨m, sl⟩ := s
    obtain ⟨hm1, hm16, hB6, hA6, hR6, hlt6, hno6, hk6⟩ := hJ
    simp only at hm1 hm16 hB6 hA6 hR6 hlt6 hno6
    change kw _ _ _ _ (ovr [(0, .slice a ls.length c), (4, .pointer (some ⟨b4, 0, none⟩)), (6, .pointer (some ⟨b6, 0, none⟩)), (12, .int .i64 ((fst L (m - 1) + cnt L (m - 1) : Nat) : Int)), (13, .int .i64 (m : Int))] e) w6
    refine k_seq ?_
    refine k_seq ?_
    refine k_region ?_
    refine m_int rfl rfl ?_
    refine b_leq rfl rfl ?_
    refine o_nil ?_
    refine k_cond rfl (fun h => ?_) (fun h => ?_)
    rotate_left
    ·
      obtain rfl : m = 16 := by omega
      rw [rc_congr (f' := fst L) (ln' := cnt L) (sl' := sl) (fun n hn => if_pos hn) (fun n hn => if_pos hn) (fun _ _ => rfl)] at hB6
      refine k_exit rfl ?_
      refine k_seq ?_
      refine k_region ?_
      refine o_lda (xs := rcells (fst L) (cnt L) sl) rfl rfl (by rw [rc_len]; rfl) (fun j u hj => by rw [Nat.zero_add]; exact blk_agg hB6 hj) ?_
      refine o_sta (xs := rcells (fst L) (cnt L) sl) rfl rfl (by rw [rc_len]; rfl) (rc_one _ _ _) hA6 (by rw [rc_len]; simp [rzero_len]) (fun w7 hA7 hK7 hZ7 => ?_)
      have hA7 := sta_whole hA7 (by rw [rc_len]; simp [rzero_len])
      refine m_int rfl rfl ?_
      refine o_nil ?_
      refine k_ret (ret_cell1 (v2 := .int _ _) rfl rfl rfl (by rw [rc_len]; rfl) (fun j v hv => blk_agg hA7 hv) rfl ?_)
      refine ⟨hk6.tr1 hK7 (by omega), _, _, _, _, rfl, .inr (.inr ⟨hokL, hLe ▸ hFit, rfl, by rw [hLe], by rw [hLe], ?_, fun n hn q hq => by have := hlt6 n q hq; have := hK1.size; omega⟩)⟩
      rw [hLe]
      intro n hn
      refine (hR6 n hn).keepN hK7 (fun hne q hq hm => ?_)
      simp at hm
      have := hlt6 n q hq
      omega
    have hm15 : m ≤ 15 := by omega
    have hflm := hfl m hm15
    have hflp := hfl (m - 1) (by omega)
    have hfm : 2 * (fst L (m - 1) + cnt L (m - 1)) = fst L m := by
     obtain ⟨q, rfl⟩ : ∃ q, m = q + 1 := ⟨m - 1, by omega⟩
     rw [fst_succ, Nat.add_sub_cancel]
    refine k_skip ?_
    refine k_seq ?_
    refine k_block ?_
    refine k_seq ?_
    refine k_region ?_
    refine m_int rfl rfl ?_
    refine n_mul rfl rfl (by omega) ?_
    rw [show 2 * (((fst L (m - 1) + cnt L (m - 1) : Nat) : Int)) = ((fst L m : Nat) : Int) by omega]
    refine m_int rfl rfl ?_
    refine o_nil ?_
    refine k_seq ?_
    refine k_region ?_
    refine m_int rfl rfl ?_
    refine m_int rfl rfl ?_
    refine o_fld0 rfl rfl ?_
    refine o_ixa1 (m := m) Try.underlying59 rfl rfl rfl (by omega) ?_
    refine o_st (v := .int _ _) rfl rfl rfl rfl hB6 (by simp [rc_len]; omega) (fun w7 hB7 hK7 hZ7 => ?_)
    rw [Nat.zero_add, List.setIfInBounds_toArray, rc_set1 _ _ _ m _ (by omega)] at hB7
    have hA7 := hA6.keep hK7 (by simpa using h46)
    have hs7 : w7.heap.size = w6.heap.size := hZ7
    refine o_nil ?_
    refine k_seq ?_
    refine k_region ?_
    refine m_int rfl rfl ?_
    refine o_nil ?_
    refine k_block ?_
    refine k_loop (σ := Nat × Option Addr × Nat) (fun s => [(0, .slice a ls.length c), (4, .pointer (some ⟨b4, 0, none⟩)), (6, .pointer (some ⟨b6, 0, none⟩)), (12, .int .i64 ((fst L m + cnt (L.take s.1) m : Nat) : Int)), (13, .int .i64 (m : Int)), (14, .int .i64 (s.1 : Int))]) (fun s w' => s.1 ≤ ls.length ∧ Sl w' 3 1 s.2.1 (cnt (L.take s.1) m) s.2.2 (sv (syms (L.take s.1) m)) ∧ (∀ q, s.2.1 = some q → w6.heap.size ≤ q.block) ∧ Blk w' b6 (rcells (fun j => if j < m + 1 then fst L j else 0) (fun j => if j < m then cnt L j else if j = m then cnt (L.take s.1) m else 0) (fun j => if j = m then (s.2.1, s.2.2) else sl j)).toArray 62 ∧ Blk w' b4 rzero.toArray 62 ∧ (∀ j, j < m → Rd w' (sl j).1 (sv (syms L j))) ∧ w6.heap.size ≤ w'.heap.size ∧ Keep [] w w') (fun s => ls.length - s.1) (0, none, 0) ⟨rfl, rfl, rfl, congrArg (Value.int .i64) (by simp only [List.take_zero, cnt_nil]; rfl), rfl, rfl, trivial⟩ ⟨by simp, by simp only [List.take_zero, cnt_nil, syms_nil]; exact Sl.nil _ _ _, by simp, ?_, hA7, ?_, by omega, hk6.tr1 hK7 (by omega)⟩ (fun s e w8 hJ => ?_)
    · rw [rc_congr (f' := fun j => if j = m then fst L m else if j < m then fst L j else 0) (ln' := fun j => if j < m then cnt L j else 0) (sl' := sl) ?_ ?_ ?_]
      · exact hB7
      · intro n _
        by_cases h : n = m
        · rw [if_pos h, if_pos (by omega), h]
        · rw [if_neg h]
          by_cases h2 : n < m
          · rw [if_pos h2, if_pos (by omega)]
          · rw [if_neg h2, if_neg (by omega)]
      · intro n _
        simp only [List.take_zero, cnt_nil]
        split
        · rfl
        · split <;> rfl
      · intro n _
        by_cases h : n = m
        · rw [if_pos h, h, hno6 m (by omega)]
        · rw [if_neg h]
    · intro j hj
      refine (hR6 j hj).keepN hK7 (fun _ q hq hm => ?_)
      simp at hm
      have := hlt6 j q hq
      omega
    obtain ⟨s, a8, c8⟩ := s
    obtain ⟨hs, hS8, hf8, hB8, hA8, hR8, hz8, hk8⟩ := hJ
    simp only at hs hS8 hf8 hB8
    change kw _ _ _ _ (ovr [(0, .slice a ls.length c), (4, .pointer (some ⟨b4, 0, none⟩)), (6, .pointer (some ⟨b6, 0, none⟩)), (12, .int .i64 ((fst L m + cnt (L.take s) m : Nat) : Int)), (13, .int .i64 (m : Int)), (14, .int .i64 (s : Int))] e) w8
    have hcp := cnt_pre L s m (by omega)
    refine k_seq ?_
    refine k_seq ?_
    refine k_region ?_
    refine m_int rfl rfl ?_
    refine m_sl rfl rfl ?_
    refine o_lens Try.underlying42 rfl ?_
    refine b_lss rfl rfl ?_
    refine o_nil ?_
    refine k_cond rfl (fun h => ?_) (fun h => ?_)
    rotate_left
    ·
      obtain rfl : s = ls.length := by omega
      rw [show L.take ls.length = L by rw [← hnl, List.take_length]] at hS8 hB8 ⊢
      refine k_exit rfl ?_
      refine k_blk ?_
      refine k_region ?_
      refine m_int rfl rfl ?_
      refine n_add rfl rfl (by omega) ?_
      refine m_int rfl rfl ?_
      refine o_nil ?_
      refine k_goal ⟨(m + 1, fun j => if j = m then (a8, c8) else sl j), ⟨rfl, rfl, rfl, rfl, congrArg (Value.int .i64) (by simp only; omega), trivial⟩, ⟨by simp only; omega, by simp only; omega, ?_, hA8, ?_, ?_, ?_, hk8⟩, by simp only; omega⟩
      · simp only
        rw [rc_congr (f' := fun j => if j < m + 1 then fst L j else 0) (ln' := fun j => if j < m then cnt L j else if j = m then cnt L m else 0) (sl' := fun j => if j = m then (a8, c8) else sl j) (fun _ _ => rfl) ?_ (fun _ _ => rfl)]
        · exact hB8
        · intro n _
          by_cases h : n < m
          · rw [if_pos h, if_pos (by omega)]
          · by_cases h2 : n = m
            · rw [if_neg h, if_pos h2, if_pos (by omega), h2]
            · rw [if_neg h, if_neg h2, if_neg (by omega)]
      · intro j hj
        simp only at hj ⊢
        by_cases h : j = m
        · rw [if_pos h, h]; exact hS8.rd
        · rw [if_neg h]; exact hR8 j (by omega)
      · intro j q hq
        simp only at hq
        by_cases h : j = m
        · rw [if_pos h] at hq
          have h1 := hf8 q hq
          have h2 := hS8.lt q hq
          have := hB6.lt
          exact ⟨by omega, h2⟩
        · rw [if_neg h] at hq
          have := hlt6 j q hq
          omega
      · intro j hj
        simp only at hj ⊢
        rw [if_neg (by omega)]
        exact hno6 j (by omega)
    have hsl : s < ls.length := by omega
    obtain ⟨b1, o1, rfl, _⟩ := hR.at s (by simpa using hsl)
    have hsL : s < L.length := by omega
    have hLs := hLat s hsl hsL
    have hos := hok s hsl hsl
    refine k_skip ?_
    refine k_seq ?_
    refine k_block ?_
    refine k_seq ?_
    refine k_region ?_
    refine m_sl rfl rfl ?_
    refine m_int rfl rfl ?_
    refine o_ixs1 Try.underlying42 rfl rfl rfl hsl ?_
    refine o_ld rfl rfl (hR.cellK hk8 (iv_at ls s hsl)) ?_
    refine m_int rfl rfl ?_
    refine b_eql rfl rfl ?_
    refine o_nil ?_
    refine k_cond rfl (fun h => ?_) (fun h => ?_)
    ·
      have hLm : L[s] = m := by omega
      have e8 : (rcells (fun j => if j < m + 1 then fst L j else 0) (fun j => if j < m then cnt L j else if j = m then cnt (L.take s) m else 0) (fun j => if j = m then (a8, c8) else sl j))[16 + m]? = some (.slice a8 (cnt (L.take s) m) c8) := by rw [rc_syms _ _ _ _ (by omega)]; simp
      have hnb6 := hS8.notin hB8 (by decide)
      have hnb4 := hS8.notin hA8 (by decide)
      have hcm := cnt_take L s m hsL
      rw [if_pos ⟨hLm, by omega⟩] at hcm
      have hsm := syms_take L s m hsL
      rw [if_pos ⟨hLm, by omega⟩] at hsm
      refine k_seq ?_
      refine k_region ?_
      refine m_int rfl rfl ?_
      refine m_int rfl rfl ?_
      refine o_fld (off := 16) rfl rfl ?_
      refine o_ixa1 (m := m) Try.underlying60 rfl rfl rfl (by omega) ?_
      refine o_ld rfl rfl (blk_agg hB8 (by rw [Nat.zero_add]; exact e8)) ?_
      refine m_int rfl rfl ?_
      refine o_bsl (E := 3) (cs := #[.int .i64 (s : Int)]) rfl (fun _ => by kernel_rfl) (fun g w9 hG9 hK9 hb9 hZ9 => ?_)
      refine o_app Try.underlying42 inf3 rfl (by decide) rfl rfl (hS8.new hK9) hG9.rd (by simp) (by simp [Value.oneCell']) (by simp [maxLen]; omega) (by omega) (fun a10 c10 w10 hS10 hK10 hv10 => ?_)
      have hk10 : Keep [] w w10 := Keep.trb (hk8.tr hK9) hK10 (fun q hq => by have := hf8 q hq; have := hk6.size; omega)
      have hf10 := fresh_app hf8 (by have := hK9.size; omega) hv10
      have hB10 := (hB8.keep hK9 (by simp)).keep hK10 hnb6
      have hA10 := (hA8.keep hK9 (by simp)).keep hK10 hnb4
      have hR10 : ∀ j, j < m → Rd w10 (sl j).1 (sv (syms L j)) := fun j hj => ((hR8 j hj).new hK9).keep hK10 (fun q hq hm => by
       have := hlt6 j q hq
       cases ha : a8 with
       | none => rw [ha] at hm; simp [blkOf] at hm
       | some p =>
         rw [ha] at hm
         simp [blkOf] at hm
         have := hf8 p ha
         omega)
      rw [sv_app, ← hsm, ← hcm] at hS10
      rw [← hcm]
      refine o_fld (off := 16) rfl rfl ?_
      refine o_ixa1 (m := m) Try.underlying60 rfl rfl rfl (by omega) ?_
      refine o_st (v := .slice _ _ _) rfl rfl rfl rfl hB10 (by simp [rc_len]; omega) (fun w11 hB11 hK11 hZ11 => ?_)
      rw [Nat.zero_add, List.setIfInBounds_toArray, rc_set2 _ _ _ m _ _ _ (by omega)] at hB11
      have hS11 := hS10.keep hK11 (hS10.off hB10 (by decide))
      refine o_nil ?_
      refine k_region ?_
      refine m_int rfl rfl ?_
      refine n_add rfl rfl (by omega) ?_
      refine m_int rfl rfl ?_
      refine o_nil ?_
      refine k_blk ?_
      refine k_region ?_
      refine m_int rfl rfl ?_
      refine n_add rfl rfl (by omega) ?_
      refine m_int rfl rfl ?_
      refine o_nil ?_
      refine k_goal ⟨(s + 1, a10, c10), ⟨rfl, rfl, rfl, congrArg (Value.int .i64) (by simp only; rw [hcm]; omega), rfl, rfl, trivial⟩, ⟨by simp only; omega, hS11, hf10, ?_, hA10.keep hK11 (by simpa using h46), ?_, by have := hk10.size; have := hK9.size; have := hK10.size; omega, hk10.tr1 hK11 (by omega)⟩, by simp only; omega⟩
      · simp only
        rw [rc_congr (f' := fun j => if j < m + 1 then fst L j else 0) (ln' := fun j => if j = m then cnt (L.take (s + 1)) m else if j < m then cnt L j else if j = m then cnt (L.take s) m else 0) (sl' := fun j => if j = m then (a10, c10) else if j = m then (a8, c8) else sl j) (fun _ _ => rfl) ?_ ?_]
        · exact hB11
        · intro n _
          by_cases h : n = m
          · simp [h]
          · simp [h]
        · intro n _
          by_cases h : n = m
          · rw [if_pos h, if_pos h]
          · rw [if_neg h, if_neg h, if_neg h]
      · intro j hj
        refine (hR10 j hj).keepN hK11 (fun _ q hq hm => ?_)
        simp at hm
        have := hlt6 j q hq
        omega
    have hLm : L[s] ≠ m := by omega
    have hcm : cnt (L.take (s + 1)) m = cnt (L.take s) m := by rw [cnt_take L s m hsL, if_neg (fun hh => hLm hh.1)]; rfl
    have hsm := syms_take L s m hsL
    rw [if_neg (fun hh => hLm hh.1), List.append_nil] at hsm
    refine k_skip ?_
    refine k_blk ?_
    refine k_region ?_
    refine m_int rfl rfl ?_
    refine n_add rfl rfl (by omega) ?_
    refine m_int rfl rfl ?_
    refine o_nil ?_
    refine k_goal ⟨(s + 1, a8, c8), ⟨rfl, rfl, rfl, congrArg (Value.int .i64) (by simp only; rw [hcm]), rfl, rfl, trivial⟩, ⟨by simp only; omega, by simp only; rw [hcm, hsm]; exact hS8, hf8, by simp only; rw [hcm]; exact hB8, hA8, hR8, hz8, hk8⟩, by simp only; omega⟩
  have hil : i < ls.length := by omega
  obtain ⟨b1, o1, rfl, _⟩ := hR.at i (by simpa using hil)
  have hin : i < (nats ls).length := by omega
  have hat := nats_at ls i hil
  refine k_skip ?_
  refine k_seq ?_
  refine k_block ?_
  refine k_seq ?_
  refine k_region ?_
  refine m_sl rfl rfl ?_
  refine m_int rfl rfl ?_
  refine o_ixs1 Try.underlying42 rfl rfl rfl hil ?_
  refine o_ld rfl rfl (hR.cellK hk2 (iv_at ls i hil)) ?_
  refine m_int rfl rfl ?_
  refine o_nil ?_
  refine k_seq ?_
  refine k_seq ?_
  refine k_region ?_
  refine m_int rfl rfl ?_
  refine b_lss rfl rfl ?_
  refine m_bool rfl rfl ?_
  refine o_split (t := 31) rfl (fun h => ?_) (fun h => ?_)
  ·
    refine g_no rfl rfl rfl ?_
    refine g_no rfl rfl rfl ?_
    refine pick_t rfl rfl ?_
    refine o_nil ?_
    refine k_condt rfl ?_
    refine k_seq ?_
    refine k_region ?_
    refine o_build (v := .agg rzero.toArray) rfl bz62 ?_
    refine o_sta (xs := rzero) rfl rfl (by rw [rzero_len]; rfl) rzero_one hA2 (by simp) (fun w4 hA4 hK4 hZ4 => ?_)
    have hA4 := sta_whole hA4 (by simp)
    refine m_int rfl rfl ?_
    refine o_nil ?_
    refine k_ret (ret_cell1 (v2 := .int _ _) rfl rfl rfl (by rw [rzero_len]; rfl) (fun j v hv => blk_agg hA4 hv) rfl ?_)
    exact ⟨hk2.tr1 hK4 (by omega), _, _, _, _, by rw [rzero_eq], .inl ⟨fun hh => by have := hh.2 _ (List.getElem_mem hil); omega, rfl⟩⟩
  ·
    refine g_yes rfl rfl ?_
    refine m_int rfl rfl ?_
    refine g_yes rfl rfl ?_
    refine b_gtr rfl rfl ?_
    refine pick_f rfl rfl ?_
    refine o_nil ?_
    refine k_cond rfl (fun h => ?_) (fun h => ?_)
    ·
      refine k_seq ?_
      refine k_region ?_
      refine o_build (v := .agg rzero.toArray) rfl bz62 ?_
      refine o_sta (xs := rzero) rfl rfl (by rw [rzero_len]; rfl) rzero_one hA2 (by simp) (fun w4 hA4 hK4 hZ4 => ?_)
      have hA4 := sta_whole hA4 (by simp)
      refine m_int rfl rfl ?_
      refine o_nil ?_
      refine k_ret (ret_cell1 (v2 := .int _ _) rfl rfl rfl (by rw [rzero_len]; rfl) (fun j v hv => blk_agg hA4 hv) rfl ?_)
      exact ⟨hk2.tr1 hK4 (by omega), _, _, _, _, by rw [rzero_eq], .inl ⟨fun hh => by have := hh.2 _ (List.getElem_mem hil); omega, rfl⟩⟩
    obtain ⟨x, hx⟩ : ∃ x : Nat, ls[i] = x := ⟨ls[i].toNat, by omega⟩
    have hx15 : x ≤ 15 := by omega
    rw [hx]
    have hLx : (nats ls)[i] = x := by rw [hat, hx]; rfl
    have hok' : ∀ j (hj : j < ls.length), j < i + 1 → 0 ≤ ls[j] ∧ ls[j] ≤ 15 := by
     intro j hj hji
     by_cases hjj : j < i
     · exact hok j hj hjj
     · obtain rfl : j = i := by omega
       omega
    have hp15 := p15 x
    have hkt : kr ((nats ls).take (i + 1)) 15 = kr ((nats ls).take i) 15 + (if x ≠ 0 then 2 ^ (15 - x) else 0) := by rw [kr_take _ i hin (by rw [hLx]; exact hx15), hLx]
    have hut : used ((nats ls).take (i + 1)) = used ((nats ls).take i) + (if x ≠ 0 then 1 else 0) := by rw [used_take _ i hin, hLx]
    have hct : cnt ((nats ls).take (i + 1)) 1 = cnt ((nats ls).take i) 1 + (if x = 1 ∧ 1 ≠ 0 then 1 else 0) := by rw [cnt_take _ i 1 hin, hLx]
    refine k_skip ?_
    refine k_seq ?_
    refine k_seq ?_
    refine k_region ?_
    refine m_int rfl rfl ?_
    refine b_gtr rfl rfl ?_
    refine o_nil ?_
    refine k_cut (σ := Unit) (fun _ => [(0, .slice (some ⟨b1, o1, none⟩) ls.length c), (1, .bool lone), (4, .pointer (some ⟨b4, 0, none⟩)), (6, .pointer (some ⟨b6, 0, none⟩)), (7, .int .i64 (kr ((nats ls).take (i + 1)) 15 : Int)), (8, .int .i64 (cnt ((nats ls).take i) 1 : Int)), (9, .int .i64 (used ((nats ls).take (i + 1)) : Int)), (10, .int .i64 (i : Int)), (11, .int .i64 (x : Int))]) (fun _ w' => w' = w3) ?_ (fun _ e w4 hJ => ?_)
    ·
      refine k_cond rfl (fun h => ?_) (fun h => ?_)
      ·
        refine k_seq ?_
        refine k_region ?_
        refine m_int rfl rfl ?_
        refine m_int rfl rfl ?_
        refine n_sub rfl rfl (by omega) ?_
        refine cv64 rfl Try.underlying47 rfl ?_
        refine b_shln rfl rfl ?_
        rw [sh15 x hx15]
        generalize 2 ^ (15 - x) = y at *
        refine n_add rfl rfl (by omega) ?_
        refine m_int rfl rfl ?_
        refine o_nil ?_
        refine k_region ?_
        refine m_int rfl rfl ?_
        refine n_add rfl rfl (by omega) ?_
        refine m_int rfl rfl ?_
        refine o_nil ?_
        refine k_goal ⟨(), ⟨rfl, rfl, rfl, rfl, congrArg (Value.int .i64) ?_, rfl, congrArg (Value.int .i64) ?_, rfl, rfl, trivial⟩, rfl⟩
        · rw [hkt, if_pos (by omega), Int.natCast_add]
        · rw [hut, if_pos (by omega)]; rfl
      refine k_skip ?_
      refine k_goal ⟨(), ⟨rfl, rfl, rfl, rfl, congrArg (Value.int .i64) ?_, rfl, congrArg (Value.int .i64) ?_, rfl, rfl, trivial⟩, rfl⟩
      · rw [hkt, if_neg (by omega)]; rfl
      · rw [hut, if_neg (by omega)]; rfl
    subst hJ
    refine k_seq ?_
    refine k_region ?_
    refine m_int rfl rfl ?_
    refine b_eql rfl rfl ?_
    refine o_nil ?_
    refine k_cond rfl (fun h => ?_) (fun h => ?_)
    ·
      refine k_region ?_
      refine m_int rfl rfl ?_
      refine n_add rfl rfl (by omega) ?_
      refine m_int rfl rfl ?_
      refine o_nil ?_
      refine k_blk ?_
      refine k_region ?_
      refine m_int rfl rfl ?_
      refine n_add rfl rfl (by omega) ?_
      refine m_int rfl rfl ?_
      refine o_nil ?_
      refine k_goal ⟨i + 1, ⟨rfl, rfl, rfl, rfl, rfl, congrArg (Value.int .i64) ?_, rfl, rfl, trivial⟩, ⟨by omega, hok', rfl⟩, by omega⟩
      rw [hct, if_pos (by omega)]; rfl
    refine k_skip ?_
    refine k_blk ?_
    refine k_region ?_
    refine m_int rfl rfl ?_
    refine n_add rfl rfl (by omega) ?_
    refine m_int rfl rfl ?_
    refine o_nil ?_
    refine k_goal ⟨i + 1, ⟨rfl, rfl, rfl, rfl, rfl, congrArg (Value.int .i64) ?_, rfl, rfl, trivial⟩, ⟨by omega, hok', rfl⟩, by omega⟩
    rw [hct, if_neg (by omega)]; rfl
end Go.Proofs.Ytpmlhlefhmgpfaa
