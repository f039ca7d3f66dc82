/- The walks of the laws PrefixNil and PrefixMakes. No condition beyond what each contract names. -/
import Derived.Test.YtpmlhlefhmgpfaaPe
namespace Go.Proofs.Ytpmlhlefhmgpfaa
open Go.RowKit E
set_option linter.unusedVariables false
set_option linter.unusedSimpArgs false
set_option maxRecDepth 100000
attribute [local irreducible] ow qw kw kq cw opW Ret
instance (ls : List Int) : Decidable (okL ls) := by unfold okL; infer_instance
/-- the error of New -/
def e5 (ls : List Int) (lone : Bool) : Int := if okL ls then (if Fit (nats ls) lone then 0 else 5) else 1
theorem e5_zero {ls : List Int} {lone : Bool} (h : e5 ls lone = 0) : okL ls ∧ Fit (nats ls) lone := by
  unfold e5 at h
  split at h
  · rename_i h1
    split at h
    · rename_i h2; exact ⟨h1, h2⟩
    · simp at h
  · simp at h
theorem NewR.e {w w' : World} {ls : List Int} {lone : Bool} {v : Value} (h : NewR w w' ls lone v) : Keep [] w w' ∧ ∃ p, v = .tuple #[.pointer p, .int .i64 (e5 ls lone)] ∧ (p = none ↔ e5 ls lone ≠ 0) ∧ (e5 ls lone = 0 → ∃ r, p = some ⟨r, 0, none⟩ ∧ CodeP w' r (nats ls)) := by
  obtain ⟨hk, h⟩ := h
  refine ⟨hk, ?_⟩
  unfold e5
  rcases h with ⟨h1, rfl⟩ | ⟨h1, h2, rfl⟩ | ⟨h1, h2, r, rfl, hc⟩
  · rw [if_neg h1]; exact ⟨none, rfl, by simp, by simp⟩
  · rw [if_pos h1, if_neg h2]; exact ⟨none, rfl, by simp, by simp⟩
  · rw [if_pos h1, if_pos h2]; exact ⟨some ⟨r, 0, none⟩, rfl, by simp, fun _ => ⟨r, rfl, hc⟩⟩
theorem RNewR.e {w w' : World} {ls : List Int} {lone : Bool} {v : Value} (h : RNewR w w' ls lone v) : Keep [] w w' ∧ ∃ f ln sl, v = .tuple #[.agg (rcells f ln sl).toArray, .int .i64 (e5 ls lone)] ∧
    (e5 ls lone = 0 → f = fst (nats ls) ∧ ln = cnt (nats ls) ∧ RC w' (nats ls) sl ∧ ∀ n, n < 16 → ∀ q, (sl n).1 = some q → w.heap.size ≤ q.block ∧ q.block < w'.heap.size) := by
  obtain ⟨hk, f, ln, sl, y, rfl, h⟩ := h
  refine ⟨hk, f, ln, sl, ?_⟩
  unfold e5
  rcases h with ⟨h1, rfl⟩ | ⟨h1, h2, rfl⟩ | ⟨h1, h2, rfl, h3⟩
  · rw [if_neg h1]; exact ⟨rfl, by simp⟩
  · rw [if_pos h1, if_neg h2]; exact ⟨rfl, by simp⟩
  · rw [if_pos h1, if_pos h2]; exact ⟨rfl, fun _ => h3⟩
theorem CodeP.lens {w : World} {r : Nat} {L : List Nat} (h : CodeP w r L) : (∀ x ∈ L, x ≤ 15) ∧ kr L 15 ≤ 32768 ∧ L.length ≤ 288 := by
  obtain ⟨_, _, _, _, _, _, _, _, _, h1, h2, h3⟩ := h
  exact ⟨h1, h2, h3⟩
/-- a reader's block is turned -/
theorem CodeP.rdr {w w' : World} {r x : Nat} {L : List Nat} {bs : List (BitVec 8)} {p : Nat} (h : CodeP w r L) (hR : Rdr 79 w x bs p) (hk : Keep [x] w w') : CodeP w' r L := by
  obtain ⟨cs, hB⟩ := hR.blk
  exact h.kt (Ts := [79]) (k := 0) (hk.t1 (Nat.zero_le _) hB (by simp)) (by decide)
theorem blk_ls {w : World} {g : Nat} {cs : Array Value} {T : TypeId} {ls : List Int} (h : Blk w g cs T) (e : cs.toList = ls.map iv) : Rd w (some ⟨g, 0, none⟩) (ls.map iv) := e ▸ h.rd
theorem blk_bs {w : World} {g : Nat} {cs : Array Value} {T : TypeId} {bs : List (BitVec 8)} (h : Blk w g cs T) (e : cs.toList = bs.map u8v) : Rd w (some ⟨g, 0, none⟩) (bs.map u8v) := e ▸ h.rd
theorem fixed5_ok (w : World) : Ret Try.prog 33 [] w (fun v w' => v = .bool true ∧ Keep [] w w') := by
  refine fn_enter (n := 77) Try.func33 rfl rfl (Nat.le_of_ble_eq_true rfl) (fun e => ?_)
  refine k_seq ?_
  refine k_region ?_
  refine m_bool rfl rfl ?_
  refine o_nil ?_
  refine k_seq ?_
  refine k_region ?_
  refine o_bsl (E := 3) (cs := #[.int .i64 2, .int .i64 1, .int .i64 3, .int .i64 3]) rfl (fun _ => by kernel_rfl) (fun g w1 hB1 hK1 hb1 hZ1 => ?_)
  refine o_call rfl rfl (new_ok5 w1 _ 4 [2, 1, 3, 3] false (blk_ls hB1 rfl) (by decide)) (fun v w2 hv => ?_)
  obtain ⟨hK2, p, rfl, _, hc⟩ := hv.e
  rw [show e5 [2, 1, 3, 3] false = 0 by decide] at hc ⊢
  obtain ⟨r, rfl, hC2⟩ := hc rfl
  rw [show nats [2, 1, 3, 3] = [2, 1, 3, 3] by decide] at hC2
  have hk2 := hK1.tr hK2
  refine m_any rfl rfl ?_
  refine o_extr rfl rfl ?_
  refine o_extr rfl rfl ?_
  refine m_ptr rfl rfl ?_
  refine m_int rfl rfl ?_
  refine o_nil ?_
  refine k_seq ?_
  refine k_region ?_
  refine m_ptr rfl rfl ?_
  refine o_call rfl rfl (word_ok w2 r _ 2 hC2) (fun v w3 hv => ?_)
  obtain ⟨rfl, hK3⟩ := hv
  rw [show wd [2, 1, 3, 3] 2 = (6, 3) by decide]
  refine m_any rfl rfl ?_
  refine o_extr rfl rfl ?_
  refine o_extr rfl rfl ?_
  refine m_int rfl rfl ?_
  refine m_int rfl rfl ?_
  refine o_nil ?_
  refine k_seq ?_
  refine k_region ?_
  refine m_ptr rfl rfl ?_
  refine o_bsl (E := 5) (cs := #[.int .u8 3]) rfl (fun _ => by kernel_rfl) (fun g4 w4 hB4 hK4 hb4 hZ4 => ?_)
  have hk4 := (hk2.tr hK3).tr hK4
  refine o_call rfl rfl (new_ok w4 _ 1 [3#8] (blk_bs hB4 rfl) (by decide)) (fun v w5 hv => ?_)
  obtain ⟨x, rfl, hR5, hK5, hx5⟩ := hv
  have hk5 := hk4.tr hK5
  refine o_call rfl rfl (next_ok w5 r x _ _ 0 (((hC2.new hK3).new hK4).new hK5) hR5) (fun v w6 hv => ?_)
  obtain ⟨rfl, hR6, hK6⟩ := hv
  rw [show nx [2, 1, 3, 3] [3#8] (mostL [2, 1, 3, 3]) 0 0 0 = (2, 0, 3) by decide]
  have hk6 := hk5.tr1 hK6 (by have := hk4.size; omega)
  refine m_any rfl rfl ?_
  refine o_extr rfl rfl ?_
  refine o_extr rfl rfl ?_
  refine m_int rfl rfl ?_
  refine m_int rfl rfl ?_
  refine o_nil ?_
  refine k_seq ?_
  refine k_region ?_
  refine o_bsl (E := 3) (cs := #[.int .i64 1, .int .i64 1, .int .i64 1]) rfl (fun _ => by kernel_rfl) (fun g7 w7 hB7 hK7 hb7 hZ7 => ?_)
  refine o_call rfl rfl (new_ok5 w7 _ 3 [1, 1, 1] false (blk_ls hB7 rfl) (by decide)) (fun v w8 hv => ?_)
  obtain ⟨hK8, p8, rfl, _, _⟩ := hv.e
  rw [show e5 [1, 1, 1] false = 5 by decide]
  have hk8 := (hk6.tr hK7).tr hK8
  refine m_any rfl rfl ?_
  refine o_extr rfl rfl ?_
  refine o_extr rfl rfl ?_
  refine m_ptr rfl rfl ?_
  refine m_int rfl rfl ?_
  refine o_nil ?_
  refine k_seq ?_
  refine k_region ?_
  refine o_bsl (E := 3) (cs := #[.int .i64 0, .int .i64 1]) rfl (fun _ => by kernel_rfl) (fun g9 w9 hB9 hK9 hb9 hZ9 => ?_)
  refine o_call rfl rfl (new_ok5 w9 _ 2 [0, 1] true (blk_ls hB9 rfl) (by decide)) (fun v w10 hv => ?_)
  obtain ⟨hK10, p10, rfl, _, hc10⟩ := hv.e
  rw [show e5 [0, 1] true = 0 by decide] at hc10 ⊢
  obtain ⟨r10, rfl, hC10⟩ := hc10 rfl
  rw [show nats [0, 1] = [0, 1] by decide] at hC10
  have hk10 := (hk8.tr hK9).tr hK10
  refine m_any rfl rfl ?_
  refine o_extr rfl rfl ?_
  refine o_extr rfl rfl ?_
  refine m_ptr rfl rfl ?_
  refine m_int rfl rfl ?_
  refine o_nil ?_
  refine k_seq ?_
  refine k_region ?_
  refine m_ptr rfl rfl ?_
  refine o_bsl (E := 5) (cs := #[.int .u8 1]) rfl (fun _ => by kernel_rfl) (fun g11 w11 hB11 hK11 hb11 hZ11 => ?_)
  have hk11 := hk10.tr hK11
  refine o_call rfl rfl (new_ok w11 _ 1 [1#8] (blk_bs hB11 rfl) (by decide)) (fun v w12 hv => ?_)
  obtain ⟨x12, rfl, hR12, hK12, hx12⟩ := hv
  have hk12 := hk11.tr hK12
  refine o_call rfl rfl (next_ok w12 r10 x12 _ _ 0 ((hC10.new hK11).new hK12) hR12) (fun v w13 hv => ?_)
  obtain ⟨rfl, hR13, hK13⟩ := hv
  rw [show nx [0, 1] [1#8] (mostL [0, 1]) 0 0 0 = (0, 6, 1) by decide]
  refine m_any rfl rfl ?_
  refine o_extr rfl rfl ?_
  refine o_extr rfl rfl ?_
  refine m_int rfl rfl ?_
  refine m_int rfl rfl ?_
  refine o_nil ?_
  refine k_seq ?_
  refine k_region ?_
  refine m_int rfl rfl ?_
  refine b_eql rfl rfl ?_
  refine m_bool rfl rfl ?_
  refine o_true (t := 49) rfl (rfl) ?_
  refine g_yes rfl rfl ?_
  refine m_int rfl rfl ?_
  refine g_yes rfl rfl ?_
  refine b_eql rfl rfl ?_
  refine pick_t rfl rfl ?_
  refine m_bool rfl rfl ?_
  refine o_true (t := 53) rfl (rfl) ?_
  refine g_yes rfl rfl ?_
  refine m_int rfl rfl ?_
  refine g_yes rfl rfl ?_
  refine b_eql rfl rfl ?_
  refine pick_t rfl rfl ?_
  refine m_bool rfl rfl ?_
  refine o_true (t := 57) rfl (rfl) ?_
  refine g_yes rfl rfl ?_
  refine m_int rfl rfl ?_
  refine g_yes rfl rfl ?_
  refine b_eql rfl rfl ?_
  refine pick_t rfl rfl ?_
  refine m_bool rfl rfl ?_
  refine o_true (t := 61) rfl (rfl) ?_
  refine g_yes rfl rfl ?_
  refine m_int rfl rfl ?_
  refine g_yes rfl rfl ?_
  refine b_eql rfl rfl ?_
  refine pick_t rfl rfl ?_
  refine m_bool rfl rfl ?_
  refine o_true (t := 65) rfl (rfl) ?_
  refine g_yes rfl rfl ?_
  refine m_int rfl rfl ?_
  refine g_yes rfl rfl ?_
  refine b_eql rfl rfl ?_
  refine pick_t rfl rfl ?_
  refine m_bool rfl rfl ?_
  refine o_true (t := 69) rfl (rfl) ?_
  refine g_yes rfl rfl ?_
  refine m_int rfl rfl ?_
  refine g_yes rfl rfl ?_
  refine b_eql rfl rfl ?_
  refine pick_t rfl rfl ?_
  refine m_bool rfl rfl ?_
  refine o_true (t := 73) rfl (rfl) ?_
  refine g_yes rfl rfl ?_
  refine m_int rfl rfl ?_
  refine g_yes rfl rfl ?_
  refine b_eql rfl rfl ?_
  refine pick_t rfl rfl ?_
  refine m_bool rfl rfl ?_
  refine o_nil ?_
  refine k_ret (ret_tmps (ts := [0]) (v := .bool _) rfl rfl ?_)
  exact ⟨rfl, hk12.tr1 hK13 (by have := hk11.size; omega)⟩
theorem pnil_ok (w : World) (s : Int) : Ret Try.prog 9 [.int .i64 s] w (fun v w' => v = .bool true ∧ Keep [] w w') := by
  refine fn_enter (n := 59) Try.func9 rfl rfl (Nat.le_of_ble_eq_true rfl) (fun e => ?_)
  refine k_seq ?_
  refine k_region ?_
  refine m_bool rfl rfl ?_
  refine o_nil ?_
  refine k_seq ?_
  refine k_seq ?_
  refine k_region ?_
  refine o_call rfl rfl (fixed5_ok w) (fun v w1 hv => ?_)
  obtain ⟨rfl, hK1⟩ := hv
  refine u_notb rfl ?_
  refine o_nil ?_
  refine k_condf rfl ?_
  refine k_skip ?_
  refine k_seq ?_
  refine k_region ?_
  refine m_ptr rfl rfl ?_
  refine o_nil ?_
  refine k_seq ?_
  refine k_region ?_
  refine m_ptr rfl rfl ?_
  refine m_int rfl rfl ?_
  refine o_call rfl rfl (nword w1 s) (fun v w2 hv => ?_)
  obtain ⟨rfl, rfl⟩ := hv
  refine m_any rfl rfl ?_
  refine o_extr rfl rfl ?_
  refine o_extr rfl rfl ?_
  refine m_int rfl rfl ?_
  refine m_int rfl rfl ?_
  refine o_nil ?_
  refine k_seq ?_
  refine k_region ?_
  refine m_ptr rfl rfl ?_
  refine o_bsl (E := 5) (cs := #[.int .u8 1]) rfl (fun _ => by kernel_rfl) (fun g4 w4 hB4 hK4 hb4 hZ4 => ?_)
  refine o_call rfl rfl (new_ok w4 _ 1 [1#8] (blk_bs hB4 rfl) (by decide)) (fun v w5 hv => ?_)
  obtain ⟨x, rfl, hR5, hK5, hx5⟩ := hv
  have hk5 := (hK1.tr hK4).tr hK5
  refine o_call rfl rfl (nnext w5 _) (fun v w6 hv => ?_)
  obtain ⟨rfl, rfl⟩ := hv
  refine m_any rfl rfl ?_
  refine o_extr rfl rfl ?_
  refine o_extr rfl rfl ?_
  refine m_int rfl rfl ?_
  refine m_int rfl rfl ?_
  refine o_nil ?_
  refine k_seq ?_
  refine k_region ?_
  refine o_bsl (E := 3) (cs := #[.int .i64 1, .int .i64 1]) rfl (fun _ => by kernel_rfl) (fun g7 w7 hB7 hK7 hb7 hZ7 => ?_)
  refine o_call rfl rfl (new_ok5 w7 _ 2 [1, 1] false (blk_ls hB7 rfl) (by decide)) (fun v w8 hv => ?_)
  obtain ⟨hK8, p8, rfl, _, hc8⟩ := hv.e
  rw [show e5 [1, 1] false = 0 by decide] at hc8 ⊢
  obtain ⟨r8, rfl, hC8⟩ := hc8 rfl
  refine m_any rfl rfl ?_
  refine o_extr rfl rfl ?_
  refine o_extr rfl rfl ?_
  refine m_ptr rfl rfl ?_
  refine m_int rfl rfl ?_
  refine o_nil ?_
  refine k_seq ?_
  refine k_region ?_
  refine m_ptr rfl rfl ?_
  refine o_call rfl rfl (nnext2 w8 r8) (fun v w9 hv => ?_)
  obtain ⟨rfl, rfl⟩ := hv
  refine m_any rfl rfl ?_
  refine o_extr rfl rfl ?_
  refine o_extr rfl rfl ?_
  refine m_int rfl rfl ?_
  refine m_int rfl rfl ?_
  refine o_nil ?_
  refine k_seq ?_
  refine k_region ?_
  refine m_int rfl rfl ?_
  refine b_eql rfl rfl ?_
  refine m_bool rfl rfl ?_
  refine o_true (t := 39) rfl (rfl) ?_
  refine g_yes rfl rfl ?_
  refine m_int rfl rfl ?_
  refine g_yes rfl rfl ?_
  refine b_eql rfl rfl ?_
  refine pick_t rfl rfl ?_
  refine m_bool rfl rfl ?_
  refine o_true (t := 43) rfl (rfl) ?_
  refine g_yes rfl rfl ?_
  refine m_int rfl rfl ?_
  refine g_yes rfl rfl ?_
  refine b_eql rfl rfl ?_
  refine pick_t rfl rfl ?_
  refine m_bool rfl rfl ?_
  refine o_true (t := 47) rfl (rfl) ?_
  refine g_yes rfl rfl ?_
  refine m_int rfl rfl ?_
  refine g_yes rfl rfl ?_
  refine b_eql rfl rfl ?_
  refine pick_t rfl rfl ?_
  refine m_bool rfl rfl ?_
  refine o_true (t := 51) rfl (rfl) ?_
  refine g_yes rfl rfl ?_
  refine m_int rfl rfl ?_
  refine g_yes rfl rfl ?_
  refine b_eql rfl rfl ?_
  refine pick_t rfl rfl ?_
  refine m_bool rfl rfl ?_
  refine o_true (t := 55) rfl (rfl) ?_
  refine g_yes rfl rfl ?_
  refine m_int rfl rfl ?_
  refine g_yes rfl rfl ?_
  refine b_eql rfl rfl ?_
  refine pick_t rfl rfl ?_
  refine m_bool rfl rfl ?_
  refine o_nil ?_
  refine k_ret (ret_tmps (ts := [2]) (v := .bool _) rfl rfl ?_)
  exact ⟨rfl, (hk5.tr hK7).tr hK8⟩
theorem nil_err {p : Option Addr} {y : Int} (h : p = none ↔ y ≠ 0) : ¬ (decide (p = none) ≠ decide (y ≠ 0)) := by
  rw [Decidable.not_not]
  exact decide_eq_decide.2 h
theorem RC.low {w w' : World} {L : List Nat} {sl : Nat → Option Addr × Nat} {g k : Nat} (h : RC w L sl) (hk : Keep [g] w w') (hg : g < k) (hs : ∀ n, n < 16 → ∀ q, (sl n).1 = some q → k ≤ q.block) : RC w' L sl :=
  h.oth hk (fun n hn _ q hq e => by have := hs n hn q hq; omega)
attribute [local irreducible] rcells
theorem makes_ok (w : World) (a : Option Addr) (c : Nat) (ls : List Int) (lone : Bool) (sym : Int) (hR : Rd w a (ls.map iv)) (hl : ls.length ≤ 17592186044416) :
    Ret Try.prog 7 [.slice a ls.length c, .bool lone, .int .i64 sym] w (fun v w' => v = .bool true ∧ Keep [] w w') := by
  refine fn_enter (n := 115) Try.func7 rfl rfl (Nat.le_of_ble_eq_true rfl) (fun e => ?_)
  refine k_seq ?_
  refine k_region ?_
  refine m_bool rfl rfl ?_
  refine o_nil ?_
  refine k_seq ?_
  refine k_seq ?_
  refine k_region ?_
  refine o_call rfl rfl (fixed5_ok w) (fun v w1 hv => ?_)
  obtain ⟨rfl, hK1⟩ := hv
  refine u_notb rfl ?_
  refine o_nil ?_
  refine k_condf rfl ?_
  refine k_skip ?_
  refine k_seq ?_
  refine k_region ?_
  refine o_bsl (E := 3) (cs := #[]) rfl (fun _ => by kernel_rfl) (fun g w2 hB2 hK2 hb2 hZ2 => ?_)
  have hk2 := hK1.tr hK2
  have hf2 : ∀ p, (some (⟨g, 0, none⟩ : Addr)) = some p → w.heap.size ≤ p.block := by intro p hp; simp at hp; subst hp; simp only; have := hK1.size; omega
  refine m_sl rfl rfl ?_
  refine o_app Try.underlying42 inf3 rfl (by decide) rfl rfl (hB2.sl (len := 0) (sz := 1) rfl (by decide)) (hR.new hk2) (by simp) (iv_one ls) (by simp [maxLen]; omega) (by omega) (fun a3 c3 w3 hS3 hK3 hv3 => ?_)
  have hk3 : Keep [] w w3 := Keep.trb hk2 hK3 hf2
  have hf3 := fresh_app hf2 hk2.size hv3
  rw [Nat.zero_add] at hS3 ⊢
  simp only [List.nil_append] at hS3
  refine m_sl rfl rfl ?_
  refine o_nil ?_
  refine k_seq ?_
  refine k_region ?_
  refine m_sl rfl rfl ?_
  refine m_bool rfl rfl ?_
  refine o_call rfl rfl (new_ok5 w3 a3 c3 ls lone hS3.rd (by omega)) (fun v w4 hv => ?_)
  obtain ⟨hK4, p, rfl, hpn, hc⟩ := hv.e
  have hk4 := hk3.tr hK4
  refine m_any rfl rfl ?_
  refine o_extr rfl rfl ?_
  refine o_extr rfl rfl ?_
  refine m_ptr rfl rfl ?_
  refine m_int rfl rfl ?_
  refine o_nil ?_
  refine k_seq ?_
  refine k_region ?_
  refine m_sl rfl rfl ?_
  refine m_bool rfl rfl ?_
  refine o_call rfl rfl (rnew_ok w4 a c ls lone (hR.new hk4) (by omega)) (fun v w5 hv => ?_)
  obtain ⟨hK5, f, ln, sl, rfl, hd⟩ := hv.e
  have hk5 := hk4.tr hK5
  obtain ⟨z62, hz62, hz62'⟩ := z62
  refine m_any rfl rfl ?_
  refine o_extr rfl rfl ?_
  refine o_extr rfl rfl ?_
  refine o_alloc (cs := rzero.toArray) hz62 hz62' (fun b w6 hB6 hK6 hb6 hZ6 => ?_)
  refine o_sta (xs := rcells f ln sl) rfl rfl (by rw [rc_len]; rfl) (rc_one _ _ _) hB6 (by rw [rc_len]; simp [rzero_len]) (fun w7 hB7 hK7 hZ7 => ?_)
  have hB7 := sta_whole hB7 (by rw [rc_len]; simp [rzero_len])
  have hk57 : Keep [] w5 w7 := hK6.tr1 hK7 (by omega)
  have hk7 := hk5.tr hk57
  have hS7 := ((hS3.new hK4).new hK5).new hk57
  have hg3 := hS3.lt
  refine m_int rfl rfl ?_
  refine o_nil ?_
  refine k_seq ?_
  refine k_seq ?_
  refine k_region ?_
  refine m_int rfl rfl ?_
  refine m_int rfl rfl ?_
  refine b_neq rfl rfl ?_
  refine m_bool rfl rfl ?_
  refine o_false (t := 42) rfl ((by simp)) ?_
  refine g_yes rfl rfl ?_
  refine m_ptr rfl rfl ?_
  refine g_yes rfl rfl ?_
  refine b_eqlp Try.underlying56 rfl rfl ?_
  refine g_yes rfl rfl ?_
  refine m_int rfl rfl ?_
  refine g_yes rfl rfl ?_
  refine b_neq rfl rfl ?_
  generalize hye : e5 ls lone = y at *
  refine g_yes rfl rfl ?_
  refine b_neqb Try.underlying4 rfl rfl ?_
  refine pick_f rfl rfl ?_
  refine o_nil ?_
  refine k_no rfl ((nil_err hpn)) ?_
  refine k_skip ?_
  refine k_seq ?_
  refine k_seq ?_
  refine k_region ?_
  refine m_sl rfl rfl ?_
  refine o_lens Try.underlying42 rfl ?_
  refine m_int rfl rfl ?_
  refine o_nil ?_
  refine k_block ?_
  refine k_loop (σ := Nat × List Int) (fun s => [(0, .slice a ls.length c), (2, .int .i64 sym), (7, .slice a3 ls.length c3), (8, .pointer p), (9, .int .i64 y), (10, .pointer (some ⟨b, 0, none⟩)), (50, .int .i64 (ls.length : Int)), (51, .int .i64 (s.1 : Int))]) (fun s w' => s.1 ≤ ls.length ∧ Sl w' 3 1 a3 ls.length c3 (s.2.map iv) ∧ (∀ j, s.1 ≤ j → s.2[j]? = ls[j]?) ∧ Blk w' b (rcells f ln sl).toArray 62 ∧ (y = 0 → (∃ r, p = some ⟨r, 0, none⟩ ∧ CodeP w' r (nats ls)) ∧ RC w' (nats ls) sl) ∧ Keep [] w w') (fun s => ls.length - s.1) (0, ls) ⟨rfl, rfl, rfl, rfl, rfl, rfl, rfl, rfl, trivial⟩ ⟨by simp, hS7, fun _ _ => rfl, hB7, fun hy => ?_, hk7⟩ (fun s e w8 hJ => ?_)
  · obtain ⟨r, hr, hC⟩ := hc hy
    exact ⟨⟨r, hr, (hC.new hK5).new hk57⟩, (hd hy).2.2.1.new hk57⟩
  obtain ⟨i, xs⟩ := s
  obtain ⟨hi, hS8, hx8, hB8, hy8, hk8⟩ := hJ
  simp only at hi hS8 hx8
  have hxl : xs.length = ls.length := by have := hS8.1; simpa using this
  refine k_seq ?_
  refine k_region ?_
  refine b_lss rfl rfl ?_
  refine o_nil ?_
  refine k_seq ?_
  refine k_cond rfl (fun h => ?_) (fun h => ?_)
  rotate_left
  ·
    refine k_exit rfl ?_
    refine k_seq ?_
    refine k_seq ?_
    refine k_region ?_
    refine m_int rfl rfl ?_
    refine b_neq rfl rfl ?_
    refine o_nil ?_
    refine k_cond rfl (fun h => ?_) (fun h => ?_)
    ·
      refine k_seq ?_
      refine k_region ?_
      refine m_bool rfl rfl ?_
      refine o_nil ?_
      refine k_ret (ret_tmps (ts := [6]) (v := .bool _) rfl rfl ?_)
      exact ⟨rfl, hk8⟩
    have hy0 : y = 0 := Decidable.not_not.1 h
    obtain ⟨⟨r, rfl, hC8⟩, hRC8⟩ := hy8 hy0
    obtain ⟨rfl, rfl, _, _⟩ := hd hy0
    obtain ⟨hL15, hkL, hlL⟩ := hC8.lens
    refine k_skip ?_
    refine k_seq ?_
    refine k_seq ?_
    refine k_region ?_
    refine m_int rfl rfl ?_
    refine o_nil ?_
    refine k_block ?_
    refine k_loop (σ := Nat) (fun k => [(0, .slice a ls.length c), (2, .int .i64 sym), (8, .pointer (some ⟨r, 0, none⟩)), (10, .pointer (some ⟨b, 0, none⟩)), (13, .int .i64 ((k : Int) - 1))]) (fun k w' => k ≤ ls.length + 2 ∧ Blk w' b (rcells (fst (nats ls)) (cnt (nats ls)) sl).toArray 62 ∧ CodeP w' r (nats ls) ∧ RC w' (nats ls) sl ∧ Keep [] w w') (fun k => ls.length + 2 - k) 0 ⟨rfl, rfl, rfl, rfl, rfl, trivial⟩ ⟨by omega, hB8, hC8, hRC8, hk8⟩ (fun k e w9 hJ => ?_)
    obtain ⟨hk', hB9, hC9, hRC9, hk9⟩ := hJ
    refine k_seq ?_
    refine k_seq ?_
    refine k_region ?_
    refine m_int rfl rfl ?_
    refine m_sl rfl rfl ?_
    refine o_lens Try.underlying42 rfl ?_
    refine b_leq rfl rfl ?_
    refine o_nil ?_
    refine k_cond rfl (fun h => ?_) (fun h => ?_)
    rotate_left
    ·
      refine k_exit rfl ?_
      refine k_seq ?_
      refine k_region ?_
      refine m_ptr rfl rfl ?_
      refine m_int rfl rfl ?_
      refine o_call rfl rfl (word_ok w9 r _ sym hC9) (fun v w10 hv => ?_)
      obtain ⟨rfl, hK10⟩ := hv
      refine m_any rfl rfl ?_
      refine o_extr rfl rfl ?_
      refine o_extr rfl rfl ?_
      refine m_int rfl rfl ?_
      refine m_int rfl rfl ?_
      refine o_nil ?_
      refine k_seq ?_
      refine k_region ?_
      refine o_lda (xs := rcells (fst (nats ls)) (cnt (nats ls)) sl) rfl rfl (by rw [rc_len]; rfl) (fun j u hj => by rw [Nat.zero_add]; exact blk_agg (hB9.keep hK10 (by simp)) hj) ?_
      refine m_int rfl rfl ?_
      refine o_call rfl rfl (rword_ok w10 _ sl sym hL15 hlL hkL (hRC9.new hK10)) (fun v w11 hv => ?_)
      obtain ⟨rfl, hK11⟩ := hv
      refine m_any rfl rfl ?_
      refine o_extr rfl rfl ?_
      refine o_extr rfl rfl ?_
      refine m_int rfl rfl ?_
      refine m_int rfl rfl ?_
      refine o_nil ?_
      refine k_seq ?_
      refine k_region ?_
      refine m_int rfl rfl ?_
      refine m_int rfl rfl ?_
      refine b_eql rfl rfl ?_
      refine m_bool rfl rfl ?_
      refine o_true (t := 110) rfl (rfl) ?_
      refine g_yes rfl rfl ?_
      refine m_int rfl rfl ?_
      refine g_yes rfl rfl ?_
      refine m_int rfl rfl ?_
      refine g_yes rfl rfl ?_
      refine b_eql rfl rfl ?_
      refine pick_t rfl rfl ?_
      refine m_bool rfl rfl ?_
      refine o_nil ?_
      refine k_ret (ret_tmps (ts := [6]) (v := .bool _) rfl rfl ?_)
      exact ⟨by simp, (hk9.tr hK10).tr hK11⟩
    refine k_skip ?_
    refine k_seq ?_
    refine k_block ?_
    refine k_seq ?_
    refine k_region ?_
    refine m_ptr rfl rfl ?_
    refine m_int rfl rfl ?_
    refine o_call rfl rfl (word_ok w9 r _ ((k : Int) - 1) hC9) (fun v w10 hv => ?_)
    obtain ⟨rfl, hK10⟩ := hv
    refine m_any rfl rfl ?_
    refine o_extr rfl rfl ?_
    refine o_extr rfl rfl ?_
    refine m_int rfl rfl ?_
    refine m_int rfl rfl ?_
    refine o_nil ?_
    refine k_seq ?_
    refine k_region ?_
    refine o_lda (xs := rcells (fst (nats ls)) (cnt (nats ls)) sl) rfl rfl (by rw [rc_len]; rfl) (fun j u hj => by rw [Nat.zero_add]; exact blk_agg (hB9.keep hK10 (by simp)) hj) ?_
    refine m_int rfl rfl ?_
    refine o_call rfl rfl (rword_ok w10 _ sl ((k : Int) - 1) hL15 hlL hkL (hRC9.new hK10)) (fun v w11 hv => ?_)
    obtain ⟨rfl, hK11⟩ := hv
    refine m_any rfl rfl ?_
    refine o_extr rfl rfl ?_
    refine o_extr rfl rfl ?_
    refine m_int rfl rfl ?_
    refine m_int rfl rfl ?_
    refine o_nil ?_
    refine k_seq ?_
    refine k_region ?_
    refine m_int rfl rfl ?_
    refine m_int rfl rfl ?_
    refine b_neq rfl rfl ?_
    refine m_bool rfl rfl ?_
    refine o_false (t := 90) rfl ((by simp)) ?_
    refine g_yes rfl rfl ?_
    refine m_int rfl rfl ?_
    refine g_yes rfl rfl ?_
    refine m_int rfl rfl ?_
    refine g_yes rfl rfl ?_
    refine b_neq rfl rfl ?_
    refine pick_f rfl rfl ?_
    refine o_nil ?_
    refine k_no rfl ((by simp)) ?_
    refine k_skip ?_
    refine k_blk ?_
    refine k_region ?_
    refine m_int rfl rfl ?_
    refine n_add rfl rfl (by omega) ?_
    refine m_int rfl rfl ?_
    refine o_nil ?_
    refine k_goal ⟨k + 1, ⟨rfl, rfl, rfl, rfl, congrArg (Value.int .i64) (by omega), trivial⟩, ⟨by omega, (hB9.keep hK10 (by simp)).keep hK11 (by simp), (hC9.new hK10).new hK11, (hRC9.new hK10).new hK11, (hk9.tr hK10).tr hK11⟩, by omega⟩
  have hil : i < ls.length := by omega
  obtain ⟨g8, cur8, rfl, hB8', hz8⟩ := hS8.blk (by omega)
  obtain ⟨b1, o1, rfl, _⟩ := hR.at i (by simpa using hil)
  have hxi : xs[i] = ls[i] := by
   have := hx8 i (Nat.le_refl _)
   rw [List.getElem?_eq_getElem (by omega), List.getElem?_eq_getElem hil] at this
   exact Option.some.inj this
  have hg8 := hg3 _ rfl
  have hg8' := hf3 _ rfl
  simp only at hg8 hg8'
  refine k_skip ?_
  refine k_seq ?_
  refine k_block ?_
  refine k_seq ?_
  refine k_region ?_
  refine m_int rfl rfl ?_
  refine m_int rfl rfl ?_
  refine o_nil ?_
  refine k_seq ?_
  refine k_seq ?_
  refine k_qk 8 rfl rfl rfl rfl rfl ?_
  refine q_step (fun w1 hC => m_sl rfl rfl (o_nil ⟨rfl, hC⟩)) ?_
  refine q_step (fun w1 hC => m_int rfl rfl (o_nil ⟨rfl, hC⟩)) ?_
  refine q_step (fun w1 hC => o_ixs1 Try.underlying42 rfl rfl rfl (by omega) (o_nil ⟨rfl, hC⟩)) ?_
  refine q_step (fun w1 hC => o_ld rfl rfl ((hS8.new hC).rd.cellK (Keep.refl _ _) (iv_at xs i (by omega))) (o_nil ⟨rfl, hC⟩)) ?_
  refine q_step (fun w1 hC => m_sl rfl rfl (o_nil ⟨rfl, hC⟩)) ?_
  refine q_step (fun w1 hC => m_int rfl rfl (o_nil ⟨rfl, hC⟩)) ?_
  refine q_step (fun w1 hC => o_ixs1 Try.underlying42 rfl rfl rfl (by omega) (o_nil ⟨rfl, hC⟩)) ?_
  refine q_step (fun w1 hC => o_ld rfl rfl (hR.cellK (hk8.tr hC) (iv_at ls i hil)) (o_nil ⟨rfl, hC⟩)) ?_
  refine q_nil ?_
  intro w9 hC9
  refine b_neq rfl rfl ?_
  refine o_nil ?_
  refine k_no rfl ((by simp [hxi])) ?_
  refine k_skip ?_
  refine k_region ?_
  refine m_sl rfl rfl ?_
  refine m_int rfl rfl ?_
  refine o_ixs1 Try.underlying42 rfl rfl rfl (by omega) ?_
  refine o_st (v := .int _ _) rfl rfl rfl rfl (hB8'.keep hC9 (by simp)) (by omega) (fun w10 hB10 hK10 hZ10 => ?_)
  have hS10 := (hS8.new hC9).set (by omega) (hB8'.keep hC9 (by simp)) hB10
  have e10 : (xs.map iv).set i (.int .i64 3) = (xs.set i 3).map iv := by rw [List.map_set]; rfl
  rw [e10] at hS10
  have hk810 : Keep [g8] w8 w10 := hC9.also.trans hK10 (fun _ h _ => h)
  refine o_nil ?_
  refine k_blk ?_
  refine k_region ?_
  refine n_add rfl rfl (by omega) ?_
  refine m_int rfl rfl ?_
  refine o_nil ?_
  refine k_goal ⟨(i + 1, xs.set i 3), ⟨rfl, rfl, rfl, rfl, rfl, rfl, rfl, rfl, trivial⟩, ⟨by simp only; omega, hS10, ?_, hB8.keep hk810 (by simp; have := hk5.size; have := hK4.size; have := hK5.size; omega), fun hy => ?_, hk8.trans hk810 (by intro q hq hl; simp at hq; omega)⟩, by simp only; omega⟩
  · intro j hj
    simp only at hj ⊢
    rw [List.getElem?_set_ne (by omega)]
    exact hx8 j (by omega)
  · obtain ⟨⟨r, hr, hC⟩, hRC⟩ := hy8 hy
    exact ⟨⟨r, hr, hC.kt (Ts := [3]) (k := 0) (hk810.t1 (Nat.zero_le _) hB8' (by simp)) (by decide)⟩, hRC.low hk810 (show g8 < w4.heap.size by have := hK4.size; omega) (fun n hn q hq => ((hd hy).2.2.2 n hn q hq).1)⟩
end Go.Proofs.Ytpmlhlefhmgpfaa
