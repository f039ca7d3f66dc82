/- The heap in memory; New, Used, lay. No condition beyond what each contract names. -/
import Derived.Test.YtchbidckckmobaaDoorHa
namespace Go.Proofs.YtchbidckckmobaaDoor
open Go.RowKit E
set_option linter.unusedVariables false
set_option linter.unusedSimpArgs false
set_option maxRecDepth 100000
attribute [local irreducible] ow qw kw kq cw opW Ret
theorem inf2 : infB Tryd.prog 2 1 8 (.int .i64 0) := ⟨_, rfl, rfl, rfl, rfl⟩
/-- a heap in memory, all of it at or above k -/
def HP (k : Nat) (w : World) (hb : Nat) (ws : List Int) (lim : Int) (L : List Int) : Prop :=
  ∃ a c r m, Blk w hb #[.slice a ws.length c, iv lim, .map (some r)] 108 ∧ Sl w 2 1 a ws.length c (ws.map iv) ∧ Mp w r (Value.int .i64) m ∧ (∀ x : Int, getM m x = if x ∈ L then some (.bool true) else none) ∧ k ≤ hb ∧ k ≤ r ∧ ∀ z, a = some z → k ≤ z.block
theorem HP.new {k : Nat} {w w' : World} {hb : Nat} {ws : List Int} {lim : Int} {L : List Int} (h : HP k w hb ws lim L) (hK : Keep [] w w') : HP k w' hb ws lim L := by
  obtain ⟨a, c, r, m, h1, h2, h3, h4⟩ := h
  exact ⟨a, c, r, m, h1.keep hK (by simp), h2.new hK, h3.keep hK (by simp), h4⟩
/-- a heap is turned, and nothing else -/
def KeepH (k : Nat) (w w' : World) : Prop := ∃ S, Keep S w w' ∧ ∀ b ∈ S, k ≤ b ∧ (b < w.heap.size → (∃ cs T, (T = 2 ∨ T = 108) ∧ Blk w b cs T) ∨ ∃ es ck, w.heap[b]? = some (.map es ck))
theorem E.Keep.h {k : Nat} {w w' : World} (h : Keep [] w w') : KeepH k w w' := ⟨[], h, by simp⟩
theorem E.Keep.hb {k b : Nat} {w w' : World} {cs : Array Value} {T : TypeId} (h : Keep [b] w w') (hB : Blk w b cs T) (hT : T = 2 ∨ T = 108) (hk : k ≤ b) : KeepH k w w' :=
  ⟨[b], h, fun b' hb' => by simp at hb'; subst hb'; exact ⟨hk, fun _ => .inl ⟨cs, T, hT, hB⟩⟩⟩
theorem E.Keep.hs {k : Nat} {w w' : World} {a : Option Addr} {m c : Nat} {xs : List Value} (h : Keep (blkOf a) w w') (hS : Sl w 2 1 a m c xs) (hk : ∀ z, a = some z → k ≤ z.block) : KeepH k w w' := by
  refine ⟨_, h, fun b hb => ?_⟩
  rcases hS.2 with ⟨rfl, _⟩ | ⟨g, cur, rfl, hB, _⟩
  · simp [blkOf] at hb
  · simp [blkOf] at hb
    subst hb
    exact ⟨hk _ rfl, fun _ => .inl ⟨cur, 2, .inl rfl, hB⟩⟩
theorem E.Keep.hm {κ : Type} {k r : Nat} {w w' : World} {kv : κ → Value} {m : List (κ × Value)} (h : Keep [r] w w') (hM : Mp w r kv m) (hk : k ≤ r) : KeepH k w w' :=
  ⟨[r], h, fun b hb => by
    simp at hb; subst hb
    obtain ⟨es, ck, h1, _⟩ := hM.obj
    exact ⟨hk, fun _ => .inr ⟨es, ck, h1⟩⟩⟩
theorem KeepH.tr {k : Nat} {w w1 w2 : World} (h : KeepH k w w1) (h' : KeepH k w1 w2) : KeepH k w w2 := by
  obtain ⟨S, a1, a2⟩ := h
  obtain ⟨S', b1, b2⟩ := h'
  refine ⟨S ++ S', (a1.mono (by simp +contextual)).trans b1 (by simp +contextual), fun b hb => ?_⟩
  by_cases hS : b ∈ S
  · exact a2 b hS
  · have hb' : b ∈ S' := (List.mem_append.1 hb).resolve_left hS
    refine ⟨(b2 b hb').1, fun hl => ?_⟩
    have he := a1.block b hl hS
    have := (b2 b hb').2 (Nat.lt_of_lt_of_le hl a1.size)
    unfold Blk at this ⊢
    rw [he] at this
    exact this
theorem KeepH.size {k : Nat} {w w' : World} (h : KeepH k w w') : w.heap.size ≤ w'.heap.size := by obtain ⟨S, h1, _⟩ := h; exact h1.size
theorem KeepH.below {k : Nat} {w0 w w' : World} (h : KeepH k w w') (h0 : Keep [] w0 w) (hk : w0.heap.size ≤ k) : Keep [] w0 w' := by
  obtain ⟨S, h1, h2⟩ := h
  exact h0.trans h1 (fun b hb hl => by have := (h2 b hb).1; omega)
theorem KeepH.not {k : Nat} {w w' : World} {b : Nat} {cs : Array Value} {T : TypeId} {S : List Nat} (h2 : ∀ b ∈ S, k ≤ b ∧ (b < w.heap.size → (∃ cs T, (T = 2 ∨ T = 108) ∧ Blk w b cs T) ∨ ∃ es ck, w.heap[b]? = some (.map es ck))) (hB : Blk w b cs T) (hT : ¬ (T = 2 ∨ T = 108)) : b ∉ S := by
  intro hb
  rcases (h2 b hb).2 hB.lt with ⟨cs', T', hT', hB'⟩ | ⟨es, ck, hh⟩
  · rw [hB.ty hB'] at hT; exact hT hT'
  · unfold Blk at hB
    rw [hB] at hh; cases hh
theorem E.Blk.kh {k : Nat} {w w' : World} {b : Nat} {cs : Array Value} {T : TypeId} (hB : Blk w b cs T) (h : KeepH k w w') (hT : ¬ (T = 2 ∨ T = 108)) : Blk w' b cs T := by
  obtain ⟨S, h1, h2⟩ := h
  exact hB.keep h1 (KeepH.not (w' := w') h2 hB hT)
theorem E.Sl.kh {k : Nat} {w w' : World} {E : TypeId} {sz m c : Nat} {a : Option Addr} {xs : List Value} (hS : Sl w E sz a m c xs) (h : KeepH k w w') (hT : ¬ (E = 2 ∨ E = 108)) : Sl w' E sz a m c xs := by
  obtain ⟨S, h1, h2⟩ := h
  refine hS.keep h1 fun z hz hm => ?_
  rcases hS.2 with ⟨h0, _⟩ | ⟨g, cur, h0, hB, _⟩
  · rw [h0] at hz; cases hz
  · rw [h0] at hz; cases hz
    exact KeepH.not (w' := w') h2 hB hT hm
theorem E.Rd.kh {k : Nat} {w w' : World} {a : Option Addr} {xs : List Value} (hR : Rd w a xs) (h : KeepH k w w') (ha : xs ≠ [] → ∀ z, a = some z → z.block < k) : Rd w' a xs := by
  obtain ⟨S, h1, h2⟩ := h
  exact hR.keepN h1 fun hn z hz hm => by have := ha hn z hz; have := (h2 _ hm).1; omega
theorem hnew_ok (w : World) (lim : Int) : Ret Tryd.prog 28 [.int .i64 lim] w (fun v w' => Keep [] w w' ∧ if 0 ≤ lim ∧ lim ≤ 65536 then ∃ hb, v = .tuple #[.pointer (some ⟨hb, 0, none⟩), .int .i64 0] ∧ HP w.heap.size w' hb [0] lim [] else v = .tuple #[.pointer none, .int .i64 1]) := by
  refine fn_enter (n := 15) Tryd.func28 rfl rfl (Nat.le_of_ble_eq_true rfl) (fun e => ?_)
  refine k_seq ?_
  refine k_region ?_
  refine m_ptr rfl rfl ?_
  refine m_int rfl rfl ?_
  refine o_nil ?_
  refine k_seq ?_
  refine k_seq ?_
  refine k_region ?_
  refine m_int rfl rfl ?_
  refine b_lss rfl rfl ?_
  refine m_bool rfl rfl ?_
  refine o_split (t := 6) rfl (fun h => ?_) (fun h => ?_)
  ·
    refine g_no rfl rfl rfl ?_
    refine g_no rfl rfl rfl ?_
    refine pick_t rfl rfl ?_
    refine o_nil ?_
    refine k_condt rfl ?_
    refine k_seq ?_
    refine k_region ?_
    refine m_ptr rfl rfl ?_
    refine m_int rfl rfl ?_
    refine o_nil ?_
    refine k_ret (ret_tmps (ts := [2, 3]) (v := .tuple #[.pointer _, .int _ _]) rfl rfl ?_)
    exact ⟨Keep.refl _ _, by rw [if_neg (by omega)]⟩
  ·
    have h6 := h
    refine g_yes rfl rfl ?_
    refine m_int rfl rfl ?_
    refine g_yes rfl rfl ?_
    refine b_gtr rfl rfl ?_
    refine pick_f rfl rfl ?_
    refine o_nil ?_
    refine k_cond rfl (fun h => ?_) (fun h => ?_)
    ·
      refine k_seq ?_
      refine k_region ?_
      refine m_ptr rfl rfl ?_
      refine m_int rfl rfl ?_
      refine o_nil ?_
      refine k_ret (ret_tmps (ts := [2, 3]) (v := .tuple #[.pointer _, .int _ _]) rfl rfl ?_)
      exact ⟨Keep.refl _ _, by rw [if_neg (by omega)]⟩
    refine k_skip ?_
    refine k_seq ?_
    refine k_region ?_
    refine o_bsl (E := 2) (cs := #[iv 0]) rfl (fun _ => by kernel_rfl) (fun g w1 hB1 hK1 hb1 hZ1 => ?_)
    refine m_int rfl rfl ?_
    refine o_mkmap (Value.int .i64) (fun r w2 hM2 hK2 hb2 hZ2 => ?_)
    refine o_build (v := .agg #[.slice (some ⟨g, 0, none⟩) 1 1, iv lim, .map (some r)]) rfl (fun _ => by kernel_rfl) ?_
    refine o_box rfl rfl (fun hb w3 hB3 hK3 hb3 hZ3 => ?_)
    refine m_ptr rfl rfl ?_
    refine m_int rfl rfl ?_
    refine o_nil ?_
    refine k_ret (ret_tmps (ts := [2, 3]) (v := .tuple #[.pointer _, .int _ _]) rfl rfl ?_)
    refine ⟨(hK1.tr hK2).tr hK3, ?_⟩
    rw [if_pos (by omega)]
    exact ⟨hb, rfl, some ⟨g, 0, none⟩, 1, r, [], hB3, ((hB1.keep hK2 (by simp)).keep hK3 (by simp)).sl (len := 1) (sz := 1) rfl (by decide), hM2.keep hK3 (by simp), fun x => by simp [getM_nil], by omega, by omega, by intro z hz; cases hz; simp; omega⟩
theorem used_ok (k : Nat) (w : World) (hb : Nat) (ws : List Int) (lim : Int) (L : List Int) (h : HP k w hb ws lim L) (hl : ws.length ≤ 65537) :
    Ret Tryd.prog 33 [.pointer (some ⟨hb, 0, none⟩)] w (fun v w' => v = .int .i64 ((ws.length : Int) - 1) ∧ w' = w) := by
  obtain ⟨a, c, r, m, hB, hS, hM, hg, hk⟩ := h
  refine fn_enter (n := 11) Tryd.func33 rfl rfl (Nat.le_of_ble_eq_true rfl) (fun e => ?_)
  refine k_seq ?_
  refine k_region ?_
  refine m_int rfl rfl ?_
  refine o_nil ?_
  refine k_seq ?_
  refine k_seq ?_
  refine k_region ?_
  refine m_ptr rfl rfl ?_
  refine b_eqlp Tryd.underlying41 rfl rfl ?_
  refine o_nil ?_
  refine k_no rfl ((by intro h; cases h)) ?_
  refine k_skip ?_
  refine k_seq ?_
  refine k_region ?_
  refine m_ptr rfl rfl ?_
  refine o_nilc rfl ?_
  refine o_fld0 rfl rfl ?_
  refine o_ld (v := .slice a ws.length c) rfl rfl (hB.at rfl) ?_
  refine o_lens Tryd.underlying22 rfl ?_
  refine n_sub rfl rfl (by omega) ?_
  refine m_int rfl rfl ?_
  refine o_nil ?_
  refine k_ret (ret_tmps (ts := [2]) (v := .int _ _) rfl rfl ?_)
  exact ⟨rfl, rfl⟩
def layH (ws L : List Int) (lim kind cl n mask : Int) : Int × Int × List Int × List Int :=
  if n < 0 ∨ ¬ (0 ≤ cl ∧ cl ≤ 65535) then (0, 1, ws, L)
  else if lim - ((ws.length : Int) - 1) ≤ n then (0, 27, ws, L)
  else if (headW kind cl n mask).2 ≠ 0 then (0, (headW kind cl n mask).2, ws, L)
  else ((ws.length : Int), 0, ws ++ (headW kind cl n mask).1 :: List.replicate n.toNat 0, L ++ [(ws.length : Int)])
theorem head_rng (kind cl n mask : Int) : -9223372036854775808 ≤ (headW kind cl n mask).1 ∧ (headW kind cl n mask).1 ≤ 9223372036854775807 := by
  by_cases h : hOk kind cl n mask
  · rw [head_yes h]
    obtain ⟨h1, h2, h3, h4, h5, h6, h7, h8⟩ := h
    by_cases hk : kind = 1
    · obtain ⟨h9, h10, h11⟩ := h8 hk
      have hp := ipow32 n.toNat (by omega)
      simp only
      omega
    · have := h7 hk
      simp only
      omega
  · rw [head_no h]; decide
/-- what a call leaves of a heap -/
def HRes (k : Nat) (w : World) (hb : Nat) (lim : Int) (w' : World) (ws L : List Int) : Prop := HP k w' hb ws lim L ∧ WFH ws L ∧ (ws.length : Int) ≤ lim + 1 ∧ KeepH k w w'
theorem lay_ok (k : Nat) (w : World) (hb : Nat) (ws : List Int) (lim : Int) (L : List Int) (kind cl n mask : Int) (h : HP k w hb ws lim L) (hW : WFH ws L) (hlim : lim ≤ 65536) (hu : (ws.length : Int) ≤ lim + 1) (hkw : k ≤ w.heap.size)
    (hcl : -9223372036854775808 ≤ cl ∧ cl ≤ 9223372036854775807) (hn : -9223372036854775808 ≤ n ∧ n ≤ 9223372036854775807) (hm : -9223372036854775808 ≤ mask ∧ mask ≤ 9223372036854775807) :
    Ret Tryd.prog 67 [.pointer (some ⟨hb, 0, none⟩), .int .i64 kind, .int .i64 cl, .int .i64 n, .int .i64 mask] w (fun v w' => v = .tuple #[.int .i64 (layH ws L lim kind cl n mask).1, .int .i64 (layH ws L lim kind cl n mask).2.1] ∧ HRes k w hb lim w' (layH ws L lim kind cl n mask).2.2.1 (layH ws L lim kind cl n mask).2.2.2) := by
  have hHP := h
  obtain ⟨a, c, r, m, hB, hS, hM, hg, hk1, hk2, hk3⟩ := h
  have hlen := hW.len
  refine fn_enter (n := 67) Tryd.func67 rfl rfl (Nat.le_of_ble_eq_true rfl) (fun e => ?_)
  refine k_seq ?_
  refine k_region ?_
  refine m_int rfl rfl ?_
  refine m_int rfl rfl ?_
  refine o_nil ?_
  refine k_seq ?_
  refine k_seq ?_
  refine k_region ?_
  refine m_ptr rfl rfl ?_
  refine b_eqlp Tryd.underlying41 rfl rfl ?_
  refine m_bool rfl rfl ?_
  refine o_false (t := 17) rfl ((by intro h; cases h)) ?_
  refine g_yes rfl rfl ?_
  refine m_int rfl rfl ?_
  refine g_yes rfl rfl ?_
  refine b_lss rfl rfl ?_
  refine pick_f rfl rfl ?_
  refine o_nil ?_
  refine k_cond rfl (fun h => ?_) (fun h => ?_)
  ·
    refine k_seq ?_
    refine k_region ?_
    refine m_int rfl rfl ?_
    refine m_int rfl rfl ?_
    refine o_nil ?_
    refine k_ret (ret_tmps (ts := [10, 11]) (v := .tuple #[.int _ _, .int _ _]) rfl rfl ?_)
    have e : layH ws L lim kind cl n mask = (0, 1, ws, L) := if_pos (.inl (by omega))
    rw [e]; exact ⟨rfl, hHP, hW, hu, (Keep.refl [] w).h⟩
  have hn0 : 0 ≤ n := by omega
  refine k_skip ?_
  refine k_seq ?_
  refine k_seq ?_
  refine k_region ?_
  refine m_int rfl rfl ?_
  refine cv64 rfl Tryd.underlying49 rfl ?_
  refine b_gtr rfl rfl ?_
  refine o_nil ?_
  refine k_cond (p := ¬ (0 ≤ cl ∧ cl ≤ 65535)) (congrArg Value.bool (decide_eq_decide.2 (by rw [ofZ]; omega))) (fun h => ?_) (fun h => ?_)
  ·
    refine k_seq ?_
    refine k_region ?_
    refine m_int rfl rfl ?_
    refine m_int rfl rfl ?_
    refine o_nil ?_
    refine k_ret (ret_tmps (ts := [10, 11]) (v := .tuple #[.int _ _, .int _ _]) rfl rfl ?_)
    have e : layH ws L lim kind cl n mask = (0, 1, ws, L) := if_pos (.inr h)
    rw [e]; exact ⟨rfl, hHP, hW, hu, (Keep.refl [] w).h⟩
  have hc0 : 0 ≤ cl ∧ cl ≤ 65535 := Decidable.of_not_not h
  refine k_skip ?_
  refine k_seq ?_
  refine k_seq ?_
  refine k_qk 8 rfl rfl rfl rfl rfl ?_
  refine q_step (fun w1 hC => m_int rfl rfl (o_nil ⟨rfl, hC⟩)) ?_
  refine q_step (fun w1 hC => m_ptr rfl rfl (o_nil ⟨rfl, hC⟩)) ?_
  refine q_step (fun w1 hC => o_nilc rfl (o_nil ⟨rfl, hC⟩)) ?_
  refine q_step (fun w1 hC => o_fld (off := 1) rfl rfl (o_nil ⟨rfl, hC⟩)) ?_
  refine q_step (fun w1 hC => o_ld (v := iv lim) rfl rfl (hB.kat hC rfl) (o_nil ⟨rfl, hC⟩)) ?_
  refine q_step (fun w1 hC => m_ptr rfl rfl (o_nil ⟨rfl, hC⟩)) ?_
  refine q_step (v := .int .i64 ((ws.length : Int) - 1)) (fun w1 hC => o_call rfl rfl (used_ok k w1 hb ws lim L (hHP.new hC) hlen) (fun v w2 hv => by obtain ⟨rfl, rfl⟩ := hv; exact o_nil ⟨rfl, hC⟩)) ?_
  refine q_step (fun w1 hC => n_sub rfl rfl (by omega) (o_nil ⟨rfl, hC⟩)) ?_
  refine q_nil ?_
  intro w1 hC1
  have hHP1 := hHP.new hC1
  refine b_geq rfl rfl ?_
  refine o_nil ?_
  refine k_cond rfl (fun h => ?_) (fun h => ?_)
  ·
    refine k_seq ?_
    refine k_region ?_
    refine m_int rfl rfl ?_
    refine m_int rfl rfl ?_
    refine o_nil ?_
    refine k_ret (ret_tmps (ts := [10, 11]) (v := .tuple #[.int _ _, .int _ _]) rfl rfl ?_)
    have e : layH ws L lim kind cl n mask = (0, 27, ws, L) := by unfold layH; rw [if_neg (by omega), if_pos (by omega)]
    rw [e]; exact ⟨rfl, hHP1, hW, hu, hC1.h⟩
  have hroom : ¬ lim - ((ws.length : Int) - 1) ≤ n := by omega
  refine k_skip ?_
  refine k_seq ?_
  refine k_region ?_
  refine m_int rfl rfl ?_
  refine m_int rfl rfl ?_
  refine m_int rfl rfl ?_
  refine m_int rfl rfl ?_
  refine o_call rfl rfl (head_ok w1 kind cl n mask hcl hn hm) (fun v w2 hv => ?_)
  obtain ⟨rfl, rfl⟩ := hv
  refine m_any rfl rfl ?_
  refine o_extr rfl rfl ?_
  refine o_extr rfl rfl ?_
  refine m_int rfl rfl ?_
  refine m_int rfl rfl ?_
  refine o_nil ?_
  refine k_seq ?_
  refine k_seq ?_
  refine k_region ?_
  refine m_int rfl rfl ?_
  refine b_neq rfl rfl ?_
  refine o_nil ?_
  refine k_cond rfl (fun h => ?_) (fun h => ?_)
  ·
    refine k_seq ?_
    refine k_region ?_
    refine m_int rfl rfl ?_
    refine m_int rfl rfl ?_
    refine m_int rfl rfl ?_
    refine o_nil ?_
    refine k_ret (ret_tmps (ts := [10, 11]) (v := .tuple #[.int _ _, .int _ _]) rfl rfl ?_)
    have e : layH ws L lim kind cl n mask = (0, (headW kind cl n mask).2, ws, L) := by unfold layH; rw [if_neg (by omega), if_neg hroom, if_pos h]
    rw [e]; exact ⟨rfl, hHP1, hW, hu, hC1.h⟩
  have he0 : (headW kind cl n mask).2 = 0 := Decidable.of_not_not h
  have hoh := head_open kind cl n mask he0
  have e : layH ws L lim kind cl n mask = ((ws.length : Int), 0, ws ++ (headW kind cl n mask).1 :: List.replicate n.toNat 0, L ++ [(ws.length : Int)]) := by unfold layH; rw [if_neg (by omega), if_neg hroom, if_neg h]
  obtain ⟨hd, hhd⟩ : ∃ hd, (headW kind cl n mask).1 = hd := ⟨_, rfl⟩
  have hdr := head_rng kind cl n mask
  rw [hhd] at e hoh hdr
  rw [hhd]
  have hB1 := hB.keep hC1 (by simp)
  have hS1 := hS.new hC1
  have hM1 := hM.keep hC1 (by simp)
  have hnn : (n.toNat : Int) = n := by omega
  refine k_skip ?_
  refine k_seq ?_
  refine k_region ?_
  refine m_ptr rfl rfl ?_
  refine o_nilc rfl ?_
  refine o_fld0 rfl rfl ?_
  refine o_ld (v := .slice a ws.length c) rfl rfl (hB1.at rfl) ?_
  refine o_lens Tryd.underlying22 rfl ?_
  refine m_int rfl rfl ?_
  refine o_nil ?_
  refine k_seq ?_
  refine k_region ?_
  refine m_ptr rfl rfl ?_
  refine m_ptr rfl rfl ?_
  refine o_nilc rfl ?_
  refine o_fld0 rfl rfl ?_
  refine o_ld (v := .slice a ws.length c) rfl rfl (hB1.at rfl) ?_
  refine m_int rfl rfl ?_
  refine o_bsl (E := 2) (cs := #[iv hd]) rfl (fun _ => by kernel_rfl) (fun g3 w3 hB3 hK3 hb3 hZ3 => ?_)
  refine o_app Tryd.underlying22 inf2 rfl (by decide) rfl rfl (hS1.new hK3) hB3.rd rfl (by simp [iv, Value.oneCell']) (by simp [maxLen]; omega) (by omega) (fun a4 c4 w4 hS4 hK4 hv4 => ?_)
  have hf4 := fresh_app (k := k) (w := w3) (w' := w4) (a := a) (a2 := a4) hk3 (by have := hC1.size; omega) hv4
  obtain ⟨g4, cur4, ha4, hB4, hs4⟩ := hS4.blk (by omega)
  subst ha4
  have hS13 := hS1.new hK3
  have hH4 : KeepH k w2 w4 := hK3.h.tr (hK4.hs hS13 hk3)
  have hBh4 : Blk w4 hb #[.slice a ws.length c, iv lim, .map (some r)] 108 := (hB1.keep hK3 (by simp)).keep hK4 (hS13.notin (hB1.keep hK3 (by simp)) (by decide))
  have hMp4 : Mp w4 r (Value.int .i64) m := (hM1.keep hK3 (by simp)).keep hK4 (sl_mp hS13 (hM1.keep hK3 (by simp)))
  refine m_int rfl rfl ?_
  refine o_ext (k := n.toNat) Tryd.underlying22 Tryd.underlying3 inf2 rfl rfl rfl (congrArg (Value.int .i64) hnn.symm) hS4 (by simp [maxLen]; omega) (by omega) (fun a5 c5 w5 hS5 hK5 hv5 => ?_)
  have hf5 := fresh_app (k := k) (w := w4) (w' := w5) (a := some ⟨g4, 0, none⟩) (a2 := a5) hf4 (by have := hH4.size; have := hC1.size; omega) hv5
  have hH5 : KeepH k w2 w5 := hH4.tr (Keep.hb hK5 hB4 (.inl rfl) (hf4 _ rfl))
  have hBh5 : Blk w5 hb #[.slice a ws.length c, iv lim, .map (some r)] 108 := hBh4.keep hK5 (hS4.notin hBh4 (by decide))
  have hMp5 : Mp w5 r (Value.int .i64) m := hMp4.keep hK5 (sl_mp hS4 hMp4)
  have hcells : ws.map iv ++ [iv hd] ++ List.replicate n.toNat (Value.int .i64 0) = (ws ++ hd :: List.replicate n.toNat 0).map iv := by simp [iv]
  have hlw : (ws ++ hd :: List.replicate n.toNat 0).length = ws.length + 1 + n.toNat := by simp; omega
  refine o_nilc rfl ?_
  refine o_fld0 rfl rfl ?_
  refine o_st (v := .slice a5 (ws.length + 1 + n.toNat) c5) rfl rfl rfl rfl hBh5 (show 0 < 3 by decide) (fun w6 hB6 hK6 hZ6 => ?_)
  have hB6' : Blk w6 hb #[.slice a5 (ws.length + 1 + n.toNat) c5, iv lim, .map (some r)] 108 := hB6
  have hMp6 : Mp w6 r (Value.int .i64) m := hMp5.keep hK6 (by intro hm; simp at hm; subst hm; exact hMp5.blk hBh5 rfl)
  have hS6 : Sl w6 2 1 a5 (ws.length + 1 + n.toNat) c5 (ws.map iv ++ [iv hd] ++ List.replicate n.toNat (Value.int .i64 0)) := hS5.keep hK6 (hS5.off hBh5 (by decide))
  have hH6 : KeepH k w2 w6 := hH5.tr (Keep.hb hK6 hBh5 (.inr rfl) hk1)
  refine o_nil ?_
  refine k_seq ?_
  refine k_region ?_
  refine m_ptr rfl rfl ?_
  refine o_nilc rfl ?_
  refine o_fld (off := 2) rfl rfl ?_
  refine o_ld (v := .map (some r)) rfl rfl (hB6'.at rfl) ?_
  refine m_int rfl rfl ?_
  refine o_mput (kv := Value.int .i64) (q := (ws.length : Int)) (v := .bool true) Tryd.underlying104 (key_int Tryd.underlying2) rfl rfl rfl hMp6 (.inl rfl) (fun w7 hM7 hK7 hZ7 => ?_)
  have hB7 : Blk w7 hb #[.slice a5 (ws.length + 1 + n.toNat) c5, iv lim, .map (some r)] 108 := hB6'.keep hK7 (by intro hm; simp at hm; subst hm; exact hMp6.blk hB6' rfl)
  have hS7 := hS6.keep hK7 (fun z hz hm => by simp at hm; exact sl_mp hS6 hMp6 (by rw [← hm]; cases a5 with | none => cases hz | some y => cases hz; simp [blkOf]))
  have hH7 : KeepH k w w7 := hC1.h.tr (hH6.tr (Keep.hm hK7 hMp6 hk2))
  refine o_nil ?_
  refine k_seq ?_
  refine k_region ?_
  refine m_int rfl rfl ?_
  refine m_int rfl rfl ?_
  refine m_int rfl rfl ?_
  refine o_nil ?_
  refine k_ret (ret_tmps (ts := [10, 11]) (v := .tuple #[.int _ _, .int _ _]) rfl rfl ?_)
  rw [e]
  refine ⟨rfl, ⟨a5, c5, r, _, ?_, ?_, hM7, fun x => ?_, hk1, hk2, hf5⟩, hW.app (by rw [hoh]) (by rw [hoh]; exact hnn.symm) hdr (by omega), by rw [hlw]; omega, hH7⟩
  · rw [hlw]; exact hB7
  · rw [hlw, ← hcells]; exact hS7
  · rw [getM_put, hg x]
    by_cases hx : x = (ws.length : Int)
    · rw [if_pos hx, if_pos (by simp [hx])]
    · rw [if_neg hx]; simp [hx]
end Go.Proofs.YtchbidckckmobaaDoor
