/- The heap's Array, Look, cell, Get, Set. No condition beyond what each contract names. -/
import Derived.Test.YtchbidckckmobaaDoorHb
namespace Go.Proofs.YtchbidckckmobaaDoor
open Go.RowKit E
set_option linter.unusedVariables false
set_option linter.unusedSimpArgs false
set_option maxRecDepth 100000
attribute [local irreducible] ow qw kw kq cw opW Ret
theorem harray_ok (k : Nat) (w : World) (hb : Nat) (ws : List Int) (lim : Int) (L : List Int) (cl n : Int) (rf : Bool) (h : HP k w hb ws lim L) (hW : WFH ws L) (hlim : lim ≤ 65536) (hu : (ws.length : Int) ≤ lim + 1) (hkw : k ≤ w.heap.size)
    (hcl : -9223372036854775808 ≤ cl ∧ cl ≤ 9223372036854775807) (hn : -9223372036854775808 ≤ n ∧ n ≤ 9223372036854775807) :
    Ret Tryd.prog 29 [.pointer (some ⟨hb, 0, none⟩), .int .i64 cl, .bool rf, .int .i64 n] w (fun v w' => v = .tuple #[.int .i64 (layH ws L lim (if rf then 3 else 2) cl n 0).1, .int .i64 (layH ws L lim (if rf then 3 else 2) cl n 0).2.1] ∧ HRes k w hb lim w' (layH ws L lim (if rf then 3 else 2) cl n 0).2.2.1 (layH ws L lim (if rf then 3 else 2) cl n 0).2.2.2) := by
  refine fn_enter (n := 23) Tryd.func29 rfl rfl (Nat.le_of_ble_eq_true rfl) (fun e => ?_)
  refine k_seq ?_
  refine k_region ?_
  refine m_int rfl rfl ?_
  refine m_int rfl rfl ?_
  refine o_nil ?_
  refine k_seq ?_
  refine k_seq ?_
  refine k_region ?_
  refine m_bool rfl rfl ?_
  refine o_nil ?_
  refine k_condb rfl (fun h => ?_) (fun h => ?_)
  ·
    subst h
    refine k_seq ?_
    refine k_region ?_
    refine m_ptr rfl rfl ?_
    refine m_int rfl rfl ?_
    refine m_int rfl rfl ?_
    refine o_call rfl rfl (lay_ok k w hb ws lim L 3 cl n 0 h hW hlim hu hkw hcl hn (by omega)) (fun v w1 hv => ?_)
    obtain ⟨rfl, hr⟩ := hv
    refine o_extr rfl rfl ?_
    refine o_extr rfl rfl ?_
    refine m_int rfl rfl ?_
    refine m_int rfl rfl ?_
    refine o_nil ?_
    refine k_ret (ret_tmps (ts := [8, 9]) (v := .tuple #[.int _ _, .int _ _]) rfl rfl ?_)
    exact ⟨rfl, hr⟩
  subst h
  refine k_skip ?_
  refine k_seq ?_
  refine k_region ?_
  refine m_ptr rfl rfl ?_
  refine m_int rfl rfl ?_
  refine m_int rfl rfl ?_
  refine o_call rfl rfl (lay_ok k w hb ws lim L 2 cl n 0 h hW hlim hu hkw hcl hn (by omega)) (fun v w1 hv => ?_)
  obtain ⟨rfl, hr⟩ := hv
  refine o_extr rfl rfl ?_
  refine o_extr rfl rfl ?_
  refine m_int rfl rfl ?_
  refine m_int rfl rfl ?_
  refine o_nil ?_
  refine k_ret (ret_tmps (ts := [8, 9]) (v := .tuple #[.int _ _, .int _ _]) rfl rfl ?_)
  exact ⟨rfl, hr⟩
def lookH (ws L : List Int) (p : Int) : Int × Int × Int × Int :=
  if p ∈ L then ((openW (ws.getD p.toNat 0)).1, (openW (ws.getD p.toNat 0)).2.1, (openW (ws.getD p.toNat 0)).2.2.1, (openW (ws.getD p.toNat 0)).2.2.2.2) else (0, 0, 0, 21)
theorem look_in {ws L : List Int} {p : Int} (h : p ∈ L) : lookH ws L p = ((openW (ws.getD p.toNat 0)).1, (openW (ws.getD p.toNat 0)).2.1, (openW (ws.getD p.toNat 0)).2.2.1, (openW (ws.getD p.toNat 0)).2.2.2.2) := if_pos h
theorem look_out {ws L : List Int} {p : Int} (h : p ∉ L) : lookH ws L p = (0, 0, 0, 21) := if_neg h
theorem look_ok (k : Nat) (w : World) (hb : Nat) (ws : List Int) (lim : Int) (L : List Int) (p : Int) (h : HP k w hb ws lim L) (hW : WFH ws L) :
    Ret Tryd.prog 31 [.pointer (some ⟨hb, 0, none⟩), .int .i64 p] w (fun v w' => v = .tuple #[.int .i64 (lookH ws L p).1, .int .i64 (lookH ws L p).2.1, .int .i64 (lookH ws L p).2.2.1, .int .i64 (lookH ws L p).2.2.2] ∧ w' = w) := by
  obtain ⟨a, c, r, m, hB, hS, hM, hg, hk⟩ := h
  refine fn_enter (n := 35) Tryd.func31 rfl rfl (Nat.le_of_ble_eq_true rfl) (fun e => ?_)
  refine k_seq ?_
  refine k_region ?_
  refine m_int rfl rfl ?_
  refine m_int rfl rfl ?_
  refine m_int rfl rfl ?_
  refine m_int rfl rfl ?_
  refine o_nil ?_
  refine k_seq ?_
  refine k_seq ?_
  refine k_region ?_
  refine m_ptr rfl rfl ?_
  refine b_eqlp Tryd.underlying41 rfl rfl ?_
  refine o_nil ?_
  refine k_no rfl ((by intro h; cases h)) ?_
  refine k_skip ?_
  refine k_seq ?_
  refine k_seq ?_
  refine k_region ?_
  refine m_ptr rfl rfl ?_
  refine o_nilc rfl ?_
  refine o_fld (off := 2) rfl rfl ?_
  refine o_ld (v := .map (some r)) rfl rfl (hB.at rfl) ?_
  refine m_int rfl rfl ?_
  refine o_look (kv := Value.int .i64) (q := p) (v := .bool (decide (p ∈ L))) Tryd.underlying104 (key_int Tryd.underlying2) inf4 rfl rfl hM (by rw [hg p]; by_cases hp : p ∈ L <;> simp [hp]) ?_
  refine u_not rfl ?_
  refine o_nil ?_
  refine k_cond rfl (fun h => ?_) (fun h => ?_)
  ·
    refine k_seq ?_
    refine k_region ?_
    refine m_int rfl rfl ?_
    refine m_int rfl rfl ?_
    refine m_int rfl rfl ?_
    refine m_int rfl rfl ?_
    refine o_nil ?_
    refine k_ret (ret_tmps (ts := [4, 5, 6, 7]) (v := .tuple #[.int _ _, .int _ _, .int _ _, .int _ _]) rfl rfl ?_)
    rw [look_out h]; exact ⟨rfl, rfl⟩
  have hp : p ∈ L := Decidable.of_not_not h
  obtain ⟨q, hq, hpq, hq1, hq0, hqn⟩ := hW.at hp
  subst hpq
  have hgd : ws.getD (q : Int).toNat 0 = ws[q] := getD_get ws q hq
  have hx := iv_at ws q hq
  have hRS := hS.rd
  obtain ⟨b1, o1, hae, hc1⟩ := hRS _ _ hx
  subst hae
  refine k_skip ?_
  refine k_seq ?_
  refine k_region ?_
  refine m_ptr rfl rfl ?_
  refine o_nilc rfl ?_
  refine o_fld0 rfl rfl ?_
  refine o_ld (v := .slice (some ⟨b1, o1, none⟩) ws.length c) rfl rfl (hB.at rfl) ?_
  refine m_int rfl rfl ?_
  refine o_ixs1 (m := q) Tryd.underlying22 rfl rfl rfl hq ?_
  refine o_ld (v := iv (ws[q])) rfl rfl hc1 ?_
  refine o_call rfl rfl (open_ok w (ws[q])) (fun v w1 hv => ?_)
  obtain ⟨rfl, rfl⟩ := hv
  refine m_any rfl rfl ?_
  refine o_extr rfl rfl ?_
  refine o_extr rfl rfl ?_
  refine o_extr rfl rfl ?_
  refine o_extr rfl rfl ?_
  refine o_extr rfl rfl ?_
  refine m_int rfl rfl ?_
  refine m_int rfl rfl ?_
  refine m_int rfl rfl ?_
  refine m_int rfl rfl ?_
  refine o_nil ?_
  refine k_seq ?_
  refine k_region ?_
  refine m_int rfl rfl ?_
  refine m_int rfl rfl ?_
  refine m_int rfl rfl ?_
  refine m_int rfl rfl ?_
  refine m_int rfl rfl ?_
  refine m_int rfl rfl ?_
  refine m_int rfl rfl ?_
  refine m_int rfl rfl ?_
  refine o_nil ?_
  refine k_ret (ret_tmps (ts := [4, 5, 6, 7]) (v := .tuple #[.int _ _, .int _ _, .int _ _, .int _ _]) rfl rfl ?_)
  rw [look_in hp, hgd]; exact ⟨rfl, rfl⟩
def cellH (ws L : List Int) (p i : Int) : Int × Bool × Int :=
  if (lookH ws L p).2.2.2 ≠ 0 then (0, false, (lookH ws L p).2.2.2)
  else if i < 0 ∨ (lookH ws L p).2.2.1 ≤ i then (0, false, 1)
  else (p + 1 + i, refB (openW (ws.getD p.toNat 0)).1 (openW (ws.getD p.toNat 0)).2.2.2.1 i.toNat, 0)
theorem look_e {ws L : List Int} {p : Int} (hW : WFH ws L) : (lookH ws L p).2.2.2 = 0 ↔ p ∈ L := by
  by_cases hp : p ∈ L
  · rw [look_in hp]
    obtain ⟨q, hq, hpq, hq1, hq0, hqn⟩ := hW.at hp
    subst hpq
    rw [show ws.getD (q : Int).toNat 0 = ws[q] from getD_get ws q hq]
    exact ⟨fun _ => hp, fun _ => hq0⟩
  · rw [look_out hp]; simp [hp]
theorem cell_ok (k : Nat) (w : World) (hb : Nat) (ws : List Int) (lim : Int) (L : List Int) (p i : Int) (h : HP k w hb ws lim L) (hW : WFH ws L) :
    Ret Tryd.prog 68 [.pointer (some ⟨hb, 0, none⟩), .int .i64 p, .int .i64 i] w (fun v w' => v = .tuple #[.int .i64 (cellH ws L p i).1, .bool (cellH ws L p i).2.1, .int .i64 (cellH ws L p i).2.2] ∧ w' = w) := by
  have hHP := h
  obtain ⟨a, c, r, m, hB, hS, hM, hg, hk⟩ := h
  have hle := look_e (p := p) hW
  refine fn_enter (n := 72) Tryd.func68 rfl rfl (Nat.le_of_ble_eq_true rfl) (fun e => ?_)
  refine k_seq ?_
  refine k_region ?_
  refine m_int rfl rfl ?_
  refine m_bool rfl rfl ?_
  refine m_int rfl rfl ?_
  refine o_nil ?_
  refine k_seq ?_
  refine k_seq ?_
  refine k_region ?_
  refine m_ptr rfl rfl ?_
  refine m_int rfl rfl ?_
  refine o_call rfl rfl (look_ok k w hb ws lim L p hHP hW) (fun v w1 hv => ?_)
  obtain ⟨rfl, rfl⟩ := hv
  obtain ⟨nn, hnn⟩ : ∃ nn, (lookH ws L p).2.2.1 = nn := ⟨_, rfl⟩
  obtain ⟨ee, hee⟩ : ∃ ee, (lookH ws L p).2.2.2 = ee := ⟨_, rfl⟩
  rw [hnn, hee]
  rw [hee] at hle
  refine m_any rfl rfl ?_
  refine o_extr rfl rfl ?_
  refine o_extr rfl rfl ?_
  refine o_extr rfl rfl ?_
  refine o_extr rfl rfl ?_
  refine m_int rfl rfl ?_
  refine m_int rfl rfl ?_
  refine m_int rfl rfl ?_
  refine m_int rfl rfl ?_
  refine o_nil ?_
  refine k_seq ?_
  refine k_cut (σ := Unit) (fun s => [(0, .pointer (some ⟨hb, 0, none⟩)), (1, .int .i64 p), (2, .int .i64 i), (12, .int .i64 ee), (36, .bool (decide (ee ≠ 0 ∨ i < 0 ∨ nn ≤ i)))]) (fun s w' => w' = w1) ?_ (fun s e w' hJ => ?_)
  ·
    refine k_region ?_
    refine m_int rfl rfl ?_
    refine b_neq rfl rfl ?_
    refine m_bool rfl rfl ?_
    refine o_split (t := 28) rfl (fun h => ?_) (fun h => ?_)
    ·
      refine g_no rfl rfl rfl ?_
      refine g_no rfl rfl rfl ?_
      refine pick_t rfl rfl ?_
      refine m_bool rfl rfl ?_
      refine g_no rfl rfl rfl ?_
      refine g_no rfl rfl rfl ?_
      refine g_no rfl rfl rfl ?_
      refine pick_t rfl rfl ?_
      refine o_nil ?_
      refine k_goal ⟨(), ⟨rfl, rfl, rfl, rfl, congrArg Value.bool (decide_eq_true (.inl h)).symm, trivial⟩, rfl⟩
    ·
      have h28 := h
      refine g_yes rfl rfl ?_
      refine m_int rfl rfl ?_
      refine g_yes rfl rfl ?_
      refine b_lss rfl rfl ?_
      refine pick_f rfl rfl ?_
      refine m_bool rfl rfl ?_
      refine o_split (t := 32) rfl (fun h => ?_) (fun h => ?_)
      ·
        refine g_no rfl rfl rfl ?_
        refine g_no rfl rfl rfl ?_
        refine g_no rfl rfl rfl ?_
        refine pick_t rfl rfl ?_
        refine o_nil ?_
        refine k_goal ⟨(), ⟨rfl, rfl, rfl, rfl, congrArg Value.bool (decide_eq_true (.inr (.inl h))).symm, trivial⟩, rfl⟩
      ·
        have h32 := h
        refine g_yes rfl rfl ?_
        refine m_int rfl rfl ?_
        refine g_yes rfl rfl ?_
        refine m_int rfl rfl ?_
        refine g_yes rfl rfl ?_
        refine b_geq rfl rfl ?_
        refine pick_f rfl rfl ?_
        refine o_nil ?_
        refine k_goal ⟨(), ⟨rfl, rfl, rfl, rfl, congrArg Value.bool (decide_eq_decide.2 ⟨fun hh => .inr (.inr hh), fun hh => (hh.resolve_left h28).resolve_left h32⟩), trivial⟩, rfl⟩
  subst hJ
  refine k_cond rfl (fun h => ?_) (fun h => ?_)
  ·
    have h36 := h
    refine k_seq ?_
    refine k_seq ?_
    refine k_region ?_
    refine m_int rfl rfl ?_
    refine b_eql rfl rfl ?_
    refine o_nil ?_
    refine k_cut (σ := Unit) (fun s => [(12, .int .i64 (if ee = 0 then 1 else ee))]) (fun s w2 => w2 = w') ?_ (fun s e w2 hJ => ?_)
    ·
      refine k_cond rfl (fun h => ?_) (fun h => ?_)
      ·
        refine k_region ?_
        refine m_int rfl rfl ?_
        refine o_nil ?_
        refine k_goal ⟨(), ⟨by rw [if_pos h]; rfl, trivial⟩, rfl⟩
      refine k_skip ?_
      refine k_goal ⟨(), ⟨by rw [if_neg h]; rfl, trivial⟩, rfl⟩
    subst hJ
    refine k_seq ?_
    refine k_region ?_
    refine m_int rfl rfl ?_
    refine m_int rfl rfl ?_
    refine m_bool rfl rfl ?_
    refine m_int rfl rfl ?_
    refine o_nil ?_
    refine k_ret (ret_tmps (ts := [6, 7, 8]) (v := .tuple #[.int _ _, .bool _, .int _ _]) rfl rfl ?_)
    refine ⟨?_, rfl⟩
    unfold cellH
    rw [hee, hnn]
    by_cases he : ee = 0
    · rw [if_pos he, if_neg (by simpa using he), if_pos (h36.resolve_left (by simpa using he))]
    · rw [if_neg he, if_pos he]
  have he0 : ee = 0 := Decidable.byContradiction fun hh => h (.inl hh)
  have hi0 : 0 ≤ i ∧ i < nn := ⟨Int.not_lt.1 fun hh => h (.inr (.inl hh)), Int.not_le.1 fun hh => h (.inr (.inr hh))⟩
  have hp : p ∈ L := hle.1 he0
  obtain ⟨j, hj⟩ : ∃ j : Nat, i = (j : Int) := ⟨i.toNat, by omega⟩
  subst hj
  obtain ⟨q, hq, hpq, hq1, hq0, hqn⟩ := hW.at hp
  subst hpq
  have hgd : ws.getD (q : Int).toNat 0 = ws[q] := getD_get ws q hq
  have hx := iv_at ws q hq
  have hRS := hS.rd
  obtain ⟨b1, o1, hae, hc1⟩ := hRS _ _ hx
  subst hae
  have hF := open_f _ hq0
  have hnq : nn = (openW (ws[q])).2.2.1 := by rw [← hnn, look_in hp, hgd]
  have hlen := hW.len
  have hn1 := hF.n1
  have hcell : cellH ws L (q : Int) (j : Int) = ((q : Int) + 1 + (j : Int), refB (openW (ws[q])).1 (openW (ws[q])).2.2.2.1 j, 0) := by
   unfold cellH
   rw [hee, hnn, if_neg (by simpa using he0), if_neg (by omega), hgd]
   rfl
  refine k_skip ?_
  refine k_seq ?_
  refine k_region ?_
  refine m_ptr rfl rfl ?_
  refine o_nilc rfl ?_
  refine o_fld0 rfl rfl ?_
  refine o_ld (v := .slice (some ⟨b1, o1, none⟩) ws.length c) rfl rfl (hB.at rfl) ?_
  refine m_int rfl rfl ?_
  refine o_ixs1 (m := q) Tryd.underlying22 rfl rfl rfl hq ?_
  refine o_ld (v := iv (ws[q])) rfl rfl hc1 ?_
  refine o_call rfl rfl (open_ok w' (ws[q])) (fun v w3 hv => ?_)
  obtain ⟨rfl, rfl⟩ := hv
  refine m_any rfl rfl ?_
  refine o_extr rfl rfl ?_
  refine o_extr rfl rfl ?_
  refine o_extr rfl rfl ?_
  refine o_extr rfl rfl ?_
  refine o_extr rfl rfl ?_
  refine m_int rfl rfl ?_
  refine m_int rfl rfl ?_
  refine m_int rfl rfl ?_
  refine m_int rfl rfl ?_
  refine m_int rfl rfl ?_
  refine o_nil ?_
  refine k_seq ?_
  refine k_region ?_
  refine m_int rfl rfl ?_
  refine n_add rfl rfl (by omega) ?_
  refine m_int rfl rfl ?_
  refine n_add rfl rfl (by omega) ?_
  refine m_int rfl rfl ?_
  refine b_eql rfl rfl ?_
  refine m_bool rfl rfl ?_
  refine o_split (t := 60) rfl (fun h => ?_) (fun h => ?_)
  ·
    refine g_no rfl rfl rfl ?_
    refine g_no rfl rfl rfl ?_
    refine g_no rfl rfl rfl ?_
    refine g_un rfl rfl ?_
    refine g_un rfl rfl ?_
    refine g_un rfl rfl ?_
    refine g_un rfl rfl ?_
    refine g_un rfl rfl ?_
    refine g_un rfl rfl ?_
    refine g_no rfl rfl rfl ?_
    refine pick_t rfl rfl ?_
    refine m_int rfl rfl ?_
    refine m_bool rfl rfl ?_
    refine m_int rfl rfl ?_
    refine o_nil ?_
    refine k_ret (ret_tmps (ts := [6, 7, 8]) (v := .tuple #[.int _ _, .bool _, .int _ _]) rfl rfl ?_)
    rw [hcell]
    refine ⟨congrArg (fun x => Value.tuple #[.int .i64 ((q : Int) + 1 + (j : Int)), .bool x, .int .i64 0]) ?_, rfl⟩
    unfold refB
    exact (decide_eq_true (.inl h)).symm
  ·
    have h60 := h
    refine g_yes rfl rfl ?_
    refine m_int rfl rfl ?_
    refine g_yes rfl rfl ?_
    refine b_eql rfl rfl ?_
    refine g_yes rfl rfl ?_
    refine m_bool rfl rfl ?_
    refine o_split (t := 63) rfl (fun h => ?_) (fun h => ?_)
    ·
      have h63 := h
      have hk32 := hF.f h63
      refine g_yes rfl rfl ?_
      refine m_int rfl rfl ?_
      refine g_yes rfl rfl ?_
      refine m_int rfl rfl ?_
      refine g_yes rfl rfl ?_
      refine cv64 rfl Tryd.underlying49 rfl ?_
      refine g_yes rfl rfl ?_
      refine b_shrn rfl rfl ?_
      refine g_yes rfl rfl ?_
      refine b_and rfl rfl ?_
      rw [maskbit _ j (by omega)]
      refine g_yes rfl rfl ?_
      refine b_eql rfl rfl ?_
      refine g_yes rfl rfl ?_
      refine pick_t rfl rfl ?_
      refine pick_f rfl rfl ?_
      refine m_int rfl rfl ?_
      refine m_bool rfl rfl ?_
      refine m_int rfl rfl ?_
      refine o_nil ?_
      refine k_ret (ret_tmps (ts := [6, 7, 8]) (v := .tuple #[.int _ _, .bool _, .int _ _]) rfl rfl ?_)
      rw [hcell]
      refine ⟨congrArg (fun x => Value.tuple #[.int .i64 ((q : Int) + 1 + (j : Int)), .bool x, .int .i64 0]) ?_, rfl⟩
      unfold refB
      refine decide_eq_decide.2 ?_
      exact ⟨fun hh => .inr ⟨h63, hh⟩, fun hh => (hh.resolve_left h60).2⟩
    ·
      refine g_no rfl rfl rfl ?_
      refine g_no rfl rfl rfl ?_
      refine g_no rfl rfl rfl ?_
      refine g_no rfl rfl rfl ?_
      refine g_no rfl rfl rfl ?_
      refine g_no rfl rfl rfl ?_
      refine g_yes rfl rfl ?_
      refine pick_f rfl rfl ?_
      refine pick_f rfl rfl ?_
      refine m_int rfl rfl ?_
      refine m_bool rfl rfl ?_
      refine m_int rfl rfl ?_
      refine o_nil ?_
      refine k_ret (ret_tmps (ts := [6, 7, 8]) (v := .tuple #[.int _ _, .bool _, .int _ _]) rfl rfl ?_)
      rw [hcell]
      refine ⟨congrArg (fun x => Value.tuple #[.int .i64 ((q : Int) + 1 + (j : Int)), .bool x, .int .i64 0]) ?_, rfl⟩
      unfold refB
      exact (decide_eq_false (fun hh => hh.elim h60 (fun hh => h hh.1))).symm
end Go.Proofs.YtchbidckckmobaaDoor
