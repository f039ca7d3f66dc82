/- Native: Make, Units, CharAt. No condition beyond what each contract names. -/
import Derived.Test.YtchbidckckmobaaDoorHd
namespace Go.Proofs.YtchbidckckmobaaDoor
open Go.RowKit E
set_option linter.unusedVariables false
set_option linter.unusedSimpArgs false
set_option maxRecDepth 100000
attribute [local irreducible] ow qw kw kq cw opW Ret
theorem inf47 : infB Tryd.prog 47 1 2 (.int .u16 0) := ⟨_, rfl, rfl, rfl, rfl⟩
abbrev Us := List (BitVec 16)
def ui (u : BitVec 16) : Int := (u.toNat : Int)
theorem u16_at (xs : Us) (i : Nat) (h : i < xs.length) : (xs.map u16v)[i]? = some (.int .u16 ((xs[i]).toNat : Int)) := by
  rw [List.getElem?_map, List.getElem?_eq_getElem h]; rfl
theorem u16_one (xs : Us) : ∀ u ∈ xs.map u16v, u.oneCell' = true := by
  intro u hu
  obtain ⟨x, _, rfl⟩ := List.mem_map.1 hu
  rfl
/-- what Make answers, and what it leaves -/
def makeN (ws L : List Int) (lim cl : Int) (us : Us) : Int × Int × List Int × List Int :=
  if (layH ws L lim 2 cl us.length 0).2.1 ≠ 0 then (0, (layH ws L lim 2 cl us.length 0).2.1, ws, L)
  else ((ws.length : Int), 0, ws ++ (headW 2 cl us.length 0).1 :: us.map ui, L ++ [(ws.length : Int)])
theorem lay_cases (ws L : List Int) (lim kind cl n mask : Int) : ((layH ws L lim kind cl n mask).2.1 ≠ 0 ∧ (layH ws L lim kind cl n mask).1 = 0 ∧ (layH ws L lim kind cl n mask).2.2.1 = ws ∧ (layH ws L lim kind cl n mask).2.2.2 = L) ∨
    (layH ws L lim kind cl n mask = ((ws.length : Int), 0, ws ++ (headW kind cl n mask).1 :: List.replicate n.toNat 0, L ++ [(ws.length : Int)]) ∧ (headW kind cl n mask).2 = 0 ∧ 0 ≤ n ∧ n < lim - ((ws.length : Int) - 1)) := by
  unfold layH
  by_cases h1 : n < 0 ∨ ¬ (0 ≤ cl ∧ cl ≤ 65535)
  · rw [if_pos h1]; exact .inl ⟨by simp, rfl, rfl, rfl⟩
  · rw [if_neg h1]
    by_cases h2 : lim - ((ws.length : Int) - 1) ≤ n
    · rw [if_pos h2]; exact .inl ⟨by simp, rfl, rfl, rfl⟩
    · rw [if_neg h2]
      by_cases h3 : (headW kind cl n mask).2 ≠ 0
      · rw [if_pos h3]; exact .inl ⟨h3, rfl, rfl, rfl⟩
      · rw [if_neg h3]; exact .inr ⟨rfl, Decidable.of_not_not h3, by omega, by omega⟩
/-- the words while a string is laid -/
def wsU (ws : List Int) (hd : Int) (us : Us) (i : Nat) : List Int := ws ++ hd :: ((us.take i).map ui ++ List.replicate (us.length - i) 0)
theorem wsU_len (ws : List Int) (hd : Int) (us : Us) (i : Nat) (h : i ≤ us.length) : (wsU ws hd us i).length = ws.length + 1 + us.length := by
  simp [wsU]; omega
theorem wsU_set (ws : List Int) (hd : Int) (us : Us) (i : Nat) (h : i < us.length) : (wsU ws hd us i).set (ws.length + 1 + i) (ui (us[i])) = wsU ws hd us (i + 1) := by
  unfold wsU
  rw [List.set_append_right _ _ (by omega), show ws.length + 1 + i - ws.length = i + 1 by omega, List.set_cons_succ, List.set_append_right _ _ (by simp; omega), List.length_map, List.length_take, Nat.min_eq_left (by omega), Nat.sub_self]
  rw [show us.length - i = (us.length - (i + 1)) + 1 by omega, List.replicate_succ, List.set_cons_zero, List.take_succ_eq_append_getElem h, List.map_append, List.append_assoc]
  rfl
theorem wsU_head (ws : List Int) (hd : Int) (us : Us) (i : Nat) : (wsU ws hd us i).getD ws.length 0 = hd := by
  simp [wsU]
theorem make_ok (k : Nat) (w : World) (hb : Nat) (ws : List Int) (lim : Int) (L : List Int) (cl : Int) (a : Option Addr) (c : Nat) (us : Us) (h : HP k w hb ws lim L) (hW : WFH ws L) (hlim : lim ≤ 65536) (hu : (ws.length : Int) ≤ lim + 1) (hkw : k ≤ w.heap.size)
    (hcl : -9223372036854775808 ≤ cl ∧ cl ≤ 9223372036854775807) (hR : Rd w a (us.map u16v)) (hus : us.length ≤ 9223372036854775807) (hab : ∀ w', KeepH k w w' → Rd w' a (us.map u16v)) :
    Ret Tryd.prog 45 [.pointer (some ⟨hb, 0, none⟩), .int .i64 cl, .slice a us.length c] w (fun v w' => v = .tuple #[.int .i64 (makeN ws L lim cl us).1, .int .i64 (makeN ws L lim cl us).2.1] ∧ HRes k w hb lim w' (makeN ws L lim cl us).2.2.1 (makeN ws L lim cl us).2.2.2) := by
  refine fn_enter (n := 38) Tryd.func45 rfl rfl (Nat.le_of_ble_eq_true rfl) (fun e => ?_)
  refine k_seq ?_
  refine k_region ?_
  refine m_int rfl rfl ?_
  refine m_int rfl rfl ?_
  refine o_nil ?_
  refine k_seq ?_
  refine k_region ?_
  refine m_ptr rfl rfl ?_
  refine m_int rfl rfl ?_
  refine m_sl rfl rfl ?_
  refine o_lens Tryd.underlying77 rfl ?_
  refine o_call rfl rfl (harray_ok k w hb ws lim L cl (us.length : Int) false h hW hlim hu hkw hcl (by omega)) (fun v w1 hv => ?_)
  obtain ⟨rfl, hr⟩ := hv
  rw [show (if false = true then (3 : Int) else 2) = 2 from rfl] at hr ⊢
  have hlc := lay_cases ws L lim 2 cl us.length 0
  refine m_any rfl rfl ?_
  refine o_extr rfl rfl ?_
  refine o_extr rfl rfl ?_
  refine m_int rfl rfl ?_
  refine m_int rfl rfl ?_
  refine o_nil ?_
  refine k_seq ?_
  refine k_seq ?_
  refine k_region ?_
  refine m_int rfl rfl ?_
  refine b_neq rfl rfl ?_
  refine o_nil ?_
  refine k_cond rfl (fun h => ?_) (fun h => ?_)
  ·
    refine k_seq ?_
    refine k_region ?_
    refine m_int rfl rfl ?_
    refine m_int rfl rfl ?_
    refine m_int rfl rfl ?_
    refine o_nil ?_
    refine k_ret (ret_tmps (ts := [6, 7]) (v := .tuple #[.int _ _, .int _ _]) rfl rfl ?_)
    have hne : (layH ws L lim 2 cl us.length 0).2.1 ≠ 0 := h
    have hmk : makeN ws L lim cl us = (0, (layH ws L lim 2 cl us.length 0).2.1, ws, L) := if_pos hne
    rcases hlc with ⟨_, _, h3, h4⟩ | ⟨h1, _⟩
    · rw [h3, h4] at hr; rw [hmk]; exact ⟨rfl, hr⟩
    · rw [h1] at hne; exact absurd rfl hne
  have he0 : (layH ws L lim 2 cl us.length 0).2.1 = 0 := Decidable.of_not_not h
  obtain ⟨hlay, hh0, _, hfit⟩ := hlc.resolve_left (fun hh => hh.1 he0)
  have hmk : makeN ws L lim cl us = ((ws.length : Int), 0, ws ++ (headW 2 cl us.length 0).1 :: us.map ui, L ++ [(ws.length : Int)]) := if_neg (by simpa using he0)
  obtain ⟨hd, hhd⟩ : ∃ hd, (headW 2 cl us.length 0).1 = hd := ⟨_, rfl⟩
  have hoh := head_open 2 cl us.length 0 hh0
  rw [hhd] at hmk hlay hoh
  rw [hlay] at hr ⊢
  have hp := hW.pos
  refine k_skip ?_
  refine k_seq ?_
  refine k_seq ?_
  refine k_region ?_
  refine m_sl rfl rfl ?_
  refine o_lens Tryd.underlying77 rfl ?_
  refine m_int rfl rfl ?_
  refine o_nil ?_
  refine k_block ?_
  refine k_loop (σ := Nat) (fun i => [(0, .pointer (some ⟨hb, 0, none⟩)), (8, .int .i64 (ws.length : Int)), (23, .slice a us.length c), (24, .int .i64 (us.length : Int)), (25, .int .i64 (i : Int))]) (fun i w' => i ≤ us.length ∧ HRes k w hb lim w' (wsU ws hd us i) (L ++ [(ws.length : Int)])) (fun i => us.length - i) 0 ⟨rfl, rfl, rfl, rfl, rfl, trivial⟩ ⟨Nat.zero_le _, by simpa [wsU] using hr⟩ (fun i e w2 hJ => ?_)
  obtain ⟨hi, hHP, hWF, hu2, hKH⟩ := hJ
  refine k_seq ?_
  refine k_region ?_
  refine b_lss rfl rfl ?_
  refine o_nil ?_
  refine k_seq ?_
  refine k_cond rfl (fun h => ?_) (fun h => ?_)
  rotate_left
  ·
    have hie : i = us.length := by omega
    subst hie
    refine k_exit rfl ?_
    refine k_seq ?_
    refine k_region ?_
    refine m_int rfl rfl ?_
    refine m_int rfl rfl ?_
    refine m_int rfl rfl ?_
    refine o_nil ?_
    refine k_ret (ret_tmps (ts := [6, 7]) (v := .tuple #[.int _ _, .int _ _]) rfl rfl ?_)
    rw [hmk]
    refine ⟨rfl, ?_⟩
    have e : wsU ws hd us us.length = ws ++ hd :: us.map ui := by simp [wsU]
    rw [e] at hHP hWF hu2
    exact ⟨hHP, hWF, hu2, hKH⟩
  have hin : i < us.length := by omega
  have hx := u16_at us i hin
  have hRA := hab _ hKH
  obtain ⟨b1, o1, hae, hc1⟩ := hRA _ _ hx
  subst hae
  have hlk : lookH (wsU ws hd us i) (L ++ [(ws.length : Int)]) (ws.length : Int) = (2, cl, (us.length : Int), 0) := by
   rw [look_in (by simp)]
   rw [show ((ws.length : Int)).toNat = ws.length from rfl, wsU_head, hoh]
  have hce : cellH (wsU ws hd us i) (L ++ [(ws.length : Int)]) (ws.length : Int) (i : Int) = ((ws.length : Int) + 1 + (i : Int), false, 0) := by
   unfold cellH
   rw [hlk, if_neg (by simp), if_neg (by simp only; omega), show ((ws.length : Int)).toNat = ws.length from rfl, wsU_head, hoh]
   rfl
  have hse : setH (wsU ws hd us i) (L ++ [(ws.length : Int)]) (ws.length : Int) (i : Int) (ui (us[i])) = (0, wsU ws hd us (i + 1)) := by
   unfold setH
   rw [hce, if_neg (by simp), if_neg (by simp)]
   rw [show ((ws.length : Int) + 1 + (i : Int)).toNat = ws.length + 1 + i by omega, wsU_set ws hd us i hin]
  have hul := (us[i]).isLt
  refine k_skip ?_
  refine k_seq ?_
  refine k_block ?_
  refine k_seq ?_
  refine k_region ?_
  refine m_int rfl rfl ?_
  refine o_ixs1 Tryd.underlying77 rfl rfl rfl hin ?_
  refine o_ld (v := .int .u16 ((us[i]).toNat : Int)) rfl rfl hc1 ?_
  refine m_int rfl rfl ?_
  refine m_int rfl rfl ?_
  refine o_nil ?_
  refine k_region ?_
  refine m_ptr rfl rfl ?_
  refine m_int rfl rfl ?_
  refine m_int rfl rfl ?_
  refine m_int rfl rfl ?_
  refine cv16_i rfl Tryd.underlying2 rfl ?_
  refine o_call rfl rfl (set_ok k w2 hb (wsU ws hd us i) lim (L ++ [(ws.length : Int)]) (ws.length : Int) (i : Int) (ui (us[i])) hHP hWF hu2 (by unfold ui; omega)) (fun v w3 hv => ?_)
  obtain ⟨rfl, hr3⟩ := hv
  rw [hse] at hr3
  obtain ⟨hHP3, hWF3, hu3, hKH3⟩ := hr3
  refine o_nil ?_
  refine k_blk ?_
  refine k_region ?_
  refine n_add rfl rfl (by omega) ?_
  refine m_int rfl rfl ?_
  refine o_nil ?_
  refine k_goal ⟨i + 1, ⟨rfl, rfl, rfl, rfl, rfl, trivial⟩, ⟨by omega, hHP3, hWF3, hu3, hKH.tr hKH3⟩, by omega⟩
/-- what Units answers -/
def unitsN (ws L : List Int) (p : Int) : Us × Int :=
  if (lookH ws L p).2.2.2 ≠ 0 then ([], (lookH ws L p).2.2.2)
  else if (lookH ws L p).1 ≠ 2 then ([], 1)
  else ((List.range (lookH ws L p).2.2.1.toNat).map fun i => BitVec.ofInt 16 (ws.getD (p.toNat + 1 + i) 0), 0)
theorem look_n {ws L : List Int} {p : Int} (hW : WFH ws L) (h : (lookH ws L p).2.2.2 = 0) : ∃ (q : Nat) (hq : q < ws.length), p = q ∧ (q : Int) ∈ L ∧ (openW (ws[q])).2.2.2.2 = 0 ∧ lookH ws L p = ((openW (ws[q])).1, (openW (ws[q])).2.1, (openW (ws[q])).2.2.1, 0) ∧ 0 ≤ (openW (ws[q])).2.2.1 ∧ (openW (ws[q])).2.2.1 ≤ (ws.length : Int) - q - 1 := by
  have hp := (look_e hW).1 h
  obtain ⟨q, hq, hpq, hq1, hq0, hqn⟩ := hW.at hp
  subst hpq
  refine ⟨q, hq, rfl, hp, hq0, ?_, (open_f _ hq0).n0, hqn⟩
  rw [look_in hp, show ws.getD (q : Int).toNat 0 = ws[q] from getD_get ws q hq, hq0]
theorem get_at {ws L : List Int} (hW : WFH ws L) {q : Nat} (hq : q < ws.length) (hL : (q : Int) ∈ L) (hlk : lookH ws L q = ((openW (ws[q])).1, (openW (ws[q])).2.1, (openW (ws[q])).2.2.1, 0)) (i : Nat) (hi : (i : Int) < (openW (ws[q])).2.2.1) : getH ws L (q : Int) (i : Int) = (ws.getD (q + 1 + i) 0, 0) := by
  have hce : cellH ws L (q : Int) (i : Int) = ((q : Int) + 1 + (i : Int), refB (openW (ws.getD (q : Int).toNat 0)).1 (openW (ws.getD (q : Int).toNat 0)).2.2.2.1 (i : Int).toNat, 0) := by
    unfold cellH
    rw [hlk, if_neg (by simp), if_neg (by simp only; omega)]
  unfold getH
  rw [hce, if_neg (by simp)]
  rw [show ((q : Int) + 1 + (i : Int)).toNat = q + 1 + i by omega]
def unU (ws : List Int) (q n i : Nat) : Us := (List.range n).map fun j => if j < i then BitVec.ofInt 16 (ws.getD (q + 1 + j) 0) else 0#16
theorem units_ok (k : Nat) (w : World) (hb : Nat) (ws : List Int) (lim : Int) (L : List Int) (p : Int) (hHP : HP k w hb ws lim L) (hW : WFH ws L) :
    Ret Tryd.prog 48 [.pointer (some ⟨hb, 0, none⟩), .int .i64 p] w (fun v w' => (∃ a2 c2, v = .tuple #[.slice a2 (unitsN ws L p).1.length c2, .int .i64 (unitsN ws L p).2] ∧ Sl w' 47 1 a2 (unitsN ws L p).1.length c2 ((unitsN ws L p).1.map u16v) ∧ ∀ z, a2 = some z → w.heap.size ≤ z.block) ∧ Keep [] w w') := by
  refine fn_enter (n := 48) Tryd.func48 rfl rfl (Nat.le_of_ble_eq_true rfl) (fun e => ?_)
  refine k_seq ?_
  refine k_region ?_
  refine m_sl rfl rfl ?_
  refine m_int rfl rfl ?_
  refine o_nil ?_
  refine k_seq ?_
  refine k_region ?_
  refine m_ptr rfl rfl ?_
  refine m_int rfl rfl ?_
  refine o_call rfl rfl (look_ok k w hb ws lim L p hHP hW) (fun v w1 hv => ?_)
  obtain ⟨rfl, rfl⟩ := hv
  refine m_any rfl rfl ?_
  refine o_extr rfl rfl ?_
  refine o_extr rfl rfl ?_
  refine o_extr rfl rfl ?_
  refine o_extr rfl rfl ?_
  refine m_int rfl rfl ?_
  refine m_int rfl rfl ?_
  refine m_int rfl rfl ?_
  refine m_int rfl rfl ?_
  refine o_nil ?_
  refine k_seq ?_
  refine k_seq ?_
  refine k_region ?_
  refine m_int rfl rfl ?_
  refine b_neq rfl rfl ?_
  refine o_nil ?_
  refine k_cond rfl (fun h => ?_) (fun h => ?_)
  ·
    refine k_seq ?_
    refine k_region ?_
    refine m_int rfl rfl ?_
    refine m_sl rfl rfl ?_
    refine m_int rfl rfl ?_
    refine o_nil ?_
    refine k_ret (ret_tmps (ts := [4, 5]) (v := .tuple #[.slice _ _ _, .int _ _]) rfl rfl ?_)
    have e : unitsN ws L p = ([], (lookH ws L p).2.2.2) := if_pos h
    rw [e]; exact ⟨⟨none, 0, rfl, Sl.nil _ _ _, by simp⟩, Keep.refl _ _⟩
  have h0 := Decidable.of_not_not h
  refine k_skip ?_
  refine k_seq ?_
  refine k_seq ?_
  refine k_region ?_
  refine m_int rfl rfl ?_
  refine b_neq rfl rfl ?_
  refine o_nil ?_
  refine k_cond rfl (fun h => ?_) (fun h => ?_)
  ·
    refine k_seq ?_
    refine k_region ?_
    refine m_sl rfl rfl ?_
    refine m_int rfl rfl ?_
    refine o_nil ?_
    refine k_ret (ret_tmps (ts := [4, 5]) (v := .tuple #[.slice _ _ _, .int _ _]) rfl rfl ?_)
    have e : unitsN ws L p = ([], 1) := by unfold unitsN; rw [if_neg (by simpa using h0), if_pos h]
    rw [e]; exact ⟨⟨none, 0, rfl, Sl.nil _ _ _, by simp⟩, Keep.refl _ _⟩
  have hk2 := Decidable.of_not_not h
  obtain ⟨q, hq, hpq, hqL, hq0, hlk, hn0, hnq⟩ := look_n hW h0
  subst hpq
  obtain ⟨n, hn⟩ : ∃ n : Nat, (openW (ws[q])).2.2.1 = (n : Int) := ⟨(openW (ws[q])).2.2.1.toNat, by omega⟩
  have hlen := hW.len
  have hlk2 : (lookH ws L q).2.2.1 = (n : Int) := by rw [hlk]; exact hn
  have e : unitsN ws L (q : Int) = (unU ws q n n, 0) := by
   unfold unitsN
   rw [if_neg (by simpa using h0), if_neg (by simpa using hk2), hlk2]
   refine congrArg (fun x => (x, (0 : Int))) ?_
   unfold unU
   refine List.map_congr_left fun j hj => ?_
   rw [if_pos (by simpa using hj)]
   rfl
  rw [hlk2]
  refine k_skip ?_
  refine k_seq ?_
  refine k_region ?_
  refine m_int rfl rfl ?_
  refine o_make Tryd.underlying77 inf47 rfl rfl (by simp [maxLen]; omega) (by omega) (fun g w2 hS2 hK2 hb2 hZ2 => ?_)
  have hS2' : Sl w2 47 1 (some ⟨g, 0, none⟩) n n ((unU ws q n 0).map u16v) := by
   have hz : (madeCells (Value.cells (.int .u16 0)) (n * 1)).toList = (unU ws q n 0).map u16v := by
    show (madeCells #[Value.int .u16 0] (n * 1)).toList = _
    rw [Nat.mul_one, toList_madeCells_one]
    apply List.ext_getElem
    · simp [unU]
    · intro i h1 h2; simp [unU, u16v]
   rw [← hz]; exact hS2
  refine m_sl rfl rfl ?_
  refine o_nil ?_
  refine k_seq ?_
  refine k_seq ?_
  refine k_region ?_
  refine m_sl rfl rfl ?_
  refine o_lens Tryd.underlying77 rfl ?_
  refine m_int rfl rfl ?_
  refine o_nil ?_
  refine k_block ?_
  refine k_loop (σ := Nat) (fun i => [(0, .pointer (some ⟨hb, 0, none⟩)), (1, .int .i64 (q : Int)), (10, .slice (some ⟨g, 0, none⟩) n n), (30, .int .i64 (n : Int)), (31, .int .i64 (i : Int))]) (fun i w' => i ≤ n ∧ Sl w' 47 1 (some ⟨g, 0, none⟩) n n ((unU ws q n i).map u16v) ∧ Keep [] w1 w') (fun i => n - i) 0 ⟨rfl, rfl, rfl, rfl, rfl, trivial⟩ ⟨Nat.zero_le _, hS2', hK2⟩ (fun i e w3 hJ => ?_)
  obtain ⟨hi, hS3, hK3⟩ := hJ
  refine k_seq ?_
  refine k_region ?_
  refine b_lss rfl rfl ?_
  refine o_nil ?_
  refine k_seq ?_
  refine k_cond rfl (fun h => ?_) (fun h => ?_)
  rotate_left
  ·
    have hie : i = n := by omega
    subst hie
    refine k_exit rfl ?_
    refine k_seq ?_
    refine k_region ?_
    refine m_sl rfl rfl ?_
    refine m_sl rfl rfl ?_
    refine m_int rfl rfl ?_
    refine o_nil ?_
    refine k_ret (ret_tmps (ts := [4, 5]) (v := .tuple #[.slice _ _ _, .int _ _]) rfl rfl ?_)
    have hul : (unU ws q i i).length = i := by simp [unU]
    rw [e, hul]
    exact ⟨⟨some ⟨g, 0, none⟩, i, rfl, hS3, by intro z hz; cases hz; simp; omega⟩, hK3⟩
  have hin : i < n := by omega
  have hge := get_at hW hq hqL hlk i (by rw [hn]; omega)
  refine k_skip ?_
  refine k_seq ?_
  refine k_block ?_
  refine k_seq ?_
  refine k_region ?_
  refine m_int rfl rfl ?_
  refine m_int rfl rfl ?_
  refine o_nil ?_
  refine k_seq ?_
  refine k_region ?_
  refine m_ptr rfl rfl ?_
  refine m_int rfl rfl ?_
  refine m_int rfl rfl ?_
  refine o_call rfl rfl (get_ok k w3 hb ws lim L (q : Int) (i : Int) (hHP.new hK3) hW) (fun v w4 hv => ?_)
  obtain ⟨rfl, rfl⟩ := hv
  rw [hge]
  obtain ⟨gg, cur, hae, hBg, hgs⟩ := hS3.blk (by omega)
  cases hae
  refine m_any rfl rfl ?_
  refine o_extr rfl rfl ?_
  refine o_extr rfl rfl ?_
  refine m_int rfl rfl ?_
  refine m_int rfl rfl ?_
  refine o_nil ?_
  refine k_region ?_
  refine m_sl rfl rfl ?_
  refine m_int rfl rfl ?_
  refine m_int rfl rfl ?_
  refine cv16 rfl Tryd.underlying47 rfl ?_
  refine o_ixs1 Tryd.underlying77 rfl rfl rfl hin ?_
  refine o_st (v := u16v (BitVec.ofInt 16 (ws.getD (q + 1 + i) 0))) rfl rfl rfl rfl hBg (by omega) (fun w5 hB5 hK5 hZ5 => ?_)
  have hS5 := Sl.set hS3 hin hBg hB5
  have hset : ((unU ws q n i).map u16v).set i (u16v (BitVec.ofInt 16 (ws.getD (q + 1 + i) 0))) = (unU ws q n (i + 1)).map u16v := by
   rw [← List.map_set]
   refine congrArg (List.map u16v) ?_
   apply List.ext_getElem
   · simp [unU]
   · intro j h1 h2
     rw [List.getElem_set]
     simp only [unU, List.getElem_map, List.getElem_range]
     by_cases hij : i = j
     · subst hij; rw [if_pos rfl, if_pos (by omega)]
     · rw [if_neg hij]
       by_cases hji : j < i
       · rw [if_pos hji, if_pos (by omega)]
       · rw [if_neg hji, if_neg (by omega)]
  rw [hset] at hS5
  refine o_nil ?_
  refine k_blk ?_
  refine k_region ?_
  refine n_add rfl rfl (by omega) ?_
  refine m_int rfl rfl ?_
  refine o_nil ?_
  refine k_goal ⟨i + 1, ⟨rfl, rfl, rfl, rfl, rfl, trivial⟩, ⟨by omega, hS5, hK3.trans hK5 (by simp; omega)⟩, by omega⟩
/-- what CharAt answers -/
def charN (ws L : List Int) (p i : Int) : Int × Int :=
  if (lookH ws L p).2.2.2 ≠ 0 then (0, (lookH ws L p).2.2.2)
  else if (lookH ws L p).1 ≠ 2 ∨ i < 0 ∨ (lookH ws L p).2.2.1 ≤ i then (0, 1)
  else (ui (BitVec.ofInt 16 (ws.getD (p.toNat + 1 + i.toNat) 0)), 0)
theorem char_ok (k : Nat) (w : World) (hb : Nat) (ws : List Int) (lim : Int) (L : List Int) (p i : Int) (hHP : HP k w hb ws lim L) (hW : WFH ws L) :
    Ret Tryd.prog 50 [.pointer (some ⟨hb, 0, none⟩), .int .i64 p, .int .i64 i] w (fun v w' => v = .tuple #[.int .i64 (charN ws L p i).1, .int .i64 (charN ws L p i).2] ∧ w' = w) := by
  refine fn_enter (n := 48) Tryd.func50 rfl rfl (Nat.le_of_ble_eq_true rfl) (fun e => ?_)
  refine k_seq ?_
  refine k_region ?_
  refine m_int rfl rfl ?_
  refine m_int rfl rfl ?_
  refine o_nil ?_
  refine k_seq ?_
  refine k_region ?_
  refine m_ptr rfl rfl ?_
  refine m_int rfl rfl ?_
  refine o_call rfl rfl (look_ok k w hb ws lim L p hHP hW) (fun v w1 hv => ?_)
  obtain ⟨rfl, rfl⟩ := hv
  refine m_any rfl rfl ?_
  refine o_extr rfl rfl ?_
  refine o_extr rfl rfl ?_
  refine o_extr rfl rfl ?_
  refine o_extr rfl rfl ?_
  refine m_int rfl rfl ?_
  refine m_int rfl rfl ?_
  refine m_int rfl rfl ?_
  refine m_int rfl rfl ?_
  refine o_nil ?_
  refine k_seq ?_
  refine k_block ?_
  refine k_seq ?_
  refine k_region ?_
  refine m_int rfl rfl ?_
  refine b_neq rfl rfl ?_
  refine m_bool rfl rfl ?_
  refine o_nil ?_
  refine k_cond rfl (fun h => ?_) (fun h => ?_)
  ·
    refine k_seq ?_
    refine k_region ?_
    refine m_int rfl rfl ?_
    refine m_int rfl rfl ?_
    refine m_int rfl rfl ?_
    refine o_nil ?_
    refine k_ret (ret_tmps (ts := [6, 7]) (v := .tuple #[.int _ _, .int _ _]) rfl rfl ?_)
    have e : charN ws L p i = (0, (lookH ws L p).2.2.2) := if_pos h
    rw [e]; exact ⟨rfl, rfl⟩
  have h0 := Decidable.of_not_not h
  have hno : (lookH ws L p).1 ≠ 2 ∨ i < 0 ∨ (lookH ws L p).2.2.1 ≤ i → charN ws L p i = (0, 1) := fun hh => by unfold charN; rw [if_neg (by simpa using h0), if_pos hh]
  refine k_seq ?_
  refine k_region ?_
  refine m_int rfl rfl ?_
  refine b_neq rfl rfl ?_
  refine m_bool rfl rfl ?_
  refine o_split (t := 28) rfl (fun h => ?_) (fun h => ?_)
  ·
    refine g_no rfl rfl rfl ?_
    refine g_no rfl rfl rfl ?_
    refine pick_t rfl rfl ?_
    refine m_bool rfl rfl ?_
    refine g_no rfl rfl rfl ?_
    refine g_no rfl rfl rfl ?_
    refine g_no rfl rfl rfl ?_
    refine pick_t rfl rfl ?_
    refine m_bool rfl rfl ?_
    refine o_nil ?_
    refine k_condt rfl ?_
    refine k_seq ?_
    refine k_region ?_
    refine m_int rfl rfl ?_
    refine m_int rfl rfl ?_
    refine o_nil ?_
    refine k_ret (ret_tmps (ts := [6, 7]) (v := .tuple #[.int _ _, .int _ _]) rfl rfl ?_)
    rw [hno (.inl h)]; exact ⟨rfl, rfl⟩
  ·
    have h28 := h
    refine g_yes rfl rfl ?_
    refine m_int rfl rfl ?_
    refine g_yes rfl rfl ?_
    refine b_lss rfl rfl ?_
    refine pick_f rfl rfl ?_
    refine m_bool rfl rfl ?_
    refine o_split (t := 32) rfl (fun h => ?_) (fun h => ?_)
    ·
      refine g_no rfl rfl rfl ?_
      refine g_no rfl rfl rfl ?_
      refine g_no rfl rfl rfl ?_
      refine pick_t rfl rfl ?_
      refine m_bool rfl rfl ?_
      refine o_nil ?_
      refine k_condt rfl ?_
      refine k_seq ?_
      refine k_region ?_
      refine m_int rfl rfl ?_
      refine m_int rfl rfl ?_
      refine o_nil ?_
      refine k_ret (ret_tmps (ts := [6, 7]) (v := .tuple #[.int _ _, .int _ _]) rfl rfl ?_)
      rw [hno (.inr (.inl h))]; exact ⟨rfl, rfl⟩
    ·
      have h32 := h
      refine g_yes rfl rfl ?_
      refine m_int rfl rfl ?_
      refine g_yes rfl rfl ?_
      refine m_int rfl rfl ?_
      refine g_yes rfl rfl ?_
      refine b_geq rfl rfl ?_
      refine pick_f rfl rfl ?_
      refine m_bool rfl rfl ?_
      refine o_nil ?_
      refine k_cond rfl (fun h => ?_) (fun h => ?_)
      ·
        refine k_seq ?_
        refine k_region ?_
        refine m_int rfl rfl ?_
        refine m_int rfl rfl ?_
        refine o_nil ?_
        refine k_ret (ret_tmps (ts := [6, 7]) (v := .tuple #[.int _ _, .int _ _]) rfl rfl ?_)
        rw [hno (.inr (.inr h))]; exact ⟨rfl, rfl⟩
      have e : charN ws L p i = (ui (BitVec.ofInt 16 (ws.getD (p.toNat + 1 + i.toNat) 0)), 0) := by unfold charN; rw [if_neg (by simpa using h0), if_neg (fun hh => hh.elim h28 (fun hh => hh.elim h32 h))]
      obtain ⟨q, hq, hpq, hqL, hq0, hlk, hn0, hnq⟩ := look_n hW h0
      subst hpq
      obtain ⟨j, hj⟩ : ∃ j : Nat, i = (j : Int) := ⟨i.toNat, by omega⟩
      subst hj
      have hge := get_at hW hq hqL hlk j (by rw [hlk] at h; simp only at h; omega)
      refine k_skip ?_
      refine k_blk ?_
      refine k_seq ?_
      refine k_region ?_
      refine m_ptr rfl rfl ?_
      refine m_int rfl rfl ?_
      refine m_int rfl rfl ?_
      refine o_call rfl rfl (get_ok k w1 hb ws lim L (q : Int) (j : Int) hHP hW) (fun v w4 hv => ?_)
      obtain ⟨rfl, rfl⟩ := hv
      rw [hge]
      refine m_any rfl rfl ?_
      refine o_extr rfl rfl ?_
      refine o_extr rfl rfl ?_
      refine m_int rfl rfl ?_
      refine m_int rfl rfl ?_
      refine o_nil ?_
      refine k_seq ?_
      refine k_region ?_
      refine m_int rfl rfl ?_
      refine cv16 rfl Tryd.underlying47 rfl ?_
      refine cv16_i rfl Tryd.underlying2 rfl ?_
      refine m_int rfl rfl ?_
      refine m_int rfl rfl ?_
      refine m_int rfl rfl ?_
      refine o_nil ?_
      refine k_ret (ret_tmps (ts := [6, 7]) (v := .tuple #[.int _ _, .int _ _]) rfl rfl ?_)
      rw [e]; exact ⟨rfl, rfl⟩
end Go.Proofs.YtchbidckckmobaaDoor
