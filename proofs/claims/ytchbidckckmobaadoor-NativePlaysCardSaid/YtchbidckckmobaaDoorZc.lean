/- Texts of this proof laid together: He, Shelf, Hf, Hz, Hg, Hj, Hl, Hm, Hn, Ia, Ib, Ic, Id, Ie, If, Ig, Ih, Ii, Ij, Ik, Il, Im, In, Io. No condition beyond what each lemma names. -/
import Derived.Test.YtchbidckckmobaaDoorZb
import Derived.Shelf.Strconv.Itoa4
import Derived.Shelf.Spec.TrailingZeros
import Derived.Ground.NamesProg
import Derived.Test.YtchbidckckmobaaDoorProg
import Derived.Test.YtchbidckckmobaaDoorRows
import Derived.LaidMore
import Derived.Lib.LaidTab
import Derived.MakeChecks
import Derived.Stop.Joined
import Derived.OpenShut
import Derived.ProofKit
import Derived.Laws.CopyRow
import Derived.Laws.IdiomCopy
/- Native: Make, Units, CharAt. No condition beyond what each contract names. -/
namespace Go.Proofs.YtchbidckckmobaaDoor
open Go.RowKit E
set_option linter.unusedVariables false
set_option linter.unusedSimpArgs false
set_option maxRecDepth 100000
attribute [local irreducible] ow qw kw kq cw opW Ret
theorem inf47 : infB Tryd.prog 47 1 2 (.int .u16 0) := ⟨_, rfl, rfl, rfl, rfl⟩
abbrev Us := List (BitVec 16)
def ui (u : BitVec 16) : Int := (u.toNat : Int)
theorem u16_at (xs : Us) (i : Nat) (h : i < xs.length) : (xs.map u16v)[i]? = some (.int .u16 ((xs[i]).toNat : Int)) := by
  rw [List.getElem?_map, List.getElem?_eq_getElem h]; rfl
theorem u16_one (xs : Us) : ∀ u ∈ xs.map u16v, u.oneCell' = true := by
  intro u hu
  obtain ⟨x, _, rfl⟩ := List.mem_map.1 hu
  rfl
/-- what Make answers, and what it leaves -/
def makeN (ws L : List Int) (lim cl : Int) (us : Us) : Int × Int × List Int × List Int :=
  if (layH ws L lim 2 cl us.length 0).2.1 ≠ 0 then (0, (layH ws L lim 2 cl us.length 0).2.1, ws, L)
  else ((ws.length : Int), 0, ws ++ (headW 2 cl us.length 0).1 :: us.map ui, L ++ [(ws.length : Int)])
theorem lay_cases (ws L : List Int) (lim kind cl n mask : Int) : ((layH ws L lim kind cl n mask).2.1 ≠ 0 ∧ (layH ws L lim kind cl n mask).1 = 0 ∧ (layH ws L lim kind cl n mask).2.2.1 = ws ∧ (layH ws L lim kind cl n mask).2.2.2 = L) ∨
    (layH ws L lim kind cl n mask = ((ws.length : Int), 0, ws ++ (headW kind cl n mask).1 :: List.replicate n.toNat 0, L ++ [(ws.length : Int)]) ∧ (headW kind cl n mask).2 = 0 ∧ 0 ≤ n ∧ n < lim - ((ws.length : Int) - 1)) := by
  unfold layH
  by_cases h1 : n < 0 ∨ ¬ (0 ≤ cl ∧ cl ≤ 65535)
  · rw [if_pos h1]; exact .inl ⟨by simp, rfl, rfl, rfl⟩
  · rw [if_neg h1]
    by_cases h2 : lim - ((ws.length : Int) - 1) ≤ n
    · rw [if_pos h2]; exact .inl ⟨by simp, rfl, rfl, rfl⟩
    · rw [if_neg h2]
      by_cases h3 : (headW kind cl n mask).2 ≠ 0
      · rw [if_pos h3]; exact .inl ⟨h3, rfl, rfl, rfl⟩
      · rw [if_neg h3]; exact .inr ⟨rfl, Decidable.of_not_not h3, by omega, by omega⟩
/-- the words while a string is laid -/
def wsU (ws : List Int) (hd : Int) (us : Us) (i : Nat) : List Int := ws ++ hd :: ((us.take i).map ui ++ List.replicate (us.length - i) 0)
theorem wsU_len (ws : List Int) (hd : Int) (us : Us) (i : Nat) (h : i ≤ us.length) : (wsU ws hd us i).length = ws.length + 1 + us.length := by
  simp [wsU]; omega
theorem wsU_set (ws : List Int) (hd : Int) (us : Us) (i : Nat) (h : i < us.length) : (wsU ws hd us i).set (ws.length + 1 + i) (ui (us[i])) = wsU ws hd us (i + 1) := by
  unfold wsU
  rw [List.set_append_right _ _ (by omega), show ws.length + 1 + i - ws.length = i + 1 by omega, List.set_cons_succ, List.set_append_right _ _ (by simp; omega), List.length_map, List.length_take, Nat.min_eq_left (by omega), Nat.sub_self]
  rw [show us.length - i = (us.length - (i + 1)) + 1 by omega, List.replicate_succ, List.set_cons_zero, List.take_succ_eq_append_getElem h, List.map_append, List.append_assoc]
  rfl
theorem wsU_head (ws : List Int) (hd : Int) (us : Us) (i : Nat) : (wsU ws hd us i).getD ws.length 0 = hd := by
  simp [wsU]
theorem make_ok (k : Nat → Prop) (w : World) (hb : Nat) (ws : List Int) (lim : Int) (L : List Int) (cl : Int) (a : Option Addr) (c : Nat) (us : Us) (h : HP k w hb ws lim L) (hW : WFH ws L) (hlim : lim ≤ 65536) (hu : (ws.length : Int) ≤ lim + 1) (hkw : ∀ b, w.heap.size ≤ b → k b)
    (hcl : -9223372036854775808 ≤ cl ∧ cl ≤ 9223372036854775807) (hR : Rd w a (us.map u16v)) (hus : us.length ≤ 9223372036854775807) (hab : ∀ w', KeepH k w w' → Rd w' a (us.map u16v)) :
    Ret Tryd.prog 45 [.pointer (some ⟨hb, 0, none⟩), .int .i64 cl, .slice a us.length c] w (fun v w' => v = .tuple #[.int .i64 (makeN ws L lim cl us).1, .int .i64 (makeN ws L lim cl us).2.1] ∧ HRes k w hb lim w' (makeN ws L lim cl us).2.2.1 (makeN ws L lim cl us).2.2.2) := by
  refine fn_enter (n := 38) Tryd.func45 rfl rfl (Nat.le_of_ble_eq_true rfl) (fun e => ?_)
  refine k_seq ?_
  refine k_region ?_
  refine m_int rfl rfl ?_
  refine m_int rfl rfl ?_
  refine o_nil ?_
  refine k_seq ?_
  refine k_region ?_
  refine m_ptr rfl rfl ?_
  refine m_int rfl rfl ?_
  refine m_sl rfl rfl ?_
  refine o_lens Tryd.underlying77 rfl ?_
  refine o_call rfl rfl (harray_ok k w hb ws lim L cl (us.length : Int) false h hW hlim hu hkw hcl (by omega)) (fun v w1 hv => ?_)
  obtain ⟨rfl, hr⟩ := hv
  rw [show (if false = true then (3 : Int) else 2) = 2 from rfl] at hr ⊢
  have hlc := lay_cases ws L lim 2 cl us.length 0
  refine m_any rfl rfl ?_
  refine o_extr rfl rfl ?_
  refine o_extr rfl rfl ?_
  refine m_int rfl rfl ?_
  refine m_int rfl rfl ?_
  refine o_nil ?_
  refine k_seq ?_
  refine k_seq ?_
  refine k_region ?_
  refine m_int rfl rfl ?_
  refine b_neq rfl rfl ?_
  refine o_nil ?_
  refine k_cond rfl (fun h => ?_) (fun h => ?_)
  ·
    refine k_seq ?_
    refine k_region ?_
    refine m_int rfl rfl ?_
    refine m_int rfl rfl ?_
    refine m_int rfl rfl ?_
    refine o_nil ?_
    refine k_ret (ret_tmps (ts := [6, 7]) (v := .tuple #[.int _ _, .int _ _]) rfl rfl ?_)
    have hne : (layH ws L lim 2 cl us.length 0).2.1 ≠ 0 := h
    have hmk : makeN ws L lim cl us = (0, (layH ws L lim 2 cl us.length 0).2.1, ws, L) := if_pos hne
    rcases hlc with ⟨_, _, h3, h4⟩ | ⟨h1, _⟩
    · rw [h3, h4] at hr; rw [hmk]; exact ⟨rfl, hr⟩
    · rw [h1] at hne; exact absurd rfl hne
  have he0 : (layH ws L lim 2 cl us.length 0).2.1 = 0 := Decidable.of_not_not h
  obtain ⟨hlay, hh0, _, hfit⟩ := hlc.resolve_left (fun hh => hh.1 he0)
  have hmk : makeN ws L lim cl us = ((ws.length : Int), 0, ws ++ (headW 2 cl us.length 0).1 :: us.map ui, L ++ [(ws.length : Int)]) := if_neg (by simpa using he0)
  obtain ⟨hd, hhd⟩ : ∃ hd, (headW 2 cl us.length 0).1 = hd := ⟨_, rfl⟩
  have hoh := head_open 2 cl us.length 0 hh0
  rw [hhd] at hmk hlay hoh
  rw [hlay] at hr ⊢
  have hp := hW.pos
  refine k_skip ?_
  refine k_seq ?_
  refine k_seq ?_
  refine k_region ?_
  refine m_sl rfl rfl ?_
  refine o_lens Tryd.underlying77 rfl ?_
  refine m_int rfl rfl ?_
  refine o_nil ?_
  refine k_block ?_
  refine k_loop (σ := Nat) (fun i => [(0, .pointer (some ⟨hb, 0, none⟩)), (8, .int .i64 (ws.length : Int)), (23, .slice a us.length c), (24, .int .i64 (us.length : Int)), (25, .int .i64 (i : Int))]) (fun i w' => i ≤ us.length ∧ HRes k w hb lim w' (wsU ws hd us i) (L ++ [(ws.length : Int)])) (fun i => us.length - i) 0 ⟨rfl, rfl, rfl, rfl, rfl, trivial⟩ ⟨Nat.zero_le _, by simpa [wsU] using hr⟩ (fun i e w2 hJ => ?_)
  obtain ⟨hi, hHP, hWF, hu2, hKH⟩ := hJ
  refine k_seq ?_
  refine k_region ?_
  refine b_lss rfl rfl ?_
  refine o_nil ?_
  refine k_seq ?_
  refine k_cond rfl (fun h => ?_) (fun h => ?_)
  rotate_left
  ·
    have hie : i = us.length := by omega
    subst hie
    refine k_exit rfl ?_
    refine k_seq ?_
    refine k_region ?_
    refine m_int rfl rfl ?_
    refine m_int rfl rfl ?_
    refine m_int rfl rfl ?_
    refine o_nil ?_
    refine k_ret (ret_tmps (ts := [6, 7]) (v := .tuple #[.int _ _, .int _ _]) rfl rfl ?_)
    rw [hmk]
    refine ⟨rfl, ?_⟩
    have e : wsU ws hd us us.length = ws ++ hd :: us.map ui := by simp [wsU]
    rw [e] at hHP hWF hu2
    exact ⟨hHP, hWF, hu2, hKH⟩
  have hin : i < us.length := by omega
  have hx := u16_at us i hin
  have hRA := hab _ hKH
  obtain ⟨b1, o1, hae, hc1⟩ := hRA _ _ hx
  subst hae
  have hlk : lookH (wsU ws hd us i) (L ++ [(ws.length : Int)]) (ws.length : Int) = (2, cl, (us.length : Int), 0) := by
   rw [look_in (by simp)]
   rw [show ((ws.length : Int)).toNat = ws.length from rfl, wsU_head, hoh]
  have hce : cellH (wsU ws hd us i) (L ++ [(ws.length : Int)]) (ws.length : Int) (i : Int) = ((ws.length : Int) + 1 + (i : Int), false, 0) := by
   unfold cellH
   rw [hlk, if_neg (by simp), if_neg (by simp only; omega), show ((ws.length : Int)).toNat = ws.length from rfl, wsU_head, hoh]
   rfl
  have hse : setH (wsU ws hd us i) (L ++ [(ws.length : Int)]) (ws.length : Int) (i : Int) (ui (us[i])) = (0, wsU ws hd us (i + 1)) := by
   unfold setH
   rw [hce, if_neg (by simp), if_neg (by simp)]
   rw [show ((ws.length : Int) + 1 + (i : Int)).toNat = ws.length + 1 + i by omega, wsU_set ws hd us i hin]
  have hul := (us[i]).isLt
  refine k_skip ?_
  refine k_seq ?_
  refine k_block ?_
  refine k_seq ?_
  refine k_region ?_
  refine m_int rfl rfl ?_
  refine o_ixs1 Tryd.underlying77 rfl rfl rfl hin ?_
  refine o_ld (v := .int .u16 ((us[i]).toNat : Int)) rfl rfl hc1 ?_
  refine m_int rfl rfl ?_
  refine m_int rfl rfl ?_
  refine o_nil ?_
  refine k_region ?_
  refine m_ptr rfl rfl ?_
  refine m_int rfl rfl ?_
  refine m_int rfl rfl ?_
  refine m_int rfl rfl ?_
  refine cv16_i rfl Tryd.underlying2 rfl ?_
  refine o_call rfl rfl (set_ok k w2 hb (wsU ws hd us i) lim (L ++ [(ws.length : Int)]) (ws.length : Int) (i : Int) (ui (us[i])) hHP hWF hu2 (by unfold ui; omega)) (fun v w3 hv => ?_)
  obtain ⟨rfl, hr3⟩ := hv
  rw [hse] at hr3
  obtain ⟨hHP3, hWF3, hu3, hKH3⟩ := hr3
  refine o_nil ?_
  refine k_blk ?_
  refine k_region ?_
  refine n_add rfl rfl (by omega) ?_
  refine m_int rfl rfl ?_
  refine o_nil ?_
  refine k_goal ⟨i + 1, ⟨rfl, rfl, rfl, rfl, rfl, trivial⟩, ⟨by omega, hHP3, hWF3, hu3, hKH.tr hKH3⟩, by omega⟩
/-- what Units answers -/
def unitsN (ws L : List Int) (p : Int) : Us × Int :=
  if (lookH ws L p).2.2.2 ≠ 0 then ([], (lookH ws L p).2.2.2)
  else if (lookH ws L p).1 ≠ 2 then ([], 1)
  else ((List.range (lookH ws L p).2.2.1.toNat).map fun i => BitVec.ofInt 16 (ws.getD (p.toNat + 1 + i) 0), 0)
theorem look_n {ws L : List Int} {p : Int} (hW : WFH ws L) (h : (lookH ws L p).2.2.2 = 0) : ∃ (q : Nat) (hq : q < ws.length), p = q ∧ (q : Int) ∈ L ∧ (openW (ws[q])).2.2.2.2 = 0 ∧ lookH ws L p = ((openW (ws[q])).1, (openW (ws[q])).2.1, (openW (ws[q])).2.2.1, 0) ∧ 0 ≤ (openW (ws[q])).2.2.1 ∧ (openW (ws[q])).2.2.1 ≤ (ws.length : Int) - q - 1 := by
  have hp := (look_e hW).1 h
  obtain ⟨q, hq, hpq, hq1, hq0, hqn⟩ := hW.at hp
  subst hpq
  refine ⟨q, hq, rfl, hp, hq0, ?_, (open_f _ hq0).n0, hqn⟩
  rw [look_in hp, show ws.getD (q : Int).toNat 0 = ws[q] from getD_get ws q hq, hq0]
theorem get_at {ws L : List Int} (hW : WFH ws L) {q : Nat} (hq : q < ws.length) (hL : (q : Int) ∈ L) (hlk : lookH ws L q = ((openW (ws[q])).1, (openW (ws[q])).2.1, (openW (ws[q])).2.2.1, 0)) (i : Nat) (hi : (i : Int) < (openW (ws[q])).2.2.1) : getH ws L (q : Int) (i : Int) = (ws.getD (q + 1 + i) 0, 0) := by
  have hce : cellH ws L (q : Int) (i : Int) = ((q : Int) + 1 + (i : Int), refB (openW (ws.getD (q : Int).toNat 0)).1 (openW (ws.getD (q : Int).toNat 0)).2.2.2.1 (i : Int).toNat, 0) := by
    unfold cellH
    rw [hlk, if_neg (by simp), if_neg (by simp only; omega)]
  unfold getH
  rw [hce, if_neg (by simp)]
  rw [show ((q : Int) + 1 + (i : Int)).toNat = q + 1 + i by omega]
def unU (ws : List Int) (q n i : Nat) : Us := (List.range n).map fun j => if j < i then BitVec.ofInt 16 (ws.getD (q + 1 + j) 0) else 0#16
theorem units_ok (k : Nat → Prop) (w : World) (hb : Nat) (ws : List Int) (lim : Int) (L : List Int) (p : Int) (hHP : HP k w hb ws lim L) (hW : WFH ws L) :
    Ret Tryd.prog 48 [.pointer (some ⟨hb, 0, none⟩), .int .i64 p] w (fun v w' => (∃ a2 c2, v = .tuple #[.slice a2 (unitsN ws L p).1.length c2, .int .i64 (unitsN ws L p).2] ∧ Sl w' 47 1 a2 (unitsN ws L p).1.length c2 ((unitsN ws L p).1.map u16v) ∧ ∀ z, a2 = some z → w.heap.size ≤ z.block) ∧ Keep [] w w') := by
  refine fn_enter (n := 48) Tryd.func48 rfl rfl (Nat.le_of_ble_eq_true rfl) (fun e => ?_)
  refine k_seq ?_
  refine k_region ?_
  refine m_sl rfl rfl ?_
  refine m_int rfl rfl ?_
  refine o_nil ?_
  refine k_seq ?_
  refine k_region ?_
  refine m_ptr rfl rfl ?_
  refine m_int rfl rfl ?_
  refine o_call rfl rfl (look_ok k w hb ws lim L p hHP hW) (fun v w1 hv => ?_)
  obtain ⟨rfl, rfl⟩ := hv
  refine m_any rfl rfl ?_
  refine o_extr rfl rfl ?_
  refine o_extr rfl rfl ?_
  refine o_extr rfl rfl ?_
  refine o_extr rfl rfl ?_
  refine m_int rfl rfl ?_
  refine m_int rfl rfl ?_
  refine m_int rfl rfl ?_
  refine m_int rfl rfl ?_
  refine o_nil ?_
  refine k_seq ?_
  refine k_seq ?_
  refine k_region ?_
  refine m_int rfl rfl ?_
  refine b_neq rfl rfl ?_
  refine o_nil ?_
  refine k_cond rfl (fun h => ?_) (fun h => ?_)
  ·
    refine k_seq ?_
    refine k_region ?_
    refine m_int rfl rfl ?_
    refine m_sl rfl rfl ?_
    refine m_int rfl rfl ?_
    refine o_nil ?_
    refine k_ret (ret_tmps (ts := [4, 5]) (v := .tuple #[.slice _ _ _, .int _ _]) rfl rfl ?_)
    have e : unitsN ws L p = ([], (lookH ws L p).2.2.2) := if_pos h
    rw [e]; exact ⟨⟨none, 0, rfl, Sl.nil _ _ _, by simp⟩, Keep.refl _ _⟩
  have h0 := Decidable.of_not_not h
  refine k_skip ?_
  refine k_seq ?_
  refine k_seq ?_
  refine k_region ?_
  refine m_int rfl rfl ?_
  refine b_neq rfl rfl ?_
  refine o_nil ?_
  refine k_cond rfl (fun h => ?_) (fun h => ?_)
  ·
    refine k_seq ?_
    refine k_region ?_
    refine m_sl rfl rfl ?_
    refine m_int rfl rfl ?_
    refine o_nil ?_
    refine k_ret (ret_tmps (ts := [4, 5]) (v := .tuple #[.slice _ _ _, .int _ _]) rfl rfl ?_)
    have e : unitsN ws L p = ([], 1) := by unfold unitsN; rw [if_neg (by simpa using h0), if_pos h]
    rw [e]; exact ⟨⟨none, 0, rfl, Sl.nil _ _ _, by simp⟩, Keep.refl _ _⟩
  have hk2 := Decidable.of_not_not h
  obtain ⟨q, hq, hpq, hqL, hq0, hlk, hn0, hnq⟩ := look_n hW h0
  subst hpq
  obtain ⟨n, hn⟩ : ∃ n : Nat, (openW (ws[q])).2.2.1 = (n : Int) := ⟨(openW (ws[q])).2.2.1.toNat, by omega⟩
  have hlen := hW.len
  have hlk2 : (lookH ws L q).2.2.1 = (n : Int) := by rw [hlk]; exact hn
  have e : unitsN ws L (q : Int) = (unU ws q n n, 0) := by
   unfold unitsN
   rw [if_neg (by simpa using h0), if_neg (by simpa using hk2), hlk2]
   refine congrArg (fun x => (x, (0 : Int))) ?_
   unfold unU
   refine List.map_congr_left fun j hj => ?_
   rw [if_pos (by simpa using hj)]
   rfl
  rw [hlk2]
  refine k_skip ?_
  refine k_seq ?_
  refine k_region ?_
  refine m_int rfl rfl ?_
  refine o_make Tryd.underlying77 inf47 rfl rfl (by simp [maxLen]; omega) (by omega) (fun g w2 hS2 hK2 hb2 hZ2 => ?_)
  have hS2' : Sl w2 47 1 (some ⟨g, 0, none⟩) n n ((unU ws q n 0).map u16v) := by
   have hz : (madeCells (Value.cells (.int .u16 0)) (n * 1)).toList = (unU ws q n 0).map u16v := by
    show (madeCells #[Value.int .u16 0] (n * 1)).toList = _
    rw [Nat.mul_one, toList_madeCells_one]
    apply List.ext_getElem
    · simp [unU]
    · intro i h1 h2; simp [unU, u16v]
   rw [← hz]; exact hS2
  refine m_sl rfl rfl ?_
  refine o_nil ?_
  refine k_seq ?_
  refine k_seq ?_
  refine k_region ?_
  refine m_sl rfl rfl ?_
  refine o_lens Tryd.underlying77 rfl ?_
  refine m_int rfl rfl ?_
  refine o_nil ?_
  refine k_block ?_
  refine k_loop (σ := Nat) (fun i => [(0, .pointer (some ⟨hb, 0, none⟩)), (1, .int .i64 (q : Int)), (10, .slice (some ⟨g, 0, none⟩) n n), (30, .int .i64 (n : Int)), (31, .int .i64 (i : Int))]) (fun i w' => i ≤ n ∧ Sl w' 47 1 (some ⟨g, 0, none⟩) n n ((unU ws q n i).map u16v) ∧ Keep [] w1 w') (fun i => n - i) 0 ⟨rfl, rfl, rfl, rfl, rfl, trivial⟩ ⟨Nat.zero_le _, hS2', hK2⟩ (fun i e w3 hJ => ?_)
  obtain ⟨hi, hS3, hK3⟩ := hJ
  refine k_seq ?_
  refine k_region ?_
  refine b_lss rfl rfl ?_
  refine o_nil ?_
  refine k_seq ?_
  refine k_cond rfl (fun h => ?_) (fun h => ?_)
  rotate_left
  ·
    have hie : i = n := by omega
    subst hie
    refine k_exit rfl ?_
    refine k_seq ?_
    refine k_region ?_
    refine m_sl rfl rfl ?_
    refine m_sl rfl rfl ?_
    refine m_int rfl rfl ?_
    refine o_nil ?_
    refine k_ret (ret_tmps (ts := [4, 5]) (v := .tuple #[.slice _ _ _, .int _ _]) rfl rfl ?_)
    have hul : (unU ws q i i).length = i := by simp [unU]
    rw [e, hul]
    exact ⟨⟨some ⟨g, 0, none⟩, i, rfl, hS3, by intro z hz; cases hz; simp; omega⟩, hK3⟩
  have hin : i < n := by omega
  have hge := get_at hW hq hqL hlk i (by rw [hn]; omega)
  refine k_skip ?_
  refine k_seq ?_
  refine k_block ?_
  refine k_seq ?_
  refine k_region ?_
  refine m_int rfl rfl ?_
  refine m_int rfl rfl ?_
  refine o_nil ?_
  refine k_seq ?_
  refine k_region ?_
  refine m_ptr rfl rfl ?_
  refine m_int rfl rfl ?_
  refine m_int rfl rfl ?_
  refine o_call rfl rfl (get_ok k w3 hb ws lim L (q : Int) (i : Int) (hHP.new hK3) hW) (fun v w4 hv => ?_)
  obtain ⟨rfl, rfl⟩ := hv
  rw [hge]
  obtain ⟨gg, cur, hae, hBg, hgs⟩ := hS3.blk (by omega)
  cases hae
  refine m_any rfl rfl ?_
  refine o_extr rfl rfl ?_
  refine o_extr rfl rfl ?_
  refine m_int rfl rfl ?_
  refine m_int rfl rfl ?_
  refine o_nil ?_
  refine k_region ?_
  refine m_sl rfl rfl ?_
  refine m_int rfl rfl ?_
  refine m_int rfl rfl ?_
  refine cv16 rfl Tryd.underlying47 rfl ?_
  refine o_ixs1 Tryd.underlying77 rfl rfl rfl hin ?_
  refine o_st (v := u16v (BitVec.ofInt 16 (ws.getD (q + 1 + i) 0))) rfl rfl rfl rfl hBg (by omega) (fun w5 hB5 hK5 hZ5 => ?_)
  have hS5 := Sl.set hS3 hin hBg hB5
  have hset : ((unU ws q n i).map u16v).set i (u16v (BitVec.ofInt 16 (ws.getD (q + 1 + i) 0))) = (unU ws q n (i + 1)).map u16v := by
   rw [← List.map_set]
   refine congrArg (List.map u16v) ?_
   apply List.ext_getElem
   · simp [unU]
   · intro j h1 h2
     rw [List.getElem_set]
     simp only [unU, List.getElem_map, List.getElem_range]
     by_cases hij : i = j
     · subst hij; rw [if_pos rfl, if_pos (by omega)]
     · rw [if_neg hij]
       by_cases hji : j < i
       · rw [if_pos hji, if_pos (by omega)]
       · rw [if_neg hji, if_neg (by omega)]
  rw [hset] at hS5
  refine o_nil ?_
  refine k_blk ?_
  refine k_region ?_
  refine n_add rfl rfl (by omega) ?_
  refine m_int rfl rfl ?_
  refine o_nil ?_
  refine k_goal ⟨i + 1, ⟨rfl, rfl, rfl, rfl, rfl, trivial⟩, ⟨by omega, hS5, hK3.trans hK5 (by simp; omega)⟩, by omega⟩
/-- what CharAt answers -/
def charN (ws L : List Int) (p i : Int) : Int × Int :=
  if (lookH ws L p).2.2.2 ≠ 0 then (0, (lookH ws L p).2.2.2)
  else if (lookH ws L p).1 ≠ 2 ∨ i < 0 ∨ (lookH ws L p).2.2.1 ≤ i then (0, 1)
  else (ui (BitVec.ofInt 16 (ws.getD (p.toNat + 1 + i.toNat) 0)), 0)
theorem char_ok (k : Nat → Prop) (w : World) (hb : Nat) (ws : List Int) (lim : Int) (L : List Int) (p i : Int) (hHP : HP k w hb ws lim L) (hW : WFH ws L) :
    Ret Tryd.prog 50 [.pointer (some ⟨hb, 0, none⟩), .int .i64 p, .int .i64 i] w (fun v w' => v = .tuple #[.int .i64 (charN ws L p i).1, .int .i64 (charN ws L p i).2] ∧ w' = w) := by
  refine fn_enter (n := 48) Tryd.func50 rfl rfl (Nat.le_of_ble_eq_true rfl) (fun e => ?_)
  refine k_seq ?_
  refine k_region ?_
  refine m_int rfl rfl ?_
  refine m_int rfl rfl ?_
  refine o_nil ?_
  refine k_seq ?_
  refine k_region ?_
  refine m_ptr rfl rfl ?_
  refine m_int rfl rfl ?_
  refine o_call rfl rfl (look_ok k w hb ws lim L p hHP hW) (fun v w1 hv => ?_)
  obtain ⟨rfl, rfl⟩ := hv
  refine m_any rfl rfl ?_
  refine o_extr rfl rfl ?_
  refine o_extr rfl rfl ?_
  refine o_extr rfl rfl ?_
  refine o_extr rfl rfl ?_
  refine m_int rfl rfl ?_
  refine m_int rfl rfl ?_
  refine m_int rfl rfl ?_
  refine m_int rfl rfl ?_
  refine o_nil ?_
  refine k_seq ?_
  refine k_block ?_
  refine k_seq ?_
  refine k_region ?_
  refine m_int rfl rfl ?_
  refine b_neq rfl rfl ?_
  refine m_bool rfl rfl ?_
  refine o_nil ?_
  refine k_cond rfl (fun h => ?_) (fun h => ?_)
  ·
    refine k_seq ?_
    refine k_region ?_
    refine m_int rfl rfl ?_
    refine m_int rfl rfl ?_
    refine m_int rfl rfl ?_
    refine o_nil ?_
    refine k_ret (ret_tmps (ts := [6, 7]) (v := .tuple #[.int _ _, .int _ _]) rfl rfl ?_)
    have e : charN ws L p i = (0, (lookH ws L p).2.2.2) := if_pos h
    rw [e]; exact ⟨rfl, rfl⟩
  have h0 := Decidable.of_not_not h
  have hno : (lookH ws L p).1 ≠ 2 ∨ i < 0 ∨ (lookH ws L p).2.2.1 ≤ i → charN ws L p i = (0, 1) := fun hh => by unfold charN; rw [if_neg (by simpa using h0), if_pos hh]
  refine k_seq ?_
  refine k_region ?_
  refine m_int rfl rfl ?_
  refine b_neq rfl rfl ?_
  refine m_bool rfl rfl ?_
  refine o_split (t := 28) rfl (fun h => ?_) (fun h => ?_)
  ·
    refine g_no rfl rfl rfl ?_
    refine g_no rfl rfl rfl ?_
    refine pick_t rfl rfl ?_
    refine m_bool rfl rfl ?_
    refine g_no rfl rfl rfl ?_
    refine g_no rfl rfl rfl ?_
    refine g_no rfl rfl rfl ?_
    refine pick_t rfl rfl ?_
    refine m_bool rfl rfl ?_
    refine o_nil ?_
    refine k_condt rfl ?_
    refine k_seq ?_
    refine k_region ?_
    refine m_int rfl rfl ?_
    refine m_int rfl rfl ?_
    refine o_nil ?_
    refine k_ret (ret_tmps (ts := [6, 7]) (v := .tuple #[.int _ _, .int _ _]) rfl rfl ?_)
    rw [hno (.inl h)]; exact ⟨rfl, rfl⟩
  ·
    have h28 := h
    refine g_yes rfl rfl ?_
    refine m_int rfl rfl ?_
    refine g_yes rfl rfl ?_
    refine b_lss rfl rfl ?_
    refine pick_f rfl rfl ?_
    refine m_bool rfl rfl ?_
    refine o_split (t := 32) rfl (fun h => ?_) (fun h => ?_)
    ·
      refine g_no rfl rfl rfl ?_
      refine g_no rfl rfl rfl ?_
      refine g_no rfl rfl rfl ?_
      refine pick_t rfl rfl ?_
      refine m_bool rfl rfl ?_
      refine o_nil ?_
      refine k_condt rfl ?_
      refine k_seq ?_
      refine k_region ?_
      refine m_int rfl rfl ?_
      refine m_int rfl rfl ?_
      refine o_nil ?_
      refine k_ret (ret_tmps (ts := [6, 7]) (v := .tuple #[.int _ _, .int _ _]) rfl rfl ?_)
      rw [hno (.inr (.inl h))]; exact ⟨rfl, rfl⟩
    ·
      have h32 := h
      refine g_yes rfl rfl ?_
      refine m_int rfl rfl ?_
      refine g_yes rfl rfl ?_
      refine m_int rfl rfl ?_
      refine g_yes rfl rfl ?_
      refine b_geq rfl rfl ?_
      refine pick_f rfl rfl ?_
      refine m_bool rfl rfl ?_
      refine o_nil ?_
      refine k_cond rfl (fun h => ?_) (fun h => ?_)
      ·
        refine k_seq ?_
        refine k_region ?_
        refine m_int rfl rfl ?_
        refine m_int rfl rfl ?_
        refine o_nil ?_
        refine k_ret (ret_tmps (ts := [6, 7]) (v := .tuple #[.int _ _, .int _ _]) rfl rfl ?_)
        rw [hno (.inr (.inr h))]; exact ⟨rfl, rfl⟩
      have e : charN ws L p i = (ui (BitVec.ofInt 16 (ws.getD (p.toNat + 1 + i.toNat) 0)), 0) := by unfold charN; rw [if_neg (by simpa using h0), if_neg (fun hh => hh.elim h28 (fun hh => hh.elim h32 h))]
      obtain ⟨q, hq, hpq, hqL, hq0, hlk, hn0, hnq⟩ := look_n hW h0
      subst hpq
      obtain ⟨j, hj⟩ : ∃ j : Nat, i = (j : Int) := ⟨i.toNat, by omega⟩
      subst hj
      have hge := get_at hW hq hqL hlk j (by rw [hlk] at h; simp only at h; omega)
      refine k_skip ?_
      refine k_blk ?_
      refine k_seq ?_
      refine k_region ?_
      refine m_ptr rfl rfl ?_
      refine m_int rfl rfl ?_
      refine m_int rfl rfl ?_
      refine o_call rfl rfl (get_ok k w1 hb ws lim L (q : Int) (j : Int) hHP hW) (fun v w4 hv => ?_)
      obtain ⟨rfl, rfl⟩ := hv
      rw [hge]
      refine m_any rfl rfl ?_
      refine o_extr rfl rfl ?_
      refine o_extr rfl rfl ?_
      refine m_int rfl rfl ?_
      refine m_int rfl rfl ?_
      refine o_nil ?_
      refine k_seq ?_
      refine k_region ?_
      refine m_int rfl rfl ?_
      refine cv16 rfl Tryd.underlying47 rfl ?_
      refine cv16_i rfl Tryd.underlying2 rfl ?_
      refine m_int rfl rfl ?_
      refine m_int rfl rfl ?_
      refine m_int rfl rfl ?_
      refine o_nil ?_
      refine k_ret (ret_tmps (ts := [6, 7]) (v := .tuple #[.int _ _, .int _ _]) rfl rfl ?_)
      rw [e]; exact ⟨rfl, rfl⟩
end Go.Proofs.YtchbidckckmobaaDoor

/-
  DERIVED: THE SHELF's CONTRACTS AT THIS DUMP, IN PLAIN WORDS (tools/lay-plain.mjs out of 'YtchbidckckmobaaDoorShelf.lean', which tools/lay-shelf.mjs wrote): THE SAME DECLARATIONS UNDER THE SAME NAMES: 'import', 'namespace', 'open', 'def', 'theorem' AND NOTHING ELSE: no command of the shelf's: FOR A HAND-IN. Each laying: the table of numbers ('.._ren') and one theorem, a field a fact of the dump's own or the kernel's comparison; each contract: ONE APPLICATION.
-/
namespace Go.Proofs
open Go.Shelf
def Tryd.lays173_ren : Go.Shelf.Ren := ⟨fun | 173 => 74 | 246 => 81 | 283 => 82 | 284 => 83 | 285 => 84 | 286 => 85 | 129 => 87 | 317 => 86 | 318 => 88 | 319 => 89 | 320 => 90 | 337 => 91 | 338 => 79 | n => n, fun | 2 => 2 | 3 => 3 | 9 => 9 | 4 => 4 | 171 => 123 | 0 => 0 | 53 => 105 | 37 => 34 | 5 => 5 | 173 => 125 | 212 => 129 | 51 => 130 | 20 => 20 | 213 => 131 | 46 => 49 | 232 => 134 | 233 => 121 | n => n, fun | 17 => 1 | 18 => 2 | 19 => 0 | n => n⟩
theorem Tryd.lays173 : Go.Proofs.LaysM.n173 Tryd.prog Tryd.lays173_ren := {
  mixed := by kernel_rfl
  f129 := Tryd.func87.trans (congrArg some (by kernel_rfl))
  f173 := Tryd.func74.trans (congrArg some (by kernel_rfl))
  f246 := Tryd.func81.trans (congrArg some (by kernel_rfl))
  f283 := Tryd.func82.trans (congrArg some (by kernel_rfl))
  f284 := Tryd.func83.trans (congrArg some (by kernel_rfl))
  f285 := Tryd.func84.trans (congrArg some (by kernel_rfl))
  f286 := Tryd.func85.trans (congrArg some (by kernel_rfl))
  f317 := Tryd.func86.trans (congrArg some (by kernel_rfl))
  f318 := Tryd.func88.trans (congrArg some (by kernel_rfl))
  f319 := Tryd.func89.trans (congrArg some (by kernel_rfl))
  f320 := Tryd.func90.trans (congrArg some (by kernel_rfl))
  f337 := Tryd.func91.trans (congrArg some (by kernel_rfl))
  f338 := Tryd.func79.trans (congrArg some (by kernel_rfl))
  t0 := Tryd.underlying0
  a0 := Tryd.isAgg0
  z0 := Tryd.sizeOf0
  v0 := Tryd.zeroValue0
  t2 := Tryd.underlying2
  a2 := Tryd.isAgg2
  z2 := Tryd.sizeOf2
  v2 := Tryd.zeroValue2
  t3 := Tryd.underlying3
  a3 := Tryd.isAgg3
  z3 := Tryd.sizeOf3
  v3 := Tryd.zeroValue3
  t4 := Tryd.underlying4
  a4 := Tryd.isAgg4
  z4 := Tryd.sizeOf4
  v4 := Tryd.zeroValue4
  t5 := Tryd.underlying5
  a5 := Tryd.isAgg5
  z5 := Tryd.sizeOf5
  v5 := Tryd.zeroValue5
  t9 := Tryd.underlying9
  a9 := Tryd.isAgg9
  z9 := Tryd.sizeOf9
  v9 := Tryd.zeroValue9
  t20 := Tryd.underlying20
  a20 := Tryd.isAgg20
  z20 := Tryd.sizeOf20
  v20 := Tryd.zeroValue20
  t37 := Tryd.underlying34
  a37 := Tryd.isAgg34
  z37 := Tryd.sizeOf34
  v37 := Tryd.zeroValue34
  t46 := Tryd.underlying49
  a46 := Tryd.isAgg49
  z46 := Tryd.sizeOf49
  v46 := Tryd.zeroValue49
  t51 := Tryd.underlying130
  a51 := Tryd.isAgg130
  z51 := Tryd.sizeOf130
  v51 := Tryd.zeroValue130
  t53 := Tryd.underlying105
  a53 := Tryd.isAgg105
  z53 := Tryd.sizeOf105
  v53 := Tryd.zeroValue105
  t171 := Tryd.underlying123
  a171 := Tryd.isAgg123
  z171 := Tryd.sizeOf123
  v171 := Tryd.zeroValue123
  t173 := Tryd.underlying125
  a173 := Tryd.isAgg125
  z173 := Tryd.sizeOf125
  v173 := Tryd.zeroValue125
  t212 := Tryd.underlying129
  a212 := Tryd.isAgg129
  z212 := Tryd.sizeOf129
  v212 := Tryd.zeroValue129
  t213 := Tryd.underlying131
  a213 := Tryd.isAgg131
  z213 := Tryd.sizeOf131
  t232 := Tryd.underlying134
  a232 := Tryd.isAgg134
  z232 := Tryd.sizeOf134
  v232 := Tryd.zeroValue134
  t233 := Tryd.underlying121
  a233 := Tryd.isAgg121
  z233 := Tryd.sizeOf121
  v233 := Tryd.zeroValue121
  g17 := by kernel_rfl
  g18 := by kernel_rfl
  g19 := by kernel_rfl
  i0 := by kernel_rfl
  i2 := by kernel_rfl
  i3 := by kernel_rfl
  i4 := by kernel_rfl
  i5 := by kernel_rfl
  i9 := by kernel_rfl
  i20 := by kernel_rfl
  i37 := by kernel_rfl
  i46 := by kernel_rfl
  i51 := by kernel_rfl
  i53 := by kernel_rfl
  i171 := by kernel_rfl
  i173 := by kernel_rfl
  i212 := by kernel_rfl
  i232 := by kernel_rfl
  i233 := by kernel_rfl
  m17 := by kernel_rfl
  m18 := by kernel_rfl
  m19 := by kernel_rfl }
def Tryd.lays29_ren : Go.Shelf.Ren := ⟨fun | 29 => 79 | n => n, fun | 22 => 105 | 3 => 3 | 4 => 4 | 25 => 49 | 54 => 121 | 0 => 0 | 5 => 5 | n => n, fun | 1 => 0 | n => n⟩
theorem Tryd.lays29 : Go.Proofs.Lays7.n29 Tryd.prog Tryd.lays29_ren := {
  mixed := by kernel_rfl
  f29 := Tryd.func79.trans (congrArg some (by kernel_rfl))
  t0 := Tryd.underlying0
  a0 := Tryd.isAgg0
  z0 := Tryd.sizeOf0
  v0 := Tryd.zeroValue0
  i0 := by kernel_rfl
  t3 := Tryd.underlying3
  a3 := Tryd.isAgg3
  z3 := Tryd.sizeOf3
  v3 := Tryd.zeroValue3
  i3 := by kernel_rfl
  t4 := Tryd.underlying4
  a4 := Tryd.isAgg4
  z4 := Tryd.sizeOf4
  v4 := Tryd.zeroValue4
  i4 := by kernel_rfl
  t5 := Tryd.underlying5
  a5 := Tryd.isAgg5
  z5 := Tryd.sizeOf5
  v5 := Tryd.zeroValue5
  i5 := by kernel_rfl
  t22 := Tryd.underlying105
  a22 := Tryd.isAgg105
  z22 := Tryd.sizeOf105
  v22 := Tryd.zeroValue105
  i22 := by kernel_rfl
  t25 := Tryd.underlying49
  a25 := Tryd.isAgg49
  z25 := Tryd.sizeOf49
  v25 := Tryd.zeroValue49
  i25 := by kernel_rfl
  t54 := Tryd.underlying121
  a54 := Tryd.isAgg121
  z54 := Tryd.sizeOf121
  g1 := by kernel_rfl }
end Go.Proofs

/- Native: Concat, Equal, Digits. No condition beyond what each contract names. -/
namespace Go.Proofs.YtchbidckckmobaaDoor
open Go.RowKit E
set_option linter.unusedVariables false
set_option linter.unusedSimpArgs false
set_option maxRecDepth 100000
attribute [local irreducible] ow qw kw kq cw opW Ret
def concN (ws L : List Int) (lim cl p q : Int) : Int × Int × List Int × List Int :=
  if (unitsN ws L p).2 ≠ 0 then (0, (unitsN ws L p).2, ws, L)
  else if (unitsN ws L q).2 ≠ 0 then (0, (unitsN ws L q).2, ws, L)
  else makeN ws L lim cl ((unitsN ws L p).1 ++ (unitsN ws L q).1)
theorem units_len {ws L : List Int} (hW : WFH ws L) (p : Int) : (unitsN ws L p).1.length ≤ 65537 := by
  unfold unitsN
  by_cases h0 : (lookH ws L p).2.2.2 = 0
  · rw [if_neg (by simpa using h0)]
    split
    · simp
    · obtain ⟨q, hq, hpq, hqL, hq0, hlk, hn0, hnq⟩ := look_n hW h0
      have := hW.len
      simp only [List.length_map, List.length_range, hlk]
      omega
  · rw [if_pos h0]; simp
theorem conc_ok (k : Nat → Prop) (w : World) (hb : Nat) (ws : List Int) (lim : Int) (L : List Int) (cl p q : Int) (hHP : HP k w hb ws lim L) (hW : WFH ws L) (hlim : lim ≤ 65536) (hu : (ws.length : Int) ≤ lim + 1) (hkw : ∀ b, w.heap.size ≤ b → k b) (hcl : -9223372036854775808 ≤ cl ∧ cl ≤ 9223372036854775807) :
    Ret Tryd.prog 46 [.pointer (some ⟨hb, 0, none⟩), .int .i64 cl, .int .i64 p, .int .i64 q] w (fun v w' => v = .tuple #[.int .i64 (concN ws L lim cl p q).1, .int .i64 (concN ws L lim cl p q).2.1] ∧ HRes k w hb lim w' (concN ws L lim cl p q).2.2.1 (concN ws L lim cl p q).2.2.2) := by
  have hl1 := units_len hW p
  have hl2 := units_len hW q
  refine fn_enter (n := 39) Tryd.func46 rfl rfl (Nat.le_of_ble_eq_true rfl) (fun e => ?_)
  refine k_seq ?_
  refine k_region ?_
  refine m_int rfl rfl ?_
  refine m_int rfl rfl ?_
  refine o_nil ?_
  refine k_seq ?_
  refine k_region ?_
  refine m_ptr rfl rfl ?_
  refine m_int rfl rfl ?_
  refine o_call rfl rfl (units_ok k w hb ws lim L p hHP hW) (fun v w1 hv => ?_)
  obtain ⟨⟨a1, c1, rfl, hS1, hf1⟩, hK1⟩ := hv
  refine m_any rfl rfl ?_
  refine o_extr rfl rfl ?_
  refine o_extr rfl rfl ?_
  refine m_sl rfl rfl ?_
  refine m_int rfl rfl ?_
  refine o_nil ?_
  refine k_seq ?_
  refine k_seq ?_
  refine k_region ?_
  refine m_int rfl rfl ?_
  refine b_neq rfl rfl ?_
  refine o_nil ?_
  refine k_cond rfl (fun h => ?_) (fun h => ?_)
  ·
    refine k_seq ?_
    refine k_region ?_
    refine m_int rfl rfl ?_
    refine m_int rfl rfl ?_
    refine m_int rfl rfl ?_
    refine o_nil ?_
    refine k_ret (ret_tmps (ts := [8, 9]) (v := .tuple #[.int _ _, .int _ _]) rfl rfl ?_)
    have e : concN ws L lim cl p q = (0, (unitsN ws L p).2, ws, L) := if_pos h
    rw [e]; exact ⟨rfl, hHP.new hK1, hW, hu, hK1.h⟩
  have h1 := Decidable.of_not_not h
  refine k_skip ?_
  refine k_seq ?_
  refine k_region ?_
  refine m_ptr rfl rfl ?_
  refine m_int rfl rfl ?_
  refine o_call rfl rfl (units_ok k w1 hb ws lim L q (hHP.new hK1) hW) (fun v w2 hv => ?_)
  obtain ⟨⟨a2, c2, rfl, hS2, hf2⟩, hK2⟩ := hv
  have hK02 := hK1.tr hK2
  refine m_any rfl rfl ?_
  refine o_extr rfl rfl ?_
  refine o_extr rfl rfl ?_
  refine m_sl rfl rfl ?_
  refine m_int rfl rfl ?_
  refine o_nil ?_
  refine k_seq ?_
  refine k_seq ?_
  refine k_region ?_
  refine m_int rfl rfl ?_
  refine b_neq rfl rfl ?_
  refine o_nil ?_
  refine k_cond rfl (fun h => ?_) (fun h => ?_)
  ·
    refine k_seq ?_
    refine k_region ?_
    refine m_int rfl rfl ?_
    refine m_int rfl rfl ?_
    refine m_int rfl rfl ?_
    refine o_nil ?_
    refine k_ret (ret_tmps (ts := [8, 9]) (v := .tuple #[.int _ _, .int _ _]) rfl rfl ?_)
    have e : concN ws L lim cl p q = (0, (unitsN ws L q).2, ws, L) := by unfold concN; rw [if_neg (by simpa using h1), if_pos h]
    rw [e]; exact ⟨rfl, hHP.new hK02, hW, hu, hK02.h⟩
  have e : concN ws L lim cl p q = makeN ws L lim cl ((unitsN ws L p).1 ++ (unitsN ws L q).1) := by unfold concN; rw [if_neg (by simpa using h1), if_neg h]
  refine k_skip ?_
  refine k_seq ?_
  refine k_region ?_
  refine m_ptr rfl rfl ?_
  refine m_int rfl rfl ?_
  refine m_sl rfl rfl ?_
  refine m_sl rfl rfl ?_
  refine o_app Tryd.underlying77 inf47 rfl (by decide) rfl rfl (hS1.new hK2) hS2.rd (by simp) (u16_one _) (by simp [maxLen]; omega) (by omega) (fun a3 c3 w3 hS3 hK3 hv3 => ?_)
  have hK03 : Keep [] w w3 := hK02.trb hK3 hf1
  rw [← List.map_append] at hS3
  have hll : (unitsN ws L p).1.length + (unitsN ws L q).1.length = ((unitsN ws L p).1 ++ (unitsN ws L q).1).length := by simp
  rw [hll] at hS3 ⊢
  refine o_call rfl rfl (make_ok k w3 hb ws lim L cl a3 c3 _ (hHP.new hK03) hW hlim hu (fun b hb => hkw b (by have := hK03.size; omega)) hcl hS3.rd (by rw [← hll]; omega) (fun w' hk' => (hS3.kh hk' (by decide)).rd)) (fun v w4 hv => ?_)
  obtain ⟨rfl, hH4, hW4, hu4, hK4⟩ := hv
  refine o_extr rfl rfl ?_
  refine o_extr rfl rfl ?_
  refine m_int rfl rfl ?_
  refine m_int rfl rfl ?_
  refine o_nil ?_
  refine k_ret (ret_tmps (ts := [8, 9]) (v := .tuple #[.int _ _, .int _ _]) rfl rfl ?_)
  rw [e]; exact ⟨rfl, hH4, hW4, hu4, hK03.h.tr hK4⟩
def equN (ws L : List Int) (p q : Int) : Bool := decide ((unitsN ws L p).2 = 0 ∧ (unitsN ws L q).2 = 0 ∧ (unitsN ws L p).1 = (unitsN ws L q).1)
theorem equ_ok (k : Nat → Prop) (w : World) (hb : Nat) (ws : List Int) (lim : Int) (L : List Int) (p q : Int) (hHP : HP k w hb ws lim L) (hW : WFH ws L) :
    Ret Tryd.prog 47 [.pointer (some ⟨hb, 0, none⟩), .int .i64 p, .int .i64 q] w (fun v w' => v = .bool (equN ws L p q) ∧ Keep [] w w') := by
  have hl1 := units_len hW p
  have hl2 := units_len hW q
  refine fn_enter (n := 52) Tryd.func47 rfl rfl (Nat.le_of_ble_eq_true rfl) (fun e => ?_)
  refine k_seq ?_
  refine k_region ?_
  refine m_bool rfl rfl ?_
  refine o_nil ?_
  refine k_seq ?_
  refine k_region ?_
  refine m_ptr rfl rfl ?_
  refine m_int rfl rfl ?_
  refine o_call rfl rfl (units_ok k w hb ws lim L p hHP hW) (fun v w1 hv => ?_)
  obtain ⟨⟨a1, c1, rfl, hS1, hf1⟩, hK1⟩ := hv
  refine m_any rfl rfl ?_
  refine o_extr rfl rfl ?_
  refine o_extr rfl rfl ?_
  refine m_sl rfl rfl ?_
  refine m_int rfl rfl ?_
  refine o_nil ?_
  refine k_seq ?_
  refine k_region ?_
  refine m_ptr rfl rfl ?_
  refine m_int rfl rfl ?_
  refine o_call rfl rfl (units_ok k w1 hb ws lim L q (hHP.new hK1) hW) (fun v w2 hv => ?_)
  obtain ⟨⟨a2, c2, rfl, hS2, hf2⟩, hK2⟩ := hv
  have hK02 := hK1.tr hK2
  obtain ⟨us, hus⟩ : ∃ us, (unitsN ws L p).1 = us := ⟨_, rfl⟩
  obtain ⟨vs, hvs⟩ : ∃ vs, (unitsN ws L q).1 = vs := ⟨_, rfl⟩
  rw [hus] at hS1 hl1 ⊢
  rw [hvs] at hS2 hl2 ⊢
  have hS1' := hS1.new hK2
  refine m_any rfl rfl ?_
  refine o_extr rfl rfl ?_
  refine o_extr rfl rfl ?_
  refine m_sl rfl rfl ?_
  refine m_int rfl rfl ?_
  refine o_nil ?_
  refine k_seq ?_
  refine k_seq ?_
  refine k_region ?_
  refine m_int rfl rfl ?_
  refine b_neq rfl rfl ?_
  refine m_bool rfl rfl ?_
  refine o_split (t := 26) rfl (fun h => ?_) (fun h => ?_)
  ·
    refine g_no rfl rfl rfl ?_
    refine g_no rfl rfl rfl ?_
    refine pick_t rfl rfl ?_
    refine m_bool rfl rfl ?_
    refine g_no rfl rfl rfl ?_
    refine g_no rfl rfl rfl ?_
    refine g_no rfl rfl rfl ?_
    refine g_no rfl rfl rfl ?_
    refine g_no rfl rfl rfl ?_
    refine pick_t rfl rfl ?_
    refine o_nil ?_
    refine k_condt rfl ?_
    refine k_seq ?_
    refine k_region ?_
    refine m_bool rfl rfl ?_
    refine o_nil ?_
    refine k_ret (ret_tmps (ts := [6]) (v := .bool _) rfl rfl ?_)
    exact ⟨congrArg Value.bool (decide_eq_false (fun hh => h hh.1)).symm, hK02⟩
  ·
    have h26 := Decidable.of_not_not h
    refine g_yes rfl rfl ?_
    refine m_int rfl rfl ?_
    refine g_yes rfl rfl ?_
    refine b_neq rfl rfl ?_
    refine pick_f rfl rfl ?_
    refine m_bool rfl rfl ?_
    refine o_split (t := 30) rfl (fun h => ?_) (fun h => ?_)
    ·
      refine g_no rfl rfl rfl ?_
      refine g_no rfl rfl rfl ?_
      refine g_no rfl rfl rfl ?_
      refine g_no rfl rfl rfl ?_
      refine g_no rfl rfl rfl ?_
      refine pick_t rfl rfl ?_
      refine o_nil ?_
      refine k_condt rfl ?_
      refine k_seq ?_
      refine k_region ?_
      refine m_bool rfl rfl ?_
      refine o_nil ?_
      refine k_ret (ret_tmps (ts := [6]) (v := .bool _) rfl rfl ?_)
      exact ⟨congrArg Value.bool (decide_eq_false (fun hh => h hh.2.1)).symm, hK02⟩
    ·
      have h30 := Decidable.of_not_not h
      refine g_yes rfl rfl ?_
      refine m_sl rfl rfl ?_
      refine g_yes rfl rfl ?_
      refine o_lens Tryd.underlying77 rfl ?_
      refine g_yes rfl rfl ?_
      refine m_sl rfl rfl ?_
      refine g_yes rfl rfl ?_
      refine o_lens Tryd.underlying77 rfl ?_
      refine g_yes rfl rfl ?_
      refine b_neq rfl rfl ?_
      refine pick_f rfl rfl ?_
      refine o_nil ?_
      refine k_cond rfl (fun h => ?_) (fun h => ?_)
      ·
        refine k_seq ?_
        refine k_region ?_
        refine m_bool rfl rfl ?_
        refine o_nil ?_
        refine k_ret (ret_tmps (ts := [6]) (v := .bool _) rfl rfl ?_)
        exact ⟨congrArg Value.bool (decide_eq_false (fun hh => h (by rw [← hus, ← hvs, hh.2.2]))).symm, hK02⟩
      have hlen : us.length = vs.length := by omega
      refine k_skip ?_
      refine k_seq ?_
      refine k_seq ?_
      refine k_region ?_
      refine m_sl rfl rfl ?_
      refine o_lens Tryd.underlying77 rfl ?_
      refine m_int rfl rfl ?_
      refine o_nil ?_
      refine k_block ?_
      refine k_loop (σ := Nat) (fun i => [(7, .slice a1 us.length c1), (9, .slice a2 vs.length c2), (38, .int .i64 (us.length : Int)), (39, .int .i64 (i : Int))]) (fun i w' => i ≤ us.length ∧ (∀ j, j < i → us[j]? = vs[j]?) ∧ Keep [] w2 w') (fun i => us.length - i) 0 ⟨rfl, rfl, rfl, rfl, trivial⟩ ⟨Nat.zero_le _, (fun j hj => by omega), Keep.refl _ _⟩ (fun i e w3 hJ => ?_)
      obtain ⟨hi, hpre, hK3⟩ := hJ
      refine k_seq ?_
      refine k_region ?_
      refine b_lss rfl rfl ?_
      refine o_nil ?_
      refine k_seq ?_
      refine k_cond rfl (fun h => ?_) (fun h => ?_)
      rotate_left
      ·
        refine k_exit rfl ?_
        refine k_seq ?_
        refine k_region ?_
        refine m_bool rfl rfl ?_
        refine o_nil ?_
        refine k_ret (ret_tmps (ts := [6]) (v := .bool _) rfl rfl ?_)
        refine ⟨congrArg Value.bool (decide_eq_true ⟨h26, h30, ?_⟩).symm, hK02.tr hK3⟩
        rw [hus, hvs]
        refine List.ext_getElem? fun j => ?_
        by_cases hj : j < us.length
        · exact hpre j (by omega)
        · rw [List.getElem?_eq_none (by omega), List.getElem?_eq_none (by omega)]
      have hin : i < us.length := by omega
      have hx := u16_at us i hin
      have hy := u16_at vs i (by omega)
      have hRx := hS1'.rd
      have hRy := hS2.rd
      obtain ⟨b1, o1, hae, _⟩ := hRx _ _ hx
      obtain ⟨b2, o2, hbe, _⟩ := hRy _ _ hy
      subst hae hbe
      refine k_skip ?_
      refine k_seq ?_
      refine k_block ?_
      refine k_seq ?_
      refine k_region ?_
      refine m_int rfl rfl ?_
      refine m_int rfl rfl ?_
      refine o_nil ?_
      refine k_seq ?_
      refine k_qk 8 rfl rfl rfl rfl rfl ?_
      refine q_step (fun w1 hC => m_sl rfl rfl (o_nil ⟨rfl, hC⟩)) ?_
      refine q_step (fun w1 hC => m_int rfl rfl (o_nil ⟨rfl, hC⟩)) ?_
      refine q_step (fun w1 hC => o_ixs1 Tryd.underlying77 rfl rfl rfl hin (o_nil ⟨rfl, hC⟩)) ?_
      refine q_step (fun w1 hC => o_ld rfl rfl (hRx.cellK (hK3.tr hC) hx) (o_nil ⟨rfl, hC⟩)) ?_
      refine q_step (fun w1 hC => m_sl rfl rfl (o_nil ⟨rfl, hC⟩)) ?_
      refine q_step (fun w1 hC => m_int rfl rfl (o_nil ⟨rfl, hC⟩)) ?_
      refine q_step (fun w1 hC => o_ixs1 Tryd.underlying77 rfl rfl rfl (by omega) (o_nil ⟨rfl, hC⟩)) ?_
      refine q_step (fun w1 hC => o_ld rfl rfl (hRy.cellK (hK3.tr hC) hy) (o_nil ⟨rfl, hC⟩)) ?_
      refine q_nil ?_
      intro w4 hC4
      refine v16_neq rfl rfl ?_
      refine o_nil ?_
      refine k_cond rfl (fun h => ?_) (fun h => ?_)
      ·
        refine k_seq ?_
        refine k_region ?_
        refine m_bool rfl rfl ?_
        refine o_nil ?_
        refine k_ret (ret_tmps (ts := [6]) (v := .bool _) rfl rfl ?_)
        refine ⟨congrArg Value.bool (decide_eq_false (fun hh => h ?_)).symm, (hK02.tr hK3).tr hC4⟩
        have he := hh.2.2
        rw [hus, hvs] at he
        subst he
        rfl
      refine k_skip ?_
      refine k_blk ?_
      refine k_region ?_
      refine n_add rfl rfl (by omega) ?_
      refine m_int rfl rfl ?_
      refine o_nil ?_
      refine k_goal ⟨i + 1, ⟨rfl, rfl, rfl, rfl, trivial⟩, ⟨by omega, fun j hj => ?_, hK3.tr hC4⟩, by omega⟩
      by_cases hji : j = i
      · rw [hji, List.getElem?_eq_getElem hin, List.getElem?_eq_getElem (by omega)]
        exact congrArg some (Decidable.of_not_not h)
      · exact hpre j (by omega)
/-- the table that the digits read -/
def Tab10 (w : World) : Prop := Lib.TabIs Tryd.prog w "internal/strconv.uint64pow10" .u64 Lib.pow10Tab
theorem Tab10.new {w w' : World} (h : Tab10 w) (hK : Keep [] w w') : Tab10 w' :=
  by
  unfold Tab10 Lib.TabIs World.var? at h ⊢
  generalize Tryd.prog.globalNamed "internal/strconv.uint64pow10" = og at h ⊢
  cases og with
  | none => exact h
  | some g =>
    simp only [Option.bind_some] at h ⊢
    have hlt : g < w.heap.size := by
      rcases Nat.lt_or_ge g w.heap.size with h' | h'
      · exact h'
      · rw [Array.getElem?_eq_none h'] at h; cases h
    rw [hK.below.block g hlt]
    exact h
theorem fmt_ok (w : World) (n : Int) (h0 : -9223372036854775808 ≤ n) (h1 : n ≤ 9223372036854775807) (ht : Tab10 w) :
    Ret Tryd.prog 74 [.int .i64 n, .int .i64 10] w (fun v w' => v = .string ⟨(Lib.itoa n).toArray⟩ ∧ Keep [] w w') := by
  unfold Ret
  refine Calls.mono (f := 74) (args := #[.int .i64 n, .int .i64 10]) (Go.Proofs.Any.strconv_FormatInt_10 Go.Proofs.Tryd.lays173 n h0 h1 w ht) fun e w' he => ?_
  obtain ⟨rfl, k, os, rfl⟩ := he
  refine ⟨rfl, rfl, rfl, rfl, by simp [Sort.grow], fun b hb _ => ?_⟩
  show (w.heap ++ os)[b]? = _
  rw [Array.getElem?_append_left hb]
theorem digits_ok (w : World) (n : Int) (h0 : -9223372036854775808 ≤ n) (h1 : n ≤ 9223372036854775807) (ht : Tab10 w) :
    Ret Tryd.prog 43 [.int .i64 n] w (fun v w' => v = .string ⟨(Lib.itoa n).toArray⟩ ∧ Keep [] w w') := by
  refine fn_enter (n := 5) Tryd.func43 rfl rfl (Nat.le_of_ble_eq_true rfl) (fun e => ?_)
  refine k_seq ?_
  refine k_region ?_
  refine m_str rfl rfl ?_
  refine o_nil ?_
  refine k_seq ?_
  refine k_region ?_
  refine m_int rfl rfl ?_
  refine o_call rfl rfl (fmt_ok w n h0 h1 ht) (fun v w1 hv => ?_)
  obtain ⟨rfl, hK1⟩ := hv
  refine m_str rfl rfl ?_
  refine o_nil ?_
  refine k_ret (ret_tmps (ts := [2]) (v := .string _) rfl rfl ?_)
  exact ⟨rfl, hK1⟩
end Go.Proofs.YtchbidckckmobaaDoor

/- What the listed tables give; the door's own start. No condition beyond what each lemma names. -/
namespace Go.Proofs.YtchbidckckmobaaDoor
open Go.RowKit E
set_option linter.unusedVariables false
set_option linter.unusedSimpArgs false
set_option maxRecDepth 100000
attribute [local irreducible] ow qw kw kq cw opW Ret
def lst3 : List (String × DataW Unit) := [("math/bits.deBruijn32tab", Rows.laid_math_bits_deBruijn32tab), ("math/bits.deBruijn64tab", Rows.laid_math_bits_deBruijn64tab), ("internal/strconv.uint64pow10", Rows.laid_internal_strconv_uint64pow10)]
def lst1 : List (String × DataW Unit) := [("math/bits.deBruijn64tab", Rows.laid_math_bits_deBruijn64tab)]
theorem door_met3 (os : Os) (args : Array Value) : laidMetH Tryd.prog lst3 ((World.doorLaid Tryd.prog 24 os).forCall (fun _ _ => 0) ⟨#[], args, []⟩).memory :=
  laidMetH_of_parts3 (fuel := 8) (laidMet_of_run' 8 (by kernel_rfl) (by kernel_rfl)) (by kernel_rfl) (by kernel_rfl)
theorem door_met1 (os : Os) (args : Array Value) : laidMetH Tryd.prog lst1 ((World.doorLaid Tryd.prog 24 os).forCall (fun _ _ => 0) ⟨#[], args, []⟩).memory :=
  laidMetH_of_parts3 (fuel := 8) (laidMet_of_run' 8 (by kernel_rfl) (by kernel_rfl)) (by kernel_rfl) (by kernel_rfl)
theorem g10 : Tryd.prog.globalNamed "internal/strconv.uint64pow10" = some 1 := by kernel_rfl
theorem g10t : (Tryd.prog.globals[1]?).map (·.type) = some 129 := by kernel_rfl
theorem tab10_of {W : World} (h : laidMetH Tryd.prog lst3 W) : Tab10 W := by
  rw [MakeChecks.laidMetH_plain _ _ _ (by kernel_rfl)] at h
  obtain ⟨ps, ⟨g0, t0, cs0, f0, p0, q0, hg0, ht0, hv0, hd0, ⟨g1, t1, cs1, f1, p1, q1, hg1, ht1, hv1, hd1, ⟨g2, t2, cs2, f2, p2, q2, hg2, ht2, hv2, hd2, _, _⟩, _⟩, _⟩, _, _⟩ := h
  obtain rfl := Option.some.inj (g10.symm.trans hg2)
  obtain rfl := Option.some.inj (g10t.symm.trans ht2)
  unfold Tab10 Lib.TabIs
  rw [hv2, ← Lib.cells_of_tab (zs := Lib.pow10Tab) (k := .u64) Tryd.underlying129 Tryd.underlying105 (by kernel_rfl) (by kernel_rfl) (show DataW.trod _ _ _ _ _ _ _ _ _ = some (Lib.tabData .u64 Lib.pow10Tab, p2) from hd2)]
end Go.Proofs.YtchbidckckmobaaDoor

/- law24.fixed. No condition beyond what each contract names. -/
namespace Go.Proofs.YtchbidckckmobaaDoor
open Go.RowKit E
set_option linter.unusedVariables false
set_option linter.unusedSimpArgs false
set_option maxRecDepth 100000
attribute [local irreducible] ow qw kw kq cw opW Ret
theorem fx1 : makeN [0] [] 50 1 [97#16, 98#16] = (1, 0, [0, 524294, 97, 98], [1]) := by decide
theorem fx2 : makeN [0, 524294, 97, 98] [1] 50 1 [99#16] = (4, 0, [0, 524294, 97, 98, 262150, 99], [1, 4]) := by decide
theorem fx3 : concN [0, 524294, 97, 98, 262150, 99] [1, 4] 50 1 1 4 = (6, 0, [0, 524294, 97, 98, 262150, 99, 786438, 97, 98, 99], [1, 4, 6]) := by decide
theorem fx4 : unitsN [0, 524294, 97, 98, 262150, 99, 786438, 97, 98, 99] [1, 4, 6] 6 = ([97#16, 98#16, 99#16], 0) := by decide
theorem fx5 : charN [0, 524294, 97, 98, 262150, 99, 786438, 97, 98, 99] [1, 4, 6] 6 1 = (98, 0) := by decide
theorem fx6 : charN [0, 524294, 97, 98, 262150, 99, 786438, 97, 98, 99] [1, 4, 6] 6 3 = (0, 1) := by decide
theorem digs_lt {u : Nat} (h : u < 10) : Lib.decDigits u = [UInt8.ofNat (48 + u)] := by rw [Lib.decDigits, dif_pos h]
theorem digs_ge {u : Nat} (h : ¬ u < 10) : Lib.decDigits u = Lib.decDigits (u / 10) ++ [UInt8.ofNat (48 + u % 10)] := by rw [Lib.decDigits, dif_neg h]
theorem fx7 : Value.string ⟨#[45, 57, 50, 50, 51, 51, 55, 50, 48, 51, 54, 56, 53, 52, 55, 55, 53, 56, 48, 56]⟩ = .string ⟨(Lib.itoa (-9223372036854775808)).toArray⟩ := by
  have e : Lib.itoa (-9223372036854775808) = [45, 57, 50, 50, 51, 51, 55, 50, 48, 51, 54, 56, 53, 52, 55, 55, 53, 56, 48, 56] := by
    show (if (-9223372036854775808 : Int) < 0 then 45 :: Lib.decDigits 9223372036854775808 else _) = _
    rw [if_pos (by decide)]
    repeat rw [digs_ge (by decide)]
    rw [digs_lt (by decide)]
    rfl
  rw [e]
theorem fx8 : Value.string ⟨#[48]⟩ = .string ⟨(Lib.itoa 0).toArray⟩ := by
  have e : Lib.itoa 0 = [48] := by
    show (if (0 : Int) < 0 then _ else Lib.decDigits 0) = _
    rw [if_neg (by decide), digs_lt (by decide)]
    rfl
  rw [e]
theorem fixed24_ok (w : World) (ht : Tab10 w) : Ret Tryd.prog 42 [] w (fun v w' => v = .bool true ∧ Keep [] w w') := by
  refine fn_enter (n := 103) Tryd.func42 rfl rfl (Nat.le_of_ble_eq_true rfl) (fun e => ?_)
  refine k_seq ?_
  refine k_region ?_
  refine m_bool rfl rfl ?_
  refine o_nil ?_
  refine k_seq ?_
  refine k_region ?_
  refine o_call rfl rfl (hnew_ok w 50) (fun v w1 hv => ?_)
  obtain ⟨hK1, hv⟩ := hv
  rw [if_pos (by decide)] at hv
  obtain ⟨hb, rfl, hH1⟩ := hv
  refine m_any rfl rfl ?_
  refine o_extr rfl rfl ?_
  refine o_extr rfl rfl ?_
  refine m_ptr rfl rfl ?_
  refine m_int rfl rfl ?_
  refine o_nil ?_
  refine k_seq ?_
  refine k_seq ?_
  refine k_region ?_
  refine m_ptr rfl rfl ?_
  refine b_eqlp Tryd.underlying41 rfl rfl ?_
  refine o_nil ?_
  refine k_no rfl ((by intro h; cases h)) ?_
  refine k_skip ?_
  refine k_seq ?_
  refine k_region ?_
  refine m_ptr rfl rfl ?_
  refine o_bsl (E := 47) (cs := #[u16v 97#16, u16v 98#16]) rfl (fun _ => by kernel_rfl) (fun g2 w2 hB2 hK2 hb2 hZ2 => ?_)
  have hS2 : Sl w2 47 1 (some ⟨g2, 0, none⟩) 2 2 (([97#16, 98#16] : Us).map u16v) := hB2.sl (len := 2) (sz := 1) rfl (by decide)
  refine o_call rfl rfl (make_ok (fun b => w.heap.size ≤ b) w2 hb [0] 50 [] 1 (some ⟨g2, 0, none⟩) 2 [97#16, 98#16] (hH1.new hK2) WFH.one (by decide) (by decide) (fun b hb => by have := hK1.size; have := hK2.size; show w.heap.size ≤ b; omega) (by decide) hS2.rd (by decide) (fun w' hk' => (hS2.kh hk' (by decide)).rd)) (fun v w3 hv => ?_)
  rw [fx1] at hv
  obtain ⟨rfl, hH3, hW3, hu3, hKH3⟩ := hv
  dsimp only at hH3 hW3 hu3 ⊢
  refine m_any rfl rfl ?_
  refine o_extr rfl rfl ?_
  refine o_extr rfl rfl ?_
  refine m_int rfl rfl ?_
  refine m_int rfl rfl ?_
  refine o_nil ?_
  refine k_seq ?_
  refine k_region ?_
  refine m_ptr rfl rfl ?_
  refine o_bsl (E := 47) (cs := #[u16v 99#16]) rfl (fun _ => by kernel_rfl) (fun g4 w4 hB4 hK4 hb4 hZ4 => ?_)
  have hS4 : Sl w4 47 1 (some ⟨g4, 0, none⟩) 1 1 (([99#16] : Us).map u16v) := hB4.sl (len := 1) (sz := 1) rfl (by decide)
  have hz4 : w.heap.size ≤ w4.heap.size := by have := hK1.size; have := hK2.size; have := hKH3.size; have := hK4.size; omega
  refine o_call rfl rfl (make_ok (fun b => w.heap.size ≤ b) w4 hb [0, 524294, 97, 98] 50 [1] 1 (some ⟨g4, 0, none⟩) 1 [99#16] (hH3.new hK4) hW3 (by decide) (by decide) (fun b hb => by show w.heap.size ≤ b; omega) (by decide) hS4.rd (by decide) (fun w' hk' => (hS4.kh hk' (by decide)).rd)) (fun v w5 hv => ?_)
  rw [fx2] at hv
  obtain ⟨rfl, hH5, hW5, hu5, hKH5⟩ := hv
  dsimp only at hH5 hW5 hu5 ⊢
  refine m_any rfl rfl ?_
  refine o_extr rfl rfl ?_
  refine o_extr rfl rfl ?_
  refine m_int rfl rfl ?_
  refine m_int rfl rfl ?_
  refine o_nil ?_
  refine k_seq ?_
  refine k_region ?_
  refine m_ptr rfl rfl ?_
  refine m_int rfl rfl ?_
  refine m_int rfl rfl ?_
  refine o_call rfl rfl (conc_ok (fun b => w.heap.size ≤ b) w5 hb _ 50 _ 1 1 4 hH5 hW5 (by decide) (by decide) (fun b hb => by have := hKH5.size; show w.heap.size ≤ b; omega) (by decide)) (fun v w6 hv => ?_)
  rw [fx3] at hv
  obtain ⟨rfl, hH6, hW6, hu6, hKH6⟩ := hv
  dsimp only at hH6 hW6 hu6 ⊢
  refine m_any rfl rfl ?_
  refine o_extr rfl rfl ?_
  refine o_extr rfl rfl ?_
  refine m_int rfl rfl ?_
  refine m_int rfl rfl ?_
  refine o_nil ?_
  refine k_seq ?_
  refine k_region ?_
  refine m_ptr rfl rfl ?_
  refine m_int rfl rfl ?_
  refine o_call rfl rfl (units_ok (fun b => w.heap.size ≤ b) w6 hb _ 50 _ 6 hH6 hW6) (fun v w7 hv => ?_)
  rw [fx4] at hv
  obtain ⟨⟨a7, c7, rfl, hS7, hf7⟩, hK7⟩ := hv
  dsimp only at hS7 ⊢
  refine m_any rfl rfl ?_
  refine o_extr rfl rfl ?_
  refine o_extr rfl rfl ?_
  refine m_sl rfl rfl ?_
  refine m_int rfl rfl ?_
  refine o_nil ?_
  refine k_seq ?_
  refine k_region ?_
  refine m_ptr rfl rfl ?_
  refine m_int rfl rfl ?_
  refine o_call rfl rfl (char_ok (fun b => w.heap.size ≤ b) w7 hb _ 50 _ 6 1 (hH6.new hK7) hW6) (fun v w8 hv => ?_)
  rw [fx5] at hv
  obtain ⟨rfl, rfl⟩ := hv
  dsimp only
  refine m_any rfl rfl ?_
  refine o_extr rfl rfl ?_
  refine o_extr rfl rfl ?_
  refine m_int rfl rfl ?_
  refine m_int rfl rfl ?_
  refine o_nil ?_
  refine k_seq ?_
  refine k_region ?_
  refine m_ptr rfl rfl ?_
  refine m_int rfl rfl ?_
  refine o_call rfl rfl (char_ok (fun b => w.heap.size ≤ b) w8 hb _ 50 _ 6 3 (hH6.new hK7) hW6) (fun v w9 hv => ?_)
  rw [fx6] at hv
  obtain ⟨rfl, rfl⟩ := hv
  have hK : Keep [] w w9 := ((((hK2.h (k := fun b => w.heap.size ≤ b)).tr hKH3).tr hK4.h).tr (hKH5.tr hKH6) |>.below hK1 (fun b hb => hb)).tr hK7
  have hR7 := hS7.rd
  obtain ⟨b7, o7, ha7, _⟩ := hR7 2 _ (u16_at _ 2 (by decide))
  subst ha7
  dsimp only
  refine m_any rfl rfl ?_
  refine o_extr rfl rfl ?_
  refine o_extr rfl rfl ?_
  refine m_int rfl rfl ?_
  refine m_int rfl rfl ?_
  refine o_nil ?_
  refine k_seq ?_
  refine k_region ?_
  refine m_int rfl rfl ?_
  refine b_eql rfl rfl ?_
  refine m_bool rfl rfl ?_
  refine o_true (t := 60) rfl (rfl) ?_
  refine g_yes rfl rfl ?_
  refine m_int rfl rfl ?_
  refine g_yes rfl rfl ?_
  refine b_eql rfl rfl ?_
  refine pick_t rfl rfl ?_
  refine m_bool rfl rfl ?_
  refine o_true (t := 64) rfl (rfl) ?_
  refine g_yes rfl rfl ?_
  refine m_int rfl rfl ?_
  refine g_yes rfl rfl ?_
  refine b_eql rfl rfl ?_
  refine pick_t rfl rfl ?_
  refine m_bool rfl rfl ?_
  refine o_true (t := 68) rfl (rfl) ?_
  refine g_yes rfl rfl ?_
  refine m_int rfl rfl ?_
  refine g_yes rfl rfl ?_
  refine b_eql rfl rfl ?_
  refine pick_t rfl rfl ?_
  refine m_bool rfl rfl ?_
  refine o_true (t := 72) rfl (rfl) ?_
  refine g_yes rfl rfl ?_
  refine m_sl rfl rfl ?_
  refine g_yes rfl rfl ?_
  refine o_lens Tryd.underlying77 rfl ?_
  refine g_yes rfl rfl ?_
  refine b_eql rfl rfl ?_
  refine pick_t rfl rfl ?_
  refine m_bool rfl rfl ?_
  refine o_true (t := 77) rfl (rfl) ?_
  refine g_yes rfl rfl ?_
  refine m_sl rfl rfl ?_
  refine g_yes rfl rfl ?_
  refine o_ixs1 (m := 2) Tryd.underlying77 rfl rfl rfl (by decide) ?_
  refine g_yes rfl rfl ?_
  refine o_ld rfl rfl (hR7.cellK (Keep.refl _ _) (u16_at _ 2 (by decide))) ?_
  refine g_yes rfl rfl ?_
  refine v16_eql (b := 99#16) rfl rfl ?_
  refine pick_t rfl rfl ?_
  refine m_bool rfl rfl ?_
  refine o_true (t := 83) rfl (rfl) ?_
  refine g_yes rfl rfl ?_
  refine m_int rfl rfl ?_
  refine g_yes rfl rfl ?_
  refine b_eql rfl rfl ?_
  refine pick_t rfl rfl ?_
  refine m_bool rfl rfl ?_
  refine o_true (t := 87) rfl (rfl) ?_
  refine g_yes rfl rfl ?_
  refine m_int rfl rfl ?_
  refine g_yes rfl rfl ?_
  refine b_eql rfl rfl ?_
  refine pick_t rfl rfl ?_
  refine m_bool rfl rfl ?_
  refine o_true (t := 91) rfl (rfl) ?_
  refine g_yes rfl rfl ?_
  refine m_int rfl rfl ?_
  refine g_yes rfl rfl ?_
  refine b_eql rfl rfl ?_
  refine pick_t rfl rfl ?_
  refine m_bool rfl rfl ?_
  refine o_true (t := 95) rfl (rfl) ?_
  refine g_yes rfl rfl ?_
  refine o_call rfl rfl (digits_ok w9 (-9223372036854775808) (by decide) (by decide) (ht.new hK)) (fun v w10 hv => ?_)
  obtain ⟨rfl, hK10⟩ := hv
  refine g_yes rfl rfl ?_
  refine b_eqlstr (a := ⟨(Lib.itoa (-9223372036854775808)).toArray⟩) (b := ⟨(Lib.itoa (-9223372036854775808)).toArray⟩) Tryd.underlying9 rfl fx7 ?_
  refine pick_t rfl rfl ?_
  refine m_bool rfl rfl ?_
  refine o_true (t := 99) rfl (rfl) ?_
  refine g_yes rfl rfl ?_
  refine o_call rfl rfl (digits_ok w10 0 (by decide) (by decide) ((ht.new hK).new hK10)) (fun v w11 hv => ?_)
  obtain ⟨rfl, hK11⟩ := hv
  refine g_yes rfl rfl ?_
  refine b_eqlstr (a := ⟨(Lib.itoa 0).toArray⟩) (b := ⟨(Lib.itoa 0).toArray⟩) Tryd.underlying9 rfl fx8 ?_
  refine pick_t rfl rfl ?_
  refine m_bool rfl rfl ?_
  refine o_nil ?_
  refine k_ret (ret_tmps (ts := [0]) (v := .bool _) rfl rfl ?_)
  exact ⟨congrArg Value.bool (decide_eq_true rfl), (hK.tr hK10).tr hK11⟩
end Go.Proofs.YtchbidckckmobaaDoor

/- Strings of the heap, plain; SameUnits. No condition beyond what each lemma names. -/
namespace Go.Proofs.YtchbidckckmobaaDoor
open Go.RowKit E
set_option linter.unusedVariables false
set_option linter.unusedSimpArgs false
set_option maxRecDepth 100000
attribute [local irreducible] ow qw kw kq cw opW Ret
/-- at p there lies a string of the units us -/
def StrAt (ws L : List Int) (p : Int) (us : Us) : Prop := ∃ (q : Nat) (c m : Int), p = q ∧ p ∈ L ∧ openW (ws.getD q 0) = (2, c, (us.length : Int), m, 0) ∧ q + 1 + us.length ≤ ws.length ∧ ∀ i (h : i < us.length), ws.getD (q + 1 + i) 0 = ui (us[i])
theorem getD_app {l t : List Int} {i : Nat} (h : i < l.length) : (l ++ t).getD i 0 = l.getD i 0 := by
  simp [List.getD, List.getElem?_append_left h]
theorem StrAt.app {ws L : List Int} {p : Int} {us : Us} (h : StrAt ws L p us) (t M : List Int) : StrAt (ws ++ t) (L ++ M) p us := by
  obtain ⟨q, c, m, rfl, hp, ho, hl, hu⟩ := h
  refine ⟨q, c, m, rfl, List.mem_append_left _ hp, ?_, by simp; omega, fun i hi => ?_⟩
  · rw [getD_app (by omega)]; exact ho
  · rw [getD_app (by omega)]; exact hu i hi
theorem StrAt.look {ws L : List Int} {p : Int} {us : Us} (h : StrAt ws L p us) : ∃ c, lookH ws L p = (2, c, (us.length : Int), 0) := by
  obtain ⟨q, c, m, rfl, hp, ho, hl, hu⟩ := h
  exact ⟨c, by rw [look_in hp, show (q : Int).toNat = q from by omega, ho]⟩
theorem ui_back (u : BitVec 16) : BitVec.ofInt 16 (ui u) = u := by unfold ui; simp
theorem StrAt.units {ws L : List Int} {p : Int} {us : Us} (h : StrAt ws L p us) : unitsN ws L p = (us, 0) := by
  obtain ⟨c, hk⟩ := h.look
  obtain ⟨q, c', m, rfl, hp, ho, hl, hu⟩ := h
  unfold unitsN
  rw [hk, if_neg (by simp), if_neg (by simp)]
  refine Prod.ext ?_ rfl
  show (List.range ((us.length : Int)).toNat).map _ = us
  refine List.ext_getElem (by simp) fun i h1 h2 => ?_
  simp only [List.getElem_map, List.getElem_range, show (q : Int).toNat = q from by omega]
  rw [hu i h2, ui_back]
theorem StrAt.char {ws L : List Int} {p : Int} {us : Us} (h : StrAt ws L p us) (i : Nat) (hi : i < us.length) : charN ws L p (i : Int) = (ui (us[i]), 0) := by
  obtain ⟨c, hk⟩ := h.look
  obtain ⟨q, c', m, rfl, hp, ho, hl, hu⟩ := h
  unfold charN
  rw [hk, if_neg (by simp), if_neg (by simp; omega)]
  rw [show (q : Int).toNat = q from by omega, show (i : Int).toNat = i from by omega, hu i hi, ui_back]
theorem StrAt.charEnd {ws L : List Int} {p : Int} {us : Us} (h : StrAt ws L p us) (i : Int) (hi : i < 0 ∨ (us.length : Int) ≤ i) : charN ws L p i = (0, 1) := by
  obtain ⟨c, hk⟩ := h.look
  unfold charN
  rw [hk, if_neg (by simp), if_pos (by simp; omega)]
/-- Make, where there is room -/
theorem make_fits {ws L : List Int} {lim cl : Int} {us : Us} (hc : 0 ≤ cl ∧ cl ≤ 65535) (hr : (us.length : Int) < lim - ((ws.length : Int) - 1)) (hn : us.length ≤ 65536) :
    ∃ t M, makeN ws L lim cl us = ((ws.length : Int), 0, ws ++ t, L ++ M) ∧ t.length = us.length + 1 ∧ StrAt (ws ++ t) (L ++ M) (ws.length : Int) us := by
  have hok : hOk 2 cl us.length 0 := ⟨by decide, by decide, hc.1, hc.2, by omega, by omega, fun _ => rfl, fun h => by cases h⟩
  have hh := head_yes hok
  have hlay : (layH ws L lim 2 cl us.length 0).2.1 = 0 := by
    unfold layH
    rw [if_neg (by omega), if_neg (by omega), hh, if_neg (by simp)]
  refine ⟨(headW 2 cl us.length 0).1 :: us.map ui, [(ws.length : Int)], ?_, by simp, ⟨ws.length, cl, 0, rfl, by simp, ?_, by simp; omega, fun i hi => ?_⟩⟩
  · unfold makeN
    rw [if_neg (by simp [hlay])]
  · have : (ws ++ (headW 2 cl us.length 0).1 :: us.map ui).getD ws.length 0 = (headW 2 cl us.length 0).1 := by simp [List.getD]
    rw [this, hh]
    exact open_head 2 cl us.length 0 hok
  · simp only [List.getD]
    rw [List.getElem?_append_right (by omega), show ws.length + 1 + i - ws.length = i + 1 from by omega, List.getElem?_cons_succ, List.getElem?_map, List.getElem?_eq_getElem hi]
    rfl
theorem conc_fits {ws L : List Int} {lim cl p q : Int} {us vs : Us} (h1 : StrAt ws L p us) (h2 : StrAt ws L q vs) (hc : 0 ≤ cl ∧ cl ≤ 65535) (hr : ((us ++ vs).length : Int) < lim - ((ws.length : Int) - 1)) (hn : (us ++ vs).length ≤ 65536) :
    ∃ t M, concN ws L lim cl p q = ((ws.length : Int), 0, ws ++ t, L ++ M) ∧ t.length = (us ++ vs).length + 1 ∧ StrAt (ws ++ t) (L ++ M) (ws.length : Int) (us ++ vs) := by
  have := make_fits (ws := ws) (L := L) (lim := lim) (cl := cl) hc hr hn
  unfold concN
  rw [h1.units, h2.units, if_neg (by simp), if_neg (by simp)]
  exact this
theorem equ_str {ws L : List Int} {p q : Int} {us vs : Us} (h1 : StrAt ws L p us) (h2 : StrAt ws L q vs) : equN ws L p q = decide (us = vs) := by
  unfold equN
  rw [h1.units, h2.units]
  simp
theorem sameu_ok (w : World) (a1 a2 : Option Addr) (c1 c2 : Nat) (us vs : Us) (hR1 : Rd w a1 (us.map u16v)) (hR2 : Rd w a2 (vs.map u16v)) (hu : us.length ≤ 9223372036854775807) (hv : vs.length ≤ 9223372036854775807) :
    Ret Tryd.prog 49 [.slice a1 us.length c1, .slice a2 vs.length c2] w (fun v w' => v = .bool (decide (us = vs)) ∧ Keep [] w w') := by
  refine fn_enter (n := 26) Tryd.func49 rfl rfl (Nat.le_of_ble_eq_true rfl) (fun e => ?_)
  refine k_seq ?_
  refine k_region ?_
  refine m_bool rfl rfl ?_
  refine o_nil ?_
  refine k_seq ?_
  refine k_seq ?_
  refine k_region ?_
  refine m_sl rfl rfl ?_
  refine o_lens Tryd.underlying77 rfl ?_
  refine m_sl rfl rfl ?_
  refine o_lens Tryd.underlying77 rfl ?_
  refine b_neq rfl rfl ?_
  refine o_nil ?_
  refine k_cond rfl (fun h => ?_) (fun h => ?_)
  ·
    refine k_seq ?_
    refine k_region ?_
    refine m_bool rfl rfl ?_
    refine o_nil ?_
    refine k_ret (ret_tmps (ts := [4]) (v := .bool _) rfl rfl ?_)
    exact ⟨congrArg Value.bool (decide_eq_false (fun hh => h (by rw [hh]))).symm, Keep.refl _ _⟩
  have hlen : us.length = vs.length := by omega
  refine k_skip ?_
  refine k_seq ?_
  refine k_seq ?_
  refine k_region ?_
  refine m_int rfl rfl ?_
  refine o_nil ?_
  refine k_block ?_
  refine k_loop (σ := Nat) (fun i => [(0, .slice a1 us.length c1), (1, .slice a2 vs.length c2), (5, .int .i64 (i : Int))]) (fun i w' => i ≤ us.length ∧ (∀ j, j < i → us[j]? = vs[j]?) ∧ Keep [] w w') (fun i => us.length - i) 0 ⟨rfl, rfl, rfl, trivial⟩ ⟨Nat.zero_le _, (fun j hj => by omega), Keep.refl _ _⟩ (fun i e w3 hJ => ?_)
  obtain ⟨hi, hpre, hK3⟩ := hJ
  refine k_seq ?_
  refine k_seq ?_
  refine k_region ?_
  refine m_int rfl rfl ?_
  refine m_sl rfl rfl ?_
  refine o_lens Tryd.underlying77 rfl ?_
  refine b_lss rfl rfl ?_
  refine o_nil ?_
  refine k_cond rfl (fun h => ?_) (fun h => ?_)
  rotate_left
  ·
    refine k_exit rfl ?_
    refine k_seq ?_
    refine k_region ?_
    refine m_bool rfl rfl ?_
    refine o_nil ?_
    refine k_ret (ret_tmps (ts := [4]) (v := .bool _) rfl rfl ?_)
    refine ⟨congrArg Value.bool (decide_eq_true ?_).symm, hK3⟩
    refine List.ext_getElem? fun j => ?_
    by_cases hj : j < us.length
    · exact hpre j (by omega)
    · rw [List.getElem?_eq_none (by omega), List.getElem?_eq_none (by omega)]
  have hin : i < us.length := by omega
  have hx := u16_at us i hin
  have hy := u16_at vs i (by omega)
  obtain ⟨b1, o1, hae, _⟩ := hR1 _ _ hx
  obtain ⟨b2, o2, hbe, _⟩ := hR2 _ _ hy
  subst hae hbe
  refine k_skip ?_
  refine k_seq ?_
  refine k_block ?_
  refine k_seq ?_
  refine k_qk 8 rfl rfl rfl rfl rfl ?_
  refine q_step (fun w1 hC => m_sl rfl rfl (o_nil ⟨rfl, hC⟩)) ?_
  refine q_step (fun w1 hC => m_int rfl rfl (o_nil ⟨rfl, hC⟩)) ?_
  refine q_step (fun w1 hC => o_ixs1 Tryd.underlying77 rfl rfl rfl hin (o_nil ⟨rfl, hC⟩)) ?_
  refine q_step (fun w1 hC => o_ld rfl rfl (hR1.cellK (hK3.tr hC) hx) (o_nil ⟨rfl, hC⟩)) ?_
  refine q_step (fun w1 hC => m_sl rfl rfl (o_nil ⟨rfl, hC⟩)) ?_
  refine q_step (fun w1 hC => m_int rfl rfl (o_nil ⟨rfl, hC⟩)) ?_
  refine q_step (fun w1 hC => o_ixs1 Tryd.underlying77 rfl rfl rfl (by omega) (o_nil ⟨rfl, hC⟩)) ?_
  refine q_step (fun w1 hC => o_ld rfl rfl (hR2.cellK (hK3.tr hC) hy) (o_nil ⟨rfl, hC⟩)) ?_
  refine q_nil ?_
  intro w4 hC4
  refine v16_neq rfl rfl ?_
  refine o_nil ?_
  refine k_cond rfl (fun h => ?_) (fun h => ?_)
  ·
    refine k_seq ?_
    refine k_region ?_
    refine m_bool rfl rfl ?_
    refine o_nil ?_
    refine k_ret (ret_tmps (ts := [4]) (v := .bool _) rfl rfl ?_)
    refine ⟨congrArg Value.bool (decide_eq_false (fun hh => h ?_)).symm, hK3.tr hC4⟩
    subst hh
    rfl
  refine k_skip ?_
  refine k_blk ?_
  refine k_region ?_
  refine m_int rfl rfl ?_
  refine n_add rfl rfl (by omega) ?_
  refine m_int rfl rfl ?_
  refine o_nil ?_
  refine k_goal ⟨i + 1, ⟨rfl, rfl, rfl, trivial⟩, ⟨by omega, fun j hj => ?_, hK3.tr hC4⟩, by omega⟩
  by_cases hji : j = i
  · rw [hji, List.getElem?_eq_getElem hin, List.getElem?_eq_getElem (by omega)]
    exact congrArg some (Decidable.of_not_not h)
  · exact hpre j (by omega)
end Go.Proofs.YtchbidckckmobaaDoor

/- Copy. No condition beyond what each contract names. -/
namespace Go.Proofs.YtchbidckckmobaaDoor
open Go.RowKit E
set_option linter.unusedVariables false
set_option linter.unusedSimpArgs false
set_option maxRecDepth 100000
attribute [local irreducible] ow qw kw kq cw opW Ret
/-- one cell's copying -/
def stepC (L : List Int) (p i q k : Int) (ws : List Int) (j : Int) : List Int := (setH ws L q (k + j) (getH ws L p (i + j)).1).2
/-- the cells' order -/
def ordC (D : Prop) [Decidable D] (n : Int) (m : Nat) : Int := if D then n - 1 - m else m
def runC (L : List Int) (p i q k n : Int) (D : Prop) [Decidable D] (ws : List Int) : Nat → List Int
  | 0 => ws
  | m + 1 => stepC L p i q k (runC L p i q k n D ws m) (ordC D n m)
def copyN (ws L : List Int) (p i q k n : Int) : Int × List Int :=
  if (lookH ws L p).2.2.2 ≠ 0 then ((lookH ws L p).2.2.2, ws)
  else if (lookH ws L q).2.2.2 ≠ 0 then ((lookH ws L q).2.2.2, ws)
  else if (lookH ws L p).1 = 1 ∨ (lookH ws L p).1 ≠ (lookH ws L q).1 ∨ (lookH ws L p).2.1 ≠ (lookH ws L q).2.1 then (28, ws)
  else if n < 0 ∨ i < 0 ∨ k < 0 ∨ (lookH ws L p).2.2.1 - n < i ∨ (lookH ws L q).2.2.1 - n < k then (1, ws)
  else (0, runC L p i q k n (p = q ∧ i < k) ws n.toNat)
theorem look_rng {ws L : List Int} (hW : WFH ws L) (p : Int) : 0 ≤ (lookH ws L p).2.2.1 ∧ (lookH ws L p).2.2.1 ≤ 65537 := by
  by_cases h : (lookH ws L p).2.2.2 = 0
  · obtain ⟨q, hq, rfl, h1, h2, h3, h4, h5⟩ := look_n hW h
    rw [h3]
    have := hW.len
    dsimp only
    omega
  · have hp : p ∉ L := fun hp => h ((look_e hW).2 hp)
    rw [look_out hp]
    exact ⟨by decide, by decide⟩
theorem get_rng {ws L : List Int} (hW : WFH ws L) (p i : Int) : -9223372036854775808 ≤ (getH ws L p i).1 ∧ (getH ws L p i).1 ≤ 9223372036854775807 := by
  unfold getH
  split
  · exact ⟨by simp, by simp⟩
  · simp only [List.getD]
    cases h : ws[(cellH ws L p i).1.toNat]? with
    | none => exact ⟨by decide, by decide⟩
    | some x => exact hW.rng x (List.mem_of_getElem? h)
theorem ordC_0 {D : Prop} [Decidable D] (n : Int) : ordC D n 0 = if D then n - 1 else 0 := by unfold ordC; split <;> simp
theorem ordC_end {D : Prop} [Decidable D] (n : Int) (h0 : 0 ≤ n) (m : Nat) : ordC D n m = (if D then -1 else n) ↔ (m : Int) = n := by unfold ordC; split <;> omega
theorem ordC_in {D : Prop} [Decidable D] (n : Int) (m : Nat) (h : (m : Int) < n) : 0 ≤ ordC D n m ∧ ordC D n m < n := by unfold ordC; split <;> omega
theorem ordC_all {D : Prop} [Decidable D] (n : Int) (h0 : 0 ≤ n) (m : Nat) (h : (m : Int) ≤ n) : -1 ≤ ordC D n m ∧ ordC D n m ≤ n := by unfold ordC; split <;> omega
theorem ordC_step {D : Prop} [Decidable D] (n : Int) (m : Nat) : ordC D n m + (if D then -1 else 1) = ordC D n (m + 1) := by unfold ordC; split <;> (try push_cast) <;> omega
theorem copy_ok (kk : Nat → Prop) (w : World) (hb : Nat) (ws : List Int) (lim : Int) (L : List Int) (p i q k n : Int) (hHP : HP kk w hb ws lim L) (hW : WFH ws L) (hu : (ws.length : Int) ≤ lim + 1)
    (hi : -9223372036854775808 ≤ i ∧ i ≤ 9223372036854775807) (hk : -9223372036854775808 ≤ k ∧ k ≤ 9223372036854775807) (hn : -9223372036854775808 ≤ n ∧ n ≤ 9223372036854775807) :
    Ret Tryd.prog 51 [.pointer (some ⟨hb, 0, none⟩), .int .i64 p, .int .i64 i, .int .i64 q, .int .i64 k, .int .i64 n] w (fun v w' => v = .int .i64 (copyN ws L p i q k n).1 ∧ HRes kk w hb lim w' (copyN ws L p i q k n).2 L) := by
  have hr1 := look_rng hW p
  have hr2 := look_rng hW q
  have keep0 : HRes kk w hb lim w ws L := ⟨hHP, hW, hu, (Keep.refl [] _).h⟩
  refine fn_enter (n := 119) Tryd.func51 rfl rfl (Nat.le_of_ble_eq_true rfl) (fun e => ?_)
  refine k_seq ?_
  refine k_region ?_
  refine m_int rfl rfl ?_
  refine o_nil ?_
  refine k_seq ?_
  refine k_region ?_
  refine m_ptr rfl rfl ?_
  refine m_int rfl rfl ?_
  refine o_call rfl rfl (look_ok kk w hb ws lim L p hHP hW) (fun v w1 hv => ?_)
  obtain ⟨rfl, rfl⟩ := hv
  refine m_any rfl rfl ?_
  refine o_extr rfl rfl ?_
  refine o_extr rfl rfl ?_
  refine o_extr rfl rfl ?_
  refine o_extr rfl rfl ?_
  refine m_int rfl rfl ?_
  refine m_int rfl rfl ?_
  refine m_int rfl rfl ?_
  refine m_int rfl rfl ?_
  refine o_nil ?_
  refine k_seq ?_
  refine k_seq ?_
  refine k_region ?_
  refine m_int rfl rfl ?_
  refine b_neq rfl rfl ?_
  refine o_nil ?_
  refine k_cond rfl (fun h => ?_) (fun h => ?_)
  ·
    refine k_seq ?_
    refine k_region ?_
    refine m_int rfl rfl ?_
    refine m_int rfl rfl ?_
    refine o_nil ?_
    refine k_ret (ret_tmps (ts := [12]) (v := .int _ _) rfl rfl ?_)
    rw [show copyN ws L p i q k n = ((lookH ws L p).2.2.2, ws) from if_pos h]; exact ⟨rfl, keep0⟩
  have e1 : copyN ws L p i q k n = _ := if_neg h
  refine k_skip ?_
  refine k_seq ?_
  refine k_region ?_
  refine m_ptr rfl rfl ?_
  refine m_int rfl rfl ?_
  refine o_call rfl rfl (look_ok kk w1 hb ws lim L q hHP hW) (fun v w2 hv => ?_)
  obtain ⟨rfl, rfl⟩ := hv
  refine m_any rfl rfl ?_
  refine o_extr rfl rfl ?_
  refine o_extr rfl rfl ?_
  refine o_extr rfl rfl ?_
  refine o_extr rfl rfl ?_
  refine m_int rfl rfl ?_
  refine m_int rfl rfl ?_
  refine m_int rfl rfl ?_
  refine m_int rfl rfl ?_
  refine o_nil ?_
  refine k_seq ?_
  refine k_block ?_
  refine k_seq ?_
  refine k_region ?_
  refine m_int rfl rfl ?_
  refine b_neq rfl rfl ?_
  refine m_bool rfl rfl ?_
  refine o_nil ?_
  refine k_cond rfl (fun h => ?_) (fun h => ?_)
  ·
    refine k_seq ?_
    refine k_region ?_
    refine m_int rfl rfl ?_
    refine m_int rfl rfl ?_
    refine o_nil ?_
    refine k_ret (ret_tmps (ts := [12]) (v := .int _ _) rfl rfl ?_)
    rw [e1, if_pos h]; exact ⟨rfl, keep0⟩
  rw [if_neg h] at e1
  refine k_seq ?_
  refine k_region ?_
  refine m_int rfl rfl ?_
  refine b_eql rfl rfl ?_
  refine m_bool rfl rfl ?_
  refine o_split (t := 51) rfl (fun h => ?_) (fun h => ?_)
  ·
    refine g_no rfl rfl rfl ?_
    refine g_no rfl rfl rfl ?_
    refine g_no rfl rfl rfl ?_
    refine pick_t rfl rfl ?_
    refine m_bool rfl rfl ?_
    refine g_no rfl rfl rfl ?_
    refine g_no rfl rfl rfl ?_
    refine g_no rfl rfl rfl ?_
    refine pick_t rfl rfl ?_
    refine m_bool rfl rfl ?_
    refine o_nil ?_
    refine k_condt rfl ?_
    refine k_seq ?_
    refine k_region ?_
    refine m_int rfl rfl ?_
    refine o_nil ?_
    refine k_ret (ret_tmps (ts := [12]) (v := .int _ _) rfl rfl ?_)
    rw [e1, if_pos (.inl h)]; exact ⟨rfl, keep0⟩
  ·
    refine g_yes rfl rfl ?_
    refine m_int rfl rfl ?_
    refine g_yes rfl rfl ?_
    refine m_int rfl rfl ?_
    refine g_yes rfl rfl ?_
    refine b_neq rfl rfl ?_
    refine pick_f rfl rfl ?_
    refine m_bool rfl rfl ?_
    refine o_split (t := 56) rfl (fun h => ?_) (fun h => ?_)
    ·
      refine g_no rfl rfl rfl ?_
      refine g_no rfl rfl rfl ?_
      refine g_no rfl rfl rfl ?_
      refine pick_t rfl rfl ?_
      refine m_bool rfl rfl ?_
      refine o_nil ?_
      refine k_condt rfl ?_
      refine k_seq ?_
      refine k_region ?_
      refine m_int rfl rfl ?_
      refine o_nil ?_
      refine k_ret (ret_tmps (ts := [12]) (v := .int _ _) rfl rfl ?_)
      rw [e1, if_pos (.inr (.inl h))]; exact ⟨rfl, keep0⟩
    ·
      refine g_yes rfl rfl ?_
      refine m_int rfl rfl ?_
      refine g_yes rfl rfl ?_
      refine m_int rfl rfl ?_
      refine g_yes rfl rfl ?_
      refine b_neq rfl rfl ?_
      refine pick_f rfl rfl ?_
      refine m_bool rfl rfl ?_
      refine o_nil ?_
      refine k_cond rfl (fun h => ?_) (fun h => ?_)
      ·
        refine k_seq ?_
        refine k_region ?_
        refine m_int rfl rfl ?_
        refine o_nil ?_
        refine k_ret (ret_tmps (ts := [12]) (v := .int _ _) rfl rfl ?_)
        rw [e1, if_pos (.inr (.inr h))]; exact ⟨rfl, keep0⟩
      rw [if_neg (by omega)] at e1
      refine k_seq ?_
      refine k_region ?_
      refine m_int rfl rfl ?_
      refine b_lss rfl rfl ?_
      refine m_bool rfl rfl ?_
      refine o_split (t := 64) rfl (fun h => ?_) (fun h => ?_)
      ·
        refine g_no rfl rfl rfl ?_
        refine g_no rfl rfl rfl ?_
        refine pick_t rfl rfl ?_
        refine m_bool rfl rfl ?_
        refine g_no rfl rfl rfl ?_
        refine g_no rfl rfl rfl ?_
        refine pick_t rfl rfl ?_
        refine m_bool rfl rfl ?_
        refine g_no rfl rfl rfl ?_
        refine g_no rfl rfl rfl ?_
        refine g_no rfl rfl rfl ?_
        refine g_no rfl rfl rfl ?_
        refine g_no rfl rfl rfl ?_
        refine pick_t rfl rfl ?_
        refine m_bool rfl rfl ?_
        refine g_no rfl rfl rfl ?_
        refine g_no rfl rfl rfl ?_
        refine g_no rfl rfl rfl ?_
        refine g_no rfl rfl rfl ?_
        refine g_no rfl rfl rfl ?_
        refine pick_t rfl rfl ?_
        refine m_bool rfl rfl ?_
        refine o_nil ?_
        refine k_condt rfl ?_
        refine k_seq ?_
        refine k_region ?_
        refine m_int rfl rfl ?_
        refine o_nil ?_
        refine k_ret (ret_tmps (ts := [12]) (v := .int _ _) rfl rfl ?_)
        rw [e1, if_pos (by omega)]; exact ⟨rfl, keep0⟩
      ·
        refine g_yes rfl rfl ?_
        refine m_int rfl rfl ?_
        refine g_yes rfl rfl ?_
        refine b_lss rfl rfl ?_
        refine pick_f rfl rfl ?_
        refine m_bool rfl rfl ?_
        refine o_split (t := 68) rfl (fun h => ?_) (fun h => ?_)
        ·
          refine g_no rfl rfl rfl ?_
          refine g_no rfl rfl rfl ?_
          refine pick_t rfl rfl ?_
          refine m_bool rfl rfl ?_
          refine g_no rfl rfl rfl ?_
          refine g_no rfl rfl rfl ?_
          refine g_no rfl rfl rfl ?_
          refine g_no rfl rfl rfl ?_
          refine g_no rfl rfl rfl ?_
          refine pick_t rfl rfl ?_
          refine m_bool rfl rfl ?_
          refine g_no rfl rfl rfl ?_
          refine g_no rfl rfl rfl ?_
          refine g_no rfl rfl rfl ?_
          refine g_no rfl rfl rfl ?_
          refine g_no rfl rfl rfl ?_
          refine pick_t rfl rfl ?_
          refine m_bool rfl rfl ?_
          refine o_nil ?_
          refine k_condt rfl ?_
          refine k_seq ?_
          refine k_region ?_
          refine m_int rfl rfl ?_
          refine o_nil ?_
          refine k_ret (ret_tmps (ts := [12]) (v := .int _ _) rfl rfl ?_)
          rw [e1, if_pos (by omega)]; exact ⟨rfl, keep0⟩
        ·
          refine g_yes rfl rfl ?_
          refine m_int rfl rfl ?_
          refine g_yes rfl rfl ?_
          refine b_lss rfl rfl ?_
          refine pick_f rfl rfl ?_
          refine m_bool rfl rfl ?_
          refine o_split (t := 72) rfl (fun h => ?_) (fun h => ?_)
          ·
            refine g_no rfl rfl rfl ?_
            refine g_no rfl rfl rfl ?_
            refine g_no rfl rfl rfl ?_
            refine g_no rfl rfl rfl ?_
            refine g_no rfl rfl rfl ?_
            refine pick_t rfl rfl ?_
            refine m_bool rfl rfl ?_
            refine g_no rfl rfl rfl ?_
            refine g_no rfl rfl rfl ?_
            refine g_no rfl rfl rfl ?_
            refine g_no rfl rfl rfl ?_
            refine g_no rfl rfl rfl ?_
            refine pick_t rfl rfl ?_
            refine m_bool rfl rfl ?_
            refine o_nil ?_
            refine k_condt rfl ?_
            refine k_seq ?_
            refine k_region ?_
            refine m_int rfl rfl ?_
            refine o_nil ?_
            refine k_ret (ret_tmps (ts := [12]) (v := .int _ _) rfl rfl ?_)
            rw [e1, if_pos (by omega)]; exact ⟨rfl, keep0⟩
          ·
            refine g_yes rfl rfl ?_
            refine m_int rfl rfl ?_
            refine g_yes rfl rfl ?_
            refine m_int rfl rfl ?_
            refine g_yes rfl rfl ?_
            refine m_int rfl rfl ?_
            refine g_yes rfl rfl ?_
            refine n_sub rfl rfl (by omega) ?_
            refine g_yes rfl rfl ?_
            refine b_gtr rfl rfl ?_
            refine pick_f rfl rfl ?_
            refine m_bool rfl rfl ?_
            refine o_split (t := 79) rfl (fun h => ?_) (fun h => ?_)
            ·
              refine g_no rfl rfl rfl ?_
              refine g_no rfl rfl rfl ?_
              refine g_no rfl rfl rfl ?_
              refine g_no rfl rfl rfl ?_
              refine g_no rfl rfl rfl ?_
              refine pick_t rfl rfl ?_
              refine m_bool rfl rfl ?_
              refine o_nil ?_
              refine k_condt rfl ?_
              refine k_seq ?_
              refine k_region ?_
              refine m_int rfl rfl ?_
              refine o_nil ?_
              refine k_ret (ret_tmps (ts := [12]) (v := .int _ _) rfl rfl ?_)
              rw [e1, if_pos (by omega)]; exact ⟨rfl, keep0⟩
            ·
              refine g_yes rfl rfl ?_
              refine m_int rfl rfl ?_
              refine g_yes rfl rfl ?_
              refine m_int rfl rfl ?_
              refine g_yes rfl rfl ?_
              refine m_int rfl rfl ?_
              refine g_yes rfl rfl ?_
              refine n_sub rfl rfl (by omega) ?_
              refine g_yes rfl rfl ?_
              refine b_gtr rfl rfl ?_
              refine pick_f rfl rfl ?_
              refine m_bool rfl rfl ?_
              refine o_nil ?_
              refine k_cond rfl (fun h => ?_) (fun h => ?_)
              ·
                refine k_seq ?_
                refine k_region ?_
                refine m_int rfl rfl ?_
                refine o_nil ?_
                refine k_ret (ret_tmps (ts := [12]) (v := .int _ _) rfl rfl ?_)
                rw [e1, if_pos (by omega)]; exact ⟨rfl, keep0⟩
              rw [if_neg (by omega)] at e1
              have hn0 : 0 ≤ n := by omega
              have hoz := ordC_0 (D := p = q ∧ i < k) n
              have hoe := ordC_end (D := p = q ∧ i < k) n hn0
              have hob := ordC_in (D := p = q ∧ i < k) n
              have hos := ordC_step (D := p = q ∧ i < k) n
              refine k_skip ?_
              refine k_blk ?_
              refine k_seq ?_
              refine k_region ?_
              refine m_int rfl rfl ?_
              refine m_int rfl rfl ?_
              refine m_int rfl rfl ?_
              refine m_int rfl rfl ?_
              refine o_nil ?_
              refine k_seq ?_
              refine k_seq ?_
              refine k_region ?_
              refine m_int rfl rfl ?_
              refine m_int rfl rfl ?_
              refine b_eql rfl rfl ?_
              refine m_bool rfl rfl ?_
              refine o_split (t := 90) rfl (fun h => ?_) (fun h => ?_)
              ·
                refine g_yes rfl rfl ?_
                refine m_int rfl rfl ?_
                refine g_yes rfl rfl ?_
                refine m_int rfl rfl ?_
                refine g_yes rfl rfl ?_
                refine b_gtr rfl rfl ?_
                refine pick_t rfl rfl ?_
                refine o_nil ?_
                refine k_cut (σ := Unit) (fun _ => [(0, .pointer (some ⟨hb, 0, none⟩)), (1, .int .i64 p), (2, .int .i64 i), (3, .int .i64 q), (4, .int .i64 k), (20, .int .i64 (if p = q ∧ i < k then -1 else 1)), (21, .int .i64 (ordC (p = q ∧ i < k) n 0)), (22, .int .i64 (if p = q ∧ i < k then -1 else n))]) (fun _ w' => w' = w2) ?_ (fun s e w3 hJ => ?_)
                ·
                  refine k_cond rfl (fun h => ?_) (fun h => ?_)
                  ·
                    refine k_region ?_
                    refine m_int rfl rfl ?_
                    refine n_sub rfl rfl (by omega) ?_
                    refine m_int rfl rfl ?_
                    refine m_int rfl rfl ?_
                    refine m_int rfl rfl ?_
                    refine o_nil ?_
                    refine k_goal ⟨(), ⟨rfl, rfl, rfl, rfl, rfl, congrArg (Value.int .i64) ?_, congrArg (Value.int .i64) ?_, congrArg (Value.int .i64) ?_, trivial⟩, rfl⟩
                    · rw [if_pos (by omega)]
                    · rw [hoz, if_pos (by omega)]
                    · rw [if_pos (by omega)]
                  refine k_skip ?_
                  refine k_goal ⟨(), ⟨rfl, rfl, rfl, rfl, rfl, congrArg (Value.int .i64) ?_, congrArg (Value.int .i64) ?_, congrArg (Value.int .i64) ?_, trivial⟩, rfl⟩
                  · rw [if_neg (by omega)]
                  · rw [hoz, if_neg (by omega)]
                  · rw [if_neg (by omega)]
                replace hJ := hJ.symm
                subst hJ
                refine k_seq ?_
                refine k_block ?_
                refine k_loop (σ := Nat) (fun m => [(0, .pointer (some ⟨hb, 0, none⟩)), (1, .int .i64 p), (2, .int .i64 i), (3, .int .i64 q), (4, .int .i64 k), (20, .int .i64 (if p = q ∧ i < k then -1 else 1)), (21, .int .i64 (ordC (p = q ∧ i < k) n m)), (22, .int .i64 (if p = q ∧ i < k then -1 else n))]) (fun m w' => m ≤ n.toNat ∧ HRes kk w2 hb lim w' (runC L p i q k n (p = q ∧ i < k) ws m) L) (fun m => n.toNat - m) 0 (by first | exact ⟨rfl, rfl, rfl, rfl, rfl, rfl, rfl, rfl, trivial⟩ | exact ⟨rfl, rfl, rfl, rfl, rfl, congrArg (Value.int .i64) (if_neg (by omega)).symm, congrArg (Value.int .i64) (by rw [hoz, if_neg (by omega)]), congrArg (Value.int .i64) (if_neg (by omega)).symm, trivial⟩) ⟨Nat.zero_le _, keep0⟩ (fun m e w4 hJ => ?_)
                obtain ⟨hm, hH4, hW4, hu4, hKH4⟩ := hJ
                have hoe := hoe m
                have hob := hob m
                have hos := hos m
                refine k_seq ?_
                refine k_seq ?_
                refine k_region ?_
                refine m_int rfl rfl ?_
                refine m_int rfl rfl ?_
                refine b_neq rfl rfl ?_
                refine o_nil ?_
                refine k_cond rfl (fun h => ?_) (fun h => ?_)
                rotate_left
                ·
                  have hme : m = n.toNat := by have := hoe.1 (Decidable.of_not_not h); omega
                  rw [hme] at hH4 hW4 hu4
                  refine k_exit rfl ?_
                  refine k_seq ?_
                  refine k_region ?_
                  refine m_int rfl rfl ?_
                  refine o_nil ?_
                  refine k_ret (ret_tmps (ts := [12]) (v := .int _ _) rfl rfl ?_)
                  rw [e1]; exact ⟨rfl, hH4, hW4, hu4, hKH4⟩
                have hml : (m : Int) < n := by have : ¬ (m : Int) = n := fun hh => h (hoe.2 hh); omega
                have hob := hob hml
                obtain ⟨o, ho⟩ : ∃ o, o = ordC (p = q ∧ i < k) n m := ⟨_, rfl⟩
                refine k_skip ?_
                refine k_seq ?_
                refine k_block ?_
                refine k_seq ?_
                refine k_region ?_
                refine m_ptr rfl rfl ?_
                refine m_int rfl rfl ?_
                refine m_int rfl rfl ?_
                refine m_int rfl rfl ?_
                refine n_add rfl rfl (by omega) ?_
                refine o_call rfl rfl (get_ok kk w4 hb _ lim L p _ hH4 hW4) (fun v w5 hv => ?_)
                obtain ⟨rfl, rfl⟩ := hv
                refine m_any rfl rfl ?_
                refine o_extr rfl rfl ?_
                refine o_extr rfl rfl ?_
                refine m_int rfl rfl ?_
                refine m_int rfl rfl ?_
                refine o_nil ?_
                refine k_region ?_
                refine m_ptr rfl rfl ?_
                refine m_int rfl rfl ?_
                refine m_int rfl rfl ?_
                refine m_int rfl rfl ?_
                refine n_add rfl rfl (by omega) ?_
                refine m_int rfl rfl ?_
                refine o_call rfl rfl (set_ok kk w5 hb _ lim L q _ _ hH4 hW4 hu4 (get_rng hW4 _ _)) (fun v w6 hv => ?_)
                obtain ⟨rfl, hH6, hW6, hu6, hKH6⟩ := hv
                refine o_nil ?_
                refine k_blk ?_
                refine k_region ?_
                refine m_int rfl rfl ?_
                refine m_int rfl rfl ?_
                refine n_add rfl rfl (by rw [hos]; have := ordC_all (D := p = q ∧ i < k) n hn0 (m + 1) (by omega); omega) ?_
                rw [hos]
                refine m_int rfl rfl ?_
                refine o_nil ?_
                refine k_goal ⟨m + 1, ⟨rfl, rfl, rfl, rfl, rfl, rfl, rfl, rfl, trivial⟩, ⟨by omega, hH6, hW6, hu6, hKH4.tr hKH6⟩, by omega⟩
              ·
                refine g_no rfl rfl rfl ?_
                refine g_no rfl rfl rfl ?_
                refine g_no rfl rfl rfl ?_
                refine pick_f rfl rfl ?_
                refine o_nil ?_
                refine k_condf rfl ?_
                refine k_skip ?_
                refine k_seq ?_
                refine k_block ?_
                refine k_loop (σ := Nat) (fun m => [(0, .pointer (some ⟨hb, 0, none⟩)), (1, .int .i64 p), (2, .int .i64 i), (3, .int .i64 q), (4, .int .i64 k), (20, .int .i64 (if p = q ∧ i < k then -1 else 1)), (21, .int .i64 (ordC (p = q ∧ i < k) n m)), (22, .int .i64 (if p = q ∧ i < k then -1 else n))]) (fun m w' => m ≤ n.toNat ∧ HRes kk w2 hb lim w' (runC L p i q k n (p = q ∧ i < k) ws m) L) (fun m => n.toNat - m) 0 (by first | exact ⟨rfl, rfl, rfl, rfl, rfl, rfl, rfl, rfl, trivial⟩ | exact ⟨rfl, rfl, rfl, rfl, rfl, congrArg (Value.int .i64) (if_neg (by omega)).symm, congrArg (Value.int .i64) (by rw [hoz, if_neg (by omega)]), congrArg (Value.int .i64) (if_neg (by omega)).symm, trivial⟩) ⟨Nat.zero_le _, keep0⟩ (fun m e w4 hJ => ?_)
                obtain ⟨hm, hH4, hW4, hu4, hKH4⟩ := hJ
                have hoe := hoe m
                have hob := hob m
                have hos := hos m
                refine k_seq ?_
                refine k_seq ?_
                refine k_region ?_
                refine m_int rfl rfl ?_
                refine m_int rfl rfl ?_
                refine b_neq rfl rfl ?_
                refine o_nil ?_
                refine k_cond rfl (fun h => ?_) (fun h => ?_)
                rotate_left
                ·
                  have hme : m = n.toNat := by have := hoe.1 (Decidable.of_not_not h); omega
                  rw [hme] at hH4 hW4 hu4
                  refine k_exit rfl ?_
                  refine k_seq ?_
                  refine k_region ?_
                  refine m_int rfl rfl ?_
                  refine o_nil ?_
                  refine k_ret (ret_tmps (ts := [12]) (v := .int _ _) rfl rfl ?_)
                  rw [e1]; exact ⟨rfl, hH4, hW4, hu4, hKH4⟩
                have hml : (m : Int) < n := by have : ¬ (m : Int) = n := fun hh => h (hoe.2 hh); omega
                have hob := hob hml
                obtain ⟨o, ho⟩ : ∃ o, o = ordC (p = q ∧ i < k) n m := ⟨_, rfl⟩
                refine k_skip ?_
                refine k_seq ?_
                refine k_block ?_
                refine k_seq ?_
                refine k_region ?_
                refine m_ptr rfl rfl ?_
                refine m_int rfl rfl ?_
                refine m_int rfl rfl ?_
                refine m_int rfl rfl ?_
                refine n_add rfl rfl (by omega) ?_
                refine o_call rfl rfl (get_ok kk w4 hb _ lim L p _ hH4 hW4) (fun v w5 hv => ?_)
                obtain ⟨rfl, rfl⟩ := hv
                refine m_any rfl rfl ?_
                refine o_extr rfl rfl ?_
                refine o_extr rfl rfl ?_
                refine m_int rfl rfl ?_
                refine m_int rfl rfl ?_
                refine o_nil ?_
                refine k_region ?_
                refine m_ptr rfl rfl ?_
                refine m_int rfl rfl ?_
                refine m_int rfl rfl ?_
                refine m_int rfl rfl ?_
                refine n_add rfl rfl (by omega) ?_
                refine m_int rfl rfl ?_
                refine o_call rfl rfl (set_ok kk w5 hb _ lim L q _ _ hH4 hW4 hu4 (get_rng hW4 _ _)) (fun v w6 hv => ?_)
                obtain ⟨rfl, hH6, hW6, hu6, hKH6⟩ := hv
                refine o_nil ?_
                refine k_blk ?_
                refine k_region ?_
                refine m_int rfl rfl ?_
                refine m_int rfl rfl ?_
                refine n_add rfl rfl (by rw [hos]; have := ordC_all (D := p = q ∧ i < k) n hn0 (m + 1) (by omega); omega) ?_
                rw [hos]
                refine m_int rfl rfl ?_
                refine o_nil ?_
                refine k_goal ⟨m + 1, ⟨rfl, rfl, rfl, rfl, rfl, rfl, rfl, rfl, trivial⟩, ⟨by omega, hH6, hW6, hu6, hKH4.tr hKH6⟩, by omega⟩
end Go.Proofs.YtchbidckckmobaaDoor

/- Copies within a string, plain. No condition beyond what each lemma names. -/
namespace Go.Proofs.YtchbidckckmobaaDoor
open Go.RowKit E
set_option linter.unusedVariables false
set_option linter.unusedSimpArgs false
set_option maxRecDepth 100000
attribute [local irreducible] ow qw kw kq cw opW Ret
theorem StrAt.cell {ws L : List Int} {p : Int} {us : Us} (h : StrAt ws L p us) {x : Nat} (hx : x < us.length) : cellH ws L p (x : Int) = (p + 1 + x, false, 0) := by
  obtain ⟨c, hk⟩ := h.look
  obtain ⟨q, c', m, rfl, hp, ho, hl, hu⟩ := h
  unfold cellH
  rw [hk, if_neg (by simp), if_neg (by simp only; omega), show (q : Int).toNat = q from by omega, ho]
  simp [refB]
theorem StrAt.get {ws L : List Int} {p : Int} {us : Us} (h : StrAt ws L p us) {x : Nat} (hx : x < us.length) : getH ws L p (x : Int) = (ui (us[x]), 0) := by
  have hc := h.cell hx
  obtain ⟨q, c', m, rfl, hp, ho, hl, hu⟩ := h
  unfold getH
  rw [hc, if_neg (by simp)]
  simp only
  rw [show ((q : Int) + 1 + (x : Int)).toNat = q + 1 + x from by omega, hu x hx]
theorem getD_set {l : List Int} {a b : Nat} {v : Int} : (l.set a v).getD b 0 = if a = b ∧ a < l.length then v else l.getD b 0 := by
  simp only [List.getD, List.getElem?_set]
  by_cases h : a = b
  · subst h
    by_cases h2 : a < l.length
    · simp [h2]
    · simp [h2]
  · simp [h]
theorem StrAt.set {ws L : List Int} {p : Int} {us : Us} (h : StrAt ws L p us) {x : Nat} (hx : x < us.length) (v : BitVec 16) : (setH ws L p (x : Int) (ui v)).1 = 0 ∧ StrAt (setH ws L p (x : Int) (ui v)).2 L p (us.set x v) := by
  have hc := h.cell hx
  obtain ⟨q, c', m, rfl, hp, ho, hl, hu⟩ := h
  unfold setH
  rw [hc, if_neg (by simp), if_neg (by simp)]
  refine ⟨rfl, q, c', m, rfl, hp, ?_, by simp; omega, fun y hy => ?_⟩
  · simp only
    rw [getD_set, if_neg (by omega), ho]
    simp
  · simp only
    rw [List.length_set] at hy
    rw [getD_set]
    by_cases hxy : x = y
    · subst hxy
      rw [if_pos (by omega)]
      simp
    · rw [if_neg (by omega), hu y hy, List.getElem_set_ne hxy]
theorem StrAt.step {ws L : List Int} {p : Int} {us : Us} (h : StrAt ws L p us) {a b : Nat} (ha : a < us.length) (hb : b < us.length) (i k j : Int) (hia : i + j = a) (hkb : k + j = b) : StrAt (stepC L p i p k ws j) L p (us.set b (us[a])) := by
  unfold stepC
  rw [hia, hkb, h.get ha]
  exact (h.set hb _).2
/-- after m cells -/
theorem run_str {L : List Int} {p : Int} {ws : List Int} {us : Us} (h : StrAt ws L p us) (i k n : Nat) (h1 : i + n ≤ us.length) (h2 : k + n ≤ us.length) (m : Nat) (hm : m ≤ n) :
    ∃ vs : Us, StrAt (runC L p i p k n (p = p ∧ (i : Int) < k) ws m) L p vs ∧ vs.length = us.length ∧ ∀ x, vs[x]? = if (if i < k then k + n - m ≤ x ∧ x < k + n else k ≤ x ∧ x < k + m) then us[i + x - k]? else us[x]? := by
  induction m with
  | zero => exact ⟨us, h, rfl, fun x => by split <;> rw [if_neg (by omega)]⟩
  | succ m ih =>
    obtain ⟨vs, hs, hl, hx⟩ := ih (by omega)
    by_cases hik : i < k
    · have ho : ordC (p = p ∧ (i : Int) < k) n m = ((n - 1 - m : Nat) : Int) := by unfold ordC; rw [if_pos ⟨rfl, by omega⟩]; omega
      have hst := hs.step (a := i + (n - 1 - m)) (b := k + (n - 1 - m)) (by omega) (by omega) i k (n - 1 - m : Nat) (by omega) (by omega)
      refine ⟨_, by show StrAt (stepC L p i p k _ (ordC _ _ m)) L p _; rw [ho]; exact hst, by simp [hl], fun x => ?_⟩
      have hsrc := hx (i + (n - 1 - m))
      simp only [if_pos hik] at hx hsrc ⊢
      rw [if_neg (by omega)] at hsrc
      rw [List.getElem?_set, hx x]
      by_cases hb : k + (n - 1 - m) = x
      · subst hb
        rw [if_pos rfl, if_pos (by omega), if_pos (by omega), ← List.getElem?_eq_getElem, hsrc]
        congr 1
        omega
      · rw [if_neg hb]
        by_cases hin : k + n - m ≤ x ∧ x < k + n
        · rw [if_pos hin, if_pos (by omega)]
        · rw [if_neg hin, if_neg (by omega)]
    · have ho : ordC (p = p ∧ (i : Int) < k) n m = (m : Int) := by unfold ordC; rw [if_neg (by omega)]
      have hst := hs.step (a := i + m) (b := k + m) (by omega) (by omega) i k m (by omega) (by omega)
      refine ⟨_, by show StrAt (stepC L p i p k _ (ordC _ _ m)) L p _; rw [ho]; exact hst, by simp [hl], fun x => ?_⟩
      have hsrc := hx (i + m)
      simp only [if_neg hik] at hx hsrc ⊢
      rw [if_neg (by omega)] at hsrc
      rw [List.getElem?_set, hx x]
      by_cases hb : k + m = x
      · subst hb
        rw [if_pos rfl, if_pos (by omega), if_pos (by omega), ← List.getElem?_eq_getElem, hsrc]
        congr 1
        omega
      · rw [if_neg hb]
        by_cases hin : k ≤ x ∧ x < k + m
        · rw [if_pos hin, if_pos (by omega)]
        · rw [if_neg hin, if_neg (by omega)]
def cpU (us : Us) (i k n : Nat) : Us := us.take k ++ (us.drop i).take n ++ us.drop (k + n)
theorem cpU_at (us : Us) (i k n : Nat) (h1 : i + n ≤ us.length) (h2 : k + n ≤ us.length) (x : Nat) : (cpU us i k n)[x]? = if k ≤ x ∧ x < k + n then us[i + x - k]? else us[x]? := by
  unfold cpU
  have l1 : (us.take k).length = k := by simp; omega
  have l2 : ((us.drop i).take n).length = n := by simp; omega
  by_cases hx : x < k
  · rw [if_neg (by omega), List.getElem?_append_left (by simp; omega), List.getElem?_append_left (by omega), List.getElem?_take_of_lt hx]
  · by_cases hx2 : x < k + n
    · rw [if_pos (by omega), List.getElem?_append_left (by simp; omega), List.getElem?_append_right (by omega), l1, List.getElem?_take_of_lt (by omega), List.getElem?_drop]
      congr 1; omega
    · rw [if_neg (by omega), List.getElem?_append_right (by simp; omega), List.getElem?_drop, List.length_append, l1, l2]
      congr 1; omega
theorem cpU_len (us : Us) (i k n : Nat) (h1 : i + n ≤ us.length) (h2 : k + n ≤ us.length) : (cpU us i k n).length = us.length := by
  unfold cpU; simp; omega
theorem copy_str {L : List Int} {p : Int} {ws : List Int} {us : Us} (h : StrAt ws L p us) (i k n : Nat) :
    if i + n ≤ us.length ∧ k + n ≤ us.length then ∃ ws', copyN ws L p i p k n = (0, ws') ∧ StrAt ws' L p (cpU us i k n) else copyN ws L p i p k n = (1, ws) := by
  obtain ⟨c, hk⟩ := h.look
  have e : copyN ws L p i p k n = if (n : Int) < 0 ∨ (i : Int) < 0 ∨ (k : Int) < 0 ∨ (us.length : Int) - n < i ∨ (us.length : Int) - n < k then (1, ws) else (0, runC L p i p k n (p = p ∧ (i : Int) < k) ws (n : Int).toNat) := by
    unfold copyN
    rw [hk]
    dsimp only
    rw [if_neg (fun hh => hh rfl), if_neg (fun hh => hh rfl), if_neg (by simp)]
  by_cases hf : i + n ≤ us.length ∧ k + n ≤ us.length
  · rw [if_pos hf]
    rw [if_neg (by omega)] at e
    obtain ⟨vs, hs, hl, hx⟩ := run_str h i k n hf.1 hf.2 n (Nat.le_refl _)
    refine ⟨_, e, ?_⟩
    have hv : vs = cpU us i k n := by
      refine List.ext_getElem? fun x => ?_
      rw [hx x, cpU_at us i k n hf.1 hf.2]
      by_cases hin : k ≤ x ∧ x < k + n
      · rw [if_pos hin, if_pos (by split <;> omega)]
      · rw [if_neg hin, if_neg (by split <;> omega)]
    rw [← hv, show ((n : Int)).toNat = n from by omega]
    exact hs
  · rw [if_neg hf, e, if_pos (by omega)]
end Go.Proofs.YtchbidckckmobaaDoor

/- The rule for copy. No condition beyond what each lemma names. -/
namespace Go.Proofs.YtchbidckckmobaaDoor
open Go.RowKit E
set_option linter.unusedVariables false
set_option linter.unusedSimpArgs false
set_option maxRecDepth 100000
attribute [local irreducible] ow qw kw kq cw opW Ret
namespace E
section
variable {P : Program} {n : Cx} {e : Env} {w : World} {l0 l : List Oper} {K : Env → World → Prop} {d : Nat} {T : TypeId} {pos : String} {af : Array Edge} {x y : Operand} {TX TY : TypeId}
theorem o_copy {E : TypeId} {a0 b : Option Addr} {m c dc lo sc sl : Nat} {xs news : List Value} (hu : P.underlying TX = some (.slice E)) (hs : (P.info? E).map (·.size) = some 1)
    (hx : ev n e x = .slice (cutAt a0 lo c 1) (m - lo) dc) (hy : ev n e y = .slice b sl sc) (hsl : sl = news.length) (hS : Sl w E 1 a0 m c xs) (hR : Rd w b news) (hlo : lo + news.length ≤ m) (h1 : ∀ v ∈ news, v.oneCell' = true)
    (h : ∀ w', Sl w' E 1 a0 m c (xs.take lo ++ news ++ xs.drop (lo + news.length)) → Keep (blkOf a0) w w' → ow P n l0 K l (upd e d (.int .i64 (news.length : Int))) w') :
    ow P n l0 K (⟨some d, .call ⟨.builtin .copy, #[x, y], #[TX, TY]⟩, T, pos, af, none⟩ :: l) e w := by
  subst hsl
  by_cases hz : news = []
  · subst hz
    have hr := run_copy_none (P := P) w TX TY T E (cutAt a0 lo c 1) b (m - lo) dc 0 sc hu hs (by simp)
    refine o_run (v := .int .i64 ((0 : Nat) : Int)) (w' := w) ?_ (h w (by simpa using hS) (Keep.refl _ _))
    have hy' : ev n e y = .slice b 0 sc := hy
    simp [execOp, resolve, invoke, builtin, hx, hy', hr, goInt]
  · have hpos : 0 < news.length := by cases news with | nil => exact absurd rfl hz | cons => simp
    obtain ⟨hlen, hS2⟩ := hS
    rcases hS2 with ⟨_, rfl, _⟩ | ⟨g, cur, rfl, hB, hmc, hcm, hcs, hcx⟩
    · omega
    obtain ⟨b', o', rfl, _⟩ := hR 0 _ (List.getElem?_eq_getElem hpos)
    have hcut : cutAt (some ⟨g, 0, none⟩) lo c 1 = some ⟨g, lo, none⟩ := by
      unfold cutAt
      rw [if_neg (by omega)]
      simp [Addr.add]
      omega
    have hr := run_copy_row (P := P) w TX TY T E g lo (m - lo) dc ⟨b', o', none⟩ news.length sc cur E news hu hs hB (Nat.min_eq_left (by omega)).symm (fun j v hv => by
      obtain ⟨b2, o2, he2, hc2⟩ := hR j v hv
      cases he2
      have hadd : (⟨b', o', none⟩ : Addr).add j = ⟨b', o' + j, none⟩ := by unfold Addr.add; split <;> simp_all
      rw [hadd]; exact hc2) (by omega) h1
    refine o_run (v := .int .i64 (news.length : Int)) (w' := _) (by rw [hcut] at hx; simp [execOp, resolve, invoke, builtin, hx, hy, hr, goInt]; rfl) (h _ ⟨?_, .inr ⟨g, _, rfl, setRow_heap w g cur _ E _ hB, hmc, hcm, ?_, ?_⟩⟩ ⟨rfl, rfl, rfl, by simp [World.setRow], fun k _ hk => setRow_other w g k _ (by simpa [blkOf] using hk)⟩)
    · simp [hlen]; omega
    · simp; omega
    · subst hcx
      have hcl : cur.toList.length = c := by simp; omega
      simp only [Nat.mul_one, List.toList_toArray]
      refine List.ext_getElem? fun i => ?_
      simp only [List.getElem?_take, List.getElem?_append, List.getElem?_drop, List.length_append, List.length_take, hcl]
      repeat' split
      all_goals first | rfl | omega | (congr 1; omega) | skip
end
end E
end Go.Proofs.YtchbidckckmobaaDoor

/- The reference's heap: New, Used, block, Look, Get. No condition beyond what each contract names. -/
namespace Go.Proofs.YtchbidckckmobaaDoor
open Go.RowKit E
set_option linter.unusedVariables false
set_option linter.unusedSimpArgs false
set_option maxRecDepth 100000
attribute [local irreducible] ow qw kw kq cw opW Ret
def RP (k : Nat → Prop) (w : World) (rb : Nat) (ws : List Int) (lim : Int) : Prop :=
  ∃ a c, Blk w rb #[.slice a ws.length c, iv lim] 68 ∧ Sl w 2 1 a ws.length c (ws.map iv) ∧ k rb ∧ ∀ z, a = some z → k z.block
theorem RP.new {k : Nat → Prop} {w w' : World} {rb : Nat} {ws : List Int} {lim : Int} (h : RP k w rb ws lim) (hK : Keep [] w w') : RP k w' rb ws lim := by
  obtain ⟨a, c, h1, h2, h3⟩ := h
  exact ⟨a, c, h1.keep hK (by simp), h2.new hK, h3⟩
theorem rnew_ok (w : World) (lim : Int) : Ret Tryd.prog 35 [.int .i64 lim] w (fun v w' => Keep [] w w' ∧ if 0 ≤ lim ∧ lim ≤ 65536 then ∃ rb, v = .tuple #[.pointer (some ⟨rb, 0, none⟩), .int .i64 0] ∧ RP (fun b => w.heap.size ≤ b) w' rb [0] lim else v = .tuple #[.pointer none, .int .i64 1]) := by
  refine fn_enter (n := 14) Tryd.func35 rfl rfl (Nat.le_of_ble_eq_true rfl) (fun e => ?_)
  refine k_seq ?_
  refine k_region ?_
  refine m_ptr rfl rfl ?_
  refine m_int rfl rfl ?_
  refine o_nil ?_
  refine k_seq ?_
  refine k_seq ?_
  refine k_region ?_
  refine m_int rfl rfl ?_
  refine b_lss rfl rfl ?_
  refine m_bool rfl rfl ?_
  refine o_split (t := 6) rfl (fun h => ?_) (fun h => ?_)
  ·
    refine g_no rfl rfl rfl ?_
    refine g_no rfl rfl rfl ?_
    refine pick_t rfl rfl ?_
    refine o_nil ?_
    refine k_condt rfl ?_
    refine k_seq ?_
    refine k_region ?_
    refine m_ptr rfl rfl ?_
    refine m_int rfl rfl ?_
    refine o_nil ?_
    refine k_ret (ret_tmps (ts := [2, 3]) (v := .tuple #[.pointer _, .int _ _]) rfl rfl ?_)
    exact ⟨Keep.refl _ _, by rw [if_neg (by omega)]⟩
  ·
    have h6 := h
    refine g_yes rfl rfl ?_
    refine m_int rfl rfl ?_
    refine g_yes rfl rfl ?_
    refine b_gtr rfl rfl ?_
    refine pick_f rfl rfl ?_
    refine o_nil ?_
    refine k_cond rfl (fun h => ?_) (fun h => ?_)
    ·
      refine k_seq ?_
      refine k_region ?_
      refine m_ptr rfl rfl ?_
      refine m_int rfl rfl ?_
      refine o_nil ?_
      refine k_ret (ret_tmps (ts := [2, 3]) (v := .tuple #[.pointer _, .int _ _]) rfl rfl ?_)
      exact ⟨Keep.refl _ _, by rw [if_neg (by omega)]⟩
    refine k_skip ?_
    refine k_seq ?_
    refine k_region ?_
    refine o_bsl (E := 2) (cs := #[iv 0]) rfl (fun _ => by kernel_rfl) (fun g w1 hB1 hK1 hb1 hZ1 => ?_)
    refine m_int rfl rfl ?_
    refine o_build (v := .agg #[.slice (some ⟨g, 0, none⟩) 1 1, iv lim]) rfl (fun _ => by kernel_rfl) ?_
    refine o_box rfl rfl (fun rb w3 hB3 hK3 hb3 hZ3 => ?_)
    refine m_ptr rfl rfl ?_
    refine m_int rfl rfl ?_
    refine o_nil ?_
    refine k_ret (ret_tmps (ts := [2, 3]) (v := .tuple #[.pointer _, .int _ _]) rfl rfl ?_)
    refine ⟨hK1.tr hK3, ?_⟩
    rw [if_pos (by omega)]
    exact ⟨rb, rfl, some ⟨g, 0, none⟩, 1, hB3, (hB1.keep hK3 (by simp)).sl (len := 1) (sz := 1) rfl (by decide), by show w.heap.size ≤ rb; omega, by intro z hz; cases hz; show w.heap.size ≤ g; omega⟩
theorem rused_ok (k : Nat → Prop) (w : World) (rb : Nat) (ws : List Int) (lim : Int) (h : RP k w rb ws lim) (hl : ws.length ≤ 65537) :
    Ret Tryd.prog 39 [.pointer (some ⟨rb, 0, none⟩)] w (fun v w' => v = .int .i64 ((ws.length : Int) - 1) ∧ w' = w) := by
  obtain ⟨a, c, hB, hS, hk⟩ := h
  refine fn_enter (n := 9) Tryd.func39 rfl rfl (Nat.le_of_ble_eq_true rfl) (fun e => ?_)
  refine k_seq ?_
  refine k_region ?_
  refine m_int rfl rfl ?_
  refine o_nil ?_
  refine k_seq ?_
  refine k_region ?_
  refine m_ptr rfl rfl ?_
  refine o_nilc rfl ?_
  refine o_fld0 rfl rfl ?_
  refine o_ld (v := .slice a ws.length c) rfl rfl (hB.at rfl) ?_
  refine o_lens Tryd.underlying22 rfl ?_
  refine n_sub rfl rfl (by omega) ?_
  refine m_int rfl rfl ?_
  refine o_nil ?_
  refine k_ret (ret_tmps (ts := [2]) (v := .int _ _) rfl rfl ?_)
  exact ⟨rfl, rfl⟩
theorem rblock_ok (k : Nat → Prop) (w : World) (rb : Nat) (ws : List Int) (lim : Int) (L : List Int) (x : Int) (h : RP k w rb ws lim) (hW : WFH ws L) :
    Ret Tryd.prog 80 [.pointer (some ⟨rb, 0, none⟩), .int .i64 x] w (fun v w' => v = .bool (decide (x ∈ L)) ∧ w' = w) := by
  obtain ⟨a, c, hB, hS, hk⟩ := h
  have hlen := hW.len
  have hRS := hS.rd
  refine fn_enter (n := 39) Tryd.func80 rfl rfl (Nat.le_of_ble_eq_true rfl) (fun e => ?_)
  refine k_seq ?_
  refine k_region ?_
  refine m_bool rfl rfl ?_
  refine o_nil ?_
  refine k_seq ?_
  refine k_seq ?_
  refine k_region ?_
  refine m_int rfl rfl ?_
  refine o_nil ?_
  refine k_block ?_
  refine k_loop (σ := Nat) (fun p => [(0, .pointer (some ⟨rb, 0, none⟩)), (1, .int .i64 x), (5, .int .i64 (p : Int))]) (fun p w' => w' = w ∧ ∃ M, chain ws p = some M ∧ (x ∈ L ↔ x ∈ M)) (fun p => ws.length - p) 1 ⟨rfl, rfl, rfl, trivial⟩ ⟨rfl, L, hW.ch, Iff.rfl⟩ (fun p e w1 hJ => ?_)
  obtain ⟨rfl, M, hch, hM⟩ := hJ
  refine k_seq ?_
  refine k_seq ?_
  refine k_region ?_
  refine m_int rfl rfl ?_
  refine m_ptr rfl rfl ?_
  refine o_nilc rfl ?_
  refine o_fld0 rfl rfl ?_
  refine o_ld (v := .slice a ws.length c) rfl rfl (hB.at rfl) ?_
  refine o_lens Tryd.underlying22 rfl ?_
  refine b_lss rfl rfl ?_
  refine o_nil ?_
  refine k_cond rfl (fun h => ?_) (fun h => ?_)
  rotate_left
  ·
    refine k_exit rfl ?_
    refine k_seq ?_
    refine k_region ?_
    refine m_bool rfl rfl ?_
    refine o_nil ?_
    refine k_ret (ret_tmps (ts := [4]) (v := .bool _) rfl rfl ?_)
    rw [chain_end ws p (by omega)] at hch
    cases hch
    exact ⟨congrArg Value.bool (decide_eq_false (by rw [hM]; simp)).symm, rfl⟩
  have hp : p < ws.length := by omega
  obtain ⟨M', rfl, ⟨hz, hn⟩, hch'⟩ := chain_step hch hp
  have hn0 := (open_f _ hz).n0
  have hx := iv_at ws p hp
  obtain ⟨b1, o1, hae, hc1⟩ := hRS _ _ hx
  subst hae
  refine k_skip ?_
  refine k_block ?_
  refine k_seq ?_
  refine k_seq ?_
  refine k_region ?_
  refine m_int rfl rfl ?_
  refine m_int rfl rfl ?_
  refine b_eql rfl rfl ?_
  refine o_nil ?_
  refine k_cond rfl (fun h => ?_) (fun h => ?_)
  ·
    refine k_seq ?_
    refine k_region ?_
    refine m_bool rfl rfl ?_
    refine o_nil ?_
    refine k_ret (ret_tmps (ts := [4]) (v := .bool _) rfl rfl ?_)
    exact ⟨congrArg Value.bool (decide_eq_true (hM.2 (by rw [← h]; simp))).symm, rfl⟩
  refine k_skip ?_
  refine k_seq ?_
  refine k_region ?_
  refine m_ptr rfl rfl ?_
  refine o_nilc rfl ?_
  refine o_fld0 rfl rfl ?_
  refine o_ld (v := .slice (some ⟨b1, o1, none⟩) ws.length c) rfl rfl (hB.at rfl) ?_
  refine m_int rfl rfl ?_
  refine o_ixs1 (m := p) Tryd.underlying22 rfl rfl rfl hp ?_
  refine o_ld (v := iv (ws[p])) rfl rfl hc1 ?_
  refine o_call rfl rfl (ropen_ok w1 (ws[p]) (hW.rng _ (List.getElem_mem _)).2) (fun v w2 hv => ?_)
  obtain ⟨rfl, rfl⟩ := hv
  refine m_any rfl rfl ?_
  refine o_extr rfl rfl ?_
  refine o_extr rfl rfl ?_
  refine o_extr rfl rfl ?_
  refine o_extr rfl rfl ?_
  refine o_extr rfl rfl ?_
  refine m_int rfl rfl ?_
  refine m_int rfl rfl ?_
  refine m_int rfl rfl ?_
  refine m_int rfl rfl ?_
  refine m_int rfl rfl ?_
  refine o_nil ?_
  refine k_region ?_
  refine m_int rfl rfl ?_
  refine n_add rfl rfl (by omega) ?_
  refine m_int rfl rfl ?_
  refine n_add rfl rfl (by omega) ?_
  refine m_int rfl rfl ?_
  refine o_nil ?_
  refine k_blk ?_
  refine k_goal ⟨p + 1 + (openW (ws[p])).2.2.1.toNat, ⟨rfl, rfl, congrArg (Value.int .i64) (by push_cast; omega), trivial⟩, ⟨rfl, M', hch', by rw [hM, List.mem_cons]; exact ⟨fun hh => hh.resolve_left (fun he => h he.symm), .inr⟩⟩, by omega⟩
theorem rlook_ok (k : Nat → Prop) (w : World) (rb : Nat) (ws : List Int) (lim : Int) (L : List Int) (p : Int) (h : RP k w rb ws lim) (hW : WFH ws L) :
    Ret Tryd.prog 71 [.pointer (some ⟨rb, 0, none⟩), .int .i64 p] w (fun v w' => v = .tuple #[.int .i64 (lookH ws L p).1, .int .i64 (lookH ws L p).2.1, .int .i64 (lookH ws L p).2.2.1, .int .i64 (lookH ws L p).2.2.2] ∧ w' = w) := by
  have hRP := h
  obtain ⟨a, c, hB, hS, hk⟩ := h
  refine fn_enter (n := 34) Tryd.func71 rfl rfl (Nat.le_of_ble_eq_true rfl) (fun e => ?_)
  refine k_seq ?_
  refine k_region ?_
  refine m_int rfl rfl ?_
  refine m_int rfl rfl ?_
  refine m_int rfl rfl ?_
  refine m_int rfl rfl ?_
  refine o_nil ?_
  refine k_seq ?_
  refine k_seq ?_
  refine k_region ?_
  refine m_ptr rfl rfl ?_
  refine m_int rfl rfl ?_
  refine o_call rfl rfl (rblock_ok k w rb ws lim L p hRP hW) (fun v w1 hv => ?_)
  obtain ⟨rfl, rfl⟩ := hv
  refine u_not (p := p ∈ L) rfl ?_
  refine o_nil ?_
  refine k_cond rfl (fun h => ?_) (fun h => ?_)
  ·
    refine k_seq ?_
    refine k_region ?_
    refine m_int rfl rfl ?_
    refine m_int rfl rfl ?_
    refine m_int rfl rfl ?_
    refine m_int rfl rfl ?_
    refine o_nil ?_
    refine k_ret (ret_tmps (ts := [4, 5, 6, 7]) (v := .tuple #[.int _ _, .int _ _, .int _ _, .int _ _]) rfl rfl ?_)
    rw [look_out h]; exact ⟨rfl, rfl⟩
  have hp : p ∈ L := Decidable.of_not_not h
  obtain ⟨q, hq, hpq, hq1, hq0, hqn⟩ := hW.at hp
  subst hpq
  have hgd : ws.getD (q : Int).toNat 0 = ws[q] := getD_get ws q hq
  have hx := iv_at ws q hq
  have hRS := hS.rd
  obtain ⟨b1, o1, hae, hc1⟩ := hRS _ _ hx
  subst hae
  refine k_skip ?_
  refine k_seq ?_
  refine k_region ?_
  refine m_ptr rfl rfl ?_
  refine o_nilc rfl ?_
  refine o_fld0 rfl rfl ?_
  refine o_ld (v := .slice (some ⟨b1, o1, none⟩) ws.length c) rfl rfl (hB.at rfl) ?_
  refine m_int rfl rfl ?_
  refine o_ixs1 (m := q) Tryd.underlying22 rfl rfl rfl hq ?_
  refine o_ld (v := iv (ws[q])) rfl rfl hc1 ?_
  refine o_call rfl rfl (ropen_ok w1 (ws[q]) (hW.rng _ (List.getElem_mem _)).2) (fun v w1 hv => ?_)
  obtain ⟨rfl, rfl⟩ := hv
  refine m_any rfl rfl ?_
  refine o_extr rfl rfl ?_
  refine o_extr rfl rfl ?_
  refine o_extr rfl rfl ?_
  refine o_extr rfl rfl ?_
  refine o_extr rfl rfl ?_
  refine m_int rfl rfl ?_
  refine m_int rfl rfl ?_
  refine m_int rfl rfl ?_
  refine m_int rfl rfl ?_
  refine m_int rfl rfl ?_
  refine o_nil ?_
  refine k_seq ?_
  refine k_region ?_
  refine m_int rfl rfl ?_
  refine m_int rfl rfl ?_
  refine m_int rfl rfl ?_
  refine m_int rfl rfl ?_
  refine m_int rfl rfl ?_
  refine m_int rfl rfl ?_
  refine m_int rfl rfl ?_
  refine o_nil ?_
  refine k_ret (ret_tmps (ts := [4, 5, 6, 7]) (v := .tuple #[.int _ _, .int _ _, .int _ _, .int _ _]) rfl rfl ?_)
  rw [look_in hp, hgd, hq0]; exact ⟨rfl, rfl⟩
end Go.Proofs.YtchbidckckmobaaDoor

/- The reference's heap: Get. No condition beyond what each contract names. -/
namespace Go.Proofs.YtchbidckckmobaaDoor
open Go.RowKit E
set_option linter.unusedVariables false
set_option linter.unusedSimpArgs false
set_option maxRecDepth 100000
attribute [local irreducible] ow qw kw kq cw opW Ret
theorem get_err {ws L : List Int} {p i : Int} (h : (lookH ws L p).2.2.2 ≠ 0) : getH ws L p i = (0, (lookH ws L p).2.2.2) := by
  have e : cellH ws L p i = (0, false, (lookH ws L p).2.2.2) := by unfold cellH; rw [if_pos h]
  unfold getH
  rw [e, if_pos h]
theorem get_out {ws L : List Int} {p i : Int} (h : ¬ (lookH ws L p).2.2.2 ≠ 0) (hi : i < 0 ∨ (lookH ws L p).2.2.1 ≤ i) : getH ws L p i = (0, 1) := by
  have e : cellH ws L p i = (0, false, 1) := by unfold cellH; rw [if_neg h, if_pos hi]
  unfold getH
  rw [e, if_pos (by simp)]
theorem get_in {ws L : List Int} {p i : Int} (h : ¬ (lookH ws L p).2.2.2 ≠ 0) (hi : ¬ (i < 0 ∨ (lookH ws L p).2.2.1 ≤ i)) : (cellH ws L p i).2.2 = 0 := by
  unfold cellH; rw [if_neg h, if_neg hi]
theorem rget_ok (k : Nat → Prop) (w : World) (rb : Nat) (ws : List Int) (lim : Int) (L : List Int) (p i : Int) (h : RP k w rb ws lim) (hW : WFH ws L) :
    Ret Tryd.prog 70 [.pointer (some ⟨rb, 0, none⟩), .int .i64 p, .int .i64 i] w (fun v w' => v = .tuple #[.int .i64 (getH ws L p i).1, .int .i64 (getH ws L p i).2] ∧ w' = w) := by
  have hRP := h
  have hlen := hW.len
  obtain ⟨a, c, hB, hS, hk⟩ := h
  refine fn_enter (n := 40) Tryd.func70 rfl rfl (Nat.le_of_ble_eq_true rfl) (fun e => ?_)
  refine k_seq ?_
  refine k_region ?_
  refine m_int rfl rfl ?_
  refine m_int rfl rfl ?_
  refine o_nil ?_
  refine k_seq ?_
  refine k_region ?_
  refine m_ptr rfl rfl ?_
  refine m_int rfl rfl ?_
  refine o_call rfl rfl (rlook_ok k w rb ws lim L p hRP hW) (fun v w1 hv => ?_)
  obtain ⟨rfl, rfl⟩ := hv
  refine m_any rfl rfl ?_
  refine o_extr rfl rfl ?_
  refine o_extr rfl rfl ?_
  refine o_extr rfl rfl ?_
  refine o_extr rfl rfl ?_
  refine m_int rfl rfl ?_
  refine m_int rfl rfl ?_
  refine m_int rfl rfl ?_
  refine m_int rfl rfl ?_
  refine o_nil ?_
  refine k_seq ?_
  refine k_seq ?_
  refine k_region ?_
  refine m_int rfl rfl ?_
  refine b_neq rfl rfl ?_
  refine o_nil ?_
  refine k_cond rfl (fun h => ?_) (fun h => ?_)
  ·
    refine k_seq ?_
    refine k_region ?_
    refine m_int rfl rfl ?_
    refine m_int rfl rfl ?_
    refine m_int rfl rfl ?_
    refine o_nil ?_
    refine k_ret (ret_tmps (ts := [6, 7]) (v := .tuple #[.int _ _, .int _ _]) rfl rfl ?_)
    rw [get_err h]; exact ⟨rfl, rfl⟩
  have h0 := h
  refine k_skip ?_
  refine k_seq ?_
  refine k_seq ?_
  refine k_region ?_
  refine m_int rfl rfl ?_
  refine b_lss rfl rfl ?_
  refine m_bool rfl rfl ?_
  refine o_split (t := 25) rfl (fun h => ?_) (fun h => ?_)
  ·
    refine g_no rfl rfl rfl ?_
    refine g_no rfl rfl rfl ?_
    refine g_no rfl rfl rfl ?_
    refine pick_t rfl rfl ?_
    refine o_nil ?_
    refine k_condt rfl ?_
    refine k_seq ?_
    refine k_region ?_
    refine m_int rfl rfl ?_
    refine m_int rfl rfl ?_
    refine o_nil ?_
    refine k_ret (ret_tmps (ts := [6, 7]) (v := .tuple #[.int _ _, .int _ _]) rfl rfl ?_)
    rw [get_out h0 (.inl h)]; exact ⟨rfl, rfl⟩
  ·
    refine g_yes rfl rfl ?_
    refine m_int rfl rfl ?_
    refine g_yes rfl rfl ?_
    refine m_int rfl rfl ?_
    refine g_yes rfl rfl ?_
    refine b_geq rfl rfl ?_
    refine pick_f rfl rfl ?_
    refine o_nil ?_
    refine k_cond rfl (fun h => ?_) (fun h => ?_)
    ·
      refine k_seq ?_
      refine k_region ?_
      refine m_int rfl rfl ?_
      refine m_int rfl rfl ?_
      refine o_nil ?_
      refine k_ret (ret_tmps (ts := [6, 7]) (v := .tuple #[.int _ _, .int _ _]) rfl rfl ?_)
      rw [get_out h0 (.inr h)]; exact ⟨rfl, rfl⟩
    have hcz := get_in (i := i) h0 (by omega)
    obtain ⟨q, j, hq, rfl, rfl, hqL, hq0, hjn, hin, hcell⟩ := cell_e hW hcz
    have hx := iv_at ws (q + 1 + j) hin
    have hRS := hS.rd
    obtain ⟨b1, o1, hae, hc1⟩ := hRS _ _ hx
    subst hae
    refine k_skip ?_
    refine k_seq ?_
    refine k_region ?_
    refine m_ptr rfl rfl ?_
    refine o_nilc rfl ?_
    refine o_fld0 rfl rfl ?_
    refine o_ld (v := .slice (some ⟨b1, o1, none⟩) ws.length c) rfl rfl (hB.at rfl) ?_
    refine m_int rfl rfl ?_
    refine n_add rfl rfl (by omega) ?_
    refine m_int rfl rfl ?_
    refine n_add rfl rfl (by omega) ?_
    refine o_ixs1 (m := q + 1 + j) Tryd.underlying22 rfl rfl rfl hin ?_
    refine o_ld (v := iv (ws[q + 1 + j])) rfl rfl hc1 ?_
    refine m_int rfl rfl ?_
    refine m_int rfl rfl ?_
    refine o_nil ?_
    refine k_ret (ret_tmps (ts := [6, 7]) (v := .tuple #[.int _ _, .int _ _]) rfl rfl ?_)
    refine ⟨?_, rfl⟩
    unfold getH
    rw [hcell, if_neg (fun hh => hh rfl)]
    show _ = Value.tuple #[.int .i64 (ws.getD (q + 1 + j) 0), .int .i64 0]
    rw [getD_get ws _ hin]
end Go.Proofs.YtchbidckckmobaaDoor

/- The reference's heap: Set. No condition beyond what each contract names. -/
namespace Go.Proofs.YtchbidckckmobaaDoor
open Go.RowKit E
set_option linter.unusedVariables false
set_option linter.unusedSimpArgs false
set_option maxRecDepth 100000
attribute [local irreducible] ow qw kw kq cw opW Ret
def RRes (k : Nat → Prop) (w : World) (rb : Nat) (lim : Int) (w' : World) (ws L : List Int) : Prop := RP k w' rb ws lim ∧ WFH ws L ∧ KeepH k w w'
theorem mem_refU (kind mask p : Int) (n j : Nat) : p + 1 + (j : Int) ∈ refU kind mask p n ↔ j < n ∧ refB kind mask j = true := by
  induction n with
  | zero => simp [refU]
  | succ n ih =>
    unfold refU
    rw [List.mem_append, ih]
    by_cases hb : refB kind mask n = true
    · rw [if_pos hb, List.mem_singleton]
      constructor
      · rintro (⟨h1, h2⟩ | h)
        · exact ⟨by omega, h2⟩
        · have : j = n := by omega
          subst this
          exact ⟨by omega, hb⟩
      · rintro ⟨h1, h2⟩
        by_cases hj : j = n
        · subst hj; exact .inr rfl
        · exact .inl ⟨by omega, h2⟩
    · rw [if_neg hb]
      simp only [List.not_mem_nil, or_false]
      constructor
      · rintro ⟨h1, h2⟩; exact ⟨by omega, h2⟩
      · rintro ⟨h1, h2⟩
        refine ⟨?_, h2⟩
        by_cases hj : j = n
        · subst hj; exact absurd h2 hb
        · omega
theorem get_snd (ws L : List Int) (p i : Int) : (getH ws L p i).2 = (cellH ws L p i).2.2 := by
  unfold getH
  split
  · rfl
  · rename_i h; exact (Decidable.of_not_not h).symm
theorem rset_ok (k : Nat → Prop) (w : World) (rb : Nat) (ws : List Int) (lim : Int) (L : List Int) (p i x : Int) (h : RP k w rb ws lim) (hW : WFH ws L) (hx : -9223372036854775808 ≤ x ∧ x ≤ 9223372036854775807) :
    Ret Tryd.prog 69 [.pointer (some ⟨rb, 0, none⟩), .int .i64 p, .int .i64 i, .int .i64 x] w (fun v w' => v = .int .i64 (setH ws L p i x).1 ∧ RRes k w rb lim w' (setH ws L p i x).2 L) := by
  have hRP := h
  have hlen := hW.len
  obtain ⟨a, c, hB, hS, hk1, hk3⟩ := h
  refine fn_enter (n := 64) Tryd.func69 rfl rfl (Nat.le_of_ble_eq_true rfl) (fun e => ?_)
  refine k_seq ?_
  refine k_region ?_
  refine m_int rfl rfl ?_
  refine o_nil ?_
  refine k_seq ?_
  refine k_seq ?_
  refine k_region ?_
  refine m_ptr rfl rfl ?_
  refine m_int rfl rfl ?_
  refine m_int rfl rfl ?_
  refine o_call rfl rfl (rget_ok k w rb ws lim L p i hRP hW) (fun v w1 hv => ?_)
  obtain ⟨rfl, rfl⟩ := hv
  rw [get_snd]
  refine m_any rfl rfl ?_
  refine o_extr rfl rfl ?_
  refine o_extr rfl rfl ?_
  refine m_int rfl rfl ?_
  refine m_int rfl rfl ?_
  refine o_nil ?_
  refine k_seq ?_
  refine k_region ?_
  refine m_int rfl rfl ?_
  refine b_neq rfl rfl ?_
  refine o_nil ?_
  refine k_cond rfl (fun h => ?_) (fun h => ?_)
  ·
    refine k_seq ?_
    refine k_region ?_
    refine m_int rfl rfl ?_
    refine m_int rfl rfl ?_
    refine o_nil ?_
    refine k_ret (ret_tmps (ts := [8]) (v := .int _ _) rfl rfl ?_)
    have e : setH ws L p i x = ((cellH ws L p i).2.2, ws) := if_pos h
    rw [e]; exact ⟨rfl, hRP, hW, (Keep.refl [] _).h⟩
  have h0 := Decidable.of_not_not h
  obtain ⟨q, j, hq, rfl, rfl, hqL, hq0, hjn, hin, hcell⟩ := cell_e hW h0
  have hn0 := (open_f _ hq0).n0
  have hwat := hW.at hqL
  have hmem : ((q : Int) + 1 + (j : Int) ∈ refsW ws (q : Int)) ↔ refB (openW (ws[q])).1 (openW (ws[q])).2.2.2.1 j = true := by
    obtain ⟨q', hq', e1, _, _, hqn⟩ := hwat
    have : q' = q := by omega
    subst this
    rw [refsW_at ws q' hq]
    unfold refsO
    rw [if_pos ⟨hq0, hqn⟩, mem_refU]
    exact ⟨fun hh => hh.2, fun hh => ⟨by omega, hh⟩⟩
  refine k_skip ?_
  refine k_seq ?_
  refine k_region ?_
  refine m_ptr rfl rfl ?_
  refine o_nilc rfl ?_
  refine o_fld0 rfl rfl ?_
  refine o_ld (v := .slice a ws.length c) rfl rfl (hB.at rfl) ?_
  refine m_int rfl rfl ?_
  refine o_call rfl rfl (rrefs_ok w1 a ws.length c ws (q : Int) hS.rd rfl (by omega) (fun y hy => (hW.rng y hy).2)) (fun v w2 hv => ?_)
  obtain ⟨a2, c2, rfl, hS2, hK2, hf2⟩ := hv
  have hll : (refsW ws (q : Int)).length ≤ 65537 := by
    rw [refsW_at ws q hq]
    unfold refsO
    split
    · rename_i hc; have := refU_le (openW ws[q]).1 (openW ws[q]).2.2.2.1 (q : Int) (openW ws[q]).2.2.1.toNat; omega
    · simp
  obtain ⟨l, hl⟩ : ∃ l, refsW ws (q : Int) = l := ⟨_, rfl⟩
  rw [hl] at hS2 hll hmem ⊢
  have hRP2 := hRP.new hK2
  have hB2 := hB.keep hK2 (by simp)
  have hSa2 := hS.new hK2
  have hRl := hS2.rd
  refine m_sl rfl rfl ?_
  refine o_nil ?_
  refine k_seq ?_
  refine k_seq ?_
  refine k_region ?_
  refine m_int rfl rfl ?_
  refine o_nil ?_
  refine k_block ?_
  refine k_loop (σ := Nat) (fun m => [(0, .pointer (some ⟨rb, 0, none⟩)), (1, .int .i64 (q : Int)), (2, .int .i64 (j : Int)), (3, .int .i64 x), (11, .slice a2 l.length c2), (12, .int .i64 (m : Int))]) (fun m w' => w' = w2 ∧ m ≤ l.length ∧ ∀ m', m' < m → l[m']? = some ((q : Int) + 1 + (j : Int)) → x = 0 ∨ x ∈ L) (fun m => l.length - m) 0 ⟨rfl, rfl, rfl, rfl, rfl, rfl, trivial⟩ ⟨rfl, Nat.zero_le _, fun m' hm => by omega⟩ (fun m e w3 hJ => ?_)
  obtain ⟨rfl, hm, hpre⟩ := hJ
  refine k_seq ?_
  refine k_seq ?_
  refine k_region ?_
  refine m_int rfl rfl ?_
  refine m_sl rfl rfl ?_
  refine o_lens Tryd.underlying23 rfl ?_
  refine b_lss rfl rfl ?_
  refine o_nil ?_
  refine k_cond rfl (fun h => ?_) (fun h => ?_)
  rotate_left
  ·
    have hmf : m = l.length := by omega
    have e : setH ws L (q : Int) (j : Int) x = (0, ws.set (q + 1 + j) x) := by
      unfold setH
      rw [hcell, if_neg (fun hh => hh rfl), if_neg ?_]
      · rfl
      · rintro ⟨h1, h2, h3⟩
        obtain ⟨m', hm', he'⟩ := List.getElem_of_mem (hmem.2 h1)
        rcases hpre m' (by omega) (by rw [List.getElem?_eq_getElem hm', he']) with hh | hh
        · exact h2 hh
        · exact h3 hh
    obtain ⟨g, cur, hae, hBg, hgs⟩ := hSa2.blk (by omega)
    subst hae
    refine k_exit rfl ?_
    refine k_seq ?_
    refine k_region ?_
    refine m_ptr rfl rfl ?_
    refine o_nilc rfl ?_
    refine o_fld0 rfl rfl ?_
    refine o_ld (v := .slice (some ⟨g, 0, none⟩) ws.length c) rfl rfl (hB2.at rfl) ?_
    refine m_int rfl rfl ?_
    refine n_add rfl rfl (by omega) ?_
    refine m_int rfl rfl ?_
    refine n_add rfl rfl (by omega) ?_
    refine m_int rfl rfl ?_
    refine o_ixs1 (m := q + 1 + j) Tryd.underlying22 rfl rfl (congrArg (Value.int .i64) (by push_cast; rfl)) hin ?_
    refine o_st (v := iv x) rfl rfl rfl rfl hBg (by omega) (fun w5 hB5 hK5 hZ5 => ?_)
    have hS5 := Sl.set hSa2 hin hBg hB5
    rw [show (ws.map iv).set (q + 1 + j) (iv x) = (ws.set (q + 1 + j) x).map iv by rw [List.map_set]] at hS5
    have hne : rb ≠ g := fun e => by subst e; exact absurd (hB2.ty hBg) (by decide)
    refine o_nil ?_
    refine k_seq ?_
    refine k_region ?_
    refine m_int rfl rfl ?_
    refine o_nil ?_
    refine k_ret (ret_tmps (ts := [8]) (v := .int _ _) rfl rfl ?_)
    rw [e]
    refine ⟨rfl, ⟨some ⟨g, 0, none⟩, c, ?_, ?_, hk1, hk3⟩, hW.set hqL (by omega) (by rw [getD_get ws q hq]; omega) hx, hK2.h.tr (Keep.hb hK5 hBg (.inl rfl) (hk3 _ rfl))⟩
    · simp only [List.length_set]; exact hB2.keep hK5 (by simpa using hne)
    · simp only [List.length_set]; exact hS5
  have hml : m < l.length := by omega
  have hxl := iv_at l m hml
  obtain ⟨b1, o1, hae, hc1⟩ := hRl _ _ hxl
  subst hae
  refine k_skip ?_
  refine k_seq ?_
  refine k_block ?_
  refine k_seq ?_
  refine k_region ?_
  refine m_sl rfl rfl ?_
  refine m_int rfl rfl ?_
  refine o_ixs1 (m := m) Tryd.underlying23 rfl rfl rfl hml ?_
  refine o_ld (v := iv (l[m])) rfl rfl hc1 ?_
  refine m_int rfl rfl ?_
  refine n_add rfl rfl (by omega) ?_
  refine m_int rfl rfl ?_
  refine n_add rfl rfl (by omega) ?_
  refine b_eql rfl rfl ?_
  refine m_bool rfl rfl ?_
  refine o_split (t := 44) rfl (fun h => ?_) (fun h => ?_)
  ·
    have h44 := h
    refine g_yes rfl rfl ?_
    refine m_int rfl rfl ?_
    refine g_yes rfl rfl ?_
    refine b_neq rfl rfl ?_
    refine pick_t rfl rfl ?_
    refine m_bool rfl rfl ?_
    refine o_split (t := 48) rfl (fun h => ?_) (fun h => ?_)
    ·
      have h48 := h
      refine g_yes rfl rfl ?_
      refine m_ptr rfl rfl ?_
      refine g_yes rfl rfl ?_
      refine m_int rfl rfl ?_
      refine g_yes rfl rfl ?_
      refine o_call rfl rfl (rblock_ok k w3 rb ws lim L x hRP2 hW) (fun v w4 hv => ?_)
      obtain ⟨rfl, rfl⟩ := hv
      refine g_yes rfl rfl ?_
      refine u_not (p := x ∈ L) rfl ?_
      refine pick_t rfl rfl ?_
      refine o_nil ?_
      refine k_cond rfl (fun h => ?_) (fun h => ?_)
      ·
        refine k_seq ?_
        refine k_region ?_
        refine m_int rfl rfl ?_
        refine o_nil ?_
        refine k_ret (ret_tmps (ts := [8]) (v := .int _ _) rfl rfl ?_)
        have hin' : (q : Int) + 1 + (j : Int) ∈ l := by rw [← h44]; exact List.getElem_mem _
        have e : setH ws L (q : Int) (j : Int) x = (1, ws) := by unfold setH; rw [hcell, if_neg (fun hh => hh rfl), if_pos ⟨hmem.1 hin', h48, h⟩]
        rw [e]; exact ⟨rfl, hRP2, hW, hK2.h⟩
      refine k_skip ?_
      refine k_blk ?_
      refine k_region ?_
      refine m_int rfl rfl ?_
      refine n_add rfl rfl (by omega) ?_
      refine m_int rfl rfl ?_
      refine o_nil ?_
      refine k_goal ⟨m + 1, ⟨rfl, rfl, rfl, rfl, rfl, rfl, trivial⟩, ⟨rfl, by omega, fun m' hm' he => ?_⟩, by omega⟩
      by_cases hmm : m' = m
      · exact .inr (Decidable.of_not_not h)
      · exact hpre m' (by omega) he
    ·
      have h48 := h
      refine g_no rfl rfl rfl ?_
      refine g_no rfl rfl rfl ?_
      refine g_no rfl rfl rfl ?_
      refine g_no rfl rfl rfl ?_
      refine pick_f rfl rfl ?_
      refine o_nil ?_
      refine k_condf rfl ?_
      refine k_skip ?_
      refine k_blk ?_
      refine k_region ?_
      refine m_int rfl rfl ?_
      refine n_add rfl rfl (by omega) ?_
      refine m_int rfl rfl ?_
      refine o_nil ?_
      refine k_goal ⟨m + 1, ⟨rfl, rfl, rfl, rfl, rfl, rfl, trivial⟩, ⟨rfl, by omega, fun m' hm' he => ?_⟩, by omega⟩
      by_cases hmm : m' = m
      · exact .inl (Decidable.of_not_not h48)
      · exact hpre m' (by omega) he
  ·
    have h44 := h
    refine g_no rfl rfl rfl ?_
    refine g_no rfl rfl rfl ?_
    refine pick_f rfl rfl ?_
    refine m_bool rfl rfl ?_
    refine g_no rfl rfl rfl ?_
    refine g_no rfl rfl rfl ?_
    refine g_no rfl rfl rfl ?_
    refine g_no rfl rfl rfl ?_
    refine pick_f rfl rfl ?_
    refine o_nil ?_
    refine k_condf rfl ?_
    refine k_skip ?_
    refine k_blk ?_
    refine k_region ?_
    refine m_int rfl rfl ?_
    refine n_add rfl rfl (by omega) ?_
    refine m_int rfl rfl ?_
    refine o_nil ?_
    refine k_goal ⟨m + 1, ⟨rfl, rfl, rfl, rfl, rfl, rfl, trivial⟩, ⟨rfl, by omega, fun m' hm' he => ?_⟩, by omega⟩
    by_cases hmm : m' = m
    · subst hmm
      rw [List.getElem?_eq_getElem hml] at he
      exact absurd (Option.some.inj he) h44
    · exact hpre m' (by omega) he
end Go.Proofs.YtchbidckckmobaaDoor

/- The reference's heap: lay, Array. No condition beyond what each contract names. -/
namespace Go.Proofs.YtchbidckckmobaaDoor
open Go.RowKit E
set_option linter.unusedVariables false
set_option linter.unusedSimpArgs false
set_option maxRecDepth 100000
attribute [local irreducible] ow qw kw kq cw opW Ret
theorem rlay_ok (k : Nat → Prop) (w : World) (rb : Nat) (ws : List Int) (lim : Int) (hd n : Int) (h : RP k w rb ws lim) (hkw : ∀ b, w.heap.size ≤ b → k b) (hn : 0 ≤ n) (hl : (ws.length : Int) + 1 + n ≤ 65537) :
    Ret Tryd.prog 75 [.pointer (some ⟨rb, 0, none⟩), .int .i64 hd, .int .i64 n] w (fun v w' => v = .int .i64 (ws.length : Int) ∧ RP k w' rb (ws ++ hd :: List.replicate n.toNat 0) lim ∧ KeepH k w w') := by
  obtain ⟨a, c, hB, hS, hk1, hk3⟩ := h
  refine fn_enter (n := 39) Tryd.func75 rfl rfl (Nat.le_of_ble_eq_true rfl) (fun e => ?_)
  refine k_seq ?_
  refine k_region ?_
  refine m_int rfl rfl ?_
  refine o_nil ?_
  refine k_seq ?_
  refine k_region ?_
  refine m_ptr rfl rfl ?_
  refine o_nilc rfl ?_
  refine o_fld0 rfl rfl ?_
  refine o_ld (v := .slice a ws.length c) rfl rfl (hB.at rfl) ?_
  refine o_lens Tryd.underlying22 rfl ?_
  refine m_int rfl rfl ?_
  refine o_nil ?_
  refine k_seq ?_
  refine k_region ?_
  refine m_ptr rfl rfl ?_
  refine m_ptr rfl rfl ?_
  refine o_nilc rfl ?_
  refine o_fld0 rfl rfl ?_
  refine o_ld (v := .slice a ws.length c) rfl rfl (hB.at rfl) ?_
  refine m_int rfl rfl ?_
  refine o_bsl (E := 2) (cs := #[iv hd]) rfl (fun _ => by kernel_rfl) (fun g3 w3 hB3 hK3 hb3 hZ3 => ?_)
  refine o_app Tryd.underlying22 inf2 rfl (by decide) rfl rfl (hS.new hK3) hB3.rd rfl (by simp [iv, Value.oneCell']) (by simp [maxLen]; omega) (by omega) (fun a4 c4 w4 hS4 hK4 hv4 => ?_)
  have hf4 := own_app (k := k) (w := w3) (w' := w4) (a := a) (a2 := a4) hk3 (fun b hb => hkw b (by have := hK3.size; omega)) hv4
  have hH4 : KeepH k w w4 := hK3.h.tr (hK4.hs (hS.new hK3) hk3)
  have hB4 : Blk w4 rb #[.slice a ws.length c, iv lim] 68 := (hB.keep hK3 (by simp)).keep hK4 ((hS.new hK3).notin (hB.keep hK3 (by simp)) (by decide))
  refine o_nilc rfl ?_
  refine o_fld0 rfl rfl ?_
  refine o_st (v := .slice a4 (ws.length + 1) c4) rfl rfl rfl rfl hB4 (show 0 < 2 by decide) (fun w5 hB5 hK5 hZ5 => ?_)
  have hB5' : Blk w5 rb #[.slice a4 (ws.length + 1) c4, iv lim] 68 := hB5
  have hS5 : Sl w5 2 1 a4 (ws.length + 1) c4 (ws.map iv ++ [iv hd]) := hS4.keep hK5 (hS4.off hB4 (by decide))
  have hH5 : KeepH k w w5 := hH4.tr (Keep.hb hK5 hB4 (.inr (.inr rfl)) hk1)
  have hRP5 : RP k w5 rb (ws ++ hd :: List.replicate 0 0) lim := ⟨a4, c4, by simpa using hB5', by simpa using hS5, hk1, hf4⟩
  refine o_nil ?_
  refine k_seq ?_
  refine k_seq ?_
  refine k_region ?_
  refine m_int rfl rfl ?_
  refine o_nil ?_
  refine k_block ?_
  refine k_loop (σ := Nat) (fun i => [(0, .pointer (some ⟨rb, 0, none⟩)), (2, .int .i64 n), (7, .int .i64 (ws.length : Int)), (8, .int .i64 (i : Int))]) (fun i w' => (i : Int) ≤ n ∧ RP k w' rb (ws ++ hd :: List.replicate i 0) lim ∧ KeepH k w w') (fun i => n.toNat - i) 0 ⟨rfl, rfl, rfl, rfl, trivial⟩ ⟨by omega, hRP5, hH5⟩ (fun i e w6 hJ => ?_)
  obtain ⟨hi, hRP6, hH6⟩ := hJ
  refine k_seq ?_
  refine k_seq ?_
  refine k_region ?_
  refine m_int rfl rfl ?_
  refine m_int rfl rfl ?_
  refine b_lss rfl rfl ?_
  refine o_nil ?_
  refine k_cond rfl (fun h => ?_) (fun h => ?_)
  rotate_left
  ·
    refine k_exit rfl ?_
    refine k_seq ?_
    refine k_region ?_
    refine m_int rfl rfl ?_
    refine m_int rfl rfl ?_
    refine o_nil ?_
    refine k_ret (ret_tmps (ts := [6]) (v := .int _ _) rfl rfl ?_)
    refine ⟨rfl, ?_, hH6⟩
    have hie : i = n.toNat := by omega
    rw [← hie]
    exact hRP6
  obtain ⟨xs, hxs⟩ : ∃ xs, ws ++ hd :: List.replicate i 0 = xs := ⟨_, rfl⟩
  have hxl : xs.length = ws.length + 1 + i := by rw [← hxs]; simp; omega
  rw [hxs] at hRP6
  obtain ⟨a6, c6, hB6, hS6, _, hk6⟩ := hRP6
  refine k_skip ?_
  refine k_seq ?_
  refine k_block ?_
  refine k_region ?_
  refine m_ptr rfl rfl ?_
  refine m_ptr rfl rfl ?_
  refine o_nilc rfl ?_
  refine o_fld0 rfl rfl ?_
  refine o_ld (v := .slice a6 xs.length c6) rfl rfl (hB6.at rfl) ?_
  refine o_bsl (E := 2) (cs := #[iv 0]) rfl (fun _ => by kernel_rfl) (fun g7 w7 hB7 hK7 hb7 hZ7 => ?_)
  refine o_app Tryd.underlying22 inf2 rfl (by decide) rfl rfl (hS6.new hK7) hB7.rd rfl (by simp [iv, Value.oneCell']) (by simp [maxLen]; omega) (by omega) (fun a8 c8 w8 hS8 hK8 hv8 => ?_)
  have hf8 := own_app (k := k) (w := w7) (w' := w8) (a := a6) (a2 := a8) hk6 (fun b hb => hkw b (by have := hK7.size; have := hH6.size; omega)) hv8
  have hH8 : KeepH k w w8 := (hH6.tr hK7.h).tr (hK8.hs (hS6.new hK7) hk6)
  have hB8 : Blk w8 rb #[.slice a6 xs.length c6, iv lim] 68 := (hB6.keep hK7 (by simp)).keep hK8 ((hS6.new hK7).notin (hB6.keep hK7 (by simp)) (by decide))
  refine o_nilc rfl ?_
  refine o_fld0 rfl rfl ?_
  refine o_st (v := .slice a8 (xs.length + 1) c8) rfl rfl rfl rfl hB8 (show 0 < 2 by decide) (fun w9 hB9 hK9 hZ9 => ?_)
  have hB9' : Blk w9 rb #[.slice a8 (xs.length + 1) c8, iv lim] 68 := hB9
  have hS9 : Sl w9 2 1 a8 (xs.length + 1) c8 (xs.map iv ++ [iv 0]) := hS8.keep hK9 (hS8.off hB8 (by decide))
  have hH9 : KeepH k w w9 := hH8.tr (Keep.hb hK9 hB8 (.inr (.inr rfl)) hk1)
  have hnx : ws ++ hd :: List.replicate (i + 1) 0 = xs ++ [0] := by rw [← hxs, List.replicate_succ']; simp
  refine o_nil ?_
  refine k_blk ?_
  refine k_region ?_
  refine m_int rfl rfl ?_
  refine n_add rfl rfl (by omega) ?_
  refine m_int rfl rfl ?_
  refine o_nil ?_
  refine k_goal ⟨i + 1, ⟨rfl, rfl, rfl, rfl, trivial⟩, ⟨by omega, ?_, hH9⟩, by omega⟩
  rw [hnx]
  exact ⟨a8, c8, by simpa using hB9', by simpa using hS9, hk1, hf8⟩
end Go.Proofs.YtchbidckckmobaaDoor

/- The reference's heap: Array. No condition beyond what each contract names. -/
namespace Go.Proofs.YtchbidckckmobaaDoor
open Go.RowKit E
set_option linter.unusedVariables false
set_option linter.unusedSimpArgs false
set_option maxRecDepth 100000
attribute [local irreducible] ow qw kw kq cw opW Ret
theorem rlay_wf {ws L : List Int} (hW : WFH ws L) {lim kind cl n mask : Int} (hlim : lim ≤ 65536) (he : (layH ws L lim kind cl n mask).2.1 = 0) : WFH (layH ws L lim kind cl n mask).2.2.1 (layH ws L lim kind cl n mask).2.2.2 ∧ ((layH ws L lim kind cl n mask).2.2.1.length : Int) ≤ lim + 1 := by
  rcases lay_cases ws L lim kind cl n mask with ⟨h, _⟩ | ⟨e, h2, h3, h4⟩
  · exact absurd he h
  · have hoh := head_open kind cl n mask h2
    rw [e]
    have hnn : (n.toNat : Int) = n := by omega
    refine ⟨hW.app (by rw [hoh]) (by rw [hoh]; exact hnn.symm) (head_rng kind cl n mask) (by omega), ?_⟩
    simp; omega
theorem rarray_ok (k : Nat → Prop) (w : World) (rb : Nat) (ws : List Int) (lim : Int) (L : List Int) (cl n : Int) (rf : Bool) (h : RP k w rb ws lim) (hW : WFH ws L) (hlim : lim ≤ 65536) (hl0 : 0 ≤ lim) (hu : (ws.length : Int) ≤ lim + 1) (hkw : ∀ b, w.heap.size ≤ b → k b)
    (hn : -9223372036854775808 ≤ n ∧ n ≤ 9223372036854775807) :
    Ret Tryd.prog 58 [.pointer (some ⟨rb, 0, none⟩), .int .i64 cl, .bool rf, .int .i64 n] w (fun v w' => v = .tuple #[.int .i64 (layH ws L lim (if rf then 3 else 2) cl n 0).1, .int .i64 (layH ws L lim (if rf then 3 else 2) cl n 0).2.1] ∧ RRes k w rb lim w' (layH ws L lim (if rf then 3 else 2) cl n 0).2.2.1 (layH ws L lim (if rf then 3 else 2) cl n 0).2.2.2) := by
  have hRP := h
  have hlen := hW.len
  obtain ⟨a, c, hB, hS, hk1, hk3⟩ := h
  obtain ⟨kd, hkd⟩ : ∃ kd : Int, (if rf then 3 else 2) = kd := ⟨_, rfl⟩
  have hkd2 : kd = 2 ∨ kd = 3 := by cases rf <;> simp at hkd <;> omega
  have eA : (n < 0 ∨ ¬ (0 ≤ cl ∧ cl ≤ 65535)) → layH ws L lim kd cl n 0 = (0, 1, ws, L) := fun hh => if_pos hh
  have eB : ¬ (n < 0 ∨ ¬ (0 ≤ cl ∧ cl ≤ 65535)) → lim - ((ws.length : Int) - 1) ≤ n → layH ws L lim kd cl n 0 = (0, 27, ws, L) := fun h1 h2 => by unfold layH; rw [if_neg h1, if_pos h2]
  rw [hkd]
  refine fn_enter (n := 53) Tryd.func58 rfl rfl (Nat.le_of_ble_eq_true rfl) (fun e => ?_)
  refine k_seq ?_
  refine k_region ?_
  refine m_int rfl rfl ?_
  refine m_int rfl rfl ?_
  refine o_nil ?_
  refine k_seq ?_
  refine k_seq ?_
  refine k_region ?_
  refine m_int rfl rfl ?_
  refine b_lss rfl rfl ?_
  refine m_bool rfl rfl ?_
  refine o_split (t := 15) rfl (fun h => ?_) (fun h => ?_)
  ·
    refine g_no rfl rfl rfl ?_
    refine g_no rfl rfl rfl ?_
    refine pick_t rfl rfl ?_
    refine m_bool rfl rfl ?_
    refine g_no rfl rfl rfl ?_
    refine g_no rfl rfl rfl ?_
    refine pick_t rfl rfl ?_
    refine o_nil ?_
    refine k_condt rfl ?_
    refine k_seq ?_
    refine k_region ?_
    refine m_int rfl rfl ?_
    refine m_int rfl rfl ?_
    refine o_nil ?_
    refine k_ret (ret_tmps (ts := [8, 9]) (v := .tuple #[.int _ _, .int _ _]) rfl rfl ?_)
    rw [eA (by omega)]; exact ⟨rfl, hRP, hW, (Keep.refl [] _).h⟩
  ·
    refine g_yes rfl rfl ?_
    refine m_int rfl rfl ?_
    refine g_yes rfl rfl ?_
    refine b_gtr rfl rfl ?_
    refine pick_f rfl rfl ?_
    refine m_bool rfl rfl ?_
    refine o_split (t := 19) rfl (fun h => ?_) (fun h => ?_)
    ·
      refine g_no rfl rfl rfl ?_
      refine g_no rfl rfl rfl ?_
      refine pick_t rfl rfl ?_
      refine o_nil ?_
      refine k_condt rfl ?_
      refine k_seq ?_
      refine k_region ?_
      refine m_int rfl rfl ?_
      refine m_int rfl rfl ?_
      refine o_nil ?_
      refine k_ret (ret_tmps (ts := [8, 9]) (v := .tuple #[.int _ _, .int _ _]) rfl rfl ?_)
      rw [eA (by omega)]; exact ⟨rfl, hRP, hW, (Keep.refl [] _).h⟩
    ·
      refine g_yes rfl rfl ?_
      refine m_int rfl rfl ?_
      refine g_yes rfl rfl ?_
      refine b_lss rfl rfl ?_
      refine pick_f rfl rfl ?_
      refine o_nil ?_
      refine k_cond rfl (fun h => ?_) (fun h => ?_)
      ·
        refine k_seq ?_
        refine k_region ?_
        refine m_int rfl rfl ?_
        refine m_int rfl rfl ?_
        refine o_nil ?_
        refine k_ret (ret_tmps (ts := [8, 9]) (v := .tuple #[.int _ _, .int _ _]) rfl rfl ?_)
        rw [eA (by omega)]; exact ⟨rfl, hRP, hW, (Keep.refl [] _).h⟩
      have hc0 : ¬ (n < 0 ∨ ¬ (0 ≤ cl ∧ cl ≤ 65535)) := by omega
      refine k_skip ?_
      refine k_seq ?_
      refine k_seq ?_
      refine k_qk 16 rfl rfl rfl rfl rfl ?_
      refine q_step (fun w1 hC => m_int rfl rfl (o_nil ⟨rfl, hC⟩)) ?_
      refine q_step (fun w1 hC => m_ptr rfl rfl (o_nil ⟨rfl, hC⟩)) ?_
      refine q_step (fun w1 hC => o_nilc rfl (o_nil ⟨rfl, hC⟩)) ?_
      refine q_step (fun w1 hC => o_fld (off := 1) rfl rfl (o_nil ⟨rfl, hC⟩)) ?_
      refine q_step (fun w1 hC => o_ld (v := iv lim) rfl rfl (hB.kat hC rfl) (o_nil ⟨rfl, hC⟩)) ?_
      refine q_step (fun w1 hC => b_gtr rfl rfl (o_nil ⟨rfl, hC⟩)) ?_
      refine q_step (fun w1 hC => m_bool rfl rfl (o_nil ⟨rfl, hC⟩)) ?_
      refine q_split (t := 29) rfl (fun h => ?_) (fun h => ?_)
      ·
        have h29 := h
        refine q_step (v := undef) (fun w1 hC => g_no rfl rfl rfl (o_nil ⟨rfl, hC⟩)) ?_
        refine q_step (v := undef) (fun w1 hC => g_no rfl rfl rfl (o_nil ⟨rfl, hC⟩)) ?_
        refine q_step (v := undef) (fun w1 hC => g_no rfl rfl rfl (o_nil ⟨rfl, hC⟩)) ?_
        refine q_step (v := undef) (fun w1 hC => g_no rfl rfl rfl (o_nil ⟨rfl, hC⟩)) ?_
        refine q_step (v := undef) (fun w1 hC => g_no rfl rfl rfl (o_nil ⟨rfl, hC⟩)) ?_
        refine q_step (v := undef) (fun w1 hC => g_no rfl rfl rfl (o_nil ⟨rfl, hC⟩)) ?_
        refine q_step (v := undef) (fun w1 hC => g_no rfl rfl rfl (o_nil ⟨rfl, hC⟩)) ?_
        refine q_step (v := undef) (fun w1 hC => g_no rfl rfl rfl (o_nil ⟨rfl, hC⟩)) ?_
        refine q_step (v := undef) (fun w1 hC => g_no rfl rfl rfl (o_nil ⟨rfl, hC⟩)) ?_
        refine q_nil ?_
        intro w1 hC1
        refine g_no rfl rfl rfl ?_
        refine pick_t rfl rfl ?_
        refine o_nil ?_
        refine k_condt rfl ?_
        refine k_seq ?_
        refine k_region ?_
        refine m_int rfl rfl ?_
        refine m_int rfl rfl ?_
        refine o_nil ?_
        refine k_ret (ret_tmps (ts := [8, 9]) (v := .tuple #[.int _ _, .int _ _]) rfl rfl ?_)
        rw [eB hc0 (by omega)]; exact ⟨rfl, hRP.new hC1, hW, hC1.h⟩
      ·
        have h29 := h
        refine q_step (fun w1 hC => g_yes rfl rfl (m_ptr rfl rfl (o_nil ⟨rfl, hC⟩))) ?_
        refine q_step (v := .int .i64 ((ws.length : Int) - 1)) (fun w1 hC => g_yes rfl rfl (o_call rfl rfl (rused_ok k w1 rb ws lim (hRP.new hC) hlen) (fun v w2 hv => by obtain ⟨rfl, rfl⟩ := hv; exact o_nil ⟨rfl, hC⟩))) ?_
        refine q_step (fun w1 hC => g_yes rfl rfl (n_add rfl rfl (by omega) (o_nil ⟨rfl, hC⟩))) ?_
        refine q_step (fun w1 hC => g_yes rfl rfl (m_int rfl rfl (o_nil ⟨rfl, hC⟩))) ?_
        refine q_step (fun w1 hC => g_yes rfl rfl (n_add rfl rfl (by omega) (o_nil ⟨rfl, hC⟩))) ?_
        refine q_step (fun w1 hC => g_yes rfl rfl (m_ptr rfl rfl (o_nil ⟨rfl, hC⟩))) ?_
        refine q_step (fun w1 hC => g_yes rfl rfl (o_nilc rfl (o_nil ⟨rfl, hC⟩))) ?_
        refine q_step (fun w1 hC => g_yes rfl rfl (o_fld (off := 1) rfl rfl (o_nil ⟨rfl, hC⟩))) ?_
        refine q_step (fun w1 hC => g_yes rfl rfl (o_ld (v := iv lim) rfl rfl (hB.kat hC rfl) (o_nil ⟨rfl, hC⟩))) ?_
        refine q_nil ?_
        intro w1 hC1
        refine g_yes rfl rfl ?_
        refine b_gtr rfl rfl ?_
        refine pick_f rfl rfl ?_
        refine o_nil ?_
        refine k_cond rfl (fun h => ?_) (fun h => ?_)
        ·
          refine k_seq ?_
          refine k_region ?_
          refine m_int rfl rfl ?_
          refine m_int rfl rfl ?_
          refine o_nil ?_
          refine k_ret (ret_tmps (ts := [8, 9]) (v := .tuple #[.int _ _, .int _ _]) rfl rfl ?_)
          rw [eB hc0 (by omega)]; exact ⟨rfl, hRP.new hC1, hW, hC1.h⟩
        have hroom : ¬ lim - ((ws.length : Int) - 1) ≤ n := by omega
        have hok : hOk kd cl n 0 := ⟨by omega, by omega, by omega, by omega, by omega, by omega, fun _ => rfl, fun hh => by omega⟩
        have hh := head_yes hok
        have e : layH ws L lim kd cl n 0 = ((ws.length : Int), 0, ws ++ (headW kd cl n 0).1 :: List.replicate n.toNat 0, L ++ [(ws.length : Int)]) := by unfold layH; rw [if_neg hc0, if_neg hroom, if_neg (by rw [hh]; simp)]
        have hwf := rlay_wf (kind := kd) (cl := cl) (n := n) (mask := 0) hW hlim (by rw [e])
        rw [e] at hwf
        refine k_skip ?_
        refine k_seq ?_
        refine k_region ?_
        refine m_int rfl rfl ?_
        refine o_nil ?_
        refine k_seq ?_
        refine k_seq ?_
        refine k_region ?_
        refine m_bool rfl rfl ?_
        refine o_nil ?_
        refine k_cut (σ := Unit) (fun _ => [(0, .pointer (some ⟨rb, 0, none⟩)), (1, .int .i64 cl), (3, .int .i64 n), (10, .int .i64 kd)]) (fun _ w' => w' = w1) ?_ (fun s e w2 hJ => ?_)
        ·
          refine k_cond (p := rf = true) (by show Value.bool rf = _; cases rf <;> rfl) (fun h => ?_) (fun h => ?_)
          ·
            refine k_region ?_
            refine m_int rfl rfl ?_
            refine o_nil ?_
            refine k_goal ⟨(), ⟨rfl, rfl, rfl, congrArg (Value.int .i64) (by rw [← hkd, if_pos h]), trivial⟩, rfl⟩
          refine k_skip ?_
          refine k_goal ⟨(), ⟨rfl, rfl, rfl, congrArg (Value.int .i64) (by rw [← hkd, if_neg h]), trivial⟩, rfl⟩
        replace hJ := hJ.symm
        subst hJ
        refine k_seq ?_
        refine k_region ?_
        refine m_int rfl rfl ?_
        refine m_int rfl rfl ?_
        refine m_int rfl rfl ?_
        refine o_call rfl rfl (rhead_ok w1 kd cl n 0 (by decide)) (fun v w2 hv => ?_)
        obtain ⟨rfl, rfl⟩ := hv
        refine m_any rfl rfl ?_
        refine o_extr rfl rfl ?_
        refine o_extr rfl rfl ?_
        refine m_int rfl rfl ?_
        refine m_int rfl rfl ?_
        refine o_nil ?_
        refine k_seq ?_
        refine k_region ?_
        refine m_ptr rfl rfl ?_
        refine m_int rfl rfl ?_
        refine m_int rfl rfl ?_
        refine o_call rfl rfl (rlay_ok k w2 rb ws lim _ n (hRP.new hC1) (fun b hb => hkw b (by have := hC1.size; omega)) (by omega) (by omega)) (fun v w3 hv => ?_)
        obtain ⟨rfl, hRP3, hK3⟩ := hv
        refine m_int rfl rfl ?_
        refine m_int rfl rfl ?_
        refine o_nil ?_
        refine k_ret (ret_tmps (ts := [8, 9]) (v := .tuple #[.int _ _, .int _ _]) rfl rfl ?_)
        rw [‹layH ws L lim kd cl n 0 = _›]
        exact ⟨rfl, hRP3, hwf.1, hC1.h.tr hK3⟩
end Go.Proofs.YtchbidckckmobaaDoor

/- Objects: the heap's and the reference's. No condition beyond what each contract names. -/
namespace Go.Proofs.YtchbidckckmobaaDoor
open Go.RowKit E
set_option linter.unusedVariables false
set_option linter.unusedSimpArgs false
set_option maxRecDepth 100000
attribute [local irreducible] ow qw kw kq cw opW Ret
def maskP (bs : List Bool) : Nat → Nat
  | 0 => 0
  | m + 1 => maskP bs m + (if bs[m]? = some true then 2 ^ m else 0)
theorem maskP_lt (bs : List Bool) (m : Nat) : maskP bs m < 2 ^ m := by
  induction m with
  | zero => simp [maskP]
  | succ m ih => unfold maskP; rw [Nat.pow_succ]; split <;> omega
theorem maskP_or (bs : List Bool) (i : Nat) (hi : i < 64) (h : bs[i]? = some true) : BitVec.ofNat 64 (maskP bs i) ||| (1#64 <<< i) = BitVec.ofNat 64 (maskP bs (i + 1)) := by
  have h1 := maskP_lt bs i
  have h2 := maskP_lt bs (i + 1)
  have hp : 2 ^ (i + 1) ≤ 2 ^ 64 := Nat.pow_le_pow_right (by decide) (by omega)
  have hp' : (2 : Nat) ^ i < 2 ^ 64 := Nat.pow_lt_pow_right (by decide) hi
  have e : maskP bs (i + 1) = 2 ^ i * 1 + maskP bs i := by show maskP bs i + _ = _; rw [if_pos h]; omega
  have key : maskP bs i ||| 2 ^ i = maskP bs (i + 1) := by rw [e, Nat.two_pow_add_eq_or_of_lt h1, Nat.mul_one, Nat.or_comm]
  have a1 : (BitVec.ofNat 64 (maskP bs i)).toNat = maskP bs i := by rw [BitVec.toNat_ofNat]; exact Nat.mod_eq_of_lt (by omega)
  have a2 : (BitVec.ofNat 64 (maskP bs (i + 1))).toNat = maskP bs (i + 1) := by rw [BitVec.toNat_ofNat]; exact Nat.mod_eq_of_lt (by omega)
  have a3 : (1#64 <<< i).toNat = 2 ^ i := by
    rw [BitVec.toNat_shiftLeft, show (1#64).toNat = 1 from rfl, Nat.shiftLeft_eq, Nat.one_mul]
    exact Nat.mod_eq_of_lt hp'
  apply BitVec.eq_of_toNat_eq
  rw [BitVec.toNat_or, a1, a2, a3, key]
def objH (ws L : List Int) (lim cl : Int) (bs : List Bool) : Int × Int × List Int × List Int :=
  if 32 < bs.length then (0, 1, ws, L) else layH ws L lim 1 cl bs.length (maskP bs bs.length : Nat)
theorem bool_at (bs : List Bool) (i : Nat) (h : i < bs.length) : (bs.map Value.bool)[i]? = some (.bool (bs[i])) := by
  rw [List.getElem?_map, List.getElem?_eq_getElem h]; rfl
theorem hobject_ok (k : Nat → Prop) (w : World) (hb : Nat) (ws : List Int) (lim : Int) (L : List Int) (cl : Int) (a : Option Addr) (c : Nat) (bs : List Bool) (h' : HP k w hb ws lim L) (hW : WFH ws L) (hlim : lim ≤ 65536) (hu : (ws.length : Int) ≤ lim + 1) (hkw : ∀ b, w.heap.size ≤ b → k b)
    (hcl : -9223372036854775808 ≤ cl ∧ cl ≤ 9223372036854775807) (hR : Rd w a (bs.map Value.bool)) (hbl : bs.length ≤ 9223372036854775807) :
    Ret Tryd.prog 41 [.pointer (some ⟨hb, 0, none⟩), .int .i64 cl, .slice a bs.length c] w (fun v w' => v = .tuple #[.int .i64 (objH ws L lim cl bs).1, .int .i64 (objH ws L lim cl bs).2.1] ∧ HRes k w hb lim w' (objH ws L lim cl bs).2.2.1 (objH ws L lim cl bs).2.2.2) := by
  refine fn_enter (n := 37) Tryd.func41 rfl rfl (Nat.le_of_ble_eq_true rfl) (fun e => ?_)
  refine k_seq ?_
  refine k_region ?_
  refine m_int rfl rfl ?_
  refine m_int rfl rfl ?_
  refine o_nil ?_
  refine k_seq ?_
  refine k_seq ?_
  refine k_region ?_
  refine m_sl rfl rfl ?_
  refine o_lens Tryd.underlying63 rfl ?_
  refine b_gtr rfl rfl ?_
  refine o_nil ?_
  refine k_cond rfl (fun h => ?_) (fun h => ?_)
  ·
    refine k_seq ?_
    refine k_region ?_
    refine m_int rfl rfl ?_
    refine m_int rfl rfl ?_
    refine o_nil ?_
    refine k_ret (ret_tmps (ts := [6, 7]) (v := .tuple #[.int _ _, .int _ _]) rfl rfl ?_)
    rw [show objH ws L lim cl bs = (0, 1, ws, L) from if_pos (by omega)]; exact ⟨rfl, h', hW, hu, (Keep.refl [] w).h⟩
  have hb32 : bs.length ≤ 32 := by omega
  have e : objH ws L lim cl bs = layH ws L lim 1 cl bs.length (maskP bs bs.length : Nat) := if_neg (by omega)
  refine k_skip ?_
  refine k_seq ?_
  refine k_region ?_
  refine m_int rfl rfl ?_
  refine o_nil ?_
  refine k_seq ?_
  refine k_seq ?_
  refine k_region ?_
  refine m_sl rfl rfl ?_
  refine o_lens Tryd.underlying63 rfl ?_
  refine m_int rfl rfl ?_
  refine o_nil ?_
  refine k_block ?_
  refine k_loop (σ := Nat) (fun i => [(0, .pointer (some ⟨hb, 0, none⟩)), (1, .int .i64 cl), (2, .slice a bs.length c), (8, .int .u64 ((BitVec.ofNat 64 (maskP bs i)).toNat : Int)), (14, .slice a bs.length c), (15, .int .i64 (bs.length : Int)), (16, .int .i64 (i : Int))]) (fun i w' => i ≤ bs.length ∧ w' = w) (fun i => bs.length - i) 0 ⟨rfl, rfl, rfl, rfl, rfl, rfl, rfl, trivial⟩ ⟨Nat.zero_le _, rfl⟩ (fun i e w1 hJ => ?_)
  obtain ⟨hi, rfl⟩ := hJ
  refine k_seq ?_
  refine k_region ?_
  refine b_lss rfl rfl ?_
  refine o_nil ?_
  refine k_seq ?_
  refine k_cond rfl (fun h => ?_) (fun h => ?_)
  rotate_left
  ·
    have hie : i = bs.length := by omega
    subst hie
    have hml := maskP_lt bs bs.length
    have hmp : 2 ^ bs.length ≤ 2 ^ 32 := Nat.pow_le_pow_right (by decide) hb32
    refine k_exit rfl ?_
    refine k_seq ?_
    refine k_region ?_
    refine m_ptr rfl rfl ?_
    refine m_int rfl rfl ?_
    refine m_sl rfl rfl ?_
    refine o_lens Tryd.underlying63 rfl ?_
    refine m_int rfl rfl ?_
    refine cv64_i rfl Tryd.underlying2 rfl ?_
    have hmi : (BitVec.ofNat 64 (maskP bs bs.length)).toInt = ((maskP bs bs.length : Nat) : Int) := by
      rw [BitVec.toInt_eq_toNat_cond, BitVec.toNat_ofNat, Nat.mod_eq_of_lt (by omega), if_pos (by omega)]
    rw [hmi]
    refine o_call rfl rfl (lay_ok k w1 hb ws lim L 1 cl bs.length (maskP bs bs.length : Nat) h' hW hlim hu hkw hcl (by omega) (by omega)) (fun v w2 hv => ?_)
    obtain ⟨rfl, hv2⟩ := hv
    refine o_extr rfl rfl ?_
    refine o_extr rfl rfl ?_
    refine m_int rfl rfl ?_
    refine m_int rfl rfl ?_
    refine o_nil ?_
    refine k_ret (ret_tmps (ts := [6, 7]) (v := .tuple #[.int _ _, .int _ _]) rfl rfl ?_)
    rw [‹objH ws L lim cl bs = _›]; exact ⟨rfl, hv2⟩
  have hin : i < bs.length := by omega
  have hx := bool_at bs i hin
  obtain ⟨b1, o1, hae, hc1⟩ := hR _ _ hx
  subst hae
  refine k_skip ?_
  refine k_seq ?_
  refine k_block ?_
  refine k_seq ?_
  refine k_region ?_
  refine m_int rfl rfl ?_
  refine o_ixs1 (m := i) Tryd.underlying63 rfl rfl rfl hin ?_
  refine o_ld (v := .bool (bs[i])) rfl rfl hc1 ?_
  refine m_int rfl rfl ?_
  refine m_bool rfl rfl ?_
  refine o_nil ?_
  refine k_seq ?_
  refine k_region ?_
  refine m_bool rfl rfl ?_
  refine o_nil ?_
  refine k_cond (p := bs[i] = true) (by show Value.bool (bs[i]) = _; cases bs[i] <;> rfl) (fun h => ?_) (fun h => ?_)
  ·
    have hbt : bs[i]? = some true := by rw [List.getElem?_eq_getElem hin, h]
    refine k_region ?_
    refine m_int rfl rfl ?_
    refine m_int rfl rfl ?_
    refine cv64 rfl Tryd.underlying49 rfl ?_
    refine v64_shln (a := 1#64) (c := i) (k' := .u64) rfl ?_ ?_
    · show Value.int .u64 ((BitVec.ofInt 64 (i : Int)).toNat : Int) = _
      rw [ofZ]; exact congrArg (Value.int .u64) (by omega)
    refine v64_or rfl rfl ?_
    refine m_int rfl rfl ?_
    refine o_nil ?_
    refine k_blk ?_
    refine k_region ?_
    refine n_add rfl rfl (by omega) ?_
    refine m_int rfl rfl ?_
    refine o_nil ?_
    refine k_goal ⟨i + 1, ⟨rfl, rfl, rfl, congrArg (fun z : BitVec 64 => Value.int .u64 (z.toNat : Int)) (maskP_or bs i (by omega) hbt), rfl, rfl, rfl, trivial⟩, ⟨by omega, rfl⟩, by omega⟩
  have hbf : ¬ bs[i]? = some true := by rw [List.getElem?_eq_getElem hin]; simpa using h
  have hmf : maskP bs (i + 1) = maskP bs i := by show maskP bs i + _ = _; rw [if_neg hbf]; rfl
  refine k_skip ?_
  refine k_blk ?_
  refine k_region ?_
  refine n_add rfl rfl (by omega) ?_
  refine m_int rfl rfl ?_
  refine o_nil ?_
  refine k_goal ⟨i + 1, ⟨rfl, rfl, rfl, by rw [hmf]; rfl, rfl, rfl, rfl, trivial⟩, ⟨by omega, rfl⟩, by omega⟩
end Go.Proofs.YtchbidckckmobaaDoor

/- The reference's Object; Words; SameWords. No condition beyond what each contract names. -/
namespace Go.Proofs.YtchbidckckmobaaDoor
open Go.RowKit E
set_option linter.unusedVariables false
set_option linter.unusedSimpArgs false
set_option maxRecDepth 100000
attribute [local irreducible] ow qw kw kq cw opW Ret
theorem robject_ok (k : Nat → Prop) (w : World) (rb : Nat) (ws : List Int) (lim : Int) (L : List Int) (cl : Int) (a : Option Addr) (c : Nat) (bs : List Bool) (h' : RP k w rb ws lim) (hW : WFH ws L) (hlim : lim ≤ 65536) (hl0 : 0 ≤ lim) (hu : (ws.length : Int) ≤ lim + 1) (hkw : ∀ b, w.heap.size ≤ b → k b)
    (hR : Rd w a (bs.map Value.bool)) (hbl : bs.length ≤ 9223372036854775807) :
    Ret Tryd.prog 59 [.pointer (some ⟨rb, 0, none⟩), .int .i64 cl, .slice a bs.length c] w (fun v w' => v = .tuple #[.int .i64 (objH ws L lim cl bs).1, .int .i64 (objH ws L lim cl bs).2.1] ∧ RRes k w rb lim w' (objH ws L lim cl bs).2.2.1 (objH ws L lim cl bs).2.2.2) := by
  have hRP := h'
  have hlen := hW.len
  obtain ⟨a0, c0, hB, hS, hk1, hk3⟩ := h'
  have eA : (32 < bs.length ∨ ¬ (0 ≤ cl ∧ cl ≤ 65535)) → objH ws L lim cl bs = (0, 1, ws, L) := fun hh => by
    unfold objH
    by_cases h32 : 32 < bs.length
    · rw [if_pos h32]
    · rw [if_neg h32]; exact if_pos (.inr (hh.resolve_left h32))
  refine fn_enter (n := 63) Tryd.func59 rfl rfl (Nat.le_of_ble_eq_true rfl) (fun e => ?_)
  refine k_seq ?_
  refine k_region ?_
  refine m_int rfl rfl ?_
  refine m_int rfl rfl ?_
  refine o_nil ?_
  refine k_seq ?_
  refine k_seq ?_
  refine k_region ?_
  refine m_int rfl rfl ?_
  refine b_lss rfl rfl ?_
  refine m_bool rfl rfl ?_
  refine o_split (t := 15) rfl (fun h => ?_) (fun h => ?_)
  ·
    refine g_no rfl rfl rfl ?_
    refine g_no rfl rfl rfl ?_
    refine pick_t rfl rfl ?_
    refine m_bool rfl rfl ?_
    refine g_no rfl rfl rfl ?_
    refine g_no rfl rfl rfl ?_
    refine g_no rfl rfl rfl ?_
    refine pick_t rfl rfl ?_
    refine o_nil ?_
    refine k_condt rfl ?_
    refine k_seq ?_
    refine k_region ?_
    refine m_int rfl rfl ?_
    refine m_int rfl rfl ?_
    refine o_nil ?_
    refine k_ret (ret_tmps (ts := [6, 7]) (v := .tuple #[.int _ _, .int _ _]) rfl rfl ?_)
    rw [eA (by omega)]; exact ⟨rfl, hRP, hW, (Keep.refl [] _).h⟩
  ·
    refine g_yes rfl rfl ?_
    refine m_int rfl rfl ?_
    refine g_yes rfl rfl ?_
    refine b_gtr rfl rfl ?_
    refine pick_f rfl rfl ?_
    refine m_bool rfl rfl ?_
    refine o_split (t := 19) rfl (fun h => ?_) (fun h => ?_)
    ·
      refine g_no rfl rfl rfl ?_
      refine g_no rfl rfl rfl ?_
      refine g_no rfl rfl rfl ?_
      refine pick_t rfl rfl ?_
      refine o_nil ?_
      refine k_condt rfl ?_
      refine k_seq ?_
      refine k_region ?_
      refine m_int rfl rfl ?_
      refine m_int rfl rfl ?_
      refine o_nil ?_
      refine k_ret (ret_tmps (ts := [6, 7]) (v := .tuple #[.int _ _, .int _ _]) rfl rfl ?_)
      rw [eA (by omega)]; exact ⟨rfl, hRP, hW, (Keep.refl [] _).h⟩
    ·
      refine g_yes rfl rfl ?_
      refine m_sl rfl rfl ?_
      refine g_yes rfl rfl ?_
      refine o_lens Tryd.underlying63 rfl ?_
      refine g_yes rfl rfl ?_
      refine b_gtr rfl rfl ?_
      refine pick_f rfl rfl ?_
      refine o_nil ?_
      refine k_cond rfl (fun h => ?_) (fun h => ?_)
      ·
        refine k_seq ?_
        refine k_region ?_
        refine m_int rfl rfl ?_
        refine m_int rfl rfl ?_
        refine o_nil ?_
        refine k_ret (ret_tmps (ts := [6, 7]) (v := .tuple #[.int _ _, .int _ _]) rfl rfl ?_)
        rw [eA (by omega)]; exact ⟨rfl, hRP, hW, (Keep.refl [] _).h⟩
      have hc0 : 0 ≤ cl ∧ cl ≤ 65535 := by omega
      have hb32 : bs.length ≤ 32 := by omega
      have eO : objH ws L lim cl bs = layH ws L lim 1 cl bs.length (maskP bs bs.length : Nat) := if_neg (by omega)
      have hml := maskP_lt bs bs.length
      have hmp : 2 ^ bs.length ≤ 2 ^ 32 := Nat.pow_le_pow_right (by decide) hb32
      refine k_skip ?_
      refine k_seq ?_
      refine k_seq ?_
      refine k_qk 10 rfl rfl rfl rfl rfl ?_
      refine q_step (fun w1 hC => m_ptr rfl rfl (o_nil ⟨rfl, hC⟩)) ?_
      refine q_step (v := .int .i64 ((ws.length : Int) - 1)) (fun w1 hC => o_call rfl rfl (rused_ok k w1 rb ws lim (hRP.new hC) hlen) (fun v w2 hv => by obtain ⟨rfl, rfl⟩ := hv; exact o_nil ⟨rfl, hC⟩)) ?_
      refine q_step (fun w1 hC => n_add rfl rfl (by omega) (o_nil ⟨rfl, hC⟩)) ?_
      refine q_step (fun w1 hC => m_sl rfl rfl (o_nil ⟨rfl, hC⟩)) ?_
      refine q_step (fun w1 hC => o_lens Tryd.underlying63 rfl (o_nil ⟨rfl, hC⟩)) ?_
      refine q_step (fun w1 hC => n_add rfl rfl (by omega) (o_nil ⟨rfl, hC⟩)) ?_
      refine q_step (fun w1 hC => m_ptr rfl rfl (o_nil ⟨rfl, hC⟩)) ?_
      refine q_step (fun w1 hC => o_nilc rfl (o_nil ⟨rfl, hC⟩)) ?_
      refine q_step (fun w1 hC => o_fld (off := 1) rfl rfl (o_nil ⟨rfl, hC⟩)) ?_
      refine q_step (fun w1 hC => o_ld (v := iv lim) rfl rfl (hB.kat hC rfl) (o_nil ⟨rfl, hC⟩)) ?_
      refine q_nil ?_
      intro w1 hC1
      refine b_gtr rfl rfl ?_
      refine o_nil ?_
      refine k_cond rfl (fun h => ?_) (fun h => ?_)
      ·
        refine k_seq ?_
        refine k_region ?_
        refine m_int rfl rfl ?_
        refine m_int rfl rfl ?_
        refine o_nil ?_
        refine k_ret (ret_tmps (ts := [6, 7]) (v := .tuple #[.int _ _, .int _ _]) rfl rfl ?_)
        rw [eO, show layH ws L lim 1 cl bs.length (maskP bs bs.length : Nat) = (0, 27, ws, L) from by unfold layH; rw [if_neg (by omega), if_pos (by omega)]]
        exact ⟨rfl, hRP.new hC1, hW, hC1.h⟩
      have hroom : ¬ lim - ((ws.length : Int) - 1) ≤ bs.length := by omega
      have hok : hOk 1 cl bs.length (maskP bs bs.length : Nat) := ⟨by decide, by decide, hc0.1, hc0.2, by omega, by omega, fun hh => absurd rfl hh, fun _ => ⟨by omega, by omega, by rw [show ((bs.length : Int)).toNat = bs.length from by omega]; exact_mod_cast hml⟩⟩
      have hh := head_yes hok
      have eL : layH ws L lim 1 cl bs.length (maskP bs bs.length : Nat) = ((ws.length : Int), 0, ws ++ (headW 1 cl bs.length (maskP bs bs.length : Nat)).1 :: List.replicate ((bs.length : Int)).toNat 0, L ++ [(ws.length : Int)]) := by unfold layH; rw [if_neg (by omega), if_neg hroom, if_neg (by rw [hh]; simp)]
      have hwf := rlay_wf (kind := 1) (cl := cl) (n := bs.length) (mask := (maskP bs bs.length : Nat)) hW hlim (by rw [eL])
      rw [eL] at hwf
      refine k_skip ?_
      refine k_seq ?_
      refine k_region ?_
      refine m_int rfl rfl ?_
      refine m_int rfl rfl ?_
      refine o_nil ?_
      refine k_seq ?_
      refine k_seq ?_
      refine k_region ?_
      refine m_int rfl rfl ?_
      refine o_nil ?_
      refine k_block ?_
      refine k_loop (σ := Nat) (fun i => [(0, .pointer (some ⟨rb, 0, none⟩)), (1, .int .i64 cl), (2, .slice a bs.length c), (8, .int .i64 ((maskP bs i : Nat) : Int)), (9, .int .i64 ((2 ^ i : Nat) : Int)), (10, .int .i64 (i : Int))]) (fun i w' => i ≤ bs.length ∧ w' = w1) (fun i => bs.length - i) 0 ⟨rfl, rfl, rfl, rfl, rfl, rfl, trivial⟩ ⟨Nat.zero_le _, rfl⟩ (fun i e w2 hJ => ?_)
      obtain ⟨hi, hJ⟩ := hJ
      replace hJ := hJ.symm
      subst hJ
      refine k_seq ?_
      refine k_seq ?_
      refine k_region ?_
      refine m_int rfl rfl ?_
      refine m_sl rfl rfl ?_
      refine o_lens Tryd.underlying63 rfl ?_
      refine b_lss rfl rfl ?_
      refine o_nil ?_
      refine k_cond rfl (fun h => ?_) (fun h => ?_)
      rotate_left
      ·
        have hie : i = bs.length := by omega
        subst hie
        refine k_exit rfl ?_
        refine k_seq ?_
        refine k_region ?_
        refine m_int rfl rfl ?_
        refine m_sl rfl rfl ?_
        refine o_lens Tryd.underlying63 rfl ?_
        refine m_int rfl rfl ?_
        refine o_call rfl rfl (rhead_ok w1 1 cl bs.length (maskP bs bs.length : Nat) (by omega)) (fun v w2 hv => ?_)
        obtain ⟨rfl, rfl⟩ := hv
        refine m_any rfl rfl ?_
        refine o_extr rfl rfl ?_
        refine o_extr rfl rfl ?_
        refine m_int rfl rfl ?_
        refine m_int rfl rfl ?_
        refine o_nil ?_
        refine k_seq ?_
        refine k_region ?_
        refine m_ptr rfl rfl ?_
        refine m_int rfl rfl ?_
        refine m_sl rfl rfl ?_
        refine o_lens Tryd.underlying63 rfl ?_
        refine o_call rfl rfl (rlay_ok k w2 rb ws lim _ bs.length (hRP.new hC1) (fun b hb => hkw b (by have := hC1.size; omega)) (by omega) (by omega)) (fun v w3 hv => ?_)
        obtain ⟨rfl, hRP3, hK3⟩ := hv
        refine m_int rfl rfl ?_
        refine m_int rfl rfl ?_
        refine o_nil ?_
        refine k_ret (ret_tmps (ts := [6, 7]) (v := .tuple #[.int _ _, .int _ _]) rfl rfl ?_)
        rw [eO, eL]
        exact ⟨rfl, hRP3, hwf.1, hC1.h.tr hK3⟩
      have hin : i < bs.length := by omega
      have hx := bool_at bs i hin
      have hR1 := hR.new hC1
      obtain ⟨b1, o1, hae, hc1⟩ := hR1 _ _ hx
      subst hae
      have hmi := maskP_lt bs i
      have hpi : 2 ^ (i + 1) ≤ 2 ^ 32 := Nat.pow_le_pow_right (by decide) (by omega)
      have hpe : 2 ^ (i + 1) = 2 * 2 ^ i := by rw [Nat.pow_succ, Nat.mul_comm]
      refine k_skip ?_
      refine k_seq ?_
      refine k_block ?_
      refine k_seq ?_
      refine k_seq ?_
      refine k_region ?_
      refine m_sl rfl rfl ?_
      refine m_int rfl rfl ?_
      refine o_ixs1 (m := i) Tryd.underlying63 rfl rfl rfl hin ?_
      refine o_ld (v := .bool (bs[i])) rfl rfl hc1 ?_
      refine o_nil ?_
      refine k_cut (σ := Unit) (fun _ => [(0, .pointer (some ⟨rb, 0, none⟩)), (1, .int .i64 cl), (2, .slice (some ⟨b1, o1, none⟩) bs.length c), (8, .int .i64 ((maskP bs (i + 1) : Nat) : Int)), (9, .int .i64 ((2 ^ i : Nat) : Int)), (10, .int .i64 (i : Int))]) (fun _ w' => w' = w1) ?_ (fun s e w3 hJ => ?_)
      ·
        refine k_cond (p := bs[i] = true) (by show Value.bool (bs[i]) = _; cases bs[i] <;> rfl) (fun h => ?_) (fun h => ?_)
        ·
          refine k_region ?_
          refine m_int rfl rfl ?_
          refine m_int rfl rfl ?_
          refine n_add rfl rfl (by omega) ?_
          refine m_int rfl rfl ?_
          refine o_nil ?_
          refine k_goal ⟨(), ⟨rfl, rfl, rfl, congrArg (Value.int .i64) ?_, rfl, rfl, trivial⟩, rfl⟩
          show _ = ((maskP bs i + (if bs[i]? = some true then 2 ^ i else 0) : Nat) : Int)
          rw [if_pos (by rw [List.getElem?_eq_getElem hin, h])]; push_cast; rfl
        refine k_skip ?_
        refine k_goal ⟨(), ⟨rfl, rfl, rfl, congrArg (Value.int .i64) ?_, rfl, rfl, trivial⟩, rfl⟩
        show _ = ((maskP bs i + (if bs[i]? = some true then 2 ^ i else 0) : Nat) : Int)
        rw [if_neg (by rw [List.getElem?_eq_getElem hin]; simpa using h)]; rfl
      replace hJ := hJ.symm
      subst hJ
      refine k_region ?_
      refine m_int rfl rfl ?_
      refine n_mul rfl rfl (by omega) ?_
      refine m_int rfl rfl ?_
      refine o_nil ?_
      refine k_blk ?_
      refine k_region ?_
      refine m_int rfl rfl ?_
      refine n_add rfl rfl (by omega) ?_
      refine m_int rfl rfl ?_
      refine o_nil ?_
      refine k_goal ⟨i + 1, ⟨rfl, rfl, rfl, rfl, congrArg (Value.int .i64) (by rw [hpe]; push_cast; rfl), rfl, trivial⟩, ⟨by omega, rfl⟩, by omega⟩
end Go.Proofs.YtchbidckckmobaaDoor

/- Words; SameWords. No condition beyond what each contract names. -/
namespace Go.Proofs.YtchbidckckmobaaDoor
open Go.RowKit E
set_option linter.unusedVariables false
set_option linter.unusedSimpArgs false
set_option maxRecDepth 100000
attribute [local irreducible] ow qw kw kq cw opW Ret
theorem iv_one (xs : List Int) : ∀ u ∈ xs.map iv, u.oneCell' = true := by
  intro u hu
  obtain ⟨x, _, rfl⟩ := List.mem_map.1 hu
  rfl
theorem words_ok (k : Nat → Prop) (w : World) (hb : Nat) (ws : List Int) (lim : Int) (L : List Int) (h : HP k w hb ws lim L) (hl : ws.length ≤ 65537) :
    Ret Tryd.prog 40 [.pointer (some ⟨hb, 0, none⟩)] w (fun v w' => (∃ a2 c2, v = .slice a2 ws.length c2 ∧ Rd w' a2 (ws.map iv)) ∧ Keep [] w w') := by
  obtain ⟨a, c, r, m, hB, hS, hM, hg, hk⟩ := h
  refine fn_enter (n := 11) Tryd.func40 rfl rfl (Nat.le_of_ble_eq_true rfl) (fun e => ?_)
  refine k_seq ?_
  refine k_region ?_
  refine m_sl rfl rfl ?_
  refine o_nil ?_
  refine k_seq ?_
  refine k_seq ?_
  refine k_region ?_
  refine m_ptr rfl rfl ?_
  refine b_eqlp Tryd.underlying41 rfl rfl ?_
  refine o_nil ?_
  refine k_no rfl ((by intro h; cases h)) ?_
  refine k_skip ?_
  refine k_seq ?_
  refine k_region ?_
  refine o_bsl (E := 2) (cs := #[]) rfl (fun _ => by kernel_rfl) (fun g1 w1 hB1 hK1 hb1 hZ1 => ?_)
  refine m_ptr rfl rfl ?_
  refine o_nilc rfl ?_
  refine o_fld0 rfl rfl ?_
  refine o_ld (v := .slice a ws.length c) rfl rfl ((hB.keep hK1 (by simp)).at rfl) ?_
  refine o_app0 Tryd.underlying22 inf2 rfl (by decide) rfl rfl hB1 (hS.new hK1).rd (by simp) (iv_one _) (by simp [maxLen]; omega) (by omega) (fun a2 c2 w2 hS2 hK2 hf2 => ?_)
  refine m_sl rfl rfl ?_
  refine o_nil ?_
  refine k_ret (ret_tmps (ts := [2]) (v := .slice _ _ _) rfl rfl ?_)
  exact ⟨⟨a2, c2, rfl, hS2.rd⟩, hK1.tr hK2⟩
theorem samew_ok (w : World) (a1 a2 : Option Addr) (c1 c2 : Nat) (us vs : List Int) (hR1 : Rd w a1 (us.map iv)) (hR2 : Rd w a2 (vs.map iv)) (hu : us.length ≤ 9223372036854775807) (hv : vs.length ≤ 9223372036854775807) :
    Ret Tryd.prog 22 [.slice a1 us.length c1, .slice a2 vs.length c2] w (fun v w' => v = .bool (decide (us = vs)) ∧ Keep [] w w') := by
  refine fn_enter (n := 26) Tryd.func22 rfl rfl (Nat.le_of_ble_eq_true rfl) (fun e => ?_)
  refine k_seq ?_
  refine k_region ?_
  refine m_bool rfl rfl ?_
  refine o_nil ?_
  refine k_seq ?_
  refine k_seq ?_
  refine k_region ?_
  refine m_sl rfl rfl ?_
  refine o_lens Tryd.underlying22 rfl ?_
  refine m_sl rfl rfl ?_
  refine o_lens Tryd.underlying22 rfl ?_
  refine b_neq rfl rfl ?_
  refine o_nil ?_
  refine k_cond rfl (fun h => ?_) (fun h => ?_)
  ·
    refine k_seq ?_
    refine k_region ?_
    refine m_bool rfl rfl ?_
    refine o_nil ?_
    refine k_ret (ret_tmps (ts := [4]) (v := .bool _) rfl rfl ?_)
    exact ⟨congrArg Value.bool (decide_eq_false (fun hh => h (by rw [hh]))).symm, Keep.refl _ _⟩
  have hlen : us.length = vs.length := by omega
  refine k_skip ?_
  refine k_seq ?_
  refine k_seq ?_
  refine k_region ?_
  refine m_int rfl rfl ?_
  refine o_nil ?_
  refine k_block ?_
  refine k_loop (σ := Nat) (fun i => [(0, .slice a1 us.length c1), (1, .slice a2 vs.length c2), (5, .int .i64 (i : Int))]) (fun i w' => i ≤ us.length ∧ (∀ j, j < i → us[j]? = vs[j]?) ∧ Keep [] w w') (fun i => us.length - i) 0 ⟨rfl, rfl, rfl, trivial⟩ ⟨Nat.zero_le _, (fun j hj => by omega), Keep.refl _ _⟩ (fun i e w3 hJ => ?_)
  obtain ⟨hi, hpre, hK3⟩ := hJ
  refine k_seq ?_
  refine k_seq ?_
  refine k_region ?_
  refine m_int rfl rfl ?_
  refine m_sl rfl rfl ?_
  refine o_lens Tryd.underlying22 rfl ?_
  refine b_lss rfl rfl ?_
  refine o_nil ?_
  refine k_cond rfl (fun h => ?_) (fun h => ?_)
  rotate_left
  ·
    refine k_exit rfl ?_
    refine k_seq ?_
    refine k_region ?_
    refine m_bool rfl rfl ?_
    refine o_nil ?_
    refine k_ret (ret_tmps (ts := [4]) (v := .bool _) rfl rfl ?_)
    refine ⟨congrArg Value.bool (decide_eq_true ?_).symm, hK3⟩
    refine List.ext_getElem? fun j => ?_
    by_cases hj : j < us.length
    · exact hpre j (by omega)
    · rw [List.getElem?_eq_none (by omega), List.getElem?_eq_none (by omega)]
  have hin : i < us.length := by omega
  have hx := iv_at us i hin
  have hy := iv_at vs i (by omega)
  obtain ⟨b1, o1, hae, _⟩ := hR1 _ _ hx
  obtain ⟨b2, o2, hbe, _⟩ := hR2 _ _ hy
  subst hae hbe
  refine k_skip ?_
  refine k_seq ?_
  refine k_block ?_
  refine k_seq ?_
  refine k_qk 8 rfl rfl rfl rfl rfl ?_
  refine q_step (fun w1 hC => m_sl rfl rfl (o_nil ⟨rfl, hC⟩)) ?_
  refine q_step (fun w1 hC => m_int rfl rfl (o_nil ⟨rfl, hC⟩)) ?_
  refine q_step (fun w1 hC => o_ixs1 Tryd.underlying22 rfl rfl rfl hin (o_nil ⟨rfl, hC⟩)) ?_
  refine q_step (fun w1 hC => o_ld rfl rfl (hR1.cellK (hK3.tr hC) hx) (o_nil ⟨rfl, hC⟩)) ?_
  refine q_step (fun w1 hC => m_sl rfl rfl (o_nil ⟨rfl, hC⟩)) ?_
  refine q_step (fun w1 hC => m_int rfl rfl (o_nil ⟨rfl, hC⟩)) ?_
  refine q_step (fun w1 hC => o_ixs1 Tryd.underlying22 rfl rfl rfl (by omega) (o_nil ⟨rfl, hC⟩)) ?_
  refine q_step (fun w1 hC => o_ld rfl rfl (hR2.cellK (hK3.tr hC) hy) (o_nil ⟨rfl, hC⟩)) ?_
  refine q_nil ?_
  intro w4 hC4
  refine b_neq rfl rfl ?_
  refine o_nil ?_
  refine k_cond rfl (fun h => ?_) (fun h => ?_)
  ·
    refine k_seq ?_
    refine k_region ?_
    refine m_bool rfl rfl ?_
    refine o_nil ?_
    refine k_ret (ret_tmps (ts := [4]) (v := .bool _) rfl rfl ?_)
    refine ⟨congrArg Value.bool (decide_eq_false (fun hh => h ?_)).symm, hK3.tr hC4⟩
    subst hh
    rfl
  refine k_skip ?_
  refine k_blk ?_
  refine k_region ?_
  refine m_int rfl rfl ?_
  refine n_add rfl rfl (by omega) ?_
  refine m_int rfl rfl ?_
  refine o_nil ?_
  refine k_goal ⟨i + 1, ⟨rfl, rfl, rfl, trivial⟩, ⟨by omega, fun j hj => ?_, hK3.tr hC4⟩, by omega⟩
  by_cases hji : j = i
  · rw [hji, List.getElem?_eq_getElem hin, List.getElem?_eq_getElem (by omega)]
    exact congrArg some (Decidable.of_not_not h)
  · exact hpre j (by omega)
end Go.Proofs.YtchbidckckmobaaDoor

/- The reference's strings: Make, Units. No condition beyond what each contract names. -/
namespace Go.Proofs.YtchbidckckmobaaDoor
open Go.RowKit E
set_option linter.unusedVariables false
set_option linter.unusedSimpArgs false
set_option maxRecDepth 100000
attribute [local irreducible] ow qw kw kq cw opW Ret
theorem rmake_ok (k : Nat → Prop) (w : World) (rb : Nat) (ws : List Int) (lim : Int) (L : List Int) (cl : Int) (a : Option Addr) (c : Nat) (us : Us) (h' : RP k w rb ws lim) (hW : WFH ws L) (hlim : lim ≤ 65536) (hl0 : 0 ≤ lim) (hu : (ws.length : Int) ≤ lim + 1) (hkw : ∀ b, w.heap.size ≤ b → k b)
    (hus : us.length ≤ 9223372036854775807) (hab : ∀ w', KeepH k w w' → Rd w' a (us.map u16v)) :
    Ret Tryd.prog 53 [.pointer (some ⟨rb, 0, none⟩), .int .i64 cl, .slice a us.length c] w (fun v w' => v = .tuple #[.int .i64 (makeN ws L lim cl us).1, .int .i64 (makeN ws L lim cl us).2.1] ∧ RRes k w rb lim w' (makeN ws L lim cl us).2.2.1 (makeN ws L lim cl us).2.2.2) := by
  refine fn_enter (n := 38) Tryd.func53 rfl rfl (Nat.le_of_ble_eq_true rfl) (fun e => ?_)
  refine k_seq ?_
  refine k_region ?_
  refine m_int rfl rfl ?_
  refine m_int rfl rfl ?_
  refine o_nil ?_
  refine k_seq ?_
  refine k_region ?_
  refine m_ptr rfl rfl ?_
  refine m_int rfl rfl ?_
  refine m_sl rfl rfl ?_
  refine o_lens Tryd.underlying77 rfl ?_
  refine o_call rfl rfl (rarray_ok k w rb ws lim L cl (us.length : Int) false h' hW hlim hl0 hu hkw (by omega)) (fun v w1 hv => ?_)
  obtain ⟨rfl, hr⟩ := hv
  rw [show (if false = true then (3 : Int) else 2) = 2 from rfl] at hr ⊢
  have hlc := lay_cases ws L lim 2 cl us.length 0
  refine m_any rfl rfl ?_
  refine o_extr rfl rfl ?_
  refine o_extr rfl rfl ?_
  refine m_int rfl rfl ?_
  refine m_int rfl rfl ?_
  refine o_nil ?_
  refine k_seq ?_
  refine k_seq ?_
  refine k_region ?_
  refine m_int rfl rfl ?_
  refine b_neq rfl rfl ?_
  refine o_nil ?_
  refine k_cond rfl (fun h => ?_) (fun h => ?_)
  ·
    refine k_seq ?_
    refine k_region ?_
    refine m_int rfl rfl ?_
    refine m_int rfl rfl ?_
    refine m_int rfl rfl ?_
    refine o_nil ?_
    refine k_ret (ret_tmps (ts := [6, 7]) (v := .tuple #[.int _ _, .int _ _]) rfl rfl ?_)
    have hne : (layH ws L lim 2 cl us.length 0).2.1 ≠ 0 := h
    have hmk : makeN ws L lim cl us = (0, (layH ws L lim 2 cl us.length 0).2.1, ws, L) := if_pos hne
    rcases hlc with ⟨_, _, h3, h4⟩ | ⟨h1, _⟩
    · rw [h3, h4] at hr; rw [hmk]; exact ⟨rfl, hr⟩
    · rw [h1] at hne; exact absurd rfl hne
  have he0 : (layH ws L lim 2 cl us.length 0).2.1 = 0 := Decidable.of_not_not h
  obtain ⟨hlay, hh0, _, hfit⟩ := hlc.resolve_left (fun hh => hh.1 he0)
  have hmk : makeN ws L lim cl us = ((ws.length : Int), 0, ws ++ (headW 2 cl us.length 0).1 :: us.map ui, L ++ [(ws.length : Int)]) := if_neg (by simpa using he0)
  obtain ⟨hd, hhd⟩ : ∃ hd, (headW 2 cl us.length 0).1 = hd := ⟨_, rfl⟩
  have hoh := head_open 2 cl us.length 0 hh0
  rw [hhd] at hmk hlay hoh
  rw [hlay] at hr ⊢
  have hp := hW.pos
  refine k_skip ?_
  refine k_seq ?_
  refine k_seq ?_
  refine k_region ?_
  refine m_int rfl rfl ?_
  refine o_nil ?_
  refine k_block ?_
  refine k_loop (σ := Nat) (fun i => [(0, .pointer (some ⟨rb, 0, none⟩)), (2, .slice a us.length c), (8, .int .i64 (ws.length : Int)), (10, .int .i64 (i : Int))]) (fun i w' => i ≤ us.length ∧ RRes k w rb lim w' (wsU ws hd us i) (L ++ [(ws.length : Int)])) (fun i => us.length - i) 0 ⟨rfl, rfl, rfl, rfl, trivial⟩ ⟨Nat.zero_le _, by simpa [wsU] using hr⟩ (fun i e w2 hJ => ?_)
  obtain ⟨hi, hHP, hWF, hKH⟩ := hJ
  refine k_seq ?_
  refine k_seq ?_
  refine k_region ?_
  refine m_int rfl rfl ?_
  refine m_sl rfl rfl ?_
  refine o_lens Tryd.underlying77 rfl ?_
  refine b_lss rfl rfl ?_
  refine o_nil ?_
  refine k_cond rfl (fun h => ?_) (fun h => ?_)
  rotate_left
  ·
    have hie : i = us.length := by omega
    subst hie
    refine k_exit rfl ?_
    refine k_seq ?_
    refine k_region ?_
    refine m_int rfl rfl ?_
    refine m_int rfl rfl ?_
    refine m_int rfl rfl ?_
    refine o_nil ?_
    refine k_ret (ret_tmps (ts := [6, 7]) (v := .tuple #[.int _ _, .int _ _]) rfl rfl ?_)
    rw [hmk]
    refine ⟨rfl, ?_⟩
    have e : wsU ws hd us us.length = ws ++ hd :: us.map ui := by simp [wsU]
    rw [e] at hHP hWF
    exact ⟨hHP, hWF, hKH⟩
  have hin : i < us.length := by omega
  have hx := u16_at us i hin
  have hRA := hab _ hKH
  obtain ⟨b1, o1, hae, hc1⟩ := hRA _ _ hx
  subst hae
  have hlk : lookH (wsU ws hd us i) (L ++ [(ws.length : Int)]) (ws.length : Int) = (2, cl, (us.length : Int), 0) := by
   rw [look_in (by simp)]
   rw [show ((ws.length : Int)).toNat = ws.length from rfl, wsU_head, hoh]
  have hce : cellH (wsU ws hd us i) (L ++ [(ws.length : Int)]) (ws.length : Int) (i : Int) = ((ws.length : Int) + 1 + (i : Int), false, 0) := by
   unfold cellH
   rw [hlk, if_neg (by simp), if_neg (by simp only; omega), show ((ws.length : Int)).toNat = ws.length from rfl, wsU_head, hoh]
   rfl
  have hse : setH (wsU ws hd us i) (L ++ [(ws.length : Int)]) (ws.length : Int) (i : Int) (ui (us[i])) = (0, wsU ws hd us (i + 1)) := by
   unfold setH
   rw [hce, if_neg (by simp), if_neg (by simp)]
   rw [show ((ws.length : Int) + 1 + (i : Int)).toNat = ws.length + 1 + i by omega, wsU_set ws hd us i hin]
  have hul := (us[i]).isLt
  refine k_skip ?_
  refine k_seq ?_
  refine k_block ?_
  refine k_region ?_
  refine m_ptr rfl rfl ?_
  refine m_int rfl rfl ?_
  refine m_int rfl rfl ?_
  refine m_sl rfl rfl ?_
  refine m_int rfl rfl ?_
  refine o_ixs1 Tryd.underlying77 rfl rfl rfl hin ?_
  refine o_ld (v := .int .u16 ((us[i]).toNat : Int)) rfl rfl hc1 ?_
  refine cv16_i rfl Tryd.underlying2 rfl ?_
  refine o_call rfl rfl (rset_ok k w2 rb (wsU ws hd us i) lim (L ++ [(ws.length : Int)]) (ws.length : Int) (i : Int) (ui (us[i])) hHP hWF (by unfold ui; omega)) (fun v w3 hv => ?_)
  obtain ⟨rfl, hr3⟩ := hv
  rw [hse] at hr3
  obtain ⟨hHP3, hWF3, hKH3⟩ := hr3
  refine o_nil ?_
  refine k_blk ?_
  refine k_region ?_
  refine m_int rfl rfl ?_
  refine n_add rfl rfl (by omega) ?_
  refine m_int rfl rfl ?_
  refine o_nil ?_
  refine k_goal ⟨i + 1, ⟨rfl, rfl, rfl, rfl, trivial⟩, ⟨by omega, hHP3, hWF3, hKH.tr hKH3⟩, by omega⟩
end Go.Proofs.YtchbidckckmobaaDoor

/- The reference's strings: Units, CharAt, Equal. No condition beyond what each contract names. -/
namespace Go.Proofs.YtchbidckckmobaaDoor
open Go.RowKit E
set_option linter.unusedVariables false
set_option linter.unusedSimpArgs false
set_option maxRecDepth 100000
attribute [local irreducible] ow qw kw kq cw opW Ret
theorem tm16 (x : Int) : (-65536 < x.tmod 65536 ∧ x.tmod 65536 < 65536) ∧ BitVec.ofInt 16 ((x.tmod 65536 + 65536).tmod 65536) = BitVec.ofInt 16 x := by
  have h1 : (x.tmod 65536).natAbs = x.natAbs % 65536 := by rw [Int.natAbs_tmod]; rfl
  have h2 := Int.mul_tdiv_add_tmod x 65536
  have h3 : -65536 < x.tmod 65536 ∧ x.tmod 65536 < 65536 := by omega
  refine ⟨h3, ?_⟩
  rw [Int.tmod_eq_emod_of_nonneg (by omega)]
  apply BitVec.eq_of_toNat_eq
  rw [BitVec.toNat_ofInt, BitVec.toNat_ofInt]
  congr 1
  omega
def unR (ws : List Int) (q i : Nat) : Us := (List.range i).map fun j => BitVec.ofInt 16 (ws.getD (q + 1 + j) 0)
theorem unR_succ (ws : List Int) (q i : Nat) : (unR ws q (i + 1)).map u16v = (unR ws q i).map u16v ++ [u16v (BitVec.ofInt 16 (ws.getD (q + 1 + i) 0))] := by
  unfold unR; rw [List.range_succ]; simp
theorem unR_len (ws : List Int) (q i : Nat) : (unR ws q i).length = i := by simp [unR]
theorem runits_ok (k : Nat → Prop) (w : World) (rb : Nat) (ws : List Int) (lim : Int) (L : List Int) (p : Int) (hRP : RP k w rb ws lim) (hW : WFH ws L) :
    Ret Tryd.prog 60 [.pointer (some ⟨rb, 0, none⟩), .int .i64 p] w (fun v w' => (∃ a2 c2, v = .tuple #[.slice a2 (unitsN ws L p).1.length c2, .int .i64 (unitsN ws L p).2] ∧ Sl w' 47 1 a2 (unitsN ws L p).1.length c2 ((unitsN ws L p).1.map u16v) ∧ ∀ z, a2 = some z → w.heap.size ≤ z.block) ∧ Keep [] w w') := by
  refine fn_enter (n := 48) Tryd.func60 rfl rfl (Nat.le_of_ble_eq_true rfl) (fun e => ?_)
  refine k_seq ?_
  refine k_region ?_
  refine m_sl rfl rfl ?_
  refine m_int rfl rfl ?_
  refine o_nil ?_
  refine k_seq ?_
  refine k_region ?_
  refine m_ptr rfl rfl ?_
  refine m_int rfl rfl ?_
  refine o_call rfl rfl (rlook_ok k w rb ws lim L p hRP hW) (fun v w1 hv => ?_)
  obtain ⟨rfl, rfl⟩ := hv
  refine m_any rfl rfl ?_
  refine o_extr rfl rfl ?_
  refine o_extr rfl rfl ?_
  refine o_extr rfl rfl ?_
  refine o_extr rfl rfl ?_
  refine m_int rfl rfl ?_
  refine m_int rfl rfl ?_
  refine m_int rfl rfl ?_
  refine m_int rfl rfl ?_
  refine o_nil ?_
  refine k_seq ?_
  refine k_seq ?_
  refine k_region ?_
  refine m_int rfl rfl ?_
  refine b_neq rfl rfl ?_
  refine o_nil ?_
  refine k_cond rfl (fun h => ?_) (fun h => ?_)
  ·
    refine k_seq ?_
    refine k_region ?_
    refine m_int rfl rfl ?_
    refine m_sl rfl rfl ?_
    refine m_int rfl rfl ?_
    refine o_nil ?_
    refine k_ret (ret_tmps (ts := [4, 5]) (v := .tuple #[.slice _ _ _, .int _ _]) rfl rfl ?_)
    have e : unitsN ws L p = ([], (lookH ws L p).2.2.2) := if_pos h
    rw [e]; exact ⟨⟨none, 0, rfl, Sl.nil _ _ _, by simp⟩, Keep.refl _ _⟩
  have h0 := Decidable.of_not_not h
  refine k_skip ?_
  refine k_seq ?_
  refine k_seq ?_
  refine k_region ?_
  refine m_int rfl rfl ?_
  refine b_neq rfl rfl ?_
  refine o_nil ?_
  refine k_cond rfl (fun h => ?_) (fun h => ?_)
  ·
    refine k_seq ?_
    refine k_region ?_
    refine m_sl rfl rfl ?_
    refine m_int rfl rfl ?_
    refine o_nil ?_
    refine k_ret (ret_tmps (ts := [4, 5]) (v := .tuple #[.slice _ _ _, .int _ _]) rfl rfl ?_)
    have e : unitsN ws L p = ([], 1) := by unfold unitsN; rw [if_neg (by simpa using h0), if_pos h]
    rw [e]; exact ⟨⟨none, 0, rfl, Sl.nil _ _ _, by simp⟩, Keep.refl _ _⟩
  have hk2 := Decidable.of_not_not h
  obtain ⟨q, hq, hpq, hqL, hq0, hlk, hn0, hnq⟩ := look_n hW h0
  subst hpq
  obtain ⟨n, hn⟩ : ∃ n : Nat, (openW (ws[q])).2.2.1 = (n : Int) := ⟨(openW (ws[q])).2.2.1.toNat, by omega⟩
  have hlen := hW.len
  have hlk2 : (lookH ws L q).2.2.1 = (n : Int) := by rw [hlk]; exact hn
  have eU : unitsN ws L (q : Int) = (unR ws q n, 0) := by
   unfold unitsN
   rw [if_neg (by simpa using h0), if_neg (by simpa using hk2), hlk2]
   rfl
  rw [hlk2]
  refine k_skip ?_
  refine k_seq ?_
  refine k_region ?_
  refine m_sl rfl rfl ?_
  refine o_nil ?_
  refine k_seq ?_
  refine k_seq ?_
  refine k_region ?_
  refine m_int rfl rfl ?_
  refine o_nil ?_
  refine k_block ?_
  refine k_loop (σ := Nat × Option Addr × Nat) (fun s => [(0, .pointer (some ⟨rb, 0, none⟩)), (1, .int .i64 (q : Int)), (8, .int .i64 (n : Int)), (10, .slice s.2.1 s.1 s.2.2), (11, .int .i64 (s.1 : Int))]) (fun s w' => s.1 ≤ n ∧ Sl w' 47 1 s.2.1 s.1 s.2.2 ((unR ws q s.1).map u16v) ∧ (∀ z, s.2.1 = some z → w1.heap.size ≤ z.block) ∧ Keep [] w1 w') (fun s => n - s.1) (0, none, 0) ⟨rfl, rfl, rfl, rfl, rfl, trivial⟩ ⟨Nat.zero_le _, Sl.nil _ _ _, by simp, Keep.refl _ _⟩ (fun s e w3 hJ => ?_)
  obtain ⟨i, a3, c3⟩ := s
  obtain ⟨hi, hS3, hf3, hK3⟩ := hJ
  dsimp only at hi hS3 hf3 ⊢
  refine k_seq ?_
  refine k_seq ?_
  refine k_region ?_
  refine m_int rfl rfl ?_
  refine m_int rfl rfl ?_
  refine b_lss rfl rfl ?_
  refine o_nil ?_
  refine k_cond rfl (fun h => ?_) (fun h => ?_)
  rotate_left
  ·
    have hie : i = n := by omega
    subst hie
    refine k_exit rfl ?_
    refine k_seq ?_
    refine k_region ?_
    refine m_sl rfl rfl ?_
    refine m_sl rfl rfl ?_
    refine m_int rfl rfl ?_
    refine o_nil ?_
    refine k_ret (ret_tmps (ts := [4, 5]) (v := .tuple #[.slice _ _ _, .int _ _]) rfl rfl ?_)
    rw [eU, unR_len]
    exact ⟨⟨a3, c3, rfl, hS3, hf3⟩, hK3⟩
  have hin : i < n := by omega
  have hge := get_at hW hq hqL hlk i (by rw [hn]; omega)
  refine k_skip ?_
  refine k_seq ?_
  refine k_block ?_
  refine k_seq ?_
  refine k_region ?_
  refine m_ptr rfl rfl ?_
  refine m_int rfl rfl ?_
  refine m_int rfl rfl ?_
  refine o_call rfl rfl (rget_ok k w3 rb ws lim L (q : Int) (i : Int) (hRP.new hK3) hW) (fun v w4 hv => ?_)
  obtain ⟨rfl, rfl⟩ := hv
  rw [hge]
  obtain ⟨x, hx⟩ : ∃ x, ws.getD (q + 1 + i) 0 = x := ⟨_, rfl⟩
  obtain ⟨htb, hte⟩ := tm16 x
  rw [hx]
  dsimp only
  refine m_any rfl rfl ?_
  refine o_extr rfl rfl ?_
  refine o_extr rfl rfl ?_
  refine m_int rfl rfl ?_
  refine m_int rfl rfl ?_
  refine o_nil ?_
  refine k_region ?_
  refine m_sl rfl rfl ?_
  refine m_int rfl rfl ?_
  refine b_rem rfl rfl (by decide) ?_
  refine n_add rfl rfl (by omega) ?_
  refine b_rem rfl rfl (by decide) ?_
  refine cv16 rfl Tryd.underlying47 rfl ?_
  refine o_bsl (E := 47) (cs := #[u16v (BitVec.ofInt 16 ((x.tmod 65536 + 65536).tmod 65536))]) rfl (fun _ => by kernel_rfl) (fun g5 w5 hB5 hK5 hb5 hZ5 => ?_)
  rw [hte, ← hx] at hB5
  refine o_app Tryd.underlying77 inf47 rfl (by decide) rfl rfl (hS3.new hK5) hB5.rd rfl (by simp [u16v, Value.oneCell']) (by simp [maxLen]; omega) (by omega) (fun a6 c6 w6 hS6 hK6 hv6 => ?_)
  have hS6' : Sl w6 47 1 a6 (i + 1) c6 ((unR ws q (i + 1)).map u16v) := by rw [unR_succ]; exact hS6
  have hK36 : Keep [] w1 w6 := (hK3.tr hK5).trb hK6 hf3
  have hf6 : ∀ z, a6 = some z → w1.heap.size ≤ z.block := own_app (k := fun b => w1.heap.size ≤ b) hf3 (fun b hb => by have := (hK3.tr hK5).size; show w1.heap.size ≤ b; omega) hv6
  refine m_sl rfl rfl ?_
  refine o_nil ?_
  refine k_blk ?_
  refine k_region ?_
  refine m_int rfl rfl ?_
  refine n_add rfl rfl (by omega) ?_
  refine m_int rfl rfl ?_
  refine o_nil ?_
  refine k_goal ⟨(i + 1, a6, c6), ⟨rfl, rfl, rfl, rfl, rfl, trivial⟩, ⟨by dsimp only; omega, hS6', hf6, hK36⟩, by dsimp only; omega⟩
end Go.Proofs.YtchbidckckmobaaDoor

/- The reference's strings: CharAt, Equal, Concat. No condition beyond what each contract names. -/
namespace Go.Proofs.YtchbidckckmobaaDoor
open Go.RowKit E
set_option linter.unusedVariables false
set_option linter.unusedSimpArgs false
set_option maxRecDepth 100000
attribute [local irreducible] ow qw kw kq cw opW Ret
theorem char_err {ws L : List Int} {p i : Int} (h : (unitsN ws L p).2 ≠ 0) : charN ws L p i = (0, (unitsN ws L p).2) := by
  unfold unitsN at h ⊢
  unfold charN
  by_cases h1 : (lookH ws L p).2.2.2 ≠ 0
  · rw [if_pos h1, if_pos h1]
  · rw [if_neg h1] at h ⊢
    rw [if_neg h1]
    by_cases h2 : (lookH ws L p).1 ≠ 2
    · rw [if_pos h2, if_pos (.inl h2)]
    · rw [if_neg h2] at h; exact absurd rfl h
theorem units_in {ws L : List Int} {p : Int} (h : ¬ (unitsN ws L p).2 ≠ 0) : ¬ (lookH ws L p).2.2.2 ≠ 0 ∧ ¬ (lookH ws L p).1 ≠ 2 ∧ unitsN ws L p = ((List.range (lookH ws L p).2.2.1.toNat).map (fun i => BitVec.ofInt 16 (ws.getD (p.toNat + 1 + i) 0)), 0) := by
  unfold unitsN at h ⊢
  by_cases h1 : (lookH ws L p).2.2.2 ≠ 0
  · rw [if_pos h1] at h; exact absurd h1 h
  · rw [if_neg h1] at h ⊢
    by_cases h2 : (lookH ws L p).1 ≠ 2
    · rw [if_pos h2] at h; exact absurd (by decide) h
    · exact ⟨h1, h2, if_neg h2⟩
theorem char_out {ws L : List Int} {p i : Int} (hW : WFH ws L) (h : ¬ (unitsN ws L p).2 ≠ 0) (hi : i < 0 ∨ ((unitsN ws L p).1.length : Int) ≤ i) : charN ws L p i = (0, 1) := by
  obtain ⟨h1, h2, e⟩ := units_in h
  have hr := look_rng hW p
  have hl : ((unitsN ws L p).1.length : Int) = (lookH ws L p).2.2.1 := by rw [e]; simp; omega
  unfold charN
  rw [if_neg h1, if_pos (by omega)]
theorem char_in {ws L : List Int} {p : Int} {i : Nat} (hW : WFH ws L) (h : ¬ (unitsN ws L p).2 ≠ 0) (hi : i < (unitsN ws L p).1.length) : charN ws L p (i : Int) = (ui ((unitsN ws L p).1[i]), 0) := by
  obtain ⟨h1, h2, e⟩ := units_in h
  have hr := look_rng hW p
  have hl : ((unitsN ws L p).1.length : Int) = (lookH ws L p).2.2.1 := by rw [e]; simp; omega
  unfold charN
  rw [if_neg h1, if_neg (by omega)]
  have : (unitsN ws L p).1[i] = BitVec.ofInt 16 (ws.getD (p.toNat + 1 + i) 0) := by simp only [e]; simp
  rw [this, show ((i : Int)).toNat = i from by omega]
theorem rchar_ok (k : Nat → Prop) (w : World) (rb : Nat) (ws : List Int) (lim : Int) (L : List Int) (p i : Int) (hRP : RP k w rb ws lim) (hW : WFH ws L) :
    Ret Tryd.prog 56 [.pointer (some ⟨rb, 0, none⟩), .int .i64 p, .int .i64 i] w (fun v w' => v = .tuple #[.int .i64 (charN ws L p i).1, .int .i64 (charN ws L p i).2] ∧ Keep [] w w') := by
  refine fn_enter (n := 32) Tryd.func56 rfl rfl (Nat.le_of_ble_eq_true rfl) (fun e => ?_)
  refine k_seq ?_
  refine k_region ?_
  refine m_int rfl rfl ?_
  refine m_int rfl rfl ?_
  refine o_nil ?_
  refine k_seq ?_
  refine k_region ?_
  refine m_ptr rfl rfl ?_
  refine m_int rfl rfl ?_
  refine o_call rfl rfl (runits_ok k w rb ws lim L p hRP hW) (fun v w1 hv => ?_)
  obtain ⟨⟨a1, c1, rfl, hS1, hf1⟩, hK1⟩ := hv
  refine m_any rfl rfl ?_
  refine o_extr rfl rfl ?_
  refine o_extr rfl rfl ?_
  refine m_sl rfl rfl ?_
  refine m_int rfl rfl ?_
  refine o_nil ?_
  refine k_seq ?_
  refine k_seq ?_
  refine k_region ?_
  refine m_int rfl rfl ?_
  refine b_neq rfl rfl ?_
  refine o_nil ?_
  refine k_cond rfl (fun h => ?_) (fun h => ?_)
  ·
    refine k_seq ?_
    refine k_region ?_
    refine m_int rfl rfl ?_
    refine m_int rfl rfl ?_
    refine m_int rfl rfl ?_
    refine o_nil ?_
    refine k_ret (ret_tmps (ts := [6, 7]) (v := .tuple #[.int _ _, .int _ _]) rfl rfl ?_)
    rw [char_err h]; exact ⟨rfl, hK1⟩
  have h17 := h
  refine k_skip ?_
  refine k_seq ?_
  refine k_seq ?_
  refine k_region ?_
  refine m_int rfl rfl ?_
  refine b_lss rfl rfl ?_
  refine m_bool rfl rfl ?_
  refine o_split (t := 21) rfl (fun h => ?_) (fun h => ?_)
  ·
    refine g_no rfl rfl rfl ?_
    refine g_no rfl rfl rfl ?_
    refine g_no rfl rfl rfl ?_
    refine g_no rfl rfl rfl ?_
    refine pick_t rfl rfl ?_
    refine o_nil ?_
    refine k_condt rfl ?_
    refine k_seq ?_
    refine k_region ?_
    refine m_int rfl rfl ?_
    refine m_int rfl rfl ?_
    refine o_nil ?_
    refine k_ret (ret_tmps (ts := [6, 7]) (v := .tuple #[.int _ _, .int _ _]) rfl rfl ?_)
    rw [char_out hW h17 (.inl h)]; exact ⟨rfl, hK1⟩
  ·
    refine g_yes rfl rfl ?_
    refine m_int rfl rfl ?_
    refine g_yes rfl rfl ?_
    refine m_sl rfl rfl ?_
    refine g_yes rfl rfl ?_
    refine o_lens Tryd.underlying77 rfl ?_
    refine g_yes rfl rfl ?_
    refine b_geq rfl rfl ?_
    refine pick_f rfl rfl ?_
    refine o_nil ?_
    refine k_cond rfl (fun h => ?_) (fun h => ?_)
    ·
      refine k_seq ?_
      refine k_region ?_
      refine m_int rfl rfl ?_
      refine m_int rfl rfl ?_
      refine o_nil ?_
      refine k_ret (ret_tmps (ts := [6, 7]) (v := .tuple #[.int _ _, .int _ _]) rfl rfl ?_)
      rw [char_out hW h17 (.inr h)]; exact ⟨rfl, hK1⟩
    obtain ⟨j, rfl⟩ : ∃ j : Nat, i = j := ⟨i.toNat, by omega⟩
    have hj : j < (unitsN ws L p).1.length := by omega
    have hx := u16_at (unitsN ws L p).1 j hj
    have hR1 := hS1.rd
    obtain ⟨b1, o1, hae, hc1⟩ := hR1 _ _ hx
    subst hae
    refine k_skip ?_
    refine k_seq ?_
    refine k_region ?_
    refine m_sl rfl rfl ?_
    refine m_int rfl rfl ?_
    refine o_ixs1 (m := j) Tryd.underlying77 rfl rfl rfl hj ?_
    refine o_ld rfl rfl hc1 ?_
    refine cv16_i rfl Tryd.underlying2 rfl ?_
    refine m_int rfl rfl ?_
    refine m_int rfl rfl ?_
    refine o_nil ?_
    refine k_ret (ret_tmps (ts := [6, 7]) (v := .tuple #[.int _ _, .int _ _]) rfl rfl ?_)
    rw [char_in hW h17 hj]; exact ⟨rfl, hK1⟩
theorem rconc_ok (k : Nat → Prop) (w : World) (rb : Nat) (ws : List Int) (lim : Int) (L : List Int) (cl p q : Int) (hRP : RP k w rb ws lim) (hW : WFH ws L) (hlim : lim ≤ 65536) (hl0 : 0 ≤ lim) (hu : (ws.length : Int) ≤ lim + 1) (hkw : ∀ b, w.heap.size ≤ b → k b) :
    Ret Tryd.prog 54 [.pointer (some ⟨rb, 0, none⟩), .int .i64 cl, .int .i64 p, .int .i64 q] w (fun v w' => v = .tuple #[.int .i64 (concN ws L lim cl p q).1, .int .i64 (concN ws L lim cl p q).2.1] ∧ RRes k w rb lim w' (concN ws L lim cl p q).2.2.1 (concN ws L lim cl p q).2.2.2) := by
  have hl1 := units_len hW p
  have hl2 := units_len hW q
  refine fn_enter (n := 41) Tryd.func54 rfl rfl (Nat.le_of_ble_eq_true rfl) (fun e => ?_)
  refine k_seq ?_
  refine k_region ?_
  refine m_int rfl rfl ?_
  refine m_int rfl rfl ?_
  refine o_nil ?_
  refine k_seq ?_
  refine k_region ?_
  refine m_ptr rfl rfl ?_
  refine m_int rfl rfl ?_
  refine o_call rfl rfl (runits_ok k w rb ws lim L p hRP hW) (fun v w1 hv => ?_)
  obtain ⟨⟨a1, c1, rfl, hS1, hf1⟩, hK1⟩ := hv
  refine m_any rfl rfl ?_
  refine o_extr rfl rfl ?_
  refine o_extr rfl rfl ?_
  refine m_sl rfl rfl ?_
  refine m_int rfl rfl ?_
  refine o_nil ?_
  refine k_seq ?_
  refine k_seq ?_
  refine k_region ?_
  refine m_int rfl rfl ?_
  refine b_neq rfl rfl ?_
  refine o_nil ?_
  refine k_cond rfl (fun h => ?_) (fun h => ?_)
  ·
    refine k_seq ?_
    refine k_region ?_
    refine m_int rfl rfl ?_
    refine m_int rfl rfl ?_
    refine m_int rfl rfl ?_
    refine o_nil ?_
    refine k_ret (ret_tmps (ts := [8, 9]) (v := .tuple #[.int _ _, .int _ _]) rfl rfl ?_)
    have e : concN ws L lim cl p q = (0, (unitsN ws L p).2, ws, L) := if_pos h
    rw [e]; exact ⟨rfl, hRP.new hK1, hW, hK1.h⟩
  have h1 := Decidable.of_not_not h
  refine k_skip ?_
  refine k_seq ?_
  refine k_region ?_
  refine m_ptr rfl rfl ?_
  refine m_int rfl rfl ?_
  refine o_call rfl rfl (runits_ok k w1 rb ws lim L q (hRP.new hK1) hW) (fun v w2 hv => ?_)
  obtain ⟨⟨a2, c2, rfl, hS2, hf2⟩, hK2⟩ := hv
  have hK02 := hK1.tr hK2
  refine m_any rfl rfl ?_
  refine o_extr rfl rfl ?_
  refine o_extr rfl rfl ?_
  refine m_sl rfl rfl ?_
  refine m_int rfl rfl ?_
  refine o_nil ?_
  refine k_seq ?_
  refine k_seq ?_
  refine k_region ?_
  refine m_int rfl rfl ?_
  refine b_neq rfl rfl ?_
  refine o_nil ?_
  refine k_cond rfl (fun h => ?_) (fun h => ?_)
  ·
    refine k_seq ?_
    refine k_region ?_
    refine m_int rfl rfl ?_
    refine m_int rfl rfl ?_
    refine m_int rfl rfl ?_
    refine o_nil ?_
    refine k_ret (ret_tmps (ts := [8, 9]) (v := .tuple #[.int _ _, .int _ _]) rfl rfl ?_)
    have e : concN ws L lim cl p q = (0, (unitsN ws L q).2, ws, L) := by unfold concN; rw [if_neg (by simpa using h1), if_pos h]
    rw [e]; exact ⟨rfl, hRP.new hK02, hW, hK02.h⟩
  have e : concN ws L lim cl p q = makeN ws L lim cl ((unitsN ws L p).1 ++ (unitsN ws L q).1) := by unfold concN; rw [if_neg (by simpa using h1), if_neg h]
  refine k_skip ?_
  refine k_seq ?_
  refine k_region ?_
  refine m_ptr rfl rfl ?_
  refine m_int rfl rfl ?_
  refine o_bsl (E := 47) (cs := #[]) rfl (fun _ => by kernel_rfl) (fun g3 w3 hB3 hK3 hb3 hZ3 => ?_)
  refine m_sl rfl rfl ?_
  refine o_app0 Tryd.underlying77 inf47 rfl (by decide) rfl rfl hB3 ((hS1.new hK2).new hK3).rd (by simp) (u16_one _) (by simp [maxLen]; omega) (by omega) (fun a4 c4 w4 hS4 hK4 hf4 => ?_)
  have hK34 := hK3.tr hK4
  refine m_sl rfl rfl ?_
  refine o_app Tryd.underlying77 inf47 rfl (by decide) rfl rfl hS4 (hS2.new hK34).rd (by simp) (u16_one _) (by simp [maxLen]; omega) (by omega) (fun a5 c5 w5 hS5 hK5 hv5 => ?_)
  have hK25 : Keep [] w2 w5 := hK34.trb hK5 (fun z hz => by have := hf4 z hz; have := hK3.size; omega)
  have hK05 := hK02.tr hK25
  rw [← List.map_append] at hS5
  have hll : (unitsN ws L p).1.length + (unitsN ws L q).1.length = ((unitsN ws L p).1 ++ (unitsN ws L q).1).length := by simp
  rw [hll] at hS5 ⊢
  refine o_call rfl rfl (rmake_ok k w5 rb ws lim L cl a5 c5 _ (hRP.new hK05) hW hlim hl0 hu (fun b hb => hkw b (by have := hK05.size; omega)) (by rw [← hll]; omega) (fun w' hk' => (hS5.kh hk' (by decide)).rd)) (fun v w6 hv => ?_)
  obtain ⟨rfl, hH6, hW6, hK6⟩ := hv
  refine o_extr rfl rfl ?_
  refine o_extr rfl rfl ?_
  refine m_int rfl rfl ?_
  refine m_int rfl rfl ?_
  refine o_nil ?_
  refine k_ret (ret_tmps (ts := [8, 9]) (v := .tuple #[.int _ _, .int _ _]) rfl rfl ?_)
  rw [e]; exact ⟨rfl, hH6, hW6, hK05.h.tr hK6⟩
end Go.Proofs.YtchbidckckmobaaDoor

/- The reference's strings: Equal. No condition beyond what each contract names. -/
namespace Go.Proofs.YtchbidckckmobaaDoor
open Go.RowKit E
set_option linter.unusedVariables false
set_option linter.unusedSimpArgs false
set_option maxRecDepth 100000
attribute [local irreducible] ow qw kw kq cw opW Ret
theorem requ_ok (k : Nat → Prop) (w : World) (rb : Nat) (ws : List Int) (lim : Int) (L : List Int) (p q : Int) (hRP : RP k w rb ws lim) (hW : WFH ws L) :
    Ret Tryd.prog 55 [.pointer (some ⟨rb, 0, none⟩), .int .i64 p, .int .i64 q] w (fun v w' => v = .bool (equN ws L p q) ∧ Keep [] w w') := by
  have hl1 := units_len hW p
  have hl2 := units_len hW q
  refine fn_enter (n := 52) Tryd.func55 rfl rfl (Nat.le_of_ble_eq_true rfl) (fun e => ?_)
  refine k_seq ?_
  refine k_region ?_
  refine m_bool rfl rfl ?_
  refine o_nil ?_
  refine k_seq ?_
  refine k_region ?_
  refine m_ptr rfl rfl ?_
  refine m_int rfl rfl ?_
  refine o_call rfl rfl (runits_ok k w rb ws lim L p hRP hW) (fun v w1 hv => ?_)
  obtain ⟨⟨a1, c1, rfl, hS1, hf1⟩, hK1⟩ := hv
  refine m_any rfl rfl ?_
  refine o_extr rfl rfl ?_
  refine o_extr rfl rfl ?_
  refine m_sl rfl rfl ?_
  refine m_int rfl rfl ?_
  refine o_nil ?_
  refine k_seq ?_
  refine k_region ?_
  refine m_ptr rfl rfl ?_
  refine m_int rfl rfl ?_
  refine o_call rfl rfl (runits_ok k w1 rb ws lim L q (hRP.new hK1) hW) (fun v w2 hv => ?_)
  obtain ⟨⟨a2, c2, rfl, hS2, hf2⟩, hK2⟩ := hv
  have hK02 := hK1.tr hK2
  obtain ⟨us, hus⟩ : ∃ us, (unitsN ws L p).1 = us := ⟨_, rfl⟩
  obtain ⟨vs, hvs⟩ : ∃ vs, (unitsN ws L q).1 = vs := ⟨_, rfl⟩
  rw [hus] at hS1 hl1 ⊢
  rw [hvs] at hS2 hl2 ⊢
  have hS1' := hS1.new hK2
  refine m_any rfl rfl ?_
  refine o_extr rfl rfl ?_
  refine o_extr rfl rfl ?_
  refine m_sl rfl rfl ?_
  refine m_int rfl rfl ?_
  refine o_nil ?_
  refine k_seq ?_
  refine k_seq ?_
  refine k_region ?_
  refine m_int rfl rfl ?_
  refine b_neq rfl rfl ?_
  refine m_bool rfl rfl ?_
  refine o_split (t := 26) rfl (fun h => ?_) (fun h => ?_)
  ·
    refine g_no rfl rfl rfl ?_
    refine g_no rfl rfl rfl ?_
    refine pick_t rfl rfl ?_
    refine m_bool rfl rfl ?_
    refine g_no rfl rfl rfl ?_
    refine g_no rfl rfl rfl ?_
    refine g_no rfl rfl rfl ?_
    refine g_no rfl rfl rfl ?_
    refine g_no rfl rfl rfl ?_
    refine pick_t rfl rfl ?_
    refine o_nil ?_
    refine k_condt rfl ?_
    refine k_seq ?_
    refine k_region ?_
    refine m_bool rfl rfl ?_
    refine o_nil ?_
    refine k_ret (ret_tmps (ts := [6]) (v := .bool _) rfl rfl ?_)
    exact ⟨congrArg Value.bool (decide_eq_false (fun hh => h hh.1)).symm, hK02⟩
  ·
    have h26 := Decidable.of_not_not h
    refine g_yes rfl rfl ?_
    refine m_int rfl rfl ?_
    refine g_yes rfl rfl ?_
    refine b_neq rfl rfl ?_
    refine pick_f rfl rfl ?_
    refine m_bool rfl rfl ?_
    refine o_split (t := 30) rfl (fun h => ?_) (fun h => ?_)
    ·
      refine g_no rfl rfl rfl ?_
      refine g_no rfl rfl rfl ?_
      refine g_no rfl rfl rfl ?_
      refine g_no rfl rfl rfl ?_
      refine g_no rfl rfl rfl ?_
      refine pick_t rfl rfl ?_
      refine o_nil ?_
      refine k_condt rfl ?_
      refine k_seq ?_
      refine k_region ?_
      refine m_bool rfl rfl ?_
      refine o_nil ?_
      refine k_ret (ret_tmps (ts := [6]) (v := .bool _) rfl rfl ?_)
      exact ⟨congrArg Value.bool (decide_eq_false (fun hh => h hh.2.1)).symm, hK02⟩
    ·
      have h30 := Decidable.of_not_not h
      refine g_yes rfl rfl ?_
      refine m_sl rfl rfl ?_
      refine g_yes rfl rfl ?_
      refine o_lens Tryd.underlying77 rfl ?_
      refine g_yes rfl rfl ?_
      refine m_sl rfl rfl ?_
      refine g_yes rfl rfl ?_
      refine o_lens Tryd.underlying77 rfl ?_
      refine g_yes rfl rfl ?_
      refine b_neq rfl rfl ?_
      refine pick_f rfl rfl ?_
      refine o_nil ?_
      refine k_cond rfl (fun h => ?_) (fun h => ?_)
      ·
        refine k_seq ?_
        refine k_region ?_
        refine m_bool rfl rfl ?_
        refine o_nil ?_
        refine k_ret (ret_tmps (ts := [6]) (v := .bool _) rfl rfl ?_)
        exact ⟨congrArg Value.bool (decide_eq_false (fun hh => h (by rw [← hus, ← hvs, hh.2.2]))).symm, hK02⟩
      have hlen : us.length = vs.length := by omega
      refine k_skip ?_
      refine k_seq ?_
      refine k_seq ?_
      refine k_region ?_
      refine m_int rfl rfl ?_
      refine o_nil ?_
      refine k_block ?_
      refine k_loop (σ := Nat) (fun i => [(7, .slice a1 us.length c1), (9, .slice a2 vs.length c2), (11, .int .i64 (i : Int))]) (fun i w' => i ≤ us.length ∧ (∀ j, j < i → us[j]? = vs[j]?) ∧ Keep [] w2 w') (fun i => us.length - i) 0 ⟨rfl, rfl, rfl, trivial⟩ ⟨Nat.zero_le _, (fun j hj => by omega), Keep.refl _ _⟩ (fun i e w3 hJ => ?_)
      obtain ⟨hi, hpre, hK3⟩ := hJ
      refine k_seq ?_
      refine k_seq ?_
      refine k_region ?_
      refine m_int rfl rfl ?_
      refine m_sl rfl rfl ?_
      refine o_lens Tryd.underlying77 rfl ?_
      refine b_lss rfl rfl ?_
      refine o_nil ?_
      refine k_cond rfl (fun h => ?_) (fun h => ?_)
      rotate_left
      ·
        refine k_exit rfl ?_
        refine k_seq ?_
        refine k_region ?_
        refine m_bool rfl rfl ?_
        refine o_nil ?_
        refine k_ret (ret_tmps (ts := [6]) (v := .bool _) rfl rfl ?_)
        refine ⟨congrArg Value.bool (decide_eq_true ⟨h26, h30, ?_⟩).symm, hK02.tr hK3⟩
        rw [hus, hvs]
        refine List.ext_getElem? fun j => ?_
        by_cases hj : j < us.length
        · exact hpre j (by omega)
        · rw [List.getElem?_eq_none (by omega), List.getElem?_eq_none (by omega)]
      have hin : i < us.length := by omega
      have hx := u16_at us i hin
      have hy := u16_at vs i (by omega)
      have hRx := hS1'.rd
      have hRy := hS2.rd
      obtain ⟨b1, o1, hae, _⟩ := hRx _ _ hx
      obtain ⟨b2, o2, hbe, _⟩ := hRy _ _ hy
      subst hae hbe
      refine k_skip ?_
      refine k_seq ?_
      refine k_block ?_
      refine k_seq ?_
      refine k_qk 8 rfl rfl rfl rfl rfl ?_
      refine q_step (fun w1 hC => m_sl rfl rfl (o_nil ⟨rfl, hC⟩)) ?_
      refine q_step (fun w1 hC => m_int rfl rfl (o_nil ⟨rfl, hC⟩)) ?_
      refine q_step (fun w1 hC => o_ixs1 Tryd.underlying77 rfl rfl rfl hin (o_nil ⟨rfl, hC⟩)) ?_
      refine q_step (fun w1 hC => o_ld rfl rfl (hRx.cellK (hK3.tr hC) hx) (o_nil ⟨rfl, hC⟩)) ?_
      refine q_step (fun w1 hC => m_sl rfl rfl (o_nil ⟨rfl, hC⟩)) ?_
      refine q_step (fun w1 hC => m_int rfl rfl (o_nil ⟨rfl, hC⟩)) ?_
      refine q_step (fun w1 hC => o_ixs1 Tryd.underlying77 rfl rfl rfl (by omega) (o_nil ⟨rfl, hC⟩)) ?_
      refine q_step (fun w1 hC => o_ld rfl rfl (hRy.cellK (hK3.tr hC) hy) (o_nil ⟨rfl, hC⟩)) ?_
      refine q_nil ?_
      intro w4 hC4
      refine v16_neq rfl rfl ?_
      refine o_nil ?_
      refine k_cond rfl (fun h => ?_) (fun h => ?_)
      ·
        refine k_seq ?_
        refine k_region ?_
        refine m_bool rfl rfl ?_
        refine o_nil ?_
        refine k_ret (ret_tmps (ts := [6]) (v := .bool _) rfl rfl ?_)
        refine ⟨congrArg Value.bool (decide_eq_false (fun hh => h ?_)).symm, (hK02.tr hK3).tr hC4⟩
        have he := hh.2.2
        rw [hus, hvs] at he
        subst he
        rfl
      refine k_skip ?_
      refine k_blk ?_
      refine k_region ?_
      refine m_int rfl rfl ?_
      refine n_add rfl rfl (by omega) ?_
      refine m_int rfl rfl ?_
      refine o_nil ?_
      refine k_goal ⟨i + 1, ⟨rfl, rfl, rfl, trivial⟩, ⟨by omega, fun j hj => ?_, hK3.tr hC4⟩, by omega⟩
      by_cases hji : j = i
      · rw [hji, List.getElem?_eq_getElem hin, List.getElem?_eq_getElem (by omega)]
        exact congrArg some (Decidable.of_not_not h)
      · exact hpre j (by omega)
end Go.Proofs.YtchbidckckmobaaDoor

/- The reference's Copy. No condition beyond what each contract names. -/
namespace Go.Proofs.YtchbidckckmobaaDoor
open Go.RowKit E
set_option linter.unusedVariables false
set_option linter.unusedSimpArgs false
set_option maxRecDepth 100000
attribute [local irreducible] ow qw kw kq cw opW Ret
theorem KeepH.mono {k k' : Nat → Prop} {w w' : World} (h : KeepH k w w') (hk : ∀ b, k b → k' b) : KeepH k' w w' := by
  obtain ⟨S, h1, h2⟩ := h
  exact ⟨S, h1, fun b hb => ⟨hk b (h2 b hb).1, (h2 b hb).2⟩⟩
theorem RP.tight {k : Nat → Prop} {w : World} {rb : Nat} {ws : List Int} {lim : Int} (h : RP k w rb ws lim) : ∃ k' : Nat → Prop, (∀ b, k' b → k b ∧ b < w.heap.size) ∧ RP k' w rb ws lim := by
  obtain ⟨a, c, hB, hS, hk1, hk3⟩ := h
  refine ⟨fun b => b = rb ∨ ∃ z, a = some z ∧ b = z.block, fun b hb => ?_, a, c, hB, hS, .inl rfl, fun z hz => .inr ⟨z, hz, rfl⟩⟩
  rcases hb with rfl | ⟨z, hz, rfl⟩
  · exact ⟨hk1, hB.lt⟩
  · refine ⟨hk3 z hz, ?_⟩
    rcases hS.2 with ⟨h0, _⟩ | ⟨g, cur, h0, hBg, _⟩
    · rw [h0] at hz; cases hz
    · rw [h0] at hz; cases hz; exact hBg.lt
theorem RP.wide {k k' : Nat → Prop} {w : World} {rb : Nat} {ws : List Int} {lim : Int} (h : RP k w rb ws lim) (hk : ∀ b, k b → k' b) : RP k' w rb ws lim := by
  obtain ⟨a, c, hB, hS, hk1, hk3⟩ := h
  exact ⟨a, c, hB, hS, hk _ hk1, fun z hz => hk _ (hk3 z hz)⟩
def runS (L : List Int) (q k : Int) (vs : Nat → Int) (ws : List Int) : Nat → List Int
  | 0 => ws
  | m + 1 => (setH (runS L q k vs ws m) L q (k + m) (vs m)).2
def rcopyN (ws L : List Int) (p i q k n : Int) : Int × List Int :=
  if (lookH ws L p).2.2.2 ≠ 0 then ((lookH ws L p).2.2.2, ws)
  else if (lookH ws L q).2.2.2 ≠ 0 then ((lookH ws L q).2.2.2, ws)
  else if (lookH ws L p).1 = 1 ∨ (lookH ws L p).1 ≠ (lookH ws L q).1 ∨ (lookH ws L p).2.1 ≠ (lookH ws L q).2.1 then (28, ws)
  else if n < 0 ∨ i < 0 ∨ k < 0 ∨ (lookH ws L p).2.2.1 - n < i ∨ (lookH ws L q).2.2.1 - n < k then (1, ws)
  else (0, runS L q k (fun j => (getH ws L p (i + j)).1) ws n.toNat)
def cellsR (ws L : List Int) (p i : Int) (m : Nat) : List Int := (List.range m).map fun (j : Nat) => (getH ws L p (i + j)).1
theorem cellsR_len (ws L : List Int) (p i : Int) (m : Nat) : (cellsR ws L p i m).length = m := by simp [cellsR]
theorem cellsR_succ (ws L : List Int) (p i : Int) (m : Nat) : (cellsR ws L p i (m + 1)).map iv = (cellsR ws L p i m).map iv ++ [iv (getH ws L p (i + m)).1] := by
  unfold cellsR; rw [List.range_succ]; simp
theorem rcopy_ok (kk : Nat → Prop) (w : World) (rb : Nat) (ws : List Int) (lim : Int) (L : List Int) (p i q k n : Int) (hRP : RP kk w rb ws lim) (hW : WFH ws L)
    (hi : -9223372036854775808 ≤ i ∧ i ≤ 9223372036854775807) (hk : -9223372036854775808 ≤ k ∧ k ≤ 9223372036854775807) (hn : -9223372036854775808 ≤ n ∧ n ≤ 9223372036854775807) :
    Ret Tryd.prog 57 [.pointer (some ⟨rb, 0, none⟩), .int .i64 p, .int .i64 i, .int .i64 q, .int .i64 k, .int .i64 n] w (fun v w' => v = .int .i64 (rcopyN ws L p i q k n).1 ∧ RRes kk w rb lim w' (rcopyN ws L p i q k n).2 L) := by
  have hr1 := look_rng hW p
  have hr2 := look_rng hW q
  have keep0 : RRes kk w rb lim w ws L := ⟨hRP, hW, (Keep.refl [] _).h⟩
  refine fn_enter (n := 130) Tryd.func57 rfl rfl (Nat.le_of_ble_eq_true rfl) (fun e => ?_)
  refine k_seq ?_
  refine k_region ?_
  refine m_int rfl rfl ?_
  refine o_nil ?_
  refine k_seq ?_
  refine k_region ?_
  refine m_ptr rfl rfl ?_
  refine m_int rfl rfl ?_
  refine o_call rfl rfl (rlook_ok kk w rb ws lim L p hRP hW) (fun v w1 hv => ?_)
  obtain ⟨rfl, rfl⟩ := hv
  refine m_any rfl rfl ?_
  refine o_extr rfl rfl ?_
  refine o_extr rfl rfl ?_
  refine o_extr rfl rfl ?_
  refine o_extr rfl rfl ?_
  refine m_int rfl rfl ?_
  refine m_int rfl rfl ?_
  refine m_int rfl rfl ?_
  refine m_int rfl rfl ?_
  refine o_nil ?_
  refine k_seq ?_
  refine k_seq ?_
  refine k_region ?_
  refine m_int rfl rfl ?_
  refine b_neq rfl rfl ?_
  refine o_nil ?_
  refine k_cond rfl (fun h => ?_) (fun h => ?_)
  ·
    refine k_seq ?_
    refine k_region ?_
    refine m_int rfl rfl ?_
    refine m_int rfl rfl ?_
    refine o_nil ?_
    refine k_ret (ret_tmps (ts := [12]) (v := .int _ _) rfl rfl ?_)
    rw [show rcopyN ws L p i q k n = ((lookH ws L p).2.2.2, ws) from if_pos h]; exact ⟨rfl, keep0⟩
  have e1 : rcopyN ws L p i q k n = _ := if_neg h
  refine k_skip ?_
  refine k_seq ?_
  refine k_region ?_
  refine m_ptr rfl rfl ?_
  refine m_int rfl rfl ?_
  refine o_call rfl rfl (rlook_ok kk w1 rb ws lim L q hRP hW) (fun v w2 hv => ?_)
  obtain ⟨rfl, rfl⟩ := hv
  refine m_any rfl rfl ?_
  refine o_extr rfl rfl ?_
  refine o_extr rfl rfl ?_
  refine o_extr rfl rfl ?_
  refine o_extr rfl rfl ?_
  refine m_int rfl rfl ?_
  refine m_int rfl rfl ?_
  refine m_int rfl rfl ?_
  refine m_int rfl rfl ?_
  refine o_nil ?_
  refine k_seq ?_
  refine k_seq ?_
  refine k_region ?_
  refine m_int rfl rfl ?_
  refine b_neq rfl rfl ?_
  refine o_nil ?_
  refine k_cond rfl (fun h => ?_) (fun h => ?_)
  ·
    refine k_seq ?_
    refine k_region ?_
    refine m_int rfl rfl ?_
    refine m_int rfl rfl ?_
    refine o_nil ?_
    refine k_ret (ret_tmps (ts := [12]) (v := .int _ _) rfl rfl ?_)
    rw [e1, if_pos h]; exact ⟨rfl, keep0⟩
  rw [if_neg h] at e1
  refine k_skip ?_
  refine k_seq ?_
  refine k_seq ?_
  refine k_region ?_
  refine m_int rfl rfl ?_
  refine b_eql rfl rfl ?_
  refine m_bool rfl rfl ?_
  refine o_split (t := 49) rfl (fun h => ?_) (fun h => ?_)
  ·
    refine g_no rfl rfl rfl ?_
    refine g_no rfl rfl rfl ?_
    refine pick_t rfl rfl ?_
    refine m_bool rfl rfl ?_
    refine g_no rfl rfl rfl ?_
    refine g_no rfl rfl rfl ?_
    refine g_no rfl rfl rfl ?_
    refine pick_t rfl rfl ?_
    refine m_bool rfl rfl ?_
    refine g_no rfl rfl rfl ?_
    refine g_no rfl rfl rfl ?_
    refine g_no rfl rfl rfl ?_
    refine pick_t rfl rfl ?_
    refine o_nil ?_
    refine k_condt rfl ?_
    refine k_seq ?_
    refine k_region ?_
    refine m_int rfl rfl ?_
    refine o_nil ?_
    refine k_ret (ret_tmps (ts := [12]) (v := .int _ _) rfl rfl ?_)
    rw [e1, if_pos (by omega)]; exact ⟨rfl, keep0⟩
  ·
    refine g_yes rfl rfl ?_
    refine m_int rfl rfl ?_
    refine g_yes rfl rfl ?_
    refine b_eql rfl rfl ?_
    refine pick_f rfl rfl ?_
    refine m_bool rfl rfl ?_
    refine o_split (t := 53) rfl (fun h => ?_) (fun h => ?_)
    ·
      refine g_no rfl rfl rfl ?_
      refine g_no rfl rfl rfl ?_
      refine g_no rfl rfl rfl ?_
      refine pick_t rfl rfl ?_
      refine m_bool rfl rfl ?_
      refine g_no rfl rfl rfl ?_
      refine g_no rfl rfl rfl ?_
      refine g_no rfl rfl rfl ?_
      refine pick_t rfl rfl ?_
      refine o_nil ?_
      refine k_condt rfl ?_
      refine k_seq ?_
      refine k_region ?_
      refine m_int rfl rfl ?_
      refine o_nil ?_
      refine k_ret (ret_tmps (ts := [12]) (v := .int _ _) rfl rfl ?_)
      rw [e1, if_pos (by omega)]; exact ⟨rfl, keep0⟩
    ·
      refine g_yes rfl rfl ?_
      refine m_int rfl rfl ?_
      refine g_yes rfl rfl ?_
      refine m_int rfl rfl ?_
      refine g_yes rfl rfl ?_
      refine b_neq rfl rfl ?_
      refine pick_f rfl rfl ?_
      refine m_bool rfl rfl ?_
      refine o_split (t := 58) rfl (fun h => ?_) (fun h => ?_)
      ·
        refine g_no rfl rfl rfl ?_
        refine g_no rfl rfl rfl ?_
        refine g_no rfl rfl rfl ?_
        refine pick_t rfl rfl ?_
        refine o_nil ?_
        refine k_condt rfl ?_
        refine k_seq ?_
        refine k_region ?_
        refine m_int rfl rfl ?_
        refine o_nil ?_
        refine k_ret (ret_tmps (ts := [12]) (v := .int _ _) rfl rfl ?_)
        rw [e1, if_pos (by omega)]; exact ⟨rfl, keep0⟩
      ·
        refine g_yes rfl rfl ?_
        refine m_int rfl rfl ?_
        refine g_yes rfl rfl ?_
        refine m_int rfl rfl ?_
        refine g_yes rfl rfl ?_
        refine b_neq rfl rfl ?_
        refine pick_f rfl rfl ?_
        refine o_nil ?_
        refine k_cond rfl (fun h => ?_) (fun h => ?_)
        ·
          refine k_seq ?_
          refine k_region ?_
          refine m_int rfl rfl ?_
          refine o_nil ?_
          refine k_ret (ret_tmps (ts := [12]) (v := .int _ _) rfl rfl ?_)
          rw [e1, if_pos (by omega)]; exact ⟨rfl, keep0⟩
        rw [if_neg (by omega)] at e1
        refine k_skip ?_
        refine k_seq ?_
        refine k_seq ?_
        refine k_region ?_
        refine m_int rfl rfl ?_
        refine b_lss rfl rfl ?_
        refine m_bool rfl rfl ?_
        refine o_split (t := 65) rfl (fun h => ?_) (fun h => ?_)
        ·
          refine g_no rfl rfl rfl ?_
          refine g_no rfl rfl rfl ?_
          refine pick_t rfl rfl ?_
          refine m_bool rfl rfl ?_
          refine g_no rfl rfl rfl ?_
          refine g_no rfl rfl rfl ?_
          refine pick_t rfl rfl ?_
          refine m_bool rfl rfl ?_
          refine g_no rfl rfl rfl ?_
          refine g_no rfl rfl rfl ?_
          refine g_no rfl rfl rfl ?_
          refine pick_t rfl rfl ?_
          refine m_bool rfl rfl ?_
          refine g_no rfl rfl rfl ?_
          refine g_no rfl rfl rfl ?_
          refine g_no rfl rfl rfl ?_
          refine g_no rfl rfl rfl ?_
          refine g_no rfl rfl rfl ?_
          refine pick_t rfl rfl ?_
          refine m_bool rfl rfl ?_
          refine g_no rfl rfl rfl ?_
          refine g_no rfl rfl rfl ?_
          refine g_no rfl rfl rfl ?_
          refine pick_t rfl rfl ?_
          refine m_bool rfl rfl ?_
          refine g_no rfl rfl rfl ?_
          refine g_no rfl rfl rfl ?_
          refine g_no rfl rfl rfl ?_
          refine g_no rfl rfl rfl ?_
          refine g_no rfl rfl rfl ?_
          refine pick_t rfl rfl ?_
          refine o_nil ?_
          refine k_condt rfl ?_
          refine k_seq ?_
          refine k_region ?_
          refine m_int rfl rfl ?_
          refine o_nil ?_
          refine k_ret (ret_tmps (ts := [12]) (v := .int _ _) rfl rfl ?_)
          rw [e1, if_pos (by omega)]; exact ⟨rfl, keep0⟩
        ·
          refine g_yes rfl rfl ?_
          refine m_int rfl rfl ?_
          refine g_yes rfl rfl ?_
          refine b_lss rfl rfl ?_
          refine pick_f rfl rfl ?_
          refine m_bool rfl rfl ?_
          refine o_split (t := 69) rfl (fun h => ?_) (fun h => ?_)
          ·
            refine g_no rfl rfl rfl ?_
            refine g_no rfl rfl rfl ?_
            refine pick_t rfl rfl ?_
            refine m_bool rfl rfl ?_
            refine g_no rfl rfl rfl ?_
            refine g_no rfl rfl rfl ?_
            refine g_no rfl rfl rfl ?_
            refine pick_t rfl rfl ?_
            refine m_bool rfl rfl ?_
            refine g_no rfl rfl rfl ?_
            refine g_no rfl rfl rfl ?_
            refine g_no rfl rfl rfl ?_
            refine g_no rfl rfl rfl ?_
            refine g_no rfl rfl rfl ?_
            refine pick_t rfl rfl ?_
            refine m_bool rfl rfl ?_
            refine g_no rfl rfl rfl ?_
            refine g_no rfl rfl rfl ?_
            refine g_no rfl rfl rfl ?_
            refine pick_t rfl rfl ?_
            refine m_bool rfl rfl ?_
            refine g_no rfl rfl rfl ?_
            refine g_no rfl rfl rfl ?_
            refine g_no rfl rfl rfl ?_
            refine g_no rfl rfl rfl ?_
            refine g_no rfl rfl rfl ?_
            refine pick_t rfl rfl ?_
            refine o_nil ?_
            refine k_condt rfl ?_
            refine k_seq ?_
            refine k_region ?_
            refine m_int rfl rfl ?_
            refine o_nil ?_
            refine k_ret (ret_tmps (ts := [12]) (v := .int _ _) rfl rfl ?_)
            rw [e1, if_pos (by omega)]; exact ⟨rfl, keep0⟩
          ·
            refine g_yes rfl rfl ?_
            refine m_int rfl rfl ?_
            refine g_yes rfl rfl ?_
            refine b_lss rfl rfl ?_
            refine pick_f rfl rfl ?_
            refine m_bool rfl rfl ?_
            refine o_split (t := 73) rfl (fun h => ?_) (fun h => ?_)
            ·
              refine g_no rfl rfl rfl ?_
              refine g_no rfl rfl rfl ?_
              refine g_no rfl rfl rfl ?_
              refine pick_t rfl rfl ?_
              refine m_bool rfl rfl ?_
              refine g_no rfl rfl rfl ?_
              refine g_no rfl rfl rfl ?_
              refine g_no rfl rfl rfl ?_
              refine g_no rfl rfl rfl ?_
              refine g_no rfl rfl rfl ?_
              refine pick_t rfl rfl ?_
              refine m_bool rfl rfl ?_
              refine g_no rfl rfl rfl ?_
              refine g_no rfl rfl rfl ?_
              refine g_no rfl rfl rfl ?_
              refine pick_t rfl rfl ?_
              refine m_bool rfl rfl ?_
              refine g_no rfl rfl rfl ?_
              refine g_no rfl rfl rfl ?_
              refine g_no rfl rfl rfl ?_
              refine g_no rfl rfl rfl ?_
              refine g_no rfl rfl rfl ?_
              refine pick_t rfl rfl ?_
              refine o_nil ?_
              refine k_condt rfl ?_
              refine k_seq ?_
              refine k_region ?_
              refine m_int rfl rfl ?_
              refine o_nil ?_
              refine k_ret (ret_tmps (ts := [12]) (v := .int _ _) rfl rfl ?_)
              rw [e1, if_pos (by omega)]; exact ⟨rfl, keep0⟩
            ·
              refine g_yes rfl rfl ?_
              refine m_int rfl rfl ?_
              refine g_yes rfl rfl ?_
              refine m_int rfl rfl ?_
              refine g_yes rfl rfl ?_
              refine b_gtr rfl rfl ?_
              refine pick_f rfl rfl ?_
              refine m_bool rfl rfl ?_
              refine o_split (t := 78) rfl (fun h => ?_) (fun h => ?_)
              ·
                refine g_no rfl rfl rfl ?_
                refine g_no rfl rfl rfl ?_
                refine g_no rfl rfl rfl ?_
                refine g_no rfl rfl rfl ?_
                refine g_no rfl rfl rfl ?_
                refine pick_t rfl rfl ?_
                refine m_bool rfl rfl ?_
                refine g_no rfl rfl rfl ?_
                refine g_no rfl rfl rfl ?_
                refine g_no rfl rfl rfl ?_
                refine pick_t rfl rfl ?_
                refine m_bool rfl rfl ?_
                refine g_no rfl rfl rfl ?_
                refine g_no rfl rfl rfl ?_
                refine g_no rfl rfl rfl ?_
                refine g_no rfl rfl rfl ?_
                refine g_no rfl rfl rfl ?_
                refine pick_t rfl rfl ?_
                refine o_nil ?_
                refine k_condt rfl ?_
                refine k_seq ?_
                refine k_region ?_
                refine m_int rfl rfl ?_
                refine o_nil ?_
                refine k_ret (ret_tmps (ts := [12]) (v := .int _ _) rfl rfl ?_)
                rw [e1, if_pos (by omega)]; exact ⟨rfl, keep0⟩
              ·
                refine g_yes rfl rfl ?_
                refine m_int rfl rfl ?_
                refine g_yes rfl rfl ?_
                refine m_int rfl rfl ?_
                refine g_yes rfl rfl ?_
                refine m_int rfl rfl ?_
                refine g_yes rfl rfl ?_
                refine n_sub rfl rfl (by omega) ?_
                refine g_yes rfl rfl ?_
                refine b_gtr rfl rfl ?_
                refine pick_f rfl rfl ?_
                refine m_bool rfl rfl ?_
                refine o_split (t := 85) rfl (fun h => ?_) (fun h => ?_)
                ·
                  refine g_no rfl rfl rfl ?_
                  refine g_no rfl rfl rfl ?_
                  refine g_no rfl rfl rfl ?_
                  refine pick_t rfl rfl ?_
                  refine m_bool rfl rfl ?_
                  refine g_no rfl rfl rfl ?_
                  refine g_no rfl rfl rfl ?_
                  refine g_no rfl rfl rfl ?_
                  refine g_no rfl rfl rfl ?_
                  refine g_no rfl rfl rfl ?_
                  refine pick_t rfl rfl ?_
                  refine o_nil ?_
                  refine k_condt rfl ?_
                  refine k_seq ?_
                  refine k_region ?_
                  refine m_int rfl rfl ?_
                  refine o_nil ?_
                  refine k_ret (ret_tmps (ts := [12]) (v := .int _ _) rfl rfl ?_)
                  rw [e1, if_pos (by omega)]; exact ⟨rfl, keep0⟩
                ·
                  refine g_yes rfl rfl ?_
                  refine m_int rfl rfl ?_
                  refine g_yes rfl rfl ?_
                  refine m_int rfl rfl ?_
                  refine g_yes rfl rfl ?_
                  refine b_gtr rfl rfl ?_
                  refine pick_f rfl rfl ?_
                  refine m_bool rfl rfl ?_
                  refine o_split (t := 90) rfl (fun h => ?_) (fun h => ?_)
                  ·
                    refine g_no rfl rfl rfl ?_
                    refine g_no rfl rfl rfl ?_
                    refine g_no rfl rfl rfl ?_
                    refine g_no rfl rfl rfl ?_
                    refine g_no rfl rfl rfl ?_
                    refine pick_t rfl rfl ?_
                    refine o_nil ?_
                    refine k_condt rfl ?_
                    refine k_seq ?_
                    refine k_region ?_
                    refine m_int rfl rfl ?_
                    refine o_nil ?_
                    refine k_ret (ret_tmps (ts := [12]) (v := .int _ _) rfl rfl ?_)
                    rw [e1, if_pos (by omega)]; exact ⟨rfl, keep0⟩
                  ·
                    refine g_yes rfl rfl ?_
                    refine m_int rfl rfl ?_
                    refine g_yes rfl rfl ?_
                    refine m_int rfl rfl ?_
                    refine g_yes rfl rfl ?_
                    refine m_int rfl rfl ?_
                    refine g_yes rfl rfl ?_
                    refine n_sub rfl rfl (by omega) ?_
                    refine g_yes rfl rfl ?_
                    refine b_gtr rfl rfl ?_
                    refine pick_f rfl rfl ?_
                    refine o_nil ?_
                    refine k_cond rfl (fun h => ?_) (fun h => ?_)
                    ·
                      refine k_seq ?_
                      refine k_region ?_
                      refine m_int rfl rfl ?_
                      refine o_nil ?_
                      refine k_ret (ret_tmps (ts := [12]) (v := .int _ _) rfl rfl ?_)
                      rw [e1, if_pos (by omega)]; exact ⟨rfl, keep0⟩
                    rw [if_neg (by omega)] at e1
                    have hn0 : 0 ≤ n := by omega
                    refine k_skip ?_
                    refine k_seq ?_
                    refine k_region ?_
                    refine m_sl rfl rfl ?_
                    refine o_nil ?_
                    refine k_seq ?_
                    refine k_seq ?_
                    refine k_region ?_
                    refine m_int rfl rfl ?_
                    refine o_nil ?_
                    refine k_block ?_
                    refine k_loop (σ := Nat × Option Addr × Nat) (fun s => [(0, .pointer (some ⟨rb, 0, none⟩)), (1, .int .i64 p), (2, .int .i64 i), (3, .int .i64 q), (4, .int .i64 k), (5, .int .i64 n), (20, .slice s.2.1 s.1 s.2.2), (21, .int .i64 (s.1 : Int))]) (fun s w' => (s.1 : Int) ≤ n ∧ Sl w' 2 1 s.2.1 s.1 s.2.2 ((cellsR ws L p i s.1).map iv) ∧ (∀ z, s.2.1 = some z → w2.heap.size ≤ z.block) ∧ Keep [] w2 w') (fun s => n.toNat - s.1) (0, none, 0) ⟨rfl, rfl, rfl, rfl, rfl, rfl, rfl, rfl, trivial⟩ ⟨hn0, Sl.nil _ _ _, by simp, Keep.refl _ _⟩ (fun s e w3 hJ => ?_)
                    obtain ⟨m, a3, c3⟩ := s
                    obtain ⟨hm, hS3, hf3, hK3⟩ := hJ
                    dsimp only at hm hS3 hf3 ⊢
                    refine k_seq ?_
                    refine k_seq ?_
                    refine k_region ?_
                    refine m_int rfl rfl ?_
                    refine m_int rfl rfl ?_
                    refine b_lss rfl rfl ?_
                    refine o_nil ?_
                    refine k_cond rfl (fun h => ?_) (fun h => ?_)
                    rotate_left
                    ·
                      have hme : m = n.toNat := by omega
                      obtain ⟨k', hk', hRP'⟩ := hRP.tight
                      have hRc := hS3.rd
                      have hnk : ∀ z, a3 = some z → ¬ k' z.block := fun z hz hh => by have := (hk' _ hh).2; have := hf3 z hz; omega
                      refine k_exit rfl ?_
                      refine k_seq ?_
                      refine k_seq ?_
                      refine k_region ?_
                      refine m_int rfl rfl ?_
                      refine o_nil ?_
                      refine k_block ?_
                      refine k_loop (σ := Nat) (fun j => [(0, .pointer (some ⟨rb, 0, none⟩)), (3, .int .i64 q), (4, .int .i64 k), (5, .int .i64 n), (20, .slice a3 m c3), (24, .int .i64 (j : Int))]) (fun j w' => j ≤ m ∧ RRes k' w3 rb lim w' (runS L q k (fun j => (getH ws L p (i + j)).1) ws j) L) (fun j => m - j) 0 ⟨rfl, rfl, rfl, rfl, rfl, rfl, trivial⟩ ⟨Nat.zero_le _, hRP'.new hK3, hW, (Keep.refl [] _).h⟩ (fun j e w7 hJ => ?_)
                      obtain ⟨hj, hRP7, hW7, hKH7⟩ := hJ
                      refine k_seq ?_
                      refine k_seq ?_
                      refine k_region ?_
                      refine m_int rfl rfl ?_
                      refine m_int rfl rfl ?_
                      refine b_lss rfl rfl ?_
                      refine o_nil ?_
                      refine k_cond rfl (fun h => ?_) (fun h => ?_)
                      rotate_left
                      ·
                        have hje : j = n.toNat := by omega
                        rw [hje] at hRP7 hW7
                        refine k_exit rfl ?_
                        refine k_seq ?_
                        refine k_region ?_
                        refine m_int rfl rfl ?_
                        refine o_nil ?_
                        refine k_ret (ret_tmps (ts := [12]) (v := .int _ _) rfl rfl ?_)
                        rw [e1]
                        exact ⟨rfl, hRP7.wide (fun b hb => (hk' b hb).1), hW7, hK3.h.tr (hKH7.mono (fun b hb => (hk' b hb).1))⟩
                      have hjm : j < m := by omega
                      have hx := iv_at (cellsR ws L p i m) j (by rw [cellsR_len]; exact hjm)
                      have hR7 := hRc.kh hKH7 (fun _ => hnk)
                      obtain ⟨b1, o1, hae, hc1⟩ := hR7 _ _ hx
                      subst hae
                      have hcj : (cellsR ws L p i m)[j]'(by rw [cellsR_len]; exact hjm) = (getH ws L p (i + j)).1 := by simp [cellsR]
                      rw [hcj] at hc1
                      refine k_skip ?_
                      refine k_seq ?_
                      refine k_block ?_
                      refine k_region ?_
                      refine m_ptr rfl rfl ?_
                      refine m_int rfl rfl ?_
                      refine m_int rfl rfl ?_
                      refine m_int rfl rfl ?_
                      refine n_add rfl rfl (by omega) ?_
                      refine m_sl rfl rfl ?_
                      refine m_int rfl rfl ?_
                      refine o_ixs1 (m := j) Tryd.underlying22 rfl rfl rfl hjm ?_
                      refine o_ld (v := iv (getH ws L p (i + j)).1) rfl rfl hc1 ?_
                      refine o_call rfl rfl (rset_ok k' w7 rb _ lim L q (k + j) _ hRP7 hW7 (get_rng hW p (i + j))) (fun v w8 hv => ?_)
                      obtain ⟨rfl, hRP8, hW8, hKH8⟩ := hv
                      refine o_nil ?_
                      refine k_blk ?_
                      refine k_region ?_
                      refine m_int rfl rfl ?_
                      refine n_add rfl rfl (by omega) ?_
                      refine m_int rfl rfl ?_
                      refine o_nil ?_
                      refine k_goal ⟨j + 1, ⟨rfl, rfl, rfl, rfl, rfl, rfl, trivial⟩, ⟨by omega, hRP8, hW8, hKH7.tr hKH8⟩, by omega⟩
                    refine k_skip ?_
                    refine k_seq ?_
                    refine k_block ?_
                    refine k_seq ?_
                    refine k_region ?_
                    refine m_ptr rfl rfl ?_
                    refine m_int rfl rfl ?_
                    refine m_int rfl rfl ?_
                    refine m_int rfl rfl ?_
                    refine n_add rfl rfl (by omega) ?_
                    refine o_call rfl rfl (rget_ok kk w3 rb ws lim L p (i + m) (hRP.new hK3) hW) (fun v w4 hv => ?_)
                    obtain ⟨rfl, rfl⟩ := hv
                    refine m_any rfl rfl ?_
                    refine o_extr rfl rfl ?_
                    refine o_extr rfl rfl ?_
                    refine m_int rfl rfl ?_
                    refine m_int rfl rfl ?_
                    refine o_nil ?_
                    refine k_region ?_
                    refine m_sl rfl rfl ?_
                    refine m_int rfl rfl ?_
                    refine o_bsl (E := 2) (cs := #[iv (getH ws L p (i + m)).1]) rfl (fun _ => by kernel_rfl) (fun g5 w5 hB5 hK5 hb5 hZ5 => ?_)
                    refine o_app Tryd.underlying22 inf2 rfl (by decide) rfl rfl (hS3.new hK5) hB5.rd rfl (by simp [iv, Value.oneCell']) (by simp [maxLen]; omega) (by omega) (fun a6 c6 w6 hS6 hK6 hv6 => ?_)
                    have hS6' : Sl w6 2 1 a6 (m + 1) c6 ((cellsR ws L p i (m + 1)).map iv) := by rw [cellsR_succ]; exact hS6
                    have hK36 : Keep [] w2 w6 := (hK3.tr hK5).trb hK6 hf3
                    have hf6 : ∀ z, a6 = some z → w2.heap.size ≤ z.block := own_app (k := fun b => w2.heap.size ≤ b) hf3 (fun b hb => by have := (hK3.tr hK5).size; show w2.heap.size ≤ b; omega) hv6
                    refine m_sl rfl rfl ?_
                    refine o_nil ?_
                    refine k_blk ?_
                    refine k_region ?_
                    refine m_int rfl rfl ?_
                    refine n_add rfl rfl (by omega) ?_
                    refine m_int rfl rfl ?_
                    refine o_nil ?_
                    refine k_goal ⟨(m + 1, a6, c6), ⟨rfl, rfl, rfl, rfl, rfl, rfl, rfl, rfl, trivial⟩, ⟨by dsimp only; omega, hS6', hf6, hK36⟩, by dsimp only; omega⟩
end Go.Proofs.YtchbidckckmobaaDoor

/- Copies between blocks, plain: the program's order of cells and the document's end alike. No condition beyond what each lemma names. -/
namespace Go.Proofs.YtchbidckckmobaaDoor
open Go.RowKit E
set_option linter.unusedVariables false
set_option linter.unusedSimpArgs false
set_option maxRecDepth 100000
attribute [local irreducible] ow qw kw kq cw opW Ret
theorem look_congr {ws ws' L : List Int} {p : Nat} (h : ws'.getD p 0 = ws.getD p 0) : lookH ws' L (p : Int) = lookH ws L (p : Int) := by
  unfold lookH
  rw [show ((p : Int)).toNat = p from by omega, h]
theorem cell_of {ws L : List Int} {p i : Nat} {kd cl n : Int} (h : lookH ws L (p : Int) = (kd, cl, n, 0)) (hi : (i : Int) < n) : cellH ws L (p : Int) (i : Int) = ((p : Int) + 1 + (i : Int), refB (openW (ws.getD p 0)).1 (openW (ws.getD p 0)).2.2.2.1 i, 0) := by
  unfold cellH
  rw [h, if_neg (by simp), if_neg (by simp only; omega)]
  rw [show ((p : Int)).toNat = p from by omega, show ((i : Int)).toNat = i from by omega]
theorem get_of {ws L : List Int} {p i : Nat} {kd cl n : Int} (h : lookH ws L (p : Int) = (kd, cl, n, 0)) (hi : (i : Int) < n) : getH ws L (p : Int) (i : Int) = (ws.getD (p + 1 + i) 0, 0) := by
  unfold getH
  rw [cell_of h hi, if_neg (by simp)]
  rw [show ((p : Int) + 1 + (i : Int)).toNat = p + 1 + i by omega]
theorem set_of {ws L : List Int} {q j : Nat} {kd cl n : Int} (h : lookH ws L (q : Int) = (kd, cl, n, 0)) (hj : (j : Int) < n) (v : Int) : (setH ws L (q : Int) (j : Int) v).2 = if refB (openW (ws.getD q 0)).1 (openW (ws.getD q 0)).2.2.2.1 j = true ∧ v ≠ 0 ∧ v ∉ L then ws else ws.set (q + 1 + j) v := by
  unfold setH
  rw [cell_of h hj, if_neg (by simp)]
  by_cases hc : refB (openW (ws.getD q 0)).1 (openW (ws.getD q 0)).2.2.2.1 j = true ∧ v ≠ 0 ∧ v ∉ L
  · rw [if_pos hc, if_pos hc]
  · rw [if_neg hc, if_neg hc]
    show ws.set ((q : Int) + 1 + (j : Int)).toNat v = _
    rw [show ((q : Int) + 1 + (j : Int)).toNat = q + 1 + j by omega]
/-- the cells lo to hi of a row are set, where they may be -/
def Cp (ws : List Int) (base : Nat) (v : Nat → Int) (bad : Nat → Bool) (lo hi : Nat) (vs : List Int) : Prop :=
  vs.length = ws.length ∧ ∀ x, vs[x]? = if base + lo ≤ x ∧ x < base + hi ∧ bad (x - base) = false then some (v (x - base)) else ws[x]?
theorem Cp.same {ws vs : List Int} {base : Nat} {v : Nat → Int} {bad : Nat → Bool} {lo hi : Nat} (h : Cp ws base v bad lo hi vs) {x : Nat} (hx : ¬ (base + lo ≤ x ∧ x < base + hi)) : vs.getD x 0 = ws.getD x 0 := by
  rw [List.getD_eq_getElem?_getD, List.getD_eq_getElem?_getD, h.2 x, if_neg (by omega)]
theorem Cp.one {ws vs us : List Int} {base : Nat} {v : Nat → Int} {bad : Nat → Bool} {lo hi : Nat} (h : Cp ws base v bad lo hi vs) (h' : Cp ws base v bad lo hi us) : vs = us :=
  List.ext_getElem? fun x => by rw [h.2 x, h'.2 x]
theorem Cp.none (ws : List Int) (base : Nat) (v : Nat → Int) (bad : Nat → Bool) (lo : Nat) : Cp ws base v bad lo lo ws := ⟨rfl, fun x => by rw [if_neg (by omega)]⟩
theorem Cp.step {ws vs : List Int} {base : Nat} {v : Nat → Int} {bad : Nat → Bool} {lo hi lo' hi' o : Nat} (h : Cp ws base v bad lo hi vs) (ho : base + o < ws.length) (hlh : lo ≤ hi) (hs : (lo' = lo ∧ o = hi ∧ hi' = hi + 1) ∨ (lo = o + 1 ∧ lo' = o ∧ hi' = hi)) : Cp ws base v bad lo' hi' (if bad o = true then vs else vs.set (base + o) (v o)) := by
  refine ⟨by split <;> simp [h.1], fun x => ?_⟩
  by_cases hx : x = base + o
  · subst hx
    rw [show base + o - base = o by omega]
    by_cases hb : bad o = true
    · rw [if_pos hb, h.2, if_neg (by omega), if_neg (by rw [hb]; simp)]
    · have hbf : bad o = false := by simpa using hb
      rw [if_neg hb, if_pos ⟨by omega, by omega, hbf⟩, List.getElem?_set, if_pos rfl, if_pos (by rw [h.1]; exact ho)]
  · have e : (if bad o = true then vs else vs.set (base + o) (v o))[x]? = vs[x]? := by
      split
      · rfl
      · rw [List.getElem?_set, if_neg (fun e => hx e.symm)]
    rw [e, h.2 x]
    by_cases hc : base + lo ≤ x ∧ x < base + hi
    · by_cases hb : bad (x - base) = false
      · rw [if_pos ⟨hc.1, hc.2, hb⟩, if_pos ⟨by omega, by omega, hb⟩]
      · rw [if_neg (fun h => hb h.2.2), if_neg (fun h => hb h.2.2)]
    · rw [if_neg (by omega), if_neg (by omega)]
/-- the facts of two blocks between which is copied -/
structure CpF (ws L : List Int) (p q i k n : Nat) (np nq : Int) : Prop where
  lp : ∃ kd cl, lookH ws L (p : Int) = (kd, cl, np, 0)
  lq : ∃ kd cl, lookH ws L (q : Int) = (kd, cl, nq, 0)
  hi : (i : Int) + n ≤ np
  hk : (k : Int) + n ≤ nq
  le : (q : Int) + nq < ws.length
  pq : ∀ b : Nat, (b : Int) < nq → q + 1 + b ≠ p
  dis : p ≠ q → ∀ a b : Nat, (a : Int) < np → (b : Int) < nq → p + 1 + a ≠ q + 1 + b
def badC (ws L : List Int) (q k : Nat) (v : Nat → Int) (j : Nat) : Bool := decide (refB (openW (ws.getD q 0)).1 (openW (ws.getD q 0)).2.2.2.1 (k + j) = true ∧ v j ≠ 0 ∧ v j ∉ L)
theorem CpF.set {ws L : List Int} {p q i k n : Nat} {np nq : Int} (h : CpF ws L p q i k n np nq) {v : Nat → Int} {cur : List Int} {lo hi o : Nat} (hc : Cp ws (q + 1 + k) v (badC ws L q k v) lo hi cur) (ho : o < n) :
    (setH cur L (q : Int) ((k : Int) + (o : Int)) (v o)).2 = if badC ws L q k v o = true then cur else cur.set (q + 1 + k + o) (v o) := by
  obtain ⟨kd, cl, hl⟩ := h.lq
  have hg : cur.getD q 0 = ws.getD q 0 := hc.same (by omega)
  have hk := h.hk
  have := set_of (ws := cur) (L := L) (q := q) (j := k + o) ((look_congr hg).trans hl) (by push_cast; omega) (v o)
  rw [show ((k : Int) + (o : Int)) = ((k + o : Nat) : Int) by push_cast; rfl, this, hg, show q + 1 + (k + o) = q + 1 + k + o by omega]
  unfold badC
  simp only [decide_eq_true_eq]
theorem CpF.get {ws L : List Int} {p q i k n : Nat} {np nq : Int} (h : CpF ws L p q i k n np nq) {v : Nat → Int} {bad : Nat → Bool} {cur : List Int} {lo hi o : Nat} (hc : Cp ws (q + 1 + k) v bad lo hi cur) (hh : hi ≤ n) (ho : o < n) (hx : ¬ (q + 1 + k + lo ≤ p + 1 + i + o ∧ p + 1 + i + o < q + 1 + k + hi)) :
    getH cur L (p : Int) ((i : Int) + (o : Int)) = getH ws L (p : Int) ((i : Int) + (o : Int)) := by
  obtain ⟨kd, cl, hl⟩ := h.lp
  have hk := h.hk
  have hi' := h.hi
  have hg : cur.getD p 0 = ws.getD p 0 := hc.same (fun hcc => by
    have := h.pq (p - (q + 1)) (by omega)
    omega)
  rw [show ((i : Int) + (o : Int)) = ((i + o : Nat) : Int) by push_cast; rfl, get_of ((look_congr hg).trans hl) (by push_cast; omega), get_of hl (by push_cast; omega)]
  rw [hc.same (by omega)]
theorem CpF.runS {ws L : List Int} {p q i k n : Nat} {np nq : Int} (h : CpF ws L p q i k n np nq) (v : Nat → Int) (m : Nat) (hm : m ≤ n) : Cp ws (q + 1 + k) v (badC ws L q k v) 0 m (runS L (q : Int) (k : Int) v ws m) := by
  induction m with
  | zero => exact Cp.none _ _ _ _ _
  | succ m ih =>
    have hc := ih (by omega)
    show Cp _ _ _ _ _ _ (setH (Go.Proofs.YtchbidckckmobaaDoor.runS L q k v ws m) L q ((k : Int) + (m : Int)) (v m)).2
    rw [h.set hc (by omega)]
    have h1 := h.hk
    have h2 := h.le
    exact hc.step (by omega) (by omega) (.inl ⟨rfl, rfl, rfl⟩)
theorem CpF.runC {ws L : List Int} {p q i k n : Nat} {np nq : Int} (h : CpF ws L p q i k n np nq) (m : Nat) (hm : m ≤ n) :
    Cp ws (q + 1 + k) (fun j => (getH ws L (p : Int) ((i : Int) + (j : Int))).1) (badC ws L q k (fun j => (getH ws L (p : Int) ((i : Int) + (j : Int))).1)) (if (p : Int) = q ∧ (i : Int) < k then n - m else 0) (if (p : Int) = q ∧ (i : Int) < k then n else m) (runC L (p : Int) (i : Int) (q : Int) (k : Int) (n : Int) ((p : Int) = q ∧ (i : Int) < k) ws m) := by
  induction m with
  | zero =>
    split
    · exact Cp.none _ _ _ _ _
    · exact Cp.none _ _ _ _ _
  | succ m ih =>
    have hc := ih (by omega)
    have h1 := h.hk
    have h2 := h.le
    have h3 := h.hi
    have hdis := h.dis
    obtain ⟨cur, hcur⟩ : ∃ cur, Go.Proofs.YtchbidckckmobaaDoor.runC L (p : Int) (i : Int) (q : Int) (k : Int) (n : Int) ((p : Int) = q ∧ (i : Int) < k) ws m = cur := ⟨_, rfl⟩
    show Cp _ _ _ _ _ _ (stepC L p i q k (Go.Proofs.YtchbidckckmobaaDoor.runC L (p : Int) (i : Int) (q : Int) (k : Int) (n : Int) ((p : Int) = q ∧ (i : Int) < k) ws m) (ordC ((p : Int) = q ∧ (i : Int) < k) n m))
    rw [hcur] at hc ⊢
    by_cases hD : (p : Int) = q ∧ (i : Int) < k
    · simp only [if_pos hD] at hc ⊢
      have ho : ordC ((p : Int) = q ∧ (i : Int) < k) n m = ((n - 1 - m : Nat) : Int) := by unfold ordC; rw [if_pos hD]; omega
      rw [ho]
      unfold stepC
      rw [h.get hc (by omega) (by omega) (by omega), h.set (o := n - 1 - m) hc (by omega)]
      exact hc.step (by omega) (by omega) (.inr ⟨by omega, by omega, rfl⟩)
    · simp only [if_neg hD] at hc ⊢
      have ho : ordC ((p : Int) = q ∧ (i : Int) < k) n m = (m : Int) := by unfold ordC; rw [if_neg hD]
      rw [ho]
      unfold stepC
      rw [h.get hc (by omega) (by omega) (fun hcc => by
        by_cases hpq : p = q
        · omega
        · exact hdis hpq (i + m) (p + i + m - q) (by push_cast; omega) (by push_cast; omega) (by omega)), h.set (o := m) hc (by omega)]
      exact hc.step (by omega) (by omega) (.inl ⟨rfl, rfl, rfl⟩)
theorem copy_eq {ws L : List Int} (hW : WFH ws L) (p i q k n : Int) : rcopyN ws L p i q k n = copyN ws L p i q k n := by
  unfold rcopyN copyN
  by_cases h1 : (lookH ws L p).2.2.2 ≠ 0
  · rw [if_pos h1, if_pos h1]
  rw [if_neg h1, if_neg h1]
  by_cases h2 : (lookH ws L q).2.2.2 ≠ 0
  · rw [if_pos h2, if_pos h2]
  rw [if_neg h2, if_neg h2]
  by_cases h3 : (lookH ws L p).1 = 1 ∨ (lookH ws L p).1 ≠ (lookH ws L q).1 ∨ (lookH ws L p).2.1 ≠ (lookH ws L q).2.1
  · rw [if_pos h3, if_pos h3]
  rw [if_neg h3, if_neg h3]
  by_cases h4 : n < 0 ∨ i < 0 ∨ k < 0 ∨ (lookH ws L p).2.2.1 - n < i ∨ (lookH ws L q).2.2.1 - n < k
  · rw [if_pos h4, if_pos h4]
  rw [if_neg h4, if_neg h4]
  obtain ⟨P, hP, rfl, hPL, hP0, hPl, hPn0, hPn⟩ := look_n hW (Decidable.of_not_not h1)
  obtain ⟨Q, hQ, rfl, hQL, hQ0, hQl, hQn0, hQn⟩ := look_n hW (Decidable.of_not_not h2)
  rw [hPl, hQl] at h4
  simp only at h4
  obtain ⟨i, rfl⟩ : ∃ x : Nat, i = x := ⟨i.toNat, by omega⟩
  obtain ⟨k, rfl⟩ : ∃ x : Nat, k = x := ⟨k.toNat, by omega⟩
  obtain ⟨n, rfl⟩ : ∃ x : Nat, n = x := ⟨n.toNat, by omega⟩
  have gapP := chain_gap' ws _ 1 (Nat.le_refl _) L hW.ch P hPL
  have gapQ := chain_gap' ws _ 1 (Nat.le_refl _) L hW.ch Q hQL
  rw [getD_get ws P hP] at gapP
  rw [getD_get ws Q hQ] at gapQ
  have hF : CpF ws L P Q i k n (openW (ws[P])).2.2.1 (openW (ws[Q])).2.2.1 := by
    refine ⟨⟨_, _, hPl⟩, ⟨_, _, hQl⟩, by omega, by omega, by omega, fun b hb he => ?_, fun hne a b ha hb he => ?_⟩
    · exact gapQ P (by omega) (by omega) hPL
    · by_cases hlt : P < Q
      · exact gapP Q (by omega) (by omega) hQL
      · exact gapQ P (by omega) (by omega) hPL
  have c1 := hF.runS (fun j => (getH ws L (P : Int) ((i : Int) + (j : Int))).1) n (Nat.le_refl _)
  have c2 := hF.runC n (Nat.le_refl _)
  rw [show ((n : Int)).toNat = n from by omega]
  refine congrArg (fun x => ((0 : Int), x)) ?_
  refine c1.one ?_
  by_cases hD : (P : Int) = Q ∧ (i : Int) < k
  · simpa only [if_pos hD, Nat.sub_self] using c2
  · simpa only [if_neg hD] using c2
end Go.Proofs.YtchbidckckmobaaDoor

/- The acts of NativePlays; few; both heaps beside each other. No condition beyond what each contract names. -/
namespace Go.Proofs.YtchbidckckmobaaDoor
open Go.RowKit E
set_option linter.unusedVariables false
set_option linter.unusedSimpArgs false
set_option maxRecDepth 100000
attribute [local irreducible] ow qw kw kq cw opW Ret
structure NAct where
  kd : BitVec 8
  cl : Int
  ua : Option Addr
  uc : Nat
  us : Us
  a : Int
  b : Int
  i : Int
  k : Int
  n : Int
/-- an act's cells -/
def nactC (x : NAct) : List Value := [.int .u8 (x.kd.toNat : Int), iv x.cl, .slice x.ua x.us.length x.uc, iv x.a, iv x.b, iv x.i, iv x.k, iv x.n]
theorem nact_one (x : NAct) : ∀ u ∈ nactC x, u.oneCell' = true := by
  intro u hu
  simp only [nactC, List.mem_cons, List.not_mem_nil, or_false] at hu
  rcases hu with rfl | rfl | rfl | rfl | rfl | rfl | rfl | rfl <;> rfl
structure NActOk (w : World) (x : NAct) : Prop where
  rd : Rd w x.ua (x.us.map u16v)
  len : x.us.length ≤ 140737488355328
  cl : -9223372036854775808 ≤ x.cl ∧ x.cl ≤ 9223372036854775807
  i : -9223372036854775808 ≤ x.i ∧ x.i ≤ 9223372036854775807
  k : -9223372036854775808 ≤ x.k ∧ x.k ≤ 9223372036854775807
  n : -9223372036854775808 ≤ x.n ∧ x.n ≤ 9223372036854775807
theorem nact_at {w : World} {a : Option Addr} {acts : List NAct} (hR : Rd w a (acts.map nactC).flatten) {m : Nat} (hm : m < acts.length) : ∃ b o, a = some ⟨b, o, none⟩ ∧ ∀ j v, (nactC acts[m])[j]? = some v → w.cell? ⟨b, o + m * 8 + j, none⟩ = some v := by
  have hg : ∀ j v, (nactC acts[m])[j]? = some v → (acts.map nactC).flatten[m * 8 + j]? = some v := fun j v hv =>
    flatten_get (sz := 8) (acts.map nactC) (fun cs hcs => by obtain ⟨x, _, rfl⟩ := List.mem_map.1 hcs; rfl) m j (nactC acts[m]) v (by rw [List.getElem?_map, List.getElem?_eq_getElem hm]; rfl) hv
  obtain ⟨b, o, ha, _⟩ := hR _ _ (hg 0 _ rfl)
  refine ⟨b, o, ha, fun j v hv => ?_⟩
  obtain ⟨b', o', ha', hc⟩ := hR _ _ (hg j v hv)
  rw [ha] at ha'
  cases ha'
  rw [Nat.add_assoc]
  exact hc
theorem inf90 : infB Tryd.prog 90 8 80 (.agg #[.int .u8 0, .int .i64 0, .slice none 0 0, .int .i64 0, .int .i64 0, .int .i64 0, .int .i64 0, .int .i64 0]) := ⟨_, rfl, rfl, rfl, rfl⟩
theorem few24_ok (w : World) (a : Option Addr) (c : Nat) (acts : List NAct) (hR : Rd w a (acts.map nactC).flatten) (hl : acts.length ≤ 9223372036854775807) (hA : ∀ x ∈ acts, x.us.length ≤ 140737488355328) :
    Ret Tryd.prog 52 [.slice a acts.length c] w (fun v w' => (∃ b, v = .bool b ∧ (b = true → acts.length ≤ 61 ∧ ∀ x ∈ acts, x.us.length ≤ 3000)) ∧ Keep [] w w') := by
  refine fn_enter (n := 25) Tryd.func52 rfl rfl (Nat.le_of_ble_eq_true rfl) (fun e => ?_)
  refine k_seq ?_
  refine k_region ?_
  refine m_bool rfl rfl ?_
  refine o_nil ?_
  refine k_seq ?_
  refine k_region ?_
  refine m_int rfl rfl ?_
  refine o_nil ?_
  refine k_seq ?_
  refine k_seq ?_
  refine k_region ?_
  refine m_sl rfl rfl ?_
  refine o_lens Tryd.underlying87 rfl ?_
  refine m_int rfl rfl ?_
  refine o_nil ?_
  refine k_block ?_
  refine k_loop (σ := Nat × Int) (fun s => [(3, .int .i64 s.2), (6, .slice a acts.length c), (7, .int .i64 (acts.length : Int)), (8, .int .i64 (s.1 : Int))]) (fun s w' => s.1 ≤ acts.length ∧ s.1 ≤ 61 ∧ (0 ≤ s.2 ∧ s.2 ≤ 3000) ∧ (∀ x ∈ acts.take s.1, x.us.length ≤ 3000) ∧ Keep [] w w') (fun s => acts.length - s.1) (0, 0) ⟨rfl, rfl, rfl, rfl, trivial⟩ ⟨Nat.zero_le _, by decide, by decide, by simp, Keep.refl _ _⟩ (fun s e w1 hJ => ?_)
  obtain ⟨m, t⟩ := s
  obtain ⟨hm, hm61, ht, hpre, hK1⟩ := hJ
  dsimp only at hm hm61 ht hpre ⊢
  refine k_seq ?_
  refine k_region ?_
  refine b_lss rfl rfl ?_
  refine o_nil ?_
  refine k_seq ?_
  refine k_cond rfl (fun h => ?_) (fun h => ?_)
  rotate_left
  ·
    refine k_exit rfl ?_
    refine k_seq ?_
    refine k_region ?_
    refine m_bool rfl rfl ?_
    refine o_nil ?_
    refine k_ret (ret_tmps (ts := [2]) (v := .bool _) rfl rfl ?_)
    have hme : m = acts.length := by omega
    subst hme
    rw [List.take_length] at hpre
    exact ⟨⟨true, rfl, fun _ => ⟨hm61, hpre⟩⟩, hK1⟩
  have hml : m < acts.length := by omega
  obtain ⟨x, hx⟩ : ∃ x, acts[m] = x := ⟨_, rfl⟩
  have hxA : x.us.length ≤ 140737488355328 := by rw [← hx]; exact hA _ (List.getElem_mem _)
  obtain ⟨b1, o1, hae, hcell⟩ := nact_at (hR.new hK1) hml
  rw [hx] at hcell
  subst hae
  refine k_skip ?_
  refine k_seq ?_
  refine k_block ?_
  refine k_seq ?_
  refine k_region ?_
  refine m_int rfl rfl ?_
  refine o_ixs (m := m) (sz := 8) Tryd.underlying87 rfl rfl rfl hml ?_
  refine o_lda (xs := nactC x) rfl rfl rfl hcell ?_
  refine o_alloc inf90 rfl (fun b2 w2 hB2 hK2 hb2 hZ2 => ?_)
  refine m_int rfl rfl ?_
  refine o_sta (xs := nactC x) rfl rfl rfl (nact_one x) hB2 (Nat.le_refl 8) (fun w3 hB3 hK3 hZ3 => ?_)
  have hB3' : Blk w3 b2 (nactC x).toArray 90 := hB3
  have hK13 : Keep [] w1 w3 := hK2.tr1 hK3 (by omega)
  refine o_nil ?_
  refine k_seq ?_
  refine k_region ?_
  refine m_int rfl rfl ?_
  refine o_fld (off := 2) rfl rfl ?_
  refine o_ld (v := .slice x.ua x.us.length x.uc) rfl rfl (hB3'.at rfl) ?_
  refine o_lens Tryd.underlying77 rfl ?_
  refine n_add rfl rfl (by omega) ?_
  refine m_int rfl rfl ?_
  refine o_nil ?_
  refine k_seq ?_
  refine k_region ?_
  refine m_int rfl rfl ?_
  refine b_gtr rfl rfl ?_
  refine m_bool rfl rfl ?_
  refine o_split (t := 20) rfl (fun h => ?_) (fun h => ?_)
  ·
    refine g_no rfl rfl rfl ?_
    refine g_no rfl rfl rfl ?_
    refine pick_t rfl rfl ?_
    refine o_nil ?_
    refine k_condt rfl ?_
    refine k_seq ?_
    refine k_region ?_
    refine m_bool rfl rfl ?_
    refine o_nil ?_
    refine k_ret (ret_tmps (ts := [2]) (v := .bool _) rfl rfl ?_)
    exact ⟨⟨false, rfl, fun hh => by cases hh⟩, hK1.tr hK13⟩
  ·
    have h20 := h
    refine g_yes rfl rfl ?_
    refine m_int rfl rfl ?_
    refine g_yes rfl rfl ?_
    refine b_gtr rfl rfl ?_
    refine pick_f rfl rfl ?_
    refine o_nil ?_
    refine k_cond rfl (fun h => ?_) (fun h => ?_)
    ·
      refine k_seq ?_
      refine k_region ?_
      refine m_bool rfl rfl ?_
      refine o_nil ?_
      refine k_ret (ret_tmps (ts := [2]) (v := .bool _) rfl rfl ?_)
      exact ⟨⟨false, rfl, fun hh => by cases hh⟩, hK1.tr hK13⟩
    refine k_skip ?_
    refine k_blk ?_
    refine k_region ?_
    refine n_add rfl rfl (by omega) ?_
    refine m_int rfl rfl ?_
    refine o_nil ?_
    refine k_goal ⟨(m + 1, t + x.us.length), ⟨rfl, rfl, rfl, rfl, trivial⟩, ⟨by dsimp only; omega, by dsimp only; omega, by dsimp only; omega, ?_, hK1.tr hK13⟩, by dsimp only; omega⟩
    dsimp only
    rw [List.take_succ_eq_append_getElem hml, hx]
    intro y hy
    rcases List.mem_append.1 hy with hy | hy
    · exact hpre y hy
    · rw [List.mem_singleton.1 hy]; omega
theorem HP.wide {k k' : Nat → Prop} {w : World} {hb : Nat} {ws : List Int} {lim : Int} {L : List Int} (h : HP k w hb ws lim L) (hk : ∀ b, k b → k' b) : HP k' w hb ws lim L := by
  obtain ⟨a, c, r, m, h1, h2, h3, h4, h5, h6, h7⟩ := h
  exact ⟨a, c, r, m, h1, h2, h3, h4, hk _ h5, hk _ h6, fun z hz => hk _ (h7 z hz)⟩
theorem HP.tight {k : Nat → Prop} {w : World} {hb : Nat} {ws : List Int} {lim : Int} {L : List Int} (h : HP k w hb ws lim L) : ∃ k' : Nat → Prop, (∀ b, k' b → k b ∧ b < w.heap.size) ∧ HP k' w hb ws lim L := by
  obtain ⟨a, c, r, m, h1, h2, h3, h4, h5, h6, h7⟩ := h
  refine ⟨fun b => b = hb ∨ b = r ∨ ∃ z, a = some z ∧ b = z.block, fun b hb => ?_, a, c, r, m, h1, h2, h3, h4, .inl rfl, .inr (.inl rfl), fun z hz => .inr (.inr ⟨z, hz, rfl⟩)⟩
  rcases hb with rfl | rfl | ⟨z, hz, rfl⟩
  · exact ⟨h5, h1.lt⟩
  · exact ⟨h6, h3.lt⟩
  · exact ⟨h7 z hz, h2.lt z hz⟩
theorem HP.kh {k k' : Nat → Prop} {w w' : World} {hb : Nat} {ws : List Int} {lim : Int} {L : List Int} (h : HP k w hb ws lim L) (hK : KeepH k' w w') (hd : ∀ b, k b → ¬ k' b) : HP k w' hb ws lim L := by
  obtain ⟨a, c, r, m, h1, h2, h3, h4, h5, h6, h7⟩ := h
  obtain ⟨S, s1, s2⟩ := hK
  exact ⟨a, c, r, m, h1.keep s1 (fun hm => hd _ h5 (s2 _ hm).1), h2.keep s1 (fun z hz hm => hd _ (h7 z hz) (s2 _ hm).1), h3.keep s1 (fun hm => hd _ h6 (s2 _ hm).1), h4, h5, h6, h7⟩
theorem RP.kh {k k' : Nat → Prop} {w w' : World} {rb : Nat} {ws : List Int} {lim : Int} (h : RP k w rb ws lim) (hK : KeepH k' w w') (hd : ∀ b, k b → ¬ k' b) : RP k w' rb ws lim := by
  obtain ⟨a, c, h1, h2, h3, h4⟩ := h
  obtain ⟨S, s1, s2⟩ := hK
  exact ⟨a, c, h1.keep s1 (fun hm => hd _ h3 (s2 _ hm).1), h2.keep s1 (fun z hz hm => hd _ (h4 z hz) (s2 _ hm).1), h3, h4⟩
/-- both heaps, apart from each other and from what there was in w0 -/
def Two (w0 w : World) (hb rb : Nat) (ws : List Int) (lim : Int) (L : List Int) : Prop :=
  ∃ kH kR : Nat → Prop, HP kH w hb ws lim L ∧ RP kR w rb ws lim ∧ (∀ b, kH b → ¬ kR b) ∧ (∀ b, kH b → w0.heap.size ≤ b ∧ b < w.heap.size) ∧ (∀ b, kR b → w0.heap.size ≤ b ∧ b < w.heap.size) ∧ Keep [] w0 w
theorem Two.mk' {w0 w : World} {hb rb : Nat} {ws : List Int} {lim : Int} {L : List Int} {kH kR : Nat → Prop} (h1 : HP kH w hb ws lim L) (h2 : RP kR w rb ws lim) (hd : ∀ b, kH b → ¬ kR b) (hH : ∀ b, kH b → w0.heap.size ≤ b) (hR : ∀ b, kR b → w0.heap.size ≤ b) (hK : Keep [] w0 w) : Two w0 w hb rb ws lim L := by
  obtain ⟨k1, a1, a2⟩ := h1.tight
  obtain ⟨k2, b1, b2⟩ := h2.tight
  exact ⟨k1, k2, a2, b2, fun b x y => hd b (a1 b x).1 (b1 b y).1, fun b x => ⟨hH b (a1 b x).1, (a1 b x).2⟩, fun b x => ⟨hR b (b1 b x).1, (b1 b x).2⟩, hK⟩
theorem Two.keep {w0 w : World} {hb rb : Nat} {ws : List Int} {lim : Int} {L : List Int} (h : Two w0 w hb rb ws lim L) : Keep [] w0 w := by obtain ⟨_, _, _, _, _, _, _, h⟩ := h; exact h
theorem Two.new {w0 w w' : World} {hb rb : Nat} {ws : List Int} {lim : Int} {L : List Int} (h : Two w0 w hb rb ws lim L) (hK : Keep [] w w') : Two w0 w' hb rb ws lim L := by
  obtain ⟨kH, kR, h1, h2, h3, h4, h5, h6⟩ := h
  exact ⟨kH, kR, h1.new hK, h2.new hK, h3, fun b hb => ⟨(h4 b hb).1, Nat.lt_of_lt_of_le (h4 b hb).2 hK.size⟩, fun b hb => ⟨(h5 b hb).1, Nat.lt_of_lt_of_le (h5 b hb).2 hK.size⟩, h6.tr hK⟩
theorem Two.hp {w0 w : World} {hb rb : Nat} {ws : List Int} {lim : Int} {L : List Int} (h : Two w0 w hb rb ws lim L) : ∃ k, HP k w hb ws lim L := by obtain ⟨k, _, h, _⟩ := h; exact ⟨k, h⟩
theorem Two.rp {w0 w : World} {hb rb : Nat} {ws : List Int} {lim : Int} {L : List Int} (h : Two w0 w hb rb ws lim L) : ∃ k, RP k w rb ws lim := by obtain ⟨_, k, _, h, _⟩ := h; exact ⟨k, h⟩
/-- first the program turns its heap, then the document its own -/
theorem Two.turn {w0 w : World} {hb rb : Nat} {ws : List Int} {lim : Int} {L : List Int} (h : Two w0 w hb rb ws lim L) :
    ∃ k : Nat → Prop, HP k w hb ws lim L ∧ (∀ b, w.heap.size ≤ b → k b) ∧ (∀ w', KeepH k w w' → Keep [] w0 w') ∧
      ∀ w' ws' L', HRes k w hb lim w' ws' L' → WFH ws' L' ∧ (ws'.length : Int) ≤ lim + 1 ∧ Keep [] w0 w' ∧
        ∃ k' : Nat → Prop, RP k' w' rb ws lim ∧ (∀ b, w'.heap.size ≤ b → k' b) ∧ (∀ w'', KeepH k' w' w'' → Keep [] w0 w'') ∧ ∀ w'', RRes k' w' rb lim w'' ws' L' → Two w0 w'' hb rb ws' lim L' := by
  obtain ⟨kH, kR, h1, h2, h3, h4, h5, h6⟩ := h
  refine ⟨fun b => kH b ∨ w.heap.size ≤ b, h1.wide (fun b hb => .inl hb), fun b hb => .inr hb, fun w' hk => hk.below h6 (fun b hb => hb.elim (fun hh => (h4 b hh).1) (fun hh => Nat.le_trans h6.size hh)), fun w' ws' L' hr => ?_⟩
  obtain ⟨a1, a2, a3, a4⟩ := hr
  have hk6 : Keep [] w0 w' := a4.below h6 (fun b hb => hb.elim (fun hh => (h4 b hh).1) (fun hh => Nat.le_trans h6.size hh))
  have hR' : RP kR w' rb ws lim := h2.kh a4 (fun b hb hh => hh.elim (fun hh => h3 b hh hb) (fun hh => by have := (h5 b hb).2; omega))
  refine ⟨a2, a3, hk6, fun b => kR b ∨ w'.heap.size ≤ b, hR'.wide (fun b hb => .inl hb), fun b hb => .inr hb, fun w'' hk => hk.below hk6 (fun b hb => hb.elim (fun hh => (h5 b hh).1) (fun hh => Nat.le_trans hk6.size hh)), fun w'' hr => ?_⟩
  obtain ⟨b1, b2, b3⟩ := hr
  obtain ⟨k1, c1, c2⟩ := a1.tight
  have hdis : ∀ b, k1 b → ¬ (kR b ∨ w'.heap.size ≤ b) := fun b hb hh => by
    obtain ⟨x1, x2⟩ := c1 b hb
    rcases hh with hh | hh
    · rcases x1 with x1 | x1
      · exact h3 b x1 hh
      · have := (h5 b hh).2; omega
    · omega
  exact Two.mk' (c2.kh b3 hdis) b1 hdis (fun b hb => (c1 b hb).1.elim (fun hh => (h4 b hh).1) (fun hh => Nat.le_trans h6.size hh)) (fun b hb => hb.elim (fun hh => (h5 b hh).1) (fun hh => Nat.le_trans hk6.size hh)) (b3.below hk6 (fun b hb => hb.elim (fun hh => (h5 b hh).1) (fun hh => Nat.le_trans hk6.size hh)))
end Go.Proofs.YtchbidckckmobaaDoor
