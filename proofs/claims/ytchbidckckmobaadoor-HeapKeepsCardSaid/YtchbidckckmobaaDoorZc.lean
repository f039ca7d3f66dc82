/- Texts of this proof laid together: He, Shelf, Hf, Hz, Eq, Ja, Hg, Hh, Jb, Jc, Jd, Je, Jf, Jg, Jh, Ji, Jj, Jk, Jl. No condition beyond what each lemma names. -/
import Derived.Test.YtchbidckckmobaaDoorZb
import Derived.Shelf.Strconv.Itoa4
import Derived.Shelf.Spec.TrailingZeros
import Derived.Ground.NamesProg
import Derived.Test.YtchbidckckmobaaDoorProg
import Derived.Test.YtchbidckckmobaaDoorRows
import Derived.LaidMore
import Derived.Lib.LaidTab
import Derived.MakeChecks
import Derived.Stop.Joined
import Derived.OpenShut
import Derived.ProofKit
import Derived.Lib.TrailingZeros
import Derived.Lib.SlBytesRow
/- Native: Make, Units, CharAt. No condition beyond what each contract names. -/
namespace Go.Proofs.YtchbidckckmobaaDoor
open Go.RowKit E
set_option linter.unusedVariables false
set_option linter.unusedSimpArgs false
set_option maxRecDepth 100000
attribute [local irreducible] ow qw kw kq cw opW Ret
theorem inf47 : infB Tryd.prog 47 1 2 (.int .u16 0) := ⟨_, rfl, rfl, rfl, rfl⟩
abbrev Us := List (BitVec 16)
def ui (u : BitVec 16) : Int := (u.toNat : Int)
theorem u16_at (xs : Us) (i : Nat) (h : i < xs.length) : (xs.map u16v)[i]? = some (.int .u16 ((xs[i]).toNat : Int)) := by
  rw [List.getElem?_map, List.getElem?_eq_getElem h]; rfl
theorem u16_one (xs : Us) : ∀ u ∈ xs.map u16v, u.oneCell' = true := by
  intro u hu
  obtain ⟨x, _, rfl⟩ := List.mem_map.1 hu
  rfl
/-- what Make answers, and what it leaves -/
def makeN (ws L : List Int) (lim cl : Int) (us : Us) : Int × Int × List Int × List Int :=
  if (layH ws L lim 2 cl us.length 0).2.1 ≠ 0 then (0, (layH ws L lim 2 cl us.length 0).2.1, ws, L)
  else ((ws.length : Int), 0, ws ++ (headW 2 cl us.length 0).1 :: us.map ui, L ++ [(ws.length : Int)])
theorem lay_cases (ws L : List Int) (lim kind cl n mask : Int) : ((layH ws L lim kind cl n mask).2.1 ≠ 0 ∧ (layH ws L lim kind cl n mask).1 = 0 ∧ (layH ws L lim kind cl n mask).2.2.1 = ws ∧ (layH ws L lim kind cl n mask).2.2.2 = L) ∨
    (layH ws L lim kind cl n mask = ((ws.length : Int), 0, ws ++ (headW kind cl n mask).1 :: List.replicate n.toNat 0, L ++ [(ws.length : Int)]) ∧ (headW kind cl n mask).2 = 0 ∧ 0 ≤ n ∧ n < lim - ((ws.length : Int) - 1)) := by
  unfold layH
  by_cases h1 : n < 0 ∨ ¬ (0 ≤ cl ∧ cl ≤ 65535)
  · rw [if_pos h1]; exact .inl ⟨by simp, rfl, rfl, rfl⟩
  · rw [if_neg h1]
    by_cases h2 : lim - ((ws.length : Int) - 1) ≤ n
    · rw [if_pos h2]; exact .inl ⟨by simp, rfl, rfl, rfl⟩
    · rw [if_neg h2]
      by_cases h3 : (headW kind cl n mask).2 ≠ 0
      · rw [if_pos h3]; exact .inl ⟨h3, rfl, rfl, rfl⟩
      · rw [if_neg h3]; exact .inr ⟨rfl, Decidable.of_not_not h3, by omega, by omega⟩
/-- the words while a string is laid -/
def wsU (ws : List Int) (hd : Int) (us : Us) (i : Nat) : List Int := ws ++ hd :: ((us.take i).map ui ++ List.replicate (us.length - i) 0)
theorem wsU_len (ws : List Int) (hd : Int) (us : Us) (i : Nat) (h : i ≤ us.length) : (wsU ws hd us i).length = ws.length + 1 + us.length := by
  simp [wsU]; omega
theorem wsU_set (ws : List Int) (hd : Int) (us : Us) (i : Nat) (h : i < us.length) : (wsU ws hd us i).set (ws.length + 1 + i) (ui (us[i])) = wsU ws hd us (i + 1) := by
  unfold wsU
  rw [List.set_append_right _ _ (by omega), show ws.length + 1 + i - ws.length = i + 1 by omega, List.set_cons_succ, List.set_append_right _ _ (by simp; omega), List.length_map, List.length_take, Nat.min_eq_left (by omega), Nat.sub_self]
  rw [show us.length - i = (us.length - (i + 1)) + 1 by omega, List.replicate_succ, List.set_cons_zero, List.take_succ_eq_append_getElem h, List.map_append, List.append_assoc]
  rfl
theorem wsU_head (ws : List Int) (hd : Int) (us : Us) (i : Nat) : (wsU ws hd us i).getD ws.length 0 = hd := by
  simp [wsU]
theorem make_ok (k : Nat → Prop) (w : World) (hb : Nat) (ws : List Int) (lim : Int) (L : List Int) (cl : Int) (a : Option Addr) (c : Nat) (us : Us) (h : HP k w hb ws lim L) (hW : WFH ws L) (hlim : lim ≤ 65536) (hu : (ws.length : Int) ≤ lim + 1) (hkw : ∀ b, w.heap.size ≤ b → k b)
    (hcl : -9223372036854775808 ≤ cl ∧ cl ≤ 9223372036854775807) (hR : Rd w a (us.map u16v)) (hus : us.length ≤ 9223372036854775807) (hab : ∀ w', KeepH k w w' → Rd w' a (us.map u16v)) :
    Ret Tryd.prog 45 [.pointer (some ⟨hb, 0, none⟩), .int .i64 cl, .slice a us.length c] w (fun v w' => v = .tuple #[.int .i64 (makeN ws L lim cl us).1, .int .i64 (makeN ws L lim cl us).2.1] ∧ HRes k w hb lim w' (makeN ws L lim cl us).2.2.1 (makeN ws L lim cl us).2.2.2) := by
  refine fn_enter (n := 38) Tryd.func45 rfl rfl (Nat.le_of_ble_eq_true rfl) (fun e => ?_)
  refine k_seq ?_
  refine k_region ?_
  refine m_int rfl rfl ?_
  refine m_int rfl rfl ?_
  refine o_nil ?_
  refine k_seq ?_
  refine k_region ?_
  refine m_ptr rfl rfl ?_
  refine m_int rfl rfl ?_
  refine m_sl rfl rfl ?_
  refine o_lens Tryd.underlying77 rfl ?_
  refine o_call rfl rfl (harray_ok k w hb ws lim L cl (us.length : Int) false h hW hlim hu hkw hcl (by omega)) (fun v w1 hv => ?_)
  obtain ⟨rfl, hr⟩ := hv
  rw [show (if false = true then (3 : Int) else 2) = 2 from rfl] at hr ⊢
  have hlc := lay_cases ws L lim 2 cl us.length 0
  refine m_any rfl rfl ?_
  refine o_extr rfl rfl ?_
  refine o_extr rfl rfl ?_
  refine m_int rfl rfl ?_
  refine m_int rfl rfl ?_
  refine o_nil ?_
  refine k_seq ?_
  refine k_seq ?_
  refine k_region ?_
  refine m_int rfl rfl ?_
  refine b_neq rfl rfl ?_
  refine o_nil ?_
  refine k_cond rfl (fun h => ?_) (fun h => ?_)
  ·
    refine k_seq ?_
    refine k_region ?_
    refine m_int rfl rfl ?_
    refine m_int rfl rfl ?_
    refine m_int rfl rfl ?_
    refine o_nil ?_
    refine k_ret (ret_tmps (ts := [6, 7]) (v := .tuple #[.int _ _, .int _ _]) rfl rfl ?_)
    have hne : (layH ws L lim 2 cl us.length 0).2.1 ≠ 0 := h
    have hmk : makeN ws L lim cl us = (0, (layH ws L lim 2 cl us.length 0).2.1, ws, L) := if_pos hne
    rcases hlc with ⟨_, _, h3, h4⟩ | ⟨h1, _⟩
    · rw [h3, h4] at hr; rw [hmk]; exact ⟨rfl, hr⟩
    · rw [h1] at hne; exact absurd rfl hne
  have he0 : (layH ws L lim 2 cl us.length 0).2.1 = 0 := Decidable.of_not_not h
  obtain ⟨hlay, hh0, _, hfit⟩ := hlc.resolve_left (fun hh => hh.1 he0)
  have hmk : makeN ws L lim cl us = ((ws.length : Int), 0, ws ++ (headW 2 cl us.length 0).1 :: us.map ui, L ++ [(ws.length : Int)]) := if_neg (by simpa using he0)
  obtain ⟨hd, hhd⟩ : ∃ hd, (headW 2 cl us.length 0).1 = hd := ⟨_, rfl⟩
  have hoh := head_open 2 cl us.length 0 hh0
  rw [hhd] at hmk hlay hoh
  rw [hlay] at hr ⊢
  have hp := hW.pos
  refine k_skip ?_
  refine k_seq ?_
  refine k_seq ?_
  refine k_region ?_
  refine m_sl rfl rfl ?_
  refine o_lens Tryd.underlying77 rfl ?_
  refine m_int rfl rfl ?_
  refine o_nil ?_
  refine k_block ?_
  refine k_loop (σ := Nat) (fun i => [(0, .pointer (some ⟨hb, 0, none⟩)), (8, .int .i64 (ws.length : Int)), (23, .slice a us.length c), (24, .int .i64 (us.length : Int)), (25, .int .i64 (i : Int))]) (fun i w' => i ≤ us.length ∧ HRes k w hb lim w' (wsU ws hd us i) (L ++ [(ws.length : Int)])) (fun i => us.length - i) 0 ⟨rfl, rfl, rfl, rfl, rfl, trivial⟩ ⟨Nat.zero_le _, by simpa [wsU] using hr⟩ (fun i e w2 hJ => ?_)
  obtain ⟨hi, hHP, hWF, hu2, hKH⟩ := hJ
  refine k_seq ?_
  refine k_region ?_
  refine b_lss rfl rfl ?_
  refine o_nil ?_
  refine k_seq ?_
  refine k_cond rfl (fun h => ?_) (fun h => ?_)
  rotate_left
  ·
    have hie : i = us.length := by omega
    subst hie
    refine k_exit rfl ?_
    refine k_seq ?_
    refine k_region ?_
    refine m_int rfl rfl ?_
    refine m_int rfl rfl ?_
    refine m_int rfl rfl ?_
    refine o_nil ?_
    refine k_ret (ret_tmps (ts := [6, 7]) (v := .tuple #[.int _ _, .int _ _]) rfl rfl ?_)
    rw [hmk]
    refine ⟨rfl, ?_⟩
    have e : wsU ws hd us us.length = ws ++ hd :: us.map ui := by simp [wsU]
    rw [e] at hHP hWF hu2
    exact ⟨hHP, hWF, hu2, hKH⟩
  have hin : i < us.length := by omega
  have hx := u16_at us i hin
  have hRA := hab _ hKH
  obtain ⟨b1, o1, hae, hc1⟩ := hRA _ _ hx
  subst hae
  have hlk : lookH (wsU ws hd us i) (L ++ [(ws.length : Int)]) (ws.length : Int) = (2, cl, (us.length : Int), 0) := by
   rw [look_in (by simp)]
   rw [show ((ws.length : Int)).toNat = ws.length from rfl, wsU_head, hoh]
  have hce : cellH (wsU ws hd us i) (L ++ [(ws.length : Int)]) (ws.length : Int) (i : Int) = ((ws.length : Int) + 1 + (i : Int), false, 0) := by
   unfold cellH
   rw [hlk, if_neg (by simp), if_neg (by simp only; omega), show ((ws.length : Int)).toNat = ws.length from rfl, wsU_head, hoh]
   rfl
  have hse : setH (wsU ws hd us i) (L ++ [(ws.length : Int)]) (ws.length : Int) (i : Int) (ui (us[i])) = (0, wsU ws hd us (i + 1)) := by
   unfold setH
   rw [hce, if_neg (by simp), if_neg (by simp)]
   rw [show ((ws.length : Int) + 1 + (i : Int)).toNat = ws.length + 1 + i by omega, wsU_set ws hd us i hin]
  have hul := (us[i]).isLt
  refine k_skip ?_
  refine k_seq ?_
  refine k_block ?_
  refine k_seq ?_
  refine k_region ?_
  refine m_int rfl rfl ?_
  refine o_ixs1 Tryd.underlying77 rfl rfl rfl hin ?_
  refine o_ld (v := .int .u16 ((us[i]).toNat : Int)) rfl rfl hc1 ?_
  refine m_int rfl rfl ?_
  refine m_int rfl rfl ?_
  refine o_nil ?_
  refine k_region ?_
  refine m_ptr rfl rfl ?_
  refine m_int rfl rfl ?_
  refine m_int rfl rfl ?_
  refine m_int rfl rfl ?_
  refine cv16_i rfl Tryd.underlying2 rfl ?_
  refine o_call rfl rfl (set_ok k w2 hb (wsU ws hd us i) lim (L ++ [(ws.length : Int)]) (ws.length : Int) (i : Int) (ui (us[i])) hHP hWF hu2 (by unfold ui; omega)) (fun v w3 hv => ?_)
  obtain ⟨rfl, hr3⟩ := hv
  rw [hse] at hr3
  obtain ⟨hHP3, hWF3, hu3, hKH3⟩ := hr3
  refine o_nil ?_
  refine k_blk ?_
  refine k_region ?_
  refine n_add rfl rfl (by omega) ?_
  refine m_int rfl rfl ?_
  refine o_nil ?_
  refine k_goal ⟨i + 1, ⟨rfl, rfl, rfl, rfl, rfl, trivial⟩, ⟨by omega, hHP3, hWF3, hu3, hKH.tr hKH3⟩, by omega⟩
/-- what Units answers -/
def unitsN (ws L : List Int) (p : Int) : Us × Int :=
  if (lookH ws L p).2.2.2 ≠ 0 then ([], (lookH ws L p).2.2.2)
  else if (lookH ws L p).1 ≠ 2 then ([], 1)
  else ((List.range (lookH ws L p).2.2.1.toNat).map fun i => BitVec.ofInt 16 (ws.getD (p.toNat + 1 + i) 0), 0)
theorem look_n {ws L : List Int} {p : Int} (hW : WFH ws L) (h : (lookH ws L p).2.2.2 = 0) : ∃ (q : Nat) (hq : q < ws.length), p = q ∧ (q : Int) ∈ L ∧ (openW (ws[q])).2.2.2.2 = 0 ∧ lookH ws L p = ((openW (ws[q])).1, (openW (ws[q])).2.1, (openW (ws[q])).2.2.1, 0) ∧ 0 ≤ (openW (ws[q])).2.2.1 ∧ (openW (ws[q])).2.2.1 ≤ (ws.length : Int) - q - 1 := by
  have hp := (look_e hW).1 h
  obtain ⟨q, hq, hpq, hq1, hq0, hqn⟩ := hW.at hp
  subst hpq
  refine ⟨q, hq, rfl, hp, hq0, ?_, (open_f _ hq0).n0, hqn⟩
  rw [look_in hp, show ws.getD (q : Int).toNat 0 = ws[q] from getD_get ws q hq, hq0]
theorem get_at {ws L : List Int} (hW : WFH ws L) {q : Nat} (hq : q < ws.length) (hL : (q : Int) ∈ L) (hlk : lookH ws L q = ((openW (ws[q])).1, (openW (ws[q])).2.1, (openW (ws[q])).2.2.1, 0)) (i : Nat) (hi : (i : Int) < (openW (ws[q])).2.2.1) : getH ws L (q : Int) (i : Int) = (ws.getD (q + 1 + i) 0, 0) := by
  have hce : cellH ws L (q : Int) (i : Int) = ((q : Int) + 1 + (i : Int), refB (openW (ws.getD (q : Int).toNat 0)).1 (openW (ws.getD (q : Int).toNat 0)).2.2.2.1 (i : Int).toNat, 0) := by
    unfold cellH
    rw [hlk, if_neg (by simp), if_neg (by simp only; omega)]
  unfold getH
  rw [hce, if_neg (by simp)]
  rw [show ((q : Int) + 1 + (i : Int)).toNat = q + 1 + i by omega]
def unU (ws : List Int) (q n i : Nat) : Us := (List.range n).map fun j => if j < i then BitVec.ofInt 16 (ws.getD (q + 1 + j) 0) else 0#16
theorem units_ok (k : Nat → Prop) (w : World) (hb : Nat) (ws : List Int) (lim : Int) (L : List Int) (p : Int) (hHP : HP k w hb ws lim L) (hW : WFH ws L) :
    Ret Tryd.prog 48 [.pointer (some ⟨hb, 0, none⟩), .int .i64 p] w (fun v w' => (∃ a2 c2, v = .tuple #[.slice a2 (unitsN ws L p).1.length c2, .int .i64 (unitsN ws L p).2] ∧ Sl w' 47 1 a2 (unitsN ws L p).1.length c2 ((unitsN ws L p).1.map u16v) ∧ ∀ z, a2 = some z → w.heap.size ≤ z.block) ∧ Keep [] w w') := by
  refine fn_enter (n := 48) Tryd.func48 rfl rfl (Nat.le_of_ble_eq_true rfl) (fun e => ?_)
  refine k_seq ?_
  refine k_region ?_
  refine m_sl rfl rfl ?_
  refine m_int rfl rfl ?_
  refine o_nil ?_
  refine k_seq ?_
  refine k_region ?_
  refine m_ptr rfl rfl ?_
  refine m_int rfl rfl ?_
  refine o_call rfl rfl (look_ok k w hb ws lim L p hHP hW) (fun v w1 hv => ?_)
  obtain ⟨rfl, rfl⟩ := hv
  refine m_any rfl rfl ?_
  refine o_extr rfl rfl ?_
  refine o_extr rfl rfl ?_
  refine o_extr rfl rfl ?_
  refine o_extr rfl rfl ?_
  refine m_int rfl rfl ?_
  refine m_int rfl rfl ?_
  refine m_int rfl rfl ?_
  refine m_int rfl rfl ?_
  refine o_nil ?_
  refine k_seq ?_
  refine k_seq ?_
  refine k_region ?_
  refine m_int rfl rfl ?_
  refine b_neq rfl rfl ?_
  refine o_nil ?_
  refine k_cond rfl (fun h => ?_) (fun h => ?_)
  ·
    refine k_seq ?_
    refine k_region ?_
    refine m_int rfl rfl ?_
    refine m_sl rfl rfl ?_
    refine m_int rfl rfl ?_
    refine o_nil ?_
    refine k_ret (ret_tmps (ts := [4, 5]) (v := .tuple #[.slice _ _ _, .int _ _]) rfl rfl ?_)
    have e : unitsN ws L p = ([], (lookH ws L p).2.2.2) := if_pos h
    rw [e]; exact ⟨⟨none, 0, rfl, Sl.nil _ _ _, by simp⟩, Keep.refl _ _⟩
  have h0 := Decidable.of_not_not h
  refine k_skip ?_
  refine k_seq ?_
  refine k_seq ?_
  refine k_region ?_
  refine m_int rfl rfl ?_
  refine b_neq rfl rfl ?_
  refine o_nil ?_
  refine k_cond rfl (fun h => ?_) (fun h => ?_)
  ·
    refine k_seq ?_
    refine k_region ?_
    refine m_sl rfl rfl ?_
    refine m_int rfl rfl ?_
    refine o_nil ?_
    refine k_ret (ret_tmps (ts := [4, 5]) (v := .tuple #[.slice _ _ _, .int _ _]) rfl rfl ?_)
    have e : unitsN ws L p = ([], 1) := by unfold unitsN; rw [if_neg (by simpa using h0), if_pos h]
    rw [e]; exact ⟨⟨none, 0, rfl, Sl.nil _ _ _, by simp⟩, Keep.refl _ _⟩
  have hk2 := Decidable.of_not_not h
  obtain ⟨q, hq, hpq, hqL, hq0, hlk, hn0, hnq⟩ := look_n hW h0
  subst hpq
  obtain ⟨n, hn⟩ : ∃ n : Nat, (openW (ws[q])).2.2.1 = (n : Int) := ⟨(openW (ws[q])).2.2.1.toNat, by omega⟩
  have hlen := hW.len
  have hlk2 : (lookH ws L q).2.2.1 = (n : Int) := by rw [hlk]; exact hn
  have e : unitsN ws L (q : Int) = (unU ws q n n, 0) := by
   unfold unitsN
   rw [if_neg (by simpa using h0), if_neg (by simpa using hk2), hlk2]
   refine congrArg (fun x => (x, (0 : Int))) ?_
   unfold unU
   refine List.map_congr_left fun j hj => ?_
   rw [if_pos (by simpa using hj)]
   rfl
  rw [hlk2]
  refine k_skip ?_
  refine k_seq ?_
  refine k_region ?_
  refine m_int rfl rfl ?_
  refine o_make Tryd.underlying77 inf47 rfl rfl (by simp [maxLen]; omega) (by omega) (fun g w2 hS2 hK2 hb2 hZ2 => ?_)
  have hS2' : Sl w2 47 1 (some ⟨g, 0, none⟩) n n ((unU ws q n 0).map u16v) := by
   have hz : (madeCells (Value.cells (.int .u16 0)) (n * 1)).toList = (unU ws q n 0).map u16v := by
    show (madeCells #[Value.int .u16 0] (n * 1)).toList = _
    rw [Nat.mul_one, toList_madeCells_one]
    apply List.ext_getElem
    · simp [unU]
    · intro i h1 h2; simp [unU, u16v]
   rw [← hz]; exact hS2
  refine m_sl rfl rfl ?_
  refine o_nil ?_
  refine k_seq ?_
  refine k_seq ?_
  refine k_region ?_
  refine m_sl rfl rfl ?_
  refine o_lens Tryd.underlying77 rfl ?_
  refine m_int rfl rfl ?_
  refine o_nil ?_
  refine k_block ?_
  refine k_loop (σ := Nat) (fun i => [(0, .pointer (some ⟨hb, 0, none⟩)), (1, .int .i64 (q : Int)), (10, .slice (some ⟨g, 0, none⟩) n n), (30, .int .i64 (n : Int)), (31, .int .i64 (i : Int))]) (fun i w' => i ≤ n ∧ Sl w' 47 1 (some ⟨g, 0, none⟩) n n ((unU ws q n i).map u16v) ∧ Keep [] w1 w') (fun i => n - i) 0 ⟨rfl, rfl, rfl, rfl, rfl, trivial⟩ ⟨Nat.zero_le _, hS2', hK2⟩ (fun i e w3 hJ => ?_)
  obtain ⟨hi, hS3, hK3⟩ := hJ
  refine k_seq ?_
  refine k_region ?_
  refine b_lss rfl rfl ?_
  refine o_nil ?_
  refine k_seq ?_
  refine k_cond rfl (fun h => ?_) (fun h => ?_)
  rotate_left
  ·
    have hie : i = n := by omega
    subst hie
    refine k_exit rfl ?_
    refine k_seq ?_
    refine k_region ?_
    refine m_sl rfl rfl ?_
    refine m_sl rfl rfl ?_
    refine m_int rfl rfl ?_
    refine o_nil ?_
    refine k_ret (ret_tmps (ts := [4, 5]) (v := .tuple #[.slice _ _ _, .int _ _]) rfl rfl ?_)
    have hul : (unU ws q i i).length = i := by simp [unU]
    rw [e, hul]
    exact ⟨⟨some ⟨g, 0, none⟩, i, rfl, hS3, by intro z hz; cases hz; simp; omega⟩, hK3⟩
  have hin : i < n := by omega
  have hge := get_at hW hq hqL hlk i (by rw [hn]; omega)
  refine k_skip ?_
  refine k_seq ?_
  refine k_block ?_
  refine k_seq ?_
  refine k_region ?_
  refine m_int rfl rfl ?_
  refine m_int rfl rfl ?_
  refine o_nil ?_
  refine k_seq ?_
  refine k_region ?_
  refine m_ptr rfl rfl ?_
  refine m_int rfl rfl ?_
  refine m_int rfl rfl ?_
  refine o_call rfl rfl (get_ok k w3 hb ws lim L (q : Int) (i : Int) (hHP.new hK3) hW) (fun v w4 hv => ?_)
  obtain ⟨rfl, rfl⟩ := hv
  rw [hge]
  obtain ⟨gg, cur, hae, hBg, hgs⟩ := hS3.blk (by omega)
  cases hae
  refine m_any rfl rfl ?_
  refine o_extr rfl rfl ?_
  refine o_extr rfl rfl ?_
  refine m_int rfl rfl ?_
  refine m_int rfl rfl ?_
  refine o_nil ?_
  refine k_region ?_
  refine m_sl rfl rfl ?_
  refine m_int rfl rfl ?_
  refine m_int rfl rfl ?_
  refine cv16 rfl Tryd.underlying47 rfl ?_
  refine o_ixs1 Tryd.underlying77 rfl rfl rfl hin ?_
  refine o_st (v := u16v (BitVec.ofInt 16 (ws.getD (q + 1 + i) 0))) rfl rfl rfl rfl hBg (by omega) (fun w5 hB5 hK5 hZ5 => ?_)
  have hS5 := Sl.set hS3 hin hBg hB5
  have hset : ((unU ws q n i).map u16v).set i (u16v (BitVec.ofInt 16 (ws.getD (q + 1 + i) 0))) = (unU ws q n (i + 1)).map u16v := by
   rw [← List.map_set]
   refine congrArg (List.map u16v) ?_
   apply List.ext_getElem
   · simp [unU]
   · intro j h1 h2
     rw [List.getElem_set]
     simp only [unU, List.getElem_map, List.getElem_range]
     by_cases hij : i = j
     · subst hij; rw [if_pos rfl, if_pos (by omega)]
     · rw [if_neg hij]
       by_cases hji : j < i
       · rw [if_pos hji, if_pos (by omega)]
       · rw [if_neg hji, if_neg (by omega)]
  rw [hset] at hS5
  refine o_nil ?_
  refine k_blk ?_
  refine k_region ?_
  refine n_add rfl rfl (by omega) ?_
  refine m_int rfl rfl ?_
  refine o_nil ?_
  refine k_goal ⟨i + 1, ⟨rfl, rfl, rfl, rfl, rfl, trivial⟩, ⟨by omega, hS5, hK3.trans hK5 (by simp; omega)⟩, by omega⟩
/-- what CharAt answers -/
def charN (ws L : List Int) (p i : Int) : Int × Int :=
  if (lookH ws L p).2.2.2 ≠ 0 then (0, (lookH ws L p).2.2.2)
  else if (lookH ws L p).1 ≠ 2 ∨ i < 0 ∨ (lookH ws L p).2.2.1 ≤ i then (0, 1)
  else (ui (BitVec.ofInt 16 (ws.getD (p.toNat + 1 + i.toNat) 0)), 0)
theorem char_ok (k : Nat → Prop) (w : World) (hb : Nat) (ws : List Int) (lim : Int) (L : List Int) (p i : Int) (hHP : HP k w hb ws lim L) (hW : WFH ws L) :
    Ret Tryd.prog 50 [.pointer (some ⟨hb, 0, none⟩), .int .i64 p, .int .i64 i] w (fun v w' => v = .tuple #[.int .i64 (charN ws L p i).1, .int .i64 (charN ws L p i).2] ∧ w' = w) := by
  refine fn_enter (n := 48) Tryd.func50 rfl rfl (Nat.le_of_ble_eq_true rfl) (fun e => ?_)
  refine k_seq ?_
  refine k_region ?_
  refine m_int rfl rfl ?_
  refine m_int rfl rfl ?_
  refine o_nil ?_
  refine k_seq ?_
  refine k_region ?_
  refine m_ptr rfl rfl ?_
  refine m_int rfl rfl ?_
  refine o_call rfl rfl (look_ok k w hb ws lim L p hHP hW) (fun v w1 hv => ?_)
  obtain ⟨rfl, rfl⟩ := hv
  refine m_any rfl rfl ?_
  refine o_extr rfl rfl ?_
  refine o_extr rfl rfl ?_
  refine o_extr rfl rfl ?_
  refine o_extr rfl rfl ?_
  refine m_int rfl rfl ?_
  refine m_int rfl rfl ?_
  refine m_int rfl rfl ?_
  refine m_int rfl rfl ?_
  refine o_nil ?_
  refine k_seq ?_
  refine k_block ?_
  refine k_seq ?_
  refine k_region ?_
  refine m_int rfl rfl ?_
  refine b_neq rfl rfl ?_
  refine m_bool rfl rfl ?_
  refine o_nil ?_
  refine k_cond rfl (fun h => ?_) (fun h => ?_)
  ·
    refine k_seq ?_
    refine k_region ?_
    refine m_int rfl rfl ?_
    refine m_int rfl rfl ?_
    refine m_int rfl rfl ?_
    refine o_nil ?_
    refine k_ret (ret_tmps (ts := [6, 7]) (v := .tuple #[.int _ _, .int _ _]) rfl rfl ?_)
    have e : charN ws L p i = (0, (lookH ws L p).2.2.2) := if_pos h
    rw [e]; exact ⟨rfl, rfl⟩
  have h0 := Decidable.of_not_not h
  have hno : (lookH ws L p).1 ≠ 2 ∨ i < 0 ∨ (lookH ws L p).2.2.1 ≤ i → charN ws L p i = (0, 1) := fun hh => by unfold charN; rw [if_neg (by simpa using h0), if_pos hh]
  refine k_seq ?_
  refine k_region ?_
  refine m_int rfl rfl ?_
  refine b_neq rfl rfl ?_
  refine m_bool rfl rfl ?_
  refine o_split (t := 28) rfl (fun h => ?_) (fun h => ?_)
  ·
    refine g_no rfl rfl rfl ?_
    refine g_no rfl rfl rfl ?_
    refine pick_t rfl rfl ?_
    refine m_bool rfl rfl ?_
    refine g_no rfl rfl rfl ?_
    refine g_no rfl rfl rfl ?_
    refine g_no rfl rfl rfl ?_
    refine pick_t rfl rfl ?_
    refine m_bool rfl rfl ?_
    refine o_nil ?_
    refine k_condt rfl ?_
    refine k_seq ?_
    refine k_region ?_
    refine m_int rfl rfl ?_
    refine m_int rfl rfl ?_
    refine o_nil ?_
    refine k_ret (ret_tmps (ts := [6, 7]) (v := .tuple #[.int _ _, .int _ _]) rfl rfl ?_)
    rw [hno (.inl h)]; exact ⟨rfl, rfl⟩
  ·
    have h28 := h
    refine g_yes rfl rfl ?_
    refine m_int rfl rfl ?_
    refine g_yes rfl rfl ?_
    refine b_lss rfl rfl ?_
    refine pick_f rfl rfl ?_
    refine m_bool rfl rfl ?_
    refine o_split (t := 32) rfl (fun h => ?_) (fun h => ?_)
    ·
      refine g_no rfl rfl rfl ?_
      refine g_no rfl rfl rfl ?_
      refine g_no rfl rfl rfl ?_
      refine pick_t rfl rfl ?_
      refine m_bool rfl rfl ?_
      refine o_nil ?_
      refine k_condt rfl ?_
      refine k_seq ?_
      refine k_region ?_
      refine m_int rfl rfl ?_
      refine m_int rfl rfl ?_
      refine o_nil ?_
      refine k_ret (ret_tmps (ts := [6, 7]) (v := .tuple #[.int _ _, .int _ _]) rfl rfl ?_)
      rw [hno (.inr (.inl h))]; exact ⟨rfl, rfl⟩
    ·
      have h32 := h
      refine g_yes rfl rfl ?_
      refine m_int rfl rfl ?_
      refine g_yes rfl rfl ?_
      refine m_int rfl rfl ?_
      refine g_yes rfl rfl ?_
      refine b_geq rfl rfl ?_
      refine pick_f rfl rfl ?_
      refine m_bool rfl rfl ?_
      refine o_nil ?_
      refine k_cond rfl (fun h => ?_) (fun h => ?_)
      ·
        refine k_seq ?_
        refine k_region ?_
        refine m_int rfl rfl ?_
        refine m_int rfl rfl ?_
        refine o_nil ?_
        refine k_ret (ret_tmps (ts := [6, 7]) (v := .tuple #[.int _ _, .int _ _]) rfl rfl ?_)
        rw [hno (.inr (.inr h))]; exact ⟨rfl, rfl⟩
      have e : charN ws L p i = (ui (BitVec.ofInt 16 (ws.getD (p.toNat + 1 + i.toNat) 0)), 0) := by unfold charN; rw [if_neg (by simpa using h0), if_neg (fun hh => hh.elim h28 (fun hh => hh.elim h32 h))]
      obtain ⟨q, hq, hpq, hqL, hq0, hlk, hn0, hnq⟩ := look_n hW h0
      subst hpq
      obtain ⟨j, hj⟩ : ∃ j : Nat, i = (j : Int) := ⟨i.toNat, by omega⟩
      subst hj
      have hge := get_at hW hq hqL hlk j (by rw [hlk] at h; simp only at h; omega)
      refine k_skip ?_
      refine k_blk ?_
      refine k_seq ?_
      refine k_region ?_
      refine m_ptr rfl rfl ?_
      refine m_int rfl rfl ?_
      refine m_int rfl rfl ?_
      refine o_call rfl rfl (get_ok k w1 hb ws lim L (q : Int) (j : Int) hHP hW) (fun v w4 hv => ?_)
      obtain ⟨rfl, rfl⟩ := hv
      rw [hge]
      refine m_any rfl rfl ?_
      refine o_extr rfl rfl ?_
      refine o_extr rfl rfl ?_
      refine m_int rfl rfl ?_
      refine m_int rfl rfl ?_
      refine o_nil ?_
      refine k_seq ?_
      refine k_region ?_
      refine m_int rfl rfl ?_
      refine cv16 rfl Tryd.underlying47 rfl ?_
      refine cv16_i rfl Tryd.underlying2 rfl ?_
      refine m_int rfl rfl ?_
      refine m_int rfl rfl ?_
      refine m_int rfl rfl ?_
      refine o_nil ?_
      refine k_ret (ret_tmps (ts := [6, 7]) (v := .tuple #[.int _ _, .int _ _]) rfl rfl ?_)
      rw [e]; exact ⟨rfl, rfl⟩
end Go.Proofs.YtchbidckckmobaaDoor

/-
  DERIVED: THE SHELF's CONTRACTS AT THIS DUMP, IN PLAIN WORDS (tools/lay-plain.mjs out of 'YtchbidckckmobaaDoorShelf.lean', which tools/lay-shelf.mjs wrote): THE SAME DECLARATIONS UNDER THE SAME NAMES: 'import', 'namespace', 'open', 'def', 'theorem' AND NOTHING ELSE: no command of the shelf's: FOR A HAND-IN. Each laying: the table of numbers ('.._ren') and one theorem, a field a fact of the dump's own or the kernel's comparison; each contract: ONE APPLICATION.
-/
namespace Go.Proofs
open Go.Shelf
def Tryd.lays173_ren : Go.Shelf.Ren := ⟨fun | 173 => 74 | 246 => 81 | 283 => 82 | 284 => 83 | 285 => 84 | 286 => 85 | 129 => 87 | 317 => 86 | 318 => 88 | 319 => 89 | 320 => 90 | 337 => 91 | 338 => 79 | n => n, fun | 2 => 2 | 3 => 3 | 9 => 9 | 4 => 4 | 171 => 123 | 0 => 0 | 53 => 105 | 37 => 34 | 5 => 5 | 173 => 125 | 212 => 129 | 51 => 130 | 20 => 20 | 213 => 131 | 46 => 49 | 232 => 134 | 233 => 121 | n => n, fun | 17 => 1 | 18 => 2 | 19 => 0 | n => n⟩
theorem Tryd.lays173 : Go.Proofs.LaysM.n173 Tryd.prog Tryd.lays173_ren := {
  mixed := by kernel_rfl
  f129 := Tryd.func87.trans (congrArg some (by kernel_rfl))
  f173 := Tryd.func74.trans (congrArg some (by kernel_rfl))
  f246 := Tryd.func81.trans (congrArg some (by kernel_rfl))
  f283 := Tryd.func82.trans (congrArg some (by kernel_rfl))
  f284 := Tryd.func83.trans (congrArg some (by kernel_rfl))
  f285 := Tryd.func84.trans (congrArg some (by kernel_rfl))
  f286 := Tryd.func85.trans (congrArg some (by kernel_rfl))
  f317 := Tryd.func86.trans (congrArg some (by kernel_rfl))
  f318 := Tryd.func88.trans (congrArg some (by kernel_rfl))
  f319 := Tryd.func89.trans (congrArg some (by kernel_rfl))
  f320 := Tryd.func90.trans (congrArg some (by kernel_rfl))
  f337 := Tryd.func91.trans (congrArg some (by kernel_rfl))
  f338 := Tryd.func79.trans (congrArg some (by kernel_rfl))
  t0 := Tryd.underlying0
  a0 := Tryd.isAgg0
  z0 := Tryd.sizeOf0
  v0 := Tryd.zeroValue0
  t2 := Tryd.underlying2
  a2 := Tryd.isAgg2
  z2 := Tryd.sizeOf2
  v2 := Tryd.zeroValue2
  t3 := Tryd.underlying3
  a3 := Tryd.isAgg3
  z3 := Tryd.sizeOf3
  v3 := Tryd.zeroValue3
  t4 := Tryd.underlying4
  a4 := Tryd.isAgg4
  z4 := Tryd.sizeOf4
  v4 := Tryd.zeroValue4
  t5 := Tryd.underlying5
  a5 := Tryd.isAgg5
  z5 := Tryd.sizeOf5
  v5 := Tryd.zeroValue5
  t9 := Tryd.underlying9
  a9 := Tryd.isAgg9
  z9 := Tryd.sizeOf9
  v9 := Tryd.zeroValue9
  t20 := Tryd.underlying20
  a20 := Tryd.isAgg20
  z20 := Tryd.sizeOf20
  v20 := Tryd.zeroValue20
  t37 := Tryd.underlying34
  a37 := Tryd.isAgg34
  z37 := Tryd.sizeOf34
  v37 := Tryd.zeroValue34
  t46 := Tryd.underlying49
  a46 := Tryd.isAgg49
  z46 := Tryd.sizeOf49
  v46 := Tryd.zeroValue49
  t51 := Tryd.underlying130
  a51 := Tryd.isAgg130
  z51 := Tryd.sizeOf130
  v51 := Tryd.zeroValue130
  t53 := Tryd.underlying105
  a53 := Tryd.isAgg105
  z53 := Tryd.sizeOf105
  v53 := Tryd.zeroValue105
  t171 := Tryd.underlying123
  a171 := Tryd.isAgg123
  z171 := Tryd.sizeOf123
  v171 := Tryd.zeroValue123
  t173 := Tryd.underlying125
  a173 := Tryd.isAgg125
  z173 := Tryd.sizeOf125
  v173 := Tryd.zeroValue125
  t212 := Tryd.underlying129
  a212 := Tryd.isAgg129
  z212 := Tryd.sizeOf129
  v212 := Tryd.zeroValue129
  t213 := Tryd.underlying131
  a213 := Tryd.isAgg131
  z213 := Tryd.sizeOf131
  t232 := Tryd.underlying134
  a232 := Tryd.isAgg134
  z232 := Tryd.sizeOf134
  v232 := Tryd.zeroValue134
  t233 := Tryd.underlying121
  a233 := Tryd.isAgg121
  z233 := Tryd.sizeOf121
  v233 := Tryd.zeroValue121
  g17 := by kernel_rfl
  g18 := by kernel_rfl
  g19 := by kernel_rfl
  i0 := by kernel_rfl
  i2 := by kernel_rfl
  i3 := by kernel_rfl
  i4 := by kernel_rfl
  i5 := by kernel_rfl
  i9 := by kernel_rfl
  i20 := by kernel_rfl
  i37 := by kernel_rfl
  i46 := by kernel_rfl
  i51 := by kernel_rfl
  i53 := by kernel_rfl
  i171 := by kernel_rfl
  i173 := by kernel_rfl
  i212 := by kernel_rfl
  i232 := by kernel_rfl
  i233 := by kernel_rfl
  m17 := by kernel_rfl
  m18 := by kernel_rfl
  m19 := by kernel_rfl }
def Tryd.lays29_ren : Go.Shelf.Ren := ⟨fun | 29 => 79 | n => n, fun | 22 => 105 | 3 => 3 | 4 => 4 | 25 => 49 | 54 => 121 | 0 => 0 | 5 => 5 | n => n, fun | 1 => 0 | n => n⟩
theorem Tryd.lays29 : Go.Proofs.Lays7.n29 Tryd.prog Tryd.lays29_ren := {
  mixed := by kernel_rfl
  f29 := Tryd.func79.trans (congrArg some (by kernel_rfl))
  t0 := Tryd.underlying0
  a0 := Tryd.isAgg0
  z0 := Tryd.sizeOf0
  v0 := Tryd.zeroValue0
  i0 := by kernel_rfl
  t3 := Tryd.underlying3
  a3 := Tryd.isAgg3
  z3 := Tryd.sizeOf3
  v3 := Tryd.zeroValue3
  i3 := by kernel_rfl
  t4 := Tryd.underlying4
  a4 := Tryd.isAgg4
  z4 := Tryd.sizeOf4
  v4 := Tryd.zeroValue4
  i4 := by kernel_rfl
  t5 := Tryd.underlying5
  a5 := Tryd.isAgg5
  z5 := Tryd.sizeOf5
  v5 := Tryd.zeroValue5
  i5 := by kernel_rfl
  t22 := Tryd.underlying105
  a22 := Tryd.isAgg105
  z22 := Tryd.sizeOf105
  v22 := Tryd.zeroValue105
  i22 := by kernel_rfl
  t25 := Tryd.underlying49
  a25 := Tryd.isAgg49
  z25 := Tryd.sizeOf49
  v25 := Tryd.zeroValue49
  i25 := by kernel_rfl
  t54 := Tryd.underlying121
  a54 := Tryd.isAgg121
  z54 := Tryd.sizeOf121
  g1 := by kernel_rfl }
end Go.Proofs

/- Native: Concat, Equal, Digits. No condition beyond what each contract names. -/
namespace Go.Proofs.YtchbidckckmobaaDoor
open Go.RowKit E
set_option linter.unusedVariables false
set_option linter.unusedSimpArgs false
set_option maxRecDepth 100000
attribute [local irreducible] ow qw kw kq cw opW Ret
def concN (ws L : List Int) (lim cl p q : Int) : Int × Int × List Int × List Int :=
  if (unitsN ws L p).2 ≠ 0 then (0, (unitsN ws L p).2, ws, L)
  else if (unitsN ws L q).2 ≠ 0 then (0, (unitsN ws L q).2, ws, L)
  else makeN ws L lim cl ((unitsN ws L p).1 ++ (unitsN ws L q).1)
theorem units_len {ws L : List Int} (hW : WFH ws L) (p : Int) : (unitsN ws L p).1.length ≤ 65537 := by
  unfold unitsN
  by_cases h0 : (lookH ws L p).2.2.2 = 0
  · rw [if_neg (by simpa using h0)]
    split
    · simp
    · obtain ⟨q, hq, hpq, hqL, hq0, hlk, hn0, hnq⟩ := look_n hW h0
      have := hW.len
      simp only [List.length_map, List.length_range, hlk]
      omega
  · rw [if_pos h0]; simp
theorem conc_ok (k : Nat → Prop) (w : World) (hb : Nat) (ws : List Int) (lim : Int) (L : List Int) (cl p q : Int) (hHP : HP k w hb ws lim L) (hW : WFH ws L) (hlim : lim ≤ 65536) (hu : (ws.length : Int) ≤ lim + 1) (hkw : ∀ b, w.heap.size ≤ b → k b) (hcl : -9223372036854775808 ≤ cl ∧ cl ≤ 9223372036854775807) :
    Ret Tryd.prog 46 [.pointer (some ⟨hb, 0, none⟩), .int .i64 cl, .int .i64 p, .int .i64 q] w (fun v w' => v = .tuple #[.int .i64 (concN ws L lim cl p q).1, .int .i64 (concN ws L lim cl p q).2.1] ∧ HRes k w hb lim w' (concN ws L lim cl p q).2.2.1 (concN ws L lim cl p q).2.2.2) := by
  have hl1 := units_len hW p
  have hl2 := units_len hW q
  refine fn_enter (n := 39) Tryd.func46 rfl rfl (Nat.le_of_ble_eq_true rfl) (fun e => ?_)
  refine k_seq ?_
  refine k_region ?_
  refine m_int rfl rfl ?_
  refine m_int rfl rfl ?_
  refine o_nil ?_
  refine k_seq ?_
  refine k_region ?_
  refine m_ptr rfl rfl ?_
  refine m_int rfl rfl ?_
  refine o_call rfl rfl (units_ok k w hb ws lim L p hHP hW) (fun v w1 hv => ?_)
  obtain ⟨⟨a1, c1, rfl, hS1, hf1⟩, hK1⟩ := hv
  refine m_any rfl rfl ?_
  refine o_extr rfl rfl ?_
  refine o_extr rfl rfl ?_
  refine m_sl rfl rfl ?_
  refine m_int rfl rfl ?_
  refine o_nil ?_
  refine k_seq ?_
  refine k_seq ?_
  refine k_region ?_
  refine m_int rfl rfl ?_
  refine b_neq rfl rfl ?_
  refine o_nil ?_
  refine k_cond rfl (fun h => ?_) (fun h => ?_)
  ·
    refine k_seq ?_
    refine k_region ?_
    refine m_int rfl rfl ?_
    refine m_int rfl rfl ?_
    refine m_int rfl rfl ?_
    refine o_nil ?_
    refine k_ret (ret_tmps (ts := [8, 9]) (v := .tuple #[.int _ _, .int _ _]) rfl rfl ?_)
    have e : concN ws L lim cl p q = (0, (unitsN ws L p).2, ws, L) := if_pos h
    rw [e]; exact ⟨rfl, hHP.new hK1, hW, hu, hK1.h⟩
  have h1 := Decidable.of_not_not h
  refine k_skip ?_
  refine k_seq ?_
  refine k_region ?_
  refine m_ptr rfl rfl ?_
  refine m_int rfl rfl ?_
  refine o_call rfl rfl (units_ok k w1 hb ws lim L q (hHP.new hK1) hW) (fun v w2 hv => ?_)
  obtain ⟨⟨a2, c2, rfl, hS2, hf2⟩, hK2⟩ := hv
  have hK02 := hK1.tr hK2
  refine m_any rfl rfl ?_
  refine o_extr rfl rfl ?_
  refine o_extr rfl rfl ?_
  refine m_sl rfl rfl ?_
  refine m_int rfl rfl ?_
  refine o_nil ?_
  refine k_seq ?_
  refine k_seq ?_
  refine k_region ?_
  refine m_int rfl rfl ?_
  refine b_neq rfl rfl ?_
  refine o_nil ?_
  refine k_cond rfl (fun h => ?_) (fun h => ?_)
  ·
    refine k_seq ?_
    refine k_region ?_
    refine m_int rfl rfl ?_
    refine m_int rfl rfl ?_
    refine m_int rfl rfl ?_
    refine o_nil ?_
    refine k_ret (ret_tmps (ts := [8, 9]) (v := .tuple #[.int _ _, .int _ _]) rfl rfl ?_)
    have e : concN ws L lim cl p q = (0, (unitsN ws L q).2, ws, L) := by unfold concN; rw [if_neg (by simpa using h1), if_pos h]
    rw [e]; exact ⟨rfl, hHP.new hK02, hW, hu, hK02.h⟩
  have e : concN ws L lim cl p q = makeN ws L lim cl ((unitsN ws L p).1 ++ (unitsN ws L q).1) := by unfold concN; rw [if_neg (by simpa using h1), if_neg h]
  refine k_skip ?_
  refine k_seq ?_
  refine k_region ?_
  refine m_ptr rfl rfl ?_
  refine m_int rfl rfl ?_
  refine m_sl rfl rfl ?_
  refine m_sl rfl rfl ?_
  refine o_app Tryd.underlying77 inf47 rfl (by decide) rfl rfl (hS1.new hK2) hS2.rd (by simp) (u16_one _) (by simp [maxLen]; omega) (by omega) (fun a3 c3 w3 hS3 hK3 hv3 => ?_)
  have hK03 : Keep [] w w3 := hK02.trb hK3 hf1
  rw [← List.map_append] at hS3
  have hll : (unitsN ws L p).1.length + (unitsN ws L q).1.length = ((unitsN ws L p).1 ++ (unitsN ws L q).1).length := by simp
  rw [hll] at hS3 ⊢
  refine o_call rfl rfl (make_ok k w3 hb ws lim L cl a3 c3 _ (hHP.new hK03) hW hlim hu (fun b hb => hkw b (by have := hK03.size; omega)) hcl hS3.rd (by rw [← hll]; omega) (fun w' hk' => (hS3.kh hk' (by decide)).rd)) (fun v w4 hv => ?_)
  obtain ⟨rfl, hH4, hW4, hu4, hK4⟩ := hv
  refine o_extr rfl rfl ?_
  refine o_extr rfl rfl ?_
  refine m_int rfl rfl ?_
  refine m_int rfl rfl ?_
  refine o_nil ?_
  refine k_ret (ret_tmps (ts := [8, 9]) (v := .tuple #[.int _ _, .int _ _]) rfl rfl ?_)
  rw [e]; exact ⟨rfl, hH4, hW4, hu4, hK03.h.tr hK4⟩
def equN (ws L : List Int) (p q : Int) : Bool := decide ((unitsN ws L p).2 = 0 ∧ (unitsN ws L q).2 = 0 ∧ (unitsN ws L p).1 = (unitsN ws L q).1)
theorem equ_ok (k : Nat → Prop) (w : World) (hb : Nat) (ws : List Int) (lim : Int) (L : List Int) (p q : Int) (hHP : HP k w hb ws lim L) (hW : WFH ws L) :
    Ret Tryd.prog 47 [.pointer (some ⟨hb, 0, none⟩), .int .i64 p, .int .i64 q] w (fun v w' => v = .bool (equN ws L p q) ∧ Keep [] w w') := by
  have hl1 := units_len hW p
  have hl2 := units_len hW q
  refine fn_enter (n := 52) Tryd.func47 rfl rfl (Nat.le_of_ble_eq_true rfl) (fun e => ?_)
  refine k_seq ?_
  refine k_region ?_
  refine m_bool rfl rfl ?_
  refine o_nil ?_
  refine k_seq ?_
  refine k_region ?_
  refine m_ptr rfl rfl ?_
  refine m_int rfl rfl ?_
  refine o_call rfl rfl (units_ok k w hb ws lim L p hHP hW) (fun v w1 hv => ?_)
  obtain ⟨⟨a1, c1, rfl, hS1, hf1⟩, hK1⟩ := hv
  refine m_any rfl rfl ?_
  refine o_extr rfl rfl ?_
  refine o_extr rfl rfl ?_
  refine m_sl rfl rfl ?_
  refine m_int rfl rfl ?_
  refine o_nil ?_
  refine k_seq ?_
  refine k_region ?_
  refine m_ptr rfl rfl ?_
  refine m_int rfl rfl ?_
  refine o_call rfl rfl (units_ok k w1 hb ws lim L q (hHP.new hK1) hW) (fun v w2 hv => ?_)
  obtain ⟨⟨a2, c2, rfl, hS2, hf2⟩, hK2⟩ := hv
  have hK02 := hK1.tr hK2
  obtain ⟨us, hus⟩ : ∃ us, (unitsN ws L p).1 = us := ⟨_, rfl⟩
  obtain ⟨vs, hvs⟩ : ∃ vs, (unitsN ws L q).1 = vs := ⟨_, rfl⟩
  rw [hus] at hS1 hl1 ⊢
  rw [hvs] at hS2 hl2 ⊢
  have hS1' := hS1.new hK2
  refine m_any rfl rfl ?_
  refine o_extr rfl rfl ?_
  refine o_extr rfl rfl ?_
  refine m_sl rfl rfl ?_
  refine m_int rfl rfl ?_
  refine o_nil ?_
  refine k_seq ?_
  refine k_seq ?_
  refine k_region ?_
  refine m_int rfl rfl ?_
  refine b_neq rfl rfl ?_
  refine m_bool rfl rfl ?_
  refine o_split (t := 26) rfl (fun h => ?_) (fun h => ?_)
  ·
    refine g_no rfl rfl rfl ?_
    refine g_no rfl rfl rfl ?_
    refine pick_t rfl rfl ?_
    refine m_bool rfl rfl ?_
    refine g_no rfl rfl rfl ?_
    refine g_no rfl rfl rfl ?_
    refine g_no rfl rfl rfl ?_
    refine g_no rfl rfl rfl ?_
    refine g_no rfl rfl rfl ?_
    refine pick_t rfl rfl ?_
    refine o_nil ?_
    refine k_condt rfl ?_
    refine k_seq ?_
    refine k_region ?_
    refine m_bool rfl rfl ?_
    refine o_nil ?_
    refine k_ret (ret_tmps (ts := [6]) (v := .bool _) rfl rfl ?_)
    exact ⟨congrArg Value.bool (decide_eq_false (fun hh => h hh.1)).symm, hK02⟩
  ·
    have h26 := Decidable.of_not_not h
    refine g_yes rfl rfl ?_
    refine m_int rfl rfl ?_
    refine g_yes rfl rfl ?_
    refine b_neq rfl rfl ?_
    refine pick_f rfl rfl ?_
    refine m_bool rfl rfl ?_
    refine o_split (t := 30) rfl (fun h => ?_) (fun h => ?_)
    ·
      refine g_no rfl rfl rfl ?_
      refine g_no rfl rfl rfl ?_
      refine g_no rfl rfl rfl ?_
      refine g_no rfl rfl rfl ?_
      refine g_no rfl rfl rfl ?_
      refine pick_t rfl rfl ?_
      refine o_nil ?_
      refine k_condt rfl ?_
      refine k_seq ?_
      refine k_region ?_
      refine m_bool rfl rfl ?_
      refine o_nil ?_
      refine k_ret (ret_tmps (ts := [6]) (v := .bool _) rfl rfl ?_)
      exact ⟨congrArg Value.bool (decide_eq_false (fun hh => h hh.2.1)).symm, hK02⟩
    ·
      have h30 := Decidable.of_not_not h
      refine g_yes rfl rfl ?_
      refine m_sl rfl rfl ?_
      refine g_yes rfl rfl ?_
      refine o_lens Tryd.underlying77 rfl ?_
      refine g_yes rfl rfl ?_
      refine m_sl rfl rfl ?_
      refine g_yes rfl rfl ?_
      refine o_lens Tryd.underlying77 rfl ?_
      refine g_yes rfl rfl ?_
      refine b_neq rfl rfl ?_
      refine pick_f rfl rfl ?_
      refine o_nil ?_
      refine k_cond rfl (fun h => ?_) (fun h => ?_)
      ·
        refine k_seq ?_
        refine k_region ?_
        refine m_bool rfl rfl ?_
        refine o_nil ?_
        refine k_ret (ret_tmps (ts := [6]) (v := .bool _) rfl rfl ?_)
        exact ⟨congrArg Value.bool (decide_eq_false (fun hh => h (by rw [← hus, ← hvs, hh.2.2]))).symm, hK02⟩
      have hlen : us.length = vs.length := by omega
      refine k_skip ?_
      refine k_seq ?_
      refine k_seq ?_
      refine k_region ?_
      refine m_sl rfl rfl ?_
      refine o_lens Tryd.underlying77 rfl ?_
      refine m_int rfl rfl ?_
      refine o_nil ?_
      refine k_block ?_
      refine k_loop (σ := Nat) (fun i => [(7, .slice a1 us.length c1), (9, .slice a2 vs.length c2), (38, .int .i64 (us.length : Int)), (39, .int .i64 (i : Int))]) (fun i w' => i ≤ us.length ∧ (∀ j, j < i → us[j]? = vs[j]?) ∧ Keep [] w2 w') (fun i => us.length - i) 0 ⟨rfl, rfl, rfl, rfl, trivial⟩ ⟨Nat.zero_le _, (fun j hj => by omega), Keep.refl _ _⟩ (fun i e w3 hJ => ?_)
      obtain ⟨hi, hpre, hK3⟩ := hJ
      refine k_seq ?_
      refine k_region ?_
      refine b_lss rfl rfl ?_
      refine o_nil ?_
      refine k_seq ?_
      refine k_cond rfl (fun h => ?_) (fun h => ?_)
      rotate_left
      ·
        refine k_exit rfl ?_
        refine k_seq ?_
        refine k_region ?_
        refine m_bool rfl rfl ?_
        refine o_nil ?_
        refine k_ret (ret_tmps (ts := [6]) (v := .bool _) rfl rfl ?_)
        refine ⟨congrArg Value.bool (decide_eq_true ⟨h26, h30, ?_⟩).symm, hK02.tr hK3⟩
        rw [hus, hvs]
        refine List.ext_getElem? fun j => ?_
        by_cases hj : j < us.length
        · exact hpre j (by omega)
        · rw [List.getElem?_eq_none (by omega), List.getElem?_eq_none (by omega)]
      have hin : i < us.length := by omega
      have hx := u16_at us i hin
      have hy := u16_at vs i (by omega)
      have hRx := hS1'.rd
      have hRy := hS2.rd
      obtain ⟨b1, o1, hae, _⟩ := hRx _ _ hx
      obtain ⟨b2, o2, hbe, _⟩ := hRy _ _ hy
      subst hae hbe
      refine k_skip ?_
      refine k_seq ?_
      refine k_block ?_
      refine k_seq ?_
      refine k_region ?_
      refine m_int rfl rfl ?_
      refine m_int rfl rfl ?_
      refine o_nil ?_
      refine k_seq ?_
      refine k_qk 8 rfl rfl rfl rfl rfl ?_
      refine q_step (fun w1 hC => m_sl rfl rfl (o_nil ⟨rfl, hC⟩)) ?_
      refine q_step (fun w1 hC => m_int rfl rfl (o_nil ⟨rfl, hC⟩)) ?_
      refine q_step (fun w1 hC => o_ixs1 Tryd.underlying77 rfl rfl rfl hin (o_nil ⟨rfl, hC⟩)) ?_
      refine q_step (fun w1 hC => o_ld rfl rfl (hRx.cellK (hK3.tr hC) hx) (o_nil ⟨rfl, hC⟩)) ?_
      refine q_step (fun w1 hC => m_sl rfl rfl (o_nil ⟨rfl, hC⟩)) ?_
      refine q_step (fun w1 hC => m_int rfl rfl (o_nil ⟨rfl, hC⟩)) ?_
      refine q_step (fun w1 hC => o_ixs1 Tryd.underlying77 rfl rfl rfl (by omega) (o_nil ⟨rfl, hC⟩)) ?_
      refine q_step (fun w1 hC => o_ld rfl rfl (hRy.cellK (hK3.tr hC) hy) (o_nil ⟨rfl, hC⟩)) ?_
      refine q_nil ?_
      intro w4 hC4
      refine v16_neq rfl rfl ?_
      refine o_nil ?_
      refine k_cond rfl (fun h => ?_) (fun h => ?_)
      ·
        refine k_seq ?_
        refine k_region ?_
        refine m_bool rfl rfl ?_
        refine o_nil ?_
        refine k_ret (ret_tmps (ts := [6]) (v := .bool _) rfl rfl ?_)
        refine ⟨congrArg Value.bool (decide_eq_false (fun hh => h ?_)).symm, (hK02.tr hK3).tr hC4⟩
        have he := hh.2.2
        rw [hus, hvs] at he
        subst he
        rfl
      refine k_skip ?_
      refine k_blk ?_
      refine k_region ?_
      refine n_add rfl rfl (by omega) ?_
      refine m_int rfl rfl ?_
      refine o_nil ?_
      refine k_goal ⟨i + 1, ⟨rfl, rfl, rfl, rfl, trivial⟩, ⟨by omega, fun j hj => ?_, hK3.tr hC4⟩, by omega⟩
      by_cases hji : j = i
      · rw [hji, List.getElem?_eq_getElem hin, List.getElem?_eq_getElem (by omega)]
        exact congrArg some (Decidable.of_not_not h)
      · exact hpre j (by omega)
/-- the table that the digits read -/
def Tab10 (w : World) : Prop := Lib.TabIs Tryd.prog w "internal/strconv.uint64pow10" .u64 Lib.pow10Tab
theorem Tab10.new {w w' : World} (h : Tab10 w) (hK : Keep [] w w') : Tab10 w' :=
  by
  unfold Tab10 Lib.TabIs World.var? at h ⊢
  generalize Tryd.prog.globalNamed "internal/strconv.uint64pow10" = og at h ⊢
  cases og with
  | none => exact h
  | some g =>
    simp only [Option.bind_some] at h ⊢
    have hlt : g < w.heap.size := by
      rcases Nat.lt_or_ge g w.heap.size with h' | h'
      · exact h'
      · rw [Array.getElem?_eq_none h'] at h; cases h
    rw [hK.below.block g hlt]
    exact h
theorem fmt_ok (w : World) (n : Int) (h0 : -9223372036854775808 ≤ n) (h1 : n ≤ 9223372036854775807) (ht : Tab10 w) :
    Ret Tryd.prog 74 [.int .i64 n, .int .i64 10] w (fun v w' => v = .string ⟨(Lib.itoa n).toArray⟩ ∧ Keep [] w w') := by
  unfold Ret
  refine Calls.mono (f := 74) (args := #[.int .i64 n, .int .i64 10]) (Go.Proofs.Any.strconv_FormatInt_10 Go.Proofs.Tryd.lays173 n h0 h1 w ht) fun e w' he => ?_
  obtain ⟨rfl, k, os, rfl⟩ := he
  refine ⟨rfl, rfl, rfl, rfl, by simp [Sort.grow], fun b hb _ => ?_⟩
  show (w.heap ++ os)[b]? = _
  rw [Array.getElem?_append_left hb]
theorem digits_ok (w : World) (n : Int) (h0 : -9223372036854775808 ≤ n) (h1 : n ≤ 9223372036854775807) (ht : Tab10 w) :
    Ret Tryd.prog 43 [.int .i64 n] w (fun v w' => v = .string ⟨(Lib.itoa n).toArray⟩ ∧ Keep [] w w') := by
  refine fn_enter (n := 5) Tryd.func43 rfl rfl (Nat.le_of_ble_eq_true rfl) (fun e => ?_)
  refine k_seq ?_
  refine k_region ?_
  refine m_str rfl rfl ?_
  refine o_nil ?_
  refine k_seq ?_
  refine k_region ?_
  refine m_int rfl rfl ?_
  refine o_call rfl rfl (fmt_ok w n h0 h1 ht) (fun v w1 hv => ?_)
  obtain ⟨rfl, hK1⟩ := hv
  refine m_str rfl rfl ?_
  refine o_nil ?_
  refine k_ret (ret_tmps (ts := [2]) (v := .string _) rfl rfl ?_)
  exact ⟨rfl, hK1⟩
end Go.Proofs.YtchbidckckmobaaDoor

/- What the listed tables give; the door's own start. No condition beyond what each lemma names. -/
namespace Go.Proofs.YtchbidckckmobaaDoor
open Go.RowKit E
set_option linter.unusedVariables false
set_option linter.unusedSimpArgs false
set_option maxRecDepth 100000
attribute [local irreducible] ow qw kw kq cw opW Ret
def lst3 : List (String × DataW Unit) := [("math/bits.deBruijn32tab", Rows.laid_math_bits_deBruijn32tab), ("math/bits.deBruijn64tab", Rows.laid_math_bits_deBruijn64tab), ("internal/strconv.uint64pow10", Rows.laid_internal_strconv_uint64pow10)]
def lst1 : List (String × DataW Unit) := [("math/bits.deBruijn64tab", Rows.laid_math_bits_deBruijn64tab)]
theorem door_met3 (os : Os) (args : Array Value) : laidMetH Tryd.prog lst3 ((World.doorLaid Tryd.prog 24 os).forCall (fun _ _ => 0) ⟨#[], args, []⟩).memory :=
  laidMetH_of_parts3 (fuel := 8) (laidMet_of_run' 8 (by kernel_rfl) (by kernel_rfl)) (by kernel_rfl) (by kernel_rfl)
theorem door_met1 (os : Os) (args : Array Value) : laidMetH Tryd.prog lst1 ((World.doorLaid Tryd.prog 24 os).forCall (fun _ _ => 0) ⟨#[], args, []⟩).memory :=
  laidMetH_of_parts3 (fuel := 8) (laidMet_of_run' 8 (by kernel_rfl) (by kernel_rfl)) (by kernel_rfl) (by kernel_rfl)
theorem g10 : Tryd.prog.globalNamed "internal/strconv.uint64pow10" = some 1 := by kernel_rfl
theorem g10t : (Tryd.prog.globals[1]?).map (·.type) = some 129 := by kernel_rfl
theorem tab10_of {W : World} (h : laidMetH Tryd.prog lst3 W) : Tab10 W := by
  rw [MakeChecks.laidMetH_plain _ _ _ (by kernel_rfl)] at h
  obtain ⟨ps, ⟨g0, t0, cs0, f0, p0, q0, hg0, ht0, hv0, hd0, ⟨g1, t1, cs1, f1, p1, q1, hg1, ht1, hv1, hd1, ⟨g2, t2, cs2, f2, p2, q2, hg2, ht2, hv2, hd2, _, _⟩, _⟩, _⟩, _, _⟩ := h
  obtain rfl := Option.some.inj (g10.symm.trans hg2)
  obtain rfl := Option.some.inj (g10t.symm.trans ht2)
  unfold Tab10 Lib.TabIs
  rw [hv2, ← Lib.cells_of_tab (zs := Lib.pow10Tab) (k := .u64) Tryd.underlying129 Tryd.underlying105 (by kernel_rfl) (by kernel_rfl) (show DataW.trod _ _ _ _ _ _ _ _ _ = some (Lib.tabData .u64 Lib.pow10Tab, p2) from hd2)]
end Go.Proofs.YtchbidckckmobaaDoor

/- Loops over functions: the rule for the statement, for a call of yield, for the marks that are owed at the end. No condition. -/
namespace Go.Proofs.YtchbidckckmobaaDoor
open Go.RowKit
set_option linter.unusedVariables false
set_option linter.unusedSimpArgs false
namespace E
/-- a loop's record; a mark's block; what is neither cells nor a map -/
def lp (o : Obj) : Prop := ∃ r, o = .loop r
def mk (o : Obj) : Prop := ∃ d, o = .deferred d
def bk (o : Obj) : Prop := lp o ∨ mk o
/-- none but blocks of the kind p are turned, and none below k -/
def KeepO (p : Obj → Prop) (k : Nat) (w w' : World) : Prop := ∃ S, Keep S w w' ∧ ∀ b ∈ S, k ≤ b ∧ ∃ o, w.heap[b]? = some o ∧ p o
theorem Keep.o {p : Obj → Prop} {k : Nat} {w w' : World} (h : Keep [] w w') : KeepO p k w w' := ⟨[], h, by simp⟩
theorem KeepO.bk {k : Nat} {w w' : World} (h : KeepO lp k w w') : KeepO bk k w w' := by obtain ⟨S, h1, h2⟩ := h; exact ⟨S, h1, fun b hb => ⟨(h2 b hb).1, by obtain ⟨o, ho, hp⟩ := (h2 b hb).2; exact ⟨o, ho, .inl hp⟩⟩⟩
theorem KeepO.bm {k : Nat} {w w' : World} (h : KeepO mk k w w') : KeepO E.bk k w w' := by obtain ⟨S, h1, h2⟩ := h; exact ⟨S, h1, fun b hb => ⟨(h2 b hb).1, by obtain ⟨o, ho, hp⟩ := (h2 b hb).2; exact ⟨o, ho, .inr hp⟩⟩⟩
theorem KeepO.below {p : Obj → Prop} {k : Nat} {w0 w w' : World} (h : KeepO p k w w') (h0 : Keep [] w0 w) (hk : w0.heap.size ≤ k) : Keep [] w0 w' := by
  obtain ⟨S, h1, h2⟩ := h
  exact h0.trans h1 (fun b hb hl => by have := (h2 b hb).1; omega)
theorem KeepO.size {p : Obj → Prop} {k : Nat} {w w' : World} (h : KeepO p k w w') : w.heap.size ≤ w'.heap.size := by obtain ⟨S, h1, _⟩ := h; exact h1.size
theorem KeepO.obj {p : Obj → Prop} {k : Nat} {w w' : World} {b : Nat} {o : Obj} (h : KeepO p k w w') (hb : w.heap[b]? = some o) (hn : ¬ p o) : w'.heap[b]? = some o := by
  obtain ⟨S, h1, h2⟩ := h
  rw [h1.block b (Array.getElem?_eq_some_iff.1 hb).1 (fun hm => by
    obtain ⟨_, o', ho', hp⟩ := h2 b hm
    rw [hb] at ho'
    exact hn (Option.some.inj ho' ▸ hp))]
  exact hb
theorem not_cells (cs : Array Value) (T : TypeId) (fr : Nat × Nat) : ¬ bk (.cells cs T fr) := by rintro (⟨r, h⟩ | ⟨r, h⟩) <;> cases h
theorem not_map (es : Array MapEntry) (ck : Nat) : ¬ bk (.map es ck) := by rintro (⟨r, h⟩ | ⟨r, h⟩) <;> cases h
theorem Blk.ko {k : Nat} {w w' : World} {b : Nat} {cs : Array Value} {T : TypeId} (h : Blk w b cs T) (hk : KeepO bk k w w') : Blk w' b cs T := hk.obj h (not_cells _ _ _)
theorem Sl.ko {k : Nat} {w w' : World} {E : TypeId} {sz m c : Nat} {a : Option Addr} {xs : List Value} (h : Sl w E sz a m c xs) (hk : KeepO bk k w w') : Sl w' E sz a m c xs := by
  refine ⟨h.1, ?_⟩
  rcases h.2 with h2 | ⟨g, cur, rfl, hb, h1⟩
  · exact .inl h2
  · exact .inr ⟨g, cur, rfl, hb.ko hk, h1⟩
theorem Mp.ko {κ : Type} {k : Nat} {w w' : World} {r : Nat} {kv : κ → Value} {l : List (κ × Value)} (h : Mp w r kv l) (hk : KeepO bk k w w') : Mp w' r kv l := by
  obtain ⟨es, ck, h1, h2⟩ := h
  exact ⟨es, ck, hk.obj h1 (not_map _ _), h2⟩
/-- nothing but cells and maps is turned -/
def KeepC (w w' : World) : Prop := ∃ S, Keep S w w' ∧ ∀ b ∈ S, b < w.heap.size → (∃ cs T, Blk w b cs T) ∨ ∃ es ck, w.heap[b]? = some (.map es ck)
theorem Keep.c {w w' : World} (h : Keep [] w w') : KeepC w w' := ⟨[], h, by simp⟩
theorem Keep.cb {w w' : World} {b : Nat} {cs : Array Value} {T : TypeId} (h : Keep [b] w w') (hB : Blk w b cs T) : KeepC w w' := ⟨[b], h, fun b' hb _ => by simp at hb; subst hb; exact .inl ⟨_, _, hB⟩⟩
theorem Keep.cm {κ : Type} {w w' : World} {r : Nat} {kv : κ → Value} {l : List (κ × Value)} (h : Keep [r] w w') (hM : Mp w r kv l) : KeepC w w' := by
  obtain ⟨es, ck, h1, _⟩ := hM
  exact ⟨[r], h, fun b' hb _ => by simp at hb; subst hb; exact .inr ⟨_, _, h1⟩⟩
theorem Keep.cs {w w' : World} {E : TypeId} {sz m c : Nat} {a : Option Addr} {xs : List Value} (h : Keep (blkOf a) w w') (hS : Sl w E sz a m c xs) : KeepC w w' := by
  rcases hS.2 with ⟨rfl, _⟩ | ⟨g, cur, rfl, hB, _⟩
  · exact Keep.c h
  · exact Keep.cb h hB
theorem KeepC.tr {w w1 w2 : World} (h : KeepC w w1) (h' : KeepC w1 w2) : KeepC w w2 := by
  obtain ⟨S, a1, a2⟩ := h
  obtain ⟨S', b1, b2⟩ := h'
  refine ⟨S ++ S', (a1.mono (by simp +contextual)).trans b1 (by simp +contextual), fun b hb hl => ?_⟩
  by_cases hS : b ∈ S
  · exact a2 b hS hl
  · have hb' : b ∈ S' := (List.mem_append.1 hb).resolve_left hS
    have he := a1.block b hl hS
    have := b2 b hb' (Nat.lt_of_lt_of_le hl a1.size)
    unfold Blk at this ⊢
    rw [he] at this
    exact this
theorem KeepC.obj {w w' : World} {b : Nat} {o : Obj} (h : KeepC w w') (hb : w.heap[b]? = some o) (hn : bk o) : w'.heap[b]? = some o := by
  obtain ⟨S, h1, h2⟩ := h
  have hl := (Array.getElem?_eq_some_iff.1 hb).1
  rw [h1.block b hl (fun hm => by
    rcases h2 b hm hl with ⟨cs, T, hB⟩ | ⟨es, ck, hM⟩
    · unfold Blk at hB
      rw [hb] at hB
      exact not_cells _ _ _ (Option.some.inj hB ▸ hn)
    · rw [hb] at hM
      exact not_map _ _ (Option.some.inj hM ▸ hn))]
  exact hb
theorem KeepC.size {w w' : World} (h : KeepC w w') : w.heap.size ≤ w'.heap.size := by obtain ⟨S, h1, _⟩ := h; exact h1.size
variable {P : Program} {R : Exit → Act → World → Prop} {k : List KI} {e : Env} {w : World}
theorem round_any {m m' : Nat} {l : Nat} {f : FuncId} {tmps : Array Value} {assign body : Code} {S : Ending → World → Prop} (h : RoundIn Fence.wide m P l f tmps assign body w S) : RoundIn Fence.wide m' P l f tmps assign body w S :=
  ⟨h.1, fun c cs _ => h.2 c cs (fun d hd => by cases hd)⟩
theorem keep_putObj (w : World) (r : Nat) (o : Obj) : Keep [r] w (w.putObj r o) :=
  ⟨rfl, rfl, rfl, by simp [World.putObj], fun b _ hb => World.putObj_heap_other (by simpa using hb)⟩
theorem put_tmps (m : Nat) (ds : List Deferred) (rd rd' : Option Nat) (e : Env) (p : Nat) (v : Value) : ({ tmps := (act ⟨m, ds, rd⟩ e).tmps.setIfInBounds p v, defers := [] } : Act) = act ⟨m, [], rd'⟩ (upd e p v) := by
  have := act_put ⟨m, [], rd'⟩ e (some p) v
  rw [show act ⟨m, [], rd'⟩ (upd e p v) = act ⟨m, [], rd'⟩ (updo e (some p) v) from rfl, ← this]
  rfl
/-- for x := range g, g a function that hands over the numbers of a list; no way out of the body but its end -/
theorem k_range {g : Operand} {p : Nat} {assign body : Code} {m : Nat} {ds : List Deferred} {f : FuncId} {bs : List Value} (lst : List Int) (I : List Int → World → Prop)
    (hg : ev ⟨m, ds, none⟩ e g = .func (.func f) bs.toArray #[]) (hf : callOk P f = true)
    (hI : ∀ pre W W', I pre W → KeepO lp w.heap.size W W' → I pre W') (h0 : I [] w)
    (hiter : ∀ (l : Nat) (W1 : World) (J : List Int → World → Prop), (∀ pre W, J pre W → I pre W) → (∀ pre W W', J pre W → Keep [] W W' → J pre W') →
      (∀ pre x post W, lst = pre ++ x :: post → J pre W → YieldAt Fence.wide 0 P l #[.int .i64 x] W (fun r W' => r = .returned (.bool true) ∧ J (pre ++ [x]) W')) → J [] W1 →
      Ret P f (bs ++ [.func (.yield l) #[] #[]]) W1 (fun v W' => J lst W'))
    (hbody : ∀ l pre x post W, lst = pre ++ x :: post → I pre W → kw P ⟨m, [], some l⟩ (fun _ _ _ => False) [.code assign, .goal ⟨m, [], some l⟩ (fun e2 W' => W' = W ∧ ∀ W2, I pre W2 →
      kw P ⟨m, [], some l⟩ (fun _ _ _ => False) [.code body, .goal ⟨m, [], some l⟩ (fun _ W3 => I (pre ++ [x]) W3 ∧ KeepC W2 W3)] e2 W2)] (upd e p (.int .i64 x)) W)
    (hdone : ∀ D W4, I lst W4 → W4.heap[D]? = some (.deferred (some [])) → w.heap.size ≤ D → kw P ⟨m, { target := .collected D, args := #[] } :: ds, none⟩ R k e W4) :
    kw P ⟨m, ds, none⟩ R (.code (.rangeFunc g #[p] assign body) :: k) e w := by
  refine wpIn_rangeFunc (F := Fence.wide) (n := 1) ?_
  intro fn _
  obtain ⟨rec, hrec⟩ : ∃ rec : LoopState → Loop, rec = fun st => { state := st, pending := none, fn, tmps := (act ⟨m, ds, none⟩ e).tmps, params := #[p], assign, body, defers := w.heap.size } := ⟨_, rfl⟩
  obtain ⟨W1, hW1⟩ : ∃ W1, (w.alloc (.deferred (some []))).alloc (.loop (rec .ready)) = W1 := ⟨_, rfl⟩
  have hL1 : W1.heap[w.heap.size + 1]? = some (.loop (rec .ready)) := by
    rw [← hW1]; have := World.alloc_heap_new (w.alloc (.deferred (some []))) (.loop (rec .ready)); rwa [World.size_alloc] at this
  have hK1 : W1.heap[w.heap.size]? = some (.deferred (some [])) := by
    rw [← hW1]; exact (Below.heap_alloc _ _ _ (by simp)).trans (World.alloc_heap_new w _)
  have hKW : Keep [] w W1 := by rw [← hW1]; exact (keep_alloc [] w _).tr (keep_alloc [] _ _)
  have hne : w.heap.size ≠ w.heap.size + 1 := by omega
  have hturn : ∀ (W : World) (r : Loop) (o : Obj), W.heap[w.heap.size + 1]? = some (.loop r) → KeepO lp w.heap.size W (W.putObj (w.heap.size + 1) o) := fun W r o hl =>
    ⟨[w.heap.size + 1], keep_putObj _ _ _, fun b hb => by simp at hb; subst hb; exact ⟨by omega, _, hl, r, rfl⟩⟩
  refine ⟨w.heap.size + 1, [{ target := .collected w.heap.size, args := #[] }], W1, { target := .fn (.func f) #[], args := bs.toArray ++ #[Value.func (.yield (w.heap.size + 1)) #[] #[]] }, W1, f,
    (bs ++ [Value.func (.yield (w.heap.size + 1)) #[] #[]]).toArray, W1, ?_, ?_, ?_, ?_, fun _ => Nat.le_refl _, ?_⟩
  · rw [← hW1, hrec]; exact run_enterLoop_outer _ _ _ _ _
  · simp only [resolve, act_eval, hg]
    simp [go_sem, ev]
  · intro f' hf'; trivial
  · unfold callOk at hf
    split at hf
    · rename_i fn0 hfn
      simp only [Bool.and_eq_true, Bool.not_eq_true'] at hf
      have hb : ¬ fn0.body = none := by cases h : fn0.body <;> simp_all
      have hn : ¬ fn0.name = "runtime.NumGoroutine" := by simpa using hf.1
      simp [invoke, callFunc, hfn, hn, hb]
    · cases hf
  · obtain ⟨J, hJ⟩ : ∃ J : List Int → World → Prop, J = fun pre W => I pre W ∧ W.heap[w.heap.size + 1]? = some (.loop (rec .ready)) ∧ W.heap[w.heap.size]? = some (.deferred (some [])) := ⟨_, rfl⟩
    have hJ0 : J [] W1 := by rw [hJ]; exact ⟨hI _ _ _ h0 (Keep.o hKW), hL1, hK1⟩
    have key := hiter (w.heap.size + 1) W1 J (fun pre W h => by rw [hJ] at h; exact h.1) (fun pre W W' h hk => by
      rw [hJ] at h ⊢
      have e1 := fun b o (hb : W.heap[b]? = some o) => (hk.block b (Array.getElem?_eq_some_iff.1 hb).1 (by simp)).trans hb
      exact ⟨hI _ _ _ h.1 (Keep.o hk), e1 _ _ h.2.1, e1 _ _ h.2.2⟩) ?_ hJ0
    · refine (callsIn_wide.2 key).mono ?_
      intro x W3 hx
      cases x with
      | returned v =>
        rw [hJ] at hx
        obtain ⟨hi, hl, hk⟩ := hx
        refine ⟨none, _, by have := run_endLoop (P := P) hl (by rw [hrec]; simp); rw [hrec] at this; exact this, ?_⟩
        exact hdone w.heap.size _ (hI _ _ _ hi (hturn _ _ _ hl)) ((World.putObj_heap_other (by omega)).trans hk) (Nat.le_refl _)
      | panicked c => exact hx.elim
      | outgrown => exact hx.elim
    · intro pre x post W hlst hJW
      rw [hJ] at hJW ⊢
      obtain ⟨hi, hl, hk⟩ := hJW
      have hy := run_yield (P := P) (args := #[.int .i64 x]) hl (by rw [hrec]; rfl)
      have htm : ((rec .ready).params.zip #[Value.int .i64 x]).foldl (fun tmps (t, a) => tmps.setIfInBounds t a) (rec .ready).tmps = (act ⟨m, ds, none⟩ e).tmps.setIfInBounds p (.int .i64 x) := by rw [hrec]; simp
      rw [htm] at hy
      refine ⟨_, _, _, _, hy, ?_⟩
      have hb := hbody (w.heap.size + 1) pre x post W hlst hi
      rw [hrec]
      refine round_any (roundIn_of_wpIn (F := Fence.wide) (n := 1) trivial ?_)
      have ht := put_tmps m ds none (some (w.heap.size + 1)) e p (.int .i64 x)
      show assign.wpIn _ 1 P _ { tmps := (act ⟨m, ds, none⟩ e).tmps.setIfInBounds p (.int .i64 x), defers := [] } W
      rw [ht]
      refine wpIn_mono (hb : cw P (some (w.heap.size + 1)) assign (kq P (some (w.heap.size + 1)) _ _) _ _) ?_
      intro ex a1 w1 hq
      cases ex with
      | normal =>
        obtain ⟨e2, rfl, rfl, hcont⟩ := hq
        refine ⟨_, run_beginRound hl (by rw [hrec]), ?_⟩
        have hcw := hcont _ (hI _ _ _ hi (hturn _ _ (.loop { rec .ready with state := .busy }) hl))
        have hl2 : (w1.putObj (w.heap.size + 1) (.loop { rec .ready with state := .busy })).heap[w.heap.size + 1]? = some (.loop { rec .ready with state := .busy }) := World.putObj_heap_same (Array.getElem?_eq_some_iff.1 hl).1
        have hk2 : (w1.putObj (w.heap.size + 1) (.loop { rec .ready with state := .busy })).heap[w.heap.size]? = some (.deferred (some [])) := (World.putObj_heap_other (by omega)).trans hk
        refine wpIn_mono (hcw : cw P (some (w.heap.size + 1)) body (kq P (some (w.heap.size + 1)) _ _) _ _) ?_
        intro ex a3 W3 hq3
        cases ex with
        | normal =>
          obtain ⟨e3, rfl, hi3, hkc⟩ := hq3
          have hl3 := hkc.obj hl2 (.inl ⟨_, rfl⟩)
          have hk3 := hkc.obj hk2 (.inr ⟨_, rfl⟩)
          have hend := run_endRound (P := P) none hl3
          refine ⟨_, _, hend, rfl, hI _ _ _ hi3 (hturn _ _ _ hl3), ?_, (World.putObj_heap_other (by omega)).trans hk3⟩
          rw [World.putObj_heap_same (Array.getElem?_eq_some_iff.1 hl3).1, hrec]
          rfl
        | _ => exact hq3.elim
      | _ => exact hq.elim
/-- yield is called -/
theorem o_yield {n : Cx} {l0 l : List Oper} {K : Env → World → Prop} {d : Option Nat} {T : TypeId} {pos : String} {af : Array Edge} {x : Operand} {lp : Nat} {args : List Operand} {vs : List Value} {ts : Array TypeId} {S : Ending → World → Prop} (hx : ev n e x = .func (.yield lp) #[] #[]) (hv : evs n e args = vs) (hy : YieldAt Fence.wide 0 P lp vs.toArray w S)
    (hS : ∀ r w', S r w' → ∃ v, r = .returned v) (h : ∀ v w', S (.returned v) w' → ow P n l0 K l (updo e d v) w') : ow P n l0 K (⟨d, .call ⟨.value x, args.toArray, ts⟩, T, pos, af, none⟩ :: l) e w := by
  obtain ⟨fn, tmps, assign, body, hr, hR⟩ := hy
  have hrun : (execOp (ev n e) ⟨d, .call ⟨.value x, args.toArray, ts⟩, T, pos, af, none⟩).run P w = .ok (.round lp fn tmps assign body) w := by
    have ha : (args.toArray.map (ev n e)) = vs.toArray := by rw [← hv, ← evs_eq]; simp
    simp [execOp, resolve, Deferred.ofValue, invoke, hx, ← hv, ← evs_eq] at hr ⊢
    first | done | simpa using hr
  unfold ow
  rw [if_pos (by simp [Region.wanted])]
  unfold opW
  refine ⟨no_defer (n := n) (e := e) (w := w) (w' := w) (.inr (.inr (.inr ⟨_, _, _, _, _, hrun⟩))), ?_⟩
  rw [hrun]
  refine RoundIn.mono hR fun r w' hs => ?_
  obtain ⟨v, rfl⟩ := hS r w' hs
  exact h v w' hs
/-- a function value with its receiver -/
theorem o_mkfnb {n : Cx} {l0 l : List Oper} {K : Env → World → Prop} {d : Nat} {T : TypeId} {pos : String} {af : Array Edge} {fn : Fn} {bound : List Operand} {vs : List Value} (hv : evs n e bound = vs) (h : ow P n l0 K l (upd e d (.func fn vs.toArray #[])) w) : ow P n l0 K (⟨some d, .makeFunc fn bound.toArray #[], T, pos, af, none⟩ :: l) e w := by
  refine o_run (v := .func fn vs.toArray #[]) (w' := w) ?_ h
  simp [execOp, Instr.makeFunc, ← hv, ← evs_eq]
theorem ret_mark1 {F : Func} {S : Value → World → Prop} {ts : List Nat} {v : Value} {m D : Nat} {rd : Option Nat} (hD : w.heap[D]? = some (.deferred (some []))) (hr : F.results = (ts.map ResultVar.tmp).toArray) (hv : resV ⟨m, [], rd⟩ e ts = v) (h : ∀ w', KeepO mk D w w' → S v w') :
    retR P F S .ret (act ⟨m, [{ target := .collected D, args := #[] }], rd⟩ e) w :=
  ⟨D, _, rfl, run_takeDeferred hD, _, run_results (n := ⟨m, [], rd⟩) (e := e) hr, hv ▸ h _ ⟨[D], keep_putObj _ _ _, fun b hb => by simp at hb; subst hb; exact ⟨Nat.le_refl _, _, hD, _, rfl⟩⟩⟩
theorem ret_mark2 {F : Func} {S : Value → World → Prop} {ts : List Nat} {v : Value} {m D D' : Nat} {rd : Option Nat} (hD : w.heap[D]? = some (.deferred (some []))) (hD' : w.heap[D']? = some (.deferred (some []))) (hne : D ≠ D') (hr : F.results = (ts.map ResultVar.tmp).toArray) (hv : resV ⟨m, [], rd⟩ e ts = v) (h : ∀ w', KeepO mk (min D D') w w' → S v w') :
    retR P F S .ret (act ⟨m, [{ target := .collected D', args := #[] }, { target := .collected D, args := #[] }], rd⟩ e) w := by
  have h2 : (w.putObj D' (.deferred none)).heap[D]? = some (.deferred (some [])) := (World.putObj_heap_other hne).trans hD
  refine ⟨D', _, rfl, run_takeDeferred hD', D, _, rfl, run_takeDeferred h2, _, run_results (n := ⟨m, [], rd⟩) (e := e) hr, hv ▸ h _ ⟨[D', D], ((keep_putObj w D' _).mono (by simp +contextual)).trans (keep_putObj _ D _) (by simp +contextual), fun b hb => ?_⟩⟩
  simp at hb
  rcases hb with rfl | rfl
  · exact ⟨Nat.min_le_right _ _, _, hD', _, rfl⟩
  · exact ⟨Nat.min_le_left _ _, _, hD, _, rfl⟩
end E
end Go.Proofs.YtchbidckckmobaaDoor

/- Words as rows of bits: the places that they hold, in order. No condition beyond what each lemma names. -/
namespace Go.Proofs.YtchbidckckmobaaDoor
open Go.RowKit E
set_option linter.unusedVariables false
set_option linter.unusedSimpArgs false
set_option maxRecDepth 100000
attribute [local irreducible] ow qw kw kq cw opW Ret
def memB (bs : List (BitVec 64)) (x : Nat) : Bool := (bs.getD (x / 64) 0#64).getLsbD (x % 64)
def setB (bs : List (BitVec 64)) (x : Nat) : List (BitVec 64) := bs.set (x / 64) (bs.getD (x / 64) 0#64 ||| (1#64 <<< (x % 64)))
theorem setB_len (bs : List (BitVec 64)) (x : Nat) : (setB bs x).length = bs.length := by simp [setB]
theorem one_bit (i j : Nat) (h : j < 64) : (1#64 <<< i).getLsbD j = decide (i = j) := by
  rw [BitVec.getLsbD_shiftLeft]
  by_cases hij : i = j
  · subst hij; simp [h]
  · by_cases hlt : j < i
    · simp [hlt]; omega
    · have : j - i ≠ 0 := by omega
      simp [hlt, hij, h]
      omega
theorem memB_set (bs : List (BitVec 64)) (x y : Nat) (h : x / 64 < bs.length) : memB (setB bs x) y = (memB bs y || decide (x = y)) := by
  unfold memB setB
  rw [List.getD_eq_getElem?_getD, List.getElem?_set]
  by_cases hxy : x / 64 = y / 64
  · rw [if_pos hxy, if_pos h]
    simp only [Option.getD_some, BitVec.getLsbD_or]
    rw [one_bit _ _ (by omega), hxy]
    congr 1
    exact decide_eq_decide.2 (by omega)
  · rw [if_neg hxy, ← List.getD_eq_getElem?_getD, decide_eq_false (fun e => hxy (by rw [e])), Bool.or_false]
theorem setB_self (bs : List (BitVec 64)) (x : Nat) (h : memB bs x = true) (hl : x / 64 < bs.length) : setB bs x = bs := by
  unfold setB
  have e : bs.getD (x / 64) 0#64 ||| (1#64 <<< (x % 64)) = bs[x / 64] := by
    rw [List.getD_eq_getElem?_getD, List.getElem?_eq_getElem hl]
    unfold memB at h
    rw [List.getD_eq_getElem?_getD, List.getElem?_eq_getElem hl] at h
    simp only [Option.getD_some] at h ⊢
    apply BitVec.eq_of_getLsbD_eq
    intro j hj
    rw [BitVec.getLsbD_or, one_bit _ _ hj]
    by_cases hij : x % 64 = j
    · rw [← hij, h]; simp
    · simp [hij]
  rw [e, List.set_getElem_self]
/-- the places of one word, and of all -/
def memL (i : Nat) (v : BitVec 64) : List Int := ((List.range 64).filter (fun j => v.getLsbD j)).map (fun j => ((64 * i + j : Nat) : Int))
def memA (bs : List (BitVec 64)) (n : Nat) : List Int := (List.range n).flatMap (fun i => memL i (bs.getD i 0#64))
theorem memA_succ (bs : List (BitVec 64)) (n : Nat) : memA bs (n + 1) = memA bs n ++ memL n (bs.getD n 0#64) := by
  unfold memA; rw [List.range_succ, List.flatMap_append]; simp
theorem memL_zero (i : Nat) : memL i 0#64 = [] := by simp [memL]
theorem ctz_bits (v : BitVec 64) (h : v ≠ 0#64) : Lib.ctz 64 v.toNat < 64 ∧ (∀ j, j < Lib.ctz 64 v.toNat → v.getLsbD j = false) ∧ v.getLsbD (Lib.ctz 64 v.toNat) = true ∧ ∀ j, j < 64 → (v &&& (v - 1#64)).getLsbD j = (v.getLsbD j && decide (j ≠ Lib.ctz 64 v.toNat)) := by
  have h0 : v.toNat ≠ 0 := fun e => h (BitVec.eq_of_toNat_eq (by simpa using e))
  have hlt := v.isLt
  obtain ⟨m, hm, hk⟩ := Lib.ctzFrom_spec 64 v.toNat (by omega) hlt
  have e : Lib.ctz 64 v.toNat = Lib.ctzFrom 64 v.toNat := by simp [Lib.ctz, h0]
  rw [e]
  generalize Lib.ctzFrom 64 v.toNat = t at hm hk
  have hb : ∀ j, v.getLsbD j = (decide (t ≤ j) && (2 * m + 1).testBit (j - t)) := by
    intro j
    rw [BitVec.getLsbD, hm, Nat.testBit_two_pow_mul]
  have hp : 0 < 2 ^ t := Nat.pow_pos (by decide)
  have hv1 : (v - 1#64).toNat = 2 ^ t * (2 * m) + (2 ^ t - 1) := by
    rw [BitVec.toNat_sub, hm]
    have : (1#64).toNat = 1 := rfl
    rw [this]
    have h2 : 2 ^ t * (2 * m + 1) = 2 ^ t * (2 * m) + 2 ^ t := by rw [Nat.mul_add, Nat.mul_one]
    rw [hm] at hlt
    omega
  have hb1 : ∀ j, (v - 1#64).getLsbD j = if j < t then true else (2 * m).testBit (j - t) := by
    intro j
    rw [BitVec.getLsbD, hv1, Nat.testBit_two_pow_mul_add _ (by omega)]
    split
    · rename_i hj; rw [Nat.testBit_two_pow_sub_one]; simp [hj]
    · rfl
  refine ⟨hk, fun j hj => ?_, ?_, fun j hj => ?_⟩
  · rw [hb]; simp; omega
  · rw [hb]; simp
  · rw [BitVec.getLsbD_and, hb, hb1]
    by_cases h1 : j < t
    · simp [h1]; omega
    · rw [if_neg h1]
      by_cases h2 : j = t
      · subst h2; simp
      · have hd : j - t ≠ 0 := by omega
        obtain ⟨k, hk'⟩ : ∃ k, j - t = k + 1 := ⟨j - t - 1, by omega⟩
        rw [hk', Nat.testBit_succ, Nat.testBit_succ, show (2 * m + 1) / 2 = m by omega, show 2 * m / 2 = m by omega]
        simp [h2, show t ≤ j by omega]
theorem memL_step (i : Nat) (v : BitVec 64) (h : v ≠ 0#64) : memL i v = ((64 * i + Lib.ctz 64 v.toNat : Nat) : Int) :: memL i (v &&& (v - 1#64)) := by
  obtain ⟨h1, h2, h3, h4⟩ := ctz_bits v h
  generalize Lib.ctz 64 v.toNat = t at h1 h2 h3 h4
  unfold memL
  have e : List.range 64 = List.range t ++ t :: List.range' (t + 1) (63 - t) := by
    rw [List.range_eq_range', List.range_eq_range', show (64 : Nat) = t + ((63 - t) + 1) by omega, ← List.range'_append_1, List.range'_succ]
    simp
  rw [e, List.filter_append, List.filter_append, List.filter_cons, List.filter_cons, if_pos h3, if_neg (by rw [h4 t h1]; simp)]
  have a1 : (List.range t).filter (fun j => v.getLsbD j) = [] := List.filter_eq_nil_iff.2 (fun j hj => by rw [h2 j (List.mem_range.1 hj)]; simp)
  have a2 : (List.range t).filter (fun j => (v &&& (v - 1#64)).getLsbD j) = [] := List.filter_eq_nil_iff.2 (fun j hj => by have := List.mem_range.1 hj; rw [h4 j (by omega), h2 j this]; simp)
  have a3 : (List.range' (t + 1) (63 - t)).filter (fun j => v.getLsbD j) = (List.range' (t + 1) (63 - t)).filter (fun j => (v &&& (v - 1#64)).getLsbD j) := by
    refine List.filter_congr fun j hj => ?_
    have := List.mem_range'_1.1 hj
    rw [h4 j (by omega)]
    simp; omega
  rw [a1, a2, a3]
  simp
theorem mem_memL (i : Nat) (v : BitVec 64) (x : Int) : x ∈ memL i v ↔ ∃ j, j < 64 ∧ v.getLsbD j = true ∧ x = ((64 * i + j : Nat) : Int) := by
  unfold memL
  rw [List.mem_map]
  constructor
  · rintro ⟨j, hj, rfl⟩
    obtain ⟨h1, h2⟩ := List.mem_filter.1 hj
    exact ⟨j, List.mem_range.1 h1, h2, rfl⟩
  · rintro ⟨j, h1, h2, rfl⟩
    exact ⟨j, List.mem_filter.2 ⟨List.mem_range.2 h1, h2⟩, rfl⟩
theorem mem_memA (bs : List (BitVec 64)) (n : Nat) (x : Int) : x ∈ memA bs n ↔ ∃ k : Nat, x = k ∧ k < 64 * n ∧ memB bs k = true := by
  unfold memA
  rw [List.mem_flatMap]
  constructor
  · rintro ⟨i, hi, hx⟩
    obtain ⟨j, h1, h2, rfl⟩ := (mem_memL i _ x).1 hx
    have := List.mem_range.1 hi
    refine ⟨64 * i + j, rfl, by omega, ?_⟩
    unfold memB
    rw [show (64 * i + j) / 64 = i by omega, show (64 * i + j) % 64 = j by omega]
    exact h2
  · rintro ⟨k, rfl, h1, h2⟩
    refine ⟨k / 64, List.mem_range.2 (by omega), (mem_memL _ _ _).2 ⟨k % 64, by omega, h2, by congr 1; omega⟩⟩
theorem memL_up (i : Nat) (v : BitVec 64) : (memL i v).Pairwise (· < ·) := by
  unfold memL
  rw [List.pairwise_map]
  refine List.Pairwise.imp (R := fun a b : Nat => a < b) (fun h => by omega) ?_
  exact List.Pairwise.filter _ List.pairwise_lt_range
theorem memA_up (bs : List (BitVec 64)) (n : Nat) : (memA bs n).Pairwise (· < ·) := by
  induction n with
  | zero => simp [memA]
  | succ n ih =>
    rw [memA_succ, List.pairwise_append]
    refine ⟨ih, memL_up _ _, fun a ha b hb => ?_⟩
    obtain ⟨k, rfl, h1, _⟩ := (mem_memA bs n a).1 ha
    obtain ⟨j, _, _, rfl⟩ := (mem_memL n _ b).1 hb
    omega
/-- rising lists with the same members are one -/
theorem up_one : ∀ (xs ys : List Int), xs.Pairwise (· < ·) → ys.Pairwise (· < ·) → (∀ x, x ∈ xs ↔ x ∈ ys) → xs = ys
  | [], [], _, _, _ => rfl
  | [], y :: ys, _, _, h => absurd ((h y).2 (by simp)) (by simp)
  | x :: xs, [], _, _, h => absurd ((h x).1 (by simp)) (by simp)
  | x :: xs, y :: ys, hx, hy, h => by
    rw [List.pairwise_cons] at hx hy
    have hxy : x = y := by
      rcases List.mem_cons.1 ((h x).1 (by simp)) with e | e
      · exact e
      · rcases List.mem_cons.1 ((h y).2 (by simp)) with e' | e'
        · exact e'.symm
        · have := hy.1 x e; have := hx.1 y e'; omega
    subst hxy
    rw [up_one xs ys hx.2 hy.2 fun z => ⟨fun hz => ?_, fun hz => ?_⟩]
    · rcases List.mem_cons.1 ((h z).1 (by simp [hz])) with e | e
      · have := hx.1 z hz; omega
      · exact e
    · rcases List.mem_cons.1 ((h z).2 (by simp [hz])) with e | e
      · have := hy.1 z hz; omega
      · exact e
end Go.Proofs.YtchbidckckmobaaDoor

/- law24.fixed. No condition beyond what each contract names. -/
namespace Go.Proofs.YtchbidckckmobaaDoor
open Go.RowKit E
set_option linter.unusedVariables false
set_option linter.unusedSimpArgs false
set_option maxRecDepth 100000
attribute [local irreducible] ow qw kw kq cw opW Ret
theorem fx1 : makeN [0] [] 50 1 [97#16, 98#16] = (1, 0, [0, 524294, 97, 98], [1]) := by decide
theorem fx2 : makeN [0, 524294, 97, 98] [1] 50 1 [99#16] = (4, 0, [0, 524294, 97, 98, 262150, 99], [1, 4]) := by decide
theorem fx3 : concN [0, 524294, 97, 98, 262150, 99] [1, 4] 50 1 1 4 = (6, 0, [0, 524294, 97, 98, 262150, 99, 786438, 97, 98, 99], [1, 4, 6]) := by decide
theorem fx4 : unitsN [0, 524294, 97, 98, 262150, 99, 786438, 97, 98, 99] [1, 4, 6] 6 = ([97#16, 98#16, 99#16], 0) := by decide
theorem fx5 : charN [0, 524294, 97, 98, 262150, 99, 786438, 97, 98, 99] [1, 4, 6] 6 1 = (98, 0) := by decide
theorem fx6 : charN [0, 524294, 97, 98, 262150, 99, 786438, 97, 98, 99] [1, 4, 6] 6 3 = (0, 1) := by decide
theorem digs_lt {u : Nat} (h : u < 10) : Lib.decDigits u = [UInt8.ofNat (48 + u)] := by rw [Lib.decDigits, dif_pos h]
theorem digs_ge {u : Nat} (h : ¬ u < 10) : Lib.decDigits u = Lib.decDigits (u / 10) ++ [UInt8.ofNat (48 + u % 10)] := by rw [Lib.decDigits, dif_neg h]
theorem fx7 : Value.string ⟨#[45, 57, 50, 50, 51, 51, 55, 50, 48, 51, 54, 56, 53, 52, 55, 55, 53, 56, 48, 56]⟩ = .string ⟨(Lib.itoa (-9223372036854775808)).toArray⟩ := by
  have e : Lib.itoa (-9223372036854775808) = [45, 57, 50, 50, 51, 51, 55, 50, 48, 51, 54, 56, 53, 52, 55, 55, 53, 56, 48, 56] := by
    show (if (-9223372036854775808 : Int) < 0 then 45 :: Lib.decDigits 9223372036854775808 else _) = _
    rw [if_pos (by decide)]
    repeat rw [digs_ge (by decide)]
    rw [digs_lt (by decide)]
    rfl
  rw [e]
theorem fx8 : Value.string ⟨#[48]⟩ = .string ⟨(Lib.itoa 0).toArray⟩ := by
  have e : Lib.itoa 0 = [48] := by
    show (if (0 : Int) < 0 then _ else Lib.decDigits 0) = _
    rw [if_neg (by decide), digs_lt (by decide)]
    rfl
  rw [e]
theorem fixed24_ok (w : World) (ht : Tab10 w) : Ret Tryd.prog 42 [] w (fun v w' => v = .bool true ∧ Keep [] w w') := by
  refine fn_enter (n := 103) Tryd.func42 rfl rfl (Nat.le_of_ble_eq_true rfl) (fun e => ?_)
  refine k_seq ?_
  refine k_region ?_
  refine m_bool rfl rfl ?_
  refine o_nil ?_
  refine k_seq ?_
  refine k_region ?_
  refine o_call rfl rfl (hnew_ok w 50) (fun v w1 hv => ?_)
  obtain ⟨hK1, hv⟩ := hv
  rw [if_pos (by decide)] at hv
  obtain ⟨hb, rfl, hH1⟩ := hv
  refine m_any rfl rfl ?_
  refine o_extr rfl rfl ?_
  refine o_extr rfl rfl ?_
  refine m_ptr rfl rfl ?_
  refine m_int rfl rfl ?_
  refine o_nil ?_
  refine k_seq ?_
  refine k_seq ?_
  refine k_region ?_
  refine m_ptr rfl rfl ?_
  refine b_eqlp Tryd.underlying41 rfl rfl ?_
  refine o_nil ?_
  refine k_no rfl ((by intro h; cases h)) ?_
  refine k_skip ?_
  refine k_seq ?_
  refine k_region ?_
  refine m_ptr rfl rfl ?_
  refine o_bsl (E := 47) (cs := #[u16v 97#16, u16v 98#16]) rfl (fun _ => by kernel_rfl) (fun g2 w2 hB2 hK2 hb2 hZ2 => ?_)
  have hS2 : Sl w2 47 1 (some ⟨g2, 0, none⟩) 2 2 (([97#16, 98#16] : Us).map u16v) := hB2.sl (len := 2) (sz := 1) rfl (by decide)
  refine o_call rfl rfl (make_ok (fun b => w.heap.size ≤ b) w2 hb [0] 50 [] 1 (some ⟨g2, 0, none⟩) 2 [97#16, 98#16] (hH1.new hK2) WFH.one (by decide) (by decide) (fun b hb => by have := hK1.size; have := hK2.size; show w.heap.size ≤ b; omega) (by decide) hS2.rd (by decide) (fun w' hk' => (hS2.kh hk' (by decide)).rd)) (fun v w3 hv => ?_)
  rw [fx1] at hv
  obtain ⟨rfl, hH3, hW3, hu3, hKH3⟩ := hv
  dsimp only at hH3 hW3 hu3 ⊢
  refine m_any rfl rfl ?_
  refine o_extr rfl rfl ?_
  refine o_extr rfl rfl ?_
  refine m_int rfl rfl ?_
  refine m_int rfl rfl ?_
  refine o_nil ?_
  refine k_seq ?_
  refine k_region ?_
  refine m_ptr rfl rfl ?_
  refine o_bsl (E := 47) (cs := #[u16v 99#16]) rfl (fun _ => by kernel_rfl) (fun g4 w4 hB4 hK4 hb4 hZ4 => ?_)
  have hS4 : Sl w4 47 1 (some ⟨g4, 0, none⟩) 1 1 (([99#16] : Us).map u16v) := hB4.sl (len := 1) (sz := 1) rfl (by decide)
  have hz4 : w.heap.size ≤ w4.heap.size := by have := hK1.size; have := hK2.size; have := hKH3.size; have := hK4.size; omega
  refine o_call rfl rfl (make_ok (fun b => w.heap.size ≤ b) w4 hb [0, 524294, 97, 98] 50 [1] 1 (some ⟨g4, 0, none⟩) 1 [99#16] (hH3.new hK4) hW3 (by decide) (by decide) (fun b hb => by show w.heap.size ≤ b; omega) (by decide) hS4.rd (by decide) (fun w' hk' => (hS4.kh hk' (by decide)).rd)) (fun v w5 hv => ?_)
  rw [fx2] at hv
  obtain ⟨rfl, hH5, hW5, hu5, hKH5⟩ := hv
  dsimp only at hH5 hW5 hu5 ⊢
  refine m_any rfl rfl ?_
  refine o_extr rfl rfl ?_
  refine o_extr rfl rfl ?_
  refine m_int rfl rfl ?_
  refine m_int rfl rfl ?_
  refine o_nil ?_
  refine k_seq ?_
  refine k_region ?_
  refine m_ptr rfl rfl ?_
  refine m_int rfl rfl ?_
  refine m_int rfl rfl ?_
  refine o_call rfl rfl (conc_ok (fun b => w.heap.size ≤ b) w5 hb _ 50 _ 1 1 4 hH5 hW5 (by decide) (by decide) (fun b hb => by have := hKH5.size; show w.heap.size ≤ b; omega) (by decide)) (fun v w6 hv => ?_)
  rw [fx3] at hv
  obtain ⟨rfl, hH6, hW6, hu6, hKH6⟩ := hv
  dsimp only at hH6 hW6 hu6 ⊢
  refine m_any rfl rfl ?_
  refine o_extr rfl rfl ?_
  refine o_extr rfl rfl ?_
  refine m_int rfl rfl ?_
  refine m_int rfl rfl ?_
  refine o_nil ?_
  refine k_seq ?_
  refine k_region ?_
  refine m_ptr rfl rfl ?_
  refine m_int rfl rfl ?_
  refine o_call rfl rfl (units_ok (fun b => w.heap.size ≤ b) w6 hb _ 50 _ 6 hH6 hW6) (fun v w7 hv => ?_)
  rw [fx4] at hv
  obtain ⟨⟨a7, c7, rfl, hS7, hf7⟩, hK7⟩ := hv
  dsimp only at hS7 ⊢
  refine m_any rfl rfl ?_
  refine o_extr rfl rfl ?_
  refine o_extr rfl rfl ?_
  refine m_sl rfl rfl ?_
  refine m_int rfl rfl ?_
  refine o_nil ?_
  refine k_seq ?_
  refine k_region ?_
  refine m_ptr rfl rfl ?_
  refine m_int rfl rfl ?_
  refine o_call rfl rfl (char_ok (fun b => w.heap.size ≤ b) w7 hb _ 50 _ 6 1 (hH6.new hK7) hW6) (fun v w8 hv => ?_)
  rw [fx5] at hv
  obtain ⟨rfl, rfl⟩ := hv
  dsimp only
  refine m_any rfl rfl ?_
  refine o_extr rfl rfl ?_
  refine o_extr rfl rfl ?_
  refine m_int rfl rfl ?_
  refine m_int rfl rfl ?_
  refine o_nil ?_
  refine k_seq ?_
  refine k_region ?_
  refine m_ptr rfl rfl ?_
  refine m_int rfl rfl ?_
  refine o_call rfl rfl (char_ok (fun b => w.heap.size ≤ b) w8 hb _ 50 _ 6 3 (hH6.new hK7) hW6) (fun v w9 hv => ?_)
  rw [fx6] at hv
  obtain ⟨rfl, rfl⟩ := hv
  have hK : Keep [] w w9 := ((((hK2.h (k := fun b => w.heap.size ≤ b)).tr hKH3).tr hK4.h).tr (hKH5.tr hKH6) |>.below hK1 (fun b hb => hb)).tr hK7
  have hR7 := hS7.rd
  obtain ⟨b7, o7, ha7, _⟩ := hR7 2 _ (u16_at _ 2 (by decide))
  subst ha7
  dsimp only
  refine m_any rfl rfl ?_
  refine o_extr rfl rfl ?_
  refine o_extr rfl rfl ?_
  refine m_int rfl rfl ?_
  refine m_int rfl rfl ?_
  refine o_nil ?_
  refine k_seq ?_
  refine k_region ?_
  refine m_int rfl rfl ?_
  refine b_eql rfl rfl ?_
  refine m_bool rfl rfl ?_
  refine o_true (t := 60) rfl (rfl) ?_
  refine g_yes rfl rfl ?_
  refine m_int rfl rfl ?_
  refine g_yes rfl rfl ?_
  refine b_eql rfl rfl ?_
  refine pick_t rfl rfl ?_
  refine m_bool rfl rfl ?_
  refine o_true (t := 64) rfl (rfl) ?_
  refine g_yes rfl rfl ?_
  refine m_int rfl rfl ?_
  refine g_yes rfl rfl ?_
  refine b_eql rfl rfl ?_
  refine pick_t rfl rfl ?_
  refine m_bool rfl rfl ?_
  refine o_true (t := 68) rfl (rfl) ?_
  refine g_yes rfl rfl ?_
  refine m_int rfl rfl ?_
  refine g_yes rfl rfl ?_
  refine b_eql rfl rfl ?_
  refine pick_t rfl rfl ?_
  refine m_bool rfl rfl ?_
  refine o_true (t := 72) rfl (rfl) ?_
  refine g_yes rfl rfl ?_
  refine m_sl rfl rfl ?_
  refine g_yes rfl rfl ?_
  refine o_lens Tryd.underlying77 rfl ?_
  refine g_yes rfl rfl ?_
  refine b_eql rfl rfl ?_
  refine pick_t rfl rfl ?_
  refine m_bool rfl rfl ?_
  refine o_true (t := 77) rfl (rfl) ?_
  refine g_yes rfl rfl ?_
  refine m_sl rfl rfl ?_
  refine g_yes rfl rfl ?_
  refine o_ixs1 (m := 2) Tryd.underlying77 rfl rfl rfl (by decide) ?_
  refine g_yes rfl rfl ?_
  refine o_ld rfl rfl (hR7.cellK (Keep.refl _ _) (u16_at _ 2 (by decide))) ?_
  refine g_yes rfl rfl ?_
  refine v16_eql (b := 99#16) rfl rfl ?_
  refine pick_t rfl rfl ?_
  refine m_bool rfl rfl ?_
  refine o_true (t := 83) rfl (rfl) ?_
  refine g_yes rfl rfl ?_
  refine m_int rfl rfl ?_
  refine g_yes rfl rfl ?_
  refine b_eql rfl rfl ?_
  refine pick_t rfl rfl ?_
  refine m_bool rfl rfl ?_
  refine o_true (t := 87) rfl (rfl) ?_
  refine g_yes rfl rfl ?_
  refine m_int rfl rfl ?_
  refine g_yes rfl rfl ?_
  refine b_eql rfl rfl ?_
  refine pick_t rfl rfl ?_
  refine m_bool rfl rfl ?_
  refine o_true (t := 91) rfl (rfl) ?_
  refine g_yes rfl rfl ?_
  refine m_int rfl rfl ?_
  refine g_yes rfl rfl ?_
  refine b_eql rfl rfl ?_
  refine pick_t rfl rfl ?_
  refine m_bool rfl rfl ?_
  refine o_true (t := 95) rfl (rfl) ?_
  refine g_yes rfl rfl ?_
  refine o_call rfl rfl (digits_ok w9 (-9223372036854775808) (by decide) (by decide) (ht.new hK)) (fun v w10 hv => ?_)
  obtain ⟨rfl, hK10⟩ := hv
  refine g_yes rfl rfl ?_
  refine b_eqlstr (a := ⟨(Lib.itoa (-9223372036854775808)).toArray⟩) (b := ⟨(Lib.itoa (-9223372036854775808)).toArray⟩) Tryd.underlying9 rfl fx7 ?_
  refine pick_t rfl rfl ?_
  refine m_bool rfl rfl ?_
  refine o_true (t := 99) rfl (rfl) ?_
  refine g_yes rfl rfl ?_
  refine o_call rfl rfl (digits_ok w10 0 (by decide) (by decide) ((ht.new hK).new hK10)) (fun v w11 hv => ?_)
  obtain ⟨rfl, hK11⟩ := hv
  refine g_yes rfl rfl ?_
  refine b_eqlstr (a := ⟨(Lib.itoa 0).toArray⟩) (b := ⟨(Lib.itoa 0).toArray⟩) Tryd.underlying9 rfl fx8 ?_
  refine pick_t rfl rfl ?_
  refine m_bool rfl rfl ?_
  refine o_nil ?_
  refine k_ret (ret_tmps (ts := [0]) (v := .bool _) rfl rfl ?_)
  exact ⟨congrArg Value.bool (decide_eq_true rfl), (hK.tr hK10).tr hK11⟩
end Go.Proofs.YtchbidckckmobaaDoor

/- Rules for strings; the reference's Digits. No condition beyond what each lemma names. -/
namespace Go.Proofs.YtchbidckckmobaaDoor
open Go.RowKit E
set_option linter.unusedVariables false
set_option linter.unusedSimpArgs false
set_option maxRecDepth 100000
attribute [local irreducible] ow qw kw kq cw opW Ret
namespace E
section
variable {P : Program} {n : Cx} {e : Env} {w : World} {l0 l : List Oper} {K : Env → World → Prop} {d : Nat} {T : TypeId} {pos : String} {af : Array Edge} {x y : Operand} {TX TY : TypeId}
theorem b_addstr {a b : ByteArray} (hx : ev n e x = .string a) (hy : ev n e y = .string b) (hl : a.size + b.size ≤ 9223372036854775807) (h : ow P n l0 K l (upd e d (.string (a ++ b))) w) :
    ow P n l0 K (⟨some d, .binOp .add TX x y TY, T, pos, af, none⟩ :: l) e w := by
  refine o_run (v := .string (a ++ b)) (w' := w) ?_ h
  have h' : ¬ (9223372036854775807 : Int) < a.size + b.size := by omega
  simp [execOp, hx, hy, binOp, Op.stringOp, eqGuard, h']
/-- string(b) of a []byte that is a whole block -/
theorem o_bstr {g E' : Nat} {s : ByteArray} {cs : Array Value} {S D : TypeId} {cap : Nat} (hs : P.underlying S = some (.slice E')) (he : P.underlying E' = some (.int .u8)) (hd : P.underlying D = some .string) (hx : ev n e x = .slice (some ⟨g, 0, none⟩) s.size cap) (hB : Blk w g cs E')
    (hc : ∀ i (h : i < s.size), cs[i]? = some (.int .u8 (s[i].toNat : Int))) (h : ow P n l0 K l (upd e d (.string s)) w) :
    ow P n l0 K (⟨some d, .convert S D x, T, pos, af, none⟩ :: l) e w := by
  refine o_run (v := .string s) (w' := w) ?_ h
  have hr := Lib.run_convert_whole (P := P) w S E' D hs he hd g 0 s (fun i hi => by
    rw [Nat.zero_add]
    exact hB.cell.trans (hc i hi)) cap
  simp [execOp, hx, hr]
end
end E
/-- the digits, one more ahead -/
theorem dig_step {u : Nat} (h : u ≠ 0) : Lib.decDigits u = (if u / 10 = 0 then [] else Lib.decDigits (u / 10)) ++ [UInt8.ofNat (48 + u % 10)] := by
  by_cases hu : u < 10
  · rw [digs_lt hu, if_pos (by omega), show u % 10 = u from by omega]; rfl
  · rw [digs_ge hu, if_neg (by omega)]
theorem dig_len (u : Nat) : (Lib.decDigits u).length ≤ u + 1 := by
  induction u using Nat.strongRecOn with
  | _ u ih =>
    by_cases h : u < 10
    · rw [digs_lt h]; simp
    · rw [digs_ge h]
      have := ih (u / 10) (by omega)
      simp; omega
theorem dig19 (u : Nat) (h : u ≤ 9223372036854775808) : (Lib.decDigits u).length ≤ 64 := by
  have : ∀ k u, u < 10 ^ (k + 1) → (Lib.decDigits u).length ≤ k + 1 := by
    intro k
    induction k with
    | zero => intro u hu; rw [digs_lt (by simpa using hu)]; simp
    | succ k ih =>
      intro u hu
      by_cases hlt : u < 10
      · rw [digs_lt hlt]; simp
      · rw [digs_ge hlt]
        have := ih (u / 10) (by rw [Nat.pow_succ] at hu; omega)
        simp; omega
  have := this 20 u (by omega)
  omega
theorem rdigits_ok (w : World) (n : Int) (h0 : -9223372036854775808 ≤ n) (h1 : n ≤ 9223372036854775807) :
    Ret Tryd.prog 44 [.int .i64 n] w (fun v w' => v = .string ⟨(Lib.itoa n).toArray⟩ ∧ Keep [] w w') := by
  refine fn_enter (n := 31) Tryd.func44 rfl rfl (Nat.le_of_ble_eq_true rfl) (fun e => ?_)
  refine k_seq ?_
  refine k_region ?_
  refine m_str rfl rfl ?_
  refine o_nil ?_
  refine k_seq ?_
  refine k_seq ?_
  refine k_region ?_
  refine m_int rfl rfl ?_
  refine b_eql rfl rfl ?_
  refine o_nil ?_
  refine k_cond rfl (fun h => ?_) (fun h => ?_)
  ·
    refine k_seq ?_
    refine k_region ?_
    refine m_str rfl rfl ?_
    refine o_nil ?_
    refine k_ret (ret_tmps (ts := [2]) (v := .string _) rfl rfl ?_)
    subst h
    exact ⟨fx8, Keep.refl _ _⟩
  refine k_skip ?_
  refine k_seq ?_
  refine k_region ?_
  refine m_str rfl rfl ?_
  refine o_nil ?_
  refine k_seq ?_
  refine k_region ?_
  refine m_int rfl rfl ?_
  refine b_lss rfl rfl ?_
  refine m_bool rfl rfl ?_
  refine o_nil ?_
  refine k_seq ?_
  refine k_block ?_
  refine k_loop (σ := Int × List UInt8) (fun s => [(0, .int .i64 s.1), (3, .string ⟨s.2.toArray⟩), (4, .bool (decide (n < 0)))]) (fun s w' => Keep [] w w' ∧ (-9223372036854775808 ≤ s.1 ∧ s.1 ≤ 9223372036854775807) ∧ Lib.decDigits n.natAbs = (if s.1 = 0 then [] else Lib.decDigits s.1.natAbs) ++ s.2) (fun s => s.1.natAbs) (n, []) ⟨rfl, rfl, rfl, trivial⟩ ⟨Keep.refl _ _, ⟨h0, h1⟩, by rw [if_neg h]; simp⟩ (fun s e w1 hJ => ?_)
  obtain ⟨m, s⟩ := s
  obtain ⟨hK1, ⟨hm0, hm1⟩, hd⟩ := hJ
  dsimp only at hm0 hm1 hd ⊢
  refine k_seq ?_
  refine k_seq ?_
  refine k_region ?_
  refine m_int rfl rfl ?_
  refine b_neq rfl rfl ?_
  refine o_nil ?_
  refine k_cond rfl (fun h => ?_) (fun h => ?_)
  rotate_left
  ·
    have hm := Decidable.of_not_not h
    subst hm
    rw [if_pos rfl, List.nil_append] at hd
    refine k_exit rfl ?_
    refine k_seq ?_
    refine k_seq ?_
    refine k_region ?_
    refine m_bool rfl rfl ?_
    refine o_nil ?_
    refine k_cond rfl (fun h => ?_) (fun h => ?_)
    ·
      refine k_seq ?_
      refine k_region ?_
      refine m_str rfl rfl ?_
      refine b_addstr (a := ⟨#[45]⟩) rfl rfl (by show 1 + s.toArray.size ≤ _; have := dig19 n.natAbs (by omega); rw [hd] at this; simp; omega) ?_
      refine m_str rfl rfl ?_
      refine o_nil ?_
      refine k_ret (ret_tmps (ts := [2]) (v := .string _) rfl rfl ?_)
      refine ⟨congrArg Value.string ?_, hK1⟩
      unfold Lib.itoa
      rw [if_pos h, hd]
      apply ByteArray.ext
      show (⟨#[45]⟩ ++ ⟨s.toArray⟩ : ByteArray).data = _
      simp [ByteArray.data_append]
    refine k_skip ?_
    refine k_seq ?_
    refine k_region ?_
    refine m_str rfl rfl ?_
    refine m_str rfl rfl ?_
    refine o_nil ?_
    refine k_ret (ret_tmps (ts := [2]) (v := .string _) rfl rfl ?_)
    refine ⟨congrArg Value.string ?_, hK1⟩
    unfold Lib.itoa
    rw [if_neg h, ← hd, show n.natAbs = n.toNat from by omega]
  refine k_skip ?_
  refine k_block ?_
  refine k_seq ?_
  refine k_region ?_
  refine m_int rfl rfl ?_
  refine b_rem rfl rfl (by decide) ?_
  have htm : (m.tmod 10).natAbs = m.natAbs % 10 := by rw [Int.natAbs_tmod]; rfl
  refine m_int rfl rfl ?_
  refine o_nil ?_
  refine k_seq ?_
  refine k_seq ?_
  refine k_region ?_
  refine m_int rfl rfl ?_
  refine b_lss rfl rfl ?_
  refine o_nil ?_
  refine k_cut (σ := Unit) (fun _ => [(0, .int .i64 m), (3, .string ⟨s.toArray⟩), (4, .bool (decide (n < 0))), (5, .int .i64 ((m.natAbs % 10 : Nat) : Int))]) (fun _ w' => w' = w1) ?_ (fun s' e w' hJ => ?_)
  ·
    refine k_cond rfl (fun h => ?_) (fun h => ?_)
    ·
      refine k_region ?_
      refine m_int rfl rfl ?_
      refine u_neg rfl ?_
      refine m_int rfl rfl ?_
      refine o_nil ?_
      refine k_goal ⟨(), ⟨rfl, rfl, rfl, congrArg (Value.int .i64) ?_, trivial⟩, rfl⟩
      first | (rw [wrap_in (by simp [IntKind.min, IntKind.max, IntKind.signed, IntKind.bits]; omega)]; omega) | omega
    refine k_skip ?_
    refine k_goal ⟨(), ⟨rfl, rfl, rfl, congrArg (Value.int .i64) ?_, trivial⟩, rfl⟩
    first | (rw [wrap_in (by simp [IntKind.min, IntKind.max, IntKind.signed, IntKind.bits]; omega)]; omega) | omega
  subst hJ
  refine k_seq ?_
  refine k_region ?_
  refine m_int rfl rfl ?_
  refine n_add rfl rfl (by omega) ?_
  refine cv8 rfl Tryd.underlying5 rfl ?_
  have hb8 : ((UInt8.ofNat (48 + m.natAbs % 10)).toNat : Int) = ((BitVec.ofInt 8 (48 + ((m.natAbs % 10 : Nat) : Int))).toNat : Int) := by simp [BitVec.toNat_ofInt]; omega
  refine o_bsl (E := 5) (cs := #[.int .u8 ((BitVec.ofInt 8 (48 + ((m.natAbs % 10 : Nat) : Int))).toNat : Int)]) rfl (fun _ => by kernel_rfl) (fun g w2 hB2 hK2 hb2 hZ2 => ?_)
  refine o_bstr (s := ⟨#[UInt8.ofNat (48 + m.natAbs % 10)]⟩) Tryd.underlying34 Tryd.underlying5 Tryd.underlying9 rfl hB2 (fun i hi => ?_) ?_
  · have hi0 : i = 0 := by change i < 1 at hi; omega
    subst hi0
    exact congrArg (fun z => some (Value.int .u8 z)) hb8.symm
  refine m_str rfl rfl ?_
  refine b_addstr rfl rfl (by show 1 + s.toArray.size ≤ _; have := dig19 n.natAbs (by omega); rw [hd] at this; simp at this; simp; omega) ?_
  refine m_str rfl rfl ?_
  refine o_nil ?_
  refine k_region ?_
  refine m_int rfl rfl ?_
  refine b_quo rfl rfl (by decide) ?_
  have hq : (m.tdiv 10).natAbs = m.natAbs / 10 := by rw [Int.natAbs_tdiv]; rfl
  rw [wrap_in (k := .i64) (by simp [IntKind.min, IntKind.max, IntKind.signed, IntKind.bits]; omega)]
  refine m_int rfl rfl ?_
  refine o_nil ?_
  refine k_blk ?_
  refine k_goal ⟨(m.tdiv 10, UInt8.ofNat (48 + m.natAbs % 10) :: s), ⟨rfl, congrArg Value.string ?_, rfl, trivial⟩, ⟨hK1.tr hK2, ⟨by omega, by omega⟩, ?_⟩, by dsimp only; omega⟩
  · apply ByteArray.ext
    simp [ByteArray.data_append]
  · rw [hd, if_neg (by omega), dig_step (by omega)]
    dsimp only
    rw [hq]
    by_cases hz : m.tdiv 10 = 0
    · rw [if_pos hz, if_pos (by omega)]; simp
    · rw [if_neg hz, if_neg (by omega)]; simp
end Go.Proofs.YtchbidckckmobaaDoor

/- The collector's sets: with, has; the count of noughts; each. No condition beyond what each contract names. -/
namespace Go.Proofs.YtchbidckckmobaaDoor
open Go.RowKit E
set_option linter.unusedVariables false
set_option linter.unusedSimpArgs false
set_option maxRecDepth 100000
attribute [local irreducible] ow qw kw kq cw opW Ret
theorem inf105 : infB Tryd.prog 105 1 8 (.int .u64 0) := ⟨_, rfl, rfl, rfl, rfl⟩
theorem shr6 (x : Nat) : ((x : Int)).fdiv (2 ^ min 6 IntKind.i64.bits) = ((x / 64 : Nat) : Int) := by
  rw [show min 6 IntKind.i64.bits = 6 from rfl, Int.fdiv_eq_ediv_of_nonneg _ (by decide)]
  omega
theorem and63 (x : Nat) (h : x < 9223372036854775808) : (BitVec.ofInt 64 (x : Int) &&& 63#64).toNat = x % 64 := by
  rw [BitVec.toNat_and, ofZ, show (63#64).toNat = 2 ^ 6 - 1 from rfl, Nat.and_two_pow_sub_one_eq_mod]
  omega
theorem and_bit (v : BitVec 64) (i : Nat) (h : i < 64) : v &&& (1#64 <<< i) ≠ 0#64 ↔ v.getLsbD i = true := by
  constructor
  · intro hne
    refine Decidable.byContradiction fun hn => hne ?_
    apply BitVec.eq_of_getLsbD_eq
    intro j hj
    rw [BitVec.getLsbD_and, one_bit _ _ hj]
    by_cases hij : i = j
    · subst hij; simp at hn; simp [hn]
    · simp [hij]
  · intro hv e
    have := congrArg (fun x => x.getLsbD i) e
    simp only [BitVec.getLsbD_and, one_bit _ _ h, hv] at this
    simp at this
theorem shr_bit (v : BitVec 64) (i : Nat) : (v >>> i) &&& 1#64 = 1#64 ↔ v.getLsbD i = true := by
  constructor
  · intro e
    have := congrArg (fun x => x.getLsbD 0) e
    simpa using this
  · intro hv
    apply BitVec.eq_of_getLsbD_eq
    intro j hj
    rw [BitVec.getLsbD_and]
    by_cases h0 : j = 0
    · subst h0; simpa using hv
    · simp [h0]
theorem u64_at (xs : List (BitVec 64)) (i : Nat) (h : i < xs.length) : (xs.map u64v)[i]? = some (u64v (xs.getD i 0#64)) := by
  rw [List.getElem?_map, List.getD_eq_getElem?_getD, List.getElem?_eq_getElem h]; rfl
theorem with_ok (w : World) (g n : Nat) (bs : List (BitVec 64)) (x : Nat) (hS : Sl w 105 1 (some ⟨g, 0, none⟩) n n (bs.map u64v)) (hl : bs.length = n) (hx : x / 64 < n) (hn : n ≤ 1000000000) :
    Ret Tryd.prog 76 [.slice (some ⟨g, 0, none⟩) n n, .int .i64 (x : Int)] w (fun v w' => v = .bool (decide (memB bs x = false)) ∧ Sl w' 105 1 (some ⟨g, 0, none⟩) n n ((setB bs x).map u64v) ∧ Keep [g] w w' ∧ w'.heap.size = w.heap.size) := by
  have hc := hS.rd
  obtain ⟨b0, o0, hae, hcell⟩ := hc _ _ (u64_at bs (x / 64) (by omega))
  cases hae
  have h63 := and63 x (by omega)
  refine fn_enter (n := 27) Tryd.func76 rfl rfl (Nat.le_of_ble_eq_true rfl) (fun e => ?_)
  refine k_seq ?_
  refine k_region ?_
  refine m_bool rfl rfl ?_
  refine o_nil ?_
  refine k_seq ?_
  refine k_region ?_
  refine m_int rfl rfl ?_
  refine b_shrn (c := 6) rfl rfl ?_
  rw [shr6]
  refine m_int rfl rfl ?_
  refine cv64 rfl Tryd.underlying49 rfl ?_
  refine v64_and (b := 63#64) rfl rfl ?_
  refine v64_shln (a := 1#64) rfl rfl ?_
  refine m_int rfl rfl ?_
  refine m_int rfl rfl ?_
  refine o_nil ?_
  refine k_seq ?_
  refine k_seq ?_
  refine k_region ?_
  refine m_sl rfl rfl ?_
  refine m_int rfl rfl ?_
  refine o_ixs1 (m := x / 64) Tryd.underlying115 rfl rfl rfl hx ?_
  refine o_ld (v := u64v (bs.getD (x / 64) 0#64)) rfl rfl hcell ?_
  refine m_int rfl rfl ?_
  refine v64_and rfl rfl ?_
  refine v64_neq (b := 0#64) rfl rfl ?_
  refine o_nil ?_
  refine k_cond (p := memB bs x = true) (congrArg Value.bool (decide_eq_decide.2 (by rw [h63]; exact and_bit _ _ (by omega)))) (fun h => ?_) (fun h => ?_)
  ·
    refine k_seq ?_
    refine k_region ?_
    refine m_bool rfl rfl ?_
    refine o_nil ?_
    refine k_ret (ret_tmps (ts := [4]) (v := .bool _) rfl rfl ?_)
    rw [decide_eq_false (by rw [h]; simp), setB_self bs x h (by omega)]
    exact ⟨rfl, hS, Keep.refl _ _, rfl⟩
  obtain ⟨g', cur, hge, hBg, hgs⟩ := hS.blk (by omega)
  cases hge
  refine k_skip ?_
  refine k_seq ?_
  refine k_region ?_
  refine m_sl rfl rfl ?_
  refine m_int rfl rfl ?_
  refine o_ixs1 (m := x / 64) Tryd.underlying115 rfl rfl rfl hx ?_
  refine o_ld (v := u64v (bs.getD (x / 64) 0#64)) rfl rfl hcell ?_
  refine m_int rfl rfl ?_
  refine v64_or rfl rfl ?_
  refine o_ixs1 (m := x / 64) Tryd.underlying115 rfl rfl rfl hx ?_
  refine o_st (v := u64v (bs.getD (x / 64) 0#64 ||| 1#64 <<< (BitVec.ofInt 64 (x : Int) &&& 63#64).toNat)) rfl rfl rfl rfl hBg (by omega) (fun w3 hB3 hK3 hZ3 => ?_)
  have hS3 := Sl.set hS hx hBg hB3
  rw [← List.map_set, h63] at hS3
  refine o_nil ?_
  refine k_seq ?_
  refine k_region ?_
  refine m_bool rfl rfl ?_
  refine o_nil ?_
  refine k_ret (ret_tmps (ts := [4]) (v := .bool _) rfl rfl ?_)
  exact ⟨congrArg Value.bool (decide_eq_true (by simpa using h)).symm, hS3, hK3, hZ3⟩
theorem has_ok (w : World) (g n : Nat) (bs : List (BitVec 64)) (x : Nat) (hS : Sl w 105 1 (some ⟨g, 0, none⟩) n n (bs.map u64v)) (hl : bs.length = n) (hx : x / 64 < n) (hn : n ≤ 1000000000) :
    Ret Tryd.prog 77 [.slice (some ⟨g, 0, none⟩) n n, .int .i64 (x : Int)] w (fun v w' => v = .bool (memB bs x) ∧ w' = w) := by
  have hc := hS.rd
  obtain ⟨b0, o0, hae, hcell⟩ := hc _ _ (u64_at bs (x / 64) (by omega))
  cases hae
  have h63 := and63 x (by omega)
  refine fn_enter (n := 16) Tryd.func77 rfl rfl (Nat.le_of_ble_eq_true rfl) (fun e => ?_)
  refine k_seq ?_
  refine k_region ?_
  refine m_bool rfl rfl ?_
  refine o_nil ?_
  refine k_seq ?_
  refine k_region ?_
  refine m_sl rfl rfl ?_
  refine m_int rfl rfl ?_
  refine b_shrn (c := 6) rfl rfl ?_
  rw [shr6]
  refine o_ixs1 (m := x / 64) Tryd.underlying115 rfl rfl rfl hx ?_
  refine o_ld (v := u64v (bs.getD (x / 64) 0#64)) rfl rfl hcell ?_
  refine m_int rfl rfl ?_
  refine cv64 rfl Tryd.underlying49 rfl ?_
  refine v64_and (b := 63#64) rfl rfl ?_
  refine v64_shrn rfl rfl ?_
  refine v64_and (b := 1#64) rfl rfl ?_
  refine v64_eql (b := 1#64) rfl rfl ?_
  refine m_bool rfl rfl ?_
  refine o_nil ?_
  refine k_ret (ret_tmps (ts := [4]) (v := .bool _) rfl rfl ?_)
  refine ⟨congrArg Value.bool ?_, rfl⟩
  have hb : ∀ b : Bool, decide (b = true) = b := by intro b; cases b <;> rfl
  rw [← hb (memB bs x)]
  refine decide_eq_decide.2 ?_
  rw [h63]
  exact shr_bit _ _
/-- the table of the count of noughts -/
def TabTz (w : World) : Prop := TabAt 0 Lib.deBruijn64tab w
theorem TabTz.new {w w' : World} (h : TabTz w) (hK : Keep [] w w') : TabTz w' := by
  intro j hj
  have hc := h j hj
  rw [← hc]
  exact World.cell?_of_block (hK.block 0 (World.block_lt_of_cell? w _ hc) (by simp))
theorem tz_ok (w : World) (x : BitVec 64) (ht : TabTz w) : Ret Tryd.prog 79 [.int .u64 (x.toNat : Int)] w (fun v w' => v = .int .i64 ((Lib.ctz 64 x.toNat : Nat) : Int) ∧ w' = w) := by
  unfold Ret
  refine Calls.mono (f := 79) (args := #[.int .u64 (x.toNat : Int)]) (Any7.bits_TrailingZeros64 Go.Proofs.Tryd.lays29 x.toNat x.isLt w (fun _ => ht)) fun e w' he => ?_
  obtain ⟨rfl, rfl⟩ := he
  exact ⟨rfl, rfl⟩
theorem memA_le (bs : List (BitVec 64)) (i n : Nat) (h : i ≤ n) : ∃ r, memA bs n = memA bs i ++ r := by
  induction n with
  | zero => exact ⟨[], by rw [Nat.le_zero.1 h]; simp⟩
  | succ n ih =>
    by_cases hi : i = n + 1
    · subst hi; exact ⟨[], by simp⟩
    · obtain ⟨r, hr⟩ := ih (by omega)
      exact ⟨r ++ memL n (bs.getD n 0#64), by rw [memA_succ, hr, List.append_assoc]⟩
theorem shl6 (i : Nat) (h : i ≤ 1000000000) : IntKind.i64.wrap ((i : Int) * 2 ^ min 6 IntKind.i64.bits) = ((64 * i : Nat) : Int) := by
  rw [show min 6 IntKind.i64.bits = 6 from rfl, IntWalk.i64_in _ (by omega)]
  omega
theorem each_ok (w : World) (hb gl n l : Nat) (s0 s1 : Value) (bs : List (BitVec 64)) (J : List Int → World → Prop) (hl : bs.length = n) (hn : n ≤ 1000000000)
    (hJ : ∀ pre W, J pre W → Blk W hb #[s0, s1, .slice (some ⟨gl, 0, none⟩) n n] 117 ∧ Sl W 105 1 (some ⟨gl, 0, none⟩) n n (bs.map u64v) ∧ TabTz W)
    (hY : ∀ pre x post W, memA bs n = pre ++ x :: post → J pre W → YieldAt Fence.wide 0 Tryd.prog l #[.int .i64 x] W (fun r W' => r = .returned (.bool true) ∧ J (pre ++ [x]) W')) (h0 : J [] w) :
    Ret Tryd.prog 63 [.pointer (some ⟨hb, 0, none⟩), .func (.yield l) #[] #[]] w (fun v W' => J (memA bs n) W') := by
  have hB := (hJ _ _ h0).1
  refine fn_enter (n := 31) Tryd.func63 rfl rfl (Nat.le_of_ble_eq_true rfl) (fun e => ?_)
  refine k_seq ?_
  refine k_region ?_
  refine m_ptr rfl rfl ?_
  refine o_nilc rfl ?_
  refine o_fld (off := 2) rfl rfl ?_
  refine o_ld (v := .slice (some ⟨gl, 0, none⟩) n n) rfl rfl (hB.at rfl) ?_
  refine o_lens Tryd.underlying115 rfl ?_
  refine m_int rfl rfl ?_
  refine o_nil ?_
  refine k_block ?_
  refine k_loop (σ := Nat) (fun i => [(1, .func (.yield l) #[] #[]), (9, .slice (some ⟨gl, 0, none⟩) n n), (10, .int .i64 (n : Int)), (11, .int .i64 (i : Int))]) (fun i w' => i ≤ n ∧ J (memA bs i) w') (fun i => n - i) 0 ⟨rfl, rfl, rfl, rfl, trivial⟩ ⟨Nat.zero_le _, h0⟩ (fun i e w1 hJ1 => ?_)
  obtain ⟨hi, hJi⟩ := hJ1
  refine k_seq ?_
  refine k_region ?_
  refine b_lss rfl rfl ?_
  refine o_nil ?_
  refine k_seq ?_
  refine k_cond rfl (fun h => ?_) (fun h => ?_)
  rotate_left
  ·
    have hie : i = n := by omega
    refine k_exit rfl ?_
    refine k_end (end_tmps (ts := []) (v := .tuple #[]) rfl rfl ?_)
    rw [← hie]; exact hJi
  have hin : i < n := by omega
  obtain ⟨hB1, hS1, ht1⟩ := hJ _ _ hJi
  have hc1 := hS1.rd
  obtain ⟨b0, o0, hae, hcell⟩ := hc1 _ _ (u64_at bs i (by omega))
  cases hae
  refine k_skip ?_
  refine k_seq ?_
  refine k_block ?_
  refine k_seq ?_
  refine k_region ?_
  refine m_int rfl rfl ?_
  refine o_ixs1 (m := i) Tryd.underlying115 rfl rfl rfl hin ?_
  refine o_ld (v := u64v (bs.getD i 0#64)) rfl rfl hcell ?_
  refine m_int rfl rfl ?_
  refine m_int rfl rfl ?_
  refine o_nil ?_
  refine k_block ?_
  refine k_loop (σ := BitVec 64 × List Int) (fun s => [(1, .func (.yield l) #[] #[]), (4, .int .i64 (i : Int)), (5, .int .u64 (s.1.toNat : Int)), (9, .slice (some ⟨gl, 0, none⟩) n n), (10, .int .i64 (n : Int)), (11, .int .i64 (i : Int))]) (fun s w' => s.2 ++ memL i s.1 = memA bs (i + 1) ∧ J s.2 w') (fun s => (memL i s.1).length) (bs.getD i 0#64, memA bs i) ⟨rfl, rfl, rfl, rfl, rfl, rfl, trivial⟩ ⟨(memA_succ bs i).symm, hJi⟩ (fun s e w2 hJ2 => ?_)
  obtain ⟨v, pre⟩ := s
  obtain ⟨hpre, hJp⟩ := hJ2
  dsimp only at hpre hJp ⊢
  refine k_seq ?_
  refine k_seq ?_
  refine k_region ?_
  refine m_int rfl rfl ?_
  refine v64_neq (b := 0#64) rfl rfl ?_
  refine o_nil ?_
  refine k_cond rfl (fun h => ?_) (fun h => ?_)
  rotate_left
  ·
    have hv0 : v = 0#64 := Decidable.of_not_not h
    rw [hv0, memL_zero, List.append_nil] at hpre
    refine k_exit rfl ?_
    refine k_blk ?_
    refine k_region ?_
    refine n_add rfl rfl (by omega) ?_
    refine m_int rfl rfl ?_
    refine o_nil ?_
    refine k_goal ⟨i + 1, ⟨rfl, rfl, rfl, rfl, trivial⟩, ⟨by omega, by rw [← hpre]; exact hJp⟩, by omega⟩
  have hv0 : v ≠ 0#64 := h
  have hstep := memL_step i v hv0
  obtain ⟨hB2, hS2, ht2⟩ := hJ _ _ hJp
  obtain ⟨hc64, _⟩ := ctz_bits v hv0
  refine k_skip ?_
  refine k_seq ?_
  refine k_block ?_
  refine k_seq ?_
  refine k_region ?_
  refine m_any rfl rfl ?_
  refine m_int rfl rfl ?_
  refine b_shln (c := 6) rfl rfl ?_
  rw [shl6 i (by omega)]
  refine m_int rfl rfl ?_
  refine o_call rfl rfl (tz_ok w2 v ht2) (fun u w3 hu => ?_)
  obtain ⟨rfl, rfl⟩ := hu
  obtain ⟨r, hr⟩ := memA_le bs (i + 1) n (by omega)
  have hsplit : memA bs n = pre ++ (((64 * i : Nat) : Int) + ((Lib.ctz 64 v.toNat : Nat) : Int)) :: (memL i (v &&& (v - 1#64)) ++ r) := by
    rw [hr, ← hpre, hstep]
    simp
  refine n_add rfl rfl (by omega) ?_
  refine o_yield rfl rfl (hY pre _ _ w3 hsplit hJp) (fun r w' hr => ⟨_, hr.1⟩) (fun u w4 hu => ?_)
  obtain ⟨hue, hJ4⟩ := hu
  cases hue
  refine u_not (p := True) rfl ?_
  refine o_nil ?_
  refine k_no rfl ((fun h => h trivial)) ?_
  refine k_skip ?_
  refine k_blk ?_
  refine k_region ?_
  refine m_int rfl rfl ?_
  refine m_int rfl rfl ?_
  refine v64_sub (b := 1#64) rfl rfl ?_
  refine v64_and rfl rfl ?_
  refine m_int rfl rfl ?_
  refine o_nil ?_
  refine k_goal ⟨(v &&& (v - 1#64), pre ++ [((64 * i : Nat) : Int) + ((Lib.ctz 64 v.toNat : Nat) : Int)]), ⟨rfl, rfl, rfl, rfl, rfl, rfl, trivial⟩, ⟨?_, hJ4⟩, ?_⟩
  · dsimp only
    rw [← hpre, hstep]
    simp
  · dsimp only
    rw [hstep]
    simp
end Go.Proofs.YtchbidckckmobaaDoor

/- What is reached from roots; the search, plain. No condition beyond what each lemma names. -/
namespace Go.Proofs.YtchbidckckmobaaDoor
open Go.RowKit E
set_option linter.unusedVariables false
set_option linter.unusedSimpArgs false
set_option maxRecDepth 100000
attribute [local irreducible] ow qw kw kq cw opW Ret
inductive Reach (ws rts : List Int) : Int → Prop where
  | root {r : Int} : r ∈ rts → r ≠ 0 → Reach ws rts r
  | step {a c : Int} : Reach ws rts a → c ∈ refsW ws a → ws.getD c.toNat 0 ≠ 0 → Reach ws rts (ws.getD c.toNat 0)
def rootsOk (ws L rts : List Int) : Prop := ∀ r ∈ rts, 0 ≤ r ∧ r < ws.length ∧ (0 < r → r ∈ L)
theorem blocks_ch {ws L : List Int} (h : blocksW ws = some L) : 0 < ws.length ∧ ws.getD 0 0 = 0 ∧ chain ws 1 = some L ∧ ∀ b ∈ L, refOk ws L b := by
  unfold blocksW at h
  split at h
  · cases h
  · rename_i hn
    cases hc : chain ws 1 with
    | none => rw [hc] at h; cases h
    | some M =>
      rw [hc] at h
      simp only at h
      split at h
      · rename_i hr
        cases h
        exact ⟨by omega, Decidable.of_not_not (fun hh => hn (.inr hh)), rfl, hr⟩
      · cases h
theorem reach_L {ws L rts : List Int} (hb : blocksW ws = some L) (hr : rootsOk ws L rts) {x : Int} (h : Reach ws rts x) : x ∈ L := by
  obtain ⟨h0, hz, hc, hrf⟩ := blocks_ch hb
  induction h with
  | root h1 h2 => have := hr _ h1; exact this.2.2 (by omega)
  | step h1 h2 h3 ih =>
    rcases List.mem_cons.1 (hrf _ ih _ h2) with e | e
    · exact absurd e h3
    · exact e
theorem L_rng {ws L : List Int} (hb : blocksW ws = some L) {x : Int} (hx : x ∈ L) : ∃ k : Nat, x = k ∧ 1 ≤ k ∧ k < ws.length := by
  obtain ⟨h0, hz, hc, hrf⟩ := blocks_ch hb
  obtain ⟨k, hk, rfl, _⟩ := chain_ok' ws _ 1 (Nat.le_refl _) L hc x hx
  have := chain_ge hc _ hx
  exact ⟨k, rfl, by omega, hk⟩
/-- how many places are not in a set -/
def cntB (lv : List (BitVec 64)) (n : Nat) : Nat := ((List.range (64 * n)).filter (fun k => !(memB lv k))).length
theorem filter_lt {α : Type} (p q : α → Bool) (hpq : ∀ x, q x = true → p x = true) : ∀ (l : List α) (x : α), x ∈ l → p x = true → q x = false → (l.filter q).length + 1 ≤ (l.filter p).length
  | [], x, h, _, _ => by simp at h
  | y :: l, x, h, hp, hq => by
    have hle : (l.filter q).length ≤ (l.filter p).length := by
      have : ∀ l : List α, (l.filter q).length ≤ (l.filter p).length := by
        intro l
        induction l with
        | nil => simp
        | cons z l ih =>
          rw [List.filter_cons, List.filter_cons]
          by_cases hz : q z = true
          · rw [if_pos hz, if_pos (hpq z hz)]; simp; exact ih
          · rw [if_neg hz]
            split
            · simp; omega
            · exact ih
      exact this l
    rw [List.filter_cons, List.filter_cons]
    rcases List.mem_cons.1 h with rfl | h
    · rw [if_pos hp, if_neg (by rw [hq]; simp)]; simp; exact hle
    · have ih := filter_lt p q hpq l x h hp hq
      by_cases hz : q y = true
      · rw [if_pos hz, if_pos (hpq y hz)]; simp; exact ih
      · rw [if_neg hz]
        split
        · simp; omega
        · exact ih
theorem cnt_set (lv : List (BitVec 64)) (n x : Nat) (hl : lv.length = n) (hx : x < 64 * n) (hm : memB lv x = false) : cntB (setB lv x) n + 1 ≤ cntB lv n := by
  refine filter_lt _ _ (fun y hy => ?_) _ x (List.mem_range.2 hx) (by rw [hm]; rfl) (by rw [memB_set _ _ _ (by omega)]; simp)
  rw [memB_set _ _ _ (by omega)] at hy
  simp at hy
  simp [hy.1]
theorem cnt_le (lv : List (BitVec 64)) (n : Nat) : cntB lv n ≤ 64 * n := by
  unfold cntB
  exact Nat.le_trans (List.length_filter_le _ _) (by simp)
/-- the search: roots rs are handled, ex are being handled -/
structure DI (ws rts rs ex : List Int) (lv : List (BitVec 64)) (todo : List Int) (n : Nat) : Prop where
  len : lv.length = n
  sound : ∀ k, memB lv k = true → Reach ws rts (k : Int)
  sub : ∀ t ∈ todo, ∃ k : Nat, t = k ∧ memB lv k = true
  clo : ∀ k, memB lv k = true → (k : Int) ∉ todo → (k : Int) ∉ ex → ∀ c ∈ refsW ws (k : Int), ws.getD c.toNat 0 = 0 ∨ ∃ j : Nat, ws.getD c.toNat 0 = j ∧ memB lv j = true
  rt : ∀ r ∈ rs, r = 0 ∨ ∃ j : Nat, r = j ∧ memB lv j = true
  bnd : cntB lv n + todo.length ≤ 64 * n
def pushB (lv : List (BitVec 64)) (x : Nat) : List (BitVec 64) := if x = 0 then lv else setB lv x
def pushT (lv : List (BitVec 64)) (todo : List Int) (x : Nat) : List Int := if x = 0 ∨ memB lv x = true then todo else todo ++ [(x : Int)]
theorem DI.push {ws rts rs ex : List Int} {lv : List (BitVec 64)} {todo : List Int} {n : Nat} (h : DI ws rts rs ex lv todo n) (x : Nat) (hx : x < 64 * n) (hr : x ≠ 0 → Reach ws rts (x : Int)) :
    DI ws rts rs ex (pushB lv x) (pushT lv todo x) n ∧ ((x : Int) = 0 ∨ memB (pushB lv x) x = true) ∧ (∀ k, memB lv k = true → memB (pushB lv x) k = true) ∧ 2 * cntB (pushB lv x) n + (pushT lv todo x).length ≤ 2 * cntB lv n + todo.length := by
  have hlen := h.len
  by_cases h0 : x = 0
  · unfold pushB pushT
    rw [if_pos h0, if_pos (.inl h0)]
    exact ⟨h, .inl (by omega), fun k hk => hk, Nat.le_refl _⟩
  · by_cases hm : memB lv x = true
    · unfold pushB pushT
      rw [if_neg h0, if_pos (.inr hm), setB_self lv x hm (by omega)]
      exact ⟨h, .inr hm, fun k hk => hk, Nat.le_refl _⟩
    · have hmf : memB lv x = false := by simpa using hm
      unfold pushB pushT
      rw [if_neg h0, if_neg (by simp [h0, hm])]
      have hms := fun y => memB_set lv x y (by omega)
      have hc := cnt_set lv n x hlen hx hmf
      have hb := h.bnd
      refine ⟨⟨by rw [setB_len]; exact hlen, fun k hk => ?_, fun t ht => ?_, fun k hk hn he c hcc => ?_, fun r hrr => ?_, by simp; omega⟩, .inr (by rw [hms]; simp), fun k hk => by rw [hms, hk]; rfl, by simp; omega⟩
      · rw [hms, Bool.or_eq_true] at hk
        rcases hk with hk | hk
        · exact h.sound k hk
        · rw [← of_decide_eq_true hk]; exact hr h0
      · rcases List.mem_append.1 ht with ht | ht
        · obtain ⟨k, rfl, hk⟩ := h.sub t ht
          exact ⟨k, rfl, by rw [hms, hk]; rfl⟩
        · exact ⟨x, by simpa using ht, by rw [hms]; simp⟩
      · rw [hms, Bool.or_eq_true] at hk
        rcases hk with hk | hk
        · rcases h.clo k hk (fun hh => hn (List.mem_append_left _ hh)) he c hcc with e | ⟨j, e, hj⟩
          · exact .inl e
          · exact .inr ⟨j, e, by rw [hms, hj]; rfl⟩
        · exact absurd (List.mem_append_right _ (by rw [← of_decide_eq_true hk]; simp)) hn
      · rcases h.rt r hrr with e | ⟨j, e, hj⟩
        · exact .inl e
        · exact .inr ⟨j, e, by rw [hms, hj]; rfl⟩
theorem DI.root {ws rts rs : List Int} {lv : List (BitVec 64)} {todo : List Int} {n : Nat} (h : DI ws rts rs [] lv todo n) {r : Int} (hr : r = 0 ∨ ∃ j : Nat, r = j ∧ memB lv j = true) : DI ws rts (rs ++ [r]) [] lv todo n :=
  ⟨h.len, h.sound, h.sub, h.clo, fun q hq => (List.mem_append.1 hq).elim (h.rt q) (fun hh => by rw [List.mem_singleton.1 hh]; exact hr), h.bnd⟩
theorem DI.pop {ws rts rs : List Int} {lv : List (BitVec 64)} {todo : List Int} {a : Int} {n : Nat} (h : DI ws rts rs [] lv (todo ++ [a]) n) : DI ws rts rs [a] lv todo n :=
  ⟨h.len, h.sound, fun t ht => h.sub t (List.mem_append_left _ ht), fun k hk hn he c hc => h.clo k hk (fun hh => (List.mem_append.1 hh).elim hn he) (by simp) c hc, h.rt, by have := h.bnd; simp at this; omega⟩
theorem DI.done {ws rts rs : List Int} {lv : List (BitVec 64)} {todo : List Int} {a : Int} {n : Nat} (h : DI ws rts rs [a] lv todo n) (ha : ∀ c ∈ refsW ws a, ws.getD c.toNat 0 = 0 ∨ ∃ j : Nat, ws.getD c.toNat 0 = j ∧ memB lv j = true) : DI ws rts rs [] lv todo n :=
  ⟨h.len, h.sound, h.sub, fun k hk hn _ c hc => by
    by_cases hka : (k : Int) = a
    · exact ha c (hka ▸ hc)
    · exact h.clo k hk hn (by simpa using hka) c hc, h.rt, h.bnd⟩
theorem DI.final {ws L rts : List Int} {lv : List (BitVec 64)} {n : Nat} (h : DI ws rts rts [] lv [] n) (k : Nat) : memB lv k = true ↔ Reach ws rts (k : Int) := by
  refine ⟨h.sound k, fun hr => ?_⟩
  have key : ∀ x : Int, Reach ws rts x → ∃ j : Nat, x = j ∧ memB lv j = true := by
    intro x hx
    induction hx with
    | root h1 h2 => exact (h.rt _ h1).resolve_left h2
    | step h1 h2 h3 ih =>
      obtain ⟨j, rfl, hj⟩ := ih
      exact (h.clo j hj (by simp) (by simp) _ h2).resolve_left h3
  obtain ⟨j, hj, hm⟩ := key _ hr
  have : k = j := by omega
  rw [this]; exact hm
theorem memB_zero (n x : Nat) : memB (List.replicate n 0#64) x = false := by
  unfold memB
  rw [List.getD_eq_getElem?_getD, List.getElem?_replicate]
  split <;> simp
theorem DI.start (ws rts : List Int) (n : Nat) : DI ws rts [] [] (List.replicate n 0#64) [] n :=
  ⟨by simp, fun k hk => (by rw [memB_zero] at hk; cases hk), by simp, fun k hk => (by rw [memB_zero] at hk; cases hk), by simp, by simpa using cnt_le _ n⟩
/-- the list of what is reached -/
def IsLive (ws rts LV : List Int) : Prop := LV.Pairwise (· < ·) ∧ ∀ x, x ∈ LV ↔ Reach ws rts x
theorem IsLive.one {ws rts A B : List Int} (h : IsLive ws rts A) (h' : IsLive ws rts B) : A = B := up_one A B h.1 h'.1 (fun x => (h.2 x).trans (h'.2 x).symm)
theorem live_of {ws L rts : List Int} {lv : List (BitVec 64)} {n : Nat} (hb : blocksW ws = some L) (hr : rootsOk ws L rts) (h : ∀ k : Nat, memB lv k = true ↔ Reach ws rts (k : Int)) (hn : ws.length ≤ 64 * n) : IsLive ws rts (memA lv n) := by
  refine ⟨memA_up _ _, fun x => ?_⟩
  rw [mem_memA]
  constructor
  · rintro ⟨k, rfl, _, hk⟩; exact (h k).1 hk
  · intro hx
    obtain ⟨k, rfl, _, hk⟩ := L_rng hb (reach_L hb hr hx)
    exact ⟨k, rfl, by omega, (h k).2 hx⟩
end Go.Proofs.YtchbidckckmobaaDoor

/- The opened heap in memory; reach. No condition beyond what each contract names. -/
namespace Go.Proofs.YtchbidckckmobaaDoor
open Go.RowKit E
set_option linter.unusedVariables false
set_option linter.unusedSimpArgs false
set_option maxRecDepth 100000
attribute [local irreducible] ow qw kw kq cw opW Ret
/-- the opened heap: its words, its sets; the variable that holds it -/
structure OS0 (w0 w : World) (hb bh gh gl n : Nat) (wa : Option Addr) (wl wc : Nat) (hs lv : List (BitVec 64)) : Prop where
  B : Blk w hb #[.slice wa wl wc, .slice (some ⟨gh, 0, none⟩) n n, .slice (some ⟨gl, 0, none⟩) n n] 117
  H : Blk w bh #[.pointer (some ⟨hb, 0, none⟩)] 99
  sh : Sl w 105 1 (some ⟨gh, 0, none⟩) n n (hs.map u64v)
  sl : Sl w 105 1 (some ⟨gl, 0, none⟩) n n (lv.map u64v)
  ne : gh ≠ gl
  fb : w0.heap.size ≤ hb
  fh : w0.heap.size ≤ bh
  fgh : w0.heap.size ≤ gh
  fgl : w0.heap.size ≤ gl
  K : Keep [] w0 w
variable {w0 w w' : World} {hb bh gh gl n : Nat} {wa : Option Addr} {wl wc : Nat} {hs lv : List (BitVec 64)}
theorem OS0.new (h : OS0 w0 w hb bh gh gl n wa wl wc hs lv) (hK : Keep [] w w') : OS0 w0 w' hb bh gh gl n wa wl wc hs lv :=
  ⟨h.B.keep hK (by simp), h.H.keep hK (by simp), h.sh.new hK, h.sl.new hK, h.ne, h.fb, h.fh, h.fgh, h.fgl, h.K.tr hK⟩
theorem OS0.blk (h : OS0 w0 w hb bh gh gl n wa wl wc hs lv) {b : Nat} {cs : Array Value} {T : TypeId} (hK : Keep [b] w w') (hB : Blk w b cs T) (hT : T ≠ 117 ∧ T ≠ 99 ∧ T ≠ 105) (hf : w0.heap.size ≤ b) : OS0 w0 w' hb bh gh gl n wa wl wc hs lv := by
  have hn : ∀ {b' : Nat} {cs' : Array Value} {T' : TypeId}, Blk w b' cs' T' → T' ≠ T → b' ∉ [b] := fun hB' hT' hm => by
    rw [List.mem_singleton] at hm; subst hm; exact hT' (hB'.ty hB)
  exact ⟨h.B.keep hK (hn h.B (fun e => hT.1 e.symm)), h.H.keep hK (hn h.H (fun e => hT.2.1 e.symm)), h.sh.keep hK (h.sh.off hB (fun e => hT.2.2 e.symm)), h.sl.keep hK (h.sl.off hB (fun e => hT.2.2 e.symm)), h.ne, h.fb, h.fh, h.fgh, h.fgl, h.K.tr1 hK hf⟩
theorem OS0.app (h : OS0 w0 w hb bh gh gl n wa wl wc hs lv) {a : Option Addr} {m c : Nat} {xs : List Value} (hK : Keep (blkOf a) w w') (hS : Sl w 3 1 a m c xs) (hf : ∀ z, a = some z → w0.heap.size ≤ z.block) : OS0 w0 w' hb bh gh gl n wa wl wc hs lv := by
  rcases hS.2 with ⟨rfl, _⟩ | ⟨g, cur, rfl, hB, _⟩
  · exact h.new hK
  · exact h.blk hK hB (by decide) (hf _ rfl)
theorem OS0.heads (h : OS0 w0 w hb bh gh gl n wa wl wc hs lv) {hs' : List (BitVec 64)} (hK : Keep [gh] w w') (hS : Sl w' 105 1 (some ⟨gh, 0, none⟩) n n (hs'.map u64v)) (hn : 0 < n) : OS0 w0 w' hb bh gh gl n wa wl wc hs' lv := by
  obtain ⟨g, cur, hge, hBg, _⟩ := h.sh.blk hn
  cases hge
  have hne : ∀ {b' : Nat} {cs' : Array Value} {T' : TypeId}, Blk w b' cs' T' → T' ≠ 105 → b' ∉ [gh] := fun hB' hT' hm => by
    rw [List.mem_singleton] at hm; subst hm; exact hT' (hB'.ty hBg)
  exact ⟨h.B.keep hK (hne h.B (by decide)), h.H.keep hK (hne h.H (by decide)), hS, h.sl.keep hK (fun z hz hm => by cases hz; rw [List.mem_singleton] at hm; exact h.ne hm.symm), h.ne, h.fb, h.fh, h.fgh, h.fgl, h.K.tr1 hK h.fgh⟩
theorem OS0.lives (h : OS0 w0 w hb bh gh gl n wa wl wc hs lv) {lv' : List (BitVec 64)} (hK : Keep [gl] w w') (hS : Sl w' 105 1 (some ⟨gl, 0, none⟩) n n (lv'.map u64v)) (hn : 0 < n) : OS0 w0 w' hb bh gh gl n wa wl wc hs lv' := by
  obtain ⟨g, cur, hge, hBg, _⟩ := h.sl.blk hn
  cases hge
  have hne : ∀ {b' : Nat} {cs' : Array Value} {T' : TypeId}, Blk w b' cs' T' → T' ≠ 105 → b' ∉ [gl] := fun hB' hT' hm => by
    rw [List.mem_singleton] at hm; subst hm; exact hT' (hB'.ty hBg)
  exact ⟨h.B.keep hK (hne h.B (by decide)), h.H.keep hK (hne h.H (by decide)), h.sh.keep hK (fun z hz hm => by cases hz; rw [List.mem_singleton] at hm; exact h.ne hm), hS, h.ne, h.fb, h.fh, h.fgh, h.fgl, h.K.tr1 hK h.fgl⟩
/-- none but blocks of k are turned -/
def KeepK (k : Nat → Prop) (w w' : World) : Prop := ∃ S, Keep S w w' ∧ ∀ b ∈ S, k b
theorem KeepK.tr {k : Nat → Prop} {w1 w2 w3 : World} (h : KeepK k w1 w2) (h' : KeepK k w2 w3) : KeepK k w1 w3 := by
  obtain ⟨S, a1, a2⟩ := h
  obtain ⟨S', b1, b2⟩ := h'
  exact ⟨S ++ S', (a1.mono (by simp +contextual)).trans b1 (by simp +contextual), fun b hb => (List.mem_append.1 hb).elim (a2 b) (b2 b)⟩
theorem E.Keep.k0 {k : Nat → Prop} (h : Keep [] w w') : KeepK k w w' := ⟨[], h, by simp⟩
theorem E.Keep.k1 {k : Nat → Prop} {b : Nat} (h : Keep [b] w w') (hb : k b) : KeepK k w w' := ⟨[b], h, fun c hc => by rw [List.mem_singleton] at hc; subst hc; exact hb⟩
theorem E.Keep.ka {k : Nat → Prop} {a : Option Addr} (h : Keep (blkOf a) w w') (hb : ∀ z, a = some z → k z.block) : KeepK k w w' := ⟨blkOf a, h, fun c hc => by
  cases a with
  | none => simp [blkOf] at hc
  | some z => simp [blkOf] at hc; subst hc; exact hb z rfl⟩
/-- the variable that holds what is to be done -/
def TD (k : Nat → Prop) (w0 w : World) (bt : Nat) (todo : List Int) : Prop := ∃ ta tc, Blk w bt #[.slice ta todo.length tc] 23 ∧ Sl w 3 1 ta todo.length tc (todo.map iv) ∧ (∀ z, ta = some z → w0.heap.size ≤ z.block ∧ k z.block) ∧ w0.heap.size ≤ bt ∧ k bt
theorem TD.new {k : Nat → Prop} {bt : Nat} {todo : List Int} (h : TD k w0 w bt todo) (hK : Keep [] w w') : TD k w0 w' bt todo := by
  obtain ⟨ta, tc, h1, h2, h3⟩ := h
  exact ⟨ta, tc, h1.keep hK (by simp), h2.new hK, h3⟩
theorem TD.blk {k : Nat → Prop} {bt : Nat} {todo : List Int} (h : TD k w0 w bt todo) {b : Nat} {cs : Array Value} {T : TypeId} (hK : Keep [b] w w') (hB : Blk w b cs T) (hT : T ≠ 23 ∧ T ≠ 3) : TD k w0 w' bt todo := by
  obtain ⟨ta, tc, h1, h2, h3⟩ := h
  exact ⟨ta, tc, h1.keep hK (fun hm => by rw [List.mem_singleton] at hm; subst hm; exact hT.1 (hB.ty h1)), h2.keep hK (h2.off hB (fun e => hT.2 e.symm)), h3⟩
theorem TD.tight {k : Nat → Prop} {bt : Nat} {todo : List Int} (h : TD k w0 w bt todo) : TD (fun b => b < w.heap.size) w0 w bt todo := by
  obtain ⟨ta, tc, h1, h2, h3, h4, h5⟩ := h
  exact ⟨ta, tc, h1, h2, fun z hz => ⟨(h3 z hz).1, h2.lt z hz⟩, h4, h1.lt⟩
theorem TD.mono {k k' : Nat → Prop} {bt : Nat} {todo : List Int} (h : TD k w0 w bt todo) (hk : ∀ b, k b → k' b) : TD k' w0 w bt todo := by
  obtain ⟨ta, tc, h1, h2, h3, h4, h5⟩ := h
  exact ⟨ta, tc, h1, h2, fun z hz => ⟨(h3 z hz).1, hk _ (h3 z hz).2⟩, h4, hk _ h5⟩
theorem reach_ok (k : Nat → Prop) (w0 w : World) (hb bh bt gh gl n : Nat) (wa : Option Addr) (wl wc : Nat) (hs lv : List (BitVec 64)) (todo : List Int) (x : Nat) (hO : OS0 w0 w hb bh gh gl n wa wl wc hs lv) (hT : TD k w0 w bt todo) (hkw : ∀ b, w.heap.size ≤ b → k b) (hkl : k gl) (hl : lv.length = n) (hn : n ≤ 1000000000) (hx : x / 64 < n) (ht : todo.length ≤ 1000000000000) :
    Ret Tryd.prog 78 [.int .i64 (x : Int), .pointer (some ⟨bh, 0, none⟩), .pointer (some ⟨bt, 0, none⟩)] w (fun v w' => OS0 w0 w' hb bh gh gl n wa wl wc hs (pushB lv x) ∧ TD k w0 w' bt (pushT lv todo x) ∧ KeepK k w w') := by
  refine fn_enter (n := 18) Tryd.func78 rfl rfl (Nat.le_of_ble_eq_true rfl) (fun e => ?_)
  refine k_seq ?_
  refine k_region ?_
  refine m_int rfl rfl ?_
  refine b_gtr rfl rfl ?_
  refine m_bool rfl rfl ?_
  refine o_split (t := 6) (p := x ≠ 0) (by show Value.bool _ = _; exact congrArg Value.bool (decide_eq_decide.2 (by omega))) (fun h => ?_) (fun h => ?_)
  ·
    have hx0 : ¬ x = 0 := h
    refine g_yes rfl rfl ?_
    refine o_ld (v := .pointer (some ⟨hb, 0, none⟩)) rfl rfl (hO.H.at rfl) ?_
    refine g_yes rfl rfl ?_
    refine o_nilc rfl ?_
    refine g_yes rfl rfl ?_
    refine o_fld (off := 2) rfl rfl ?_
    refine g_yes rfl rfl ?_
    refine o_ld (v := .slice (some ⟨gl, 0, none⟩) n n) rfl rfl (hO.B.at rfl) ?_
    refine g_yes rfl rfl ?_
    refine m_int rfl rfl ?_
    refine g_yes rfl rfl ?_
    refine o_call rfl rfl (with_ok w gl n lv x hO.sl hl hx hn) (fun v w1 hv => ?_)
    obtain ⟨rfl, hS1, hK1, hZ1⟩ := hv
    have hO1 := hO.lives hK1 hS1 (by omega)
    obtain ⟨g, cur, hge, hBg, _⟩ := hO.sl.blk (by omega)
    cases hge
    have hT1 := hT.blk hK1 hBg (by decide)
    have hkk1 : KeepK k w w1 := Keep.k1 hK1 hkl
    have hpb : pushB lv x = setB lv x := if_neg hx0
    refine pick_t rfl rfl ?_
    refine o_nil ?_
    refine k_cond rfl (fun h => ?_) (fun h => ?_)
    ·
      obtain ⟨ta, tc, hBt, hSt, hft, hfb, hkb⟩ := hT1
      have hpt : pushT lv todo x = todo ++ [(x : Int)] := by unfold pushT; rw [if_neg (by simp [hx0, h])]
      refine k_region ?_
      refine o_ld (v := .slice ta todo.length tc) rfl rfl (hBt.at rfl) ?_
      refine m_int rfl rfl ?_
      refine o_bsl (E := 3) (cs := #[iv (x : Int)]) rfl (fun _ => by kernel_rfl) (fun g2 w2 hB2 hK2 hb2 hZ2 => ?_)
      refine o_app Tryd.underlying23 inf3 rfl (by decide) rfl rfl (hSt.new hK2) hB2.rd rfl (by simp [iv, Value.oneCell']) (by simp [maxLen]; omega) (by omega) (fun a3 c3 w3 hS3 hK3 hv3 => ?_)
      have hO3 := (hO1.new hK2).app hK3 (hSt.new hK2) (fun z hz => (hft z hz).1)
      have hBt3 := (hBt.keep hK2 (by simp)).keep hK3 ((hSt.new hK2).notin (hBt.keep hK2 (by simp)) (by decide))
      have hf3 := own_app (k := fun b => w0.heap.size ≤ b ∧ k b) (w := w2) (w' := w3) (a := ta) (a2 := a3) hft (fun b hb => ⟨Nat.le_trans (hO1.new hK2).K.size hb, hkw b (by have := hK1.size; have := hK2.size; omega)⟩) hv3
      have hkk3 : KeepK k w w3 := (hkk1.tr (Keep.k0 hK2)).tr (Keep.ka hK3 (fun z hz => (hft z hz).2))
      refine o_st (v := .slice a3 (todo.length + 1) c3) rfl rfl rfl rfl hBt3 (show 0 < 1 by decide) (fun w4 hB4 hK4 hZ4 => ?_)
      have hB4' : Blk w4 bt #[.slice a3 (todo.length + 1) c3] 23 := hB4
      have hS4 : Sl w4 3 1 a3 (todo.length + 1) c3 ((todo ++ [(x : Int)]).map iv) := by rw [List.map_append]; exact hS3.keep hK4 (hS3.off hBt3 (by decide))
      refine o_nil ?_
      refine k_end (end_tmps (ts := []) (v := .tuple #[]) rfl rfl ?_)
      rw [hpb, hpt]
      exact ⟨hO3.blk hK4 hBt3 (by decide) hfb, ⟨a3, c3, by simpa using hB4', by simpa using hS4, hf3, hfb, hkb⟩, hkk3.tr (Keep.k1 hK4 hkb)⟩
    refine k_skip ?_
    refine k_end (end_tmps (ts := []) (v := .tuple #[]) rfl rfl ?_)
    have hm : memB lv x = true := by simpa using h
    rw [hpb, show pushT lv todo x = todo from if_pos (.inr hm)]
    exact ⟨hO1, hT1, hkk1⟩
  ·
    refine g_no rfl rfl rfl ?_
    refine g_no rfl rfl rfl ?_
    refine g_no rfl rfl rfl ?_
    refine g_no rfl rfl rfl ?_
    refine g_no rfl rfl rfl ?_
    refine g_no rfl rfl rfl ?_
    refine pick_f rfl rfl ?_
    refine o_nil ?_
    refine k_condf rfl ?_
    refine k_skip ?_
    refine k_end (end_tmps (ts := []) (v := .tuple #[]) rfl rfl ?_)
    have hx0 : x = 0 := Decidable.of_not_not h
    rw [show pushB lv x = lv from if_pos hx0, show pushT lv todo x = todo from if_pos (.inl hx0)]
    exact ⟨hO, hT, Keep.k0 (Keep.refl _ _)⟩
end Go.Proofs.YtchbidckckmobaaDoor

/- open: the blocks, the roots, the search. No condition beyond what each contract names. -/
namespace Go.Proofs.YtchbidckckmobaaDoor
open Go.RowKit E
set_option linter.unusedVariables false
set_option linter.unusedSimpArgs false
set_option maxRecDepth 100000
attribute [local irreducible] ow qw kw kq cw opW Ret
/-- what open answers -/
def OpenRes (w w' : World) (v : Value) (ws rts : List Int) (wa : Option Addr) (wc : Nat) : Prop :=
  match blocksW ws with
  | none => v = .tuple #[.pointer none, .int .i64 24] ∧ Keep [] w w'
  | some L => (¬ rootsOk ws L rts → v = .tuple #[.pointer none, .int .i64 1] ∧ Keep [] w w') ∧
    (rootsOk ws L rts → ∃ hb gl n s1 lv, v = .tuple #[.pointer (some ⟨hb, 0, none⟩), .int .i64 0] ∧ Blk w' hb #[.slice wa ws.length wc, s1, .slice (some ⟨gl, 0, none⟩) n n] 117 ∧ Sl w' 105 1 (some ⟨gl, 0, none⟩) n n (lv.map u64v) ∧
      lv.length = n ∧ n ≤ 1000000000 ∧ IsLive ws rts (memA lv n) ∧ w.heap.size ≤ hb ∧ w.heap.size ≤ gl ∧ Keep [] w w')
theorem open_none {w w' : World} {ws rts : List Int} {wa : Option Addr} {wc : Nat} (h : blocksW ws = none) (hK : Keep [] w w') : OpenRes w w' (.tuple #[.pointer none, .int .i64 24]) ws rts wa wc := by
  unfold OpenRes; rw [h]; exact ⟨rfl, hK⟩
theorem open_bad {w w' : World} {ws rts L : List Int} {wa : Option Addr} {wc : Nat} (h : blocksW ws = some L) (hr : ¬ rootsOk ws L rts) (hK : Keep [] w w') : OpenRes w w' (.tuple #[.pointer none, .int .i64 1]) ws rts wa wc := by
  unfold OpenRes; rw [h]; exact ⟨fun _ => ⟨rfl, hK⟩, fun hh => absurd hh hr⟩
/-- the region that lays the heap -/
def GO (n H wl wc : Nat) (wa : Option Addr) (D : Nat → Bool) (e : Env) (w : World) : Prop :=
  (D 2 = true → ∃ g, e 35 = .slice (some ⟨g, 0, none⟩) n n ∧ H ≤ g ∧ Sl w 105 1 (some ⟨g, 0, none⟩) n n ((List.replicate n 0#64).map u64v)) ∧
  (D 4 = true → ∃ g, e 37 = .slice (some ⟨g, 0, none⟩) n n ∧ H ≤ g ∧ Sl w 105 1 (some ⟨g, 0, none⟩) n n ((List.replicate n 0#64).map u64v)) ∧
  (D 2 = true → D 4 = true → vb (e 35) ≠ vb (e 37)) ∧
  (D 5 = true → e 38 = .agg #[.slice wa wl wc, e 35, e 37]) ∧
  (D 6 = true → ∃ b, e 39 = .pointer (some ⟨b, 0, none⟩) ∧ H ≤ b ∧ Blk w b #[.slice wa wl wc, e 35, e 37] 117) ∧
  (D 7 = true → ∃ b, e 9 = .pointer (some ⟨b, 0, none⟩) ∧ H ≤ b ∧ Blk w b #[.pointer none] 99) ∧ H ≤ w.heap.size
theorem GO.new {n H wl wc : Nat} {wa : Option Addr} {D : Nat → Bool} {e : Env} {w w' : World} (h : GO n H wl wc wa D e w) (hK : Keep [] w w') : GO n H wl wc wa D e w' := by
  obtain ⟨h1, h2, h3, h4, h5, h6, h7⟩ := h
  refine ⟨fun d => ?_, fun d => ?_, h3, h4, fun d => ?_, fun d => ?_, Nat.le_trans h7 hK.size⟩
  · obtain ⟨g, a, b, c⟩ := h1 d; exact ⟨g, a, b, c.new hK⟩
  · obtain ⟨g, a, b, c⟩ := h2 d; exact ⟨g, a, b, c.new hK⟩
  · obtain ⟨g, a, b, c⟩ := h5 d; exact ⟨g, a, b, c.keep hK (by simp)⟩
  · obtain ⟨g, a, b, c⟩ := h6 d; exact ⟨g, a, b, c.keep hK (by simp)⟩
theorem made64 (n : Nat) : (madeCells (Value.cells (.int .u64 0)) (n * 1)).toList = (List.replicate n 0#64).map u64v := by
  show (madeCells #[Value.int .u64 0] (n * 1)).toList = _
  rw [Nat.mul_one, toList_madeCells_one, List.map_replicate]
  rfl
theorem inf99 : infB Tryd.prog 99 1 8 (.pointer none) := ⟨_, rfl, rfl, rfl, rfl⟩
theorem inf23 : infB Tryd.prog 23 1 24 (.slice none 0 0) := ⟨_, rfl, rfl, rfl, rfl⟩
theorem shr6' (x : Nat) : ((x : Int)).fdiv (2 ^ min 6 IntKind.i64.bits) + 1 = ((x / 64 + 1 : Nat) : Int) := by rw [shr6]; push_cast; rfl
theorem snoc_of {xs : List Int} (h : 0 < xs.length) : ∃ ys a, xs = ys ++ [a] := ⟨xs.dropLast, xs.getLast (by intro e; subst e; simp at h), (List.dropLast_concat_getLast _).symm⟩
theorem blk_cases {w w' : World} {v : Value} {ws : List Int} (h : BlkRes w w' v ws) : ∃ er a2 n2 c2, v = .tuple #[.slice a2 n2 c2, .int .i64 er] ∧ ((er = 24 ∧ blocksW ws = none ∧ Keep [] w w') ∨ (er = 0 ∧ ∃ L, blocksW ws = some L ∧ n2 = L.length ∧ Sl w' 3 1 a2 L.length c2 (L.map iv) ∧ Keep [] w w' ∧ ∀ z, a2 = some z → w.heap.size ≤ z.block)) := by
  unfold BlkRes at h
  cases hb : blocksW ws with
  | none => rw [hb] at h; exact ⟨24, none, 0, 0, h.1, .inl ⟨rfl, rfl, h.2⟩⟩
  | some L =>
    rw [hb] at h
    obtain ⟨s, rfl, a2, c2, rfl, h1, h2, h3⟩ := h
    exact ⟨0, a2, _, c2, rfl, .inr ⟨rfl, L, rfl, rfl, h1, h2, h3⟩⟩
theorem memB_div {bs : List (BitVec 64)} {n k : Nat} (hl : bs.length = n) (h : memB bs k = true) : k / 64 < n := by
  refine Decidable.byContradiction fun hn => ?_
  unfold memB at h
  rw [List.getD_eq_getElem?_getD, List.getElem?_eq_none (by omega)] at h
  simp at h
end Go.Proofs.YtchbidckckmobaaDoor

/- open's walk. No condition beyond what the contract names. -/
namespace Go.Proofs.YtchbidckckmobaaDoor
open Go.RowKit E
set_option linter.unusedVariables false
set_option linter.unusedSimpArgs false
set_option maxRecDepth 100000
attribute [local irreducible] ow qw kw kq cw opW Ret
theorem sopen_ok (w : World) (a ra : Option Addr) (c rc : Nat) (ws rts : List Int) (hW : Rd w a (ws.map iv)) (hR : Rd w ra (rts.map iv)) (hlw : ws.length ≤ 1000000) (hlr : rts.length ≤ 1000000) :
    Ret Tryd.prog 62 [.slice a ws.length c, .slice ra rts.length rc] w (fun v w' => OpenRes w w' v ws rts a c) := by
  refine fn_enter (n := 122) Tryd.func62 rfl rfl (Nat.le_of_ble_eq_true rfl) (fun e => ?_)
  refine k_seq ?_
  refine k_region ?_
  refine m_ptr rfl rfl ?_
  refine m_int rfl rfl ?_
  refine o_nil ?_
  refine k_seq ?_
  refine k_region ?_
  refine m_sl rfl rfl ?_
  refine o_call rfl rfl (blocks_ok w a ws.length c ws hW rfl (by omega)) (fun v w1 hv => ?_)
  obtain ⟨er, a2, n2, c2, rfl, hbc⟩ := blk_cases hv
  refine m_any rfl rfl ?_
  refine o_extr rfl rfl ?_
  refine o_extr rfl rfl ?_
  refine m_sl rfl rfl ?_
  refine m_int rfl rfl ?_
  refine o_nil ?_
  refine k_seq ?_
  refine k_seq ?_
  refine k_region ?_
  refine m_int rfl rfl ?_
  refine b_neq rfl rfl ?_
  refine o_nil ?_
  refine k_cond rfl (fun h => ?_) (fun h => ?_)
  ·
    refine k_seq ?_
    refine k_region ?_
    refine m_int rfl rfl ?_
    refine m_ptr rfl rfl ?_
    refine m_int rfl rfl ?_
    refine o_nil ?_
    refine k_ret (ret_tmps (ts := [4, 5]) (v := .tuple #[.pointer _, .int _ _]) rfl rfl ?_)
    obtain ⟨rfl, hbn, hK1⟩ := hbc.resolve_right (fun hh => h hh.1)
    exact open_none hbn hK1
  obtain ⟨h0, L, hbk, rfl, hS1, hK1, hf1⟩ := hbc.resolve_left (fun hh => by have := hh.1; omega)
  subst h0
  obtain ⟨n, hn⟩ : ∃ n, n = ws.length / 64 + 1 := ⟨_, rfl⟩
  have hn9 : n ≤ 1000000000 := by omega
  have hn64 : ws.length ≤ 64 * n := by omega
  refine k_skip ?_
  refine k_seq ?_
  refine k_region ?_
  refine m_sl rfl rfl ?_
  refine o_lens Tryd.underlying22 rfl ?_
  refine b_shrn (c := 6) rfl rfl ?_
  rw [shr6]
  refine n_add rfl rfl (by omega) ?_
  rw [show ((ws.length / 64 : Nat) : Int) + 1 = (n : Int) by rw [hn]; push_cast; rfl]
  obtain ⟨H, hH⟩ : ∃ H, H = w1.heap.size := ⟨_, rfl⟩
  have hdr : w1.drew.heap.size = w1.heap.size := rfl
  have hD1 : Keep [] w1 w1.drew := (Keep.refl [] w1).drew
  refine m_int rfl rfl ?_
  refine o_nil ?_
  refine k_seq ?_
  refine k_anyE 8 (fun w w' => Keep [] w w') (fun iA => match iA with
      | 0 => fun v w => v = .slice a ws.length c
      | 1 => fun v w => v = .int .i64 (n : Int)
      | 2 => fun v w => True
      | 3 => fun v w => v = .int .i64 (n : Int)
      | 4 => fun v w => True
      | 5 => fun v w => True
      | 6 => fun v w => True
      | 7 => fun v w => True
      | _ => fun v w => True) (GO n H ws.length c a) rfl rfl rfl rfl (Keep.refl []) (fun _ _ _ h1 h2 => h1.tr h2) ?_ (⟨fun h => (by cases h), fun h => (by cases h), fun h => (by cases h), fun h => (by cases h), fun h => (by cases h), fun h => (by cases h), by rw [hdr, hH]; exact Nat.le_refl _⟩) ?_ ?_
  · intro iA v w w' h hL
    match iA, h with
    | 0, h =>
      exact h
    | 1, h =>
      exact h
    | 2, h =>
      exact h
    | 3, h =>
      exact h
    | 4, h =>
      exact h
    | 5, h =>
      exact h
    | 6, h =>
      exact h
    | 7, h =>
      exact h
    | _ + 8, h => trivial
  · intro iA o him hl D eA wA hDi hdp hSh hG hL hA hD
    match iA, him, hl with
    | 0, _, hl =>
      obtain rfl := Option.some.inj hl
      refine o_gen [(0, _)] ⟨hA 0 (free_of rfl), trivial⟩ (fun e2 => ?_)
      refine m_sl rfl rfl ?_
      refine o_nil ⟨(Keep.refl []) _, rfl, hG⟩
    | 1, _, hl =>
      obtain rfl := Option.some.inj hl
      refine o_gen [(8, _)] ⟨hA 8 (free_of rfl), trivial⟩ (fun e2 => ?_)
      refine m_int rfl rfl ?_
      refine o_nil ⟨(Keep.refl []) _, rfl, hG⟩
    | 2, _, hl =>
      obtain rfl := Option.some.inj hl
      refine o_gen [(34, _)] ⟨hD 1 (by decide) 34 rfl, trivial⟩ (fun e2 => ?_)
      refine o_make (m := n) Tryd.underlying115 inf105 rfl rfl (by simp [maxLen]; omega) (by omega) (fun g2 w2 hS2 hK2 hb2 hZ2 => ?_)
      have hG2 := hG.new hK2
      rw [made64] at hS2
      refine o_nil ⟨hK2, trivial, fun _ => ⟨g2, rfl, by have := hG.2.2.2.2.2.2; omega, hS2⟩, hG2.2.1, fun _ h4 => ?_, fun h5 => ?_, fun h6 => ?_, hG2.2.2.2.2.2.1, hG2.2.2.2.2.2.2⟩
      · obtain ⟨g, e1, _, s1⟩ := hG.2.1 h4
        show g2 ≠ vb (eA 37)
        rw [e1]
        have := s1.lt _ rfl
        show g2 ≠ g
        simp only at this
        omega
      · rw [hSh 5 _ rfl h5 2 (by decide)] at hDi; cases hDi
      · rw [hSh 5 _ rfl (hSh 6 _ rfl h6 5 (by decide)) 2 (by decide)] at hDi; cases hDi
    | 3, _, hl =>
      obtain rfl := Option.some.inj hl
      refine o_gen [(8, _)] ⟨hA 8 (free_of rfl), trivial⟩ (fun e2 => ?_)
      refine m_int rfl rfl ?_
      refine o_nil ⟨(Keep.refl []) _, rfl, hG⟩
    | 4, _, hl =>
      obtain rfl := Option.some.inj hl
      refine o_gen [(36, _)] ⟨hD 3 (by decide) 36 rfl, trivial⟩ (fun e2 => ?_)
      refine o_make (m := n) Tryd.underlying115 inf105 rfl rfl (by simp [maxLen]; omega) (by omega) (fun g2 w2 hS2 hK2 hb2 hZ2 => ?_)
      have hG2 := hG.new hK2
      rw [made64] at hS2
      refine o_nil ⟨hK2, trivial, hG2.1, fun _ => ⟨g2, rfl, by have := hG.2.2.2.2.2.2; omega, hS2⟩, fun h2 _ => ?_, fun h5 => ?_, fun h6 => ?_, hG2.2.2.2.2.2.1, hG2.2.2.2.2.2.2⟩
      · obtain ⟨g, e1, _, s1⟩ := hG.1 h2
        show vb (eA 35) ≠ g2
        rw [e1]
        have := s1.lt _ rfl
        show g ≠ g2
        simp only at this
        omega
      · rw [hSh 5 _ rfl h5 4 (by decide)] at hDi; cases hDi
      · rw [hSh 5 _ rfl (hSh 6 _ rfl h6 5 (by decide)) 4 (by decide)] at hDi; cases hDi
    | 5, _, hl =>
      obtain rfl := Option.some.inj hl
      obtain ⟨g1, e1, _⟩ := hG.1 (hdp 2 (by decide))
      obtain ⟨g2, e2', _⟩ := hG.2.1 (hdp 4 (by decide))
      refine o_gen [(33, .slice a ws.length c), (35, .slice (some ⟨g1, 0, none⟩) n n), (37, .slice (some ⟨g2, 0, none⟩) n n)] ⟨hD 0 (by decide) 33 rfl, e1, e2', trivial⟩ (fun e2 => ?_)
      refine o_build (v := .agg #[.slice a ws.length c, .slice (some ⟨g1, 0, none⟩) n n, .slice (some ⟨g2, 0, none⟩) n n]) rfl (fun _ => by kernel_rfl) ?_
      refine o_nil ⟨Keep.refl [] _, trivial, hG.1, hG.2.1, hG.2.2.1, fun _ => ?_, hG.2.2.2.2.1, hG.2.2.2.2.2.1, hG.2.2.2.2.2.2⟩
      show Value.agg #[.slice a ws.length c, .slice (some ⟨g1, 0, none⟩) n n, .slice (some ⟨g2, 0, none⟩) n n] = Value.agg #[.slice a ws.length c, eA 35, eA 37]
      rw [e1, e2']
    | 6, _, hl =>
      obtain rfl := Option.some.inj hl
      refine o_gen [(38, .agg #[.slice a ws.length c, eA 35, eA 37])] ⟨hG.2.2.2.1 (hdp 5 (by decide)), trivial⟩ (fun e2 => ?_)
      refine o_box rfl rfl (fun b2 w2 hB2 hK2 hb2 hZ2 => ?_)
      have hG2 := hG.new hK2
      refine o_nil ⟨hK2, trivial, hG2.1, hG2.2.1, hG2.2.2.1, hG2.2.2.2.1, fun _ => ⟨b2, rfl, by have := hG.2.2.2.2.2.2; omega, hB2⟩, hG2.2.2.2.2.2.1, hG2.2.2.2.2.2.2⟩
    | 7, _, hl =>
      obtain rfl := Option.some.inj hl
      refine o_gen [] trivial (fun e2 => ?_)
      refine o_alloc inf99 rfl (fun b2 w2 hB2 hK2 hb2 hZ2 => ?_)
      have hG2 := hG.new hK2
      refine o_nil ⟨hK2, trivial, hG2.1, hG2.2.1, hG2.2.2.1, hG2.2.2.2.1, hG2.2.2.2.2.1, fun _ => ⟨b2, rfl, by have := hG.2.2.2.2.2.2; omega, hB2⟩, hG2.2.2.2.2.2.2⟩
    | _ + 8, him, _ => exact absurd him (by omega)
  intro D eA wA hAll hG hL hA hV
  obtain ⟨gh, e35, fgh, sgh⟩ := hG.1 (hAll 2 (by decide) (by decide))
  obtain ⟨gl, e37, fgl, sgl⟩ := hG.2.1 (hAll 4 (by decide) (by decide))
  have hgne := hG.2.2.1 (hAll 2 (by decide) (by decide)) (hAll 4 (by decide) (by decide))
  rw [e35, e37] at hgne
  obtain ⟨hb, e39, fhb, hBb⟩ := hG.2.2.2.2.1 (hAll 6 (by decide) (by decide))
  rw [e35, e37] at hBb
  obtain ⟨bh, e9, fbh, hBh⟩ := hG.2.2.2.2.2.1 (hAll 7 (by decide) (by decide))
  refine o_gen [(0, .slice a ws.length c), (1, .slice ra rts.length rc), (6, .slice a2 L.length c2), (9, .pointer (some ⟨bh, 0, none⟩)), (39, .pointer (some ⟨hb, 0, none⟩))] ⟨hA 0 (free_of rfl), hA 1 (free_of rfl), hA 6 (free_of rfl), e9, e39, trivial⟩ (fun e => ?_)
  have hK1A : Keep [] w wA := hK1.tr (hD1.tr hL)
  have hS2 := hS1.new (hD1.tr hL)
  have hwH : w.heap.size ≤ H := by rw [hH]; exact hK1.size
  change ow _ _ _ _ [_] _ _
  refine o_st (v := .pointer (some ⟨hb, 0, none⟩)) rfl rfl rfl rfl hBh (show 0 < 1 by decide) (fun w3 hB3 hK3 hZ3 => ?_)
  have hB3' : Blk w3 bh #[.pointer (some ⟨hb, 0, none⟩)] 99 := hB3
  have hO3 : OS0 w w3 hb bh gh gl n a ws.length c (List.replicate n 0#64) (List.replicate n 0#64) :=
    ⟨hBb.keep hK3 (fun hm => by rw [List.mem_singleton] at hm; subst hm; exact absurd (hBb.ty hBh) (by decide)), hB3', sgh.keep hK3 (sgh.off hBh (by decide)), sgl.keep hK3 (sgl.off hBh (by decide)), hgne, by omega, by omega, by omega, by omega, hK1A.tr1 hK3 (by omega)⟩
  have hS3 := hS2.keep hK3 (hS2.off hBh (by decide))
  clear hG hV hA hAll hB3 hBb hBh sgh sgl
  refine o_nil ?_
  refine k_seq ?_
  refine k_seq ?_
  refine k_region ?_
  refine m_sl rfl rfl ?_
  refine o_lens Tryd.underlying23 rfl ?_
  refine m_int rfl rfl ?_
  refine o_nil ?_
  refine k_block ?_
  refine k_loop (σ := Nat × List (BitVec 64)) (fun s => [(0, .slice a ws.length c), (1, .slice ra rts.length rc), (9, .pointer (some ⟨bh, 0, none⟩)), (40, .slice a2 L.length c2), (41, .int .i64 (L.length : Int)), (42, .int .i64 (s.1 : Int))]) (fun s w' => s.1 ≤ L.length ∧ OS0 w w' hb bh gh gl n a ws.length c s.2 (List.replicate n 0#64) ∧ s.2.length = n ∧ (∀ k : Nat, memB s.2 k = true ↔ (k : Int) ∈ L.take s.1) ∧ Sl w' 3 1 a2 L.length c2 (L.map iv)) (fun s => L.length - s.1) (0, List.replicate n 0#64) ⟨rfl, rfl, rfl, rfl, rfl, rfl, trivial⟩ ⟨Nat.zero_le _, hO3, by simp, fun k => by rw [memB_zero]; simp, hS3⟩ (fun s e w4 hJ => ?_)
  obtain ⟨i, hs⟩ := s
  obtain ⟨hi, hO4, hls, hmem, hS4⟩ := hJ
  dsimp only at hi hO4 hls hmem hS4 ⊢
  refine k_seq ?_
  refine k_region ?_
  refine b_lss rfl rfl ?_
  refine o_nil ?_
  refine k_seq ?_
  refine k_cond rfl (fun h => ?_) (fun h => ?_)
  rotate_left
  ·
    have hie : i = L.length := by omega
    rw [hie, List.take_length] at hmem
    refine k_exit rfl ?_
    refine k_seq ?_
    refine k_seq ?_
    refine k_region ?_
    refine m_sl rfl rfl ?_
    refine o_lens Tryd.underlying23 rfl ?_
    refine m_int rfl rfl ?_
    refine o_nil ?_
    refine k_block ?_
    refine k_loop (σ := Nat) (fun j => [(0, .slice a ws.length c), (1, .slice ra rts.length rc), (9, .pointer (some ⟨bh, 0, none⟩)), (53, .slice ra rts.length rc), (54, .int .i64 (rts.length : Int)), (55, .int .i64 (j : Int))]) (fun j w' => j ≤ rts.length ∧ w' = w4 ∧ ∀ r ∈ rts.take j, 0 ≤ r ∧ r < ws.length ∧ (0 < r → r ∈ L)) (fun j => rts.length - j) 0 ⟨rfl, rfl, rfl, rfl, rfl, rfl, trivial⟩ ⟨Nat.zero_le _, rfl, by simp⟩ (fun j e w5 hJ => ?_)
    obtain ⟨hj, hw5, hpre⟩ := hJ
    replace hw5 := hw5.symm
    subst hw5
    refine k_seq ?_
    refine k_region ?_
    refine b_lss rfl rfl ?_
    refine o_nil ?_
    refine k_seq ?_
    refine k_cond rfl (fun h => ?_) (fun h => ?_)
    rotate_left
    ·
      have hje : j = rts.length := by omega
      rw [hje, List.take_length] at hpre
      have hrk : rootsOk ws L rts := hpre
      refine k_exit rfl ?_
      refine k_seq ?_
      refine k_region ?_
      refine o_alloc inf23 rfl (fun bt w6 hB6 hK6 hb6 hZ6 => ?_)
      have hO6 := hO4.new hK6
      have hT6 : TD (fun _ => True) w w6 bt [] := ⟨none, 0, hB6, Sl.nil _ _ _, fun z hz => (by cases hz), by have := hO4.K.size; omega, trivial⟩
      refine o_nil ?_
      refine k_seq ?_
      refine k_region ?_
      refine o_mkfn rfl ?_
      refine m_any rfl rfl ?_
      refine o_nil ?_
      refine k_seq ?_
      refine k_seq ?_
      refine k_region ?_
      refine m_sl rfl rfl ?_
      refine o_lens Tryd.underlying23 rfl ?_
      refine m_int rfl rfl ?_
      refine o_nil ?_
      refine k_block ?_
      refine k_loop (σ := Nat × List (BitVec 64) × List Int) (fun s => [(0, .slice a ws.length c), (9, .pointer (some ⟨bh, 0, none⟩)), (14, .pointer (some ⟨bt, 0, none⟩)), (15, .func (.func 78) #[] #[.pointer (some ⟨bh, 0, none⟩), .pointer (some ⟨bt, 0, none⟩)]), (82, .slice ra rts.length rc), (83, .int .i64 (rts.length : Int)), (84, .int .i64 (s.1 : Int))]) (fun s w' => s.1 ≤ rts.length ∧ DI ws rts (rts.take s.1) [] s.2.1 s.2.2 n ∧ OS0 w w' hb bh gh gl n a ws.length c hs s.2.1 ∧ TD (fun _ => True) w w' bt s.2.2) (fun s => rts.length - s.1) (0, List.replicate n 0#64, []) ⟨rfl, rfl, rfl, rfl, rfl, rfl, rfl, trivial⟩ ⟨Nat.zero_le _, DI.start ws rts n, hO6, hT6⟩ (fun s e w7 hJ => ?_)
      obtain ⟨j3, lv, todo⟩ := s
      obtain ⟨hj3, hDI, hO7, hT7⟩ := hJ
      dsimp only at hj3 hDI hO7 hT7 ⊢
      refine k_seq ?_
      refine k_region ?_
      refine b_lss rfl rfl ?_
      refine o_nil ?_
      refine k_seq ?_
      refine k_cond rfl (fun h => ?_) (fun h => ?_)
      rotate_left
      ·
        have hje3 : j3 = rts.length := by omega
        rw [hje3, List.take_length] at hDI
        refine k_exit rfl ?_
        refine k_seq ?_
        refine k_block ?_
        refine k_loop (σ := List (BitVec 64) × List Int) (fun s => [(0, .slice a ws.length c), (9, .pointer (some ⟨bh, 0, none⟩)), (14, .pointer (some ⟨bt, 0, none⟩)), (15, .func (.func 78) #[] #[.pointer (some ⟨bh, 0, none⟩), .pointer (some ⟨bt, 0, none⟩)])]) (fun s w' => DI ws rts rts [] s.1 s.2 n ∧ OS0 w w' hb bh gh gl n a ws.length c hs s.1 ∧ TD (fun _ => True) w w' bt s.2) (fun s => 2 * cntB s.1 n + s.2.length) (lv, todo) ⟨rfl, rfl, rfl, rfl, trivial⟩ ⟨hDI, hO7, hT7⟩ (fun s e w8 hJ => ?_)
        clear hDI hO7 hT7 hj3 hje3
        obtain ⟨lv, todo⟩ := s
        obtain ⟨hDI, hO8, hT8⟩ := hJ
        dsimp only at hDI hO8 hT8 ⊢
        obtain ⟨ta, tc, hBt, hSt, hft, hfb, _⟩ := id hT8
        refine k_seq ?_
        refine k_seq ?_
        refine k_region ?_
        refine o_ld (v := .slice ta todo.length tc) rfl rfl (hBt.at rfl) ?_
        refine o_lens Tryd.underlying23 rfl ?_
        refine b_gtr rfl rfl ?_
        refine o_nil ?_
        refine k_cond rfl (fun h => ?_) (fun h => ?_)
        rotate_left
        ·
          have htn : todo = [] := List.eq_nil_of_length_eq_zero (by omega)
          subst htn
          refine k_exit rfl ?_
          refine k_seq ?_
          refine k_region ?_
          refine o_ld (v := .pointer (some ⟨hb, 0, none⟩)) rfl rfl (hO8.H.at rfl) ?_
          refine m_ptr rfl rfl ?_
          refine m_int rfl rfl ?_
          refine o_nil ?_
          refine k_ret (ret_tmps (ts := [4, 5]) (v := .tuple #[.pointer _, .int _ _]) rfl rfl ?_)
          unfold OpenRes
          rw [hbk]
          exact ⟨fun hh => absurd hrk hh, fun _ => ⟨hb, gl, n, _, lv, rfl, hO8.B, hO8.sl, hDI.len, hn9, live_of hbk hrk (fun k => hDI.final (L := L) k) hn64, hO8.fb, hO8.fgl, hO8.K⟩⟩
        obtain ⟨todo0, at0, rfl⟩ := snoc_of (xs := todo) (by omega)
        have hlt : (todo0 ++ [at0]).length = todo0.length + 1 := by simp
        obtain ⟨q, hq, hqm⟩ := hDI.sub at0 (by simp)
        have hqR := hDI.sound q hqm
        have hqL := reach_L hbk hrk hqR
        have hrq := (blocks_ch hbk).2.2.2 _ hqL
        have hbnd := hDI.bnd
        have hcl := cnt_le lv n
        have hpop := hDI.pop
        have htr := hSt.rd
        obtain ⟨tb, tof, hte, htcell⟩ := htr todo0.length (iv at0) (by rw [List.getElem?_map]; simp)
        subst hte
        refine k_skip ?_
        refine k_block ?_
        refine k_seq ?_
        refine k_region ?_
        refine o_ld (v := .slice (some ⟨tb, tof, none⟩) (todo0 ++ [at0]).length tc) rfl rfl (hBt.at rfl) ?_
        refine o_ld (v := .slice (some ⟨tb, tof, none⟩) (todo0 ++ [at0]).length tc) rfl rfl (hBt.at rfl) ?_
        refine o_lens Tryd.underlying23 rfl ?_
        refine n_sub rfl rfl (by omega) ?_
        refine o_ixs1 (m := todo0.length) Tryd.underlying23 rfl rfl (congrArg (Value.int .i64) (by rw [hlt]; push_cast; omega)) (by omega) ?_
        refine o_ld (v := iv at0) rfl rfl htcell ?_
        refine m_int rfl rfl ?_
        refine o_nil ?_
        refine k_seq ?_
        refine k_region ?_
        refine o_ld (v := .slice (some ⟨tb, tof, none⟩) (todo0 ++ [at0]).length tc) rfl rfl (hBt.at rfl) ?_
        refine o_ld (v := .slice (some ⟨tb, tof, none⟩) (todo0 ++ [at0]).length tc) rfl rfl (hBt.at rfl) ?_
        refine o_lens Tryd.underlying23 rfl ?_
        refine n_sub rfl rfl (by omega) ?_
        refine o_slh (hi := todo0.length) (sz := 1) Tryd.underlying23 rfl rfl (congrArg (Value.int .i64) (by rw [hlt]; push_cast; omega)) (by have := hSt.le; omega) ?_
        refine o_st (v := .slice (some ⟨tb, tof, none⟩) todo0.length tc) rfl rfl rfl rfl hBt (show 0 < 1 by decide) (fun w9 hB9 hK9 hZ9 => ?_)
        have hO9 := hO8.blk hK9 hBt (by decide) hfb
        have hSf : Sl w8 3 1 (some ⟨tb, tof, none⟩) todo0.length tc (todo0.map iv) := by
          have h0 := hSt
          rw [hlt, List.map_append] at h0
          exact h0.front (by simp) (.inr (by decide))
        have hB9' : Blk w9 bt #[.slice (some ⟨tb, tof, none⟩) todo0.length tc] 23 := hB9
        have hT9 : TD (fun _ => True) w w9 bt todo0 := ⟨_, tc, hB9', hSf.keep hK9 (hSf.off hBt (by decide)), hft, hfb, trivial⟩
        have hT9t := hT9.tight
        refine o_nil ?_
        refine k_seq ?_
        refine k_region ?_
        refine m_sl rfl rfl ?_
        refine m_int rfl rfl ?_
        refine o_call rfl rfl (refs_ok w9 a ws.length c ws at0 (hW.new hO9.K) rfl (by omega)) (fun v w10 hv => ?_)
        obtain ⟨a6, c6, rfl, hS10, hK10, hf10⟩ := hv
        have hrl := refs_lt ws at0
        have hlen6 := refs_len ws at0
        obtain ⟨kk, hkk⟩ : ∃ kk : Nat → Prop, kk = fun b => ∀ z, a6 = some z → b ≠ z.block := ⟨_, rfl⟩
        have hT10 : TD kk w w10 bt todo0 := (hT9t.new hK10).mono (fun b hb => by rw [hkk]; intro z hz; have := hf10 z hz; omega)
        have hkgl : kk gl := by
          rw [hkk]; intro z hz he
          obtain ⟨gg, cur, e1, b1, _⟩ := hO9.sl.blk (by omega)
          cases e1
          have := b1.lt
          have := hf10 z hz
          omega
        have hRf := hS10.rd
        refine o_lens Tryd.underlying23 rfl ?_
        refine m_int rfl rfl ?_
        refine o_nil ?_
        refine k_block ?_
        refine k_loop (σ := Nat × List (BitVec 64) × List Int) (fun s => [(0, .slice a ws.length c), (9, .pointer (some ⟨bh, 0, none⟩)), (14, .pointer (some ⟨bt, 0, none⟩)), (15, .func (.func 78) #[] #[.pointer (some ⟨bh, 0, none⟩), .pointer (some ⟨bt, 0, none⟩)]), (108, .slice a6 (refsW ws at0).length c6), (109, .int .i64 ((refsW ws at0).length : Int)), (110, .int .i64 (s.1 : Int))]) (fun s w' => s.1 ≤ (refsW ws at0).length ∧ DI ws rts rts [at0] s.2.1 s.2.2 n ∧ (∀ cc ∈ (refsW ws at0).take s.1, ws.getD cc.toNat 0 = 0 ∨ ∃ j : Nat, ws.getD cc.toNat 0 = j ∧ memB s.2.1 j = true) ∧ 2 * cntB s.2.1 n + s.2.2.length ≤ 2 * cntB lv n + todo0.length ∧ OS0 w w' hb bh gh gl n a ws.length c hs s.2.1 ∧ TD kk w w' bt s.2.2 ∧ Rd w' a6 ((refsW ws at0).map iv) ∧ w10.heap.size ≤ w'.heap.size) (fun s => (refsW ws at0).length - s.1) (0, lv, todo0) ⟨rfl, rfl, rfl, rfl, rfl, rfl, rfl, trivial⟩ ⟨Nat.zero_le _, hpop, by simp, Nat.le_refl _, hO9.new hK10, hT10, hRf, Nat.le_refl _⟩ (fun s e w11 hJ => ?_)
        obtain ⟨i5, lv5, todo5⟩ := s
        obtain ⟨hi5, hDI5, hpre5, hms5, hO11, hT11, hR11, hsz11⟩ := hJ
        dsimp only at hi5 hDI5 hpre5 hms5 hO11 hT11 hR11 ⊢
        refine k_seq ?_
        refine k_region ?_
        refine b_lss rfl rfl ?_
        refine o_nil ?_
        refine k_seq ?_
        refine k_cond rfl (fun h => ?_) (fun h => ?_)
        rotate_left
        ·
          have hie5 : i5 = (refsW ws at0).length := by omega
          rw [hie5, List.take_length] at hpre5
          refine k_exit rfl ?_
          refine k_blk ?_
          refine k_goal ⟨(lv5, todo5), ⟨rfl, rfl, rfl, rfl, trivial⟩, ⟨hDI5.done hpre5, hO11, hT11.mono (fun _ _ => trivial)⟩, by dsimp only; rw [hlt]; omega⟩
        have hin5 : i5 < (refsW ws at0).length := by omega
        obtain ⟨cc, hcc⟩ : ∃ cc, (refsW ws at0)[i5] = cc := ⟨_, rfl⟩
        have hcm : cc ∈ refsW ws at0 := by rw [← hcc]; exact List.getElem_mem _
        have hcr := hrl cc hcm
        obtain ⟨ρ, hρ⟩ : ∃ ρ : Nat, cc = ρ := ⟨cc.toNat, by omega⟩
        have hρn : ρ < ws.length := by omega
        have hx5 := iv_at (refsW ws at0) i5 hin5
        rw [hcc, hρ] at hx5
        obtain ⟨b5, o5, hae5, hc5⟩ := hR11 _ _ hx5
        subst hae5
        have hW11 := hW.new hO11.K
        obtain ⟨bw, ow', hae, hcw⟩ := hW11 _ _ (iv_at ws ρ hρn)
        subst hae
        obtain ⟨y, hy⟩ : ∃ y : Int, ws[ρ] = y := ⟨_, rfl⟩
        have hgy : ws.getD cc.toNat 0 = y := by rw [hρ, Int.toNat_natCast, getD_get ws ρ hρn, hy]
        have hym : y = 0 ∨ ∃ j : Nat, y = j ∧ 1 ≤ j ∧ j < ws.length := by
          have := hrq cc (hq ▸ hcm)
          rw [hgy] at this
          rcases List.mem_cons.1 this with e0 | e0
          · exact .inl e0
          · exact .inr (L_rng hbk e0)
        obtain ⟨yj, hyj, hyl⟩ : ∃ j : Nat, y = j ∧ j < 64 * n := by
          rcases hym with e0 | ⟨j, e0, _, e2⟩
          · exact ⟨0, e0, by omega⟩
          · exact ⟨j, e0, by omega⟩
        have hbd5 := hDI5.bnd
        have hpush := hDI5.push yj hyl (fun h0 => by
          have := Reach.step (ws := ws) (rts := rts) (a := at0) (c := cc) (hq ▸ hqR) hcm (by rw [hgy, hyj]; omega)
          rwa [hgy, hyj] at this)
        obtain ⟨hP1, hP2, hP3, hP4⟩ := hpush
        refine k_skip ?_
        refine k_seq ?_
        refine k_block ?_
        refine k_seq ?_
        refine k_region ?_
        refine o_ixs1 (m := i5) Tryd.underlying23 rfl rfl rfl hin5 ?_
        refine o_ld (v := iv (ρ : Int)) rfl rfl hc5 ?_
        refine m_int rfl rfl ?_
        refine o_nil ?_
        refine k_region ?_
        refine m_any rfl rfl ?_
        refine m_sl rfl rfl ?_
        refine m_int rfl rfl ?_
        refine o_ixs1 (m := ρ) Tryd.underlying22 rfl rfl rfl hρn ?_
        refine o_ld (v := iv (yj : Int)) rfl rfl (by rw [hcw, hy, hyj]; rfl) ?_
        refine o_callc (f := 78) (caps := [.pointer (some ⟨bh, 0, none⟩), .pointer (some ⟨bt, 0, none⟩)]) rfl rfl rfl (reach_ok kk w w11 hb bh bt gh gl n _ ws.length c hs lv5 todo5 yj hO11 hT11 (fun b hb => by rw [hkk]; intro z hz he; have h1 := hS10.lt z hz; omega) hkgl hDI5.len hn9 (by omega) (by omega)) (fun v w12 hv => ?_)
        obtain ⟨hO12, hT12, S12, hK12, hk12⟩ := hv
        have hR12 := hR11.keep hK12 (fun z hz hm => by have := hk12 _ hm; rw [hkk] at this; exact this z hz rfl)
        refine o_nil ?_
        refine k_blk ?_
        refine k_region ?_
        refine n_add rfl rfl (by omega) ?_
        refine m_int rfl rfl ?_
        refine o_nil ?_
        refine k_goal ⟨(i5 + 1, pushB lv5 yj, pushT lv5 todo5 yj), ⟨rfl, rfl, rfl, rfl, rfl, rfl, rfl, trivial⟩, ⟨by dsimp only; omega, hP1, ?_, by dsimp only; omega, hO12, hT12, hR12, Nat.le_trans hsz11 hK12.size⟩, by dsimp only; omega⟩
        dsimp only
        rw [List.take_succ_eq_append_getElem hin5, hcc]
        intro cc' hcc'
        rcases List.mem_append.1 hcc' with hm | hm
        · rcases hpre5 cc' hm with e0 | ⟨j, e0, hj⟩
          · exact .inl e0
          · exact .inr ⟨j, e0, hP3 j hj⟩
        · rw [List.mem_singleton.1 hm, hgy, hyj]
          rcases hP2 with e0 | e0
          · exact .inl e0
          · exact .inr ⟨yj, rfl, e0⟩
      have hjn : j3 < rts.length := by omega
      obtain ⟨r, hr⟩ : ∃ r, rts[j3] = r := ⟨_, rfl⟩
      have hrm : r ∈ rts := by rw [← hr]; exact List.getElem_mem _
      have hrr := hrk r hrm
      obtain ⟨rn, rfl⟩ : ∃ rn : Nat, r = rn := ⟨r.toNat, by omega⟩
      have hRr := hR.new hO7.K
      have hx7 := iv_at rts j3 hjn
      rw [hr] at hx7
      obtain ⟨b7, o7, hae7, hc7⟩ := hRr _ _ hx7
      subst hae7
      have hbd7 := hDI.bnd
      obtain ⟨hP1, hP2, hP3, hP4⟩ := hDI.push rn (by omega) (fun h0 => Reach.root hrm (by omega))
      refine k_skip ?_
      refine k_seq ?_
      refine k_block ?_
      refine k_seq ?_
      refine k_region ?_
      refine o_ixs1 (m := j3) Tryd.underlying23 rfl rfl rfl hjn ?_
      refine o_ld (v := iv (rn : Int)) rfl rfl hc7 ?_
      refine m_int rfl rfl ?_
      refine o_nil ?_
      refine k_region ?_
      refine m_any rfl rfl ?_
      refine m_int rfl rfl ?_
      refine o_callc (f := 78) (caps := [.pointer (some ⟨bh, 0, none⟩), .pointer (some ⟨bt, 0, none⟩)]) rfl rfl rfl (reach_ok (fun _ => True) w w7 hb bh bt gh gl n _ ws.length c hs lv todo rn hO7 hT7 (fun _ _ => trivial) trivial hDI.len hn9 (by omega) (by omega)) (fun v w8 hv => ?_)
      obtain ⟨hO8, hT8, _⟩ := hv
      refine o_nil ?_
      refine k_blk ?_
      refine k_region ?_
      refine n_add rfl rfl (by omega) ?_
      refine m_int rfl rfl ?_
      refine o_nil ?_
      refine k_goal ⟨(j3 + 1, pushB lv rn, pushT lv todo rn), ⟨rfl, rfl, rfl, rfl, rfl, rfl, rfl, trivial⟩, ⟨by dsimp only; omega, ?_, hO8, hT8⟩, by dsimp only; omega⟩
      dsimp only
      rw [List.take_succ_eq_append_getElem hjn, hr]
      exact hP1.root (hP2.elim .inl (fun e0 => .inr ⟨rn, rfl, e0⟩))
    have hjn : j < rts.length := by omega
    obtain ⟨r, hr⟩ : ∃ r, rts[j] = r := ⟨_, rfl⟩
    have hrm : r ∈ rts := by rw [← hr]; exact List.getElem_mem _
    have hRr := hR.new hO4.K
    have hx7 := iv_at rts j hjn
    rw [hr] at hx7
    obtain ⟨b7, o7, hae7, hc7⟩ := hRr _ _ hx7
    subst hae7
    refine k_skip ?_
    refine k_seq ?_
    refine k_block ?_
    refine k_seq ?_
    refine k_region ?_
    refine o_ixs1 (m := j) Tryd.underlying23 rfl rfl rfl hjn ?_
    refine o_ld (v := iv r) rfl rfl hc7 ?_
    refine m_int rfl rfl ?_
    refine o_nil ?_
    refine k_seq ?_
    refine k_region ?_
    refine m_int rfl rfl ?_
    refine b_lss rfl rfl ?_
    refine m_bool rfl rfl ?_
    refine o_split (t := 61) rfl (fun h => ?_) (fun h => ?_)
    ·
      refine g_no rfl rfl rfl ?_
      refine g_no rfl rfl rfl ?_
      refine g_no rfl rfl rfl ?_
      refine g_no rfl rfl rfl ?_
      refine pick_t rfl rfl ?_
      refine m_bool rfl rfl ?_
      refine g_no rfl rfl rfl ?_
      refine g_no rfl rfl rfl ?_
      refine g_no rfl rfl rfl ?_
      refine g_un rfl rfl ?_
      refine g_un rfl rfl ?_
      refine g_un rfl rfl ?_
      refine g_un rfl rfl ?_
      refine g_un rfl rfl ?_
      refine g_un rfl rfl ?_
      refine g_un rfl rfl ?_
      refine g_no rfl rfl rfl ?_
      refine pick_t rfl rfl ?_
      refine o_nil ?_
      refine k_condt rfl ?_
      refine k_seq ?_
      refine k_region ?_
      refine m_ptr rfl rfl ?_
      refine m_int rfl rfl ?_
      refine o_nil ?_
      refine k_ret (ret_tmps (ts := [4, 5]) (v := .tuple #[.pointer _, .int _ _]) rfl rfl ?_)
      exact open_bad hbk (fun hh => by have := hh r hrm; omega) hO4.K
    ·
      have h61 := h
      refine g_yes rfl rfl ?_
      refine m_int rfl rfl ?_
      refine g_yes rfl rfl ?_
      refine m_sl rfl rfl ?_
      refine g_yes rfl rfl ?_
      refine o_lens Tryd.underlying22 rfl ?_
      refine g_yes rfl rfl ?_
      refine b_geq rfl rfl ?_
      refine pick_f rfl rfl ?_
      refine m_bool rfl rfl ?_
      refine o_split (t := 67) rfl (fun h => ?_) (fun h => ?_)
      ·
        refine g_no rfl rfl rfl ?_
        refine g_no rfl rfl rfl ?_
        refine g_no rfl rfl rfl ?_
        refine g_un rfl rfl ?_
        refine g_un rfl rfl ?_
        refine g_un rfl rfl ?_
        refine g_un rfl rfl ?_
        refine g_un rfl rfl ?_
        refine g_un rfl rfl ?_
        refine g_un rfl rfl ?_
        refine g_no rfl rfl rfl ?_
        refine pick_t rfl rfl ?_
        refine o_nil ?_
        refine k_condt rfl ?_
        refine k_seq ?_
        refine k_region ?_
        refine m_ptr rfl rfl ?_
        refine m_int rfl rfl ?_
        refine o_nil ?_
        refine k_ret (ret_tmps (ts := [4, 5]) (v := .tuple #[.pointer _, .int _ _]) rfl rfl ?_)
        exact open_bad hbk (fun hh => by have := hh r hrm; omega) hO4.K
      ·
        have h67 := h
        refine g_yes rfl rfl ?_
        refine m_int rfl rfl ?_
        refine g_yes rfl rfl ?_
        refine b_gtr rfl rfl ?_
        refine g_yes rfl rfl ?_
        refine m_bool rfl rfl ?_
        refine o_split (t := 70) rfl (fun h => ?_) (fun h => ?_)
        ·
          have h70 := h
          obtain ⟨rn, rfl⟩ : ∃ rn : Nat, r = rn := ⟨r.toNat, by omega⟩
          refine g_yes rfl rfl ?_
          refine o_ld (v := .pointer (some ⟨hb, 0, none⟩)) rfl rfl (hO4.H.at rfl) ?_
          refine g_yes rfl rfl ?_
          refine o_nilc rfl ?_
          refine g_yes rfl rfl ?_
          refine o_fld (off := 1) rfl rfl ?_
          refine g_yes rfl rfl ?_
          refine o_ld (v := .slice (some ⟨gh, 0, none⟩) n n) rfl rfl (hO4.B.at rfl) ?_
          refine g_yes rfl rfl ?_
          refine m_int rfl rfl ?_
          refine g_yes rfl rfl ?_
          refine o_call rfl rfl (has_ok w4 gh n hs rn hO4.sh hls (by omega) hn9) (fun v w6 hv => ?_)
          obtain ⟨rfl, rfl⟩ := hv
          refine g_yes rfl rfl ?_
          refine u_notb rfl ?_
          refine g_yes rfl rfl ?_
          refine pick_t rfl rfl ?_
          refine pick_f rfl rfl ?_
          refine o_nil ?_
          refine k_condb rfl (fun h => ?_) (fun h => ?_)
          ·
            refine k_seq ?_
            refine k_region ?_
            refine m_ptr rfl rfl ?_
            refine m_int rfl rfl ?_
            refine o_nil ?_
            refine k_ret (ret_tmps (ts := [4, 5]) (v := .tuple #[.pointer _, .int _ _]) rfl rfl ?_)
            exact open_bad hbk (fun hh => by have h1 := (hh _ hrm).2.2 h70; have := (hmem rn).2 h1; rw [this] at h; cases h) hO4.K
          refine k_skip ?_
          refine k_blk ?_
          refine k_region ?_
          refine n_add rfl rfl (by omega) ?_
          refine m_int rfl rfl ?_
          refine o_nil ?_
          refine k_goal ⟨j + 1, ⟨rfl, rfl, rfl, rfl, rfl, rfl, trivial⟩, ⟨by omega, rfl, ?_⟩, by omega⟩
          rw [List.take_succ_eq_append_getElem hjn, hr]
          intro r' hr'
          rcases List.mem_append.1 hr' with hm | hm
          · exact hpre r' hm
          · rw [List.mem_singleton.1 hm]
            exact ⟨by omega, by omega, fun _ => (hmem rn).1 (by simpa using h)⟩
        ·
          refine g_no rfl rfl rfl ?_
          refine g_no rfl rfl rfl ?_
          refine g_no rfl rfl rfl ?_
          refine g_no rfl rfl rfl ?_
          refine g_no rfl rfl rfl ?_
          refine g_no rfl rfl rfl ?_
          refine g_no rfl rfl rfl ?_
          refine g_yes rfl rfl ?_
          refine pick_f rfl rfl ?_
          refine pick_f rfl rfl ?_
          refine o_nil ?_
          refine k_condf rfl ?_
          refine k_skip ?_
          refine k_blk ?_
          refine k_region ?_
          refine n_add rfl rfl (by omega) ?_
          refine m_int rfl rfl ?_
          refine o_nil ?_
          refine k_goal ⟨j + 1, ⟨rfl, rfl, rfl, rfl, rfl, rfl, trivial⟩, ⟨by omega, rfl, ?_⟩, by omega⟩
          rw [List.take_succ_eq_append_getElem hjn, hr]
          intro r' hr'
          rcases List.mem_append.1 hr' with hm | hm
          · exact hpre r' hm
          · rw [List.mem_singleton.1 hm]
            exact ⟨by omega, by omega, fun hh => absurd hh h⟩
  have hLm := sl_max hS4
  have hil : i < L.length := by omega
  obtain ⟨x, hx⟩ : ∃ x, L[i] = x := ⟨_, rfl⟩
  have hxL : x ∈ L := by rw [← hx]; exact List.getElem_mem _
  obtain ⟨xk, hxk, hxk1, hxk2⟩ := L_rng hbk hxL
  subst hxk
  have hSr := hS4.rd
  have hxi := iv_at L i hil
  rw [hx] at hxi
  obtain ⟨b5, o5, hae5, hc5⟩ := hSr _ _ hxi
  subst hae5
  refine k_skip ?_
  refine k_seq ?_
  refine k_block ?_
  refine k_seq ?_
  refine k_region ?_
  refine o_ixs1 (m := i) Tryd.underlying23 rfl rfl rfl hil ?_
  refine o_ld (v := iv (xk : Int)) rfl rfl hc5 ?_
  refine m_int rfl rfl ?_
  refine o_nil ?_
  refine k_region ?_
  refine o_ld (v := .pointer (some ⟨hb, 0, none⟩)) rfl rfl (hO4.H.at rfl) ?_
  refine o_nilc rfl ?_
  refine o_fld (off := 1) rfl rfl ?_
  refine o_ld (v := .slice (some ⟨gh, 0, none⟩) n n) rfl rfl (hO4.B.at rfl) ?_
  refine m_int rfl rfl ?_
  refine o_call rfl rfl (with_ok w4 gh n hs xk hO4.sh hls (by omega) hn9) (fun v w5 hv => ?_)
  obtain ⟨rfl, hSh5, hK5, hZ5⟩ := hv
  obtain ⟨gg, cur, e1, hBg, _⟩ := hO4.sh.blk (by omega)
  cases e1
  refine o_nil ?_
  refine k_blk ?_
  refine k_region ?_
  refine n_add rfl rfl (by omega) ?_
  refine m_int rfl rfl ?_
  refine o_nil ?_
  refine k_goal ⟨(i + 1, setB hs xk), ⟨rfl, rfl, rfl, rfl, rfl, rfl, trivial⟩, ⟨by dsimp only; omega, hO4.heads hK5 hSh5 (by omega), by dsimp only; rw [setB_len]; exact hls, fun k => ?_, hS4.keep hK5 (hS4.off hBg (by decide))⟩, by dsimp only; omega⟩
  dsimp only
  rw [memB_set _ _ _ (by omega), Bool.or_eq_true, hmem, List.take_succ_eq_append_getElem hil, hx, List.mem_append, List.mem_singleton]
  constructor
  · rintro (hh | hh)
    · exact .inl hh
    · exact .inr (by rw [of_decide_eq_true hh])
  · rintro (hh | hh)
    · exact .inl hh
    · exact .inr (decide_eq_true (by omega))
end Go.Proofs.YtchbidckckmobaaDoor

/- slide.Mark. No condition beyond what each contract names. -/
namespace Go.Proofs.YtchbidckckmobaaDoor
open Go.RowKit E
set_option linter.unusedVariables false
set_option linter.unusedSimpArgs false
set_option maxRecDepth 100000
attribute [local irreducible] ow qw kw kq cw opW Ret
theorem open_cases {w w' : World} {v : Value} {ws rts : List Int} {a : Option Addr} {c : Nat} (h : OpenRes w w' v ws rts a c) : ∃ er p, v = .tuple #[.pointer p, .int .i64 er] ∧ Keep [] w w' ∧
    ((er = 24 ∧ blocksW ws = none) ∨ (er = 1 ∧ ∃ L, blocksW ws = some L ∧ ¬ rootsOk ws L rts) ∨ (er = 0 ∧ ∃ L, blocksW ws = some L ∧ rootsOk ws L rts ∧ ∃ hb gl n s1 lv, p = some ⟨hb, 0, none⟩ ∧ Blk w' hb #[.slice a ws.length c, s1, .slice (some ⟨gl, 0, none⟩) n n] 117 ∧ Sl w' 105 1 (some ⟨gl, 0, none⟩) n n (lv.map u64v) ∧
      lv.length = n ∧ n ≤ 1000000000 ∧ IsLive ws rts (memA lv n) ∧ w.heap.size ≤ hb ∧ w.heap.size ≤ gl)) := by
  unfold OpenRes at h
  cases hb : blocksW ws with
  | none => rw [hb] at h; exact ⟨24, none, h.1, h.2, .inl ⟨rfl, rfl⟩⟩
  | some L =>
    rw [hb] at h
    by_cases hr : rootsOk ws L rts
    · obtain ⟨hb, gl, n, s1, lv, rfl, h1, h2, h3, h4, h5, h6, h7, h8⟩ := h.2 hr
      exact ⟨0, _, rfl, h8, .inr (.inr ⟨rfl, L, rfl, hr, hb, gl, n, s1, lv, rfl, h1, h2, h3, h4, h5, h6, h7⟩)⟩
    · obtain ⟨rfl, hK⟩ := h.1 hr
      exact ⟨1, none, rfl, hK, .inr (.inl ⟨rfl, L, rfl, hr⟩)⟩
/-- what Mark answers -/
def MarkRes (w w' : World) (v : Value) (ws rts : List Int) : Prop :=
  ∃ er LV a2 c2, v = .tuple #[.slice a2 LV.length c2, .int .i64 er] ∧ Rd w' a2 (LV.map iv) ∧ (LV.length ≤ 9223372036854775807 ∧ ∀ z, a2 = some z → w.heap.size ≤ z.block) ∧ Keep [] w w' ∧
    ((er = 24 ∧ LV = [] ∧ blocksW ws = none) ∨ (er = 1 ∧ LV = [] ∧ ∃ L, blocksW ws = some L ∧ ¬ rootsOk ws L rts) ∨ (er = 0 ∧ IsLive ws rts LV ∧ ∃ L, blocksW ws = some L ∧ rootsOk ws L rts))
theorem TD.ko {k : Nat → Prop} {w0 w w' : World} {bt m : Nat} {todo : List Int} (h : TD k w0 w bt todo) (hK : KeepO bk m w w') : TD k w0 w' bt todo := by
  obtain ⟨ta, tc, h1, h2, h3⟩ := h
  exact ⟨ta, tc, h1.ko hK, h2.ko hK, h3⟩
/-- one more number in a variable that holds a list -/
theorem smark_ok (w : World) (a ra : Option Addr) (c rc : Nat) (ws rts : List Int) (hW : Rd w a (ws.map iv)) (hR : Rd w ra (rts.map iv)) (hlw : ws.length ≤ 1000000) (hlr : rts.length ≤ 1000000) (ht : TabTz w) :
    Ret Tryd.prog 17 [.slice a ws.length c, .slice ra rts.length rc] w (fun v w' => MarkRes w w' v ws rts) := by
  refine fn_enter (n := 27) Tryd.func17 rfl rfl (Nat.le_of_ble_eq_true rfl) (fun e => ?_)
  refine k_seq ?_
  refine k_region ?_
  refine m_sl rfl rfl ?_
  refine m_int rfl rfl ?_
  refine o_nil ?_
  refine k_seq ?_
  refine k_region ?_
  refine m_sl rfl rfl ?_
  refine m_sl rfl rfl ?_
  refine o_call rfl rfl (sopen_ok w a ra c rc ws rts hW hR hlw hlr) (fun v w1 hv => ?_)
  obtain ⟨er, p, rfl, hK1, hcs⟩ := open_cases hv
  clear hv
  refine m_any rfl rfl ?_
  refine o_extr rfl rfl ?_
  refine o_extr rfl rfl ?_
  refine m_ptr rfl rfl ?_
  refine m_int rfl rfl ?_
  refine o_nil ?_
  refine k_seq ?_
  refine k_seq ?_
  refine k_region ?_
  refine m_int rfl rfl ?_
  refine b_neq rfl rfl ?_
  refine o_nil ?_
  refine k_cond rfl (fun h => ?_) (fun h => ?_)
  ·
    refine k_seq ?_
    refine k_region ?_
    refine m_int rfl rfl ?_
    refine m_sl rfl rfl ?_
    refine m_int rfl rfl ?_
    refine o_nil ?_
    refine k_ret (ret_tmps (ts := [4, 5]) (v := .tuple #[.slice _ _ _, .int _ _]) rfl rfl ?_)
    refine ⟨er, [], none, 0, rfl, Rd.nil _ _, ⟨by simp, fun z hz => (by cases hz)⟩, hK1, ?_⟩
    rcases hcs with ⟨h1, h2⟩ | ⟨h1, h2⟩ | ⟨h1, h2⟩
    · exact .inl ⟨h1, rfl, h2⟩
    · exact .inr (.inl ⟨h1, rfl, h2⟩)
    · exact absurd h1 h
  obtain ⟨h0, L, hbk, hrk, hb, gl, n, s1, lv, rfl, hB1, hS1, hll, hn9, hlive, hfb, hfl⟩ := (hcs.resolve_left (fun hh => by have := hh.1; omega)).resolve_left (fun hh => by have := hh.1; omega)
  subst h0
  refine k_skip ?_
  refine k_seq ?_
  refine k_region ?_
  refine o_alloc inf23 rfl (fun bt w2 hB2 hK2 hb2 hZ2 => ?_)
  have hT2 : TD (fun _ => True) w w2 bt [] := ⟨none, 0, hB2, Sl.nil _ _ _, fun z hz => (by cases hz), by have := hK1.size; omega, trivial⟩
  have hB2' := hB1.keep hK2 (by simp)
  have hS2' := hS1.new hK2
  have hK02 := hK1.tr hK2
  refine o_nil ?_
  refine k_seq ?_
  refine k_seq ?_
  refine k_region ?_
  refine m_ptr rfl rfl ?_
  refine o_mkfnb rfl ?_
  refine o_nil ?_
  refine k_block ?_
  refine k_range (f := 63) (bs := [.pointer (some ⟨hb, 0, none⟩)]) (memA lv n) (fun pre W => TD (fun _ => True) w W bt pre ∧ Blk W hb #[.slice a ws.length c, s1, .slice (some ⟨gl, 0, none⟩) n n] 117 ∧ Sl W 105 1 (some ⟨gl, 0, none⟩) n n (lv.map u64v) ∧ Keep [] w W) rfl rfl (fun pre W W' hI hk => ⟨hI.1.ko hk.bk, hI.2.1.ko hk.bk, hI.2.2.1.ko hk.bk, hk.below hI.2.2.2 hK02.size⟩) ⟨hT2, hB2', hS2', hK02⟩ (fun l W1 J hJI hst hY hJ0 => each_ok W1 hb gl n l _ s1 lv J hll hn9 (fun pre W h => ⟨(hJI _ _ h).2.1, (hJI _ _ h).2.2.1, ht.new (hJI _ _ h).2.2.2⟩) hY hJ0) (fun l pre x post W hlst hI => ?_) (fun D W4 hI4 hD4 hle4 => ?_)
  ·
    refine k_region ?_
    refine m_int rfl rfl ?_
    refine o_nil ?_
    refine k_goal ⟨rfl, fun W2 hI2 => ?_⟩
    obtain ⟨⟨ta, tc, hBt, hSt, hft, hfb', _⟩, hBb, hSb, hKW⟩ := hI2
    have hpl : pre.length ≤ 64 * n := by
      have h1 := memA_up lv n
      have h2 : (memA lv n).length ≤ 64 * n := by
        have : ∀ m, (memA lv m).length ≤ 64 * m := by
          intro m
          induction m with
          | zero => simp [memA]
          | succ m ih =>
            rw [memA_succ, List.length_append]
            have : (memL m (lv.getD m 0#64)).length ≤ 64 := by
              unfold memL
              rw [List.length_map]
              exact Nat.le_trans (List.length_filter_le _ _) (by simp)
            omega
        exact this n
      rw [hlst] at h2
      simp at h2
      omega
    refine k_block ?_
    refine k_region ?_
    refine o_ld (v := .slice ta pre.length tc) rfl rfl (hBt.at rfl) ?_
    refine m_int rfl rfl ?_
    refine o_bsl (E := 3) (cs := #[iv x]) rfl (fun _ => by kernel_rfl) (fun g5 w5 hB5 hK5 hb5 hZ5 => ?_)
    refine o_app Tryd.underlying23 inf3 rfl (by decide) rfl rfl (hSt.new hK5) hB5.rd rfl (by simp [iv, Value.oneCell']) (by simp [maxLen]; omega) (by omega) (fun a6 c6 w6 hS6 hK6 hv6 => ?_)
    have hBt6 := (hBt.keep hK5 (by simp)).keep hK6 ((hSt.new hK5).notin (hBt.keep hK5 (by simp)) (by decide))
    have hf6 := own_app (k := fun b => w.heap.size ≤ b ∧ True) (w := w5) (w' := w6) (a := ta) (a2 := a6) hft (fun b hb => ⟨Nat.le_trans (hKW.tr hK5).size hb, trivial⟩) hv6
    refine o_st (v := .slice a6 (pre.length + 1) c6) rfl rfl rfl rfl hBt6 (show 0 < 1 by decide) (fun w7 hB7 hK7 hZ7 => ?_)
    have hB7' : Blk w7 bt #[.slice a6 (pre.length + 1) c6] 23 := hB7
    have hS7 : Sl w7 3 1 a6 (pre.length + 1) c6 ((pre ++ [x]).map iv) := by rw [List.map_append]; exact hS6.keep hK7 (hS6.off hBt6 (by decide))
    have hKC : KeepC W2 w7 := ((Keep.c hK5).tr (Keep.cs hK6 (hSt.new hK5))).tr (Keep.cb hK7 hBt6)
    have hBb7 := ((hBb.keep hK5 (by simp)).keep hK6 ((hSt.new hK5).notin (hBb.keep hK5 (by simp)) (by decide))).keep hK7 (fun hm => by rw [List.mem_singleton] at hm; subst hm; exact absurd (hBb.ty hBt) (by decide))
    have hSb6 : Sl w6 105 1 (some ⟨gl, 0, none⟩) n n (lv.map u64v) := by
      obtain ⟨ga, cura, hae, hBa, hga⟩ : ∃ ga cura, some (⟨gl, 0, none⟩ : Addr) = some ⟨ga, 0, none⟩ ∧ Blk w5 ga cura 105 ∧ True := by
        rcases (hSb.new hK5).2 with ⟨h0, _⟩ | ⟨g, cur, h0, hB, _⟩
        · cases h0
        · exact ⟨g, cur, h0, hB, trivial⟩
      cases hae
      exact (hSb.new hK5).keep hK6 (fun z hz hm => by cases hz; exact (hSt.new hK5).notin hBa (by decide) hm)
    have hSb7 := hSb6.keep hK7 (hSb6.off hBt6 (by decide))
    have hK07 : Keep [] w w7 := ((hKW.tr hK5).trb hK6 (fun z hz => (hft z hz).1)).tr1 hK7 hfb'
    refine o_nil ?_
    refine k_blk ?_
    refine k_goal ⟨⟨⟨a6, c6, by simpa using hB7', by simpa using hS7, hf6, hfb', trivial⟩, hBb7, hSb7, hK07⟩, hKC⟩
  obtain ⟨⟨ta, tc, hBt, hSt, hft, hfb', _⟩, hBb, hSb, hKW⟩ := hI4
  refine k_blk ?_
  refine k_seq ?_
  refine k_region ?_
  refine o_ld (v := .slice ta (memA lv n).length tc) rfl rfl (hBt.at rfl) ?_
  refine m_sl rfl rfl ?_
  refine m_int rfl rfl ?_
  refine o_nil ?_
  refine k_ret (ret_mark1 (ts := [4, 5]) (v := .tuple #[.slice ta (memA lv n).length tc, .int .i64 0]) hD4 rfl rfl (fun w9 hk9 => ?_))
  exact ⟨0, _, ta, tc, rfl, (hSt.ko hk9.bm).rd, ⟨sl_max hSt, fun z hz => (hft z hz).1⟩, hk9.below hKW (by have := hK02.size; omega), .inr (.inr ⟨rfl, hlive, L, hbk, hrk⟩)⟩
end Go.Proofs.YtchbidckckmobaaDoor

/- What a collection makes of words, plain. No condition beyond what each lemma names. -/
namespace Go.Proofs.YtchbidckckmobaaDoor
open Go.RowKit E
set_option linter.unusedVariables false
set_option linter.unusedSimpArgs false
set_option maxRecDepth 100000
attribute [local irreducible] ow qw kw kq cw opW Ret
def nOf (ws : List Int) (y : Int) : Int := (openW (ws.getD y.toNat 0)).2.2.1
def szN (ws : List Int) (y : Int) : Nat := 1 + (nOf ws y).toNat
/-- where a block comes to lie; 0 where none of the list is there -/
def adr (ws : List Int) : List Int → Nat → Int → Int
  | [], _, _ => 0
  | y :: ys, nx, x => if x = y then (nx : Int) else adr ws ys (nx + szN ws y) x
def sumN (ws : List Int) : List Int → Nat
  | [] => 0
  | y :: ys => szN ws y + sumN ws ys
/-- a block's words, of whose references those of rs are turned -/
def midB (ws LV rs : List Int) (y : Int) : List Int := (List.range (szN ws y)).map fun (k : Nat) => if y + (k : Int) ∈ rs then adr ws LV 1 (ws.getD (y.toNat + k) 0) else ws.getD (y.toNat + k) 0
def oldB (ws : List Int) (y : Int) : List Int := (List.range (szN ws y)).map fun (k : Nat) => ws.getD (y.toNat + k) 0
def newB (ws LV : List Int) (y : Int) : List Int := midB ws LV (refsW ws y) y
def outW (ws LV : List Int) : List Int := 0 :: LV.flatMap (newB ws LV)
theorem midB_len (ws LV rs : List Int) (y : Int) : (midB ws LV rs y).length = szN ws y := by simp [midB]
theorem oldB_len (ws : List Int) (y : Int) : (oldB ws y).length = szN ws y := by simp [oldB]
theorem newB_len (ws LV : List Int) (y : Int) : (newB ws LV y).length = szN ws y := midB_len _ _ _ _
theorem midB_nil (ws LV : List Int) (y : Int) : midB ws LV [] y = oldB ws y := by simp [midB, oldB]
theorem sumN_app (ws xs ys : List Int) : sumN ws (xs ++ ys) = sumN ws xs + sumN ws ys := by
  induction xs with
  | nil => simp [sumN]
  | cons x xs ih => simp only [List.cons_append, sumN, ih]; omega
theorem flat_len (ws : List Int) (f : Int → List Int) (hf : ∀ y, (f y).length = szN ws y) (xs : List Int) : (xs.flatMap f).length = sumN ws xs := by
  induction xs with
  | nil => rfl
  | cons x xs ih => rw [List.flatMap_cons, List.length_append, hf, ih]; rfl
theorem adr_app (ws pre post : List Int) (nx : Nat) (x : Int) : adr ws (pre ++ post) nx x = if x ∈ pre then adr ws pre nx x else adr ws post (nx + sumN ws pre) x := by
  induction pre generalizing nx with
  | nil => simp [sumN]
  | cons y ys ih =>
    rw [List.cons_append]
    show (if x = y then (nx : Int) else adr ws (ys ++ post) (nx + szN ws y) x) = if x ∈ y :: ys then (if x = y then (nx : Int) else adr ws ys (nx + szN ws y) x) else adr ws post (nx + (szN ws y + sumN ws ys)) x
    by_cases hxy : x = y
    · rw [if_pos hxy, if_pos (by simp [hxy]), if_pos hxy]
    · rw [if_neg hxy, if_neg hxy, ih]
      by_cases hm : x ∈ ys
      · rw [if_pos hm, if_pos (by simp [hm])]
      · rw [if_neg hm, if_neg (by simp [hxy, hm]), Nat.add_assoc]
theorem adr_out (ws xs : List Int) (nx : Nat) (x : Int) (h : x ∉ xs) : adr ws xs nx x = 0 := by
  induction xs generalizing nx with
  | nil => rfl
  | cons y ys ih =>
    simp only [List.mem_cons, not_or] at h
    show (if x = y then (nx : Int) else adr ws ys (nx + szN ws y) x) = 0
    rw [if_neg h.1, ih _ h.2]
theorem adr_mid (ws pre post : List Int) (y : Int) (h : y ∉ pre) : adr ws (pre ++ y :: post) 1 y = ((1 + sumN ws pre : Nat) : Int) := by
  rw [adr_app, if_neg h]
  show (if y = y then ((1 + sumN ws pre : Nat) : Int) else _) = _
  rw [if_pos rfl]
theorem adr_snoc (ws pre : List Int) (y x : Int) (h : y ∉ pre) : adr ws (pre ++ [y]) 1 x = if x = y then ((1 + sumN ws pre : Nat) : Int) else adr ws pre 1 x := by
  rw [adr_app]
  by_cases hx : x ∈ pre
  · rw [if_pos hx, if_neg (show ¬ x = y from fun e => h (e ▸ hx))]
  · rw [if_neg hx]
    show (if x = y then ((1 + sumN ws pre : Nat) : Int) else 0) = _
    by_cases hxy : x = y
    · rw [if_pos hxy, if_pos hxy]
    · rw [if_neg hxy, if_neg hxy, adr_out ws pre 1 x hx]
theorem adr_rng (ws xs : List Int) (nx : Nat) (x : Int) : 0 ≤ adr ws xs nx x ∧ adr ws xs nx x ≤ (nx + sumN ws xs : Nat) := by
  induction xs generalizing nx with
  | nil => exact ⟨Int.le_refl _, by show (0 : Int) ≤ _; omega⟩
  | cons y ys ih =>
    show 0 ≤ (if x = y then (nx : Int) else adr ws ys (nx + szN ws y) x) ∧ (if x = y then (nx : Int) else adr ws ys (nx + szN ws y) x) ≤ ((nx + (szN ws y + sumN ws ys) : Nat) : Int)
    split
    · omega
    · have := ih (nx + szN ws y); omega
/-- a block of an arena -/
theorem blk_at {ws L : List Int} (hb : blocksW ws = some L) {x : Int} (hx : x ∈ L) : ∃ (k : Nat) (hk : k < ws.length), x = k ∧ 1 ≤ k ∧ (openW (ws[k])).2.2.2.2 = 0 ∧ ∃ m : Nat, (openW (ws[k])).2.2.1 = (m : Int) ∧ nOf ws x = m ∧ szN ws x = 1 + m ∧ k + 1 + m ≤ ws.length ∧ m ≤ 65536 := by
  obtain ⟨h0, hz, hc, hrf⟩ := blocks_ch hb
  obtain ⟨k, hk, rfl, h1, h2⟩ := chain_ok' ws _ 1 (Nat.le_refl _) L hc x hx
  have h3 := chain_ge hc _ hx
  have hF := open_f _ h1
  have hn0 := hF.n0
  have hn1 := hF.n1
  obtain ⟨m, hm⟩ : ∃ m : Nat, (openW (ws[k])).2.2.1 = (m : Int) := ⟨_, (Int.toNat_of_nonneg hn0).symm⟩
  have hno : nOf ws (k : Int) = m := by unfold nOf; rw [Int.toNat_natCast, getD_get ws k hk]; exact hm
  exact ⟨k, hk, rfl, by omega, h1, m, hm, hno, by unfold szN; rw [hno]; omega, by omega, by omega⟩
theorem refs_in {ws : List Int} {k m : Nat} (hk : k < ws.length) (hm : (openW (ws[k])).2.2.1 = (m : Int)) {r : Int} (hr : r ∈ refsW ws (k : Int)) : ∃ j : Nat, r = (k : Int) + j ∧ 1 ≤ j ∧ j ≤ m := by
  rw [refsW_at ws k hk] at hr
  unfold refsO at hr
  split at hr
  · have := refU_lt _ _ _ _ r hr
    rw [hm] at this
    exact ⟨(r - k).toNat, by omega, by omega, by omega⟩
  · simp at hr
theorem sumN_le {ws : List Int} {xs : List Int} (h : ∀ x ∈ xs, szN ws x ≤ 65537) : sumN ws xs ≤ 65537 * xs.length := by
  induction xs with
  | nil => simp [sumN]
  | cons x xs ih =>
    have h1 := h x (by simp)
    have h2 := ih (fun y hy => h y (by simp [hy]))
    simp only [sumN, List.length_cons]
    omega
/-- one more reference is turned -/
theorem midB_set (ws LV rs : List Int) (y : Int) (k : Nat) (hk : k < szN ws y) : (midB ws LV rs y).set k (adr ws LV 1 (ws.getD (y.toNat + k) 0)) = midB ws LV (rs ++ [y + (k : Int)]) y := by
  apply List.ext_getElem
  · simp [midB]
  · intro j h1 h2
    rw [List.getElem_set]
    simp only [midB, List.getElem_map, List.getElem_range]
    by_cases hkj : k = j
    · subst hkj; rw [if_pos rfl, if_pos (by simp)]
    · rw [if_neg hkj]
      by_cases hm : y + (j : Int) ∈ rs
      · rw [if_pos hm, if_pos (by simp [hm])]
      · rw [if_neg hm, if_neg (by simp [hm]; omega)]
theorem set_mid {α : Type} (A B C : List α) (k : Nat) (v : α) (hk : k < B.length) : (A ++ B ++ C).set (A.length + k) v = A ++ B.set k v ++ C := by
  rw [List.set_append_left _ _ (by simp; omega), List.set_append_right _ _ (by omega), Nat.add_sub_cancel_left]
theorem oldB_take (ws : List Int) (k m : Nat) (h : k + 1 + m ≤ ws.length) (hs : szN ws (k : Int) = 1 + m) : oldB ws (k : Int) = ((ws.drop k).take (1 + m)) := by
  apply List.ext_getElem
  · simp [oldB, hs]; omega
  · intro j h1 h2
    simp only [oldB, List.getElem_map, List.getElem_range, List.getElem_take, List.getElem_drop, Int.toNat_natCast]
    rw [getD_get]
theorem up_notin {pre post : List Int} {x : Int} (h : (pre ++ x :: post).Pairwise (· < ·)) : x ∉ pre := by
  intro hm
  have := (List.pairwise_append.1 h).2.2 x hm x (by simp)
  omega
theorem memA_len (lv : List (BitVec 64)) (n : Nat) : (memA lv n).length ≤ 64 * n := by
  induction n with
  | zero => simp [memA]
  | succ n ih =>
    rw [memA_succ, List.length_append]
    have : (memL n (lv.getD n 0#64)).length ≤ 64 := by
      unfold memL
      rw [List.length_map]
      exact Nat.le_trans (List.length_filter_le _ _) (by simp)
    omega
theorem up_len : ∀ (xs : List Int) (lo : Int) (N : Nat), xs.Pairwise (· < ·) → (∀ x ∈ xs, lo ≤ x ∧ x < N) → lo ≤ N → (xs.length : Int) ≤ N - lo
  | [], lo, N, _, _, h => by simp; omega
  | x :: xs, lo, N, hp, hx, h => by
    rw [List.pairwise_cons] at hp
    have h1 := hx x (by simp)
    have := up_len xs (x + 1) N hp.2 (fun y hy => ⟨by have := hp.1 y hy; omega, (hx y (by simp [hy])).2⟩) (by omega)
    simp only [List.length_cons]
    push_cast
    omega
theorem live_len {ws L xs : List Int} (hb : blocksW ws = some L) (hp : xs.Pairwise (· < ·)) (hx : ∀ x ∈ xs, x ∈ L) : xs.length ≤ ws.length := by
  have h := up_len xs 0 ws.length hp (fun x h => by obtain ⟨k, rfl, h1, h2⟩ := L_rng hb (hx x h); omega) (by omega)
  omega
end Go.Proofs.YtchbidckckmobaaDoor

/- slide.Collect. No condition beyond what each contract names. -/
namespace Go.Proofs.YtchbidckckmobaaDoor
open Go.RowKit E
set_option linter.unusedVariables false
set_option linter.unusedSimpArgs false
set_option maxRecDepth 100000
attribute [local irreducible] ow qw kw kq cw opW Ret
/-- what Collect answers -/
def CollRes (w w' : World) (v : Value) (ws rts : List Int) : Prop :=
  ∃ er xs rs a2 c2 a3 c3, v = .tuple #[.slice a2 xs.length c2, .slice a3 rs.length c3, .int .i64 er] ∧ Sl w' 2 1 a2 xs.length c2 (xs.map iv) ∧ ((∀ z, a2 = some z → w.heap.size ≤ z.block) ∧ ∀ z, a3 = some z → w.heap.size ≤ z.block) ∧ Rd w' a3 (rs.map iv) ∧ rs.length ≤ 9223372036854775807 ∧ Keep [] w w' ∧
    ((er = 24 ∧ xs = [] ∧ rs = [] ∧ blocksW ws = none) ∨ (er = 1 ∧ xs = [] ∧ rs = [] ∧ ∃ L, blocksW ws = some L ∧ ¬ rootsOk ws L rts) ∨
      (er = 0 ∧ ∃ L LV, blocksW ws = some L ∧ rootsOk ws L rts ∧ IsLive ws rts LV ∧ xs = outW ws LV ∧ rs = rts.map (adr ws LV 1)))
structure CS (w W : World) (hb gl n bw bm bo r : Nat) (a : Option Addr) (wl c : Nat) (s1 : Value) (lv : List (BitVec 64)) (mm : List (Int × Value)) (oa : Option Addr) (oc : Nat) (out : List Int) : Prop where
  BB : Blk W hb #[.slice a wl c, s1, .slice (some ⟨gl, 0, none⟩) n n] 117
  SB : Sl W 105 1 (some ⟨gl, 0, none⟩) n n (lv.map u64v)
  Bw : Blk W bw #[.slice a wl c] 22
  Bm : Blk W bm #[.map (some r)] 103
  Bo : Blk W bo #[.slice oa out.length oc] 22
  So : Sl W 2 1 oa out.length oc (out.map iv)
  foa : ∀ z, oa = some z → w.heap.size ≤ z.block
  M : Mp W r (Value.int .i64) mm
  ne : bw ≠ bo
  fo : w.heap.size ≤ bo
  fr : w.heap.size ≤ r
  K : Keep [] w W
section
variable {w W W' W'' : World} {hb gl n bw bm bo r : Nat} {a : Option Addr} {wl c : Nat} {s1 : Value} {lv : List (BitVec 64)} {mm mm' : List (Int × Value)} {oa : Option Addr} {oc : Nat} {out : List Int}
theorem CS.new (h : CS w W hb gl n bw bm bo r a wl c s1 lv mm oa oc out) (hK : Keep [] W W') : CS w W' hb gl n bw bm bo r a wl c s1 lv mm oa oc out :=
  ⟨h.BB.keep hK (by simp), h.SB.new hK, h.Bw.keep hK (by simp), h.Bm.keep hK (by simp), h.Bo.keep hK (by simp), h.So.new hK, h.foa, h.M.keep hK (by simp), h.ne, h.fo, h.fr, h.K.tr hK⟩
theorem CS.ko {m : Nat} (h : CS w W hb gl n bw bm bo r a wl c s1 lv mm oa oc out) (hK : KeepO bk m W W') (hm : w.heap.size ≤ m) : CS w W' hb gl n bw bm bo r a wl c s1 lv mm oa oc out :=
  ⟨h.BB.ko hK, h.SB.ko hK, h.Bw.ko hK, h.Bm.ko hK, h.Bo.ko hK, h.So.ko hK, h.foa, h.M.ko hK, h.ne, h.fo, h.fr, hK.below h.K hm⟩
theorem CS.put (h : CS w W hb gl n bw bm bo r a wl c s1 lv mm oa oc out) (hK : Keep [r] W W') (hM : Mp W' r (Value.int .i64) mm') : CS w W' hb gl n bw bm bo r a wl c s1 lv mm' oa oc out := by
  have hn : ∀ {b : Nat} {cs : Array Value} {T : TypeId}, Blk W b cs T → b ∉ [r] := fun hB hm => by rw [List.mem_singleton] at hm; exact h.M.blk hB hm
  have hs : ∀ {E : TypeId} {sz m c : Nat} {a : Option Addr} {xs : List Value}, Sl W E sz a m c xs → Off [r] a := fun hS => off_ne hS h.M
  exact ⟨h.BB.keep hK (hn h.BB), h.SB.keep hK (hs h.SB), h.Bw.keep hK (hn h.Bw), h.Bm.keep hK (hn h.Bm), h.Bo.keep hK (hn h.Bo), h.So.keep hK (hs h.So), h.foa, hM, h.ne, h.fo, h.fr, h.K.tr1 hK h.fr⟩
/-- the row of out is turned, or a new one laid -/
theorem CS.row (h : CS w W hb gl n bw bm bo r a wl c s1 lv mm oa oc out) (hK : Keep (blkOf oa) W W') : Blk W' hb #[.slice a wl c, s1, .slice (some ⟨gl, 0, none⟩) n n] 117 ∧ Sl W' 105 1 (some ⟨gl, 0, none⟩) n n (lv.map u64v) ∧ Blk W' bw #[.slice a wl c] 22 ∧ Blk W' bm #[.map (some r)] 103 ∧ Blk W' bo #[.slice oa out.length oc] 22 ∧ Mp W' r (Value.int .i64) mm ∧ Keep [] w W' := by
  refine ⟨h.BB.keep hK (h.So.notin h.BB (by decide)), ?_, h.Bw.keep hK (h.So.notin h.Bw (by decide)), h.Bm.keep hK (h.So.notin h.Bm (by decide)), h.Bo.keep hK (h.So.notin h.Bo (by decide)), h.M.keep hK (sl_mp h.So h.M), h.K.trb hK h.foa⟩
  refine h.SB.keep hK (fun z hz hm => ?_)
  rcases h.SB.2 with ⟨h0, _⟩ | ⟨g, cur, h0, hB, _⟩
  · rw [h0] at hz; cases hz
  · rw [h0] at hz; cases hz
    exact h.So.notin hB (by decide) hm
theorem CS.store (h : CS w W hb gl n bw bm bo r a wl c s1 lv mm oa oc out) (hK : Keep (blkOf oa) W W') {oa' : Option Addr} {oc' : Nat} {out' : List Int} (hS : Sl W' 2 1 oa' out'.length oc' (out'.map iv)) (hf : ∀ z, oa' = some z → w.heap.size ≤ z.block) (hK' : Keep [bo] W' W'') (hB : Blk W'' bo #[.slice oa' out'.length oc'] 22) : CS w W'' hb gl n bw bm bo r a wl c s1 lv mm oa' oc' out' := by
  obtain ⟨h1, h2, h3, h4, h5, h6, h7⟩ := h.row hK
  have hn : ∀ {b : Nat} {cs : Array Value} {T : TypeId}, Blk W' b cs T → T ≠ 22 → b ∉ [bo] := fun hB' hT hm => by rw [List.mem_singleton] at hm; subst hm; exact hT (hB'.ty h5)
  exact ⟨h1.keep hK' (hn h1 (by decide)), h2.keep hK' (h2.off h5 (by decide)), h3.keep hK' (fun hm => by rw [List.mem_singleton] at hm; exact h.ne hm), h4.keep hK' (hn h4 (by decide)), hB, hS.keep hK' (hS.off h5 (by decide)), hf, h6.keep hK' (fun hm => by rw [List.mem_singleton] at hm; exact h6.blk h5 hm.symm), h.ne, h.fo, h.fr, h7.tr1 hK' h.fo⟩
theorem CS.set {g i : Nat} {x : Int} (h : CS w W hb gl n bw bm bo r a wl c s1 lv mm oa oc out) (ho : oa = some ⟨g, 0, none⟩) (hK : Keep [g] W W') (hS : Sl W' 2 1 oa out.length oc ((out.set i x).map iv)) : CS w W' hb gl n bw bm bo r a wl c s1 lv mm oa oc (out.set i x) := by
  obtain ⟨h1, h2, h3, h4, h5, h6, h7⟩ := h.row (W' := W') (by rw [ho]; exact hK)
  exact ⟨h1, h2, h3, h4, by rw [List.length_set]; exact h5, by rw [List.length_set]; exact hS, h.foa, h6, h.ne, h.fo, h.fr, h7⟩
end
theorem inf103 : infB Tryd.prog 103 1 8 (.map none) := ⟨_, rfl, rfl, rfl, rfl⟩
theorem inf22 : infB Tryd.prog 22 1 24 (.slice none 0 0) := ⟨_, rfl, rfl, rfl, rfl⟩
set_option maxHeartbeats 1000000 in
theorem scoll_ok (w : World) (a ra : Option Addr) (c rc : Nat) (ws rts : List Int) (hW : Rd w a (ws.map iv)) (hR : Rd w ra (rts.map iv)) (hc : ws.length ≤ c) (hc9 : c ≤ 9223372036854775807) (hlw : ws.length ≤ 1000000) (hlr : rts.length ≤ 1000000) (ht : TabTz w) :
    Ret Tryd.prog 20 [.slice a ws.length c, .slice ra rts.length rc] w (fun v w' => CollRes w w' v ws rts) := by
  refine fn_enter (n := 104) Tryd.func20 rfl rfl (Nat.le_of_ble_eq_true rfl) (fun e => ?_)
  refine k_seq ?_
  refine k_region ?_
  refine o_box rfl rfl (fun bw w0 hBw hKw hbw hZw => ?_)
  refine m_sl rfl rfl ?_
  refine m_sl rfl rfl ?_
  refine m_int rfl rfl ?_
  refine o_nil ?_
  refine k_seq ?_
  refine k_region ?_
  refine o_ld (v := .slice a ws.length c) rfl rfl (hBw.at rfl) ?_
  refine m_sl rfl rfl ?_
  refine o_call rfl rfl (sopen_ok w0 a ra c rc ws rts (hW.new hKw) (hR.new hKw) hlw hlr) (fun v w1 hv => ?_)
  obtain ⟨er, p, rfl, hK1, hcs⟩ := open_cases hv
  clear hv
  have hK01 := hKw.tr hK1
  refine m_any rfl rfl ?_
  refine o_extr rfl rfl ?_
  refine o_extr rfl rfl ?_
  refine m_ptr rfl rfl ?_
  refine m_int rfl rfl ?_
  refine o_nil ?_
  refine k_seq ?_
  refine k_seq ?_
  refine k_region ?_
  refine m_int rfl rfl ?_
  refine b_neq rfl rfl ?_
  refine o_nil ?_
  refine k_cond rfl (fun h => ?_) (fun h => ?_)
  ·
    refine k_seq ?_
    refine k_region ?_
    refine m_int rfl rfl ?_
    refine m_sl rfl rfl ?_
    refine m_sl rfl rfl ?_
    refine m_int rfl rfl ?_
    refine o_nil ?_
    refine k_ret (ret_tmps (ts := [4, 5, 6]) (v := .tuple #[.slice _ _ _, .slice _ _ _, .int _ _]) rfl rfl ?_)
    refine ⟨er, [], [], none, 0, none, 0, rfl, Sl.nil _ _ _, ⟨fun z hz => (by cases hz), fun z hz => (by cases hz)⟩, Rd.nil _ _, by simp, hK01, ?_⟩
    rcases hcs with ⟨h1, h2⟩ | ⟨h1, h2⟩ | ⟨h1, h2⟩
    · exact .inl ⟨h1, rfl, rfl, h2⟩
    · exact .inr (.inl ⟨h1, rfl, rfl, h2⟩)
    · exact absurd h1 h
  obtain ⟨h0, L, hbk, hrk, hb, gl, n, s1, lv, rfl, hB1, hS1, hll, hn9, hlive, hfb, hfl⟩ := (hcs.resolve_left (fun hh => by have := hh.1; omega)).resolve_left (fun hh => by have := hh.1; omega)
  subst h0
  clear hcs
  obtain ⟨LV, hLV⟩ : ∃ LV, memA lv n = LV := ⟨_, rfl⟩
  have hLVL : ∀ x ∈ LV, x ∈ L := fun x hx => reach_L hbk hrk ((hlive.2 x).1 (by rw [hLV]; exact hx))
  have hup := memA_up lv n
  rw [hLV] at hup hlive
  refine k_skip ?_
  refine k_seq ?_
  refine k_region ?_
  refine o_mkmap (Value.int .i64) (fun r w2 hM2 hK2 hb2 hZ2 => ?_)
  refine o_mput (κ := Int) (q := 0) (v := .int .i64 0) Tryd.underlying103 (key_int Tryd.underlying3) rfl rfl rfl hM2 (.inr rfl) (fun w3 hM3 hK3 hZ3 => ?_)
  refine m_map rfl rfl ?_
  refine o_alloc inf103 rfl (fun bm w4 hB4 hK4 hb4 hZ4 => ?_)
  refine o_st (v := .map (some r)) rfl rfl rfl rfl hB4 (show 0 < 1 by decide) (fun w5 hB5 hK5 hZ5 => ?_)
  refine o_nil ?_
  refine k_seq ?_
  refine k_region ?_
  refine o_bsl (E := 2) (cs := #[iv 0]) rfl (fun _ => by kernel_rfl) (fun g6 w6 hB6 hK6 hb6 hZ6 => ?_)
  refine o_alloc inf22 rfl (fun bo w7 hB7 hK7 hb7 hZ7 => ?_)
  refine o_st (v := .slice (some ⟨g6, 0, none⟩) 1 1) rfl rfl rfl rfl hB7 (show 0 < 1 by decide) (fun w8 hB8 hK8 hZ8 => ?_)
  have hB5' : Blk w5 bm #[.map (some r)] 103 := hB5
  have hB8' : Blk w8 bo #[.slice (some ⟨g6, 0, none⟩) 1 1] 22 := hB8
  have hK13 : Keep [] w1 w3 := hK2.tr1 hK3 (by omega)
  have hK14 : Keep [] w1 w4 := hK13.tr hK4
  have hK15 : Keep [] w1 w5 := hK14.tr1 hK5 (by have := hK13.size; omega)
  have hK57 : Keep [] w5 w7 := hK6.tr hK7
  have hK58 : Keep [] w5 w8 := hK57.tr1 hK8 (by have := hK6.size; omega)
  have hK18 : Keep [] w1 w8 := hK15.tr hK58
  have hK08 : Keep [] w w8 := hK01.tr hK18
  have hM5 : Mp w5 r (Value.int .i64) (putM [] 0 (.int .i64 0)) := (hM3.keep hK4 (by simp)).keep hK5 (fun hm => by rw [List.mem_singleton] at hm; exact (hM3.keep hK4 (by simp)).blk hB4 hm.symm)
  have hS8 : Sl w8 2 1 (some ⟨g6, 0, none⟩) 1 1 [iv 0] := ((hB6.keep hK7 (by simp)).keep hK8 (fun hm => by rw [List.mem_singleton] at hm; have := hB6.lt; omega)).sl (len := 1) (sz := 1) rfl (by decide)
  have hbwl := (hBw.keep hK1 (by simp)).lt
  have hCS : CS w w8 hb gl n bw bm bo r a ws.length c s1 lv (putM [] 0 (.int .i64 0)) (some ⟨g6, 0, none⟩) 1 [0] :=
    ⟨hB1.keep hK18 (by simp), hS1.new hK18, (hBw.keep hK1 (by simp)).keep hK18 (by simp), hB5'.keep hK58 (by simp), hB8', hS8, fun z hz => by cases hz; show w.heap.size ≤ g6; have := hK01.size; have := hK15.size; omega, hM5.keep hK58 (by simp), by have := hK15.size; have := hK6.size; omega, by have := hK01.size; have := hK15.size; have := hK6.size; omega, by have := hK01.size; omega, hK08⟩
  have hget0 : ∀ z : Int, (getM (putM [] (0 : Int) (Value.int .i64 0)) z).getD (.int .i64 0) = iv (adr ws [] 1 z) := fun z => by
    rw [getM_put, getM_nil]
    split <;> rfl
  clear hB1 hS1 hM2 hM3 hM5 hB4 hB5 hB5' hB6 hB7 hB8 hB8' hS8 hK2 hK3 hK4 hK5 hK6 hK7 hK8
  refine o_nil ?_
  refine k_seq ?_
  refine k_seq ?_
  refine k_region ?_
  refine m_ptr rfl rfl ?_
  refine o_mkfnb rfl ?_
  refine o_nil ?_
  refine k_block ?_
  refine k_range (f := 63) (bs := [.pointer (some ⟨hb, 0, none⟩)]) LV (fun pre W => ∃ mm oa oc, CS w W hb gl n bw bm bo r a ws.length c s1 lv mm oa oc (0 :: pre.flatMap (oldB ws)) ∧ ∀ z : Int, (getM mm z).getD (.int .i64 0) = iv (adr ws pre 1 z)) rfl rfl (fun pre W W' hI hk => by obtain ⟨mm, oa, oc, h1, h2⟩ := hI; exact ⟨mm, oa, oc, h1.ko hk.bk hK08.size, h2⟩) ⟨_, _, _, hCS, hget0⟩ (fun l W1 J hJI hst hY hJ0 => by subst hLV; exact each_ok W1 hb gl n l _ s1 lv J hll hn9 (fun pre W h => by obtain ⟨mm, oa, oc, h1, h2⟩ := hJI _ _ h; exact ⟨h1.BB, h1.SB, ht.new h1.K⟩) hY hJ0) (fun l pre x post W hlst hI => ?_) (fun D W4 hI4 hD4 hle4 => ?_)
  ·
    refine k_region ?_
    refine m_int rfl rfl ?_
    refine o_nil ?_
    refine k_goal ⟨rfl, fun W2 hI2 => ?_⟩
    obtain ⟨mm, oa, oc, hC2, hget⟩ := hI2
    have hxL := hLVL x (by rw [hlst]; simp)
    have hxn := up_notin (hlst ▸ hup)
    obtain ⟨k, hk, rfl, hk1, hk0, m, hm, hno, hsz, hkm, hm9⟩ := blk_at hbk hxL
    have hlen : pre.length ≤ ws.length := by have := live_len hbk hup hLVL; rw [hlst] at this; simp at this; omega
    have hsum : sumN ws pre ≤ 65537 * pre.length := sumN_le (fun y hy => by obtain ⟨_, _, _, _, _, m', _, _, h7, _, h9⟩ := blk_at hbk (hLVL y (by rw [hlst]; simp [hy])); omega)
    have hol : (0 :: pre.flatMap (oldB ws)).length = 1 + sumN ws pre := by rw [List.length_cons, flat_len ws _ (oldB_len ws)]; omega
    have hW2 := hW.new hC2.K
    obtain ⟨ba, oo, hae, hcell⟩ := hW2 _ _ (iv_at ws k hk)
    refine k_block ?_
    refine k_seq ?_
    refine k_region ?_
    refine o_ld (v := .slice a ws.length c) rfl rfl (hC2.Bw.at rfl) ?_
    subst hae
    refine m_int rfl rfl ?_
    refine o_ixs1 (m := k) Tryd.underlying22 rfl rfl rfl hk ?_
    refine o_ld (v := iv (ws[k])) rfl rfl hcell ?_
    refine o_call rfl rfl (open_ok W2 (ws[k])) (fun v W5 hv => ?_)
    obtain ⟨rfl, rfl⟩ := hv
    rw [hm]
    refine m_any rfl rfl ?_
    refine o_extr rfl rfl ?_
    refine o_extr rfl rfl ?_
    refine o_extr rfl rfl ?_
    refine o_extr rfl rfl ?_
    refine o_extr rfl rfl ?_
    refine m_int rfl rfl ?_
    refine m_int rfl rfl ?_
    refine m_int rfl rfl ?_
    refine m_int rfl rfl ?_
    refine m_int rfl rfl ?_
    refine o_nil ?_
    refine k_seq ?_
    refine k_region ?_
    refine o_ld (v := .map (some r)) rfl rfl (hC2.Bm.at rfl) ?_
    refine m_int rfl rfl ?_
    refine o_ld (v := .slice oa (0 :: pre.flatMap (oldB ws)).length oc) rfl rfl (hC2.Bo.at rfl) ?_
    refine o_lens Tryd.underlying22 rfl ?_
    refine o_mput (κ := Int) (q := (k : Int)) (v := .int .i64 ((0 :: pre.flatMap (oldB ws)).length : Int)) Tryd.underlying103 (key_int Tryd.underlying3) rfl rfl rfl hC2.M (.inl rfl) (fun w6 hM6 hK6 hZ6 => ?_)
    have hC6 := hC2.put hK6 hM6
    have hKC6 : KeepC W5 w6 := Keep.cm hK6 hC2.M
    have hget6 : ∀ z : Int, (getM (putM mm (k : Int) (.int .i64 ((0 :: pre.flatMap (oldB ws)).length : Int))) z).getD (.int .i64 0) = iv (adr ws (pre ++ [(k : Int)]) 1 z) := fun z => by
      rw [getM_put, adr_snoc ws pre _ z hxn, hol]
      by_cases hz : z = (k : Int)
      · rw [if_pos hz, if_pos hz]; rfl
      · rw [if_neg hz, if_neg hz]; exact hget z
    refine o_nil ?_
    refine k_qk 8 rfl rfl rfl rfl rfl ?_
    refine q_step (fun w1 hC => o_ld (v := .slice oa (0 :: pre.flatMap (oldB ws)).length oc) rfl rfl (hC6.Bo.kat hC rfl) (o_nil ⟨rfl, hC⟩)) ?_
    refine q_step (fun w1 hC => o_ld (v := .slice (some ⟨ba, oo, none⟩) ws.length c) rfl rfl (hC6.Bw.kat hC rfl) (o_nil ⟨rfl, hC⟩)) ?_
    refine q_step (fun w1 hC => m_int rfl rfl (o_nil ⟨rfl, hC⟩)) ?_
    refine q_step (fun w1 hC => m_int rfl rfl (o_nil ⟨rfl, hC⟩)) ?_
    refine q_step (fun w1 hC => n_add rfl rfl (by omega) (o_nil ⟨rfl, hC⟩)) ?_
    refine q_step (fun w1 hC => m_int rfl rfl (o_nil ⟨rfl, hC⟩)) ?_
    refine q_step (fun w1 hC => n_add rfl rfl (by omega) (o_nil ⟨rfl, hC⟩)) ?_
    refine q_step (fun w1 hC => o_sllh (lo := k) (hi := k + 1 + m) (sz := 1) Tryd.underlying22 rfl rfl rfl rfl (by omega) (by omega) (o_nil ⟨rfl, hC⟩)) ?_
    refine q_nil ?_
    intro w7 hC7
    have hCS7 := hC6.new hC7
    have hnews : ((ws.map iv).drop (k * 1)).take (1 + m) = (oldB ws (k : Int)).map iv := by rw [oldB_take ws k m hkm hsz, Nat.mul_one, List.map_take, List.map_drop]
    have hcut := (cutAt_rd (lo := k) (cap := c) (sz := 1) (hW.new hCS7.K) (by simp; omega) (by omega) (by simp; omega)).take (1 + m)
    rw [hnews] at hcut
    rw [show k + 1 + m - k = 1 + m by omega]
    refine o_app Tryd.underlying22 inf2 rfl (by decide) rfl rfl hCS7.So hcut (by simp [oldB_len, hsz]) (iv_one _) (by rw [hol]; simp [maxLen]; omega) (by rw [hol]; omega) (fun a8 c8 w8' hS8 hK8 hv8 => ?_)
    have hf8 := own_app (k := fun b => w.heap.size ≤ b) (w := w7) (w' := w8') (a := oa) (a2 := a8) hCS7.foa (fun b hb => Nat.le_trans hCS7.K.size hb) hv8
    have hBo8 := hCS7.Bo.keep hK8 (hCS7.So.notin hCS7.Bo (by decide))
    refine o_st (v := .slice a8 ((0 :: pre.flatMap (oldB ws)).length + (1 + m)) c8) rfl rfl rfl rfl hBo8 (show 0 < 1 by decide) (fun w9 hB9 hK9 hZ9 => ?_)
    have hout : (0 :: (pre ++ [(k : Int)]).flatMap (oldB ws)) = (0 :: pre.flatMap (oldB ws)) ++ oldB ws (k : Int) := by simp
    have hlo : (0 :: (pre ++ [(k : Int)]).flatMap (oldB ws)).length = (0 :: pre.flatMap (oldB ws)).length + (1 + m) := by rw [hout, List.length_append, oldB_len, hsz]
    have hS8' : Sl w8' 2 1 a8 (0 :: (pre ++ [(k : Int)]).flatMap (oldB ws)).length c8 ((0 :: (pre ++ [(k : Int)]).flatMap (oldB ws)).map iv) := by rw [hlo, hout, List.map_append]; exact hS8
    have hB9' : Blk w9 bo #[.slice a8 (0 :: (pre ++ [(k : Int)]).flatMap (oldB ws)).length c8] 22 := by rw [hlo]; exact hB9
    refine o_nil ?_
    refine k_blk ?_
    refine k_goal ⟨⟨_, a8, c8, hCS7.store hK8 hS8' hf8 hK9 hB9', hget6⟩, ((hKC6.tr (Keep.c hC7)).tr (Keep.cs hK8 hCS7.So)).tr (Keep.cb hK9 hBo8)⟩
  obtain ⟨mm, oa, oc, hC4, hget⟩ := hI4
  clear hget0 hCS
  have hDlt := (Array.getElem?_eq_some_iff.1 hD4).1
  refine k_blk ?_
  refine k_seq ?_
  refine k_seq ?_
  refine k_region ?_
  refine m_ptr rfl rfl ?_
  refine o_mkfnb rfl ?_
  refine o_nil ?_
  refine k_block ?_
  refine k_range (f := 63) (bs := [.pointer (some ⟨hb, 0, none⟩)]) LV (fun pre W => (∃ oa oc, CS w W hb gl n bw bm bo r a ws.length c s1 lv mm oa oc (0 :: (pre.flatMap (newB ws LV) ++ (LV.drop pre.length).flatMap (oldB ws)))) ∧ W.heap[D]? = some (.deferred (some []))) rfl rfl (fun pre W W' hI hk => by obtain ⟨⟨oa, oc, h1⟩, h2⟩ := hI; exact ⟨⟨oa, oc, h1.ko hk.bk hC4.K.size⟩, hk.obj h2 (by rintro ⟨_, hh⟩; cases hh)⟩) ⟨⟨oa, oc, by simpa using hC4⟩, hD4⟩ (fun l W1 J hJI hst hY hJ0 => by subst hLV; exact each_ok W1 hb gl n l _ s1 lv J hll hn9 (fun pre W h => by obtain ⟨⟨oa, oc, h1⟩, h2⟩ := hJI _ _ h; exact ⟨h1.BB, h1.SB, ht.new h1.K⟩) hY hJ0) (fun l pre x post W hlst hI => ?_) (fun D2 W6 hI6 hD6 hle6 => ?_)
  ·
    refine k_region ?_
    refine m_int rfl rfl ?_
    refine o_nil ?_
    refine k_goal ⟨rfl, fun W2 hI2 => ?_⟩
    obtain ⟨⟨oa, oc, hC2⟩, hD2⟩ := hI2
    have hxL := hLVL x (by rw [hlst]; simp)
    have hxn := up_notin (hlst ▸ hup)
    obtain ⟨k, hk, rfl, hk1, hk0, m, hm, hno, hsz, hkm, hm9⟩ := blk_at hbk hxL
    have hlen : pre.length ≤ ws.length := by have := live_len hbk hup hLVL; rw [hlst] at this; simp at this; omega
    have hsum : sumN ws pre ≤ 65537 * pre.length := sumN_le (fun y hy => by obtain ⟨_, _, _, _, _, m', _, _, h7, _, h9⟩ := blk_at hbk (hLVL y (by rw [hlst]; simp [hy])); omega)
    have hAl : (0 :: pre.flatMap (newB ws LV)).length = 1 + sumN ws pre := by rw [List.length_cons, flat_len ws _ (newB_len ws LV)]; omega
    have hadr : adr ws LV 1 (k : Int) = ((1 + sumN ws pre : Nat) : Int) := by rw [hlst]; exact adr_mid ws pre post _ hxn
    have hdrop : LV.drop pre.length = (k : Int) :: post := by rw [hlst]; exact List.drop_left
    have hdrop2 : LV.drop (pre ++ [(k : Int)]).length = post := by rw [hlst, show pre ++ (k : Int) :: post = (pre ++ [(k : Int)]) ++ post by simp]; exact List.drop_left
    have houtm : ∀ rs, (0 :: pre.flatMap (newB ws LV)) ++ midB ws LV rs (k : Int) ++ post.flatMap (oldB ws) = 0 :: (pre.flatMap (newB ws LV) ++ (midB ws LV rs (k : Int) ++ post.flatMap (oldB ws))) := by intro rs; simp
    have hst0 : 0 :: (pre.flatMap (newB ws LV) ++ (LV.drop pre.length).flatMap (oldB ws)) = (0 :: pre.flatMap (newB ws LV)) ++ midB ws LV ((refsW ws (k : Int)).take 0) (k : Int) ++ post.flatMap (oldB ws) := by
      rw [hdrop, List.take_zero, midB_nil]; simp
    rw [hst0] at hC2
    refine k_block ?_
    refine k_seq ?_
    refine k_region ?_
    refine o_ld (v := .slice a ws.length c) rfl rfl (hC2.Bw.at rfl) ?_
    refine m_int rfl rfl ?_
    refine o_call rfl rfl (refs_ok W2 a ws.length c ws (k : Int) (hW.new hC2.K) rfl (by omega)) (fun v w5 hv => ?_)
    obtain ⟨a6, c6, rfl, hS6, hK6, hf6⟩ := hv
    have hlen6 := refs_len ws (k : Int)
    refine o_lens Tryd.underlying23 rfl ?_
    refine m_int rfl rfl ?_
    refine o_nil ?_
    refine k_block ?_
    refine k_loop (σ := Nat × Option Addr × Nat) (fun s => [(2, .pointer (some ⟨bw, 0, none⟩)), (9, .pointer (some ⟨bm, 0, none⟩)), (10, .pointer (some ⟨bo, 0, none⟩)), (17, .int .i64 (k : Int)), (67, .slice a6 (refsW ws (k : Int)).length c6), (68, .int .i64 ((refsW ws (k : Int)).length : Int)), (69, .int .i64 (s.1 : Int))]) (fun s w' => s.1 ≤ (refsW ws (k : Int)).length ∧ CS w w' hb gl n bw bm bo r a ws.length c s1 lv mm s.2.1 s.2.2 ((0 :: pre.flatMap (newB ws LV)) ++ midB ws LV ((refsW ws (k : Int)).take s.1) (k : Int) ++ post.flatMap (oldB ws)) ∧ Sl w' 3 1 a6 (refsW ws (k : Int)).length c6 ((refsW ws (k : Int)).map iv) ∧ KeepC W2 w') (fun s => (refsW ws (k : Int)).length - s.1) (0, oa, oc) ⟨rfl, rfl, rfl, rfl, rfl, rfl, rfl, trivial⟩ ⟨Nat.zero_le _, hC2.new hK6, hS6, Keep.c hK6⟩ (fun s e w6 hJ => ?_)
    obtain ⟨i, oa6, oc6⟩ := s
    obtain ⟨hi, hC6, hS66, hKC6⟩ := hJ
    dsimp only at hi hC6 hS66 ⊢
    refine k_seq ?_
    refine k_region ?_
    refine b_lss rfl rfl ?_
    refine o_nil ?_
    refine k_seq ?_
    refine k_cond rfl (fun h => ?_) (fun h => ?_)
    rotate_left
    ·
      have hie : i = (refsW ws (k : Int)).length := by omega
      rw [hie, List.take_length] at hC6
      refine k_exit rfl ?_
      refine k_blk ?_
      refine k_goal ⟨⟨⟨oa6, oc6, ?_⟩, hKC6.obj hD2 (.inr ⟨_, rfl⟩)⟩, hKC6⟩
      have e1 : 0 :: ((pre ++ [(k : Int)]).flatMap (newB ws LV) ++ (LV.drop (pre ++ [(k : Int)]).length).flatMap (oldB ws)) = (0 :: pre.flatMap (newB ws LV)) ++ midB ws LV (refsW ws (k : Int)) (k : Int) ++ post.flatMap (oldB ws) := by
        rw [hdrop2]; simp [newB]
      rw [e1]; exact hC6
    have hin : i < (refsW ws (k : Int)).length := by omega
    obtain ⟨cc, hcc⟩ : ∃ cc, (refsW ws (k : Int))[i] = cc := ⟨_, rfl⟩
    have hcm : cc ∈ refsW ws (k : Int) := by rw [← hcc]; exact List.getElem_mem _
    obtain ⟨j, rfl, hj1, hj2⟩ := refs_in hk hm hcm
    have hjw : k + j < ws.length := by omega
    have hR6 := hS66.rd
    have hx6 := iv_at (refsW ws (k : Int)) i hin
    rw [hcc] at hx6
    obtain ⟨b6, o6, hae6, hc6⟩ := hR6 _ _ hx6
    subst hae6
    have hbml := midB_len ws LV ((refsW ws (k : Int)).take i) (k : Int)
    have hil : 1 + sumN ws pre + j < ((0 :: pre.flatMap (newB ws LV)) ++ midB ws LV ((refsW ws (k : Int)).take i) (k : Int) ++ post.flatMap (oldB ws)).length := by rw [List.length_append, List.length_append, hAl, hbml, hsz]; omega
    obtain ⟨out, hout⟩ : ∃ out, (0 :: pre.flatMap (newB ws LV)) ++ midB ws LV ((refsW ws (k : Int)).take i) (k : Int) ++ post.flatMap (oldB ws) = out := ⟨_, rfl⟩
    rw [hout] at hC6 hil
    obtain ⟨go, curo, hoe, hBg, hgs⟩ := hC6.So.blk (by omega)
    subst hoe
    have hgj : ws.getD (k + j) 0 = ws[k + j] := getD_get ws (k + j) hjw
    have hadr2 := adr_rng ws LV 1 (ws[k + j])
    refine k_skip ?_
    refine k_seq ?_
    refine k_block ?_
    refine k_seq ?_
    refine k_region ?_
    refine o_ixs1 (m := i) Tryd.underlying23 rfl rfl rfl hin ?_
    refine o_ld (v := iv ((k : Int) + j)) rfl rfl hc6 ?_
    refine m_int rfl rfl ?_
    refine o_nil ?_
    refine k_qk 14 rfl rfl rfl rfl rfl ?_
    refine q_step (fun w1 hC => o_ld (v := .slice (some ⟨go, 0, none⟩) out.length oc6) rfl rfl (hC6.Bo.kat hC rfl) (o_nil ⟨rfl, hC⟩)) ?_
    refine q_step (fun w1 hC => o_ld (v := .map (some r)) rfl rfl (hC6.Bm.kat hC rfl) (o_nil ⟨rfl, hC⟩)) ?_
    refine q_step (fun w1 hC => m_int rfl rfl (o_nil ⟨rfl, hC⟩)) ?_
    refine q_step (fun w1 hC => o_look (κ := Int) (kv := Value.int .i64) (q := (k : Int)) (v := iv ((1 + sumN ws pre : Nat) : Int)) Tryd.underlying103 (key_int Tryd.underlying3) inf3 rfl rfl (hC6.M.keep hC (by simp)) (by rw [hget, hadr]) (o_nil ⟨rfl, hC⟩)) ?_
    refine q_step (fun w1 hC => m_int rfl rfl (o_nil ⟨rfl, hC⟩)) ?_
    refine q_step (fun w1 hC => n_add rfl rfl (by omega) (o_nil ⟨rfl, hC⟩)) ?_
    refine q_step (fun w1 hC => m_int rfl rfl (o_nil ⟨rfl, hC⟩)) ?_
    refine q_step (fun w1 hC => n_sub rfl rfl (by omega) (o_nil ⟨rfl, hC⟩)) ?_
    refine q_step (fun w1 hC => o_ld (v := .map (some r)) rfl rfl (hC6.Bm.kat hC rfl) (o_nil ⟨rfl, hC⟩)) ?_
    refine q_step (fun w1 hC => o_ld (v := .slice a ws.length c) rfl rfl (hC6.Bw.kat hC rfl) (o_nil ⟨rfl, hC⟩)) ?_
    obtain ⟨ba, oo, hae, _⟩ := hW _ _ (iv_at ws (k + j) hjw)
    subst hae
    refine q_step (fun w1 hC => m_int rfl rfl (o_nil ⟨rfl, hC⟩)) ?_
    refine q_step (fun w1 hC => o_ixs1 (m := k + j) Tryd.underlying22 rfl rfl rfl hjw (o_nil ⟨rfl, hC⟩)) ?_
    refine q_step (fun w1 hC => o_ld (v := iv (ws[k + j])) rfl rfl (hW.cellK (hC6.K.tr hC) (iv_at ws (k + j) hjw)) (o_nil ⟨rfl, hC⟩)) ?_
    refine q_step (fun w1 hC => o_look (κ := Int) (kv := Value.int .i64) (q := ws[k + j]) (v := iv (adr ws LV 1 (ws[k + j]))) Tryd.underlying103 (key_int Tryd.underlying3) inf3 rfl rfl (hC6.M.keep hC (by simp)) (hget _) (o_nil ⟨rfl, hC⟩)) ?_
    refine q_nil ?_
    intro w7 hC7
    have hC7' := hC6.new hC7
    have hBg7 := hBg.keep hC7 (by simp)
    refine o_ixs1 (m := 1 + sumN ws pre + j) Tryd.underlying22 rfl rfl (congrArg (Value.int .i64) (by push_cast; omega)) hil ?_
    refine o_st (v := iv (adr ws LV 1 (ws[k + j]))) rfl rfl rfl rfl hBg7 (by omega) (fun w8' hB8 hK8 hZ8 => ?_)
    have hS8 := Sl.set hC7'.So hil hBg7 hB8
    rw [← List.map_set] at hS8
    have hC8 := hC7'.set rfl hK8 hS8
    have hset : out.set (1 + sumN ws pre + j) (adr ws LV 1 (ws[k + j])) = (0 :: pre.flatMap (newB ws LV)) ++ midB ws LV ((refsW ws (k : Int)).take (i + 1)) (k : Int) ++ post.flatMap (oldB ws) := by
      rw [← hout, ← hAl, set_mid _ _ _ _ _ (by rw [hbml, hsz]; omega), ← hgj]
      have h9 := midB_set ws LV ((refsW ws (k : Int)).take i) (k : Int) j (by rw [hsz]; omega)
      rw [Int.toNat_natCast] at h9
      rw [h9, List.take_succ_eq_append_getElem hin, hcc]
    rw [hset] at hC8
    refine o_nil ?_
    refine k_blk ?_
    refine k_region ?_
    refine n_add rfl rfl (by omega) ?_
    refine m_int rfl rfl ?_
    refine o_nil ?_
    refine k_goal ⟨(i + 1, some ⟨go, 0, none⟩, oc6), ⟨rfl, rfl, rfl, rfl, rfl, rfl, rfl, trivial⟩, ⟨by dsimp only; omega, hC8, (hS66.new hC7).keep hK8 ((hS66.new hC7).off hBg7 (by decide)), (hKC6.tr (Keep.c hC7)).tr (Keep.cb hK8 hBg7)⟩, by dsimp only; omega⟩
  obtain ⟨⟨oa, oc, hC6⟩, hD1⟩ := hI6
  rw [List.drop_length] at hC6
  have hout : 0 :: (LV.flatMap (newB ws LV) ++ ([] : List Int).flatMap (oldB ws)) = outW ws LV := by simp [outW]
  rw [hout] at hC6
  have hDD : D ≠ D2 := by omega
  refine k_blk ?_
  refine k_seq ?_
  refine k_region ?_
  refine m_sl rfl rfl ?_
  refine o_nil ?_
  refine k_seq ?_
  refine k_seq ?_
  refine k_region ?_
  refine m_sl rfl rfl ?_
  refine o_lens Tryd.underlying23 rfl ?_
  refine m_int rfl rfl ?_
  refine o_nil ?_
  refine k_block ?_
  refine k_loop (σ := Nat × Option Addr × Nat) (fun s => [(9, .pointer (some ⟨bm, 0, none⟩)), (10, .pointer (some ⟨bo, 0, none⟩)), (20, .slice s.2.1 s.1 s.2.2), (89, .slice ra rts.length rc), (90, .int .i64 (rts.length : Int)), (91, .int .i64 (s.1 : Int))]) (fun s w' => s.1 ≤ rts.length ∧ Sl w' 3 1 s.2.1 s.1 s.2.2 (((rts.take s.1).map (adr ws LV 1)).map iv) ∧ (∀ z, s.2.1 = some z → W6.heap.size ≤ z.block) ∧ Keep [] W6 w') (fun s => rts.length - s.1) (0, none, 0) ⟨rfl, rfl, rfl, rfl, rfl, rfl, trivial⟩ ⟨Nat.zero_le _, Sl.nil _ _ _, by simp, Keep.refl _ _⟩ (fun s e w7 hJ => ?_)
  obtain ⟨i, a7, c7⟩ := s
  obtain ⟨hi, hS7, hf7, hK7⟩ := hJ
  dsimp only at hi hS7 hf7 ⊢
  have hC7 := hC6.new hK7
  refine k_seq ?_
  refine k_region ?_
  refine b_lss rfl rfl ?_
  refine o_nil ?_
  refine k_seq ?_
  refine k_cond rfl (fun h => ?_) (fun h => ?_)
  rotate_left
  ·
    have hie : i = rts.length := by omega
    subst hie
    rw [List.take_length] at hS7
    refine k_exit rfl ?_
    refine k_seq ?_
    refine k_region ?_
    refine o_ld (v := .slice oa (outW ws LV).length oc) rfl rfl (hC7.Bo.at rfl) ?_
    refine m_sl rfl rfl ?_
    refine m_sl rfl rfl ?_
    refine m_sl rfl rfl ?_
    refine m_int rfl rfl ?_
    refine o_nil ?_
    refine k_ret (ret_mark2 (D := D) (D' := D2) (ts := [4, 5, 6]) (v := .tuple #[.slice oa (outW ws LV).length oc, .slice a7 rts.length c7, .int .i64 0]) ((hK7.block D (Array.getElem?_eq_some_iff.1 hD1).1 (by simp)).trans hD1) ((hK7.block D2 (Array.getElem?_eq_some_iff.1 hD6).1 (by simp)).trans hD6) hDD rfl rfl (fun w9 hk9 => ?_))
    have hC9 := hC7.ko hk9.bm (by have := hC4.K.size; have := hC6.K.size; have := hK08.size; omega)
    refine ⟨0, outW ws LV, rts.map (adr ws LV 1), oa, oc, a7, c7, by simp, hC9.So, ⟨hC9.foa, fun z hz => Nat.le_trans hC6.K.size (hf7 z hz)⟩, (hS7.ko hk9.bm).rd, by rw [List.length_map]; omega, hC9.K, .inr (.inr ⟨rfl, L, LV, hbk, hrk, hlive, rfl, rfl⟩)⟩
  have hin : i < rts.length := by omega
  have hRr := hR.new hC7.K
  obtain ⟨b7, o7, hae7, hc7⟩ := hRr _ _ (iv_at rts i hin)
  subst hae7
  refine k_skip ?_
  refine k_seq ?_
  refine k_block ?_
  refine k_seq ?_
  refine k_region ?_
  refine o_ixs1 (m := i) Tryd.underlying23 rfl rfl rfl hin ?_
  refine o_ld (v := iv (rts[i])) rfl rfl hc7 ?_
  refine m_int rfl rfl ?_
  refine o_nil ?_
  refine k_region ?_
  refine m_sl rfl rfl ?_
  refine o_ld (v := .map (some r)) rfl rfl (hC7.Bm.at rfl) ?_
  refine m_int rfl rfl ?_
  refine o_look (κ := Int) (kv := Value.int .i64) (q := rts[i]) (v := iv (adr ws LV 1 (rts[i]))) Tryd.underlying103 (key_int Tryd.underlying3) inf3 rfl rfl hC7.M (hget _) ?_
  refine o_bsl (E := 3) (cs := #[iv (adr ws LV 1 (rts[i]))]) rfl (fun _ => by kernel_rfl) (fun g8 w8' hB8 hK8 hb8 hZ8 => ?_)
  refine o_app Tryd.underlying23 inf3 rfl (by decide) rfl rfl (hS7.new hK8) hB8.rd rfl (by simp [iv, Value.oneCell']) (by simp [maxLen]; omega) (by omega) (fun a9 c9 w9 hS9 hK9 hv9 => ?_)
  have hf9 := own_app (k := fun b => W6.heap.size ≤ b) (w := w8') (w' := w9) (a := a7) (a2 := a9) hf7 (fun b hb => Nat.le_trans (hK7.tr hK8).size hb) hv9
  refine m_sl rfl rfl ?_
  refine o_nil ?_
  refine k_blk ?_
  refine k_region ?_
  refine n_add rfl rfl (by omega) ?_
  refine m_int rfl rfl ?_
  refine o_nil ?_
  refine k_goal ⟨(i + 1, a9, c9), ⟨rfl, rfl, rfl, rfl, rfl, rfl, trivial⟩, ⟨by dsimp only; omega, ?_, hf9, (hK7.tr hK8).trb hK9 hf7⟩, by dsimp only; omega⟩
  dsimp only
  rw [List.take_succ_eq_append_getElem hin, List.map_append, List.map_append]
  exact hS9
end Go.Proofs.YtchbidckckmobaaDoor

/- The document's Mark. No condition beyond what each contract names. -/
namespace Go.Proofs.YtchbidckckmobaaDoor
open Go.RowKit E
set_option linter.unusedVariables false
set_option linter.unusedSimpArgs false
set_option maxRecDepth 100000
attribute [local irreducible] ow qw kw kq cw opW Ret
structure SI (ws rts S todo ex : List Int) : Prop where
  sound : ∀ t ∈ S, Reach ws rts t
  sub : ∀ t ∈ todo, t = 0 ∨ Reach ws rts t
  clo : ∀ k ∈ S, k ∉ ex → ∀ c ∈ refsW ws k, ws.getD c.toNat 0 = 0 ∨ ws.getD c.toNat 0 ∈ S ∨ ws.getD c.toNat 0 ∈ todo
  rt : ∀ r ∈ rts, r = 0 ∨ r ∈ S ∨ r ∈ todo
theorem SI.start (ws rts : List Int) : SI ws rts [] rts [] :=
  ⟨by simp, fun t ht => by by_cases h : t = 0; exact .inl h; exact .inr (.root ht h), by simp, fun r hr => .inr (.inr hr)⟩
theorem SI.drop {ws rts S todo : List Int} {t : Int} (h : SI ws rts S (todo ++ [t]) []) (ht : t = 0 ∨ t ∈ S) : SI ws rts S todo [] := by
  refine ⟨h.sound, fun x hx => h.sub x (List.mem_append_left _ hx), fun k hk he c hc => ?_, fun r hr => ?_⟩
  · rcases h.clo k hk he c hc with e | e | e
    · exact .inl e
    · exact .inr (.inl e)
    · rcases List.mem_append.1 e with e | e
      · exact .inr (.inr e)
      · rw [List.mem_singleton.1 e]; exact ht.elim .inl (fun hh => .inr (.inl hh))
  · rcases h.rt r hr with e | e | e
    · exact .inl e
    · exact .inr (.inl e)
    · rcases List.mem_append.1 e with e | e
      · exact .inr (.inr e)
      · rw [List.mem_singleton.1 e]; exact ht.elim .inl (fun hh => .inr (.inl hh))
theorem SI.take {ws rts S todo : List Int} {t : Int} (h : SI ws rts S (todo ++ [t]) []) (ht : t ≠ 0) : SI ws rts (S ++ [t]) todo [t] := by
  have key : ∀ y, y = 0 ∨ y ∈ S ∨ y ∈ todo ++ [t] → y = 0 ∨ y ∈ S ++ [t] ∨ y ∈ todo := fun y hy => by
    rcases hy with e | e | e
    · exact .inl e
    · exact .inr (.inl (List.mem_append_left _ e))
    · rcases List.mem_append.1 e with e | e
      · exact .inr (.inr e)
      · exact .inr (.inl (List.mem_append_right _ e))
  refine ⟨fun x hx => ?_, fun x hx => h.sub x (List.mem_append_left _ hx), fun k hk he c hc => key _ (h.clo k ?_ (by simp) c hc), fun r hr => key _ (h.rt r hr)⟩
  · rcases List.mem_append.1 hx with e | e
    · exact h.sound x e
    · rw [List.mem_singleton.1 e]; exact (h.sub t (by simp)).resolve_left ht
  · rcases List.mem_append.1 hk with e | e
    · exact e
    · exact absurd e he
theorem SI.push {ws rts S todo : List Int} {t c : Int} (h : SI ws rts S todo [t]) (ht : t ∈ S) (hc : c ∈ refsW ws t) : SI ws rts S (todo ++ [ws.getD c.toNat 0]) [t] := by
  have key : ∀ y, y = 0 ∨ y ∈ S ∨ y ∈ todo → y = 0 ∨ y ∈ S ∨ y ∈ todo ++ [ws.getD c.toNat 0] := fun y hy => hy.imp id (Or.imp id (List.mem_append_left _))
  refine ⟨h.sound, fun x hx => ?_, fun k hk he d hd => key _ (h.clo k hk he d hd), fun r hr => key _ (h.rt r hr)⟩
  rcases List.mem_append.1 hx with e | e
  · exact h.sub x e
  · rw [List.mem_singleton.1 e]
    by_cases h0 : ws.getD c.toNat 0 = 0
    · exact .inl h0
    · exact .inr (.step (h.sound t ht) hc h0)
theorem SI.close {ws rts S todo : List Int} {t : Int} (h : SI ws rts S todo [t]) (hc : ∀ c ∈ refsW ws t, ws.getD c.toNat 0 ∈ todo) : SI ws rts S todo [] :=
  ⟨h.sound, h.sub, fun k hk _ c hcc => by
    by_cases hkt : k = t
    · subst hkt; exact .inr (.inr (hc c hcc))
    · exact h.clo k hk (by simpa using hkt) c hcc, h.rt⟩
theorem SI.final {ws rts S : List Int} (h : SI ws rts S [] []) {x : Int} (hx : Reach ws rts x) : x ∈ S := by
  induction hx with
  | root h1 h2 => exact ((h.rt _ h1).resolve_left h2).resolve_right (by simp)
  | step h1 h2 h3 ih => exact ((h.clo _ ih (by simp) _ h2).resolve_left h3).resolve_right (by simp)
theorem SI.live {ws rts S L : List Int} (h : SI ws rts S [] []) (hb : blocksW ws = some L) (hr : rootsOk ws L rts) (hu : L.Pairwise (· < ·)) : IsLive ws rts (L.filter (fun x => decide (x ∈ S))) := by
  refine ⟨hu.sublist List.filter_sublist, fun x => ?_⟩
  rw [List.mem_filter, decide_eq_true_eq]
  exact ⟨fun hh => h.sound x hh.2, fun hh => ⟨reach_L hb hr hh, h.final hh⟩⟩
def unS (L S : List Int) : Nat := (L.filter (fun x => !(decide (x ∈ S)))).length
theorem unS_drop {L S : List Int} {x : Int} (hx : x ∈ L) (hn : x ∉ S) : unS L (S ++ [x]) + 1 ≤ unS L S :=
  filter_lt _ _ (fun y hy => by simp at hy ⊢; exact hy.1) L x hx (by simp [hn]) (by simp)
theorem unS_le (L S : List Int) : unS L S ≤ L.length := List.length_filter_le _ _
theorem chain_up' (ws : List Int) (d : Nat) : ∀ p, ws.length - p ≤ d → ∀ L, chain ws p = some L → L.Pairwise (· < ·) ∧ L.length ≤ ws.length - p := by
  induction d with
  | zero =>
    intro p hd L h
    rw [chain_end ws p (by omega)] at h
    obtain rfl := Option.some.inj h
    simp
  | succ d ih =>
    intro p hd L h
    by_cases hp : p < ws.length
    · by_cases hc : (openW (ws[p])).2.2.2.2 = 0 ∧ (openW (ws[p])).2.2.1 ≤ (ws.length : Int) - p - 1
      · rw [chain_yes ws p hp hc] at h
        obtain ⟨M, hM, rfl⟩ := Option.map_eq_some_iff.1 h
        have hI := ih _ (by omega) M hM
        refine ⟨List.pairwise_cons.2 ⟨fun y hy => ?_, hI.1⟩, ?_⟩
        · have := chain_ge hM y hy; omega
        · have := hI.2; rw [List.length_cons]; omega
      · rw [chain_no ws p hp hc] at h
        simp at h
    · rw [chain_end ws p hp] at h
      obtain rfl := Option.some.inj h
      simp
theorem blocks_up {ws L : List Int} (h : blocksW ws = some L) : L.Pairwise (· < ·) ∧ L.length ≤ ws.length := by
  have := chain_up' ws _ 1 (Nat.le_refl _) L (blocks_ch h).2.2.1
  exact ⟨this.1, by omega⟩
end Go.Proofs.YtchbidckckmobaaDoor

/- The walk of the document's Mark. No condition beyond what each contract names. -/
namespace Go.Proofs.YtchbidckckmobaaDoor
open Go.RowKit E
set_option linter.unusedVariables false
set_option linter.unusedSimpArgs false
set_option maxRecDepth 100000
attribute [local irreducible] ow qw kw kq cw opW Ret
theorem take_snoc {α : Type} (l : List α) (i : Nat) (h : i < l.length) : l.take (i + 1) = l.take i ++ [l[i]] := by
  rw [List.take_add_one, List.getElem?_eq_getElem h]; rfl
theorem filt_yes {l : List Int} {x : Int} {p : Int → Bool} (h : p x = true) : (l ++ [x]).filter p = l.filter p ++ [x] := by simp [h]
theorem filt_no {l : List Int} {x : Int} {p : Int → Bool} (h : p x = false) : (l ++ [x]).filter p = l.filter p := by simp [h]
theorem off_blk {w : World} {a : Option Addr} {b : Nat} {k : Nat → Prop} (ha : ∀ z, a = some z → z.block ≠ b) (_hk : True) : b ∉ blkOf a := by
  cases a with
  | none => simp [blkOf]
  | some z => simp [blkOf]; exact fun h => ha z rfl h.symm
theorem off_own {a a' : Option Addr} (h : ∀ z, a = some z → ∀ y, a' = some y → z.block ≠ y.block) : Off (blkOf a) a' := by
  intro y hy hm
  cases a with
  | none => simp [blkOf] at hm
  | some z => simp [blkOf] at hm; exact h z rfl y hy hm.symm
set_option maxHeartbeats 1000000 in
theorem rmark_ok (w : World) (a ra : Option Addr) (c rc : Nat) (ws rts : List Int) (hW : Rd w a (ws.map iv)) (hR : Rd w ra (rts.map iv)) (hlw : ws.length ≤ 1000000) (hlr : rts.length ≤ 1000000) (hx : ∀ x ∈ ws, x ≤ 9223372036854775807) :
    Ret Tryd.prog 18 [.slice a ws.length c, .slice ra rts.length rc] w (fun v w' => MarkRes w w' v ws rts) := by
  refine fn_enter (n := 153) Tryd.func18 rfl rfl (Nat.le_of_ble_eq_true rfl) (fun e => ?_)
  refine k_seq ?_
  refine k_region ?_
  refine m_sl rfl rfl ?_
  refine m_int rfl rfl ?_
  refine o_nil ?_
  refine k_seq ?_
  refine k_region ?_
  refine m_sl rfl rfl ?_
  refine o_call rfl rfl (rblocks_ok w a ws.length c ws hW rfl (by omega) hx) (fun v w1 hv => ?_)
  obtain ⟨er, a6, n6, c6, rfl, hbc⟩ := blk_cases hv
  refine m_any rfl rfl ?_
  refine o_extr rfl rfl ?_
  refine o_extr rfl rfl ?_
  refine m_sl rfl rfl ?_
  refine m_int rfl rfl ?_
  refine o_nil ?_
  refine k_seq ?_
  refine k_seq ?_
  refine k_region ?_
  refine m_int rfl rfl ?_
  refine b_neq rfl rfl ?_
  refine o_nil ?_
  refine k_cond rfl (fun h => ?_) (fun h => ?_)
  ·
    refine k_seq ?_
    refine k_region ?_
    refine m_int rfl rfl ?_
    refine m_sl rfl rfl ?_
    refine m_int rfl rfl ?_
    refine o_nil ?_
    refine k_ret (ret_tmps (ts := [4, 5]) (v := .tuple #[.slice _ _ _, .int _ _]) rfl rfl ?_)
    obtain ⟨rfl, hbn, hK1⟩ := hbc.resolve_right (fun hh => h hh.1)
    exact ⟨24, [], none, 0, rfl, Rd.nil _ _, ⟨by simp, fun z hz => (by cases hz)⟩, hK1, .inl ⟨rfl, rfl, hbn⟩⟩
  obtain ⟨h0, L, hbk, rfl, hS6, hK1, hf6⟩ := hbc.resolve_left (fun hh => by have := hh.1; omega)
  subst h0
  obtain ⟨hup, hLw⟩ := blocks_up hbk
  refine k_skip ?_
  refine k_seq ?_
  refine k_anyF 7 (fun w w' => Keep [] w w') (fun iA => match iA with
      | 0 => fun v w => v = .slice a ws.length c
      | 1 => fun v w => v = .int .i64 (ws.length : Int)
      | 2 => fun v w => ∃ g, v = .slice (some ⟨g, 0, none⟩) ws.length ws.length ∧ w1.heap.size ≤ g ∧ BG w g ws.length []
      | 3 => fun v w => v = .slice a ws.length c
      | 4 => fun v w => v = .int .i64 (ws.length : Int)
      | 5 => fun v w => ∃ g, v = .slice (some ⟨g, 0, none⟩) ws.length ws.length ∧ w1.heap.size ≤ g ∧ BG w g ws.length []
      | 6 => fun v w => True
      | _ => fun v w => True) [2,5] rfl rfl rfl rfl rfl (Keep.refl []) (fun _ _ _ h1 h2 => h1.tr h2) ?_ ?_ ?_ ?_
  · intro iA v w w' h hL
    match iA, h with
    | 0, h =>
      exact h
    | 1, h =>
      exact h
    | 2, h =>
      obtain ⟨g, h1, h2, h3⟩ := h
      exact ⟨g, h1, h2, h3.keep hL (by simp)⟩
    | 3, h =>
      exact h
    | 4, h =>
      exact h
    | 5, h =>
      obtain ⟨g, h1, h2, h3⟩ := h
      exact ⟨g, h1, h2, h3.keep hL (by simp)⟩
    | 6, h =>
      exact h
    | _ + 7, h => trivial
  · intro iA hi v w h
    simp only [List.mem_cons, List.not_mem_nil, or_false] at hi
    rcases hi with rfl | rfl
    · obtain ⟨g, rfl, _, cs, h3, _⟩ := h
      exact h3.lt
    · obtain ⟨g, rfl, _, cs, h3, _⟩ := h
      exact h3.lt
  · intro iA o him hl eA wA hL hA hD
    match iA, him, hl with
    | 0, _, hl =>
      obtain rfl := Option.some.inj hl
      refine o_gen [(0, _)] ⟨hA 0 (free_of rfl), trivial⟩ (fun e2 => ?_)
      refine m_sl rfl rfl ?_
      refine o_nil ⟨Keep.refl _ _, rfl, fun h => by simp at h⟩
    | 1, _, hl =>
      obtain rfl := Option.some.inj hl
      refine o_gen [(26, _)] ⟨hD 0 (by decide) 26 rfl, trivial⟩ (fun e2 => ?_)
      refine o_lens Tryd.underlying22 rfl ?_
      refine o_nil ⟨Keep.refl _ _, rfl, fun h => by simp at h⟩
    | 2, _, hl =>
      obtain rfl := Option.some.inj hl
      refine o_gen [(27, _)] ⟨hD 1 (by decide) 27 rfl, trivial⟩ (fun e2 => ?_)
      refine o_make (m := ws.length) Tryd.underlying63 inf4 rfl rfl (by simp [maxLen]; omega) (by omega) (fun g w2 hS2 hK2 hb2 hZ2 => ?_)
      refine o_nil ⟨hK2, ⟨g, rfl, by have := hL.size; simp at this; omega, BG.make hS2⟩, fun _ => by show _ ≤ g; omega⟩
    | 3, _, hl =>
      obtain rfl := Option.some.inj hl
      refine o_gen [(0, _)] ⟨hA 0 (free_of rfl), trivial⟩ (fun e2 => ?_)
      refine m_sl rfl rfl ?_
      refine o_nil ⟨Keep.refl _ _, rfl, fun h => by simp at h⟩
    | 4, _, hl =>
      obtain rfl := Option.some.inj hl
      refine o_gen [(29, _)] ⟨hD 3 (by decide) 29 rfl, trivial⟩ (fun e2 => ?_)
      refine o_lens Tryd.underlying22 rfl ?_
      refine o_nil ⟨Keep.refl _ _, rfl, fun h => by simp at h⟩
    | 5, _, hl =>
      obtain rfl := Option.some.inj hl
      refine o_gen [(30, _)] ⟨hD 4 (by decide) 30 rfl, trivial⟩ (fun e2 => ?_)
      refine o_make (m := ws.length) Tryd.underlying63 inf4 rfl rfl (by simp [maxLen]; omega) (by omega) (fun g w2 hS2 hK2 hb2 hZ2 => ?_)
      refine o_nil ⟨hK2, ⟨g, rfl, by have := hL.size; simp at this; omega, BG.make hS2⟩, fun _ => by show _ ≤ g; omega⟩
    | 6, _, hl =>
      obtain rfl := Option.some.inj hl
      obtain ⟨g, hg, hg1, hg2⟩ := hD 2 (by decide) 28 rfl
      refine o_gen [(28, _)] ⟨hg, trivial⟩ (fun e2 => ?_)
      refine m_sl rfl rfl ?_
      refine o_nil ⟨Keep.refl _ _, trivial, fun h => by simp at h⟩
    | _ + 7, him, _ => exact absurd him (by omega)
  intro eA wA hL hA hV hN hM
  obtain ⟨g8, hg1, hf8, hG8⟩ := hV 2 (by decide) 28 rfl
  obtain ⟨g9, hz1, hf9, hG9⟩ := hV 5 (by decide) 31 rfl
  have hne : g8 ≠ g9 := by
   have := hN 2 5 (by simp) (by simp) (by decide) (by decide) (by decide) 28 31 rfl rfl
   rw [hg1, hz1] at this
   exact this
  have h8 : eA 8 = .slice (some ⟨g8, 0, none⟩) ws.length ws.length := (hM 6 _ _ 8 (by decide) rfl rfl rfl rfl).trans hg1
  have hkA : Keep [] w1 wA := (Keep.refl [] w1).drew.tr hL
  refine o_gen [(0, .slice a ws.length c), (1, .slice ra rts.length rc), (6, .slice a6 L.length c6), (8, .slice (some ⟨g8, 0, none⟩) ws.length ws.length), (31, .slice (some ⟨g9, 0, none⟩) ws.length ws.length)] ⟨hA 0 (free_of rfl), hA 1 (free_of rfl), hA 6 (free_of rfl), h8, hz1, trivial⟩ (fun e3 => ?_)
  clear hV hA hM hN
  refine m_sl rfl rfl ?_
  refine o_nil ?_
  refine k_seq ?_
  refine k_seq ?_
  refine k_region ?_
  refine m_int rfl rfl ?_
  refine o_nil ?_
  refine k_block ?_
  refine k_loop (σ := Nat) (fun s => [(0, .slice a ws.length c), (1, .slice ra rts.length rc), (6, .slice a6 L.length c6), (8, .slice (some ⟨g8, 0, none⟩) ws.length ws.length), (9, .slice (some ⟨g9, 0, none⟩) ws.length ws.length), (10, .int .i64 (s : Int))]) (fun s w' => s ≤ L.length ∧ BG w' g8 ws.length (L.take s) ∧ BG w' g9 ws.length [] ∧ Keep [] w1 w') (fun s => L.length - s) 0 ⟨rfl, rfl, rfl, rfl, rfl, rfl, trivial⟩ ⟨by omega, hG8, hG9, hkA⟩ (fun i e w3 hJ => ?_)
  clear hG8 hG9
  obtain ⟨hi, hG8, hG9, hk3⟩ := hJ
  refine k_seq ?_
  refine k_seq ?_
  refine k_region ?_
  refine m_int rfl rfl ?_
  refine m_sl rfl rfl ?_
  refine o_lens Tryd.underlying23 rfl ?_
  refine b_lss rfl rfl ?_
  refine o_nil ?_
  refine k_cond rfl (fun h => ?_) (fun h => ?_)
  rotate_left
  ·
    rw [List.take_of_length_le (by omega)] at hG8
    refine k_exit rfl ?_
    refine k_seq ?_
    refine k_region ?_
    refine m_sl rfl rfl ?_
    refine o_nil ?_
    refine k_seq ?_
    refine k_seq ?_
    refine k_region ?_
    refine m_int rfl rfl ?_
    refine o_nil ?_
    refine k_block ?_
    refine k_loop (σ := Nat × Option Addr × Nat) (fun s => [(0, .slice a ws.length c), (1, .slice ra rts.length rc), (6, .slice a6 L.length c6), (8, .slice (some ⟨g8, 0, none⟩) ws.length ws.length), (9, .slice (some ⟨g9, 0, none⟩) ws.length ws.length), (11, .slice s.2.1 s.1 s.2.2), (12, .int .i64 (s.1 : Int))]) (fun s w' => s.1 ≤ rts.length ∧ Sl w' 3 1 s.2.1 s.1 s.2.2 ((rts.take s.1).map iv) ∧ (∀ r ∈ rts.take s.1, 0 ≤ r ∧ r < ws.length ∧ (0 < r → r ∈ L)) ∧ (∀ z, s.2.1 = some z → w1.heap.size ≤ z.block) ∧ BG w' g8 ws.length L ∧ BG w' g9 ws.length [] ∧ Keep [] w1 w') (fun s => rts.length - s.1) (0, none, 0) ⟨rfl, rfl, rfl, rfl, rfl, rfl, rfl, trivial⟩ ⟨by simp, Sl.nil _ _ _, by simp, by simp, hG8, hG9, hk3⟩ (fun s e w4 hJ => ?_)
    clear hG8 hG9
    obtain ⟨i, ta, tc⟩ := s
    obtain ⟨hi2, hST, hrk, hft, hG8, hG9, hk4⟩ := hJ
    simp only at hi2 hST hrk hft ⊢
    refine k_seq ?_
    refine k_seq ?_
    refine k_region ?_
    refine m_int rfl rfl ?_
    refine m_sl rfl rfl ?_
    refine o_lens Tryd.underlying23 rfl ?_
    refine b_lss rfl rfl ?_
    refine o_nil ?_
    refine k_cond rfl (fun h => ?_) (fun h => ?_)
    rotate_left
    ·
      have hie : i = rts.length := by omega
      subst hie
      rw [List.take_of_length_le (Nat.le_refl _)] at hST hrk
      have hrk' : rootsOk ws L rts := hrk
      refine k_exit rfl ?_
      refine k_seq ?_
      refine k_block ?_
      refine k_loop (σ := List Int × List Int × Option Addr × Nat) (fun s => [(0, .slice a ws.length c), (6, .slice a6 L.length c6), (9, .slice (some ⟨g9, 0, none⟩) ws.length ws.length), (11, .slice s.2.2.1 s.2.1.length s.2.2.2)]) (fun s w' => SI ws rts s.1 s.2.1 [] ∧ BG w' g9 ws.length s.1 ∧ Sl w' 3 1 s.2.2.1 s.2.1.length s.2.2.2 (s.2.1.map iv) ∧ (∀ z, s.2.2.1 = some z → w1.heap.size ≤ z.block) ∧ Keep [] w1 w' ∧ 65537 * unS L s.1 + s.2.1.length ≤ 65537 * L.length + rts.length) (fun s => 65537 * unS L s.1 + s.2.1.length) ([], rts, ta, tc) ⟨rfl, rfl, rfl, rfl, trivial⟩ ⟨SI.start ws rts, hG9, hST, hft, hk4, by have := unS_le L []; simp only; omega⟩ (fun s e w5 hJ => ?_)
      clear hG8 hG9 hST hft
      obtain ⟨S, todo, ta, tc⟩ := s
      obtain ⟨hI, hG9, hST, hft, hk5, hmu⟩ := hJ
      simp only at hI hG9 hST hft hmu ⊢
      refine k_seq ?_
      refine k_seq ?_
      refine k_region ?_
      refine m_sl rfl rfl ?_
      refine o_lens Tryd.underlying23 rfl ?_
      refine b_gtr rfl rfl ?_
      refine o_nil ?_
      refine k_cond rfl (fun h => ?_) (fun h => ?_)
      rotate_left
      ·
        have hte : todo = [] := List.length_eq_zero_iff.1 (by omega)
        subst hte
        have hlive := hI.live hbk hrk' hup
        refine k_exit rfl ?_
        refine k_seq ?_
        refine k_region ?_
        refine m_sl rfl rfl ?_
        refine o_nil ?_
        refine k_seq ?_
        refine k_seq ?_
        refine k_region ?_
        refine m_int rfl rfl ?_
        refine o_nil ?_
        refine k_block ?_
        refine k_loop (σ := Nat × Nat × Option Addr × Nat) (fun s => [(6, .slice a6 L.length c6), (9, .slice (some ⟨g9, 0, none⟩) ws.length ws.length), (16, .slice s.2.2.1 s.2.1 s.2.2.2), (17, .int .i64 (s.1 : Int))]) (fun s w' => s.1 ≤ L.length ∧ s.2.1 = ((L.take s.1).filter (fun x => decide (x ∈ S))).length ∧ Sl w' 3 1 s.2.2.1 s.2.1 s.2.2.2 (((L.take s.1).filter (fun x => decide (x ∈ S))).map iv) ∧ (∀ z, s.2.2.1 = some z → w1.heap.size ≤ z.block) ∧ BG w' g9 ws.length S ∧ Keep [] w1 w') (fun s => L.length - s.1) (0, 0, none, 0) ⟨rfl, rfl, rfl, rfl, trivial⟩ ⟨by simp, by simp, by simpa using Sl.nil _ _ _, by simp, hG9, hk5⟩ (fun s e w6 hJ => ?_)
        clear hG9
        obtain ⟨i, m, oa, oc⟩ := s
        obtain ⟨hi, hm, hSO, hfo, hG9, hk6⟩ := hJ
        simp only at hi hm hSO hfo ⊢
        refine k_seq ?_
        refine k_seq ?_
        refine k_region ?_
        refine m_int rfl rfl ?_
        refine m_sl rfl rfl ?_
        refine o_lens Tryd.underlying23 rfl ?_
        refine b_lss rfl rfl ?_
        refine o_nil ?_
        refine k_cond rfl (fun h => ?_) (fun h => ?_)
        rotate_left
        ·
          refine k_exit rfl ?_
          refine k_seq ?_
          refine k_region ?_
          refine m_sl rfl rfl ?_
          refine m_sl rfl rfl ?_
          refine m_int rfl rfl ?_
          refine o_nil ?_
          refine k_ret (ret_tmps (ts := [4, 5]) (v := .tuple #[.slice _ _ _, .int _ _]) rfl rfl ?_)
          rw [List.take_of_length_le (show L.length ≤ i by omega)] at hm hSO
          subst hm
          exact ⟨0, _, oa, oc, rfl, hSO.rd, ⟨sl_max hSO, fun z hz => Nat.le_trans hK1.size (hfo z hz)⟩, hK1.tr hk6, .inr (.inr ⟨rfl, hlive, L, hbk, hrk'⟩)⟩
        have hio : i < L.length := by omega
        have hml : m ≤ i := by rw [hm]; refine Nat.le_trans (List.length_filter_le _ _) (by simp; omega)
        obtain ⟨b6, o6, hae, _⟩ := hS6.rd.at i (by simpa using hio)
        subst hae
        obtain ⟨p, hp, hp1, hpn⟩ := L_rng hbk (List.getElem_mem hio)
        obtain ⟨cs9, hB9, hs9, hc9⟩ := hG9
        have hG9 : BG w6 g9 ws.length S := ⟨cs9, hB9, hs9, hc9⟩
        have hld := hS6.rd.cellK hk6 (iv_at L i hio)
        refine k_skip ?_
        refine k_seq ?_
        refine k_block ?_
        refine k_seq ?_
        refine k_region ?_
        refine m_sl rfl rfl ?_
        refine m_sl rfl rfl ?_
        refine m_int rfl rfl ?_
        refine o_ixs1 (m := i) Tryd.underlying23 rfl rfl rfl hio ?_
        refine o_ld rfl rfl hld ?_
        rw [hp]
        refine o_ixs1 (m := p) Tryd.underlying63 rfl rfl rfl hpn ?_
        refine o_ld rfl rfl (by rw [hB9.cell, Nat.zero_add]; exact hc9 p hpn) ?_
        refine o_nil ?_
        refine k_cond rfl (fun h => ?_) (fun h => ?_)
        ·
          refine k_region ?_
          refine m_sl rfl rfl ?_
          refine m_sl rfl rfl ?_
          refine m_int rfl rfl ?_
          refine o_ixs1 (m := i) Tryd.underlying23 rfl rfl rfl hio ?_
          refine o_ld rfl rfl hld ?_
          refine o_bsl (E := 3) (cs := #[iv L[i]]) rfl (fun _ => by kernel_rfl) (fun g7 w7 hB7 hK7 hb7 hZ7 => ?_)
          refine o_app Tryd.underlying23 inf3 rfl (by decide) rfl rfl (hSO.new hK7) hB7.rd rfl (by simp [iv, Value.oneCell']) (by simp [maxLen]; omega) (by omega) (fun a8 c8 w8 hS8 hK8 hv8 => ?_)
          have hf8' := own_app (k := fun b => w1.heap.size ≤ b) (w := w7) (w' := w8) (a := oa) (a2 := a8) hfo (fun b hb => Nat.le_trans (hk6.tr hK7).size hb) hv8
          have hG98 := (hG9.keep hK7 (by simp)).keep hK8 (sl_bg (hSO.new hK7) (hG9.keep hK7 (by simp)))
          refine m_sl rfl rfl ?_
          refine o_nil ?_
          refine k_blk ?_
          refine k_region ?_
          refine m_int rfl rfl ?_
          refine n_add rfl rfl (by omega) ?_
          refine m_int rfl rfl ?_
          refine o_nil ?_
          refine k_goal ⟨(i + 1, m + 1, a8, c8), ⟨rfl, rfl, rfl, rfl, trivial⟩, ⟨hio, ?_, ?_, hf8', hG98, (hk6.tr hK7).trb hK8 hfo⟩, by simp only; omega⟩
          · simp only
            rw [take_snoc L i hio, filt_yes (by rw [hp]; exact decide_eq_true h), hm]
            simp
          · simp only
            rw [take_snoc L i hio, filt_yes (by rw [hp]; exact decide_eq_true h), List.map_append]
            exact hS8
        refine k_skip ?_
        refine k_blk ?_
        refine k_region ?_
        refine m_int rfl rfl ?_
        refine n_add rfl rfl (by omega) ?_
        refine m_int rfl rfl ?_
        refine o_nil ?_
        refine k_goal ⟨(i + 1, m, oa, oc), ⟨rfl, rfl, rfl, rfl, trivial⟩, ⟨hio, ?_, ?_, hfo, hG9, hk6⟩, by simp only; omega⟩
        · simp only
          rw [take_snoc L i hio, filt_no (by rw [hp]; exact decide_eq_false h), hm]
        · simp only
          rw [take_snoc L i hio, filt_no (by rw [hp]; exact decide_eq_false h)]
          exact hSO
      obtain ⟨T', x, hte⟩ : ∃ T' x, todo = T' ++ [x] := by
        rcases List.eq_nil_or_concat todo with e | ⟨T', x, e⟩
        · subst e; simp at h
        · exact ⟨T', x, by simpa using e⟩
      subst hte
      have hlast : ((T' ++ [x]).map iv)[T'.length]? = some (iv x) := by simp
      obtain ⟨bt, ot, hae, hcx⟩ := hST.rd _ _ hlast
      subst hae
      have htl : (T' ++ [x]).length = T'.length + 1 := by simp
      have hcap := hST.le
      have hSF : Sl w5 3 1 (some ⟨bt, ot, none⟩) T'.length tc (T'.map iv) := by
        rw [List.map_append, htl] at hST
        exact Sl.front (k := 1) hST (by simp) (.inr (by decide))
      refine k_skip ?_
      refine k_block ?_
      refine k_seq ?_
      refine k_region ?_
      refine m_sl rfl rfl ?_
      refine m_sl rfl rfl ?_
      refine o_lens Tryd.underlying23 rfl ?_
      refine n_sub rfl rfl (by omega) ?_
      rw [show ((T' ++ [x]).length : Int) - 1 = (T'.length : Int) by rw [htl]; push_cast; omega]
      refine o_ixs1 (m := T'.length) Tryd.underlying23 rfl rfl rfl (by omega) ?_
      refine o_ld rfl rfl hcx ?_
      refine m_int rfl rfl ?_
      refine o_nil ?_
      refine k_seq ?_
      refine k_region ?_
      refine m_sl rfl rfl ?_
      refine m_sl rfl rfl ?_
      refine o_lens Tryd.underlying23 rfl ?_
      refine n_sub rfl rfl (by omega) ?_
      rw [show ((T' ++ [x]).length : Int) - 1 = (T'.length : Int) by rw [htl]; push_cast; omega]
      refine o_slh (sz := 1) (hi := T'.length) Tryd.underlying23 rfl rfl rfl (by omega) ?_
      refine m_sl rfl rfl ?_
      refine o_nil ?_
      refine k_seq ?_
      refine k_seq ?_
      refine k_region ?_
      refine m_int rfl rfl ?_
      refine b_eql rfl rfl ?_
      refine m_bool rfl rfl ?_
      refine o_split (t := 104) rfl (fun h => ?_) (fun h => ?_)
      ·
        refine g_no rfl rfl rfl ?_
        refine g_no rfl rfl rfl ?_
        refine g_no rfl rfl rfl ?_
        refine g_no rfl rfl rfl ?_
        refine pick_t rfl rfl ?_
        refine o_nil ?_
        refine k_condt rfl ?_
        refine k_exit rfl ?_
        refine k_goal ⟨(S, T', some ⟨bt, ot, none⟩, tc), ⟨rfl, rfl, rfl, rfl, trivial⟩, ⟨hI.drop (.inl h), hG9, hSF, hft, hk5, by simp only; omega⟩, by simp only; omega⟩
      ·
        obtain ⟨p, hp, hp1, hpn⟩ := L_rng hbk (reach_L hbk hrk' ((hI.sub x (by simp)).resolve_left h))
        subst hp
        obtain ⟨cs9, hB9, hs9, hc9⟩ := hG9
        have hG9 : BG w5 g9 ws.length S := ⟨cs9, hB9, hs9, hc9⟩
        refine g_yes rfl rfl ?_
        refine m_sl rfl rfl ?_
        refine g_yes rfl rfl ?_
        refine m_int rfl rfl ?_
        refine g_yes rfl rfl ?_
        refine o_ixs1 (m := p) Tryd.underlying63 rfl rfl rfl hpn ?_
        refine g_yes rfl rfl ?_
        refine o_ld rfl rfl (by rw [hB9.cell, Nat.zero_add]; exact hc9 p hpn) ?_
        refine pick_f rfl rfl ?_
        refine o_nil ?_
        refine k_cond rfl (fun h => ?_) (fun h => ?_)
        ·
          refine k_exit rfl ?_
          refine k_goal ⟨(S, T', some ⟨bt, ot, none⟩, tc), ⟨rfl, rfl, rfl, rfl, trivial⟩, ⟨hI.drop (.inr h), hG9, hSF, hft, hk5, by simp only; omega⟩, by simp only; omega⟩
        refine k_skip ?_
        refine k_seq ?_
        refine k_region ?_
        refine m_sl rfl rfl ?_
        refine m_int rfl rfl ?_
        refine o_ixs1 (m := p) Tryd.underlying63 rfl rfl rfl hpn ?_
        refine o_st (v := .bool true) rfl rfl rfl rfl hB9 (by omega) (fun w6 hB6 hK6 hZ6 => ?_)
        have hG6 := BG.set (p := p) hs9 hc9 hB6
        have hk6 := hk5.tr1 hK6 hf9
        have hS66 := hSF.keep hK6 (off_bg hSF hG9)
        have hIT := hI.take (by assumption)
        have hun := unS_drop (reach_L hbk hrk' (hIT.sound (p : Int) (by simp))) (show (p : Int) ∉ S by assumption)
        refine o_nil ?_
        refine k_seq ?_
        refine k_region ?_
        refine m_sl rfl rfl ?_
        refine m_int rfl rfl ?_
        refine o_call rfl rfl (rrefs_ok w6 a ws.length c ws p (hW.new (hK1.tr hk6)) rfl (by omega) hx) (fun v w7 hv => ?_)
        obtain ⟨a14, c14, rfl, hS14, hK14, hf14⟩ := hv
        have hrl := refs_len ws p
        have hlt66 := hS66.lt
        have hlt14 := hS14.lt
        refine m_sl rfl rfl ?_
        refine o_nil ?_
        refine k_seq ?_
        refine k_region ?_
        refine m_int rfl rfl ?_
        refine o_nil ?_
        refine k_block ?_
        refine k_loop (σ := Nat × Option Addr × Nat) (fun s => [(0, .slice a ws.length c), (6, .slice a6 L.length c6), (9, .slice (some ⟨g9, 0, none⟩) ws.length ws.length), (11, .slice s.2.1 (T'.length + s.1) s.2.2), (14, .slice a14 (refsW ws p).length c14), (15, .int .i64 (s.1 : Int))]) (fun s w' => s.1 ≤ (refsW ws p).length ∧ Sl w' 3 1 s.2.1 (T'.length + s.1) s.2.2 ((T' ++ ((refsW ws p).take s.1).map (fun d => ws.getD d.toNat 0)).map iv) ∧ SI ws rts (S ++ [(p : Int)]) (T' ++ ((refsW ws p).take s.1).map (fun d => ws.getD d.toNat 0)) [(p : Int)] ∧ (∀ z, s.2.1 = some z → w1.heap.size ≤ z.block ∧ ∀ y, a14 = some y → z.block ≠ y.block) ∧ BG w' g9 ws.length (S ++ [(p : Int)]) ∧ Sl w' 3 1 a14 (refsW ws p).length c14 ((refsW ws p).map iv) ∧ Keep [] w1 w' ∧ w7.heap.size ≤ w'.heap.size) (fun s => (refsW ws p).length - s.1) (0, some ⟨bt, ot, none⟩, tc) ⟨rfl, rfl, rfl, rfl, rfl, rfl, trivial⟩ ⟨by simp, by simpa using hS66.new hK14, by simpa using hIT, fun z hz => ⟨hft z hz, fun y hy => by have := hlt66 z hz; have := hf14 y hy; omega⟩, hG6.keep hK14 (by simp), hS14, hk6.tr hK14, Nat.le_refl _⟩ (fun s e w8 hJ => ?_)
        obtain ⟨k, ta, ud⟩ := s
        obtain ⟨hk, hST8, hI8, hft8, hG98, hS148, hk8, hsz8⟩ := hJ
        simp only at hk hST8 hI8 hft8 ⊢
        refine k_seq ?_
        refine k_seq ?_
        refine k_region ?_
        refine m_int rfl rfl ?_
        refine m_sl rfl rfl ?_
        refine o_lens Tryd.underlying23 rfl ?_
        refine b_lss rfl rfl ?_
        refine o_nil ?_
        refine k_cond rfl (fun h => ?_) (fun h => ?_)
        rotate_left
        ·
          refine k_exit rfl ?_
          refine k_blk ?_
          have hke : k = (refsW ws p).length := by omega
          subst hke
          rw [List.take_of_length_le (Nat.le_refl _)] at hST8 hI8
          have hll : (T' ++ (refsW ws p).map (fun d => ws.getD d.toNat 0)).length = T'.length + (refsW ws p).length := by simp
          refine k_goal ⟨(S ++ [(p : Int)], T' ++ (refsW ws p).map (fun d => ws.getD d.toNat 0), ta, ud), ⟨rfl, rfl, rfl, by simp only [hll]; rfl, trivial⟩, ⟨hI8.close (fun d hd => List.mem_append_right _ (List.mem_map.2 ⟨d, hd, rfl⟩)), hG98, by simpa using hST8, fun z hz => (hft8 z hz).1, hk8, by simp; omega⟩, by simp; omega⟩
        have hkl : k < (refsW ws p).length := by omega
        have hkm := List.getElem_mem hkl
        have hrr := refs_lt ws p _ hkm
        obtain ⟨ρ, hρ⟩ : ∃ ρ : Nat, (refsW ws p)[k] = ρ := ⟨((refsW ws p)[k]).toNat, by omega⟩
        have hρw : ρ < ws.length := by omega
        obtain ⟨b14, o14, hae, _⟩ := hS148.rd.at k (by simpa using hkl)
        subst hae
        obtain ⟨ba, oo, hae, _⟩ := hW.at ρ (by simpa using hρw)
        subst hae
        refine k_skip ?_
        refine k_seq ?_
        refine k_block ?_
        refine k_region ?_
        refine m_sl rfl rfl ?_
        refine m_sl rfl rfl ?_
        refine m_sl rfl rfl ?_
        refine m_int rfl rfl ?_
        refine o_ixs1 (m := k) Tryd.underlying23 rfl rfl rfl hkl ?_
        refine o_ld rfl rfl (hS148.rd.cellK (Keep.refl _ _) (iv_at _ k hkl)) ?_
        rw [hρ]
        refine o_ixs1 (m := ρ) Tryd.underlying22 rfl rfl rfl hρw ?_
        refine o_ld rfl rfl (hW.cellK (hK1.tr hk8) (iv_at ws ρ hρw)) ?_
        refine o_bsl (E := 3) (cs := #[iv ws[ρ]]) rfl (fun _ => by kernel_rfl) (fun g9' w9 hB9' hK9 hb9 hZ9 => ?_)
        refine o_app Tryd.underlying23 inf3 rfl (by decide) rfl rfl (hST8.new hK9) hB9'.rd rfl (by simp [iv, Value.oneCell']) (by simp [maxLen]; omega) (by omega) (fun a10 c10 w10 hS10 hK10 hv10 => ?_)
        have hown := own_app (k := fun b => w1.heap.size ≤ b ∧ ∀ y, some (⟨b14, o14, none⟩ : Addr) = some y → b ≠ y.block) (w := w9) (w' := w10) (a := ta) (a2 := a10) hft8 (fun b hb => ⟨Nat.le_trans (hk8.tr hK9).size hb, fun y hy => by have := hlt14 y hy; have := hK9.size; omega⟩) hv10
        have hG10 := (hG98.keep hK9 (by simp)).keep hK10 (sl_bg (hST8.new hK9) (hG98.keep hK9 (by simp)))
        have hS1410 := (hS148.new hK9).keep hK10 (off_own (fun z hz => (hft8 z hz).2))
        refine m_sl rfl rfl ?_
        refine o_nil ?_
        refine k_blk ?_
        refine k_region ?_
        refine m_int rfl rfl ?_
        refine n_add rfl rfl (by omega) ?_
        refine m_int rfl rfl ?_
        refine o_nil ?_
        refine k_goal ⟨(k + 1, a10, c10), ⟨rfl, rfl, rfl, rfl, rfl, rfl, trivial⟩, ⟨hkl, ?_, ?_, hown, hG10, hS1410, (hk8.tr hK9).trb hK10 (fun z hz => (hft8 z hz).1), ?_⟩, by simp only; omega⟩
        · simp only
          rw [take_snoc _ k hkl, hρ]
          have h10 : Sl w10 3 1 a10 (T'.length + (k + 1)) c10 _ := hS10
          simpa [List.getElem?_eq_getElem hρw] using h10
        · simp only
          rw [take_snoc _ k hkl, List.map_append, ← List.append_assoc]
          exact hI8.push (by simp) hkm
        · have := hK9.size; have := hK10.size; omega
    have hio : i < rts.length := by omega
    obtain ⟨br, orr, hra, _⟩ := hR.at i (by simpa using hio)
    subst hra
    have hRk := hR.new (hK1.tr hk4)
    have hld := hRk.cellK (Keep.refl _ _) (iv_at rts i hio)
    have hbad : ¬ (0 ≤ rts[i] ∧ rts[i] < ws.length ∧ (0 < rts[i] → rts[i] ∈ L)) → ¬ rootsOk ws L rts := fun hh hr => hh (hr _ (List.getElem_mem hio))
    refine k_skip ?_
    refine k_seq ?_
    refine k_block ?_
    refine k_seq ?_
    refine k_seq ?_
    refine k_region ?_
    refine m_sl rfl rfl ?_
    refine m_int rfl rfl ?_
    refine o_ixs1 (m := i) Tryd.underlying23 rfl rfl rfl hio ?_
    refine o_ld rfl rfl hld ?_
    refine b_lss rfl rfl ?_
    refine m_bool rfl rfl ?_
    refine o_split (t := 55) rfl (fun h => ?_) (fun h => ?_)
    ·
      refine g_no rfl rfl rfl ?_
      refine g_no rfl rfl rfl ?_
      refine g_no rfl rfl rfl ?_
      refine g_no rfl rfl rfl ?_
      refine g_no rfl rfl rfl ?_
      refine g_no rfl rfl rfl ?_
      refine g_no rfl rfl rfl ?_
      refine pick_t rfl rfl ?_
      refine m_bool rfl rfl ?_
      refine g_no rfl rfl rfl ?_
      refine g_no rfl rfl rfl ?_
      refine g_no rfl rfl rfl ?_
      refine g_no rfl rfl rfl ?_
      refine g_no rfl rfl rfl ?_
      refine g_no rfl rfl rfl ?_
      refine g_un rfl rfl ?_
      refine g_un rfl rfl ?_
      refine g_un rfl rfl ?_
      refine g_un rfl rfl ?_
      refine g_un rfl rfl ?_
      refine g_un rfl rfl ?_
      refine g_un rfl rfl ?_
      refine g_un rfl rfl ?_
      refine g_no rfl rfl rfl ?_
      refine pick_t rfl rfl ?_
      refine o_nil ?_
      refine k_condt rfl ?_
      refine k_seq ?_
      refine k_region ?_
      refine m_sl rfl rfl ?_
      refine m_int rfl rfl ?_
      refine o_nil ?_
      refine k_ret (ret_tmps (ts := [4, 5]) (v := .tuple #[.slice _ _ _, .int _ _]) rfl rfl ?_)
      exact ⟨1, [], none, 0, rfl, Rd.nil _ _, ⟨by simp, fun z hz => (by cases hz)⟩, hK1.tr hk4, .inr (.inl ⟨rfl, rfl, L, hbk, hbad (fun hh => by omega)⟩)⟩
    ·
      refine g_yes rfl rfl ?_
      refine m_sl rfl rfl ?_
      refine g_yes rfl rfl ?_
      refine m_int rfl rfl ?_
      refine g_yes rfl rfl ?_
      refine o_ixs1 (m := i) Tryd.underlying23 rfl rfl rfl hio ?_
      refine g_yes rfl rfl ?_
      refine o_ld rfl rfl hld ?_
      refine g_yes rfl rfl ?_
      refine m_sl rfl rfl ?_
      refine g_yes rfl rfl ?_
      refine o_lens Tryd.underlying22 rfl ?_
      refine g_yes rfl rfl ?_
      refine b_geq rfl rfl ?_
      refine pick_f rfl rfl ?_
      refine m_bool rfl rfl ?_
      refine o_split (t := 64) rfl (fun h => ?_) (fun h => ?_)
      ·
        refine g_no rfl rfl rfl ?_
        refine g_no rfl rfl rfl ?_
        refine g_no rfl rfl rfl ?_
        refine g_no rfl rfl rfl ?_
        refine g_no rfl rfl rfl ?_
        refine g_no rfl rfl rfl ?_
        refine g_un rfl rfl ?_
        refine g_un rfl rfl ?_
        refine g_un rfl rfl ?_
        refine g_un rfl rfl ?_
        refine g_un rfl rfl ?_
        refine g_un rfl rfl ?_
        refine g_un rfl rfl ?_
        refine g_un rfl rfl ?_
        refine g_no rfl rfl rfl ?_
        refine pick_t rfl rfl ?_
        refine o_nil ?_
        refine k_condt rfl ?_
        refine k_seq ?_
        refine k_region ?_
        refine m_sl rfl rfl ?_
        refine m_int rfl rfl ?_
        refine o_nil ?_
        refine k_ret (ret_tmps (ts := [4, 5]) (v := .tuple #[.slice _ _ _, .int _ _]) rfl rfl ?_)
        exact ⟨1, [], none, 0, rfl, Rd.nil _ _, ⟨by simp, fun z hz => (by cases hz)⟩, hK1.tr hk4, .inr (.inl ⟨rfl, rfl, L, hbk, hbad (fun hh => by omega)⟩)⟩
      ·
        obtain ⟨p, hp⟩ : ∃ p : Nat, rts[i] = p := ⟨rts[i].toNat, by omega⟩
        have hpn : p < ws.length := by omega
        obtain ⟨cs8, hB8, hs8, hc8⟩ := hG8
        refine g_yes rfl rfl ?_
        refine m_sl rfl rfl ?_
        refine g_yes rfl rfl ?_
        refine m_int rfl rfl ?_
        refine g_yes rfl rfl ?_
        refine o_ixs1 (m := i) Tryd.underlying23 rfl rfl rfl hio ?_
        refine g_yes rfl rfl ?_
        refine o_ld rfl rfl hld ?_
        refine g_yes rfl rfl ?_
        refine b_gtr rfl rfl ?_
        refine g_yes rfl rfl ?_
        refine m_bool rfl rfl ?_
        refine o_split (t := 70) rfl (fun h => ?_) (fun h => ?_)
        ·
          refine g_yes rfl rfl ?_
          refine m_sl rfl rfl ?_
          refine g_yes rfl rfl ?_
          refine m_sl rfl rfl ?_
          refine g_yes rfl rfl ?_
          refine m_int rfl rfl ?_
          refine g_yes rfl rfl ?_
          refine o_ixs1 (m := i) Tryd.underlying23 rfl rfl rfl hio ?_
          refine g_yes rfl rfl ?_
          refine o_ld rfl rfl hld ?_
          rw [hp]
          refine g_yes rfl rfl ?_
          refine o_ixs1 (m := p) Tryd.underlying63 rfl rfl rfl hpn ?_
          refine g_yes rfl rfl ?_
          refine o_ld rfl rfl (by rw [hB8.cell, Nat.zero_add]; exact hc8 p hpn) ?_
          refine g_yes rfl rfl ?_
          refine u_not rfl ?_
          refine g_yes rfl rfl ?_
          refine pick_t rfl rfl ?_
          refine pick_f rfl rfl ?_
          refine o_nil ?_
          refine k_cond rfl (fun h => ?_) (fun h => ?_)
          ·
            refine k_seq ?_
            refine k_region ?_
            refine m_sl rfl rfl ?_
            refine m_int rfl rfl ?_
            refine o_nil ?_
            refine k_ret (ret_tmps (ts := [4, 5]) (v := .tuple #[.slice _ _ _, .int _ _]) rfl rfl ?_)
            exact ⟨1, [], none, 0, rfl, Rd.nil _ _, ⟨by simp, fun z hz => (by cases hz)⟩, hK1.tr hk4, .inr (.inl ⟨rfl, rfl, L, hbk, hbad (fun hh => h (by rw [← hp]; exact hh.2.2 (by assumption)))⟩)⟩
          have hok : 0 ≤ rts[i] ∧ rts[i] < ws.length ∧ (0 < rts[i] → rts[i] ∈ L) := ⟨by omega, by omega, fun _ => by rw [hp]; exact Decidable.of_not_not h⟩
          refine k_skip ?_
          refine k_region ?_
          refine m_sl rfl rfl ?_
          refine m_sl rfl rfl ?_
          refine m_int rfl rfl ?_
          refine o_ixs1 (m := i) Tryd.underlying23 rfl rfl rfl hio ?_
          refine o_ld rfl rfl hld ?_
          refine o_bsl (E := 3) (cs := #[iv rts[i]]) rfl (fun _ => by kernel_rfl) (fun g5 w5 hB5 hK5 hb5 hZ5 => ?_)
          refine o_app Tryd.underlying23 inf3 rfl (by decide) rfl rfl (hST.new hK5) hB5.rd rfl (by simp [iv, Value.oneCell']) (by simp [maxLen]; omega) (by omega) (fun a7 c7 w7 hS7 hK7 hv7 => ?_)
          have hf7 := own_app (k := fun b => w1.heap.size ≤ b) (w := w5) (w' := w7) (a := ta) (a2 := a7) hft (fun b hb => Nat.le_trans (hk4.tr hK5).size hb) hv7
          have hG8' : BG w4 g8 ws.length L := ⟨cs8, hB8, hs8, hc8⟩
          have hG87 := (hG8'.keep hK5 (by simp)).keep hK7 (sl_bg (hST.new hK5) (hG8'.keep hK5 (by simp)))
          have hG97 := (hG9.keep hK5 (by simp)).keep hK7 (sl_bg (hST.new hK5) (hG9.keep hK5 (by simp)))
          refine m_sl rfl rfl ?_
          refine o_nil ?_
          refine k_blk ?_
          refine k_region ?_
          refine m_int rfl rfl ?_
          refine n_add rfl rfl (by omega) ?_
          refine m_int rfl rfl ?_
          refine o_nil ?_
          refine k_goal ⟨(i + 1, a7, c7), ⟨rfl, rfl, rfl, rfl, rfl, rfl, rfl, trivial⟩, ⟨hio, ?_, ?_, hf7, hG87, hG97, (hk4.tr hK5).trb hK7 hft⟩, by simp only; omega⟩
          · simp only
            rw [take_snoc rts i hio, List.map_append]
            exact hS7
          · simp only
            rw [take_snoc rts i hio]
            intro r hr
            rcases List.mem_append.1 hr with hr | hr
            · exact hrk r hr
            · rw [List.mem_singleton.1 hr]; exact hok
        ·
          have hok : 0 ≤ rts[i] ∧ rts[i] < ws.length ∧ (0 < rts[i] → rts[i] ∈ L) := ⟨by omega, by omega, fun hh => absurd hh (by assumption)⟩
          refine g_no rfl rfl rfl ?_
          refine g_no rfl rfl rfl ?_
          refine g_no rfl rfl rfl ?_
          refine g_no rfl rfl rfl ?_
          refine g_no rfl rfl rfl ?_
          refine g_no rfl rfl rfl ?_
          refine g_no rfl rfl rfl ?_
          refine g_no rfl rfl rfl ?_
          refine g_yes rfl rfl ?_
          refine pick_f rfl rfl ?_
          refine pick_f rfl rfl ?_
          refine o_nil ?_
          refine k_condf rfl ?_
          refine k_skip ?_
          refine k_region ?_
          refine m_sl rfl rfl ?_
          refine m_sl rfl rfl ?_
          refine m_int rfl rfl ?_
          refine o_ixs1 (m := i) Tryd.underlying23 rfl rfl rfl hio ?_
          refine o_ld rfl rfl hld ?_
          refine o_bsl (E := 3) (cs := #[iv rts[i]]) rfl (fun _ => by kernel_rfl) (fun g5 w5 hB5 hK5 hb5 hZ5 => ?_)
          refine o_app Tryd.underlying23 inf3 rfl (by decide) rfl rfl (hST.new hK5) hB5.rd rfl (by simp [iv, Value.oneCell']) (by simp [maxLen]; omega) (by omega) (fun a7 c7 w7 hS7 hK7 hv7 => ?_)
          have hf7 := own_app (k := fun b => w1.heap.size ≤ b) (w := w5) (w' := w7) (a := ta) (a2 := a7) hft (fun b hb => Nat.le_trans (hk4.tr hK5).size hb) hv7
          have hG8' : BG w4 g8 ws.length L := ⟨cs8, hB8, hs8, hc8⟩
          have hG87 := (hG8'.keep hK5 (by simp)).keep hK7 (sl_bg (hST.new hK5) (hG8'.keep hK5 (by simp)))
          have hG97 := (hG9.keep hK5 (by simp)).keep hK7 (sl_bg (hST.new hK5) (hG9.keep hK5 (by simp)))
          refine m_sl rfl rfl ?_
          refine o_nil ?_
          refine k_blk ?_
          refine k_region ?_
          refine m_int rfl rfl ?_
          refine n_add rfl rfl (by omega) ?_
          refine m_int rfl rfl ?_
          refine o_nil ?_
          refine k_goal ⟨(i + 1, a7, c7), ⟨rfl, rfl, rfl, rfl, rfl, rfl, rfl, trivial⟩, ⟨hio, ?_, ?_, hf7, hG87, hG97, (hk4.tr hK5).trb hK7 hft⟩, by simp only; omega⟩
          · simp only
            rw [take_snoc rts i hio, List.map_append]
            exact hS7
          · simp only
            rw [take_snoc rts i hio]
            intro r hr
            rcases List.mem_append.1 hr with hr | hr
            · exact hrk r hr
            · rw [List.mem_singleton.1 hr]; exact hok
  have hio : i < L.length := by omega
  obtain ⟨b6, o6, rfl, _⟩ := hS6.rd.at i (by simpa using hio)
  obtain ⟨p, hp, hp1, hpn⟩ := L_rng hbk (List.getElem_mem hio)
  refine k_skip ?_
  refine k_seq ?_
  refine k_block ?_
  refine k_region ?_
  refine m_sl rfl rfl ?_
  refine m_sl rfl rfl ?_
  refine m_int rfl rfl ?_
  refine o_ixs1 (m := i) Tryd.underlying23 rfl rfl rfl hio ?_
  refine o_ld rfl rfl (hS6.rd.cellK hk3 (iv_at L i hio)) ?_
  rw [hp]
  obtain ⟨cs8, hB8, hs8, hc8⟩ := hG8
  refine o_ixs1 (m := p) Tryd.underlying63 rfl rfl rfl hpn ?_
  refine o_st (v := .bool true) rfl rfl rfl rfl hB8 (by omega) (fun w4 hB4 hK4 hZ4 => ?_)
  have hG4 := BG.set (p := p) hs8 hc8 hB4
  rw [← hp, ← take_snoc L i hio] at hG4
  refine o_nil ?_
  refine k_blk ?_
  refine k_region ?_
  refine m_int rfl rfl ?_
  refine n_add rfl rfl (by omega) ?_
  refine m_int rfl rfl ?_
  refine o_nil ?_
  refine k_goal ⟨i + 1, ⟨rfl, rfl, rfl, rfl, rfl, rfl, trivial⟩, ⟨by omega, hG4, hG9.keep hK4 (fun hm => by rw [List.mem_singleton] at hm; exact hne hm.symm), hk3.tr1 hK4 hf8⟩, by omega⟩
end Go.Proofs.YtchbidckckmobaaDoor

/- The document's Collect. No condition beyond what each contract names. -/
namespace Go.Proofs.YtchbidckckmobaaDoor
open Go.RowKit E
set_option linter.unusedVariables false
set_option linter.unusedSimpArgs false
set_option maxRecDepth 100000
attribute [local irreducible] ow qw kw kq cw opW Ret
def toL (ws pre : List Int) (n : Nat) : List Int := (List.range n).map (fun (x : Nat) => adr ws pre 1 (x : Int))
theorem toL_len (ws pre : List Int) (n : Nat) : (toL ws pre n).length = n := by simp [toL]
theorem toL_nil (ws : List Int) (n : Nat) : toL ws [] n = List.replicate n 0 := by
  apply List.ext_getElem
  · simp [toL]
  · intro i h1 h2
    simp only [toL, List.getElem_map, List.getElem_replicate]
    rfl
theorem toL_at (ws pre : List Int) (n q : Nat) (h : q < n) : ((toL ws pre n).map iv)[q]? = some (iv (adr ws pre 1 (q : Int))) := by
  simp [toL, List.getElem?_range, h]
theorem toL_set (ws pre : List Int) (n k : Nat) (hk : (k : Int) ∉ pre) : (toL ws pre n).set k ((1 + sumN ws pre : Nat) : Int) = toL ws (pre ++ [(k : Int)]) n := by
  apply List.ext_getElem
  · simp [toL]
  · intro i h1 h2
    rw [List.getElem_set]
    simp only [toL, List.getElem_map, List.getElem_range]
    rw [adr_snoc ws pre _ _ hk]
    by_cases hi : k = i
    · subst hi; rw [if_pos rfl, if_pos rfl]
    · rw [if_neg hi, if_neg (by omega)]
theorem up_split {LV : List Int} {i : Nat} (h : LV.Pairwise (· < ·)) (hi : i < LV.length) : LV[i] ∉ LV.take i := by
  have e : LV = LV.take i ++ LV[i] :: LV.drop (i + 1) := by rw [← List.drop_eq_getElem_cons hi, List.take_append_drop]
  rw [e] at h
  exact up_notin h
theorem refU_up (kind mask p : Int) (i : Nat) : (refU kind mask p i).Pairwise (· < ·) := by
  induction i with
  | zero => simp [refU]
  | succ i ih =>
    unfold refU
    rw [List.pairwise_append]
    refine ⟨ih, by split <;> simp, fun x hx y hy => ?_⟩
    have := refU_lt kind mask p i x hx
    split at hy
    · simp at hy; omega
    · simp at hy
theorem refs_up (ws : List Int) (p : Int) : (refsW ws p).Pairwise (· < ·) := by
  unfold refsW
  split
  · unfold refsO
    split
    · exact refU_up _ _ _ _
    · simp
  · simp
theorem newB_at (ws LV : List Int) (k j : Nat) (h : j < szN ws (k : Int)) (hw : k + j < ws.length) : (newB ws LV (k : Int))[j]'(by rw [newB_len]; exact h) = if (k : Int) + (j : Int) ∈ refsW ws (k : Int) then adr ws LV 1 ws[k + j] else ws[k + j] := by
  simp only [newB, midB, List.getElem_map, List.getElem_range, Int.toNat_natCast]
  rw [getD_get ws (k + j) hw]
end Go.Proofs.YtchbidckckmobaaDoor
