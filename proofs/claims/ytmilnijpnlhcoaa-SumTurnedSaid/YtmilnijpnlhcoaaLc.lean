/- The walk of the law SumLinear. No condition beyond what the contract names. -/
import Derived.Test.YtmilnijpnlhcoaaLa
namespace Go.Proofs.Ytmilnijpnlhcoaa
open Go.RowKit E
set_option linter.unusedVariables false
set_option linter.unusedSimpArgs false
set_option maxRecDepth 100000
attribute [local irreducible] ow qw kw kq cw opW Ret
theorem minI (a b : Nat) : (if (b : Int) < (a : Int) then (b : Int) else (a : Int)) = ((min a b : Nat) : Int) := by
  by_cases h : b < a
  · rw [if_pos (by omega), Nat.min_eq_right (by omega)]
  · rw [if_neg (by omega), Nat.min_eq_left (by omega)]
theorem inf5 : infB Try.prog 5 1 1 (.int .u8 0) := by
  obtain ⟨i, h1, h2, h3, h4⟩ := info_parts (P := Try.prog) (e := 5) (z := .int .u8 0) (size := 1) (bytes := 1) (by kernel_rfl)
  exact ⟨i, h1, h3, h4, h2⟩
theorem made_u8 (N : Nat) : (madeCells (Value.cells (.int .u8 0)) (N * 1)).toList = (List.replicate N (0#8)).map u8v := by
  show (madeCells #[Value.int .u8 0] (N * 1)).toList = _
  rw [Nat.mul_one, toList_madeCells_one, List.map_replicate]
  rfl

/-- the bytes' exclusive or up to a place, noughts behind it -/
def xs (l m : List (BitVec 8)) (N k : Nat) : List (BitVec 8) := List.zipWith (· ^^^ ·) (l.take k) (m.take k) ++ List.replicate (N - k) 0#8
theorem xs_len (l m : List (BitVec 8)) (N k : Nat) (hl : N ≤ l.length) (hm : N ≤ m.length) (hk : k ≤ N) : (xs l m N k).length = N := by
  simp [xs]; omega
theorem xs_set (l m : List (BitVec 8)) (N k : Nat) (hl : N ≤ l.length) (hm : N ≤ m.length) (hk : k < N) : ((xs l m N k).map u8v).set k (u8v (l[k] ^^^ m[k])) = (xs l m N (k + 1)).map u8v := by
  rw [← List.map_set]
  congr 1
  have h1 : (List.zipWith (· ^^^ ·) (l.take k) (m.take k)).length = k := by simp; omega
  unfold xs
  rw [List.set_append_right _ _ (by omega), h1, Nat.sub_self, List.take_succ_eq_append_getElem (by omega), List.take_succ_eq_append_getElem (by omega), List.zipWith_append (by simp; omega)]
  rw [show N - k = (N - (k + 1)) + 1 by omega, List.replicate_succ, List.set_cons_zero]
  simp

theorem sl_set {w w' : World} {g N i : Nat} {l : List Value} {cur : Array Value} {E : TypeId} {v : Value} (h : Sl w E 1 (some ⟨g, 0, none⟩) N N l) (hB : Blk w g cur E) (hB' : Blk w' g (cur.setIfInBounds i v) E) : Sl w' E 1 (some ⟨g, 0, none⟩) N N (l.set i v) := by
  obtain ⟨h1, h2⟩ := h
  refine ⟨by simpa using h1, .inr ⟨g, _, rfl, hB', Nat.le_refl _, ?_⟩⟩
  rcases h2 with ⟨h2, _⟩ | ⟨g', cur', he, hb, hle, hmx, hs, ht⟩
  · cases h2
  · simp at he
    subst he
    have := hb.inj hB
    subst this
    refine ⟨hmx, by simpa using hs, ?_⟩
    rw [Array.toList_setIfInBounds, ← ht, List.take_set]

theorem slc_set {w w' : World} {g N c i : Nat} {l : List Value} {cur : Array Value} {E : TypeId} {v : Value} (h : Sl w E 1 (some ⟨g, 0, none⟩) N c l) (hB : Blk w g cur E) (hB' : Blk w' g (cur.setIfInBounds i v) E) : Sl w' E 1 (some ⟨g, 0, none⟩) N c (l.set i v) := by
  obtain ⟨h1, h2⟩ := h
  rcases h2 with ⟨h2, _⟩ | ⟨g', cur', he, hb, hle, hmx, hs, ht⟩
  · cases h2
  · simp at he
    subst he
    have := hb.inj hB
    subst this
    refine ⟨by simpa using h1, .inr ⟨_, _, rfl, hB', hle, hmx, by simpa using hs, ?_⟩⟩
    rw [Array.toList_setIfInBounds, ← ht, List.take_set]

theorem sl_blk {w : World} {g N : Nat} {l : List Value} {E : TypeId} (h : Sl w E 1 (some ⟨g, 0, none⟩) N N l) : ∃ cur : Array Value, Blk w g cur E ∧ cur.size = N ∧ cur.toList = l := by
  rcases h.2 with ⟨h2, _⟩ | ⟨g', cur', he, hb, hle, hmx, hs, ht⟩
  · cases h2
  · simp at he
    subst he
    refine ⟨cur', hb, by simpa using hs, ?_⟩
    rw [← ht, List.take_of_length_le (by simp [hs])]

theorem sumXor (l m : List (BitVec 8)) (N : Nat) (hN : N = min l.length m.length) :
    IntKind.i64.wrap (BitVec.ofInt 64 (Crc.add 0 (l.take N)) ^^^ BitVec.ofInt 64 (Crc.add 0 (m.take N))).toNat = IntKind.i64.wrap (BitVec.ofInt 64 (Crc.add 0 (xs l m N N)) ^^^ BitVec.ofInt 64 (Crc.add 0 (List.replicate N 0#8))).toNat := by
  have hx : xs l m N N = List.zipWith (· ^^^ ·) (l.take N) (m.take N) := by simp [xs]
  have hlen : (l.take N).length = (m.take N).length := by simp; omega
  have key : ∀ (a b : BitVec 32), BitVec.ofInt 64 (a.toNat : Int) ^^^ BitVec.ofInt 64 (b.toNat : Int) = (a ^^^ b).setWidth 64 := by
    intro a b
    rw [BitVec.ofInt_natCast, BitVec.ofInt_natCast, BitVec.ofNat_toNat, BitVec.ofNat_toNat]
    apply BitVec.eq_of_getLsbD_eq
    intro i hi
    simp only [BitVec.getLsbD_xor, BitVec.getLsbD_setWidth]
    by_cases h : i < 32 <;> simp [hi]
  unfold Crc.add
  rw [key, key]
  congr 4
  have hn : ∀ a b : BitVec 32, ~~~ a ^^^ ~~~ b = a ^^^ b := by
    intro a b
    apply BitVec.eq_of_getLsbD_eq
    intro i hi
    simp [hi]
  rw [hn, hn, hx]
  have h1 := Crc.fold_xor (l.take N) (m.take N) (~~~ BitVec.ofInt 32 0) (~~~ BitVec.ofInt 32 0) hlen
  have h2 := Crc.fold_xor (List.zipWith (· ^^^ ·) (l.take N) (m.take N)) (List.replicate N 0#8) (~~~ BitVec.ofInt 32 0) (~~~ BitVec.ofInt 32 0) (by simp; omega)
  rw [← h1, ← h2]
  congr 1
  apply List.ext_getElem
  · simp
  · intro i _ _
    simp

attribute [local irreducible] Crc.add in
theorem sumLinear_ok (w : World) (a : Option Addr) (c : Nat) (l : List (BitVec 8)) (b : Option Addr) (c' : Nat) (m : List (BitVec 8)) (hR : Rd w a (l.map u8v)) (hl : l.length ≤ c ∧ c ≤ 140737488351232) (hR' : Rd w b (m.map u8v)) (hm : m.length ≤ c' ∧ c' ≤ 140737488351232) :
    Ret Try.prog 5 [.slice a l.length c, .slice b m.length c'] w (fun v w' => v = .bool true ∧ Keep [] w w') := by
  obtain ⟨N, hNe⟩ : ∃ N, N = min l.length m.length := ⟨_, rfl⟩
  have hNl : N ≤ l.length := by omega
  have hNm : N ≤ m.length := by omega
  refine fn_enter (n := 57) Try.func5 rfl rfl (Nat.le_of_ble_eq_true rfl) (fun e => ?_)
  refine k_seq ?_
  refine k_region ?_
  refine m_bool rfl rfl ?_
  refine o_nil ?_
  refine k_seq ?_
  refine k_seq ?_
  refine k_region ?_
  refine o_call rfl rfl (fixed_ok w) (fun v w1 hv => ?_)
  obtain ⟨rfl, hK1⟩ := hv
  refine u_notb rfl ?_
  refine o_nil ?_
  refine k_condf rfl ?_
  refine k_skip ?_
  refine k_seq ?_
  refine k_region ?_
  refine m_sl rfl rfl ?_
  refine o_lens Try.underlying22 rfl ?_
  refine m_sl rfl rfl ?_
  refine o_lens Try.underlying22 rfl ?_
  refine o_min rfl rfl ?_
  rw [minI, ← hNe]
  refine m_int rfl rfl ?_
  refine o_nil ?_
  refine k_seq ?_
  refine k_anyF 5 (fun w w' => Keep [] w w') (fun i => match i with
      | 0 => fun v w => v = .int .i64 (N : Int)
      | 1 => fun v w => ∃ g, v = .slice (some ⟨g, 0, none⟩) N N ∧ w1.heap.size ≤ g ∧ Sl w 5 1 (some ⟨g, 0, none⟩) N N ((List.replicate N 0#8).map u8v)
      | 2 => fun v w => v = .int .i64 (N : Int)
      | 3 => fun v w => ∃ g, v = .slice (some ⟨g, 0, none⟩) N N ∧ w1.heap.size ≤ g ∧ Sl w 5 1 (some ⟨g, 0, none⟩) N N ((List.replicate N 0#8).map u8v)
      | 4 => fun v w => True
      | _ => fun v w => True) [1,3] rfl rfl rfl rfl rfl (Keep.refl []) (fun _ _ _ h1 h2 => h1.tr h2) ?_ ?_ ?_ ?_
  · intro i v w w' h hL
    match i, h with
    | 0, h =>
      exact h
    | 1, h =>
      obtain ⟨g, h1, h2, h3⟩ := h
      exact ⟨g, h1, h2, h3.new hL⟩
    | 2, h =>
      exact h
    | 3, h =>
      obtain ⟨g, h1, h2, h3⟩ := h
      exact ⟨g, h1, h2, h3.new hL⟩
    | 4, h =>
      exact h
    | _ + 5, h => trivial
  · intro i hi v w h
    simp only [List.mem_cons, List.not_mem_nil, or_false] at hi
    rcases hi with rfl | rfl
    · obtain ⟨g, rfl, _, h3⟩ := h
      exact h3.lt _ rfl
    · obtain ⟨g, rfl, _, h3⟩ := h
      exact h3.lt _ rfl
  · intro i o him hl eA wA hL hA hD
    match i, him, hl with
    | 0, _, hl =>
      obtain rfl := Option.some.inj hl
      refine o_gen [(5, _)] ⟨hA 5 (free_of rfl), trivial⟩ (fun e2 => ?_)
      refine m_int rfl rfl ?_
      refine o_nil ⟨Keep.refl _ _, rfl, fun h => by simp at h⟩
    | 1, _, hl =>
      obtain rfl := Option.some.inj hl
      refine o_gen [(16, _)] ⟨hD 0 (by decide) 16 rfl, trivial⟩ (fun e2 => ?_)
      refine o_make (m := N) Try.underlying22 inf5 rfl rfl (by simp [maxLen]; omega) (by omega) (fun g w2 hS2 hK2 hb2 hZ2 => ?_)
      refine o_nil ⟨hK2, ⟨g, rfl, by have := hL.size; simp at this; omega, by rw [made_u8] at hS2; exact hS2⟩, fun _ => by show _ ≤ g; omega⟩
    | 2, _, hl =>
      obtain rfl := Option.some.inj hl
      refine o_gen [(5, _)] ⟨hA 5 (free_of rfl), trivial⟩ (fun e2 => ?_)
      refine m_int rfl rfl ?_
      refine o_nil ⟨Keep.refl _ _, rfl, fun h => by simp at h⟩
    | 3, _, hl =>
      obtain rfl := Option.some.inj hl
      refine o_gen [(18, _)] ⟨hD 2 (by decide) 18 rfl, trivial⟩ (fun e2 => ?_)
      refine o_make (m := N) Try.underlying22 inf5 rfl rfl (by simp [maxLen]; omega) (by omega) (fun g w2 hS2 hK2 hb2 hZ2 => ?_)
      refine o_nil ⟨hK2, ⟨g, rfl, by have := hL.size; simp at this; omega, by rw [made_u8] at hS2; exact hS2⟩, fun _ => by show _ ≤ g; omega⟩
    | 4, _, hl =>
      obtain rfl := Option.some.inj hl
      obtain ⟨g, hg, hg1, hg2⟩ := hD 1 (by decide) 17 rfl
      refine o_gen [(17, _)] ⟨hg, trivial⟩ (fun e2 => ?_)
      refine m_sl rfl rfl ?_
      refine o_nil ⟨Keep.refl _ _, trivial, fun h => by simp at h⟩
    | _ + 5, him, _ => exact absurd him (by omega)
  intro eA wA hL hA hV hN hM
  obtain ⟨gx, hx1, hx2, hx3⟩ := hV 1 (by decide) 17 rfl
  obtain ⟨gz, hz1, hz2, hz3⟩ := hV 3 (by decide) 19 rfl
  have hne : gx ≠ gz := by
   have := hN 1 3 (by simp) (by simp) (by decide) (by decide) (by decide) 17 19 rfl rfl
   rw [hx1, hz1] at this
   exact this
  have h6 : eA 6 = .slice (some ⟨gx, 0, none⟩) N N := (hM 4 _ _ 6 (by decide) rfl rfl rfl rfl).trans hx1
  have hk2 : Keep [] w wA := hK1.tr ((Keep.refl [] w1).drew.tr hL)
  refine o_gen [(0, .slice a l.length c), (1, .slice b m.length c'), (5, .int .i64 (N : Int)), (6, .slice (some ⟨gx, 0, none⟩) N N), (19, .slice (some ⟨gz, 0, none⟩) N N)] ⟨hA 0 (free_of rfl), hA 1 (free_of rfl), hA 5 (free_of rfl), h6, hz1, trivial⟩ (fun e3 => ?_)
  refine m_sl rfl rfl ?_
  refine o_nil ?_
  refine k_seq ?_
  refine k_seq ?_
  refine k_region ?_
  refine m_sl rfl rfl ?_
  refine o_lens Try.underlying22 rfl ?_
  refine m_int rfl rfl ?_
  refine o_nil ?_
  refine k_block ?_
  refine k_loop (σ := Nat) (fun k => [(0, .slice a l.length c), (1, .slice b m.length c'), (5, .int .i64 (N : Int)), (6, .slice (some ⟨gx, 0, none⟩) N N), (7, .slice (some ⟨gz, 0, none⟩) N N), (21, .int .i64 (N : Int)), (22, .int .i64 (k : Int))]) (fun k w' => k ≤ N ∧ Keep [] w w' ∧ Sl w' 5 1 (some ⟨gx, 0, none⟩) N N ((xs l m N k).map u8v) ∧ Sl w' 5 1 (some ⟨gz, 0, none⟩) N N ((List.replicate N 0#8).map u8v)) (fun k => N - k) 0 ⟨rfl, rfl, rfl, rfl, rfl, rfl, rfl, trivial⟩ ⟨by omega, hk2, by simpa [xs] using hx3, hz3⟩ (fun k e w3 hJ => ?_)
  obtain ⟨hk, hk3, hX, hZ⟩ := hJ
  refine k_seq ?_
  refine k_region ?_
  refine b_lss rfl rfl ?_
  refine o_nil ?_
  refine k_seq ?_
  refine k_cond rfl (fun h => ?_) (fun h => ?_)
  rotate_left
  ·
    obtain rfl : N = k := by omega
    have hlT : (l.take N).length = N := by simp; omega
    have hmT : (m.take N).length = N := by simp; omega
    have hxT := xs_len l m N N hNl hNm (Nat.le_refl _)
    have hbase : ∀ w', Keep [] w3.drew w' → Keep [] w3 w' := fun w' h => (Keep.refl [] w3).drew.tr h
    refine k_exit rfl ?_
    refine k_seq ?_
    refine k_any 19 (fun w w' => Keep [] w w') (fun i => match i with
        | 0 => fun v w => v = .slice a l.length c
        | 1 => fun v w => v = .int .i64 (N : Int)
        | 2 => fun v w => v = .slice a N c
        | 3 => fun v w => ∃ g, v = .slice (some ⟨g, 0, none⟩) 1 1 ∧ Blk w g #[.slice a N c] 22
        | 4 => fun v w => v = .int .i64 (Crc.add 0 (l.take N))
        | 5 => fun v w => v = .slice b m.length c'
        | 6 => fun v w => v = .int .i64 (N : Int)
        | 7 => fun v w => v = .slice b N c'
        | 8 => fun v w => ∃ g, v = .slice (some ⟨g, 0, none⟩) 1 1 ∧ Blk w g #[.slice b N c'] 22
        | 9 => fun v w => v = .int .i64 (Crc.add 0 (m.take N))
        | 10 => fun v w => v = .int .i64 (IntKind.i64.wrap (BitVec.ofInt 64 (Crc.add 0 (l.take N)) ^^^ BitVec.ofInt 64 (Crc.add 0 (m.take N))).toNat)
        | 11 => fun v w => v = .slice (some ⟨gx, 0, none⟩) N N
        | 12 => fun v w => ∃ g, v = .slice (some ⟨g, 0, none⟩) 1 1 ∧ Blk w g #[.slice (some ⟨gx, 0, none⟩) N N] 22
        | 13 => fun v w => v = .int .i64 (Crc.add 0 (xs l m N N))
        | 14 => fun v w => v = .slice (some ⟨gz, 0, none⟩) N N
        | 15 => fun v w => ∃ g, v = .slice (some ⟨g, 0, none⟩) 1 1 ∧ Blk w g #[.slice (some ⟨gz, 0, none⟩) N N] 22
        | 16 => fun v w => v = .int .i64 (Crc.add 0 (List.replicate N 0#8))
        | 17 => fun v w => v = .int .i64 (IntKind.i64.wrap (BitVec.ofInt 64 (Crc.add 0 (xs l m N N)) ^^^ BitVec.ofInt 64 (Crc.add 0 (List.replicate N 0#8))).toNat)
        | 18 => fun v w => v = .bool true
        | _ => fun v w => True) rfl rfl rfl rfl rfl (Keep.refl []) (fun _ _ _ h1 h2 => h1.tr h2) ?_ ?_ ?_
    · intro i v w w' h hL
      match i, h with
      | 0, h =>
        exact h
      | 1, h =>
        exact h
      | 2, h =>
        exact h
      | 3, h =>
        obtain ⟨g, h1, h2⟩ := h
        exact ⟨g, h1, h2.keep hL (by simp)⟩
      | 4, h =>
        exact h
      | 5, h =>
        exact h
      | 6, h =>
        exact h
      | 7, h =>
        exact h
      | 8, h =>
        obtain ⟨g, h1, h2⟩ := h
        exact ⟨g, h1, h2.keep hL (by simp)⟩
      | 9, h =>
        exact h
      | 10, h =>
        exact h
      | 11, h =>
        exact h
      | 12, h =>
        obtain ⟨g, h1, h2⟩ := h
        exact ⟨g, h1, h2.keep hL (by simp)⟩
      | 13, h =>
        exact h
      | 14, h =>
        exact h
      | 15, h =>
        obtain ⟨g, h1, h2⟩ := h
        exact ⟨g, h1, h2.keep hL (by simp)⟩
      | 16, h =>
        exact h
      | 17, h =>
        exact h
      | 18, h =>
        exact h
      | _ + 19, h => trivial
    · intro i o him hl eA wA hL hA hD
      match i, him, hl with
      | 0, _, hl =>
        obtain rfl := Option.some.inj hl
        refine o_gen [(0, _)] ⟨hA 0 (free_of rfl), trivial⟩ (fun e2 => ?_)
        refine m_sl rfl rfl ?_
        refine o_nil ⟨Keep.refl _ _, rfl⟩
      | 1, _, hl =>
        obtain rfl := Option.some.inj hl
        refine o_gen [(5, _)] ⟨hA 5 (free_of rfl), trivial⟩ (fun e2 => ?_)
        refine m_int rfl rfl ?_
        refine o_nil ⟨Keep.refl _ _, rfl⟩
      | 2, _, hl =>
        obtain rfl := Option.some.inj hl
        refine o_gen [(38, _), (39, _)] ⟨hD 0 (by decide) 38 rfl, hD 1 (by decide) 39 rfl, trivial⟩ (fun e2 => ?_)
        refine o_slh (sz := 1) Try.underlying22 rfl rfl rfl (by omega) ?_
        refine o_nil ⟨Keep.refl _ _, rfl⟩
      | 3, _, hl =>
        obtain rfl := Option.some.inj hl
        refine o_gen [(40, _)] ⟨hD 2 (by decide) 40 rfl, trivial⟩ (fun e2 => ?_)
        refine o_bsl (E := 22) (cs := #[.slice a N c]) rfl (fun _ => by kernel_rfl) (fun g w' hB hK hb hZ => ?_)
        refine o_nil ⟨hK, g, rfl, hB⟩
      | 4, _, hl =>
        obtain rfl := Option.some.inj hl
        obtain ⟨g, hg, hB⟩ := hD 3 (by decide) 41 rfl
        refine o_gen [(41, _)] ⟨hg, trivial⟩ (fun e2 => ?_)
        refine o_call rfl rfl (of_one _ a a c g (l.take N) (by rw [hlT]; exact hB) (by rw [List.map_take]; exact (hR.new (hk3.tr (hbase _ hL))).take N) (by omega)) (fun v w' hv => ?_)
        obtain ⟨rfl, hK⟩ := hv
        refine o_nil ⟨hK, rfl⟩
      | 5, _, hl =>
        obtain rfl := Option.some.inj hl
        refine o_gen [(1, _)] ⟨hA 1 (free_of rfl), trivial⟩ (fun e2 => ?_)
        refine m_sl rfl rfl ?_
        refine o_nil ⟨Keep.refl _ _, rfl⟩
      | 6, _, hl =>
        obtain rfl := Option.some.inj hl
        refine o_gen [(5, _)] ⟨hA 5 (free_of rfl), trivial⟩ (fun e2 => ?_)
        refine m_int rfl rfl ?_
        refine o_nil ⟨Keep.refl _ _, rfl⟩
      | 7, _, hl =>
        obtain rfl := Option.some.inj hl
        refine o_gen [(43, _), (44, _)] ⟨hD 5 (by decide) 43 rfl, hD 6 (by decide) 44 rfl, trivial⟩ (fun e2 => ?_)
        refine o_slh (sz := 1) Try.underlying22 rfl rfl rfl (by omega) ?_
        refine o_nil ⟨Keep.refl _ _, rfl⟩
      | 8, _, hl =>
        obtain rfl := Option.some.inj hl
        refine o_gen [(45, _)] ⟨hD 7 (by decide) 45 rfl, trivial⟩ (fun e2 => ?_)
        refine o_bsl (E := 22) (cs := #[.slice b N c']) rfl (fun _ => by kernel_rfl) (fun g w' hB hK hb hZ => ?_)
        refine o_nil ⟨hK, g, rfl, hB⟩
      | 9, _, hl =>
        obtain rfl := Option.some.inj hl
        obtain ⟨g, hg, hB⟩ := hD 8 (by decide) 46 rfl
        refine o_gen [(46, _)] ⟨hg, trivial⟩ (fun e2 => ?_)
        refine o_call rfl rfl (of_one _ b b c' g (m.take N) (by rw [hmT]; exact hB) (by rw [List.map_take]; exact (hR'.new (hk3.tr (hbase _ hL))).take N) (by omega)) (fun v w' hv => ?_)
        obtain ⟨rfl, hK⟩ := hv
        refine o_nil ⟨hK, rfl⟩
      | 10, _, hl =>
        obtain rfl := Option.some.inj hl
        refine o_gen [(42, _), (47, _)] ⟨hD 4 (by decide) 42 rfl, hD 9 (by decide) 47 rfl, trivial⟩ (fun e2 => ?_)
        refine b_xor rfl rfl ?_
        refine o_nil ⟨Keep.refl _ _, rfl⟩
      | 11, _, hl =>
        obtain rfl := Option.some.inj hl
        refine o_gen [(6, _)] ⟨hA 6 (free_of rfl), trivial⟩ (fun e2 => ?_)
        refine m_sl rfl rfl ?_
        refine o_nil ⟨Keep.refl _ _, rfl⟩
      | 12, _, hl =>
        obtain rfl := Option.some.inj hl
        refine o_gen [(49, _)] ⟨hD 11 (by decide) 49 rfl, trivial⟩ (fun e2 => ?_)
        refine o_bsl (E := 22) (cs := #[.slice (some ⟨gx, 0, none⟩) N N]) rfl (fun _ => by kernel_rfl) (fun g w' hB hK hb hZ => ?_)
        refine o_nil ⟨hK, g, rfl, hB⟩
      | 13, _, hl =>
        obtain rfl := Option.some.inj hl
        obtain ⟨g, hg, hB⟩ := hD 12 (by decide) 50 rfl
        refine o_gen [(50, _)] ⟨hg, trivial⟩ (fun e2 => ?_)
        refine o_call rfl rfl (of_one _ (some ⟨gx, 0, none⟩) none N g (xs l m N N) (by rw [hxT]; exact hB) (hX.new (hbase _ hL)).rd (by omega)) (fun v w' hv => ?_)
        obtain ⟨rfl, hK⟩ := hv
        refine o_nil ⟨hK, rfl⟩
      | 14, _, hl =>
        obtain rfl := Option.some.inj hl
        refine o_gen [(7, _)] ⟨hA 7 (free_of rfl), trivial⟩ (fun e2 => ?_)
        refine m_sl rfl rfl ?_
        refine o_nil ⟨Keep.refl _ _, rfl⟩
      | 15, _, hl =>
        obtain rfl := Option.some.inj hl
        refine o_gen [(52, _)] ⟨hD 14 (by decide) 52 rfl, trivial⟩ (fun e2 => ?_)
        refine o_bsl (E := 22) (cs := #[.slice (some ⟨gz, 0, none⟩) N N]) rfl (fun _ => by kernel_rfl) (fun g w' hB hK hb hZ => ?_)
        refine o_nil ⟨hK, g, rfl, hB⟩
      | 16, _, hl =>
        obtain rfl := Option.some.inj hl
        obtain ⟨g, hg, hB⟩ := hD 15 (by decide) 53 rfl
        refine o_gen [(53, _)] ⟨hg, trivial⟩ (fun e2 => ?_)
        refine o_call rfl rfl (of_one _ (some ⟨gz, 0, none⟩) none N g (List.replicate N 0#8) (by rw [List.length_replicate]; exact hB) (hZ.new (hbase _ hL)).rd (by rw [List.length_replicate]; omega)) (fun v w' hv => ?_)
        obtain ⟨rfl, hK⟩ := hv
        refine o_nil ⟨hK, rfl⟩
      | 17, _, hl =>
        obtain rfl := Option.some.inj hl
        refine o_gen [(51, _), (54, _)] ⟨hD 13 (by decide) 51 rfl, hD 16 (by decide) 54 rfl, trivial⟩ (fun e2 => ?_)
        refine b_xor rfl rfl ?_
        refine o_nil ⟨Keep.refl _ _, rfl⟩
      | 18, _, hl =>
        obtain rfl := Option.some.inj hl
        refine o_gen [(48, _), (55, _)] ⟨hD 10 (by decide) 48 rfl, hD 17 (by decide) 55 rfl, trivial⟩ (fun e2 => ?_)
        refine b_eql rfl rfl ?_
        refine o_nil ⟨Keep.refl _ _, congrArg Value.bool (decide_eq_true (sumXor l m N hNe))⟩
      | _ + 19, him, _ => exact absurd him (by omega)
    intro eA wA hL hA hV
    refine o_gen [(56, _)] ⟨hV 18 (by decide) 56 rfl, trivial⟩ (fun e3 => ?_)
    refine m_bool rfl rfl ?_
    refine o_nil ?_
    refine k_ret (ret_tmps (ts := [4]) (v := .bool _) rfl rfl ?_)
    exact ⟨rfl, hk3.tr (hbase _ hL)⟩
  have hlt : k < N := by omega
  obtain ⟨ba, oa, rfl, hca⟩ := hR k _ (u8_at l k (by omega))
  obtain ⟨bb, ob, rfl, hcb⟩ := hR' k _ (u8_at m k (by omega))
  refine k_skip ?_
  refine k_seq ?_
  refine k_block ?_
  refine k_seq ?_
  refine k_region ?_
  refine m_int rfl rfl ?_
  refine m_int rfl rfl ?_
  refine o_nil ?_
  refine k_qk 11 rfl rfl rfl rfl rfl ?_
  refine q_step (fun w1 hC => m_sl rfl rfl (o_nil ⟨rfl, hC⟩)) ?_
  refine q_step (fun w1 hC => m_int rfl rfl (o_nil ⟨rfl, hC⟩)) ?_
  refine q_step (fun w1 hC => m_sl rfl rfl (o_nil ⟨rfl, hC⟩)) ?_
  refine q_step (fun w1 hC => m_int rfl rfl (o_nil ⟨rfl, hC⟩)) ?_
  refine q_step (fun w1 hC => o_ixs1 Try.underlying22 rfl rfl rfl (by omega) (o_nil ⟨rfl, hC⟩)) ?_
  refine q_step (fun w1 hC => o_ld rfl rfl (hR.cellK (hk3.tr hC) (u8_at l k (by omega))) (o_nil ⟨rfl, hC⟩)) ?_
  refine q_step (fun w1 hC => m_sl rfl rfl (o_nil ⟨rfl, hC⟩)) ?_
  refine q_step (fun w1 hC => m_int rfl rfl (o_nil ⟨rfl, hC⟩)) ?_
  refine q_step (fun w1 hC => o_ixs1 Try.underlying22 rfl rfl rfl (by omega) (o_nil ⟨rfl, hC⟩)) ?_
  refine q_step (fun w1 hC => o_ld rfl rfl (hR'.cellK (hk3.tr hC) (u8_at m k (by omega))) (o_nil ⟨rfl, hC⟩)) ?_
  refine q_step (fun w1 hC => v8_xor rfl rfl (o_nil ⟨rfl, hC⟩)) ?_
  refine q_nil ?_
  intro w4 hC4
  have hX4 := hX.new hC4
  obtain ⟨cur, hcB, hcs, hcl⟩ := sl_blk hX4
  refine o_ixs1 Try.underlying22 rfl rfl rfl hlt ?_
  refine o_st (v := .int _ _) rfl rfl rfl rfl hcB (by omega) (fun w5 hB5 hK5 hZ5 => ?_)
  rw [Nat.zero_add] at hB5
  have hX5 := sl_set hX4 hcB hB5
  refine o_nil ?_
  refine k_blk ?_
  refine k_region ?_
  refine n_add rfl rfl (by omega) ?_
  refine m_int rfl rfl ?_
  refine o_nil ?_
  refine k_goal ⟨k + 1, ⟨rfl, rfl, rfl, rfl, rfl, rfl, rfl, trivial⟩, ⟨by omega, (hk3.tr hC4).tr1 hK5 (by have := hK1.size; omega), ?_, (hZ.new hC4).keep hK5 ?_⟩, by omega⟩
  · rw [← xs_set l m N k hNl hNm hlt]
    exact hX5
  · rintro p hp
    cases hp
    simpa using fun h => hne h.symm
end Go.Proofs.Ytmilnijpnlhcoaa
