/- The walk of prefix.New. No condition beyond what each contract names. -/
import Derived.Test.YtpmlhlefhmgpfaaPa
namespace Go.Proofs.Ytpmlhlefhmgpfaa
open Go.RowKit E
set_option linter.unusedVariables false
set_option linter.unusedSimpArgs false
set_option maxRecDepth 100000
attribute [local irreducible] ow qw kw kq cw opW Ret
/-- what stands under words, of the first symbols -/
def SM (L : List Nat) (i : Nat) (sm : List ((BitVec 8 × BitVec 16) × Value)) : Prop :=
  ∀ (n : BitVec 8) (b : BitVec 16), getM sm (n, b) = (if fst L n.toNat ≤ b.toNat then (syms (L.take i) n.toNat)[b.toNat - fst L n.toNat]? else none).map (fun s : Nat => Value.int .i64 (s : Int))
def wcell (L : List Nat) (s : Nat) : Value := kvw (BitVec.ofNat 8 (L.getD s 0), BitVec.ofNat 16 (fst L (L.getD s 0) + cnt (L.take s) (L.getD s 0)))
def WM (L : List Nat) (i : Nat) (wm : List (Int × Value)) : Prop :=
  ∀ s : Int, getM wm s = if 0 ≤ s ∧ s < i ∧ L.getD s.toNat 0 ≠ 0 then some (wcell L s.toNat) else none
theorem SM.nil (L : List Nat) : SM L 0 [] := by
  intro n b
  rw [List.take_zero, syms_nil]
  split <;> rfl
theorem WM.nil (L : List Nat) : WM L 0 [] := by
  intro s
  rw [if_neg (by omega)]; rfl
theorem SM.skip {L : List Nat} {i : Nat} {sm : List ((BitVec 8 × BitVec 16) × Value)} (h : SM L i sm) (hi : i < L.length) (h0 : L[i] = 0) : SM L (i + 1) sm := by
  intro n b
  rw [h n b, syms_take L i _ hi, if_neg (show ¬ (L[i] = n.toNat ∧ n.toNat ≠ 0) by omega), List.append_nil]
theorem WM.skip {L : List Nat} {i : Nat} {wm : List (Int × Value)} (h : WM L i wm) (hi : i < L.length) (h0 : L[i] = 0) : WM L (i + 1) wm := by
  intro s
  rw [h s]
  by_cases hs : s = i
  · subst hs
    have e : L.getD ((i : Int)).toNat 0 = 0 := by rw [List.getD_eq_getElem?_getD, Int.toNat_natCast, List.getElem?_eq_getElem hi, h0]; rfl
    rw [if_neg (by omega), if_neg (fun hh => hh.2.2 e)]
  · by_cases hc : 0 ≤ s ∧ s < i ∧ L.getD s.toNat 0 ≠ 0
    · rw [if_pos hc, if_pos ⟨hc.1, by omega, hc.2.2⟩]
    · rw [if_neg hc, if_neg (fun hh => hc ⟨hh.1, by omega, hh.2.2⟩)]
theorem tn8 (x : Nat) (h : x < 256) : (BitVec.ofNat 8 x).toNat = x := by rw [BitVec.toNat_ofNat]; omega
theorem tn16 (x : Nat) (h : x < 65536) : (BitVec.ofNat 16 x).toNat = x := by rw [BitVec.toNat_ofNat]; omega
theorem tn32 (x : Nat) (h : x < 4294967296) : (BitVec.ofNat 32 x).toNat = x := by rw [BitVec.toNat_ofNat]; omega
theorem SM.new {L : List Nat} {i : Nat} {sm : List ((BitVec 8 × BitVec 16) × Value)} (h : SM L i sm) (h15 : L.getD i 0 ≤ 15) (hb : fst L (L.getD i 0) + cnt (L.take i) (L.getD i 0) < 65536) :
    getM sm (BitVec.ofNat 8 (L.getD i 0), BitVec.ofNat 16 (fst L (L.getD i 0) + cnt (L.take i) (L.getD i 0))) = none := by
  rw [h, tn8 _ (by omega), tn16 _ hb, if_pos (by omega), Nat.add_sub_cancel_left]
  unfold cnt
  rw [List.getElem?_eq_none (Nat.le_refl _)]
  rfl
theorem WM.new {L : List Nat} {i : Nat} {wm : List (Int × Value)} (h : WM L i wm) : getM wm (i : Int) = none := by
  rw [h, if_neg (by omega)]
theorem SM.put {L : List Nat} {i : Nat} {sm : List ((BitVec 8 × BitVec 16) × Value)} (h : SM L i sm) (hi : i < L.length) (h0 : L[i] ≠ 0) (h15 : L[i] ≤ 15) (hb : fst L L[i] + cnt (L.take i) L[i] < 65536) :
    SM L (i + 1) (putM sm (BitVec.ofNat 8 L[i], BitVec.ofNat 16 (fst L L[i] + cnt (L.take i) L[i])) (.int .i64 (i : Int))) := by
  intro n b
  rw [getM_put, h n b, syms_take L i _ hi]
  by_cases hn : n.toNat = L[i]
  · have en : n = BitVec.ofNat 8 L[i] := BitVec.eq_of_toNat_eq (by rw [tn8 _ (by omega), hn])
    rw [if_pos (show L[i] = n.toNat ∧ n.toNat ≠ 0 from ⟨hn.symm, by omega⟩)]
    by_cases hbb : b.toNat = fst L L[i] + cnt (L.take i) L[i]
    · have eb : b = BitVec.ofNat 16 (fst L L[i] + cnt (L.take i) L[i]) := BitVec.eq_of_toNat_eq (by rw [tn16 _ hb, hbb])
      rw [if_pos (show (n, b) = (BitVec.ofNat 8 L[i], BitVec.ofNat 16 (fst L L[i] + cnt (L.take i) L[i])) by rw [← en, ← eb]), if_pos (show fst L n.toNat ≤ b.toNat by rw [hn]; omega), hn, hbb, Nat.add_sub_cancel_left]
      unfold cnt
      rw [List.getElem?_append_right (Nat.le_refl _), Nat.sub_self]
      rfl
    · have hne : ¬ (n, b) = (BitVec.ofNat 8 L[i], BitVec.ofNat 16 (fst L L[i] + cnt (L.take i) L[i])) := by
        intro hh
        have := congrArg (fun p => p.2.toNat) hh
        simp only [tn16 _ hb] at this
        exact hbb this
      rw [if_neg hne, hn]
      split
      · congr 1
        by_cases hk : b.toNat - fst L L[i] < (syms (L.take i) L[i]).length
        · rw [List.getElem?_append_left hk]
        · rw [List.getElem?_eq_none (by omega), List.getElem?_append_right (by omega)]
          have : b.toNat - fst L L[i] - (syms (L.take i) L[i]).length ≠ 0 := by
            unfold cnt at hbb
            omega
          symm
          rw [List.getElem?_eq_none (by simp; omega)]
      · rfl
  · rw [if_neg (show ¬ (L[i] = n.toNat ∧ n.toNat ≠ 0) from fun hh => hn hh.1.symm), List.append_nil]
    have hne : ¬ (n, b) = (BitVec.ofNat 8 L[i], BitVec.ofNat 16 (fst L L[i] + cnt (L.take i) L[i])) := by
      intro hh
      have := congrArg (fun p => p.1.toNat) hh
      simp only [tn8 _ (show L[i] < 256 by omega)] at this
      exact hn this
    rw [if_neg hne]
theorem getD_at {L : List Nat} {i : Nat} (hi : i < L.length) : L.getD i 0 = L[i] := by rw [List.getD_eq_getElem?_getD, List.getElem?_eq_getElem hi]; rfl
theorem WM.put {L : List Nat} {i : Nat} {wm : List (Int × Value)} (h : WM L i wm) (hi : i < L.length) (h0 : L[i] ≠ 0) : WM L (i + 1) (putM wm (i : Int) (wcell L i)) := by
  intro s
  rw [getM_put, h s]
  by_cases hs : s = i
  · subst hs
    rw [if_pos rfl, if_pos ⟨by omega, by omega, by rw [Int.toNat_natCast, getD_at hi]; exact h0⟩, Int.toNat_natCast]
  · rw [if_neg hs]
    by_cases hc : 0 ≤ s ∧ s < i ∧ L.getD s.toNat 0 ≠ 0
    · rw [if_pos hc, if_pos ⟨hc.1, by omega, hc.2.2⟩]
    · rw [if_neg hc, if_neg (fun hh => hc ⟨hh.1, by omega, hh.2.2⟩)]
/-- a code in memory -/
def CodeP (w : World) (r : Nat) (L : List Nat) : Prop :=
  ∃ rs rw sm wm, Blk w r #[.map (some rs), .map (some rw), .int .u8 ((BitVec.ofNat 8 (mostL L)).toNat : Int)] 84 ∧ Mp w rs kvw sm ∧ Mp w rw (Value.int .i64) wm ∧ SM L L.length sm ∧ WM L L.length wm ∧ (∀ x ∈ L, x ≤ 15) ∧ kr L 15 ≤ 32768 ∧ L.length ≤ 288
theorem CodeP.kt {Ts : List TypeId} {k : Nat} {w w' : World} {r : Nat} {L : List Nat} (h : CodeP w r L) (hk : KeepT Ts k w w') (hT : 84 ∉ Ts) : CodeP w' r L := by
  obtain ⟨rs, rw, sm, wm, hB, h1, h2, h3⟩ := h
  exact ⟨rs, rw, sm, wm, hB.kt hk hT, h1.kt hk, h2.kt hk, h3⟩
theorem CodeP.new {w w' : World} {r : Nat} {L : List Nat} (h : CodeP w r L) (hk : Keep [] w w') : CodeP w' r L := h.kt (Ts := []) (k := 0) hk.t (by simp)
/-- lengths that may be -/
def okL (ls : List Int) : Prop := ls.length ≤ 288 ∧ ∀ x ∈ ls, 0 ≤ x ∧ x ≤ 15
def nats (ls : List Int) : List Nat := ls.map Int.toNat
def NewR (w w' : World) (ls : List Int) (lone : Bool) (v : Value) : Prop :=
  Keep [] w w' ∧ ((¬ okL ls ∧ v = .tuple #[.pointer none, .int .i64 1]) ∨ (okL ls ∧ ¬ Fit (nats ls) lone ∧ v = .tuple #[.pointer none, .int .i64 5]) ∨
    (okL ls ∧ Fit (nats ls) lone ∧ ∃ r, v = .tuple #[.pointer (some ⟨r, 0, none⟩), .int .i64 0] ∧ CodeP w' r (nats ls)))
theorem need_bv (c n : Nat) (hc : c ≤ 288) (hn : n ≤ 15) (h1 : 1 ≤ n) : (BitVec.ofNat 32 c <<< (15#64 - BitVec.ofInt 64 (n : Int)).toNat) = BitVec.ofNat 32 (c * 2 ^ (15 - n)) := by
  have e : (15#64 - BitVec.ofInt 64 (n : Int)).toNat = 15 - n := by
    rw [BitVec.toNat_sub, ofN n (by omega)]
    simp
    omega
  rw [e]
  apply BitVec.eq_of_toNat_eq
  rw [BitVec.toNat_shiftLeft, Nat.shiftLeft_eq]
  simp
theorem need_lt (c n : Nat) (hc : c ≤ 288) (hn : 1 ≤ n) : c * 2 ^ (15 - n) < 4294967296 := by
  have : 2 ^ (15 - n) ≤ 2 ^ 14 := Nat.pow_le_pow_right (by decide) (by omega)
  have : c * 2 ^ (15 - n) ≤ 288 * 2 ^ 14 := Nat.mul_le_mul hc this
  omega
theorem sub32 (a b : Nat) (h : b ≤ a) (ha : a < 4294967296) : BitVec.ofNat 32 a - BitVec.ofNat 32 b = BitVec.ofNat 32 (a - b) := by
  apply BitVec.eq_of_toNat_eq
  rw [BitVec.toNat_sub, tn32 a ha, tn32 b (by omega), tn32 (a - b) (by omega)]
  omega
theorem add32 (a b : Nat) : BitVec.ofNat 32 a + BitVec.ofNat 32 b = BitVec.ofNat 32 (a + b) := by
  rw [BitVec.ofNat_add]
theorem tn_mod (x : Nat) : (BitVec.ofNat 32 x).toNat = x % 4294967296 := by rw [BitVec.toNat_ofNat]
theorem shl32 (a b : Nat) : (BitVec.ofNat 32 a + BitVec.ofNat 32 b) <<< 1 = BitVec.ofNat 32 (2 * (a + b)) := by
  apply BitVec.eq_of_toNat_eq
  rw [add32, BitVec.toNat_shiftLeft, Nat.shiftLeft_eq, tn_mod, tn_mod]
  omega
theorem cut16 (x : Nat) : (BitVec.ofNat 32 x).setWidth 16 = BitVec.ofNat 16 x := by
  apply BitVec.eq_of_toNat_eq
  simp
theorem nats_at (ls : List Int) (i : Nat) (h : i < ls.length) : (nats ls)[i]'(by simpa [nats] using h) = ls[i].toNat := by simp [nats]
theorem max8 (a b : Nat) (ha : a < 256) (hb : b < 256) : (if ((BitVec.ofNat 8 a).toNat : Int) < ((BitVec.ofNat 8 b).toNat : Int) then ((BitVec.ofNat 8 b).toNat : Int) else ((BitVec.ofNat 8 a).toNat : Int)) = ((BitVec.ofNat 8 (max a b)).toNat : Int) := by
  rw [tn8 a ha, tn8 b hb, tn8 _ (by omega)]
  split <;> omega
theorem new_ok5 (w : World) (a : Option Addr) (c : Nat) (ls : List Int) (lone : Bool) (hR : Rd w a (ls.map iv)) (hl : ls.length ≤ 9223372036854775807) :
    Ret Try.prog 34 [.slice a ls.length c, .bool lone] w (fun v w' => NewR w w' ls lone v) := by
  refine fn_enter (n := 151) Try.func34 rfl rfl (Nat.le_of_ble_eq_true rfl) (fun e => ?_)
  refine k_seq ?_
  refine k_region ?_
  refine m_ptr rfl rfl ?_
  refine m_int rfl rfl ?_
  refine o_nil ?_
  refine k_seq ?_
  refine k_seq ?_
  refine k_region ?_
  refine m_sl rfl rfl ?_
  refine o_lens Try.underlying42 rfl ?_
  refine b_gtr rfl rfl ?_
  refine o_nil ?_
  refine k_cond rfl (fun h => ?_) (fun h => ?_)
  ·
    refine k_seq ?_
    refine k_region ?_
    refine m_ptr rfl rfl ?_
    refine m_int rfl rfl ?_
    refine o_nil ?_
    refine k_ret (ret_tmps (ts := [4, 5]) (v := .tuple #[.pointer _, .int _ _]) rfl rfl ?_)
    exact ⟨Keep.refl _ _, .inl ⟨fun hh => by have := hh.1; omega, rfl⟩⟩
  have h288 : ls.length ≤ 288 := by omega
  refine k_skip ?_
  refine k_seq ?_
  refine k_region ?_
  refine o_alloc (cs := arrU (fun _ => 0) 17) ⟨_, rfl, rfl, rfl, rfl⟩ rfl (fun bc w2 hB2 hK2 hb2 hZ2 => ?_)
  have hnl : (nats ls).length = ls.length := by simp [nats]
  have hB2 : Blk w2 bc (arrU (cnt ((nats ls).take 0)) 17) 80 := by rw [List.take_zero]; exact hB2
  refine o_nil ?_
  refine k_seq ?_
  refine k_region ?_
  refine m_int rfl rfl ?_
  refine o_nil ?_
  refine k_seq ?_
  refine k_seq ?_
  refine k_region ?_
  refine m_sl rfl rfl ?_
  refine o_lens Try.underlying42 rfl ?_
  refine m_int rfl rfl ?_
  refine o_nil ?_
  refine k_block ?_
  refine k_loop (σ := Nat) (fun i => [(0, .slice a ls.length c), (1, .bool lone), (6, .pointer (some ⟨bc, 0, none⟩)), (7, .int .i64 (used ((nats ls).take i) : Int)), (22, .slice a ls.length c), (23, .int .i64 (ls.length : Int)), (24, .int .i64 (i : Int))]) (fun i w' => i ≤ ls.length ∧ (∀ j (hj : j < ls.length), j < i → 0 ≤ ls[j] ∧ ls[j] ≤ 15) ∧ Blk w' bc (arrU (cnt ((nats ls).take i)) 17) 80 ∧ Keep [] w w') (fun i => ls.length - i) 0 ⟨rfl, rfl, rfl, rfl, rfl, rfl, rfl, trivial⟩ ⟨by omega, fun j _ h => by omega, hB2, hK2⟩ (fun i e w3 hJ => ?_)
  obtain ⟨hi, hok, hB3, hk3⟩ := hJ
  have hus := used_le ((nats ls).take i)
  have hul : ((nats ls).take i).length ≤ i := by rw [List.length_take]; omega
  refine k_seq ?_
  refine k_region ?_
  refine b_lss rfl rfl ?_
  refine o_nil ?_
  refine k_seq ?_
  refine k_cond rfl (fun h => ?_) (fun h => ?_)
  rotate_left
  ·
    obtain rfl : i = ls.length := by omega
    have hL15 : ∀ x ∈ nats ls, x ≤ 15 := by
     intro x hx
     obtain ⟨j, hj, rfl⟩ := List.getElem_of_mem hx
     have hj' : j < ls.length := by omega
     have := hok j hj' hj'
     rw [nats_at ls j hj']
     omega
    have hokL : okL ls := ⟨h288, fun x hx => by
     obtain ⟨j, hj, rfl⟩ := List.getElem_of_mem hx
     exact hok j hj hj⟩
    rw [show (nats ls).take ls.length = nats ls by rw [← hnl, List.take_length]] at hB3 ⊢
    generalize hLe : nats ls = L at *
    have hcl : ∀ n, cnt L n ≤ 288 := fun n => by have := cnt_le L n; omega
    refine k_exit rfl ?_
    refine k_seq ?_
    refine k_region ?_
    refine m_int rfl rfl ?_
    refine o_nil ?_
    refine k_seq ?_
    refine k_seq ?_
    refine k_region ?_
    refine m_int rfl rfl ?_
    refine o_nil ?_
    refine k_block ?_
    refine k_loop (σ := Nat) (fun m => [(0, .slice a ls.length c), (1, .bool lone), (6, .pointer (some ⟨bc, 0, none⟩)), (7, .int .i64 (used L : Int)), (10, .int .u32 ((BitVec.ofNat 32 (32768 - kr L (m - 1))).toNat : Int)), (11, .int .i64 (m : Int))]) (fun m w' => 1 ≤ m ∧ m ≤ 16 ∧ kr L (m - 1) ≤ 32768 ∧ w' = w3) (fun m => 16 - m) 1 ⟨rfl, rfl, rfl, rfl, rfl, rfl, trivial⟩ ⟨by omega, by omega, by show kr L 0 ≤ 32768; exact Nat.zero_le _, rfl⟩ (fun m e w4 hJ => ?_)
    obtain ⟨hm1, hm16, hkr, rfl⟩ := hJ
    refine k_seq ?_
    refine k_seq ?_
    refine k_region ?_
    refine m_int rfl rfl ?_
    refine b_leq rfl rfl ?_
    refine o_nil ?_
    refine k_cond rfl (fun h => ?_) (fun h => ?_)
    rotate_left
    ·
      obtain rfl : m = 16 := by omega
      simp only [show 16 - 1 = 15 from rfl] at hkr ⊢
      refine k_exit rfl ?_
      refine k_seq ?_
      refine k_seq ?_
      refine k_cut (σ := Unit) (fun _ => [(0, .slice a ls.length c), (6, .pointer (some ⟨bc, 0, none⟩)), (79, .bool (decide (¬ Fit L lone)))]) (fun _ w' => w' = w4) ?_ (fun _ e w5 hJ => ?_)
      ·
        refine k_region ?_
        refine m_int rfl rfl ?_
        refine b_gtr rfl rfl ?_
        refine m_bool rfl rfl ?_
        refine o_split (t := 63) rfl (fun h => ?_) (fun h => ?_)
        ·
          rw [tn32 _ (by omega)] at h
          have h63 : kr L 15 < 32768 := by omega
          refine g_yes rfl rfl ?_
          refine m_bool rfl rfl ?_
          refine g_yes rfl rfl ?_
          refine m_bool rfl rfl ?_
          refine o_split (t := 65) (p := lone = true) (by show Value.bool lone = _; simp) (fun h65 => ?_) (fun h65 => ?_)
          ·
            refine g_yes rfl rfl ?_
            refine m_int rfl rfl ?_
            refine g_yes rfl rfl ?_
            refine b_eql rfl rfl ?_
            refine g_yes rfl rfl ?_
            refine m_bool rfl rfl ?_
            refine o_split (t := 68) rfl (fun h => ?_) (fun h => ?_)
            ·
              have h68 := h
              refine g_no rfl rfl rfl ?_
              refine g_no rfl rfl rfl ?_
              refine g_no rfl rfl rfl ?_
              refine g_un rfl rfl ?_
              refine g_un rfl rfl ?_
              refine g_un rfl rfl ?_
              refine g_no rfl rfl rfl ?_
              refine g_yes rfl rfl ?_
              refine pick_t rfl rfl ?_
              refine g_yes rfl rfl ?_
              refine pick_t rfl rfl ?_
              refine g_yes rfl rfl ?_
              refine u_notb rfl ?_
              refine pick_t rfl rfl ?_
              refine o_nil ?_
              refine k_goal ⟨(), ⟨rfl, rfl, congrArg Value.bool ?_, trivial⟩, rfl⟩
              symm
              exact decide_eq_false (fun hh => hh (.inr ⟨h65, .inl (by omega)⟩))
            ·
              have h68 := h
              refine g_yes rfl rfl ?_
              refine m_int rfl rfl ?_
              refine g_yes rfl rfl ?_
              refine b_eql rfl rfl ?_
              refine g_yes rfl rfl ?_
              refine m_bool rfl rfl ?_
              refine o_split (t := 71) rfl (fun h => ?_) (fun h => ?_)
              ·
                have h71 := h
                refine g_yes rfl rfl ?_
                refine o_ixa1 (m := 1) Try.underlying80 rfl rfl rfl (by omega) ?_
                refine g_yes rfl rfl ?_
                refine o_ld rfl rfl (hB3.at (by exact arrU_at _ 17 1 (by omega))) ?_
                refine g_yes rfl rfl ?_
                refine v32_eql (b := 1#32) rfl rfl ?_
                have h74 : (BitVec.ofNat 32 (cnt L 1) = 1#32) ↔ cnt L 1 = 1 := ⟨fun h => by have := congrArg BitVec.toNat h; rw [tn32 _ (by have := hcl 1; omega)] at this; exact this, fun h => by rw [h]⟩
                refine g_yes rfl rfl ?_
                refine pick_t rfl rfl ?_
                refine g_yes rfl rfl ?_
                refine pick_f rfl rfl ?_
                refine g_yes rfl rfl ?_
                refine pick_t rfl rfl ?_
                refine g_yes rfl rfl ?_
                refine u_notb rfl ?_
                refine pick_t rfl rfl ?_
                refine o_nil ?_
                refine k_goal ⟨(), ⟨rfl, rfl, congrArg Value.bool ?_, trivial⟩, rfl⟩
                rw [← decide_not]
                refine decide_eq_decide.2 ⟨fun h hF => ?_, fun h hc => h (.inr ⟨h65, .inr ⟨by omega, h74.1 hc⟩⟩)⟩
                rcases hF with hF | ⟨_, hF | ⟨_, hF⟩⟩
                · omega
                · exact h68 (by omega)
                · exact h (h74.2 hF)
              ·
                have h71 := h
                refine g_no rfl rfl rfl ?_
                refine g_no rfl rfl rfl ?_
                refine g_no rfl rfl rfl ?_
                refine g_yes rfl rfl ?_
                refine pick_f rfl rfl ?_
                refine g_yes rfl rfl ?_
                refine pick_f rfl rfl ?_
                refine g_yes rfl rfl ?_
                refine pick_t rfl rfl ?_
                refine g_yes rfl rfl ?_
                refine u_notb rfl ?_
                refine pick_t rfl rfl ?_
                refine o_nil ?_
                refine k_goal ⟨(), ⟨rfl, rfl, congrArg Value.bool ?_, trivial⟩, rfl⟩
                symm
                refine decide_eq_true (fun hF => ?_)
                rcases hF with hF | ⟨_, hF | ⟨hF, _⟩⟩
                · omega
                · exact h68 (by omega)
                · exact h71 (by omega)
          ·
            refine g_no rfl rfl rfl ?_
            refine g_no rfl rfl rfl ?_
            refine g_no rfl rfl rfl ?_
            refine g_un rfl rfl ?_
            refine g_un rfl rfl ?_
            refine g_un rfl rfl ?_
            refine g_un rfl rfl ?_
            refine g_un rfl rfl ?_
            refine g_un rfl rfl ?_
            refine g_un rfl rfl ?_
            refine g_no rfl rfl rfl ?_
            refine g_yes rfl rfl ?_
            refine pick_f rfl rfl ?_
            refine g_yes rfl rfl ?_
            refine u_notb rfl ?_
            refine pick_t rfl rfl ?_
            refine o_nil ?_
            refine k_goal ⟨(), ⟨rfl, rfl, congrArg Value.bool ?_, trivial⟩, rfl⟩
            symm
            refine decide_eq_true (fun hF => ?_)
            rcases hF with hF | ⟨hF, _⟩
            · omega
            · exact h65 hF
        ·
          rw [tn32 _ (by omega)] at h
          have h63 : kr L 15 = 32768 := by omega
          refine g_no rfl rfl rfl ?_
          refine g_no rfl rfl rfl ?_
          refine g_un rfl rfl ?_
          refine g_un rfl rfl ?_
          refine g_un rfl rfl ?_
          refine g_un rfl rfl ?_
          refine g_un rfl rfl ?_
          refine g_un rfl rfl ?_
          refine g_un rfl rfl ?_
          refine g_un rfl rfl ?_
          refine g_un rfl rfl ?_
          refine g_un rfl rfl ?_
          refine g_un rfl rfl ?_
          refine g_no rfl rfl rfl ?_
          refine g_no rfl rfl rfl ?_
          refine pick_f rfl rfl ?_
          refine o_nil ?_
          refine k_goal ⟨(), ⟨rfl, rfl, congrArg Value.bool ?_, trivial⟩, rfl⟩
          symm
          exact decide_eq_false (fun hh => hh (.inl h63))
      subst hJ
      refine k_cond rfl (fun h => ?_) (fun h => ?_)
      ·
        refine k_seq ?_
        refine k_region ?_
        refine m_ptr rfl rfl ?_
        refine m_int rfl rfl ?_
        refine o_nil ?_
        refine k_ret (ret_tmps (ts := [4, 5]) (v := .tuple #[.pointer _, .int _ _]) rfl rfl ?_)
        exact ⟨hk3, .inr (.inl ⟨hokL, by rw [hLe]; exact h, rfl⟩)⟩
      have hFit : Fit L lone := Decidable.not_not.1 h
      have hk15 := hFit.le hL15
      have hfb : ∀ i n, i ≤ L.length → n ≤ 15 → fst L n + cnt (L.take i) n < 65536 := fun i n hi hn => by have := fst_lt15 hk15 n hn; have := cnt_pre L i n hi; omega
      refine k_skip ?_
      refine k_seq ?_
      refine k_region ?_
      refine o_mkmap kvw (fun rs w6 hM6 hK6 hb6 hZ6 => ?_)
      refine o_mkmap (Value.int .i64) (fun rw w7 hN7 hK7 hb7 hZ7 => ?_)
      have hM7 := hM6.keep hK7 (by simp)
      refine o_build (v := .agg #[.map (some rs), .map (some rw), .int .u8 0]) rfl (fun _ => by kernel_rfl) ?_
      refine o_box rfl rfl (fun rc w8 hC8 hK8 hb8 hZ8 => ?_)
      have hk8 := ((hk3.tr hK6).tr hK7).tr hK8
      refine m_ptr rfl rfl ?_
      refine o_nil ?_
      refine k_seq ?_
      refine k_region ?_
      refine o_alloc (cs := arrU (fun _ => 0) 16) ⟨_, rfl, rfl, rfl, rfl⟩ rfl (fun bn w9 hB9 hK9 hb9 hZ9 => ?_)
      have hk9 := hk8.tr hK9
      have hC9 : Blk w9 rc #[.map (some rs), .map (some rw), .int .u8 ((BitVec.ofNat 8 (mostL (L.take 0))).toNat : Int)] 84 := by rw [List.take_zero]; exact hC8.keep hK9 (by simp)
      have hM9 := (hM7.keep hK8 (by simp)).keep hK9 (by simp)
      have hN9 := (hN7.keep hK8 (by simp)).keep hK9 (by simp)
      have hB9' : Blk w9 bc (arrU (cnt L) 17) 80 := hB3.keep (((hK6.tr hK7).tr hK8).tr hK9) (by simp)
      have hwrs : w.heap.size ≤ rs := by have := hk3.size; omega
      have hwrw : w.heap.size ≤ rw := by have := hk3.size; omega
      have hwrc : w.heap.size ≤ rc := by have := hk3.size; omega
      have hwbn : w.heap.size ≤ bn := by have := hk3.size; omega
      have hrsw : rs ≠ rw := by omega
      have hcn : rc ≠ bn := by omega
      have hbcn : bc ≠ bn := by have := hB3.lt; omega
      refine o_nil ?_
      refine k_seq ?_
      refine k_seq ?_
      refine k_region ?_
      refine m_int rfl rfl ?_
      refine o_nil ?_
      refine k_block ?_
      refine k_loop (σ := Nat) (fun m => [(0, .slice a ls.length c), (6, .pointer (some ⟨bc, 0, none⟩)), (13, .pointer (some ⟨rc, 0, none⟩)), (14, .pointer (some ⟨bn, 0, none⟩)), (15, .int .i64 (m : Int))]) (fun m w' => 1 ≤ m ∧ m ≤ 16 ∧ Blk w' bn (arrU (fun j => if j < m then fst L j else 0) 16) 85 ∧ Keep [bn] w9 w') (fun m => 16 - m) 1 ⟨rfl, rfl, rfl, rfl, rfl, trivial⟩ ⟨by omega, by omega, ?_, Keep.refl _ _⟩ (fun m e w10 hJ => ?_)
      · rw [arrU_congr 16 (g := fun _ => 0) (fun j hj => by split <;> first | rfl | (have : j = 0 := by omega); subst this; rfl)]
        exact hB9
      obtain ⟨hm1, hm16, hB10, hK10⟩ := hJ
      refine k_seq ?_
      refine k_seq ?_
      refine k_region ?_
      refine m_int rfl rfl ?_
      refine b_leq rfl rfl ?_
      refine o_nil ?_
      refine k_cond rfl (fun h => ?_) (fun h => ?_)
      rotate_left
      ·
        obtain rfl : m = 16 := by omega
        have hB10' : Blk w10 bn (arrU (fun j => fst L j + cnt (L.take 0) j) 16) 85 := by
         rw [arrU_congr 16 (g := fun j => if j < 16 then fst L j else 0) (fun j hj => by rw [List.take_zero, if_pos hj]; rfl)]
         exact hB10
        refine k_exit rfl ?_
        refine k_seq ?_
        refine k_seq ?_
        refine k_region ?_
        refine m_sl rfl rfl ?_
        refine o_lens Try.underlying42 rfl ?_
        refine m_int rfl rfl ?_
        refine o_nil ?_
        refine k_block ?_
        refine k_loop (σ := Nat × List ((BitVec 8 × BitVec 16) × Value) × List (Int × Value)) (fun s => [(13, .pointer (some ⟨rc, 0, none⟩)), (14, .pointer (some ⟨bn, 0, none⟩)), (102, .slice a ls.length c), (103, .int .i64 (ls.length : Int)), (104, .int .i64 (s.1 : Int))]) (fun s w' => s.1 ≤ ls.length ∧ Blk w' bn (arrU (fun j => fst L j + cnt (L.take s.1) j) 16) 85 ∧ Blk w' rc #[.map (some rs), .map (some rw), .int .u8 ((BitVec.ofNat 8 (mostL (L.take s.1))).toNat : Int)] 84 ∧ Mp w' rs kvw s.2.1 ∧ Mp w' rw (Value.int .i64) s.2.2 ∧ SM L s.1 s.2.1 ∧ WM L s.1 s.2.2 ∧ Keep [] w w') (fun s => ls.length - s.1) (0, [], []) ⟨rfl, rfl, rfl, rfl, rfl, trivial⟩ ⟨by simp, hB10', hC9.keep hK10 (by simpa using hcn), hM9.keep hK10 (by simp; omega), hN9.keep hK10 (by simp; omega), SM.nil L, WM.nil L, hk9.tr1 hK10 hwbn⟩ (fun s e w11 hJ => ?_)
        obtain ⟨i, sm, wm⟩ := s
        obtain ⟨hi, hB11, hC11, hM11, hN11, hS11, hW11, hk11⟩ := hJ
        simp only at hi hB11 hC11 hM11 hN11 hS11 hW11
        refine k_seq ?_
        refine k_region ?_
        refine b_lss rfl rfl ?_
        refine o_nil ?_
        refine k_seq ?_
        refine k_cond rfl (fun h => ?_) (fun h => ?_)
        rotate_left
        ·
          refine k_exit rfl ?_
          refine k_seq ?_
          refine k_region ?_
          refine m_ptr rfl rfl ?_
          refine m_ptr rfl rfl ?_
          refine m_int rfl rfl ?_
          refine o_nil ?_
          refine k_ret (ret_tmps (ts := [4, 5]) (v := .tuple #[.pointer _, .int _ _]) rfl rfl ?_)
          obtain rfl : i = ls.length := by omega
          refine ⟨hk11, .inr (.inr ⟨hokL, hLe ▸ hFit, rc, rfl, ?_⟩)⟩
          rw [← hnl] at hS11 hW11 hC11
          rw [List.take_length] at hC11
          rw [hLe]
          exact ⟨rs, rw, sm, wm, hC11, hM11, hN11, hS11, hW11, hL15, hk15, by omega⟩
        have hil : i < ls.length := by omega
        obtain ⟨b1, o1, rfl, _⟩ := hR.at i (by simpa using hil)
        have hin : i < L.length := by omega
        have hat : L[i] = ls[i].toNat := by
         have := nats_at ls i hil
         simp only [hLe] at this
         exact this
        obtain ⟨x, hx⟩ : ∃ x : Nat, ls[i] = x := ⟨ls[i].toNat, by have := hok i hil hil; omega⟩
        have hx15 : x ≤ 15 := by have := hok i hil hil; omega
        have hLx : L[i] = x := by rw [hat, hx]; rfl
        refine k_skip ?_
        refine k_seq ?_
        refine k_block ?_
        refine k_seq ?_
        refine k_region ?_
        refine m_int rfl rfl ?_
        refine o_ixs1 Try.underlying42 rfl rfl rfl hil ?_
        refine o_ld rfl rfl (hR.cellK hk11 (iv_at ls i hil)) ?_
        rw [hx]
        refine m_int rfl rfl ?_
        refine m_int rfl rfl ?_
        refine o_nil ?_
        refine k_seq ?_
        refine k_seq ?_
        refine k_region ?_
        refine m_int rfl rfl ?_
        refine b_eql rfl rfl ?_
        refine o_nil ?_
        refine k_cond rfl (fun h => ?_) (fun h => ?_)
        ·
          obtain rfl : x = 0 := by omega
          refine k_exit rfl ?_
          refine k_region ?_
          refine n_add rfl rfl (by omega) ?_
          refine m_int rfl rfl ?_
          refine o_nil ?_
          refine k_goal ⟨(i + 1, sm, wm), ⟨rfl, rfl, rfl, rfl, rfl, trivial⟩, ⟨by simp only; omega, ?_, ?_, hM11, hN11, hS11.skip hin hLx, hW11.skip hin hLx, hk11⟩, by simp only; omega⟩
          · rw [arrU_congr 16 (g := fun j => fst L j + cnt (L.take i) j) (fun j hj => by rw [cnt_take L i j hin, hLx, if_neg (by omega)]; rfl)]
            exact hB11
          · rw [most_take L i hin, hLx, show max (mostL (L.take i)) 0 = mostL (L.take i) by omega]
            exact hC11
        have hx0 : x ≠ 0 := by omega
        have hyb := hfb i x (by omega) hx15
        refine k_skip ?_
        refine k_seq ?_
        refine k_region ?_
        refine m_int rfl rfl ?_
        refine cv8 rfl Try.underlying5 rfl ?_
        rw [BitVec.ofInt_natCast]
        refine m_int rfl rfl ?_
        refine o_ixa1 (m := x) Try.underlying85 rfl rfl rfl (by omega) ?_
        refine o_ld rfl rfl (hB11.at (by rw [Nat.zero_add]; exact arrU_at _ 16 x (by omega))) ?_
        refine cv32_16 rfl Try.underlying75 rfl ?_
        rw [cut16]
        refine o_build (v := .agg #[.int .u8 ((BitVec.ofNat 8 x).toNat : Int), .int .u16 ((BitVec.ofNat 16 (fst L x + cnt (L.take i) x)).toNat : Int)]) rfl (fun _ => by kernel_rfl) ?_
        refine o_alloc (cs := #[.int .u8 0, .int .u16 0]) inf87 rfl (fun bw w12 hB12 hK12 hb12 hZ12 => ?_)
        refine o_sta (xs := [.int .u8 ((BitVec.ofNat 8 x).toNat : Int), .int .u16 ((BitVec.ofNat 16 (fst L x + cnt (L.take i) x)).toNat : Int)]) rfl rfl rfl (by intro u hu; simp at hu; rcases hu with rfl | rfl <;> rfl) hB12 (by simp) (fun w13 hB13 hK13 hZ13 => ?_)
        have hk1113 : Keep [] w11 w13 := hK12.tr1 hK13 (by omega)
        have hB13 : Blk w13 bw #[.int .u8 ((BitVec.ofNat 8 x).toNat : Int), .int .u16 ((BitVec.ofNat 16 (fst L x + cnt (L.take i) x)).toNat : Int)] 87 := hB13
        have hbwn : bw ≠ bn := by have := hB11.lt; omega
        have hN13 := hB11.keep hk1113 (by simp)
        refine o_nil ?_
        refine k_seq ?_
        refine k_region ?_
        refine m_int rfl rfl ?_
        refine o_ixa1 (m := x) Try.underlying85 rfl rfl rfl (by omega) ?_
        refine o_ld rfl rfl (hN13.at (by rw [Nat.zero_add]; exact arrU_at _ 16 x (by omega))) ?_
        refine v32_add (b := 1#32) rfl rfl ?_
        refine o_ixa1 (m := x) Try.underlying85 rfl rfl rfl (by omega) ?_
        rw [show (1#32 : BitVec 32) = BitVec.ofNat 32 1 from rfl, add32]
        refine o_st (v := .int _ _) rfl rfl rfl rfl hN13 (by rw [arrU_size]; omega) (fun w14 hB14 hK14 hZ14 => ?_)
        rw [Nat.zero_add, arrU_set _ 16 x _ (by omega)] at hB14
        have hk14 := (hk11.tr hk1113).tr1 hK14 hwbn
        have hC14 := (hC11.keep hk1113 (by simp)).keep hK14 (by simpa using hcn)
        have hW14 := hB13.keep hK14 (by simpa using hbwn)
        have hM14 := (hM11.keep hk1113 (by simp)).keep hK14 (by simp; omega)
        have hN14 := (hN11.keep hk1113 (by simp)).keep hK14 (by simp; omega)
        obtain ⟨es1, c1, hh1, he1, hbn1⟩ := hM14.obj
        obtain ⟨es2, c2, hh2, he2, hbn2⟩ := hN14.obj
        have hqn := hS11.new (by rw [getD_at hin, hLx]; exact hx15) (by rw [getD_at hin, hLx]; exact hyb)
        rw [getD_at hin, hLx] at hqn
        have hwn := hW11.new
        have hrc1 : rc ∉ [rs, rw] := by have h1 := hM14.blk hC14; have h2 := hN14.blk hC14; simp; exact ⟨h1, h2⟩
        have hbw1 : bw ∉ [rs, rw] := by have h1 := hM14.blk hW14; have h2 := hN14.blk hW14; simp; exact ⟨h1, h2⟩
        refine o_nil ?_
        refine k_seq ?_
        refine k_stage 17 [12, 14, 15] (fun s w' => Keep [rs, rw] w14 w' ∧ w'.heap[rs]? = some (if s = 0 then .map es1 c1 else if s = 1 then .map (es1.push ⟨kvw (BitVec.ofNat 8 x, BitVec.ofNat 16 (fst L x + cnt (L.take i) x)), .int .i64 0, c1⟩) (c1 + 1) else .map (es1.push ⟨kvw (BitVec.ofNat 8 x, BitVec.ofNat 16 (fst L x + cnt (L.take i) x)), .int .i64 (i : Int), c1⟩) (c1 + 1)) ∧ w'.heap[rw]? = some (if s ≤ 2 then .map es2 c2 else .map (es2.push ⟨.int .i64 (i : Int), .agg #[.int .u8 0, .int .u16 0], c2⟩) (c2 + 1))) rfl rfl rfl rfl rfl rfl rfl rfl ⟨(Keep.refl _ _).drew, hh1, hh2⟩ ?_
        refine s_step 0 0 rfl rfl rfl (fun s1 w1 h1 h2 hC => m_ptr rfl rfl (o_nil ⟨rfl, hC⟩)) ?_
        refine s_step 0 0 rfl rfl rfl (fun s1 w1 h1 h2 hC => o_nilc rfl (o_nil ⟨rfl, hC⟩)) ?_
        refine s_step 0 0 rfl rfl rfl (fun s1 w1 h1 h2 hC => o_fld0 rfl rfl (o_nil ⟨rfl, hC⟩)) ?_
        refine s_step 0 0 rfl rfl rfl (fun s1 w1 h1 h2 hC => o_ld rfl rfl ((hC14.keep hC.1 hrc1).at rfl) (o_nil ⟨rfl, hC⟩)) ?_
        refine s_step 0 0 rfl rfl rfl (fun s1 w1 h1 h2 hC => o_lda (xs := [.int .u8 ((BitVec.ofNat 8 x).toNat : Int), .int .u16 ((BitVec.ofNat 16 (fst L x + cnt (L.take i) x)).toNat : Int)]) rfl rfl rfl (fun j u hj => (hW14.keep hC.1 hbw1).at (by rw [Nat.zero_add]; simpa using hj)) (o_nil ⟨rfl, hC⟩)) ?_
        refine s_step 0 0 rfl rfl rfl (fun s1 w1 h1 h2 hC => m_ptr rfl rfl (o_nil ⟨rfl, hC⟩)) ?_
        refine s_step 0 0 rfl rfl rfl (fun s1 w1 h1 h2 hC => o_nilc rfl (o_nil ⟨rfl, hC⟩)) ?_
        refine s_step 0 0 rfl rfl rfl (fun s1 w1 h1 h2 hC => o_fld (off := 1) rfl rfl (o_nil ⟨rfl, hC⟩)) ?_
        refine s_step 0 0 rfl rfl rfl (fun s1 w1 h1 h2 hC => o_ld rfl rfl ((hC14.keep hC.1 hrc1).at rfl) (o_nil ⟨rfl, hC⟩)) ?_
        refine s_step 0 2 rfl rfl rfl (fun s1 w1 h1 h2 hC => m_int rfl rfl (o_nil ⟨rfl, hC⟩)) ?_
        refine s_step 0 1 rfl rfl rfl (fun s1 w1 h1 h2 hC => m_int rfl rfl (o_nil ⟨rfl, hC⟩)) ?_
        refine s_step 0 3 rfl rfl rfl (fun s1 w1 h1 h2 hC => o_lda (xs := [.int .u8 ((BitVec.ofNat 8 x).toNat : Int), .int .u16 ((BitVec.ofNat 16 (fst L x + cnt (L.take i) x)).toNat : Int)]) rfl rfl rfl (fun j u hj => (hW14.keep hC.1 hbw1).at (by rw [Nat.zero_add]; simpa using hj)) (o_nil ⟨rfl, hC⟩)) ?_
        refine s_loud rfl (fun w1 hC => o_mentry (q := (BitVec.ofNat 8 x, BitVec.ofNat 16 (fst L x + cnt (L.take i) x))) Try.underlying81 key_w inf3 rfl rfl (hC.2.1.trans rfl) he1 hqn (fun w2 hH hK hZ => o_nil ⟨rfl, hC.1.trans hK (by simp), hH, by rw [hK.block rw (by have := (Array.getElem?_eq_some_iff.1 hC.2.2).1; exact this) (by simpa using fun e => hrsw e.symm)]; exact hC.2.2⟩)) ?_
        refine s_step 1 1 rfl rfl rfl (fun s1 w1 h1 h2 hC => o_extr (vs := [.int .i64 0, .int .i64 (c1 : Int)]) rfl rfl (o_nil ⟨rfl, hC⟩)) ?_
        refine s_loud (v := undef) rfl (fun w1 hC => o_estore (kq := kvw (BitVec.ofNat 8 x, BitVec.ofNat 16 (fst L x + cnt (L.take i) x))) (v0 := .int .i64 0) rfl rfl rfl (hC.2.1.trans rfl) hbn1 (fun w2 hH hK hZ => o_nil ⟨rfl, hC.1.trans hK (by simp), hH, by rw [hK.block rw (by have := (Array.getElem?_eq_some_iff.1 hC.2.2).1; exact this) (by simpa using fun e => hrsw e.symm)]; exact hC.2.2⟩)) ?_
        refine s_loud rfl (fun w1 hC => o_mentry (kv := Value.int .i64) (q := (i : Int)) Try.underlying82 (key_int Try.underlying3) inf87 rfl rfl (hC.2.2.trans rfl) he2 hwn (fun w2 hH hK hZ => o_nil ⟨rfl, hC.1.trans hK (by simp), by rw [hK.block rs (by have := (Array.getElem?_eq_some_iff.1 hC.2.1).1; exact this) (by simpa using hrsw)]; exact hC.2.1, hH⟩)) ?_
        refine s_step 3 3 rfl rfl rfl (fun s1 w1 h1 h2 hC => o_extr (vs := [.agg #[.int .u8 0, .int .u16 0], .int .i64 (c2 : Int)]) rfl rfl (o_nil ⟨rfl, hC⟩)) ?_
        refine s_nil ?_
        intro w15 hC15
        obtain ⟨hK15, hH15, hG15⟩ := hC15
        refine o_estore (kq := .int .i64 (i : Int)) (v0 := .agg #[.int .u8 0, .int .u16 0]) rfl rfl rfl (hG15.trans rfl) hbn2 (fun w16 hG16 hK16 hZ16 => ?_)
        have hK1416 : Keep [rs, rw] w14 w16 := hK15.trans hK16 (by simp)
        have hH16 : w16.heap[rs]? = some (.map (es1.push ⟨kvw (BitVec.ofNat 8 x, BitVec.ofNat 16 (fst L x + cnt (L.take i) x)), .int .i64 (i : Int), c1⟩) (c1 + 1)) := by
         rw [hK16.block rs (Array.getElem?_eq_some_iff.1 hH15).1 (by simpa using hrsw)]; exact hH15
        have hM16 := mp_push hH16 he1 hbn1 hqn
        have hN16 := mp_push (kv := Value.int .i64) (q := (i : Int)) hG16 he2 hbn2 hwn
        have hC16 := hC14.keep hK1416 hrc1
        have hW16 := hW14.keep hK1416 hbw1
        have hk16 : Keep [] w w16 := hk14.trans hK1416 (by intro b hb hl; simp at hb; omega)
        have hbn14 : bn ∉ [rs, rw] := by have h1 := hM14.blk hB14; have h2 := hN14.blk hB14; simp; exact ⟨h1, h2⟩
        have hA16 := hB14.keep hK1416 hbn14
        have hmo : mostL (L.take i) < 256 := by
         have := most_15 (L.take i) (fun y hy => hL15 y (List.mem_of_mem_take hy))
         omega
        refine o_nil ?_
        refine k_qk 8 rfl rfl rfl rfl rfl ?_
        refine q_step (fun w1 hC => m_ptr rfl rfl (o_nil ⟨rfl, hC⟩)) ?_
        refine q_step (fun w1 hC => m_ptr rfl rfl (o_nil ⟨rfl, hC⟩)) ?_
        refine q_step (fun w1 hC => o_nilc rfl (o_nil ⟨rfl, hC⟩)) ?_
        refine q_step (fun w1 hC => o_fld (off := 2) rfl rfl (o_nil ⟨rfl, hC⟩)) ?_
        refine q_step (fun w1 hC => o_ld rfl rfl (hC16.kat hC rfl) (o_nil ⟨rfl, hC⟩)) ?_
        refine q_step (fun w1 hC => o_fld0 rfl rfl (o_nil ⟨rfl, hC⟩)) ?_
        refine q_step (fun w1 hC => o_ld rfl rfl (hW16.kat hC rfl) (o_nil ⟨rfl, hC⟩)) ?_
        refine q_step (fun w1 hC => o_max rfl rfl (o_nil ⟨rfl, hC⟩)) ?_
        rw [max8 _ _ hmo (by omega)]
        refine q_nil ?_
        intro w17 hC17
        refine o_nilc rfl ?_
        refine o_fld (off := 2) rfl rfl ?_
        refine o_st (v := .int _ _) rfl rfl rfl rfl (hC16.keep hC17 (by simp)) (by simp) (fun w18 hB18 hK18 hZ18 => ?_)
        refine o_nil ?_
        refine k_blk ?_
        refine k_region ?_
        refine n_add rfl rfl (by omega) ?_
        refine m_int rfl rfl ?_
        refine o_nil ?_
        refine k_goal ⟨(i + 1, _, _), ⟨rfl, rfl, rfl, rfl, rfl, trivial⟩, ⟨by simp only; omega, ?_, ?_, (hM16.keep hC17 (by simp)).keep hK18 ?_, (hN16.keep hC17 (by simp)).keep hK18 ?_, ?_, ?_, (hk16.tr hC17).tr1 hK18 hwrc⟩, by simp only; omega⟩
        · rw [arrU_congr 16 (g := fun j => if j = x then fst L x + cnt (L.take i) x + 1 else fst L j + cnt (L.take i) j) ?_]
          · exact (hA16.keep hC17 (by simp)).keep hK18 (by simpa using fun e => hcn e.symm)
          · intro j hj
            rw [cnt_take L i j hin, hLx]
            by_cases hjx : j = x
            · subst hjx
              rw [if_pos ⟨rfl, hx0⟩, if_pos rfl]; rfl
            · rw [if_neg (fun hh => hjx hh.1.symm), if_neg hjx]; rfl
        · rw [most_take L i hin, hLx]
          exact hB18
        · have := hM14.blk hC14; simpa using fun e => this e.symm
        · have := hN14.blk hC14; simpa using fun e => this e.symm
        · have := hS11.put hin (by rw [hLx]; exact hx0) (by rw [hLx]; exact hx15) (by rw [hLx]; exact hyb)
          simp only [hLx] at this
          exact this
        · have := hW11.put hin (by rw [hLx]; exact hx0)
          unfold wcell at this
          rw [getD_at hin, hLx] at this
          exact this
      have hm15 : m ≤ 15 := by omega
      refine k_skip ?_
      refine k_seq ?_
      refine k_block ?_
      refine k_seq ?_
      refine k_region ?_
      refine m_int rfl rfl ?_
      refine b_gtr rfl rfl ?_
      refine o_nil ?_
      refine k_cond rfl (fun h => ?_) (fun h => ?_)
      ·
        have hm2 : 2 ≤ m := by omega
        have ecast : ((m : Int) - 1) = ((m - 1 : Nat) : Int) := by omega
        refine k_qk 11 rfl rfl rfl rfl rfl ?_
        refine q_step (fun w1 hC => m_int rfl rfl (o_nil ⟨rfl, hC⟩)) ?_
        refine q_step (fun w1 hC => m_int rfl rfl (o_nil ⟨rfl, hC⟩)) ?_
        refine q_step (fun w1 hC => n_sub rfl rfl (by omega) (o_nil ⟨rfl, hC⟩)) ?_
        rw [ecast]
        refine q_step (fun w1 hC => o_ixa1 (m := m - 1) Try.underlying85 rfl rfl rfl (by omega) (o_nil ⟨rfl, hC⟩)) ?_
        refine q_step (fun w1 hC => o_ld rfl rfl ((hB10.keep hC (by simp)).at (by rw [Nat.zero_add]; exact arrU_at _ 16 (m - 1) (by omega))) (o_nil ⟨rfl, hC⟩)) ?_
        refine q_step (fun w1 hC => m_int rfl rfl (o_nil ⟨rfl, hC⟩)) ?_
        refine q_step (fun w1 hC => n_sub rfl rfl (by omega) (o_nil ⟨rfl, hC⟩)) ?_
        rw [ecast]
        refine q_step (fun w1 hC => o_ixa1 (m := m - 1) Try.underlying80 rfl rfl rfl (by omega) (o_nil ⟨rfl, hC⟩)) ?_
        refine q_step (fun w1 hC => o_ld rfl rfl (((hB9'.keep hK10 (by simpa using hbcn)).keep hC (by simp)).at (by rw [Nat.zero_add]; exact arrU_at _ 17 (m - 1) (by omega))) (o_nil ⟨rfl, hC⟩)) ?_
        refine q_step (fun w1 hC => v32_add rfl rfl (o_nil ⟨rfl, hC⟩)) ?_
        refine q_step (fun w1 hC => v32_shln (c := 1) rfl rfl (o_nil ⟨rfl, hC⟩)) ?_
        rw [shl32]
        refine q_nil ?_
        intro w11 hC11
        refine o_ixa1 (m := m) Try.underlying85 rfl rfl rfl (by omega) ?_
        refine o_st (v := .int _ _) rfl rfl rfl rfl (hB10.keep hC11 (by simp)) (by rw [arrU_size]; omega) (fun w12 hB12 hK12 hZ12 => ?_)
        rw [Nat.zero_add, arrU_set _ 16 m _ (by omega)] at hB12
        refine o_nil ?_
        refine k_blk ?_
        refine k_region ?_
        refine m_int rfl rfl ?_
        refine n_add rfl rfl (by omega) ?_
        refine m_int rfl rfl ?_
        refine o_nil ?_
        refine k_goal ⟨m + 1, ⟨rfl, rfl, rfl, rfl, rfl, trivial⟩, ⟨by omega, by omega, ?_, (hK10.trans hC11 (by simp)).trans hK12 (fun _ h _ => h)⟩, by omega⟩
        rw [arrU_congr 16 (g := fun j => if j = m then 2 * ((if m - 1 < m then fst L (m - 1) else 0) + cnt L (m - 1)) else if j < m then fst L j else 0) ?_]
        · exact hB12
        · intro j hj
          by_cases hjm : j = m
          · subst hjm
            obtain ⟨q, rfl⟩ : ∃ q, j = q + 1 := ⟨j - 1, by omega⟩
            rw [if_pos (by omega), if_pos rfl, Nat.add_sub_cancel, if_pos (by omega)]; rfl
          · rw [if_neg hjm]
            by_cases hj2 : j < m
            · rw [if_pos hj2, if_pos (by omega)]
            · rw [if_neg hj2, if_neg (by omega)]
      obtain rfl : m = 1 := by omega
      refine k_skip ?_
      refine k_blk ?_
      refine k_region ?_
      refine m_int rfl rfl ?_
      refine n_add rfl rfl (by omega) ?_
      refine m_int rfl rfl ?_
      refine o_nil ?_
      refine k_goal ⟨1 + 1, ⟨rfl, rfl, rfl, rfl, rfl, trivial⟩, ⟨by omega, by omega, ?_, hK10⟩, by omega⟩
      rw [arrU_congr 16 (g := fun j => if j < 1 then fst L j else 0) ?_]
      · exact hB10
      · intro j hj
        by_cases hj0 : j < 1
        · rw [if_pos hj0, if_pos (by omega)]
        · rw [if_neg hj0]
          by_cases hj1 : j < 1 + 1
          · obtain rfl : j = 1 := by omega
            rw [if_pos hj1]; show 2 * (fst L 0 + cnt L 0) = 0; rw [cnt_zero]; rfl
          · rw [if_neg hj1]
    have hm15 : m ≤ 15 := by omega
    refine k_skip ?_
    refine k_seq ?_
    refine k_block ?_
    refine k_seq ?_
    refine k_region ?_
    refine m_int rfl rfl ?_
    refine o_ixa1 (m := m) Try.underlying80 rfl rfl rfl (by omega) ?_
    refine o_ld rfl rfl (hB3.at (by rw [Nat.zero_add]; exact arrU_at _ 17 m (by omega))) ?_
    refine m_int rfl rfl ?_
    refine cv64 rfl Try.underlying47 rfl ?_
    refine v64_sub (a := 15#64) rfl rfl ?_
    refine v32_shln rfl rfl ?_
    rw [need_bv _ m (hcl m) hm15 hm1]
    have hkm : kr L m = kr L (m - 1) + cnt L m * 2 ^ (15 - m) := by
     obtain ⟨q, rfl⟩ : ∃ q, m = q + 1 := ⟨m - 1, by omega⟩
     rfl
    have hnl := need_lt (cnt L m) m (hcl m) hm1
    refine m_int rfl rfl ?_
    refine o_nil ?_
    refine k_seq ?_
    refine k_seq ?_
    refine k_region ?_
    refine m_int rfl rfl ?_
    refine m_int rfl rfl ?_
    refine b_gtr rfl rfl ?_
    refine o_nil ?_
    refine k_cond rfl (fun h => ?_) (fun h => ?_)
    ·
      rw [tn32 _ hnl, tn32 _ (by omega)] at h
      refine k_seq ?_
      refine k_region ?_
      refine m_ptr rfl rfl ?_
      refine m_int rfl rfl ?_
      refine o_nil ?_
      refine k_ret (ret_tmps (ts := [4, 5]) (v := .tuple #[.pointer _, .int _ _]) rfl rfl ?_)
      exact ⟨hk3, .inr (.inl ⟨hokL, fun hF => by rw [hLe] at hF; have := hF.le hL15; have := kr_le L m hm15; omega, rfl⟩)⟩
    rw [tn32 _ hnl, tn32 _ (by omega)] at h
    refine k_skip ?_
    refine k_region ?_
    refine m_int rfl rfl ?_
    refine m_int rfl rfl ?_
    refine v32_sub rfl rfl ?_
    rw [sub32 _ _ (by omega) (by omega), show 32768 - kr L (m - 1) - cnt L m * 2 ^ (15 - m) = 32768 - kr L (m + 1 - 1) by rw [Nat.add_sub_cancel]; omega]
    refine m_int rfl rfl ?_
    refine o_nil ?_
    refine k_blk ?_
    refine k_region ?_
    refine m_int rfl rfl ?_
    refine n_add rfl rfl (by omega) ?_
    refine m_int rfl rfl ?_
    refine o_nil ?_
    refine k_goal ⟨m + 1, ⟨rfl, rfl, rfl, rfl, rfl, rfl, trivial⟩, ⟨by omega, by omega, by rw [Nat.add_sub_cancel]; omega, rfl⟩, by omega⟩
  have hil : i < ls.length := by omega
  obtain ⟨b1, o1, rfl, _⟩ := hR.at i (by simpa using hil)
  have hin : i < (nats ls).length := by omega
  have hat := nats_at ls i hil
  refine k_skip ?_
  refine k_seq ?_
  refine k_block ?_
  refine k_seq ?_
  refine k_region ?_
  refine o_ixs1 Try.underlying42 rfl rfl rfl hil ?_
  refine o_ld rfl rfl (hR.cellK hk3 (iv_at ls i hil)) ?_
  refine m_int rfl rfl ?_
  refine o_nil ?_
  refine k_seq ?_
  refine k_seq ?_
  refine k_region ?_
  refine m_int rfl rfl ?_
  refine b_lss rfl rfl ?_
  refine m_bool rfl rfl ?_
  refine o_split (t := 30) rfl (fun h => ?_) (fun h => ?_)
  ·
    refine g_no rfl rfl rfl ?_
    refine g_no rfl rfl rfl ?_
    refine pick_t rfl rfl ?_
    refine o_nil ?_
    refine k_condt rfl ?_
    refine k_seq ?_
    refine k_region ?_
    refine m_ptr rfl rfl ?_
    refine m_int rfl rfl ?_
    refine o_nil ?_
    refine k_ret (ret_tmps (ts := [4, 5]) (v := .tuple #[.pointer _, .int _ _]) rfl rfl ?_)
    exact ⟨hk3, .inl ⟨fun hh => by have := hh.2 _ (List.getElem_mem hil); omega, rfl⟩⟩
  ·
    refine g_yes rfl rfl ?_
    refine m_int rfl rfl ?_
    refine g_yes rfl rfl ?_
    refine b_gtr rfl rfl ?_
    refine pick_f rfl rfl ?_
    refine o_nil ?_
    refine k_cond rfl (fun h => ?_) (fun h => ?_)
    ·
      refine k_seq ?_
      refine k_region ?_
      refine m_ptr rfl rfl ?_
      refine m_int rfl rfl ?_
      refine o_nil ?_
      refine k_ret (ret_tmps (ts := [4, 5]) (v := .tuple #[.pointer _, .int _ _]) rfl rfl ?_)
      exact ⟨hk3, .inl ⟨fun hh => by have := hh.2 _ (List.getElem_mem hil); omega, rfl⟩⟩
    obtain ⟨x, hx⟩ : ∃ x : Nat, ls[i] = x := ⟨ls[i].toNat, by omega⟩
    have hx15 : x ≤ 15 := by omega
    rw [hx]
    have hLx : (nats ls)[i] = x := by rw [hat, hx]; rfl
    have hok' : ∀ j (hj : j < ls.length), j < i + 1 → 0 ≤ ls[j] ∧ ls[j] ≤ 15 := by
     intro j hj hji
     by_cases hjj : j < i
     · exact hok j hj hjj
     · obtain rfl : j = i := by omega
       omega
    refine k_skip ?_
    refine k_seq ?_
    refine k_region ?_
    refine m_int rfl rfl ?_
    refine b_gtr rfl rfl ?_
    refine o_nil ?_
    refine k_cond rfl (fun h => ?_) (fun h => ?_)
    ·
      refine k_seq ?_
      refine k_region ?_
      refine m_int rfl rfl ?_
      refine o_ixa1 (m := x) Try.underlying80 rfl rfl rfl (by omega) ?_
      refine o_ld rfl rfl (hB3.at (by rw [Nat.zero_add]; exact arrU_at _ 17 x (by omega))) ?_
      refine v32_add (b := 1#32) rfl rfl ?_
      refine o_ixa1 (m := x) Try.underlying80 rfl rfl rfl (by omega) ?_
      rw [show (1#32 : BitVec 32) = BitVec.ofNat 32 1 from rfl, add32]
      refine o_st (v := .int _ _) rfl rfl rfl rfl hB3 (by rw [arrU_size]; omega) (fun w4 hB4 hK4 hZ4 => ?_)
      rw [Nat.zero_add, arrU_set _ 17 x _ (by omega)] at hB4
      refine o_nil ?_
      refine k_region ?_
      refine m_int rfl rfl ?_
      refine n_add rfl rfl (by omega) ?_
      refine m_int rfl rfl ?_
      refine o_nil ?_
      refine k_blk ?_
      refine k_region ?_
      refine n_add rfl rfl (by omega) ?_
      refine m_int rfl rfl ?_
      refine o_nil ?_
      refine k_goal ⟨i + 1, ⟨rfl, rfl, rfl, ?_, rfl, rfl, rfl, trivial⟩, ⟨by omega, hok', ?_, hk3.tr1 hK4 (by omega)⟩, by omega⟩
      · rw [used_take _ i hin, hLx, if_pos (by omega)]; rfl
      · rw [arrU_congr 17 (g := fun j => if j = x then cnt ((nats ls).take i) x + 1 else cnt ((nats ls).take i) j) ?_]
        · exact hB4
        · intro j hj
          rw [cnt_take _ i j hin, hLx]
          by_cases hjx : j = x
          · subst hjx
            rw [if_pos ⟨rfl, by omega⟩, if_pos rfl]
          · rw [if_neg (fun hh => hjx hh.1.symm), if_neg hjx]; rfl
    refine k_skip ?_
    refine k_blk ?_
    refine k_region ?_
    refine n_add rfl rfl (by omega) ?_
    refine m_int rfl rfl ?_
    refine o_nil ?_
    refine k_goal ⟨i + 1, ⟨rfl, rfl, rfl, ?_, rfl, rfl, rfl, trivial⟩, ⟨by omega, hok', ?_, hk3⟩, by omega⟩
    · rw [used_take _ i hin, hLx, if_neg (by omega)]; rfl
    · rw [arrU_congr 17 (g := cnt ((nats ls).take i)) ?_]
      · exact hB3
      · intro j hj
        rw [cnt_take _ i j hin, hLx, if_neg (by omega)]; rfl
end Go.Proofs.Ytpmlhlefhmgpfaa
