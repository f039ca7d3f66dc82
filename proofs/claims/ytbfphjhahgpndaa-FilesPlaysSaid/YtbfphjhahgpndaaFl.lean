/- The document's files: Put. No condition beyond what each contract names. -/
import Derived.Test.YtbfphjhahgpndaaFk
namespace Go.Proofs.Ytbfphjhahgpndaa
open Go.RowKit E
set_option linter.unusedVariables false
set_option linter.unusedSimpArgs false
set_option maxRecDepth 100000
attribute [local irreducible] ow qw kw kq cw opW Ret
open Go.Maps Go.Sort
theorem inf52 : infB Try.prog 52 2 40 (.agg #[.string ⟨#[]⟩, .slice none 0 0]) := ⟨_, rfl, rfl, rfl, rfl⟩
def insF : FS → ByteArray → List (BitVec 8) → FS
  | [], s, b => [(s, b)]
  | p :: l, s, b => if bsL s < bsL p.1 then (s, b) :: p :: l else p :: insF l s b
def rputF (gs : FS) (s : ByteArray) (b : List (BitVec 8)) : FS := if idxF gs s < 0 then insF gs s b else putF gs s b
theorem insF_len : ∀ (gs : FS) (s : ByteArray) (b : List (BitVec 8)), (insF gs s b).length = gs.length + 1
  | [], s, b => rfl
  | p :: l, s, b => by
    unfold insF
    split
    · rfl
    · simp [insF_len l s b]
theorem pj_app {lo : Nat} {W w w' : World} {a a2 : Option Addr} {out : FS} {c c2 : Nat} {m : List (ByteArray × Value)} {s : ByteArray} {b : List (BitVec 8)} {d : Option Addr} {e : Nat}
    (h : Sl w 52 2 a out.length c (fcells m)) (ok : RowsOk lo w.heap.size w m out) (fr : ∀ q, a = some q → W.heap.size ≤ q.block) (k : Keep [] W w)
    (hS : Sl w' 52 2 a2 (out.length + 1) c2 (fcells m ++ [.string s, .slice d b.length e])) (hK : Keep (blkOf a) w w') (hv : (a2 = a ∧ w'.heap.size = w.heap.size) ∨ (∃ g, a2 = some ⟨g, 0, none⟩ ∧ w.heap.size = g ∧ w'.heap.size = g + 1))
    (row : Sl w 5 1 d b.length e (b.map u8v)) (hb : ∀ q, d = some q → lo ≤ q.block ∧ q.block < w.heap.size) (h65 : b.length ≤ 65536) :
    Sl w' 52 2 a2 (out ++ [(s, b)]).length c2 (fcells (m ++ [(s, .slice d b.length e)])) ∧ RowsOk lo w'.heap.size w' (m ++ [(s, .slice d b.length e)]) (out ++ [(s, b)]) ∧ (∀ q, a2 = some q → W.heap.size ≤ q.block) ∧ Keep [] W w' := by
  have hkt : KeepT [52] 0 w w' := hK.ts h (fun q _ => Nat.zero_le _) (by simp)
  refine ⟨?_, ?_, fresh_app fr k.size hv, k.trb hK fr⟩
  · rw [List.length_append, fcells_app]; exact hS
  · have h1 := (ok.kt hkt (by decide)).mono hkt.size
    refine h1.app (.cons (row.kt hkt (by decide)) (fun q hq => ⟨(hb q hq).1, Nat.lt_of_lt_of_le (hb q hq).2 hkt.size⟩) h65 .nil)
theorem one_f (s : ByteArray) (d : Option Addr) (l e : Nat) : ∀ u ∈ (#[Value.string s, .slice d l e]).toList, u.oneCell' = true := by
  intro u hu
  simp at hu
  rcases hu with rfl | rfl <;> rfl
theorem E.Sl.setC {w w' : World} {E : TypeId} {sz g m c k : Nat} {xs : List Value} {cur : Array Value} {v : Value} (h : Sl w E sz (some ⟨g, 0, none⟩) m c xs) (hk : k < m * sz) (hc : Blk w g cur E) (hb : Blk w' g (cur.setIfInBounds k v) E) :
    Sl w' E sz (some ⟨g, 0, none⟩) m c (xs.set k v) := by
  obtain ⟨hl, h⟩ := h
  rcases h with ⟨h, _⟩ | ⟨g', cur', hg, hb', h1, h2, h3, h4⟩
  · simp at h
  · simp at hg
    subst hg
    obtain rfl := hb'.inj hc
    refine ⟨by simpa using hl, .inr ⟨g, _, rfl, hb, h1, h2, by simpa using h3, ?_⟩⟩
    rw [Array.toList_setIfInBounds, ← h4, List.take_set]
theorem insF_app (gs : FS) (s : ByteArray) (b : List (BitVec 8)) (i : Nat) (p : ByteArray × List (BitVec 8)) (hp : gs[i]? = some p) (hn : ¬ bsL s < bsL p.1) : insF (gs.drop i) s b = p :: insF (gs.drop (i + 1)) s b := by
  have hl := (List.getElem?_eq_some_iff.1 hp).1
  rw [List.drop_eq_getElem_cons hl, (List.getElem?_eq_some_iff.1 hp).2]
  show (if bsL s < bsL p.1 then _ else _) = _
  rw [if_neg hn]
theorem insF_here (gs : FS) (s : ByteArray) (b : List (BitVec 8)) (i : Nat) (p : ByteArray × List (BitVec 8)) (hp : gs[i]? = some p) (hn : bsL s < bsL p.1) : insF (gs.drop i) s b = (s, b) :: gs.drop i := by
  have hl := (List.getElem?_eq_some_iff.1 hp).1
  rw [List.drop_eq_getElem_cons hl, (List.getElem?_eq_some_iff.1 hp).2]
  show (if bsL s < bsL p.1 then _ else _) = _
  rw [if_pos hn]
theorem insF_nil (s : ByteArray) (b : List (BitVec 8)) : insF [] s b = [(s, b)] := rfl
theorem drop_at {α : Type} (l : List α) (i : Nat) (p : α) (hp : l[i]? = some p) : l.drop i = p :: l.drop (i + 1) := by
  have hl := (List.getElem?_eq_some_iff.1 hp).1
  rw [List.drop_eq_getElem_cons hl, (List.getElem?_eq_some_iff.1 hp).2]
theorem take_at {α : Type} (l : List α) (i : Nat) (p : α) (hp : l[i]? = some p) : l.take (i + 1) = l.take i ++ [p] := by
  have hl := (List.getElem?_eq_some_iff.1 hp).1
  rw [List.take_add_one, hp]; rfl
attribute [local irreducible] insF
set_option maxHeartbeats 1000000 in
theorem rput_ok (lo : Nat) (w : World) (x : Nat) (gs : FS) (n : Nat) (Fl : List Int) (s : ByteArray) (a : Option Addr) (c : Nat) (bs : List (BitVec 8)) (h : Ri lo w x gs n Fl) (hR : Rd w a (bs.map u8v)) (hlo : lo ≤ w.heap.size) (hs : s.size ≤ 9223372036854775807) :
    Ret Try.prog 15 [.pointer (some ⟨x, 0, none⟩), .string s, .slice a bs.length c] w (fun v w' => v = .int .i64 (putE gs s bs.length) ∧ Ri lo w' x (if putE gs s bs.length = 0 then rputF gs s bs else gs) n Fl ∧ KeepT [44, 52, 3] lo w w') := by
  have hRi := h
  have bad : ∀ y w', putE gs s bs.length = y → y ≠ 0 → Keep [] w w' → (Value.int .i64 y = .int .i64 (putE gs s bs.length) ∧ Ri lo w' x (if putE gs s bs.length = 0 then rputF gs s bs else gs) n Fl ∧ KeepT [44, 52, 3] lo w w') := by
    intro y w' hy h0 hk
    rw [hy, if_neg h0]
    exact ⟨rfl, hRi.new hk, hk.t⟩
  refine fn_enter (n := 91) Try.func15 rfl rfl (Nat.le_of_ble_eq_true rfl) (fun e => ?_)
  refine k_seq ?_
  refine k_region ?_
  refine m_int rfl rfl ?_
  refine o_nil ?_
  refine k_seq ?_
  refine k_seq ?_
  refine k_region ?_
  refine m_str rfl rfl ?_
  refine o_call rfl rfl (rname_ok w s hs) (fun v w1 hv => ?_)
  obtain ⟨rfl, hw1⟩ := hv
  subst hw1
  refine u_notb rfl ?_
  refine o_nil ?_
  refine k_cond (p := ¬ nameOk s) (by show Value.bool (!decide (nameOk s)) = _; simp) (fun h => ?_) (fun h => ?_)
  ·
    refine k_seq ?_
    refine k_region ?_
    refine m_int rfl rfl ?_
    refine o_nil ?_
    refine k_ret (ret_tmps (ts := [6]) (v := .int _ _) rfl rfl ?_)
    exact bad 13 w1 (if_pos h) (by decide) (Keep.refl _ _)
  have hok : nameOk s := Decidable.not_not.1 h
  refine k_skip ?_
  refine k_seq ?_
  refine k_seq ?_
  refine k_region ?_
  refine m_sl rfl rfl ?_
  refine o_lens Try.underlying22 rfl ?_
  refine b_gtr rfl rfl ?_
  refine o_nil ?_
  refine k_cond rfl (fun h => ?_) (fun h => ?_)
  ·
    refine k_seq ?_
    refine k_region ?_
    refine m_int rfl rfl ?_
    refine o_nil ?_
    refine k_ret (ret_tmps (ts := [6]) (v := .int _ _) rfl rfl ?_)
    exact bad 8 w1 (by unfold putE; rw [if_neg (fun hn => hn hok), if_pos (by omega)]) (by decide) (Keep.refl _ _)
  have h65 : bs.length ≤ 65536 := by omega
  refine k_skip ?_
  refine k_seq ?_
  refine k_region ?_
  refine o_bsl (E := 5) (cs := #[]) rfl (fun _ => by kernel_rfl) (fun g w2 hB2 hK2 hb2 hZ2 => ?_)
  refine m_sl rfl rfl ?_
  refine o_app0 Try.underlying22 inf5 rfl (by decide) rfl rfl hB2 (hR.new hK2) (by simp) (u8_one bs) (by simp [maxLen]; omega) (by omega) (fun aO cO w3 hS3 hK3 hv3 => ?_)
  have hk3 : Keep [] w1 w3 := hK2.tr hK3
  have hfO : ∀ q, aO = some q → lo ≤ q.block ∧ q.block < w3.heap.size := fun q hq => ⟨by have := hK2.size; rcases hv3 q hq with h | h <;> omega, hS3.lt q hq⟩
  have hR3 := hRi.new hk3
  refine m_sl rfl rfl ?_
  refine o_nil ?_
  refine k_seq ?_
  refine k_seq ?_
  refine k_region ?_
  refine m_ptr rfl rfl ?_
  refine m_str rfl rfl ?_
  refine o_call rfl rfl (rfind_ok lo w3 x gs n Fl s hR3) (fun v w4 hv => ?_)
  obtain ⟨rfl, hw4⟩ := hv
  subst hw4
  have hR3' := hR3
  obtain ⟨ag, cg, m, af, cf, hP⟩ := hR3'
  refine m_int rfl rfl ?_
  refine o_nil ?_
  refine k_seq ?_
  refine k_region ?_
  refine m_int rfl rfl ?_
  refine b_geq rfl rfl ?_
  refine o_nil ?_
  refine k_cond rfl (fun h => ?_) (fun h => ?_)
  ·
    obtain ⟨k, b0, hix, hk, hno⟩ : ∃ k b, idxF gs s = ((k : Nat) : Int) ∧ gs[k]? = some (s, b) ∧ ∀ (j : Nat) p, j < k → gs[j]? = some p → p.1 ≠ s := by
     rcases idx_cases gs s with h1 | ⟨h1, h2⟩
     · exact h1
     · omega
    rw [hix]
    have hkl : k < gs.length := (List.getElem?_eq_some_iff.1 hk).1
    obtain ⟨gb, cur, rfl, hB, hsz⟩ := hP.list.blk (by omega)
    obtain ⟨a1, c1, hm1, hS1, hb1, h651⟩ := hP.ok.at k _ hk
    refine k_seq ?_
    refine k_region ?_
    refine m_ptr rfl rfl ?_
    refine o_nilc rfl ?_
    refine o_fld0 rfl rfl ?_
    refine o_ld rfl rfl (hP.blk.at rfl) ?_
    refine m_int rfl rfl ?_
    refine m_sl rfl rfl ?_
    refine o_ixs (sz := 2) Try.underlying41 rfl rfl rfl hkl ?_
    refine o_fld (off := 1) rfl rfl ?_
    refine o_st (v := .slice aO bs.length cO) rfl rfl rfl rfl hB (by omega) (fun w5 hB5 hK5 hZ5 => ?_)
    refine o_nil ?_
    refine k_seq ?_
    refine k_region ?_
    refine m_int rfl rfl ?_
    refine o_nil ?_
    refine k_ret (ret_tmps (ts := [6]) (v := .int _ _) rfl rfl ?_)
    have hz : putE gs s bs.length = 0 := by unfold putE; rw [if_neg (fun hn => hn hok), if_neg (by omega), if_neg (fun hh => by rw [getF_of_at gs k s b0 hk hno] at hh; cases hh.1)]
    have hgl := hP.lowa _ rfl
    have hkt : KeepT [52] lo w4 w5 := hK5.t1 hgl hB (by simp)
    have hrp : rputF gs s bs = gs.set k (s, bs) := by unfold rputF; rw [hix, if_neg (by omega), putF_set gs k s b0 bs hk hno]
    rw [hz, if_pos rfl, hrp]
    refine ⟨rfl, ⟨_, cg, m.set k (s, .slice aO bs.length cO), af, cf, ?_, ?_, ?_, hP.fails.kt hkt (by decide), hP.low, hP.lowa, hP.lowf⟩, (hk3.t).tr (hkt.mono (by simp) (Nat.le_refl _))⟩
    · rw [List.length_set]; exact hP.blk.kt hkt (by decide)
    · rw [List.length_set, ← fcells_set m k s _ _ hm1]
      rw [Nat.zero_add] at hB5
      exact hP.list.setC (by omega) hB hB5
    · exact ((hP.ok.kt hkt (by decide)).mono hkt.size).set (hS3.kt hkt (by decide)) (fun q hq => ⟨(hfO q hq).1, by have := (hfO q hq).2; have := hkt.size; omega⟩) h65 k
  have hno : ∀ p ∈ gs, p.1 ≠ s := by
   rcases idx_cases gs s with ⟨k, b, h1, h2, h3⟩ | ⟨h1, h2⟩
   · omega
   · exact h2
  have hgn := getF_none gs s hno
  have hrp : rputF gs s bs = insF gs s bs := by unfold rputF; rw [if_pos (by omega)]
  refine k_skip ?_
  refine k_seq ?_
  refine k_seq ?_
  refine k_region ?_
  refine m_ptr rfl rfl ?_
  refine o_nilc rfl ?_
  refine o_fld0 rfl rfl ?_
  refine o_ld rfl rfl (hP.blk.at rfl) ?_
  refine o_lens Try.underlying41 rfl ?_
  refine b_geq rfl rfl ?_
  refine o_nil ?_
  refine k_cond rfl (fun h => ?_) (fun h => ?_)
  ·
    refine k_seq ?_
    refine k_region ?_
    refine m_int rfl rfl ?_
    refine o_nil ?_
    refine k_ret (ret_tmps (ts := [6]) (v := .int _ _) rfl rfl ?_)
    exact bad 17 w4 (by unfold putE; rw [if_neg (fun hn => hn hok), if_neg (by omega), if_pos ⟨hgn, by omega⟩]) (by decide) hk3
  have hl16 : gs.length < 16 := by omega
  have hz : putE gs s bs.length = 0 := by unfold putE; rw [if_neg (fun hn => hn hok), if_neg (by omega), if_neg (fun hh => by omega)]
  refine k_skip ?_
  refine k_seq ?_
  refine k_region ?_
  refine m_sl rfl rfl ?_
  refine o_nil ?_
  refine k_seq ?_
  refine k_region ?_
  refine m_bool rfl rfl ?_
  refine o_nil ?_
  refine k_seq ?_
  refine k_seq ?_
  refine k_region ?_
  refine m_int rfl rfl ?_
  refine o_nil ?_
  refine k_block ?_
  refine k_loop (σ := Nat × Bool × FS × List (ByteArray × Value) × Option Addr × Nat) (fun z => [(0, .pointer (some ⟨x, 0, none⟩)), (1, .string s), (7, .slice aO bs.length cO), (9, .slice z.2.2.2.2.1 z.2.2.1.length z.2.2.2.2.2), (10, .bool z.2.1), (11, .int .i64 (z.1 : Int))]) (fun z w' => z.1 ≤ gs.length ∧ Sl w' 52 2 z.2.2.2.2.1 z.2.2.1.length z.2.2.2.2.2 (fcells z.2.2.2.1) ∧ RowsOk lo w'.heap.size w' z.2.2.2.1 z.2.2.1 ∧ (∀ q, z.2.2.2.2.1 = some q → w4.heap.size ≤ q.block) ∧ Keep [] w4 w' ∧ z.2.2.1.length ≤ z.1 + 1 ∧ (z.2.1 = false → z.2.2.1 = gs.take z.1 ∧ insF gs s bs = gs.take z.1 ++ insF (gs.drop z.1) s bs) ∧ (z.2.1 = true → insF gs s bs = z.2.2.1 ++ gs.drop z.1)) (fun z => gs.length - z.1) (0, false, [], [], none, 0) ⟨rfl, rfl, rfl, rfl, rfl, rfl, trivial⟩ ⟨Nat.zero_le _, Sl.nil _ _ _, .nil, by simp, Keep.refl _ _, by simp, fun _ => ⟨rfl, rfl⟩, fun h => by cases h⟩ (fun z e w5 hJ => ?_)
  obtain ⟨i, put, out, m5, a5, c5⟩ := z
  obtain ⟨hi, hS5, hO5, hf5, hK5, hl5, hn5, hp5⟩ := hJ
  change kw _ _ _ _ (ovr [(0, .pointer (some ⟨x, 0, none⟩)), (1, .string s), (7, .slice aO bs.length cO), (9, .slice a5 out.length c5), (10, .bool put), (11, .int .i64 (i : Int))] e) w5
  simp only at hi hS5 hO5 hf5 hl5 hn5 hp5
  have hB5 := hP.blk.keep hK5 (by simp)
  have hrow5 := hS3.new hK5
  have hfO5 : ∀ q, aO = some q → lo ≤ q.block ∧ q.block < w5.heap.size := fun q hq => ⟨(hfO q hq).1, by have := (hfO q hq).2; have := hK5.size; omega⟩
  refine k_seq ?_
  refine k_seq ?_
  refine k_region ?_
  refine m_int rfl rfl ?_
  refine m_ptr rfl rfl ?_
  refine o_nilc rfl ?_
  refine o_fld0 rfl rfl ?_
  refine o_ld rfl rfl (hB5.at rfl) ?_
  refine o_lens Try.underlying41 rfl ?_
  refine b_lss rfl rfl ?_
  refine o_nil ?_
  refine k_cond rfl (fun h => ?_) (fun h => ?_)
  rotate_left
  ·
    obtain rfl : i = gs.length := by omega
    refine k_exit rfl ?_
    refine k_seq ?_
    refine k_seq ?_
    refine k_region ?_
    refine m_bool rfl rfl ?_
    refine u_notb rfl ?_
    refine o_nil ?_
    refine k_cut (σ := FS × List (ByteArray × Value) × Option Addr × Nat) (fun z => [(0, .pointer (some ⟨x, 0, none⟩)), (9, .slice z.2.2.1 z.1.length z.2.2.2)]) (fun z w' => Sl w' 52 2 z.2.2.1 z.1.length z.2.2.2 (fcells z.2.1) ∧ RowsOk lo w'.heap.size w' z.2.1 z.1 ∧ (∀ q, z.2.2.1 = some q → w4.heap.size ≤ q.block) ∧ Keep [] w4 w' ∧ insF gs s bs = z.1) ?_ (fun z e w6 hJ => ?_)
    ·
      refine k_condb rfl (fun h80 => ?_) (fun h80 => ?_)
      ·
        have hput : put = false := by simpa using h80
        obtain ⟨ho1, ho2⟩ := hn5 hput
        refine k_region ?_
        refine m_sl rfl rfl ?_
        refine m_str rfl rfl ?_
        refine m_sl rfl rfl ?_
        refine o_build (v := .agg #[.string s, .slice aO bs.length cO]) rfl (fun _ => by kernel_rfl) ?_
        refine o_bsl (E := 52) (cs := #[.string s, .slice aO bs.length cO]) rfl (fun _ => by kernel_rfl) (fun g6 w6 hB6 hK6 hb6 hZ6 => ?_)
        refine o_app Try.underlying41 inf52 rfl (by decide) rfl rfl (hS5.new hK6) hB6.rd rfl (one_f _ _ _ _) (by simp [maxLen]; omega) (by omega) (fun a7 c7 w7 hS7 hK7 hv7 => ?_)
        have h7 := pj_app (hS5.new hK6) ((hO5.keep hK6 (by simp)).mono hK6.size) hf5 (hK5.tr hK6) hS7 hK7 hv7 (hrow5.new hK6) (fun q hq => ⟨(hfO5 q hq).1, Nat.lt_of_lt_of_le (hfO5 q hq).2 hK6.size⟩) h65
        refine m_sl rfl rfl ?_
        refine o_nil ?_
        refine k_goal ⟨(out ++ [(s, bs)], m5 ++ [(s, .slice aO bs.length cO)], a7, c7), ⟨rfl, ?_, trivial⟩, h7.1, h7.2.1, h7.2.2.1, h7.2.2.2, ?_⟩
        · show Value.slice a7 (out.length + 1) c7 = .slice a7 (out ++ [(s, bs)]).length c7
          rw [List.length_append]; rfl
        · rw [ho2, ho1, List.drop_of_length_le (by omega), insF_nil]
      refine k_skip ?_
      refine k_goal ⟨(out, m5, a5, c5), ⟨rfl, rfl, trivial⟩, hS5, hO5, hf5, hK5, ?_⟩
      have hput : put = true := by simpa using h80
      have := hp5 hput
      rw [List.drop_of_length_le (by omega), List.append_nil] at this
      exact this
    obtain ⟨out6, m6, a6, c6⟩ := z
    obtain ⟨hS6, hO6, hf6, hK6, hout⟩ := hJ
    change kw _ _ _ _ (ovr [(0, .pointer (some ⟨x, 0, none⟩)), (9, .slice a6 out6.length c6)] e) w6
    simp only at hS6 hO6 hf6 hout
    have hB6 := hP.blk.keep hK6 (by simp)
    refine k_seq ?_
    refine k_region ?_
    refine m_ptr rfl rfl ?_
    refine m_sl rfl rfl ?_
    refine o_nilc rfl ?_
    refine o_fld0 rfl rfl ?_
    refine o_st (v := .slice a6 out6.length c6) rfl rfl rfl rfl hB6 (by simp) (fun w7 hB7 hK7 hZ7 => ?_)
    refine o_nil ?_
    refine k_seq ?_
    refine k_region ?_
    refine m_int rfl rfl ?_
    refine o_nil ?_
    refine k_ret (ret_tmps (ts := [6]) (v := .int _ _) rfl rfl ?_)
    have hkt : KeepT [44] lo w6 w7 := hK7.t1 hP.low hB6 (by simp)
    rw [hz, if_pos rfl, hrp, hout]
    refine ⟨rfl, ⟨a6, c6, m6, af, cf, hB7, hS6.kt hkt (by decide), (hO6.kt hkt (by decide)).mono hkt.size, (hP.fails.new hK6).kt hkt (by decide), hP.low, fun q hq => ?_, hP.lowf⟩, ((hk3.tr hK6).t).tr (hkt.mono (by simp) (Nat.le_refl _))⟩
    have := hf6 q hq
    have := hk3.size
    omega
  have hil : i < gs.length := by omega
  obtain ⟨gb, cur, rfl, hBl, hsz⟩ := hP.list.blk (by omega)
  obtain ⟨p, hp⟩ : ∃ p, gs[i]? = some p := ⟨_, List.getElem?_eq_getElem hil⟩
  obtain ⟨a1, c1, hm1, hS1, hb1, h651⟩ := hP.ok.at i p hp
  have hc1 := fcells_at m i _ hm1
  have hL5 := hP.list.new hK5
  have hS15 := hS1.new hK5
  have hb15 : ∀ q, a1 = some q → lo ≤ q.block ∧ q.block < w5.heap.size := fun q hq => ⟨(hb1 q hq).1, Nat.lt_of_lt_of_le (hb1 q hq).2 hK5.size⟩
  refine k_skip ?_
  refine k_seq ?_
  refine k_block ?_
  refine k_seq ?_
  refine k_seq ?_
  refine k_cut (σ := Unit) (fun _ => [(0, .pointer (some ⟨x, 0, none⟩)), (1, .string s), (7, .slice aO bs.length cO), (9, .slice a5 out.length c5), (10, .bool put), (11, .int .i64 (i : Int)), (62, .bool (decide (put = false ∧ bsL s < bsL p.1)))]) (fun _ w' => w' = w5) ?_ (fun _ e w6 hJ => ?_)
  ·
    refine k_region ?_
    refine m_bool rfl rfl ?_
    refine u_notb rfl ?_
    refine m_bool rfl rfl ?_
    refine o_split (t := 51) (p := put = false) (by show Value.bool (!put) = _; cases put <;> rfl) (fun h51 => ?_) (fun h51 => ?_)
    ·
      refine g_yes rfl rfl ?_
      refine m_ptr rfl rfl ?_
      refine g_yes rfl rfl ?_
      refine o_nilc rfl ?_
      refine g_yes rfl rfl ?_
      refine o_fld0 rfl rfl ?_
      refine g_yes rfl rfl ?_
      refine o_ld rfl rfl (hB5.at rfl) ?_
      refine g_yes rfl rfl ?_
      refine m_int rfl rfl ?_
      refine g_yes rfl rfl ?_
      refine o_ixs (sz := 2) Try.underlying41 rfl rfl rfl hil ?_
      refine g_yes rfl rfl ?_
      refine o_fld0 rfl rfl ?_
      refine g_yes rfl rfl ?_
      refine o_ld rfl rfl (hL5.rd.cellK (Keep.refl _ _) hc1.1) ?_
      refine g_yes rfl rfl ?_
      refine m_str rfl rfl ?_
      refine g_yes rfl rfl ?_
      refine b_gtrstr Try.underlying9 rfl rfl ?_
      refine pick_t rfl rfl ?_
      refine o_nil ?_
      refine k_goal ⟨(), ⟨rfl, rfl, rfl, rfl, rfl, rfl, congrArg Value.bool (decide_eq_decide.2 ⟨fun hh => ⟨h51, hh⟩, fun hh => hh.2⟩), trivial⟩, rfl⟩
    ·
      refine g_no rfl rfl rfl ?_
      refine g_no rfl rfl rfl ?_
      refine g_no rfl rfl rfl ?_
      refine g_no rfl rfl rfl ?_
      refine g_no rfl rfl rfl ?_
      refine g_no rfl rfl rfl ?_
      refine g_no rfl rfl rfl ?_
      refine g_no rfl rfl rfl ?_
      refine g_no rfl rfl rfl ?_
      refine g_no rfl rfl rfl ?_
      refine pick_f rfl rfl ?_
      refine o_nil ?_
      refine k_goal ⟨(), ⟨rfl, rfl, rfl, rfl, rfl, rfl, congrArg Value.bool (decide_eq_false (fun hh => h51 hh.1)).symm, trivial⟩, rfl⟩
  subst hJ
  refine k_cut (σ := Bool × FS × List (ByteArray × Value) × Option Addr × Nat) (fun z => [(0, .pointer (some ⟨x, 0, none⟩)), (1, .string s), (7, .slice aO bs.length cO), (9, .slice z.2.2.2.1 z.2.1.length z.2.2.2.2), (10, .bool z.1), (11, .int .i64 (i : Int))]) (fun z w' => Sl w' 52 2 z.2.2.2.1 z.2.1.length z.2.2.2.2 (fcells z.2.2.1) ∧ RowsOk lo w'.heap.size w' z.2.2.1 z.2.1 ∧ (∀ q, z.2.2.2.1 = some q → w4.heap.size ≤ q.block) ∧ Keep [] w4 w' ∧ z.2.1.length ≤ i + 1 ∧ (z.1 = false → z.2.1 = gs.take i ∧ insF gs s bs = gs.take i ++ insF (gs.drop i) s bs ∧ ¬ bsL s < bsL p.1) ∧ (z.1 = true → insF gs s bs = z.2.1 ++ gs.drop i)) ?_ (fun z e w7 hJ => ?_)
  ·
    refine k_cond rfl (fun h => ?_) (fun h => ?_)
    ·
      refine k_seq ?_
      refine k_region ?_
      refine m_sl rfl rfl ?_
      refine m_str rfl rfl ?_
      refine m_sl rfl rfl ?_
      refine o_build (v := .agg #[.string s, .slice aO bs.length cO]) rfl (fun _ => by kernel_rfl) ?_
      refine o_bsl (E := 52) (cs := #[.string s, .slice aO bs.length cO]) rfl (fun _ => by kernel_rfl) (fun g7 w7 hB7 hK7 hb7 hZ7 => ?_)
      refine o_app Try.underlying41 inf52 rfl (by decide) rfl rfl (hS5.new hK7) hB7.rd rfl (one_f _ _ _ _) (by simp [maxLen]; omega) (by omega) (fun a8 c8 w8 hS8 hK8 hv8 => ?_)
      have h8 := pj_app (hS5.new hK7) ((hO5.keep hK7 (by simp)).mono hK7.size) hf5 (hK5.tr hK7) hS8 hK8 hv8 (hrow5.new hK7) (fun q hq => ⟨(hfO5 q hq).1, Nat.lt_of_lt_of_le (hfO5 q hq).2 hK7.size⟩) h65
      refine m_sl rfl rfl ?_
      refine o_nil ?_
      refine k_region ?_
      refine m_bool rfl rfl ?_
      refine o_nil ?_
      obtain ⟨ho1, ho2⟩ := hn5 h.1
      refine k_goal ⟨(true, out ++ [(s, bs)], m5 ++ [(s, .slice aO bs.length cO)], a8, c8), ⟨rfl, rfl, rfl, ?_, rfl, rfl, trivial⟩, h8.1, h8.2.1, h8.2.2.1, h8.2.2.2, ?_, fun hh => (by cases hh), fun _ => ?_⟩
      · show Value.slice a8 (out.length + 1) c8 = .slice a8 (out ++ [(s, bs)]).length c8
        rw [List.length_append]; rfl
      · show (out ++ [(s, bs)]).length ≤ i + 1
        rw [List.length_append, ho1, List.length_take]
        simp; omega
      · show insF gs s bs = (out ++ [(s, bs)]) ++ gs.drop i
        rw [ho2, insF_here gs s bs i p hp h.2, ho1, List.append_assoc]; rfl
    refine k_skip ?_
    refine k_goal ⟨(put, out, m5, a5, c5), ⟨rfl, rfl, rfl, rfl, rfl, rfl, trivial⟩, hS5, hO5, hf5, hK5, hl5, fun hh => ⟨(hn5 hh).1, (hn5 hh).2, fun hl => h ⟨hh, hl⟩⟩, hp5⟩
  obtain ⟨put7, out7, m7, a7, c7⟩ := z
  obtain ⟨hS7, hO7, hf7, hK7, hl7, hn7, hp7⟩ := hJ
  change kw _ _ _ _ (ovr [(0, .pointer (some ⟨x, 0, none⟩)), (1, .string s), (7, .slice aO bs.length cO), (9, .slice a7 out7.length c7), (10, .bool put7), (11, .int .i64 (i : Int))] e) w7
  simp only at hS7 hO7 hf7 hl7 hn7 hp7
  have hB7 := hP.blk.keep hK7 (by simp)
  have hL7 := hP.list.new hK7
  have hS17 := hS1.new hK7
  have hb17 : ∀ q, a1 = some q → lo ≤ q.block ∧ q.block < w7.heap.size := fun q hq => ⟨(hb1 q hq).1, Nat.lt_of_lt_of_le (hb1 q hq).2 hK7.size⟩
  refine k_region ?_
  refine m_sl rfl rfl ?_
  refine m_ptr rfl rfl ?_
  refine o_nilc rfl ?_
  refine o_fld0 rfl rfl ?_
  refine o_ld rfl rfl (hB7.at rfl) ?_
  refine m_int rfl rfl ?_
  refine o_ixs (sz := 2) Try.underlying41 rfl rfl rfl hil ?_
  refine o_lda (xs := [.string p.1, .slice a1 p.2.length c1]) rfl rfl rfl (fun j v hj => by
   rw [Nat.zero_add]
   match j, hj with
   | 0, hj => cases hj; have h9 := hL7.rd.cellK (Keep.refl _ _) hc1.1; rw [Nat.zero_add] at h9; exact h9
   | 1, hj => cases hj; have h9 := hL7.rd.cellK (Keep.refl _ _) hc1.2; rw [Nat.zero_add] at h9; exact h9
   | _ + 2, hj => cases hj) ?_
  refine o_bsl (E := 52) (cs := #[.string p.1, .slice a1 p.2.length c1]) rfl (fun _ => by kernel_rfl) (fun g8 w8 hB8 hK8 hb8 hZ8 => ?_)
  refine o_app Try.underlying41 inf52 rfl (by decide) rfl rfl (hS7.new hK8) hB8.rd rfl (one_f _ _ _ _) (by simp [maxLen]; omega) (by omega) (fun a9 c9 w9 hS9 hK9 hv9 => ?_)
  have h9 := pj_app (hS7.new hK8) ((hO7.keep hK8 (by simp)).mono hK8.size) hf7 (hK7.tr hK8) hS9 hK9 hv9 (hS17.new hK8) (fun q hq => ⟨(hb17 q hq).1, Nat.lt_of_lt_of_le (hb17 q hq).2 hK8.size⟩) h651
  refine m_sl rfl rfl ?_
  refine o_nil ?_
  refine k_blk ?_
  refine k_region ?_
  refine m_int rfl rfl ?_
  refine n_add rfl rfl (by omega) ?_
  refine m_int rfl rfl ?_
  refine o_nil ?_
  refine k_goal ⟨(i + 1, put7, out7 ++ [(p.1, p.2)], m7 ++ [(p.1, .slice a1 p.2.length c1)], a9, c9), ⟨rfl, rfl, rfl, ?_, rfl, rfl, trivial⟩, ⟨by omega, h9.1, h9.2.1, h9.2.2.1, h9.2.2.2, ?_, fun hh => ?_, fun hh => ?_⟩, by show gs.length - (i + 1) < gs.length - i; omega⟩
  · show Value.slice a9 (out7.length + 1) c9 = .slice a9 (out7 ++ [(p.1, p.2)]).length c9
    rw [List.length_append]; rfl
  · show (out7 ++ [(p.1, p.2)]).length ≤ i + 1 + 1
    rw [List.length_append]; simp; omega
  · obtain ⟨h1, h2, h3⟩ := hn7 hh
    refine ⟨?_, ?_⟩
    · show out7 ++ [p] = gs.take (i + 1)
      rw [take_at gs i p hp, h1]
    · show insF gs s bs = gs.take (i + 1) ++ insF (gs.drop (i + 1)) s bs
      rw [h2, insF_app gs s bs i p hp h3, take_at gs i p hp, List.append_assoc]; rfl
  · show insF gs s bs = (out7 ++ [p]) ++ gs.drop (i + 1)
    rw [hp7 hh, drop_at gs i p hp, List.append_assoc]; rfl
end Go.Proofs.Ytbfphjhahgpndaa
