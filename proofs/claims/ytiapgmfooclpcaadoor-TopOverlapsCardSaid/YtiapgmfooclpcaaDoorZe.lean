/- Texts of this proof laid together: Va, Vb, Vc, Vd, Ve, Vf, Vg. No condition beyond what each lemma names. -/
import Derived.Test.YtiapgmfooclpcaaDoorZb
import Derived.Test.YtiapgmfooclpcaaDoorZc
import Derived.Laws.CopyRow
import Derived.Laws.IdiomCopy
import Derived.Test.YtiapgmfooclpcaaDoorZd
/- Rules for strings and copy; the document's Name at a name of one byte. No condition beyond what each contract names. -/
namespace Go.Proofs.YtiapgmfooclpcaaDoor
open Go.RowKit E
set_option linter.unusedVariables false
set_option linter.unusedSimpArgs false
set_option maxRecDepth 100000
attribute [local irreducible] ow qw kw kq cw opW Ret
namespace E
section
variable {P : Program} {n : Nat} {e : Env} {w : World} {l0 l : List Oper} {K : Env → World → Prop} {d : Nat} {T : TypeId} {pos : String} {af : Array Edge} {x y : Operand} {TX TY : TypeId}
theorem b_addstr {a b : ByteArray} (hx : ev n e x = .string a) (hy : ev n e y = .string b) (hl : a.size + b.size ≤ 9223372036854775807) (h : ow P n l0 K l (upd e d (.string (a ++ b))) w) :
    ow P n l0 K (⟨some d, .binOp .add TX x y TY, T, pos, af, none⟩ :: l) e w := by
  refine o_run (v := .string (a ++ b)) (w' := w) ?_ h
  have h' : ¬ (9223372036854775807 : Int) < a.size + b.size := by omega
  simp [execOp, hx, hy, binOp, Op.stringOp, eqGuard, h']
theorem o_slstr {s : ByteArray} {lo hi : Nat} {k k' : IntKind} {u v : Operand} (hu : P.underlying TX = some .string) (hx : ev n e x = .string s) (hl : ev n e u = .int k (lo : Int)) (hh : ev n e v = .int k' (hi : Int)) (h1 : lo ≤ hi) (h2 : hi ≤ s.size)
    (h : ow P n l0 K l (upd e d (.string (s.extract lo hi))) w) : ow P n l0 K (⟨some d, .slice TX x (some u) (some v) none, T, pos, af, none⟩ :: l) e w := by
  refine o_run (v := .string (s.extract lo hi)) (w' := w) ?_ h
  simp [execOp, hx, hl, hh, Instr.sliceAt, Instr.slice, run_underlying hu, Instr.sliceBounds, Instr.sliceBound, asIntOf, h1, h2]
theorem o_copy {E : TypeId} {a0 b : Option Addr} {m c dl dc lo sc sl : Nat} {xs news : List Value} (hu : P.underlying TX = some (.slice E)) (hs : (P.info? E).map (·.size) = some 1)
    (hx : ev n e x = .slice (cutAt a0 lo c 1) dl dc) (hy : ev n e y = .slice b sl sc) (hsl : sl = news.length) (hdl : news.length ≤ dl) (hS : Sl w E 1 a0 m c xs) (hR : Rd w b news) (hlo : lo + news.length ≤ m) (h1 : ∀ v ∈ news, v.oneCell' = true)
    (h : ∀ w', Sl w' E 1 a0 m c (xs.take lo ++ news ++ xs.drop (lo + news.length)) → Keep (blkOf a0) w w' → ow P n l0 K l (upd e d (.int .i64 (news.length : Int))) w') :
    ow P n l0 K (⟨some d, .call ⟨.builtin .copy, #[x, y], #[TX, TY]⟩, T, pos, af, none⟩ :: l) e w := by
  subst hsl
  by_cases hz : news = []
  · subst hz
    have hr := run_copy_none (P := P) w TX TY T E (cutAt a0 lo c 1) b dl dc 0 sc hu hs (by simp)
    refine o_run (v := .int .i64 ((0 : Nat) : Int)) (w' := w) ?_ (h w (by simpa using hS) (Keep.refl _ _))
    have hy' : ev n e y = .slice b 0 sc := hy
    simp [execOp, resolve, invoke, builtin, hx, hy', hr, goInt]
  · have hpos : 0 < news.length := by cases news with | nil => exact absurd rfl hz | cons => simp
    obtain ⟨hlen, hS2⟩ := hS
    rcases hS2 with ⟨_, rfl, _⟩ | ⟨g, cur, rfl, hB, hmc, hcm, hcs, hcx⟩
    · omega
    obtain ⟨b', o', rfl, _⟩ := hR 0 _ (List.getElem?_eq_getElem hpos)
    have hcut : cutAt (some ⟨g, 0, none⟩) lo c 1 = some ⟨g, lo, none⟩ := by
      unfold cutAt
      rw [if_neg (by omega)]
      simp [Addr.add]
      omega
    have hr := run_copy_row (P := P) w TX TY T E g lo dl dc ⟨b', o', none⟩ news.length sc cur E news hu hs hB (Nat.min_eq_left hdl).symm (fun j v hv => by
      obtain ⟨b2, o2, he2, hc2⟩ := hR j v hv
      cases he2
      have hadd : (⟨b', o', none⟩ : Addr).add j = ⟨b', o' + j, none⟩ := by unfold Addr.add; split <;> simp_all
      rw [hadd]; exact hc2) (by omega) h1
    refine o_run (v := .int .i64 (news.length : Int)) (w' := _) (by rw [hcut] at hx; simp [execOp, resolve, invoke, builtin, hx, hy, hr, goInt]; rfl) (h _ ⟨?_, .inr ⟨g, _, rfl, setRow_heap w g cur _ E _ hB, hmc, hcm, ?_, ?_⟩⟩ ⟨rfl, rfl, rfl, by simp [World.setRow], fun k _ hk => setRow_other w g k _ (by simpa [blkOf] using hk)⟩)
    · simp [hlen]; omega
    · simp; omega
    · subst hcx
      have hcl : cur.toList.length = c := by simp; omega
      simp only [Nat.mul_one, List.toList_toArray]
      refine List.ext_getElem? fun i => ?_
      simp only [List.getElem?_take, List.getElem?_append, List.getElem?_drop, List.length_append, List.length_take, hcl]
      repeat' split
      all_goals first | rfl | omega | (congr 1; omega) | skip
end
end E
theorem bs1_cut (x : BitVec 8) : emp ++ (bsStr [x]).extract 0 1 = bsStr [x] := rfl
theorem bs1_ne (x y : BitVec 8) (h : x ≠ y) : bsStr [x] ≠ bsStr [y] := fun hh => h (by have := bsStr_inj hh; simpa using this)
theorem rname_ok (w : World) (x : BitVec 8) (h46 : x ≠ 46#8) (h47 : x ≠ 47#8) (h0 : x ≠ 0#8) (h92 : x ≠ 92#8) : Ret Tryd.prog 66 [.string (bsStr [x])] w (fun v w' => v = .bool true ∧ w' = w) := by
  have hsz : (bsStr [x]).size = 1 := bsStr_size [x]
  have hx0 : ∀ (h : 0 < (bsStr [x]).size), ((bsStr [x])[0]).toBitVec = x := fun _ => rfl
  refine fn_enter (n := 69) Tryd.func66 rfl rfl (Nat.le_of_ble_eq_true rfl) (fun e => ?_)
  refine k_seq ?_
  refine k_region ?_
  refine m_bool rfl rfl ?_
  refine o_nil ?_
  refine k_seq ?_
  refine k_seq ?_
  refine k_region ?_
  refine m_str rfl rfl ?_
  refine o_lenstr Tryd.underlying9 rfl ?_
  refine b_lss rfl rfl ?_
  refine m_bool rfl rfl ?_
  refine o_false (t := 8) rfl (by omega) ?_
  refine g_yes rfl rfl ?_
  refine m_str rfl rfl ?_
  refine g_yes rfl rfl ?_
  refine o_lenstr Tryd.underlying9 rfl ?_
  refine g_yes rfl rfl ?_
  refine b_gtr rfl rfl ?_
  refine pick_f rfl rfl ?_
  refine o_nil ?_
  refine k_no rfl (by omega) ?_
  refine k_skip ?_
  refine k_seq ?_
  refine k_region ?_
  refine m_str rfl rfl ?_
  refine o_nil ?_
  refine k_seq ?_
  refine k_seq ?_
  refine k_region ?_
  refine m_int rfl rfl ?_
  refine o_nil ?_
  refine k_block ?_
  refine k_loop (σ := Nat × ByteArray) (fun s => [(0, .string (bsStr [x])), (3, .string s.2), (4, .int .i64 (s.1 : Int))]) (fun s w' => w' = w ∧ ((s.1 = 0 ∧ s.2 = emp) ∨ (s.1 = 1 ∧ s.2 = bsStr [x]) ∨ (s.1 = 2 ∧ s.2 = emp))) (fun s => 2 - s.1) (0, emp) ⟨rfl, rfl, rfl, trivial⟩ ⟨rfl, .inl ⟨rfl, rfl⟩⟩ (fun s e w1 hJ => ?_)
  obtain ⟨i, part⟩ := s
  obtain ⟨rfl, hJ⟩ := hJ
  simp only at hJ ⊢
  refine k_seq ?_
  refine k_seq ?_
  refine k_region ?_
  refine m_int rfl rfl ?_
  refine m_str rfl rfl ?_
  refine o_lenstr Tryd.underlying9 rfl ?_
  refine b_leq rfl rfl ?_
  refine o_nil ?_
  refine k_cond rfl (fun h => ?_) (fun h => ?_)
  rotate_left
  ·
    refine k_exit rfl ?_
    refine k_seq ?_
    refine k_region ?_
    refine m_str rfl rfl ?_
    refine o_ixstr (m := 0) Tryd.underlying9 rfl rfl (by omega) ?_
    refine v8_neq (b := 47#8) rfl rfl ?_
    refine m_bool rfl rfl ?_
    refine o_nil ?_
    refine k_ret (ret_tmps (ts := [2]) (v := .bool _) rfl rfl ?_)
    exact ⟨congrArg Value.bool (decide_eq_true h47), rfl⟩
  refine k_skip ?_
  refine k_seq ?_
  refine k_block ?_
  refine k_seq ?_
  refine k_seq ?_
  refine k_region ?_
  refine m_int rfl rfl ?_
  refine m_str rfl rfl ?_
  refine o_lenstr Tryd.underlying9 rfl ?_
  refine b_lss rfl rfl ?_
  refine m_bool rfl rfl ?_
  refine o_split (t := 23) rfl (fun h => ?_) (fun h => ?_)
  ·
    obtain ⟨rfl, rfl⟩ : i = 0 ∧ part = emp := by
      rcases hJ with h1 | ⟨h1, _⟩ | ⟨h1, _⟩
      · exact h1
      · omega
      · omega
    refine g_yes rfl rfl ?_
    refine m_str rfl rfl ?_
    refine g_yes rfl rfl ?_
    refine m_int rfl rfl ?_
    refine g_yes rfl rfl ?_
    refine o_ixstr (m := 0) Tryd.underlying9 rfl rfl (by omega) ?_
    refine g_yes rfl rfl ?_
    refine v8_neq (b := 47#8) rfl rfl ?_
    refine pick_t rfl rfl ?_
    refine o_nil ?_
    refine k_yes rfl (h47) ?_
    refine k_seq ?_
    refine k_seq ?_
    refine k_region ?_
    refine m_str rfl rfl ?_
    refine m_int rfl rfl ?_
    refine o_ixstr (m := 0) Tryd.underlying9 rfl rfl (by omega) ?_
    refine v8_eql (b := 0#8) rfl rfl ?_
    refine m_bool rfl rfl ?_
    refine o_false (t := 33) rfl (h0) ?_
    refine g_yes rfl rfl ?_
    refine m_str rfl rfl ?_
    refine g_yes rfl rfl ?_
    refine m_int rfl rfl ?_
    refine g_yes rfl rfl ?_
    refine o_ixstr (m := 0) Tryd.underlying9 rfl rfl (by omega) ?_
    refine g_yes rfl rfl ?_
    refine v8_eql (b := 92#8) rfl rfl ?_
    refine pick_f rfl rfl ?_
    refine o_nil ?_
    refine k_no rfl (h92) ?_
    refine k_skip ?_
    refine k_seq ?_
    refine k_region ?_
    refine m_str rfl rfl ?_
    refine m_str rfl rfl ?_
    refine m_int rfl rfl ?_
    refine m_int rfl rfl ?_
    refine n_add rfl rfl (by omega) ?_
    refine o_slstr (lo := 0) (hi := 1) Tryd.underlying9 rfl rfl rfl (by decide) (by omega) ?_
    refine b_addstr (a := emp) (b := (bsStr [x]).extract 0 1) rfl rfl (by show 0 + 1 ≤ _; decide) ?_
    rw [bs1_cut]
    refine m_str rfl rfl ?_
    refine o_nil ?_
    refine k_exit rfl ?_
    refine k_region ?_
    refine m_int rfl rfl ?_
    refine n_add rfl rfl (by omega) ?_
    refine m_int rfl rfl ?_
    refine o_nil ?_
    refine k_goal ⟨(1, bsStr [x]), ⟨rfl, rfl, rfl, trivial⟩, ⟨rfl, .inr (.inl ⟨rfl, rfl⟩)⟩, show 1 < 2 by decide⟩
  ·
    obtain ⟨rfl, rfl⟩ : i = 1 ∧ part = bsStr [x] := by
      rcases hJ with ⟨h1, _⟩ | h1 | ⟨h1, _⟩
      · omega
      · exact h1
      · omega
    refine g_no rfl rfl rfl ?_
    refine g_no rfl rfl rfl ?_
    refine g_no rfl rfl rfl ?_
    refine g_no rfl rfl rfl ?_
    refine pick_f rfl rfl ?_
    refine o_nil ?_
    refine k_condf rfl ?_
    refine k_skip ?_
    refine k_seq ?_
    refine k_seq ?_
    refine k_region ?_
    refine m_str rfl rfl ?_
    refine b_eqlstr Tryd.underlying9 rfl rfl ?_
    refine m_bool rfl rfl ?_
    refine o_false (t := 48) rfl (bs1_ne x 46#8 h46) ?_
    refine g_yes rfl rfl ?_
    refine m_str rfl rfl ?_
    refine g_yes rfl rfl ?_
    refine b_eqlstr Tryd.underlying9 rfl rfl ?_
    refine pick_f rfl rfl ?_
    refine m_bool rfl rfl ?_
    refine o_false (t := 52) rfl (fun hh => absurd (congrArg ByteArray.size hh) (by rw [hsz]; decide)) ?_
    refine g_yes rfl rfl ?_
    refine m_str rfl rfl ?_
    refine g_yes rfl rfl ?_
    refine b_eqlstr Tryd.underlying9 rfl rfl ?_
    refine g_yes rfl rfl ?_
    refine m_bool rfl rfl ?_
    refine o_false (t := 55) rfl (fun hh => absurd (congrArg ByteArray.size hh) (by rw [hsz]; decide)) ?_
    refine g_no rfl rfl rfl ?_
    refine g_no rfl rfl rfl ?_
    refine g_no rfl rfl rfl ?_
    refine g_no rfl rfl rfl ?_
    refine g_no rfl rfl rfl ?_
    refine g_un rfl rfl ?_
    refine g_un rfl rfl ?_
    refine g_no rfl rfl rfl ?_
    refine g_yes rfl rfl ?_
    refine pick_f rfl rfl ?_
    refine pick_f rfl rfl ?_
    refine o_nil ?_
    refine k_condf rfl ?_
    refine k_skip ?_
    refine k_region ?_
    refine m_str rfl rfl ?_
    refine o_nil ?_
    refine k_blk ?_
    refine k_region ?_
    refine m_int rfl rfl ?_
    refine n_add rfl rfl (by omega) ?_
    refine m_int rfl rfl ?_
    refine o_nil ?_
    refine k_goal ⟨(2, emp), ⟨rfl, rfl, rfl, trivial⟩, ⟨rfl, .inr (.inr ⟨rfl, rfl⟩)⟩, by decide⟩
end Go.Proofs.YtiapgmfooclpcaaDoor

/- The document's two and four. No condition beyond what each contract names. -/
namespace Go.Proofs.YtiapgmfooclpcaaDoor
open Go.RowKit E
set_option linter.unusedVariables false
set_option linter.unusedSimpArgs false
set_option maxRecDepth 100000
attribute [local irreducible] ow qw kw kq cw opW Ret
/-- what a call has made of a slice: these bytes, where it lay or new -/
def APv (w0 : World) (a : Option Addr) (w : World) (v : Value) (xs : Bs) : Prop := ∃ a2 c2, v = .slice a2 xs.length c2 ∧ Sl w 5 1 a2 xs.length c2 (xs.map u8v) ∧ Fresh w0.heap.size a a2
theorem two_ok (w : World) (a : Option Addr) (c g : Nat) (bs : Bs) (vs : List Nat) (hS : Sl w 5 1 a bs.length c (bs.map u8v)) (hB : Blk w g (vs.map nv).toArray 3) (hvs : vs.length ≤ 1000) (hv : ∀ v ∈ vs, v < 9223372036854775808) (hbs : bs.length ≤ 1000000000) :
    Ret Tryd.prog 45 [.slice a bs.length c, .slice (some ⟨g, 0, none⟩) vs.length vs.length] w (fun v w' => APv w a w' v (bs ++ putsN 2 vs) ∧ Keep (blkOf a) w w') := by
  have hgn : g ∉ blkOf a := hS.notin hB (by decide)
  refine fn_enter (n := 20) Tryd.func45 rfl rfl (Nat.le_of_ble_eq_true rfl) (fun e => ?_)
  refine k_seq ?_
  refine k_region ?_
  refine m_sl rfl rfl ?_
  refine o_nil ?_
  refine k_seq ?_
  refine k_seq ?_
  refine k_region ?_
  refine m_int rfl rfl ?_
  refine o_nil ?_
  refine k_block ?_
  refine k_loop (σ := Nat × Option Addr × Nat) (fun s => [(0, .slice s.2.1 (bs ++ putsN 2 (vs.take s.1)).length s.2.2), (1, .slice (some ⟨g, 0, none⟩) vs.length vs.length), (5, .int .i64 (s.1 : Int))]) (fun s w' => s.1 ≤ vs.length ∧ Sl w' 5 1 s.2.1 (bs ++ putsN 2 (vs.take s.1)).length s.2.2 ((bs ++ putsN 2 (vs.take s.1)).map u8v) ∧ Keep (blkOf a) w w' ∧ Fresh w.heap.size a s.2.1) (fun s => vs.length - s.1) (0, a, c) ⟨congrArg (fun m => Value.slice a m c) (show bs.length = (bs ++ putsN 2 (vs.take 0)).length by simp [putsN]), rfl, rfl, trivial⟩ ⟨Nat.zero_le _, by simpa [putsN] using hS, Keep.refl _ _, Fresh.refl _ _⟩ (fun s e w1 hJ => ?_)
  obtain ⟨i, a1, c1⟩ := s
  obtain ⟨hi, hS1, hK1, hf1⟩ := hJ
  simp only at hi hS1 hf1 ⊢
  have hl1 : (bs ++ putsN 2 (vs.take i)).length ≤ 1000010000 := by rw [List.length_append, putsN_len, List.length_take]; omega
  refine k_seq ?_
  refine k_seq ?_
  refine k_region ?_
  refine m_int rfl rfl ?_
  refine m_sl rfl rfl ?_
  refine o_lens Tryd.underlying74 rfl ?_
  refine b_lss rfl rfl ?_
  refine o_nil ?_
  refine k_cond rfl (fun h => ?_) (fun h => ?_)
  rotate_left
  ·
    obtain rfl : i = vs.length := by omega
    rw [List.take_length] at *
    refine k_exit rfl ?_
    refine k_seq ?_
    refine k_region ?_
    refine m_sl rfl rfl ?_
    refine m_sl rfl rfl ?_
    refine o_nil ?_
    refine k_ret (ret_tmps (ts := [4]) (v := .slice _ _ _) rfl rfl ?_)
    exact ⟨⟨a1, c1, rfl, hS1, hf1⟩, hK1⟩
  have hil : i < vs.length := by omega
  refine k_skip ?_
  refine k_seq ?_
  refine k_block ?_
  refine k_region ?_
  refine m_sl rfl rfl ?_
  refine m_sl rfl rfl ?_
  refine m_int rfl rfl ?_
  refine o_ixs1 (m := i) Tryd.underlying74 rfl rfl rfl hil ?_
  refine o_ld (v := nv vs[i]) rfl rfl ((hB.keep hK1 hgn).at (by simp [hil])) ?_
  refine o_call rfl rfl (rputl_ok w1 2 vs[i] (by decide) (by decide) (hv _ (List.getElem_mem hil))) (fun v w2 hv2 => ?_)
  obtain ⟨a3, c3, rfl, hS3, hf3, hK2⟩ := hv2
  refine o_app Tryd.underlying25 inf5 rfl (by decide) rfl rfl (hS1.new hK2) hS3.rd (by rw [List.length_map, leB_len]) (u8_one _) (by simp only [maxLen]; omega) (by omega) (fun a4 c4 w4 hS4 hK4 hv4 => ?_)
  refine m_sl rfl rfl ?_
  refine o_nil ?_
  refine k_blk ?_
  refine k_region ?_
  refine m_int rfl rfl ?_
  refine n_add rfl rfl (by omega) ?_
  refine m_int rfl rfl ?_
  refine o_nil ?_
  have hL : bs ++ putsN 2 (vs.take (i + 1)) = bs ++ putsN 2 (vs.take i) ++ leB 2 (vs[i] : Int) := by
   rw [List.take_succ_eq_append_getElem hil, putsN, List.flatMap_append, ← putsN, List.flatMap_cons, List.flatMap_nil, List.append_nil, List.append_assoc]
  have hl2 : (bs ++ putsN 2 (vs.take (i + 1))).length = (bs ++ putsN 2 (vs.take i)).length + 2 := by rw [hL, List.length_append, leB_len]
  refine k_goal ⟨(i + 1, a4, c4), ⟨congrArg (fun m => Value.slice a4 m c4) hl2.symm, rfl, rfl, trivial⟩, ⟨hil, ?_, ?_, ?_⟩, by simp only; omega⟩
  · simp only
    rw [hl2, hL, List.map_append]
    exact hS4
  · exact (hK1.trans hK2 (by simp)).trans hK4 (fun b hb hl => hf1.in hb hl)
  · exact hf1.tr (fresh_of hv4 (Nat.le_refl _)) (by have := hK1.size; have := hK2.size; omega)
theorem four_ok (w : World) (a : Option Addr) (c g : Nat) (bs : Bs) (vs : List Nat) (hS : Sl w 5 1 a bs.length c (bs.map u8v)) (hB : Blk w g (vs.map nv).toArray 3) (hvs : vs.length ≤ 1000) (hv : ∀ v ∈ vs, v < 9223372036854775808) (hbs : bs.length ≤ 1000000000) :
    Ret Tryd.prog 46 [.slice a bs.length c, .slice (some ⟨g, 0, none⟩) vs.length vs.length] w (fun v w' => APv w a w' v (bs ++ putsN 4 vs) ∧ Keep (blkOf a) w w') := by
  have hgn : g ∉ blkOf a := hS.notin hB (by decide)
  refine fn_enter (n := 20) Tryd.func46 rfl rfl (Nat.le_of_ble_eq_true rfl) (fun e => ?_)
  refine k_seq ?_
  refine k_region ?_
  refine m_sl rfl rfl ?_
  refine o_nil ?_
  refine k_seq ?_
  refine k_seq ?_
  refine k_region ?_
  refine m_int rfl rfl ?_
  refine o_nil ?_
  refine k_block ?_
  refine k_loop (σ := Nat × Option Addr × Nat) (fun s => [(0, .slice s.2.1 (bs ++ putsN 4 (vs.take s.1)).length s.2.2), (1, .slice (some ⟨g, 0, none⟩) vs.length vs.length), (5, .int .i64 (s.1 : Int))]) (fun s w' => s.1 ≤ vs.length ∧ Sl w' 5 1 s.2.1 (bs ++ putsN 4 (vs.take s.1)).length s.2.2 ((bs ++ putsN 4 (vs.take s.1)).map u8v) ∧ Keep (blkOf a) w w' ∧ Fresh w.heap.size a s.2.1) (fun s => vs.length - s.1) (0, a, c) ⟨congrArg (fun m => Value.slice a m c) (show bs.length = (bs ++ putsN 4 (vs.take 0)).length by simp [putsN]), rfl, rfl, trivial⟩ ⟨Nat.zero_le _, by simpa [putsN] using hS, Keep.refl _ _, Fresh.refl _ _⟩ (fun s e w1 hJ => ?_)
  obtain ⟨i, a1, c1⟩ := s
  obtain ⟨hi, hS1, hK1, hf1⟩ := hJ
  simp only at hi hS1 hf1 ⊢
  have hl1 : (bs ++ putsN 4 (vs.take i)).length ≤ 1000010000 := by rw [List.length_append, putsN_len, List.length_take]; omega
  refine k_seq ?_
  refine k_seq ?_
  refine k_region ?_
  refine m_int rfl rfl ?_
  refine m_sl rfl rfl ?_
  refine o_lens Tryd.underlying74 rfl ?_
  refine b_lss rfl rfl ?_
  refine o_nil ?_
  refine k_cond rfl (fun h => ?_) (fun h => ?_)
  rotate_left
  ·
    obtain rfl : i = vs.length := by omega
    rw [List.take_length] at *
    refine k_exit rfl ?_
    refine k_seq ?_
    refine k_region ?_
    refine m_sl rfl rfl ?_
    refine m_sl rfl rfl ?_
    refine o_nil ?_
    refine k_ret (ret_tmps (ts := [4]) (v := .slice _ _ _) rfl rfl ?_)
    exact ⟨⟨a1, c1, rfl, hS1, hf1⟩, hK1⟩
  have hil : i < vs.length := by omega
  refine k_skip ?_
  refine k_seq ?_
  refine k_block ?_
  refine k_region ?_
  refine m_sl rfl rfl ?_
  refine m_sl rfl rfl ?_
  refine m_int rfl rfl ?_
  refine o_ixs1 (m := i) Tryd.underlying74 rfl rfl rfl hil ?_
  refine o_ld (v := nv vs[i]) rfl rfl ((hB.keep hK1 hgn).at (by simp [hil])) ?_
  refine o_call rfl rfl (rputl_ok w1 4 vs[i] (by decide) (by decide) (hv _ (List.getElem_mem hil))) (fun v w2 hv2 => ?_)
  obtain ⟨a3, c3, rfl, hS3, hf3, hK2⟩ := hv2
  refine o_app Tryd.underlying25 inf5 rfl (by decide) rfl rfl (hS1.new hK2) hS3.rd (by rw [List.length_map, leB_len]) (u8_one _) (by simp only [maxLen]; omega) (by omega) (fun a4 c4 w4 hS4 hK4 hv4 => ?_)
  refine m_sl rfl rfl ?_
  refine o_nil ?_
  refine k_blk ?_
  refine k_region ?_
  refine m_int rfl rfl ?_
  refine n_add rfl rfl (by omega) ?_
  refine m_int rfl rfl ?_
  refine o_nil ?_
  have hL : bs ++ putsN 4 (vs.take (i + 1)) = bs ++ putsN 4 (vs.take i) ++ leB 4 (vs[i] : Int) := by
   rw [List.take_succ_eq_append_getElem hil, putsN, List.flatMap_append, ← putsN, List.flatMap_cons, List.flatMap_nil, List.append_nil, List.append_assoc]
  have hl2 : (bs ++ putsN 4 (vs.take (i + 1))).length = (bs ++ putsN 4 (vs.take i)).length + 4 := by rw [hL, List.length_append, leB_len]
  refine k_goal ⟨(i + 1, a4, c4), ⟨congrArg (fun m => Value.slice a4 m c4) hl2.symm, rfl, rfl, trivial⟩, ⟨hil, ?_, ?_, ?_⟩, by simp only; omega⟩
  · simp only
    rw [hl2, hL, List.map_append]
    exact hS4
  · exact (hK1.trans hK2 (by simp)).trans hK4 (fun b hb hl => hf1.in hb hl)
  · exact hf1.tr (fresh_of hv4 (Nat.le_refl _)) (by have := hK1.size; have := hK2.size; omega)
end Go.Proofs.YtiapgmfooclpcaaDoor

/- Byte slices side by side; the document's Check. No condition beyond what each contract names. -/
namespace Go.Proofs.YtiapgmfooclpcaaDoor
open Go.RowKit E
set_option linter.unusedVariables false
set_option linter.unusedSimpArgs false
set_option maxRecDepth 100000
attribute [local irreducible] ow qw kw kq cw opW Ret
/-- bytes whose block is not below k -/
structure SlX (k : Nat) (w : World) (a : Option Addr) (c : Nat) (bs : Bs) : Prop where
  sl : Sl w 5 1 a bs.length c (bs.map u8v)
  ge : ∀ q, a = some q → k ≤ q.block
def SepA (a a' : Option Addr) : Prop := ∀ p q, a = some p → a' = some q → p.block ≠ q.block
theorem SepA.symm {a a' : Option Addr} (h : SepA a a') : SepA a' a := fun p q hp hq => (h q p hq hp).symm
theorem SepA.nil (a : Option Addr) : SepA a none := fun _ _ _ h => by cases h
theorem SepA.offB {a a' : Option Addr} (h : SepA a a') : Off (blkOf a) a' := fun q hq hm => by
  cases a with
  | none => simp [blkOf] at hm
  | some p => simp [blkOf] at hm; exact h p q rfl hq hm.symm
theorem SlX.nil (k : Nat) (w : World) : SlX k w none 0 [] := ⟨Sl.nil _ _ _, by simp⟩
theorem SlX.new {k : Nat} {w w' : World} {a : Option Addr} {c : Nat} {bs : Bs} (h : SlX k w a c bs) (hk : Keep [] w w') : SlX k w' a c bs := ⟨h.sl.new hk, h.ge⟩
theorem SlX.other {k : Nat} {w w' : World} {a a' : Option Addr} {c : Nat} {bs : Bs} (h : SlX k w a' c bs) (hs : SepA a a') (hk : Keep (blkOf a) w w') : SlX k w' a' c bs := ⟨h.sl.keep hk hs.offB, h.ge⟩
theorem SepA.fresh {w : World} {k : Nat} {a a2 a' : Option Addr} {c' : Nat} {bs' : Bs} (hs : SepA a a') (hf : Fresh w.heap.size a a2) (h' : SlX k w a' c' bs') : SepA a2 a' := fun p q hp hq => by
  rcases hf p hp with h1 | h1
  · cases a with
    | none => simp [blkOf] at h1
    | some z => simp [blkOf] at h1; rw [h1]; exact hs z q rfl hq
  · have := h'.sl.lt q hq
    omega
theorem fresh_ge {w : World} {k : Nat} {a a2 : Option Addr} (hf : Fresh w.heap.size a a2) (hg : ∀ q, a = some q → k ≤ q.block) (hk : k ≤ w.heap.size) : ∀ q, a2 = some q → k ≤ q.block := fun q hq => by
  rcases hf q hq with h1 | h1
  · cases a with
    | none => simp [blkOf] at h1
    | some z => simp [blkOf] at h1; rw [h1]; exact hg z rfl
  · omega
theorem SlX.keep0 {w0 w w' : World} {a : Option Addr} {c : Nat} {bs : Bs} (h : SlX w0.heap.size w a c bs) (h0 : Keep [] w0 w) (hk : Keep (blkOf a) w w') : Keep [] w0 w' := Keep.trb h0 hk h.ge
/-- what a call has made of a slice -/
theorem APv.x {k : Nat} {w w' : World} {a : Option Addr} {v : Value} {xs : Bs} (h : APv w a w' v xs) (hg : ∀ q, a = some q → k ≤ q.block) (hk : k ≤ w.heap.size) : ∃ a2 c2, v = .slice a2 xs.length c2 ∧ SlX k w' a2 c2 xs ∧ Fresh w.heap.size a a2 := by
  obtain ⟨a2, c2, h1, h2, h3⟩ := h
  exact ⟨a2, c2, h1, ⟨h2, fresh_ge h3 hg hk⟩, h3⟩
namespace E
section
variable {n : Nat} {e : Env} {w : World} {l0 l : List Oper} {K : Env → World → Prop} {d : Nat} {T : TypeId} {pos : String} {af : Array Edge} {x y : Operand}
theorem o_app8 {k m' : Nat} {a a' : Option Addr} {c c' : Nat} {bs ys : Bs} (hx : ev n e x = .slice a bs.length c) (hy : ev n e y = .slice a' m' c') (hX : SlX k w a c bs) (hk : k ≤ w.heap.size) (hr : Rd w a' (ys.map u8v)) (hm : m' = ys.length) (hb : bs.length + ys.length ≤ 2000000000)
    (h : ∀ a2 c2 w', SlX k w' a2 c2 (bs ++ ys) → Keep (blkOf a) w w' → Fresh w.heap.size a a2 → ow Tryd.prog n l0 K l (upd e d (.slice a2 (bs ++ ys).length c2)) w') :
    ow Tryd.prog n l0 K (⟨some d, .call ⟨.builtin .append, #[x, y], #[25, 25]⟩, T, pos, af, none⟩ :: l) e w := by
  subst hm
  refine o_app Tryd.underlying25 inf5 rfl (by decide) hx hy hX.sl hr (by simp) (u8_one _) (by simp only [maxLen]; omega) (by omega) (fun a2 c2 w' hS hK hv => ?_)
  have hf := fresh_of hv (Nat.le_refl _)
  rw [show bs.length + ys.length = (bs ++ ys).length from (List.length_append).symm] at hS ⊢
  exact h a2 c2 w' ⟨by rw [List.map_append]; exact hS, fresh_ge hf hX.ge hk⟩ hK hf
theorem o_apps8 {k : Nat} {a : Option Addr} {c : Nat} {bs ys : Bs} (hx : ev n e x = .slice a bs.length c) (hy : ev n e y = .string (bsStr ys)) (hX : SlX k w a c bs) (hk : k ≤ w.heap.size) (hb : bs.length + ys.length ≤ 2000000000)
    (h : ∀ a2 c2 w', SlX k w' a2 c2 (bs ++ ys) → Keep (blkOf a) w w' → Fresh w.heap.size a a2 → ow Tryd.prog n l0 K l (upd e d (.slice a2 (bs ++ ys).length c2)) w') :
    ow Tryd.prog n l0 K (⟨some d, .call ⟨.builtin .append, #[x, y], #[25, 9]⟩, T, pos, af, none⟩ :: l) e w := by
  refine o_apps Tryd.underlying25 Tryd.underlying9 inf5 hx hy hX.sl (by rw [bsStr_size]; omega) (fun a2 c2 w' hS hK hv => ?_)
  have hf := fresh_of hv (Nat.le_refl _)
  rw [bsStr_size] at hS ⊢
  rw [strCells_bs] at hS
  rw [show bs.length + ys.length = (bs ++ ys).length from (List.length_append).symm] at hS ⊢
  exact h a2 c2 w' ⟨by rw [List.map_append]; exact hS, fresh_ge hf hX.ge hk⟩ hK hf
end
end E
theorem nodup_ne : ∀ {l : List It} {k i : Nat} (hi : i < l.length) (hk : k < i), (l.map (·.name)).Nodup → l[k].name ≠ l[i].name
  | [], _, _, hi, _, _ => by simp at hi
  | x :: l, k, i + 1, hi, hk, h => by
    rw [List.map_cons, List.nodup_cons] at h
    have hi' : i < l.length := by simpa using hi
    match k, hk with
    | 0, _ => exact fun hh => h.1 (List.mem_map.2 ⟨l[i], List.getElem_mem hi', hh.symm⟩)
    | k + 1, hk => exact nodup_ne hi' (by omega) h.2
theorem rcheck_ok (w : World) (a : Option Addr) (c : Nat) (l : List It) (hRd : Rd w a (l.flatMap itC)) (hnm : ∀ x ∈ l, ∀ w1, Ret Tryd.prog 66 [.string (bsStr x.name)] w1 (fun v w' => v = .bool true ∧ w' = w1)) (hnd : (l.map (·.name)).Nodup) (hd : ∀ x ∈ l, x.data.length ≤ 32768) (hl : l.length ≤ 64) :
    Ret Tryd.prog 44 [.slice a l.length c] w (fun v w' => v = nv 0 ∧ Keep [] w w') := by
  refine fn_enter (n := 44) Tryd.func44 rfl rfl (Nat.le_of_ble_eq_true rfl) (fun e => ?_)
  refine k_seq ?_
  refine k_region ?_
  refine m_int rfl rfl ?_
  refine o_nil ?_
  refine k_seq ?_
  refine k_seq ?_
  refine k_region ?_
  refine m_sl rfl rfl ?_
  refine o_lens Tryd.underlying22 rfl ?_
  refine b_gtr rfl rfl ?_
  refine o_nil ?_
  refine k_no rfl (by omega) ?_
  refine k_skip ?_
  refine k_seq ?_
  refine k_seq ?_
  refine k_region ?_
  refine m_int rfl rfl ?_
  refine o_nil ?_
  refine k_block ?_
  refine k_loop (σ := Nat) (fun i => [(0, .slice a l.length c), (3, .int .i64 (i : Int))]) (fun i w' => i ≤ l.length ∧ Keep [] w w') (fun i => l.length - i) 0 ⟨rfl, rfl, trivial⟩ ⟨by omega, Keep.refl _ _⟩ (fun i e w1 hJ => ?_)
  obtain ⟨hi, hk1⟩ := hJ
  refine k_seq ?_
  refine k_seq ?_
  refine k_region ?_
  refine m_int rfl rfl ?_
  refine m_sl rfl rfl ?_
  refine o_lens Tryd.underlying22 rfl ?_
  refine b_lss rfl rfl ?_
  refine o_nil ?_
  refine k_cond rfl (fun h => ?_) (fun h => ?_)
  rotate_left
  ·
    refine k_exit rfl ?_
    refine k_seq ?_
    refine k_region ?_
    refine m_int rfl rfl ?_
    refine o_nil ?_
    refine k_ret (ret_tmps (ts := [2]) (v := .int _ _) rfl rfl ?_)
    exact ⟨rfl, hk1⟩
  have hil : i < l.length := by omega
  obtain ⟨b0, o0, rfl, _⟩ := hRd.at (i * 3) (by rw [flat3_len]; omega)
  obtain ⟨x, hx⟩ : ∃ x, l[i] = x := ⟨_, rfl⟩
  have hxm : x ∈ l := hx ▸ List.getElem_mem hil
  have hdx := hd x hxm
  refine k_skip ?_
  refine k_seq ?_
  refine k_block ?_
  refine k_seq ?_
  refine k_seq ?_
  refine k_region ?_
  refine m_sl rfl rfl ?_
  refine m_int rfl rfl ?_
  refine o_ixs (sz := 3) (m := i) Tryd.underlying22 rfl rfl rfl hil ?_
  refine o_fld0 rfl rfl ?_
  refine o_ld (v := .string (bsStr x.name)) rfl rfl (by rw [← hx]; exact item_cells hRd hk1 i hil 0 _ rfl) ?_
  refine o_call rfl rfl (hnm x hxm w1) (fun v w2 hv => ?_)
  obtain ⟨rfl, rfl⟩ := hv
  refine u_notb rfl ?_
  refine o_nil ?_
  refine k_condf rfl ?_
  refine k_skip ?_
  refine k_seq ?_
  refine k_seq ?_
  refine k_region ?_
  refine m_int rfl rfl ?_
  refine o_nil ?_
  refine k_block ?_
  refine k_loop (σ := Nat) (fun k => [(0, .slice (some ⟨b0, o0, none⟩) l.length c), (3, .int .i64 (i : Int)), (4, .int .i64 (k : Int))]) (fun k w' => k ≤ i ∧ Keep [] w w') (fun k => i - k) 0 ⟨rfl, rfl, rfl, trivial⟩ ⟨by omega, hk1⟩ (fun k e w3 hJ => ?_)
  obtain ⟨hki, hk3⟩ := hJ
  refine k_seq ?_
  refine k_seq ?_
  refine k_region ?_
  refine m_int rfl rfl ?_
  refine m_int rfl rfl ?_
  refine b_lss rfl rfl ?_
  refine o_nil ?_
  refine k_cond rfl (fun h => ?_) (fun h => ?_)
  rotate_left
  ·
    refine k_exit rfl ?_
    refine k_seq ?_
    refine k_region ?_
    refine m_sl rfl rfl ?_
    refine m_int rfl rfl ?_
    refine o_ixs (sz := 3) (m := i) Tryd.underlying22 rfl rfl rfl hil ?_
    refine o_fld (off := 1) rfl rfl ?_
    refine o_ld (v := .slice x.a x.data.length x.c) rfl rfl (by rw [← hx]; exact item_cells hRd hk3 i hil 1 _ rfl) ?_
    refine o_lens Tryd.underlying25 rfl ?_
    refine b_gtr rfl rfl ?_
    refine o_nil ?_
    refine k_no rfl (by omega) ?_
    refine k_skip ?_
    refine k_blk ?_
    refine k_region ?_
    refine m_int rfl rfl ?_
    refine n_add rfl rfl (by omega) ?_
    refine m_int rfl rfl ?_
    refine o_nil ?_
    refine k_goal ⟨i + 1, ⟨rfl, rfl, trivial⟩, ⟨hil, hk3⟩, by omega⟩
  have hkl : k < i := by omega
  refine k_skip ?_
  refine k_seq ?_
  refine k_block ?_
  refine k_seq ?_
  refine k_qk 10 rfl rfl rfl rfl rfl ?_
  refine q_step (fun w1 hC => m_sl rfl rfl (o_nil ⟨rfl, hC⟩)) ?_
  refine q_step (fun w1 hC => m_int rfl rfl (o_nil ⟨rfl, hC⟩)) ?_
  refine q_step (fun w1 hC => o_ixs (sz := 3) (m := k) Tryd.underlying22 rfl rfl rfl (by omega) (o_nil ⟨rfl, hC⟩)) ?_
  refine q_step (fun w1 hC => o_fld0 rfl rfl (o_nil ⟨rfl, hC⟩)) ?_
  refine q_step (fun w1 hC => o_ld (v := .string (bsStr l[k].name)) rfl rfl (item_cells hRd (hk3.tr hC) k (by omega) 0 _ rfl) (o_nil ⟨rfl, hC⟩)) ?_
  refine q_step (fun w1 hC => m_sl rfl rfl (o_nil ⟨rfl, hC⟩)) ?_
  refine q_step (fun w1 hC => m_int rfl rfl (o_nil ⟨rfl, hC⟩)) ?_
  refine q_step (fun w1 hC => o_ixs (sz := 3) (m := i) Tryd.underlying22 rfl rfl rfl hil (o_nil ⟨rfl, hC⟩)) ?_
  refine q_step (fun w1 hC => o_fld0 rfl rfl (o_nil ⟨rfl, hC⟩)) ?_
  refine q_step (fun w1 hC => o_ld (v := .string (bsStr x.name)) rfl rfl (by rw [← hx]; exact item_cells hRd (hk3.tr hC) i hil 0 _ rfl) (o_nil ⟨rfl, hC⟩)) ?_
  refine q_nil ?_
  intro w4 hC4
  refine b_eqlstr Tryd.underlying9 rfl rfl ?_
  refine o_nil ?_
  refine k_no rfl (fun hh => nodup_ne hil hkl hnd (by rw [hx]; exact bsStr_inj hh)) ?_
  refine k_skip ?_
  refine k_blk ?_
  refine k_region ?_
  refine m_int rfl rfl ?_
  refine n_add rfl rfl (by omega) ?_
  refine m_int rfl rfl ?_
  refine o_nil ?_
  refine k_goal ⟨k + 1, ⟨rfl, rfl, rfl, trivial⟩, ⟨hkl, hk3.tr hC4⟩, by omega⟩
end Go.Proofs.YtiapgmfooclpcaaDoor

/- The document's Lay at items that are stored. No condition beyond what its contract names. -/
namespace Go.Proofs.YtiapgmfooclpcaaDoor
open Go.RowKit E
set_option linter.unusedVariables false
set_option linter.unusedSimpArgs false
set_option maxRecDepth 100000
attribute [local irreducible] ow qw kw kq cw opW Ret
structure Pr (k : Nat) (w : World) (a : Option Addr) (c : Nat) (B : Bs) (a' : Option Addr) (c' : Nat) (B' : Bs) : Prop where
  x : SlX k w a c B
  y : SlX k w a' c' B'
  s : SepA a a'
theorem Pr.new {k : Nat} {w w' : World} {a a' : Option Addr} {c c' : Nat} {B B' : Bs} (h : Pr k w a c B a' c' B') (hk : Keep [] w w') : Pr k w' a c B a' c' B' := ⟨h.x.new hk, h.y.new hk, h.s⟩
/-- the second is turned -/
theorem Pr.step {k : Nat} {w w' : World} {a a' a2 : Option Addr} {c c' c2 : Nat} {B B' B2 : Bs} (h : Pr k w a c B a' c' B') (hX : SlX k w' a2 c2 B2) (hk : Keep (blkOf a') w w') (hf : Fresh w.heap.size a' a2) : Pr k w' a c B a2 c2 B2 := ⟨h.x.other h.s.symm hk, hX, (h.s.symm.fresh hf h.x).symm⟩
theorem ap8 {k : Nat} {w0 w w' : World} {a a2 a3 : Option Addr} {c3 : Nat} {xs : Bs} (h1 : Fresh w0.heap.size a a2) (hk0 : Keep (blkOf a) w0 w) (hX : SlX k w' a3 c3 xs) (hK : Keep (blkOf a2) w w') (hf : Fresh w.heap.size a2 a3) : AP w0 a w' (.slice a3 xs.length c3) xs ∧ Keep (blkOf a) w0 w' :=
  ⟨⟨a3, c3, rfl, hX.sl, h1.tr hf hk0.size⟩, hk0.trans hK (fun b hb hl => h1.in hb hl)⟩
theorem GA.new {w0 w w' : World} {a : Option Addr} {c : Nat} {B B1 B2 B3 : Bs} {s1 s2 s3 : Bool} {v1 v2 v3 : Value} (h : GA w0 a c B B1 B2 B3 s1 s2 s3 v1 v2 v3 w) (hk : Keep [] w w') : GA w0 a c B B1 B2 B3 s1 s2 s3 v1 v2 v3 w' :=
  ⟨h.1.trans hk (by simp), fun x => (h.2.1 x).new hk, fun x y => (h.2.2.1 x y).new hk, fun x => ⟨(h.2.2.2.1 x).1, fun y => ((h.2.2.2.1 x).2 y).new hk⟩, fun x => ⟨(h.2.2.2.2 x).1, (h.2.2.2.2 x).2.new hk⟩⟩
theorem rsum_crc (l : Bs) : Crc.add 0 l = (crcN l : Int) := by
  unfold crcN
  have := (Crc.add_range 0 l).1
  omega
theorem crcN_lt2 (l : Bs) : crcN l < 4294967296 := by
  unfold crcN
  have := Crc.add_range 0 l
  omega
/-- items that are stored -/
structure LayOk (l : List It) : Prop where
  sq : ∀ x ∈ l, x.sq = false
  nm : ∀ x ∈ l, x.name.length ≤ 64
  dt : ∀ x ∈ l, x.data.length ≤ 32768
  nb : l.length ≤ 64
  ln : (archB l).length ≤ 65536
theorem LayOk.pk {l : List It} (h : LayOk l) {x : It} (hx : x ∈ l) : packB x = x.data ∧ methN x = 0 := by
  unfold packB methN
  rw [h.sq x hx]
  exact ⟨rfl, rfl⟩
theorem locs_le : ∀ (l : List It) (i : Nat), (locsB (l.take i)).length ≤ (locsB l).length
  | [], i => by simp
  | x :: l, 0 => by simp [locsB]
  | x :: l, i + 1 => by
    have := locs_le l i
    show (oneLoc x ++ locsB (l.take i)).length ≤ (oneLoc x ++ locsB l).length
    rw [List.length_append, List.length_append]; omega
theorem dirsF_len : ∀ (l : List It) (p q : Nat), (dirsF l p).length = (dirsF l q).length
  | [], _, _ => rfl
  | x :: l, p, q => by
    show (oneDir x p ++ dirsF l _).length = (oneDir x q ++ dirsF l _).length
    rw [List.length_append, List.length_append, oneDir_len, oneDir_len, dirsF_len l _ (q + (oneLoc x).length)]
theorem dirs_le (l : List It) (i : Nat) : (dirsB (l.take i)).length ≤ (dirsB l).length := by
  conv => rhs; rw [← List.take_append_drop i l]
  unfold dirsB
  rw [dirsF_app, List.length_append]
  omega
def S4 : Bs := [0x50#8, 0x4b#8, 3#8, 4#8]
def S6 : Bs := [0x50#8, 0x4b#8, 1#8, 2#8, 20#8, 0#8]
def S8 : Bs := [0x50#8, 0x4b#8, 5#8, 6#8, 0#8, 0#8, 0#8, 0#8]
theorem S4_eq : S4 = putsN 4 [67324752] := by decide
theorem S6_eq : S6 = putsN 4 [33639248] ++ putsN 2 [20] := by decide
theorem S8_eq : S8 = putsN 4 [101010256, 0] := by decide
set_option maxHeartbeats 4000000 in
theorem rlay_ok (w : World) (a pa : Option Addr) (c pc : Nat) (l : List It) (hI : Items w a l) (hP : Rd w pa (l.map fun x => Value.slice x.a x.data.length x.c)) (hL : LayOk l) (hnm : ∀ x ∈ l, ∀ w1, Ret Tryd.prog 66 [.string (bsStr x.name)] w1 (fun v w' => v = .bool true ∧ w' = w1)) (hnd : (l.map (·.name)).Nodup) :
    Ret Tryd.prog 27 [.slice a l.length c, .slice pa l.length pc] w (fun v w' => ∃ u, v = .tuple #[u, nv 0] ∧ New w w' 5 u ((archB l).map u8v) ∧ Keep [] w w') := by
  obtain ⟨hRd, hIt⟩ := hI
  have hn64 := hL.nb
  have hln := hL.ln
  have hloc : (locsB l).length + (dirsB l).length + 22 = (archB l).length := by
    unfold archB endB
    simp only [List.length_append, putsN_len, List.length_cons, List.length_nil]
  refine fn_enter (n := 123) Tryd.func27 rfl rfl (Nat.le_of_ble_eq_true rfl) (fun e => ?_)
  refine k_seq ?_
  refine k_region ?_
  refine m_sl rfl rfl ?_
  refine m_int rfl rfl ?_
  refine o_nil ?_
  refine k_seq ?_
  refine k_seq ?_
  refine k_region ?_
  refine m_sl rfl rfl ?_
  refine o_call rfl rfl (rcheck_ok w a c l hRd hnm hnd hL.dt hn64) (fun v w2 hv => ?_)
  obtain ⟨rfl, hk2⟩ := hv
  refine m_int rfl rfl ?_
  refine o_nil ?_
  refine k_seq ?_
  refine k_region ?_
  refine m_int rfl rfl ?_
  refine b_neq rfl rfl ?_
  refine o_nil ?_
  refine k_no rfl (by decide) ?_
  refine k_skip ?_
  refine k_seq ?_
  refine k_region ?_
  refine m_sl rfl rfl ?_
  refine m_sl rfl rfl ?_
  refine o_nil ?_
  refine k_seq ?_
  refine k_seq ?_
  refine k_region ?_
  refine m_int rfl rfl ?_
  refine o_nil ?_
  refine k_block ?_
  refine k_loop (σ := Nat × (Option Addr × Nat) × (Option Addr × Nat)) (fun s => [(0, .slice a l.length c), (1, .slice pa l.length pc), (7, .slice s.2.1.1 (locsB (l.take s.1)).length s.2.1.2), (8, .slice s.2.2.1 (dirsB (l.take s.1)).length s.2.2.2), (9, .int .i64 (s.1 : Int))]) (fun s w' => s.1 ≤ l.length ∧ SlX w.heap.size w' s.2.1.1 s.2.1.2 (locsB (l.take s.1)) ∧ SlX w.heap.size w' s.2.2.1 s.2.2.2 (dirsB (l.take s.1)) ∧ SepA s.2.1.1 s.2.2.1 ∧ Keep [] w w') (fun s => l.length - s.1) (0, (none, 0), (none, 0)) ⟨rfl, rfl, rfl, rfl, rfl, trivial⟩ ⟨Nat.zero_le _, SlX.nil _ _, SlX.nil _ _, SepA.nil _, hk2⟩ (fun s e w6 hJ => ?_)
  obtain ⟨i, ⟨a7, c7⟩, ⟨a8, c8⟩⟩ := s
  obtain ⟨hi, hX7, hX8, hs78, hk6⟩ := hJ
  simp only at hi hX7 hX8 hs78 ⊢
  have hll := locs_le l i
  have hdl := dirs_le l i
  have hs6 := hk6.size
  refine k_seq ?_
  refine k_seq ?_
  refine k_region ?_
  refine m_int rfl rfl ?_
  refine m_sl rfl rfl ?_
  refine o_lens Tryd.underlying22 rfl ?_
  refine b_lss rfl rfl ?_
  refine o_nil ?_
  refine k_cond rfl (fun h => ?_) (fun h => ?_)
  rotate_left
  ·
    obtain rfl : i = l.length := by omega
    rw [List.take_length] at *
    refine k_exit rfl ?_
    refine k_seq ?_
    refine k_region ?_
    refine m_sl rfl rfl ?_
    refine o_lens Tryd.underlying25 rfl ?_
    refine m_int rfl rfl ?_
    refine o_nil ?_
    refine k_seq ?_
    refine k_region ?_
    refine m_sl rfl rfl ?_
    refine m_sl rfl rfl ?_
    refine o_app8 (bs := locsB l) (ys := dirsB l) (k := w.heap.size) rfl rfl hX7 hs6 hX8.sl.rd rfl (by omega) (fun a9 c9 w7 hX9 hK7 hf7 => ?_)
    have hk7 := hX7.keep0 hk6 hK7
    have hB1l : (locsB l ++ dirsB l).length = (locsB l).length + (dirsB l).length := List.length_append
    refine o_bsl (E := 5) (cs := (S8.map u8v).toArray) rfl (fun _ => by kernel_rfl) (fun g8 w8 hB8 hK8 hb8 hZ8 => ?_)
    have hk8 := hk7.tr hK8
    refine o_app8 (bs := locsB l ++ dirsB l) (ys := S8) (k := w.heap.size) rfl rfl (hX9.new hK8) hk8.size hB8.rd rfl (by have : S8.length = 8 := rfl; omega) (fun a10 c10 w9 hX10 hK9 hf9 => ?_)
    have hk9 := (hX9.new hK8).keep0 hk8 hK9
    obtain ⟨B2, hB2⟩ : ∃ B2, locsB l ++ dirsB l ++ S8 = B2 := ⟨_, rfl⟩
    have hB2l : B2.length = (locsB l).length + (dirsB l).length + 8 := by rw [← hB2, List.length_append, hB1l]; rfl
    rw [hB2] at hX10 ⊢
    refine m_sl rfl rfl ?_
    refine o_nil ?_
    refine k_seq ?_
    refine k_region ?_
    refine m_sl rfl rfl ?_
    refine m_sl rfl rfl ?_
    refine o_lens Tryd.underlying22 rfl ?_
    refine m_sl rfl rfl ?_
    refine o_lens Tryd.underlying22 rfl ?_
    refine o_bsl (E := 3) (cs := ([l.length, l.length].map nv).toArray) rfl (fun _ => by kernel_rfl) (fun g10 w10 hB10 hK10 hb10 hZ10 => ?_)
    have hk10 := hk9.tr hK10
    refine o_call rfl rfl (two_ok w10 a10 c10 g10 B2 [l.length, l.length] (hX10.new hK10).sl hB10 (by simp) (by intro v hv; simp at hv; omega) (by omega)) (fun v w11 hv => ?_)
    obtain ⟨hA11, hK11⟩ := hv
    obtain ⟨a11, c11, rfl, hX11, hf11⟩ := hA11.x hX10.ge hk10.size
    have hk11 := (hX10.new hK10).keep0 hk10 hK11
    have hB3l : (B2 ++ putsN 2 [l.length, l.length]).length = (locsB l).length + (dirsB l).length + 12 := by rw [List.length_append, putsN_len]; simp; omega
    refine m_sl rfl rfl ?_
    refine o_lens Tryd.underlying25 rfl ?_
    refine m_int rfl rfl ?_
    refine o_bsl (E := 3) (cs := ([(dirsB l).length, (locsB l).length].map nv).toArray) rfl (fun _ => by kernel_rfl) (fun g12 w12 hB12 hK12 hb12 hZ12 => ?_)
    have hk12 := hk11.tr hK12
    refine o_call rfl rfl (four_ok w12 a11 c11 g12 (B2 ++ putsN 2 [l.length, l.length]) [(dirsB l).length, (locsB l).length] (hX11.new hK12).sl hB12 (by simp) (by intro v hv; simp at hv; omega) (by omega)) (fun v w13 hv => ?_)
    obtain ⟨hA13, hK13⟩ := hv
    obtain ⟨a13, c13, rfl, hX13, hf13⟩ := hA13.x hX11.ge hk12.size
    have hk13 := (hX11.new hK12).keep0 hk12 hK13
    have hB4l : (B2 ++ putsN 2 [l.length, l.length] ++ putsN 4 [(dirsB l).length, (locsB l).length]).length = (locsB l).length + (dirsB l).length + 20 := by rw [List.length_append, putsN_len, hB3l]; simp
    refine o_bsl (E := 3) (cs := ([0].map nv).toArray) rfl (fun _ => by kernel_rfl) (fun g14 w14 hB14 hK14 hb14 hZ14 => ?_)
    have hk14 := hk13.tr hK14
    refine o_call rfl rfl (two_ok w14 a13 c13 g14 (B2 ++ putsN 2 [l.length, l.length] ++ putsN 4 [(dirsB l).length, (locsB l).length]) [0] (hX13.new hK14).sl hB14 (by simp) (by simp) (by omega)) (fun v w15 hv => ?_)
    obtain ⟨hA15, hK15⟩ := hv
    obtain ⟨a15, c15, rfl, hX15, hf15⟩ := hA15.x hX13.ge hk14.size
    have hk15 := (hX13.new hK14).keep0 hk14 hK15
    have harch : B2 ++ putsN 2 [l.length, l.length] ++ putsN 4 [(dirsB l).length, (locsB l).length] ++ putsN 2 [0] = archB l := by
     rw [← hB2, archB, endB, ← S8_eq]
     simp only [List.append_assoc]
    rw [harch] at hX15 ⊢
    refine m_sl rfl rfl ?_
    refine o_nil ?_
    refine k_seq ?_
    refine k_seq ?_
    refine k_region ?_
    refine m_sl rfl rfl ?_
    refine o_lens Tryd.underlying25 rfl ?_
    refine b_gtr rfl rfl ?_
    refine o_nil ?_
    refine k_no rfl (by omega) ?_
    refine k_skip ?_
    refine k_seq ?_
    refine k_region ?_
    refine m_sl rfl rfl ?_
    refine m_sl rfl rfl ?_
    refine m_int rfl rfl ?_
    refine o_nil ?_
    refine k_ret (ret_tmps (ts := [4, 5]) (v := .tuple #[.slice _ _ _, .int _ _]) rfl rfl ?_)
    exact ⟨_, rfl, ⟨a15, c15, by rw [List.length_map], by rw [List.length_map]; exact hX15.sl, hX15.ge⟩, hk15⟩
  have hil : i < l.length := by omega
  obtain ⟨b0, o0, rfl, _⟩ := hRd.at (i * 3) (by rw [flat3_len]; omega)
  obtain ⟨bp, op, rfl, _⟩ := hP.at i (by rw [List.length_map]; omega)
  obtain ⟨x, hx⟩ : ∃ x, l[i] = x := ⟨_, rfl⟩
  have hxm : x ∈ l := hx ▸ List.getElem_mem hil
  have hdx := hL.dt x hxm
  have hnx := hL.nm x hxm
  obtain ⟨hpk, hme⟩ := hL.pk hxm
  have hIx := hIt x hxm
  have hpx : (l.map fun x => Value.slice x.a x.data.length x.c)[i]? = some (.slice x.a x.data.length x.c) := by rw [List.getElem?_map, List.getElem?_eq_getElem hil, hx]; rfl
  have hcell : ∀ w1, Keep [] w w1 → ∀ j v, (itC x)[j]? = some v → w1.cell? ⟨b0, o0 + i * 3 + j, none⟩ = some v := fun w1 hk j v hj => item_cells hRd hk i hil j v (by rw [hx]; exact hj)
  have htl := locsB_take l i hil
  have htd := dirsB_take l i hil
  rw [hx] at htl htd
  have hll2 := locs_le l (i + 1)
  have hdl2 := dirs_le l (i + 1)
  rw [htl, List.length_append, oneLoc_len, hpk] at hll2
  rw [htd, List.length_append, oneDir_len] at hdl2
  obtain ⟨L, hLL⟩ : ∃ L, locsB (l.take i) = L := ⟨_, rfl⟩
  obtain ⟨R, hDD⟩ : ∃ R, dirsB (l.take i) = R := ⟨_, rfl⟩
  rw [hLL] at hX7 hll hll2 htl htd ⊢
  rw [hDD] at hX8 hdl hdl2 htd ⊢
  refine k_skip ?_
  refine k_seq ?_
  refine k_block ?_
  refine k_seq ?_
  refine k_region ?_
  refine m_int rfl rfl ?_
  refine o_nil ?_
  refine k_seq ?_
  refine k_seq ?_
  refine k_region ?_
  refine m_sl rfl rfl ?_
  refine m_int rfl rfl ?_
  refine o_ixs (sz := 3) (m := i) Tryd.underlying22 rfl rfl rfl hil ?_
  refine o_fld (off := 2) rfl rfl ?_
  refine o_ld (v := .bool false) rfl rfl (by have := hcell _ hk6 2 _ rfl; rw [hL.sq x hxm] at this; exact this) ?_
  refine o_nil ?_
  refine k_condf rfl ?_
  refine k_skip ?_
  refine k_seq ?_
  refine k_region ?_
  refine m_sl rfl rfl ?_
  refine o_lens Tryd.underlying25 rfl ?_
  refine m_int rfl rfl ?_
  refine o_nil ?_
  refine k_seq ?_
  refine k_region ?_
  refine m_int rfl rfl ?_
  refine o_bsl (E := 3) (cs := ([20, 0, 0, 0, 33].map nv).toArray) rfl (fun _ => by kernel_rfl) (fun g7 w7 hB7 hK7 hb7 hZ7 => ?_)
  refine o_call rfl rfl (two_ok w7 none 0 g7 [] [20, 0, 0, 0, 33] (Sl.nil _ _ _) hB7 (by decide) (by decide) (by decide)) (fun v w8 hv => ?_)
  obtain ⟨hA8, hK8⟩ := hv
  have hk68 : Keep [] w6 w8 := hK7.tr hK8
  have hs67 := hK7.size
  obtain ⟨ah, ch, rfl, hX12, hf12⟩ := hA8.x (k := w6.heap.size) (by simp) hs67
  obtain ⟨H1, hH1⟩ : ∃ H1, [] ++ putsN 2 [20, 0, 0, 0, 33] = H1 := ⟨_, rfl⟩
  have hH1l : H1.length = 10 := by rw [← hH1]; rfl
  rw [hH1] at hX12 ⊢
  have hk8 : Keep [] w w8 := hk6.tr hk68
  refine m_sl rfl rfl ?_
  refine o_nil ?_
  refine k_seq ?_
  refine k_any 19 (fun w w' => Keep [] w w') (fun iA => match iA with
      | 0 => fun v w => v = .slice ah H1.length ch
      | 1 => fun v w => v = .slice (some ⟨b0, o0, none⟩) l.length c
      | 2 => fun v w => v = nv i
      | 3 => fun v w => v = .pointer (some ⟨b0, o0 + i * 3, none⟩)
      | 4 => fun v w => v = .pointer (some ⟨b0, o0 + i * 3 + 1, none⟩)
      | 5 => fun v w => v = .slice x.a x.data.length x.c
      | 6 => fun v w => v = nv (crcN x.data)
      | 7 => fun v w => v = .slice (some ⟨bp, op, none⟩) l.length pc
      | 8 => fun v w => v = nv i
      | 9 => fun v w => v = .pointer (some ⟨bp, op + i, none⟩)
      | 10 => fun v w => v = .slice x.a x.data.length x.c
      | 11 => fun v w => v = nv x.data.length
      | 12 => fun v w => v = .slice (some ⟨b0, o0, none⟩) l.length c
      | 13 => fun v w => v = nv i
      | 14 => fun v w => v = .pointer (some ⟨b0, o0 + i * 3, none⟩)
      | 15 => fun v w => v = .pointer (some ⟨b0, o0 + i * 3 + 1, none⟩)
      | 16 => fun v w => v = .slice x.a x.data.length x.c
      | 17 => fun v w => v = nv x.data.length
      | 18 => fun v w => ∃ g, v = .slice (some ⟨g, 0, none⟩) 3 3 ∧ Blk w g ([crcN x.data, x.data.length, x.data.length].map nv).toArray 3
      | _ => fun v w => True) rfl rfl rfl rfl rfl (Keep.refl []) (fun _ _ _ h1 h2 => h1.tr h2) ?_ ?_ ?_
  · intro iA v w w' h hL
    match iA, h with
    | 0, h =>
      exact h
    | 1, h =>
      exact h
    | 2, h =>
      exact h
    | 3, h =>
      exact h
    | 4, h =>
      exact h
    | 5, h =>
      exact h
    | 6, h =>
      exact h
    | 7, h =>
      exact h
    | 8, h =>
      exact h
    | 9, h =>
      exact h
    | 10, h =>
      exact h
    | 11, h =>
      exact h
    | 12, h =>
      exact h
    | 13, h =>
      exact h
    | 14, h =>
      exact h
    | 15, h =>
      exact h
    | 16, h =>
      exact h
    | 17, h =>
      exact h
    | 18, h =>
      obtain ⟨g, h1, h2⟩ := h
      exact ⟨g, h1, h2.keep hL (by simp)⟩
    | _ + 19, h => trivial
  · intro iA o him hl eA wA hL hA hD
    match iA, him, hl with
    | 0, _, hl =>
      obtain rfl := Option.some.inj hl
      refine o_gen [(12, _)] ⟨hA 12 (free_of rfl), trivial⟩ (fun e2 => ?_)
      refine m_sl rfl rfl ?_
      refine o_nil ⟨Keep.refl _ _, rfl⟩
    | 1, _, hl =>
      obtain rfl := Option.some.inj hl
      refine o_gen [(0, _)] ⟨hA 0 (free_of rfl), trivial⟩ (fun e2 => ?_)
      refine m_sl rfl rfl ?_
      refine o_nil ⟨Keep.refl _ _, rfl⟩
    | 2, _, hl =>
      obtain rfl := Option.some.inj hl
      refine o_gen [(9, _)] ⟨hA 9 (free_of rfl), trivial⟩ (fun e2 => ?_)
      refine m_int rfl rfl ?_
      refine o_nil ⟨Keep.refl _ _, rfl⟩
    | 3, _, hl =>
      obtain rfl := Option.some.inj hl
      refine o_gen [(36, _), (37, _)] ⟨hD 1 (by decide) 36 rfl, hD 2 (by decide) 37 rfl, trivial⟩ (fun e2 => ?_)
      refine o_ixs (sz := 3) (m := i) Tryd.underlying22 rfl rfl rfl hil ?_
      refine o_nil ⟨Keep.refl _ _, rfl⟩
    | 4, _, hl =>
      obtain rfl := Option.some.inj hl
      refine o_gen [(38, _)] ⟨hD 3 (by decide) 38 rfl, trivial⟩ (fun e2 => ?_)
      refine o_fld (off := 1) rfl rfl ?_
      refine o_nil ⟨Keep.refl _ _, rfl⟩
    | 5, _, hl =>
      obtain rfl := Option.some.inj hl
      refine o_gen [(39, _)] ⟨hD 4 (by decide) 39 rfl, trivial⟩ (fun e2 => ?_)
      refine o_ld (v := .slice x.a x.data.length x.c) rfl rfl (hcell _ (hk8.drew.tr hL) 1 _ rfl) ?_
      refine o_nil ⟨Keep.refl _ _, rfl⟩
    | 6, _, hl =>
      obtain rfl := Option.some.inj hl
      refine o_gen [(40, _)] ⟨hD 5 (by decide) 40 rfl, trivial⟩ (fun e2 => ?_)
      refine o_call rfl rfl (rsumof_ok wA x.a x.c x.data (hIx.1.new (hk8.drew.tr hL)) (by omega)) (fun v w2 hv => ?_)
      obtain ⟨rfl, rfl⟩ := hv
      rw [rsum_crc]
      refine o_nil ⟨Keep.refl _ _, rfl⟩
    | 7, _, hl =>
      obtain rfl := Option.some.inj hl
      refine o_gen [(1, _)] ⟨hA 1 (free_of rfl), trivial⟩ (fun e2 => ?_)
      refine m_sl rfl rfl ?_
      refine o_nil ⟨Keep.refl _ _, rfl⟩
    | 8, _, hl =>
      obtain rfl := Option.some.inj hl
      refine o_gen [(9, _)] ⟨hA 9 (free_of rfl), trivial⟩ (fun e2 => ?_)
      refine m_int rfl rfl ?_
      refine o_nil ⟨Keep.refl _ _, rfl⟩
    | 9, _, hl =>
      obtain rfl := Option.some.inj hl
      refine o_gen [(42, _), (43, _)] ⟨hD 7 (by decide) 42 rfl, hD 8 (by decide) 43 rfl, trivial⟩ (fun e2 => ?_)
      refine o_ixs1 (m := i) Tryd.underlying68 rfl rfl rfl hil ?_
      refine o_nil ⟨Keep.refl _ _, rfl⟩
    | 10, _, hl =>
      obtain rfl := Option.some.inj hl
      refine o_gen [(44, _)] ⟨hD 9 (by decide) 44 rfl, trivial⟩ (fun e2 => ?_)
      refine o_ld (v := .slice x.a x.data.length x.c) rfl rfl (hP.cellK (hk8.drew.tr hL) hpx) ?_
      refine o_nil ⟨Keep.refl _ _, rfl⟩
    | 11, _, hl =>
      obtain rfl := Option.some.inj hl
      refine o_gen [(45, _)] ⟨hD 10 (by decide) 45 rfl, trivial⟩ (fun e2 => ?_)
      refine o_lens Tryd.underlying25 rfl ?_
      refine o_nil ⟨Keep.refl _ _, rfl⟩
    | 12, _, hl =>
      obtain rfl := Option.some.inj hl
      refine o_gen [(0, _)] ⟨hA 0 (free_of rfl), trivial⟩ (fun e2 => ?_)
      refine m_sl rfl rfl ?_
      refine o_nil ⟨Keep.refl _ _, rfl⟩
    | 13, _, hl =>
      obtain rfl := Option.some.inj hl
      refine o_gen [(9, _)] ⟨hA 9 (free_of rfl), trivial⟩ (fun e2 => ?_)
      refine m_int rfl rfl ?_
      refine o_nil ⟨Keep.refl _ _, rfl⟩
    | 14, _, hl =>
      obtain rfl := Option.some.inj hl
      refine o_gen [(47, _), (48, _)] ⟨hD 12 (by decide) 47 rfl, hD 13 (by decide) 48 rfl, trivial⟩ (fun e2 => ?_)
      refine o_ixs (sz := 3) (m := i) Tryd.underlying22 rfl rfl rfl hil ?_
      refine o_nil ⟨Keep.refl _ _, rfl⟩
    | 15, _, hl =>
      obtain rfl := Option.some.inj hl
      refine o_gen [(49, _)] ⟨hD 14 (by decide) 49 rfl, trivial⟩ (fun e2 => ?_)
      refine o_fld (off := 1) rfl rfl ?_
      refine o_nil ⟨Keep.refl _ _, rfl⟩
    | 16, _, hl =>
      obtain rfl := Option.some.inj hl
      refine o_gen [(50, _)] ⟨hD 15 (by decide) 50 rfl, trivial⟩ (fun e2 => ?_)
      refine o_ld (v := .slice x.a x.data.length x.c) rfl rfl (hcell _ (hk8.drew.tr hL) 1 _ rfl) ?_
      refine o_nil ⟨Keep.refl _ _, rfl⟩
    | 17, _, hl =>
      obtain rfl := Option.some.inj hl
      refine o_gen [(51, _)] ⟨hD 16 (by decide) 51 rfl, trivial⟩ (fun e2 => ?_)
      refine o_lens Tryd.underlying25 rfl ?_
      refine o_nil ⟨Keep.refl _ _, rfl⟩
    | 18, _, hl =>
      obtain rfl := Option.some.inj hl
      refine o_gen [(41, nv (crcN x.data)), (46, nv x.data.length), (52, nv x.data.length)] ⟨hD 6 (by decide) 41 rfl, hD 11 (by decide) 46 rfl, hD 17 (by decide) 52 rfl, trivial⟩ (fun e2 => ?_)
      refine o_bsl (E := 3) (cs := ([crcN x.data, x.data.length, x.data.length].map nv).toArray) rfl (fun _ => by kernel_rfl) (fun g w2 hB2 hK2 hb2 hZ2 => ?_)
      exact o_nil ⟨hK2, g, rfl, hB2⟩
    | _ + 19, him, _ => exact absurd him (by omega)
  intro eA wA hL hA hV
  obtain ⟨g, hg, hgB⟩ := hV 18 (by decide) 53 rfl
  refine o_gen [(0, .slice (some ⟨b0, o0, none⟩) l.length c), (1, .slice (some ⟨bp, op, none⟩) l.length pc), (7, .slice a7 L.length c7), (8, .slice a8 R.length c8), (9, .int .i64 (i : Int)), (11, .int .i64 (L.length : Int)), (35, .slice ah H1.length ch), (53, .slice (some ⟨g, 0, none⟩) 3 3)] ⟨hA 0 (free_of rfl), hA 1 (free_of rfl), hA 7 (free_of rfl), hA 8 (free_of rfl), hA 9 (free_of rfl), hA 11 (free_of rfl), hV 0 (by decide) 35 rfl, hg, trivial⟩ (fun e3 => ?_)
  have hkA8 : Keep [] w8 wA := (Keep.refl [] w8).drew.tr hL
  clear hV hA
  have hXA := hX12.new hkA8
  have hbw : ∀ v ∈ [crcN x.data, x.data.length, x.data.length], v < 9223372036854775808 := by have := crcN_lt2 x.data; intro v hv; simp at hv; omega
  refine o_call rfl rfl (four_ok wA ah ch g H1 [crcN x.data, x.data.length, x.data.length] hXA.sl hgB (by simp) hbw (by omega)) (fun v w9 hv => ?_)
  obtain ⟨hA9, hK9⟩ := hv
  obtain ⟨ah9, ch9, rfl, hX9, hf9⟩ := hA9.x (k := w6.heap.size) hXA.ge (by have := hk68.size; have := hkA8.size; omega)
  have hk69 : Keep [] w6 w9 := hXA.keep0 (hk68.tr hkA8) hK9
  obtain ⟨H2, hH2⟩ : ∃ H2, H1 ++ putsN 4 [crcN x.data, x.data.length, x.data.length] = H2 := ⟨_, rfl⟩
  have hH2l : H2.length = 22 := by rw [← hH2, List.length_append, hH1l, putsN_len]; rfl
  rw [hH2] at hX9 ⊢
  clear hXA hX12
  refine m_sl rfl rfl ?_
  refine o_nil ?_
  refine k_seq ?_
  refine k_region ?_
  refine m_sl rfl rfl ?_
  refine m_sl rfl rfl ?_
  refine m_int rfl rfl ?_
  refine o_ixs (sz := 3) (m := i) Tryd.underlying22 rfl rfl rfl hil ?_
  refine o_fld0 rfl rfl ?_
  refine o_ld (v := .string (bsStr x.name)) rfl rfl (hcell _ (hk6.tr hk69) 0 _ rfl) ?_
  refine o_lenstr Tryd.underlying9 rfl ?_
  rw [bsStr_size]
  refine o_bsl (E := 3) (cs := ([x.name.length, 0].map nv).toArray) rfl (fun _ => by kernel_rfl) (fun g10 w10 hB10 hK10 hb10 hZ10 => ?_)
  have hXB := hX9.new hK10
  refine o_call rfl rfl (two_ok w10 ah9 ch9 g10 H2 [x.name.length, 0] hXB.sl hB10 (by simp) (by intro v hv; simp at hv; omega) (by omega)) (fun v w11 hv => ?_)
  obtain ⟨hA11, hK11⟩ := hv
  obtain ⟨ah1, ch1, rfl, hXh, hf11⟩ := hA11.x (k := w6.heap.size) hXB.ge (by have := hk69.size; have := hK10.size; omega)
  have hk611 : Keep [] w6 w11 := hXB.keep0 (hk69.tr hK10) hK11
  have hHd : H2 ++ putsN 2 [x.name.length, 0] = headB x := by rw [← hH2, ← hH1, headB, hme, hpk, List.nil_append]
  have hhl := headB_len x
  rw [hHd] at hXh ⊢
  have hs7h : SepA a7 ah1 := fun p q hp hq => by have := hX7.sl.lt p hp; have := hXh.ge q hq; omega
  have hs8h : SepA a8 ah1 := fun p q hp hq => by have := hX8.sl.lt p hp; have := hXh.ge q hq; omega
  have hk11 : Keep [] w w11 := hk6.tr hk611
  have hX7 := hX7.new hk611
  have hX8 := hX8.new hk611
  have hs11 := hk11.size
  have hLa : ∀ X : Bs, (L ++ X).length = L.length + X.length := fun X => List.length_append
  have hS4l : S4.length = 4 := rfl
  have hS6l : S6.length = 6 := rfl
  clear hXB hX9 hA11 hA9 hA8
  refine m_sl rfl rfl ?_
  refine o_nil ?_
  refine k_seq ?_
  refine k_anyE 15 (leS) (fun iA => match iA with
      | 0 => fun v w => v = .slice a7 L.length c7
      | 1 => fun v w => True
      | 2 => fun v w => True
      | 3 => fun v w => v = .slice ah1 (headB x).length ch1
      | 4 => fun v w => True
      | 5 => fun v w => v = .slice (some ⟨b0, o0, none⟩) l.length c
      | 6 => fun v w => v = nv i
      | 7 => fun v w => v = .pointer (some ⟨b0, o0 + i * 3, none⟩)
      | 8 => fun v w => v = .pointer (some ⟨b0, o0 + i * 3, none⟩)
      | 9 => fun v w => v = .string (bsStr x.name)
      | 10 => fun v w => True
      | 11 => fun v w => v = .slice (some ⟨bp, op, none⟩) l.length pc
      | 12 => fun v w => v = nv i
      | 13 => fun v w => v = .pointer (some ⟨bp, op + i, none⟩)
      | 14 => fun v w => v = .slice x.a x.data.length x.c
      | _ => fun v w => True) (fun D e w' => GA w11 a7 c7 L (L ++ S4) (L ++ S4 ++ headB x) (L ++ S4 ++ headB x ++ x.name) (D 2) (D 4) (D 10) (e 66) (e 68) (e 74) w' ∧ (D 1 = true → D 2 = false → ∃ g, e 65 = .slice (some ⟨g, 0, none⟩) 4 4 ∧ Rd w' (some ⟨g, 0, none⟩) (S4.map u8v))) rfl rfl rfl rfl (leS_refl) (fun _ _ _ h1 h2 => leS.tr h1 h2) ?_ (⟨⟨(Keep.refl _ _).drew, fun _ => hX7.sl, fun h => (by cases h), fun h => (by cases h), fun h => (by cases h)⟩, fun h => (by cases h)⟩) ?_ ?_
  · intro iA v w w' h hL
    match iA, h with
    | 0, h =>
      exact h
    | 1, h =>
      exact h
    | 2, h =>
      exact h
    | 3, h =>
      exact h
    | 4, h =>
      exact h
    | 5, h =>
      exact h
    | 6, h =>
      exact h
    | 7, h =>
      exact h
    | 8, h =>
      exact h
    | 9, h =>
      exact h
    | 10, h =>
      exact h
    | 11, h =>
      exact h
    | 12, h =>
      exact h
    | 13, h =>
      exact h
    | 14, h =>
      exact h
    | _ + 15, h => trivial
  · intro iA o him hl D eA wA hDi hdp hSh hG hL hA hD
    match iA, him, hl with
    | 0, _, hl =>
      obtain rfl := Option.some.inj hl
      refine o_gen [(7, _)] ⟨hA 7 (free_of rfl), trivial⟩ (fun e2 => ?_)
      refine m_sl rfl rfl ?_
      refine o_nil ⟨(leS_refl) _, rfl, hG⟩
    | 1, _, hl =>
      obtain rfl := Option.some.inj hl
      refine o_gen [] trivial (fun e2 => ?_)
      refine o_bsl (E := 5) (cs := (S4.map u8v).toArray) rfl (fun _ => by kernel_rfl) (fun g w2 hB2 hK2 hb2 hZ2 => ?_)
      exact o_nil ⟨hK2.size, trivial, hG.1.new hK2, fun _ _ => ⟨g, rfl, hB2.rd⟩⟩
    | 2, _, hl =>
      obtain rfl := Option.some.inj hl
      obtain ⟨g, hg, hgB⟩ := hG.2 (hdp 1 (by decide)) hDi
      refine o_gen [(64, .slice a7 L.length c7), (65, .slice (some ⟨g, 0, none⟩) 4 4)] ⟨hD 0 (by decide) 64 rfl, hg, trivial⟩ (fun e2 => ?_)
      refine o_app8 (bs := L) (ys := S4) (k := w.heap.size) rfl rfl ⟨hG.1.2.1 hDi, hX7.ge⟩ (hX7.keep0 hk11 hG.1.1).size hgB rfl (by omega) (fun a2 c2 w2 hX2 hK2 hf2 => ?_)
      obtain ⟨hap, hkk⟩ := ap8 (Fresh.refl _ _) hG.1.1 hX2 hK2 hf2
      exact o_nil ⟨hK2.size, trivial, ⟨hkk, fun h => (by cases h), fun _ _ => hap, fun h => absurd ((hG.1.2.2.2.1 h).1.symm.trans hDi) (by decide), fun h => absurd ((hG.1.2.2.2.1 (hG.1.2.2.2.2 h).1).1.symm.trans hDi) (by decide)⟩, fun _ h => (by cases h)⟩
    | 3, _, hl =>
      obtain rfl := Option.some.inj hl
      refine o_gen [(12, _)] ⟨hA 12 (free_of rfl), trivial⟩ (fun e2 => ?_)
      refine m_sl rfl rfl ?_
      refine o_nil ⟨(leS_refl) _, rfl, hG⟩
    | 4, _, hl =>
      obtain rfl := Option.some.inj hl
      obtain ⟨a2, c2, he, hSx, hfx⟩ := hG.1.2.2.1 (hdp 2 (by decide)) hDi
      refine o_gen [(66, .slice a2 (L ++ S4).length c2), (67, .slice ah1 (headB x).length ch1)] ⟨he, hD 3 (by decide) 67 rfl, trivial⟩ (fun e2 => ?_)
      refine o_app8 (bs := L ++ S4) (ys := headB x) (k := w.heap.size) rfl rfl ⟨hSx, fresh_ge hfx hX7.ge hs11⟩ (hX7.keep0 hk11 hG.1.1).size (hXh.sl.rd.keep hG.1.1 hs7h.offB) rfl (by rw [hLa]; omega) (fun a3 c3 w2 hX2 hK2 hf2 => ?_)
      obtain ⟨hap, hkk⟩ := ap8 hfx hG.1.1 hX2 hK2 hf2
      exact o_nil ⟨hK2.size, trivial, ⟨hkk, fun h => absurd ((hdp 2 (by decide)).symm.trans h) (by decide), fun _ h => (by cases h), fun _ => ⟨hdp 2 (by decide), fun _ => hap⟩, fun h => absurd ((hG.1.2.2.2.2 h).1.symm.trans hDi) (by decide)⟩, fun _ h => absurd ((hdp 2 (by decide)).symm.trans h) (by decide)⟩
    | 5, _, hl =>
      obtain rfl := Option.some.inj hl
      refine o_gen [(0, _)] ⟨hA 0 (free_of rfl), trivial⟩ (fun e2 => ?_)
      refine m_sl rfl rfl ?_
      refine o_nil ⟨(leS_refl) _, rfl, hG⟩
    | 6, _, hl =>
      obtain rfl := Option.some.inj hl
      refine o_gen [(9, _)] ⟨hA 9 (free_of rfl), trivial⟩ (fun e2 => ?_)
      refine m_int rfl rfl ?_
      refine o_nil ⟨(leS_refl) _, rfl, hG⟩
    | 7, _, hl =>
      obtain rfl := Option.some.inj hl
      refine o_gen [(69, _), (70, _)] ⟨hD 5 (by decide) 69 rfl, hD 6 (by decide) 70 rfl, trivial⟩ (fun e2 => ?_)
      refine o_ixs (sz := 3) (m := i) Tryd.underlying22 rfl rfl rfl hil ?_
      refine o_nil ⟨(leS_refl) _, rfl, hG⟩
    | 8, _, hl =>
      obtain rfl := Option.some.inj hl
      refine o_gen [(71, _)] ⟨hD 7 (by decide) 71 rfl, trivial⟩ (fun e2 => ?_)
      refine o_fld0 rfl rfl ?_
      refine o_nil ⟨(leS_refl) _, rfl, hG⟩
    | 9, _, hl =>
      obtain rfl := Option.some.inj hl
      refine o_gen [(72, _)] ⟨hD 8 (by decide) 72 rfl, trivial⟩ (fun e2 => ?_)
      refine o_ld (v := .string (bsStr x.name)) rfl rfl (hcell _ (hX7.keep0 hk11 hG.1.1) 0 _ rfl) ?_
      refine o_nil ⟨(leS_refl) _, rfl, hG⟩
    | 10, _, hl =>
      obtain rfl := Option.some.inj hl
      obtain ⟨h9, hx2⟩ := hG.1.2.2.2.1 (hdp 4 (by decide))
      obtain ⟨a2, c2, he, hSx, hfx⟩ := hx2 hDi
      refine o_gen [(68, .slice a2 (L ++ S4 ++ headB x).length c2), (73, .string (bsStr x.name))] ⟨he, hD 9 (by decide) 73 rfl, trivial⟩ (fun e2 => ?_)
      refine o_apps8 (bs := L ++ S4 ++ headB x) (ys := x.name) (k := w.heap.size) rfl rfl ⟨hSx, fresh_ge hfx hX7.ge hs11⟩ (hX7.keep0 hk11 hG.1.1).size (by rw [List.length_append, hLa]; omega) (fun a3 c3 w2 hX2 hK2 hf2 => ?_)
      obtain ⟨hap, hkk⟩ := ap8 hfx hG.1.1 hX2 hK2 hf2
      exact o_nil ⟨hK2.size, trivial, ⟨hkk, fun h => absurd (h9.symm.trans h) (by decide), fun _ h => absurd ((hdp 4 (by decide)).symm.trans h) (by decide), fun _ => ⟨h9, fun h => (by cases h)⟩, fun _ => ⟨hdp 4 (by decide), hap⟩⟩, fun _ h => absurd (h9.symm.trans h) (by decide)⟩
    | 11, _, hl =>
      obtain rfl := Option.some.inj hl
      refine o_gen [(1, _)] ⟨hA 1 (free_of rfl), trivial⟩ (fun e2 => ?_)
      refine m_sl rfl rfl ?_
      refine o_nil ⟨(leS_refl) _, rfl, hG⟩
    | 12, _, hl =>
      obtain rfl := Option.some.inj hl
      refine o_gen [(9, _)] ⟨hA 9 (free_of rfl), trivial⟩ (fun e2 => ?_)
      refine m_int rfl rfl ?_
      refine o_nil ⟨(leS_refl) _, rfl, hG⟩
    | 13, _, hl =>
      obtain rfl := Option.some.inj hl
      refine o_gen [(75, _), (76, _)] ⟨hD 11 (by decide) 75 rfl, hD 12 (by decide) 76 rfl, trivial⟩ (fun e2 => ?_)
      refine o_ixs1 (m := i) Tryd.underlying68 rfl rfl rfl hil ?_
      refine o_nil ⟨(leS_refl) _, rfl, hG⟩
    | 14, _, hl =>
      obtain rfl := Option.some.inj hl
      refine o_gen [(77, _)] ⟨hD 13 (by decide) 77 rfl, trivial⟩ (fun e2 => ?_)
      refine o_ld (v := .slice x.a x.data.length x.c) rfl rfl (hP.cellK (hX7.keep0 hk11 hG.1.1) hpx) ?_
      refine o_nil ⟨(leS_refl) _, rfl, hG⟩
    | _ + 15, him, _ => exact absurd him (by omega)
  intro D eA wA hAll hG hL hA hV
  obtain ⟨⟨hkA, _, _, _, hfin⟩, _⟩ := hG
  obtain ⟨a6, c6, he6, hS6, hf6⟩ := (hfin (hAll 10 (by decide) (by decide))).2
  refine o_gen [(0, .slice (some ⟨b0, o0, none⟩) l.length c), (1, .slice (some ⟨bp, op, none⟩) l.length pc), (8, .slice a8 R.length c8), (9, .int .i64 (i : Int)), (11, .int .i64 (L.length : Int)), (12, .slice ah1 (headB x).length ch1), (74, .slice a6 (L ++ S4 ++ headB x ++ x.name).length c6), (78, .slice x.a x.data.length x.c)] ⟨hA 0 (free_of rfl), hA 1 (free_of rfl), hA 8 (free_of rfl), hA 9 (free_of rfl), hA 11 (free_of rfl), hA 12 (free_of rfl), he6, hV 14 (by decide) 78 rfl, trivial⟩ (fun e3 => ?_)
  clear hV hA hAll hfin
  have hkwA : Keep [] w wA := hX7.keep0 hk11 hkA
  refine o_app8 (bs := L ++ S4 ++ headB x ++ x.name) (ys := x.data) (k := w.heap.size) rfl rfl ⟨hS6, fresh_ge hf6 hX7.ge hs11⟩ hkwA.size (hIx.1.new hkwA) rfl (by rw [List.length_append, List.length_append, hLa]; omega) (fun a9 c9 w12 hX12 hK12 hf12 => ?_)
  obtain ⟨⟨_, _, hq, _, hf9⟩, hkk⟩ := ap8 hf6 hkA hX12 hK12 hf12
  cases hq
  have hPr : Pr w.heap.size w12 a9 c9 _ a8 c8 R := ⟨hX12, hX8.other hs78 hkk, hs78.fresh hf9 hX8⟩
  have hXh := hXh.other hs7h hkk
  have hk12 : Keep [] w w12 := hX7.keep0 hk11 hkk
  have hB1 : locsB (l.take (i + 1)) = L ++ S4 ++ headB x ++ x.name ++ x.data := by rw [htl, oneLoc, hpk, ← S4_eq]; simp only [List.append_assoc]
  obtain ⟨B1, hB1e⟩ : ∃ B1, L ++ S4 ++ headB x ++ x.name ++ x.data = B1 := ⟨_, rfl⟩
  rw [hB1e] at hPr hB1 ⊢
  clear hX12 hX7 hX8 hf12 hK12 hkk hkA hS6 hf6
  refine m_sl rfl rfl ?_
  refine o_nil ?_
  refine k_seq ?_
  refine k_region ?_
  refine m_sl rfl rfl ?_
  refine o_bsl (E := 5) (cs := (S6.map u8v).toArray) rfl (fun _ => by kernel_rfl) (fun g13 w13 hB13 hK13 hb13 hZ13 => ?_)
  have hPr := hPr.new hK13
  have hk13 := hk12.tr hK13
  refine o_app8 (bs := R) (ys := S6) (k := w.heap.size) rfl rfl hPr.y hk13.size hB13.rd rfl (by omega) (fun a14 c14 w14 hX14 hK14 hf14 => ?_)
  have hk14 := hPr.y.keep0 hk13 hK14
  have hPr := hPr.step hX14 hK14 hf14
  have hXh := ((hXh.new hK13).other hs8h hK14)
  have hR1 : (R ++ S6).length = R.length + 6 := by rw [List.length_append]; rfl
  refine m_sl rfl rfl ?_
  refine o_app8 (bs := R ++ S6) (ys := headB x) (k := w.heap.size) rfl rfl hPr.y hk14.size hXh.sl.rd rfl (by omega) (fun a15 c15 w15 hX15 hK15 hf15 => ?_)
  have hk15 := hPr.y.keep0 hk14 hK15
  have hPr := hPr.step hX15 hK15 hf15
  have hR2 : (R ++ S6 ++ headB x).length = R.length + 32 := by rw [List.length_append]; omega
  obtain ⟨R2, hR2e⟩ : ∃ R2, R ++ S6 ++ headB x = R2 := ⟨_, rfl⟩
  rw [hR2e] at hPr hR2 ⊢
  refine m_sl rfl rfl ?_
  refine o_nil ?_
  refine k_seq ?_
  refine k_region ?_
  refine m_sl rfl rfl ?_
  refine o_bsl (E := 3) (cs := ([0, 0, 0].map nv).toArray) rfl (fun _ => by kernel_rfl) (fun g16 w16 hB16 hK16 hb16 hZ16 => ?_)
  have hPr := hPr.new hK16
  have hk16 := hk15.tr hK16
  refine o_call rfl rfl (two_ok w16 a15 c15 g16 R2 [0, 0, 0] hPr.y.sl hB16 (by simp) (by simp) (by omega)) (fun v w17 hv => ?_)
  obtain ⟨hA17, hK17⟩ := hv
  obtain ⟨a17, c17, rfl, hX17, hf17⟩ := hA17.x hPr.y.ge hk16.size
  have hk17 := hPr.y.keep0 hk16 hK17
  have hPr := hPr.step hX17 hK17 hf17
  have hR3 : (R2 ++ putsN 2 [0, 0, 0]).length = R.length + 38 := by rw [List.length_append, putsN_len]; simp; omega
  refine m_int rfl rfl ?_
  refine o_bsl (E := 3) (cs := ([0, L.length].map nv).toArray) rfl (fun _ => by kernel_rfl) (fun g18 w18 hB18 hK18 hb18 hZ18 => ?_)
  have hPr := hPr.new hK18
  have hk18 := hk17.tr hK18
  refine o_call rfl rfl (four_ok w18 a17 c17 g18 (R2 ++ putsN 2 [0, 0, 0]) [0, L.length] hPr.y.sl hB18 (by simp) (by intro v hv; simp at hv; omega) (by omega)) (fun v w19 hv => ?_)
  obtain ⟨hA19, hK19⟩ := hv
  obtain ⟨a19, c19, rfl, hX19, hf19⟩ := hA19.x hPr.y.ge hk18.size
  have hk19 := hPr.y.keep0 hk18 hK19
  have hPr := hPr.step hX19 hK19 hf19
  have hR4 : (R2 ++ putsN 2 [0, 0, 0] ++ putsN 4 [0, L.length]).length = R.length + 46 := by rw [List.length_append, putsN_len, hR3]; simp
  refine m_sl rfl rfl ?_
  refine o_nil ?_
  refine k_region ?_
  refine m_sl rfl rfl ?_
  refine m_sl rfl rfl ?_
  refine m_int rfl rfl ?_
  refine o_ixs (sz := 3) (m := i) Tryd.underlying22 rfl rfl rfl hil ?_
  refine o_fld0 rfl rfl ?_
  refine o_ld (v := .string (bsStr x.name)) rfl rfl (hcell _ hk19 0 _ rfl) ?_
  refine o_apps8 (bs := R2 ++ putsN 2 [0, 0, 0] ++ putsN 4 [0, L.length]) (ys := x.name) (k := w.heap.size) rfl rfl hPr.y hk19.size (by omega) (fun a20 c20 w20 hX20 hK20 hf20 => ?_)
  have hk20 := hPr.y.keep0 hk19 hK20
  have hPr := hPr.step hX20 hK20 hf20
  refine m_sl rfl rfl ?_
  refine o_nil ?_
  refine k_blk ?_
  refine k_region ?_
  refine m_int rfl rfl ?_
  refine n_add rfl rfl (by omega) ?_
  refine m_int rfl rfl ?_
  refine o_nil ?_
  have hD1 : dirsB (l.take (i + 1)) = R2 ++ putsN 2 [0, 0, 0] ++ putsN 4 [0, L.length] ++ x.name := by
   rw [htd, oneDir, ← hR2e, S6_eq]
   simp only [List.append_assoc]
  rw [← hB1, ← hD1] at hPr
  refine k_goal ⟨(i + 1, (a9, c9), (a20, c20)), ⟨rfl, rfl, congrArg (fun m => Value.slice a9 m c9) (congrArg List.length hB1.symm), congrArg (fun m => Value.slice a20 m c20) (congrArg List.length hD1.symm), rfl, trivial⟩, ⟨hil, hPr.x, hPr.y, hPr.s, hk20⟩, by omega⟩
end Go.Proofs.YtiapgmfooclpcaaDoor

/- The document's Make. No condition beyond what its contract names. -/
namespace Go.Proofs.YtiapgmfooclpcaaDoor
open Go.RowKit E
set_option linter.unusedVariables false
set_option linter.unusedSimpArgs false
set_option maxRecDepth 100000
attribute [local irreducible] ow qw kw kq cw opW Ret
theorem inf25 : infB Tryd.prog 25 1 24 (.slice none 0 0) := ⟨_, rfl, rfl, rfl, rfl⟩
def pkV (x : It) : Value := .slice x.a x.data.length x.c
theorem pk_one (l : List It) : ∀ u ∈ l.map pkV, u.oneCell' = true := by
  intro u hu
  obtain ⟨x, _, rfl⟩ := List.mem_map.1 hu
  rfl
theorem rmake_ok (w : World) (a : Option Addr) (c : Nat) (l : List It) (hI : Items w a l) (hL : LayOk l) (hnm : ∀ x ∈ l, ∀ w1, Ret Tryd.prog 66 [.string (bsStr x.name)] w1 (fun v w' => v = .bool true ∧ w' = w1)) (hnd : (l.map (·.name)).Nodup) :
    Ret Tryd.prog 10 [.slice a l.length c] w (fun v w' => ∃ u, v = .tuple #[u, nv 0] ∧ New w w' 5 u ((archB l).map u8v) ∧ Keep [] w w') := by
  have hRd := hI.1
  have hn64 := hL.nb
  refine fn_enter (n := 25) Tryd.func10 rfl rfl (Nat.le_of_ble_eq_true rfl) (fun e => ?_)
  refine k_seq ?_
  refine k_region ?_
  refine m_sl rfl rfl ?_
  refine m_int rfl rfl ?_
  refine o_nil ?_
  refine k_seq ?_
  refine k_region ?_
  refine m_sl rfl rfl ?_
  refine o_nil ?_
  refine k_seq ?_
  refine k_seq ?_
  refine k_region ?_
  refine m_int rfl rfl ?_
  refine o_nil ?_
  refine k_block ?_
  refine k_loop (σ := Nat × Option Addr × Nat) (fun s => [(0, .slice a l.length c), (4, .slice s.2.1 s.1 s.2.2), (5, .int .i64 (s.1 : Int))]) (fun s w' => s.1 ≤ l.length ∧ Sl w' 25 1 s.2.1 s.1 s.2.2 ((l.take s.1).map pkV) ∧ (∀ q, s.2.1 = some q → w.heap.size ≤ q.block) ∧ Keep [] w w') (fun s => l.length - s.1) (0, none, 0) ⟨rfl, rfl, rfl, trivial⟩ ⟨Nat.zero_le _, Sl.nil _ _ _, by simp, Keep.refl _ _⟩ (fun s e w1 hJ => ?_)
  obtain ⟨i, a1, c1⟩ := s
  obtain ⟨hi, hS1, hf1, hK1⟩ := hJ
  simp only at hi hS1 hf1 ⊢
  refine k_seq ?_
  refine k_seq ?_
  refine k_region ?_
  refine m_int rfl rfl ?_
  refine m_sl rfl rfl ?_
  refine o_lens Tryd.underlying22 rfl ?_
  refine b_lss rfl rfl ?_
  refine o_nil ?_
  refine k_cond rfl (fun h => ?_) (fun h => ?_)
  rotate_left
  ·
    obtain rfl : i = l.length := by omega
    rw [List.take_length] at hS1
    refine k_exit rfl ?_
    refine k_seq ?_
    refine k_region ?_
    refine m_sl rfl rfl ?_
    refine m_sl rfl rfl ?_
    refine o_call rfl rfl (rlay_ok w1 a a1 c c1 l ⟨hRd.new hK1, fun x hx => ⟨(hI.2 x hx).1.new hK1, (hI.2 x hx).2⟩⟩ hS1.rd hL hnm hnd) (fun v w2 hv => ?_)
    obtain ⟨u, rfl, ⟨a2, c2, rfl, hS2, hf2⟩, hK2⟩ := hv
    refine o_extr (vs := [.slice a2 ((archB l).map u8v).length c2, nv 0]) rfl rfl ?_
    refine o_extr (vs := [.slice a2 ((archB l).map u8v).length c2, nv 0]) rfl rfl ?_
    refine m_sl rfl rfl ?_
    refine m_int rfl rfl ?_
    refine o_nil ?_
    refine k_ret (ret_tmps (ts := [2, 3]) (v := .tuple #[.slice _ _ _, .int _ _]) rfl rfl ?_)
    exact ⟨_, rfl, ⟨a2, c2, rfl, hS2, fun q hq => by have := hf2 q hq; have := hK1.size; omega⟩, hK1.tr hK2⟩
  have hil : i < l.length := by omega
  obtain ⟨b0, o0, rfl, _⟩ := hRd.at (i * 3) (by rw [flat3_len]; omega)
  refine k_skip ?_
  refine k_seq ?_
  refine k_block ?_
  refine k_region ?_
  refine m_sl rfl rfl ?_
  refine m_sl rfl rfl ?_
  refine m_int rfl rfl ?_
  refine o_ixs (sz := 3) (m := i) Tryd.underlying22 rfl rfl rfl hil ?_
  refine o_fld (off := 1) rfl rfl ?_
  refine o_ld (v := pkV l[i]) rfl rfl (item_cells hRd hK1 i hil 1 _ rfl) ?_
  refine o_bsl (E := 25) (cs := #[pkV l[i]]) rfl (fun _ => by kernel_rfl) (fun g w2 hB2 hK2 hb2 hZ2 => ?_)
  refine o_app Tryd.underlying68 inf25 rfl (by decide) rfl rfl (hS1.new hK2) (hB2.sl (len := 1) (sz := 1) rfl (by decide)).rd (by simp) (by intro u hu; simp at hu; subst hu; rfl) (by simp [maxLen]; omega) (by omega) (fun a4 c4 w4 hS4 hK4 hv4 => ?_)
  refine m_sl rfl rfl ?_
  refine o_nil ?_
  refine k_blk ?_
  refine k_region ?_
  refine m_int rfl rfl ?_
  refine n_add rfl rfl (by omega) ?_
  refine m_int rfl rfl ?_
  refine o_nil ?_
  refine k_goal ⟨(i + 1, a4, c4), ⟨rfl, rfl, rfl, trivial⟩, ⟨hil, ?_, ?_, Keep.trb (hK1.tr hK2) hK4 hf1⟩, by omega⟩
  · simp only
    rw [List.take_succ_eq_append_getElem hil, List.map_append]
    exact hS4
  · intro q hq
    rcases hv4 with ⟨h7, _⟩ | ⟨g4, h7, h9, _⟩
    · exact hf1 q (h7 ▸ hq)
    · simp only at hq
      rw [h7] at hq
      cases hq
      have := hK1.size
      have := hK2.size
      simp only
      omega
end Go.Proofs.YtiapgmfooclpcaaDoor

/- Archives whose directory tells of one entry twice, in plain Lean. No condition beyond what each lemma names. -/
namespace Go.Proofs.YtiapgmfooclpcaaDoor
open Go.RowKit E
set_option linter.unusedVariables false
set_option linter.unusedSimpArgs false
set_option maxRecDepth 100000
attribute [local irreducible] ow qw kw kq cw opW Ret
theorem twice_law {bs : Bs} {L h : Nat} {x : It} (hD : Dirs bs [(x, h), (x, h)] L) (hx : XOk x h) (hb : bs.length ≤ 65536) : (endI bs < 0 → dirE bs = 9) ∧ (¬ endI bs < 0 → dirE bs = 14) := by
  have hlen := oneDir_len x h
  have hdl : (dirG [(x, h), (x, h)]).length = 2 * (46 + x.name.length) := by
    show (oneDir x h ++ (oneDir x h ++ [])).length = _
    rw [List.append_nil, List.length_append, hlen]; omega
  refine ⟨fun h0 => by unfold dirE; rw [if_neg (by omega), if_pos h0], fun h0 => ?_⟩
  obtain ⟨h1, h2, h3, h4⟩ := hD.nums h0 (by simp) hb
  have hA : At bs L (oneDir x h ++ (oneDir x h ++ [])) := hD.at_.left
  obtain ⟨r1, r2, _, r3⟩ := rec_at hA.left hx
  obtain ⟨_, _, _, s3⟩ := rec_at (At.left hA.right) hx
  have e1 : recE bs L (L + (dirG [(x, h), (x, h)]).length) noS = 0 := by rw [r3 _ _ (by omega), if_neg (show ¬ noS (bsStr x.name) = true from (by show ¬ false = true; decide))]
  have e2 : recE bs (recEnd bs L) (L + (dirG [(x, h), (x, h)]).length) (snPut noS (recAt bs L).name) = 14 := by
    rw [r2, show L + 46 + x.name.length = L + (oneDir x h).length by omega, s3 _ _ (by omega), if_pos]
    rw [r1]
    unfold snPut
    rw [if_pos]
    rfl
  have h5 : (dX bs).1 = 14 := by
    unfold dX
    rw [h1, h2, h3]
    show (recsF bs _ (1 + 1) L noS).1 = 14
    rw [recsF_ok e1]
    show (recsF bs _ (0 + 1) _ _).1 = 14
    rw [recsF_bad (by rw [e2]; decide)]
    exact e2
  unfold dirE
  rw [if_neg (by omega), if_neg h0, if_neg h4, h5, if_pos (by decide)]
theorem other_law {bs : Bs} {L : Nat} {x z : It} (hD : Dirs bs [(x, 0), (z, 0)] L) (hx : XOk x 0) (hz : XOk z 0) (hne : x.name ≠ z.name) (hln : x.name.length = z.name.length) (hA : At bs 0 (oneLoc x)) (hb : bs.length ≤ 65536) : (endI bs < 0 → dirE bs = 9) ∧ (¬ endI bs < 0 → dirE bs = 15) := by
  obtain ⟨d1, d2⟩ := hD.dirE (by simp) hb (fun y hy => by
    rcases List.mem_cons.1 hy with rfl | hy
    · exact hx
    · simp at hy; subst hy; exact hz) (by simp [hne])
  refine ⟨d1, fun h0 => (d2 h0).1 ⟨rcOf z 0 (L + 46 + x.name.length), List.mem_cons_of_mem _ List.mem_cons_self, .inr (.inr (.inr fun hh => ?_))⟩⟩
  have hh' : bsStr (sub bs (0 + 30) (bsStr z.name).size) = bsStr z.name := hh
  rw [bsStr_size, ← hln, hA.sub 30 _ (by rw [oneLoc_len]; omega), loc_nm] at hh'
  exact hne (bsStr_inj hh')
/-! ### two stored entries, a and b -/
def xA (a : Option Addr) (c : Nat) (d : Bs) : It := ⟨[97#8], a, c, d, false⟩
def xB (a : Option Addr) (c : Nat) (d : Bs) : It := ⟨[98#8], a, c, d, false⟩
def xZ (a : Option Addr) (c : Nat) (d : Bs) : It := ⟨[122#8], a, c, d, false⟩
section
variable (a : Option Addr) (c : Nat) (d : Bs)
theorem pkA : packB (xA a c d) = d := rfl
theorem pkB : packB (xB a c d) = d := rfl
theorem lenL : (locsB [xA a c d, xB a c d]).length = 62 + 2 * d.length := by
  show (oneLoc (xA a c d) ++ (oneLoc (xB a c d) ++ [])).length = _
  rw [List.append_nil, List.length_append, oneLoc_len, oneLoc_len, pkA, pkB]
  show 30 + 1 + d.length + (30 + 1 + d.length) = _
  omega
def dA (a : Option Addr) (c : Nat) (d : Bs) : Bs := oneDir (xA a c d) 0
def dB (a : Option Addr) (c : Nat) (d : Bs) : Bs := oneDir (xB a c d) (0 + (oneLoc (xA a c d)).length)
def dZ (a : Option Addr) (c : Nat) (d : Bs) : Bs := oneDir (xZ a c d) 0
theorem dA_len : (dA a c d).length = 47 := by unfold dA; rw [oneDir_len]; rfl
theorem dB_len : (dB a c d).length = 47 := by unfold dB; rw [oneDir_len]; rfl
theorem dirs_ab : dirsB [xA a c d, xB a c d] = dA a c d ++ dB a c d := by
  show dA a c d ++ (dB a c d ++ []) = _
  rw [List.append_nil]
theorem lenD : (dirsB [xA a c d, xB a c d]).length = 94 := by rw [dirs_ab, List.length_append, dA_len, dB_len]
theorem arch_ab : archB [xA a c d, xB a c d] = locsB [xA a c d, xB a c d] ++ (dA a c d ++ dB a c d) ++ endB 2 94 (locsB [xA a c d, xB a c d]).length := by
  unfold archB
  rw [lenD, dirs_ab]
  rfl
theorem lenAr : (archB [xA a c d, xB a c d]).length = (locsB [xA a c d, xB a c d]).length + 116 := by
  rw [arch_ab, List.length_append, List.length_append, List.length_append, dA_len, dB_len, endB_len]
def pre46 (a : Option Addr) (c : Nat) (d : Bs) : Bs := putsN 4 [33639248] ++ putsN 2 [20] ++ headB (xA a c d) ++ putsN 2 [0, 0, 0] ++ putsN 4 [0, 0]
theorem dA_pre : dA a c d = pre46 a c d ++ [97#8] := rfl
theorem dZ_pre : dZ a c d = pre46 a c d ++ [122#8] := rfl
theorem pre_len : (pre46 a c d).length = 46 := by
  have := dA_len a c d
  rw [dA_pre, List.length_append] at this
  simpa using this
end
theorem cut3 (A D1 D2 E : Bs) (n : Nat) (h1 : D1.length = n) (h2 : D2.length = n) : (A ++ (D1 ++ D2) ++ E).take (A.length + n) ++ sub (A ++ (D1 ++ D2) ++ E) A.length n ++ (A ++ (D1 ++ D2) ++ E).drop (A.length + n + n) = A ++ (D1 ++ D1) ++ E := by
  have e1 : (A ++ (D1 ++ D2) ++ E).take (A.length + n) = A ++ D1 := by
    rw [show A ++ (D1 ++ D2) ++ E = (A ++ D1) ++ (D2 ++ E) by simp only [List.append_assoc]]
    exact List.take_left' (by rw [List.length_append, h1])
  have e2 : sub (A ++ (D1 ++ D2) ++ E) A.length n = D1 := by
    unfold sub
    rw [show A ++ (D1 ++ D2) ++ E = A ++ (D1 ++ (D2 ++ E)) by simp only [List.append_assoc], List.drop_left' rfl]
    exact List.take_left' h1
  have e3 : (A ++ (D1 ++ D2) ++ E).drop (A.length + n + n) = E := List.drop_left' (by rw [List.length_append, List.length_append, h1, h2]; omega)
  rw [e1, e2, e3]
  simp only [List.append_assoc]
theorem set3 (A P E : Bs) (v u : BitVec 8) (D1 : Bs) : (A ++ (D1 ++ (P ++ [v])) ++ E).set (A.length + D1.length + P.length) u = A ++ (D1 ++ (P ++ [u])) ++ E := by
  rw [show A ++ (D1 ++ (P ++ [v])) ++ E = (A ++ D1 ++ P) ++ ([v] ++ E) by simp only [List.append_assoc], show A ++ (D1 ++ (P ++ [u])) ++ E = (A ++ D1 ++ P) ++ ([u] ++ E) by simp only [List.append_assoc], List.set_append, if_neg (by simp only [List.length_append]; omega)]
  rw [show A.length + D1.length + P.length - (A ++ D1 ++ P).length = 0 by simp only [List.length_append]; omega]
  rfl
theorem parts_1 (x : BitVec 8) (h : x = 98#8 ∨ x = 122#8) : partsOf (bsStr [x]) = [bsStr [x]] := by
  rcases h with rfl | rfl <;> decide +kernel
theorem name_1 (x : BitVec 8) (h : x = 98#8 ∨ x = 122#8) : nameP (bsStr [x]) := by
  have hp := parts_1 x h
  refine ⟨by rcases h with rfl | rfl <;> decide, by rcases h with rfl | rfl <;> decide, by rcases h with rfl | rfl <;> decide, by rcases h with rfl | rfl <;> decide, fun i p hi => ?_⟩
  rw [hp] at hi ⊢
  match i, hi with
  | 0, hi =>
    simp at hi
    subst hi
    rintro (hh | hh | ⟨hh, _⟩)
    · rcases h with rfl | rfl <;> exact absurd hh (by decide)
    · rcases h with rfl | rfl <;> exact absurd hh (by decide)
    · rcases h with rfl | rfl <;> exact absurd hh (by decide)
  | i + 1, hi => simp at hi
section
variable {a : Option Addr} {c : Nat} {d : Bs} (hd : d.length ≤ 5000)
include hd
theorem lay_ab : LayOk [xA a c d, xB a c d] := by
  refine ⟨fun x hx => ?_, fun x hx => ?_, fun x hx => ?_, by simp, by rw [lenAr, lenL]; omega⟩ <;> simp at hx <;> rcases hx with rfl | rfl
  · rfl
  · rfl
  · show 1 ≤ 64; decide
  · show 1 ≤ 64; decide
  · show d.length ≤ 32768; omega
  · show d.length ≤ 32768; omega
theorem xok_a : XOk (xA a c d) 0 := ⟨name_a, by rw [pkA]; omega, show d.length < _ by omega, by decide⟩
theorem xok_z : XOk (xZ a c d) 0 := ⟨name_1 _ (.inr rfl), show d.length < _ by omega, show d.length < _ by omega, by decide⟩
/-- the first record copied onto the second -/
def copA (a : Option Addr) (c : Nat) (d : Bs) : Bs := locsB [xA a c d, xB a c d] ++ (dA a c d ++ dA a c d) ++ endB 2 94 (locsB [xA a c d, xB a c d]).length
def copZ (a : Option Addr) (c : Nat) (d : Bs) : Bs := locsB [xA a c d, xB a c d] ++ (dA a c d ++ dZ a c d) ++ endB 2 94 (locsB [xA a c d, xB a c d]).length
omit hd in
theorem dZ_len : (dZ a c d).length = 47 := by unfold dZ; rw [oneDir_len]; rfl
omit hd in
theorem cop_eq {L : Nat} (hL : (locsB [xA a c d, xB a c d]).length = L) : (archB [xA a c d, xB a c d]).take (L + 47) ++ sub (archB [xA a c d, xB a c d]) L 47 ++ (archB [xA a c d, xB a c d]).drop (L + 47 + 47) = copA a c d := by
  subst hL
  rw [arch_ab, cut3 _ _ _ _ 47 (dA_len a c d) (dB_len a c d)]
  rfl
omit hd in
theorem cop_set {L : Nat} (hL : (locsB [xA a c d, xB a c d]).length = L) : (copA a c d).set (L + 47 + 46) 122#8 = copZ a c d := by
  subst hL
  have h := set3 (locsB [xA a c d, xB a c d]) (pre46 a c d) (endB 2 94 (locsB [xA a c d, xB a c d]).length) 97#8 122#8 (dA a c d)
  rw [dA_len, pre_len, ← dA_pre, ← dZ_pre] at h
  exact h
omit hd in
theorem copA_len : (copA a c d).length = (locsB [xA a c d, xB a c d]).length + 116 := by
  unfold copA
  rw [List.length_append, List.length_append, List.length_append, dA_len, endB_len]
omit hd in
theorem copZ_len : (copZ a c d).length = (locsB [xA a c d, xB a c d]).length + 116 := by
  unfold copZ
  rw [List.length_append, List.length_append, List.length_append, dA_len, dZ_len, endB_len]
theorem copA_law : (endI (copA a c d) < 0 → dirE (copA a c d) = 9) ∧ (¬ endI (copA a c d) < 0 → dirE (copA a c d) = 14) := by
  have hG : dirG [(xA a c d, 0), (xA a c d, 0)] = dA a c d ++ dA a c d := by
    show dA a c d ++ (dA a c d ++ []) = _
    rw [List.append_nil]
  have hl : (dirG [(xA a c d, 0), (xA a c d, 0)]).length = 94 := by rw [hG, List.length_append, dA_len]
  refine twice_law (L := (locsB [xA a c d, xB a c d]).length) (h := 0) (x := xA a c d) ⟨⟨locsB [xA a c d, xB a c d], [], ?_, rfl⟩, by rw [copA_len, hl]⟩ (xok_a hd) (by rw [copA_len, lenL]; omega)
  rw [hl, hG, List.append_nil]
  unfold copA
  rw [List.append_assoc]
  rfl
theorem copZ_law : (endI (copZ a c d) < 0 → dirE (copZ a c d) = 9) ∧ (¬ endI (copZ a c d) < 0 → dirE (copZ a c d) = 15) := by
  have hG : dirG [(xA a c d, 0), (xZ a c d, 0)] = dA a c d ++ dZ a c d := by
    show dA a c d ++ (dZ a c d ++ []) = _
    rw [List.append_nil]
  have hl : (dirG [(xA a c d, 0), (xZ a c d, 0)]).length = 94 := by rw [hG, List.length_append, dA_len, dZ_len]
  refine other_law (L := (locsB [xA a c d, xB a c d]).length) (x := xA a c d) (z := xZ a c d) ⟨⟨locsB [xA a c d, xB a c d], [], ?_, rfl⟩, by rw [copZ_len, hl]⟩ (xok_a hd) (xok_z hd) (show [97#8] ≠ [122#8] by decide) rfl ⟨[], oneLoc (xB a c d) ++ ((dA a c d ++ dZ a c d) ++ endB 2 94 (locsB [xA a c d, xB a c d]).length), ?_, rfl⟩ (by rw [copZ_len, lenL]; omega)
  · rw [hl, hG, List.append_nil]
    unfold copZ
    rw [List.append_assoc]
    rfl
  · unfold copZ
    show oneLoc (xA a c d) ++ (oneLoc (xB a c d) ++ []) ++ (dA a c d ++ dZ a c d) ++ _ = _
    simp only [List.append_assoc, List.append_nil, List.nil_append]
end
end Go.Proofs.YtiapgmfooclpcaaDoor

/- The walk of TopOverlaps. No condition beyond what its contract names. -/
namespace Go.Proofs.YtiapgmfooclpcaaDoor
open Go.RowKit E
set_option linter.unusedVariables false
set_option linter.unusedSimpArgs false
set_option maxRecDepth 100000
attribute [local irreducible] ow qw kw kq cw opW Ret
theorem names2_ok (w : World) (g c L : Nat) (bs : Bs) (hS : Sl w 5 1 (some ⟨g, 0, none⟩) bs.length c (bs.map u8v)) (hL : L + 93 < bs.length) (hb : bs.length ≤ 65536) (hlaw : (endI (bs.set (L + 47 + 46) 122#8) < 0 → dirE (bs.set (L + 47 + 46) 122#8) = 9) ∧ (¬ endI (bs.set (L + 47 + 46) 122#8) < 0 → dirE (bs.set (L + 47 + 46) 122#8) = 15)) :
    Ret Tryd.prog 11 [.slice (some ⟨g, 0, none⟩) bs.length c, .int .i64 (L : Int)] w (fun v w' => v = .bool true ∧ Keep [g] w w') := by
  obtain ⟨g', cur, hg', hB, hsz⟩ := hS.blk (by omega)
  obtain rfl : g = g' := by cases hg'; rfl
  refine fn_enter (n := 28) Tryd.func11 rfl rfl (Nat.le_of_ble_eq_true rfl) (fun e => ?_)
  refine k_seq ?_
  refine k_region ?_
  refine m_bool rfl rfl ?_
  refine o_nil ?_
  refine k_seq ?_
  refine k_region ?_
  refine m_sl rfl rfl ?_
  refine m_int rfl rfl ?_
  refine n_add rfl rfl (by omega) ?_
  refine n_add rfl rfl (by omega) ?_
  refine o_ixs1 (m := L + 47 + 46) Tryd.underlying25 rfl rfl rfl (by omega) ?_
  refine o_st (v := u8v 122#8) rfl rfl rfl rfl hB (by omega) (fun w2 hB2 hK2 hZ2 => ?_)
  have hS2 := hS.set (k := L + 47 + 46) (by omega) hB hB2
  have hS2 : Sl w2 5 1 (some ⟨g, 0, none⟩) bs.length c ((bs.set (L + 47 + 46) 122#8).map u8v) := by
   rw [List.map_set]; exact hS2
  have hCl : (bs.set (L + 47 + 46) 122#8).length = bs.length := List.length_set
  obtain ⟨d1, d2⟩ := hlaw
  generalize hC : bs.set (L + 47 + 46) 122#8 = C at *
  rw [← hCl] at hS2 ⊢
  have hCne : dirE C ≠ 0 := by
   by_cases hE2 : endI C < 0
   · rw [d1 hE2]; decide
   · rw [d2 hE2]; decide
  refine o_nil ?_
  refine k_seq ?_
  refine k_region ?_
  refine m_sl rfl rfl ?_
  refine o_call rfl rfl (dir_ok w2 _ c C hS2.rd hS2.le (by omega) (fun hh => absurd hh hCne)) (fun v w3 hv => ?_)
  obtain ⟨a3, m3, c3, rfl, hK3, _, _⟩ := hv
  refine m_any rfl rfl ?_
  refine o_extr (vs := [.slice a3 m3 c3, .int .i64 (dirE C)]) rfl rfl ?_
  refine o_extr (vs := [.slice a3 m3 c3, .int .i64 (dirE C)]) rfl rfl ?_
  refine m_sl rfl rfl ?_
  refine m_int rfl rfl ?_
  refine o_nil ?_
  refine k_seq ?_
  refine k_region ?_
  refine m_int rfl rfl ?_
  refine b_eql rfl rfl ?_
  refine m_bool rfl rfl ?_
  refine o_split (t := 19) rfl (fun h19 => ?_) (fun h19 => ?_)
  ·
    refine g_no rfl rfl rfl ?_
    refine g_no rfl rfl rfl ?_
    refine g_no rfl rfl rfl ?_
    refine g_no rfl rfl rfl ?_
    refine g_un rfl rfl ?_
    refine g_un rfl rfl ?_
    refine g_no rfl rfl rfl ?_
    refine pick_t rfl rfl ?_
    refine m_bool rfl rfl ?_
    refine o_nil ?_
    refine k_ret (ret_tmps (ts := [4]) (v := .bool _) rfl rfl ?_)
    exact ⟨rfl, hK2.trans hK3 (by simp)⟩
  ·
    refine g_yes rfl rfl ?_
    refine m_sl rfl rfl ?_
    refine g_yes rfl rfl ?_
    refine o_call rfl rfl (rend_ok w3 _ c C (hS2.rd.new hK3) (by omega) hS2.le) (fun v w4 hv => ?_)
    obtain ⟨rfl, hK4⟩ := hv
    refine g_yes rfl rfl ?_
    refine b_lss rfl rfl ?_
    refine g_yes rfl rfl ?_
    refine m_bool rfl rfl ?_
    refine o_split (t := 23) rfl (fun h23 => ?_) (fun h23 => ?_)
    ·
      refine g_yes rfl rfl ?_
      refine m_int rfl rfl ?_
      refine g_yes rfl rfl ?_
      refine b_eql rfl rfl ?_
      refine g_yes rfl rfl ?_
      refine pick_t rfl rfl ?_
      refine pick_f rfl rfl ?_
      refine m_bool rfl rfl ?_
      refine o_nil ?_
      refine k_ret (ret_tmps (ts := [4]) (v := .bool _) rfl rfl ?_)
      exact ⟨congrArg Value.bool (decide_eq_true (d1 h23)), (hK2.trans hK3 (by simp)).trans hK4 (by simp)⟩
    ·
      refine g_no rfl rfl rfl ?_
      refine g_no rfl rfl rfl ?_
      refine g_yes rfl rfl ?_
      refine pick_f rfl rfl ?_
      refine pick_f rfl rfl ?_
      refine m_bool rfl rfl ?_
      refine o_nil ?_
      refine k_ret (ret_tmps (ts := [4]) (v := .bool _) rfl rfl ?_)
      exact absurd (d2 h23) h19
theorem ab_items {w : World} {a : Option Addr} {c g : Nat} {d : Bs} (hR : Rd w a (d.map u8v)) (hc : d.length ≤ c) (hB : Blk w g (itC (xA a c d) ++ itC (xB a c d)).toArray 37) : Items w (some ⟨g, 0, none⟩) [xA a c d, xB a c d] := by
  refine ⟨(hB.sl (len := 2) (sz := 3) rfl (by decide)).rd, fun x hx => ?_⟩
  simp at hx
  rcases hx with rfl | rfl
  · exact ⟨hR, hc⟩
  · exact ⟨hR, hc⟩
theorem ab_names (a : Option Addr) (c : Nat) (d : Bs) : ∀ x ∈ [xA a c d, xB a c d], ∀ w1, Ret Tryd.prog 66 [.string (bsStr x.name)] w1 (fun v w' => v = .bool true ∧ w' = w1) := by
  intro x hx w1
  simp at hx
  rcases hx with rfl | rfl
  · exact rname_ok w1 97#8 (by decide) (by decide) (by decide) (by decide)
  · exact rname_ok w1 98#8 (by decide) (by decide) (by decide) (by decide)
set_option maxHeartbeats 4000000 in
theorem over_ok (w : World) (a : Option Addr) (c : Nat) (d : Bs) (same : Bool) (hR : Rd w a (d.map u8v)) (hc : d.length ≤ c) :
    Ret Tryd.prog 4 [.slice a d.length c, .bool same] w (fun v w' => v = .bool true ∧ Keep [] w w') := by
  refine fn_enter (n := 72) Tryd.func4 rfl rfl (Nat.le_of_ble_eq_true rfl) (fun e => ?_)
  refine k_seq ?_
  refine k_region ?_
  refine m_bool rfl rfl ?_
  refine o_nil ?_
  refine k_seq ?_
  refine k_seq ?_
  refine k_region ?_
  refine o_call rfl rfl (packs_ok w) (fun v w2 hv => ?_)
  obtain ⟨rfl, hK2⟩ := hv
  refine u_notb rfl ?_
  refine o_nil ?_
  refine k_condb rfl (fun h12 => ?_) (fun h12 => ?_)
  ·
    refine k_seq ?_
    refine k_region ?_
    refine m_bool rfl rfl ?_
    refine o_nil ?_
    refine k_ret (ret_tmps (ts := [4]) (v := .bool _) rfl rfl ?_)
    exact absurd h12 (by decide)
  refine k_skip ?_
  refine k_seq ?_
  refine k_seq ?_
  refine k_region ?_
  refine m_sl rfl rfl ?_
  refine o_lens Tryd.underlying25 rfl ?_
  refine b_gtr rfl rfl ?_
  refine o_nil ?_
  refine k_cond rfl (fun h => ?_) (fun h => ?_)
  ·
    refine k_seq ?_
    refine k_region ?_
    refine m_bool rfl rfl ?_
    refine o_nil ?_
    refine k_ret (ret_tmps (ts := [4]) (v := .bool _) rfl rfl ?_)
    exact ⟨rfl, hK2⟩
  have hd : d.length ≤ 5000 := by omega
  refine k_skip ?_
  refine k_seq ?_
  refine k_region ?_
  refine m_sl rfl rfl ?_
  refine o_build (v := .agg (itC (xA a c d)).toArray) rfl (fun _ => by kernel_rfl) ?_
  refine m_sl rfl rfl ?_
  refine o_build (v := .agg (itC (xB a c d)).toArray) rfl (fun _ => by kernel_rfl) ?_
  refine o_bsl (E := 37) (cs := (itC (xA a c d) ++ itC (xB a c d)).toArray) rfl (fun _ => by kernel_rfl) (fun g3 w3 hB3 hK3 hb3 hZ3 => ?_)
  have hk3 := hK2.tr hK3
  refine o_call rfl rfl (rmake_ok w3 (some ⟨g3, 0, none⟩) 2 [xA a c d, xB a c d] (ab_items (hR.new hk3) hc hB3) (lay_ab hd) (ab_names a c d) (show [[97#8], [98#8]].Nodup by decide)) (fun v w4 hv => ?_)
  obtain ⟨u, rfl, ⟨a4, c4, rfl, hS4, hf4⟩, hK4⟩ := hv
  have hk4 := hk3.tr hK4
  have hl0 := lenAr a c d
  have hl1 := lenL a c d
  have hcop := @cop_eq a c d _ rfl
  have hset := @cop_set a c d _ rfl
  have hcl := @copA_len a c d
  have hlA := @copA_law a c d hd
  have hlZ := @copZ_law a c d hd
  rw [← hset] at hlZ
  rw [List.length_map] at hS4 ⊢
  generalize archB [xA a c d, xB a c d] = B at *
  generalize copA a c d = C at *
  generalize (locsB [xA a c d, xB a c d]).length = L at *
  refine m_any rfl rfl ?_
  refine o_extr (vs := [.slice a4 B.length c4, nv 0]) rfl rfl ?_
  refine o_extr (vs := [.slice a4 B.length c4, nv 0]) rfl rfl ?_
  refine m_sl rfl rfl ?_
  refine m_int rfl rfl ?_
  refine o_nil ?_
  refine k_seq ?_
  refine k_seq ?_
  refine k_region ?_
  refine m_int rfl rfl ?_
  refine b_neq rfl rfl ?_
  refine m_bool rfl rfl ?_
  refine o_false (t := 27) rfl (by decide) ?_
  refine g_yes rfl rfl ?_
  refine m_sl rfl rfl ?_
  refine g_yes rfl rfl ?_
  refine o_call rfl rfl (rend_ok w4 a4 c4 B hS4.rd (by omega) hS4.le) (fun v w5 hv => ?_)
  obtain ⟨rfl, hK5⟩ := hv
  have hk5 := hk4.tr hK5
  have hS5 := hS4.new hK5
  refine g_yes rfl rfl ?_
  refine b_lss rfl rfl ?_
  refine pick_f rfl rfl ?_
  refine o_nil ?_
  refine k_cond rfl (fun h => ?_) (fun h => ?_)
  ·
    refine k_seq ?_
    refine k_region ?_
    refine m_bool rfl rfl ?_
    refine o_nil ?_
    refine k_ret (ret_tmps (ts := [4]) (v := .bool _) rfl rfl ?_)
    exact ⟨rfl, hk5⟩
  refine k_skip ?_
  refine k_seq ?_
  refine k_region ?_
  refine o_bsl (E := 5) (cs := #[]) rfl (fun _ => by kernel_rfl) (fun g6 w6 hB6 hK6 hb6 hZ6 => ?_)
  have hX6 : SlX w5.heap.size w6 (some ⟨g6, 0, none⟩) 0 [] := ⟨hB6.sl (len := 0) (sz := 1) rfl (by decide), fun q hq => by cases hq; simp only; omega⟩
  refine m_sl rfl rfl ?_
  refine o_app8 (bs := []) (ys := B) (k := w5.heap.size) rfl rfl hX6 hK6.size (hS5.rd.new hK6) rfl (by simp; omega) (fun a7 c7 w7 hX7 hK7 hf7 => ?_)
  have hk57 : Keep [] w5 w7 := hX6.keep0 hK6 hK7
  have hk7 := hk5.tr hk57
  rw [List.nil_append] at hX7 ⊢
  obtain ⟨g7, cur7, hg7, hB7, hsz7⟩ := hX7.sl.blk (by omega)
  subst hg7
  have hc7 := hX7.sl.le
  have hg5 : w5.heap.size ≤ g7 := hX7.ge _ rfl
  refine m_sl rfl rfl ?_
  refine o_nil ?_
  refine k_seq ?_
  refine k_region ?_
  refine m_sl rfl rfl ?_
  refine o_lens Tryd.underlying25 rfl ?_
  refine n_sub rfl rfl (by omega) ?_
  refine n_sub rfl rfl (by omega) ?_
  rw [show (B.length : Int) - 22 - 94 = ((L : Nat) : Int) by omega]
  refine m_int rfl rfl ?_
  refine o_nil ?_
  refine k_seq ?_
  refine k_qk 11 rfl rfl rfl rfl rfl ?_
  refine q_step (fun w1 hC => m_sl rfl rfl (o_nil ⟨rfl, hC⟩)) ?_
  refine q_step (fun w1 hC => m_int rfl rfl (o_nil ⟨rfl, hC⟩)) ?_
  refine q_step (fun w1 hC => n_add rfl rfl (by omega) (o_nil ⟨rfl, hC⟩)) ?_
  refine q_step (fun w1 hC => m_int rfl rfl (o_nil ⟨rfl, hC⟩)) ?_
  refine q_step (fun w1 hC => n_add rfl rfl (by omega) (o_nil ⟨rfl, hC⟩)) ?_
  refine q_step (fun w1 hC => o_sllh (sz := 1) (lo := L + 47) (hi := L + 94) Tryd.underlying25 rfl rfl rfl rfl (by omega) (by omega) (o_nil ⟨rfl, hC⟩)) ?_
  refine q_step (fun w1 hC => m_sl rfl rfl (o_nil ⟨rfl, hC⟩)) ?_
  refine q_step (fun w1 hC => m_int rfl rfl (o_nil ⟨rfl, hC⟩)) ?_
  refine q_step (fun w1 hC => m_int rfl rfl (o_nil ⟨rfl, hC⟩)) ?_
  refine q_step (fun w1 hC => n_add rfl rfl (by omega) (o_nil ⟨rfl, hC⟩)) ?_
  refine q_step (fun w1 hC => o_sllh (sz := 1) (lo := L) (hi := L + 47) Tryd.underlying25 rfl rfl rfl rfl (by omega) (by omega) (o_nil ⟨rfl, hC⟩)) ?_
  refine q_nil ?_
  intro w8 hK8
  have hX8 := hX7.new hK8
  have hsl8 : (sub B L 47).length = 47 := by unfold sub; rw [List.length_take, List.length_drop]; omega
  refine o_copy (E := 5) (a0 := some ⟨g7, 0, none⟩) (lo := L + 47) (m := B.length) (xs := B.map u8v) (news := (sub B L 47).map u8v) Tryd.underlying25 rfl rfl rfl (by rw [List.length_map, hsl8]; omega) (by rw [List.length_map, hsl8]; omega) hX8.sl (sub_rd hX7.sl.rd hK8 (by omega) hc7) (by rw [List.length_map, hsl8]; omega) (u8_one _) (fun w9 hS9 hK9 => ?_)
  have hk9 : Keep [] w w9 := (hk7.tr hK8).tr1 (g := g7) hK9 (Nat.le_trans hk5.size hg5)
  have hS9 : Sl w9 5 1 (some ⟨g7, 0, none⟩) C.length c7 (C.map u8v) := by
   have e : (B.map u8v).take (L + 47) ++ (sub B L 47).map u8v ++ (B.map u8v).drop (L + 47 + ((sub B L 47).map u8v).length) = C.map u8v := by
     rw [List.length_map, hsl8, ← hcop, List.map_append, List.map_append, List.map_take, List.map_drop]
   rw [e, show B.length = C.length by omega] at hS9
   exact hS9
  rw [show B.length = C.length by omega]
  refine o_nil ?_
  refine k_seq ?_
  refine k_seq ?_
  refine k_region ?_
  refine m_bool rfl rfl ?_
  refine u_notb rfl ?_
  refine o_nil ?_
  refine k_condb rfl (fun h52 => ?_) (fun h52 => ?_)
  ·
    refine k_seq ?_
    refine k_region ?_
    refine m_sl rfl rfl ?_
    refine m_int rfl rfl ?_
    refine o_call rfl rfl (names2_ok w9 g7 c7 L C hS9 (by omega) (by omega) hlZ) (fun v w10 hv => ?_)
    obtain ⟨rfl, hK10⟩ := hv
    refine m_bool rfl rfl ?_
    refine o_nil ?_
    refine k_ret (ret_tmps (ts := [4]) (v := .bool _) rfl rfl ?_)
    exact ⟨rfl, hk9.tr1 hK10 (Nat.le_trans hk5.size hg5)⟩
  obtain ⟨d1, d2⟩ := hlA
  have hCne : dirE C ≠ 0 := by
   by_cases hE2 : endI C < 0
   · rw [d1 hE2]; decide
   · rw [d2 hE2]; decide
  refine k_skip ?_
  refine k_seq ?_
  refine k_region ?_
  refine m_sl rfl rfl ?_
  refine o_call rfl rfl (dir_ok w9 _ c7 C hS9.rd hS9.le (by omega) (fun hh => absurd hh hCne)) (fun v w10 hv => ?_)
  obtain ⟨a10, m10, c10, rfl, hK10, _, _⟩ := hv
  have hk10 := hk9.tr hK10
  refine m_any rfl rfl ?_
  refine o_extr (vs := [.slice a10 m10 c10, .int .i64 (dirE C)]) rfl rfl ?_
  refine o_extr (vs := [.slice a10 m10 c10, .int .i64 (dirE C)]) rfl rfl ?_
  refine m_sl rfl rfl ?_
  refine m_int rfl rfl ?_
  refine o_nil ?_
  refine k_seq ?_
  refine k_region ?_
  refine m_int rfl rfl ?_
  refine b_eql rfl rfl ?_
  refine m_bool rfl rfl ?_
  refine o_split (t := 63) rfl (fun h63 => ?_) (fun h63 => ?_)
  ·
    refine g_no rfl rfl rfl ?_
    refine g_no rfl rfl rfl ?_
    refine g_no rfl rfl rfl ?_
    refine g_no rfl rfl rfl ?_
    refine g_un rfl rfl ?_
    refine g_un rfl rfl ?_
    refine g_no rfl rfl rfl ?_
    refine pick_t rfl rfl ?_
    refine m_bool rfl rfl ?_
    refine o_nil ?_
    refine k_ret (ret_tmps (ts := [4]) (v := .bool _) rfl rfl ?_)
    exact ⟨rfl, hk10⟩
  ·
    refine g_yes rfl rfl ?_
    refine m_sl rfl rfl ?_
    refine g_yes rfl rfl ?_
    refine o_call rfl rfl (rend_ok w10 _ c7 C (hS9.rd.new hK10) (by omega) hS9.le) (fun v w11 hv => ?_)
    obtain ⟨rfl, hK11⟩ := hv
    refine g_yes rfl rfl ?_
    refine b_lss rfl rfl ?_
    refine g_yes rfl rfl ?_
    refine m_bool rfl rfl ?_
    refine o_split (t := 67) rfl (fun h67 => ?_) (fun h67 => ?_)
    ·
      refine g_yes rfl rfl ?_
      refine m_int rfl rfl ?_
      refine g_yes rfl rfl ?_
      refine b_eql rfl rfl ?_
      refine g_yes rfl rfl ?_
      refine pick_t rfl rfl ?_
      refine pick_f rfl rfl ?_
      refine m_bool rfl rfl ?_
      refine o_nil ?_
      refine k_ret (ret_tmps (ts := [4]) (v := .bool _) rfl rfl ?_)
      exact ⟨congrArg Value.bool (decide_eq_true (d1 h67)), hk10.tr hK11⟩
    ·
      refine g_no rfl rfl rfl ?_
      refine g_no rfl rfl rfl ?_
      refine g_yes rfl rfl ?_
      refine pick_f rfl rfl ?_
      refine pick_f rfl rfl ?_
      refine m_bool rfl rfl ?_
      refine o_nil ?_
      refine k_ret (ret_tmps (ts := [4]) (v := .bool _) rfl rfl ?_)
      exact absurd (d2 h67) h63
end Go.Proofs.YtiapgmfooclpcaaDoor
