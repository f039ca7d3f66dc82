/- Ops: rows of instructions in memory; the walks of Read and At. No condition beyond what each contract names. -/
import Derived.Test.YtmdkinedbmjieaaOe
namespace Go.Proofs.Ytmdkinedbmjieaa
open Go.RowKit E
set_option linter.unusedVariables false
set_option linter.unusedSimpArgs false
set_option maxRecDepth 100000
attribute [local irreducible] ow qw kw kq cw opW Ret
theorem inf4 : infB Try.prog 4 1 1 (.bool false) := ⟨_, rfl, rfl, rfl, rfl⟩
/-- a slice of ints that can be read -/
def GR (w : World) (v : Value) (xs : List Int) : Prop := ∃ a c, v = .slice a xs.length c ∧ Rd w a (xs.map iv) ∧ xs.length ≤ 9223372036854775807
theorem GR.one {w : World} {v : Value} {xs : List Int} (h : GR w v xs) : v.oneCell' = true := by
  obtain ⟨a, c, rfl, _⟩ := h; rfl
theorem GR.new {w w' : World} {v : Value} {xs : List Int} (h : GR w v xs) (hk : Keep [] w w') : GR w' v xs := by
  obtain ⟨a, c, h1, h2, h3⟩ := h; exact ⟨a, c, h1, h2.new hk, h3⟩
theorem GS.gr {base : Nat} {w : World} {v : Value} {xs : List Int} (h : GS base w v xs) : GR w v xs := by
  obtain ⟨a, c, h1, h2, h3⟩ := h; exact ⟨a, c, h1, h2.rd, sl_max h2⟩
theorem insC.oneR {w : World} {cs : List Value} {x : Ins} (h : insC (GR w) cs x) : ∀ u ∈ cs, u.oneCell' = true := by
  obtain ⟨kv, jv, rfl, h2, h3⟩ := h
  intro u hu
  simp only [List.mem_cons, List.not_mem_nil, or_false] at hu
  rcases hu with rfl | rfl | rfl | rfl | rfl | rfl | rfl
  all_goals first | rfl | exact h2.one | exact h3.one
/-- the cells of a row of instructions -/
inductive Rows (G : Value → List Int → Prop) : List Value → List Ins → Prop
  | nil : Rows G [] []
  | cons {cs vs : List Value} {x : Ins} {xs : List Ins} : insC G cs x → Rows G vs xs → Rows G (cs ++ vs) (x :: xs)
theorem Rows.mono {G G' : Value → List Int → Prop} {vs : List Value} {xs : List Ins} (h : Rows G vs xs) (hg : ∀ v l, G v l → G' v l) : Rows G' vs xs := by
  induction h with
  | nil => exact .nil
  | cons h1 _ ih => exact .cons (h1.mono hg) ih
theorem Rows.len {G : Value → List Int → Prop} {vs : List Value} {xs : List Ins} (h : Rows G vs xs) : vs.length = xs.length * 7 := by
  induction h with
  | nil => rfl
  | cons h1 _ ih => rw [List.length_append, h1.len, ih, List.length_cons]; omega
theorem Rows.snoc {G : Value → List Int → Prop} {vs cs : List Value} {xs : List Ins} {x : Ins} (h : Rows G vs xs) (hx : insC G cs x) : Rows G (vs ++ cs) (xs ++ [x]) := by
  induction h with
  | nil => rw [List.nil_append, List.nil_append]; have := Rows.cons hx (.nil (G := G)); rwa [List.append_nil] at this
  | cons h1 _ ih => rw [List.append_assoc]; exact .cons h1 ih
theorem Rows.get {G : Value → List Int → Prop} {vs : List Value} {xs : List Ins} (h : Rows G vs xs) : ∀ {i : Nat} {x : Ins}, xs[i]? = some x → ∃ cs, insC G cs x ∧ ∀ j v, cs[j]? = some v → vs[i * 7 + j]? = some v := by
  induction h with
  | nil => intro i x hx; simp at hx
  | @cons cs vs x xs h1 _ ih =>
    intro i y hy
    cases i with
    | zero =>
      simp at hy
      subst hy
      refine ⟨cs, h1, fun j v hv => ?_⟩
      rw [Nat.zero_mul, Nat.zero_add, List.getElem?_append_left (List.getElem?_eq_some_iff.1 hv).1]
      exact hv
    | succ i =>
      obtain ⟨cs', h2, h3⟩ := ih (by simpa using hy)
      refine ⟨cs', h2, fun j v hv => ?_⟩
      rw [List.getElem?_append_right (by rw [h1.len]; omega), h1.len, show (i + 1) * 7 + j - 7 = i * 7 + j by omega]
      exact h3 j v hv
def atI (xs : List Ins) (t : Int) : Int := match xs.findIdx? (fun x => decide (x.p = t)) with | some i => (i : Int) | none => -1
theorem at_ok (w : World) (a : Option Addr) (c : Nat) (vs : List Value) (xs : List Ins) (t : Int) (hR : Rd w a vs) (hX : Rows (GR w) vs xs) (hl : xs.length ≤ 9223372036854775807) :
    Ret Try.prog 16 [.slice a xs.length c, .int .i64 t] w (fun v w' => v = .int .i64 (atI xs t) ∧ Keep [] w w') := by
  refine fn_enter (n := 20) Try.func16 rfl rfl (Nat.le_of_ble_eq_true rfl) (fun e => ?_)
  refine k_seq ?_
  refine k_region ?_
  refine m_int rfl rfl ?_
  refine o_nil ?_
  refine k_seq ?_
  refine k_seq ?_
  refine k_region ?_
  refine m_sl rfl rfl ?_
  refine o_lens Try.underlying24 rfl ?_
  refine m_int rfl rfl ?_
  refine o_nil ?_
  refine k_block ?_
  refine k_loop (σ := Nat) (fun i => [(1, .int .i64 t), (7, .slice a xs.length c), (8, .int .i64 (xs.length : Int)), (9, .int .i64 (i : Int))]) (fun i w' => i ≤ xs.length ∧ (∀ j x, j < i → xs[j]? = some x → x.p ≠ t) ∧ Keep [] w w') (fun i => xs.length - i) 0 ⟨rfl, rfl, rfl, rfl, trivial⟩ ⟨Nat.zero_le _, fun j x hj => by omega, Keep.refl _ _⟩ (fun i e w1 hJ => ?_)
  obtain ⟨hi, hno, hK1⟩ := hJ
  refine k_seq ?_
  refine k_region ?_
  refine b_lss rfl rfl ?_
  refine o_nil ?_
  refine k_seq ?_
  refine k_cond rfl (fun h => ?_) (fun h => ?_)
  rotate_left
  ·
    refine k_exit rfl ?_
    refine k_seq ?_
    refine k_region ?_
    refine m_int rfl rfl ?_
    refine o_nil ?_
    refine k_ret (ret_tmps (ts := [4]) (v := .int _ _) rfl rfl ?_)
    refine ⟨congrArg (Value.int .i64) ?_, hK1⟩
    unfold atI
    rw [List.findIdx?_eq_none_iff.2 (fun x hx => by
     obtain ⟨j, hj, rfl⟩ := List.getElem_of_mem hx
     exact decide_eq_false (hno j _ (by omega) (List.getElem?_eq_getElem hj)))]
  have hin : i < xs.length := by omega
  obtain ⟨x, hx⟩ : ∃ x, xs[i]? = some x := ⟨_, List.getElem?_eq_getElem hin⟩
  obtain ⟨cs, hcs, hat⟩ := hX.get hx
  have h7 := hcs.len
  obtain ⟨v0, hv0⟩ : ∃ v0, cs[0]? = some v0 := ⟨_, List.getElem?_eq_getElem (by omega)⟩
  obtain ⟨b1, o1, rfl, _⟩ := hR _ _ (hat 0 v0 hv0)
  refine k_skip ?_
  refine k_seq ?_
  refine k_block ?_
  refine k_seq ?_
  refine k_region ?_
  refine m_int rfl rfl ?_
  refine o_ixs (sz := 7) Try.underlying24 rfl rfl rfl hin ?_
  have hld : ∀ j v, cs[j]? = some v → w1.cell? ⟨b1, o1 + i * 7 + j, none⟩ = some v := fun j v hv => by rw [Nat.add_assoc]; exact hR.cellK hK1 (hat j v hv)
  refine o_lda (xs := cs) rfl rfl (by rw [h7]; rfl) hld ?_
  refine o_alloc inf38 rfl (fun b w2 hB2 hK2 hb2 hZ2 => ?_)
  refine m_int rfl rfl ?_
  refine o_sta (xs := cs) rfl rfl (by rw [h7]; rfl) hcs.oneR hB2 (by rw [h7]; exact Nat.le_refl 7) (fun w3 hB3 hK3 hZ3 => ?_)
  have hB3' : Blk w3 b (([] ++ cs) ++ []).toArray 38 := by rw [h7] at hB3; exact hB3
  rw [List.nil_append, List.append_nil] at hB3'
  have hK13 : Keep [] w w3 := (hK1.tr hK2).trans hK3 (by simp; have := hK1.size; omega)
  refine o_nil ?_
  refine k_seq ?_
  refine k_region ?_
  refine o_fld0 rfl rfl ?_
  refine o_ld (v := iv x.p) rfl rfl (hB3'.at (by obtain ⟨kv, jv, rfl, _⟩ := hcs; rfl)) ?_
  refine m_int rfl rfl ?_
  refine b_eql rfl rfl ?_
  refine o_nil ?_
  refine k_cond rfl (fun h => ?_) (fun h => ?_)
  ·
    refine k_seq ?_
    refine k_region ?_
    refine m_int rfl rfl ?_
    refine m_int rfl rfl ?_
    refine o_nil ?_
    refine k_ret (ret_tmps (ts := [4]) (v := .int _ _) rfl rfl ?_)
    refine ⟨congrArg (Value.int .i64) ?_, hK13⟩
    unfold atI
    have hxi : (xs[i]).p = t := by
     rw [List.getElem?_eq_getElem hin] at hx
     rw [Option.some.inj hx]; exact h
    rw [List.findIdx?_eq_some_iff_getElem.2 ⟨hin, decide_eq_true hxi, fun j hj => by
     have := hno j _ hj (List.getElem?_eq_getElem (by omega))
     simpa using this⟩]
  have hne := h
  refine k_skip ?_
  refine k_blk ?_
  refine k_region ?_
  refine n_add rfl rfl (by omega) ?_
  refine m_int rfl rfl ?_
  refine o_nil ?_
  refine k_goal ⟨i + 1, ⟨rfl, rfl, rfl, rfl, trivial⟩, ⟨by omega, fun j y hj hy => ?_, hK13⟩, by omega⟩
  by_cases hji : j = i
  · subst hji
    rw [hx] at hy
    rw [← Option.some.inj hy]; exact hne
  · exact hno j y (by omega) hy
/-- what Read answers -/
def rdV (cs : Bs) : List Ins := if cs.length ≤ 4096 then (rd cs).getD [] else []
def rdE (cs : Bs) : Int := if cs.length ≤ 4096 then (if (rd cs).isSome then 0 else 25) else 8
/-- Read's state -/
structure RS (H mm mb : Nat) (a5 : Option Addr) (c5 : Nat) (w : World) (xs : List Ins) (vs : List Value) (m : List (Int × Value)) : Prop where
  sl : Sl w 38 7 a5 xs.length c5 vs
  rows : Rows (GS H w) vs xs
  fresh : ∀ z, a5 = some z → H ≤ z.block
  mp : Mp w mb (Value.int .i64) m
  get : ∀ i, getM m i = if i ∈ xs.map Ins.p then some (.bool true) else none
  tab : Tab w mm
theorem RS.keep {H mm mb : Nat} {a5 : Option Addr} {c5 : Nat} {S : List Nat} {w w' : World} {xs : List Ins} {vs : List Value} {m : List (Int × Value)} (h : RS H mm mb a5 c5 w xs vs m) (hk : Keep S w w') (h1 : ∀ b ∈ S, b ∉ blkOf a5) (h2 : ∀ b ∈ S, ∀ cs, ¬ Blk w b cs 3) (h3 : ∀ b ∈ S, b ≠ mb ∧ b ≠ mm) : RS H mm mb a5 c5 w' xs vs m :=
  ⟨h.sl.keep hk (off_blk fun b hb hm => h1 b hm hb), h.rows.mono (fun v l hv => hv.keep hk (fun b hb => .inr (h2 b hb))), h.fresh, h.mp.keep hk (fun hm => (h3 _ hm).1 rfl), h.get, h.tab.keep hk (fun hm => (h3 _ hm).2 rfl)⟩
theorem E.Mp.noblk {κ : Type} {w : World} {r : Nat} {kv : κ → Value} {m : List (κ × Value)} (h : Mp w r kv m) : ∀ cs T, ¬ Blk w r cs T := fun cs T hb => h.blk hb rfl
end Go.Proofs.Ytmdkinedbmjieaa
