/- Helpers of the walks: rows of bytes and ints, blocks by type, what is new. No condition. -/
import Derived.Test.YtbfphjhahgpndaaEz
import Derived.Test.YtbfphjhahgpndaaFrm
import Derived.Test.YtbfphjhahgpndaaMap
namespace Go.Proofs.Ytbfphjhahgpndaa
open Go.RowKit
set_option linter.unusedVariables false
set_option linter.unusedSimpArgs false
namespace E

def iv (x : Int) : Value := .int .i64 x
theorem iv_at (xs : List Int) (i : Nat) (h : i < xs.length) : (xs.map iv)[i]? = some (.int .i64 (xs[i])) := by
  rw [List.getElem?_map, List.getElem?_eq_getElem h]; rfl
theorem iv_one (xs : List Int) : ∀ u ∈ xs.map iv, u.oneCell' = true := by
  intro u hu
  obtain ⟨x, _, rfl⟩ := List.mem_map.1 hu
  rfl
theorem u8_at (xs : List (BitVec 8)) (i : Nat) (h : i < xs.length) : (xs.map u8v)[i]? = some (.int .u8 ((xs[i]).toNat : Int)) := by
  rw [List.getElem?_map, List.getElem?_eq_getElem h]; rfl
theorem u8_one (xs : List (BitVec 8)) : ∀ u ∈ xs.map u8v, u.oneCell' = true := by
  intro u hu
  obtain ⟨x, _, rfl⟩ := List.mem_map.1 hu
  rfl
theorem Blk.at {w : World} {b i : Nat} {cs : Array Value} {T : TypeId} {v : Value} (h : Blk w b cs T) (hi : cs[i]? = some v) : w.cell? ⟨b, i, none⟩ = some v := by rw [h.cell, hi]
theorem Blk.kat {w w' : World} {b i : Nat} {cs : Array Value} {T : TypeId} {v : Value} (h : Blk w b cs T) (hk : Keep [] w w') (hi : cs[i]? = some v) : w'.cell? ⟨b, i, none⟩ = some v := (h.keep hk (by simp)).at hi
theorem Blk.ty {w : World} {b : Nat} {cs cs' : Array Value} {T T' : TypeId} (h : Blk w b cs T) (h' : Blk w b cs' T') : T = T' := by
  have := h.symm.trans h'
  simp at this
  exact this.2
/-- a block of another type is no slice's -/
theorem Sl.off {w : World} {E T : TypeId} {sz : Nat} {a : Option Addr} {m c r : Nat} {xs : List Value} {cs : Array Value} (h : Sl w E sz a m c xs) (hb : Blk w r cs T) (hT : E ≠ T) : Off [r] a := by
  rintro p rfl
  obtain ⟨_, h⟩ := h
  rcases h with ⟨h, _⟩ | ⟨g, cur, hg, hb', _⟩
  · simp at h
  · simp at hg
    subst hg
    intro hr
    simp at hr
    subst hr
    exact hT (hb'.ty hb)
/-- a slice's block is none of another type -/
theorem Sl.notin {w : World} {E T : TypeId} {sz : Nat} {a : Option Addr} {m c r : Nat} {xs : List Value} {cs : Array Value} (h : Sl w E sz a m c xs) (hb : Blk w r cs T) (hT : E ≠ T) : r ∉ blkOf a := by
  cases a with
  | none => simp [blkOf]
  | some p =>
    have := h.off hb hT p rfl
    simp [blkOf] at this ⊢
    exact fun e => this e.symm
/-- slices of two types have no block together -/
theorem Sl.off2 {w : World} {E E' : TypeId} {sz sz' : Nat} {a a' : Option Addr} {m c m' c' : Nat} {xs xs' : List Value} (h : Sl w E sz a m c xs) (h' : Sl w E' sz' a' m' c' xs') (hT : E ≠ E') : Off (blkOf a') a := by
  cases a' with
  | none => intro p _; simp [blkOf]
  | some q =>
    obtain ⟨_, h'⟩ := h'
    rcases h' with ⟨h0, _⟩ | ⟨g, cur, hg, hb', _⟩
    · simp at h0
    · simp at hg
      subst hg
      exact h.off hb' hT
/-- a slice whose block is below a bound, against one that is not -/
theorem off_lt {a : Option Addr} {S : List Nat} {k : Nat} (h : ∀ p, a = some p → p.block < k) (hS : ∀ b ∈ S, k ≤ b) : Off S a := by
  intro p hp hm
  have := h p hp
  have := hS _ hm
  omega
theorem Keep.trb {w w1 w2 : World} {a : Option Addr} (h : Keep [] w w1) (h' : Keep (blkOf a) w1 w2) (hf : ∀ p, a = some p → w.heap.size ≤ p.block) : Keep [] w w2 :=
  h.trans h' (by
    intro b hb hl
    cases a with
    | none => simp [blkOf] at hb
    | some p =>
      have := hf p rfl
      simp [blkOf] at hb
      omega)
theorem fresh_app {k : Nat} {w w' : World} {a a2 : Option Addr} (hf : ∀ q, a = some q → k ≤ q.block) (hk : k ≤ w.heap.size) (hv : (a2 = a ∧ w'.heap.size = w.heap.size) ∨ (∃ g, a2 = some ⟨g, 0, none⟩ ∧ w.heap.size = g ∧ w'.heap.size = g + 1)) :
    ∀ q, a2 = some q → k ≤ q.block := by
  intro q hq
  rcases hv with ⟨rfl, _⟩ | ⟨g, rfl, h, _⟩
  · exact hf q hq
  · simp at hq; subst hq; simp only; omega
/-- a new slice -/
def New (w w' : World) (E : TypeId) (v : Value) (xs : List Value) : Prop := ∃ a2 c2, v = .slice a2 xs.length c2 ∧ Sl w' E 1 a2 xs.length c2 xs ∧ ∀ q, a2 = some q → w.heap.size ≤ q.block
theorem New.nil {w w' : World} {E : TypeId} : New w w' E (.slice none 0 0) [] := ⟨none, 0, rfl, Sl.nil _ _ _, by simp⟩
theorem ofN (k : Nat) (h : k < 18446744073709551616) : (BitVec.ofInt 64 (k : Int)).toNat = k := by
  rw [BitVec.toNat_ofInt]; omega
theorem sl_max {w : World} {E : TypeId} {sz : Nat} {a : Option Addr} {m c : Nat} {xs : List Value} (h : Sl w E sz a m c xs) : m ≤ 9223372036854775807 := by
  obtain ⟨_, h⟩ := h
  rcases h with ⟨_, rfl, _⟩ | ⟨g, cur, _, _, h1, h2, _⟩
  · omega
  · simp only [maxLen] at h2; omega
/-- no goods: Keep of more -/
theorem Keep.also {S : List Nat} {w w' : World} (h : Keep [] w w') : Keep S w w' := h.mono (by simp)
/-- one cell of a slice's own block is written -/
theorem Sl.set {w w' : World} {E : TypeId} {g m c k : Nat} {xs : List Value} {cur : Array Value} {v : Value} (h : Sl w E 1 (some ⟨g, 0, none⟩) m c xs) (hk : k < m) (hc : Blk w g cur E) (hb : Blk w' g (cur.setIfInBounds (0 + k) v) E) :
    Sl w' E 1 (some ⟨g, 0, none⟩) m c (xs.set k v) := by
  obtain ⟨hl, h⟩ := h
  rcases h with ⟨h, _⟩ | ⟨g', cur', hg, hb', h1, h2, h3, h4⟩
  · simp at h
  · simp at hg
    subst hg
    obtain rfl := hb'.inj hc
    refine ⟨by simpa using hl, .inr ⟨g, _, rfl, hb, h1, h2, by simpa using h3, ?_⟩⟩
    rw [Nat.zero_add, Nat.mul_one] at *
    rw [Array.toList_setIfInBounds, ← h4, List.take_set]
theorem Sl.blk {w : World} {E : TypeId} {sz m c : Nat} {a : Option Addr} {xs : List Value} (h : Sl w E sz a m c xs) (hm : 0 < m) : ∃ g cur, a = some ⟨g, 0, none⟩ ∧ Blk w g cur E ∧ m * sz ≤ cur.size := by
  obtain ⟨_, h⟩ := h
  rcases h with ⟨_, h, _⟩ | ⟨g, cur, hg, hb, h1, h2, h3, h4⟩
  · omega
  · exact ⟨g, cur, hg, hb, by rw [h3]; exact Nat.mul_le_mul_right _ h1⟩
/-- what was turned lies from k on, and is of these types -/
def KeepT (Ts : List TypeId) (k : Nat) (w w' : World) : Prop := ∃ S, Keep S w w' ∧ ∀ b ∈ S, k ≤ b ∧ ∃ cs T, T ∈ Ts ∧ Blk w b cs T
theorem Keep.t {Ts : List TypeId} {k : Nat} {w w' : World} (h : Keep [] w w') : KeepT Ts k w w' := ⟨[], h, by simp⟩
theorem Keep.t1 {Ts : List TypeId} {k r : Nat} {w w' : World} {cs : Array Value} {T : TypeId} (h : Keep [r] w w') (hk : k ≤ r) (hb : Blk w r cs T) (hT : T ∈ Ts) : KeepT Ts k w w' :=
  ⟨[r], h, by intro b hm; simp at hm; subst hm; exact ⟨hk, cs, T, hT, hb⟩⟩
theorem Keep.ts {Ts : List TypeId} {k : Nat} {w w' : World} {E : TypeId} {sz m c : Nat} {a : Option Addr} {xs : List Value} (h : Keep (blkOf a) w w') (hs : Sl w E sz a m c xs) (hk : ∀ q, a = some q → k ≤ q.block) (hT : E ∈ Ts) : KeepT Ts k w w' := by
  refine ⟨blkOf a, h, fun b hm => ?_⟩
  cases a with
  | none => simp [blkOf] at hm
  | some p =>
    simp [blkOf] at hm
    subst hm
    obtain ⟨_, hs⟩ := hs
    rcases hs with ⟨h0, _⟩ | ⟨g, cur, hg, hb, _⟩
    · simp at h0
    · simp at hg
      subst hg
      exact ⟨hk _ rfl, cur, E, hT, hb⟩
theorem KeepT.tr {Ts : List TypeId} {k : Nat} {w w1 w2 : World} (h : KeepT Ts k w w1) (h' : KeepT Ts k w1 w2) : KeepT Ts k w w2 := by
  obtain ⟨S, hk, hS⟩ := h
  obtain ⟨S', hk', hS'⟩ := h'
  refine ⟨S ++ S'.filter (fun b => decide (b < w.heap.size)), (hk.mono (by intro b hb; simp [hb])).trans hk' (by intro b hb hl; simp [hb, hl]), fun b hb => ?_⟩
  rcases List.mem_append.1 hb with hb | hb
  · exact hS b hb
  · simp at hb
    by_cases hm : b ∈ S
    · exact hS b hm
    · obtain ⟨h1, cs, T, hT, hB⟩ := hS' b hb.1
      exact ⟨h1, cs, T, hT, (hk.block b hb.2 hm).symm.trans hB⟩
theorem KeepT.mono {Ts Ts' : List TypeId} {k k' : Nat} {w w' : World} (h : KeepT Ts k w w') (ht : ∀ T ∈ Ts, T ∈ Ts') (hk : k' ≤ k) : KeepT Ts' k' w w' := by
  obtain ⟨S, h1, h2⟩ := h
  refine ⟨S, h1, fun b hb => ?_⟩
  obtain ⟨h3, cs, T, hT, hB⟩ := h2 b hb
  exact ⟨by omega, cs, T, ht T hT, hB⟩
theorem KeepT.below {Ts : List TypeId} {k : Nat} {w0 w w' : World} (h : KeepT Ts k w w') (h0 : Keep [] w0 w) (hk : w0.heap.size ≤ k) : Keep [] w0 w' := by
  obtain ⟨S, h1, h2⟩ := h
  exact h0.trans h1 (by intro b hb hl; have := (h2 b hb).1; omega)
theorem KeepT.size {Ts : List TypeId} {k : Nat} {w w' : World} (h : KeepT Ts k w w') : w.heap.size ≤ w'.heap.size := by
  obtain ⟨S, h1, _⟩ := h
  exact h1.size
theorem Blk.kt {Ts : List TypeId} {k : Nat} {w w' : World} {b : Nat} {cs : Array Value} {T : TypeId} (h : Blk w b cs T) (hk : KeepT Ts k w w') (hT : T ∉ Ts) : Blk w' b cs T := by
  obtain ⟨S, h1, h2⟩ := hk
  refine h.keep h1 (fun hm => ?_)
  obtain ⟨_, cs', T', hT', hB⟩ := h2 b hm
  exact hT (h.ty hB ▸ hT')
theorem Sl.kt {Ts : List TypeId} {k : Nat} {w w' : World} {E : TypeId} {sz m c : Nat} {a : Option Addr} {xs : List Value} (h : Sl w E sz a m c xs) (hk : KeepT Ts k w w') (hT : E ∉ Ts) : Sl w' E sz a m c xs := by
  refine ⟨h.1, ?_⟩
  rcases h.2 with h2 | ⟨g, cur, rfl, hb, h1⟩
  · exact .inl h2
  · exact .inr ⟨g, cur, rfl, hb.kt hk hT, h1⟩
/-- what lies below k stays -/
theorem Rd.kt {Ts : List TypeId} {k : Nat} {w w' : World} {a : Option Addr} {xs : List Value} (h : Rd w a xs) (hk : KeepT Ts k w w') (ha : ∀ p, a = some p → p.block < k) : Rd w' a xs := by
  obtain ⟨S, h1, h2⟩ := hk
  refine h.keep h1 (off_lt ha (fun b hb => (h2 b hb).1))
theorem Rd.keepN {S : List Nat} {w w' : World} {a : Option Addr} {xs : List Value} (h : Rd w a xs) (hk : Keep S w w') (hn : xs ≠ [] → Off S a) : Rd w' a xs := by
  cases xs with
  | nil => exact Rd.nil _ _
  | cons x xs => exact h.keep hk (hn (by simp))
theorem Rd.ltn {w : World} {a : Option Addr} {xs : List Value} (h : Rd w a xs) (hn : xs ≠ []) : ∀ p, a = some p → p.block < w.heap.size := by
  obtain ⟨p, rfl, hp⟩ := h.lt (List.length_pos_iff.2 hn)
  intro q hq
  cases hq
  exact hp
theorem Rd.ktN {Ts : List TypeId} {k : Nat} {w w' : World} {a : Option Addr} {xs : List Value} (h : Rd w a xs) (hk : KeepT Ts k w w') (ha : xs ≠ [] → ∀ p, a = some p → p.block < k) : Rd w' a xs := by
  cases xs with
  | nil => exact Rd.nil _ _
  | cons x xs => exact h.kt hk (ha (by simp))
theorem Mp.kt {κ : Type} {kv : κ → Value} {l : List (κ × Value)} {Ts : List TypeId} {k : Nat} {w w' : World} {r : Nat} (h : Mp w r kv l) (hk : KeepT Ts k w w') : Mp w' r kv l := by
  obtain ⟨S, h1, h2⟩ := hk
  refine h.keep h1 (fun hm => ?_)
  obtain ⟨_, cs', T', hT', hB⟩ := h2 r hm
  obtain ⟨es, clock, h, _⟩ := h
  unfold Blk at hB
  rw [h] at hB
  simp at hB
/-- min of three integers -/
theorem o_min3 {P : Program} {n : Nat} {e : Env} {w : World} {l0 l : List Oper} {K : Env → World → Prop} {d : Nat} {T : TypeId} {pos : String} {af : Array Edge} {x y z : Operand} {k : IntKind} {a b c : Int} {ts : Array TypeId} (hx : ev n e x = .int k a) (hy : ev n e y = .int k b) (hz : ev n e z = .int k c) (h : ow P n l0 K l (upd e d (.int k (if c < (if b < a then b else a) then c else (if b < a then b else a)))) w) :
    ow P n l0 K (⟨some d, .call ⟨.builtin .min, #[x, y, z], ts⟩, T, pos, af, none⟩ :: l) e w := by
  refine o_run (v := .int k (if c < (if b < a then b else a) then c else (if b < a then b else a))) (w' := w) ?_ h
  simp [execOp, resolve, invoke, builtin, hx, hy, hz, Builtin.min_, Builtin.min2]
/-! ### whole structs and arrays -/
def isAggB (P : Program) (t : TypeId) : Bool :=
  match P.underlying t with
  | some (.struct _) | some (.array _ _) => true
  | _ => false
theorem run_isAggT {P : Program} {w : World} {t : TypeId} (h : isAggB P t = true) : (isAgg t).run P w = .ok true w := by
  unfold isAggB at h
  cases hu : P.underlying t with
  | none => rw [hu] at h; cases h
  | some dd => rw [hu] at h; cases dd <;> simp at h <;> simp [isAgg, run_underlying hu]
theorem run_loadCellsFrom {P : Program} {w : World} {b o : Nat} : ∀ (xs : List Value) (i : Nat) (acc : Array Value), (∀ j v, xs[j]? = some v → w.cell? ⟨b, o + (i + j), none⟩ = some v) →
    (loadCellsFrom ⟨b, o, none⟩ i xs.length acc).run P w = .ok (acc ++ xs.toArray) w
  | [], i, acc, _ => by simp [loadCellsFrom]
  | x :: xs, i, acc, h => by
    have h0 : w.cell? ((⟨b, o, none⟩ : Addr).add i) = some x := by
      have := h 0 x rfl
      rw [Addr.add_lit]
      exact this
    have ih := run_loadCellsFrom (P := P) (w := w) (b := b) (o := o) xs (i + 1) (acc.push x) (fun j v hv => by
      have := h (j + 1) v hv
      rwa [show i + (j + 1) = i + 1 + j by omega] at this)
    simp only [List.length_cons, loadCellsFrom]
    simp [h0, ih]
/-- a struct or an array is read -/
theorem o_lda {P : Program} {n : Nat} {e : Env} {w : World} {l0 l : List Oper} {K : Env → World → Prop} {d : Nat} {T : TypeId} {pos : String} {af : Array Edge} {x : Operand} {t : TypeId} {b o : Nat} {xs : List Value} (hx : ev n e x = .pointer (some ⟨b, o, none⟩)) (ht : isAggB P t = true) (hs : szB P t xs.length = true)
    (hc : ∀ j v, xs[j]? = some v → w.cell? ⟨b, o + j, none⟩ = some v) (h : ow P n l0 K l (upd e d (.agg xs.toArray)) w) : ow P n l0 K (⟨some d, .load t x, T, pos, af, none⟩ :: l) e w := by
  refine o_run (v := .agg xs.toArray) (w' := w) ?_ h
  have hr := run_loadCellsFrom (P := P) (w := w) (b := b) (o := o) xs 0 #[] (fun j v hv => by rw [Nat.zero_add]; exact hc j v hv)
  simp [execOp, hx, Instr.loadAt, Instr.sureAddr, loadVar, run_isAggT ht, run_sizeOf hs, loadCells, hr]
theorem run_storeCells {P : Program} {b o : Nat} {S : TypeId} : ∀ (xs : List Value) (i : Nat) (w : World) (cs : Array Value), Blk w b cs S → o + i + xs.length ≤ cs.size → (∀ u ∈ xs, u.oneCell' = true) →
    ∃ w', (storeCells ⟨b, o, none⟩ xs i).run P w = .ok () w' ∧ Blk w' b (cs.toList.take (o + i) ++ xs ++ cs.toList.drop (o + i + xs.length)).toArray S ∧ Keep [b] w w' ∧ w'.heap.size = w.heap.size
  | [], i, w, cs, hb, hl, h1 => by
    refine ⟨w, by simp [storeCells], ?_, Keep.refl _ _, rfl⟩
    simpa using hb
  | x :: xs, i, w, cs, hb, hl, h1 => by
    simp at hl
    have hi : o + i < cs.size := by omega
    have hc : w.cell? ⟨b, o + i, none⟩ = some cs[o + i] := by rw [hb.cell]; simp [hi]
    have hf := frozen_of_row w b (o + i) cs S hb
    have hx := h1 x (by simp)
    have hst := run_store P w ⟨b, o + i, none⟩ x .plain hx
    have hB : Blk (w.setCell ⟨b, o + i, none⟩ x) b (cs.setIfInBounds (o + i) x) S := heap_setCell_same w b (o + i) cs S x hb
    obtain ⟨w', hr, hB', hK, hZ⟩ := run_storeCells (P := P) (b := b) (o := o) (S := S) xs (i + 1) _ _ hB (by simp; omega) (fun u hu => h1 u (by simp [hu]))
    have hk1 : Keep [b] w (w.setCell ⟨b, o + i, none⟩ x) := ⟨rfl, rfl, rfl, by simp, fun k _ hk => heap_setCell_other w _ k x (by simpa using hk)⟩
    refine ⟨w', ?_, ?_, hk1.trans hK (fun _ h _ => h), by rw [hZ]; simp⟩
    · have hadd : Addr.add ⟨b, o, none⟩ i = ⟨b, o + i, none⟩ := Addr.add_lit b o i
      simp [storeCells, hadd, hst, hc, hf, hr]
    · have e : (cs.setIfInBounds (o + i) x).toList.take (o + (i + 1)) ++ xs ++ (cs.setIfInBounds (o + i) x).toList.drop (o + (i + 1) + xs.length) = cs.toList.take (o + i) ++ (x :: xs) ++ cs.toList.drop (o + i + (x :: xs).length) := by
        rw [Array.toList_setIfInBounds, List.drop_set_of_lt (by omega), List.length_cons, show o + (i + 1) + xs.length = o + i + (xs.length + 1) by omega]
        have e2 : (cs.toList.set (o + i) x).take (o + (i + 1)) = cs.toList.take (o + i) ++ [x] := by
          have ht : (cs.toList.take (o + i)).length = o + i := by simp; omega
          rw [show o + (i + 1) = (o + i) + 1 by omega, List.take_set, List.take_succ_eq_append_getElem (by simpa using hi), List.set_append, if_neg (by omega), ht, Nat.sub_self]
          rfl
        rw [e2]
        simp
      rw [← e]
      exact hB'
/-- a struct or an array is written -/
theorem o_sta {P : Program} {n : Nat} {e : Env} {w : World} {l0 l : List Oper} {K : Env → World → Prop} {T : TypeId} {pos : String} {af : Array Edge} {x y : Operand} {t S : TypeId} {b o : Nat} {xs : List Value} {cs : Array Value} (hx : ev n e x = .pointer (some ⟨b, o, none⟩)) (hy : ev n e y = .agg xs.toArray) (hs : szB P t xs.length = true)
    (h1 : ∀ u ∈ xs, u.oneCell' = true) (hb : Blk w b cs S) (hl : o + xs.length ≤ cs.size)
    (h : ∀ w', Blk w' b (cs.toList.take o ++ xs ++ cs.toList.drop (o + xs.length)).toArray S → Keep [b] w w' → w'.heap.size = w.heap.size → ow P n l0 K l e w') :
    ow P n l0 K (⟨none, .store t x y, T, pos, af, none⟩ :: l) e w := by
  obtain ⟨w', hr, hB, hK, hZ⟩ := run_storeCells (P := P) (b := b) (o := o) (S := S) xs 0 w cs hb (by omega) h1
  refine o_runs (w' := w') ?_ (h w' hB hK hZ)
  simp [execOp, hx, hy, Instr.storeAt, Instr.sureAddr, storeVar, run_sizeOf hs, Value.cells, hr]
end E
end Go.Proofs.Ytbfphjhahgpndaa
