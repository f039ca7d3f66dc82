/- The rules of the operations that look at memory or change it: blocks, slices, append, make. No condition. -/
import Derived.Test.YtbfphjhahgpndaaRul
namespace Go.Proofs.Ytbfphjhahgpndaa
open Go.RowKit
set_option linter.unusedVariables false
set_option linter.unusedSimpArgs false
namespace E

/-- block b is a row of cells of its own, none of them frozen -/
def Blk (w : World) (b : Nat) (cs : Array Value) (T : TypeId) : Prop := w.heap[b]? = some (.cells cs T (0, 0))

/-- all blocks but those of the list are as they were -/
structure Keep (S : List Nat) (w w' : World) : Prop where
  os : w'.os = w.os
  tape : w'.tape = w.tape
  output : w'.output = w.output
  size : w.heap.size ≤ w'.heap.size
  block : ∀ k, k < w.heap.size → k ∉ S → w'.heap[k]? = w.heap[k]?

theorem Keep.refl (S : List Nat) (w : World) : Keep S w w := ⟨rfl, rfl, rfl, Nat.le_refl _, fun _ _ _ => rfl⟩
theorem Keep.trans {S S' : List Nat} {w w1 w2 : World} (h : Keep S w w1) (h' : Keep S' w1 w2) (hs : ∀ b, b ∈ S' → b < w.heap.size → b ∈ S) : Keep S w w2 :=
  ⟨h'.os.trans h.os, h'.tape.trans h.tape, h'.output.trans h.output, Nat.le_trans h.size h'.size, fun k hk hn => by
    rw [h'.block k (Nat.lt_of_lt_of_le hk h.size) (fun hm => hn (hs k hm hk)), h.block k hk hn]⟩
theorem Keep.mono {S S' : List Nat} {w w' : World} (h : Keep S w w') (hs : ∀ b, b ∈ S → b ∈ S') : Keep S' w w' :=
  ⟨h.os, h.tape, h.output, h.size, fun k hk hn => h.block k hk (fun hm => hn (hs k hm))⟩
theorem Keep.below {w w' : World} (h : Keep [] w w') : Below w.heap.size w w' := ⟨h.os, h.tape, h.output, h.size, fun k hk => h.block k hk (by simp)⟩
theorem Keep.of_below {w w' : World} (h : Below w.heap.size w w') : Keep [] w w' := ⟨h.os, h.tape, h.output, h.size, fun k hk _ => h.block k hk⟩
theorem Keep.drew {S : List Nat} {w w' : World} (h : Keep S w w') : Keep S w w'.drew := ⟨h.os, h.tape, h.output, h.size, h.block⟩

theorem Blk.lt {w : World} {b : Nat} {cs : Array Value} {T : TypeId} (h : Blk w b cs T) : b < w.heap.size := (Array.getElem?_eq_some_iff.1 h).1
theorem Blk.keep {S : List Nat} {w w' : World} {b : Nat} {cs : Array Value} {T : TypeId} (h : Blk w b cs T) (hk : Keep S w w') (hn : b ∉ S) : Blk w' b cs T := (hk.block b h.lt hn).trans h
theorem Blk.cell {w : World} {b i : Nat} {cs : Array Value} {T : TypeId} (h : Blk w b cs T) : w.cell? ⟨b, i, none⟩ = cs[i]? := cell_of_row w b i cs T (0, 0) h
theorem Blk.inj {w : World} {b : Nat} {cs cs' : Array Value} {T T' : TypeId} (h : Blk w b cs T) (h' : Blk w b cs' T') : cs = cs' := by
  have := h.symm.trans h'
  simp at this
  exact this.1

/-- a slice's cells as they are read -/
def Rd (w : World) (a : Option Addr) (xs : List Value) : Prop := ∀ i v, xs[i]? = some v → ∃ b o, a = some ⟨b, o, none⟩ ∧ w.cell? ⟨b, o + i, none⟩ = some v

/-- no cell of the slice lies in a block of the list -/
def Off (S : List Nat) (a : Option Addr) : Prop := ∀ p, a = some p → p.block ∉ S

theorem Rd.keep {S : List Nat} {w w' : World} {a : Option Addr} {xs : List Value} (h : Rd w a xs) (hk : Keep S w w') (hn : Off S a) : Rd w' a xs := by
  intro i v hv
  obtain ⟨b, o, rfl, hc⟩ := h i v hv
  refine ⟨b, o, rfl, ?_⟩
  rw [← hc]
  exact World.cell?_of_block (hk.block b (World.block_lt_of_cell? w _ hc) (hn _ rfl))
theorem Off.nil (a : Option Addr) : Off [] a := fun _ _ => by simp
theorem Rd.new {w w' : World} {a : Option Addr} {xs : List Value} (h : Rd w a xs) (hk : Keep [] w w') : Rd w' a xs := h.keep hk (Off.nil a)
theorem Rd.nil (w : World) (a : Option Addr) : Rd w a [] := fun i v hv => by simp at hv
theorem Rd.at {w : World} {a : Option Addr} {xs : List Value} (h : Rd w a xs) (i : Nat) (hi : i < xs.length) : ∃ b o, a = some ⟨b, o, none⟩ ∧ w.cell? ⟨b, o + i, none⟩ = some xs[i] := h i _ (List.getElem?_eq_getElem hi)
theorem Rd.lt {w : World} {a : Option Addr} {xs : List Value} (h : Rd w a xs) (hx : 0 < xs.length) : ∃ p, a = some p ∧ p.block < w.heap.size := by
  obtain ⟨b, o, rfl, hc⟩ := h.at 0 hx
  exact ⟨_, rfl, World.block_lt_of_cell? w _ hc⟩

theorem Blk.rd {w : World} {b : Nat} {cs : Array Value} {T : TypeId} (h : Blk w b cs T) : Rd w (some ⟨b, 0, none⟩) cs.toList := by
  intro i v hv
  exact ⟨b, 0, rfl, by rw [Nat.zero_add, h.cell]; simpa using hv⟩
theorem Keep.tr {w w1 w2 : World} (h : Keep [] w w1) (h' : Keep [] w1 w2) : Keep [] w w2 := h.trans h' (by simp)
/-- a block that is new since is turned -/
theorem Keep.tr1 {w w1 w2 : World} {g : Nat} (h : Keep [] w w1) (h' : Keep [g] w1 w2) (hg : w.heap.size ≤ g) : Keep [] w w2 := h.trans h' (by intro b hb hl; simp at hb; omega)

theorem Rd.cellK {w w' : World} {b o i : Nat} {xs : List Value} {v : Value} (h : Rd w (some ⟨b, o, none⟩) xs) (hk : Keep [] w w') (hi : xs[i]? = some v) : w'.cell? ⟨b, o + i, none⟩ = some v := by
  obtain ⟨b', o', he, hc⟩ := (h.new hk) i v hi
  simp at he
  obtain ⟨rfl, rfl⟩ := he
  exact hc

/-- a slice that owns its block -/
def Sl (w : World) (E : TypeId) (sz : Nat) (a : Option Addr) (m c : Nat) (xs : List Value) : Prop :=
  xs.length = m * sz ∧ ((a = none ∧ m = 0 ∧ c = 0) ∨ ∃ g cur, a = some ⟨g, 0, none⟩ ∧ Blk w g cur E ∧ m ≤ c ∧ c ≤ maxLen ∧ cur.size = c * sz ∧ cur.toList.take (m * sz) = xs)

def blkOf : Option Addr → List Nat
  | some p => [p.block]
  | none => []

theorem Sl.nil (w : World) (E : TypeId) (sz : Nat) : Sl w E sz none 0 0 [] := ⟨by simp, .inl ⟨rfl, rfl, rfl⟩⟩
theorem Sl.rd {w : World} {E : TypeId} {sz : Nat} {a : Option Addr} {m c : Nat} {xs : List Value} (h : Sl w E sz a m c xs) : Rd w a xs := by
  intro i v hv
  rcases h.2 with ⟨rfl, rfl, rfl⟩ | ⟨g, cur, rfl, hb, h1, h2, h3, rfl⟩
  · have := h.1
    simp at this
    subst this
    simp at hv
  · refine ⟨g, 0, rfl, ?_⟩
    rw [Nat.zero_add, hb.cell]
    rw [List.getElem?_take] at hv
    split at hv
    · simpa using hv
    · cases hv
theorem Sl.keep {S : List Nat} {w w' : World} {E : TypeId} {sz : Nat} {a : Option Addr} {m c : Nat} {xs : List Value} (h : Sl w E sz a m c xs) (hk : Keep S w w') (hn : Off S a) : Sl w' E sz a m c xs := by
  refine ⟨h.1, ?_⟩
  rcases h.2 with h2 | ⟨g, cur, rfl, hb, h1⟩
  · exact .inl h2
  · exact .inr ⟨g, cur, rfl, hb.keep hk (hn _ rfl), h1⟩
theorem Sl.new {w w' : World} {E : TypeId} {sz : Nat} {a : Option Addr} {m c : Nat} {xs : List Value} (h : Sl w E sz a m c xs) (hk : Keep [] w w') : Sl w' E sz a m c xs := h.keep hk (Off.nil a)
theorem Sl.le {w : World} {E : TypeId} {sz : Nat} {a : Option Addr} {m c : Nat} {xs : List Value} (h : Sl w E sz a m c xs) : m ≤ c := by
  rcases h.2 with ⟨rfl, rfl, rfl⟩ | ⟨g, cur, rfl, hb, h1, _⟩
  · exact Nat.le_refl _
  · exact h1
theorem Sl.lt {w : World} {E : TypeId} {sz : Nat} {a : Option Addr} {m c : Nat} {xs : List Value} (h : Sl w E sz a m c xs) : ∀ p, a = some p → p.block < w.heap.size := by
  rintro p rfl
  rcases h.2 with ⟨h0, _⟩ | ⟨g, cur, h0, hb, _⟩
  · cases h0
  · cases h0; exact hb.lt

/-- of a type that is no struct and no array -/
def aggB (P : Program) (t : TypeId) : Bool :=
  match P.underlying t with
  | some (.struct _) | some (.array _ _) | none => true
  | _ => false
def fldOff (P : Program) (s : TypeId) (f : Nat) : Option Nat :=
  match P.underlying s with
  | some (.struct fs) => match fs[f]? with
    | some fl => match P.info? fl.type with
      | some i => bif Nat.beq i.size 0 then none else some fl.offset
      | none => none
    | none => none
  | _ => none
/-- a type's number of cells -/
def szB (P : Program) (t : TypeId) (k : Nat) : Bool := match P.info? t with | some i => Nat.beq i.size k | none => false
/-- a type's cells, bytes and nought -/
def infB (P : Program) (t : TypeId) (sz bytes : Nat) (z : Value) : Prop := ∃ i, P.info? t = some i ∧ i.size = sz ∧ i.bytes = bytes ∧ i.zero = some z

variable {P : Program} {n : Nat} {e : Env} {w : World} {l0 l : List Oper} {K : Env → World → Prop} {d : Nat} {T : TypeId} {pos : String} {af : Array Edge} {op : Op} {x y : Operand} {TX TY : TypeId}

theorem run_isAgg {t : TypeId} (h : aggB P t = false) : (isAgg t).run P w = .ok false w := by
  unfold aggB at h
  cases hu : P.underlying t with
  | none => rw [hu] at h; cases h
  | some dd => rw [hu] at h; cases dd <;> simp at h <;> simp [isAgg, run_underlying hu]
theorem run_sizeOf {t : TypeId} {k : Nat} (h : szB P t k = true) : (sizeOf t).run P w = .ok k w := by
  unfold szB at h
  cases hu : P.info? t with
  | none => rw [hu] at h; cases h
  | some i => rw [hu] at h; simp [sizeOf, typeInfo, hu]; exact Nat.eq_of_beq_eq_true h

theorem o_nilc {p : Addr} (hx : ev n e x = .pointer (some p)) (h : ow P n l0 K l (upd e d (.pointer (some p))) w) :
    ow P n l0 K (⟨some d, .nilCheck x, T, pos, af, none⟩ :: l) e w := by
  refine o_run (v := .pointer (some p)) (w' := w) ?_ h
  simp [execOp, hx]

/-- a cell is read -/
theorem o_ld {t : TypeId} {p : Addr} {v : Value} (hx : ev n e x = .pointer (some p)) (ht : aggB P t = false) (hc : w.cell? p = some v) (h : ow P n l0 K l (upd e d v) w) :
    ow P n l0 K (⟨some d, .load t x, T, pos, af, none⟩ :: l) e w := by
  refine o_run (v := v) (w' := w) ?_ h
  simp [execOp, hx, Instr.loadAt, Instr.sureAddr, loadVar, run_isAgg ht, hc]

/-- a cell of a block of its own is written -/
theorem o_st {t S : TypeId} {b i : Nat} {v : Value} {cs : Array Value} (hx : ev n e x = .pointer (some ⟨b, i, none⟩)) (hy : ev n e y = v) (hv : v.oneCell' = true) (ht : szB P t 1 = true) (hb : Blk w b cs S) (hi : i < cs.size)
    (h : ∀ w', Blk w' b (cs.setIfInBounds i v) S → Keep [b] w w' → w'.heap.size = w.heap.size → ow P n l0 K l e w') :
    ow P n l0 K (⟨none, .store t x y, T, pos, af, none⟩ :: l) e w := by
  refine o_runs (w' := w.setCell ⟨b, i, none⟩ v) ?_ (h _ (heap_setCell_same w b i cs S v hb) ⟨rfl, rfl, rfl, by simp, fun k _ hk => heap_setCell_other w _ k v (by simpa using hk)⟩ (by simp))
  have hc : w.cell? ⟨b, i, none⟩ = some cs[i] := by rw [hb.cell]; simp [hi]
  have hf := frozen_of_row w b i cs S hb
  have hs : v.cells = #[v] := by cases v <;> simp [Value.oneCell'] at hv <;> rfl
  have hst := run_store P w ⟨b, i, none⟩ v .plain hv
  simp [execOp, hx, hy, Instr.storeAt, Instr.sureAddr, storeVar, run_sizeOf ht, hs, storeCells, Addr.add, hst, hc, hf]

theorem run_newVar {t : TypeId} {v : Value} : (newVar t v).run P w = .ok ⟨w.heap.size, 0, none⟩ (w.alloc (.cells v.cells t)) := by
  simp [newVar, newRow]

theorem keep_alloc (S : List Nat) (w : World) (o : Obj) : Keep S w (w.alloc o) := ⟨rfl, rfl, rfl, by simp, fun k hk _ => Below.heap_alloc w o k hk⟩

/-- a value is laid into a new block -/
theorem o_box {t : TypeId} {v : Value} {cs : Array Value} (hx : ev n e x = v) (hc : v.cells = cs)
    (h : ∀ b w', Blk w' b cs t → Keep [] w w' → w.heap.size = b → w'.heap.size = b + 1 → ow P n l0 K l (upd e d (.pointer (some ⟨b, 0, none⟩))) w') :
    ow P n l0 K (⟨some d, .box t x, T, pos, af, none⟩ :: l) e w := by
  subst hc
  refine o_run (v := .pointer (some ⟨w.heap.size, 0, none⟩)) (w' := w.alloc (.cells v.cells t)) ?_ (h _ _ (heap_alloc_new w _) (keep_alloc _ _ _) rfl (by simp))
  simp [execOp, hx, Instr.box, run_newVar]

theorem o_alloc {t : TypeId} {z : Value} {cs : Array Value} {sz bytes : Nat} (hz : infB P t sz bytes z) (hc : z.cells = cs)
    (h : ∀ b w', Blk w' b cs t → Keep [] w w' → w.heap.size = b → w'.heap.size = b + 1 → ow P n l0 K l (upd e d (.pointer (some ⟨b, 0, none⟩))) w') :
    ow P n l0 K (⟨some d, .alloc t, T, pos, af, none⟩ :: l) e w := by
  obtain ⟨i, h1, h2, h3, h4⟩ := hz
  subst hc
  refine o_run (v := .pointer (some ⟨w.heap.size, 0, none⟩)) (w' := w.alloc (.cells z.cells t)) ?_ (h _ _ (heap_alloc_new w _) (keep_alloc _ _ _) rfl (by simp))
  simp [execOp, Instr.alloc, zeroValue, typeInfo, h1, h4, run_newVar]

/-- a struct or an array out of its parts: what it comes to is a closed fact, asked for every world -/
theorem o_build {t : TypeId} {ps : List (Nat × Operand)} {v : Value} {vs : List (Nat × Value)} (hv : ps.map (fun p => (p.1, ev n e p.2)) = vs) (hr : ∀ w, (Instr.build t vs.toArray).run P w = .ok v w) (h : ow P n l0 K l (upd e d v) w) :
    ow P n l0 K (⟨some d, .build t ps.toArray, T, pos, af, none⟩ :: l) e w := by
  refine o_run (v := v) (w' := w) ?_ h
  have : (ps.toArray.map fun x => (x.1, ev n e x.2)) = vs.toArray := by simp [← hv]
  simp only [execOp]
  have hh : (Array.map (fun x : Nat × Operand => match x with | (i, x) => (i, ev n e x)) ps.toArray) = vs.toArray := by rw [← this]
  rw [hh]
  simp [hr w]

theorem run_fieldAt {s : TypeId} {b o f off : Nat} (hf : fldOff P s f = some off) : (Instr.fieldAt s (.pointer (some ⟨b, o, none⟩)) f).run P w = .ok (.pointer (some ⟨b, o + off, none⟩)) w := by
  unfold fldOff at hf
  cases hu : P.underlying s with
  | none => rw [hu] at hf; cases hf
  | some dd =>
    rw [hu] at hf
    cases dd <;> simp at hf
    rename_i fs
    cases hfs : fs[f]? with
    | none => rw [hfs] at hf; cases hf
    | some fl =>
      rw [hfs] at hf
      simp only at hf
      cases hi : P.info? fl.type with
      | none => rw [hi] at hf; cases hf
      | some i =>
        rw [hi] at hf
        simp only at hf
        cases hb : Nat.beq i.size 0 with
        | true => rw [hb] at hf; cases hf
        | false =>
          rw [hb] at hf
          simp at hf
          have hne : ¬ i.size = 0 := Nat.ne_of_beq_eq_false hb
          subst hf
          have hadd : Addr.add ⟨b, o, none⟩ fl.offset = ⟨b, o + fl.offset, none⟩ := Addr.add_lit b o fl.offset
          simp [Instr.fieldAt, run_underlying hu, hfs, Instr.sureAddr, fieldPlace, sizeOf, typeInfo, hi, hne, hadd]

theorem o_fld {s : TypeId} {b o f off : Nat} (hx : ev n e x = .pointer (some ⟨b, o, none⟩)) (hf : fldOff P s f = some off) (h : ow P n l0 K l (upd e d (.pointer (some ⟨b, o + off, none⟩))) w) :
    ow P n l0 K (⟨some d, .fieldAddr s x f, T, pos, af, none⟩ :: l) e w := by
  refine o_run (v := .pointer (some ⟨b, o + off, none⟩)) (w' := w) ?_ h
  simp [execOp, hx, run_fieldAt hf]

theorem o_fld0 {s : TypeId} {b o f : Nat} (hx : ev n e x = .pointer (some ⟨b, o, none⟩)) (hf : fldOff P s f = some 0) (h : ow P n l0 K l (upd e d (.pointer (some ⟨b, o, none⟩))) w) :
    ow P n l0 K (⟨some d, .fieldAddr s x f, T, pos, af, none⟩ :: l) e w := o_fld hx hf (by rw [Nat.add_zero]; exact h)

/-- an array's element's place -/
theorem o_ixa {E : TypeId} {len sz b o m : Nat} {k : IntKind} (hu : P.underlying TX = some (.array len E)) (hs : szB P E sz = true) (hx : ev n e x = .pointer (some ⟨b, o, none⟩)) (hi : ev n e y = .int k (m : Int)) (hm : m < len)
    (h : ow P n l0 K l (upd e d (.pointer (some ⟨b, o + m * sz, none⟩))) w) : ow P n l0 K (⟨some d, .indexAddr TX x y, T, pos, af, none⟩ :: l) e w := by
  refine o_run (v := .pointer (some ⟨b, o + m * sz, none⟩)) (w' := w) ?_ h
  have hadd : Addr.add ⟨b, o, none⟩ (m * sz) = ⟨b, o + m * sz, none⟩ := Addr.add_lit b o _
  have h1 : (0 : Int) ≤ (m : Int) := by omega
  have h2 : (m : Int) < (len : Int) := by omega
  simp [execOp, hx, hi, Instr.indexAt, asIntOf, run_underlying hu, Instr.sureAddr, h1, h2, hm, run_sizeOf hs, hadd]

/-- a slice's element's place -/
theorem o_ixs {E : TypeId} {len cap sz b o m : Nat} {k : IntKind} (hu : P.underlying TX = some (.slice E)) (hs : szB P E sz = true) (hx : ev n e x = .slice (some ⟨b, o, none⟩) len cap) (hi : ev n e y = .int k (m : Int)) (hm : m < len)
    (h : ow P n l0 K l (upd e d (.pointer (some ⟨b, o + m * sz, none⟩))) w) : ow P n l0 K (⟨some d, .indexAddr TX x y, T, pos, af, none⟩ :: l) e w := by
  refine o_run (v := .pointer (some ⟨b, o + m * sz, none⟩)) (w' := w) ?_ h
  have hadd : Addr.add ⟨b, o, none⟩ (m * sz) = ⟨b, o + m * sz, none⟩ := Addr.add_lit b o _
  have h1 : (0 : Int) ≤ (m : Int) := by omega
  have h2 : (m : Int) < (len : Int) := by omega
  simp [execOp, hx, hi, Instr.indexAt, asIntOf, run_underlying hu, Instr.sureAddr, h1, h2, hm, run_sizeOf hs, hadd]

/-- the same for elements of one cell -/
theorem o_ixs1 {E : TypeId} {len cap b o m : Nat} {k : IntKind} (hu : P.underlying TX = some (.slice E)) (hs : szB P E 1 = true) (hx : ev n e x = .slice (some ⟨b, o, none⟩) len cap) (hi : ev n e y = .int k (m : Int)) (hm : m < len)
    (h : ow P n l0 K l (upd e d (.pointer (some ⟨b, o + m, none⟩))) w) : ow P n l0 K (⟨some d, .indexAddr TX x y, T, pos, af, none⟩ :: l) e w :=
  o_ixs hu hs hx hi hm (by rw [Nat.mul_one]; exact h)
theorem o_ixa1 {E : TypeId} {len b o m : Nat} {k : IntKind} (hu : P.underlying TX = some (.array len E)) (hs : szB P E 1 = true) (hx : ev n e x = .pointer (some ⟨b, o, none⟩)) (hi : ev n e y = .int k (m : Int)) (hm : m < len)
    (h : ow P n l0 K l (upd e d (.pointer (some ⟨b, o + m, none⟩))) w) : ow P n l0 K (⟨some d, .indexAddr TX x y, T, pos, af, none⟩ :: l) e w :=
  o_ixa hu hs hx hi hm (by rw [Nat.mul_one]; exact h)

/-- len of a slice -/
theorem o_lens {E : TypeId} {a : Option Addr} {len cap : Nat} (hu : P.underlying TX = some (.slice E)) (hx : ev n e x = .slice a len cap) (h : ow P n l0 K l (upd e d (.int .i64 (len : Int))) w) :
    ow P n l0 K (⟨some d, .call ⟨.builtin .len, #[x], #[TX]⟩, T, pos, af, none⟩ :: l) e w := by
  refine o_run (v := .int .i64 (len : Int)) (w' := w) ?_ h
  simp [execOp, resolve, invoke, builtin, hx, Builtin.len_, run_underlying hu, goInt]
theorem o_lenstr {s : ByteArray} (hu : P.underlying TX = some .string) (hx : ev n e x = .string s) (h : ow P n l0 K l (upd e d (.int .i64 (s.size : Int))) w) :
    ow P n l0 K (⟨some d, .call ⟨.builtin .len, #[x], #[TX]⟩, T, pos, af, none⟩ :: l) e w := by
  refine o_run (v := .int .i64 (s.size : Int)) (w' := w) ?_ h
  simp [execOp, resolve, invoke, builtin, hx, Builtin.len_, run_underlying hu, goInt]
/-- min, max of two integers -/
theorem o_min {k : IntKind} {a b : Int} {ts : Array TypeId} (hx : ev n e x = .int k a) (hy : ev n e y = .int k b) (h : ow P n l0 K l (upd e d (.int k (if b < a then b else a))) w) :
    ow P n l0 K (⟨some d, .call ⟨.builtin .min, #[x, y], ts⟩, T, pos, af, none⟩ :: l) e w := by
  refine o_run (v := .int k (if b < a then b else a)) (w' := w) ?_ h
  simp [execOp, resolve, invoke, builtin, hx, hy, Builtin.min_, Builtin.min2]
theorem o_extr {vs : List Value} {i : Nat} {v : Value} (hx : ev n e x = .tuple vs.toArray) (hv : vs[i]? = some v) (h : ow P n l0 K l (upd e d v) w) :
    ow P n l0 K (⟨some d, .extract x i, T, pos, af, none⟩ :: l) e w := by
  refine o_run (v := v) (w' := w) ?_ h
  simp [execOp, hx, Instr.extract, hv]

/-- where a piece of a slice begins -/
def cutAt (a : Option Addr) (lo cap sz : Nat) : Option Addr := if cap = lo then a else a.map (·.add (lo * sz))

theorem cutAt_rd {w : World} {a : Option Addr} {xs : List Value} {lo cap sz : Nat} (h : Rd w a xs) (hl : lo * sz ≤ xs.length) (hc : lo ≤ cap) (hx : xs.length ≤ cap * sz) : Rd w (cutAt a lo cap sz) (xs.drop (lo * sz)) := by
  intro i v hv
  rw [List.getElem?_drop] at hv
  obtain ⟨b, o, rfl, hcell⟩ := h _ _ hv
  unfold cutAt
  by_cases hh : cap = lo
  · have := (List.getElem?_eq_some_iff.1 hv).1
    subst hh
    omega
  · refine ⟨b, o + lo * sz, ?_, by rw [Nat.add_assoc]; exact hcell⟩
    rw [if_neg hh]
    simp [Addr.add_lit]
theorem Rd.take {w : World} {a : Option Addr} {xs : List Value} (h : Rd w a xs) (k : Nat) : Rd w a (xs.take k) := by
  intro i v hv
  rw [List.getElem?_take] at hv
  split at hv
  · exact h i v hv
  · cases hv
theorem cutAt_off {S : List Nat} {a : Option Addr} {lo cap sz : Nat} (h : Off S a) : Off S (cutAt a lo cap sz) := by
  intro p hp
  unfold cutAt at hp
  split at hp
  · exact h p hp
  · cases a with
    | none => cases hp
    | some q =>
      simp at hp
      subst hp
      have := h q rfl
      unfold Addr.add
      split <;> exact this

theorem run_sl {E : TypeId} {sz : Nat} (hu : P.underlying TX = some (.slice E)) (hs : szB P E sz = true) (a : Option Addr) (len cap lo hi : Nat) (h1 : lo ≤ hi) (h2 : hi ≤ cap) (k k' : IntKind) :
    (Instr.sliceAt TX (.slice a len cap) (some (.int k (lo : Int))) (some (.int k' (hi : Int))) none).run P w = .ok (.slice (cutAt a lo cap sz) (hi - lo) (cap - lo)) w := by
  simp [Instr.sliceAt, Instr.slice, run_underlying hu, Instr.sliceBounds, Instr.sliceBound, asIntOf, run_sizeOf hs, cutAt, h1, h2]

/-- s[lo:hi] -/
theorem o_sllh {E : TypeId} {a : Option Addr} {len cap lo hi sz : Nat} {k k' : IntKind} {u v : Operand} (hu : P.underlying TX = some (.slice E)) (hs : szB P E sz = true) (hx : ev n e x = .slice a len cap) (hl : ev n e u = .int k (lo : Int)) (hh : ev n e v = .int k' (hi : Int)) (h1 : lo ≤ hi) (h2 : hi ≤ cap)
    (h : ow P n l0 K l (upd e d (.slice (cutAt a lo cap sz) (hi - lo) (cap - lo))) w) : ow P n l0 K (⟨some d, .slice TX x (some u) (some v) none, T, pos, af, none⟩ :: l) e w := by
  refine o_run (v := .slice (cutAt a lo cap sz) (hi - lo) (cap - lo)) (w' := w) ?_ h
  simp [execOp, hx, hl, hh, run_sl hu hs a len cap lo hi h1 h2]
/-- s[lo:] -/
theorem o_sll {E : TypeId} {a : Option Addr} {len cap lo sz : Nat} {k : IntKind} {u : Operand} (hu : P.underlying TX = some (.slice E)) (hs : szB P E sz = true) (hx : ev n e x = .slice a len cap) (hl : ev n e u = .int k (lo : Int)) (h1 : lo ≤ len)
    (h : ow P n l0 K l (upd e d (.slice (cutAt a lo cap sz) (len - lo) (cap - lo))) w) : ow P n l0 K (⟨some d, .slice TX x (some u) none none, T, pos, af, none⟩ :: l) e w := by
  refine o_run (v := .slice (cutAt a lo cap sz) (len - lo) (cap - lo)) (w' := w) ?_ h
  simp [execOp, hx, hl, Instr.sliceAt, Instr.slice, run_underlying hu, Instr.sliceBounds, Instr.sliceBound, asIntOf, run_sizeOf hs, cutAt, h1]
/-- s[:hi] -/
theorem o_slh {E : TypeId} {a : Option Addr} {len cap hi sz : Nat} {k : IntKind} {v : Operand} (hu : P.underlying TX = some (.slice E)) (hs : szB P E sz = true) (hx : ev n e x = .slice a len cap) (hh : ev n e v = .int k (hi : Int)) (h2 : hi ≤ cap)
    (h : ow P n l0 K l (upd e d (.slice a hi cap)) w) : ow P n l0 K (⟨some d, .slice TX x none (some v) none, T, pos, af, none⟩ :: l) e w := by
  refine o_run (v := .slice a hi cap) (w' := w) ?_ h
  have ha : (if cap = 0 then a else Option.map (fun x => Addr.add x 0) a) = a := by
    split
    · rfl
    · cases a <;> simp [Addr.add]
  simp [execOp, hx, hh, Instr.sliceAt, Instr.slice, run_underlying hu, Instr.sliceBounds, Instr.sliceBound, asIntOf, run_sizeOf hs, h2, ha]

/-! ### append -/
theorem run_append {E : TypeId} {sz bytes : Nat} {z : Value} (hu : P.underlying TX = some (.slice E)) (hi : infB P E sz bytes z) (hzs : z.cells.size = sz) (hsz : 0 < sz)
    {a : Option Addr} {m c : Nat} {xs : List Value} (ho : Sl w E sz a m c xs) {a' : Option Addr} {m' c' : Nat} {news : List Value} (hr : Rd w a' news) (hl : news.length = m' * sz) (h1 : ∀ u ∈ news, u.oneCell' = true)
    (h63 : m + m' ≤ maxLen) (hby : (m + m') * bytes ≤ 140737488355328) :
    ∃ a2 c2 w', (Builtin.append_ #[TX, TX] T #[.slice a m c, .slice a' m' c']).run P w = .ok (.slice a2 (m + m') c2) w' ∧ Sl w' E sz a2 (m + m') c2 (xs ++ news) ∧ Keep (blkOf a) w w' ∧
      ((a2 = a ∧ w'.heap.size = w.heap.size) ∨ (∃ g, a2 = some ⟨g, 0, none⟩ ∧ w.heap.size = g ∧ w'.heap.size = g + 1)) := by
  obtain ⟨i, hi1, rfl, rfl, hz⟩ := hi
  have hlen : (xs ++ news).length = (m + m') * i.size := by rw [List.length_append, ho.1, hl, Nat.add_mul]
  have hsmall : m + m' ≤ 9223372036854775807 := by simp only [maxLen] at h63; omega
  have hge := fun old => grownCap_ge w (m + m') old E
  have hcm := fun old => grownCap_le_maxLen w (m + m') old E h63
  have grown : ∀ old, Sl (w.drew.alloc (.cells (xs.toArray ++ news.toArray ++ Builtin.zeroCells z.cells (grownCap w (m + m') old E - (m + m'))) E)) E i.size (some ⟨w.heap.size, 0, none⟩) (m + m') (grownCap w (m + m') old E) (xs ++ news) := by
    intro old
    refine ⟨hlen, .inr ⟨w.heap.size, _, rfl, heap_alloc_new w.drew _, hge old, hcm old, ?_, ?_⟩⟩
    · simp only [Array.size_append, List.size_toArray, size_zeroCells, hzs, ho.1, hl, ← Nat.add_mul]
      congr 1
      have := hge old
      omega
    · simp only [Array.toList_append, List.append_assoc]
      rw [← List.append_assoc, ← hlen]
      exact List.take_left
  have kgrown : ∀ o, Keep (blkOf a) w (w.drew.alloc o) := fun o => ⟨rfl, rfl, rfl, by simp, fun k hk _ => Below.heap_alloc w.drew o k hk⟩
  by_cases hm' : m' = 0
  · -- nothing is appended
    subst hm'
    have hn : news = [] := List.eq_nil_of_length_eq_zero (by simpa using hl)
    subst hn
    refine ⟨a, c, w, ?_, by simpa using ho, Keep.refl _ _, .inl ⟨rfl, rfl⟩⟩
    have hle := ho.le
    cases a' with
    | none => cases a <;> simp [Builtin.append_, run_underlying hu, sizeOf, typeInfo, hi1, Builtin.lenOf, Builtin.firstCells, hle, storeCells]
    | some p => cases a <;> simp [Builtin.append_, run_underlying hu, sizeOf, typeInfo, hi1, Builtin.lenOf, Builtin.firstCells, hle, storeCells, loadCells, loadCellsFrom]
  · have hpos : 0 < news.length := by rw [hl]; exact Nat.mul_pos (Nat.pos_of_ne_zero hm') hsz
    obtain ⟨b', o', rfl, _⟩ := hr.at 0 hpos
    have hnews : ∀ j u, news[j]? = some u → w.cell? ((⟨b', o', none⟩ : Addr).add j) = some u := by
      intro j u hj
      obtain ⟨b2, o2, he, hc⟩ := hr j u hj
      simp at he
      obtain ⟨rfl, rfl⟩ := he
      rw [Addr.add_lit]
      exact hc
    rcases ho.2 with ⟨rfl, rfl, rfl⟩ | ⟨g, cur, rfl, hb, hle, hcap, hcs, htake⟩
    · have hx : xs = [] := List.eq_nil_of_length_eq_zero (by simpa using ho.1)
      subst hx
      have hr' := run_append_nil (P := P) w TX T E i z hu hi1 hz ⟨b', o', none⟩ m' c' news hl hnews (by omega) (by omega) (by have hb := hby; simp only [Nat.zero_add] at hb; omega)
      have hgr := grown 0
      simp only [Nat.zero_add, List.nil_append, Array.empty_append] at hgr ⊢
      exact ⟨_, _, _, hr', hgr, kgrown _, .inr ⟨_, rfl, rfl, by simp⟩⟩
    · by_cases hroom : m + m' ≤ c
      · have hfit : m * i.size + news.length ≤ cur.size := by rw [hl, hcs, ← Nat.add_mul]; exact Nat.mul_le_mul_right _ hroom
        have hr' := run_append_room (P := P) w TX T E i hu hi1 g m c cur hb ⟨b', o', none⟩ m' c' news hl hnews h1 hroom hfit
        refine ⟨_, _, _, hr', ⟨hlen, .inr ⟨g, _, rfl, setRow_heap w g cur _ E _ hb, hroom, hcap, ?_, ?_⟩⟩, ⟨rfl, rfl, rfl, by simp, fun k _ hk => setRow_other w g k _ (by simpa [blkOf] using hk)⟩, .inl ⟨rfl, by simp⟩⟩
        · simp only [List.size_toArray, List.length_append, List.length_take, List.length_drop, Array.length_toList]
          omega
        · rw [htake, ← hlen]
          exact List.take_left
      · have holds : ∀ j u, xs[j]? = some u → w.cell? ((⟨g, 0, none⟩ : Addr).add j) = some u := by
          intro j u hj
          obtain ⟨b2, o2, he, hc⟩ := ho.rd j u hj
          simp at he
          obtain ⟨rfl, rfl⟩ := he
          rw [Addr.add_lit]
          exact hc
        have hr' := run_append_grow (P := P) w TX T E i z hu hi1 hz ⟨g, 0, none⟩ m c xs ho.1 holds ⟨b', o', none⟩ m' c' news hl hnews (by omega) (by omega) (growslice_fits (by omega) hby)
        exact ⟨_, _, _, hr', grown c, kgrown _, .inr ⟨_, rfl, rfl, by simp⟩⟩

/-- append(s, x...) on a slice that owns its block -/
theorem o_app {E : TypeId} {sz bytes : Nat} {z : Value} (hu : P.underlying TX = some (.slice E)) (hi : infB P E sz bytes z) (hzs : z.cells.size = sz) (hsz : 0 < sz)
    {a : Option Addr} {m c : Nat} {xs : List Value} {a' : Option Addr} {m' c' : Nat} {news : List Value} (hx : ev n e x = .slice a m c) (hy : ev n e y = .slice a' m' c')
    (ho : Sl w E sz a m c xs) (hr : Rd w a' news) (hl : news.length = m' * sz) (h1 : ∀ u ∈ news, u.oneCell' = true)
    (h63 : m + m' ≤ maxLen) (hby : (m + m') * bytes ≤ 140737488355328)
    (h : ∀ a2 c2 w', Sl w' E sz a2 (m + m') c2 (xs ++ news) → Keep (blkOf a) w w' → ((a2 = a ∧ w'.heap.size = w.heap.size) ∨ (∃ g, a2 = some ⟨g, 0, none⟩ ∧ w.heap.size = g ∧ w'.heap.size = g + 1)) → ow P n l0 K l (upd e d (.slice a2 (m + m') c2)) w') :
    ow P n l0 K (⟨some d, .call ⟨.builtin .append, #[x, y], #[TX, TX]⟩, T, pos, af, none⟩ :: l) e w := by
  obtain ⟨a2, c2, w', hrun, hs, hk, hv⟩ := run_append (P := P) (T := T) hu hi hzs hsz ho hr (c' := c') hl h1 h63 hby
  refine o_run (v := .slice a2 (m + m') c2) (w' := w') ?_ (h a2 c2 w' hs hk hv)
  simp [execOp, resolve, invoke, builtin, hx, hy, hrun]

/-- make([]T, len, cap) with len = cap -/
theorem o_make {E : TypeId} {sz bytes : Nat} {z : Value} {k k' : IntKind} {m : Nat} (hu : P.underlying TX = some (.slice E)) (hi : infB P E sz bytes z) (hx : ev n e x = .int k (m : Int)) (hy : ev n e y = .int k' (m : Int))
    (h63 : m ≤ maxLen) (hby : bytes * m ≤ 281474976710656)
    (h : ∀ g w', Sl w' E sz (some ⟨g, 0, none⟩) m m (madeCells z.cells (m * sz)).toList → Keep [] w w' → w.heap.size = g → w'.heap.size = g + 1 → ow P n l0 K l (upd e d (.slice (some ⟨g, 0, none⟩) m m)) w') :
    ow P n l0 K (⟨some d, .makeSlice TX x y, T, pos, af, none⟩ :: l) e w := by
  obtain ⟨i, hi1, rfl, rfl, hz⟩ := hi
  have h63' : (m : Int) ≤ 9223372036854775807 := by simp [maxLen] at h63; omega
  have hb' : (i.bytes : Int) * (m : Int) ≤ 281474976710656 := by
    have h : ((i.bytes * m : Nat) : Int) ≤ 281474976710656 := by omega
    rwa [Int.natCast_mul] at h
  have hr := run_make (P := P) w TX E i z hu hi1 hz k k' m m (by omega) (Int.le_refl _) hb' h63'
  simp only [Int.toNat_natCast] at hr
  refine o_run (v := .slice (some ⟨w.heap.size, 0, none⟩) m m) (w' := w.alloc (.cells (madeCells z.cells (m * i.size)) E)) ?_ (h _ _ ⟨?_, .inr ⟨_, _, rfl, heap_alloc_new w _, Nat.le_refl _, h63, size_madeCells _ _, ?_⟩⟩ (keep_alloc _ _ _) rfl (by simp))
  · simp [execOp, hx, hy, hr]
  · simp [size_madeCells]
  · rw [List.take_of_length_le (by simp [size_madeCells])]

/-- []T{..}: a new row whose cells are a closed fact of the parts -/
theorem o_bsl {t E : TypeId} {len : Nat} {ps : List (Nat × Operand)} {vs : List (Nat × Value)} {cs : Array Value} (hv : ps.map (fun p => (p.1, ev n e p.2)) = vs)
    (hr : ∀ w, (Instr.buildSlice t len vs.toArray).run P w = .ok (.slice (some ⟨w.heap.size, 0, none⟩) len len) (w.alloc (.cells cs E)))
    (h : ∀ g w', Blk w' g cs E → Keep [] w w' → w.heap.size = g → w'.heap.size = g + 1 → ow P n l0 K l (upd e d (.slice (some ⟨g, 0, none⟩) len len)) w') :
    ow P n l0 K (⟨some d, .buildSlice t len ps.toArray, T, pos, af, none⟩ :: l) e w := by
  refine o_run (v := .slice (some ⟨w.heap.size, 0, none⟩) len len) (w' := w.alloc (.cells cs E)) ?_ (h _ _ (heap_alloc_new w _) (keep_alloc _ _ _) rfl (by simp))
  have this : (ps.toArray.map fun x => (x.1, ev n e x.2)) = vs.toArray := by simp [← hv]
  have hh : (Array.map (fun x : Nat × Operand => match x with | (i, x) => (i, ev n e x)) ps.toArray) = vs.toArray := by rw [← this]
  simp only [execOp]
  rw [hh]
  simp [hr w]

/-- a literal's bytes: its end is marked, its cells are read as they were -/
theorem o_cbytes {E : TypeId} {b len cap : Nat} {cs : Array Value} (hu : P.underlying TX = some (.slice E)) (he : P.underlying E = some (.int .u8)) (hx : ev n e x = .slice (some ⟨b, 0, none⟩) len cap) (hb : Blk w b cs E)
    (h : ∀ w', Rd w' (some ⟨b, 0, none⟩) cs.toList → Keep [b] w w' → w'.heap.size = w.heap.size → ow P n l0 K l (upd e d (.slice (some ⟨b, 0, none⟩) len cap)) w') :
    ow P n l0 K (⟨some d, .convert TX TX x, T, pos, af, none⟩ :: l) e w := by
  have hsh : w.shape? b = some (E, cs.size) := by
    unfold World.shape?
    rw [show w.heap[b]? = some (.cells cs E (0, 0)) from hb]
  have hheap : (w.freeze { block := b, off := cs.size } 1).heap[b]? = some (.cells cs E (cs.size, cs.size + 1)) := by
    unfold World.freeze
    rw [if_neg (by decide)]
    simp only [Array.getElem?_modify]
    rw [if_pos trivial, show w.heap[b]? = some (.cells cs E (0, 0)) from hb]
    simp
  refine o_run (v := .slice (some ⟨b, 0, none⟩) len cap) (w' := w.freeze { block := b, off := cs.size } 1) ?_ (h _ ?_ ⟨?_, ?_, ?_, ?_, ?_⟩ ?_)
  · simp [execOp, hx, convert, run_underlying hu, run_underlying he, markStringish, hsh]
  · intro i v hv
    refine ⟨b, 0, rfl, ?_⟩
    unfold World.cell?
    simp only [hheap]
    simpa using hv
  all_goals first
    | (unfold World.freeze; rw [if_neg (by decide)]; done)
    | (unfold World.freeze; rw [if_neg (by decide)]; simp; done)
    | (intro k _ hk; unfold World.freeze; rw [if_neg (by decide)]; simp only [Array.getElem?_modify]; rw [if_neg (by simp at hk; exact fun e => hk e.symm)])

theorem Blk.sl {w : World} {g : Nat} {cs : Array Value} {E : TypeId} {len sz : Nat} (h : Blk w g cs E) (hs : cs.size = len * sz) (hl : len ≤ maxLen) : Sl w E sz (some ⟨g, 0, none⟩) len len cs.toList :=
  ⟨by simpa using hs, .inr ⟨g, cs, rfl, h, Nat.le_refl _, hl, hs, List.take_of_length_le (by rw [Array.length_toList, hs]; exact Nat.le_refl _)⟩⟩

end E
end Go.Proofs.Ytbfphjhahgpndaa
