/- Opening a law's arguments: slices of structs. No condition. -/
import Derived.Test.YtbfphjhahgpndaaEy
namespace Go.Proofs.Ytbfphjhahgpndaa
open Go.RowKit
set_option linter.unusedVariables false
set_option linter.unusedSimpArgs false
namespace E
section
variable {H : Type} {enc : TypeId × Value → H} {P : Program} {W : World} {base : Nat}

theorem mapM_cells {W : World} {x : Addr} : ∀ (k s : Nat) (cs : List Value), (List.range' s k).mapM (fun i => W.cell? (x.add i)) = some cs → cs.length = k ∧ ∀ j v, cs[j]? = some v → W.cell? (x.add (s + j)) = some v
  | 0, s, cs, h => by
    simp at h
    subst h
    exact ⟨rfl, fun j v hv => by simp at hv⟩
  | k + 1, s, cs, h => by
    rw [List.range'_succ, List.mapM_cons] at h
    cases h1 : W.cell? (x.add s) with
    | none => rw [h1] at h; simp at h
    | some v0 =>
      rw [h1] at h
      cases h2 : (List.range' (s + 1) k).mapM (fun i => W.cell? (x.add i)) with
      | none => rw [h2] at h; simp at h
      | some cs' =>
        rw [h2] at h
        simp at h
        subst h
        obtain ⟨h3, h4⟩ := mapM_cells k (s + 1) cs' h2
        refine ⟨by simp [h3], fun j v hv => ?_⟩
        cases j with
        | zero => simp at hv; subst hv; exact h1
        | succ j =>
          have := h4 j v (by simpa using hv)
          rwa [show s + 1 + j = s + (j + 1) by omega] at this
theorem flatten_at {sz : Nat} (hsz : 0 < sz) : ∀ (css : List (List Value)), (∀ cs ∈ css, cs.length = sz) → ∀ i v, css.flatten[i]? = some v → ∃ cs, css[i / sz]? = some cs ∧ cs[i % sz]? = some v
  | [], _, i, v, h => by simp at h
  | cs :: css, hl, i, v, h => by
    have h0 := hl cs (by simp)
    by_cases hi : i < sz
    · refine ⟨cs, by rw [Nat.div_eq_of_lt hi]; rfl, ?_⟩
      rw [Nat.mod_eq_of_lt hi]
      rwa [List.flatten_cons, List.getElem?_append_left (by omega)] at h
    · rw [List.flatten_cons, List.getElem?_append_right (by omega), h0] at h
      obtain ⟨cs', h1, h2⟩ := flatten_at hsz css (fun c hc => hl c (by simp [hc])) _ v h
      refine ⟨cs', ?_, ?_⟩
      · have e : i / sz = (i - sz) / sz + 1 := by rw [Nat.div_eq_sub_div hsz (by omega)]
        rw [e]; simpa using h1
      · rw [Nat.mod_eq_sub_mod (by omega)]; exact h2
theorem flatten_get {sz : Nat} : ∀ (css : List (List Value)), (∀ cs ∈ css, cs.length = sz) → ∀ i j cs v, css[i]? = some cs → cs[j]? = some v → css.flatten[i * sz + j]? = some v
  | [], _, i, j, cs, v, h, _ => by simp at h
  | c :: css, hl, i, j, cs, v, h, hv => by
    have h0 := hl c (by simp)
    have hj := (List.getElem?_eq_some_iff.1 hv).1
    cases i with
    | zero =>
      simp at h
      subst h
      rw [Nat.zero_mul, Nat.zero_add, List.flatten_cons, List.getElem?_append_left hj]
      exact hv
    | succ i =>
      rw [List.flatten_cons, List.getElem?_append_right (by rw [h0, Nat.succ_mul]; omega), h0, show (i + 1) * sz + j - sz = i * sz + j by rw [Nat.succ_mul]; omega]
      exact flatten_get css (fun c hc => hl c (by simp [hc])) i j cs v (by simpa using h) hv

theorem cells_spec {x : Addr} {k : Nat} {cs : List Value} (h : W.cells? 0 x k = some cs) : cs.length = k ∧ ∀ j v, cs[j]? = some v → W.cell? (x.add j) = some v := by
  unfold World.cells? at h
  rw [if_pos (Nat.zero_le _), List.range_eq_range'] at h
  obtain ⟨h9, h10⟩ := mapM_cells _ 0 _ h
  exact ⟨h9, fun j v hv => by have := h10 j v hv; rwa [Nat.zero_add] at this⟩
/-- a slice whose elements are of sz cells -/
theorem op_elems {t e : TypeId} {sz : Nat} {v : Value} {d : DataW H} {p : List MemPlace} (ht : P.underlying t = some (.slice e)) (hc : P.cellsOf e = sz) (hsz : 0 < sz) (hok : Value.okWide P W .any base t v) (h : DataW.Trod enc P W 0 (fun _ => true) true t v d p) :
    ∃ (a : Option Addr) (len cap : Nat) (css : List (List Value)), v = .slice a len cap ∧ css.length = len ∧ len ≤ cap ∧ cap ≤ 9223372036854775807 ∧ (∀ cs ∈ css, cs.length = sz) ∧ Rd W a css.flatten ∧ ∀ cs ∈ css, ∃ m y, DataW.trod enc P W 0 (fun _ => true) true m e cs = some y := by
  subst hc
  obtain ⟨a, len, cap, rfl⟩ := WideShapes.okWide_slice ht hok
  obtain ⟨fuel, hf⟩ := h
  rcases DataW.trod_slice ht hf with ⟨h1, h2⟩ | ⟨x, len', cap', elems, rest, m, h1, h2, h3, h4, h5, h6, h7, h8, _⟩
  · simp [Value.cells] at h1
    obtain ⟨rfl, rfl, rfl⟩ := h1
    exact ⟨none, 0, 0, [], rfl, rfl, by omega, by omega, by simp, Rd.nil _ _, by simp⟩
  · simp [Value.cells] at h2
    obtain ⟨rfl, rfl, rfl⟩ := h2
    have each : ∀ i, i < len → ∃ cs y, W.cells? 0 (x.add (i * P.cellsOf e)) (P.cellsOf e) = some cs ∧ DataW.trod enc P W 0 (fun _ => true) true m e cs = some y := by
      intro i hi
      have := h8 i hi
      rw [List.getElem?_eq_getElem (by omega)] at this
      obtain ⟨cs, hcs, hy⟩ := Option.bind_eq_some_iff.1 this
      exact ⟨cs, _, hcs, hy⟩
    have hcell : ∀ i (hi : i < len), (Classical.choose (each i hi)).length = P.cellsOf e ∧ ∀ j v, (Classical.choose (each i hi))[j]? = some v → W.cell? ((x.add (i * P.cellsOf e)).add j) = some v := by
      intro i hi
      obtain ⟨y, hy, _⟩ := Classical.choose_spec (each i hi)
      exact cells_spec hy
    let css : List (List Value) := List.ofFn (n := len) fun i => Classical.choose (each i.val i.isLt)
    have hcss : ∀ i (hi : i < len), css[i]? = some (Classical.choose (each i hi)) := by
      intro i hi
      simp [css, hi]
    have hl : ∀ cs ∈ css, cs.length = P.cellsOf e := by
      intro cs hcs
      obtain ⟨i, rfl⟩ := List.mem_ofFn.1 hcs
      exact (hcell i.val i.isLt).1
    refine ⟨some x, len, cap, css, rfl, by simp [css], h5, by simpa [maxLen] using h6, hl, ?_, ?_⟩
    · intro i v hv
      obtain ⟨cs, h9, h10⟩ := flatten_at hsz css hl i v hv
      have hi : i / P.cellsOf e < len := by
        have := (List.getElem?_eq_some_iff.1 h9).1
        simpa [css] using this
      rw [hcss _ hi] at h9
      obtain rfl := Option.some.inj h9
      have := (hcell _ hi).2 _ v h10
      have hsp : x.spot = none := by
        have h0 := hcell 0 (Nat.lt_of_le_of_lt (Nat.zero_le _) hi)
        have h1 : ∃ v, W.cell? ((x.add (0 * P.cellsOf e)).add 0) = some v := ⟨_, h0.2 0 _ (List.getElem?_eq_getElem (by rw [h0.1]; exact hsz))⟩
        obtain ⟨v1, h1⟩ := h1
        rw [Nat.zero_mul, show (x.add 0).add 0 = x from by simp [Addr.add]] at h1
        exact spot_none h1
      obtain ⟨b, o, sp⟩ := x
      simp at hsp
      subst hsp
      refine ⟨b, o, rfl, ?_⟩
      rw [Addr.add_lit, Addr.add_lit, Nat.add_assoc, Nat.mul_comm, Nat.div_add_mod] at this
      exact this
    · intro cs hcs
      obtain ⟨i, rfl⟩ := List.mem_ofFn.1 hcs
      obtain ⟨y, _, hy⟩ := Classical.choose_spec (each i.val i.isLt)
      exact ⟨m, y, hy⟩
theorem take1 {cs : List Value} {o : Nat} {v : Value} (h : (cs.drop o).take 1 = [v]) : cs[o]? = some v := by
  have := congrArg (fun x => x[0]?) h
  simpa [List.getElem?_take, List.getElem?_drop] using this
theorem fld_trod {e : TypeId} {fs : Array Field} {f : Field} {i : Nat} {cs : List Value} (h : ∃ m y, DataW.trod enc P W 0 (fun _ => true) true m e cs = some y) (hu : P.underlying e = some (.struct fs)) (hf : fs[i]? = some f) (hc : P.cellsOf f.type = 1) :
    ∃ m y, DataW.trod enc P W 0 (fun _ => true) true m f.type ((cs.drop f.offset).take 1) = some y := by
  obtain ⟨m, y, hy⟩ := h
  obtain ⟨xs, n, _, _, _, hl, hfl⟩ := DataW.trod_struct hu hy
  have := hfl i f hf
  rw [hc, List.getElem?_eq_getElem (by rw [hl]; exact (Array.getElem?_eq_some_iff.1 hf).1)] at this
  exact ⟨n, _, this⟩
theorem fld_int {e : TypeId} {fs : Array Field} {f : Field} {i : Nat} {k : IntKind} {cs : List Value} (h : ∃ m y, DataW.trod enc P W 0 (fun _ => true) true m e cs = some y) (hu : P.underlying e = some (.struct fs)) (hf : fs[i]? = some f) (hc : P.cellsOf f.type = 1) (ht : P.underlying f.type = some (.int k)) :
    ∃ a, cs[f.offset]? = some (.int k a) ∧ k.min ≤ a ∧ a ≤ k.max := by
  obtain ⟨m, y, hy⟩ := fld_trod h hu hf hc
  obtain ⟨a, h1, _, hw⟩ := DataW.trod_int ht hy
  simp only [Lit.wf, Bool.and_eq_true, decide_eq_true_eq] at hw
  exact ⟨a, take1 h1, hw⟩
theorem fld_bool {e : TypeId} {fs : Array Field} {f : Field} {i : Nat} {cs : List Value} (h : ∃ m y, DataW.trod enc P W 0 (fun _ => true) true m e cs = some y) (hu : P.underlying e = some (.struct fs)) (hf : fs[i]? = some f) (hc : P.cellsOf f.type = 1) (ht : P.underlying f.type = some .bool) :
    ∃ a, cs[f.offset]? = some (.bool a) := by
  obtain ⟨m, y, hy⟩ := fld_trod h hu hf hc
  obtain ⟨a, h1, _⟩ := DataW.trod_bool ht hy
  exact ⟨a, take1 h1⟩
theorem fld_str {e : TypeId} {fs : Array Field} {f : Field} {i : Nat} {cs : List Value} (h : ∃ m y, DataW.trod enc P W 0 (fun _ => true) true m e cs = some y) (hu : P.underlying e = some (.struct fs)) (hf : fs[i]? = some f) (hc : P.cellsOf f.type = 1) (ht : P.underlying f.type = some .string) :
    ∃ a : ByteArray, cs[f.offset]? = some (.string a) ∧ a.size ≤ maxLen := by
  obtain ⟨m, y, hy⟩ := fld_trod h hu hf hc
  obtain ⟨a, h1, _, h2⟩ := DataW.trod_string ht hy
  exact ⟨a, take1 h1, h2⟩
theorem trod_row {t e : TypeId} {k : IntKind} {cs : List Value} (h : ∃ m y, DataW.trod enc P W 0 (fun _ => true) true m t cs = some y) (ht : P.underlying t = some (.slice e)) (he : P.underlying e = some (.int k)) (hc : P.cellsOf e = 1) :
    ∃ a len cap zs, cs = [.slice a len cap] ∧ Row k W a len cap zs := by
  obtain ⟨m, y, hy⟩ := h
  rcases ChangeShapes.open_ints ht he hc hy with ⟨hcs, _⟩ | ⟨x, l, c, zs, hcs, _, hl, hm, hz, hx, hcell, hwz⟩
  · exact ⟨none, 0, 0, [], hcs, .inl ⟨rfl, rfl, rfl, rfl⟩⟩
  · exact ⟨some x, l, c, zs, hcs, .inr ⟨x, rfl, hl, hm, by simpa using hz, hcell, hwz⟩⟩
theorem fld_row {e t' : TypeId} {fs : Array Field} {f : Field} {i : Nat} {k : IntKind} {cs : List Value} (h : ∃ m y, DataW.trod enc P W 0 (fun _ => true) true m e cs = some y) (hu : P.underlying e = some (.struct fs)) (hf : fs[i]? = some f) (hc : P.cellsOf f.type = 1) (ht : P.underlying f.type = some (.slice t')) (he : P.underlying t' = some (.int k)) (hct : P.cellsOf t' = 1) :
    ∃ a len cap zs, cs[f.offset]? = some (.slice a len cap) ∧ Row k W a len cap zs := by
  obtain ⟨a, len, cap, zs, h1, h2⟩ := trod_row (fld_trod h hu hf hc) ht he hct
  exact ⟨a, len, cap, zs, take1 h1, h2⟩
end
end E
end Go.Proofs.Ytbfphjhahgpndaa
