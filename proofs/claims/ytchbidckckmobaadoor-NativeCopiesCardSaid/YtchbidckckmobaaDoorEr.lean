/- Opening a law's arguments: slices of structs with slices in them, and what their sizes are. No condition. -/
import Derived.Test.YtchbidckckmobaaDoorEs
namespace Go.Proofs.YtchbidckckmobaaDoor
open Go.RowKit
set_option linter.unusedVariables false
set_option linter.unusedSimpArgs false
namespace E
section
variable {H : Type} {enc : TypeId × Value → H} {P : Program} {W : World} {base : Nat}
/-- cells that are read as a type's, all rows of them within reach -/
def Tr (enc : TypeId × Value → H) (P : Program) (W : World) (t : TypeId) (cs : List Value) : Prop :=
  ∃ m y, DataW.trod enc P W 0 (fun _ => true) true m t cs = some y ∧ ∀ n ∈ y.1.weights P t, n ≤ reachBytes
theorem Tr.any {t : TypeId} {cs : List Value} (h : Tr enc P W t cs) : ∃ m y, DataW.trod enc P W 0 (fun _ => true) true m t cs = some y := by
  obtain ⟨m, y, h, _⟩ := h; exact ⟨m, y, h⟩
theorem mem_weightsAll {e : TypeId} : ∀ {ds : List (DataW H)} {d : DataW H} {n : Nat}, d ∈ ds → n ∈ d.weights P e → n ∈ DataW.weightsAll P e ds
  | d0 :: ds, d, n, hd, hn => by
    simp only [DataW.weightsAll, List.mem_append]
    rcases List.mem_cons.1 hd with rfl | hd
    · exact .inl hn
    · exact .inr (mem_weightsAll hd hn)
theorem Tr.elems {t e : TypeId} {sz : Nat} {cs0 : List Value} (ht : P.underlying t = some (.slice e)) (hc : P.cellsOf e = sz) (hsz : 0 < sz) (h : Tr enc P W t cs0) :
    ∃ (a : Option Addr) (len cap : Nat) (css : List (List Value)), cs0 = [.slice a len cap] ∧ css.length = len ∧ len ≤ cap ∧ cap ≤ 9223372036854775807 ∧ cap * P.bytesOf e ≤ 140737488351232 ∧ (∀ cs ∈ css, cs.length = sz) ∧ Rd W a css.flatten ∧ ∀ cs ∈ css, Tr enc P W e cs := by
  subst hc
  obtain ⟨fuel, y, hf, hw⟩ := h
  rcases DataW.trod_slice ht hf with ⟨h1, h2⟩ | ⟨x, len, cap, elems, rest, m, h1, h2, h3, h4, h5, h6, h7, h8, h9, _⟩
  · exact ⟨none, 0, 0, [], h1, rfl, by omega, by omega, by omega, by simp, Rd.nil _ _, by simp⟩
  · have hcap := (h9 rfl).1
    have each : ∀ i, i < len → ∃ cs, W.cells? 0 (x.add (i * P.cellsOf e)) (P.cellsOf e) = some cs ∧ Tr enc P W e cs := by
      intro i hi
      have := h8 i hi
      rw [List.getElem?_eq_getElem (by omega)] at this
      obtain ⟨cs, hcs, hy⟩ := Option.bind_eq_some_iff.1 this
      refine ⟨cs, hcs, m, _, hy, fun n hn => hw n ?_⟩
      rw [h3]
      simp only [DataW.weights, ht, List.mem_cons, List.mem_append]
      exact .inr (.inl (mem_weightsAll (List.mem_map_of_mem (List.getElem_mem _)) hn))
    have hcell : ∀ i (hi : i < len), (Classical.choose (each i hi)).length = P.cellsOf e ∧ ∀ j v, (Classical.choose (each i hi))[j]? = some v → W.cell? ((x.add (i * P.cellsOf e)).add j) = some v := by
      intro i hi
      exact cells_spec (Classical.choose_spec (each i hi)).1
    let css : List (List Value) := List.ofFn (n := len) fun i => Classical.choose (each i.val i.isLt)
    have hcss : ∀ i (hi : i < len), css[i]? = some (Classical.choose (each i hi)) := by
      intro i hi
      simp [css, hi]
    have hl : ∀ cs ∈ css, cs.length = P.cellsOf e := by
      intro cs hcs
      obtain ⟨i, rfl⟩ := List.mem_ofFn.1 hcs
      exact (hcell i.val i.isLt).1
    refine ⟨some x, len, cap, css, h2, by simp [css], h5, by simpa [maxLen] using h6, ?_, hl, ?_, ?_⟩
    · have := hw (((elems.map (·.1)).length + (rest.map (·.1)).length) * P.bytesOf e) (by rw [h3]; simp [DataW.weights, ht])
      simp only [List.length_map, h7, hcap] at this
      rw [show len + (cap - len) = cap by omega] at this
      exact this
    · intro i v hv
      obtain ⟨cs, h9, h10⟩ := flatten_at hsz css hl i v hv
      have hi : i / P.cellsOf e < len := by
        have := (List.getElem?_eq_some_iff.1 h9).1
        simpa [css] using this
      rw [hcss _ hi] at h9
      obtain rfl := Option.some.inj h9
      have := (hcell _ hi).2 _ v h10
      have hsp : x.spot = none := by
        have h0 := hcell 0 (Nat.lt_of_le_of_lt (Nat.zero_le _) hi)
        have h1 : ∃ v, W.cell? ((x.add (0 * P.cellsOf e)).add 0) = some v := ⟨_, h0.2 0 _ (List.getElem?_eq_getElem (by rw [h0.1]; exact hsz))⟩
        obtain ⟨v1, h1⟩ := h1
        rw [Nat.zero_mul, show (x.add 0).add 0 = x from by simp [Addr.add]] at h1
        exact spot_none h1
      obtain ⟨b, o, sp⟩ := x
      simp at hsp
      subst hsp
      refine ⟨b, o, rfl, ?_⟩
      rw [Addr.add_lit, Addr.add_lit, Nat.add_assoc, Nat.mul_comm, Nat.div_add_mod] at this
      exact this
    · intro cs hcs
      obtain ⟨i, rfl⟩ := List.mem_ofFn.1 hcs
      exact (Classical.choose_spec (each i.val i.isLt)).2
theorem Tr.fld {e : TypeId} {fs : Array Field} {f : Field} {i : Nat} {cs : List Value} (h : Tr enc P W e cs) (hu : P.underlying e = some (.struct fs)) (hf : fs[i]? = some f) (hc : P.cellsOf f.type = 1) :
    Tr enc P W f.type ((cs.drop f.offset).take 1) := by
  obtain ⟨m, y, hy, hw⟩ := h
  obtain ⟨xs, n, _, hx, _, hl, hfl⟩ := DataW.trod_struct hu hy
  have := hfl i f hf
  have hi : i < fs.size := (Array.getElem?_eq_some_iff.1 hf).1
  rw [hc, List.getElem?_eq_getElem (by rw [hl]; exact hi)] at this
  refine ⟨n, _, this, fun k hk => hw k ?_⟩
  rw [hx]
  simp only [DataW.weights, hu]
  refine DataW.weights_mem_each (j := i) (t := f.type) (d := (xs[i]'(by rw [hl]; exact hi)).1) ?_ ?_ k hk
  · rw [List.getElem?_map, Array.getElem?_toList, hf]; rfl
  · rw [List.getElem?_map, List.getElem?_eq_getElem (by rw [hl]; exact hi)]; rfl
theorem Tr.row {t e : TypeId} {k : IntKind} {cs : List Value} (h : Tr enc P W t cs) (ht : P.underlying t = some (.slice e)) (he : P.underlying e = some (.int k)) (hc : P.cellsOf e = 1) :
    ∃ a len cap zs, cs = [.slice a len cap] ∧ Row k W a len cap zs ∧ cap * P.bytesOf e ≤ 140737488351232 := by
  obtain ⟨a, len, cap, css, h1, _, h2, h3, h4, _⟩ := h.elems ht hc (by decide)
  obtain ⟨a', len', cap', zs, h5, h6⟩ := trod_row h.any ht he hc
  rw [h1] at h5
  cases h5
  exact ⟨a, len, cap, zs, h1, h6, h4⟩
theorem tr_of {t : TypeId} {v : Value} {d : DataW H} {p : List MemPlace} (h : DataW.Trod enc P W 0 (fun _ => true) true t v d p) (hw : ∀ n ∈ d.weights P t, n ≤ reachBytes) : Tr enc P W t v.cells.toList := by
  obtain ⟨fuel, hf⟩ := h
  exact ⟨fuel, _, hf, hw⟩
theorem fit_of {ts : List TypeId} {ds : List (DataW H)} (h : (DataW.weightsEach P ts ds).all (· ≤ reachBytes) = true) {j : Nat} {t : TypeId} {d : DataW H} (ht : ts[j]? = some t) (hd : ds[j]? = some d) : ∀ n ∈ d.weights P t, n ≤ reachBytes := by
  intro n hn
  have := List.all_eq_true.1 h _ (DataW.weights_mem_each ht hd n hn)
  simpa using this
/-- an argument that is a slice whose elements are of sz cells -/
theorem op_deep {t e : TypeId} {sz : Nat} {v : Value} {d : DataW H} {p : List MemPlace} (ht : P.underlying t = some (.slice e)) (hc : P.cellsOf e = sz) (hsz : 0 < sz) (hok : Value.okWide P W .any base t v) (h : DataW.Trod enc P W 0 (fun _ => true) true t v d p) (hw : ∀ n ∈ d.weights P t, n ≤ reachBytes) :
    ∃ (a : Option Addr) (len cap : Nat) (css : List (List Value)), v = .slice a len cap ∧ css.length = len ∧ len ≤ cap ∧ cap ≤ 9223372036854775807 ∧ cap * P.bytesOf e ≤ 140737488351232 ∧ (∀ cs ∈ css, cs.length = sz) ∧ Rd W a css.flatten ∧ ∀ cs ∈ css, Tr enc P W e cs := by
  obtain ⟨a, len, cap, rfl⟩ := WideShapes.okWide_slice ht hok
  obtain ⟨a', len', cap', css, h1, h2⟩ := (tr_of h hw).elems ht hc hsz
  simp only [Value.cells] at h1
  cases h1
  exact ⟨a, len, cap, css, rfl, h2⟩
end
end E
end Go.Proofs.YtchbidckckmobaaDoor
