/- More of the engine: append, with what stays of the old block. No condition. -/
import Derived.Test.YtbfphjhahgpndaaEu
namespace Go.Proofs.Ytbfphjhahgpndaa
open Go.RowKit
set_option linter.unusedVariables false
set_option linter.unusedSimpArgs false
namespace E
variable {P : Program} {n : Nat} {e : Env} {w : World} {l0 l : List Oper} {K : Env → World → Prop} {d : Nat} {T : TypeId} {pos : String} {af : Array Edge} {x y : Operand} {TX TY : TypeId}
theorem run_append2 {E : TypeId} {sz bytes : Nat} {z : Value} (hu : P.underlying TX = some (.slice E)) (hi : infB P E sz bytes z) (hzs : z.cells.size = sz) (hsz : 0 < sz)
    {a : Option Addr} {m c : Nat} {xs : List Value} (ho : Sl w E sz a m c xs) {a' : Option Addr} {m' c' : Nat} {news : List Value} (hr : Rd w a' news) (hl : news.length = m' * sz) (h1 : ∀ u ∈ news, u.oneCell' = true)
    (h63 : m + m' ≤ maxLen) (hby : (m + m') * bytes ≤ 140737488355328) :
    ∃ a2 c2 w', (Builtin.append_ #[TX, TX] T #[.slice a m c, .slice a' m' c']).run P w = .ok (.slice a2 (m + m') c2) w' ∧ Sl w' E sz a2 (m + m') c2 (xs ++ news) ∧
      ((a2 = a ∧ c2 = c ∧ Keep (blkOf a) w w' ∧ w'.heap.size = w.heap.size) ∨ (∃ g, a2 = some ⟨g, 0, none⟩ ∧ Keep [] w w' ∧ w.heap.size = g ∧ w'.heap.size = g + 1)) := by
  obtain ⟨i, hi1, rfl, rfl, hz⟩ := hi
  have hlen : (xs ++ news).length = (m + m') * i.size := by rw [List.length_append, ho.1, hl, Nat.add_mul]
  have hsmall : m + m' ≤ 9223372036854775807 := by simp only [maxLen] at h63; omega
  have hge := fun old => grownCap_ge w (m + m') old E
  have hcm := fun old => grownCap_le_maxLen w (m + m') old E h63
  have grown : ∀ old, Sl (w.drew.alloc (.cells (xs.toArray ++ news.toArray ++ Builtin.zeroCells z.cells (grownCap w (m + m') old E - (m + m'))) E)) E i.size (some ⟨w.heap.size, 0, none⟩) (m + m') (grownCap w (m + m') old E) (xs ++ news) := by
    intro old
    refine ⟨hlen, .inr ⟨w.heap.size, _, rfl, heap_alloc_new w.drew _, hge old, hcm old, ?_, ?_⟩⟩
    · simp only [Array.size_append, List.size_toArray, size_zeroCells, hzs, ho.1, hl, ← Nat.add_mul]
      congr 1
      have := hge old
      omega
    · simp only [Array.toList_append, List.append_assoc]
      rw [← List.append_assoc, ← hlen]
      exact List.take_left
  have kgrown : ∀ o, Keep [] w (w.drew.alloc o) := fun o => ⟨rfl, rfl, rfl, by simp, fun k hk _ => Below.heap_alloc w.drew o k hk⟩
  by_cases hm' : m' = 0
  · -- nothing is appended
    subst hm'
    have hn : news = [] := List.eq_nil_of_length_eq_zero (by simpa using hl)
    subst hn
    refine ⟨a, c, w, ?_, by simpa using ho, .inl ⟨rfl, rfl, Keep.refl _ _, rfl⟩⟩
    have hle := ho.le
    cases a' with
    | none => cases a <;> simp [Builtin.append_, run_underlying hu, sizeOf, typeInfo, hi1, Builtin.lenOf, Builtin.firstCells, hle, storeCells]
    | some p => cases a <;> simp [Builtin.append_, run_underlying hu, sizeOf, typeInfo, hi1, Builtin.lenOf, Builtin.firstCells, hle, storeCells, loadCells, loadCellsFrom]
  · have hpos : 0 < news.length := by rw [hl]; exact Nat.mul_pos (Nat.pos_of_ne_zero hm') hsz
    obtain ⟨b', o', rfl, _⟩ := hr.at 0 hpos
    have hnews : ∀ j u, news[j]? = some u → w.cell? ((⟨b', o', none⟩ : Addr).add j) = some u := by
      intro j u hj
      obtain ⟨b2, o2, he, hc⟩ := hr j u hj
      simp at he
      obtain ⟨rfl, rfl⟩ := he
      rw [Addr.add_lit]
      exact hc
    rcases ho.2 with ⟨rfl, rfl, rfl⟩ | ⟨g, cur, rfl, hb, hle, hcap, hcs, htake⟩
    · have hx : xs = [] := List.eq_nil_of_length_eq_zero (by simpa using ho.1)
      subst hx
      have hr' := run_append_nil (P := P) w TX T E i z hu hi1 hz ⟨b', o', none⟩ m' c' news hl hnews (by omega) (by omega) (by have hb := hby; simp only [Nat.zero_add] at hb; omega)
      have hgr := grown 0
      simp only [Nat.zero_add, List.nil_append, Array.empty_append] at hgr ⊢
      exact ⟨_, _, _, hr', hgr, .inr ⟨_, rfl, kgrown _, rfl, by simp⟩⟩
    · by_cases hroom : m + m' ≤ c
      · have hfit : m * i.size + news.length ≤ cur.size := by rw [hl, hcs, ← Nat.add_mul]; exact Nat.mul_le_mul_right _ hroom
        have hr' := run_append_room (P := P) w TX T E i hu hi1 g m c cur hb ⟨b', o', none⟩ m' c' news hl hnews h1 hroom hfit
        refine ⟨_, _, _, hr', ⟨hlen, .inr ⟨g, _, rfl, setRow_heap w g cur _ E _ hb, hroom, hcap, ?_, ?_⟩⟩, .inl ⟨rfl, rfl, ⟨rfl, rfl, rfl, by simp, fun k _ hk => setRow_other w g k _ (by simpa [blkOf] using hk)⟩, by simp⟩⟩
        · simp only [List.size_toArray, List.length_append, List.length_take, List.length_drop, Array.length_toList]
          omega
        · rw [htake, ← hlen]
          exact List.take_left
      · have holds : ∀ j u, xs[j]? = some u → w.cell? ((⟨g, 0, none⟩ : Addr).add j) = some u := by
          intro j u hj
          obtain ⟨b2, o2, he, hc⟩ := ho.rd j u hj
          simp at he
          obtain ⟨rfl, rfl⟩ := he
          rw [Addr.add_lit]
          exact hc
        have hr' := run_append_grow (P := P) w TX T E i z hu hi1 hz ⟨g, 0, none⟩ m c xs ho.1 holds ⟨b', o', none⟩ m' c' news hl hnews (by omega) (by omega) (growslice_fits (by omega) hby)
        exact ⟨_, _, _, hr', grown c, .inr ⟨_, rfl, kgrown _, rfl, by simp⟩⟩

theorem o_app2 {E : TypeId} {sz bytes : Nat} {z : Value} (hu : P.underlying TX = some (.slice E)) (hi : infB P E sz bytes z) (hzs : z.cells.size = sz) (hsz : 0 < sz)
    {a : Option Addr} {m c : Nat} {xs : List Value} {a' : Option Addr} {m' c' : Nat} {news : List Value} (hx : ev n e x = .slice a m c) (hy : ev n e y = .slice a' m' c')
    (ho : Sl w E sz a m c xs) (hr : Rd w a' news) (hl : news.length = m' * sz) (h1 : ∀ u ∈ news, u.oneCell' = true)
    (h63 : m + m' ≤ maxLen) (hby : (m + m') * bytes ≤ 140737488355328)
    (h : ∀ a2 c2 w', Sl w' E sz a2 (m + m') c2 (xs ++ news) → ((a2 = a ∧ c2 = c ∧ Keep (blkOf a) w w' ∧ w'.heap.size = w.heap.size) ∨ (∃ g, a2 = some ⟨g, 0, none⟩ ∧ Keep [] w w' ∧ w.heap.size = g ∧ w'.heap.size = g + 1)) → ow P n l0 K l (upd e d (.slice a2 (m + m') c2)) w') :
    ow P n l0 K (⟨some d, .call ⟨.builtin .append, #[x, y], #[TX, TX]⟩, T, pos, af, none⟩ :: l) e w := by
  obtain ⟨a2, c2, w', hrun, hs, hv⟩ := run_append2 (P := P) (T := T) hu hi hzs hsz ho hr (c' := c') hl h1 h63 hby
  refine o_run (v := .slice a2 (m + m') c2) (w' := w') ?_ (h a2 c2 w' hs hv)
  simp [execOp, resolve, invoke, builtin, hx, hy, hrun]
/-- the front of a slice -/
theorem Sl.front {E : TypeId} {sz m k c : Nat} {a : Option Addr} {xs ys : List Value} (h : Sl w E sz a (m + k) c (xs ++ ys)) (hx : xs.length = m * sz) (hk : 0 < m ∨ 0 < k) : Sl w E sz a m c xs := by
  refine ⟨hx, ?_⟩
  rcases h.2 with ⟨h1, h2, h3⟩ | ⟨g, cur, h1, hb, hle, hcap, hcs, ht⟩
  · omega
  · refine .inr ⟨g, cur, h1, hb, by omega, hcap, hcs, ?_⟩
    have := congrArg (List.take (m * sz)) ht
    rw [List.take_take, Nat.min_eq_left (Nat.mul_le_mul_right _ (by omega))] at this
    rw [this, ← hx, List.take_left]
/-- a relation of worlds: what is kept, and facts that last -/
def LeF (S : List Nat) (Fs : List (World → Prop)) (w w' : World) : Prop := Keep S w w' ∧ ∀ F ∈ Fs, F w → F w'
theorem LeF.refl (S : List Nat) (Fs : List (World → Prop)) (w : World) : LeF S Fs w w := ⟨Keep.refl _ _, fun _ _ h => h⟩
theorem LeF.tr {S : List Nat} {Fs : List (World → Prop)} {w w1 w2 : World} (h : LeF S Fs w w1) (h' : LeF S Fs w1 w2) : LeF S Fs w w2 :=
  ⟨h.1.trans h'.1 (fun _ hb _ => hb), fun F hF h0 => h'.2 F hF (h.2 F hF h0)⟩
theorem Sl.unk {E : TypeId} {sz m m' c c' : Nat} {a : Option Addr} {xs ys : List Value} (h : Sl w E sz a m c xs) (h' : Sl w E sz a m' c' ys) (ha : a ≠ none) (hs : 0 < sz) : c = c' := by
  rcases h.2 with ⟨h1, _⟩ | ⟨g, cur, h1, hb, _, _, hcs, _⟩
  · exact absurd h1 ha
  rcases h'.2 with ⟨h1', _⟩ | ⟨g', cur', h1', hb', _, _, hcs', _⟩
  · exact absurd h1' ha
  rw [h1] at h1'
  cases h1'
  have := hb.inj hb'
  subst this
  exact Nat.eq_of_mul_eq_mul_right hs (hcs.symm.trans hcs')
/-- a result that lies in memory -/
theorem ret_cell0 {P : Program} {n : Nat} {e : Env} {w : World} {F : Func} {S : Value → World → Prop} {a t b : Nat} {xs : List Value} (hr : F.results = #[.cell a t]) (ha : ev n e (.tmp a) = .pointer (some ⟨b, 0, none⟩)) (ht : isAggB P t = true) (hs : szB P t xs.length = true)
    (hc : ∀ j v, xs[j]? = some v → w.cell? ⟨b, j, none⟩ = some v) (h : S (.agg xs.toArray) w) : retR P F n S .ret e w := by
  refine ⟨.agg xs.toArray, ?_, h⟩
  have hg : ∀ t, (act n e).tmps.getD t undef = ev n e (.tmp t) := fun t => by rw [← act_eval]; rfl
  have hl := run_loadCellsFrom (P := P) (w := w) (b := b) (o := 0) xs 0 #[] (fun j v hv => by rw [Nat.zero_add, Nat.zero_add]; exact hc j v hv)
  have hlv : (loadVar t ⟨b, 0, none⟩).run P w = .ok (.agg xs.toArray) w := by
    simp [loadVar, run_isAggT ht, run_sizeOf hs, loadCells, hl]
  have hm : (F.results.mapM (fun
      | .tmp t => pure ((act n e).tmps.getD t undef)
      | .cell a t => do loadVar t (← asAddr ((act n e).tmps.getD a undef)) : ResultVar → Sem Value)).run P w = .ok #[.agg xs.toArray] w := by
    rw [hr]
    simp only [Array.mapM_eq_foldlM, ← Array.foldlM_toList, List.foldlM_cons, List.foldlM_nil, Sem.run_bind, Sem.run_map, Sem.run_pure, Result.andThen_ok, hg, ha, asAddr, hlv]
    rfl
  have hres : (results F (act n e).tmps).run P w = ((F.results.mapM (fun
      | .tmp t => pure ((act n e).tmps.getD t undef)
      | .cell a t => do loadVar t (← asAddr ((act n e).tmps.getD a undef)) : ResultVar → Sem Value)).run P w).andThen
        (fun vs w' => (pure (if h : vs.size = 1 then vs[0] else .tuple vs) : Sem Value).run P w') := Sem.run_bind P w _ _
  rw [hres, hm, Result.andThen_ok, Sem.run_pure]
  simp
end E
end Go.Proofs.Ytbfphjhahgpndaa
