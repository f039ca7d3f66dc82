/- More rules: strings, delete of a map's entry, functions of the library that the model itself carries out. No condition. -/
import Derived.Test.YtbfphjhahgpndaaEw
import Derived.Lib.Bytealg
import Derived.ChangeMaps5
namespace Go.Proofs.Ytbfphjhahgpndaa
open Go.RowKit
set_option linter.unusedVariables false
set_option linter.unusedSimpArgs false
namespace E
variable {P : Program} {n : Nat} {e : Env} {w : World} {l0 l : List Oper} {K : Env → World → Prop} {d : Nat} {T : TypeId} {pos : String} {af : Array Edge} {x y : Operand} {TX TY : TypeId}
/-- a function without a Go body -/
theorem o_extern {f : FuncId} {fn : Func} {ex : Array Value → Sem Value} {args : List Operand} {vs : List Value} {ts : Array TypeId} {v : Value} {w' : World} (hf : P.funcs[f]? = some fn) (hname : (fn.name == "runtime.NumGoroutine") = false) (hb : fn.body.isNone = true) (hn : Extern.findNext fn = none) (he : Extern.find fn = some ex)
    (hv : evs n e args = vs) (hr : (ex vs.toArray).run P w = .ok v w') (h : ow P n l0 K l (upd e d v) w') : ow P n l0 K (⟨some d, .call ⟨.value (.func f), args.toArray, ts⟩, T, pos, af, none⟩ :: l) e w := by
  refine o_run (v := v) (w' := w') ?_ h
  have hc := run_callFunc_extern hf hname hb hn he vs.toArray w
  rw [hr] at hc
  have ha : (args.toArray.map (ev n e)) = vs.toArray := by rw [← hv, ← evs_eq]; simp
  simp [execOp, resolve, Deferred.ofValue, invoke, ev, ha, hc, Result.andThen] <;> first | done | (rw [← hv, ← evs_eq] at hc; simpa [Result.andThen] using hc)
theorem toList_beq (a b : ByteArray) : (a.toList == b.toList) = decide (a = b) := by
  rw [Lib.toList_data, Lib.toList_data]
  by_cases hab : a = b
  · subst hab; simp
  · have : ¬ a.data.toList = b.data.toList := fun e => hab (ByteArray.ext (Array.toList_inj.1 e))
    rw [beq_eq_false_iff_ne.2 this, decide_eq_false hab]
theorem b_eqlstr {a b : ByteArray} (hu : P.underlying TX = some .string) (hx : ev n e x = .string a) (hy : ev n e y = .string b) (h : ow P n l0 K l (upd e d (.bool (decide (a = b)))) w) :
    ow P n l0 K (⟨some d, .binOp .eql TX x y TY, T, pos, af, none⟩ :: l) e w := by
  refine o_run (v := .bool (decide (a = b))) (w' := w) ?_ h
  have hr : (Op.equal TX (.string a) (.string b)).run P w = .ok (a == b) w := eqv (fun d => by simp [Op.equalIn, run_underlying hu])
  have ht := toList_beq a b
  simp only [execOp, hx, hy, binOp, eqGuard, Sem.run_bind, hr, Result.andThen_ok, Sem.run_pure]
  simp [Op.stringOp, ht, hr, binOp]
theorem b_neqstr {a b : ByteArray} (hu : P.underlying TX = some .string) (hx : ev n e x = .string a) (hy : ev n e y = .string b) (h : ow P n l0 K l (upd e d (.bool (decide (a ≠ b)))) w) :
    ow P n l0 K (⟨some d, .binOp .neq TX x y TY, T, pos, af, none⟩ :: l) e w := by
  refine o_run (v := .bool (decide (a ≠ b))) (w' := w) ?_ h
  have hr : (Op.equal TX (.string a) (.string b)).run P w = .ok (a == b) w := eqv (fun d => by simp [Op.equalIn, run_underlying hu])
  have ht := toList_beq a b
  simp only [execOp, hx, hy, binOp, eqGuard, Sem.run_bind, hr, Result.andThen_ok, Sem.run_pure]
  simp [Op.stringOp, ht, hr, binOp]
/-- s[i] of a string -/
theorem o_ixstr {s : ByteArray} {m : Nat} {k : IntKind} (hu : P.underlying TX = some .string) (hx : ev n e x = .string s) (hi : ev n e y = .int k (m : Int)) (hm : m < s.size) (h : ow P n l0 K l (upd e d (.int .u8 (((s[m]).toBitVec).toNat : Int))) w) :
    ow P n l0 K (⟨some d, .index TX x y, T, pos, af, none⟩ :: l) e w := by
  refine o_run (v := .int .u8 (((s[m]).toBitVec).toNat : Int)) (w' := w) ?_ h
  have h1 : (0 : Int) ≤ (m : Int) := by omega
  have h2 : s[m]? = some s[m] := getElem?_pos s m hm
  simp [execOp, hx, hi, Instr.index, asIntOf, run_underlying hu, h1, h2]
/-- append to a new slice of nothing -/
theorem o_app0 {E : TypeId} {sz bytes : Nat} {z : Value} (hu : P.underlying TX = some (.slice E)) (hi : infB P E sz bytes z) (hzs : z.cells.size = sz) (hsz : 0 < sz)
    {g : Nat} {a' : Option Addr} {m' c' : Nat} {news : List Value} (hx : ev n e x = .slice (some ⟨g, 0, none⟩) 0 0) (hy : ev n e y = .slice a' m' c')
    (hB : Blk w g #[] E) (hr : Rd w a' news) (hl : news.length = m' * sz) (h1 : ∀ u ∈ news, u.oneCell' = true) (h63 : m' ≤ maxLen) (hby : m' * bytes ≤ 140737488355328)
    (h : ∀ a2 c2 w', Sl w' E sz a2 m' c2 news → Keep [] w w' → (∀ q, a2 = some q → q.block = g ∨ w.heap.size ≤ q.block) → ow P n l0 K l (upd e d (.slice a2 m' c2)) w') :
    ow P n l0 K (⟨some d, .call ⟨.builtin .append, #[x, y], #[TX, TX]⟩, T, pos, af, none⟩ :: l) e w := by
  by_cases hm : m' = 0
  · subst hm
    have hn : news = [] := List.eq_nil_of_length_eq_zero (by simpa using hl)
    subst hn
    obtain ⟨i, hi1, rfl, rfl, hz⟩ := hi
    refine o_run (v := .slice (some ⟨g, 0, none⟩) 0 0) (w' := w) ?_ (h (some ⟨g, 0, none⟩) 0 w ⟨by simp, .inr ⟨g, #[], rfl, hB, Nat.le_refl _, by simp [maxLen], by simp, by simp⟩⟩ (Keep.refl _ _) (fun q hq => by simp at hq; subst hq; exact .inl rfl))
    cases a' with
    | none => simp [execOp, resolve, invoke, builtin, hx, hy, Builtin.append_, run_underlying hu, sizeOf, typeInfo, hi1, Builtin.lenOf, Builtin.firstCells, storeCells]
    | some p => simp [execOp, resolve, invoke, builtin, hx, hy, Builtin.append_, run_underlying hu, sizeOf, typeInfo, hi1, Builtin.lenOf, Builtin.firstCells, storeCells, loadCells, loadCellsFrom]
  · obtain ⟨i, hi1, rfl, rfl, hz⟩ := hi
    have hpos : 0 < news.length := by rw [hl]; exact Nat.mul_pos (Nat.pos_of_ne_zero hm) hsz
    obtain ⟨b', o', rfl, _⟩ := hr.at 0 hpos
    have hnews : ∀ j u, news[j]? = some u → w.cell? ((⟨b', o', none⟩ : Addr).add j) = some u := by
      intro j u hj
      obtain ⟨b2, o2, he, hc⟩ := hr j u hj
      simp at he
      obtain ⟨rfl, rfl⟩ := he
      rw [Addr.add_lit]
      exact hc
    have hge := grownCap_ge w (0 + m') 0 E
    have hcm := grownCap_le_maxLen w (0 + m') 0 E (by omega)
    have hr' := run_append_grow (P := P) w TX T E i z hu hi1 hz ⟨g, 0, none⟩ 0 0 [] (by simp) (by simp) ⟨b', o', none⟩ m' c' news hl hnews (by omega) (by simp only [maxLen] at h63; omega) (growslice_fits (by omega) (by rw [Nat.zero_add]; exact hby))
    simp only [Nat.zero_add] at hr' hge hcm
    refine o_run (v := .slice (some ⟨w.heap.size, 0, none⟩) m' (grownCap w m' 0 E)) (w' := _) (by simp [execOp, resolve, invoke, builtin, hx, hy, hr']; rfl) (h _ _ _ ⟨hl, .inr ⟨w.heap.size, _, rfl, heap_alloc_new w.drew _, hge, hcm, ?_, ?_⟩⟩ ⟨rfl, rfl, rfl, by simp, fun k hk _ => Below.heap_alloc w.drew _ k hk⟩ (fun q hq => by simp at hq; subst hq; exact .inr (Nat.le_refl _)))
    · simp only [Array.size_append, List.size_toArray, size_zeroCells, hzs, hl]
      rw [← Nat.add_mul]
      congr 1
      omega
    · simp only [Array.toList_append, ← hl]
      simp
theorem delM_at {κ : Type} [DecidableEq κ] {kv : κ → Value} {l : List (κ × Value)} {es : List MapEntry} (he : es.map (fun x => (x.key, x.val)) = l.map (fun p => (kv p.1, p.2))) (x : κ) :
    match (l.map (·.1)).findIdx? (fun y => decide (x = y)) with
    | some i => (es.eraseIdx i).map (fun x => (x.key, x.val)) = (delM l x).map (fun p => (kv p.1, p.2)) ∧ i < es.length
    | none => delM l x = l := by
  induction l generalizing es with
  | nil => simp [delM]
  | cons p l ih =>
    obtain ⟨e0, es', rfl⟩ : ∃ e0 es', es = e0 :: es' := by
      cases es with
      | nil => simp at he
      | cons a b => exact ⟨a, b, rfl⟩
    simp only [List.map_cons, List.cons.injEq, Prod.mk.injEq] at he
    have ihh := ih he.2
    rw [List.map_cons, List.findIdx?_cons]
    by_cases h : x = p.1
    · simp only [h, decide_true, if_true]
      exact ⟨by simp [delM, he.2], by simp⟩
    · simp only [h, decide_false, if_false, Bool.false_eq_true]
      cases hx : (l.map (·.1)).findIdx? (fun y => decide (x = y)) with
      | none =>
        rw [hx] at ihh
        simp only [Option.map_none]
        rw [delM, if_neg h, ihh]
      | some i =>
        rw [hx] at ihh
        simp only [Option.map_some]
        refine ⟨?_, by simpa using ihh.2⟩
        rw [delM, if_neg h, List.eraseIdx_cons_succ, List.map_cons, List.map_cons, ihh.1]
        simp [he.1.1, he.1.2]
/-- delete(m, k) -/
theorem o_mdel {κ : Type} [DecidableEq κ] {kv : κ → Value} {KT E : TypeId} {r : Nat} {m : List (κ × Value)} {q : κ} {ts : Array TypeId} (hu : P.underlying TX = some (.map KT E)) (hts : ts[0]? = some TX) (hk : KeyOk P KT kv) (hx : ev n e x = .map (some r)) (hy : ev n e y = kv q) (hm : Mp w r kv m)
    (h : ∀ w', Mp w' r kv (delM m q) → Keep [r] w w' → w'.heap.size = w.heap.size → ow P n l0 K l e w') : ow P n l0 K (⟨none, .call ⟨.builtin .delete, #[x, y], ts⟩, T, pos, af, none⟩ :: l) e w := by
  obtain ⟨es, clock, hh, he, hbn⟩ := hm
  have hlt : r < w.heap.size := (Array.getElem?_eq_some_iff.1 hh).1
  have hg : (getObj r).run P w = .ok (.map es clock) w := by simp [getObj, Sem.run, hh]
  have hf := run_find hk he q w
  have hat := delM_at he q
  have hset : ∀ o', (setObj r o').run P w = .ok () { w with heap := w.heap.setIfInBounds r o' } := fun o' => run_setObj hh (by intros; simp)
  cases hi : (m.map (·.1)).findIdx? (fun y => decide (q = y)) with
  | none =>
    rw [hi] at hf hat
    simp only at hat
    refine o_run (d := none) (v := .tuple #[]) (w' := { w with heap := w.heap.setIfInBounds r (.map es clock) }) ?_ (h _ ⟨es, clock, by simp [hlt], by rw [hat]; exact he, hbn⟩ keep_setObj (by simp))
    simp only [Option.map_none] at hf
    simp [execOp, resolve, invoke, builtin, hx, hy, Builtin.delete_, hts, run_underlying hu, hg, hk.check, hf, hset]
  | some i =>
    rw [hi] at hf hat
    simp only at hat
    have hsz : i < es.size := by simpa using hat.2
    refine o_run (d := none) (v := .tuple #[]) (w' := { w with heap := w.heap.setIfInBounds r (.map (es.eraseIdxIfInBounds i) clock) }) ?_ (h _ ⟨es.eraseIdxIfInBounds i, clock, by simp [hlt], ?_, ?_, ?_⟩ keep_setObj (by simp))
    · simp only [Option.map_some] at hf
      simp [execOp, resolve, invoke, builtin, hx, hy, Builtin.delete_, hts, run_underlying hu, hg, hk.check, hf, hset]
    · rw [← hat.1]
      simp [Array.eraseIdxIfInBounds, hsz, Array.toList_eraseIdx]
    · intro y hy
      have : y ∈ es.toList := by
        simp only [Array.eraseIdxIfInBounds, hsz, dif_pos, Array.toList_eraseIdx] at hy
        exact List.mem_of_mem_eraseIdx hy
      exact hbn.1 y this
    · simp only [Array.eraseIdxIfInBounds, hsz, dif_pos, Array.toList_eraseIdx]
      exact hbn.2.sublist ((List.eraseIdx_sublist _ _).map _)
theorem getM_none {κ : Type} [DecidableEq κ] : ∀ {l : List (κ × Value)} {x : κ}, x ∉ l.map (·.1) → getM l x = none
  | [], _, _ => rfl
  | p :: l, x, h => by
    simp only [List.map_cons, List.mem_cons, not_or] at h
    rw [getM_cons, if_neg h.1]
    exact getM_none h.2
theorem getM_del {κ : Type} [DecidableEq κ] : ∀ {l : List (κ × Value)} {x : κ}, (l.map (·.1)).Nodup → ∀ y, getM (delM l x) y = if y = x then none else getM l y
  | [], x, _, y => by rw [delM, getM_nil]; split <;> rfl
  | p :: l, x, h, y => by
    simp only [List.map_cons, List.nodup_cons] at h
    rw [delM]
    by_cases hx : x = p.1
    · rw [if_pos hx]
      by_cases hy : y = x
      · rw [if_pos hy, hy, hx]; exact getM_none h.1
      · rw [if_neg hy, getM_cons, if_neg (fun e => hy (e.trans hx.symm))]
    · rw [if_neg hx, getM_cons, getM_del h.2 y]
      by_cases hy : y = p.1
      · rw [if_pos hy, if_neg (fun e => hx (e.symm.trans hy)), getM_cons, if_pos hy]
      · rw [if_neg hy]
        by_cases hyx : y = x
        · rw [if_pos hyx, if_pos hyx]
        · rw [if_neg hyx, if_neg hyx, getM_cons, if_neg hy]
theorem keys_put {κ : Type} [DecidableEq κ] : ∀ (l : List (κ × Value)) (x : κ) (v : Value), ∀ y, y ∈ (putM l x v).map (·.1) ↔ y = x ∨ y ∈ l.map (·.1)
  | [], x, v, y => by simp [putM]
  | p :: l, x, v, y => by
    rw [putM]
    by_cases hx : x = p.1
    · rw [if_pos hx]; simp [hx]
    · rw [if_neg hx]
      simp only [List.map_cons, List.mem_cons, keys_put l x v y]
      constructor
      · rintro (h | h | h)
        · exact .inr (.inl h)
        · exact .inl h
        · exact .inr (.inr h)
      · rintro (h | h | h)
        · exact .inr (.inl h)
        · exact .inl h
        · exact .inr (.inr h)
theorem nodup_put {κ : Type} [DecidableEq κ] : ∀ {l : List (κ × Value)} {x : κ} {v : Value}, (l.map (·.1)).Nodup → ((putM l x v).map (·.1)).Nodup
  | [], _, _, _ => by simp [putM]
  | p :: l, x, v, h => by
    simp only [List.map_cons, List.nodup_cons] at h
    rw [putM]
    by_cases hx : x = p.1
    · rw [if_pos hx]; simp only [List.map_cons, List.nodup_cons]; rw [hx]; exact h
    · rw [if_neg hx]
      simp only [List.map_cons, List.nodup_cons]
      refine ⟨fun hm => ?_, nodup_put h.2⟩
      rcases (keys_put l x v p.1).1 hm with e | e
      · exact hx e.symm
      · exact h.1 e
theorem keys_del {κ : Type} [DecidableEq κ] : ∀ (l : List (κ × Value)) (x : κ), ∀ y, y ∈ (delM l x).map (·.1) → y ∈ l.map (·.1)
  | [], x, y, h => by simp [delM] at h
  | p :: l, x, y, h => by
    rw [delM] at h
    by_cases hx : x = p.1
    · rw [if_pos hx] at h; simp only [List.map_cons, List.mem_cons]; exact .inr h
    · rw [if_neg hx] at h
      simp only [List.map_cons, List.mem_cons] at h ⊢
      rcases h with h | h
      · exact .inl h
      · exact .inr (keys_del l x y h)
theorem nodup_del {κ : Type} [DecidableEq κ] : ∀ {l : List (κ × Value)} {x : κ}, (l.map (·.1)).Nodup → ((delM l x).map (·.1)).Nodup
  | [], _, _ => by simp [delM]
  | p :: l, x, h => by
    simp only [List.map_cons, List.nodup_cons] at h
    rw [delM]
    by_cases hx : x = p.1
    · rw [if_pos hx]; exact h.2
    · rw [if_neg hx]
      simp only [List.map_cons, List.nodup_cons]
      exact ⟨fun hm => h.1 (keys_del l x p.1 hm), nodup_del h.2⟩
theorem op_str {H : Type} {enc : TypeId × Value → H} {P : Program} {W : World} {base : Nat} {t : TypeId} {v : Value} {d : DataW H} {p : List MemPlace} (ht : P.underlying t = some .string) (hok : Value.okWide P W .any base t v) (h : DataW.Trod enc P W 0 (fun _ => true) true t v d p) :
    ∃ s : ByteArray, v = .string s ∧ s.size ≤ 9223372036854775807 := by
  obtain ⟨s, h1, _, _, h2⟩ := ChangeMaps.open_string ht hok h
  exact ⟨s, h1, by simpa [maxLen] using h2⟩
end E
end Go.Proofs.Ytbfphjhahgpndaa
