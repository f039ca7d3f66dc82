/- Texts of this proof laid together: Ev, Eu, Et, Es, Er, Pl, SWa, SWb, Bp, BWa, BWb, Pq, PWa, PWb, PWc, Ta, Tb, Tc, Td, Te. No condition beyond what each lemma names. -/
import Derived.Test.YtiapgmfooclpcaaDoorZa
import Derived.Lib.Bytealg
import Derived.ChangeMaps5
/- More rules: strings, delete of a map's entry, functions of the library that the model itself carries out. No condition. -/
namespace Go.Proofs.YtiapgmfooclpcaaDoor
open Go.RowKit
set_option linter.unusedVariables false
set_option linter.unusedSimpArgs false
namespace E
variable {P : Program} {n : Nat} {e : Env} {w : World} {l0 l : List Oper} {K : Env → World → Prop} {d : Nat} {T : TypeId} {pos : String} {af : Array Edge} {x y : Operand} {TX TY : TypeId}
/-- a function without a Go body -/
theorem o_extern {f : FuncId} {fn : Func} {ex : Array Value → Sem Value} {args : List Operand} {vs : List Value} {ts : Array TypeId} {v : Value} {w' : World} (hf : P.funcs[f]? = some fn) (hname : (fn.name == "runtime.NumGoroutine") = false) (hb : fn.body.isNone = true) (hn : Extern.findNext fn = none) (he : Extern.find fn = some ex)
    (hv : evs n e args = vs) (hr : (ex vs.toArray).run P w = .ok v w') (h : ow P n l0 K l (upd e d v) w') : ow P n l0 K (⟨some d, .call ⟨.value (.func f), args.toArray, ts⟩, T, pos, af, none⟩ :: l) e w := by
  refine o_run (v := v) (w' := w') ?_ h
  have hc := run_callFunc_extern hf hname hb hn he vs.toArray w
  rw [hr] at hc
  have ha : (args.toArray.map (ev n e)) = vs.toArray := by rw [← hv, ← evs_eq]; simp
  simp [execOp, resolve, Deferred.ofValue, invoke, ev, ha, hc, Result.andThen] <;> first | done | (rw [← hv, ← evs_eq] at hc; simpa [Result.andThen] using hc)
theorem toList_beq (a b : ByteArray) : (a.toList == b.toList) = decide (a = b) := by
  rw [Lib.toList_data, Lib.toList_data]
  by_cases hab : a = b
  · subst hab; simp
  · have : ¬ a.data.toList = b.data.toList := fun e => hab (ByteArray.ext (Array.toList_inj.1 e))
    rw [beq_eq_false_iff_ne.2 this, decide_eq_false hab]
theorem b_eqlstr {a b : ByteArray} (hu : P.underlying TX = some .string) (hx : ev n e x = .string a) (hy : ev n e y = .string b) (h : ow P n l0 K l (upd e d (.bool (decide (a = b)))) w) :
    ow P n l0 K (⟨some d, .binOp .eql TX x y TY, T, pos, af, none⟩ :: l) e w := by
  refine o_run (v := .bool (decide (a = b))) (w' := w) ?_ h
  have hr : (Op.equal TX (.string a) (.string b)).run P w = .ok (a == b) w := eqv (fun d => by simp [Op.equalIn, run_underlying hu])
  have ht := toList_beq a b
  simp only [execOp, hx, hy, binOp, eqGuard, Sem.run_bind, hr, Result.andThen_ok, Sem.run_pure]
  simp [Op.stringOp, ht, hr, binOp]
theorem b_neqstr {a b : ByteArray} (hu : P.underlying TX = some .string) (hx : ev n e x = .string a) (hy : ev n e y = .string b) (h : ow P n l0 K l (upd e d (.bool (decide (a ≠ b)))) w) :
    ow P n l0 K (⟨some d, .binOp .neq TX x y TY, T, pos, af, none⟩ :: l) e w := by
  refine o_run (v := .bool (decide (a ≠ b))) (w' := w) ?_ h
  have hr : (Op.equal TX (.string a) (.string b)).run P w = .ok (a == b) w := eqv (fun d => by simp [Op.equalIn, run_underlying hu])
  have ht := toList_beq a b
  simp only [execOp, hx, hy, binOp, eqGuard, Sem.run_bind, hr, Result.andThen_ok, Sem.run_pure]
  simp [Op.stringOp, ht, hr, binOp]
/-- s[i] of a string -/
theorem o_ixstr {s : ByteArray} {m : Nat} {k : IntKind} (hu : P.underlying TX = some .string) (hx : ev n e x = .string s) (hi : ev n e y = .int k (m : Int)) (hm : m < s.size) (h : ow P n l0 K l (upd e d (.int .u8 (((s[m]).toBitVec).toNat : Int))) w) :
    ow P n l0 K (⟨some d, .index TX x y, T, pos, af, none⟩ :: l) e w := by
  refine o_run (v := .int .u8 (((s[m]).toBitVec).toNat : Int)) (w' := w) ?_ h
  have h1 : (0 : Int) ≤ (m : Int) := by omega
  have h2 : s[m]? = some s[m] := getElem?_pos s m hm
  simp [execOp, hx, hi, Instr.index, asIntOf, run_underlying hu, h1, h2]
/-- append to a new slice of nothing -/
theorem o_app0 {E : TypeId} {sz bytes : Nat} {z : Value} (hu : P.underlying TX = some (.slice E)) (hi : infB P E sz bytes z) (hzs : z.cells.size = sz) (hsz : 0 < sz)
    {g : Nat} {a' : Option Addr} {m' c' : Nat} {news : List Value} (hx : ev n e x = .slice (some ⟨g, 0, none⟩) 0 0) (hy : ev n e y = .slice a' m' c')
    (hB : Blk w g #[] E) (hr : Rd w a' news) (hl : news.length = m' * sz) (h1 : ∀ u ∈ news, u.oneCell' = true) (h63 : m' ≤ maxLen) (hby : m' * bytes ≤ 140737488355328)
    (h : ∀ a2 c2 w', Sl w' E sz a2 m' c2 news → Keep [] w w' → (∀ q, a2 = some q → q.block = g ∨ w.heap.size ≤ q.block) → ow P n l0 K l (upd e d (.slice a2 m' c2)) w') :
    ow P n l0 K (⟨some d, .call ⟨.builtin .append, #[x, y], #[TX, TX]⟩, T, pos, af, none⟩ :: l) e w := by
  by_cases hm : m' = 0
  · subst hm
    have hn : news = [] := List.eq_nil_of_length_eq_zero (by simpa using hl)
    subst hn
    obtain ⟨i, hi1, rfl, rfl, hz⟩ := hi
    refine o_run (v := .slice (some ⟨g, 0, none⟩) 0 0) (w' := w) ?_ (h (some ⟨g, 0, none⟩) 0 w ⟨by simp, .inr ⟨g, #[], rfl, hB, Nat.le_refl _, by simp [maxLen], by simp, by simp⟩⟩ (Keep.refl _ _) (fun q hq => by simp at hq; subst hq; exact .inl rfl))
    cases a' with
    | none => simp [execOp, resolve, invoke, builtin, hx, hy, Builtin.append_, run_underlying hu, sizeOf, typeInfo, hi1, Builtin.lenOf, Builtin.firstCells, storeCells]
    | some p => simp [execOp, resolve, invoke, builtin, hx, hy, Builtin.append_, run_underlying hu, sizeOf, typeInfo, hi1, Builtin.lenOf, Builtin.firstCells, storeCells, loadCells, loadCellsFrom]
  · obtain ⟨i, hi1, rfl, rfl, hz⟩ := hi
    have hpos : 0 < news.length := by rw [hl]; exact Nat.mul_pos (Nat.pos_of_ne_zero hm) hsz
    obtain ⟨b', o', rfl, _⟩ := hr.at 0 hpos
    have hnews : ∀ j u, news[j]? = some u → w.cell? ((⟨b', o', none⟩ : Addr).add j) = some u := by
      intro j u hj
      obtain ⟨b2, o2, he, hc⟩ := hr j u hj
      simp at he
      obtain ⟨rfl, rfl⟩ := he
      rw [Addr.add_lit]
      exact hc
    have hge := grownCap_ge w (0 + m') 0 E
    have hcm := grownCap_le_maxLen w (0 + m') 0 E (by omega)
    have hr' := run_append_grow (P := P) w TX T E i z hu hi1 hz ⟨g, 0, none⟩ 0 0 [] (by simp) (by simp) ⟨b', o', none⟩ m' c' news hl hnews (by omega) (by simp only [maxLen] at h63; omega) (growslice_fits (by omega) (by rw [Nat.zero_add]; exact hby))
    simp only [Nat.zero_add] at hr' hge hcm
    refine o_run (v := .slice (some ⟨w.heap.size, 0, none⟩) m' (grownCap w m' 0 E)) (w' := _) (by simp [execOp, resolve, invoke, builtin, hx, hy, hr']; rfl) (h _ _ _ ⟨hl, .inr ⟨w.heap.size, _, rfl, heap_alloc_new w.drew _, hge, hcm, ?_, ?_⟩⟩ ⟨rfl, rfl, rfl, by simp, fun k hk _ => Below.heap_alloc w.drew _ k hk⟩ (fun q hq => by simp at hq; subst hq; exact .inr (Nat.le_refl _)))
    · simp only [Array.size_append, List.size_toArray, size_zeroCells, hzs, hl]
      rw [← Nat.add_mul]
      congr 1
      omega
    · simp only [Array.toList_append, ← hl]
      simp
theorem delM_at {κ : Type} [DecidableEq κ] {kv : κ → Value} {l : List (κ × Value)} {es : List MapEntry} (he : es.map (fun x => (x.key, x.val)) = l.map (fun p => (kv p.1, p.2))) (x : κ) :
    match (l.map (·.1)).findIdx? (fun y => decide (x = y)) with
    | some i => (es.eraseIdx i).map (fun x => (x.key, x.val)) = (delM l x).map (fun p => (kv p.1, p.2)) ∧ i < es.length
    | none => delM l x = l := by
  induction l generalizing es with
  | nil => simp [delM]
  | cons p l ih =>
    obtain ⟨e0, es', rfl⟩ : ∃ e0 es', es = e0 :: es' := by
      cases es with
      | nil => simp at he
      | cons a b => exact ⟨a, b, rfl⟩
    simp only [List.map_cons, List.cons.injEq, Prod.mk.injEq] at he
    have ihh := ih he.2
    rw [List.map_cons, List.findIdx?_cons]
    by_cases h : x = p.1
    · simp only [h, decide_true, if_true]
      exact ⟨by simp [delM, he.2], by simp⟩
    · simp only [h, decide_false, if_false, Bool.false_eq_true]
      cases hx : (l.map (·.1)).findIdx? (fun y => decide (x = y)) with
      | none =>
        rw [hx] at ihh
        simp only [Option.map_none]
        rw [delM, if_neg h, ihh]
      | some i =>
        rw [hx] at ihh
        simp only [Option.map_some]
        refine ⟨?_, by simpa using ihh.2⟩
        rw [delM, if_neg h, List.eraseIdx_cons_succ, List.map_cons, List.map_cons, ihh.1]
        simp [he.1.1, he.1.2]
/-- delete(m, k) -/
theorem o_mdel {κ : Type} [DecidableEq κ] {kv : κ → Value} {KT E : TypeId} {r : Nat} {m : List (κ × Value)} {q : κ} {ts : Array TypeId} (hu : P.underlying TX = some (.map KT E)) (hts : ts[0]? = some TX) (hk : KeyOk P KT kv) (hx : ev n e x = .map (some r)) (hy : ev n e y = kv q) (hm : Mp w r kv m)
    (h : ∀ w', Mp w' r kv (delM m q) → Keep [r] w w' → w'.heap.size = w.heap.size → ow P n l0 K l e w') : ow P n l0 K (⟨none, .call ⟨.builtin .delete, #[x, y], ts⟩, T, pos, af, none⟩ :: l) e w := by
  obtain ⟨es, clock, hh, he, hbn⟩ := hm
  have hlt : r < w.heap.size := (Array.getElem?_eq_some_iff.1 hh).1
  have hg : (getObj r).run P w = .ok (.map es clock) w := by simp [getObj, Sem.run, hh]
  have hf := run_find hk he q w
  have hat := delM_at he q
  have hset : ∀ o', (setObj r o').run P w = .ok () { w with heap := w.heap.setIfInBounds r o' } := fun o' => run_setObj hh (by intros; simp)
  cases hi : (m.map (·.1)).findIdx? (fun y => decide (q = y)) with
  | none =>
    rw [hi] at hf hat
    simp only at hat
    refine o_run (d := none) (v := .tuple #[]) (w' := { w with heap := w.heap.setIfInBounds r (.map es clock) }) ?_ (h _ ⟨es, clock, by simp [hlt], by rw [hat]; exact he, hbn⟩ keep_setObj (by simp))
    simp only [Option.map_none] at hf
    simp [execOp, resolve, invoke, builtin, hx, hy, Builtin.delete_, hts, run_underlying hu, hg, hk.check, hf, hset]
  | some i =>
    rw [hi] at hf hat
    simp only at hat
    have hsz : i < es.size := by simpa using hat.2
    refine o_run (d := none) (v := .tuple #[]) (w' := { w with heap := w.heap.setIfInBounds r (.map (es.eraseIdxIfInBounds i) clock) }) ?_ (h _ ⟨es.eraseIdxIfInBounds i, clock, by simp [hlt], ?_, ?_⟩ keep_setObj (by simp))
    · simp only [Option.map_some] at hf
      simp [execOp, resolve, invoke, builtin, hx, hy, Builtin.delete_, hts, run_underlying hu, hg, hk.check, hf, hset]
    · rw [← hat.1]
      simp [Array.eraseIdxIfInBounds, hsz, Array.toList_eraseIdx]
    · intro y hy
      have : y ∈ es.toList := by
        simp only [Array.eraseIdxIfInBounds, hsz, dif_pos, Array.toList_eraseIdx] at hy
        exact List.mem_of_mem_eraseIdx hy
      exact hbn y this
theorem getM_none {κ : Type} [DecidableEq κ] : ∀ {l : List (κ × Value)} {x : κ}, x ∉ l.map (·.1) → getM l x = none
  | [], _, _ => rfl
  | p :: l, x, h => by
    simp only [List.map_cons, List.mem_cons, not_or] at h
    rw [getM_cons, if_neg h.1]
    exact getM_none h.2
theorem getM_del {κ : Type} [DecidableEq κ] : ∀ {l : List (κ × Value)} {x : κ}, (l.map (·.1)).Nodup → ∀ y, getM (delM l x) y = if y = x then none else getM l y
  | [], x, _, y => by rw [delM, getM_nil]; split <;> rfl
  | p :: l, x, h, y => by
    simp only [List.map_cons, List.nodup_cons] at h
    rw [delM]
    by_cases hx : x = p.1
    · rw [if_pos hx]
      by_cases hy : y = x
      · rw [if_pos hy, hy, hx]; exact getM_none h.1
      · rw [if_neg hy, getM_cons, if_neg (fun e => hy (e.trans hx.symm))]
    · rw [if_neg hx, getM_cons, getM_del h.2 y]
      by_cases hy : y = p.1
      · rw [if_pos hy, if_neg (fun e => hx (e.symm.trans hy)), getM_cons, if_pos hy]
      · rw [if_neg hy]
        by_cases hyx : y = x
        · rw [if_pos hyx, if_pos hyx]
        · rw [if_neg hyx, if_neg hyx, getM_cons, if_neg hy]
theorem keys_put {κ : Type} [DecidableEq κ] : ∀ (l : List (κ × Value)) (x : κ) (v : Value), ∀ y, y ∈ (putM l x v).map (·.1) ↔ y = x ∨ y ∈ l.map (·.1)
  | [], x, v, y => by simp [putM]
  | p :: l, x, v, y => by
    rw [putM]
    by_cases hx : x = p.1
    · rw [if_pos hx]; simp [hx]
    · rw [if_neg hx]
      simp only [List.map_cons, List.mem_cons, keys_put l x v y]
      constructor
      · rintro (h | h | h)
        · exact .inr (.inl h)
        · exact .inl h
        · exact .inr (.inr h)
      · rintro (h | h | h)
        · exact .inr (.inl h)
        · exact .inl h
        · exact .inr (.inr h)
theorem nodup_put {κ : Type} [DecidableEq κ] : ∀ {l : List (κ × Value)} {x : κ} {v : Value}, (l.map (·.1)).Nodup → ((putM l x v).map (·.1)).Nodup
  | [], _, _, _ => by simp [putM]
  | p :: l, x, v, h => by
    simp only [List.map_cons, List.nodup_cons] at h
    rw [putM]
    by_cases hx : x = p.1
    · rw [if_pos hx]; simp only [List.map_cons, List.nodup_cons]; rw [hx]; exact h
    · rw [if_neg hx]
      simp only [List.map_cons, List.nodup_cons]
      refine ⟨fun hm => ?_, nodup_put h.2⟩
      rcases (keys_put l x v p.1).1 hm with e | e
      · exact hx e.symm
      · exact h.1 e
theorem keys_del {κ : Type} [DecidableEq κ] : ∀ (l : List (κ × Value)) (x : κ), ∀ y, y ∈ (delM l x).map (·.1) → y ∈ l.map (·.1)
  | [], x, y, h => by simp [delM] at h
  | p :: l, x, y, h => by
    rw [delM] at h
    by_cases hx : x = p.1
    · rw [if_pos hx] at h; simp only [List.map_cons, List.mem_cons]; exact .inr h
    · rw [if_neg hx] at h
      simp only [List.map_cons, List.mem_cons] at h ⊢
      rcases h with h | h
      · exact .inl h
      · exact .inr (keys_del l x y h)
theorem nodup_del {κ : Type} [DecidableEq κ] : ∀ {l : List (κ × Value)} {x : κ}, (l.map (·.1)).Nodup → ((delM l x).map (·.1)).Nodup
  | [], _, _ => by simp [delM]
  | p :: l, x, h => by
    simp only [List.map_cons, List.nodup_cons] at h
    rw [delM]
    by_cases hx : x = p.1
    · rw [if_pos hx]; exact h.2
    · rw [if_neg hx]
      simp only [List.map_cons, List.nodup_cons]
      exact ⟨fun hm => h.1 (keys_del l x p.1 hm), nodup_del h.2⟩
theorem op_str {H : Type} {enc : TypeId × Value → H} {P : Program} {W : World} {base : Nat} {t : TypeId} {v : Value} {d : DataW H} {p : List MemPlace} (ht : P.underlying t = some .string) (hok : Value.okWide P W .any base t v) (h : DataW.Trod enc P W 0 (fun _ => true) true t v d p) :
    ∃ s : ByteArray, v = .string s ∧ s.size ≤ 9223372036854775807 := by
  obtain ⟨s, h1, _, _, h2⟩ := ChangeMaps.open_string ht hok h
  exact ⟨s, h1, by simpa [maxLen] using h2⟩
end E
end Go.Proofs.YtiapgmfooclpcaaDoor

/- More rules: function values and calls of them. No condition. -/
namespace Go.Proofs.YtiapgmfooclpcaaDoor
open Go.RowKit
set_option linter.unusedVariables false
set_option linter.unusedSimpArgs false
namespace E
variable {P : Program} {n : Nat} {e : Env} {w : World} {l0 l : List Oper} {K : Env → World → Prop} {d : Nat} {T : TypeId} {pos : String} {af : Array Edge} {x y : Operand} {TX TY : TypeId}
/-- a function value -/
theorem o_mkfn {fn : Fn} {caps : List Operand} {vs : List Value} (hv : evs n e caps = vs) (h : ow P n l0 K l (upd e d (.func fn #[] vs.toArray)) w) : ow P n l0 K (⟨some d, .makeFunc fn #[] caps.toArray, T, pos, af, none⟩ :: l) e w := by
  refine o_run (v := .func fn #[] vs.toArray) (w' := w) ?_ h
  simp [execOp, Instr.makeFunc, ← hv, ← evs_eq]
/-- a function value is called -/
theorem o_callc {f : FuncId} {args : List Operand} {vs caps : List Value} {ts : Array TypeId} {d : Option Nat} {S : Value → World → Prop} (hx : ev n e x = .func (.func f) #[] caps.toArray) (hf : callOk P f = true) (hv : evs n e args = vs) (hc : Ret P f (vs ++ caps) w S)
    (h : ∀ v w', S v w' → ow P n l0 K l (updo e d v) w') : ow P n l0 K (⟨d, .call ⟨.value x, args.toArray, ts⟩, T, pos, af, none⟩ :: l) e w := by
  unfold ow
  rw [if_pos (by simp [Region.wanted])]
  unfold opW
  have hr : (execOp (ev n e) ⟨d, .call ⟨.value x, args.toArray, ts⟩, T, pos, af, none⟩).run P w = .ok (.enter f (vs ++ caps).toArray) w := by
    unfold callOk at hf
    split at hf
    · rename_i fn hfn
      simp only [Bool.and_eq_true, Bool.not_eq_true'] at hf
      have hb : ¬ fn.body = none := by cases h : fn.body <;> simp_all
      have hn : ¬ fn.name = "runtime.NumGoroutine" := by simpa using hf.1
      simp [execOp, resolve, Deferred.ofValue, invoke, callFunc, hx, hfn, hn, hb, ← hv, ← evs_eq]
    · cases hf
  rw [hr]
  exact Calls.mono hc fun y w' hy => by
    cases y with
    | returned v => exact h _ _ hy
    | _ => exact hy
end E
end Go.Proofs.YtiapgmfooclpcaaDoor

/- More of the engine: append, with what stays of the old block. No condition. -/
namespace Go.Proofs.YtiapgmfooclpcaaDoor
open Go.RowKit
set_option linter.unusedVariables false
set_option linter.unusedSimpArgs false
namespace E
variable {P : Program} {n : Nat} {e : Env} {w : World} {l0 l : List Oper} {K : Env → World → Prop} {d : Nat} {T : TypeId} {pos : String} {af : Array Edge} {x y : Operand} {TX TY : TypeId}
theorem run_append2 {E : TypeId} {sz bytes : Nat} {z : Value} (hu : P.underlying TX = some (.slice E)) (hi : infB P E sz bytes z) (hzs : z.cells.size = sz) (hsz : 0 < sz)
    {a : Option Addr} {m c : Nat} {xs : List Value} (ho : Sl w E sz a m c xs) {a' : Option Addr} {m' c' : Nat} {news : List Value} (hr : Rd w a' news) (hl : news.length = m' * sz) (h1 : ∀ u ∈ news, u.oneCell' = true)
    (h63 : m + m' ≤ maxLen) (hby : (m + m') * bytes ≤ 140737488355328) :
    ∃ a2 c2 w', (Builtin.append_ #[TX, TX] T #[.slice a m c, .slice a' m' c']).run P w = .ok (.slice a2 (m + m') c2) w' ∧ Sl w' E sz a2 (m + m') c2 (xs ++ news) ∧
      ((a2 = a ∧ c2 = c ∧ Keep (blkOf a) w w' ∧ w'.heap.size = w.heap.size) ∨ (∃ g, a2 = some ⟨g, 0, none⟩ ∧ Keep [] w w' ∧ w.heap.size = g ∧ w'.heap.size = g + 1)) := by
  obtain ⟨i, hi1, rfl, rfl, hz⟩ := hi
  have hlen : (xs ++ news).length = (m + m') * i.size := by rw [List.length_append, ho.1, hl, Nat.add_mul]
  have hsmall : m + m' ≤ 9223372036854775807 := by simp only [maxLen] at h63; omega
  have hge := fun old => grownCap_ge w (m + m') old E
  have hcm := fun old => grownCap_le_maxLen w (m + m') old E h63
  have grown : ∀ old, Sl (w.drew.alloc (.cells (xs.toArray ++ news.toArray ++ Builtin.zeroCells z.cells (grownCap w (m + m') old E - (m + m'))) E)) E i.size (some ⟨w.heap.size, 0, none⟩) (m + m') (grownCap w (m + m') old E) (xs ++ news) := by
    intro old
    refine ⟨hlen, .inr ⟨w.heap.size, _, rfl, heap_alloc_new w.drew _, hge old, hcm old, ?_, ?_⟩⟩
    · simp only [Array.size_append, List.size_toArray, size_zeroCells, hzs, ho.1, hl, ← Nat.add_mul]
      congr 1
      have := hge old
      omega
    · simp only [Array.toList_append, List.append_assoc]
      rw [← List.append_assoc, ← hlen]
      exact List.take_left
  have kgrown : ∀ o, Keep [] w (w.drew.alloc o) := fun o => ⟨rfl, rfl, rfl, by simp, fun k hk _ => Below.heap_alloc w.drew o k hk⟩
  by_cases hm' : m' = 0
  · -- nothing is appended
    subst hm'
    have hn : news = [] := List.eq_nil_of_length_eq_zero (by simpa using hl)
    subst hn
    refine ⟨a, c, w, ?_, by simpa using ho, .inl ⟨rfl, rfl, Keep.refl _ _, rfl⟩⟩
    have hle := ho.le
    cases a' with
    | none => cases a <;> simp [Builtin.append_, run_underlying hu, sizeOf, typeInfo, hi1, Builtin.lenOf, Builtin.firstCells, hle, storeCells]
    | some p => cases a <;> simp [Builtin.append_, run_underlying hu, sizeOf, typeInfo, hi1, Builtin.lenOf, Builtin.firstCells, hle, storeCells, loadCells, loadCellsFrom]
  · have hpos : 0 < news.length := by rw [hl]; exact Nat.mul_pos (Nat.pos_of_ne_zero hm') hsz
    obtain ⟨b', o', rfl, _⟩ := hr.at 0 hpos
    have hnews : ∀ j u, news[j]? = some u → w.cell? ((⟨b', o', none⟩ : Addr).add j) = some u := by
      intro j u hj
      obtain ⟨b2, o2, he, hc⟩ := hr j u hj
      simp at he
      obtain ⟨rfl, rfl⟩ := he
      rw [Addr.add_lit]
      exact hc
    rcases ho.2 with ⟨rfl, rfl, rfl⟩ | ⟨g, cur, rfl, hb, hle, hcap, hcs, htake⟩
    · have hx : xs = [] := List.eq_nil_of_length_eq_zero (by simpa using ho.1)
      subst hx
      have hr' := run_append_nil (P := P) w TX T E i z hu hi1 hz ⟨b', o', none⟩ m' c' news hl hnews (by omega) (by omega) (by have hb := hby; simp only [Nat.zero_add] at hb; omega)
      have hgr := grown 0
      simp only [Nat.zero_add, List.nil_append, Array.empty_append] at hgr ⊢
      exact ⟨_, _, _, hr', hgr, .inr ⟨_, rfl, kgrown _, rfl, by simp⟩⟩
    · by_cases hroom : m + m' ≤ c
      · have hfit : m * i.size + news.length ≤ cur.size := by rw [hl, hcs, ← Nat.add_mul]; exact Nat.mul_le_mul_right _ hroom
        have hr' := run_append_room (P := P) w TX T E i hu hi1 g m c cur hb ⟨b', o', none⟩ m' c' news hl hnews h1 hroom hfit
        refine ⟨_, _, _, hr', ⟨hlen, .inr ⟨g, _, rfl, setRow_heap w g cur _ E _ hb, hroom, hcap, ?_, ?_⟩⟩, .inl ⟨rfl, rfl, ⟨rfl, rfl, rfl, by simp, fun k _ hk => setRow_other w g k _ (by simpa [blkOf] using hk)⟩, by simp⟩⟩
        · simp only [List.size_toArray, List.length_append, List.length_take, List.length_drop, Array.length_toList]
          omega
        · rw [htake, ← hlen]
          exact List.take_left
      · have holds : ∀ j u, xs[j]? = some u → w.cell? ((⟨g, 0, none⟩ : Addr).add j) = some u := by
          intro j u hj
          obtain ⟨b2, o2, he, hc⟩ := ho.rd j u hj
          simp at he
          obtain ⟨rfl, rfl⟩ := he
          rw [Addr.add_lit]
          exact hc
        have hr' := run_append_grow (P := P) w TX T E i z hu hi1 hz ⟨g, 0, none⟩ m c xs ho.1 holds ⟨b', o', none⟩ m' c' news hl hnews (by omega) (by omega) (growslice_fits (by omega) hby)
        exact ⟨_, _, _, hr', grown c, .inr ⟨_, rfl, kgrown _, rfl, by simp⟩⟩

theorem o_app2 {E : TypeId} {sz bytes : Nat} {z : Value} (hu : P.underlying TX = some (.slice E)) (hi : infB P E sz bytes z) (hzs : z.cells.size = sz) (hsz : 0 < sz)
    {a : Option Addr} {m c : Nat} {xs : List Value} {a' : Option Addr} {m' c' : Nat} {news : List Value} (hx : ev n e x = .slice a m c) (hy : ev n e y = .slice a' m' c')
    (ho : Sl w E sz a m c xs) (hr : Rd w a' news) (hl : news.length = m' * sz) (h1 : ∀ u ∈ news, u.oneCell' = true)
    (h63 : m + m' ≤ maxLen) (hby : (m + m') * bytes ≤ 140737488355328)
    (h : ∀ a2 c2 w', Sl w' E sz a2 (m + m') c2 (xs ++ news) → ((a2 = a ∧ c2 = c ∧ Keep (blkOf a) w w' ∧ w'.heap.size = w.heap.size) ∨ (∃ g, a2 = some ⟨g, 0, none⟩ ∧ Keep [] w w' ∧ w.heap.size = g ∧ w'.heap.size = g + 1)) → ow P n l0 K l (upd e d (.slice a2 (m + m') c2)) w') :
    ow P n l0 K (⟨some d, .call ⟨.builtin .append, #[x, y], #[TX, TX]⟩, T, pos, af, none⟩ :: l) e w := by
  obtain ⟨a2, c2, w', hrun, hs, hv⟩ := run_append2 (P := P) (T := T) hu hi hzs hsz ho hr (c' := c') hl h1 h63 hby
  refine o_run (v := .slice a2 (m + m') c2) (w' := w') ?_ (h a2 c2 w' hs hv)
  simp [execOp, resolve, invoke, builtin, hx, hy, hrun]
/-- the front of a slice -/
theorem Sl.front {E : TypeId} {sz m k c : Nat} {a : Option Addr} {xs ys : List Value} (h : Sl w E sz a (m + k) c (xs ++ ys)) (hx : xs.length = m * sz) (hk : 0 < m ∨ 0 < k) : Sl w E sz a m c xs := by
  refine ⟨hx, ?_⟩
  rcases h.2 with ⟨h1, h2, h3⟩ | ⟨g, cur, h1, hb, hle, hcap, hcs, ht⟩
  · omega
  · refine .inr ⟨g, cur, h1, hb, by omega, hcap, hcs, ?_⟩
    have := congrArg (List.take (m * sz)) ht
    rw [List.take_take, Nat.min_eq_left (Nat.mul_le_mul_right _ (by omega))] at this
    rw [this, ← hx, List.take_left]
/-- a relation of worlds: what is kept, and facts that last -/
def LeF (S : List Nat) (Fs : List (World → Prop)) (w w' : World) : Prop := Keep S w w' ∧ ∀ F ∈ Fs, F w → F w'
theorem LeF.refl (S : List Nat) (Fs : List (World → Prop)) (w : World) : LeF S Fs w w := ⟨Keep.refl _ _, fun _ _ h => h⟩
theorem LeF.tr {S : List Nat} {Fs : List (World → Prop)} {w w1 w2 : World} (h : LeF S Fs w w1) (h' : LeF S Fs w1 w2) : LeF S Fs w w2 :=
  ⟨h.1.trans h'.1 (fun _ hb _ => hb), fun F hF h0 => h'.2 F hF (h.2 F hF h0)⟩
theorem Sl.unk {E : TypeId} {sz m m' c c' : Nat} {a : Option Addr} {xs ys : List Value} (h : Sl w E sz a m c xs) (h' : Sl w E sz a m' c' ys) (ha : a ≠ none) (hs : 0 < sz) : c = c' := by
  rcases h.2 with ⟨h1, _⟩ | ⟨g, cur, h1, hb, _, _, hcs, _⟩
  · exact absurd h1 ha
  rcases h'.2 with ⟨h1', _⟩ | ⟨g', cur', h1', hb', _, _, hcs', _⟩
  · exact absurd h1' ha
  rw [h1] at h1'
  cases h1'
  have := hb.inj hb'
  subst this
  exact Nat.eq_of_mul_eq_mul_right hs (hcs.symm.trans hcs')
/-- a result that lies in memory -/
theorem ret_cell0 {P : Program} {n : Nat} {e : Env} {w : World} {F : Func} {S : Value → World → Prop} {a t b : Nat} {xs : List Value} (hr : F.results = #[.cell a t]) (ha : ev n e (.tmp a) = .pointer (some ⟨b, 0, none⟩)) (ht : isAggB P t = true) (hs : szB P t xs.length = true)
    (hc : ∀ j v, xs[j]? = some v → w.cell? ⟨b, j, none⟩ = some v) (h : S (.agg xs.toArray) w) : retR P F n S .ret e w := by
  refine ⟨.agg xs.toArray, ?_, h⟩
  have hg : ∀ t, (act n e).tmps.getD t undef = ev n e (.tmp t) := fun t => by rw [← act_eval]; rfl
  have hl := run_loadCellsFrom (P := P) (w := w) (b := b) (o := 0) xs 0 #[] (fun j v hv => by rw [Nat.zero_add, Nat.zero_add]; exact hc j v hv)
  have hlv : (loadVar t ⟨b, 0, none⟩).run P w = .ok (.agg xs.toArray) w := by
    simp [loadVar, run_isAggT ht, run_sizeOf hs, loadCells, hl]
  have hm : (F.results.mapM (fun
      | .tmp t => pure ((act n e).tmps.getD t undef)
      | .cell a t => do loadVar t (← asAddr ((act n e).tmps.getD a undef)) : ResultVar → Sem Value)).run P w = .ok #[.agg xs.toArray] w := by
    rw [hr]
    simp only [Array.mapM_eq_foldlM, ← Array.foldlM_toList, List.foldlM_cons, List.foldlM_nil, Sem.run_bind, Sem.run_map, Sem.run_pure, Result.andThen_ok, hg, ha, asAddr, hlv]
    rfl
  have hres : (results F (act n e).tmps).run P w = ((F.results.mapM (fun
      | .tmp t => pure ((act n e).tmps.getD t undef)
      | .cell a t => do loadVar t (← asAddr ((act n e).tmps.getD a undef)) : ResultVar → Sem Value)).run P w).andThen
        (fun vs w' => (pure (if h : vs.size = 1 then vs[0] else .tuple vs) : Sem Value).run P w') := Sem.run_bind P w _ _
  rw [hres, hm, Result.andThen_ok, Sem.run_pure]
  simp
end E
end Go.Proofs.YtiapgmfooclpcaaDoor

/- More of the engine: a region that draws its order, with an invariant of what was done, of the slots and of memory. No condition. -/
namespace Go.Proofs.YtiapgmfooclpcaaDoor
open Go.RowKit
set_option linter.unusedVariables false
set_option linter.unusedSimpArgs false
namespace E
variable {P : Program} {n : Nat} {R : Exit → Env → World → Prop} {k : List KI} {e : Env} {w : World}
theorem k_anyE {id : Nat} {l : List Oper} (m : Nat) (Le : World → World → Prop) (V : Nat → Value → World → Prop) (G : (Nat → Bool) → Env → World → Prop) (hm : P.follows .mixedOrders = true) (hb : backB 0 l = true) (ht : tailB m 0 l = true) (ho : ownB (dsts (l.take m)) = true)
    (hrefl : ∀ w, Le w w) (htrans : ∀ a b c, Le a b → Le b c → Le a c) (hst : ∀ i v w w', V i v w → Le w w' → V i v w') (hG : G (fun _ => false) e w.drew)
    (hop : ∀ i o, i < m → l[i]? = some o → ∀ D e' w', D i = false → (∀ j ∈ deps o, D j = true) → Shut l D → G D e' w' → Le w.drew w' → (∀ t, (∀ j, j < m → slotOf l j ≠ some t) → e' t = e t) → (∀ j ∈ deps o, ∀ t, slotOf l j = some t → V j (e' t) w') →
      ow P n l (fun e2 w2 => Le w' w2 ∧ V i (rdo e2 o.dst) w2 ∧ G (fun x => if x = i then true else D x) (updo e' o.dst (rdo e2 o.dst)) w2) [o] e' w')
    (hend : ∀ D e' w', (∀ i, i < m → i < l.length → D i = true) → G D e' w' → Le w.drew w' → (∀ t, (∀ j, j < m → slotOf l j ≠ some t) → e' t = e t) → (∀ j, j < m → ∀ t, slotOf l j = some t → V j (e' t) w') → ow P n l (kw P n R k) (l.drop m) e' w') :
    kw P n R (.code (.region id l.toArray true) :: k) e w := by
  have hown : ∀ i j d, i < m → j < m → slotOf l i = some d → slotOf l j = some d → i = j := by
    intro i j d hi hj h1 h2
    have conv : ∀ i, i < m → slotOf l i = some d → (dsts (l.take m))[i]? = some (some d) := by
      intro i hi h1
      rw [← slotOf_eq] at h1
      cases hl : l[i]? with
      | none => rw [hl] at h1; simp at h1
      | some o => rw [hl] at h1; simp at h1; simp [dsts, List.getElem?_take, hi, hl, h1]
    exact ownB_spec _ ho i j d (conv i hi h1) (conv j hj h2)
  refine k_core2 hm hb (fun D e' w' =>
    ((Le w.drew w' ∧ G D e' w') ∧ (∀ t, (∀ j, j < m → D j = true → slotOf l j ≠ some t) → e' t = e t) ∧ (∀ j, j < m → D j = true → ∀ t, slotOf l j = some t → V j (e' t) w') ∧ (∀ q, m ≤ q → D q = false)) ∨
    (∃ q, m < q ∧ (∀ i, i < q → D i = true) ∧ (∀ i, q ≤ i → D i = false) ∧ ow P n l (kw P n R k) (l.drop q) e' w')) ?_ ?_ ?_ (fun hK => ow_mono hK)
  · exact .inl ⟨⟨hrefl _, hG⟩, fun t _ => rfl, fun j _ h => by simp at h, fun _ _ => rfl⟩
  · intro D e' w' i o hl hD hdep hShut hI
    by_cases him : i < m
    · rcases hI with ⟨⟨hL, hGD⟩, hA, hV, hq⟩ | ⟨q, hq, hall, _, _⟩
      · have hA' : ∀ t, (∀ j, j < m → slotOf l j ≠ some t) → e' t = e t := fun t h => hA t (fun j hj _ => h j hj)
        have hd : ∀ j ∈ deps o, ∀ t, slotOf l j = some t → V j (e' t) w' := by
          intro j hj t hs
          have := backB_spec l 0 hb i o hl j hj
          exact hV j (by omega) (hdep j hj) t hs
        refine ow_mono ?_ (ow_frame (hop i o him hl D e' w' hD hdep hShut hGD hL hA' hd))
        rintro e2 w2 ⟨⟨hL2, hV2, hG2⟩, v, rfl⟩
        have hdc : o.dst = none ∨ ∃ d, o.dst = some d := by cases o.dst <;> simp
        rcases hdc with hdst | ⟨d, hdst⟩
        · have hup : ∀ v, updo e' o.dst v = e' := fun v => by rw [hdst]; rfl
          rw [hup] at hG2 ⊢
          have hsi : slotOf l i = none := by rw [slotOf_dst hl, hdst]
          have hni : ∀ j t, slotOf l j = some t → j ≠ i := fun j t hs hji => by rw [hji, hsi] at hs; cases hs
          refine .inl ⟨⟨htrans _ _ _ hL hL2, hG2⟩, ?_, ?_, ?_⟩
          · intro t h
            exact hA t (fun j hj hDj => h j hj (by by_cases hji : j = i <;> simp [hji, hDj]))
          · intro j hj hDj t hs
            exact hst _ _ _ _ (hV j hj (by simpa [hni j t hs] using hDj) t hs) hL2
          · intro q hqm
            have : q ≠ i := by omega
            simp [this, hq q hqm]
        have hsi : slotOf l i = some d := by rw [slotOf_dst hl, hdst]
        refine .inl ⟨⟨htrans _ _ _ hL hL2, ?_⟩, ?_, ?_, ?_⟩
        · have : rdo (updo e' o.dst v) o.dst = v := by rw [hdst]; simp [rdo, updo, upd]
          rw [this] at hG2
          exact hG2
        · intro t h
          have hne : t ≠ d := fun h' => h i him (by simp) (by rw [hsi, h'])
          rw [hdst]
          show upd e' d v t = e t
          unfold upd
          rw [beqf hne]
          exact hA t (fun j hj hDj => h j hj (by by_cases hji : j = i <;> simp [hji, hDj]))
        · intro j hj hDj t hs
          by_cases hji : j = i
          · subst hji
            have htd : t = d := by rw [hsi] at hs; exact (Option.some.inj hs).symm
            subst htd
            rw [hdst] at hV2 ⊢
            exact hV2
          · have hne : t ≠ d := fun h' => hji (hown j i d hj him (by rw [hs, h']) hsi)
            rw [hdst]
            show V j (upd e' d v t) w2
            unfold upd
            rw [beqf hne]
            exact hst _ _ _ _ (hV j hj (by simpa [hji] using hDj) t hs) hL2
        · intro q hqm
          have : q ≠ i := by omega
          simp [this, hq q hqm]
      · have := hall i (by omega)
        rw [hD] at this
        cases this
    · have hdall : ∀ j, j < i → D j = true := tailB_spec m l ht i o hl (by omega) D hShut hdep
      have hdrop : l.drop i = o :: l.drop (i + 1) := by
        have hlt := (List.getElem?_eq_some_iff.1 hl).1
        rw [List.drop_eq_getElem_cons hlt, (List.getElem?_eq_some_iff.1 hl).2]
      have fin : (∀ j, i < j → D j = false) → ow P n l (kw P n R k) (l.drop i) e' w' → ow P n l (fun e2 w2 => ∃ q, m < q ∧ (∀ x, x < q → (if x = i then true else D x) = true) ∧ (∀ x, q ≤ x → (if x = i then true else D x) = false) ∧ ow P n l (kw P n R k) (l.drop q) e2 w2) [o] e' w' := by
        intro hlater hrun
        rw [hdrop] at hrun
        refine ow_mono ?_ (ow_cons hrun)
        intro e2 w2 h2
        refine ⟨i + 1, by omega, fun x hx => ?_, fun x hx => ?_, h2⟩
        · by_cases hxi : x = i
          · simp [hxi]
          · simp [hxi, hdall x (by omega)]
        · have : x ≠ i := by omega
          simp [this, hlater x (by omega)]
      rcases hI with ⟨⟨hL, hGD⟩, hA, hV, hq⟩ | ⟨q, hq, hall, hnone, hrun⟩
      · have him' : i = m := by
          by_cases h : i = m
          · exact h
          · have h1 := hdall m (by omega)
            rw [hq m (Nat.le_refl _)] at h1
            cases h1
        subst him'
        exact ow_mono (fun _ _ h => .inr h) (fin (fun j hj => hq j (by omega)) (hend D e' w' (fun j hj _ => hdall j hj) hGD hL (fun t h => hA t (fun j hj _ => h j hj)) (fun j hj t hs => hV j hj (hdall j hj) t hs)))
      · have hqi : q = i := by
          by_cases h1 : i < q
          · have := hall i h1; rw [hD] at this; cases this
          · by_cases h2 : q < i
            · have := hdall q h2; rw [hnone q (Nat.le_refl _)] at this; cases this
            · omega
        subst hqi
        exact ow_mono (fun _ _ h => .inr h) (fin (fun j hj => hnone j (by omega)) hrun)
  · intro D e' w' hall hI
    rcases hI with ⟨⟨hL, hGD⟩, hA, hV, hq⟩ | ⟨q, hq, hall', hnone, hrun⟩
    · have hlen : l.length ≤ m := by
        by_cases h : l.length ≤ m
        · exact h
        · have := hall m (by omega); rw [hq m (Nat.le_refl _)] at this; cases this
      have hin : ∀ j t, slotOf l j = some t → j < l.length := by
        intro j t hs
        rw [← slotOf_eq] at hs
        cases hl : l[j]? with
        | none => rw [hl] at hs; simp at hs
        | some o => exact (List.getElem?_eq_some_iff.1 hl).1
      have := hend D e' w' (fun j _ hj => hall j hj) hGD hL (fun t h => hA t (fun j hj _ => h j hj)) (fun j hj t hs => hV j hj (hall j (hin j t hs)) t hs)
      rw [List.drop_eq_nil_of_le hlen] at this
      exact this
    · have hlen : l.length ≤ q := by
        by_cases h : l.length ≤ q
        · exact h
        · have := hall q (by omega); rw [hnone q (Nat.le_refl _)] at this; cases this
      rw [List.drop_eq_nil_of_le hlen] at hrun
      exact hrun
end E
end Go.Proofs.YtiapgmfooclpcaaDoor

/- Opening a law's arguments: slices of structs with slices in them, and what their sizes are. No condition. -/
namespace Go.Proofs.YtiapgmfooclpcaaDoor
open Go.RowKit
set_option linter.unusedVariables false
set_option linter.unusedSimpArgs false
namespace E
section
variable {H : Type} {enc : TypeId × Value → H} {P : Program} {W : World} {base : Nat}
/-- cells that are read as a type's, all rows of them within reach -/
def Tr (enc : TypeId × Value → H) (P : Program) (W : World) (t : TypeId) (cs : List Value) : Prop :=
  ∃ m y, DataW.trod enc P W 0 (fun _ => true) true m t cs = some y ∧ ∀ n ∈ y.1.weights P t, n ≤ reachBytes
theorem Tr.any {t : TypeId} {cs : List Value} (h : Tr enc P W t cs) : ∃ m y, DataW.trod enc P W 0 (fun _ => true) true m t cs = some y := by
  obtain ⟨m, y, h, _⟩ := h; exact ⟨m, y, h⟩
theorem mem_weightsAll {e : TypeId} : ∀ {ds : List (DataW H)} {d : DataW H} {n : Nat}, d ∈ ds → n ∈ d.weights P e → n ∈ DataW.weightsAll P e ds
  | d0 :: ds, d, n, hd, hn => by
    simp only [DataW.weightsAll, List.mem_append]
    rcases List.mem_cons.1 hd with rfl | hd
    · exact .inl hn
    · exact .inr (mem_weightsAll hd hn)
theorem Tr.elems {t e : TypeId} {sz : Nat} {cs0 : List Value} (ht : P.underlying t = some (.slice e)) (hc : P.cellsOf e = sz) (hsz : 0 < sz) (h : Tr enc P W t cs0) :
    ∃ (a : Option Addr) (len cap : Nat) (css : List (List Value)), cs0 = [.slice a len cap] ∧ css.length = len ∧ len ≤ cap ∧ cap ≤ 9223372036854775807 ∧ cap * P.bytesOf e ≤ 140737488351232 ∧ (∀ cs ∈ css, cs.length = sz) ∧ Rd W a css.flatten ∧ ∀ cs ∈ css, Tr enc P W e cs := by
  subst hc
  obtain ⟨fuel, y, hf, hw⟩ := h
  rcases DataW.trod_slice ht hf with ⟨h1, h2⟩ | ⟨x, len, cap, elems, rest, m, h1, h2, h3, h4, h5, h6, h7, h8, h9, _⟩
  · exact ⟨none, 0, 0, [], h1, rfl, by omega, by omega, by omega, by simp, Rd.nil _ _, by simp⟩
  · have hcap := (h9 rfl).1
    have each : ∀ i, i < len → ∃ cs, W.cells? 0 (x.add (i * P.cellsOf e)) (P.cellsOf e) = some cs ∧ Tr enc P W e cs := by
      intro i hi
      have := h8 i hi
      rw [List.getElem?_eq_getElem (by omega)] at this
      obtain ⟨cs, hcs, hy⟩ := Option.bind_eq_some_iff.1 this
      refine ⟨cs, hcs, m, _, hy, fun n hn => hw n ?_⟩
      rw [h3]
      simp only [DataW.weights, ht, List.mem_cons, List.mem_append]
      exact .inr (.inl (mem_weightsAll (List.mem_map_of_mem (List.getElem_mem _)) hn))
    have hcell : ∀ i (hi : i < len), (Classical.choose (each i hi)).length = P.cellsOf e ∧ ∀ j v, (Classical.choose (each i hi))[j]? = some v → W.cell? ((x.add (i * P.cellsOf e)).add j) = some v := by
      intro i hi
      exact cells_spec (Classical.choose_spec (each i hi)).1
    let css : List (List Value) := List.ofFn (n := len) fun i => Classical.choose (each i.val i.isLt)
    have hcss : ∀ i (hi : i < len), css[i]? = some (Classical.choose (each i hi)) := by
      intro i hi
      simp [css, hi]
    have hl : ∀ cs ∈ css, cs.length = P.cellsOf e := by
      intro cs hcs
      obtain ⟨i, rfl⟩ := List.mem_ofFn.1 hcs
      exact (hcell i.val i.isLt).1
    refine ⟨some x, len, cap, css, h2, by simp [css], h5, by simpa [maxLen] using h6, ?_, hl, ?_, ?_⟩
    · have := hw (((elems.map (·.1)).length + (rest.map (·.1)).length) * P.bytesOf e) (by rw [h3]; simp [DataW.weights, ht])
      simp only [List.length_map, h7, hcap] at this
      rw [show len + (cap - len) = cap by omega] at this
      exact this
    · intro i v hv
      obtain ⟨cs, h9, h10⟩ := flatten_at hsz css hl i v hv
      have hi : i / P.cellsOf e < len := by
        have := (List.getElem?_eq_some_iff.1 h9).1
        simpa [css] using this
      rw [hcss _ hi] at h9
      obtain rfl := Option.some.inj h9
      have := (hcell _ hi).2 _ v h10
      have hsp : x.spot = none := by
        have h0 := hcell 0 (Nat.lt_of_le_of_lt (Nat.zero_le _) hi)
        have h1 : ∃ v, W.cell? ((x.add (0 * P.cellsOf e)).add 0) = some v := ⟨_, h0.2 0 _ (List.getElem?_eq_getElem (by rw [h0.1]; exact hsz))⟩
        obtain ⟨v1, h1⟩ := h1
        rw [Nat.zero_mul, show (x.add 0).add 0 = x from by simp [Addr.add]] at h1
        exact spot_none h1
      obtain ⟨b, o, sp⟩ := x
      simp at hsp
      subst hsp
      refine ⟨b, o, rfl, ?_⟩
      rw [Addr.add_lit, Addr.add_lit, Nat.add_assoc, Nat.mul_comm, Nat.div_add_mod] at this
      exact this
    · intro cs hcs
      obtain ⟨i, rfl⟩ := List.mem_ofFn.1 hcs
      exact (Classical.choose_spec (each i.val i.isLt)).2
theorem Tr.fld {e : TypeId} {fs : Array Field} {f : Field} {i : Nat} {cs : List Value} (h : Tr enc P W e cs) (hu : P.underlying e = some (.struct fs)) (hf : fs[i]? = some f) (hc : P.cellsOf f.type = 1) :
    Tr enc P W f.type ((cs.drop f.offset).take 1) := by
  obtain ⟨m, y, hy, hw⟩ := h
  obtain ⟨xs, n, _, hx, _, hl, hfl⟩ := DataW.trod_struct hu hy
  have := hfl i f hf
  have hi : i < fs.size := (Array.getElem?_eq_some_iff.1 hf).1
  rw [hc, List.getElem?_eq_getElem (by rw [hl]; exact hi)] at this
  refine ⟨n, _, this, fun k hk => hw k ?_⟩
  rw [hx]
  simp only [DataW.weights, hu]
  refine DataW.weights_mem_each (j := i) (t := f.type) (d := (xs[i]'(by rw [hl]; exact hi)).1) ?_ ?_ k hk
  · rw [List.getElem?_map, Array.getElem?_toList, hf]; rfl
  · rw [List.getElem?_map, List.getElem?_eq_getElem (by rw [hl]; exact hi)]; rfl
theorem Tr.row {t e : TypeId} {k : IntKind} {cs : List Value} (h : Tr enc P W t cs) (ht : P.underlying t = some (.slice e)) (he : P.underlying e = some (.int k)) (hc : P.cellsOf e = 1) :
    ∃ a len cap zs, cs = [.slice a len cap] ∧ Row k W a len cap zs ∧ cap * P.bytesOf e ≤ 140737488351232 := by
  obtain ⟨a, len, cap, css, h1, _, h2, h3, h4, _⟩ := h.elems ht hc (by decide)
  obtain ⟨a', len', cap', zs, h5, h6⟩ := trod_row h.any ht he hc
  rw [h1] at h5
  cases h5
  exact ⟨a, len, cap, zs, h1, h6, h4⟩
theorem tr_of {t : TypeId} {v : Value} {d : DataW H} {p : List MemPlace} (h : DataW.Trod enc P W 0 (fun _ => true) true t v d p) (hw : ∀ n ∈ d.weights P t, n ≤ reachBytes) : Tr enc P W t v.cells.toList := by
  obtain ⟨fuel, hf⟩ := h
  exact ⟨fuel, _, hf, hw⟩
theorem fit_of {ts : List TypeId} {ds : List (DataW H)} (h : (DataW.weightsEach P ts ds).all (· ≤ reachBytes) = true) {j : Nat} {t : TypeId} {d : DataW H} (ht : ts[j]? = some t) (hd : ds[j]? = some d) : ∀ n ∈ d.weights P t, n ≤ reachBytes := by
  intro n hn
  have := List.all_eq_true.1 h _ (DataW.weights_mem_each ht hd n hn)
  simpa using this
/-- an argument that is a slice whose elements are of sz cells -/
theorem op_deep {t e : TypeId} {sz : Nat} {v : Value} {d : DataW H} {p : List MemPlace} (ht : P.underlying t = some (.slice e)) (hc : P.cellsOf e = sz) (hsz : 0 < sz) (hok : Value.okWide P W .any base t v) (h : DataW.Trod enc P W 0 (fun _ => true) true t v d p) (hw : ∀ n ∈ d.weights P t, n ≤ reachBytes) :
    ∃ (a : Option Addr) (len cap : Nat) (css : List (List Value)), v = .slice a len cap ∧ css.length = len ∧ len ≤ cap ∧ cap ≤ 9223372036854775807 ∧ cap * P.bytesOf e ≤ 140737488351232 ∧ (∀ cs ∈ css, cs.length = sz) ∧ Rd W a css.flatten ∧ ∀ cs ∈ css, Tr enc P W e cs := by
  obtain ⟨a, len, cap, rfl⟩ := WideShapes.okWide_slice ht hok
  obtain ⟨a', len', cap', css, h1, h2⟩ := (tr_of h hw).elems ht hc hsz
  simp only [Value.cells] at h1
  cases h1
  exact ⟨a, len, cap, css, rfl, h2⟩
end
end E
end Go.Proofs.YtiapgmfooclpcaaDoor

/- Plain facts on the sum CRC-32 in steps of a bit and of a byte. No condition. -/
namespace Go.Proofs.YtiapgmfooclpcaaDoor
set_option linter.unusedVariables false
set_option linter.unusedSimpArgs false
namespace Crc

/-- one bit -/
def bs (x : BitVec 32) : BitVec 32 := (x >>> 1) ^^^ (3988292384#32 &&& -(x &&& 1#32))
def bsN : Nat → BitVec 32 → BitVec 32
  | 0, x => x
  | j + 1, x => bs (bsN j x)
/-- what a byte does -/
def tab (i : BitVec 8) : BitVec 32 := bsN 8 (i.setWidth 32)
def stp (x : BitVec 32) (c : BitVec 8) : BitVec 32 := tab (x.setWidth 8 ^^^ c) ^^^ (x >>> 8)
def fold (x : BitVec 32) (l : List (BitVec 8)) : BitVec 32 := l.foldl stp x
/-- the sum of bytes behind a sum -/
def add (s : Int) (l : List (BitVec 8)) : Int := ((~~~ (fold (~~~ (BitVec.ofInt 32 s)) l)).toNat : Int)

theorem fold_nil (x : BitVec 32) : fold x [] = x := rfl
theorem fold_cons (x : BitVec 32) (c : BitVec 8) (l : List (BitVec 8)) : fold x (c :: l) = fold (stp x c) l := rfl
theorem fold_append (x : BitVec 32) (l m : List (BitVec 8)) : fold x (l ++ m) = fold (fold x l) m := by unfold fold; rw [List.foldl_append]
theorem fold_take (x : BitVec 32) (l : List (BitVec 8)) (k : Nat) (h : k < l.length) : fold x (l.take (k + 1)) = stp (fold x (l.take k)) l[k] := by
  unfold fold
  rw [List.take_succ_eq_append_getElem h, List.foldl_append]
  rfl

theorem add_range (s : Int) (l : List (BitVec 8)) : 0 ≤ add s l ∧ add s l < 4294967296 := by
  unfold add
  have := (~~~ (fold (~~~ (BitVec.ofInt 32 s)) l)).isLt
  omega

theorem ofInt_toNat (x : BitVec 32) : BitVec.ofInt 32 (x.toNat : Int) = x := by
  rw [BitVec.ofInt_natCast, BitVec.ofNat_toNat, BitVec.setWidth_eq]

/-- a sum behind a sum is the sum of both -/
theorem add_add (s : Int) (l m : List (BitVec 8)) : add (add s l) m = add s (l ++ m) := by
  unfold add
  rw [ofInt_toNat, BitVec.not_not, fold_append]

/-! ### one bit -/
theorem and_one (x : BitVec 32) : x &&& 1#32 = if x.getLsbD 0 then 1#32 else 0#32 := by
  apply BitVec.eq_of_getLsbD_eq
  intro i hi
  rw [BitVec.getLsbD_and]
  have h1 : (1#32).getLsbD i = decide (i = 0) := by
    rw [BitVec.getLsbD_one]
    by_cases h : i = 0 <;> simp [h]
  rw [h1]
  by_cases h : i = 0
  · subst h
    cases x.getLsbD 0 <;> simp
  · cases x.getLsbD 0 <;> simp [h]

theorem bs_eq (x : BitVec 32) : bs x = if x.getLsbD 0 then (x >>> 1) ^^^ 3988292384#32 else x >>> 1 := by
  unfold bs
  rw [and_one]
  cases x.getLsbD 0
  · simp
  · simp only [if_true]
    congr 1

theorem bs_xor (a b : BitVec 32) : bs (a ^^^ b) = bs a ^^^ bs b := by
  rw [bs_eq, bs_eq, bs_eq, BitVec.getLsbD_xor, BitVec.ushiftRight_xor_distrib]
  cases a.getLsbD 0 <;> cases b.getLsbD 0 <;> simp
  · rw [BitVec.xor_assoc]
  · rw [BitVec.xor_assoc, BitVec.xor_assoc, BitVec.xor_comm (b >>> 1)]
  · generalize a >>> 1 = p
    generalize b >>> 1 = q
    rw [BitVec.xor_assoc p, ← BitVec.xor_assoc 3988292384#32 q, BitVec.xor_comm 3988292384#32 q, BitVec.xor_assoc q, BitVec.xor_self, BitVec.xor_zero]

theorem bsN_xor (j : Nat) (a b : BitVec 32) : bsN j (a ^^^ b) = bsN j a ^^^ bsN j b := by
  induction j with
  | zero => rfl
  | succ j ih => simp only [bsN, ih, bs_xor]

theorem bsN_add (j k : Nat) (x : BitVec 32) : bsN (j + k) x = bsN j (bsN k x) := by
  induction j with
  | zero => rw [Nat.zero_add]; rfl
  | succ j ih => rw [Nat.add_right_comm]; simp only [bsN, ih]

theorem bsN_zero (j : Nat) : bsN j 0#32 = 0#32 := by
  induction j with
  | zero => rfl
  | succ j ih => simp only [bsN, ih]; decide

/-- the lower bits are nought: a shift -/
theorem bsN_shift (x : BitVec 32) (m : Nat) : ∀ j, j ≤ m → bsN j (x <<< m) = (x <<< m) >>> j
  | 0, _ => by simp [bsN]
  | j + 1, h => by
    simp only [bsN]
    rw [bsN_shift x m j (by omega), bs_eq]
    have h0 : ((x <<< m) >>> j).getLsbD 0 = false := by
      rw [BitVec.getLsbD_ushiftRight, BitVec.getLsbD_shiftLeft]
      have : j + 0 < m := by omega
      rw [decide_eq_true this]
      simp
    rw [h0]
    simp [BitVec.shiftRight_add]

theorem split8 (x : BitVec 32) : x = (x.setWidth 8).setWidth 32 ^^^ ((x >>> 8) <<< 8) := by
  apply BitVec.eq_of_getLsbD_eq
  intro i hi
  rw [BitVec.getLsbD_xor, BitVec.getLsbD_setWidth, BitVec.getLsbD_setWidth, BitVec.getLsbD_shiftLeft, BitVec.getLsbD_ushiftRight]
  by_cases h : i < 8
  · simp [h, hi]
  · have : 8 + (i - 8) = i := by omega
    simp [h, hi, this]

/-- a byte is eight bits -/
theorem stp_eq (x : BitVec 32) (c : BitVec 8) : stp x c = bsN 8 (x ^^^ c.setWidth 32) := by
  unfold stp tab
  have hx : bsN 8 x = bsN 8 ((x.setWidth 8).setWidth 32) ^^^ (x >>> 8) := by
    conv => lhs; rw [split8 x]
    rw [bsN_xor, bsN_shift _ 8 8 (by omega)]
    congr 1
    apply BitVec.eq_of_getLsbD_eq
    intro i hi
    rw [BitVec.getLsbD_ushiftRight, BitVec.getLsbD_shiftLeft, BitVec.getLsbD_ushiftRight]
    by_cases h : 8 + i < 32
    · simp [h]
    · rw [BitVec.getLsbD_ushiftRight, BitVec.getLsbD_of_ge x (8 + i) (by omega)]
      simp [h]
  rw [bsN_xor, hx]
  have hs : (x.setWidth 8 ^^^ c).setWidth 32 = (x.setWidth 8).setWidth 32 ^^^ c.setWidth 32 := by
    apply BitVec.eq_of_getLsbD_eq
    intro i hi
    simp only [BitVec.getLsbD_setWidth, BitVec.getLsbD_xor]
    by_cases h : i < 8 <;> simp [h, hi]
  rw [hs, bsN_xor, BitVec.xor_assoc, BitVec.xor_assoc, BitVec.xor_comm (x >>> 8)]

/-- as the reference says it -/
theorem bs_ref (x : BitVec 32) : bs x = if x % 2#32 = 1#32 then (x / 2#32) ^^^ 3988292384#32 else x / 2#32 := by
  rw [bs_eq]
  have h1 : x / 2#32 = x >>> 1 := by
    apply BitVec.eq_of_toNat_eq
    rw [BitVec.toNat_udiv, BitVec.toNat_ushiftRight, Nat.shiftRight_eq_div_pow]
    rfl
  have h2 : (x % 2#32 = 1#32) ↔ x.getLsbD 0 = true := by
    rw [BitVec.toNat_eq, BitVec.toNat_umod, BitVec.getLsbD, Nat.testBit_zero]
    simp
  rw [h1]
  by_cases h : x % 2#32 = 1#32
  · rw [if_pos h, if_pos (h2.1 h)]
  · rw [if_neg h, if_neg (fun h' => h (h2.2 h'))]

/-! ### two rows of bytes -/
theorem stp_xor (x y : BitVec 32) (c d : BitVec 8) : stp (x ^^^ y) (c ^^^ d) = stp x c ^^^ stp y d := by
  rw [stp_eq, stp_eq, stp_eq, ← bsN_xor]
  congr 1
  have hs : (c ^^^ d).setWidth 32 = c.setWidth 32 ^^^ d.setWidth 32 := by
    apply BitVec.eq_of_getLsbD_eq
    intro i hi
    simp only [BitVec.getLsbD_setWidth, BitVec.getLsbD_xor]
    by_cases h : i < 32 <;> simp [h, hi]
  rw [hs, BitVec.xor_assoc, BitVec.xor_assoc, ← BitVec.xor_assoc y, BitVec.xor_comm y, BitVec.xor_assoc]

theorem fold_xor : ∀ (l m : List (BitVec 8)) (x y : BitVec 32), l.length = m.length → fold (x ^^^ y) (List.zipWith (· ^^^ ·) l m) = fold x l ^^^ fold y m
  | [], [], x, y, _ => rfl
  | c :: l, d :: m, x, y, h => by
    simp only [List.zipWith_cons_cons, fold_cons]
    rw [stp_xor]
    exact fold_xor l m _ _ (by simpa using h)
  | [], _ :: _, _, _, h => by simp at h
  | _ :: _, [], _, _, h => by simp at h

/-! ### four bytes -/
/-- the number of up to four bytes, the least first -/
def le : List (BitVec 8) → BitVec 32
  | [] => 0#32
  | c :: l => c.setWidth 32 ^^^ (le l <<< 8)

theorem fold_le (l : List (BitVec 8)) : ∀ x, l.length ≤ 4 → fold x l = bsN (8 * l.length) (x ^^^ le l) := by
  induction l with
  | nil => intro x _; simp [fold, bsN, le]
  | cons c l ih =>
    intro x h
    simp only [List.length_cons] at h
    rw [fold_cons, ih _ (by omega), stp_eq, List.length_cons, Nat.mul_add, Nat.mul_one, bsN_add]
    congr 1
    rw [le, bsN_xor, bsN_xor, bsN_xor]
    have h8 : bsN 8 (le l <<< 8) = le l := by
      rw [bsN_shift _ 8 8 (by omega)]
      have hb : ∀ (m : List (BitVec 8)) i, m.length ≤ 3 → 24 ≤ i → (le m).getLsbD i = false := by
        intro m
        induction m with
        | nil => intro i _ _; simp [le]
        | cons d m ihm =>
          intro i hm hi
          rw [le, BitVec.getLsbD_xor, BitVec.getLsbD_setWidth, BitVec.getLsbD_shiftLeft]
          have h0 : d.getLsbD i = false := BitVec.getLsbD_of_ge d i (by omega)
          have hlen : m.length ≤ 2 := by simp at hm; omega
          have h1 : (le m).getLsbD (i - 8) = false := by
            match m, hlen with
            | [], _ => simp [le]
            | [a], _ =>
              rw [le, BitVec.getLsbD_xor, BitVec.getLsbD_setWidth, BitVec.getLsbD_of_ge a _ (by omega)]
              simp [le]
            | [a, b], _ =>
              rw [le, BitVec.getLsbD_xor, BitVec.getLsbD_setWidth, BitVec.getLsbD_of_ge a _ (by omega), BitVec.getLsbD_shiftLeft, le, BitVec.getLsbD_xor, BitVec.getLsbD_setWidth, BitVec.getLsbD_of_ge b _ (by omega)]
              simp [le]
          rw [h0, h1]
          simp
      apply BitVec.eq_of_getLsbD_eq
      intro i hi
      rw [BitVec.getLsbD_ushiftRight, BitVec.getLsbD_shiftLeft]
      by_cases hh : 8 + i < 32
      · simp [hh]
      · rw [hb l i (by omega) (by omega)]
        simp [hh]
    rw [h8, BitVec.xor_assoc]

/-! ### a bit can be undone -/
def un (y : BitVec 32) : BitVec 32 := if y.getLsbD 31 then ((y ^^^ 3988292384#32) <<< 1) ||| 1#32 else y <<< 1
theorem un_bs (x : BitVec 32) : un (bs x) = x := by
  have hp : (3988292384#32).getLsbD 31 = true := by decide
  rw [bs_eq]
  unfold un
  have hs : (x >>> 1).getLsbD 31 = false := by rw [BitVec.getLsbD_ushiftRight]; exact BitVec.getLsbD_of_ge _ _ (by omega)
  cases h : x.getLsbD 0
  · simp only [Bool.false_eq_true, if_false, hs]
    apply BitVec.eq_of_getLsbD_eq
    intro i hi
    rw [BitVec.getLsbD_shiftLeft, BitVec.getLsbD_ushiftRight]
    by_cases h0 : i = 0
    · subst h0; rw [h]; simp
    · have : 1 + (i - 1) = i := by omega
      have h1 : ¬ i < 1 := by omega
      simp [this, h1, hi]
  · simp only [if_true, BitVec.getLsbD_xor, hs, hp, Bool.false_xor, BitVec.xor_assoc, BitVec.xor_self, BitVec.xor_zero]
    apply BitVec.eq_of_getLsbD_eq
    intro i hi
    rw [BitVec.getLsbD_or, BitVec.getLsbD_shiftLeft, BitVec.getLsbD_ushiftRight, BitVec.getLsbD_one]
    by_cases h0 : i = 0
    · subst h0; simp [h]
    · have : 1 + (i - 1) = i := by omega
      have h1 : ¬ i < 1 := by omega
      simp [this, h0, h1, hi]

theorem bs_inj {x y : BitVec 32} (h : bs x = bs y) : x = y := by rw [← un_bs x, ← un_bs y, h]
theorem bsN_inj (j : Nat) {x y : BitVec 32} (h : bsN j x = bsN j y) : x = y := by
  induction j with
  | zero => exact h
  | succ j ih => exact ih (bs_inj h)
theorem xor_left_inj {a b c : BitVec 32} (h : a ^^^ c = b ^^^ c) : a = b := by
  have := congrArg (· ^^^ c) h
  simpa [BitVec.xor_assoc] using this
theorem stp_inj {x y : BitVec 32} {c : BitVec 8} (h : stp x c = stp y c) : x = y := by
  rw [stp_eq, stp_eq] at h
  exact xor_left_inj (bsN_inj 8 h)
theorem fold_inj : ∀ (l : List (BitVec 8)) {x y : BitVec 32}, fold x l = fold y l → x = y
  | [], _, _, h => h
  | c :: l, _, _, h => stp_inj (fold_inj l h)

theorem le_inj : ∀ (l m : List (BitVec 8)), l.length = m.length → l.length ≤ 4 → le l = le m → l = m
  | [], [], _, _, _ => rfl
  | c :: l, d :: m, h1, h2, h => by
    simp only [List.length_cons] at h1 h2
    have hb : ∀ i, (le (c :: l)).getLsbD i = (le (d :: m)).getLsbD i := fun i => by rw [h]
    have hcd : c = d := by
      apply BitVec.eq_of_getLsbD_eq
      intro i hi
      have := hb i
      simp only [le, BitVec.getLsbD_xor, BitVec.getLsbD_setWidth, BitVec.getLsbD_shiftLeft] at this
      have h3 : i < 32 := by omega
      simpa [hi, h3] using this
    subst hcd
    have hlm : le l <<< 8 = le m <<< 8 := by
      have : (le l <<< 8) ^^^ c.setWidth 32 = (le m <<< 8) ^^^ c.setWidth 32 := by
        simp only [le] at h
        rw [BitVec.xor_comm, h, BitVec.xor_comm]
      exact xor_left_inj this
    have hlen : l.length ≤ 3 := by omega
    have ht : ∀ (m : List (BitVec 8)), m.length ≤ 3 → le m = (le m <<< 8) >>> 8 := by
      intro m hm
      have := fold_le (0#8 :: m) 0#32 (by simp; omega)
      rw [fold_cons, fold_le m _ (by omega)] at this
      have h0 : stp 0#32 0#8 = 0#32 := by decide
      rw [h0, BitVec.zero_xor, BitVec.zero_xor, List.length_cons, Nat.mul_add, Nat.mul_one, bsN_add] at this
      have h2 := bsN_inj _ this
      have h3 : (0#8).setWidth 32 = 0#32 := by decide
      rw [show le (0#8 :: m) = le m <<< 8 from by rw [le, h3, BitVec.zero_xor], bsN_shift _ 8 8 (by omega)] at h2
      exact h2
    rw [le_inj l m (by omega) (by omega) (by rw [ht l hlen, ht m (by omega), hlm])]
  | [], _ :: _, h, _, _ => by simp at h
  | _ :: _, [], h, _, _ => by simp at h

/-- a window of up to four bytes that was turned turns the sum -/
theorem fold_window {x : BitVec 32} {p q r s : List (BitVec 8)} (hl : q.length = r.length) (h4 : q.length ≤ 4) (h : fold x (p ++ (q ++ s)) = fold x (p ++ (r ++ s))) : q = r := by
  rw [fold_append, fold_append, fold_append, fold_append] at h
  have h1 := fold_inj s h
  rw [fold_le q _ h4, fold_le r _ (by omega), hl] at h1
  have h2 := bsN_inj _ h1
  rw [BitVec.xor_comm, BitVec.xor_comm _ (le r)] at h2
  exact le_inj q r hl h4 (xor_left_inj h2)

end Crc
end Go.Proofs.YtiapgmfooclpcaaDoor

/- The walks of sum.New and (*sum.Table).Add. No condition beyond what each contract names. -/
namespace Go.Proofs.YtiapgmfooclpcaaDoor
open Go.RowKit E
set_option linter.unusedVariables false
set_option linter.unusedSimpArgs false
set_option maxRecDepth 100000
attribute [local irreducible] ow qw kw kq cw opW Ret

def partTab (i : Nat) : Array Value := Array.ofFn (n := 256) fun j => if j.val < i then .int .u32 ((Crc.tab (BitVec.ofNat 8 j.val)).toNat : Int) else .int .u32 0
def tabCells : Array Value := Array.ofFn (n := 256) fun j => .int .u32 ((Crc.tab (BitVec.ofNat 8 j.val)).toNat : Int)
theorem partTab_all : partTab 256 = tabCells := by
  unfold partTab tabCells
  congr 1
  funext j
  rw [if_pos j.isLt]
theorem partTab_zero : partTab 0 = Array.replicate 256 (.int .u32 0) := by
  apply Array.ext <;> simp [partTab]
theorem partTab_size (i : Nat) : (partTab i).size = 256 := by simp [partTab]
theorem tab_at (x : BitVec 8) : tabCells[x.toNat]? = some (.int .u32 ((Crc.tab x).toNat : Int)) := by
  have := x.isLt
  simp [tabCells, this]
theorem partTab_set (i : Nat) (hi : i < 256) : (partTab i).setIfInBounds i (.int .u32 ((Crc.bsN 8 (BitVec.ofInt 32 (i : Int))).toNat : Int)) = partTab (i + 1) := by
  have he : Crc.tab (BitVec.ofNat 8 i) = Crc.bsN 8 (BitVec.ofInt 32 (i : Int)) := by
    unfold Crc.tab
    congr 1
    apply BitVec.eq_of_toNat_eq
    simp
    omega
  apply Array.ext
  · simp [partTab]
  · intro j h1 h2
    have hj : j < 256 := by simpa [partTab] using h2
    rw [Array.getElem_setIfInBounds (by simpa [partTab] using hj)]
    simp only [partTab, Array.getElem_ofFn]
    by_cases h : i = j
    · subst h
      rw [if_pos rfl, if_pos (by omega), he]
    · rw [if_neg h]
      by_cases h' : j < i
      · rw [if_pos h', if_pos (by omega)]
      · rw [if_neg h', if_neg (by omega)]

theorem build42 (w : World) : (Instr.build 125 #[]).run Tryd.prog w = .ok (.agg (Array.replicate 256 (.int .u32 0))) w := by kernel_rfl

theorem sumnew_ok (w : World) : Ret Tryd.prog 37 [] w (fun v w' => ∃ b, v = .pointer (some ⟨b, 0, none⟩) ∧ w.heap.size ≤ b ∧ Blk w' b tabCells 125 ∧ Keep [] w w') := by
  refine fn_enter (n := 29) Tryd.func37 rfl rfl (Nat.le_of_ble_eq_true rfl) (fun e => ?_)
  refine k_seq ?_
  refine k_region ?_
  refine m_ptr rfl rfl ?_
  refine o_nil ?_
  refine k_seq ?_
  refine k_region ?_
  refine o_build (vs := []) rfl build42 ?_
  refine o_box rfl rfl (fun b w1 hB hK hb hZ => ?_)
  refine m_ptr rfl rfl ?_
  refine o_nil ?_
  refine k_seq ?_
  refine k_seq ?_
  refine k_region ?_
  refine m_int rfl rfl ?_
  refine o_nil ?_
  refine k_block ?_
  refine k_loop (σ := Nat) (fun i => [(1, .pointer (some ⟨b, 0, none⟩)), (6, .int .i64 (i : Int))]) (fun i w' => i ≤ 256 ∧ Blk w' b (partTab i) 125 ∧ Keep [] w w') (fun i => 256 - i) 0 ⟨rfl, rfl, trivial⟩ ⟨by omega, by rw [partTab_zero]; exact hB, hK⟩ (fun i e w2 hJ => ?_)
  obtain ⟨hi, hB2, hK2⟩ := hJ
  refine k_seq ?_
  refine k_region ?_
  refine b_lss rfl rfl ?_
  refine o_nil ?_
  refine k_seq ?_
  refine k_cond rfl (fun h => ?_) (fun h => ?_)
  rotate_left
  ·
    refine k_exit rfl ?_
    refine k_seq ?_
    refine k_region ?_
    refine m_ptr rfl rfl ?_
    refine m_ptr rfl rfl ?_
    refine o_nil ?_
    refine k_ret (ret_tmps (ts := [0]) (v := .pointer _) rfl rfl ?_)
    have : i = 256 := by omega
    subst this
    rw [partTab_all] at hB2
    exact ⟨b, rfl, by omega, hB2, hK2⟩
  refine k_skip ?_
  refine k_seq ?_
  refine k_block ?_
  refine k_seq ?_
  refine k_region ?_
  refine m_int rfl rfl ?_
  refine m_int rfl rfl ?_
  refine o_nil ?_
  refine k_seq ?_
  refine k_region ?_
  refine m_int rfl rfl ?_
  refine cv32 rfl Tryd.underlying107 rfl ?_
  refine m_int rfl rfl ?_
  refine o_nil ?_
  refine k_seq ?_
  refine k_seq ?_
  refine k_region ?_
  refine m_int rfl rfl ?_
  refine o_nil ?_
  refine k_block ?_
  refine k_loop (σ := Nat) (fun j => [(1, .pointer (some ⟨b, 0, none⟩)), (2, .int .i64 (i : Int)), (3, .int .u32 ((Crc.bsN j (BitVec.ofInt 32 (i : Int))).toNat : Int)), (6, .int .i64 (i : Int)), (11, .int .i64 (j : Int))]) (fun j w' => j ≤ 8 ∧ w' = w2) (fun j => 8 - j) 0 ⟨rfl, rfl, rfl, rfl, rfl, trivial⟩ ⟨by omega, rfl⟩ (fun j e w3 hJ => ?_)
  obtain ⟨hj, rfl⟩ := hJ
  refine k_seq ?_
  refine k_region ?_
  refine b_lss rfl rfl ?_
  refine o_nil ?_
  refine k_seq ?_
  refine k_cond rfl (fun h => ?_) (fun h => ?_)
  rotate_left
  ·
    refine k_exit rfl ?_
    refine k_region ?_
    refine m_ptr rfl rfl ?_
    refine m_int rfl rfl ?_
    refine m_int rfl rfl ?_
    refine o_nilc rfl ?_
    refine o_fld0 rfl rfl ?_
    refine o_ixa1 Tryd.underlying123 rfl rfl rfl (by omega) ?_
    have hj8 : j = 8 := by omega
    subst hj8
    refine o_st (v := .int _ _) rfl rfl rfl rfl hB2 (by rw [partTab_size]; omega) (fun w4 hB4 hK4 hZ4 => ?_)
    refine o_nil ?_
    refine k_blk ?_
    refine k_region ?_
    refine n_add rfl rfl (by omega) ?_
    refine m_int rfl rfl ?_
    refine o_nil ?_
    refine k_goal ⟨i + 1, ⟨rfl, rfl, trivial⟩, ⟨by omega, ?_, hK2.trans hK4 (by intro x hx hlt; simp at hx; omega)⟩, by omega⟩
    rw [Nat.zero_add, partTab_set i (by omega)] at hB4
    exact hB4
  refine k_skip ?_
  refine k_seq ?_
  refine k_block ?_
  refine k_region ?_
  refine m_int rfl rfl ?_
  refine v32_shrn (c := 1) rfl rfl ?_
  refine m_int rfl rfl ?_
  refine v32_and (b := 1#32) rfl rfl ?_
  refine v32_neg rfl ?_
  refine v32_and (a := 3988292384#32) rfl rfl ?_
  refine v32_xor rfl rfl ?_
  refine m_int rfl rfl ?_
  refine o_nil ?_
  refine k_blk ?_
  refine k_region ?_
  refine n_add rfl rfl (by omega) ?_
  refine m_int rfl rfl ?_
  refine o_nil ?_
  refine k_goal ⟨j + 1, ⟨rfl, rfl, rfl, rfl, rfl, trivial⟩, ⟨by omega, rfl⟩, by omega⟩

theorem sumadd_ok (w : World) (tb : Nat) (TT : TypeId) (s : Int) (a : Option Addr) (c : Nat) (l : List (BitVec 8)) (hB : Blk w tb tabCells TT) (hR : Rd w a (l.map u8v)) (hl : l.length ≤ 9223372036854775807) :
    Ret Tryd.prog 38 [.pointer (some ⟨tb, 0, none⟩), .int .i64 s, .slice a l.length c] w (fun v w' => v = .int .i64 (Crc.add s l) ∧ w' = w) := by
  refine fn_enter (n := 37) Tryd.func38 rfl rfl (Nat.le_of_ble_eq_true rfl) (fun e => ?_)
  refine k_seq ?_
  refine k_region ?_
  refine m_int rfl rfl ?_
  refine o_nil ?_
  refine k_seq ?_
  refine k_seq ?_
  refine k_region ?_
  refine m_ptr rfl rfl ?_
  refine b_eqlp Tryd.underlying91 rfl rfl ?_
  refine o_nil ?_
  refine k_no rfl (by simp) ?_
  refine k_skip ?_
  refine k_seq ?_
  refine k_region ?_
  refine m_int rfl rfl ?_
  refine cv32 rfl Tryd.underlying107 rfl ?_
  refine v32_not rfl ?_
  refine m_int rfl rfl ?_
  refine o_nil ?_
  refine k_seq ?_
  refine k_seq ?_
  refine k_region ?_
  refine m_sl rfl rfl ?_
  refine o_lens Tryd.underlying25 rfl ?_
  refine m_int rfl rfl ?_
  refine o_nil ?_
  refine k_block ?_
  refine k_loop (σ := Nat) (fun k => [(0, .pointer (some ⟨tb, 0, none⟩)), (7, .int .u32 ((Crc.fold (~~~ (BitVec.ofInt 32 s)) (l.take k)).toNat : Int)), (15, .slice a l.length c), (16, .int .i64 (l.length : Int)), (17, .int .i64 (k : Int))]) (fun k w' => k ≤ l.length ∧ w' = w) (fun k => l.length - k) 0 ⟨rfl, rfl, rfl, rfl, rfl, trivial⟩ ⟨by omega, rfl⟩ (fun k e w3 hJ => ?_)
  obtain ⟨hk, rfl⟩ := hJ
  refine k_seq ?_
  refine k_region ?_
  refine b_lss rfl rfl ?_
  refine o_nil ?_
  refine k_seq ?_
  refine k_cond rfl (fun h => ?_) (fun h => ?_)
  rotate_left
  ·
    refine k_exit rfl ?_
    refine k_seq ?_
    refine k_region ?_
    refine m_int rfl rfl ?_
    refine v32_not rfl ?_
    refine cv32_i rfl Tryd.underlying3 rfl ?_
    refine m_int rfl rfl ?_
    refine o_nil ?_
    refine k_ret (ret_tmps (ts := [6]) (v := .int _ _) rfl rfl ?_)
    have hk' : k = l.length := by omega
    subst hk'
    rw [List.take_length]
    exact ⟨rfl, rfl⟩
  have hlt : k < l.length := by omega
  obtain ⟨b, o, rfl, hc⟩ := hR k _ (u8_at l k hlt)
  refine k_skip ?_
  refine k_seq ?_
  refine k_block ?_
  refine k_seq ?_
  refine k_region ?_
  refine o_ixs1 Tryd.underlying25 rfl rfl rfl hlt ?_
  refine o_ld rfl rfl hc ?_
  refine m_int rfl rfl ?_
  refine o_nil ?_
  refine k_region ?_
  refine m_ptr rfl rfl ?_
  refine m_int rfl rfl ?_
  refine cv32_8 rfl Tryd.underlying5 rfl ?_
  refine m_int rfl rfl ?_
  refine v8_xor rfl rfl ?_
  refine o_nilc rfl ?_
  refine o_fld0 rfl rfl ?_
  refine o_ixa1 Tryd.underlying123 rfl rfl rfl (by have := (BitVec.setWidth 8 (Crc.fold (~~~ (BitVec.ofInt 32 s)) (l.take k)) ^^^ l[k]).isLt; omega) ?_
  refine o_ld (v := .int .u32 ((Crc.tab (BitVec.setWidth 8 (Crc.fold (~~~ (BitVec.ofInt 32 s)) (l.take k)) ^^^ l[k])).toNat : Int)) rfl rfl (by rw [Nat.zero_add, hB.cell]; exact tab_at _) ?_
  refine m_int rfl rfl ?_
  refine v32_shrn (c := 8) rfl rfl ?_
  refine v32_xor rfl rfl ?_
  refine m_int rfl rfl ?_
  refine o_nil ?_
  refine k_blk ?_
  refine k_region ?_
  refine n_add rfl rfl (by omega) ?_
  refine m_int rfl rfl ?_
  refine o_nil ?_
  refine k_goal ⟨k + 1, ⟨rfl, ?_, rfl, rfl, rfl, trivial⟩, ⟨by omega, rfl⟩, by omega⟩
  rw [Crc.fold_take _ _ _ hlt]
  rfl

end Go.Proofs.YtiapgmfooclpcaaDoor

/- The walks of sum.Of, of the reference's step, Add and Of, and of the calls whose answers the document fixes. No condition beyond what each contract names. -/
namespace Go.Proofs.YtiapgmfooclpcaaDoor
open Go.RowKit E
set_option linter.unusedVariables false
set_option linter.unusedSimpArgs false
set_option maxRecDepth 100000
attribute [local irreducible] ow qw kw kq cw opW Ret

/-- a slice of bytes -/
structure Part where
  a : Option Addr
  c : Nat
  l : List (BitVec 8)
def pv (p : Part) : Value := .slice p.a p.l.length p.c
def sumOf (ps : List Part) : Int := ps.foldl (fun s p => Crc.add s p.l) 0
theorem sumOf_take (ps : List Part) (k : Nat) (h : k < ps.length) : sumOf (ps.take (k + 1)) = Crc.add (sumOf (ps.take k)) ps[k].l := by
  unfold sumOf
  rw [List.take_succ_eq_append_getElem h, List.foldl_append]
  rfl
theorem add_zero_nil : Crc.add 0 [] = 0 := by decide
theorem sumOf_flat (ps : List Part) : sumOf ps = Crc.add 0 (ps.flatMap (·.l)) := by
  have : ∀ (ps : List Part) (m : List (BitVec 8)), ps.foldl (fun s p => Crc.add s p.l) (Crc.add 0 m) = Crc.add 0 (m ++ ps.flatMap (·.l)) := by
    intro ps
    induction ps with
    | nil => intro m; simp
    | cons p ps ih => intro m; simp only [List.foldl_cons, Crc.add_add, ih, List.flatMap_cons, List.append_assoc]
  have h := this ps []
  rw [add_zero_nil] at h
  simpa [sumOf] using h

theorem sumof_ok (w : World) (a : Option Addr) (c : Nat) (ps : List Part) (hR : Rd w a (ps.map pv)) (hP : ∀ p ∈ ps, Rd w p.a (p.l.map u8v) ∧ p.l.length ≤ 9223372036854775807) (hl : ps.length ≤ 9223372036854775807) :
    Ret Tryd.prog 16 [.slice a ps.length c] w (fun v w' => v = .int .i64 (sumOf ps) ∧ Keep [] w w') := by
  refine fn_enter (n := 20) Tryd.func16 rfl rfl (Nat.le_of_ble_eq_true rfl) (fun e => ?_)
  refine k_seq ?_
  refine k_region ?_
  refine m_int rfl rfl ?_
  refine o_nil ?_
  refine k_seq ?_
  refine k_region ?_
  refine o_call rfl rfl (sumnew_ok w) (fun v w1 hv => ?_)
  obtain ⟨tb, rfl, htb, hB, hK⟩ := hv
  refine m_ptr rfl rfl ?_
  refine m_int rfl rfl ?_
  refine o_nil ?_
  refine k_seq ?_
  refine k_seq ?_
  refine k_region ?_
  refine m_sl rfl rfl ?_
  refine o_lens Tryd.underlying68 rfl ?_
  refine m_int rfl rfl ?_
  refine o_nil ?_
  refine k_block ?_
  refine k_loop (σ := Nat) (fun k => [(3, .pointer (some ⟨tb, 0, none⟩)), (4, .int .i64 (sumOf (ps.take k))), (8, .slice a ps.length c), (9, .int .i64 (ps.length : Int)), (10, .int .i64 (k : Int))]) (fun k w' => k ≤ ps.length ∧ w' = w1) (fun k => ps.length - k) 0 ⟨rfl, rfl, rfl, rfl, rfl, trivial⟩ ⟨by omega, rfl⟩ (fun k e w3 hJ => ?_)
  obtain ⟨hk, rfl⟩ := hJ
  refine k_seq ?_
  refine k_region ?_
  refine b_lss rfl rfl ?_
  refine o_nil ?_
  refine k_seq ?_
  refine k_cond rfl (fun h => ?_) (fun h => ?_)
  rotate_left
  ·
    refine k_exit rfl ?_
    refine k_seq ?_
    refine k_region ?_
    refine m_int rfl rfl ?_
    refine m_int rfl rfl ?_
    refine o_nil ?_
    refine k_ret (ret_tmps (ts := [2]) (v := .int _ _) rfl rfl ?_)
    have hk' : k = ps.length := by omega
    subst hk'
    rw [List.take_length]
    exact ⟨rfl, hK⟩
  have hlt : k < ps.length := by omega
  obtain ⟨b, o, rfl, hc⟩ := (hR.new hK) k (pv ps[k]) (by simp [hlt])
  refine k_skip ?_
  refine k_seq ?_
  refine k_block ?_
  refine k_seq ?_
  refine k_region ?_
  refine o_ixs1 Tryd.underlying68 rfl rfl rfl hlt ?_
  refine o_ld rfl rfl hc ?_
  refine m_sl rfl rfl ?_
  refine o_nil ?_
  refine k_region ?_
  refine m_ptr rfl rfl ?_
  refine m_int rfl rfl ?_
  refine m_sl rfl rfl ?_
  refine o_call rfl rfl (sumadd_ok w3 tb 125 _ _ _ ps[k].l hB ((hP _ (List.getElem_mem hlt)).1.new hK) (hP _ (List.getElem_mem hlt)).2) (fun v w4 hv => ?_)
  obtain ⟨rfl, rfl⟩ := hv
  refine m_int rfl rfl ?_
  refine o_nil ?_
  refine k_blk ?_
  refine k_region ?_
  refine n_add rfl rfl (by omega) ?_
  refine m_int rfl rfl ?_
  refine o_nil ?_
  refine k_goal ⟨k + 1, ⟨rfl, ?_, rfl, rfl, rfl, trivial⟩, ⟨by omega, rfl⟩, by omega⟩
  rw [sumOf_take _ _ hlt]
  rfl

theorem sumstep_ok (w : World) (r : BitVec 32) (c : BitVec 8) : Ret Tryd.prog 81 [.int .u32 (r.toNat : Int), .int .u8 (c.toNat : Int)] w (fun v w' => v = .int .u32 ((Crc.stp r c).toNat : Int) ∧ w' = w) := by
  refine fn_enter (n := 24) Tryd.func81 rfl rfl (Nat.le_of_ble_eq_true rfl) (fun e => ?_)
  refine k_seq ?_
  refine k_region ?_
  refine m_int rfl rfl ?_
  refine o_nil ?_
  refine k_seq ?_
  refine k_region ?_
  refine m_int rfl rfl ?_
  refine m_int rfl rfl ?_
  refine cv8_32 rfl Tryd.underlying107 rfl ?_
  refine v32_xor rfl rfl ?_
  refine m_int rfl rfl ?_
  refine o_nil ?_
  refine k_seq ?_
  refine k_seq ?_
  refine k_region ?_
  refine m_int rfl rfl ?_
  refine o_nil ?_
  refine k_block ?_
  refine k_loop (σ := Nat) (fun j => [(0, .int .u32 ((Crc.bsN j (r ^^^ c.setWidth 32)).toNat : Int)), (5, .int .i64 (j : Int))]) (fun j w' => j ≤ 8 ∧ w' = w) (fun j => 8 - j) 0 ⟨rfl, rfl, trivial⟩ ⟨by omega, rfl⟩ (fun j e w3 hJ => ?_)
  obtain ⟨hj, rfl⟩ := hJ
  refine k_seq ?_
  refine k_seq ?_
  refine k_region ?_
  refine m_int rfl rfl ?_
  refine b_lss rfl rfl ?_
  refine o_nil ?_
  refine k_cond rfl (fun h => ?_) (fun h => ?_)
  rotate_left
  ·
    refine k_exit rfl ?_
    refine k_seq ?_
    refine k_region ?_
    refine m_int rfl rfl ?_
    refine m_int rfl rfl ?_
    refine o_nil ?_
    refine k_ret (ret_tmps (ts := [4]) (v := .int _ _) rfl rfl ?_)
    have : j = 8 := by omega
    subst this
    rw [Crc.stp_eq]
    exact ⟨rfl, rfl⟩
  refine k_skip ?_
  refine k_seq ?_
  refine k_block ?_
  refine k_seq ?_
  refine k_region ?_
  refine m_int rfl rfl ?_
  refine v32_rem (b := 2#32) rfl rfl (by decide) ?_
  refine m_int rfl rfl ?_
  refine o_nil ?_
  refine k_seq ?_
  refine k_region ?_
  refine m_int rfl rfl ?_
  refine v32_quo (b := 2#32) rfl rfl (by decide) ?_
  refine m_int rfl rfl ?_
  refine o_nil ?_
  refine k_seq ?_
  refine k_region ?_
  refine m_int rfl rfl ?_
  refine v32_eql (b := 1#32) rfl rfl ?_
  refine o_nil ?_
  refine k_cond rfl (fun h => ?_) (fun h => ?_)
  ·
    refine k_region ?_
    refine m_int rfl rfl ?_
    refine v32_xor (b := 3988292384#32) rfl rfl ?_
    refine m_int rfl rfl ?_
    refine o_nil ?_
    refine k_blk ?_
    refine k_region ?_
    refine m_int rfl rfl ?_
    refine n_add rfl rfl (by omega) ?_
    refine m_int rfl rfl ?_
    refine o_nil ?_
    refine k_goal ⟨j + 1, ⟨?_, rfl, trivial⟩, ⟨by omega, rfl⟩, by omega⟩
    rw [Crc.bsN, Crc.bs_ref, if_pos h]
    rfl
  refine k_skip ?_
  refine k_blk ?_
  refine k_region ?_
  refine m_int rfl rfl ?_
  refine n_add rfl rfl (by omega) ?_
  refine m_int rfl rfl ?_
  refine o_nil ?_
  refine k_goal ⟨j + 1, ⟨?_, rfl, trivial⟩, ⟨by omega, rfl⟩, by omega⟩
  rw [Crc.bsN, Crc.bs_ref, if_neg h]
  rfl

theorem setw (s : Int) : (BitVec.ofInt 64 s).setWidth 32 = BitVec.ofInt 32 s := by
  apply BitVec.eq_of_toNat_eq
  rw [BitVec.toNat_setWidth, BitVec.toNat_ofInt, BitVec.toNat_ofInt]
  omega

theorem rsumadd_ok (w : World) (s : Int) (a : Option Addr) (c : Nat) (l : List (BitVec 8)) (hR : Rd w a (l.map u8v)) (hl : l.length ≤ 9223372036854775807) :
    Ret Tryd.prog 68 [.int .i64 s, .slice a l.length c] w (fun v w' => v = .int .i64 (Crc.add s l) ∧ w' = w) := by
  refine fn_enter (n := 26) Tryd.func68 rfl rfl (Nat.le_of_ble_eq_true rfl) (fun e => ?_)
  refine k_seq ?_
  refine k_region ?_
  refine m_int rfl rfl ?_
  refine o_nil ?_
  refine k_seq ?_
  refine k_region ?_
  refine m_int rfl rfl ?_
  refine cv64 rfl Tryd.underlying122 rfl ?_
  refine cv64_32 rfl Tryd.underlying107 rfl ?_
  refine v32_not rfl ?_
  refine m_int rfl rfl ?_
  refine o_nil ?_
  refine k_seq ?_
  refine k_seq ?_
  refine k_region ?_
  refine m_int rfl rfl ?_
  refine o_nil ?_
  refine k_block ?_
  refine k_loop (σ := Nat) (fun k => [(1, .slice a l.length c), (5, .int .u32 ((Crc.fold (~~~ (BitVec.ofInt 32 s)) (l.take k)).toNat : Int)), (6, .int .i64 (k : Int))]) (fun k w' => k ≤ l.length ∧ w' = w) (fun k => l.length - k) 0 ⟨rfl, (by rw [← setw]; rfl), rfl, trivial⟩ ⟨by omega, rfl⟩ (fun k e w3 hJ => ?_)
  obtain ⟨hk, rfl⟩ := hJ
  refine k_seq ?_
  refine k_seq ?_
  refine k_region ?_
  refine m_int rfl rfl ?_
  refine m_sl rfl rfl ?_
  refine o_lens Tryd.underlying25 rfl ?_
  refine b_lss rfl rfl ?_
  refine o_nil ?_
  refine k_cond rfl (fun h => ?_) (fun h => ?_)
  rotate_left
  ·
    refine k_exit rfl ?_
    refine k_seq ?_
    refine k_region ?_
    refine m_int rfl rfl ?_
    refine v32_not rfl ?_
    refine cv32_i rfl Tryd.underlying3 rfl ?_
    refine m_int rfl rfl ?_
    refine o_nil ?_
    refine k_ret (ret_tmps (ts := [4]) (v := .int _ _) rfl rfl ?_)
    have hk' : k = l.length := by omega
    subst hk'
    rw [List.take_length]
    exact ⟨rfl, rfl⟩
  have hlt : k < l.length := by omega
  obtain ⟨b, o, rfl, hc⟩ := hR k _ (u8_at l k hlt)
  refine k_skip ?_
  refine k_seq ?_
  refine k_block ?_
  refine k_region ?_
  refine m_int rfl rfl ?_
  refine m_sl rfl rfl ?_
  refine m_int rfl rfl ?_
  refine o_ixs1 Tryd.underlying25 rfl rfl rfl hlt ?_
  refine o_ld rfl rfl hc ?_
  refine o_call rfl rfl (sumstep_ok w3 _ _) (fun v w4 hv => ?_)
  obtain ⟨rfl, rfl⟩ := hv
  refine m_int rfl rfl ?_
  refine o_nil ?_
  refine k_blk ?_
  refine k_region ?_
  refine m_int rfl rfl ?_
  refine n_add rfl rfl (by omega) ?_
  refine m_int rfl rfl ?_
  refine o_nil ?_
  refine k_goal ⟨k + 1, ⟨rfl, ?_, rfl, trivial⟩, ⟨by omega, rfl⟩, by omega⟩
  rw [Crc.fold_take _ _ _ hlt]
  rfl

theorem rsumof_ok (w : World) (a : Option Addr) (c : Nat) (l : List (BitVec 8)) (hR : Rd w a (l.map u8v)) (hl : l.length ≤ 9223372036854775807) :
    Ret Tryd.prog 47 [.slice a l.length c] w (fun v w' => v = .int .i64 (Crc.add 0 l) ∧ w' = w) := by
  refine fn_enter (n := 5) Tryd.func47 rfl rfl (Nat.le_of_ble_eq_true rfl) (fun e => ?_)
  refine k_seq ?_
  refine k_region ?_
  refine m_int rfl rfl ?_
  refine o_nil ?_
  refine k_seq ?_
  refine k_region ?_
  refine m_sl rfl rfl ?_
  refine o_call rfl rfl (rsumadd_ok w 0 a c l hR hl) (fun v w4 hv => ?_)
  obtain ⟨rfl, rfl⟩ := hv
  refine m_int rfl rfl ?_
  refine o_nil ?_
  refine k_ret (ret_tmps (ts := [2]) (v := .int _ _) rfl rfl ?_)
  exact ⟨rfl, rfl⟩

end Go.Proofs.YtiapgmfooclpcaaDoor

/- Bits of bytes, plain. No condition. -/
namespace Go.Proofs.YtiapgmfooclpcaaDoor
open Go.RowKit
set_option linter.unusedVariables false
set_option linter.unusedSimpArgs false

/-- bit j of a row of bytes, the lowest bit of a byte first -/
def bitAt (bs : List (BitVec 8)) (j : Nat) : Bool := (bs.getD (j / 8) 0#8).getLsbD (j % 8)
/-- the number of n bits -/
def num (f : Nat → Bool) : Nat → Nat
  | 0 => 0
  | n + 1 => num f n + 2 ^ n * (f n).toNat

theorem num_lt (f : Nat → Bool) : ∀ n, num f n < 2 ^ n
  | 0 => by simp [num]
  | n + 1 => by
    have := num_lt f n
    unfold num
    rw [Nat.pow_succ]
    cases f n <;> simp <;> omega
theorem num_bit (f : Nat → Bool) : ∀ n j, (num f n).testBit j = (decide (j < n) && f j)
  | 0, j => by simp [num]
  | n + 1, j => by
    have h := num_lt f n
    unfold num
    rw [Nat.add_comm]
    cases hf : f n with
    | false =>
      simp only [Bool.toNat_false, Nat.mul_zero, Nat.zero_add, num_bit f n j]
      by_cases hj : j = n
      · subst hj; simp [hf]
      · have : (j < n) = (j < n + 1) := by apply propext; omega
        simp only [this]
    | true =>
      simp only [Bool.toNat_true, Nat.mul_one]
      by_cases hj : j < n
      · rw [Nat.testBit_two_pow_add_gt (by omega), num_bit f n j]
        have : j < n + 1 := by omega
        simp [hj, this]
      · by_cases hj2 : j = n
        · subst hj2
          rw [Nat.testBit_two_pow_add_eq, Nat.testBit_lt_two_pow h]
          simp [hf]
        · have h2 : 2 ^ n + num f n < 2 ^ j := by
            have : 2 ^ (n + 1) ≤ 2 ^ j := Nat.pow_le_pow_right (by decide) (by omega)
            rw [Nat.pow_succ] at this
            omega
          rw [Nat.testBit_lt_two_pow h2]
          have : ¬ j < n + 1 := by omega
          simp [this]
theorem num_eq (f : Nat → Bool) (n x : Nat) (h : ∀ j, x.testBit j = (decide (j < n) && f j)) : x = num f n :=
  Nat.eq_of_testBit_eq fun j => by rw [h, num_bit]
theorem num_bv {k : Nat} (f : Nat → Bool) (n : Nat) (x : BitVec k) (h : ∀ j, x.getLsbD j = (decide (j < n) && f j)) : x.toNat = num f n :=
  num_eq f n _ h
theorem num_congr {f g : Nat → Bool} : ∀ n, (∀ j, j < n → f j = g j) → num f n = num g n
  | 0, _ => rfl
  | n + 1, h => by
    unfold num
    rw [num_congr n (fun j hj => h j (by omega)), h n (by omega)]
/-- rows of bytes of one length with the same bits are one -/
theorem bits_ext {a b : List (BitVec 8)} (hl : a.length = b.length) (h : ∀ j, bitAt a j = bitAt b j) : a = b := by
  apply List.ext_getElem hl
  intro i h1 h2
  apply BitVec.eq_of_getLsbD_eq
  intro j hj
  have := h (8 * i + j)
  unfold bitAt at this
  rw [show (8 * i + j) / 8 = i by omega, show (8 * i + j) % 8 = j by omega] at this
  simpa [List.getD_eq_getElem?_getD, List.getElem?_eq_getElem h1, List.getElem?_eq_getElem h2] using this
theorem bitAt_app (a b : List (BitVec 8)) (j : Nat) : bitAt (a ++ b) j = if j < 8 * a.length then bitAt a j else bitAt b (j - 8 * a.length) := by
  unfold bitAt
  by_cases h : j < 8 * a.length
  · rw [if_pos h, List.getD_eq_getElem?_getD, List.getD_eq_getElem?_getD, List.getElem?_append_left (by omega)]
  · rw [if_neg h, List.getD_eq_getElem?_getD, List.getD_eq_getElem?_getD, List.getElem?_append_right (by omega), show j / 8 - a.length = (j - 8 * a.length) / 8 by omega, show j % 8 = (j - 8 * a.length) % 8 by omega]
theorem bitAt_out (a : List (BitVec 8)) (j : Nat) (h : 8 * a.length ≤ j) : bitAt a j = false := by
  unfold bitAt
  rw [List.getD_eq_getElem?_getD, List.getElem?_eq_none (by omega)]
  simp
theorem bitAt_set (a : List (BitVec 8)) (k : Nat) (x : BitVec 8) (hk : k < a.length) (j : Nat) : bitAt (a.set k x) j = if j / 8 = k then x.getLsbD (j % 8) else bitAt a j := by
  unfold bitAt
  rw [List.getD_eq_getElem?_getD, List.getD_eq_getElem?_getD, List.getElem?_set]
  by_cases h : k = j / 8
  · rw [if_pos h, if_pos h.symm, if_pos (by omega)]; simp
  · rw [if_neg h, if_neg (fun e => h e.symm)]
/-- a row of bits as bytes -/
def pack (l : List Bool) : List (BitVec 8) := (List.range ((l.length + 7) / 8)).map fun i => BitVec.ofNat 8 (num (fun j => l.getD (8 * i + j) false) 8)
theorem pack_len (l : List Bool) : (pack l).length = (l.length + 7) / 8 := by simp [pack]
theorem pack_bit (l : List Bool) (j : Nat) : bitAt (pack l) j = l.getD j false := by
  unfold bitAt pack
  by_cases h : j / 8 < (l.length + 7) / 8
  · simp only [List.getD_eq_getElem?_getD, List.getElem?_map, List.getElem?_range h, Option.map_some, Option.getD_some, BitVec.getLsbD_ofNat, num_bit]
    have : j % 8 < 8 := Nat.mod_lt _ (by decide)
    simp only [this, decide_true, Bool.true_and]
    rw [show 8 * (j / 8) + j % 8 = j by omega]
  · rw [List.getD_eq_getElem?_getD, List.getElem?_eq_none (by simpa using h), List.getD_eq_getElem?_getD, List.getElem?_eq_none (by omega)]
    simp
theorem pack_eq (l : List Bool) (bs : List (BitVec 8)) (hl : bs.length = (l.length + 7) / 8) (h : ∀ j, bitAt bs j = l.getD j false) : bs = pack l :=
  bits_ext (by rw [hl, pack_len]) fun j => by rw [h, pack_bit]
theorem fdiv_bit (v : Int) (hv : -9223372036854775808 ≤ v ∧ v ≤ 9223372036854775807) (i : Nat) : (BitVec.ofInt 64 (v.fdiv (2 ^ i))) = (BitVec.ofInt 64 v).sshiftRight i := by
  apply BitVec.eq_of_toInt_eq
  rw [BitVec.toInt_sshiftRight, Int.shiftRight_eq_div_pow]
  have h1 : (BitVec.ofInt 64 v).toInt = v := by
    rw [BitVec.toInt_ofInt, Int.bmod_eq_of_le (by omega) (by omega)]
  have hp : (0:Int) < 2 ^ i := Int.pow_pos (by decide)
  rw [h1, BitVec.toInt_ofInt, Int.fdiv_eq_ediv_of_nonneg _ (Int.le_of_lt hp)]
  rw [show ((2 ^ i : Nat) : Int) = 2 ^ i by simp]
  have h2 : -9223372036854775808 ≤ v / 2 ^ i := by
    apply Int.le_ediv_of_mul_le hp
    have : (-9223372036854775808 : Int) * 2 ^ i ≤ -9223372036854775808 * 1 := Int.mul_le_mul_of_nonpos_left (by decide) (by omega)
    omega
  have h3 : v / 2 ^ i ≤ 9223372036854775807 := by
    by_cases h0 : 0 ≤ v
    · have := Int.ediv_le_self (2 ^ i) h0
      omega
    · have := Int.ediv_neg_of_neg_of_pos (by omega : v < 0) hp
      omega
  rw [Int.bmod_eq_of_le (by omega) (by omega)]
theorem bit_fdiv (v : Int) (hv : -9223372036854775808 ≤ v ∧ v ≤ 9223372036854775807) (i : Nat) (hi : i < 64) : (BitVec.ofInt 64 (v.fdiv (2 ^ i))).getLsbD 0 = (BitVec.ofInt 64 v).getLsbD i := by
  rw [fdiv_bit v hv, BitVec.getLsbD_sshiftRight]
  simp [hi]
theorem and_one (x : BitVec 64) : (x &&& 1#64) = if x.getLsbD 0 then 1#64 else 0#64 := by
  apply BitVec.eq_of_getLsbD_eq
  intro j hj
  by_cases h : j = 0
  · subst h; rw [BitVec.getLsbD_and]; cases hx : x.getLsbD 0 <;> simp
  · cases hx : x.getLsbD 0 <;> simp [hx, BitVec.getLsbD_one, h]
theorem ofInt_32 (v : Int) : BitVec.ofInt 32 v = (BitVec.ofInt 64 v).setWidth 32 := by
  apply BitVec.eq_of_toNat_eq
  simp
  omega
theorem mask_bit (n : Nat) (hn : n ≤ 31) (j : Nat) : ((1#32 <<< n) - 1#32).getLsbD j = decide (j < n) := by
  have h : ((1#32 <<< n) - 1#32).toNat = 2 ^ n - 1 := by
    have hp : 2 ^ n ≤ 2 ^ 31 := Nat.pow_le_pow_right (by decide) hn
    have hp0 : 0 < 2 ^ n := Nat.pow_pos (by decide)
    have h1 : (1#32 <<< n).toNat = 2 ^ n := by
      rw [BitVec.toNat_shiftLeft, Nat.shiftLeft_eq]
      simp
      omega
    rw [BitVec.toNat_sub, h1]
    simp
    omega
  show ((1#32 <<< n) - 1#32).toNat.testBit j = _
  rw [h, Nat.testBit_two_pow_sub_one]
theorem acc_step (bs : List (BitVec 8)) (p i : Nat) (acc : BitVec 32) (hi : i < 3) (hacc : ∀ j, acc.getLsbD j = (decide (j < 8 * i) && bitAt bs (8 * p + j))) (hk : p + i < bs.length) :
    ∀ j, (acc ||| ((bs[p + i]).setWidth 32 <<< (8 * i))).getLsbD j = (decide (j < 8 * (i + 1)) && bitAt bs (8 * p + j)) := by
  intro j
  rw [BitVec.getLsbD_or, hacc, BitVec.getLsbD_shiftLeft, BitVec.getLsbD_setWidth]
  by_cases h1 : j < 8 * i
  · have h2 : j < 8 * (i + 1) := by omega
    simp [h1, h2]
  · by_cases h2 : j < 8 * (i + 1)
    · have h3 : j < 32 := by omega
      have h4 : j - 8 * i < 32 := by omega
      simp only [h1, h2, h3, h4, decide_true, decide_false, Bool.true_and, Bool.false_and, Bool.false_or, Bool.not_false]
      unfold bitAt
      rw [show (8 * p + j) / 8 = p + i by omega, show (8 * p + j) % 8 = j - 8 * i by omega, List.getD_eq_getElem?_getD, List.getElem?_eq_getElem hk]
      rfl
    · have h5 : (bs[p + i]).getLsbD (j - 8 * i) = false := BitVec.getLsbD_of_ge _ _ (by omega)
      simp [h1, h2, h5]
theorem acc_out (bs : List (BitVec 8)) (p i : Nat) (acc : BitVec 32) (hacc : ∀ j, acc.getLsbD j = (decide (j < 8 * i) && bitAt bs (8 * p + j))) (hk : ¬ p + i < bs.length) :
    ∀ j, acc.getLsbD j = (decide (j < 8 * (i + 1)) && bitAt bs (8 * p + j)) := by
  intro j
  rw [hacc]
  by_cases h1 : j < 8 * i
  · have h2 : j < 8 * (i + 1) := by omega
    simp [h1, h2]
  · rw [bitAt_out bs (8 * p + j) (by omega)]
    simp
theorem take_val (bs : List (BitVec 8)) (a n : Nat) (acc : BitVec 32) (hn : n ≤ 16) (hacc : ∀ j, acc.getLsbD j = (decide (j < 8 * 3) && bitAt bs (8 * (a / 8) + j))) :
    ((acc >>> (a % 8)) &&& ((1#32 <<< n) - 1#32)).toNat = num (fun j => bitAt bs (a + j)) n := by
  apply num_bv
  intro j
  rw [BitVec.getLsbD_and, BitVec.getLsbD_ushiftRight, hacc, mask_bit n (by omega)]
  by_cases h : j < n
  · have h2 : a % 8 + j < 8 * 3 := by omega
    simp only [h, h2, decide_true, Bool.and_true, Bool.true_and]
    rw [show 8 * (a / 8) + (a % 8 + j) = a + j by omega]
  · simp [h]

/-- the lowest bits of a number, as a row -/
def vbits (v : Int) (n : Nat) : List Bool := (List.range n).map fun i => (BitVec.ofInt 64 v).getLsbD i
theorem vbits_len (v : Int) (n : Nat) : (vbits v n).length = n := by simp [vbits]
theorem vbits_at (v : Int) (n i : Nat) : (vbits v n).getD i false = (decide (i < n) && (BitVec.ofInt 64 v).getLsbD i) := by
  unfold vbits
  by_cases h : i < n
  · simp [List.getD_eq_getElem?_getD, h]
  · simp [List.getD_eq_getElem?_getD, h]
theorem vbits_succ (v : Int) (n : Nat) : vbits v (n + 1) = vbits v n ++ [(BitVec.ofInt 64 v).getLsbD n] := by
  simp [vbits, List.range_succ]
/-- what Put's number holds -/
theorem put_acc (v : Int) (n s : Nat) (hn : n ≤ 16) (hs : s < 8) (j : Nat) : ((BitVec.ofInt 32 v &&& ((1#32 <<< n) - 1#32)) <<< s).getLsbD j = (decide (s ≤ j) && (decide (j < s + n) && (BitVec.ofInt 64 v).getLsbD (j - s))) := by
  rw [BitVec.getLsbD_shiftLeft, BitVec.getLsbD_and, mask_bit n (by omega), ofInt_32, BitVec.getLsbD_setWidth]
  by_cases h1 : s ≤ j
  · by_cases h2 : j < s + n
    · have h3 : j < 32 := by omega
      have h4 : ¬ j < s := by omega
      have h5 : j - s < n := by omega
      have h6 : j - s < 32 := by omega
      simp [h1, h2, h3, h4, h5, h6]
    · have h5 : ¬ j - s < n := by omega
      simp [h2, h5]
  · have h4 : j < s := by omega
    simp [h1, h4]
/-- Put's rounds: how far the bytes are filled -/
structure PutInv (l : List Bool) (v : Int) (n i : Nat) (bs : List (BitVec 8)) : Prop where
  len : bs.length = max ((l.length + 7) / 8) (min (l.length / 8 + i) ((l.length + n + 7) / 8))
  bit : ∀ j, bitAt bs j = (l.getD j false || (decide (l.length ≤ j) && (decide (j < l.length + n) && (decide (j < 8 * (l.length / 8 + i)) && (BitVec.ofInt 64 v).getLsbD (j - l.length)))))
theorem getD_out (l : List Bool) (j : Nat) (h : l.length ≤ j) : l.getD j false = false := by
  rw [List.getD_eq_getElem?_getD, List.getElem?_eq_none h]; rfl
theorem put_init (l : List Bool) (v : Int) (n : Nat) : PutInv l v n 0 (pack l) where
  len := by rw [pack_len]; omega
  bit := fun j => by
    rw [pack_bit]
    by_cases h : l.length ≤ j ∧ j < 8 * (l.length / 8 + 0)
    · omega
    · by_cases h1 : l.length ≤ j
      · have : ¬ j < 8 * (l.length / 8 + 0) := by omega
        simp only [this, decide_false, Bool.false_and, Bool.and_false, Bool.or_false]
      · simp only [h1, decide_false, Bool.false_and, Bool.or_false]
theorem put_done {l : List Bool} {v : Int} {n : Nat} {bs : List (BitVec 8)} (hn : n ≤ 16) (h : PutInv l v n 3 bs) : bs = pack (l ++ vbits v n) := by
  apply pack_eq
  · rw [h.len, List.length_append, vbits_len]; omega
  · intro j
    rw [h.bit]
    by_cases h1 : l.length ≤ j
    · have h3 : (l ++ vbits v n).getD j false = (vbits v n).getD (j - l.length) false := by
        rw [List.getD_eq_getElem?_getD, List.getD_eq_getElem?_getD, List.getElem?_append_right h1]
      rw [h3, vbits_at, getD_out l j h1]
      by_cases h2 : j < l.length + n
      · have h4 : j < 8 * (l.length / 8 + 3) := by omega
        have h5 : j - l.length < n := by omega
        simp [h1, h2, h4, h5]
      · have h5 : ¬ j - l.length < n := by omega
        simp [h2, h5]
    · have h3 : (l ++ vbits v n).getD j false = l.getD j false := by
        rw [List.getD_eq_getElem?_getD, List.getD_eq_getElem?_getD, List.getElem?_append_left (by omega)]
      rw [h3]
      simp [h1]
/-- a nought behind -/
theorem put_app {l : List Bool} {v : Int} {n i : Nat} {bs : List (BitVec 8)} (h : PutInv l v n i bs) (h1 : bs.length ≤ l.length / 8 + i) (h2 : l.length / 8 + i < (l.length + n + 7) / 8) :
    (bs ++ [0#8]).length = l.length / 8 + i + 1 ∧ ∀ j, bitAt (bs ++ [0#8]) j = bitAt bs j := by
  have hl := h.len
  refine ⟨by rw [List.length_append, List.length_singleton]; omega, fun j => ?_⟩
  rw [bitAt_app]
  split
  · rfl
  · rename_i hh
    rw [bitAt_out bs j (by omega)]
    unfold bitAt
    rw [List.getD_eq_getElem?_getD]
    cases h' : (j - 8 * bs.length) / 8 with
    | zero => simp
    | succ k => simp
theorem put_set {l : List Bool} {v : Int} {n i : Nat} {bs bs' : List (BitVec 8)} {acc : BitVec 32} (hi : i < 3) (h : PutInv l v n i bs) (hb : ∀ j, bitAt bs' j = bitAt bs j) (hl : bs'.length = max ((l.length + 7) / 8) (min (l.length / 8 + (i + 1)) ((l.length + n + 7) / 8)))
    (hk : l.length / 8 + i < bs'.length) (hacc : ∀ j, acc.getLsbD j = (decide (l.length % 8 ≤ j) && (decide (j < l.length % 8 + n) && (BitVec.ofInt 64 v).getLsbD (j - l.length % 8)))) :
    PutInv l v n (i + 1) (bs'.set (l.length / 8 + i) (bs'[l.length / 8 + i] ||| (acc >>> (8 * i)).setWidth 8)) where
  len := by rw [List.length_set]; exact hl
  bit := fun j => by
    rw [bitAt_set _ _ _ hk]
    split
    · rename_i hj
      have e1 : (bs'[l.length / 8 + i]).getLsbD (j % 8) = bitAt bs j := by
        rw [← hb j]
        unfold bitAt
        rw [hj, List.getD_eq_getElem?_getD, List.getElem?_eq_getElem hk]; rfl
      rw [BitVec.getLsbD_or, e1, BitVec.getLsbD_setWidth, BitVec.getLsbD_ushiftRight, hacc, h.bit]
      have hj8 : j % 8 < 8 := Nat.mod_lt _ (by decide)
      have hj2 : j < 8 * (l.length / 8 + (i + 1)) := by omega
      have hj3 : ¬ j < 8 * (l.length / 8 + i) := by omega
      have e2 : (l.length % 8 ≤ 8 * i + j % 8) = (l.length ≤ j) := by apply propext; omega
      have e3 : (8 * i + j % 8 < l.length % 8 + n) = (j < l.length + n) := by apply propext; omega
      have e4 : 8 * i + j % 8 - l.length % 8 = j - l.length := by omega
      simp only [hj8, hj2, hj3, e2, e3, e4, decide_true, decide_false, Bool.true_and, Bool.false_and, Bool.and_false, Bool.or_false]
    · rename_i hj
      rw [hb, h.bit]
      by_cases h1 : l.length ≤ j
      · have e : (j < 8 * (l.length / 8 + (i + 1))) = (j < 8 * (l.length / 8 + i)) := by apply propext; omega
        simp only [e]
      · simp [h1]
theorem put_skip {l : List Bool} {v : Int} {n i : Nat} {bs : List (BitVec 8)} (hi : i < 3) (h : PutInv l v n i bs) (hk : ¬ l.length / 8 + i < bs.length) (hm : ¬ l.length / 8 + i < (l.length + n + 7) / 8) : PutInv l v n (i + 1) bs where
  len := by have := h.len; omega
  bit := fun j => by
    have hl := h.len
    rw [h.bit]
    by_cases h1 : j < l.length + n
    · have e : (j < 8 * (l.length / 8 + (i + 1))) = (j < 8 * (l.length / 8 + i)) := by apply propext; omega
      simp only [e]
    · simp [h1]
end Go.Proofs.YtiapgmfooclpcaaDoor

/- The walks of both readers. No condition beyond what each contract names. -/
namespace Go.Proofs.YtiapgmfooclpcaaDoor
open Go.RowKit E
set_option linter.unusedVariables false
set_option linter.unusedSimpArgs false
set_option maxRecDepth 100000
attribute [local irreducible] ow qw kw kq cw opW Ret
theorem inf5 : infB Tryd.prog 5 1 1 (.int .u8 0) := ⟨_, rfl, rfl, rfl, rfl⟩
theorem sh3 (p : Nat) : (p : Int).fdiv (2 ^ min 3 IntKind.i64.bits) = ((p / 8 : Nat) : Int) := by
  show (p : Int).fdiv 8 = _
  rw [Int.fdiv_eq_ediv_of_nonneg _ (by decide)]
  omega
theorem and7 (p : Nat) (h : p < 18446744073709551616) : (BitVec.ofInt 64 (p : Int) &&& 7#64).toNat = p % 8 := by
  rw [BitVec.toNat_and, ofN p h]
  exact Nat.and_two_pow_sub_one_eq_mod p 3
theorem mul8 (i : Nat) (h : i < 3) : (8#64 * BitVec.ofInt 64 (i : Int)).toNat = 8 * i := by
  rw [BitVec.toNat_mul, ofN i (by omega)]
  simp
  omega
/-- a reader: its block, its bytes, how many bits were passed -/
def Rdr (T : TypeId) (w : World) (r : Nat) (bs : List (BitVec 8)) (p : Nat) : Prop :=
  ∃ a c, Blk w r #[.slice a bs.length c, .int .i64 (p : Int)] T ∧ Sl w 5 1 a bs.length c (bs.map u8v) ∧ p ≤ 8 * bs.length ∧ bs.length ≤ 140737488355328
theorem Rdr.new {T : TypeId} {w w' : World} {r : Nat} {bs : List (BitVec 8)} {p : Nat} (h : Rdr T w r bs p) (hk : Keep [] w w') : Rdr T w' r bs p := by
  obtain ⟨a, c, hB, hS, hp, hl⟩ := h
  exact ⟨a, c, hB.keep hk (by simp), hS.new hk, hp, hl⟩
/-- a block of another type is turned -/
theorem Rdr.oth {T T' : TypeId} {w w' : World} {r x : Nat} {bs : List (BitVec 8)} {p : Nat} {cs : Array Value} (h : Rdr T w r bs p) (hx : Blk w x cs T') (hT : T ≠ T') (h5 : 5 ≠ T') (hk : Keep [x] w w') : Rdr T w' r bs p := by
  obtain ⟨a, c, hB, hS, hp, hl⟩ := h
  refine ⟨a, c, hB.keep hk (fun hm => ?_), hS.keep hk (hS.off hx h5), hp, hl⟩
  simp at hm
  subst hm
  exact hT (hB.ty hx)
theorem Rdr.keep1 {T T' : TypeId} {w w' : World} {r x : Nat} {bs : List (BitVec 8)} {p : Nat} {cs : Array Value} (h : Rdr T w r bs p) (hx : Blk w x cs T') (hrx : r ≠ x) (h5 : 5 ≠ T') (hk : Keep [x] w w') : Rdr T w' r bs p := by
  obtain ⟨a, c, hB, hS, hp, hl⟩ := h
  exact ⟨a, c, hB.keep hk (by simpa using hrx), hS.keep hk (hS.off hx h5), hp, hl⟩
theorem Rdr.blk {T : TypeId} {w : World} {r : Nat} {bs : List (BitVec 8)} {p : Nat} (h : Rdr T w r bs p) : ∃ cs, Blk w r cs T := by
  obtain ⟨a, c, hB, _⟩ := h
  exact ⟨_, hB⟩
/-- what Take answers: the number, the error, how many bits were passed -/
def tk (bs : List (BitVec 8)) (p : Nat) (n : Int) : Int × Int × Nat :=
  if n < 0 ∨ 16 < n then (0, 1, p) else if 8 * (bs.length : Int) - p < n then (0, 2, p) else (num (fun j => bitAt bs (p + j)) n.toNat, 0, p + n.toNat)
theorem tk_arg {bs : List (BitVec 8)} {p : Nat} {n : Int} (h : n < 0 ∨ 16 < n) : tk bs p n = (0, 1, p) := if_pos h
theorem tk_short {bs : List (BitVec 8)} {p : Nat} {n : Int} (h : ¬ (n < 0 ∨ 16 < n)) (h2 : 8 * (bs.length : Int) - p < n) : tk bs p n = (0, 2, p) := by
  unfold tk; rw [if_neg h, if_pos h2]
theorem tk_ok {bs : List (BitVec 8)} {p m : Nat} (h : m ≤ 16) (h2 : p + m ≤ 8 * bs.length) : tk bs p (m : Int) = (((num (fun j => bitAt bs (p + j)) m : Nat) : Int), 0, p + m) := by
  unfold tk; rw [if_neg (by omega), if_neg (by omega)]; rfl
/-- the answer of Take in both texts -/
def TkR (T : TypeId) (w : World) (r : Nat) (bs : List (BitVec 8)) (p : Nat) (n : Int) (v : Value) (w' : World) : Prop :=
  v = .tuple #[.int .i64 (tk bs p n).1, .int .i64 (tk bs p n).2.1] ∧ Rdr T w' r bs (tk bs p n).2.2 ∧ Keep [r] w w'
theorem TkR.of {T : TypeId} {w w' : World} {r p q : Nat} {bs : List (BitVec 8)} {n x y : Int} (h : tk bs p n = (x, y, q)) (hR : Rdr T w' r bs q) (hK : Keep [r] w w') : TkR T w r bs p n (.tuple #[.int .i64 x, .int .i64 y]) w' := by
  unfold TkR; rw [h]; exact ⟨rfl, hR, hK⟩
theorem bnew_ok (w : World) (a : Option Addr) (c : Nat) (bs : List (BitVec 8)) (hR : Rd w a (bs.map u8v)) (hl : bs.length ≤ 140737488355328) :
    Ret Tryd.prog 69 [.slice a bs.length c] w (fun v w' => ∃ r, v = .pointer (some ⟨r, 0, none⟩) ∧ Rdr 156 w' r bs 0 ∧ Keep [] w w' ∧ w.heap.size ≤ r) := by
  refine fn_enter (n := 8) Tryd.func69 rfl rfl (Nat.le_of_ble_eq_true rfl) (fun e => ?_)
  refine k_seq ?_
  refine k_region ?_
  refine m_ptr rfl rfl ?_
  refine o_nil ?_
  refine k_seq ?_
  refine k_region ?_
  refine o_bsl (E := 5) (cs := #[]) rfl (fun _ => by kernel_rfl) (fun g w1 hB1 hK1 hb1 hZ1 => ?_)
  refine m_sl rfl rfl ?_
  refine o_app Tryd.underlying25 inf5 rfl (by decide) rfl rfl (hB1.sl (len := 0) (sz := 1) rfl (by decide)) (hR.new hK1) (by simp) (u8_one bs) (by simp [maxLen]; omega) (by omega) (fun a2 c2 w2 hS2 hK2 hv2 => ?_)
  have hk2 : Keep [] w w2 := Keep.trb hK1 hK2 (by intro p hp; simp at hp; subst hp; simp only; omega)
  refine o_build (v := .agg #[.slice a2 (0 + bs.length) c2, .int .i64 0]) rfl (fun _ => by kernel_rfl) ?_
  refine o_box rfl rfl (fun b w3 hB3 hK3 hb3 hZ3 => ?_)
  refine m_ptr rfl rfl ?_
  refine o_nil ?_
  refine k_ret (ret_tmps (ts := [2]) (v := .pointer _) rfl rfl ?_)
  refine ⟨b, rfl, ⟨a2, c2, ?_, ?_, by omega, hl⟩, hk2.tr hK3, by have := hk2.size; omega⟩
  · rw [Nat.zero_add] at hB3; exact hB3
  · have := hS2.new hK3
    simpa using this
theorem take_ok (w : World) (r p : Nat) (bs : List (BitVec 8)) (n : Int) (h : Rdr 156 w r bs p) :
    Ret Tryd.prog 92 [.pointer (some ⟨r, 0, none⟩), .int .i64 n] w (fun v w' => TkR 156 w r bs p n v w') := by
  have hR := h
  obtain ⟨a, c, hB, hS, hp, hl⟩ := h
  refine fn_enter (n := 88) Tryd.func92 rfl rfl (Nat.le_of_ble_eq_true rfl) (fun e => ?_)
  refine k_seq ?_
  refine k_region ?_
  refine m_int rfl rfl ?_
  refine m_int rfl rfl ?_
  refine o_nil ?_
  refine k_seq ?_
  refine k_seq ?_
  refine k_region ?_
  refine m_ptr rfl rfl ?_
  refine b_eqlp Tryd.underlying139 rfl rfl ?_
  refine m_bool rfl rfl ?_
  refine o_false (t := 12) rfl ((by simp)) ?_
  refine g_yes rfl rfl ?_
  refine m_int rfl rfl ?_
  refine g_yes rfl rfl ?_
  refine b_lss rfl rfl ?_
  refine pick_f rfl rfl ?_
  refine m_bool rfl rfl ?_
  refine o_split (t := 16) rfl (fun h => ?_) (fun h => ?_)
  ·
    refine g_no rfl rfl rfl ?_
    refine g_no rfl rfl rfl ?_
    refine pick_t rfl rfl ?_
    refine o_nil ?_
    refine k_condt rfl ?_
    refine k_seq ?_
    refine k_region ?_
    refine m_int rfl rfl ?_
    refine m_int rfl rfl ?_
    refine o_nil ?_
    refine k_ret (ret_tmps (ts := [4, 5]) (v := .tuple #[.int _ _, .int _ _]) rfl rfl ?_)
    exact TkR.of (tk_arg (.inl h)) hR (Keep.refl _ _)
  ·
    refine g_yes rfl rfl ?_
    refine m_int rfl rfl ?_
    refine g_yes rfl rfl ?_
    refine b_gtr rfl rfl ?_
    refine pick_f rfl rfl ?_
    refine o_nil ?_
    refine k_cond rfl (fun h => ?_) (fun h => ?_)
    ·
      refine k_seq ?_
      refine k_region ?_
      refine m_int rfl rfl ?_
      refine m_int rfl rfl ?_
      refine o_nil ?_
      refine k_ret (ret_tmps (ts := [4, 5]) (v := .tuple #[.int _ _, .int _ _]) rfl rfl ?_)
      exact TkR.of (tk_arg (.inr h)) hR (Keep.refl _ _)
    refine k_skip ?_
    refine k_seq ?_
    refine k_seq ?_
    refine k_qk 12 rfl rfl rfl rfl rfl ?_
    refine q_step (fun w1 hC => m_int rfl rfl (o_nil ⟨rfl, hC⟩)) ?_
    refine q_step (fun w1 hC => m_ptr rfl rfl (o_nil ⟨rfl, hC⟩)) ?_
    refine q_step (fun w1 hC => o_nilc rfl (o_nil ⟨rfl, hC⟩)) ?_
    refine q_step (fun w1 hC => o_fld0 rfl rfl (o_nil ⟨rfl, hC⟩)) ?_
    refine q_step (fun w1 hC => o_ld rfl rfl (by first | exact hB.at rfl | exact hB.kat hC rfl) (o_nil ⟨rfl, hC⟩)) ?_
    refine q_step (fun w1 hC => o_lens Tryd.underlying25 rfl (o_nil ⟨rfl, hC⟩)) ?_
    refine q_step (fun w1 hC => n_mul rfl rfl (by omega) (o_nil ⟨rfl, hC⟩)) ?_
    refine q_step (fun w1 hC => m_ptr rfl rfl (o_nil ⟨rfl, hC⟩)) ?_
    refine q_step (fun w1 hC => o_nilc rfl (o_nil ⟨rfl, hC⟩)) ?_
    refine q_step (fun w1 hC => o_fld (off := 1) rfl rfl (o_nil ⟨rfl, hC⟩)) ?_
    refine q_step (fun w1 hC => o_ld rfl rfl (by first | exact hB.at rfl | exact hB.kat hC rfl) (o_nil ⟨rfl, hC⟩)) ?_
    refine q_step (fun w1 hC => n_sub rfl rfl (by omega) (o_nil ⟨rfl, hC⟩)) ?_
    refine q_nil ?_
    intro w2 hC2
    have hR2 := hR.new hC2
    have hB := hB.keep hC2 (by simp)
    have hB2 := hB
    have hS := hS.new hC2
    refine b_gtr rfl rfl ?_
    refine o_nil ?_
    refine k_cond rfl (fun h => ?_) (fun h => ?_)
    ·
      refine k_seq ?_
      refine k_region ?_
      refine m_int rfl rfl ?_
      refine m_int rfl rfl ?_
      refine o_nil ?_
      refine k_ret (ret_tmps (ts := [4, 5]) (v := .tuple #[.int _ _, .int _ _]) rfl rfl ?_)
      exact TkR.of (tk_short (by omega) h) hR2 hC2.also
    obtain ⟨m, rfl⟩ : ∃ m : Nat, n = m := ⟨n.toNat, by omega⟩
    refine k_skip ?_
    refine k_seq ?_
    refine k_region ?_
    refine m_int rfl rfl ?_
    refine o_nil ?_
    refine k_seq ?_
    refine k_seq ?_
    refine k_region ?_
    refine m_int rfl rfl ?_
    refine o_nil ?_
    refine k_block ?_
    refine k_loop (σ := Nat × BitVec 32) (fun s => [(0, .pointer (some ⟨r, 0, none⟩)), (1, .int .i64 (m : Int)), (6, .int .u32 (s.2.toNat : Int)), (7, .int .i64 (s.1 : Int))]) (fun s w' => s.1 ≤ 3 ∧ (∀ j, s.2.getLsbD j = (decide (j < 8 * s.1) && bitAt bs (8 * (p / 8) + j))) ∧ w' = w2) (fun s => 3 - s.1) (0, 0#32) ⟨rfl, rfl, rfl, rfl, trivial⟩ ⟨by simp, by intro j; simp, rfl⟩ (fun s e w' hJ => ?_)
    obtain ⟨i, acc⟩ := s
    obtain ⟨hi, hacc, rfl⟩ := hJ
    simp only at hi hacc
    refine k_seq ?_
    refine k_seq ?_
    refine k_region ?_
    refine m_int rfl rfl ?_
    refine b_lss rfl rfl ?_
    refine o_nil ?_
    refine k_cond rfl (fun h => ?_) (fun h => ?_)
    rotate_left
    ·
      obtain rfl : i = 3 := by omega
      refine k_exit rfl ?_
      refine k_seq ?_
      refine k_region ?_
      refine m_int rfl rfl ?_
      refine m_ptr rfl rfl ?_
      refine o_nilc rfl ?_
      refine o_fld (off := 1) rfl rfl ?_
      refine o_ld rfl rfl (by first | exact hB.at rfl | exact hB.kat hC rfl) ?_ 
      refine cv64 rfl Tryd.underlying100 rfl ?_
      refine v64_and (b := 7#64) rfl rfl ?_
      rw [and7 p (by omega)]
      refine v32_shrn rfl rfl ?_
      refine m_int rfl rfl ?_
      refine cv64 rfl Tryd.underlying100 rfl ?_
      rw [ofN m (by omega)]
      refine v32_shln (a := 1#32) rfl rfl ?_
      refine v32_sub (b := 1#32) rfl rfl ?_
      refine v32_and rfl rfl ?_
      refine m_int rfl rfl ?_
      refine o_nil ?_
      refine k_seq ?_
      refine k_region ?_
      refine m_ptr rfl rfl ?_
      refine o_nilc rfl ?_
      refine o_fld (off := 1) rfl rfl ?_
      refine o_ld rfl rfl (by first | exact hB.at rfl | exact hB.kat hC rfl) ?_ 
      refine m_int rfl rfl ?_
      refine n_add rfl rfl (by omega) ?_
      refine o_nilc rfl ?_
      refine o_fld (off := 1) rfl rfl ?_
      refine o_st (v := .int _ _) rfl rfl rfl rfl hB (by simp) (fun w' hB hK hZ => ?_)
      rename_i w3
      refine o_nil ?_
      refine k_seq ?_
      refine k_region ?_
      refine m_int rfl rfl ?_
      refine cv32_i rfl Tryd.underlying3 rfl ?_
      rw [take_val bs p m acc (by omega) hacc]
      refine m_int rfl rfl ?_
      refine m_int rfl rfl ?_
      refine o_nil ?_
      refine k_ret (ret_tmps (ts := [4, 5]) (v := .tuple #[.int _ _, .int _ _]) rfl rfl ?_)
      refine TkR.of (tk_ok (by omega) (by omega)) ⟨a, c, hB, hS.keep hK (hS.off hB2 (by decide)), by omega, hl⟩ (hC2.also.trans hK (fun _ h _ => h))
    have hi3 : i < 3 := by omega
    refine k_skip ?_
    refine k_seq ?_
    refine k_block ?_
    refine k_seq ?_
    refine k_region ?_
    refine m_ptr rfl rfl ?_
    refine o_nilc rfl ?_
    refine o_fld (off := 1) rfl rfl ?_
    refine o_ld rfl rfl (by first | exact hB.at rfl | exact hB.kat hC rfl) ?_ 
    refine b_shrn (c := 3) rfl rfl ?_
    rw [sh3 p]
    refine m_int rfl rfl ?_
    refine n_add rfl rfl (by omega) ?_
    refine m_int rfl rfl ?_
    refine o_nil ?_
    refine k_seq ?_
    refine k_region ?_
    refine m_int rfl rfl ?_
    refine m_ptr rfl rfl ?_
    refine o_nilc rfl ?_
    refine o_fld0 rfl rfl ?_
    refine o_ld rfl rfl (by first | exact hB.at rfl | exact hB.kat hC rfl) ?_ 
    refine o_lens Tryd.underlying25 rfl ?_
    refine b_lss rfl rfl ?_
    refine o_nil ?_
    refine k_cond rfl (fun h => ?_) (fun h => ?_)
    ·
      have hpi : p / 8 + i < bs.length := by omega
      obtain ⟨b1, o1, rfl, _⟩ := hS.rd.at (p / 8 + i) (by simpa using hpi)
      refine k_region ?_
      refine m_int rfl rfl ?_
      refine m_ptr rfl rfl ?_
      refine o_nilc rfl ?_
      refine o_fld0 rfl rfl ?_
      refine o_ld rfl rfl (by first | exact hB.at rfl | exact hB.kat hC rfl) ?_ 
      refine m_int rfl rfl ?_
      refine o_ixs1 (m := p / 8 + i) Tryd.underlying25 rfl rfl rfl hpi ?_
      refine o_ld rfl rfl (hS.rd.cellK (Keep.refl _ _) (u8_at bs (p / 8 + i) hpi)) ?_
      refine cv8_32 rfl Tryd.underlying107 rfl ?_
      refine m_int rfl rfl ?_
      refine cv64 rfl Tryd.underlying100 rfl ?_
      refine v64_mul (a := 8#64) rfl rfl ?_
      rw [mul8 i hi3]
      refine v32_shln rfl rfl ?_
      refine v32_or rfl rfl ?_
      refine m_int rfl rfl ?_
      refine o_nil ?_
      refine k_blk ?_
      refine k_region ?_
      refine m_int rfl rfl ?_
      refine n_add rfl rfl (by omega) ?_
      refine m_int rfl rfl ?_
      refine o_nil ?_
      refine k_goal ⟨(i + 1, _), ⟨rfl, rfl, rfl, rfl, trivial⟩, ⟨by simp only; omega, acc_step bs (p / 8) i acc hi3 hacc hpi, rfl⟩, by simp only; omega⟩
    refine k_skip ?_
    refine k_blk ?_
    refine k_region ?_
    refine m_int rfl rfl ?_
    refine n_add rfl rfl (by omega) ?_
    refine m_int rfl rfl ?_
    refine o_nil ?_
    refine k_goal ⟨(i + 1, acc), ⟨rfl, rfl, rfl, rfl, trivial⟩, ⟨by simp only; omega, acc_out bs (p / 8) i acc hacc (by omega), rfl⟩, by simp only; omega⟩
/-- what Bytes answers, and how many bits were passed -/
theorem bat_ok (w : World) (r p : Nat) (bs : List (BitVec 8)) (h : Rdr 156 w r bs p) :
    Ret Tryd.prog 71 [.pointer (some ⟨r, 0, none⟩)] w (fun v w' => v = .int .i64 (p : Int) ∧ w' = w) := by
  obtain ⟨a, c, hB, hS, hp, hl⟩ := h
  refine fn_enter (n := 9) Tryd.func71 rfl rfl (Nat.le_of_ble_eq_true rfl) (fun e => ?_)
  refine k_seq ?_
  refine k_region ?_
  refine m_int rfl rfl ?_
  refine o_nil ?_
  refine k_seq ?_
  refine k_seq ?_
  refine k_region ?_
  refine m_ptr rfl rfl ?_
  refine b_eqlp Tryd.underlying139 rfl rfl ?_
  refine o_nil ?_
  refine k_no rfl ((by simp)) ?_
  refine k_skip ?_
  refine k_seq ?_
  refine k_region ?_
  refine m_ptr rfl rfl ?_
  refine o_nilc rfl ?_
  refine o_fld (off := 1) rfl rfl ?_
  refine o_ld rfl rfl (hB.at rfl) ?_ 
  refine m_int rfl rfl ?_
  refine o_nil ?_
  refine k_ret (ret_tmps (ts := [2]) (v := .int _ _) rfl rfl ?_)
  exact ⟨rfl, rfl⟩
theorem tm (q k : Nat) : (q : Int).tmod (k : Int) = ((q % k : Nat) : Int) := by
  rw [Int.tmod_eq_emod_of_nonneg (by omega)]; rfl
theorem td (q k : Nat) : IntKind.i64.wrap ((q : Int).tdiv (k : Int)) = IntKind.i64.wrap ((q / k : Nat) : Int) := by
  rw [Int.tdiv_eq_ediv_of_nonneg (by omega)]; rfl
theorem td8 (q : Nat) (h : q < 9223372036854775807) : IntKind.i64.wrap ((q : Int).tdiv 8) = ((q / 8 : Nat) : Int) := by
  rw [show (8 : Int) = ((8 : Nat) : Int) from rfl, td, IntWalk.i64_in _ (by omega)]
theorem tm8 (q : Nat) : (q : Int).tmod 8 = ((q % 8 : Nat) : Int) := tm q 8
end Go.Proofs.YtiapgmfooclpcaaDoor

/- The walks of both writers. No condition beyond what each contract names. -/
namespace Go.Proofs.YtiapgmfooclpcaaDoor
open Go.RowKit E
set_option linter.unusedVariables false
set_option linter.unusedSimpArgs false
set_option maxRecDepth 100000
attribute [local irreducible] ow qw kw kq cw opW Ret
/-- a writer: its block, its bytes, its bits -/
def Wtr (x2 x3 : Value) (k : Nat) (w : World) (r : Nat) (l : List Bool) : Prop :=
  ∃ a c, Blk w r #[.slice a (pack l).length c, .int .i64 (l.length : Int), x2, x3] 80 ∧ Sl w 5 1 a (pack l).length c ((pack l).map u8v) ∧ k ≤ r ∧ ∀ q, a = some q → k ≤ q.block
theorem Wtr.new {x2 x3 : Value} {k : Nat} {w w' : World} {r : Nat} {l : List Bool} (h : Wtr x2 x3 k w r l) (hk : Keep [] w w') : Wtr x2 x3 k w' r l := by
  obtain ⟨a, c, hB, hS, h1, h2⟩ := h
  exact ⟨a, c, hB.keep hk (by simp), hS.new hk, h1, h2⟩
theorem Wtr.kt {x2 x3 : Value} {k k' : Nat} {w w' : World} {r : Nat} {l : List Bool} {Ts : List TypeId} (h : Wtr x2 x3 k w r l) (hk : KeepT Ts k' w w') (h80 : 80 ∉ Ts) (h5 : 5 ∉ Ts) : Wtr x2 x3 k w' r l := by
  obtain ⟨a, c, hB, hS, h1, h2⟩ := h
  exact ⟨a, c, hB.kt hk h80, hS.kt hk h5, h1, h2⟩
/-- what Put answers, and the bits behind it -/
def pt (l : List Bool) (n v : Int) : Int × List Bool := if n < 0 ∨ 16 < n then (1, l) else (0, l ++ vbits v n.toNat)
theorem pt_arg {l : List Bool} {n v : Int} (h : n < 0 ∨ 16 < n) : pt l n v = (1, l) := if_pos h
theorem pt_ok {l : List Bool} {m : Nat} {v : Int} (h : m ≤ 16) : pt l (m : Int) v = (0, l ++ vbits v m) := by
  unfold pt; rw [if_neg (by omega)]; rfl
def PtR (x2 x3 : Value) (k : Nat) (w : World) (r : Nat) (l : List Bool) (n x : Int) (v : Value) (w' : World) : Prop := v = .int .i64 (pt l n x).1 ∧ Wtr x2 x3 k w' r (pt l n x).2 ∧ KeepT [80, 5] k w w'
theorem PtR.of {x2 x3 : Value} {k : Nat} {w w' : World} {r : Nat} {l l' : List Bool} {n x y : Int} (h : pt l n x = (y, l')) (hW : Wtr x2 x3 k w' r l') (hk : KeepT [80, 5] k w w') : PtR x2 x3 k w r l n x (.int .i64 y) w' := by
  unfold PtR; rw [h]; exact ⟨rfl, hW, hk⟩
/-- the bytes between a round's two halves -/
structure Mid (l : List Bool) (v : Int) (n i : Nat) (bs : List (BitVec 8)) : Prop where
  bit : ∃ b0, PutInv l v n i b0 ∧ ∀ j, bitAt bs j = bitAt b0 j
  yes : l.length / 8 + i < bs.length → bs.length = max ((l.length + 7) / 8) (min (l.length / 8 + (i + 1)) ((l.length + n + 7) / 8))
  no : ¬ l.length / 8 + i < bs.length → PutInv l v n (i + 1) bs
theorem u8_app (bs : List (BitVec 8)) (x : BitVec 8) : bs.map u8v ++ [.int .u8 (x.toNat : Int)] = (bs ++ [x]).map u8v := by simp [u8v]
theorem u8_set (bs : List (BitVec 8)) (k : Nat) (x : BitVec 8) : (bs.map u8v).set k (.int .u8 (x.toNat : Int)) = (bs.set k x).map u8v := by rw [List.map_set]; rfl
theorem put_ok (x2 x3 : Value) (k : Nat) (w : World) (r : Nat) (l : List Bool) (n v : Int) (hl : l.length ≤ 1000000000000) (h : Wtr x2 x3 k w r l) :
    Ret Tryd.prog 32 [.pointer (some ⟨r, 0, none⟩), .int .i64 n, .int .i64 v] w (fun x w' => PtR x2 x3 k w r l n v x w') := by
  have hW := h
  obtain ⟨a0, c0, hB, hS, hkr, hka⟩ := h
  refine fn_enter (n := 103) Tryd.func32 rfl rfl (Nat.le_of_ble_eq_true rfl) (fun e => ?_)
  refine k_seq ?_
  refine k_region ?_
  refine m_int rfl rfl ?_
  refine o_nil ?_
  refine k_seq ?_
  refine k_seq ?_
  refine k_region ?_
  refine m_ptr rfl rfl ?_
  refine b_eqlp Tryd.underlying117 rfl rfl ?_
  refine m_bool rfl rfl ?_
  refine o_false (t := 12) rfl ((by simp)) ?_
  refine g_yes rfl rfl ?_
  refine m_int rfl rfl ?_
  refine g_yes rfl rfl ?_
  refine b_lss rfl rfl ?_
  refine pick_f rfl rfl ?_
  refine m_bool rfl rfl ?_
  refine o_split (t := 16) rfl (fun h => ?_) (fun h => ?_)
  ·
    refine g_no rfl rfl rfl ?_
    refine g_no rfl rfl rfl ?_
    refine pick_t rfl rfl ?_
    refine o_nil ?_
    refine k_condt rfl ?_
    refine k_seq ?_
    refine k_region ?_
    refine m_int rfl rfl ?_
    refine o_nil ?_
    refine k_ret (ret_tmps (ts := [6]) (v := .int _ _) rfl rfl ?_)
    exact PtR.of (pt_arg (.inl h)) hW (Keep.refl _ _).t
  ·
    refine g_yes rfl rfl ?_
    refine m_int rfl rfl ?_
    refine g_yes rfl rfl ?_
    refine b_gtr rfl rfl ?_
    refine pick_f rfl rfl ?_
    refine o_nil ?_
    refine k_cond rfl (fun h => ?_) (fun h => ?_)
    ·
      refine k_seq ?_
      refine k_region ?_
      refine m_int rfl rfl ?_
      refine o_nil ?_
      refine k_ret (ret_tmps (ts := [6]) (v := .int _ _) rfl rfl ?_)
      exact PtR.of (pt_arg (.inr h)) hW (Keep.refl _ _).t
    obtain ⟨m, rfl⟩ : ∃ m : Nat, n = m := ⟨n.toNat, by omega⟩
    have hm : m ≤ 16 := by omega
    refine k_skip ?_
    refine k_seq ?_
    refine k_region ?_
    refine m_int rfl rfl ?_
    refine cv32 rfl Tryd.underlying107 rfl ?_
    refine m_int rfl rfl ?_
    refine cv64 rfl Tryd.underlying100 rfl ?_
    rw [ofN m (by omega)]
    refine v32_shln (a := 1#32) rfl rfl ?_
    refine v32_sub (b := 1#32) rfl rfl ?_
    refine v32_and rfl rfl ?_
    refine m_ptr rfl rfl ?_
    refine o_nilc rfl ?_
    refine o_fld (off := 1) rfl rfl ?_
    refine o_ld rfl rfl (hB.at rfl) ?_ 
    refine cv64 rfl Tryd.underlying100 rfl ?_
    refine v64_and (b := 7#64) rfl rfl ?_
    rw [and7 l.length (by omega)]
    refine v32_shln rfl rfl ?_
    have hacc := put_acc v m (l.length % 8) hm (by omega)
    generalize ((BitVec.ofInt 32 v &&& ((1#32 <<< m) - 1#32)) <<< (l.length % 8)) = acc at hacc ⊢
    refine m_int rfl rfl ?_
    refine o_nil ?_
    refine k_seq ?_
    refine k_seq ?_
    refine k_region ?_
    refine m_int rfl rfl ?_
    refine o_nil ?_
    refine k_block ?_
    refine k_loop (σ := Nat × List (BitVec 8) × Option Addr × Nat) (fun s => [(0, .pointer (some ⟨r, 0, none⟩)), (1, .int .i64 (m : Int)), (7, .int .u32 (acc.toNat : Int)), (8, .int .i64 (s.1 : Int))]) (fun s w' => s.1 ≤ 3 ∧ PutInv l v m s.1 s.2.1 ∧ Blk w' r #[.slice s.2.2.1 s.2.1.length s.2.2.2, .int .i64 (l.length : Int), x2, x3] 80 ∧ Sl w' 5 1 s.2.2.1 s.2.1.length s.2.2.2 (s.2.1.map u8v) ∧ (∀ q, s.2.2.1 = some q → k ≤ q.block) ∧ KeepT [80, 5] k w w') (fun s => 3 - s.1) (0, pack l, a0, c0) ⟨rfl, rfl, rfl, rfl, trivial⟩ ⟨by simp, put_init l v m, hB, hS, hka, (Keep.refl _ _).t⟩ (fun s e w3 hJ => ?_)
    clear hB hS hka
    obtain ⟨i, bs, a, c⟩ := s
    obtain ⟨hi, hP, hB, hS, hka, hk3⟩ := hJ
    simp only at hi hP hB hS hka hk3 ⊢
    have hlen := hP.len
    refine k_seq ?_
    refine k_seq ?_
    refine k_region ?_
    refine m_int rfl rfl ?_
    refine b_lss rfl rfl ?_
    refine o_nil ?_
    refine k_cond rfl (fun h => ?_) (fun h => ?_)
    rotate_left
    ·
      obtain rfl : i = 3 := by omega
      refine k_exit rfl ?_
      refine k_seq ?_
      refine k_region ?_
      refine m_ptr rfl rfl ?_
      refine o_nilc rfl ?_
      refine o_fld (off := 1) rfl rfl ?_
      refine o_ld rfl rfl (hB.at rfl) ?_ 
      refine m_int rfl rfl ?_
      refine n_add rfl rfl (by omega) ?_
      refine o_nilc rfl ?_
      refine o_fld (off := 1) rfl rfl ?_
      refine o_st (v := .int _ _) rfl rfl rfl rfl hB (by simp) (fun w4 hB4 hK4 hZ4 => ?_)
      refine o_nil ?_
      refine k_seq ?_
      refine k_region ?_
      refine m_int rfl rfl ?_
      refine o_nil ?_
      refine k_ret (ret_tmps (ts := [6]) (v := .int _ _) rfl rfl ?_)
      have hd := put_done hm hP
      refine PtR.of (pt_ok hm) ⟨a, c, ?_, ?_, hkr, hka⟩ (hk3.tr (hK4.t1 hkr hB (by decide)))
      · rw [← hd, List.length_append, vbits_len]; exact hB4
      · rw [← hd]; exact hS.keep hK4 (hS.off hB (by decide))
    have hi3 : i < 3 := by omega
    refine k_skip ?_
    refine k_seq ?_
    refine k_block ?_
    refine k_seq ?_
    refine k_region ?_
    refine m_ptr rfl rfl ?_
    refine o_nilc rfl ?_
    refine o_fld (off := 1) rfl rfl ?_
    refine o_ld rfl rfl (hB.at rfl) ?_ 
    refine b_shrn (c := 3) rfl rfl ?_
    rw [sh3 l.length]
    refine m_int rfl rfl ?_
    refine n_add rfl rfl (by omega) ?_
    refine m_int rfl rfl ?_
    refine o_nil ?_
    refine k_seq ?_
    refine k_seq ?_
    refine k_region ?_
    refine m_int rfl rfl ?_
    refine m_ptr rfl rfl ?_
    refine o_nilc rfl ?_
    refine o_fld0 rfl rfl ?_
    refine o_ld rfl rfl (hB.at rfl) ?_ 
    refine o_lens Tryd.underlying25 rfl ?_
    refine b_geq rfl rfl ?_
    refine m_bool rfl rfl ?_
    refine o_split (t := 52) rfl (fun h => ?_) (fun h => ?_)
    ·
      have h52 := h
      refine g_yes rfl rfl ?_
      refine m_int rfl rfl ?_
      refine g_yes rfl rfl ?_
      refine m_ptr rfl rfl ?_
      refine g_yes rfl rfl ?_
      refine o_nilc rfl ?_
      refine g_yes rfl rfl ?_
      refine o_fld (off := 1) rfl rfl ?_
      refine g_yes rfl rfl ?_
      refine o_ld rfl rfl (hB.at rfl) ?_ 
      refine g_yes rfl rfl ?_
      refine m_int rfl rfl ?_
      refine g_yes rfl rfl ?_
      refine n_add rfl rfl (by omega) ?_
      refine g_yes rfl rfl ?_
      refine n_add rfl rfl (by omega) ?_
      refine g_yes rfl rfl ?_
      refine b_shrn (c := 3) rfl rfl ?_
      rw [show (l.length : Int) + (m : Int) + 7 = ((l.length + m + 7 : Nat) : Int) by omega, sh3 (l.length + m + 7)]
      refine g_yes rfl rfl ?_
      refine b_lss rfl rfl ?_
      refine pick_t rfl rfl ?_
      refine o_nil ?_
      refine k_cut (σ := List (BitVec 8) × Option Addr × Nat) (fun s => [(0, .pointer (some ⟨r, 0, none⟩)), (1, .int .i64 (m : Int)), (7, .int .u32 (acc.toNat : Int)), (8, .int .i64 (i : Int)), (9, .int .i64 (((l.length / 8 : Nat) : Int) + (i : Int)))]) (fun s w' => Mid l v m i s.1 ∧ Blk w' r #[.slice s.2.1 s.1.length s.2.2, .int .i64 (l.length : Int), x2, x3] 80 ∧ Sl w' 5 1 s.2.1 s.1.length s.2.2 (s.1.map u8v) ∧ (∀ q, s.2.1 = some q → k ≤ q.block) ∧ KeepT [80, 5] k w w') ?_ (fun s e w3 hJ => ?_)
      ·
        refine k_cond rfl (fun h => ?_) (fun h => ?_)
        ·
          refine k_region ?_
          refine m_ptr rfl rfl ?_
          refine m_ptr rfl rfl ?_
          refine o_nilc rfl ?_
          refine o_fld0 rfl rfl ?_
          refine o_ld rfl rfl (hB.at rfl) ?_ 
          refine o_bsl (E := 5) (cs := #[.int .u8 0]) rfl (fun _ => by kernel_rfl) (fun g w4 hB4 hK4 hb4 hZ4 => ?_)
          have hBn := hB.keep hK4 (by simp)
          have hSn := hS.new hK4
          refine o_app Tryd.underlying25 inf5 rfl (by decide) rfl rfl hSn hB4.rd rfl (by intro u hu; simp at hu; subst hu; rfl) (by simp [maxLen]; omega) (by omega) (fun a5 c5 w5 hS5 hK5 hv5 => ?_)
          have hBm := hBn.keep hK5 (hSn.notin hBn (by decide))
          refine o_nilc rfl ?_
          refine o_fld0 rfl rfl ?_
          refine o_st (v := .slice _ _ _) rfl rfl rfl rfl hBm (by simp) (fun w6 hB6 hK6 hZ6 => ?_)
          refine o_nil ?_
          obtain ⟨hp1, hp2⟩ := put_app hP (by omega) (by omega)
          have hfr : ∀ q, a5 = some q → k ≤ q.block := fresh_app hka (by have := hk3.size; have := hK4.size; have := hW; obtain ⟨_, _, hb, _⟩ := hW; have := hb.lt; omega) hv5
          refine k_goal ⟨(bs ++ [0#8], a5, c5), ⟨rfl, rfl, rfl, rfl, rfl, trivial⟩, ⟨⟨⟨bs, hP, hp2⟩, fun _ => by rw [hp1]; omega, fun h2 => absurd h2 (by rw [hp1]; omega)⟩, ?_, ?_, hfr, ?_⟩⟩
          · simp only [List.length_append, List.length_singleton]; exact hB6
          · have := hS5.keep hK6 (hS5.off hBm (by decide))
            simp only [List.length_append, List.length_singleton]
            rw [← u8_app]
            exact this
          · exact ((hk3.tr hK4.t).tr (hK5.ts hSn hka (by decide))).tr (hK6.t1 hkr hBm (by decide))
        refine k_skip ?_
        refine k_goal ⟨(bs, a, c), ⟨rfl, rfl, rfl, rfl, rfl, trivial⟩, ⟨⟨⟨bs, hP, fun _ => rfl⟩, fun h2 => absurd h2 (by simp only; omega), fun _ => put_skip hi3 hP (by omega) (by omega)⟩, hB, hS, hka, hk3⟩⟩
      clear hB hS hka hk3 hP hlen h52 h
      clear bs a c
      obtain ⟨bs, a, c⟩ := s
      obtain ⟨hM, hB, hS, hka, hk3⟩ := hJ
      simp only at hM hB hS hka hk3
      refine k_seq ?_
      refine k_region ?_
      refine m_int rfl rfl ?_
      refine m_ptr rfl rfl ?_
      refine o_nilc rfl ?_
      refine o_fld0 rfl rfl ?_
      refine o_ld rfl rfl (hB.at rfl) ?_ 
      refine o_lens Tryd.underlying25 rfl ?_
      refine b_lss rfl rfl ?_
      refine o_nil ?_
      refine k_cond rfl (fun h => ?_) (fun h => ?_)
      ·
        have hkl : l.length / 8 + i < bs.length := by omega
        obtain ⟨g, cur, rfl, hG, hGs⟩ := hS.blk (by omega)
        refine k_region ?_
        refine m_ptr rfl rfl ?_
        refine o_nilc rfl ?_
        refine o_fld0 rfl rfl ?_
        refine o_ld rfl rfl (hB.at rfl) ?_ 
        refine m_int rfl rfl ?_
        refine o_ixs1 (m := l.length / 8 + i) Tryd.underlying25 rfl rfl rfl hkl ?_
        refine o_ld rfl rfl (hS.rd.cellK (Keep.refl _ _) (u8_at bs _ hkl)) ?_
        refine m_int rfl rfl ?_
        refine m_int rfl rfl ?_
        refine cv64 rfl Tryd.underlying100 rfl ?_
        refine v64_mul (a := 8#64) rfl rfl ?_
        rw [mul8 i hi3]
        refine v32_shrn rfl rfl ?_
        refine cv32_8 rfl Tryd.underlying5 rfl ?_
        refine v8_or rfl rfl ?_
        refine o_ixs1 (m := l.length / 8 + i) Tryd.underlying25 rfl rfl rfl hkl ?_
        refine o_st (v := .int _ _) rfl rfl rfl rfl hG (by omega) (fun w7 hB7 hK7 hZ7 => ?_)
        refine o_nil ?_
        refine k_blk ?_
        refine k_region ?_
        refine m_int rfl rfl ?_
        refine n_add rfl rfl (by omega) ?_
        refine m_int rfl rfl ?_
        refine o_nil ?_
        obtain ⟨b0, hP0, hbit⟩ := hM.bit
        have hgr : r ≠ g := fun e => by subst e; exact absurd (hB.ty hG) (by decide)
        refine k_goal ⟨(i + 1, _, some ⟨g, 0, none⟩, c), ⟨rfl, rfl, rfl, rfl, trivial⟩, ⟨by simp only; omega, put_set hi3 hP0 hbit (hM.yes hkl) hkl hacc, ?_, ?_, hka, hk3.tr (hK7.t1 (hka _ rfl) hG (by decide))⟩, by simp only; omega⟩
        · simp only [List.length_set]
          exact hB.keep hK7 (by simp [hgr])
        · simp only [List.length_set]
          rw [← u8_set]
          exact hS.set hkl hG hB7
      refine k_skip ?_
      refine k_blk ?_
      refine k_region ?_
      refine m_int rfl rfl ?_
      refine n_add rfl rfl (by omega) ?_
      refine m_int rfl rfl ?_
      refine o_nil ?_
      refine k_goal ⟨(i + 1, bs, a, c), ⟨rfl, rfl, rfl, rfl, trivial⟩, ⟨by simp only; omega, hM.no (by omega), hB, hS, hka, hk3⟩, by simp only; omega⟩
    ·
      have hM : Mid l v m i bs := ⟨⟨bs, hP, fun _ => rfl⟩, fun _ => by omega, fun h2 => absurd h2 (by omega)⟩
      refine g_no rfl rfl rfl ?_
      refine g_no rfl rfl rfl ?_
      refine g_no rfl rfl rfl ?_
      refine g_no rfl rfl rfl ?_
      refine g_no rfl rfl rfl ?_
      refine g_no rfl rfl rfl ?_
      refine g_no rfl rfl rfl ?_
      refine g_no rfl rfl rfl ?_
      refine g_no rfl rfl rfl ?_
      refine g_no rfl rfl rfl ?_
      refine pick_f rfl rfl ?_
      refine o_nil ?_
      refine k_condf rfl ?_
      refine k_skip ?_
      refine k_seq ?_
      refine k_region ?_
      refine m_int rfl rfl ?_
      refine m_ptr rfl rfl ?_
      refine o_nilc rfl ?_
      refine o_fld0 rfl rfl ?_
      refine o_ld rfl rfl (hB.at rfl) ?_ 
      refine o_lens Tryd.underlying25 rfl ?_
      refine b_lss rfl rfl ?_
      refine o_nil ?_
      refine k_cond rfl (fun h => ?_) (fun h => ?_)
      ·
        have hkl : l.length / 8 + i < bs.length := by omega
        obtain ⟨g, cur, rfl, hG, hGs⟩ := hS.blk (by omega)
        refine k_region ?_
        refine m_ptr rfl rfl ?_
        refine o_nilc rfl ?_
        refine o_fld0 rfl rfl ?_
        refine o_ld rfl rfl (hB.at rfl) ?_ 
        refine m_int rfl rfl ?_
        refine o_ixs1 (m := l.length / 8 + i) Tryd.underlying25 rfl rfl rfl hkl ?_
        refine o_ld rfl rfl (hS.rd.cellK (Keep.refl _ _) (u8_at bs _ hkl)) ?_
        refine m_int rfl rfl ?_
        refine m_int rfl rfl ?_
        refine cv64 rfl Tryd.underlying100 rfl ?_
        refine v64_mul (a := 8#64) rfl rfl ?_
        rw [mul8 i hi3]
        refine v32_shrn rfl rfl ?_
        refine cv32_8 rfl Tryd.underlying5 rfl ?_
        refine v8_or rfl rfl ?_
        refine o_ixs1 (m := l.length / 8 + i) Tryd.underlying25 rfl rfl rfl hkl ?_
        refine o_st (v := .int _ _) rfl rfl rfl rfl hG (by omega) (fun w7 hB7 hK7 hZ7 => ?_)
        refine o_nil ?_
        refine k_blk ?_
        refine k_region ?_
        refine m_int rfl rfl ?_
        refine n_add rfl rfl (by omega) ?_
        refine m_int rfl rfl ?_
        refine o_nil ?_
        obtain ⟨b0, hP0, hbit⟩ := hM.bit
        have hgr : r ≠ g := fun e => by subst e; exact absurd (hB.ty hG) (by decide)
        refine k_goal ⟨(i + 1, _, some ⟨g, 0, none⟩, c), ⟨rfl, rfl, rfl, rfl, trivial⟩, ⟨by simp only; omega, put_set hi3 hP0 hbit (hM.yes hkl) hkl hacc, ?_, ?_, hka, hk3.tr (hK7.t1 (hka _ rfl) hG (by decide))⟩, by simp only; omega⟩
        · simp only [List.length_set]
          exact hB.keep hK7 (by simp [hgr])
        · simp only [List.length_set]
          rw [← u8_set]
          exact hS.set hkl hG hB7
      refine k_skip ?_
      refine k_blk ?_
      refine k_region ?_
      refine m_int rfl rfl ?_
      refine n_add rfl rfl (by omega) ?_
      refine m_int rfl rfl ?_
      refine o_nil ?_
      refine k_goal ⟨(i + 1, bs, a, c), ⟨rfl, rfl, rfl, rfl, trivial⟩, ⟨by simp only; omega, hM.no (by omega), hB, hS, hka, hk3⟩, by simp only; omega⟩
theorem wbytes_ok (x2 x3 : Value) (k : Nat) (w : World) (r : Nat) (l : List Bool) (hl : l.length ≤ 10000000000000) (h : Wtr x2 x3 k w r l) :
    Ret Tryd.prog 35 [.pointer (some ⟨r, 0, none⟩)] w (fun v w' => New w w' 5 v ((pack l).map u8v) ∧ Keep [] w w') := by
  obtain ⟨a, c, hB, hS, hkr, hka⟩ := h
  refine fn_enter (n := 11) Tryd.func35 rfl rfl (Nat.le_of_ble_eq_true rfl) (fun e => ?_)
  refine k_seq ?_
  refine k_region ?_
  refine m_sl rfl rfl ?_
  refine o_nil ?_
  refine k_seq ?_
  refine k_seq ?_
  refine k_region ?_
  refine m_ptr rfl rfl ?_
  refine b_eqlp Tryd.underlying117 rfl rfl ?_
  refine o_nil ?_
  refine k_no rfl ((by simp)) ?_
  refine k_skip ?_
  refine k_seq ?_
  refine k_region ?_
  refine o_bsl (E := 5) (cs := #[]) rfl (fun _ => by kernel_rfl) (fun g w3 hB3 hK3 hb3 hZ3 => ?_)
  refine m_ptr rfl rfl ?_
  refine o_nilc rfl ?_
  refine o_fld0 rfl rfl ?_
  refine o_ld rfl rfl (hB.kat hK3 rfl) ?_ 
  refine o_app Tryd.underlying25 inf5 rfl (by decide) rfl rfl (hB3.sl (len := 0) (sz := 1) rfl (by decide)) (hS.rd.new hK3) (by simp) (u8_one _) (by rw [pack_len]; simp [maxLen]; omega) (by rw [pack_len]; omega) (fun a4 c4 w4 hS4 hK4 hv4 => ?_)
  refine m_sl rfl rfl ?_
  refine o_nil ?_
  refine k_ret (ret_tmps (ts := [2]) (v := .slice _ _ _) rfl rfl ?_)
  have hk4 : Keep [] w w4 := Keep.trb hK3 hK4 (by intro q hq; simp at hq; subst hq; simp only; omega)
  refine ⟨⟨a4, c4, ?_, ?_, ?_⟩, hk4⟩
  · rw [List.length_map, Nat.zero_add]
  · rw [List.length_map]
    simpa using hS4
  · exact fresh_app (by intro q hq; simp at hq; subst hq; simp only; omega) (by have := hK3.size; omega) hv4
end Go.Proofs.YtiapgmfooclpcaaDoor

/- Canonical prefix codes, plain. No condition. -/
namespace Go.Proofs.YtiapgmfooclpcaaDoor
open Go.RowKit
set_option linter.unusedVariables false
set_option linter.unusedSimpArgs false

/-- the symbols of a length; none has the length 0 -/
def syms (L : List Nat) (n : Nat) : List Nat := (List.range L.length).filter (fun s => decide (L.getD s 0 = n ∧ n ≠ 0))
def cnt (L : List Nat) (n : Nat) : Nat := (syms L n).length
/-- the first word of a length -/
def fst (L : List Nat) : Nat → Nat
  | 0 => 0
  | n + 1 => 2 * (fst L n + cnt L n)
/-- how much the words up to a length take, in parts of 2^15 -/
def kr (L : List Nat) : Nat → Nat
  | 0 => 0
  | n + 1 => kr L n + cnt L (n + 1) * 2 ^ (15 - (n + 1))
def used (L : List Nat) : Nat := (L.filter (fun x => decide (x ≠ 0))).length

theorem syms_app (L : List Nat) (x n : Nat) : syms (L ++ [x]) n = syms L n ++ (if x = n ∧ n ≠ 0 then [L.length] else []) := by
  unfold syms
  rw [List.length_append, List.length_singleton, List.range_succ, List.filter_append]
  congr 1
  · apply List.filter_congr
    intro s hs
    rw [List.mem_range] at hs
    rw [List.getD_eq_getElem?_getD, List.getElem?_append_left hs, ← List.getD_eq_getElem?_getD]
  · rw [List.filter_cons, List.filter_nil]
    rw [List.getD_eq_getElem?_getD, List.getElem?_append_right (Nat.le_refl _), Nat.sub_self]
    simp
theorem cnt_app (L : List Nat) (x n : Nat) : cnt (L ++ [x]) n = cnt L n + (if x = n ∧ n ≠ 0 then 1 else 0) := by
  unfold cnt
  rw [syms_app, List.length_append]
  congr 1
  split <;> rfl
theorem syms_nil (n : Nat) : syms [] n = [] := rfl
theorem cnt_nil (n : Nat) : cnt [] n = 0 := rfl
theorem syms_zero (L : List Nat) : syms L 0 = [] := by
  unfold syms
  rw [List.filter_eq_nil_iff]
  intro s _
  simp
theorem cnt_zero (L : List Nat) : cnt L 0 = 0 := by unfold cnt; rw [syms_zero]; rfl
theorem used_app (L : List Nat) (x : Nat) : used (L ++ [x]) = used L + (if x ≠ 0 then 1 else 0) := by
  unfold used
  rw [List.filter_append, List.length_append, List.filter_cons, List.filter_nil]
  congr 1
  by_cases h : x = 0 <;> simp [h]
theorem take_succ' (L : List Nat) (i : Nat) (h : i < L.length) : L.take (i + 1) = L.take i ++ [L[i]] := by
  rw [List.take_succ_eq_append_getElem h]
theorem syms_take (L : List Nat) (i n : Nat) (h : i < L.length) : syms (L.take (i + 1)) n = syms (L.take i) n ++ (if L[i] = n ∧ n ≠ 0 then [i] else []) := by
  rw [take_succ' L i h, syms_app, List.length_take, Nat.min_eq_left (Nat.le_of_lt h)]
theorem cnt_take (L : List Nat) (i n : Nat) (h : i < L.length) : cnt (L.take (i + 1)) n = cnt (L.take i) n + (if L[i] = n ∧ n ≠ 0 then 1 else 0) := by
  rw [take_succ' L i h, cnt_app]
theorem used_take (L : List Nat) (i : Nat) (h : i < L.length) : used (L.take (i + 1)) = used (L.take i) + (if L[i] ≠ 0 then 1 else 0) := by
  rw [take_succ' L i h, used_app]
theorem cnt_take_le (L : List Nat) (n : Nat) : ∀ (d i : Nat), i + d ≤ L.length → cnt (L.take i) n ≤ cnt (L.take (i + d)) n
  | 0, i, _ => Nat.le_refl _
  | d + 1, i, h => by
    have := cnt_take_le L n d i (by omega)
    rw [← Nat.add_assoc, cnt_take L (i + d) n (by omega)]
    omega
theorem cnt_pre (L : List Nat) (i n : Nat) (h : i ≤ L.length) : cnt (L.take i) n ≤ cnt L n := by
  have := cnt_take_le L n (L.length - i) i (by omega)
  rwa [show i + (L.length - i) = L.length by omega, List.take_length] at this
theorem cnt_lt (L : List Nat) (i : Nat) (h : i < L.length) (h0 : L[i] ≠ 0) : cnt (L.take i) L[i] < cnt L L[i] := by
  have := cnt_pre L (i + 1) L[i] (by omega)
  rw [cnt_take L i _ h, if_pos ⟨rfl, h0⟩] at this
  omega
theorem cnt_le (L : List Nat) (n : Nat) : cnt L n ≤ L.length := by
  unfold cnt syms
  have := List.length_filter_le (fun s => decide (L.getD s 0 = n ∧ n ≠ 0)) (List.range L.length)
  simpa using this
theorem used_le (L : List Nat) : used L ≤ L.length := List.length_filter_le _ _
/-- the place of a symbol among those of its length -/
theorem syms_at (L : List Nat) (s : Nat) (h : s < L.length) (h0 : L[s] ≠ 0) : (syms L L[s])[cnt (L.take s) L[s]]? = some s := by
  have key : ∀ d, s + 1 + d ≤ L.length → (syms (L.take (s + 1 + d)) L[s])[cnt (L.take s) L[s]]? = some s := by
    intro d
    induction d with
    | zero =>
      intro _
      rw [Nat.add_zero, syms_take L s _ h, if_pos ⟨rfl, h0⟩]
      unfold cnt
      rw [List.getElem?_append_right (Nat.le_refl _), Nat.sub_self]
      rfl
    | succ d ih =>
      intro hd
      have := ih (by omega)
      rw [← Nat.add_assoc, syms_take L (s + 1 + d) _ (by omega), List.getElem?_append_left (List.getElem?_eq_some_iff.1 this).1]
      exact this
  have := key (L.length - (s + 1)) (by omega)
  rwa [show s + 1 + (L.length - (s + 1)) = L.length by omega, List.take_length] at this
theorem syms_mem (L : List Nat) (n k s : Nat) (h : (syms L n)[k]? = some s) : ∃ hs : s < L.length, L[s] = n ∧ n ≠ 0 := by
  have hm := List.mem_of_getElem? h
  unfold syms at hm
  rw [List.mem_filter, List.mem_range] at hm
  have h2 := of_decide_eq_true hm.2
  refine ⟨hm.1, ?_, h2.2⟩
  have := h2.1
  rwa [List.getD_eq_getElem?_getD, List.getElem?_eq_getElem hm.1] at this
theorem kr_fst (L : List Nat) : ∀ n, n ≤ 15 → (fst L n + cnt L n) * 2 ^ (15 - n) = kr L n
  | 0, _ => by rw [cnt_zero]; unfold fst kr; simp
  | n + 1, h => by
    have ih := kr_fst L n (by omega)
    unfold fst kr
    rw [← ih, show 15 - n = (15 - (n + 1)) + 1 by omega, Nat.pow_succ, Nat.add_mul]
    congr 1
    rw [Nat.mul_comm 2, Nat.mul_assoc, Nat.mul_comm 2]
theorem kr_mono (L : List Nat) (n : Nat) : ∀ d, kr L n ≤ kr L (n + d)
  | 0 => Nat.le_refl _
  | d + 1 => by
    have := kr_mono L n d
    show kr L n ≤ kr L (n + d) + _
    omega
theorem kr_le (L : List Nat) (n : Nat) (h : n ≤ 15) : kr L n ≤ kr L 15 := by
  have := kr_mono L n (15 - n)
  rwa [show n + (15 - n) = 15 by omega] at this
theorem kr_app (L : List Nat) (x : Nat) : ∀ n, kr (L ++ [x]) n = kr L n + (if x ≠ 0 ∧ x ≤ n then 2 ^ (15 - x) else 0)
  | 0 => by
    rw [if_neg (by omega)]; rfl
  | n + 1 => by
    unfold kr
    rw [kr_app L x n, cnt_app, Nat.add_mul]
    by_cases h : x = n + 1
    · subst h
      rw [if_neg (by omega), if_pos ⟨rfl, by omega⟩, if_pos ⟨by omega, Nat.le_refl _⟩]
      omega
    · rw [if_neg (show ¬ (x = n + 1 ∧ n + 1 ≠ 0) from fun hh => h hh.1)]
      by_cases h2 : x ≠ 0 ∧ x ≤ n
      · rw [if_pos h2, if_pos ⟨h2.1, by omega⟩]; omega
      · rw [if_neg h2, if_neg (by omega)]; omega
theorem kr_take (L : List Nat) (i : Nat) (h : i < L.length) (h15 : L[i] ≤ 15) : kr (L.take (i + 1)) 15 = kr (L.take i) 15 + (if L[i] ≠ 0 then 2 ^ (15 - L[i]) else 0) := by
  rw [take_succ' L i h, kr_app]
  congr 1
  by_cases h0 : L[i] = 0
  · rw [if_neg (by omega), if_neg (by omega)]
  · rw [if_pos ⟨h0, h15⟩, if_pos h0]
theorem kr_used_take (L : List Nat) (hL : ∀ x ∈ L, x ≤ 15) : ∀ i, i ≤ L.length → kr (L.take i) 15 ≤ used (L.take i) * 2 ^ 14
  | 0, _ => by rw [List.take_zero]; decide
  | i + 1, h => by
    have ih := kr_used_take L hL i (by omega)
    have h15 := hL _ (List.getElem_mem (show i < L.length by omega))
    rw [kr_take L i (by omega) h15, used_take L i (by omega)]
    by_cases h0 : L[i] = 0
    · rw [if_neg (by omega), if_neg (by omega)]; omega
    · rw [if_pos h0, if_pos h0, Nat.add_mul]
      have : 2 ^ (15 - L[i]) ≤ 2 ^ 14 := Nat.pow_le_pow_right (by decide) (by omega)
      omega
theorem kr_used (L : List Nat) (hL : ∀ x ∈ L, x ≤ 15) : kr L 15 ≤ used L * 2 ^ 14 := by
  have := kr_used_take L hL L.length (Nat.le_refl _)
  rwa [List.take_length] at this

/-- the lengths are a code -/
def Fit (L : List Nat) (lone : Bool) : Prop := kr L 15 = 32768 ∨ (lone = true ∧ (used L = 0 ∨ (used L = 1 ∧ cnt L 1 = 1)))
instance (L : List Nat) (lone : Bool) : Decidable (Fit L lone) := by unfold Fit; infer_instance
theorem Fit.le {L : List Nat} {lone : Bool} (h : Fit L lone) (hL : ∀ x ∈ L, x ≤ 15) : kr L 15 ≤ 32768 := by
  rcases h with h | ⟨_, h⟩
  · omega
  · have := kr_used L hL
    omega
/-- the words of a length lie below its power -/
theorem fst_lt {L : List Nat} (h : kr L 15 ≤ 32768) (n : Nat) (hn : n ≤ 15) : fst L n + cnt L n ≤ 2 ^ n := by
  have h1 := kr_fst L n hn
  have h2 := kr_le L n hn
  have hp : 0 < 2 ^ (15 - n) := Nat.pow_pos (by decide)
  have h3 : 2 ^ n * 2 ^ (15 - n) = 32768 := by
    rw [← Nat.pow_add, show n + (15 - n) = 15 by omega]
  exact Nat.le_of_mul_le_mul_right (by rw [h1, h3]; omega) hp
theorem fst_lt15 {L : List Nat} (h : kr L 15 ≤ 32768) (n : Nat) (hn : n ≤ 15) : fst L n + cnt L n ≤ 32768 := by
  have h1 := fst_lt h n hn
  have : 2 ^ n ≤ 2 ^ 15 := Nat.pow_le_pow_right (by decide) hn
  omega
/-- longer words lie above the shorter ones -/
theorem fst_up (L : List Nat) (m : Nat) : ∀ d, (fst L m + cnt L m) * 2 ^ (d + 1) ≤ fst L (m + d + 1)
  | 0 => by show _ ≤ 2 * (fst L m + cnt L m); omega
  | d + 1 => by
    have ih := fst_up L m d
    show _ ≤ 2 * (fst L (m + d + 1) + cnt L (m + d + 1))
    rw [Nat.pow_succ, ← Nat.mul_assoc]
    omega
/-- a symbol's word, and how many bits it has -/
def wdN (L : List Nat) (s : Nat) : Nat × Nat := if L.getD s 0 = 0 then (0, 0) else (fst L (L.getD s 0) + cnt (L.take s) (L.getD s 0), L.getD s 0)
def wd (L : List Nat) (s : Int) : Nat × Nat := if s < 0 then (0, 0) else wdN L s.toNat
theorem wdN_out (L : List Nat) (s : Nat) (h : L.length ≤ s) : wdN L s = (0, 0) := by
  unfold wdN
  rw [if_pos (by rw [List.getD_eq_getElem?_getD, List.getElem?_eq_none h]; rfl)]
theorem wdN_at (L : List Nat) (s : Nat) (h : s < L.length) (h0 : L[s] ≠ 0) : wdN L s = (fst L L[s] + cnt (L.take s) L[s], L[s]) := by
  have e : L.getD s 0 = L[s] := by rw [List.getD_eq_getElem?_getD, List.getElem?_eq_getElem h]; rfl
  unfold wdN
  rw [e, if_neg h0]
theorem wdN_none (L : List Nat) (s : Nat) (h : s < L.length) (h0 : L[s] = 0) : wdN L s = (0, 0) := by
  have e : L.getD s 0 = L[s] := by rw [List.getD_eq_getElem?_getD, List.getElem?_eq_getElem h]; rfl
  unfold wdN
  rw [e, if_pos h0]
/-- what stands under a word -/
def hit (L : List Nat) (n b : Nat) : Option Nat := if fst L n ≤ b then (syms L n)[b - fst L n]? else none
/-- the greatest length -/
def mostL : List Nat → Nat := List.foldl max 0
theorem foldl_max (L : List Nat) : ∀ a, L.foldl max a = max a (mostL L) := by
  induction L with
  | nil => intro a; simp [mostL]
  | cons x L ih => intro a; unfold mostL; rw [List.foldl_cons, List.foldl_cons, ih, ih]; omega
theorem most_app (L : List Nat) (x : Nat) : mostL (L ++ [x]) = max (mostL L) x := by
  unfold mostL; rw [List.foldl_append]; rfl
theorem most_take (L : List Nat) (i : Nat) (h : i < L.length) : mostL (L.take (i + 1)) = max (mostL (L.take i)) L[i] := by
  rw [take_succ' L i h, most_app]
theorem most_le (L : List Nat) : ∀ x ∈ L, x ≤ mostL L := by
  induction L with
  | nil => intro x h; simp at h
  | cons y L ih =>
    intro x h
    unfold mostL
    rw [List.foldl_cons, foldl_max]
    rcases List.mem_cons.1 h with rfl | h
    · omega
    · have := ih x h; omega
theorem most_mem (L : List Nat) : mostL L = 0 ∨ mostL L ∈ L := by
  induction L with
  | nil => left; rfl
  | cons y L ih =>
    unfold mostL
    rw [List.foldl_cons, foldl_max, show max 0 y = y by omega]
    rcases Nat.le_total y (mostL L) with h | h
    · rw [Nat.max_eq_right h]
      rcases ih with ih | ih
      · left; exact ih
      · right; exact List.mem_cons_of_mem _ ih
    · rw [Nat.max_eq_left h]; right; exact List.mem_cons_self
theorem most_15 (L : List Nat) (hL : ∀ x ∈ L, x ≤ 15) : mostL L ≤ 15 := by
  rcases most_mem L with h | h
  · omega
  · exact hL _ h
/-- none of a greater length -/
theorem cnt_above (L : List Nat) (n : Nat) (h : mostL L < n) : cnt L n = 0 := by
  unfold cnt syms
  rw [List.length_eq_zero_iff, List.filter_eq_nil_iff]
  intro s hs
  rw [List.mem_range] at hs
  have := most_le L _ (List.getElem_mem hs)
  rw [List.getD_eq_getElem?_getD, List.getElem?_eq_getElem hs]
  simp
  intro hh
  omega
theorem cnt_most (L : List Nat) (h : mostL L ≠ 0) : cnt L (mostL L) ≠ 0 := by
  rcases most_mem L with h' | h'
  · exact absurd h' h
  · obtain ⟨s, hs, e⟩ := List.getElem_of_mem h'
    have := cnt_lt L s hs (by rw [e]; exact h)
    rw [e] at this
    omega
/-- what Next answers: the symbol, the error, how many bits were passed; k bits may come yet, n came with this word -/
def nx (L : List Nat) (bs : List (BitVec 8)) : Nat → Nat → Nat → Nat → Int × Int × Nat
  | 0, n, b, p => (0, 6, p)
  | k + 1, n, b, p => if 8 * bs.length ≤ p then (0, 2, p) else
      match hit L (n + 1) (2 * b + (bitAt bs p).toNat) with
      | some s => ((s : Int), 0, p + 1)
      | none => nx L bs k (n + 1) (2 * b + (bitAt bs p).toNat) (p + 1)
theorem nx_short {L : List Nat} {bs : List (BitVec 8)} {k n b p : Nat} (h : 8 * bs.length ≤ p) : nx L bs (k + 1) n b p = (0, 2, p) := if_pos h
theorem nx_hit {L : List Nat} {bs : List (BitVec 8)} {k n b p s : Nat} (h : ¬ 8 * bs.length ≤ p) (hh : hit L (n + 1) (2 * b + (bitAt bs p).toNat) = some s) : nx L bs (k + 1) n b p = ((s : Int), 0, p + 1) := by
  unfold nx; rw [if_neg h, hh]
theorem nx_on {L : List Nat} {bs : List (BitVec 8)} {k n b p : Nat} (h : ¬ 8 * bs.length ≤ p) (hh : hit L (n + 1) (2 * b + (bitAt bs p).toNat) = none) : nx L bs (k + 1) n b p = nx L bs k (n + 1) (2 * b + (bitAt bs p).toNat) (p + 1) := by
  rw [nx, if_neg h, hh]
theorem nx_pos (L : List Nat) (bs : List (BitVec 8)) : ∀ k n b p, p ≤ 8 * bs.length → p ≤ (nx L bs k n b p).2.2 ∧ (nx L bs k n b p).2.2 ≤ 8 * bs.length ∧ ((nx L bs k n b p).2.1 = 0 → p < (nx L bs k n b p).2.2)
  | 0, n, b, p, h => by unfold nx; exact ⟨Nat.le_refl _, h, by simp⟩
  | k + 1, n, b, p, h => by
    by_cases hp : 8 * bs.length ≤ p
    · rw [nx_short hp]; exact ⟨Nat.le_refl _, h, by simp⟩
    · cases hh : hit L (n + 1) (2 * b + (bitAt bs p).toNat) with
      | some s => rw [nx_hit hp hh]; exact ⟨by simp, by simp; omega, by simp⟩
      | none =>
        rw [nx_on hp hh]
        have := nx_pos L bs k (n + 1) (2 * b + (bitAt bs p).toNat) (p + 1) (by omega)
        exact ⟨by omega, this.2.1, fun h => by have := this.2.2 h; omega⟩
/-- a symbol's word lies where it is found -/
theorem hit_at (L : List Nat) (s : Nat) (h : s < L.length) (h0 : L[s] ≠ 0) : hit L L[s] (fst L L[s] + cnt (L.take s) L[s]) = some s := by
  unfold hit
  rw [if_pos (by omega), Nat.add_sub_cancel_left]
  exact syms_at L s h h0
/-- no beginning of a word is a word -/
theorem hit_pre (L : List Nat) (s m d : Nat) (h : s < L.length) (h0 : L[s] ≠ 0) (hm : m + d + 1 = L[s]) : hit L m ((fst L L[s] + cnt (L.take s) L[s]) / 2 ^ (d + 1)) = none := by
  unfold hit
  have h1 := fst_up L m d
  rw [hm] at h1
  have hp : 0 < 2 ^ (d + 1) := Nat.pow_pos (by decide)
  have h2 : fst L m + cnt L m ≤ (fst L L[s] + cnt (L.take s) L[s]) / 2 ^ (d + 1) := by
    rw [Nat.le_div_iff_mul_le hp]; omega
  split
  · rw [List.getElem?_eq_none]
    show cnt L m ≤ _
    omega
  · rfl
end Go.Proofs.YtiapgmfooclpcaaDoor

/- The walk of prefix.New. No condition beyond what each contract names. -/
namespace Go.Proofs.YtiapgmfooclpcaaDoor
open Go.RowKit E
set_option linter.unusedVariables false
set_option linter.unusedSimpArgs false
set_option maxRecDepth 100000
attribute [local irreducible] ow qw kw kq cw opW Ret
theorem inf116 : infB Tryd.prog 116 2 4 (.agg #[.int .u8 0, .int .u16 0]) := ⟨_, rfl, rfl, rfl, rfl⟩
theorem inf3 : infB Tryd.prog 3 1 8 (.int .i64 0) := ⟨_, rfl, rfl, rfl, rfl⟩
/-- a word as a value -/
def kvw (q : BitVec 8 × BitVec 16) : Value := .agg #[.int .u8 (q.1.toNat : Int), .int .u16 (q.2.toNat : Int)]
theorem key_w : KeyOk Tryd.prog 116 kvw := by
  refine key_ask Tryd.underlying116 (fun _ _ => rfl) (fun b x w => by kernel_rfl) (fun x y w => ?_) (fun x => ?_)
  · have h1 : (Op.equal 116 (kvw x) (kvw y)).run Tryd.prog w = .ok (if !((x.1.toNat : Int) == (y.1.toNat : Int)) then false else if !((x.2.toNat : Int) == (y.2.toNat : Int)) then false else true) w := by
      have e : ∀ d, (Op.equalIn (d + 2) 116 (kvw x) (kvw y)).run Tryd.prog w = .ok (if !((x.1.toNat : Int) == (y.1.toNat : Int)) then false else if !((x.2.toNat : Int) == (y.2.toNat : Int)) then false else true) w := by
        intro d
        have e5 : ∀ a b : Int, (Op.equalIn (d + 1) 5 (.int .u8 a) (.int .u8 b)).run Tryd.prog w = .ok (a == b) w := fun a b => by simp [Op.equalIn, run_underlying Tryd.underlying5]
        have e114 : ∀ a b : Int, (Op.equalIn (d + 1) 114 (.int .u16 a) (.int .u16 b)).run Tryd.prog w = .ok (a == b) w := fun a b => by simp [Op.equalIn, run_underlying Tryd.underlying114]
        unfold kvw
        rw [Op.equalIn]
        simp [run_underlying Tryd.underlying116, part, run_isAgg (show aggB Tryd.prog 5 = false from rfl), run_isAgg (show aggB Tryd.prog 114 = false from rfl), e5, e114, show (Tryd.prog.stoodInHeld 116) = false from by kernel_rfl]
        by_cases h1 : (x.1.toNat : Int) = (y.1.toNat : Int) <;> by_cases h2 : (x.2.toNat : Int) = (y.2.toNat : Int) <;> simp [h1, h2]
      exact e 9998
    rw [h1]
    congr 1
    obtain ⟨x1, x2⟩ := x
    obtain ⟨y1, y2⟩ := y
    by_cases e1 : x1 = y1
    · subst e1
      by_cases e2 : x2 = y2
      · subst e2; simp
      · have : ¬ (x2.toNat : Int) = (y2.toNat : Int) := fun h => e2 (BitVec.eq_of_toNat_eq (by omega))
        simp [e2, this]
    · have : ¬ (x1.toNat : Int) = (y1.toNat : Int) := fun h => e1 (BitVec.eq_of_toNat_eq (by omega))
      simp [e1, this]
  · simp [kvw, Instr.sameBits]
end Go.Proofs.YtiapgmfooclpcaaDoor

/- The walk of prefix.New. No condition beyond what each contract names. -/
namespace Go.Proofs.YtiapgmfooclpcaaDoor
open Go.RowKit E
set_option linter.unusedVariables false
set_option linter.unusedSimpArgs false
set_option maxRecDepth 100000
attribute [local irreducible] ow qw kw kq cw opW Ret
/-- what stands under words, of the first symbols -/
def SM (L : List Nat) (i : Nat) (sm : List ((BitVec 8 × BitVec 16) × Value)) : Prop :=
  ∀ (n : BitVec 8) (b : BitVec 16), getM sm (n, b) = (if fst L n.toNat ≤ b.toNat then (syms (L.take i) n.toNat)[b.toNat - fst L n.toNat]? else none).map (fun s : Nat => Value.int .i64 (s : Int))
def wcell (L : List Nat) (s : Nat) : Value := kvw (BitVec.ofNat 8 (L.getD s 0), BitVec.ofNat 16 (fst L (L.getD s 0) + cnt (L.take s) (L.getD s 0)))
def WM (L : List Nat) (i : Nat) (wm : List (Int × Value)) : Prop :=
  ∀ s : Int, getM wm s = if 0 ≤ s ∧ s < i ∧ L.getD s.toNat 0 ≠ 0 then some (wcell L s.toNat) else none
theorem SM.nil (L : List Nat) : SM L 0 [] := by
  intro n b
  rw [List.take_zero, syms_nil]
  split <;> rfl
theorem WM.nil (L : List Nat) : WM L 0 [] := by
  intro s
  rw [if_neg (by omega)]; rfl
theorem SM.skip {L : List Nat} {i : Nat} {sm : List ((BitVec 8 × BitVec 16) × Value)} (h : SM L i sm) (hi : i < L.length) (h0 : L[i] = 0) : SM L (i + 1) sm := by
  intro n b
  rw [h n b, syms_take L i _ hi, if_neg (show ¬ (L[i] = n.toNat ∧ n.toNat ≠ 0) by omega), List.append_nil]
theorem WM.skip {L : List Nat} {i : Nat} {wm : List (Int × Value)} (h : WM L i wm) (hi : i < L.length) (h0 : L[i] = 0) : WM L (i + 1) wm := by
  intro s
  rw [h s]
  by_cases hs : s = i
  · subst hs
    have e : L.getD ((i : Int)).toNat 0 = 0 := by rw [List.getD_eq_getElem?_getD, Int.toNat_natCast, List.getElem?_eq_getElem hi, h0]; rfl
    rw [if_neg (by omega), if_neg (fun hh => hh.2.2 e)]
  · by_cases hc : 0 ≤ s ∧ s < i ∧ L.getD s.toNat 0 ≠ 0
    · rw [if_pos hc, if_pos ⟨hc.1, by omega, hc.2.2⟩]
    · rw [if_neg hc, if_neg (fun hh => hc ⟨hh.1, by omega, hh.2.2⟩)]
theorem tn8 (x : Nat) (h : x < 256) : (BitVec.ofNat 8 x).toNat = x := by rw [BitVec.toNat_ofNat]; omega
theorem tn16 (x : Nat) (h : x < 65536) : (BitVec.ofNat 16 x).toNat = x := by rw [BitVec.toNat_ofNat]; omega
theorem tn32 (x : Nat) (h : x < 4294967296) : (BitVec.ofNat 32 x).toNat = x := by rw [BitVec.toNat_ofNat]; omega
theorem SM.new {L : List Nat} {i : Nat} {sm : List ((BitVec 8 × BitVec 16) × Value)} (h : SM L i sm) (h15 : L.getD i 0 ≤ 15) (hb : fst L (L.getD i 0) + cnt (L.take i) (L.getD i 0) < 65536) :
    getM sm (BitVec.ofNat 8 (L.getD i 0), BitVec.ofNat 16 (fst L (L.getD i 0) + cnt (L.take i) (L.getD i 0))) = none := by
  rw [h, tn8 _ (by omega), tn16 _ hb, if_pos (by omega), Nat.add_sub_cancel_left]
  unfold cnt
  rw [List.getElem?_eq_none (Nat.le_refl _)]
  rfl
theorem WM.new {L : List Nat} {i : Nat} {wm : List (Int × Value)} (h : WM L i wm) : getM wm (i : Int) = none := by
  rw [h, if_neg (by omega)]
theorem SM.put {L : List Nat} {i : Nat} {sm : List ((BitVec 8 × BitVec 16) × Value)} (h : SM L i sm) (hi : i < L.length) (h0 : L[i] ≠ 0) (h15 : L[i] ≤ 15) (hb : fst L L[i] + cnt (L.take i) L[i] < 65536) :
    SM L (i + 1) (putM sm (BitVec.ofNat 8 L[i], BitVec.ofNat 16 (fst L L[i] + cnt (L.take i) L[i])) (.int .i64 (i : Int))) := by
  intro n b
  rw [getM_put, h n b, syms_take L i _ hi]
  by_cases hn : n.toNat = L[i]
  · have en : n = BitVec.ofNat 8 L[i] := BitVec.eq_of_toNat_eq (by rw [tn8 _ (by omega), hn])
    rw [if_pos (show L[i] = n.toNat ∧ n.toNat ≠ 0 from ⟨hn.symm, by omega⟩)]
    by_cases hbb : b.toNat = fst L L[i] + cnt (L.take i) L[i]
    · have eb : b = BitVec.ofNat 16 (fst L L[i] + cnt (L.take i) L[i]) := BitVec.eq_of_toNat_eq (by rw [tn16 _ hb, hbb])
      rw [if_pos (show (n, b) = (BitVec.ofNat 8 L[i], BitVec.ofNat 16 (fst L L[i] + cnt (L.take i) L[i])) by rw [← en, ← eb]), if_pos (show fst L n.toNat ≤ b.toNat by rw [hn]; omega), hn, hbb, Nat.add_sub_cancel_left]
      unfold cnt
      rw [List.getElem?_append_right (Nat.le_refl _), Nat.sub_self]
      rfl
    · have hne : ¬ (n, b) = (BitVec.ofNat 8 L[i], BitVec.ofNat 16 (fst L L[i] + cnt (L.take i) L[i])) := by
        intro hh
        have := congrArg (fun p => p.2.toNat) hh
        simp only [tn16 _ hb] at this
        exact hbb this
      rw [if_neg hne, hn]
      split
      · congr 1
        by_cases hk : b.toNat - fst L L[i] < (syms (L.take i) L[i]).length
        · rw [List.getElem?_append_left hk]
        · rw [List.getElem?_eq_none (by omega), List.getElem?_append_right (by omega)]
          have : b.toNat - fst L L[i] - (syms (L.take i) L[i]).length ≠ 0 := by
            unfold cnt at hbb
            omega
          symm
          rw [List.getElem?_eq_none (by simp; omega)]
      · rfl
  · rw [if_neg (show ¬ (L[i] = n.toNat ∧ n.toNat ≠ 0) from fun hh => hn hh.1.symm), List.append_nil]
    have hne : ¬ (n, b) = (BitVec.ofNat 8 L[i], BitVec.ofNat 16 (fst L L[i] + cnt (L.take i) L[i])) := by
      intro hh
      have := congrArg (fun p => p.1.toNat) hh
      simp only [tn8 _ (show L[i] < 256 by omega)] at this
      exact hn this
    rw [if_neg hne]
theorem getD_at {L : List Nat} {i : Nat} (hi : i < L.length) : L.getD i 0 = L[i] := by rw [List.getD_eq_getElem?_getD, List.getElem?_eq_getElem hi]; rfl
theorem WM.put {L : List Nat} {i : Nat} {wm : List (Int × Value)} (h : WM L i wm) (hi : i < L.length) (h0 : L[i] ≠ 0) : WM L (i + 1) (putM wm (i : Int) (wcell L i)) := by
  intro s
  rw [getM_put, h s]
  by_cases hs : s = i
  · subst hs
    rw [if_pos rfl, if_pos ⟨by omega, by omega, by rw [Int.toNat_natCast, getD_at hi]; exact h0⟩, Int.toNat_natCast]
  · rw [if_neg hs]
    by_cases hc : 0 ≤ s ∧ s < i ∧ L.getD s.toNat 0 ≠ 0
    · rw [if_pos hc, if_pos ⟨hc.1, by omega, hc.2.2⟩]
    · rw [if_neg hc, if_neg (fun hh => hc ⟨hh.1, by omega, hh.2.2⟩)]
/-- a code in memory -/
def CodeP (w : World) (r : Nat) (L : List Nat) : Prop :=
  ∃ rs rw sm wm, Blk w r #[.map (some rs), .map (some rw), .int .u8 ((BitVec.ofNat 8 (mostL L)).toNat : Int)] 112 ∧ Mp w rs kvw sm ∧ Mp w rw (Value.int .i64) wm ∧ SM L L.length sm ∧ WM L L.length wm ∧ (∀ x ∈ L, x ≤ 15) ∧ kr L 15 ≤ 32768 ∧ L.length ≤ 288
theorem CodeP.kt {Ts : List TypeId} {k : Nat} {w w' : World} {r : Nat} {L : List Nat} (h : CodeP w r L) (hk : KeepT Ts k w w') (hT : 112 ∉ Ts) : CodeP w' r L := by
  obtain ⟨rs, rw, sm, wm, hB, h1, h2, h3⟩ := h
  exact ⟨rs, rw, sm, wm, hB.kt hk hT, h1.kt hk, h2.kt hk, h3⟩
theorem CodeP.new {w w' : World} {r : Nat} {L : List Nat} (h : CodeP w r L) (hk : Keep [] w w') : CodeP w' r L := h.kt (Ts := []) (k := 0) hk.t (by simp)
/-- lengths that may be -/
def okL (ls : List Int) : Prop := ls.length ≤ 288 ∧ ∀ x ∈ ls, 0 ≤ x ∧ x ≤ 15
def nats (ls : List Int) : List Nat := ls.map Int.toNat
def NewR (w w' : World) (ls : List Int) (lone : Bool) (v : Value) : Prop :=
  Keep [] w w' ∧ ((¬ okL ls ∧ v = .tuple #[.pointer none, .int .i64 1]) ∨ (okL ls ∧ ¬ Fit (nats ls) lone ∧ v = .tuple #[.pointer none, .int .i64 5]) ∨
    (okL ls ∧ Fit (nats ls) lone ∧ ∃ r, v = .tuple #[.pointer (some ⟨r, 0, none⟩), .int .i64 0] ∧ CodeP w' r (nats ls)))
theorem need_bv (c n : Nat) (hc : c ≤ 288) (hn : n ≤ 15) (h1 : 1 ≤ n) : (BitVec.ofNat 32 c <<< (15#64 - BitVec.ofInt 64 (n : Int)).toNat) = BitVec.ofNat 32 (c * 2 ^ (15 - n)) := by
  have e : (15#64 - BitVec.ofInt 64 (n : Int)).toNat = 15 - n := by
    rw [BitVec.toNat_sub, ofN n (by omega)]
    simp
    omega
  rw [e]
  apply BitVec.eq_of_toNat_eq
  rw [BitVec.toNat_shiftLeft, Nat.shiftLeft_eq]
  simp
theorem need_lt (c n : Nat) (hc : c ≤ 288) (hn : 1 ≤ n) : c * 2 ^ (15 - n) < 4294967296 := by
  have : 2 ^ (15 - n) ≤ 2 ^ 14 := Nat.pow_le_pow_right (by decide) (by omega)
  have : c * 2 ^ (15 - n) ≤ 288 * 2 ^ 14 := Nat.mul_le_mul hc this
  omega
theorem sub32 (a b : Nat) (h : b ≤ a) (ha : a < 4294967296) : BitVec.ofNat 32 a - BitVec.ofNat 32 b = BitVec.ofNat 32 (a - b) := by
  apply BitVec.eq_of_toNat_eq
  rw [BitVec.toNat_sub, tn32 a ha, tn32 b (by omega), tn32 (a - b) (by omega)]
  omega
theorem add32 (a b : Nat) : BitVec.ofNat 32 a + BitVec.ofNat 32 b = BitVec.ofNat 32 (a + b) := by
  rw [BitVec.ofNat_add]
theorem tn_mod (x : Nat) : (BitVec.ofNat 32 x).toNat = x % 4294967296 := by rw [BitVec.toNat_ofNat]
theorem shl32 (a b : Nat) : (BitVec.ofNat 32 a + BitVec.ofNat 32 b) <<< 1 = BitVec.ofNat 32 (2 * (a + b)) := by
  apply BitVec.eq_of_toNat_eq
  rw [add32, BitVec.toNat_shiftLeft, Nat.shiftLeft_eq, tn_mod, tn_mod]
  omega
theorem cut16 (x : Nat) : (BitVec.ofNat 32 x).setWidth 16 = BitVec.ofNat 16 x := by
  apply BitVec.eq_of_toNat_eq
  simp
theorem nats_at (ls : List Int) (i : Nat) (h : i < ls.length) : (nats ls)[i]'(by simpa [nats] using h) = ls[i].toNat := by simp [nats]
theorem max8 (a b : Nat) (ha : a < 256) (hb : b < 256) : (if ((BitVec.ofNat 8 a).toNat : Int) < ((BitVec.ofNat 8 b).toNat : Int) then ((BitVec.ofNat 8 b).toNat : Int) else ((BitVec.ofNat 8 a).toNat : Int)) = ((BitVec.ofNat 8 (max a b)).toNat : Int) := by
  rw [tn8 a ha, tn8 b hb, tn8 _ (by omega)]
  split <;> omega
theorem pnew_ok (w : World) (a : Option Addr) (c : Nat) (ls : List Int) (lone : Bool) (hR : Rd w a (ls.map iv)) (hl : ls.length ≤ 9223372036854775807) :
    Ret Tryd.prog 31 [.slice a ls.length c, .bool lone] w (fun v w' => NewR w w' ls lone v) := by
  refine fn_enter (n := 151) Tryd.func31 rfl rfl (Nat.le_of_ble_eq_true rfl) (fun e => ?_)
  refine k_seq ?_
  refine k_region ?_
  refine m_ptr rfl rfl ?_
  refine m_int rfl rfl ?_
  refine o_nil ?_
  refine k_seq ?_
  refine k_seq ?_
  refine k_region ?_
  refine m_sl rfl rfl ?_
  refine o_lens Tryd.underlying74 rfl ?_
  refine b_gtr rfl rfl ?_
  refine o_nil ?_
  refine k_cond rfl (fun h => ?_) (fun h => ?_)
  ·
    refine k_seq ?_
    refine k_region ?_
    refine m_ptr rfl rfl ?_
    refine m_int rfl rfl ?_
    refine o_nil ?_
    refine k_ret (ret_tmps (ts := [4, 5]) (v := .tuple #[.pointer _, .int _ _]) rfl rfl ?_)
    exact ⟨Keep.refl _ _, .inl ⟨fun hh => by have := hh.1; omega, rfl⟩⟩
  have h288 : ls.length ≤ 288 := by omega
  refine k_skip ?_
  refine k_seq ?_
  refine k_region ?_
  refine o_alloc (cs := arrU (fun _ => 0) 17) ⟨_, rfl, rfl, rfl, rfl⟩ rfl (fun bc w2 hB2 hK2 hb2 hZ2 => ?_)
  have hnl : (nats ls).length = ls.length := by simp [nats]
  have hB2 : Blk w2 bc (arrU (cnt ((nats ls).take 0)) 17) 108 := by rw [List.take_zero]; exact hB2
  refine o_nil ?_
  refine k_seq ?_
  refine k_region ?_
  refine m_int rfl rfl ?_
  refine o_nil ?_
  refine k_seq ?_
  refine k_seq ?_
  refine k_region ?_
  refine m_sl rfl rfl ?_
  refine o_lens Tryd.underlying74 rfl ?_
  refine m_int rfl rfl ?_
  refine o_nil ?_
  refine k_block ?_
  refine k_loop (σ := Nat) (fun i => [(0, .slice a ls.length c), (1, .bool lone), (6, .pointer (some ⟨bc, 0, none⟩)), (7, .int .i64 (used ((nats ls).take i) : Int)), (22, .slice a ls.length c), (23, .int .i64 (ls.length : Int)), (24, .int .i64 (i : Int))]) (fun i w' => i ≤ ls.length ∧ (∀ j (hj : j < ls.length), j < i → 0 ≤ ls[j] ∧ ls[j] ≤ 15) ∧ Blk w' bc (arrU (cnt ((nats ls).take i)) 17) 108 ∧ Keep [] w w') (fun i => ls.length - i) 0 ⟨rfl, rfl, rfl, rfl, rfl, rfl, rfl, trivial⟩ ⟨by omega, fun j _ h => by omega, hB2, hK2⟩ (fun i e w3 hJ => ?_)
  obtain ⟨hi, hok, hB3, hk3⟩ := hJ
  have hus := used_le ((nats ls).take i)
  have hul : ((nats ls).take i).length ≤ i := by rw [List.length_take]; omega
  refine k_seq ?_
  refine k_region ?_
  refine b_lss rfl rfl ?_
  refine o_nil ?_
  refine k_seq ?_
  refine k_cond rfl (fun h => ?_) (fun h => ?_)
  rotate_left
  ·
    obtain rfl : i = ls.length := by omega
    have hL15 : ∀ x ∈ nats ls, x ≤ 15 := by
     intro x hx
     obtain ⟨j, hj, rfl⟩ := List.getElem_of_mem hx
     have hj' : j < ls.length := by omega
     have := hok j hj' hj'
     rw [nats_at ls j hj']
     omega
    have hokL : okL ls := ⟨h288, fun x hx => by
     obtain ⟨j, hj, rfl⟩ := List.getElem_of_mem hx
     exact hok j hj hj⟩
    rw [show (nats ls).take ls.length = nats ls by rw [← hnl, List.take_length]] at hB3 ⊢
    generalize hLe : nats ls = L at *
    have hcl : ∀ n, cnt L n ≤ 288 := fun n => by have := cnt_le L n; omega
    refine k_exit rfl ?_
    refine k_seq ?_
    refine k_region ?_
    refine m_int rfl rfl ?_
    refine o_nil ?_
    refine k_seq ?_
    refine k_seq ?_
    refine k_region ?_
    refine m_int rfl rfl ?_
    refine o_nil ?_
    refine k_block ?_
    refine k_loop (σ := Nat) (fun m => [(0, .slice a ls.length c), (1, .bool lone), (6, .pointer (some ⟨bc, 0, none⟩)), (7, .int .i64 (used L : Int)), (10, .int .u32 ((BitVec.ofNat 32 (32768 - kr L (m - 1))).toNat : Int)), (11, .int .i64 (m : Int))]) (fun m w' => 1 ≤ m ∧ m ≤ 16 ∧ kr L (m - 1) ≤ 32768 ∧ w' = w3) (fun m => 16 - m) 1 ⟨rfl, rfl, rfl, rfl, rfl, rfl, trivial⟩ ⟨by omega, by omega, by show kr L 0 ≤ 32768; exact Nat.zero_le _, rfl⟩ (fun m e w4 hJ => ?_)
    obtain ⟨hm1, hm16, hkr, rfl⟩ := hJ
    refine k_seq ?_
    refine k_seq ?_
    refine k_region ?_
    refine m_int rfl rfl ?_
    refine b_leq rfl rfl ?_
    refine o_nil ?_
    refine k_cond rfl (fun h => ?_) (fun h => ?_)
    rotate_left
    ·
      obtain rfl : m = 16 := by omega
      simp only [show 16 - 1 = 15 from rfl] at hkr ⊢
      refine k_exit rfl ?_
      refine k_seq ?_
      refine k_seq ?_
      refine k_cut (σ := Unit) (fun _ => [(0, .slice a ls.length c), (6, .pointer (some ⟨bc, 0, none⟩)), (79, .bool (decide (¬ Fit L lone)))]) (fun _ w' => w' = w4) ?_ (fun _ e w5 hJ => ?_)
      ·
        refine k_region ?_
        refine m_int rfl rfl ?_
        refine b_gtr rfl rfl ?_
        refine m_bool rfl rfl ?_
        refine o_split (t := 63) rfl (fun h => ?_) (fun h => ?_)
        ·
          rw [tn32 _ (by omega)] at h
          have h63 : kr L 15 < 32768 := by omega
          refine g_yes rfl rfl ?_
          refine m_bool rfl rfl ?_
          refine g_yes rfl rfl ?_
          refine m_bool rfl rfl ?_
          refine o_split (t := 65) (p := lone = true) (by show Value.bool lone = _; simp) (fun h65 => ?_) (fun h65 => ?_)
          ·
            refine g_yes rfl rfl ?_
            refine m_int rfl rfl ?_
            refine g_yes rfl rfl ?_
            refine b_eql rfl rfl ?_
            refine g_yes rfl rfl ?_
            refine m_bool rfl rfl ?_
            refine o_split (t := 68) rfl (fun h => ?_) (fun h => ?_)
            ·
              have h68 := h
              refine g_no rfl rfl rfl ?_
              refine g_no rfl rfl rfl ?_
              refine g_no rfl rfl rfl ?_
              refine g_un rfl rfl ?_
              refine g_un rfl rfl ?_
              refine g_un rfl rfl ?_
              refine g_no rfl rfl rfl ?_
              refine g_yes rfl rfl ?_
              refine pick_t rfl rfl ?_
              refine g_yes rfl rfl ?_
              refine pick_t rfl rfl ?_
              refine g_yes rfl rfl ?_
              refine u_notb rfl ?_
              refine pick_t rfl rfl ?_
              refine o_nil ?_
              refine k_goal ⟨(), ⟨rfl, rfl, congrArg Value.bool ?_, trivial⟩, rfl⟩
              symm
              exact decide_eq_false (fun hh => hh (.inr ⟨h65, .inl (by omega)⟩))
            ·
              have h68 := h
              refine g_yes rfl rfl ?_
              refine m_int rfl rfl ?_
              refine g_yes rfl rfl ?_
              refine b_eql rfl rfl ?_
              refine g_yes rfl rfl ?_
              refine m_bool rfl rfl ?_
              refine o_split (t := 71) rfl (fun h => ?_) (fun h => ?_)
              ·
                have h71 := h
                refine g_yes rfl rfl ?_
                refine o_ixa1 (m := 1) Tryd.underlying108 rfl rfl rfl (by omega) ?_
                refine g_yes rfl rfl ?_
                refine o_ld rfl rfl (hB3.at (by exact arrU_at _ 17 1 (by omega))) ?_
                refine g_yes rfl rfl ?_
                refine v32_eql (b := 1#32) rfl rfl ?_
                have h74 : (BitVec.ofNat 32 (cnt L 1) = 1#32) ↔ cnt L 1 = 1 := ⟨fun h => by have := congrArg BitVec.toNat h; rw [tn32 _ (by have := hcl 1; omega)] at this; exact this, fun h => by rw [h]⟩
                refine g_yes rfl rfl ?_
                refine pick_t rfl rfl ?_
                refine g_yes rfl rfl ?_
                refine pick_f rfl rfl ?_
                refine g_yes rfl rfl ?_
                refine pick_t rfl rfl ?_
                refine g_yes rfl rfl ?_
                refine u_notb rfl ?_
                refine pick_t rfl rfl ?_
                refine o_nil ?_
                refine k_goal ⟨(), ⟨rfl, rfl, congrArg Value.bool ?_, trivial⟩, rfl⟩
                rw [← decide_not]
                refine decide_eq_decide.2 ⟨fun h hF => ?_, fun h hc => h (.inr ⟨h65, .inr ⟨by omega, h74.1 hc⟩⟩)⟩
                rcases hF with hF | ⟨_, hF | ⟨_, hF⟩⟩
                · omega
                · exact h68 (by omega)
                · exact h (h74.2 hF)
              ·
                have h71 := h
                refine g_no rfl rfl rfl ?_
                refine g_no rfl rfl rfl ?_
                refine g_no rfl rfl rfl ?_
                refine g_yes rfl rfl ?_
                refine pick_f rfl rfl ?_
                refine g_yes rfl rfl ?_
                refine pick_f rfl rfl ?_
                refine g_yes rfl rfl ?_
                refine pick_t rfl rfl ?_
                refine g_yes rfl rfl ?_
                refine u_notb rfl ?_
                refine pick_t rfl rfl ?_
                refine o_nil ?_
                refine k_goal ⟨(), ⟨rfl, rfl, congrArg Value.bool ?_, trivial⟩, rfl⟩
                symm
                refine decide_eq_true (fun hF => ?_)
                rcases hF with hF | ⟨_, hF | ⟨hF, _⟩⟩
                · omega
                · exact h68 (by omega)
                · exact h71 (by omega)
          ·
            refine g_no rfl rfl rfl ?_
            refine g_no rfl rfl rfl ?_
            refine g_no rfl rfl rfl ?_
            refine g_un rfl rfl ?_
            refine g_un rfl rfl ?_
            refine g_un rfl rfl ?_
            refine g_un rfl rfl ?_
            refine g_un rfl rfl ?_
            refine g_un rfl rfl ?_
            refine g_un rfl rfl ?_
            refine g_no rfl rfl rfl ?_
            refine g_yes rfl rfl ?_
            refine pick_f rfl rfl ?_
            refine g_yes rfl rfl ?_
            refine u_notb rfl ?_
            refine pick_t rfl rfl ?_
            refine o_nil ?_
            refine k_goal ⟨(), ⟨rfl, rfl, congrArg Value.bool ?_, trivial⟩, rfl⟩
            symm
            refine decide_eq_true (fun hF => ?_)
            rcases hF with hF | ⟨hF, _⟩
            · omega
            · exact h65 hF
        ·
          rw [tn32 _ (by omega)] at h
          have h63 : kr L 15 = 32768 := by omega
          refine g_no rfl rfl rfl ?_
          refine g_no rfl rfl rfl ?_
          refine g_un rfl rfl ?_
          refine g_un rfl rfl ?_
          refine g_un rfl rfl ?_
          refine g_un rfl rfl ?_
          refine g_un rfl rfl ?_
          refine g_un rfl rfl ?_
          refine g_un rfl rfl ?_
          refine g_un rfl rfl ?_
          refine g_un rfl rfl ?_
          refine g_un rfl rfl ?_
          refine g_un rfl rfl ?_
          refine g_no rfl rfl rfl ?_
          refine g_no rfl rfl rfl ?_
          refine pick_f rfl rfl ?_
          refine o_nil ?_
          refine k_goal ⟨(), ⟨rfl, rfl, congrArg Value.bool ?_, trivial⟩, rfl⟩
          symm
          exact decide_eq_false (fun hh => hh (.inl h63))
      subst hJ
      refine k_cond rfl (fun h => ?_) (fun h => ?_)
      ·
        refine k_seq ?_
        refine k_region ?_
        refine m_ptr rfl rfl ?_
        refine m_int rfl rfl ?_
        refine o_nil ?_
        refine k_ret (ret_tmps (ts := [4, 5]) (v := .tuple #[.pointer _, .int _ _]) rfl rfl ?_)
        exact ⟨hk3, .inr (.inl ⟨hokL, by rw [hLe]; exact h, rfl⟩)⟩
      have hFit : Fit L lone := Decidable.not_not.1 h
      have hk15 := hFit.le hL15
      have hfb : ∀ i n, i ≤ L.length → n ≤ 15 → fst L n + cnt (L.take i) n < 65536 := fun i n hi hn => by have := fst_lt15 hk15 n hn; have := cnt_pre L i n hi; omega
      refine k_skip ?_
      refine k_seq ?_
      refine k_region ?_
      refine o_mkmap kvw (fun rs w6 hM6 hK6 hb6 hZ6 => ?_)
      refine o_mkmap (Value.int .i64) (fun rw w7 hN7 hK7 hb7 hZ7 => ?_)
      have hM7 := hM6.keep hK7 (by simp)
      refine o_build (v := .agg #[.map (some rs), .map (some rw), .int .u8 0]) rfl (fun _ => by kernel_rfl) ?_
      refine o_box rfl rfl (fun rc w8 hC8 hK8 hb8 hZ8 => ?_)
      have hk8 := ((hk3.tr hK6).tr hK7).tr hK8
      refine m_ptr rfl rfl ?_
      refine o_nil ?_
      refine k_seq ?_
      refine k_region ?_
      refine o_alloc (cs := arrU (fun _ => 0) 16) ⟨_, rfl, rfl, rfl, rfl⟩ rfl (fun bn w9 hB9 hK9 hb9 hZ9 => ?_)
      have hk9 := hk8.tr hK9
      have hC9 : Blk w9 rc #[.map (some rs), .map (some rw), .int .u8 ((BitVec.ofNat 8 (mostL (L.take 0))).toNat : Int)] 112 := by rw [List.take_zero]; exact hC8.keep hK9 (by simp)
      have hM9 := (hM7.keep hK8 (by simp)).keep hK9 (by simp)
      have hN9 := (hN7.keep hK8 (by simp)).keep hK9 (by simp)
      have hB9' : Blk w9 bc (arrU (cnt L) 17) 108 := hB3.keep (((hK6.tr hK7).tr hK8).tr hK9) (by simp)
      have hwrs : w.heap.size ≤ rs := by have := hk3.size; omega
      have hwrw : w.heap.size ≤ rw := by have := hk3.size; omega
      have hwrc : w.heap.size ≤ rc := by have := hk3.size; omega
      have hwbn : w.heap.size ≤ bn := by have := hk3.size; omega
      have hrsw : rs ≠ rw := by omega
      have hcn : rc ≠ bn := by omega
      have hbcn : bc ≠ bn := by have := hB3.lt; omega
      refine o_nil ?_
      refine k_seq ?_
      refine k_seq ?_
      refine k_region ?_
      refine m_int rfl rfl ?_
      refine o_nil ?_
      refine k_block ?_
      refine k_loop (σ := Nat) (fun m => [(0, .slice a ls.length c), (6, .pointer (some ⟨bc, 0, none⟩)), (13, .pointer (some ⟨rc, 0, none⟩)), (14, .pointer (some ⟨bn, 0, none⟩)), (15, .int .i64 (m : Int))]) (fun m w' => 1 ≤ m ∧ m ≤ 16 ∧ Blk w' bn (arrU (fun j => if j < m then fst L j else 0) 16) 113 ∧ Keep [bn] w9 w') (fun m => 16 - m) 1 ⟨rfl, rfl, rfl, rfl, rfl, trivial⟩ ⟨by omega, by omega, ?_, Keep.refl _ _⟩ (fun m e w10 hJ => ?_)
      · rw [arrU_congr 16 (g := fun _ => 0) (fun j hj => by split <;> first | rfl | (have : j = 0 := by omega); subst this; rfl)]
        exact hB9
      obtain ⟨hm1, hm16, hB10, hK10⟩ := hJ
      refine k_seq ?_
      refine k_seq ?_
      refine k_region ?_
      refine m_int rfl rfl ?_
      refine b_leq rfl rfl ?_
      refine o_nil ?_
      refine k_cond rfl (fun h => ?_) (fun h => ?_)
      rotate_left
      ·
        obtain rfl : m = 16 := by omega
        have hB10' : Blk w10 bn (arrU (fun j => fst L j + cnt (L.take 0) j) 16) 113 := by
         rw [arrU_congr 16 (g := fun j => if j < 16 then fst L j else 0) (fun j hj => by rw [List.take_zero, if_pos hj]; rfl)]
         exact hB10
        refine k_exit rfl ?_
        refine k_seq ?_
        refine k_seq ?_
        refine k_region ?_
        refine m_sl rfl rfl ?_
        refine o_lens Tryd.underlying74 rfl ?_
        refine m_int rfl rfl ?_
        refine o_nil ?_
        refine k_block ?_
        refine k_loop (σ := Nat × List ((BitVec 8 × BitVec 16) × Value) × List (Int × Value)) (fun s => [(13, .pointer (some ⟨rc, 0, none⟩)), (14, .pointer (some ⟨bn, 0, none⟩)), (102, .slice a ls.length c), (103, .int .i64 (ls.length : Int)), (104, .int .i64 (s.1 : Int))]) (fun s w' => s.1 ≤ ls.length ∧ Blk w' bn (arrU (fun j => fst L j + cnt (L.take s.1) j) 16) 113 ∧ Blk w' rc #[.map (some rs), .map (some rw), .int .u8 ((BitVec.ofNat 8 (mostL (L.take s.1))).toNat : Int)] 112 ∧ Mp w' rs kvw s.2.1 ∧ Mp w' rw (Value.int .i64) s.2.2 ∧ SM L s.1 s.2.1 ∧ WM L s.1 s.2.2 ∧ Keep [] w w') (fun s => ls.length - s.1) (0, [], []) ⟨rfl, rfl, rfl, rfl, rfl, trivial⟩ ⟨by simp, hB10', hC9.keep hK10 (by simpa using hcn), hM9.keep hK10 (by simp; omega), hN9.keep hK10 (by simp; omega), SM.nil L, WM.nil L, hk9.tr1 hK10 hwbn⟩ (fun s e w11 hJ => ?_)
        obtain ⟨i, sm, wm⟩ := s
        obtain ⟨hi, hB11, hC11, hM11, hN11, hS11, hW11, hk11⟩ := hJ
        simp only at hi hB11 hC11 hM11 hN11 hS11 hW11
        refine k_seq ?_
        refine k_region ?_
        refine b_lss rfl rfl ?_
        refine o_nil ?_
        refine k_seq ?_
        refine k_cond rfl (fun h => ?_) (fun h => ?_)
        rotate_left
        ·
          refine k_exit rfl ?_
          refine k_seq ?_
          refine k_region ?_
          refine m_ptr rfl rfl ?_
          refine m_ptr rfl rfl ?_
          refine m_int rfl rfl ?_
          refine o_nil ?_
          refine k_ret (ret_tmps (ts := [4, 5]) (v := .tuple #[.pointer _, .int _ _]) rfl rfl ?_)
          obtain rfl : i = ls.length := by omega
          refine ⟨hk11, .inr (.inr ⟨hokL, hLe ▸ hFit, rc, rfl, ?_⟩)⟩
          rw [← hnl] at hS11 hW11 hC11
          rw [List.take_length] at hC11
          rw [hLe]
          exact ⟨rs, rw, sm, wm, hC11, hM11, hN11, hS11, hW11, hL15, hk15, by omega⟩
        have hil : i < ls.length := by omega
        obtain ⟨b1, o1, rfl, _⟩ := hR.at i (by simpa using hil)
        have hin : i < L.length := by omega
        have hat : L[i] = ls[i].toNat := by
         have := nats_at ls i hil
         simp only [hLe] at this
         exact this
        obtain ⟨x, hx⟩ : ∃ x : Nat, ls[i] = x := ⟨ls[i].toNat, by have := hok i hil hil; omega⟩
        have hx15 : x ≤ 15 := by have := hok i hil hil; omega
        have hLx : L[i] = x := by rw [hat, hx]; rfl
        refine k_skip ?_
        refine k_seq ?_
        refine k_block ?_
        refine k_seq ?_
        refine k_region ?_
        refine m_int rfl rfl ?_
        refine o_ixs1 Tryd.underlying74 rfl rfl rfl hil ?_
        refine o_ld rfl rfl (hR.cellK hk11 (iv_at ls i hil)) ?_
        rw [hx]
        refine m_int rfl rfl ?_
        refine m_int rfl rfl ?_
        refine o_nil ?_
        refine k_seq ?_
        refine k_seq ?_
        refine k_region ?_
        refine m_int rfl rfl ?_
        refine b_eql rfl rfl ?_
        refine o_nil ?_
        refine k_cond rfl (fun h => ?_) (fun h => ?_)
        ·
          obtain rfl : x = 0 := by omega
          refine k_exit rfl ?_
          refine k_region ?_
          refine n_add rfl rfl (by omega) ?_
          refine m_int rfl rfl ?_
          refine o_nil ?_
          refine k_goal ⟨(i + 1, sm, wm), ⟨rfl, rfl, rfl, rfl, rfl, trivial⟩, ⟨by simp only; omega, ?_, ?_, hM11, hN11, hS11.skip hin hLx, hW11.skip hin hLx, hk11⟩, by simp only; omega⟩
          · rw [arrU_congr 16 (g := fun j => fst L j + cnt (L.take i) j) (fun j hj => by rw [cnt_take L i j hin, hLx, if_neg (by omega)]; rfl)]
            exact hB11
          · rw [most_take L i hin, hLx, show max (mostL (L.take i)) 0 = mostL (L.take i) by omega]
            exact hC11
        have hx0 : x ≠ 0 := by omega
        have hyb := hfb i x (by omega) hx15
        refine k_skip ?_
        refine k_seq ?_
        refine k_region ?_
        refine m_int rfl rfl ?_
        refine cv8 rfl Tryd.underlying5 rfl ?_
        rw [BitVec.ofInt_natCast]
        refine m_int rfl rfl ?_
        refine o_ixa1 (m := x) Tryd.underlying113 rfl rfl rfl (by omega) ?_
        refine o_ld rfl rfl (hB11.at (by rw [Nat.zero_add]; exact arrU_at _ 16 x (by omega))) ?_
        refine cv32_16 rfl Tryd.underlying114 rfl ?_
        rw [cut16]
        refine o_build (v := .agg #[.int .u8 ((BitVec.ofNat 8 x).toNat : Int), .int .u16 ((BitVec.ofNat 16 (fst L x + cnt (L.take i) x)).toNat : Int)]) rfl (fun _ => by kernel_rfl) ?_
        refine o_alloc (cs := #[.int .u8 0, .int .u16 0]) inf116 rfl (fun bw w12 hB12 hK12 hb12 hZ12 => ?_)
        refine o_sta (xs := [.int .u8 ((BitVec.ofNat 8 x).toNat : Int), .int .u16 ((BitVec.ofNat 16 (fst L x + cnt (L.take i) x)).toNat : Int)]) rfl rfl rfl (by intro u hu; simp at hu; rcases hu with rfl | rfl <;> rfl) hB12 (by simp) (fun w13 hB13 hK13 hZ13 => ?_)
        have hk1113 : Keep [] w11 w13 := hK12.tr1 hK13 (by omega)
        have hB13 : Blk w13 bw #[.int .u8 ((BitVec.ofNat 8 x).toNat : Int), .int .u16 ((BitVec.ofNat 16 (fst L x + cnt (L.take i) x)).toNat : Int)] 116 := hB13
        have hbwn : bw ≠ bn := by have := hB11.lt; omega
        have hN13 := hB11.keep hk1113 (by simp)
        refine o_nil ?_
        refine k_seq ?_
        refine k_region ?_
        refine m_int rfl rfl ?_
        refine o_ixa1 (m := x) Tryd.underlying113 rfl rfl rfl (by omega) ?_
        refine o_ld rfl rfl (hN13.at (by rw [Nat.zero_add]; exact arrU_at _ 16 x (by omega))) ?_
        refine v32_add (b := 1#32) rfl rfl ?_
        refine o_ixa1 (m := x) Tryd.underlying113 rfl rfl rfl (by omega) ?_
        rw [show (1#32 : BitVec 32) = BitVec.ofNat 32 1 from rfl, add32]
        refine o_st (v := .int _ _) rfl rfl rfl rfl hN13 (by rw [arrU_size]; omega) (fun w14 hB14 hK14 hZ14 => ?_)
        rw [Nat.zero_add, arrU_set _ 16 x _ (by omega)] at hB14
        have hk14 := (hk11.tr hk1113).tr1 hK14 hwbn
        have hC14 := (hC11.keep hk1113 (by simp)).keep hK14 (by simpa using hcn)
        have hW14 := hB13.keep hK14 (by simpa using hbwn)
        have hM14 := (hM11.keep hk1113 (by simp)).keep hK14 (by simp; omega)
        have hN14 := (hN11.keep hk1113 (by simp)).keep hK14 (by simp; omega)
        obtain ⟨es1, c1, hh1, he1, hbn1⟩ := hM14.obj
        obtain ⟨es2, c2, hh2, he2, hbn2⟩ := hN14.obj
        have hqn := hS11.new (by rw [getD_at hin, hLx]; exact hx15) (by rw [getD_at hin, hLx]; exact hyb)
        rw [getD_at hin, hLx] at hqn
        have hwn := hW11.new
        have hrc1 : rc ∉ [rs, rw] := by have h1 := hM14.blk hC14; have h2 := hN14.blk hC14; simp; exact ⟨h1, h2⟩
        have hbw1 : bw ∉ [rs, rw] := by have h1 := hM14.blk hW14; have h2 := hN14.blk hW14; simp; exact ⟨h1, h2⟩
        refine o_nil ?_
        refine k_seq ?_
        refine k_stage 17 [12, 14, 15] (fun s w' => Keep [rs, rw] w14 w' ∧ w'.heap[rs]? = some (if s = 0 then .map es1 c1 else if s = 1 then .map (es1.push ⟨kvw (BitVec.ofNat 8 x, BitVec.ofNat 16 (fst L x + cnt (L.take i) x)), .int .i64 0, c1⟩) (c1 + 1) else .map (es1.push ⟨kvw (BitVec.ofNat 8 x, BitVec.ofNat 16 (fst L x + cnt (L.take i) x)), .int .i64 (i : Int), c1⟩) (c1 + 1)) ∧ w'.heap[rw]? = some (if s ≤ 2 then .map es2 c2 else .map (es2.push ⟨.int .i64 (i : Int), .agg #[.int .u8 0, .int .u16 0], c2⟩) (c2 + 1))) rfl rfl rfl rfl rfl rfl rfl rfl ⟨(Keep.refl _ _).drew, hh1, hh2⟩ ?_
        refine s_step 0 0 rfl rfl rfl (fun s1 w1 h1 h2 hC => m_ptr rfl rfl (o_nil ⟨rfl, hC⟩)) ?_
        refine s_step 0 0 rfl rfl rfl (fun s1 w1 h1 h2 hC => o_nilc rfl (o_nil ⟨rfl, hC⟩)) ?_
        refine s_step 0 0 rfl rfl rfl (fun s1 w1 h1 h2 hC => o_fld0 rfl rfl (o_nil ⟨rfl, hC⟩)) ?_
        refine s_step 0 0 rfl rfl rfl (fun s1 w1 h1 h2 hC => o_ld rfl rfl ((hC14.keep hC.1 hrc1).at rfl) (o_nil ⟨rfl, hC⟩)) ?_
        refine s_step 0 0 rfl rfl rfl (fun s1 w1 h1 h2 hC => o_lda (xs := [.int .u8 ((BitVec.ofNat 8 x).toNat : Int), .int .u16 ((BitVec.ofNat 16 (fst L x + cnt (L.take i) x)).toNat : Int)]) rfl rfl rfl (fun j u hj => (hW14.keep hC.1 hbw1).at (by rw [Nat.zero_add]; simpa using hj)) (o_nil ⟨rfl, hC⟩)) ?_
        refine s_step 0 0 rfl rfl rfl (fun s1 w1 h1 h2 hC => m_ptr rfl rfl (o_nil ⟨rfl, hC⟩)) ?_
        refine s_step 0 0 rfl rfl rfl (fun s1 w1 h1 h2 hC => o_nilc rfl (o_nil ⟨rfl, hC⟩)) ?_
        refine s_step 0 0 rfl rfl rfl (fun s1 w1 h1 h2 hC => o_fld (off := 1) rfl rfl (o_nil ⟨rfl, hC⟩)) ?_
        refine s_step 0 0 rfl rfl rfl (fun s1 w1 h1 h2 hC => o_ld rfl rfl ((hC14.keep hC.1 hrc1).at rfl) (o_nil ⟨rfl, hC⟩)) ?_
        refine s_step 0 2 rfl rfl rfl (fun s1 w1 h1 h2 hC => m_int rfl rfl (o_nil ⟨rfl, hC⟩)) ?_
        refine s_step 0 1 rfl rfl rfl (fun s1 w1 h1 h2 hC => m_int rfl rfl (o_nil ⟨rfl, hC⟩)) ?_
        refine s_step 0 3 rfl rfl rfl (fun s1 w1 h1 h2 hC => o_lda (xs := [.int .u8 ((BitVec.ofNat 8 x).toNat : Int), .int .u16 ((BitVec.ofNat 16 (fst L x + cnt (L.take i) x)).toNat : Int)]) rfl rfl rfl (fun j u hj => (hW14.keep hC.1 hbw1).at (by rw [Nat.zero_add]; simpa using hj)) (o_nil ⟨rfl, hC⟩)) ?_
        refine s_loud rfl (fun w1 hC => o_mentry (q := (BitVec.ofNat 8 x, BitVec.ofNat 16 (fst L x + cnt (L.take i) x))) Tryd.underlying109 key_w inf3 rfl rfl (hC.2.1.trans rfl) he1 hqn (fun w2 hH hK hZ => o_nil ⟨rfl, hC.1.trans hK (by simp), hH, by rw [hK.block rw (by have := (Array.getElem?_eq_some_iff.1 hC.2.2).1; exact this) (by simpa using fun e => hrsw e.symm)]; exact hC.2.2⟩)) ?_
        refine s_step 1 1 rfl rfl rfl (fun s1 w1 h1 h2 hC => o_extr (vs := [.int .i64 0, .int .i64 (c1 : Int)]) rfl rfl (o_nil ⟨rfl, hC⟩)) ?_
        refine s_loud (v := undef) rfl (fun w1 hC => o_estore (kq := kvw (BitVec.ofNat 8 x, BitVec.ofNat 16 (fst L x + cnt (L.take i) x))) (v0 := .int .i64 0) rfl rfl rfl (hC.2.1.trans rfl) hbn1 (fun w2 hH hK hZ => o_nil ⟨rfl, hC.1.trans hK (by simp), hH, by rw [hK.block rw (by have := (Array.getElem?_eq_some_iff.1 hC.2.2).1; exact this) (by simpa using fun e => hrsw e.symm)]; exact hC.2.2⟩)) ?_
        refine s_loud rfl (fun w1 hC => o_mentry (kv := Value.int .i64) (q := (i : Int)) Tryd.underlying110 (key_int Tryd.underlying3) inf116 rfl rfl (hC.2.2.trans rfl) he2 hwn (fun w2 hH hK hZ => o_nil ⟨rfl, hC.1.trans hK (by simp), by rw [hK.block rs (by have := (Array.getElem?_eq_some_iff.1 hC.2.1).1; exact this) (by simpa using hrsw)]; exact hC.2.1, hH⟩)) ?_
        refine s_step 3 3 rfl rfl rfl (fun s1 w1 h1 h2 hC => o_extr (vs := [.agg #[.int .u8 0, .int .u16 0], .int .i64 (c2 : Int)]) rfl rfl (o_nil ⟨rfl, hC⟩)) ?_
        refine s_nil ?_
        intro w15 hC15
        obtain ⟨hK15, hH15, hG15⟩ := hC15
        refine o_estore (kq := .int .i64 (i : Int)) (v0 := .agg #[.int .u8 0, .int .u16 0]) rfl rfl rfl (hG15.trans rfl) hbn2 (fun w16 hG16 hK16 hZ16 => ?_)
        have hK1416 : Keep [rs, rw] w14 w16 := hK15.trans hK16 (by simp)
        have hH16 : w16.heap[rs]? = some (.map (es1.push ⟨kvw (BitVec.ofNat 8 x, BitVec.ofNat 16 (fst L x + cnt (L.take i) x)), .int .i64 (i : Int), c1⟩) (c1 + 1)) := by
         rw [hK16.block rs (Array.getElem?_eq_some_iff.1 hH15).1 (by simpa using hrsw)]; exact hH15
        have hM16 := mp_push hH16 he1 hbn1 hqn
        have hN16 := mp_push (kv := Value.int .i64) (q := (i : Int)) hG16 he2 hbn2 hwn
        have hC16 := hC14.keep hK1416 hrc1
        have hW16 := hW14.keep hK1416 hbw1
        have hk16 : Keep [] w w16 := hk14.trans hK1416 (by intro b hb hl; simp at hb; omega)
        have hbn14 : bn ∉ [rs, rw] := by have h1 := hM14.blk hB14; have h2 := hN14.blk hB14; simp; exact ⟨h1, h2⟩
        have hA16 := hB14.keep hK1416 hbn14
        have hmo : mostL (L.take i) < 256 := by
         have := most_15 (L.take i) (fun y hy => hL15 y (List.mem_of_mem_take hy))
         omega
        refine o_nil ?_
        refine k_qk 8 rfl rfl rfl rfl rfl ?_
        refine q_step (fun w1 hC => m_ptr rfl rfl (o_nil ⟨rfl, hC⟩)) ?_
        refine q_step (fun w1 hC => m_ptr rfl rfl (o_nil ⟨rfl, hC⟩)) ?_
        refine q_step (fun w1 hC => o_nilc rfl (o_nil ⟨rfl, hC⟩)) ?_
        refine q_step (fun w1 hC => o_fld (off := 2) rfl rfl (o_nil ⟨rfl, hC⟩)) ?_
        refine q_step (fun w1 hC => o_ld rfl rfl (hC16.kat hC rfl) (o_nil ⟨rfl, hC⟩)) ?_
        refine q_step (fun w1 hC => o_fld0 rfl rfl (o_nil ⟨rfl, hC⟩)) ?_
        refine q_step (fun w1 hC => o_ld rfl rfl (hW16.kat hC rfl) (o_nil ⟨rfl, hC⟩)) ?_
        refine q_step (fun w1 hC => o_max rfl rfl (o_nil ⟨rfl, hC⟩)) ?_
        rw [max8 _ _ hmo (by omega)]
        refine q_nil ?_
        intro w17 hC17
        refine o_nilc rfl ?_
        refine o_fld (off := 2) rfl rfl ?_
        refine o_st (v := .int _ _) rfl rfl rfl rfl (hC16.keep hC17 (by simp)) (by simp) (fun w18 hB18 hK18 hZ18 => ?_)
        refine o_nil ?_
        refine k_blk ?_
        refine k_region ?_
        refine n_add rfl rfl (by omega) ?_
        refine m_int rfl rfl ?_
        refine o_nil ?_
        refine k_goal ⟨(i + 1, _, _), ⟨rfl, rfl, rfl, rfl, rfl, trivial⟩, ⟨by simp only; omega, ?_, ?_, (hM16.keep hC17 (by simp)).keep hK18 ?_, (hN16.keep hC17 (by simp)).keep hK18 ?_, ?_, ?_, (hk16.tr hC17).tr1 hK18 hwrc⟩, by simp only; omega⟩
        · rw [arrU_congr 16 (g := fun j => if j = x then fst L x + cnt (L.take i) x + 1 else fst L j + cnt (L.take i) j) ?_]
          · exact (hA16.keep hC17 (by simp)).keep hK18 (by simpa using fun e => hcn e.symm)
          · intro j hj
            rw [cnt_take L i j hin, hLx]
            by_cases hjx : j = x
            · subst hjx
              rw [if_pos ⟨rfl, hx0⟩, if_pos rfl]; rfl
            · rw [if_neg (fun hh => hjx hh.1.symm), if_neg hjx]; rfl
        · rw [most_take L i hin, hLx]
          exact hB18
        · have := hM14.blk hC14; simpa using fun e => this e.symm
        · have := hN14.blk hC14; simpa using fun e => this e.symm
        · have := hS11.put hin (by rw [hLx]; exact hx0) (by rw [hLx]; exact hx15) (by rw [hLx]; exact hyb)
          simp only [hLx] at this
          exact this
        · have := hW11.put hin (by rw [hLx]; exact hx0)
          unfold wcell at this
          rw [getD_at hin, hLx] at this
          exact this
      have hm15 : m ≤ 15 := by omega
      refine k_skip ?_
      refine k_seq ?_
      refine k_block ?_
      refine k_seq ?_
      refine k_region ?_
      refine m_int rfl rfl ?_
      refine b_gtr rfl rfl ?_
      refine o_nil ?_
      refine k_cond rfl (fun h => ?_) (fun h => ?_)
      ·
        have hm2 : 2 ≤ m := by omega
        have ecast : ((m : Int) - 1) = ((m - 1 : Nat) : Int) := by omega
        refine k_qk 11 rfl rfl rfl rfl rfl ?_
        refine q_step (fun w1 hC => m_int rfl rfl (o_nil ⟨rfl, hC⟩)) ?_
        refine q_step (fun w1 hC => m_int rfl rfl (o_nil ⟨rfl, hC⟩)) ?_
        refine q_step (fun w1 hC => n_sub rfl rfl (by omega) (o_nil ⟨rfl, hC⟩)) ?_
        rw [ecast]
        refine q_step (fun w1 hC => o_ixa1 (m := m - 1) Tryd.underlying113 rfl rfl rfl (by omega) (o_nil ⟨rfl, hC⟩)) ?_
        refine q_step (fun w1 hC => o_ld rfl rfl ((hB10.keep hC (by simp)).at (by rw [Nat.zero_add]; exact arrU_at _ 16 (m - 1) (by omega))) (o_nil ⟨rfl, hC⟩)) ?_
        refine q_step (fun w1 hC => m_int rfl rfl (o_nil ⟨rfl, hC⟩)) ?_
        refine q_step (fun w1 hC => n_sub rfl rfl (by omega) (o_nil ⟨rfl, hC⟩)) ?_
        rw [ecast]
        refine q_step (fun w1 hC => o_ixa1 (m := m - 1) Tryd.underlying108 rfl rfl rfl (by omega) (o_nil ⟨rfl, hC⟩)) ?_
        refine q_step (fun w1 hC => o_ld rfl rfl (((hB9'.keep hK10 (by simpa using hbcn)).keep hC (by simp)).at (by rw [Nat.zero_add]; exact arrU_at _ 17 (m - 1) (by omega))) (o_nil ⟨rfl, hC⟩)) ?_
        refine q_step (fun w1 hC => v32_add rfl rfl (o_nil ⟨rfl, hC⟩)) ?_
        refine q_step (fun w1 hC => v32_shln (c := 1) rfl rfl (o_nil ⟨rfl, hC⟩)) ?_
        rw [shl32]
        refine q_nil ?_
        intro w11 hC11
        refine o_ixa1 (m := m) Tryd.underlying113 rfl rfl rfl (by omega) ?_
        refine o_st (v := .int _ _) rfl rfl rfl rfl (hB10.keep hC11 (by simp)) (by rw [arrU_size]; omega) (fun w12 hB12 hK12 hZ12 => ?_)
        rw [Nat.zero_add, arrU_set _ 16 m _ (by omega)] at hB12
        refine o_nil ?_
        refine k_blk ?_
        refine k_region ?_
        refine m_int rfl rfl ?_
        refine n_add rfl rfl (by omega) ?_
        refine m_int rfl rfl ?_
        refine o_nil ?_
        refine k_goal ⟨m + 1, ⟨rfl, rfl, rfl, rfl, rfl, trivial⟩, ⟨by omega, by omega, ?_, (hK10.trans hC11 (by simp)).trans hK12 (fun _ h _ => h)⟩, by omega⟩
        rw [arrU_congr 16 (g := fun j => if j = m then 2 * ((if m - 1 < m then fst L (m - 1) else 0) + cnt L (m - 1)) else if j < m then fst L j else 0) ?_]
        · exact hB12
        · intro j hj
          by_cases hjm : j = m
          · subst hjm
            obtain ⟨q, rfl⟩ : ∃ q, j = q + 1 := ⟨j - 1, by omega⟩
            rw [if_pos (by omega), if_pos rfl, Nat.add_sub_cancel, if_pos (by omega)]; rfl
          · rw [if_neg hjm]
            by_cases hj2 : j < m
            · rw [if_pos hj2, if_pos (by omega)]
            · rw [if_neg hj2, if_neg (by omega)]
      obtain rfl : m = 1 := by omega
      refine k_skip ?_
      refine k_blk ?_
      refine k_region ?_
      refine m_int rfl rfl ?_
      refine n_add rfl rfl (by omega) ?_
      refine m_int rfl rfl ?_
      refine o_nil ?_
      refine k_goal ⟨1 + 1, ⟨rfl, rfl, rfl, rfl, rfl, trivial⟩, ⟨by omega, by omega, ?_, hK10⟩, by omega⟩
      rw [arrU_congr 16 (g := fun j => if j < 1 then fst L j else 0) ?_]
      · exact hB10
      · intro j hj
        by_cases hj0 : j < 1
        · rw [if_pos hj0, if_pos (by omega)]
        · rw [if_neg hj0]
          by_cases hj1 : j < 1 + 1
          · obtain rfl : j = 1 := by omega
            rw [if_pos hj1]; show 2 * (fst L 0 + cnt L 0) = 0; rw [cnt_zero]; rfl
          · rw [if_neg hj1]
    have hm15 : m ≤ 15 := by omega
    refine k_skip ?_
    refine k_seq ?_
    refine k_block ?_
    refine k_seq ?_
    refine k_region ?_
    refine m_int rfl rfl ?_
    refine o_ixa1 (m := m) Tryd.underlying108 rfl rfl rfl (by omega) ?_
    refine o_ld rfl rfl (hB3.at (by rw [Nat.zero_add]; exact arrU_at _ 17 m (by omega))) ?_
    refine m_int rfl rfl ?_
    refine cv64 rfl Tryd.underlying100 rfl ?_
    refine v64_sub (a := 15#64) rfl rfl ?_
    refine v32_shln rfl rfl ?_
    rw [need_bv _ m (hcl m) hm15 hm1]
    have hkm : kr L m = kr L (m - 1) + cnt L m * 2 ^ (15 - m) := by
     obtain ⟨q, rfl⟩ : ∃ q, m = q + 1 := ⟨m - 1, by omega⟩
     rfl
    have hnl := need_lt (cnt L m) m (hcl m) hm1
    refine m_int rfl rfl ?_
    refine o_nil ?_
    refine k_seq ?_
    refine k_seq ?_
    refine k_region ?_
    refine m_int rfl rfl ?_
    refine m_int rfl rfl ?_
    refine b_gtr rfl rfl ?_
    refine o_nil ?_
    refine k_cond rfl (fun h => ?_) (fun h => ?_)
    ·
      rw [tn32 _ hnl, tn32 _ (by omega)] at h
      refine k_seq ?_
      refine k_region ?_
      refine m_ptr rfl rfl ?_
      refine m_int rfl rfl ?_
      refine o_nil ?_
      refine k_ret (ret_tmps (ts := [4, 5]) (v := .tuple #[.pointer _, .int _ _]) rfl rfl ?_)
      exact ⟨hk3, .inr (.inl ⟨hokL, fun hF => by rw [hLe] at hF; have := hF.le hL15; have := kr_le L m hm15; omega, rfl⟩)⟩
    rw [tn32 _ hnl, tn32 _ (by omega)] at h
    refine k_skip ?_
    refine k_region ?_
    refine m_int rfl rfl ?_
    refine m_int rfl rfl ?_
    refine v32_sub rfl rfl ?_
    rw [sub32 _ _ (by omega) (by omega), show 32768 - kr L (m - 1) - cnt L m * 2 ^ (15 - m) = 32768 - kr L (m + 1 - 1) by rw [Nat.add_sub_cancel]; omega]
    refine m_int rfl rfl ?_
    refine o_nil ?_
    refine k_blk ?_
    refine k_region ?_
    refine m_int rfl rfl ?_
    refine n_add rfl rfl (by omega) ?_
    refine m_int rfl rfl ?_
    refine o_nil ?_
    refine k_goal ⟨m + 1, ⟨rfl, rfl, rfl, rfl, rfl, rfl, trivial⟩, ⟨by omega, by omega, by rw [Nat.add_sub_cancel]; omega, rfl⟩, by omega⟩
  have hil : i < ls.length := by omega
  obtain ⟨b1, o1, rfl, _⟩ := hR.at i (by simpa using hil)
  have hin : i < (nats ls).length := by omega
  have hat := nats_at ls i hil
  refine k_skip ?_
  refine k_seq ?_
  refine k_block ?_
  refine k_seq ?_
  refine k_region ?_
  refine o_ixs1 Tryd.underlying74 rfl rfl rfl hil ?_
  refine o_ld rfl rfl (hR.cellK hk3 (iv_at ls i hil)) ?_
  refine m_int rfl rfl ?_
  refine o_nil ?_
  refine k_seq ?_
  refine k_seq ?_
  refine k_region ?_
  refine m_int rfl rfl ?_
  refine b_lss rfl rfl ?_
  refine m_bool rfl rfl ?_
  refine o_split (t := 30) rfl (fun h => ?_) (fun h => ?_)
  ·
    refine g_no rfl rfl rfl ?_
    refine g_no rfl rfl rfl ?_
    refine pick_t rfl rfl ?_
    refine o_nil ?_
    refine k_condt rfl ?_
    refine k_seq ?_
    refine k_region ?_
    refine m_ptr rfl rfl ?_
    refine m_int rfl rfl ?_
    refine o_nil ?_
    refine k_ret (ret_tmps (ts := [4, 5]) (v := .tuple #[.pointer _, .int _ _]) rfl rfl ?_)
    exact ⟨hk3, .inl ⟨fun hh => by have := hh.2 _ (List.getElem_mem hil); omega, rfl⟩⟩
  ·
    refine g_yes rfl rfl ?_
    refine m_int rfl rfl ?_
    refine g_yes rfl rfl ?_
    refine b_gtr rfl rfl ?_
    refine pick_f rfl rfl ?_
    refine o_nil ?_
    refine k_cond rfl (fun h => ?_) (fun h => ?_)
    ·
      refine k_seq ?_
      refine k_region ?_
      refine m_ptr rfl rfl ?_
      refine m_int rfl rfl ?_
      refine o_nil ?_
      refine k_ret (ret_tmps (ts := [4, 5]) (v := .tuple #[.pointer _, .int _ _]) rfl rfl ?_)
      exact ⟨hk3, .inl ⟨fun hh => by have := hh.2 _ (List.getElem_mem hil); omega, rfl⟩⟩
    obtain ⟨x, hx⟩ : ∃ x : Nat, ls[i] = x := ⟨ls[i].toNat, by omega⟩
    have hx15 : x ≤ 15 := by omega
    rw [hx]
    have hLx : (nats ls)[i] = x := by rw [hat, hx]; rfl
    have hok' : ∀ j (hj : j < ls.length), j < i + 1 → 0 ≤ ls[j] ∧ ls[j] ≤ 15 := by
     intro j hj hji
     by_cases hjj : j < i
     · exact hok j hj hjj
     · obtain rfl : j = i := by omega
       omega
    refine k_skip ?_
    refine k_seq ?_
    refine k_region ?_
    refine m_int rfl rfl ?_
    refine b_gtr rfl rfl ?_
    refine o_nil ?_
    refine k_cond rfl (fun h => ?_) (fun h => ?_)
    ·
      refine k_seq ?_
      refine k_region ?_
      refine m_int rfl rfl ?_
      refine o_ixa1 (m := x) Tryd.underlying108 rfl rfl rfl (by omega) ?_
      refine o_ld rfl rfl (hB3.at (by rw [Nat.zero_add]; exact arrU_at _ 17 x (by omega))) ?_
      refine v32_add (b := 1#32) rfl rfl ?_
      refine o_ixa1 (m := x) Tryd.underlying108 rfl rfl rfl (by omega) ?_
      rw [show (1#32 : BitVec 32) = BitVec.ofNat 32 1 from rfl, add32]
      refine o_st (v := .int _ _) rfl rfl rfl rfl hB3 (by rw [arrU_size]; omega) (fun w4 hB4 hK4 hZ4 => ?_)
      rw [Nat.zero_add, arrU_set _ 17 x _ (by omega)] at hB4
      refine o_nil ?_
      refine k_region ?_
      refine m_int rfl rfl ?_
      refine n_add rfl rfl (by omega) ?_
      refine m_int rfl rfl ?_
      refine o_nil ?_
      refine k_blk ?_
      refine k_region ?_
      refine n_add rfl rfl (by omega) ?_
      refine m_int rfl rfl ?_
      refine o_nil ?_
      refine k_goal ⟨i + 1, ⟨rfl, rfl, rfl, ?_, rfl, rfl, rfl, trivial⟩, ⟨by omega, hok', ?_, hk3.tr1 hK4 (by omega)⟩, by omega⟩
      · rw [used_take _ i hin, hLx, if_pos (by omega)]; rfl
      · rw [arrU_congr 17 (g := fun j => if j = x then cnt ((nats ls).take i) x + 1 else cnt ((nats ls).take i) j) ?_]
        · exact hB4
        · intro j hj
          rw [cnt_take _ i j hin, hLx]
          by_cases hjx : j = x
          · subst hjx
            rw [if_pos ⟨rfl, by omega⟩, if_pos rfl]
          · rw [if_neg (fun hh => hjx hh.1.symm), if_neg hjx]; rfl
    refine k_skip ?_
    refine k_blk ?_
    refine k_region ?_
    refine n_add rfl rfl (by omega) ?_
    refine m_int rfl rfl ?_
    refine o_nil ?_
    refine k_goal ⟨i + 1, ⟨rfl, rfl, rfl, ?_, rfl, rfl, rfl, trivial⟩, ⟨by omega, hok', ?_, hk3⟩, by omega⟩
    · rw [used_take _ i hin, hLx, if_neg (by omega)]; rfl
    · rw [arrU_congr 17 (g := cnt ((nats ls).take i)) ?_]
      · exact hB3
      · intro j hj
        rw [cnt_take _ i j hin, hLx, if_neg (by omega)]; rfl
end Go.Proofs.YtiapgmfooclpcaaDoor

/- The walks of prefix.Code's Word and Next. No condition beyond what each contract names. -/
namespace Go.Proofs.YtiapgmfooclpcaaDoor
open Go.RowKit E
set_option linter.unusedVariables false
set_option linter.unusedSimpArgs false
set_option maxRecDepth 100000
attribute [local irreducible] ow qw kw kq cw opW Ret
theorem wd_le (L : List Nat) (s : Int) (hL : ∀ x ∈ L, x ≤ 15) : (wd L s).2 ≤ 15 := by
  unfold wd
  split
  · simp
  · unfold wdN
    split
    · simp
    · simp only
      by_cases h : s.toNat < L.length
      · rw [getD_at h]; exact hL _ (List.getElem_mem h)
      · rw [List.getD_eq_getElem?_getD, List.getElem?_eq_none (by omega)]; simp
theorem wd_lt (L : List Nat) (s : Int) (hL : ∀ x ∈ L, x ≤ 15) (hk : kr L 15 ≤ 32768) : (wd L s).1 < 2 ^ (wd L s).2 := by
  unfold wd
  split
  · simp
  · by_cases h : s.toNat < L.length
    · by_cases h0 : L[s.toNat] = 0
      · rw [wdN_none L _ h h0]; simp
      · rw [wdN_at L _ h h0]
        have := fst_lt hk L[s.toNat] (hL _ (List.getElem_mem h))
        have := cnt_lt L _ h h0
        simp only
        omega
    · rw [wdN_out L _ (by omega)]; simp
theorem wd_lt16 (L : List Nat) (s : Int) (hL : ∀ x ∈ L, x ≤ 15) (hk : kr L 15 ≤ 32768) : (wd L s).1 < 65536 := by
  have h1 := wd_lt L s hL hk
  have : 2 ^ (wd L s).2 ≤ 2 ^ 15 := Nat.pow_le_pow_right (by decide) (wd_le L s hL)
  omega
theorem wm_get {L : List Nat} {wm : List (Int × Value)} (h : WM L L.length wm) (s : Int) : (getM wm s).getD (.agg #[.int .u8 0, .int .u16 0]) = kvw (BitVec.ofNat 8 (wd L s).2, BitVec.ofNat 16 (wd L s).1) := by
  rw [h s]
  by_cases hs : s < 0
  · rw [if_neg (by omega)]
    unfold wd
    rw [if_pos hs]; rfl
  · unfold wd
    rw [if_neg hs]
    by_cases hl : s.toNat < L.length
    · by_cases h0 : L[s.toNat] = 0
      · rw [if_neg (fun hh => hh.2.2 (by rw [getD_at hl]; exact h0)), wdN_none L _ hl h0]; rfl
      · rw [if_pos ⟨by omega, by omega, by rw [getD_at hl]; exact h0⟩, wdN_at L _ hl h0]
        unfold wcell
        rw [getD_at hl]; rfl
    · rw [if_neg (by omega), wdN_out L _ (by omega)]; rfl
theorem word_ok (w : World) (r : Nat) (L : List Nat) (s : Int) (h : CodeP w r L) :
    Ret Tryd.prog 51 [.pointer (some ⟨r, 0, none⟩), .int .i64 s] w (fun v w' => v = .tuple #[.int .i64 ((wd L s).1 : Int), .int .i64 ((wd L s).2 : Int)] ∧ Keep [] w w') := by
  obtain ⟨rs, rw, sm, wm, hB, hM, hN, hS, hW, hL, hk, hl⟩ := h
  refine fn_enter (n := 21) Tryd.func51 rfl rfl (Nat.le_of_ble_eq_true rfl) (fun e => ?_)
  refine k_seq ?_
  refine k_region ?_
  refine m_int rfl rfl ?_
  refine m_int rfl rfl ?_
  refine o_nil ?_
  refine k_seq ?_
  refine k_seq ?_
  refine k_region ?_
  refine m_ptr rfl rfl ?_
  refine b_eqlp Tryd.underlying78 rfl rfl ?_
  refine o_nil ?_
  refine k_no rfl ((by simp)) ?_
  refine k_skip ?_
  refine k_seq ?_
  refine k_region ?_
  refine m_ptr rfl rfl ?_
  refine o_nilc rfl ?_
  refine o_fld (off := 1) rfl rfl ?_
  refine o_ld rfl rfl (hB.at rfl) ?_
  refine m_int rfl rfl ?_
  refine o_look (kv := Value.int .i64) (q := s) Tryd.underlying110 (key_int Tryd.underlying3) inf116 rfl rfl hN (wm_get hW s) ?_
  refine o_alloc (cs := #[.int .u8 0, .int .u16 0]) inf116 rfl (fun b w2 hB2 hK2 hb2 hZ2 => ?_)
  refine o_sta (xs := [.int .u8 ((BitVec.ofNat 8 (wd L s).2).toNat : Int), .int .u16 ((BitVec.ofNat 16 (wd L s).1).toNat : Int)]) rfl rfl rfl (by intro u hu; simp at hu; rcases hu with rfl | rfl <;> rfl) hB2 (by simp) (fun w3 hB3 hK3 hZ3 => ?_)
  have hk3 : Keep [] w w3 := hK2.tr1 hK3 (by omega)
  have hB3 : Blk w3 b #[.int .u8 ((BitVec.ofNat 8 (wd L s).2).toNat : Int), .int .u16 ((BitVec.ofNat 16 (wd L s).1).toNat : Int)] 116 := hB3
  refine o_nil ?_
  refine k_seq ?_
  refine k_qk 7 rfl rfl rfl rfl rfl ?_
  refine q_step (fun w1 hC => o_fld (off := 1) rfl rfl (o_nil ⟨rfl, hC⟩)) ?_
  refine q_step (fun w1 hC => o_ld rfl rfl (hB3.kat hC rfl) (o_nil ⟨rfl, hC⟩)) ?_
  refine q_step (fun w1 hC => cv16_i rfl Tryd.underlying3 rfl (o_nil ⟨rfl, hC⟩)) ?_
  refine q_step (fun w1 hC => o_fld0 rfl rfl (o_nil ⟨rfl, hC⟩)) ?_
  refine q_step (fun w1 hC => o_ld rfl rfl (hB3.kat hC rfl) (o_nil ⟨rfl, hC⟩)) ?_
  refine q_step (fun w1 hC => cv8_i rfl Tryd.underlying3 rfl (o_nil ⟨rfl, hC⟩)) ?_
  refine q_step (fun w1 hC => m_int rfl rfl (o_nil ⟨rfl, hC⟩)) ?_
  refine q_nil ?_
  intro w4 hC4
  refine m_int rfl rfl ?_
  refine o_nil ?_
  refine k_ret (ret_tmps (ts := [4, 5]) (v := .tuple #[.int _ _, .int _ _]) rfl rfl ?_)
  rw [tn16 _ (wd_lt16 L s hL hk), tn8 _ (by have := wd_le L s hL; omega)]
  exact ⟨rfl, hk3.tr hC4⟩
theorem nword (w : World) (s : Int) : Ret Tryd.prog 51 [.pointer none, .int .i64 s] w (fun v w' => v = .tuple #[.int .i64 0, .int .i64 0] ∧ w' = w) := by
  refine fn_enter (n := 21) Tryd.func51 rfl rfl (Nat.le_of_ble_eq_true rfl) (fun e => ?_)
  refine k_seq ?_
  refine k_region ?_
  refine m_int rfl rfl ?_
  refine m_int rfl rfl ?_
  refine o_nil ?_
  refine k_seq ?_
  refine k_seq ?_
  refine k_region ?_
  refine m_ptr rfl rfl ?_
  refine b_eqlp Tryd.underlying78 rfl rfl ?_
  refine o_nil ?_
  refine k_yes rfl (rfl) ?_
  refine k_seq ?_
  refine k_region ?_
  refine m_int rfl rfl ?_
  refine m_int rfl rfl ?_
  refine o_nil ?_
  refine k_ret (ret_tmps (ts := [4, 5]) (v := .tuple #[.int _ _, .int _ _]) rfl rfl ?_)
  exact ⟨rfl, rfl⟩
theorem bit_step (b : Nat) (t : Bool) (h : b < 32768) : (BitVec.ofNat 16 b <<< 1) ||| BitVec.ofInt 16 ((num (fun _ => t) 1 : Nat) : Int) = BitVec.ofNat 16 (2 * b + t.toNat) := by
  apply BitVec.eq_of_toNat_eq
  have e : num (fun _ => t) 1 = t.toNat := by simp [num]
  rw [e, BitVec.toNat_or, BitVec.toNat_shiftLeft, tn16 b (by omega), tn16 _ (by cases t <;> simp <;> omega), BitVec.ofInt_natCast, tn16 _ (by cases t <;> simp)]
  have e2 : b <<< 1 % 2 ^ 16 = b <<< 1 := by rw [Nat.shiftLeft_eq]; omega
  rw [e2, ← Nat.shiftLeft_add_eq_or_of_lt (by cases t <;> simp), Nat.shiftLeft_eq]
  omega
theorem sm_hit {L : List Nat} {sm : List ((BitVec 8 × BitVec 16) × Value)} (h : SM L L.length sm) (n b : Nat) (hn : n < 256) (hb : b < 65536) : getM sm (BitVec.ofNat 8 n, BitVec.ofNat 16 b) = (hit L n b).map (fun s : Nat => Value.int .i64 (s : Int)) := by
  rw [h, tn8 n hn, tn16 b hb, List.take_length]; rfl
theorem hit_get (o : Option Nat) : (o.map (fun s : Nat => Value.int .i64 (s : Int))).getD (.int .i64 0) = .int .i64 ((o.getD 0 : Nat) : Int) := by cases o <;> rfl
theorem num1 (bs : List (BitVec 8)) (p : Nat) : num (fun j => bitAt bs (p + j)) 1 = num (fun _ => bitAt bs p) 1 := num_congr 1 (fun j hj => by have : j = 0 := by omega
                                                                                                                                               subst this; rfl)
/-- the answer of Next in both texts -/
def NxR (T : TypeId) (w : World) (x : Nat) (L : List Nat) (bs : List (BitVec 8)) (p : Nat) (v : Value) (w' : World) : Prop :=
  v = .tuple #[.int .i64 (nx L bs (mostL L) 0 0 p).1, .int .i64 (nx L bs (mostL L) 0 0 p).2.1] ∧ Rdr T w' x bs (nx L bs (mostL L) 0 0 p).2.2 ∧ Keep [x] w w'
theorem NxR.of {T : TypeId} {w w' : World} {x p q : Nat} {L : List Nat} {bs : List (BitVec 8)} {a b : Int} (h : nx L bs (mostL L) 0 0 p = (a, b, q)) (hR : Rdr T w' x bs q) (hK : Keep [x] w w') : NxR T w x L bs p (.tuple #[.int .i64 a, .int .i64 b]) w' := by
  unfold NxR; rw [h]; exact ⟨rfl, hR, hK⟩
theorem next_ok (w : World) (r x : Nat) (L : List Nat) (bs : List (BitVec 8)) (p : Nat) (h : CodeP w r L) (hR : Rdr 156 w x bs p) :
    Ret Tryd.prog 94 [.pointer (some ⟨r, 0, none⟩), .pointer (some ⟨x, 0, none⟩)] w (fun v w' => NxR 156 w x L bs p v w') := by
  obtain ⟨csx, hBx⟩ := hR.blk
  have hxlt := hBx.lt
  have hcode : ∀ w', Keep [x] w w' → CodeP w' r L := fun w' hk => h.kt (Ts := [156]) (k := 0) (hk.t1 (Nat.zero_le _) hBx (by simp)) (by decide)
  obtain ⟨rs, rw, sm, wm, hB, hM, hN, hS, hW, hL, hk, hl⟩ := id h
  have hm15 := most_15 L hL
  refine fn_enter (n := 54) Tryd.func94 rfl rfl (Nat.le_of_ble_eq_true rfl) (fun e => ?_)
  refine k_seq ?_
  refine k_region ?_
  refine m_int rfl rfl ?_
  refine m_int rfl rfl ?_
  refine o_nil ?_
  refine k_seq ?_
  refine k_seq ?_
  refine k_region ?_
  refine m_ptr rfl rfl ?_
  refine b_eqlp Tryd.underlying78 rfl rfl ?_
  refine m_bool rfl rfl ?_
  refine o_false (t := 13) rfl ((by simp)) ?_
  refine g_yes rfl rfl ?_
  refine m_ptr rfl rfl ?_
  refine g_yes rfl rfl ?_
  refine b_eqlp Tryd.underlying139 rfl rfl ?_
  refine pick_f rfl rfl ?_
  refine o_nil ?_
  refine k_no rfl ((by simp)) ?_
  refine k_skip ?_
  refine k_seq ?_
  refine k_region ?_
  refine o_alloc (cs := #[.int .u8 0, .int .u16 0]) inf116 rfl (fun bw w2 hB2 hK2 hb2 hZ2 => ?_)
  have hB2 : Blk w2 bw (#[.int .u8 ((BitVec.ofNat 8 0).toNat : Int), .int .u16 ((BitVec.ofNat 16 0).toNat : Int)]) 116 := hB2
  refine o_nil ?_
  refine k_seq ?_
  refine k_block ?_
  refine k_loop (σ := Nat × Nat × Nat) (fun s => [(0, .pointer (some ⟨r, 0, none⟩)), (1, .pointer (some ⟨x, 0, none⟩)), (6, .pointer (some ⟨bw, 0, none⟩))]) (fun s w' => s.1 ≤ mostL L ∧ s.2.1 < 2 ^ s.1 ∧ Blk w' bw #[.int .u8 ((BitVec.ofNat 8 s.1).toNat : Int), .int .u16 ((BitVec.ofNat 16 s.2.1).toNat : Int)] 116 ∧ Rdr 156 w' x bs s.2.2 ∧ nx L bs (mostL L) 0 0 p = nx L bs (mostL L - s.1) s.1 s.2.1 s.2.2 ∧ Keep [x] w w') (fun s => mostL L - s.1) (0, 0, p) ⟨rfl, rfl, rfl, trivial⟩ ⟨by simp, by simp, hB2, hR.new hK2, rfl, hK2.also⟩ (fun s e w3 hJ => ?_)
  obtain ⟨n, b, p'⟩ := s
  obtain ⟨hn, hb, hB3, hR3, hnx, hK3⟩ := hJ
  simp only at hn hb hB3 hR3 hnx
  have hbw : bw ∉ [x] := by simp; omega
  have hb15 : b < 32768 := by
   have : 2 ^ n ≤ 2 ^ 15 := Nat.pow_le_pow_right (by decide) (by omega)
   omega
  obtain ⟨rs3, rw3, sm3, wm3, hC3, hM3, _, hS3, _, _, _, _⟩ := hcode w3 hK3
  refine k_seq ?_
  refine k_seq ?_
  refine k_qk 6 rfl rfl rfl rfl rfl ?_
  refine q_step (fun w1 hC => o_fld0 rfl rfl (o_nil ⟨rfl, hC⟩)) ?_
  refine q_step (fun w1 hC => o_ld rfl rfl (hB3.kat hC rfl) (o_nil ⟨rfl, hC⟩)) ?_
  refine q_step (fun w1 hC => m_ptr rfl rfl (o_nil ⟨rfl, hC⟩)) ?_
  refine q_step (fun w1 hC => o_nilc rfl (o_nil ⟨rfl, hC⟩)) ?_
  refine q_step (fun w1 hC => o_fld (off := 2) rfl rfl (o_nil ⟨rfl, hC⟩)) ?_
  refine q_step (fun w1 hC => o_ld rfl rfl (hC3.kat hC rfl) (o_nil ⟨rfl, hC⟩)) ?_
  refine q_nil ?_
  intro w4 hC4
  rw [tn8 n (by omega), tn8 _ (by omega)]
  have hR4 := hR3.new hC4
  have hK4 : Keep [x] w w4 := hK3.trans hC4 (by simp)
  have hB4 := hB3.keep hC4 (by simp)
  refine b_lss rfl rfl ?_
  refine o_nil ?_
  refine k_cond rfl (fun h => ?_) (fun h => ?_)
  rotate_left
  ·
    refine k_exit rfl ?_
    refine k_seq ?_
    refine k_region ?_
    refine m_int rfl rfl ?_
    refine m_int rfl rfl ?_
    refine o_nil ?_
    refine k_ret (ret_tmps (ts := [4, 5]) (v := .tuple #[.int _ _, .int _ _]) rfl rfl ?_)
    refine NxR.of ?_ hR4 hK4
    rw [hnx, show mostL L - n = 0 by omega]; rfl
  have hnm : n < mostL L := by omega
  obtain ⟨k', hk'⟩ : ∃ k', mostL L - n = k' + 1 := ⟨mostL L - n - 1, by omega⟩
  have hn14 : b < 2 ^ 14 := by
   have : 2 ^ n ≤ 2 ^ 14 := Nat.pow_le_pow_right (by decide) (by omega)
   omega
  rw [hk'] at hnx
  refine k_skip ?_
  refine k_block ?_
  refine k_seq ?_
  refine k_region ?_
  refine m_ptr rfl rfl ?_
  refine o_call rfl rfl (take_ok w4 x p' bs ((1 : Nat) : Int) hR4) (fun v w5 hv => ?_)
  obtain ⟨rfl, hR5, hK5⟩ := hv
  have hK45 : Keep [x] w w5 := hK4.trans hK5 (fun _ h _ => h)
  have hB5 := hB4.keep hK5 hbw
  have hpl : p' ≤ 8 * bs.length := by obtain ⟨_, _, _, _, hp, _⟩ := hR4; exact hp
  refine m_any rfl rfl ?_
  refine o_extr rfl rfl ?_
  refine o_extr rfl rfl ?_
  refine m_int rfl rfl ?_
  refine m_int rfl rfl ?_
  refine o_nil ?_
  refine k_seq ?_
  refine k_seq ?_
  refine k_region ?_
  refine m_int rfl rfl ?_
  refine b_neq rfl rfl ?_
  refine o_nil ?_
  refine k_cond rfl (fun hx => ?_) (fun hx => ?_)
  ·
    have hsh : 8 * bs.length ≤ p' := by
     by_cases hc : 8 * bs.length ≤ p'
     · exact hc
     · rw [tk_ok (by omega) (by omega)] at hx; exact absurd rfl hx
    rw [tk_short (by omega) (by omega)] at hR5 ⊢
    refine k_seq ?_
    refine k_region ?_
    refine m_int rfl rfl ?_
    refine m_int rfl rfl ?_
    refine m_int rfl rfl ?_
    refine o_nil ?_
    refine k_ret (ret_tmps (ts := [4, 5]) (v := .tuple #[.int _ _, .int _ _]) rfl rfl ?_)
    exact NxR.of (by rw [hnx, nx_short hsh]) hR5 hK45
  have hns : ¬ 8 * bs.length ≤ p' := by
   intro hc
   rw [tk_short (by omega) (by omega)] at hx
   exact hx (by simp)
  rw [tk_ok (by omega) (by omega), num1] at hR5 ⊢
  refine k_skip ?_
  refine k_seq ?_
  refine k_region ?_
  refine o_fld0 rfl rfl ?_
  refine o_ld rfl rfl (hB5.at rfl) ?_
  refine v8_add (b := 1#8) rfl rfl ?_
  rw [show (BitVec.ofNat 8 n + 1#8) = BitVec.ofNat 8 (n + 1) from (BitVec.ofNat_add n 1).symm]
  refine o_fld0 rfl rfl ?_
  refine o_st (v := .int _ _) rfl rfl rfl rfl hB5 (by simp) (fun w6 hB6 hK6 hZ6 => ?_)
  have hK46 : Keep [x] w w6 := hK45.trans hK6 (by intro y hy hl; simp at hy; omega)
  have hR6 := hR5.keep1 hB5 (by omega) (by decide) hK6
  refine o_nil ?_
  refine k_seq ?_
  refine k_region ?_
  refine o_fld (off := 1) rfl rfl ?_
  refine o_ld rfl rfl (hB6.at rfl) ?_
  refine v16_shln (c := 1) rfl rfl ?_
  refine m_int rfl rfl ?_
  refine cv16 rfl Tryd.underlying114 rfl ?_
  refine v16_or rfl rfl ?_
  rw [bit_step b _ hb15]
  refine o_fld (off := 1) rfl rfl ?_
  refine o_st (v := .int _ _) rfl rfl rfl rfl hB6 (by simp) (fun w7 hB7 hK7 hZ7 => ?_)
  have hK47 : Keep [x] w w7 := hK46.trans hK7 (by intro y hy hl; simp at hy; omega)
  have hR7 := hR6.keep1 hB6 (by omega) (by decide) hK7
  have hB7 : Blk w7 bw #[.int .u8 ((BitVec.ofNat 8 (n + 1)).toNat : Int), .int .u16 ((BitVec.ofNat 16 (2 * b + (bitAt bs p').toNat)).toNat : Int)] 116 := hB7
  obtain ⟨rs7, rw7, sm7, wm7, hC7, hM7, _, hS7, _, _, _, _⟩ := hcode w7 hK47
  have hb2 : 2 * b + (bitAt bs p').toNat < 2 ^ (n + 1) := by rw [Nat.pow_succ]; cases bitAt bs p' <;> simp <;> omega
  have hb3 : 2 * b + (bitAt bs p').toNat < 65536 := by cases bitAt bs p' <;> simp <;> omega
  have hhit := sm_hit hS7 (n + 1) _ (by omega) hb3
  refine o_nil ?_
  refine k_seq ?_
  refine k_qk 10 rfl rfl rfl rfl rfl ?_
  refine q_step (fun w1 hC => m_ptr rfl rfl (o_nil ⟨rfl, hC⟩)) ?_
  refine q_step (fun w1 hC => o_nilc rfl (o_nil ⟨rfl, hC⟩)) ?_
  refine q_step (fun w1 hC => o_fld0 rfl rfl (o_nil ⟨rfl, hC⟩)) ?_
  refine q_step (fun w1 hC => o_ld rfl rfl (hC7.kat hC rfl) (o_nil ⟨rfl, hC⟩)) ?_
  refine q_step (fun w1 hC => o_lda (xs := [.int .u8 ((BitVec.ofNat 8 (n + 1)).toNat : Int), .int .u16 ((BitVec.ofNat 16 (2 * b + (bitAt bs p').toNat)).toNat : Int)]) rfl rfl rfl (fun j u hj => hB7.kat hC (by rw [Nat.zero_add]; simpa using hj)) (o_nil ⟨rfl, hC⟩)) ?_
  refine q_step (fun w1 hC => o_lookok (kv := kvw) (q := (BitVec.ofNat 8 (n + 1), BitVec.ofNat 16 (2 * b + (bitAt bs p').toNat))) Tryd.underlying109 key_w inf3 rfl rfl (hM7.keep hC (by simp)) (v := .int .i64 (((hit L (n + 1) (2 * b + (bitAt bs p').toNat)).getD 0 : Nat) : Int)) (b := (hit L (n + 1) (2 * b + (bitAt bs p').toNat)).isSome) (by rw [hhit, hit_get]) (by rw [hhit, Option.isSome_map]) (o_nil ⟨rfl, hC⟩)) ?_
  refine q_step (fun w1 hC => m_any rfl rfl (o_nil ⟨rfl, hC⟩)) ?_
  refine q_step (fun w1 hC => o_extr (vs := [.int .i64 (((hit L (n + 1) (2 * b + (bitAt bs p').toNat)).getD 0 : Nat) : Int), .bool (hit L (n + 1) (2 * b + (bitAt bs p').toNat)).isSome]) rfl rfl (o_nil ⟨rfl, hC⟩)) ?_
  refine q_step (fun w1 hC => o_extr (vs := [.int .i64 (((hit L (n + 1) (2 * b + (bitAt bs p').toNat)).getD 0 : Nat) : Int), .bool (hit L (n + 1) (2 * b + (bitAt bs p').toNat)).isSome]) rfl rfl (o_nil ⟨rfl, hC⟩)) ?_
  refine q_step (fun w1 hC => m_int rfl rfl (o_nil ⟨rfl, hC⟩)) ?_
  refine q_nil ?_
  intro w8 hC8
  have hK48 : Keep [x] w w8 := hK47.trans hC8 (by simp)
  refine m_bool rfl rfl ?_
  refine o_nil ?_
  refine k_seq ?_
  refine k_region ?_
  refine m_bool rfl rfl ?_
  refine o_nil ?_
  refine k_condb rfl (fun hh => ?_) (fun hh => ?_)
  ·
    obtain ⟨s, hs⟩ := Option.isSome_iff_exists.1 hh
    rw [hs]
    refine k_seq ?_
    refine k_region ?_
    refine m_int rfl rfl ?_
    refine m_int rfl rfl ?_
    refine m_int rfl rfl ?_
    refine o_nil ?_
    refine k_ret (ret_tmps (ts := [4, 5]) (v := .tuple #[.int _ _, .int _ _]) rfl rfl ?_)
    exact NxR.of (by rw [hnx, nx_hit hns hs]; rfl) (hR7.new hC8) hK48
  have hs : hit L (n + 1) (2 * b + (bitAt bs p').toNat) = none := by simpa using hh
  refine k_skip ?_
  refine k_blk ?_
  refine k_goal ⟨(n + 1, _, _), ⟨rfl, rfl, rfl, trivial⟩, ⟨by simp only; omega, hb2, hB7.keep hC8 (by simp), hR7.new hC8, ?_, hK48⟩, by simp only; omega⟩
  simp only
  rw [hnx, nx_on hns hs, show mostL L - (n + 1) = k' by omega]
end Go.Proofs.YtiapgmfooclpcaaDoor

/- Numbers as bytes: octet.Little, octet.PutLittle. No condition beyond what each contract names. -/
namespace Go.Proofs.YtiapgmfooclpcaaDoor
open Go.RowKit E
set_option linter.unusedVariables false
set_option linter.unusedSimpArgs false
set_option maxRecDepth 100000
attribute [local irreducible] ow qw kw kq cw opW Ret
abbrev Bs := List (BitVec 8)
/-- the number of n bytes at a place, the least byte first -/
def rdN (bs : Bs) (p : Nat) : Nat → Nat
  | 0 => 0
  | n + 1 => (bs.getD p 0#8).toNat + 256 * rdN bs (p + 1) n
def rdB (bs : Bs) (p : Nat) : Nat → BitVec 64
  | 0 => 0#64
  | n + 1 => (rdB bs (p + 1) n <<< 8) ||| (bs.getD p 0#8).setWidth 64
theorem rdB_succ (bs : Bs) (p n : Nat) : rdB bs p (n + 1) = (rdB bs (p + 1) n <<< 8) ||| (bs.getD p 0#8).setWidth 64 := rfl
theorem rdN_lt (bs : Bs) : ∀ (n p : Nat), rdN bs p n < 256 ^ n
  | 0, p => by simp [rdN]
  | n + 1, p => by
    have := rdN_lt bs n (p + 1)
    have h2 := (bs.getD p 0#8).isLt
    rw [Nat.pow_succ]
    unfold rdN
    omega
theorem or_byte (a : BitVec 64) (b : BitVec 8) (h : a.toNat < 2 ^ 56) : ((a <<< 8) ||| b.setWidth 64).toNat = b.toNat + 256 * a.toNat := by
  have hb := b.isLt
  have h1 : (a <<< 8).toNat = a.toNat * 256 := by
    rw [BitVec.toNat_shiftLeft, Nat.shiftLeft_eq, Nat.mod_eq_of_lt (by omega)]
  have h2 : (b.setWidth 64).toNat = b.toNat := by rw [BitVec.toNat_setWidth]; omega
  rw [BitVec.toNat_or, h1, h2]
  have := Nat.two_pow_add_eq_or_of_lt (i := 8) (b := b.toNat) (by omega) a.toNat
  rw [show (2 : Nat) ^ 8 = 256 by decide] at this
  rw [Nat.mul_comm a.toNat 256, ← this]; omega
theorem rdB_N (bs : Bs) : ∀ (n p : Nat), n ≤ 7 → (rdB bs p n).toNat = rdN bs p n
  | 0, p, _ => rfl
  | n + 1, p, hn => by
    have ih := rdB_N bs n (p + 1) (by omega)
    have hl := rdN_lt bs n (p + 1)
    have hp : 256 ^ n ≤ 2 ^ 56 := by
      rw [show (256 : Nat) = 2 ^ 8 by decide, ← Nat.pow_mul]
      exact Nat.pow_le_pow_right (by decide) (by omega)
    unfold rdB rdN
    rw [or_byte _ _ (by omega), ih]
/-- a number's bytes, the least one first -/
def leB (n : Nat) (v : Int) : Bs := (List.range n).map fun i => ((BitVec.ofInt 64 v) >>> (8 * i)).setWidth 8
theorem leB_len (n : Nat) (v : Int) : (leB n v).length = n := by simp [leB]
theorem fits_ok (w : World) (a : Option Addr) (c p n : Nat) (bs : Bs) (h1 : 1 ≤ n) (h8 : n ≤ 8) (hl : bs.length ≤ 9223372036854775807) :
    Ret Tryd.prog 53 [.slice a bs.length c, .int .i64 (p : Int), .int .i64 (n : Int)] w (fun v w' => v = .int .i64 (if bs.length < p + n then 2 else 0) ∧ w' = w) := by
  refine fn_enter (n := 23) Tryd.func53 rfl rfl (Nat.le_of_ble_eq_true rfl) (fun e => ?_)
  refine k_seq ?_
  refine k_region ?_
  refine m_int rfl rfl ?_
  refine o_nil ?_
  refine k_seq ?_
  refine k_seq ?_
  refine k_region ?_
  refine m_int rfl rfl ?_
  refine b_lss rfl rfl ?_
  refine m_bool rfl rfl ?_
  refine o_false (t := 9) rfl ((by omega)) ?_
  refine g_yes rfl rfl ?_
  refine m_int rfl rfl ?_
  refine g_yes rfl rfl ?_
  refine b_gtr rfl rfl ?_
  refine pick_f rfl rfl ?_
  refine m_bool rfl rfl ?_
  refine o_false (t := 13) rfl ((by omega)) ?_
  refine g_yes rfl rfl ?_
  refine m_int rfl rfl ?_
  refine g_yes rfl rfl ?_
  refine b_lss rfl rfl ?_
  refine pick_f rfl rfl ?_
  refine o_nil ?_
  refine k_no rfl ((by omega)) ?_
  refine k_skip ?_
  refine k_seq ?_
  refine k_seq ?_
  refine k_region ?_
  refine m_int rfl rfl ?_
  refine m_sl rfl rfl ?_
  refine o_lens Tryd.underlying25 rfl ?_
  refine m_int rfl rfl ?_
  refine n_sub rfl rfl (by omega) ?_
  refine b_gtr rfl rfl ?_
  refine o_nil ?_
  refine k_cond rfl (fun h => ?_) (fun h => ?_)
  ·
    refine k_seq ?_
    refine k_region ?_
    refine m_int rfl rfl ?_
    refine o_nil ?_
    refine k_ret (ret_tmps (ts := [6]) (v := .int _ _) rfl rfl ?_)
    exact ⟨by rw [if_pos (by omega)], rfl⟩
  refine k_skip ?_
  refine k_seq ?_
  refine k_region ?_
  refine m_int rfl rfl ?_
  refine o_nil ?_
  refine k_ret (ret_tmps (ts := [6]) (v := .int _ _) rfl rfl ?_)
  exact ⟨by rw [if_neg (by omega)], rfl⟩
theorem little_ok (w : World) (a : Option Addr) (c p n : Nat) (bs : Bs) (hR : Rd w a (bs.map u8v)) (h1 : 1 ≤ n) (h7 : n ≤ 7) (hl : bs.length ≤ 1000000000000) :
    Ret Tryd.prog 39 [.slice a bs.length c, .int .i64 (p : Int), .int .i64 (n : Int)] w (fun v w' => v = .tuple (if bs.length < p + n then #[.int .i64 0, .int .i64 2] else #[.int .i64 (rdN bs p n : Int), .int .i64 0]) ∧ w' = w) := by
  refine fn_enter (n := 36) Tryd.func39 rfl rfl (Nat.le_of_ble_eq_true rfl) (fun e => ?_)
  refine k_seq ?_
  refine k_region ?_
  refine m_int rfl rfl ?_
  refine m_int rfl rfl ?_
  refine o_nil ?_
  refine k_seq ?_
  refine k_seq ?_
  refine k_region ?_
  refine m_sl rfl rfl ?_
  refine m_int rfl rfl ?_
  refine m_int rfl rfl ?_
  refine o_call rfl rfl (fits_ok w a c p n bs h1 (by omega) (by omega)) (fun v w1 hv => ?_)
  obtain ⟨rfl, rfl⟩ := hv
  refine m_int rfl rfl ?_
  refine o_nil ?_
  refine k_seq ?_
  refine k_region ?_
  refine m_int rfl rfl ?_
  refine b_neq rfl rfl ?_
  refine o_nil ?_
  refine k_cond (p := bs.length < p + n) (by show Value.bool (decide ((if bs.length < p + n then (2 : Int) else 0) ≠ 0)) = _; by_cases h : bs.length < p + n <;> simp [h]) (fun h => ?_) (fun h => ?_)
  ·
    rw [if_pos h, if_pos h]
    refine k_seq ?_
    refine k_region ?_
    refine m_int rfl rfl ?_
    refine m_int rfl rfl ?_
    refine m_int rfl rfl ?_
    refine o_nil ?_
    refine k_ret (ret_tmps (ts := [6, 7]) (v := .tuple #[.int _ _, .int _ _]) rfl rfl ?_)
    exact ⟨rfl, rfl⟩
  rw [if_neg h, if_neg h]
  refine k_skip ?_
  refine k_seq ?_
  refine k_region ?_
  refine m_int rfl rfl ?_
  refine o_nil ?_
  refine k_seq ?_
  refine k_seq ?_
  refine k_region ?_
  refine m_int rfl rfl ?_
  refine n_sub rfl rfl (by omega) ?_
  refine m_int rfl rfl ?_
  refine o_nil ?_
  refine k_block ?_
  refine k_loop (σ := Nat) (fun j => [(0, .slice a bs.length c), (1, .int .i64 (p : Int)), (9, .int .u64 ((rdB bs (p + n - j) j).toNat : Int)), (10, .int .i64 ((n : Int) - 1 - (j : Int)))]) (fun j w' => j ≤ n ∧ w' = w1) (fun j => n - j) 0 ⟨rfl, rfl, rfl, congrArg (Value.int .i64) (by omega), trivial⟩ ⟨by omega, rfl⟩ (fun j e w2 hJ => ?_)
  obtain ⟨hj, rfl⟩ := hJ
  refine k_seq ?_
  refine k_seq ?_
  refine k_region ?_
  refine m_int rfl rfl ?_
  refine b_geq rfl rfl ?_
  refine o_nil ?_
  refine k_cond rfl (fun h => ?_) (fun h => ?_)
  rotate_left
  ·
    obtain rfl : j = n := by omega
    refine k_exit rfl ?_
    refine k_seq ?_
    refine k_region ?_
    refine m_int rfl rfl ?_
    refine cv64_i rfl Tryd.underlying2 rfl ?_
    refine m_int rfl rfl ?_
    refine m_int rfl rfl ?_
    refine o_nil ?_
    refine k_ret (ret_tmps (ts := [6, 7]) (v := .tuple #[.int _ _, .int _ _]) rfl rfl ?_)
    refine ⟨congrArg (fun x => Value.tuple #[.int .i64 x, .int .i64 0]) ?_, rfl⟩
    rw [show p + j - j = p by omega]
    have h2 := rdB_N bs j p h7
    have h3 := rdN_lt bs j p
    have h4 : (256 : Nat) ^ j ≤ 256 ^ 7 := Nat.pow_le_pow_right (by decide) h7
    rw [BitVec.toInt_eq_toNat_of_lt (by rw [h2]; omega), h2]
  have hjn : j < n := by omega
  obtain ⟨i, hi⟩ : ∃ i, i + j + 1 = n := ⟨n - 1 - j, by omega⟩
  have hpi : (p : Int) + ((n : Int) - 1 - (j : Int)) = ((p + i : Nat) : Int) := by omega
  have hpl : p + i < bs.length := by omega
  obtain ⟨b1, o1, rfl, _⟩ := hR.at (p + i) (by simpa using hpl)
  refine k_skip ?_
  refine k_seq ?_
  refine k_block ?_
  refine k_region ?_
  refine m_int rfl rfl ?_
  refine v64_shln (c := 8) rfl rfl ?_
  refine m_sl rfl rfl ?_
  refine m_int rfl rfl ?_
  refine m_int rfl rfl ?_
  refine n_add rfl rfl (by omega) ?_
  rw [hpi]
  refine o_ixs1 (m := p + i) Tryd.underlying25 rfl rfl rfl hpl ?_
  refine o_ld rfl rfl (hR.cellK (Keep.refl _ _) (u8_at bs _ hpl)) ?_
  refine cv8_64 rfl Tryd.underlying122 rfl ?_
  refine v64_or rfl rfl ?_
  refine m_int rfl rfl ?_
  refine o_nil ?_
  refine k_blk ?_
  refine k_region ?_
  refine m_int rfl rfl ?_
  refine n_sub rfl rfl (by omega) ?_
  refine m_int rfl rfl ?_
  refine o_nil ?_
  refine k_goal ⟨j + 1, ⟨rfl, rfl, ?_, ?_, trivial⟩, ⟨by omega, rfl⟩, by omega⟩
  · have hstep : rdB bs (p + n - (j + 1)) (j + 1) = (rdB bs (p + n - j) j <<< 8) ||| (bs[p + i]).setWidth 64 := by
     rw [show p + n - (j + 1) = p + i by omega, rdB_succ, show p + i + 1 = p + n - j by omega, List.getD_eq_getElem?_getD, List.getElem?_eq_getElem hpl]
     rfl
    show _ = Value.int .u64 ((rdB bs (p + n - (j + 1)) (j + 1)).toNat : Int)
    rw [hstep]
    rfl
  · exact congrArg (Value.int .i64) (by omega)
theorem leB_at (n i : Nat) (v : Int) (h : i < n) : (leB n v)[i]? = some (((BitVec.ofInt 64 v) >>> (8 * i)).setWidth 8) := by
  simp [leB, h]
def partB (n i : Nat) (v : Int) : Bs := (leB n v).take i ++ List.replicate (n - i) 0#8
theorem partB_len (n i : Nat) (v : Int) (h : i ≤ n) : (partB n i v).length = n := by simp [partB, leB_len]; omega
theorem partB_set (n i : Nat) (v : Int) (h : i < n) : (partB n i v).set i (((BitVec.ofInt 64 v) >>> (8 * i)).setWidth 8) = partB n (i + 1) v := by
  apply List.ext_getElem?
  intro j
  have hl := leB_len n v
  unfold partB
  rw [List.getElem?_set]
  by_cases hj : i = j
  · subst hj
    rw [if_pos rfl, if_pos (by simp [hl]; omega), List.getElem?_append_left (by simp [hl]; omega), List.getElem?_take, if_pos (by omega), leB_at n i v h]
  · rw [if_neg hj]
    by_cases h1 : j < i
    · rw [List.getElem?_append_left (by simp [hl]; omega), List.getElem?_append_left (by simp [hl]; omega), List.getElem?_take, List.getElem?_take, if_pos h1, if_pos (by omega)]
    · rw [List.getElem?_append_right (by simp [hl]; omega), List.getElem?_append_right (by simp [hl]; omega)]
      simp only [List.length_take, hl, List.getElem?_replicate]
      by_cases h2 : j < n
      · rw [if_pos (by omega), if_pos (by omega)]
      · rw [if_neg (by omega), if_neg (by omega)]
theorem mul8u (i : Nat) (h : i < 8) : (8#64 * BitVec.ofInt 64 (i : Int)).toNat = 8 * i := by
  rw [BitVec.toNat_mul, ofN i (by omega)]
  simp
  omega
theorem putl_ok (w : World) (n : Nat) (v : Int) (h1 : 1 ≤ n) (h8 : n ≤ 8) :
    Ret Tryd.prog 36 [.int .i64 (n : Int), .int .i64 v] w (fun r w' => ∃ g, r = .slice (some ⟨g, 0, none⟩) n n ∧ Sl w' 5 1 (some ⟨g, 0, none⟩) n n ((leB n v).map u8v) ∧ w.heap.size ≤ g ∧ Keep [] w w') := by
  refine fn_enter (n := 32) Tryd.func36 rfl rfl (Nat.le_of_ble_eq_true rfl) (fun e => ?_)
  refine k_seq ?_
  refine k_region ?_
  refine m_sl rfl rfl ?_
  refine o_nil ?_
  refine k_seq ?_
  refine k_seq ?_
  refine k_region ?_
  refine m_int rfl rfl ?_
  refine b_lss rfl rfl ?_
  refine m_bool rfl rfl ?_
  refine o_false (t := 9) rfl ((by omega)) ?_
  refine g_yes rfl rfl ?_
  refine m_int rfl rfl ?_
  refine g_yes rfl rfl ?_
  refine b_gtr rfl rfl ?_
  refine pick_f rfl rfl ?_
  refine o_nil ?_
  refine k_no rfl ((by omega)) ?_
  refine k_skip ?_
  refine k_seq ?_
  refine k_region ?_
  refine m_int rfl rfl ?_
  refine o_make (m := n) Tryd.underlying25 inf5 rfl rfl (by simp [maxLen]; omega) (by omega) (fun g w2 hS2 hK2 hb2 hZ2 => ?_)
  have hz : (madeCells (Value.cells (.int .u8 0)) (n * 1)).toList = (partB n 0 v).map u8v := by
   show (madeCells #[Value.int .u8 0] (n * 1)).toList = _
   rw [Nat.mul_one, toList_madeCells_one, show partB n 0 v = List.replicate n 0#8 by simp [partB], List.map_replicate]; rfl
  rw [hz] at hS2
  refine m_sl rfl rfl ?_
  refine o_nil ?_
  refine k_seq ?_
  refine k_seq ?_
  refine k_region ?_
  refine m_sl rfl rfl ?_
  refine o_lens Tryd.underlying25 rfl ?_
  refine m_int rfl rfl ?_
  refine o_nil ?_
  refine k_block ?_
  refine k_loop (σ := Nat) (fun i => [(1, .int .i64 v), (5, .slice (some ⟨g, 0, none⟩) n n), (16, .int .i64 (n : Int)), (17, .int .i64 (i : Int))]) (fun i w' => i ≤ n ∧ Sl w' 5 1 (some ⟨g, 0, none⟩) n n ((partB n i v).map u8v) ∧ Keep [] w w') (fun i => n - i) 0 ⟨rfl, rfl, rfl, rfl, trivial⟩ ⟨by omega, hS2, hK2⟩ (fun i e w3 hJ => ?_)
  obtain ⟨hi, hS3, hK3⟩ := hJ
  refine k_seq ?_
  refine k_region ?_
  refine b_lss rfl rfl ?_
  refine o_nil ?_
  refine k_seq ?_
  refine k_cond rfl (fun h => ?_) (fun h => ?_)
  rotate_left
  ·
    obtain rfl : i = n := by omega
    refine k_exit rfl ?_
    refine k_seq ?_
    refine k_region ?_
    refine m_sl rfl rfl ?_
    refine m_sl rfl rfl ?_
    refine o_nil ?_
    refine k_ret (ret_tmps (ts := [4]) (v := .slice _ _ _) rfl rfl ?_)
    refine ⟨g, rfl, ?_, by omega, hK3⟩
    have : partB i i v = leB i v := by
     unfold partB
     rw [Nat.sub_self, List.take_of_length_le (by rw [leB_len]; omega)]; simp
    rw [← this]; exact hS3
  have hin : i < n := by omega
  obtain ⟨g', cur, hg', hB3, hsz⟩ := hS3.blk (by omega)
  obtain rfl : g = g' := by cases hg'; rfl
  refine k_skip ?_
  refine k_seq ?_
  refine k_block ?_
  refine k_seq ?_
  refine k_region ?_
  refine m_int rfl rfl ?_
  refine m_int rfl rfl ?_
  refine o_nil ?_
  refine k_region ?_
  refine m_sl rfl rfl ?_
  refine m_int rfl rfl ?_
  refine m_int rfl rfl ?_
  refine cv64 rfl Tryd.underlying122 rfl ?_
  refine m_int rfl rfl ?_
  refine cv64 rfl Tryd.underlying100 rfl ?_
  refine v64_mul (a := 8#64) rfl rfl ?_
  rw [mul8u i (by omega)]
  refine v64_shrn rfl rfl ?_
  refine cv64_8 rfl Tryd.underlying5 rfl ?_
  refine o_ixs1 Tryd.underlying25 rfl rfl rfl hin ?_
  refine o_st (v := .int _ _) rfl rfl rfl rfl hB3 (by omega) (fun w4 hB4 hK4 hZ4 => ?_)
  refine o_nil ?_
  refine k_blk ?_
  refine k_region ?_
  refine n_add rfl rfl (by omega) ?_
  refine m_int rfl rfl ?_
  refine o_nil ?_
  refine k_goal ⟨i + 1, ⟨rfl, rfl, rfl, rfl, trivial⟩, ⟨by omega, ?_, hK3.tr1 hK4 (by omega)⟩, by omega⟩
  have h4 := hS3.set hin hB3 hB4
  rw [← partB_set n i v hin, List.map_set]
  exact h4
end Go.Proofs.YtiapgmfooclpcaaDoor

/- Rows of numbers as bytes: (*bundle.rows).put, the document's two, four and PutLittle. No condition beyond what each contract names. -/
namespace Go.Proofs.YtiapgmfooclpcaaDoor
open Go.RowKit E
set_option linter.unusedVariables false
set_option linter.unusedSimpArgs false
set_option maxRecDepth 100000
attribute [local irreducible] ow qw kw kq cw opW Ret
def putsN (n : Nat) (vs : List Nat) : Bs := vs.flatMap fun (x : Nat) => leB n (x : Int)
def nv (x : Nat) : Value := .int .i64 (x : Int)
theorem putsN_len (n : Nat) : ∀ vs, (putsN n vs).length = n * vs.length
  | [] => rfl
  | v :: vs => by
    show (leB n v ++ putsN n vs).length = _
    rw [List.length_append, leB_len, putsN_len n vs, List.length_cons, Nat.mul_succ]; omega
theorem putsN_take (n : Nat) (vs : List Nat) (i : Nat) (h : i < vs.length) : putsN n (vs.take (i + 1)) = putsN n (vs.take i) ++ leB n (vs[i] : Int) := by
  unfold putsN
  rw [List.take_succ_eq_append_getElem h, List.flatMap_append, List.flatMap_cons, List.flatMap_nil, List.append_nil]
theorem nv_at (vs : List Nat) (i : Nat) (h : i < vs.length) : (vs.map nv)[i]? = some (.int .i64 (vs[i] : Int)) := by
  rw [List.getElem?_map, List.getElem?_eq_getElem h]; rfl
theorem u8m_app (xs ys : Bs) : (xs ++ ys).map u8v = xs.map u8v ++ ys.map u8v := List.map_append
/-- rows in memory: their block, and their bytes -/
def RowA (w : World) (r : Nat) (a : Option Addr) (c : Nat) (bs : Bs) : Prop := Blk w r #[.slice a bs.length c] 45 ∧ Sl w 5 1 a bs.length c (bs.map u8v)
theorem RowA.keep {w w' : World} {S : List Nat} {r : Nat} {a : Option Addr} {c : Nat} {bs : Bs} (h : RowA w r a c bs) (hk : Keep S w w') (h1 : r ∉ S) (h2 : Off S a) : RowA w' r a c bs := ⟨h.1.keep hk h1, h.2.keep hk h2⟩
theorem RowA.new {w w' : World} {r : Nat} {a : Option Addr} {c : Nat} {bs : Bs} (h : RowA w r a c bs) (hk : Keep [] w w') : RowA w' r a c bs := ⟨h.1.keep hk (by simp), h.2.new hk⟩
/-- the slice is the old one, or it is new -/
def Fresh (k : Nat) (a a' : Option Addr) : Prop := ∀ q, a' = some q → q.block ∈ blkOf a ∨ k ≤ q.block
theorem Fresh.refl (k : Nat) (a : Option Addr) : Fresh k a a := fun q hq => .inl (by rw [hq]; simp [blkOf])
theorem Fresh.tr {k k' : Nat} {a a' a'' : Option Addr} (h : Fresh k a a') (h' : Fresh k' a' a'') (hk : k ≤ k') : Fresh k a a'' := fun q hq => by
  rcases h' q hq with h1 | h1
  · cases a' with
    | none => simp [blkOf] at h1
    | some p => simp [blkOf] at h1; rw [h1]; exact h p rfl
  · exact .inr (Nat.le_trans hk h1)
theorem Fresh.off {k : Nat} {S : List Nat} {a a' : Option Addr} (h : Fresh k a a') (h1 : Off S a) (h2 : ∀ b ∈ S, b < k) : Off S a' := fun q hq hm => by
  rcases h q hq with h3 | h3
  · cases a with
    | none => simp [blkOf] at h3
    | some p => simp [blkOf] at h3; exact h1 p rfl (h3 ▸ hm)
  · have := h2 _ hm; omega
theorem fresh_of {a a2 : Option Addr} {w w' : World} {k : Nat} (hv : (a2 = a ∧ w'.heap.size = w.heap.size) ∨ (∃ g, a2 = some ⟨g, 0, none⟩ ∧ w.heap.size = g ∧ w'.heap.size = g + 1)) (hk : k ≤ w.heap.size) : Fresh k a a2 := by
  rcases hv with ⟨rfl, _⟩ | ⟨g, rfl, h1, _⟩
  · exact Fresh.refl _ _
  · exact fun q hq => .inr (by cases hq; simp only; omega)
/-- the blocks of a slice that is the old one or new are the old one's, where they are old -/
theorem Fresh.in {k b : Nat} {a a' : Option Addr} (h : Fresh k a a') (hb : b ∈ blkOf a') (hl : b < k) : b ∈ blkOf a := by
  cases a' with
  | none => simp [blkOf] at hb
  | some p =>
    simp [blkOf] at hb
    subst hb
    rcases h p rfl with h1 | h1
    · exact h1
    · omega
theorem put_many (w : World) (r : Nat) (n : Nat) (al : Option Addr) (cl : Nat) (vs : List Nat) (a : Option Addr) (c : Nat) (bs : Bs) (h : RowA w r a c bs) (hR : Rd w al (vs.map nv)) (hO : Off (r :: blkOf a) al) (h1 : 1 ≤ n) (h8 : n ≤ 8) (hvs : vs.length ≤ 1000) (hbs : bs.length ≤ 1000000000) :
    Ret Tryd.prog 15 [.pointer (some ⟨r, 0, none⟩), .int .i64 (n : Int), .slice al vs.length cl] w (fun v w' => v = .pointer (some ⟨r, 0, none⟩) ∧ ∃ a' c', RowA w' r a' c' (bs ++ putsN n vs) ∧ Keep (r :: blkOf a) w w' ∧ Fresh w.heap.size a a') := by
  refine fn_enter (n := 28) Tryd.func15 rfl rfl (Nat.le_of_ble_eq_true rfl) (fun e => ?_)
  refine k_seq ?_
  refine k_region ?_
  refine m_ptr rfl rfl ?_
  refine o_nil ?_
  refine k_seq ?_
  refine k_seq ?_
  refine k_region ?_
  refine m_sl rfl rfl ?_
  refine o_lens Tryd.underlying74 rfl ?_
  refine m_int rfl rfl ?_
  refine o_nil ?_
  refine k_block ?_
  refine k_loop (σ := Nat × Option Addr × Nat) (fun z => [(0, .pointer (some ⟨r, 0, none⟩)), (1, .int .i64 (n : Int)), (9, .slice al vs.length cl), (10, .int .i64 (vs.length : Int)), (11, .int .i64 (z.1 : Int))]) (fun z w' => z.1 ≤ vs.length ∧ RowA w' r z.2.1 z.2.2 (bs ++ putsN n (vs.take z.1)) ∧ Keep (r :: blkOf a) w w' ∧ Fresh w.heap.size a z.2.1) (fun z => vs.length - z.1) (0, a, c) ⟨rfl, rfl, rfl, rfl, rfl, trivial⟩ ⟨Nat.zero_le _, by rw [List.take_zero, show putsN n [] = [] from rfl, List.append_nil]; exact h, Keep.refl _ _, Fresh.refl _ _⟩ (fun z e w3 hJ => ?_)
  obtain ⟨i, a3, c3⟩ := z
  obtain ⟨hi, hA3, hK3, hf3⟩ := hJ
  simp only at hi hA3 hf3
  refine k_seq ?_
  refine k_region ?_
  refine b_lss rfl rfl ?_
  refine o_nil ?_
  refine k_seq ?_
  refine k_cond rfl (fun h => ?_) (fun h => ?_)
  rotate_left
  ·
    obtain rfl : i = vs.length := by omega
    refine k_exit rfl ?_
    refine k_seq ?_
    refine k_region ?_
    refine m_ptr rfl rfl ?_
    refine m_ptr rfl rfl ?_
    refine o_nil ?_
    refine k_ret (ret_tmps (ts := [6]) (v := .pointer _) rfl rfl ?_)
    rw [List.take_length] at hA3
    exact ⟨rfl, a3, c3, hA3, hK3, hf3⟩
  have hin : i < vs.length := by omega
  obtain ⟨b1, o1, rfl, _⟩ := hR.at i (by simpa using hin)
  have hR3 := hR.keep hK3 hO
  generalize hxs : bs ++ putsN n (vs.take i) = xs at hA3
  have hxl : xs.length ≤ 1000100000 := by
   rw [← hxs, List.length_append, putsN_len, List.length_take, Nat.min_eq_left (by omega)]
   have : n * i ≤ 8 * 1000 := Nat.mul_le_mul h8 (by omega)
   omega
  obtain ⟨hB3, hS3⟩ := hA3
  have hS30 : Sl w3.drew 5 1 a3 xs.length c3 (xs.map u8v) := hS3
  have hro : r ∉ blkOf a3 := hS3.notin hB3 (by decide)
  have hlt := hS3.lt
  have hgo : ∀ g, w3.heap.size ≤ g → g ∉ blkOf a3 := fun g hg hm => by
   cases a3 with
   | none => simp [blkOf] at hm
   | some q => simp [blkOf] at hm; subst hm; have := hlt q rfl; omega
  obtain ⟨wB, hwB⟩ : ∃ wB, wB = w3.heap.size := ⟨_, rfl⟩
  rw [← hwB] at hgo
  have hl2 : ((leB n (vs[i] : Int)).map u8v).length = n := by rw [List.length_map, leB_len]
  refine k_skip ?_
  refine k_seq ?_
  refine k_block ?_
  refine k_seq ?_
  refine k_region ?_
  refine o_ixs1 Tryd.underlying74 rfl rfl rfl hin ?_
  refine o_ld rfl rfl (hR3.cellK (Keep.refl _ _) (nv_at vs i hin)) ?_
  refine m_int rfl rfl ?_
  refine o_nil ?_
  refine k_anyG 9 (LeF (blkOf a3) [fun w => Sl w 5 1 a3 (xs.length + n) c3 (xs.map u8v ++ (leB n (vs[i] : Int)).map u8v)]) (fun iA => match iA with
      | 0 => fun v w => v = .pointer (some ⟨r, 0, none⟩)
      | 1 => fun v w => v = .pointer (some ⟨r, 0, none⟩)
      | 2 => fun v w => v = .pointer (some ⟨r, 0, none⟩)
      | 3 => fun v w => v = .pointer (some ⟨r, 0, none⟩)
      | 4 => fun v w => v = .slice a3 xs.length c3
      | 5 => fun v w => v = .int .i64 (n : Int)
      | 6 => fun v w => v = .int .i64 (vs[i] : Int)
      | 7 => fun v w => ∃ g, v = .slice (some ⟨g, 0, none⟩) n n ∧ Sl w 5 1 (some ⟨g, 0, none⟩) n n ((leB n (vs[i] : Int)).map u8v) ∧ wB ≤ g
      | 8 => fun v w => ∃ a2 c2, v = .slice a2 (xs.length + n) c2 ∧ Sl w 5 1 a2 (xs.length + n) c2 (xs.map u8v ++ (leB n (vs[i] : Int)).map u8v) ∧ ((a2 = a3 ∧ c2 = c3) ∨ ∃ g, a2 = some ⟨g, 0, none⟩ ∧ wB ≤ g)
      | _ => fun v w => True) [] (fun D w' => D 8 = false → Sl w' 5 1 a3 xs.length c3 (xs.map u8v)) rfl rfl rfl rfl rfl (LeF.refl _ _) (fun _ _ _ h1 h2 => h1.tr h2) ?_ (fun _ h => by simp at h) (fun _ => hS30) ?_ ?_
  · intro iA v w w' h hL
    match iA, h with
    | 0, h =>
      exact h
    | 1, h =>
      exact h
    | 2, h =>
      exact h
    | 3, h =>
      exact h
    | 4, h =>
      exact h
    | 5, h =>
      exact h
    | 6, h =>
      exact h
    | 7, h =>
      obtain ⟨g, h1, h2, h3⟩ := h
      exact ⟨g, h1, h2.keep hL.1 (fun z hz => by cases hz; exact hgo g h3), h3⟩
    | 8, h =>
      obtain ⟨a2, c2, h1, h2, h3⟩ := h
      refine ⟨a2, c2, h1, ?_, h3⟩
      rcases h3 with ⟨rfl, rfl⟩ | ⟨g, rfl, h5⟩
      · exact hL.2 _ (List.mem_singleton.2 rfl) h2
      · exact h2.keep hL.1 (fun z hz => by cases hz; exact hgo g h5)
    | _ + 9, h => trivial
  · intro iA o him hl D eA wA hDi hdp hSh hG hL hA hD
    match iA, him, hl with
    | 0, _, hl =>
      obtain rfl := Option.some.inj hl
      refine o_gen [(0, _)] ⟨hA 0 (free_of rfl), trivial⟩ (fun e2 => ?_)
      refine m_ptr rfl rfl ?_
      refine o_nil ⟨LeF.refl _ _ _, rfl, fun h => by simp at h, hG⟩
    | 1, _, hl =>
      obtain rfl := Option.some.inj hl
      refine o_gen [(0, _)] ⟨hA 0 (free_of rfl), trivial⟩ (fun e2 => ?_)
      refine m_ptr rfl rfl ?_
      refine o_nil ⟨LeF.refl _ _ _, rfl, fun h => by simp at h, hG⟩
    | 2, _, hl =>
      obtain rfl := Option.some.inj hl
      refine o_gen [(16, _)] ⟨hD 1 (by decide) 16 rfl, trivial⟩ (fun e2 => ?_)
      refine o_nilc rfl ?_
      refine o_nil ⟨LeF.refl _ _ _, rfl, fun h => by simp at h, hG⟩
    | 3, _, hl =>
      obtain rfl := Option.some.inj hl
      refine o_gen [(17, _)] ⟨hD 2 (by decide) 17 rfl, trivial⟩ (fun e2 => ?_)
      refine o_fld0 rfl rfl ?_
      refine o_nil ⟨LeF.refl _ _ _, rfl, fun h => by simp at h, hG⟩
    | 4, _, hl =>
      obtain rfl := Option.some.inj hl
      refine o_gen [(18, _)] ⟨hD 3 (by decide) 18 rfl, trivial⟩ (fun e2 => ?_)
      refine o_ld rfl rfl ((hB3.keep (w' := wA) ((Keep.refl (blkOf a3) w3).drew.trans hL.1 (fun _ hb _ => hb)) hro).at rfl) ?_
      refine o_nil ⟨LeF.refl _ _ _, rfl, fun h => by simp at h, hG⟩
    | 5, _, hl =>
      obtain rfl := Option.some.inj hl
      refine o_gen [(1, _)] ⟨hA 1 (free_of rfl), trivial⟩ (fun e2 => ?_)
      refine m_int rfl rfl ?_
      refine o_nil ⟨LeF.refl _ _ _, rfl, fun h => by simp at h, hG⟩
    | 6, _, hl =>
      obtain rfl := Option.some.inj hl
      refine o_gen [(8, _)] ⟨hA 8 (free_of rfl), trivial⟩ (fun e2 => ?_)
      refine m_int rfl rfl ?_
      refine o_nil ⟨LeF.refl _ _ _, rfl, fun h => by simp at h, hG⟩
    | 7, _, hl =>
      obtain rfl := Option.some.inj hl
      refine o_gen [(20, _), (21, _)] ⟨hD 5 (by decide) 20 rfl, hD 6 (by decide) 21 rfl, trivial⟩ (fun e2 => ?_)
      refine o_call rfl rfl (putl_ok wA n _ h1 h8) (fun u w6 hu => ?_)
      obtain ⟨g, rfl, hS6, hg6, hK6⟩ := hu
      have hsz : w3.heap.size ≤ wA.heap.size := hL.1.size
      refine o_nil ⟨⟨hK6.also, fun F hF h0 => ?_⟩, ⟨g, rfl, hS6, by omega⟩, fun h => by simp at h, fun h => (hG h).keep hK6 (by simp [Off])⟩
      simp at hF
      subst hF
      exact h0.keep hK6 (by simp [Off])
    | 8, _, hl =>
      obtain rfl := Option.some.inj hl
      obtain ⟨g, hg, hgS, hgl⟩ := hD 7 (by decide) 22 rfl
      refine o_gen [(19, _), (22, _)] ⟨hD 4 (by decide) 19 rfl, hg, trivial⟩ (fun e2 => ?_)
      refine o_app2 Tryd.underlying25 inf5 rfl (by decide) rfl rfl (hG hDi) hgS.rd (by rw [hl2, Nat.mul_one]) (u8_one _) (by simp [maxLen]; omega) (by omega) (fun a2 c2 w6 hS6 hv6 => ?_)
      have hsz : w3.heap.size ≤ wA.heap.size := hL.1.size
      rcases hv6 with ⟨rfl, rfl, hK6, hZ6⟩ | ⟨g6, rfl, hK6, hb6, hZ6⟩
      · exact o_nil ⟨⟨hK6, fun F hF h0 => by simp at hF; subst hF; exact hS6⟩, ⟨_, _, rfl, hS6, .inl ⟨rfl, rfl⟩⟩, fun h => by simp at h, fun h => by simp at h⟩
      · exact o_nil ⟨⟨hK6.also, fun F hF h0 => by simp at hF; subst hF; exact h0.keep hK6 (by simp [Off])⟩, ⟨_, _, rfl, hS6, .inr ⟨_, rfl, by omega⟩⟩, fun h => by simp at h, fun h => by simp at h⟩
    | _ + 9, him, _ => exact absurd him (by omega)
  intro D eA wA hAll hG hL hA hV hN hM
  obtain ⟨a2, c2, ha2, hS2, hv2⟩ := hV 8 (by decide) 23 rfl
  have hKA : Keep (blkOf a3) w3 wA := (Keep.refl (blkOf a3) w3).drew.trans hL.1 (fun _ hb _ => hb)
  refine o_gen [(0, .pointer (some ⟨r, 0, none⟩)), (1, .int .i64 (n : Int)), (9, .slice (some ⟨b1, o1, none⟩) vs.length cl), (10, .int .i64 (vs.length : Int)), (11, .int .i64 (i : Int)), (15, .pointer (some ⟨r, 0, none⟩)), (23, .slice a2 (xs.length + n) c2)] ⟨hA 0 (free_of rfl), hA 1 (free_of rfl), hA 9 (free_of rfl), hA 10 (free_of rfl), hA 11 (free_of rfl), hV 0 (by decide) 15 rfl, ha2, trivial⟩ (fun e3 => ?_)
  have hBA := hB3.keep hKA hro
  refine o_nilc rfl ?_
  refine o_fld0 rfl rfl ?_
  refine o_st (v := .slice a2 (xs.length + n) c2) rfl rfl rfl rfl hBA (by simp) (fun w4 hB4 hK4 hZ4 => ?_)
  refine o_nil ?_
  refine k_blk ?_
  refine k_region ?_
  refine n_add rfl rfl (by omega) ?_
  refine m_int rfl rfl ?_
  refine o_nil ?_
  have hxs2 : bs ++ putsN n (vs.take (i + 1)) = xs ++ leB n (vs[i] : Int) := by rw [putsN_take n vs i hin, ← List.append_assoc, hxs]
  have hlen : (xs ++ leB n (vs[i] : Int)).length = xs.length + n := by rw [List.length_append, leB_len]
  refine k_goal ⟨(i + 1, a2, c2), ⟨rfl, rfl, rfl, rfl, rfl, trivial⟩, ⟨by show i + 1 ≤ vs.length; omega, ?_, ?_, ?_⟩, by show vs.length - (i + 1) < vs.length - i; omega⟩
  · show RowA w4 r a2 c2 (bs ++ putsN n (vs.take (i + 1)))
    rw [hxs2]
    refine ⟨?_, ?_⟩
    · rw [hlen]; exact hB4
    · rw [hlen, u8m_app]; exact hS2.keep hK4 (hS2.off hBA (by decide))
  · refine (hK3.trans hKA (fun b hb hl => List.mem_cons_of_mem _ (hf3.in hb hl))).trans hK4 (fun b hb _ => ?_)
    simp at hb; subst hb; exact List.mem_cons_self
  · show Fresh w.heap.size a a2
    refine hf3.tr (k' := w3.heap.size) ?_ hK3.size
    rcases hv2 with ⟨rfl, rfl⟩ | ⟨g, rfl, h5⟩
    · exact Fresh.refl _ _
    · exact fun q hq => .inr (by cases hq; simp only; omega)
end Go.Proofs.YtiapgmfooclpcaaDoor

/- The document's PutLittle, two and four. No condition beyond what each contract names. -/
namespace Go.Proofs.YtiapgmfooclpcaaDoor
open Go.RowKit E
set_option linter.unusedVariables false
set_option linter.unusedSimpArgs false
set_option maxRecDepth 100000
attribute [local irreducible] ow qw kw kq cw opW Ret
theorem leB_nat (n i v : Nat) (hi : i < n) (h8 : n ≤ 8) (hv : v < 9223372036854775808) : (leB n (v : Int))[i]? = some (BitVec.ofNat 8 (v / 256 ^ i)) := by
  rw [leB_at n i v hi]
  congr 1
  apply BitVec.eq_of_toNat_eq
  rw [BitVec.toNat_setWidth, BitVec.toNat_ushiftRight, ofN v (by omega), BitVec.toNat_ofNat, Nat.shiftRight_eq_div_pow, Nat.pow_mul]
theorem leB_take (n i v : Nat) (hi : i < n) (h8 : n ≤ 8) (hv : v < 9223372036854775808) : (leB n (v : Int)).take (i + 1) = (leB n (v : Int)).take i ++ [BitVec.ofNat 8 (v / 256 ^ i)] := by
  rw [List.take_add_one, leB_nat n i v hi h8 hv]; rfl
theorem rputl_ok (w : World) (n v : Nat) (h1 : 1 ≤ n) (h8 : n ≤ 8) (hv : v < 9223372036854775808) :
    Ret Tryd.prog 67 [.int .i64 (n : Int), .int .i64 (v : Int)] w (fun r w' => ∃ a c, r = .slice a n c ∧ Sl w' 5 1 a n c ((leB n (v : Int)).map u8v) ∧ (∀ q, a = some q → w.heap.size ≤ q.block) ∧ Keep [] w w') := by
  refine fn_enter (n := 33) Tryd.func67 rfl rfl (Nat.le_of_ble_eq_true rfl) (fun e => ?_)
  refine k_seq ?_
  refine k_region ?_
  refine m_sl rfl rfl ?_
  refine o_nil ?_
  refine k_seq ?_
  refine k_seq ?_
  refine k_region ?_
  refine m_int rfl rfl ?_
  refine b_lss rfl rfl ?_
  refine m_bool rfl rfl ?_
  refine o_false (t := 10) rfl ((by omega)) ?_
  refine g_yes rfl rfl ?_
  refine m_int rfl rfl ?_
  refine g_yes rfl rfl ?_
  refine b_gtr rfl rfl ?_
  refine pick_f rfl rfl ?_
  refine o_nil ?_
  refine k_no rfl ((by omega)) ?_
  refine k_skip ?_
  refine k_seq ?_
  refine k_region ?_
  refine m_sl rfl rfl ?_
  refine o_nil ?_
  refine k_seq ?_
  refine k_seq ?_
  refine k_region ?_
  refine m_int rfl rfl ?_
  refine o_nil ?_
  refine k_block ?_
  refine k_loop (σ := Nat × Option Addr × Nat) (fun z => [(0, .int .i64 (n : Int)), (1, .int .i64 ((v / 256 ^ z.1 : Nat) : Int)), (5, .slice z.2.1 z.1 z.2.2), (6, .int .i64 (z.1 : Int))]) (fun z w' => z.1 ≤ n ∧ Sl w' 5 1 z.2.1 z.1 z.2.2 (((leB n (v : Int)).take z.1).map u8v) ∧ (∀ q, z.2.1 = some q → w.heap.size ≤ q.block) ∧ Keep [] w w') (fun z => n - z.1) (0, none, 0) ⟨rfl, congrArg (Value.int .i64) (by simp), rfl, rfl, trivial⟩ ⟨Nat.zero_le _, Sl.nil _ _ _, by simp, Keep.refl _ _⟩ (fun z e w3 hJ => ?_)
  obtain ⟨i, a3, c3⟩ := z
  obtain ⟨hi, hS3, hf3, hK3⟩ := hJ
  simp only at hi hS3 hf3
  have hlt : v / 256 ^ i ≤ v := Nat.div_le_self _ _
  generalize hx : v / 256 ^ i = x at hlt ⊢
  refine k_seq ?_
  refine k_seq ?_
  refine k_region ?_
  refine m_int rfl rfl ?_
  refine m_int rfl rfl ?_
  refine b_lss rfl rfl ?_
  refine o_nil ?_
  refine k_cond rfl (fun h => ?_) (fun h => ?_)
  rotate_left
  ·
    obtain rfl : i = n := by omega
    refine k_exit rfl ?_
    refine k_seq ?_
    refine k_region ?_
    refine m_sl rfl rfl ?_
    refine m_sl rfl rfl ?_
    refine o_nil ?_
    refine k_ret (ret_tmps (ts := [4]) (v := .slice _ _ _) rfl rfl ?_)
    rw [List.take_of_length_le (by rw [leB_len]; omega)] at hS3
    exact ⟨a3, c3, rfl, hS3, hf3, hK3⟩
  have hin : i < n := by omega
  refine k_skip ?_
  refine k_seq ?_
  refine k_block ?_
  refine k_seq ?_
  refine k_region ?_
  refine m_int rfl rfl ?_
  refine b_rem rfl rfl (by omega) ?_
  rw [show ((x : Int).tmod 256) = ((x % 256 : Nat) : Int) from tm x 256]
  refine n_add rfl rfl (by omega) ?_
  refine b_rem rfl rfl (by omega) ?_
  rw [show ((((x % 256 : Nat) : Int) + 256).tmod 256) = ((x % 256 : Nat) : Int) by
   rw [show (((x % 256 : Nat) : Int) + 256) = ((x % 256 + 256 : Nat) : Int) by omega]
   have := tm (x % 256 + 256) 256
   rw [show (256 : Int) = ((256 : Nat) : Int) from rfl, this]
   congr 1
   omega]
  refine m_int rfl rfl ?_
  refine o_nil ?_
  refine k_seq ?_
  refine k_region ?_
  refine m_sl rfl rfl ?_
  refine m_int rfl rfl ?_
  refine cv8 rfl Tryd.underlying5 rfl ?_
  rw [show (BitVec.ofInt 8 ((x % 256 : Nat) : Int)) = BitVec.ofNat 8 x from by
   apply BitVec.eq_of_toNat_eq
   rw [BitVec.toNat_ofNat, BitVec.toNat_ofInt]; omega]
  refine o_bsl (E := 5) (cs := #[.int .u8 ((BitVec.ofNat 8 x).toNat : Int)]) rfl (fun _ => by kernel_rfl) (fun g w4 hB4 hK4 hb4 hZ4 => ?_)
  refine o_app Tryd.underlying25 inf5 rfl (by decide) rfl rfl (hS3.new hK4) hB4.rd rfl (by intro u hu; simp at hu; subst hu; rfl) (by simp [maxLen]; omega) (by omega) (fun a5 c5 w5 hS5 hK5 hv5 => ?_)
  refine m_sl rfl rfl ?_
  refine o_nil ?_
  refine k_region ?_
  refine m_int rfl rfl ?_
  refine m_int rfl rfl ?_
  refine n_sub rfl rfl (by omega) ?_
  refine b_quo rfl rfl (by omega) ?_
  have hq : IntKind.i64.wrap (((x : Int) - ((x % 256 : Nat) : Int)).tdiv 256) = ((v / 256 ^ (i + 1) : Nat) : Int) := by
   rw [show ((x : Int) - ((x % 256 : Nat) : Int)) = ((x - x % 256 : Nat) : Int) by omega, show (256 : Int) = ((256 : Nat) : Int) from rfl, td (x - x % 256) 256, Nat.pow_succ, ← Nat.div_div_eq_div_mul, hx, show (x - x % 256) / 256 = x / 256 by omega, IntWalk.i64_in _ (by omega)]
  rw [hq]
  refine m_int rfl rfl ?_
  refine o_nil ?_
  refine k_blk ?_
  refine k_region ?_
  refine m_int rfl rfl ?_
  refine n_add rfl rfl (by omega) ?_
  refine m_int rfl rfl ?_
  refine o_nil ?_
  refine k_goal ⟨(i + 1, a5, c5), ⟨rfl, rfl, rfl, rfl, trivial⟩, ⟨by show i + 1 ≤ n; omega, ?_, fresh_app hf3 (by have := hK3.size; have := hK4.size; omega) hv5, (hK3.tr hK4).trb hK5 hf3⟩, by show n - (i + 1) < n - i; omega⟩
  rw [leB_take n i v hin h8 hv, hx, List.map_append]
  exact hS5
theorem rtwo_ok (w : World) (al : Option Addr) (cl : Nat) (vs : List Nat) (a : Option Addr) (c : Nat) (bs : Bs) (h : Sl w 5 1 a bs.length c (bs.map u8v)) (hR : Rd w al (vs.map nv)) (hO : Off (blkOf a) al) (hvs : vs.length ≤ 1000) (hbs : bs.length ≤ 1000000000) (hv : ∀ x ∈ vs, x < 9223372036854775808) :
    Ret Tryd.prog 45 [.slice a bs.length c, .slice al vs.length cl] w (fun v w' => ∃ a' c', v = .slice a' (bs ++ putsN 2 vs).length c' ∧ Sl w' 5 1 a' (bs ++ putsN 2 vs).length c' ((bs ++ putsN 2 vs).map u8v) ∧ Keep (blkOf a) w w' ∧ Fresh w.heap.size a a') := by
  refine fn_enter (n := 20) Tryd.func45 rfl rfl (Nat.le_of_ble_eq_true rfl) (fun e => ?_)
  refine k_seq ?_
  refine k_region ?_
  refine m_sl rfl rfl ?_
  refine o_nil ?_
  refine k_seq ?_
  refine k_seq ?_
  refine k_region ?_
  refine m_int rfl rfl ?_
  refine o_nil ?_
  refine k_block ?_
  refine k_loop (σ := Nat × Bs × Option Addr × Nat) (fun z => [(0, .slice z.2.2.1 z.2.1.length z.2.2.2), (1, .slice al vs.length cl), (5, .int .i64 (z.1 : Int))]) (fun z w' => z.1 ≤ vs.length ∧ z.2.1 = bs ++ putsN 2 (vs.take z.1) ∧ Sl w' 5 1 z.2.2.1 z.2.1.length z.2.2.2 (z.2.1.map u8v) ∧ Keep (blkOf a) w w' ∧ Fresh w.heap.size a z.2.2.1) (fun z => vs.length - z.1) (0, bs, a, c) ⟨rfl, rfl, rfl, trivial⟩ ⟨Nat.zero_le _, by rw [List.take_zero, show putsN 2 [] = [] from rfl, List.append_nil], h, Keep.refl _ _, Fresh.refl _ _⟩ (fun z e w3 hJ => ?_)
  obtain ⟨i, xs, a3, c3⟩ := z
  obtain ⟨hi, hxs, hS3, hK3, hf3⟩ := hJ
  change kw _ _ _ _ (ovr [(0, .slice a3 xs.length c3), (1, .slice al vs.length cl), (5, .int .i64 (i : Int))] e) w3
  simp only at hi hxs hS3 hf3
  have hxl : xs.length ≤ 1000100000 := by
   rw [hxs, List.length_append, putsN_len, List.length_take, Nat.min_eq_left (by omega)]
   have : 2 * i ≤ 8 * 1000 := Nat.mul_le_mul (by omega) (by omega)
   omega
  refine k_seq ?_
  refine k_seq ?_
  refine k_region ?_
  refine m_int rfl rfl ?_
  refine m_sl rfl rfl ?_
  refine o_lens Tryd.underlying74 rfl ?_
  refine b_lss rfl rfl ?_
  refine o_nil ?_
  refine k_cond rfl (fun h => ?_) (fun h => ?_)
  rotate_left
  ·
    obtain rfl : i = vs.length := by omega
    refine k_exit rfl ?_
    refine k_seq ?_
    refine k_region ?_
    refine m_sl rfl rfl ?_
    refine m_sl rfl rfl ?_
    refine o_nil ?_
    refine k_ret (ret_tmps (ts := [4]) (v := .slice _ _ _) rfl rfl ?_)
    rw [List.take_length] at hxs
    subst hxs
    exact ⟨a3, c3, rfl, hS3, hK3, hf3⟩
  have hin : i < vs.length := by omega
  obtain ⟨b1, o1, rfl, _⟩ := hR.at i (by simpa using hin)
  have hR3 := hR.keep hK3 hO
  refine k_skip ?_
  refine k_seq ?_
  refine k_block ?_
  refine k_region ?_
  refine m_sl rfl rfl ?_
  refine m_sl rfl rfl ?_
  refine m_int rfl rfl ?_
  refine o_ixs1 Tryd.underlying74 rfl rfl rfl hin ?_
  refine o_ld rfl rfl (hR3.cellK (Keep.refl _ _) (nv_at vs i hin)) ?_
  refine o_call rfl rfl (rputl_ok w3 2 vs[i] (by decide) (by decide) (hv _ (List.getElem_mem hin))) (fun u w4 hu => ?_)
  obtain ⟨a4, c4, rfl, hS4, hf4, hK4⟩ := hu
  have hl2 : ((leB 2 (vs[i] : Int)).map u8v).length = 2 := by rw [List.length_map, leB_len]
  refine o_app Tryd.underlying25 inf5 rfl (by decide) rfl rfl (hS3.new hK4) hS4.rd (by rw [hl2]) (u8_one _) (by simp [maxLen]; omega) (by omega) (fun a5 c5 w5 hS5 hK5 hv5 => ?_)
  refine m_sl rfl rfl ?_
  refine o_nil ?_
  refine k_blk ?_
  refine k_region ?_
  refine m_int rfl rfl ?_
  refine n_add rfl rfl (by omega) ?_
  refine m_int rfl rfl ?_
  refine o_nil ?_
  have hlen : (xs ++ leB 2 (vs[i] : Int)).length = xs.length + 2 := by rw [List.length_append, leB_len]
  refine k_goal ⟨(i + 1, xs ++ leB 2 (vs[i] : Int), a5, c5), ⟨?_, rfl, rfl, trivial⟩, ⟨by show i + 1 ≤ vs.length; omega, ?_, ?_, ?_, ?_⟩, by show vs.length - (i + 1) < vs.length - i; omega⟩
  · show Value.slice a5 (xs.length + 2) c5 = .slice a5 (xs ++ leB 2 (vs[i] : Int)).length c5
    rw [hlen]
  · show xs ++ leB 2 (vs[i] : Int) = bs ++ putsN 2 (vs.take (i + 1))
    rw [putsN_take 2 vs i hin, ← List.append_assoc, hxs]
  · show Sl w5 5 1 a5 (xs ++ leB 2 (vs[i] : Int)).length c5 ((xs ++ leB 2 (vs[i] : Int)).map u8v)
    rw [hlen, u8m_app]; exact hS5
  · exact (hK3.trans hK4.also (fun b hb _ => hb)).trans hK5 (fun b hb hl => hf3.in hb hl)
  · exact hf3.tr (fresh_of hv5 (Nat.le_refl _)) (by have := hK3.size; have := hK4.size; omega)
theorem rfour_ok (w : World) (al : Option Addr) (cl : Nat) (vs : List Nat) (a : Option Addr) (c : Nat) (bs : Bs) (h : Sl w 5 1 a bs.length c (bs.map u8v)) (hR : Rd w al (vs.map nv)) (hO : Off (blkOf a) al) (hvs : vs.length ≤ 1000) (hbs : bs.length ≤ 1000000000) (hv : ∀ x ∈ vs, x < 9223372036854775808) :
    Ret Tryd.prog 46 [.slice a bs.length c, .slice al vs.length cl] w (fun v w' => ∃ a' c', v = .slice a' (bs ++ putsN 4 vs).length c' ∧ Sl w' 5 1 a' (bs ++ putsN 4 vs).length c' ((bs ++ putsN 4 vs).map u8v) ∧ Keep (blkOf a) w w' ∧ Fresh w.heap.size a a') := by
  refine fn_enter (n := 20) Tryd.func46 rfl rfl (Nat.le_of_ble_eq_true rfl) (fun e => ?_)
  refine k_seq ?_
  refine k_region ?_
  refine m_sl rfl rfl ?_
  refine o_nil ?_
  refine k_seq ?_
  refine k_seq ?_
  refine k_region ?_
  refine m_int rfl rfl ?_
  refine o_nil ?_
  refine k_block ?_
  refine k_loop (σ := Nat × Bs × Option Addr × Nat) (fun z => [(0, .slice z.2.2.1 z.2.1.length z.2.2.2), (1, .slice al vs.length cl), (5, .int .i64 (z.1 : Int))]) (fun z w' => z.1 ≤ vs.length ∧ z.2.1 = bs ++ putsN 4 (vs.take z.1) ∧ Sl w' 5 1 z.2.2.1 z.2.1.length z.2.2.2 (z.2.1.map u8v) ∧ Keep (blkOf a) w w' ∧ Fresh w.heap.size a z.2.2.1) (fun z => vs.length - z.1) (0, bs, a, c) ⟨rfl, rfl, rfl, trivial⟩ ⟨Nat.zero_le _, by rw [List.take_zero, show putsN 4 [] = [] from rfl, List.append_nil], h, Keep.refl _ _, Fresh.refl _ _⟩ (fun z e w3 hJ => ?_)
  obtain ⟨i, xs, a3, c3⟩ := z
  obtain ⟨hi, hxs, hS3, hK3, hf3⟩ := hJ
  change kw _ _ _ _ (ovr [(0, .slice a3 xs.length c3), (1, .slice al vs.length cl), (5, .int .i64 (i : Int))] e) w3
  simp only at hi hxs hS3 hf3
  have hxl : xs.length ≤ 1000100000 := by
   rw [hxs, List.length_append, putsN_len, List.length_take, Nat.min_eq_left (by omega)]
   have : 4 * i ≤ 8 * 1000 := Nat.mul_le_mul (by omega) (by omega)
   omega
  refine k_seq ?_
  refine k_seq ?_
  refine k_region ?_
  refine m_int rfl rfl ?_
  refine m_sl rfl rfl ?_
  refine o_lens Tryd.underlying74 rfl ?_
  refine b_lss rfl rfl ?_
  refine o_nil ?_
  refine k_cond rfl (fun h => ?_) (fun h => ?_)
  rotate_left
  ·
    obtain rfl : i = vs.length := by omega
    refine k_exit rfl ?_
    refine k_seq ?_
    refine k_region ?_
    refine m_sl rfl rfl ?_
    refine m_sl rfl rfl ?_
    refine o_nil ?_
    refine k_ret (ret_tmps (ts := [4]) (v := .slice _ _ _) rfl rfl ?_)
    rw [List.take_length] at hxs
    subst hxs
    exact ⟨a3, c3, rfl, hS3, hK3, hf3⟩
  have hin : i < vs.length := by omega
  obtain ⟨b1, o1, rfl, _⟩ := hR.at i (by simpa using hin)
  have hR3 := hR.keep hK3 hO
  refine k_skip ?_
  refine k_seq ?_
  refine k_block ?_
  refine k_region ?_
  refine m_sl rfl rfl ?_
  refine m_sl rfl rfl ?_
  refine m_int rfl rfl ?_
  refine o_ixs1 Tryd.underlying74 rfl rfl rfl hin ?_
  refine o_ld rfl rfl (hR3.cellK (Keep.refl _ _) (nv_at vs i hin)) ?_
  refine o_call rfl rfl (rputl_ok w3 4 vs[i] (by decide) (by decide) (hv _ (List.getElem_mem hin))) (fun u w4 hu => ?_)
  obtain ⟨a4, c4, rfl, hS4, hf4, hK4⟩ := hu
  have hl2 : ((leB 4 (vs[i] : Int)).map u8v).length = 4 := by rw [List.length_map, leB_len]
  refine o_app Tryd.underlying25 inf5 rfl (by decide) rfl rfl (hS3.new hK4) hS4.rd (by rw [hl2]) (u8_one _) (by simp [maxLen]; omega) (by omega) (fun a5 c5 w5 hS5 hK5 hv5 => ?_)
  refine m_sl rfl rfl ?_
  refine o_nil ?_
  refine k_blk ?_
  refine k_region ?_
  refine m_int rfl rfl ?_
  refine n_add rfl rfl (by omega) ?_
  refine m_int rfl rfl ?_
  refine o_nil ?_
  have hlen : (xs ++ leB 4 (vs[i] : Int)).length = xs.length + 4 := by rw [List.length_append, leB_len]
  refine k_goal ⟨(i + 1, xs ++ leB 4 (vs[i] : Int), a5, c5), ⟨?_, rfl, rfl, trivial⟩, ⟨by show i + 1 ≤ vs.length; omega, ?_, ?_, ?_, ?_⟩, by show vs.length - (i + 1) < vs.length - i; omega⟩
  · show Value.slice a5 (xs.length + 4) c5 = .slice a5 (xs ++ leB 4 (vs[i] : Int)).length c5
    rw [hlen]
  · show xs ++ leB 4 (vs[i] : Int) = bs ++ putsN 4 (vs.take (i + 1))
    rw [putsN_take 4 vs i hin, ← List.append_assoc, hxs]
  · show Sl w5 5 1 a5 (xs ++ leB 4 (vs[i] : Int)).length c5 ((xs ++ leB 4 (vs[i] : Int)).map u8v)
    rw [hlen, u8m_app]; exact hS5
  · exact (hK3.trans hK4.also (fun b hb _ => hb)).trans hK5 (fun b hb hl => hf3.in hb hl)
  · exact hf3.tr (fresh_of hv5 (Nat.le_refl _)) (by have := hK3.size; have := hK4.size; omega)
end Go.Proofs.YtiapgmfooclpcaaDoor

/- Keys that are rows of bytes; slices as arrays. No condition beyond what each lemma names. -/
namespace Go.Proofs.YtiapgmfooclpcaaDoor
open Go.RowKit E
set_option linter.unusedVariables false
set_option linter.unusedSimpArgs false
set_option maxRecDepth 100000
attribute [local irreducible] ow qw kw kq cw opW Ret
abbrev K4 := BitVec 8 × BitVec 8 × BitVec 8 × BitVec 8
abbrev K3 := BitVec 8 × BitVec 8 × BitVec 8
def kv4 (q : K4) : Value := .agg #[.int .u8 (q.1.toNat : Int), .int .u8 (q.2.1.toNat : Int), .int .u8 (q.2.2.1.toNat : Int), .int .u8 (q.2.2.2.toNat : Int)]
def kv3 (q : K3) : Value := .agg #[.int .u8 (q.1.toNat : Int), .int .u8 (q.2.1.toNat : Int), .int .u8 (q.2.2.toNat : Int)]
theorem bv_beq (a b : BitVec 8) : ((a.toNat : Int) == (b.toNat : Int)) = decide (a = b) := by
  by_cases h : a = b
  · subst h; simp
  · have : ¬ (a.toNat : Int) = (b.toNat : Int) := fun e => h (BitVec.eq_of_toNat_eq (by omega))
    rw [decide_eq_false h]
    simpa using this
theorem key_m4 : KeyOk Tryd.prog 95 kv4 := by
  refine key_ask Tryd.underlying95 (fun _ _ => rfl) (fun b x w => by kernel_rfl) (fun x y w => ?_) (fun x => ?_)
  · have e : ∀ d, (Op.equalIn (d + 2) 95 (kv4 x) (kv4 y)).run Tryd.prog w = .ok (decide (x = y)) w := by
      intro d
      have e5 : ∀ a b : BitVec 8, (Op.equalIn (d + 1) 5 (.int .u8 (a.toNat : Int)) (.int .u8 (b.toNat : Int))).run Tryd.prog w = .ok (decide (a = b)) w := fun a b => by rw [← bv_beq]; simp [Op.equalIn, run_underlying Tryd.underlying5]
      obtain ⟨x1, x2, x3, x4⟩ := x
      obtain ⟨y1, y2, y3, y4⟩ := y
      unfold kv4
      rw [Op.equalIn]
      simp [run_underlying Tryd.underlying95, E.run_sizeOf (show szB Tryd.prog 5 1 = true from rfl), part, E.run_isAgg (show aggB Tryd.prog 5 = false from rfl), e5, Std.Legacy.Range.forIn_eq_forIn_range', List.range']
      by_cases h1 : x1 = y1 <;> by_cases h2 : x2 = y2 <;> by_cases h3 : x3 = y3 <;> by_cases h4 : x4 = y4 <;> simp [h1, h2, h3, h4]
    exact e 9998
  · simp [kv4, Instr.sameBits]
theorem key_m3 : KeyOk Tryd.prog 85 kv3 := by
  refine key_ask Tryd.underlying85 (fun _ _ => rfl) (fun b x w => by kernel_rfl) (fun x y w => ?_) (fun x => ?_)
  · have e : ∀ d, (Op.equalIn (d + 2) 85 (kv3 x) (kv3 y)).run Tryd.prog w = .ok (decide (x = y)) w := by
      intro d
      have e5 : ∀ a b : BitVec 8, (Op.equalIn (d + 1) 5 (.int .u8 (a.toNat : Int)) (.int .u8 (b.toNat : Int))).run Tryd.prog w = .ok (decide (a = b)) w := fun a b => by rw [← bv_beq]; simp [Op.equalIn, run_underlying Tryd.underlying5]
      obtain ⟨x1, x2, x3⟩ := x
      obtain ⟨y1, y2, y3⟩ := y
      unfold kv3
      rw [Op.equalIn]
      simp [run_underlying Tryd.underlying85, E.run_sizeOf (show szB Tryd.prog 5 1 = true from rfl), part, E.run_isAgg (show aggB Tryd.prog 5 = false from rfl), e5, Std.Legacy.Range.forIn_eq_forIn_range', List.range']
      by_cases h1 : x1 = y1 <;> by_cases h2 : x2 = y2 <;> by_cases h3 : x3 = y3 <;> simp [h1, h2, h3]
    exact e 9998
  · simp [kv3, Instr.sameBits]
/-- a slice as a pointer to an array -/
theorem o_sarr {P : Program} {n : Nat} {e : Env} {w : World} {l0 l : List Oper} {K : Env → World → Prop} {d : Nat} {T : TypeId} {pos : String} {af : Array Edge} {x : Operand} {AT E : TypeId} {k len cap : Nat} {a : Option Addr} (hu : P.underlying AT = some (.array k E)) (hx : ev n e x = .slice a len cap) (hl : k ≤ len)
    (h : ow P n l0 K l (upd e d (.pointer a)) w) : ow P n l0 K (⟨some d, .sliceToArrayPointer AT x, T, pos, af, none⟩ :: l) e w := by
  refine o_run (v := .pointer a) (w' := w) ?_ h
  have : ¬ len < k := by omega
  simp [execOp, hx, Instr.arrayAt, run_underlying hu, this]
end Go.Proofs.YtiapgmfooclpcaaDoor

/- The book of an archive: kinds, is, num. No condition beyond what each contract names. -/
namespace Go.Proofs.YtiapgmfooclpcaaDoor
open Go.RowKit E
set_option linter.unusedVariables false
set_option linter.unusedSimpArgs false
set_option maxRecDepth 100000
attribute [local irreducible] ow qw kw kq cw opW Ret
def mE : K4 := (0x50#8, 0x4b#8, 5#8, 6#8)
def mC : K4 := (0x50#8, 0x4b#8, 1#8, 2#8)
def mL : K4 := (0x50#8, 0x4b#8, 3#8, 4#8)
def kd (q : K4) : BitVec 8 := if q = mE then 1#8 else if q = mC then 2#8 else if q = mL then 3#8 else 0#8
/-- what was put so far -/
def kdP (dE dC dL : Bool) (q : K4) : Option Value := if q = mE then (if dE then some (.int .u8 1) else none) else if q = mC then (if dC then some (.int .u8 2) else none) else if q = mL then (if dL then some (.int .u8 3) else none) else none
def KdG (wS : World) (D : Nat → Bool) (e : Env) (w : World) : Prop :=
  Keep [] wS w ∧ (D 0 = true → ∃ r m, e 1 = .map (some r) ∧ wS.heap.size ≤ r ∧ Mp w r kv4 m ∧ ∀ q, getM m q = kdP (D 2) (D 4) (D 6) q)
def KdM (w : World) (r : Nat) : Prop := ∃ m, Mp w r kv4 m ∧ ∀ q, getM m q = kdP true true true q
theorem kd_put {m : List (K4 × Value)} {dE dC dL : Bool} (h : ∀ q, getM m q = kdP dE dC dL q) :
    (∀ q, getM (putM m mE (.int .u8 1)) q = kdP true dC dL q) ∧ (∀ q, getM (putM m mC (.int .u8 2)) q = kdP dE true dL q) ∧ (∀ q, getM (putM m mL (.int .u8 3)) q = kdP dE dC true q) := by
  have h1 : mC ≠ mE := by decide
  have h2 : mL ≠ mE := by decide
  have h3 : mL ≠ mC := by decide
  refine ⟨fun q => ?_, fun q => ?_, fun q => ?_⟩
  · rw [getM_put, h]; unfold kdP
    by_cases e : q = mE
    · rw [if_pos e, if_pos e]; rfl
    · rw [if_neg e, if_neg e, if_neg e]
  · rw [getM_put, h]; unfold kdP
    by_cases e : q = mC
    · subst e; rw [if_pos rfl, if_neg h1, if_pos rfl]; rfl
    · rw [if_neg e, if_neg e, if_neg e]
  · rw [getM_put, h]; unfold kdP
    by_cases e : q = mL
    · subst e; rw [if_pos rfl, if_neg h2, if_neg h3, if_pos rfl]; rfl
    · rw [if_neg e, if_neg e, if_neg e]
theorem kinds_ok (w : World) : Ret Tryd.prog 17 [] w (fun v w' => ∃ r, v = .map (some r) ∧ w.heap.size ≤ r ∧ KdM w' r ∧ Keep [] w w') := by
  refine fn_enter (n := 6) Tryd.func17 rfl rfl (Nat.le_of_ble_eq_true rfl) (fun e => ?_)
  refine k_seq ?_
  refine k_region ?_
  refine m_map rfl rfl ?_
  refine o_nil ?_
  refine k_seq ?_
  refine k_anyE 7 (fun _ _ => True) (fun iA => match iA with
      | 0 => fun v w => True
      | 1 => fun v w => v = kv4 mE
      | 2 => fun v w => True
      | 3 => fun v w => v = kv4 mC
      | 4 => fun v w => True
      | 5 => fun v w => v = kv4 mL
      | 6 => fun v w => True
      | _ => fun v w => True) (KdG w) rfl rfl rfl rfl (fun _ => trivial) (fun _ _ _ _ _ => trivial) ?_ (⟨(Keep.refl [] w).drew, fun h => by cases h⟩) ?_ ?_
  · intro iA v w w' h hL
    match iA, h with
    | 0, h =>
      exact h
    | 1, h =>
      exact h
    | 2, h =>
      exact h
    | 3, h =>
      exact h
    | 4, h =>
      exact h
    | 5, h =>
      exact h
    | 6, h =>
      exact h
    | _ + 7, h => trivial
  · intro iA o him hl D eA wA hDi hdp hSh hG hL hA hD
    match iA, him, hl with
    | 0, _, hl =>
      obtain rfl := Option.some.inj hl
      refine o_gen [] trivial (fun e2 => ?_)
      refine o_mkmap kv4 (fun r w6 hM6 hK6 hb6 hZ6 => ?_)
      have hno : ∀ i : Nat, i = 2 ∨ i = 4 ∨ i = 6 → D i = false := fun i hi => by
       cases hd : D i with
       | false => rfl
       | true =>
        rcases hi with rfl | rfl | rfl
        · exact absurd (hSh 2 _ rfl hd 0 (by decide)) (by rw [hDi]; decide)
        · exact absurd (hSh 4 _ rfl hd 0 (by decide)) (by rw [hDi]; decide)
        · exact absurd (hSh 6 _ rfl hd 0 (by decide)) (by rw [hDi]; decide)
      refine o_nil ⟨trivial, trivial, hG.1.tr hK6, fun _ => ⟨r, [], rfl, by have := hG.1.size; omega, hM6, fun q => ?_⟩⟩
      show getM [] q = kdP (D 2) (D 4) (D 6) q
      rw [hno 2 (by simp), hno 4 (by simp), hno 6 (by simp), getM_nil]
      unfold kdP
      by_cases h1 : q = mE
      · rw [if_pos h1]; rfl
      · rw [if_neg h1]
        by_cases h2 : q = mC
        · rw [if_pos h2]; rfl
        · rw [if_neg h2]
          by_cases h3 : q = mL
          · rw [if_pos h3]; rfl
          · rw [if_neg h3]
    | 1, _, hl =>
      obtain rfl := Option.some.inj hl
      refine o_gen [] trivial (fun e2 => ?_)
      refine o_build (v := kv4 mE) rfl (fun _ => by kernel_rfl) ?_
      exact o_nil ⟨trivial, rfl, hG.1, hG.2⟩
    | 2, _, hl =>
      obtain rfl := Option.some.inj hl
      obtain ⟨r, m, hr, hrl, hM, hm⟩ := hG.2 (hdp 0 (by decide))
      refine o_gen [(1, .map (some r)), (2, kv4 mE)] ⟨hr, hD 1 (by decide) 2 rfl, trivial⟩ (fun e2 => ?_)
      refine o_mput Tryd.underlying50 key_m4 rfl rfl rfl hM (.inr rfl) (fun w6 hM6 hK6 hZ6 => ?_)
      exact o_nil ⟨trivial, trivial, hG.1.tr1 hK6 hrl, fun _ => ⟨r, _, hr, hrl, hM6, (kd_put hm).1⟩⟩
    | 3, _, hl =>
      obtain rfl := Option.some.inj hl
      refine o_gen [] trivial (fun e2 => ?_)
      refine o_build (v := kv4 mC) rfl (fun _ => by kernel_rfl) ?_
      exact o_nil ⟨trivial, rfl, hG.1, hG.2⟩
    | 4, _, hl =>
      obtain rfl := Option.some.inj hl
      obtain ⟨r, m, hr, hrl, hM, hm⟩ := hG.2 (hdp 0 (by decide))
      refine o_gen [(1, .map (some r)), (3, kv4 mC)] ⟨hr, hD 3 (by decide) 3 rfl, trivial⟩ (fun e2 => ?_)
      refine o_mput Tryd.underlying50 key_m4 rfl rfl rfl hM (.inr rfl) (fun w6 hM6 hK6 hZ6 => ?_)
      exact o_nil ⟨trivial, trivial, hG.1.tr1 hK6 hrl, fun _ => ⟨r, _, hr, hrl, hM6, (kd_put hm).2.1⟩⟩
    | 5, _, hl =>
      obtain rfl := Option.some.inj hl
      refine o_gen [] trivial (fun e2 => ?_)
      refine o_build (v := kv4 mL) rfl (fun _ => by kernel_rfl) ?_
      exact o_nil ⟨trivial, rfl, hG.1, hG.2⟩
    | 6, _, hl =>
      obtain rfl := Option.some.inj hl
      obtain ⟨r, m, hr, hrl, hM, hm⟩ := hG.2 (hdp 0 (by decide))
      refine o_gen [(1, .map (some r)), (4, kv4 mL)] ⟨hr, hD 5 (by decide) 4 rfl, trivial⟩ (fun e2 => ?_)
      refine o_mput Tryd.underlying50 key_m4 rfl rfl rfl hM (.inr rfl) (fun w6 hM6 hK6 hZ6 => ?_)
      exact o_nil ⟨trivial, trivial, hG.1.tr1 hK6 hrl, fun _ => ⟨r, _, hr, hrl, hM6, (kd_put hm).2.2⟩⟩
    | _ + 7, him, _ => exact absurd him (by omega)
  intro D eA wA hAll hG hL hA hV
  obtain ⟨r, m, hr, hrl, hM, hm⟩ := hG.2 (hAll 0 (by decide) (by decide))
  rw [hAll 2 (by decide) (by decide), hAll 4 (by decide) (by decide), hAll 6 (by decide) (by decide)] at hm
  refine o_gen [(1, .map (some r))] ⟨hr, trivial⟩ (fun e3 => ?_)
  refine m_map rfl rfl ?_
  refine m_map rfl rfl ?_
  refine o_nil ?_
  refine k_ret (ret_tmps (ts := [0]) (v := .map _) rfl rfl ?_)
  exact ⟨r, rfl, hrl, ⟨m, hM, hm⟩, hG.1⟩
def q4 (bs : Bs) (p : Nat) : K4 := (bs.getD p 0#8, bs.getD (p + 1) 0#8, bs.getD (p + 2) 0#8, bs.getD (p + 3) 0#8)
theorem kd_get {m : List (K4 × Value)} (h : ∀ q, getM m q = kdP true true true q) (q : K4) : (getM m q).getD (.int .u8 0) = .int .u8 ((kd q).toNat : Int) := by
  rw [h]
  unfold kdP kd
  by_cases h1 : q = mE
  · rw [if_pos h1, if_pos h1]; rfl
  · rw [if_neg h1, if_neg h1]
    by_cases h2 : q = mC
    · rw [if_pos h2, if_pos h2]; rfl
    · rw [if_neg h2, if_neg h2]
      by_cases h3 : q = mL
      · rw [if_pos h3, if_pos h3]; rfl
      · rw [if_neg h3, if_neg h3]; rfl
/-- a book in memory, below a bound -/
def BookP (H : Nat) (w : World) (kb : Nat) (bs : Bs) : Prop :=
  ∃ a c rm, Blk w kb #[.slice a bs.length c, .map (some rm)] 53 ∧ Rd w a (bs.map u8v) ∧ bs.length ≤ c ∧ bs.length ≤ 65536 ∧ KdM w rm ∧ kb < H ∧ rm < H ∧ (bs ≠ [] → ∀ q, a = some q → q.block < H)
theorem KdM.keep {S : List Nat} {w w' : World} {r : Nat} (h : KdM w r) (hk : Keep S w w') (hS : r ∉ S) : KdM w' r := by
  obtain ⟨m, h1, h2⟩ := h
  exact ⟨m, h1.keep hk hS, h2⟩
theorem BookP.high {H : Nat} {S : List Nat} {w w' : World} {kb : Nat} {bs : Bs} (h : BookP H w kb bs) (hk : Keep S w w') (hS : ∀ b ∈ S, H ≤ b) : BookP H w' kb bs := by
  obtain ⟨a, c, rm, h1, h2, h3, h4, h5, h6, h7, h8⟩ := h
  refine ⟨a, c, rm, h1.keep hk (fun hm => by have := hS _ hm; omega), ?_, h3, h4, h5.keep hk (fun hm => by have := hS _ hm; omega), h6, h7, h8⟩
  refine h2.keepN hk (fun hn q hq hm => ?_)
  have := h8 (fun e => hn (by rw [e]; rfl)) q hq
  have := hS _ hm
  omega
theorem BookP.new {H : Nat} {w w' : World} {kb : Nat} {bs : Bs} (h : BookP H w kb bs) (hk : Keep [] w w') : BookP H w' kb bs := h.high hk (by simp)
theorem inf55 : infB Tryd.prog 55 1 1 (.int .u8 0) := ⟨_, rfl, rfl, rfl, rfl⟩
theorem cut_some (b o p c : Nat) (h : c ≠ p) : cutAt (some ⟨b, o, none⟩) p c 1 = some ⟨b, o + p, none⟩ := by
  unfold cutAt
  rw [if_neg h, Nat.mul_one]
  exact congrArg some (Addr.add_lit b o p)
theorem getD_lt (bs : Bs) (i : Nat) (h : i < bs.length) : bs.getD i 0#8 = bs[i] := by rw [List.getD_eq_getElem?_getD, List.getElem?_eq_getElem h]; rfl
theorem is_ok (H : Nat) (w : World) (kb : Nat) (bs : Bs) (what : BitVec 8) (p nn bd : Nat) (h : BookP H w kb bs) (hn : 4 ≤ nn) (hn2 : nn ≤ 1000) (hb : bd ≤ bs.length) (hp : p ≤ 9000000000) :
    Ret Tryd.prog 18 [.pointer (some ⟨kb, 0, none⟩), .int .u8 (what.toNat : Int), .int .i64 (p : Int), .int .i64 (nn : Int), .int .i64 (bd : Int)] w (fun v w' => v = .bool (decide (p + nn ≤ bd ∧ kd (q4 bs p) = what)) ∧ Keep [] w w') := by
  obtain ⟨a, c, rm, hB, hR, hc, h65, hM, _, _, _⟩ := h
  refine fn_enter (n := 39) Tryd.func18 rfl rfl (Nat.le_of_ble_eq_true rfl) (fun e => ?_)
  refine k_seq ?_
  refine k_region ?_
  refine m_bool rfl rfl ?_
  refine o_nil ?_
  refine k_seq ?_
  refine k_qk 26 rfl rfl rfl rfl rfl ?_
  refine q_step (fun w1 hC => m_int rfl rfl (o_nil ⟨rfl, hC⟩)) ?_
  refine q_step (fun w1 hC => b_geq rfl rfl (o_nil ⟨rfl, hC⟩)) ?_
  refine q_step (fun w1 hC => m_bool rfl rfl (o_nil ⟨rfl, hC⟩)) ?_
  refine q_true (t := 13) rfl ((by omega)) ?_
  refine q_step (fun w1 hC => g_yes rfl rfl (m_int rfl rfl (o_nil ⟨rfl, hC⟩))) ?_
  refine q_step (fun w1 hC => g_yes rfl rfl (m_int rfl rfl (o_nil ⟨rfl, hC⟩))) ?_
  refine q_step (fun w1 hC => g_yes rfl rfl (m_int rfl rfl (o_nil ⟨rfl, hC⟩))) ?_
  refine q_step (fun w1 hC => g_yes rfl rfl (n_sub rfl rfl (by omega) (o_nil ⟨rfl, hC⟩))) ?_
  refine q_step (fun w1 hC => g_yes rfl rfl (b_leq rfl rfl (o_nil ⟨rfl, hC⟩))) ?_
  refine q_step (fun w1 hC => pick_t rfl rfl (o_nil ⟨rfl, hC⟩)) ?_
  refine q_step (fun w1 hC => m_bool rfl rfl (o_nil ⟨rfl, hC⟩)) ?_
  refine q_split (t := 20) rfl (fun h => ?_) (fun h => ?_)
  ·
    have h20 : p + nn ≤ bd := by omega
    have hpl : p + 4 ≤ bs.length := by omega
    obtain ⟨b0, o0, rfl, _⟩ := hR.at p (by simp; omega)
    have hc3 : c - p ≠ 0 := by omega
    refine q_step (fun w1 hC => g_yes rfl rfl (m_ptr rfl rfl (o_nil ⟨rfl, hC⟩))) ?_
    refine q_step (fun w1 hC => g_yes rfl rfl (o_nilc rfl (o_nil ⟨rfl, hC⟩))) ?_
    refine q_step (fun w1 hC => g_yes rfl rfl (o_fld (off := 1) rfl rfl (o_nil ⟨rfl, hC⟩))) ?_
    refine q_step (fun w1 hC => g_yes rfl rfl (o_ld rfl rfl (hB.kat hC rfl) (o_nil ⟨rfl, hC⟩))) ?_
    refine q_step (fun w1 hC => g_yes rfl rfl (m_ptr rfl rfl (o_nil ⟨rfl, hC⟩))) ?_
    refine q_step (fun w1 hC => g_yes rfl rfl (o_nilc rfl (o_nil ⟨rfl, hC⟩))) ?_
    refine q_step (fun w1 hC => g_yes rfl rfl (o_fld0 rfl rfl (o_nil ⟨rfl, hC⟩))) ?_
    refine q_step (fun w1 hC => g_yes rfl rfl (o_ld rfl rfl (hB.kat hC rfl) (o_nil ⟨rfl, hC⟩))) ?_
    refine q_step (fun w1 hC => g_yes rfl rfl (m_int rfl rfl (o_nil ⟨rfl, hC⟩))) ?_
    refine q_step (fun w1 hC => g_yes rfl rfl (m_int rfl rfl (o_nil ⟨rfl, hC⟩))) ?_
    refine q_step (fun w1 hC => g_yes rfl rfl (n_add rfl rfl (by omega) (o_nil ⟨congrArg (fun x => upd _ 31 (Value.int .i64 x)) (show (p : Int) + 4 = ((p + 4 : Nat) : Int) by omega), hC⟩))) ?_
    refine q_step (fun w1 hC => g_yes rfl rfl (o_sllh (sz := 1) (lo := p) (hi := p + 4) Tryd.underlying25 rfl rfl rfl rfl (by omega) (by omega) (o_nil ⟨rfl, hC⟩))) ?_
    refine q_step (fun w1 hC => g_yes rfl rfl (o_sarr Tryd.underlying95 rfl (by omega) (o_nil ⟨congrArg (fun x => upd _ 33 (Value.pointer x)) (cut_some b0 o0 p c (by omega)), hC⟩))) ?_
    refine q_step (fun w1 hC => g_yes rfl rfl (o_lda (xs := [.int .u8 ((bs.getD p 0#8).toNat : Int), .int .u8 ((bs.getD (p + 1) 0#8).toNat : Int), .int .u8 ((bs.getD (p + 2) 0#8).toNat : Int), .int .u8 ((bs.getD (p + 3) 0#8).toNat : Int)]) rfl rfl rfl (fun j v hj => by
      have hk : ∀ i, i < 4 → w1.cell? ⟨b0, o0 + p + i, none⟩ = some (.int .u8 ((bs.getD (p + i) 0#8).toNat : Int)) := fun i hi => by
       have h9 := hR.cellK hC (u8_at bs (p + i) (by omega))
       rw [getD_lt bs (p + i) (by omega), Nat.add_assoc]
       exact h9
      match j, hj with
      | 0, hj => cases hj; exact hk 0 (by omega)
      | 1, hj => cases hj; exact hk 1 (by omega)
      | 2, hj => cases hj; exact hk 2 (by omega)
      | 3, hj => cases hj; exact hk 3 (by omega)
      | _ + 4, hj => cases hj) (o_nil ⟨rfl, hC⟩))) ?_
    obtain ⟨m, hMp, hm⟩ := hM
    refine q_step (fun w1 hC => g_yes rfl rfl (o_look (kv := kv4) (q := q4 bs p) (v := .int .u8 ((kd (q4 bs p)).toNat : Int)) Tryd.underlying50 key_m4 inf55 rfl rfl (hMp.keep hC (by simp)) (kd_get hm (q4 bs p)) (o_nil ⟨rfl, hC⟩))) ?_
    refine q_step (fun w1 hC => g_yes rfl rfl (m_int rfl rfl (o_nil ⟨rfl, hC⟩))) ?_
    refine q_nil ?_
    intro w2 hC2
    refine g_yes rfl rfl ?_
    refine v8_eql rfl rfl ?_
    refine pick_t rfl rfl ?_
    refine m_bool rfl rfl ?_
    refine o_nil ?_
    refine k_ret (ret_tmps (ts := [10]) (v := .bool _) rfl rfl ?_)
    exact ⟨congrArg Value.bool (decide_eq_decide.2 ⟨fun hh => ⟨h20, hh⟩, fun hh => hh.2⟩), hC2⟩
  ·
    refine q_step (v := undef) (fun w1 hC => g_no rfl rfl rfl (o_nil ⟨rfl, hC⟩)) ?_
    refine q_step (v := undef) (fun w1 hC => g_no rfl rfl rfl (o_nil ⟨rfl, hC⟩)) ?_
    refine q_step (v := undef) (fun w1 hC => g_no rfl rfl rfl (o_nil ⟨rfl, hC⟩)) ?_
    refine q_step (v := undef) (fun w1 hC => g_no rfl rfl rfl (o_nil ⟨rfl, hC⟩)) ?_
    refine q_step (v := undef) (fun w1 hC => g_no rfl rfl rfl (o_nil ⟨rfl, hC⟩)) ?_
    refine q_step (v := undef) (fun w1 hC => g_no rfl rfl rfl (o_nil ⟨rfl, hC⟩)) ?_
    refine q_step (v := undef) (fun w1 hC => g_no rfl rfl rfl (o_nil ⟨rfl, hC⟩)) ?_
    refine q_step (v := undef) (fun w1 hC => g_no rfl rfl rfl (o_nil ⟨rfl, hC⟩)) ?_
    refine q_step (v := undef) (fun w1 hC => g_no rfl rfl rfl (o_nil ⟨rfl, hC⟩)) ?_
    refine q_step (v := undef) (fun w1 hC => g_no rfl rfl rfl (o_nil ⟨rfl, hC⟩)) ?_
    refine q_step (v := undef) (fun w1 hC => g_no rfl rfl rfl (o_nil ⟨rfl, hC⟩)) ?_
    refine q_step (v := undef) (fun w1 hC => g_no rfl rfl rfl (o_nil ⟨rfl, hC⟩)) ?_
    refine q_step (v := undef) (fun w1 hC => g_no rfl rfl rfl (o_nil ⟨rfl, hC⟩)) ?_
    refine q_step (v := undef) (fun w1 hC => g_no rfl rfl rfl (o_nil ⟨rfl, hC⟩)) ?_
    refine q_step (v := undef) (fun w1 hC => g_no rfl rfl rfl (o_nil ⟨rfl, hC⟩)) ?_
    refine q_step (v := undef) (fun w1 hC => g_no rfl rfl rfl (o_nil ⟨rfl, hC⟩)) ?_
    refine q_nil ?_
    intro w2 hC2
    refine g_no rfl rfl rfl ?_
    refine pick_f rfl rfl ?_
    refine m_bool rfl rfl ?_
    refine o_nil ?_
    refine k_ret (ret_tmps (ts := [10]) (v := .bool _) rfl rfl ?_)
    exact ⟨congrArg Value.bool (decide_eq_false (fun hh => by omega)).symm, hC2⟩
theorem num_ok (H : Nat) (w : World) (kb : Nat) (bs : Bs) (p n : Nat) (h : BookP H w kb bs) (h1 : 1 ≤ n) (h4 : n ≤ 7) :
    Ret Tryd.prog 19 [.pointer (some ⟨kb, 0, none⟩), .int .i64 (p : Int), .int .i64 (n : Int)] w (fun v w' => v = .int .i64 (if bs.length < p + n then -1 else (rdN bs p n : Int)) ∧ w' = w) := by
  obtain ⟨a, c, rm, hB, hR, hc, h65, hM, _, _, _⟩ := h
  refine fn_enter (n := 22) Tryd.func19 rfl rfl (Nat.le_of_ble_eq_true rfl) (fun e => ?_)
  refine k_seq ?_
  refine k_region ?_
  refine m_int rfl rfl ?_
  refine o_nil ?_
  refine k_seq ?_
  refine k_region ?_
  refine m_ptr rfl rfl ?_
  refine o_nilc rfl ?_
  refine o_fld0 rfl rfl ?_
  refine o_ld rfl rfl (hB.at rfl) ?_
  refine m_int rfl rfl ?_
  refine m_int rfl rfl ?_
  refine o_call rfl rfl (little_ok w a c p n bs hR h1 h4 (by omega)) (fun v w1 hv => ?_)
  obtain ⟨rfl, hw1⟩ := hv
  subst hw1
  have he : (if bs.length < p + n then #[Value.int .i64 0, .int .i64 2] else #[.int .i64 (rdN bs p n : Int), .int .i64 0]) = #[.int .i64 (if bs.length < p + n then 0 else (rdN bs p n : Int)), .int .i64 (if bs.length < p + n then 2 else 0)] := by split <;> rfl
  rw [he]
  refine m_any rfl rfl ?_
  refine o_extr (vs := [.int .i64 (if bs.length < p + n then 0 else (rdN bs p n : Int)), .int .i64 (if bs.length < p + n then 2 else 0)]) rfl rfl ?_
  refine o_extr (vs := [.int .i64 (if bs.length < p + n then 0 else (rdN bs p n : Int)), .int .i64 (if bs.length < p + n then 2 else 0)]) rfl rfl ?_
  refine m_int rfl rfl ?_
  refine m_int rfl rfl ?_
  refine o_nil ?_
  refine k_seq ?_
  refine k_seq ?_
  refine k_region ?_
  refine m_int rfl rfl ?_
  refine b_neq rfl rfl ?_
  refine o_nil ?_
  refine k_cond (p := bs.length < p + n) (by show Value.bool (decide ((if bs.length < p + n then (2 : Int) else 0) ≠ 0)) = _; by_cases h : bs.length < p + n <;> simp [h]) (fun h => ?_) (fun h => ?_)
  ·
    refine k_seq ?_
    refine k_region ?_
    refine m_int rfl rfl ?_
    refine o_nil ?_
    refine k_ret (ret_tmps (ts := [6]) (v := .int _ _) rfl rfl ?_)
    exact ⟨by rw [if_pos h], rfl⟩
  refine k_skip ?_
  refine k_seq ?_
  refine k_region ?_
  refine m_int rfl rfl ?_
  refine m_int rfl rfl ?_
  refine o_nil ?_
  refine k_ret (ret_tmps (ts := [6]) (v := .int _ _) rfl rfl ?_)
  exact ⟨by rw [if_neg h, if_neg h], rfl⟩
end Go.Proofs.YtiapgmfooclpcaaDoor
